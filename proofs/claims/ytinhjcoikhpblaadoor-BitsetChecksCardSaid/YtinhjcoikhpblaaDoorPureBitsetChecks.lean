/-
  BitsetChecks, over lists: it answers true. Condition: the words are from 0 to 2^64 - 1.
-/
import Derived.Test.YtinhjcoikhpblaaDoorVb
import Derived.Test.YtinhjcoikhpblaaDoorVawake
import Derived.Test.YtinhjcoikhpblaaDoorQ203
namespace Go.Proofs.YtinhjcoikhpblaaDoor.V
open Go.Proofs.YtinhjcoikhpblaaDoor.Q
open Go.RowKit Go.Proofs.YtinhjcoikhpblaaDoorW.PrintWords Go.Proofs.YtinhjcoikhpblaaDoorW.PrintLast Go.Proofs.YtinhjcoikhpblaaDoorW.PrintMore
theorem bitsetChecks_ev (n : Int) {l : List Int} (hw : wfs l) (i : Int) : Ev (fun k => estoverslaw01_BitsetChecks.f k n l i) true := by
  obtain ⟨a, r, e, c1, c2, c3⟩ := new_ev i
  obtain ⟨e', d1, d2, _⟩ := check_ev n hw
  unfold estoverslaw01_BitsetChecks.f
  refine Ev.bind awake_ev ?_
  refine Ev.congr (fun k => if_pos rfl) ?_
  refine Ev.bind c1 ?_
  refine Ev.bind c2 ?_
  refine Ev.bind d1 ?_
  refine Ev.bind d2 ?_
  refine Ev.congr (fun k => (if_pos rfl).trans (if_pos rfl)) ?_
  exact Ev.bind (same_ev a r c3) (Ev.now _)
end Go.Proofs.YtinhjcoikhpblaaDoor.V
