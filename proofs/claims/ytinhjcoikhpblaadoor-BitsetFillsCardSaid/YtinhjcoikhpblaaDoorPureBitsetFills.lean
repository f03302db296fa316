/-
  BitsetFills, over lists: it answers true. Condition: the words are from 0 to 2^64 - 1.
-/
import Derived.Test.YtinhjcoikhpblaaDoorVc2
import Derived.Test.YtinhjcoikhpblaaDoorVawake
import Derived.Test.YtinhjcoikhpblaaDoorQ205
namespace Go.Proofs.YtinhjcoikhpblaaDoor.V
open Go.Proofs.YtinhjcoikhpblaaDoor.Q
open Go.RowKit Go.Proofs.YtinhjcoikhpblaaDoorW.PrintWords Go.Proofs.YtinhjcoikhpblaaDoorW.PrintLast Go.Proofs.YtinhjcoikhpblaaDoorW.PrintMore
theorem bitsetFills_ev (n : Int) {l : List Int} (hw : wfs l) (a b : Int) (on : Bool) : Ev (fun k => estoverslaw01_BitsetFills.f k n l a b on) true := by
  obtain ⟨m, r, e, c1, c2, _, _, c4⟩ := fill_ev n hw a b on
  unfold estoverslaw01_BitsetFills.f
  refine Ev.bind awake_ev ?_
  refine Ev.congr (fun k => if_pos rfl) ?_
  refine Ev.bind c1 ?_
  refine Ev.bind c2 ?_
  refine Ev.congr (fun k => if_pos rfl) ?_
  exact Ev.bind (same_ev m r (by omega)) (Ev.now _)
end Go.Proofs.YtinhjcoikhpblaaDoor.V
