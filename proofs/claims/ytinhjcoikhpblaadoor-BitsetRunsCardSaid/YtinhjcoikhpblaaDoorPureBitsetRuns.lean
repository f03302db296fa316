/-
  BitsetRuns, over lists: it answers true. Conditions: the words are from 0 to 2^64 - 1; the numbers are of their kind.
-/
import Derived.Test.YtinhjcoikhpblaaDoorVh
import Derived.Test.YtinhjcoikhpblaaDoorVawake
import Derived.Test.YtinhjcoikhpblaaDoorQ207
namespace Go.Proofs.YtinhjcoikhpblaaDoor.V
open Go.Proofs.YtinhjcoikhpblaaDoor.Q
open Go.RowKit Go.Proofs.YtinhjcoikhpblaaDoorW.PrintWords Go.Proofs.YtinhjcoikhpblaaDoorW.PrintLast Go.Proofs.YtinhjcoikhpblaaDoorW.PrintMore
theorem bitsetRuns_ev (n : Int) {l : List Int} (hw : wfs l) (c al : Int) (hal : (Lit.int .i64 al).wf = true) (on : Bool) : Ev (fun k => estoverslaw01_BitsetRuns.f k n l c al on) true := by
  have h : al < 9223372036854775808 := by
    simp [Lit.wf, IntKind.min, IntKind.max, IntKind.signed, IntKind.bits] at hal
    omega
  obtain ⟨v, f1, f2⟩ := findRun_ev n hw c al h on
  unfold estoverslaw01_BitsetRuns.f
  refine Ev.bind awake_ev ?_
  refine Ev.congr (fun k => if_pos rfl) ?_
  refine Ev.bind f1 ?_
  refine Ev.bind f2 ?_
  exact Ev.none_k fun k => by simp
end Go.Proofs.YtinhjcoikhpblaaDoor.V
