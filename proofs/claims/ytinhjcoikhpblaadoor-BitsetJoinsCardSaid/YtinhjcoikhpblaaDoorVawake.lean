/-
  The fixed example of every statement holds.
-/
import Derived.Test.YtinhjcoikhpblaaDoorQ202
import Derived.Test.YtinhjcoikhpblaaDoorVa
namespace Go.Proofs.YtinhjcoikhpblaaDoor.V
open Go.Proofs.YtinhjcoikhpblaaDoor.Q
open Go.RowKit Go.Proofs.YtinhjcoikhpblaaDoorW.PrintWords Go.Proofs.YtinhjcoikhpblaaDoorW.PrintLast Go.Proofs.YtinhjcoikhpblaaDoorW.PrintMore
theorem awake_ev : Ev (fun k => estoverslaw01_awake.f k) true := Ev.of (fun k => estoverslaw01_awake.mono k) (k := 40) (by decide +kernel)
end Go.Proofs.YtinhjcoikhpblaaDoor.V
