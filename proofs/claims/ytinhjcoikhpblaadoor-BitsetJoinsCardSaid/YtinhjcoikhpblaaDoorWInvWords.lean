-- Of the words that print.sh printed for this seat: those that this claim reaches (wip/trim.py).
import Derived.Test.YtinhjcoikhpblaaDoorWInv
import Derived.Test.YtinhjcoikhpblaaDoorWFootNe
namespace Go.Proofs.YtinhjcoikhpblaaDoorW.PrintWords
open Go.RowKit
end Go.Proofs.YtinhjcoikhpblaaDoorW.PrintWords
namespace Go.Proofs.YtinhjcoikhpblaaDoorW.PrintLast
section
variable {ops : Array Oper} {a : Act} {o og : Oper} {g : Nat} {t : Tmp} {u : Bool}
end
end Go.Proofs.YtinhjcoikhpblaaDoorW.PrintLast
