-- Of the words that print.sh printed for this seat: those that this claim reaches (wip/trim.py).
import Derived.Test.YtinhjcoikhpblaaDoorWTab
/-! ### 56. Four, five, six operations that may come up next, in any order -/
namespace Go.Proofs.YtinhjcoikhpblaaDoorW.PrintLast
section
variable {P : Program} {ops : Array Oper} {Q : Exit → Act → World → Prop} {md : Region.Mode} {S : World → Prop} {ds : List Nat} {T : Bool × List (List Nat × List Nat)}
end
end Go.Proofs.YtinhjcoikhpblaaDoorW.PrintLast
