-- Of the words that print.sh printed for this seat: those that this claim reaches (wip/trim.py).
import Derived.Test.YtinhjcoikhpblaaDoorWWords
import Derived.Laws.StructEq
/-! ### 53. '==' of structs as_ one Bool -/
namespace Go.Proofs.YtinhjcoikhpblaaDoorW.PrintWords
open Go.RowKit
section
variable {P : Program} {d : Nat} {xs ys : Array Value} {f : Field} {fs : List Field} {a b : Value} {r s : Bool} {w : World}
end
end Go.Proofs.YtinhjcoikhpblaaDoorW.PrintWords
