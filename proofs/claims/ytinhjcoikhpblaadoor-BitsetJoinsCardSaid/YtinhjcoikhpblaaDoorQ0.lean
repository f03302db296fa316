-- Written by wip/stubprint.py for this claim. Lean checks it.
import Derived.Test.YtinhjcoikhpblaaDoorProg
import Derived.Below
import Derived.Deep.Draws
import Derived.Deep.AppendLies
import Derived.Maps.AppendAt
import Derived.OwnWalk
import Derived.Laws.BytesArg
import Derived.Laws.MakeOwn
import Derived.Laws.OwnMore
import Derived.Deep.OwnRows
import Derived.Tactics
import Derived.Lib.ConvBytes
import Derived.Laws.Slices
import Derived.WalkKit
import Derived.KernelRfl
import Derived.RowKit3
import Derived.Deep.LoopGhost
import Derived.Deep.QuietTactic
import Derived.BigQuiet
import Derived.WideLaws
import Derived.Deep.DeepCutAuto
import Derived.Deep.CutBlock
import Derived.Deep.RegionHeld3
import Derived.Laws.Rows
import Derived.Lib.AppendStr
import Derived.ArgAppend
import Derived.Laws.IdiomCopy
import Derived.OrdersHeld
import Derived.Laws.BitsLemmas
import Derived.RowKit
import Derived.WalkMore
import Derived.Test.YtinhjcoikhpblaaDoorWWords
import Derived.Test.YtinhjcoikhpblaaDoorWLast
import Derived.Test.YtinhjcoikhpblaaDoorWTab
import Derived.Test.YtinhjcoikhpblaaDoorWFour
import Derived.Test.YtinhjcoikhpblaaDoorWQPut
import Derived.Test.YtinhjcoikhpblaaDoorWApart
import Derived.Test.YtinhjcoikhpblaaDoorWArr
import Derived.Test.YtinhjcoikhpblaaDoorWZeros
import Derived.Test.YtinhjcoikhpblaaDoorWFoot
import Derived.Test.YtinhjcoikhpblaaDoorWKept
import Derived.Test.YtinhjcoikhpblaaDoorWShare
import Derived.Test.YtinhjcoikhpblaaDoorWN
import Derived.Test.YtinhjcoikhpblaaDoorWFootNe
import Derived.Test.YtinhjcoikhpblaaDoorWAt
import Derived.Test.YtinhjcoikhpblaaDoorWEqStruct
import Derived.Test.YtinhjcoikhpblaaDoorWRepsOne
import Derived.Test.YtinhjcoikhpblaaDoorWInv
import Derived.Test.YtinhjcoikhpblaaDoorWInvWords
import Derived.Test.YtinhjcoikhpblaaDoorWGuard
import Derived.Test.YtinhjcoikhpblaaDoorWNEv
import Derived.Test.YtinhjcoikhpblaaDoorWMore
namespace Go.Proofs.YtinhjcoikhpblaaDoor.Q
open Go.RowKit Go.Proofs.YtinhjcoikhpblaaDoorW.PrintWords Go.Proofs.YtinhjcoikhpblaaDoorW.PrintLast Go.Proofs.YtinhjcoikhpblaaDoorW.PrintMore
attribute [local go_sem] max2_int min2_int max_two min_two max_three min_three max_four min_four
set_option linter.unusedVariables false
set_option linter.unusedSimpArgs false

def errW : Option Int → Value
  | none => .nilIface
  | some c => .iface 0 (.int .i64 c)
theorem errW_none : errW none = .nilIface := rfl
theorem errW_some (c : Int) : errW (some c) = .iface 0 (.int .i64 c) := rfl

theorem info42 : (Tryd.prog.info? 42).map (fun i => (i.zero, i.size, i.bytes)) = some (some (.int .u64 0), 1, 8) := by kernel_rfl
-- the values' own types

end Go.Proofs.YtinhjcoikhpblaaDoor.Q
