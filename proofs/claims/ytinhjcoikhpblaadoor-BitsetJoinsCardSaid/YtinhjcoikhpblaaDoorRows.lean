/-
  NARROWER THAN 'FOR EVERY INPUT', by the rows' own cells (each row's printed sentence says how): BitsetChecks: laid · BitsetSets: laid · BitsetFills: laid · BitsetFinds: laid · BitsetRuns: laid · BitsetCounts: laid · BitsetJoins: laid · BitsetMorgan: laid.
  DERIVED. THE GIVEN ROWS OF THIS SEAT. 8 by the template 'for every input the law returns true; each argument reads behind the call as it read before'; 0 by the template 'total and deterministic' (their statements: YtinhjcoikhpblaaDoorTotals.lean).
  GIVEN WITH THE SEED: the statements are not yours to turn. If you find one false, say at which input.
  Laid BY PROGRAM, IN A SANDBOX (cutbox-rows.mjs): the forced cells as the released guide's own fill.sh prints them over the translation 4906f54b58be82b9… (all of the seat's roots in one cut). By AI agents, Wed Nov 11 2026. No macro, syntax, notation, axiom, sorry.
-/
import Derived.Test.YtinhjcoikhpblaaDoorChecked
import GoSem.Claim
import GoSem.ClaimJoined
import GoSem.ClaimMapViews
import Derived.JoinedTies
import Derived.KernelRfl
namespace Go.Proofs.YtinhjcoikhpblaaDoor
/- THE CELL 'sum', in the pinned program and in every row, IS THE sha256 OF THE DUMP (.gsa) THAT YtinhjcoikhpblaaDoorProg.lean LOADS. Nothing in Lean hashes anything: it is a label: what it is worth is what the hold of that sum in a sandbox is worth. -/
noncomputable def Tryd.pinned : Pinned := { name := "ytinhjcoikhpblaadoor", sum := "4906f54b58be82b9897fb332a75019089b421226e4661bc89ee4a0eb32eb6179", checked := Tryd.checked }
namespace Rows
def none {H : Type} : Left H := { results := [], args := [] }

/- WHAT THE LISTED PACKAGE-LEVEL VARIABLES READ AS WHEN THE CALL BEGINS. Each datum BY PROGRAM (the guide's laid-datum.mjs) off the statement by which the dump's own 'gosem.cut.vars' lays the variable. In a bare row this is a premise. The card (YtinhjcoikhpblaaDoorCards.lean) ties it to the program's text. -/
def laid_math_bits_deBruijn64tab {H : Type} : DataW H := .agg [.lit (.int .u8 0), .lit (.int .u8 1), .lit (.int .u8 56), .lit (.int .u8 2), .lit (.int .u8 57), .lit (.int .u8 49), .lit (.int .u8 28), .lit (.int .u8 3), .lit (.int .u8 61), .lit (.int .u8 58), .lit (.int .u8 42), .lit (.int .u8 50), .lit (.int .u8 38), .lit (.int .u8 29), .lit (.int .u8 17), .lit (.int .u8 4), .lit (.int .u8 62), .lit (.int .u8 47), .lit (.int .u8 59), .lit (.int .u8 36), .lit (.int .u8 45), .lit (.int .u8 43), .lit (.int .u8 51), .lit (.int .u8 22), .lit (.int .u8 53), .lit (.int .u8 39), .lit (.int .u8 33), .lit (.int .u8 30), .lit (.int .u8 24), .lit (.int .u8 18), .lit (.int .u8 12), .lit (.int .u8 5), .lit (.int .u8 63), .lit (.int .u8 55), .lit (.int .u8 48), .lit (.int .u8 27), .lit (.int .u8 60), .lit (.int .u8 41), .lit (.int .u8 37), .lit (.int .u8 16), .lit (.int .u8 46), .lit (.int .u8 35), .lit (.int .u8 44), .lit (.int .u8 21), .lit (.int .u8 52), .lit (.int .u8 32), .lit (.int .u8 23), .lit (.int .u8 11), .lit (.int .u8 54), .lit (.int .u8 26), .lit (.int .u8 40), .lit (.int .u8 15), .lit (.int .u8 34), .lit (.int .u8 20), .lit (.int .u8 31), .lit (.int .u8 10), .lit (.int .u8 25), .lit (.int .u8 14), .lit (.int .u8 19), .lit (.int .u8 9), .lit (.int .u8 13), .lit (.int .u8 8), .lit (.int .u8 7), .lit (.int .u8 6)]

/-- 'estoverslaw01.BitsetChecks': WHATEVER THE INPUT: true; the input reads as it did. -/
def bitsetChecksSpec : ChangeSpec := { name := "bitsetChecks", fn := fun _ => fun
  | [d1, d2] => { results := [.lit (.bool true)], args := [d1, d2] }
  | _ => none }
def bitsetChecksRow : OpenClaim := { program := "ytinhjcoikhpblaadoor", sum := "4906f54b58be82b9897fb332a75019089b421226e4661bc89ee4a0eb32eb6179", func := "estovers/estoverslaw01.BitsetChecks", spec := "bitsetChecks", named := ["math/bits.deBruijn64tab"], apart := false, laid := [("math/bits.deBruijn64tab", laid_math_bits_deBruijn64tab)] }
def BitsetChecksSaid : Prop := bitsetChecksRow.holds Tryd.pinned (OpenSpec.ofChange bitsetChecksSpec)

/-- ITS FALSE NEIGHBOUR: 'it returns false'. Refute it at one input. -/
def bitsetChecksWrong : ChangeSpec := { name := "bitsetChecks", fn := fun _ => fun
  | [d1, d2] => { results := [.lit (.bool false)], args := [d1, d2] }
  | _ => none }
def BitsetChecksWrongFalsely : Prop := bitsetChecksRow.holds Tryd.pinned (OpenSpec.ofChange bitsetChecksWrong)

/-- 'estoverslaw01.BitsetSets': WHATEVER THE INPUT: true; the input reads as it did. -/
def bitsetSetsSpec : ChangeSpec := { name := "bitsetSets", fn := fun _ => fun
  | [d1, d2, d3] => { results := [.lit (.bool true)], args := [d1, d2, d3] }
  | _ => none }
def bitsetSetsRow : OpenClaim := { program := "ytinhjcoikhpblaadoor", sum := "4906f54b58be82b9897fb332a75019089b421226e4661bc89ee4a0eb32eb6179", func := "estovers/estoverslaw01.BitsetSets", spec := "bitsetSets", named := ["math/bits.deBruijn64tab"], apart := false, laid := [("math/bits.deBruijn64tab", laid_math_bits_deBruijn64tab)] }
def BitsetSetsSaid : Prop := bitsetSetsRow.holds Tryd.pinned (OpenSpec.ofChange bitsetSetsSpec)

/-- ITS FALSE NEIGHBOUR: 'it returns false'. Refute it at one input. -/
def bitsetSetsWrong : ChangeSpec := { name := "bitsetSets", fn := fun _ => fun
  | [d1, d2, d3] => { results := [.lit (.bool false)], args := [d1, d2, d3] }
  | _ => none }
def BitsetSetsWrongFalsely : Prop := bitsetSetsRow.holds Tryd.pinned (OpenSpec.ofChange bitsetSetsWrong)

/-- 'estoverslaw01.BitsetFills': WHATEVER THE INPUT: true; the input reads as it did. -/
def bitsetFillsSpec : ChangeSpec := { name := "bitsetFills", fn := fun _ => fun
  | [d1, d2, d3] => { results := [.lit (.bool true)], args := [d1, d2, d3] }
  | _ => none }
def bitsetFillsRow : OpenClaim := { program := "ytinhjcoikhpblaadoor", sum := "4906f54b58be82b9897fb332a75019089b421226e4661bc89ee4a0eb32eb6179", func := "estovers/estoverslaw01.BitsetFills", spec := "bitsetFills", named := ["math/bits.deBruijn64tab"], apart := false, laid := [("math/bits.deBruijn64tab", laid_math_bits_deBruijn64tab)] }
def BitsetFillsSaid : Prop := bitsetFillsRow.holds Tryd.pinned (OpenSpec.ofChange bitsetFillsSpec)

/-- ITS FALSE NEIGHBOUR: 'it returns false'. Refute it at one input. -/
def bitsetFillsWrong : ChangeSpec := { name := "bitsetFills", fn := fun _ => fun
  | [d1, d2, d3] => { results := [.lit (.bool false)], args := [d1, d2, d3] }
  | _ => none }
def BitsetFillsWrongFalsely : Prop := bitsetFillsRow.holds Tryd.pinned (OpenSpec.ofChange bitsetFillsWrong)

/-- 'estoverslaw01.BitsetFinds': WHATEVER THE INPUT: true; the input reads as it did. -/
def bitsetFindsSpec : ChangeSpec := { name := "bitsetFinds", fn := fun _ => fun
  | [d1, d2, d3] => { results := [.lit (.bool true)], args := [d1, d2, d3] }
  | _ => none }
def bitsetFindsRow : OpenClaim := { program := "ytinhjcoikhpblaadoor", sum := "4906f54b58be82b9897fb332a75019089b421226e4661bc89ee4a0eb32eb6179", func := "estovers/estoverslaw01.BitsetFinds", spec := "bitsetFinds", named := ["math/bits.deBruijn64tab"], apart := false, laid := [("math/bits.deBruijn64tab", laid_math_bits_deBruijn64tab)] }
def BitsetFindsSaid : Prop := bitsetFindsRow.holds Tryd.pinned (OpenSpec.ofChange bitsetFindsSpec)

/-- ITS FALSE NEIGHBOUR: 'it returns false'. Refute it at one input. -/
def bitsetFindsWrong : ChangeSpec := { name := "bitsetFinds", fn := fun _ => fun
  | [d1, d2, d3] => { results := [.lit (.bool false)], args := [d1, d2, d3] }
  | _ => none }
def BitsetFindsWrongFalsely : Prop := bitsetFindsRow.holds Tryd.pinned (OpenSpec.ofChange bitsetFindsWrong)

/-- 'estoverslaw01.BitsetRuns': WHATEVER THE INPUT: true; the input reads as it did. -/
def bitsetRunsSpec : ChangeSpec := { name := "bitsetRuns", fn := fun _ => fun
  | [d1, d2, d3] => { results := [.lit (.bool true)], args := [d1, d2, d3] }
  | _ => none }
def bitsetRunsRow : OpenClaim := { program := "ytinhjcoikhpblaadoor", sum := "4906f54b58be82b9897fb332a75019089b421226e4661bc89ee4a0eb32eb6179", func := "estovers/estoverslaw01.BitsetRuns", spec := "bitsetRuns", named := ["math/bits.deBruijn64tab"], apart := false, laid := [("math/bits.deBruijn64tab", laid_math_bits_deBruijn64tab)] }
def BitsetRunsSaid : Prop := bitsetRunsRow.holds Tryd.pinned (OpenSpec.ofChange bitsetRunsSpec)

/-- ITS FALSE NEIGHBOUR: 'it returns false'. Refute it at one input. -/
def bitsetRunsWrong : ChangeSpec := { name := "bitsetRuns", fn := fun _ => fun
  | [d1, d2, d3] => { results := [.lit (.bool false)], args := [d1, d2, d3] }
  | _ => none }
def BitsetRunsWrongFalsely : Prop := bitsetRunsRow.holds Tryd.pinned (OpenSpec.ofChange bitsetRunsWrong)

/-- 'estoverslaw01.BitsetCounts': WHATEVER THE INPUT: true; the input reads as it did. -/
def bitsetCountsSpec : ChangeSpec := { name := "bitsetCounts", fn := fun _ => fun
  | [d1, d2, d3] => { results := [.lit (.bool true)], args := [d1, d2, d3] }
  | _ => none }
def bitsetCountsRow : OpenClaim := { program := "ytinhjcoikhpblaadoor", sum := "4906f54b58be82b9897fb332a75019089b421226e4661bc89ee4a0eb32eb6179", func := "estovers/estoverslaw01.BitsetCounts", spec := "bitsetCounts", named := ["math/bits.deBruijn64tab"], apart := false, laid := [("math/bits.deBruijn64tab", laid_math_bits_deBruijn64tab)] }
def BitsetCountsSaid : Prop := bitsetCountsRow.holds Tryd.pinned (OpenSpec.ofChange bitsetCountsSpec)

/-- ITS FALSE NEIGHBOUR: 'it returns false'. Refute it at one input. -/
def bitsetCountsWrong : ChangeSpec := { name := "bitsetCounts", fn := fun _ => fun
  | [d1, d2, d3] => { results := [.lit (.bool false)], args := [d1, d2, d3] }
  | _ => none }
def BitsetCountsWrongFalsely : Prop := bitsetCountsRow.holds Tryd.pinned (OpenSpec.ofChange bitsetCountsWrong)

/-- 'estoverslaw01.BitsetJoins': WHATEVER THE INPUT: true; the input reads as it did. -/
def bitsetJoinsSpec : ChangeSpec := { name := "bitsetJoins", fn := fun _ => fun
  | [d1, d2] => { results := [.lit (.bool true)], args := [d1, d2] }
  | _ => none }
def bitsetJoinsRow : OpenClaim := { program := "ytinhjcoikhpblaadoor", sum := "4906f54b58be82b9897fb332a75019089b421226e4661bc89ee4a0eb32eb6179", func := "estovers/estoverslaw01.BitsetJoins", spec := "bitsetJoins", unfollowed := true, recurses := true, named := ["math/bits.deBruijn64tab"], apart := false, laid := [("math/bits.deBruijn64tab", laid_math_bits_deBruijn64tab)] }
def BitsetJoinsSaid : Prop := bitsetJoinsRow.holds Tryd.pinned (OpenSpec.ofChange bitsetJoinsSpec)

/-- ITS FALSE NEIGHBOUR: 'it returns false'. Refute it at one input. -/
def bitsetJoinsWrong : ChangeSpec := { name := "bitsetJoins", fn := fun _ => fun
  | [d1, d2] => { results := [.lit (.bool false)], args := [d1, d2] }
  | _ => none }
def BitsetJoinsWrongFalsely : Prop := bitsetJoinsRow.holds Tryd.pinned (OpenSpec.ofChange bitsetJoinsWrong)

/-- 'estoverslaw01.BitsetMorgan': WHATEVER THE INPUT: true; the input reads as it did. -/
def bitsetMorganSpec : ChangeSpec := { name := "bitsetMorgan", fn := fun _ => fun
  | [d1, d2] => { results := [.lit (.bool true)], args := [d1, d2] }
  | _ => none }
def bitsetMorganRow : OpenClaim := { program := "ytinhjcoikhpblaadoor", sum := "4906f54b58be82b9897fb332a75019089b421226e4661bc89ee4a0eb32eb6179", func := "estovers/estoverslaw01.BitsetMorgan", spec := "bitsetMorgan", unfollowed := true, recurses := true, named := ["math/bits.deBruijn64tab"], apart := false, laid := [("math/bits.deBruijn64tab", laid_math_bits_deBruijn64tab)] }
def BitsetMorganSaid : Prop := bitsetMorganRow.holds Tryd.pinned (OpenSpec.ofChange bitsetMorganSpec)

/-- ITS FALSE NEIGHBOUR: 'it returns false'. Refute it at one input. -/
def bitsetMorganWrong : ChangeSpec := { name := "bitsetMorgan", fn := fun _ => fun
  | [d1, d2] => { results := [.lit (.bool false)], args := [d1, d2] }
  | _ => none }
def BitsetMorganWrongFalsely : Prop := bitsetMorganRow.holds Tryd.pinned (OpenSpec.ofChange bitsetMorganWrong)

/- THE SECOND FORM. 'bulk': how many values and letters a reading holds, each counted each time it is reached (what is shared counts as often as it is met; a slice's spare places count too). A statement '..UptoSaid' is the law's where the arguments, and the package variables that the reading takes, are together of bulk at most 1048576: NARROWER than '..Said'. Prove '..Said' where nothing that the law and all that it calls make is longer than what came in: it says more and counts as full. Else prove '..UptoSaid'. A law counts once. -/
mutual
def uptoBulk {H : Type} : DataW H → Nat
  | .lit (.string bytes) => bytes.length + 1
  | .lit _ => 1
  | .nil => 1
  | .ptr d => uptoBulk d + 1
  | .slice elems spare => uptoBulkAll elems + uptoBulkAll spare + 1
  | .agg parts => uptoBulkAll parts + 1
  | .iface _ d => uptoBulk d + 1
  | .map entries => uptoBulkEntries entries + 1
  | .held _ => 1
def uptoBulkAll {H : Type} : List (DataW H) → Nat
  | [] => 0
  | d :: r => uptoBulk d + uptoBulkAll r
def uptoBulkEntries {H : Type} : List (Lit × DataW H) → Nat
  | [] => 0
  | x :: r => uptoBulkEntry x + uptoBulkEntries r
def uptoBulkEntry {H : Type} : Lit × DataW H → Nat
  | (.string bytes, d) => bytes.length + uptoBulk d + 1
  | (_, d) => uptoBulk d + 1
 end
def uptoSmall : (H : Type) → List (DataW H) → Bool := fun _ ds => decide (uptoBulkAll ds ≤ 1048576)
def OpenSpec.upto (s : _root_.Go.ChangeSpec) : _root_.Go.OpenSpec := { _root_.Go.OpenSpec.ofChange s with cond := some uptoSmall }

/-- 'estoverslaw01.BitsetChecks', WHERE WHAT IT READS IS OF BULK AT MOST 1048576: true; the input reads as it did. -/
def bitsetChecksUptoRow : OpenClaim := { program := "ytinhjcoikhpblaadoor", sum := "4906f54b58be82b9897fb332a75019089b421226e4661bc89ee4a0eb32eb6179", func := "estovers/estoverslaw01.BitsetChecks", spec := "bitsetChecks", named := ["math/bits.deBruijn64tab"], apart := false, laid := [("math/bits.deBruijn64tab", laid_math_bits_deBruijn64tab)], narrowed := true }
def BitsetChecksUptoSaid : Prop := bitsetChecksUptoRow.holds Tryd.pinned (OpenSpec.upto bitsetChecksSpec)

/-- 'estoverslaw01.BitsetSets', WHERE WHAT IT READS IS OF BULK AT MOST 1048576: true; the input reads as it did. -/
def bitsetSetsUptoRow : OpenClaim := { program := "ytinhjcoikhpblaadoor", sum := "4906f54b58be82b9897fb332a75019089b421226e4661bc89ee4a0eb32eb6179", func := "estovers/estoverslaw01.BitsetSets", spec := "bitsetSets", named := ["math/bits.deBruijn64tab"], apart := false, laid := [("math/bits.deBruijn64tab", laid_math_bits_deBruijn64tab)], narrowed := true }
def BitsetSetsUptoSaid : Prop := bitsetSetsUptoRow.holds Tryd.pinned (OpenSpec.upto bitsetSetsSpec)

/-- 'estoverslaw01.BitsetFills', WHERE WHAT IT READS IS OF BULK AT MOST 1048576: true; the input reads as it did. -/
def bitsetFillsUptoRow : OpenClaim := { program := "ytinhjcoikhpblaadoor", sum := "4906f54b58be82b9897fb332a75019089b421226e4661bc89ee4a0eb32eb6179", func := "estovers/estoverslaw01.BitsetFills", spec := "bitsetFills", named := ["math/bits.deBruijn64tab"], apart := false, laid := [("math/bits.deBruijn64tab", laid_math_bits_deBruijn64tab)], narrowed := true }
def BitsetFillsUptoSaid : Prop := bitsetFillsUptoRow.holds Tryd.pinned (OpenSpec.upto bitsetFillsSpec)

/-- 'estoverslaw01.BitsetFinds', WHERE WHAT IT READS IS OF BULK AT MOST 1048576: true; the input reads as it did. -/
def bitsetFindsUptoRow : OpenClaim := { program := "ytinhjcoikhpblaadoor", sum := "4906f54b58be82b9897fb332a75019089b421226e4661bc89ee4a0eb32eb6179", func := "estovers/estoverslaw01.BitsetFinds", spec := "bitsetFinds", named := ["math/bits.deBruijn64tab"], apart := false, laid := [("math/bits.deBruijn64tab", laid_math_bits_deBruijn64tab)], narrowed := true }
def BitsetFindsUptoSaid : Prop := bitsetFindsUptoRow.holds Tryd.pinned (OpenSpec.upto bitsetFindsSpec)

/-- 'estoverslaw01.BitsetRuns', WHERE WHAT IT READS IS OF BULK AT MOST 1048576: true; the input reads as it did. -/
def bitsetRunsUptoRow : OpenClaim := { program := "ytinhjcoikhpblaadoor", sum := "4906f54b58be82b9897fb332a75019089b421226e4661bc89ee4a0eb32eb6179", func := "estovers/estoverslaw01.BitsetRuns", spec := "bitsetRuns", named := ["math/bits.deBruijn64tab"], apart := false, laid := [("math/bits.deBruijn64tab", laid_math_bits_deBruijn64tab)], narrowed := true }
def BitsetRunsUptoSaid : Prop := bitsetRunsUptoRow.holds Tryd.pinned (OpenSpec.upto bitsetRunsSpec)

/-- 'estoverslaw01.BitsetCounts', WHERE WHAT IT READS IS OF BULK AT MOST 1048576: true; the input reads as it did. -/
def bitsetCountsUptoRow : OpenClaim := { program := "ytinhjcoikhpblaadoor", sum := "4906f54b58be82b9897fb332a75019089b421226e4661bc89ee4a0eb32eb6179", func := "estovers/estoverslaw01.BitsetCounts", spec := "bitsetCounts", named := ["math/bits.deBruijn64tab"], apart := false, laid := [("math/bits.deBruijn64tab", laid_math_bits_deBruijn64tab)], narrowed := true }
def BitsetCountsUptoSaid : Prop := bitsetCountsUptoRow.holds Tryd.pinned (OpenSpec.upto bitsetCountsSpec)

/-- 'estoverslaw01.BitsetJoins', WHERE WHAT IT READS IS OF BULK AT MOST 1048576: true; the input reads as it did. -/
def bitsetJoinsUptoRow : OpenClaim := { program := "ytinhjcoikhpblaadoor", sum := "4906f54b58be82b9897fb332a75019089b421226e4661bc89ee4a0eb32eb6179", func := "estovers/estoverslaw01.BitsetJoins", spec := "bitsetJoins", unfollowed := true, recurses := true, named := ["math/bits.deBruijn64tab"], apart := false, laid := [("math/bits.deBruijn64tab", laid_math_bits_deBruijn64tab)], narrowed := true }
def BitsetJoinsUptoSaid : Prop := bitsetJoinsUptoRow.holds Tryd.pinned (OpenSpec.upto bitsetJoinsSpec)

/-- 'estoverslaw01.BitsetMorgan', WHERE WHAT IT READS IS OF BULK AT MOST 1048576: true; the input reads as it did. -/
def bitsetMorganUptoRow : OpenClaim := { program := "ytinhjcoikhpblaadoor", sum := "4906f54b58be82b9897fb332a75019089b421226e4661bc89ee4a0eb32eb6179", func := "estovers/estoverslaw01.BitsetMorgan", spec := "bitsetMorgan", unfollowed := true, recurses := true, named := ["math/bits.deBruijn64tab"], apart := false, laid := [("math/bits.deBruijn64tab", laid_math_bits_deBruijn64tab)], narrowed := true }
def BitsetMorganUptoSaid : Prop := bitsetMorganUptoRow.holds Tryd.pinned (OpenSpec.upto bitsetMorganSpec)

end Rows
end Go.Proofs.YtinhjcoikhpblaaDoor
