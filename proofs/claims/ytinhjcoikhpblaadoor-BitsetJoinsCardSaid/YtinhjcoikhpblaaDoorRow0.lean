/-
  What the rows of this seat share: the table of math/bits that a row lists; a world that holds it; a set of bits, by value, opened.
-/
import Derived.Test.YtinhjcoikhpblaaDoorCards
import Derived.Test.YtinhjcoikhpblaaDoorTie
import Derived.Test.YtinhjcoikhpblaaDoorEFind
import Derived.Test.YtinhjcoikhpblaaDoorVa
import Derived.WalkKit
import Derived.ProofKit
import Derived.OpenShut
import Derived.Deep.DeepHandedRow
import Derived.Lib.LaidTab
import Derived.Lib.SmallJoins
import Derived.WideKeyPair
import Derived.Carry
namespace Go.Proofs.YtinhjcoikhpblaaDoor.R
open Go.ChangeShapes Go.WideShapes Go.ChangeAt Go.RowKit
open Go.Proofs.YtinhjcoikhpblaaDoor.Q Go.Proofs.YtinhjcoikhpblaaDoor.V
open Go.Proofs.YtinhjcoikhpblaaDoorW.PrintWords Go.Proofs.YtinhjcoikhpblaaDoorW.PrintLast Go.Proofs.YtinhjcoikhpblaaDoorW.PrintMore
set_option linter.unusedVariables false
theorem own : ownKnob Tryd.prog.godebug = none := by kernel_rfl
theorem laidOut : laidOutB Tryd.prog = true := by kernel_rfl
theorem gTab : Tryd.prog.globalNamed "math/bits.deBruijn64tab" = some 0 := by kernel_rfl
theorem gTabType : (Tryd.prog.globals[0]?).map (·.type) = some 54 := by kernel_rfl
theorem cells54 : Tryd.prog.cellsOf 54 = 64 := by kernel_rfl
theorem cells5 : Tryd.prog.cellsOf 5 = 1 := by kernel_rfl
theorem cells24 : Tryd.prog.cellsOf 24 = 2 := by kernel_rfl
theorem arr33 : WideMaps.ArrKey Tryd.prog 33 3 2 := ⟨Tryd.underlying33, by kernel_rfl, by kernel_rfl, by kernel_rfl⟩
def tab : List Int := List.map Int.ofNat Lib.deBruijn64tab
theorem tab_at : ∀ j, j < 64 → tab.getD j 0 = (Lib.deBruijn64tab.getD j 0 : Int) := by decide +kernel
theorem table {W : World} (h : laidMetH Tryd.prog [("math/bits.deBruijn64tab", Rows.laid_math_bits_deBruijn64tab)] W) : TabW W :=
  ⟨fun j hj => by
    have h1 : Lib.TabIs Tryd.prog W "math/bits.deBruijn64tab" .u8 tab := Lib.tabIs_of_head (rest := []) gTab gTabType Tryd.underlying54 Tryd.underlying5 cells5 cells54 h
    rw [h1.cell gTab j hj, tab_at j hj]⟩
def IsRow (k : IntKind) (w : World) (a : Option Addr) (len cap : Nat) (zs : List Int) : Prop :=
  (a = none ∧ len = 0 ∧ cap = 0 ∧ zs = []) ∨
  ∃ x, a = some x ∧ len ≤ cap ∧ cap ≤ maxLen ∧ zs.length = cap ∧ (∀ i, i < zs.length → w.cell? (x.add i) = some (.int k (zs.getD i 0))) ∧ ∀ n ∈ zs, (Lit.int k n).wf = true
/-- A set of bits, by value, opened: its size, its row of words. -/
theorem open_bits {H : Type} {enc : TypeId × Value → H} {W : World} {base : Nat} {v : Value} {d : DataW H} {p : List MemPlace} (hv : Value.okWide Tryd.prog W .any base 24 v) (h : DataW.Trod enc Tryd.prog W 0 (fun _ => true) true 24 v d p) :
    ∃ (n : Int) (A : Option Addr) (c : Nat) (l : List Int), v = .agg #[.int .i64 n, .slice A l.length c] ∧ Kd.C (Kd.int .u64) W A l.length l ∧ l.length ≤ c ∧ wfs l := by
  obtain ⟨c0, c1, y0, y1, m, rfl, rfl, rfl, hy0, hy1⟩ := Joins.open_agg2 Tryd.underlying24 (by kernel_rfl) cells24 hv h
  obtain ⟨n, e0, _, _⟩ := DataW.trod_int Tryd.underlying3 hy0
  simp at e0
  subst e0
  obtain ⟨a0, len0, cap0, z0, e1, w0⟩ : ∃ a len cap zs, c1 = .slice a len cap ∧ IsRow .u64 W a len cap zs := by
    rcases open_ints Tryd.underlying22 Tryd.underlying42 (by kernel_rfl) hy1 with ⟨hcs, _⟩ | ⟨x, l, c, zs, hcs, _, hl, hm, hz, _, hcell, hwz⟩
    · simp at hcs
      exact ⟨none, 0, 0, [], hcs, .inl ⟨rfl, rfl, rfl, rfl⟩⟩
    · simp at hcs
      exact ⟨_, _, _, zs, hcs, .inr ⟨_, rfl, hl, hm, by simpa using hz, hcell, hwz⟩⟩
  subst e1
  obtain ⟨l0, rfl, hr0, hm0, hw0, hc0⟩ := ReadsInt.ofRowC w0
  refine ⟨n, a0, cap0, l0, rfl, Kd.C_of_reads (d := (0 : Int)) (h1 := fun _ => rfl) hr0, hc0, fun x hx => ?_⟩
  have := hw0 x hx
  simp [Lit.wf, IntKind.min, IntKind.max, IntKind.signed, IntKind.bits] at this
  exact ⟨by omega, by omega⟩
/-- A world for the witness: the settled one, the table holding what its initialiser lays. -/
noncomputable def laidWorld (os : Os) : World :=
  { World.holding Tryd.prog os ⟨#[], #[], []⟩ with heap := (World.holding Tryd.prog os ⟨#[], #[], []⟩).heap.modify 0 fun
      | .cells _ t frozen => .cells ((tab.map fun z => Value.int .u8 z).toArray) t frozen
      | o => o }
end Go.Proofs.YtinhjcoikhpblaaDoor.R
