/-
  The bits of 64-bit words and of rows of words, as Booleans; the operations on words, bit by bit. Conditions: the words are from 0 to 2^64 - 1.
-/
import Derived.Test.YtinhjcoikhpblaaDoorQ100
import Derived.Laws.Bits64b
namespace Go.Proofs.YtinhjcoikhpblaaDoor.V
open Go.Proofs.YtinhjcoikhpblaaDoor.Q
open Go.RowKit Go.Proofs.YtinhjcoikhpblaaDoorW.PrintWords Go.Proofs.YtinhjcoikhpblaaDoorW.PrintLast Go.Proofs.YtinhjcoikhpblaaDoorW.PrintMore
set_option linter.unusedVariables false

theorem Ev.none_k {α : Type} {g : Nat → Option α} {r : α} (h : ∀ k, g k = some r) : Ev g r := ⟨0, fun k _ => h k⟩
theorem w64 {n : Int} (h : -9223372036854775808 ≤ n ∧ n < 9223372036854775808) : wrap64 n = n := by unfold wrap64; omega
/-- Bit i of a word. -/
def tb (x : Int) (i : Nat) : Bool := x.toNat.testBit i
def u64 (x : Int) : Prop := 0 ≤ x ∧ x < 18446744073709551616
theorem tb_ext {x y : Int} (hx : u64 x) (hy : u64 y) (h : ∀ i, i < 64 → tb x i = tb y i) : x = y := by
  have : x.toNat = y.toNat := by
    apply Nat.eq_of_testBit_eq
    intro i
    by_cases hi : i < 64
    · exact h i hi
    · have e1 : x.toNat < 2 ^ i := Nat.lt_of_lt_of_le (by have := hx.1; have := hx.2; omega : x.toNat < 2 ^ 64) (Nat.pow_le_pow_right (by omega) (by omega))
      have e2 : y.toNat < 2 ^ i := Nat.lt_of_lt_of_le (by have := hy.1; have := hy.2; omega : y.toNat < 2 ^ 64) (Nat.pow_le_pow_right (by omega) (by omega))
      rw [Nat.testBit_lt_two_pow e1, Nat.testBit_lt_two_pow e2]
  have := hx.1; have := hy.1; omega
theorem tb_zero (i : Nat) : tb 0 i = false := by simp [tb]
theorem bv_tb {x : Int} (hx : u64 x) (i : Nat) : (BitVec.ofInt 64 x).getLsbD i = (decide (i < 64) && tb x i) := by
  obtain ⟨n, rfl⟩ : ∃ n : Nat, x = n := ⟨x.toNat, by have := hx.1; omega⟩
  rw [BitVec.ofInt_natCast, BitVec.getLsbD_ofNat]
  rfl
theorem of_bv (b : BitVec 64) : u64 (IntKind.u64.wrap (b.toNat : Int)) ∧ ∀ i, tb (IntKind.u64.wrap (b.toNat : Int)) i = b.getLsbD i := by
  have h : b.toNat < 18446744073709551616 := b.isLt
  have e : IntKind.u64.wrap (b.toNat : Int) = (b.toNat : Int) := by rw [IntKind.wrap_u64]; omega
  rw [e]
  exact ⟨⟨by omega, by omega⟩, fun i => rfl⟩
theorem and_tb {x y : Int} (hx : u64 x) (hy : u64 y) : u64 (Go.bits .and .u64 x y) ∧ ∀ i, i < 64 → tb (Go.bits .and .u64 x y) i = (tb x i && tb y i) := by
  obtain ⟨h1, h2⟩ := of_bv (BitVec.ofInt 64 x &&& BitVec.ofInt 64 y)
  refine ⟨h1, fun i hi => (h2 i).trans ?_⟩
  rw [BitVec.getLsbD_and, bv_tb hx, bv_tb hy]; simp [hi]
theorem or_tb {x y : Int} (hx : u64 x) (hy : u64 y) : u64 (Go.bits .or .u64 x y) ∧ ∀ i, i < 64 → tb (Go.bits .or .u64 x y) i = (tb x i || tb y i) := by
  obtain ⟨h1, h2⟩ := of_bv (BitVec.ofInt 64 x ||| BitVec.ofInt 64 y)
  refine ⟨h1, fun i hi => (h2 i).trans ?_⟩
  rw [BitVec.getLsbD_or, bv_tb hx, bv_tb hy]; simp [hi]
theorem andNot_tb {x y : Int} (hx : u64 x) (hy : u64 y) : u64 (Go.bits .andNot .u64 x y) ∧ ∀ i, i < 64 → tb (Go.bits .andNot .u64 x y) i = (tb x i && !tb y i) := by
  obtain ⟨h1, h2⟩ := of_bv (BitVec.ofInt 64 x &&& ~~~BitVec.ofInt 64 y)
  refine ⟨h1, fun i hi => (h2 i).trans ?_⟩
  rw [BitVec.getLsbD_and, BitVec.getLsbD_not, bv_tb hx, bv_tb hy]; simp [hi]
theorem ones_tb : u64 18446744073709551615 ∧ ∀ i, i < 64 → tb 18446744073709551615 i = true := by
  refine ⟨⟨by omega, by omega⟩, fun i hi => ?_⟩
  have : tb 18446744073709551615 i = (2 ^ 64 - 1).testBit i := rfl
  rw [this, Nat.testBit_two_pow_sub_one]; simpa using hi
theorem not_tb {x : Int} (hx : u64 x) : u64 (Go.bits .xor .u64 18446744073709551615 x) ∧ ∀ i, i < 64 → tb (Go.bits .xor .u64 18446744073709551615 x) i = !tb x i := by
  obtain ⟨h1, h2⟩ := of_bv (BitVec.ofInt 64 18446744073709551615 ^^^ BitVec.ofInt 64 x)
  refine ⟨h1, fun i hi => (h2 i).trans ?_⟩
  rw [BitVec.getLsbD_xor, bv_tb ones_tb.1, bv_tb hx, ones_tb.2 i hi]; simp [hi]
theorem shr_tb {x : Int} (hx : u64 x) (y : Nat) (hy : y < 64) : u64 (shr .u64 x y) ∧ ∀ i, tb (shr .u64 x y) i = tb x (i + y) := by
  obtain ⟨n, rfl⟩ : ∃ n : Nat, x = n := ⟨x.toNat, by have := hx.1; omega⟩
  have e : shr .u64 (n : Int) (y : Int) = ((n / 2 ^ y : Nat) : Int) := by
    unfold shr
    rw [Int.toNat_natCast, Nat.min_eq_left (show y ≤ IntKind.u64.bits by show y ≤ 64; omega)]
    simp
  rw [e]
  refine ⟨⟨Int.natCast_nonneg _, ?_⟩, fun i => ?_⟩
  · have h1 : n / 2 ^ y ≤ n := Nat.div_le_self _ _
    have h2 := hx.2
    generalize n / 2 ^ y = q at *
    omega
  · show (n / 2 ^ y).testBit i = n.testBit (i + y)
    rw [← Nat.shiftRight_eq_div_pow, Nat.testBit_shiftRight, Nat.add_comm]
theorem shl_tb {x : Int} (hx : u64 x) (y : Nat) (hy : y < 64) : u64 (shl .u64 x y) ∧ ∀ i, i < 64 → tb (shl .u64 x y) i = (decide (y ≤ i) && tb x (i - y)) := by
  obtain ⟨n, rfl⟩ : ∃ n : Nat, x = n := ⟨x.toNat, by have := hx.1; omega⟩
  have e : shl .u64 (n : Int) (y : Int) = ((n * 2 ^ y % 2 ^ 64 : Nat) : Int) := by
    unfold shl
    rw [Int.toNat_natCast, Nat.min_eq_left (show y ≤ IntKind.u64.bits by show y ≤ 64; omega), IntKind.wrap_u64]
    simp
  rw [e]
  refine ⟨⟨by omega, ?_⟩, fun i hi => ?_⟩
  · have : n * 2 ^ y % 2 ^ 64 < 2 ^ 64 := Nat.mod_lt _ (by omega)
    omega
  · show (n * 2 ^ y % 2 ^ 64).testBit i = (decide (y ≤ i) && n.testBit (i - y))
    rw [Nat.testBit_mod_two_pow, ← Nat.shiftLeft_eq, Nat.testBit_shiftLeft]
    simp [hi]
/-- The mask of the bits from lo up to but without hi. -/
theorem mask_some (lo hi : Nat) (h1 : lo < 64) (h2 : hi ≤ 64) : ∃ m, bitset_mask.f lo hi = some m ∧ u64 m ∧ ∀ i, i < 64 → tb m i = (decide (lo ≤ i) && decide (i < hi)) := by
  obtain ⟨a1, a2⟩ := shl_tb ones_tb.1 lo h1
  unfold bitset_mask.f
  rw [if_pos (by omega)]
  by_cases h : hi = 64
  · subst h
    rw [if_neg (by omega)]
    refine ⟨_, rfl, a1, fun i hi => ?_⟩
    rw [a2 i hi, ones_tb.2 _ (by omega)]; simp [hi]
  · rw [if_pos (by omega), if_pos (by omega)]
    have e : IntKind.u64.wrap (shl .u64 1 (hi : Int) - 1) = ((2 ^ hi - 1 : Nat) : Int) := by
      have hp : 2 ^ hi < 2 ^ 64 := Nat.pow_lt_pow_right (by omega) (by omega)
      have hq : 1 ≤ 2 ^ hi := Nat.one_le_two_pow
      have : shl .u64 1 (hi : Int) = ((2 ^ hi : Nat) : Int) := by
        unfold shl
        rw [Int.toNat_natCast, Nat.min_eq_left (show hi ≤ IntKind.u64.bits by show hi ≤ 64; omega), IntKind.wrap_u64]
        have : (1 : Int) * 2 ^ hi = ((2 ^ hi : Nat) : Int) := by simp
        rw [this]; omega
      rw [this, IntKind.wrap_u64]; omega
    have hp : 2 ^ hi < 2 ^ 64 := Nat.pow_lt_pow_right (by omega) (by omega)
    have b1 : u64 (((2 ^ hi - 1 : Nat) : Int)) := ⟨by omega, by omega⟩
    have b2 : ∀ i, tb (((2 ^ hi - 1 : Nat) : Int)) i = decide (i < hi) := fun i => Nat.testBit_two_pow_sub_one _ _
    rw [e]
    obtain ⟨c1, c2⟩ := and_tb a1 b1
    refine ⟨_, rfl, c1, fun i hi => ?_⟩
    rw [c2 i hi, a2 i hi, ones_tb.2 _ (by omega), b2]; simp
theorem one_tb {x : Int} (hx : u64 x) : (Go.bits .and .u64 x 1 == 1) = tb x 0 := by
  obtain ⟨n, rfl⟩ : ∃ n : Nat, x = n := ⟨x.toNat, by have := hx.1; omega⟩
  have h := bits_and_u64_nat n 1 (by have := hx.2; omega) (by omega)
  rw [show ((1 : Nat) : Int) = 1 from rfl] at h
  rw [h, Nat.and_one_is_mod]
  show (((n % 2 : Nat) : Int) == 1) = n.testBit 0
  rw [Nat.testBit_zero]
  have : n % 2 = 0 ∨ n % 2 = 1 := by omega
  rcases this with e | e <;> rw [e] <;> rfl

/-- Bit i of a row of words. -/
def bt (l : List Int) (i : Nat) : Bool := tb (l.getD (i / 64) 0) (i % 64)
def wfs (l : List Int) : Prop := ∀ x ∈ l, u64 x
theorem wfs_at {l : List Int} (h : wfs l) (j : Nat) : u64 (l.getD j 0) := by
  rw [List.getD_eq_getElem?_getD]
  cases e : l[j]? with
  | none => exact ⟨by simp, by simp⟩
  | some x => exact h x (List.mem_of_getElem? e)
theorem rd_nat (l : List Int) (j : Nat) : rd l (j : Int) = l.getD j 0 := by unfold rd; rw [Int.toNat_natCast]
theorem wfs_set {l : List Int} (h : wfs l) (j : Nat) {x : Int} (hx : u64 x) : wfs (l.set j x) := by
  intro y hy
  rcases List.mem_or_eq_of_mem_set hy with h1 | h1
  · exact h y h1
  · rw [h1]; exact hx
theorem getD_set (l : List Int) (j i : Nat) (x : Int) (hj : j < l.length) : (l.set j x).getD i 0 = if i = j then x else l.getD i 0 := by
  rw [List.getD_eq_getElem?_getD, List.getD_eq_getElem?_getD, List.getElem?_set]
  by_cases h : i = j
  · subst h; simp [hj]
  · rw [if_neg (fun e => h e.symm), if_neg h]
/-- A row with given bits. -/
def IsL (n : Nat) (p : Nat → Bool) (r : List Int) : Prop := r.length = n ∧ wfs r ∧ ∀ i, i < 64 * n → bt r i = p i
theorem IsL.uniq {n : Nat} {p : Nat → Bool} {r s : List Int} (h1 : IsL n p r) (h2 : IsL n p s) : r = s := by
  obtain ⟨a1, b1, c1⟩ := h1
  obtain ⟨a2, b2, c2⟩ := h2
  apply List.ext_getElem?
  intro j
  by_cases hj : j < n
  · have e : r.getD j 0 = s.getD j 0 := by
      apply tb_ext (wfs_at b1 j) (wfs_at b2 j)
      intro i hi
      have q1 := c1 (64 * j + i) (by omega)
      have q2 := c2 (64 * j + i) (by omega)
      unfold bt at q1 q2
      rw [show (64 * j + i) / 64 = j by omega, show (64 * j + i) % 64 = i by omega] at q1 q2
      rw [q1, q2]
    rw [List.getD_eq_getElem?_getD, List.getD_eq_getElem?_getD, List.getElem?_eq_getElem (by omega), List.getElem?_eq_getElem (by omega)] at e
    rw [List.getElem?_eq_getElem (by omega), List.getElem?_eq_getElem (by omega)]
    simpa using e
  · rw [List.getElem?_eq_none (by omega), List.getElem?_eq_none (by omega)]
theorem IsL.of {l : List Int} (h : wfs l) : IsL l.length (bt l) l := ⟨rfl, h, fun _ _ => rfl⟩
theorem IsL.congr {n : Nat} {p q : Nat → Bool} {r : List Int} (h : IsL n p r) (e : ∀ i, i < 64 * n → p i = q i) : IsL n q r := ⟨h.1, h.2.1, fun i hi => (h.2.2 i hi).trans (e i hi)⟩
/-- A word is stored whose bits are told. -/
theorem IsL.put {n : Nat} {p q : Nat → Bool} {r : List Int} (h : IsL n p r) (j : Nat) (hj : j < n) {x : Int} (hx : u64 x) (hb : ∀ i, i < 64 → tb x i = q (64 * j + i)) (ho : ∀ i, i < 64 * n → i / 64 ≠ j → p i = q i) : IsL n q (r.set j x) := by
  obtain ⟨a1, b1, c1⟩ := h
  refine ⟨by rw [List.length_set]; exact a1, wfs_set b1 j hx, fun i hi => ?_⟩
  unfold bt
  rw [getD_set _ _ _ _ (by omega)]
  by_cases e : i / 64 = j
  · rw [if_pos e, hb _ (by omega)]; congr 1; omega
  · rw [if_neg e, ← ho i hi e]; exact c1 i hi
theorem IsL.word {n : Nat} {p : Nat → Bool} {r : List Int} (h : IsL n p r) (j : Nat) (hj : j < n) : u64 (rd r j) ∧ ∀ i, i < 64 → tb (rd r j) i = p (64 * j + i) := by
  obtain ⟨a1, b1, c1⟩ := h
  rw [rd_nat]
  refine ⟨wfs_at b1 j, fun i hi => ?_⟩
  have := c1 (64 * j + i) (by omega)
  unfold bt at this
  rw [show (64 * j + i) / 64 = j by omega, show (64 * j + i) % 64 = i by omega] at this
  exact this
end Go.Proofs.YtinhjcoikhpblaaDoor.V
