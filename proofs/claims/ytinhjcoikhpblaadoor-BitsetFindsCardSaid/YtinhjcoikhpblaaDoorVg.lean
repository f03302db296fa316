/-
  bitset.Find returns the lowest index from an index on with the value that is looked for. Conditions: the words are from 0 to 2^64 - 1.
-/
import Derived.Test.YtinhjcoikhpblaaDoorVf
import Derived.Test.YtinhjcoikhpblaaDoorQ201
namespace Go.Proofs.YtinhjcoikhpblaaDoor.V
open Go.Proofs.YtinhjcoikhpblaaDoor.Q
open Go.RowKit Go.Proofs.YtinhjcoikhpblaaDoorW.PrintWords Go.Proofs.YtinhjcoikhpblaaDoorW.PrintLast Go.Proofs.YtinhjcoikhpblaaDoorW.PrintMore
set_option linter.unusedVariables false

theorem ctz_spec {x : Int} (hx : u64 x) (h0 : x ≠ 0) : ∃ c : Nat, bits_TrailingZeros64.f x = some (c : Int) ∧ c < 64 ∧ tb x c = true ∧ ∀ i, i < c → tb x i = false := by
  obtain ⟨n, rfl⟩ : ∃ n : Nat, x = n := ⟨x.toNat, by have := hx.1; omega⟩
  have hn : n ≠ 0 := by omega
  obtain ⟨m, h1, h2⟩ := Lib.ctzFrom_spec 64 n (by omega) (by have := hx.2; omega)
  refine ⟨Lib.ctzFrom 64 n, ?_, h2, ?_, fun i hi => ?_⟩
  · unfold bits_TrailingZeros64.f Lib.ctz
    rw [if_pos ⟨by omega, hx.2⟩, Int.toNat_natCast, if_neg hn]
  · show n.testBit _ = true
    generalize Lib.ctzFrom 64 n = c at *
    rw [h1, Nat.testBit_two_pow_mul, Nat.sub_self, Nat.testBit_zero]
    simp
  · show n.testBit _ = false
    generalize Lib.ctzFrom 64 n = c at *
    rw [h1, Nat.testBit_two_pow_mul, decide_eq_false (by omega)]
    rfl
theorem tz0 : bits_TrailingZeros64.f 0 = some 64 := by
  unfold bits_TrailingZeros64.f Lib.ctz
  rw [if_pos ⟨by omega, by omega⟩, if_pos (by simp)]
  simp
/-- What a search says. -/
def Found (n from_ : Nat) (on : Bool) (p : Nat → Bool) (v : Int) : Prop :=
  (v = -1 ∧ ∀ j, from_ ≤ j → j < n → p j ≠ on) ∨ ∃ q : Nat, v = q ∧ from_ ≤ q ∧ q < n ∧ p q = on ∧ ∀ j, from_ ≤ j → j < q → p j ≠ on
theorem key1 (k from_ w c n : Nat) (on : Bool) (y : Int) (l : List Int) (h0 : ¬ y = 0) (e1 : bits_TrailingZeros64.f y = some (c : Int)) :
    bitset_Find.j3 (k + 1) from_ on w y n l = if (wrap64 (wrap64 ((w : Int) * 64) + (c : Int))) < n then some (wrap64 (wrap64 ((w : Int) * 64) + (c : Int))) else some (-1) := by
  rw [bitset_Find.j3, e1, Option.bind_some, if_neg h0]
theorem key2 (w c : Nat) (hw : w ≤ 64) (hc : c < 64) : wrap64 (wrap64 ((w : Int) * 64) + (c : Int)) = ((64 * w + c : Nat) : Int) := by
  rw [w64 (n := (w : Int) * 64) (by omega), w64 (by omega)]
  omega
theorem find_l (n from_ : Nat) (on : Bool) {l : List Int} (hw : wfs l) (hm : l.length ≤ 64) (hn : n ≤ 64 * l.length) (hf : from_ < n) : ∀ (d w : Nat), l.length ≤ w + d → from_ / 64 ≤ w → (∀ j, from_ ≤ j → j < 64 * w → bt l j ≠ on) →
    ∃ v, Ev (fun k => bitset_Find.l0 k from_ on w n l) v ∧ Found n from_ on (bt l) v
  | d, w, hd, hfw, hno => by
    by_cases hwl : w < l.length
    · obtain ⟨d, rfl⟩ : ∃ e, d = e + 1 := ⟨d - 1, by omega⟩
      obtain ⟨a1, a2⟩ := (IsL.of hw).word w hwl
      -- the word, turned where zeros are looked for
      obtain ⟨x, hx1, hx2, hx3⟩ : ∃ x, u64 x ∧ (∀ i, i < 64 → tb x i = (bt l (64 * w + i) == on)) ∧ (∀ k, bitset_Find.l0 (k + 1) from_ on w n l = bitset_Find.j2 k from_ on w x n l) := by
        cases on with
        | true =>
          refine ⟨rd l w, a1, fun i hi => by rw [a2 i hi]; simp, fun k => ?_⟩
          simp only [bitset_Find.l0, if_pos (show (w : Int) < (l.length : Int) by omega), if_pos (show (0 : Int) ≤ w by omega), if_true]
        | false =>
          obtain ⟨b1, b2⟩ := not_tb a1
          refine ⟨_, b1, fun i hi => by rw [b2 i hi, a2 i hi]; simp, fun k => ?_⟩
          simp only [bitset_Find.l0, if_pos (show (w : Int) < (l.length : Int) by omega), if_pos (show (0 : Int) ≤ w by omega), Bool.false_eq_true, if_false]
      obtain ⟨y, hy1, hy2, hy3⟩ : ∃ y, u64 y ∧ (∀ i, i < 64 → tb y i = ((bt l (64 * w + i) == on) && decide (from_ ≤ 64 * w + i))) ∧ (∀ k, bitset_Find.j2 (k + 1) from_ on w x n l = bitset_Find.j3 k from_ on w y n l) := by
        have e1 : wrap64 (Int.tdiv (from_ : Int) 64) = ((from_ / 64 : Nat) : Int) := by rw [td, w64 (by omega)]
        by_cases h : w = from_ / 64
        · obtain ⟨mk, m1, m2, m3⟩ := mask_some (from_ % 64) 64 (by omega) (by omega)
          rw [show ((64 : Nat) : Int) = 64 from rfl] at m1
          obtain ⟨c1, c2⟩ := and_tb hx1 m2
          refine ⟨_, c1, fun i hi => ?_, fun k => ?_⟩
          · rw [c2 i hi, hx2 i hi, m3 i hi, decide_eq_true hi, Bool.and_true]
            congr 1
            exact decide_eq_decide.mpr (by omega)
          · simp only [bitset_Find.j2, e1, if_pos (show (w : Int) = ((from_ / 64 : Nat) : Int) by omega), tm, m1, Option.bind_some]
        · refine ⟨x, hx1, fun i hi => by rw [hx2 i hi, decide_eq_true (by omega), Bool.and_true], fun k => ?_⟩
          simp only [bitset_Find.j2, e1, if_neg (show ¬ (w : Int) = ((from_ / 64 : Nat) : Int) by omega)]
      by_cases h0 : y = 0
      · have hno' : ∀ j, from_ ≤ j → j < 64 * (w + 1) → bt l j ≠ on := by
          intro j h1 h2
          by_cases h3 : j < 64 * w
          · exact hno j h1 h3
          · have := hy2 (j - 64 * w) (by omega)
            rw [h0, tb_zero, show 64 * w + (j - 64 * w) = j by omega, decide_eq_true h1, Bool.and_true] at this
            intro e
            rw [e] at this
            simp at this
        obtain ⟨v, f1, f2⟩ := find_l n from_ on hw hm hn hf d (w + 1) (by omega) (by omega) hno'
        refine ⟨v, Ev.step hx3 (Ev.step hy3 (Ev.step (fun k => ?_) f1)), f2⟩
        have e1 : bits_TrailingZeros64.f y = some 64 := by
          rw [h0]; exact tz0
        simp only [bitset_Find.j3, e1, Option.bind_some, if_pos h0]
        rw [w64 (by omega)]
        rfl
      · obtain ⟨c, e1, e2, e3, e4⟩ := ctz_spec hy1 h0
        have hq := hy2 c e2
        rw [e3] at hq
        obtain ⟨hq1, hq2⟩ := (Bool.and_eq_true _ _).mp hq.symm
        have hq3 : bt l (64 * w + c) = on := by simpa using hq1
        have hq4 : from_ ≤ 64 * w + c := of_decide_eq_true hq2
        have hno' : ∀ j, from_ ≤ j → j < 64 * w + c → bt l j ≠ on := by
          intro j h1 h2
          by_cases h3 : j < 64 * w
          · exact hno j h1 h3
          · have h4 := hy2 (j - 64 * w) (by omega)
            rw [e4 _ (by omega), show 64 * w + (j - 64 * w) = j by omega, decide_eq_true h1, Bool.and_true] at h4
            intro e
            rw [e] at h4
            simp at h4
        have key : ∀ k, bitset_Find.j3 (k + 1) from_ on w y n l = if ((64 * w + c : Nat) : Int) < n then some ((64 * w + c : Nat) : Int) else some (-1) := by
          intro k
          rw [key1 k from_ w c n on y l h0 e1, key2 w c (by omega) e2]
        by_cases h5 : 64 * w + c < n
        · exact ⟨_, Ev.step hx3 (Ev.step hy3 (Ev.step (fun k => (key k).trans (if_pos (by omega))) (Ev.now _))), .inr ⟨_, rfl, hq4, h5, hq3, hno'⟩⟩
        · exact ⟨_, Ev.step hx3 (Ev.step hy3 (Ev.step (fun k => (key k).trans (if_neg (by omega))) (Ev.now _))), .inl ⟨rfl, fun j h1 h2 => hno' j h1 (by omega)⟩⟩
    · refine ⟨-1, Ev.step (f := fun _ => some (-1)) (fun k => by simp only [bitset_Find.l0, if_neg (show ¬ (w : Int) < (l.length : Int) by omega)]) (Ev.now _), .inl ⟨rfl, fun j h1 h2 => hno j h1 (by omega)⟩⟩
theorem find_ev (n : Int) {l : List Int} (hw : wfs l) (a : Int) (on : Bool) : ∃ v, Ev (fun k => bitset_Find.f k n l a on) v ∧ (Good n l → 0 ≤ a → a < n → Found n.toNat a.toNat on (bt l) v) ∧ (¬ (Good n l ∧ 0 ≤ a ∧ a < n) → v = -1) := by
  obtain ⟨e, c1, _, c3⟩ := check_ev n hw
  have bad : ∀ d : Bool, d = true → Ev (fun k => bitset_Find.j0 k a on d n l) (-1) := fun d hd => Ev.step (f := fun _ => some (-1)) (fun k => by simp [bitset_Find.j0, hd]) (Ev.now _)
  unfold bitset_Find.f
  by_cases he : e = 0
  · subst he
    have hg := c3.mp rfl
    by_cases h1 : a < 0
    · exact ⟨-1, Ev.bind c1 (Ev.congr (fun k => (if_pos rfl).trans (if_pos h1)) (bad true rfl)), fun _ q _ => absurd q (by omega), fun _ => rfl⟩
    by_cases h2 : a ≥ n
    · exact ⟨-1, Ev.bind c1 (Ev.congr (fun k => (if_pos rfl).trans (if_neg h1)) (bad _ (decide_eq_true h2))), fun _ _ q => absurd q (by omega), fun _ => rfl⟩
    obtain ⟨a, rfl⟩ : ∃ m : Nat, a = m := ⟨a.toNat, by omega⟩
    obtain ⟨n, rfl⟩ : ∃ m : Nat, n = m := ⟨n.toNat, by omega⟩
    have hs := hg.small
    have hl := hg.len
    obtain ⟨v, f1, f2⟩ := find_l n a on hw hs (by omega) (by omega) l.length (a / 64) (by omega) (Nat.le_refl _) (fun j h3 h4 => by omega)
    refine ⟨v, Ev.bind c1 (Ev.congr (fun k => (if_pos rfl).trans (if_neg h1)) (Ev.step (fun k => ?_) f1)), fun _ _ _ => f2, fun h => absurd ⟨hg, by omega, by omega⟩ h⟩
    simp only [bitset_Find.j0, decide_eq_false h2, Bool.false_eq_true, if_false]
    rw [td, w64 (by omega)]
  · exact ⟨-1, Ev.bind c1 (Ev.congr (fun k => if_neg he) (bad true rfl)), fun q _ _ => absurd (c3.mpr q) he, fun _ => rfl⟩
end Go.Proofs.YtinhjcoikhpblaaDoor.V
