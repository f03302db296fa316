/-
  bitset.Count counts the ones of a range. Conditions: the words are from 0 to 2^64 - 1.
-/
import Derived.Test.YtinhjcoikhpblaaDoorVe
import Derived.Test.YtinhjcoikhpblaaDoorVc
namespace Go.Proofs.YtinhjcoikhpblaaDoor.V
open Go.Proofs.YtinhjcoikhpblaaDoor.Q
open Go.RowKit Go.Proofs.YtinhjcoikhpblaaDoorW.PrintWords Go.Proofs.YtinhjcoikhpblaaDoorW.PrintLast Go.Proofs.YtinhjcoikhpblaaDoorW.PrintMore
set_option linter.unusedVariables false

/-- The number of places of p among the d from a on. -/
def cntB (p : Nat → Bool) : Nat → Nat → Nat
  | _, 0 => 0
  | a, d + 1 => (if p a = true then 1 else 0) + cntB p (a + 1) d
theorem cntB_add (p : Nat → Bool) : ∀ d a e, cntB p a (d + e) = cntB p a d + cntB p (a + d) e
  | 0, a, e => by simp [cntB]
  | d + 1, a, e => by
    rw [show d + 1 + e = (d + e) + 1 by omega]
    simp only [cntB]
    rw [cntB_add p d (a + 1) e, show a + 1 + d = a + (d + 1) by omega]
    omega
theorem cntB_congr {p q : Nat → Bool} (s : Nat) : ∀ d a, (∀ j, a ≤ j → j < a + d → p j = q (j + s)) → cntB p a d = cntB q (a + s) d
  | 0, a, h => rfl
  | d + 1, a, h => by
    simp only [cntB]
    rw [h a (Nat.le_refl _) (by omega), cntB_congr s d (a + 1) (fun j h1 h2 => h j (by omega) (by omega)), show a + 1 + s = a + s + 1 by omega]
theorem cntB_zero {p : Nat → Bool} : ∀ d a, (∀ j, a ≤ j → j < a + d → p j = false) → cntB p a d = 0
  | 0, a, h => rfl
  | d + 1, a, h => by
    simp only [cntB]
    rw [h a (Nat.le_refl _) (by omega), cntB_zero d (a + 1) (fun j h1 h2 => h j (by omega) (by omega))]
    rfl
theorem cntB_le (p : Nat → Bool) : ∀ d a, cntB p a d ≤ d
  | 0, a => Nat.le_refl _
  | d + 1, a => by
    have := cntB_le p d (a + 1)
    simp only [cntB]
    split <;> omega
theorem popF_cnt : ∀ n x, popF n x = cntB (fun i => x.testBit i) 0 n
  | 0, x => rfl
  | n + 1, x => by
    simp only [popF, cntB]
    rw [popF_cnt n (x / 2), cntB_congr (q := fun i => x.testBit i) 1 n 0 (fun j _ _ => by rw [Nat.testBit_succ])]
    congr 1
    have h : x.testBit 0 = decide (x % 2 = 1) := Nat.testBit_zero x
    show x % 2 = if x.testBit 0 = true then 1 else 0
    by_cases e : x % 2 = 1
    · rw [if_pos (by rw [h]; simpa using e)]; exact e
    · rw [if_neg (by rw [h]; simpa using e)]; omega
theorem word_cnt {y : Int} (q : Nat → Bool) (w lo hi : Nat) (h1 : lo ≤ hi) (h2 : hi ≤ 64) (hb : ∀ i, i < 64 → tb y i = (q (64 * w + i) && (decide (lo ≤ i) && decide (i < hi)))) : popF 64 y.toNat = cntB q (64 * w + lo) (hi - lo) := by
  have h0 : popF 64 y.toNat = popF (lo + (hi - lo) + (64 - hi)) y.toNat := by congr 1; omega
  rw [h0, popF_cnt, cntB_add, cntB_add]
  have e : ∀ i, i < 64 → y.toNat.testBit i = (q (64 * w + i) && (decide (lo ≤ i) && decide (i < hi))) := hb
  rw [cntB_zero lo 0 (fun j _ h => by rw [e j (by omega), decide_eq_false (show ¬ lo ≤ j by omega)]; simp), cntB_zero (64 - hi) _ (fun j h h' => by rw [e j (by omega), decide_eq_false (show ¬ j < hi by omega)]; simp),
    cntB_congr (q := q) (64 * w) (hi - lo) (0 + lo) (fun j h h' => by rw [e j (by omega), decide_eq_true (show lo ≤ j by omega), decide_eq_true (show j < hi by omega), Nat.add_comm j]; simp)]
  rw [show 0 + lo + 64 * w = 64 * w + lo by omega]
  omega
theorem count_l (n : Int) {l : List Int} (hw : wfs l) (hm : l.length ≤ 64) (b : Nat) (hb : b ≤ 64 * l.length) : ∀ (d at_ acc : Nat), b ≤ at_ + d → acc ≤ at_ → at_ ≤ b → Ev (fun k => bitset_Count.l0 k b acc at_ n l) ((acc + cntB (bt l) at_ (b - at_) : Nat) : Int)
  | d, at_, acc, hd, ha, hat' => by
    by_cases hat : at_ < b
    · obtain ⟨d, rfl⟩ : ∃ e, d = e + 1 := ⟨d - 1, by omega⟩
      obtain ⟨e, he⟩ : ∃ e, e = min b ((at_ / 64 + 1) * 64) := ⟨_, rfl⟩
      obtain ⟨mk, e1, e2, e3⟩ := mask_some (at_ % 64) (e - at_ / 64 * 64) (by omega) (by omega)
      obtain ⟨a1, a2⟩ := (IsL.of hw).word (at_ / 64) (by omega)
      obtain ⟨b1, b2⟩ := and_tb a1 e2
      have e4 := ones_some b1
      have e5 := word_cnt (y := Go.bits .and .u64 (rd l ((at_ / 64 : Nat) : Int)) mk) (bt l) (at_ / 64) (at_ % 64) (e - at_ / 64 * 64) (by omega) (by omega) (fun i hi => by rw [b2 i hi, a2 i hi, e3 i hi])
      rw [e5] at e4
      rw [show 64 * (at_ / 64) + at_ % 64 = at_ by omega, show e - at_ / 64 * 64 - at_ % 64 = e - at_ by omega] at e4
      have hle := cntB_le (bt l) (e - at_) at_
      have ih := count_l n hw hm b hb d e (acc + cntB (bt l) at_ (e - at_)) (by omega) (by omega) (by omega)
      have hsum : acc + cntB (bt l) at_ (b - at_) = acc + cntB (bt l) at_ (e - at_) + cntB (bt l) e (b - e) := by
        rw [show b - at_ = (e - at_) + (b - e) by omega, cntB_add, show at_ + (e - at_) = e by omega]
        omega
      rw [hsum]
      refine Ev.step (fun k => ?_) ih
      simp only [bitset_Count.l0, if_pos (show (at_ : Int) < (b : Int) by omega)]
      rw [td, tm, w64 (n := ((at_ / 64 : Nat) : Int)) (by omega), w64 (n := ((at_ / 64 : Nat) : Int) + 1) (by omega), show ((at_ / 64 : Nat) : Int) + 1 = ((at_ / 64 + 1 : Nat) : Int) by omega,
        w64 (n := ((at_ / 64 + 1 : Nat) : Int) * 64) (by omega), show ((at_ / 64 + 1 : Nat) : Int) * 64 = (((at_ / 64 + 1) * 64 : Nat) : Int) by omega, mn_nat, ← he,
        w64 (n := ((at_ / 64 : Nat) : Int) * 64) (by omega), w64 (n := (e : Int) - ((at_ / 64 : Nat) : Int) * 64) (by omega),
        show (e : Int) - ((at_ / 64 : Nat) : Int) * 64 = ((e - at_ / 64 * 64 : Nat) : Int) by omega, e1,
        if_pos (show (0 : Int) ≤ ((at_ / 64 : Nat) : Int) by omega), if_pos (show ((at_ / 64 : Nat) : Int) < (l.length : Int) by omega), Option.bind_some, e4, Option.bind_some, w64 (by omega)]
      rfl
    · rw [show b - at_ = 0 by omega]
      exact Ev.step (f := fun k => some (acc : Int)) (fun k => by simp only [bitset_Count.l0, if_neg (show ¬ (at_ : Int) < (b : Int) by omega)]) (Ev.now _)
theorem count_ev (n : Int) {l : List Int} (hw : wfs l) (a b : Int) : ∃ c, Ev (fun k => bitset_Count.f k n l a b) c ∧ (Good n l → 0 ≤ a → a ≤ b → b ≤ n → c = ((cntB (bt l) a.toNat (b.toNat - a.toNat) : Nat) : Int)) ∧ (¬ (Good n l ∧ 0 ≤ a ∧ a ≤ b ∧ b ≤ n) → c = 0) := by
  obtain ⟨e, c1, _, c3⟩ := check_ev n hw
  have bad : ∀ d : Bool, d = true → Ev (fun k => bitset_Count.j0 k a b d n l) 0 := fun d hd => Ev.step (f := fun _ => some 0) (fun k => by simp [bitset_Count.j0, hd]) (Ev.now _)
  unfold bitset_Count.f
  by_cases he : e = 0
  · subst he
    have hg := c3.mp rfl
    by_cases h1 : a < 0
    · exact ⟨0, Ev.bind c1 (Ev.congr (fun k => (if_pos rfl).trans (if_pos h1)) (bad true rfl)), fun _ q _ _ => absurd q (by omega), fun _ => rfl⟩
    by_cases h2 : a > b
    · exact ⟨0, Ev.bind c1 (Ev.congr (fun k => (if_pos rfl).trans ((if_neg h1).trans (if_pos h2))) (bad true rfl)), fun _ _ q _ => absurd q (by omega), fun _ => rfl⟩
    by_cases h3 : b > n
    · exact ⟨0, Ev.bind c1 (Ev.congr (fun k => (if_pos rfl).trans ((if_neg h1).trans (if_neg h2))) (bad _ (decide_eq_true h3))), fun _ _ _ q => absurd q (by omega), fun _ => rfl⟩
    obtain ⟨a, rfl⟩ : ∃ m : Nat, a = m := ⟨a.toNat, by omega⟩
    obtain ⟨b, rfl⟩ : ∃ m : Nat, b = m := ⟨b.toNat, by omega⟩
    have hs := hg.small
    have hl := hg.len
    have hlo := hg.lo
    have hc := count_l n hw hs b (by omega) b a 0 (by omega) (by omega) (by omega)
    rw [Nat.zero_add] at hc
    refine ⟨_, Ev.bind c1 (Ev.congr (fun k => (if_pos rfl).trans ((if_neg h1).trans (if_neg h2))) (Ev.step (fun k => ?_) hc)), fun _ _ _ _ => rfl, fun h => absurd ⟨hg, by omega, by omega, by omega⟩ h⟩
    simp only [bitset_Count.j0, decide_eq_false h3, Bool.false_eq_true, if_false]
    rfl
  · exact ⟨0, Ev.bind c1 (Ev.congr (fun k => if_neg he) (bad true rfl)), fun q _ _ _ => absurd (c3.mpr q) he, fun _ => rfl⟩
theorem bget_ev {n : Int} {l : List Int} (hg : Good n l) (hw : wfs l) (j : Nat) (hj : (j : Int) < n) : Ev (fun k => bitset_Get.f k n l j) (bt l j) := by
  obtain ⟨e, c1, _, c3⟩ := check_ev n hw
  obtain rfl := c3.mpr hg
  have hs := hg.small
  have hl := hg.len
  have e1 := get_some n hw (by omega) j (by omega)
  unfold bitset_Get.f
  exact Ev.bind c1 (Ev.none_k fun k => by rw [if_pos rfl, if_pos (by omega), if_pos hj, e1]; rfl)
end Go.Proofs.YtinhjcoikhpblaaDoor.V
