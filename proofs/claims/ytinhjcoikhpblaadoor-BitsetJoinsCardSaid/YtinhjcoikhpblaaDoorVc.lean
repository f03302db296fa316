/-
  What bitset.Fill comes to, bit by bit. Conditions: the words are from 0 to 2^64 - 1.
-/
import Derived.Test.YtinhjcoikhpblaaDoorVb
import Derived.Test.YtinhjcoikhpblaaDoorEClone
import Derived.Test.YtinhjcoikhpblaaDoorQ200
namespace Go.Proofs.YtinhjcoikhpblaaDoor.V
open Go.Proofs.YtinhjcoikhpblaaDoor.Q
open Go.RowKit Go.Proofs.YtinhjcoikhpblaaDoorW.PrintWords Go.Proofs.YtinhjcoikhpblaaDoorW.PrintLast Go.Proofs.YtinhjcoikhpblaaDoorW.PrintMore
set_option linter.unusedVariables false
theorem clone_some {l : List Int} (h : l.length ≤ 64) : slices_Clone_uint64_uint64.f l = some l := by unfold slices_Clone_uint64_uint64.f; rw [if_pos (by omega)]
theorem mn_nat (a b : Nat) : mn (a : Int) (b : Int) = ((min a b : Nat) : Int) := by
  unfold mn
  by_cases h : b < a
  · rw [if_pos (by omega), Nat.min_eq_right (by omega)]
  · rw [if_neg (by omega), Nat.min_eq_left (by omega)]
/-- A range of bits is put. -/
def fillB (p : Nat → Bool) (a b : Nat) (on : Bool) (j : Nat) : Bool := if a ≤ j ∧ j < b then on else p j
theorem fillB_none {p : Nat → Bool} {a b : Nat} {on : Bool} (h : b ≤ a) : fillB p a b on = p := by
  funext j; unfold fillB; rw [if_neg (by omega)]
theorem word_put {r : List Int} {m : Nat} {p : Nat → Bool} (h : IsL m p r) (w : Nat) (hw : w < m) (lo hi : Nat) (h1 : lo < 64) (h2 : hi ≤ 64) (on : Bool) (mk : Int) (hm : u64 mk) (hb : ∀ i, i < 64 → tb mk i = (decide (lo ≤ i) && decide (i < hi))) :
    IsL m (fillB p (64 * w + lo) (64 * w + hi) on) (r.set w (if on = true then Go.bits .or .u64 (rd r w) mk else Go.bits .andNot .u64 (rd r w) mk)) := by
  obtain ⟨a1, a2⟩ := h.word w hw
  have ho : ∀ i, i < 64 * m → i / 64 ≠ w → p i = fillB p (64 * w + lo) (64 * w + hi) on i := by
    intro i hj hne
    unfold fillB
    rw [if_neg (by omega)]
  cases on with
  | true =>
    obtain ⟨b1, b2⟩ := or_tb a1 hm
    refine h.put w hw (x := Go.bits .or .u64 (rd r w) mk) b1 (fun i hj => ?_) ho
    rw [b2 i hj, a2 i hj, hb i hj]
    unfold fillB
    by_cases c : lo ≤ i ∧ i < hi
    · rw [if_pos (by omega), decide_eq_true c.1, decide_eq_true c.2]; simp
    · rw [if_neg (by omega)]
      have : (decide (lo ≤ i) && decide (i < hi)) = false := by rw [← Bool.decide_and]; exact decide_eq_false c
      rw [this, Bool.or_false]
  | false =>
    obtain ⟨b1, b2⟩ := andNot_tb a1 hm
    refine h.put w hw (x := Go.bits .andNot .u64 (rd r w) mk) b1 (fun i hj => ?_) ho
    rw [b2 i hj, a2 i hj, hb i hj]
    unfold fillB
    by_cases c : lo ≤ i ∧ i < hi
    · rw [if_pos (by omega), decide_eq_true c.1, decide_eq_true c.2]; simp
    · rw [if_neg (by omega)]
      have : (decide (lo ≤ i) && decide (i < hi)) = false := by rw [← Bool.decide_and]; exact decide_eq_false c
      rw [this]; simp
theorem fill_l (n : Int) (m tt : Nat) (on : Bool) (hm : m ≤ 64) (hto : tt ≤ 64 * m) : ∀ (d at_ : Nat) (r : List Int) (p : Nat → Bool), tt ≤ at_ + d → IsL m p r → ∃ r', Ev (fun k => bitset_Fill.l0 k tt on at_ n r) (n, r', 0) ∧ IsL m (fillB p at_ tt on) r'
  | d, at_, r, p, hd, h => by
    by_cases hat : at_ < tt
    · obtain ⟨d, rfl⟩ : ∃ e, d = e + 1 := ⟨d - 1, by omega⟩
      obtain ⟨mk, e1, e2, e3⟩ := mask_some (at_ % 64) (min tt ((at_ / 64 + 1) * 64) - at_ / 64 * 64) (by omega) (by omega)
      have hp := word_put h (at_ / 64) (by omega) (at_ % 64) (min tt ((at_ / 64 + 1) * 64) - at_ / 64 * 64) (by omega) (by omega) on mk e2 e3
      obtain ⟨r', f1, f2⟩ := fill_l n m tt on hm hto d (min tt ((at_ / 64 + 1) * 64)) _ _ (by omega) hp
      refine ⟨r', Ev.step (fun k => ?_) f1, f2.congr fun j hj => ?_⟩
      · have hl := h.1
        simp only [bitset_Fill.l0, if_pos (show (at_ : Int) < (tt : Int) by omega)]
        rw [td, tm, w64 (n := ((at_ / 64 : Nat) : Int)) (by omega), w64 (n := ((at_ / 64 : Nat) : Int) + 1) (by omega), show ((at_ / 64 : Nat) : Int) + 1 = ((at_ / 64 + 1 : Nat) : Int) by omega,
          w64 (n := ((at_ / 64 + 1 : Nat) : Int) * 64) (by omega), show ((at_ / 64 + 1 : Nat) : Int) * 64 = (((at_ / 64 + 1) * 64 : Nat) : Int) by omega, mn_nat,
          w64 (n := ((at_ / 64 : Nat) : Int) * 64) (by omega), w64 (n := ((min tt ((at_ / 64 + 1) * 64) : Nat) : Int) - ((at_ / 64 : Nat) : Int) * 64) (by omega),
          show ((min tt ((at_ / 64 + 1) * 64) : Nat) : Int) - ((at_ / 64 : Nat) : Int) * 64 = ((min tt ((at_ / 64 + 1) * 64) - at_ / 64 * 64 : Nat) : Int) by omega, e1, Option.bind_some]
        simp only [if_pos (show (0 : Int) ≤ ((at_ / 64 : Nat) : Int) by omega), if_pos (show ((at_ / 64 : Nat) : Int) < (r.length : Int) by omega), Int.toNat_natCast]
        cases on <;> rfl
      · unfold fillB
        by_cases c1 : at_ ≤ j ∧ j < tt
        · rw [if_pos c1]
          by_cases c2 : min tt ((at_ / 64 + 1) * 64) ≤ j ∧ j < tt
          · rw [if_pos c2]
          · rw [if_neg c2, if_pos (by omega)]
        · rw [if_neg c1, if_neg (by omega), if_neg (by omega)]
    · refine ⟨r, Ev.step (f := fun k => some (n, r, 0)) (fun k => by simp only [bitset_Fill.l0, if_neg (show ¬ (at_ : Int) < (tt : Int) by omega)]) (Ev.now _), ?_⟩
      rw [fillB_none (by omega)]
      exact h
theorem Good.of_isL {n : Int} {l r : List Int} {q : Nat → Bool} (h : Good n l) (hr : IsL l.length q r) (hq : ∀ j : Nat, n ≤ j → j < 64 * l.length → q j = false) : Good n r :=
  ⟨h.lo, h.hi, by rw [hr.1]; exact h.len, fun i h1 h2 => by rw [hr.1] at h2; rw [hr.2.2 i h2]; exact hq i h1 h2⟩
theorem bfill_ev {n : Int} {l : List Int} (hg : Good n l) (hw : wfs l) (a b : Nat) (hab : a ≤ b) (hb : (b : Int) ≤ n) (on : Bool) : ∃ r, Ev (fun k => bitset_Fill.f k n l a b on) (n, r, 0) ∧ IsL l.length (fillB (bt l) a b on) r := by
  obtain ⟨e, c1, _, c3⟩ := check_ev n hw
  obtain rfl := c3.mpr hg
  have hs := hg.small
  have hlen := hg.len
  obtain ⟨r, f1, f2⟩ := fill_l n l.length b on hs (by have := hg.lo; omega) b a l _ (by omega) (IsL.of hw)
  refine ⟨r, ?_, f2⟩
  refine Ev.congr (f := fun k => (bitset_Check.f k n l).bind fun t => if t = 0 then bitset_Fill.j0 k a b on false n l else some (0, [], t)) (fun k => ?_) (Ev.bind c1 ?_)
  · unfold bitset_Fill.f; simp only [if_neg (show ¬ (a : Int) < 0 by omega), if_neg (show ¬ (a : Int) > b by omega), decide_eq_false (show ¬ (b : Int) > n by omega)]
  · refine Ev.congr (f := fun k => bitset_Fill.j0 k a b on false n l) (fun k => by rw [if_pos rfl]) (Ev.step (fun k => ?_) f1)
    simp only [bitset_Fill.j0, Bool.false_eq_true, if_false, clone_some hs, Option.bind_some]
end Go.Proofs.YtinhjcoikhpblaaDoor.V
