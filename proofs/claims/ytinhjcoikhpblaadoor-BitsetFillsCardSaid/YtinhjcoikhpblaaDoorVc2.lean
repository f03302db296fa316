/-
  Fill and its reference are alike. Condition: the words are from 0 to 2^64 - 1.
-/
import Derived.Test.YtinhjcoikhpblaaDoorVc
import Derived.Test.YtinhjcoikhpblaaDoorVb2
import Derived.Test.YtinhjcoikhpblaaDoorQ107
namespace Go.Proofs.YtinhjcoikhpblaaDoor.V
open Go.Proofs.YtinhjcoikhpblaaDoor.Q
open Go.RowKit Go.Proofs.YtinhjcoikhpblaaDoorW.PrintWords Go.Proofs.YtinhjcoikhpblaaDoorW.PrintLast Go.Proofs.YtinhjcoikhpblaaDoorW.PrintMore
set_option linter.unusedVariables false
theorem rfill_l (n : Int) (m tt : Nat) (on : Bool) (hm : m ≤ 64) (hto : tt ≤ 64 * m) : ∀ (d at_ : Nat) (r : List Int) (p : Nat → Bool), tt ≤ at_ + d → IsL m p r → ∃ r', Ev (fun k => estoversref01_Fill.l0 k tt on at_ n r) (n, r', 0) ∧ IsL m (fillB p at_ tt on) r'
  | d, at_, r, p, hd, h => by
    by_cases hat : at_ < tt
    · obtain ⟨d, rfl⟩ : ∃ e, d = e + 1 := ⟨d - 1, by omega⟩
      obtain ⟨s, e1, e2⟩ := put_some n h (by omega) at_ (by omega) on
      obtain ⟨r', f1, f2⟩ := rfill_l n m tt on hm hto d (at_ + 1) s _ (by omega) e2
      refine ⟨r', Ev.step (fun k => ?_) f1, f2.congr fun j hj => ?_⟩
      · simp only [estoversref01_Fill.l0, if_pos (show (at_ : Int) < (tt : Int) by omega), e1, Option.bind_some]
        rw [w64 (by omega)]
        rfl
      · dsimp only [fillB]
        by_cases c1 : at_ ≤ j ∧ j < tt
        · rw [if_pos c1]
          by_cases c2 : at_ + 1 ≤ j ∧ j < tt
          · rw [if_pos c2]
          · rw [if_neg c2, if_pos (by omega)]
        · rw [if_neg c1, if_neg (by omega), if_neg (by omega)]
    · refine ⟨r, Ev.step (f := fun k => some (n, r, 0)) (fun k => by simp only [estoversref01_Fill.l0, if_neg (show ¬ (at_ : Int) < (tt : Int) by omega)]) (Ev.now _), ?_⟩
      rw [fillB_none (by omega)]
      exact h
/-- Fill and its reference: alike; and where it answers 0, what is put. -/
theorem fill_ev (n : Int) {l : List Int} (hw : wfs l) (a b : Int) (on : Bool) : ∃ m r e, Ev (fun k => bitset_Fill.f k n l a b on) (m, r, e) ∧ Ev (fun k => estoversref01_Fill.f k n l a b on) (m, r, e) ∧
    (Good n l → 0 ≤ a → a ≤ b → b ≤ n → m = n ∧ e = 0 ∧ IsL l.length (fillB (bt l) a.toNat b.toNat on) r) ∧ (e = 0 → Good n l ∧ 0 ≤ a ∧ a ≤ b ∧ b ≤ n) ∧ r.length ≤ 64 := by
  obtain ⟨e, c1, c2, c3⟩ := check_ev n hw
  by_cases he : e = 0
  · subst he
    have hg := c3.mp rfl
    have out : ∀ d : Bool, d = true → (∀ k, bitset_Fill.j0 (k + 1) a b on d n l = some (0, [], 2)) ∧ (∀ k, estoversref01_Fill.j0 (k + 1) a b on d n l = some (0, [], 2)) := by
      intro d hd; subst hd
      exact ⟨fun k => by simp [bitset_Fill.j0], fun k => by simp [estoversref01_Fill.j0]⟩
    have bad : ∀ f g : Nat → Option (Int × List Int × Int), (∀ k, f (k + 1) = some (0, [], 2)) → (∀ k, g (k + 1) = some (0, [], 2)) → (∀ k, bitset_Fill.f k n l a b on = (bitset_Check.f k n l).bind fun t => if t = 0 then f k else some (0, [], t)) →
        (∀ k, estoversref01_Fill.f k n l a b on = (estoversref01_Check.f k n l).bind fun t => if t = 0 then g k else some (0, [], t)) → ¬ (0 ≤ a ∧ a ≤ b ∧ b ≤ n) →
        ∃ m r e, Ev (fun k => bitset_Fill.f k n l a b on) (m, r, e) ∧ Ev (fun k => estoversref01_Fill.f k n l a b on) (m, r, e) ∧
        (Good n l → 0 ≤ a → a ≤ b → b ≤ n → m = n ∧ e = 0 ∧ IsL l.length (fillB (bt l) a.toNat b.toNat on) r) ∧ (e = 0 → Good n l ∧ 0 ≤ a ∧ a ≤ b ∧ b ≤ n) ∧ r.length ≤ 64 := by
      intro f g hf hgg e1 e2 hn
      refine ⟨0, [], 2, Ev.congr e1 (Ev.bind c1 ?_), Ev.congr e2 (Ev.bind c2 ?_), fun _ q1 q2 q3 => absurd ⟨q1, q2, q3⟩ hn, (fun h => by cases h), Nat.zero_le _⟩
      · exact Ev.congr (fun k => by rw [if_pos rfl]) (Ev.step (f := fun _ => some (0, [], 2)) hf (Ev.now _))
      · exact Ev.congr (fun k => by rw [if_pos rfl]) (Ev.step (f := fun _ => some (0, [], 2)) hgg (Ev.now _))
    by_cases h1 : a < 0
    · refine bad (fun k => bitset_Fill.j0 k a b on true n l) (fun k => estoversref01_Fill.j0 k a b on true n l) (out true rfl).1 (out true rfl).2 (fun k => ?_) (fun k => ?_) (by omega)
      · unfold bitset_Fill.f; simp only [if_pos h1]
      · unfold estoversref01_Fill.f; simp only [if_pos h1]
    by_cases h2 : a > b
    · refine bad (fun k => bitset_Fill.j0 k a b on true n l) (fun k => estoversref01_Fill.j0 k a b on true n l) (out true rfl).1 (out true rfl).2 (fun k => ?_) (fun k => ?_) (by omega)
      · unfold bitset_Fill.f; simp only [if_neg h1, if_pos h2]
      · unfold estoversref01_Fill.f; simp only [if_neg h1, if_pos h2]
    by_cases h3 : b > n
    · refine bad (fun k => bitset_Fill.j0 k a b on (decide (b > n)) n l) (fun k => estoversref01_Fill.j0 k a b on (decide (b > n)) n l) (out _ (decide_eq_true h3)).1 (out _ (decide_eq_true h3)).2 (fun k => ?_) (fun k => ?_) (by omega)
      · unfold bitset_Fill.f; simp only [if_neg h1, if_neg h2]
      · unfold estoversref01_Fill.f; simp only [if_neg h1, if_neg h2]
    obtain ⟨a, rfl⟩ : ∃ m : Nat, a = m := ⟨a.toNat, by omega⟩
    obtain ⟨b, rfl⟩ : ∃ m : Nat, b = m := ⟨b.toNat, by omega⟩
    have hs := hg.small
    have hlen := hg.len
    obtain ⟨r, f1, f2⟩ := fill_l n l.length b on hs (by have := hg.lo; omega) b a l _ (by omega) (IsL.of hw)
    obtain ⟨s, g1, g2⟩ := rfill_l n l.length b on hs (by have := hg.lo; omega) b a l _ (by omega) (IsL.of hw)
    obtain rfl := f2.uniq g2
    refine ⟨n, r, 0, ?_, ?_, fun _ _ _ _ => ⟨rfl, rfl, f2⟩, fun _ => ⟨hg, by omega, by omega, by omega⟩, by rw [f2.1]; exact hs⟩
    · refine Ev.congr (f := fun k => (bitset_Check.f k n l).bind fun t => if t = 0 then bitset_Fill.j0 k a b on false n l else some (0, [], t)) (fun k => ?_) (Ev.bind c1 ?_)
      · unfold bitset_Fill.f; simp only [if_neg h1, if_neg h2, decide_eq_false h3]
      · refine Ev.congr (f := fun k => bitset_Fill.j0 k a b on false n l) (fun k => by rw [if_pos rfl]) (Ev.step (fun k => ?_) f1)
        simp only [bitset_Fill.j0, Bool.false_eq_true, if_false, clone_some hs, Option.bind_some]
    · refine Ev.congr (f := fun k => (estoversref01_Check.f k n l).bind fun t => if t = 0 then estoversref01_Fill.j0 k a b on false n l else some (0, [], t)) (fun k => ?_) (Ev.bind c2 ?_)
      · unfold estoversref01_Fill.f; simp only [if_neg h1, if_neg h2, decide_eq_false h3]
      · refine Ev.congr (f := fun k => estoversref01_Fill.j0 k a b on false n l) (fun k => by rw [if_pos rfl]) (Ev.step (f := fun k => (estoversref01_Copy.f k n l).bind fun bt239 => (estoversref01_Fill.l0 k b on a bt239.1 bt239.2)) (fun k => ?_) (Ev.bind (copy_ev n l (by omega)) g1))
        simp only [estoversref01_Fill.j0, Bool.false_eq_true, if_false]
  · refine ⟨0, [], e, ?_, ?_, fun hg _ _ _ => absurd (c3.mpr hg) he, (fun h => absurd h he), Nat.zero_le _⟩
    · unfold bitset_Fill.f
      exact Ev.bind c1 (Ev.congr (fun k => by rw [if_neg he]) (Ev.now _))
    · unfold estoversref01_Fill.f
      exact Ev.bind c2 (Ev.congr (fun k => by rw [if_neg he]) (Ev.now _))
end Go.Proofs.YtinhjcoikhpblaaDoor.V
