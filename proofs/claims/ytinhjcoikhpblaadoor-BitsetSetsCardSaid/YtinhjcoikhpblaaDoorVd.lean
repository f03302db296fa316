/-
  Get and Set and their references are alike; what Set puts. Condition: the words are from 0 to 2^64 - 1.
-/
import Derived.Test.YtinhjcoikhpblaaDoorVc
import Derived.Test.YtinhjcoikhpblaaDoorVb2
import Derived.Test.YtinhjcoikhpblaaDoorQ105
import Derived.Test.YtinhjcoikhpblaaDoorQ106
namespace Go.Proofs.YtinhjcoikhpblaaDoor.V
open Go.Proofs.YtinhjcoikhpblaaDoor.Q
open Go.RowKit Go.Proofs.YtinhjcoikhpblaaDoorW.PrintWords Go.Proofs.YtinhjcoikhpblaaDoorW.PrintLast Go.Proofs.YtinhjcoikhpblaaDoorW.PrintMore
set_option linter.unusedVariables false
theorem get_ev (n : Int) {l : List Int} (hw : wfs l) (i : Int) : ∃ g, Ev (fun k => bitset_Get.f k n l i) g ∧ Ev (fun k => estoversref01_Get.f k n l i) g ∧ (Good n l → 0 ≤ i → i < n → g = bt l i.toNat) := by
  obtain ⟨e, c1, c2, c3⟩ := check_ev n hw
  unfold bitset_Get.f estoversref01_Get.f
  by_cases he : e = 0
  · subst he
    have hg := c3.mp rfl
    by_cases h1 : i ≥ 0
    · by_cases h2 : i < n
      · obtain ⟨j, rfl⟩ : ∃ j : Nat, i = j := ⟨i.toNat, by omega⟩
        have hs := hg.small
        have hl := hg.len
        have e1 := get_some n hw (by omega) j (by omega)
        have e2 := bit_some n hw (by omega) j (by omega)
        exact ⟨bt l j, Ev.bind c1 (Ev.none_k fun k => by rw [if_pos rfl, if_pos h1, if_pos h2, e1]; rfl), Ev.bind c2 (Ev.none_k fun k => by rw [if_pos rfl, if_pos h1, if_pos h2, e2]; rfl), fun _ _ _ => rfl⟩
      · exact ⟨false, Ev.bind c1 (Ev.none_k fun k => by rw [if_pos rfl, if_pos h1, if_neg h2]), Ev.bind c2 (Ev.none_k fun k => by rw [if_pos rfl, if_pos h1, if_neg h2]), fun _ _ q => absurd q h2⟩
    · exact ⟨false, Ev.bind c1 (Ev.none_k fun k => by rw [if_pos rfl, if_neg h1]), Ev.bind c2 (Ev.none_k fun k => by rw [if_pos rfl, if_neg h1]), fun _ q _ => absurd q h1⟩
  · exact ⟨false, Ev.bind c1 (Ev.none_k fun k => by rw [if_neg he]), Ev.bind c2 (Ev.none_k fun k => by rw [if_neg he]), fun q _ _ => absurd (c3.mpr q) he⟩
theorem set_ev (n : Int) {l : List Int} (hw : wfs l) (i : Int) (on : Bool) : ∃ m r e, Ev (fun k => bitset_Set.f k n l i on) (m, r, e) ∧ Ev (fun k => estoversref01_Set.f k n l i on) (m, r, e) ∧
    (e = 0 → Good n l ∧ 0 ≤ i ∧ i < n ∧ m = n ∧ IsL l.length (fun j => if j = i.toNat then on else bt l j) r) ∧ r.length ≤ 64 := by
  obtain ⟨e, c1, c2, c3⟩ := check_ev n hw
  by_cases he : e = 0
  · subst he
    have hg := c3.mp rfl
    have hs := hg.small
    have hl := hg.len
    by_cases h1 : i < 0
    · refine ⟨0, [], 2, ?_, ?_, (fun h => by cases h), Nat.zero_le _⟩
      · unfold bitset_Set.f
        exact Ev.bind c1 (Ev.none_k fun k => by rw [if_pos rfl, if_pos h1])
      · unfold estoversref01_Set.f
        refine Ev.bind c2 (Ev.congr (f := fun k => estoversref01_Set.j0 k i on true n l) (fun k => by rw [if_pos rfl, if_pos h1]) (Ev.step (f := fun _ => some (0, [], 2)) (fun k => by simp [estoversref01_Set.j0]) (Ev.now _)))
    by_cases h2 : i ≥ n
    · refine ⟨0, [], 2, ?_, ?_, (fun h => by cases h), Nat.zero_le _⟩
      · unfold bitset_Set.f
        exact Ev.bind c1 (Ev.none_k fun k => by rw [if_pos rfl, if_neg h1, if_pos h2])
      · unfold estoversref01_Set.f
        refine Ev.bind c2 (Ev.congr (f := fun k => estoversref01_Set.j0 k i on true n l) (fun k => by rw [if_pos rfl, if_neg h1, decide_eq_true h2]) (Ev.step (f := fun _ => some (0, [], 2)) (fun k => by simp [estoversref01_Set.j0]) (Ev.now _)))
    obtain ⟨j, rfl⟩ : ∃ j : Nat, i = j := ⟨i.toNat, by omega⟩
    obtain ⟨r, f1, f5⟩ := bfill_ev hg hw j (j + 1) (by omega) (by omega) on
    rw [show ((j + 1 : Nat) : Int) = (j : Int) + 1 by omega] at f1
    obtain ⟨s, g1, g2⟩ := put_some n (IsL.of hw) (by omega) j (by omega) on
    have g3 : IsL l.length (fillB (bt l) j (j + 1) on) s := g2.congr fun i hi => by
      unfold fillB
      by_cases c : i = j
      · rw [if_pos c, if_pos (by omega)]
      · rw [if_neg c, if_neg (by omega)]
    obtain rfl := g3.uniq f5
    refine ⟨n, s, 0, ?_, ?_, fun _ => ⟨hg, by omega, by omega, rfl, by rw [Int.toNat_natCast]; exact g2⟩, by rw [g2.1]; exact hs⟩
    · unfold bitset_Set.f
      refine Ev.bind c1 (Ev.congr (f := fun k => (bitset_Fill.f k n l j ((j : Int) + 1) on).bind fun bt124 => (some (bt124.1, bt124.2.1, bt124.2.2))) (fun k => by rw [if_pos rfl, if_neg h1, if_neg h2, w64 (by omega)]) (Ev.bind f1 (Ev.now _)))
    · unfold estoversref01_Set.f
      refine Ev.bind c2 (Ev.congr (f := fun k => estoversref01_Set.j0 k j on false n l) (fun k => by rw [if_pos rfl, if_neg h1, decide_eq_false h2]) (Ev.step (f := fun k => (estoversref01_Copy.f k n l).bind fun bt209 => ((estoversref01_put.f bt209.1 bt209.2 j on).bind fun t214 => (some (bt209.1, t214, 0)))) (fun k => by simp only [estoversref01_Set.j0, Bool.false_eq_true, if_false]) (Ev.bind (copy_ev n l (by omega)) (Ev.none_k fun k => by rw [g1]; rfl))))
  · refine ⟨0, [], e, ?_, ?_, (fun h => absurd h he), Nat.zero_le _⟩
    · unfold bitset_Set.f
      exact Ev.bind c1 (Ev.none_k fun k => by rw [if_neg he])
    · unfold estoversref01_Set.f
      exact Ev.bind c2 (Ev.none_k fun k => by rw [if_neg he])
end Go.Proofs.YtinhjcoikhpblaaDoor.V
