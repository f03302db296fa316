/-
  BitsetCounts, over lists: it answers true. Condition: the words are from 0 to 2^64 - 1.
-/
import Derived.Test.YtinhjcoikhpblaaDoorVf
import Derived.Test.YtinhjcoikhpblaaDoorVawake
import Derived.Test.YtinhjcoikhpblaaDoorQ208
namespace Go.Proofs.YtinhjcoikhpblaaDoor.V
open Go.Proofs.YtinhjcoikhpblaaDoor.Q
open Go.RowKit Go.Proofs.YtinhjcoikhpblaaDoorW.PrintWords Go.Proofs.YtinhjcoikhpblaaDoorW.PrintLast Go.Proofs.YtinhjcoikhpblaaDoorW.PrintMore
theorem bitsetCounts_ev (n : Int) {l : List Int} (hw : wfs l) (a b : Int) : Ev (fun k => estoverslaw01_BitsetCounts.f k n l a b) true := by
  obtain ⟨e, c1, _, c3⟩ := check_ev n hw
  have bad : ∀ d : Bool, d = true → ¬ (Good n l ∧ 0 ≤ a ∧ a ≤ b ∧ b ≤ n) → Ev (fun k => estoverslaw01_BitsetCounts.j0 k a b d n l) true := by
    intro d hd hn
    obtain ⟨c, f1, _, f2⟩ := count_ev n hw a b
    rw [f2 hn] at f1
    exact Ev.step (f := fun k => (bitset_Count.f k n l a b).bind fun t => some (t == 0)) (fun k => by simp [estoverslaw01_BitsetCounts.j0, hd]) (Ev.bind f1 (Ev.now _))
  unfold estoverslaw01_BitsetCounts.f
  refine Ev.bind awake_ev ?_
  refine Ev.congr (fun k => if_pos rfl) ?_
  refine Ev.bind c1 ?_
  by_cases he : e = 0
  · subst he
    have hg := c3.mp rfl
    refine Ev.congr (fun k => if_pos rfl) ?_
    by_cases h1 : a < 0
    · exact Ev.congr (fun k => if_pos h1) (bad true rfl (by omega))
    by_cases h2 : a > b
    · exact Ev.congr (fun k => (if_neg h1).trans (if_pos h2)) (bad true rfl (by omega))
    by_cases h3 : b > n
    · exact Ev.congr (fun k => (if_neg h1).trans (if_neg h2)) (bad _ (decide_eq_true h3) (by omega))
    refine Ev.congr (fun k => (if_neg h1).trans (if_neg h2)) ?_
    obtain ⟨a, rfl⟩ : ∃ m : Nat, a = m := ⟨a.toNat, by omega⟩
    obtain ⟨b, rfl⟩ : ∃ m : Nat, b = m := ⟨b.toNat, by omega⟩
    have hi := hg.hi
    obtain ⟨x, x1, x2, _⟩ := count_ev n hw 0 a
    obtain ⟨y, y1, y2, _⟩ := count_ev n hw a b
    obtain ⟨z, z1, z2, _⟩ := count_ev n hw 0 b
    have hx := x2 hg (by omega) (by omega) (by omega)
    have hy := y2 hg (by omega) (by omega) (by omega)
    have hz := z2 hg (by omega) (by omega) (by omega)
    simp only [Int.toNat_natCast, Int.toNat_zero, Nat.sub_zero] at hx hy hz
    have l1 := cntB_le (bt l) a 0
    have l2 := cntB_le (bt l) (b - a) a
    have hsum : wrap64 (x + y) = z := by
      rw [hx, hy, hz, w64 (by omega)]
      have := cntB_add (bt l) a 0 (b - a)
      rw [show a + (b - a) = b by omega, Nat.zero_add] at this
      omega
    refine Ev.step (f := fun k => (bitset_Count.f k n l 0 a).bind fun t281 => ((bitset_Count.f k n l a b).bind fun t282 => ((bitset_Count.f k n l 0 b).bind fun t283 => (if (wrap64 (t281 + t282)) = t283 then (if (a : Int) = n then (some true) else ((bitset_Count.f k n l a (wrap64 ((a : Int) + 1))).bind fun t284 => ((bitset_Get.f k n l a).bind fun t285 => (some ((t284 == 1) == t285))))) else (some false))))) (fun k => by simp only [estoverslaw01_BitsetCounts.j0, decide_eq_false h3, Bool.false_eq_true, if_false]) ?_
    refine Ev.bind x1 ?_
    refine Ev.bind y1 ?_
    refine Ev.bind z1 ?_
    refine Ev.congr (fun k => if_pos hsum) ?_
    by_cases h4 : (a : Int) = n
    · exact Ev.congr (fun k => if_pos h4) (Ev.now _)
    · refine Ev.congr (fun k => if_neg h4) ?_
      rw [w64 (by omega)]
      obtain ⟨u, u1, u2, _⟩ := count_ev n hw a ((a : Int) + 1)
      have hu := u2 hg (by omega) (by omega) (by omega)
      rw [Int.toNat_natCast, show ((a : Int) + 1).toNat = a + 1 by omega, show a + 1 - a = 1 by omega] at hu
      simp only [cntB] at hu
      refine Ev.bind u1 ?_
      refine Ev.bind (bget_ev hg hw a (by omega)) ?_
      refine Ev.none_k fun k => ?_
      rw [hu]
      cases bt l a <;> rfl
  · exact Ev.congr (fun k => if_neg he) (bad true rfl (fun h => he (c3.mpr h.1)))
end Go.Proofs.YtinhjcoikhpblaaDoor.V
