/-
  BitsetFinds, over lists: it answers true. Condition: the words are from 0 to 2^64 - 1.
-/
import Derived.Test.YtinhjcoikhpblaaDoorVg
import Derived.Test.YtinhjcoikhpblaaDoorVawake
import Derived.Test.YtinhjcoikhpblaaDoorQ206
namespace Go.Proofs.YtinhjcoikhpblaaDoor.V
open Go.Proofs.YtinhjcoikhpblaaDoor.Q
open Go.RowKit Go.Proofs.YtinhjcoikhpblaaDoorW.PrintWords Go.Proofs.YtinhjcoikhpblaaDoorW.PrintLast Go.Proofs.YtinhjcoikhpblaaDoorW.PrintMore
theorem finds_l {n : Nat} {l : List Int} (hg : Good n l) (hw : wfs l) (on : Bool) (v : Int) (a : Nat) (hv : Found n a on (bt l) v) : ∀ (d i : Nat), n ≤ i + d → a ≤ i → (v = -1 ∨ (i : Int) ≤ v) → Ev (fun k => estoverslaw01_BitsetFinds.l0 k on v i n l) true
  | d, i, hd, hai, hiv => by
    have hi := hg.hi
    by_cases h1 : i < n
    · by_cases h2 : (i : Int) = v
      · refine Ev.step (f := fun k => estoverslaw01_BitsetFinds.j3 k on v i false n l) (fun k => ?_) (Ev.step (f := fun _ => some true) (fun k => by simp [estoverslaw01_BitsetFinds.j3]) (Ev.now _))
        simp only [estoverslaw01_BitsetFinds.l0, if_pos (show (i : Int) < (n : Int) by omega)]
        rw [show ((i : Int) != v) = false from bne_eq_false_iff_eq.mpr h2]
      · obtain ⟨d, rfl⟩ : ∃ e, d = e + 1 := ⟨d - 1, by omega⟩
        have hb : bt l i ≠ on := by
          rcases hv with ⟨e, h⟩ | ⟨q, e, h3, h4, h5, h6⟩
          · exact h i hai h1
          · exact h6 i hai (by omega)
        refine Ev.step (f := fun k => estoverslaw01_BitsetFinds.j3 k on v i true n l) (fun k => ?_) (Ev.step (f := fun k => (bitset_Get.f k n l i).bind fun t266 => (if (t266 == on) = true then (some false) else (estoverslaw01_BitsetFinds.l0 k on v (wrap64 ((i : Int) + 1)) n l))) (fun k => by simp only [estoverslaw01_BitsetFinds.j3, if_true]) ?_)
        · simp only [estoverslaw01_BitsetFinds.l0, if_pos (show (i : Int) < (n : Int) by omega)]
          rw [show ((i : Int) != v) = true from bne_iff_ne.mpr h2]
        · refine Ev.bind (bget_ev hg hw i (by omega)) ?_
          refine Ev.congr (fun k => if_neg (by simpa using hb)) ?_
          rw [w64 (by omega)]
          exact finds_l hg hw on v a hv d (i + 1) (by omega) (by omega) (by omega)
    · refine Ev.step (f := fun k => estoverslaw01_BitsetFinds.j3 k on v i false n l) (fun k => ?_) (Ev.step (f := fun _ => some true) (fun k => by simp [estoverslaw01_BitsetFinds.j3]) (Ev.now _))
      simp only [estoverslaw01_BitsetFinds.l0, if_neg (show ¬ (i : Int) < (n : Int) by omega)]
theorem bitsetFinds_ev (n : Int) {l : List Int} (hw : wfs l) (a : Int) (on : Bool) : Ev (fun k => estoverslaw01_BitsetFinds.f k n l a on) true := by
  obtain ⟨e, c1, _, c3⟩ := check_ev n hw
  obtain ⟨v, f1, f2, f3⟩ := find_ev n hw a on
  have bad : ∀ d : Bool, d = true → ¬ (Good n l ∧ 0 ≤ a ∧ a < n) → Ev (fun k => estoverslaw01_BitsetFinds.j0 k a on v d n l) true := by
    intro d hd hn
    rw [f3 hn]
    exact Ev.step (f := fun _ => some true) (fun k => by simp [estoverslaw01_BitsetFinds.j0, hd]) (Ev.now _)
  unfold estoverslaw01_BitsetFinds.f
  refine Ev.bind awake_ev ?_
  refine Ev.congr (fun k => if_pos rfl) ?_
  refine Ev.bind f1 ?_
  refine Ev.bind c1 ?_
  by_cases he : e = 0
  · subst he
    have hg := c3.mp rfl
    have hi := hg.hi
    refine Ev.congr (fun k => if_pos rfl) ?_
    refine Ev.congr (fun k => if_neg (by omega)) ?_
    by_cases h1 : a < 0
    · exact Ev.congr (fun k => if_pos h1) (bad true rfl (by omega))
    by_cases h2 : a ≥ n
    · exact Ev.congr (fun k => if_neg h1) (bad _ (decide_eq_true h2) (by omega))
    refine Ev.congr (fun k => if_neg h1) ?_
    obtain ⟨a, rfl⟩ : ∃ m : Nat, a = m := ⟨a.toNat, by omega⟩
    obtain ⟨n, rfl⟩ : ∃ m : Nat, n = m := ⟨n.toNat, by omega⟩
    have hv : Found n a on (bt l) v := f2 hg (by omega) (by omega)
    have run : Ev (fun k => estoverslaw01_BitsetFinds.j1 k a on v false n l) true :=
      Ev.step (f := fun k => estoverslaw01_BitsetFinds.l0 k on v a n l) (fun k => by simp only [estoverslaw01_BitsetFinds.j1, Bool.false_eq_true, if_false]) (finds_l hg hw on v a hv n a (by omega) (Nat.le_refl _) (by rcases hv with ⟨h, _⟩ | ⟨q, h, h3, _⟩ <;> omega))
    have g0 : ∀ k, estoverslaw01_BitsetFinds.j0 (k + 1) a on v (decide ((a : Int) ≥ n)) n l = (if v < (-1) then (estoverslaw01_BitsetFinds.j1 k a on v true n l) else (if v ≥ n then (estoverslaw01_BitsetFinds.j1 k a on v true n l) else (if v ≥ 0 then (if v < a then (estoverslaw01_BitsetFinds.j1 k a on v true n l) else ((bitset_Get.f k n l v).bind fun t265 => (estoverslaw01_BitsetFinds.j1 k a on v (t265 != on) n l))) else (estoverslaw01_BitsetFinds.j1 k a on v false n l)))) := by
      intro k
      simp only [estoverslaw01_BitsetFinds.j0, decide_eq_false h2, Bool.false_eq_true, if_false]
    rcases hv with ⟨h3, _⟩ | ⟨q, h3, h4, h5, h6, _⟩
    · subst h3
      exact Ev.step (fun k => (g0 k).trans ((if_neg (by omega)).trans ((if_neg (by omega)).trans (if_neg (by omega))))) run
    · subst h3
      refine Ev.step (fun k => (g0 k).trans ((if_neg (by omega)).trans ((if_neg (by omega)).trans ((if_pos (by omega)).trans (if_neg (by omega)))))) ?_
      refine Ev.bind (bget_ev hg hw q (by omega)) ?_
      rw [h6, bne_self_eq_false]
      exact run
  · exact Ev.congr (fun k => if_neg he) (bad true rfl (fun h => he (c3.mpr h.1)))
end Go.Proofs.YtinhjcoikhpblaaDoor.V
