/-
  TopLruLists: without active pages the cache with two lists has just the faults of LRU. No condition.
-/
import Derived.Test.YtbchpnhlaknhjaaQ211
import Derived.Test.YtbchpnhlaknhjaaVh
import Derived.Test.YtbchpnhlaknhjaaVwake2
namespace Go.Proofs.Ytbchpnhlaknhjaa.Pure
open Go.RowKit Go.Proofs.Ytbchpnhlaknhjaa.Q Go.Proofs.Ytbchpnhlaknhjaa.V Go.Proofs.Ytbchpnhlaknhjaa.Sd Go.Proofs.Ytbchpnhlaknhjaa.Bel Go.Proofs.YtbchpnhlaknhjaaW.PrintWords Go.Proofs.YtbchpnhlaknhjaaW.PrintLast
theorem lruLists_l0 (f : Nat) (L D : List Int) (hl : L.length ≤ 1000) (hd : D.length = L.length) (hr : ∀ j : Int, 0 ≤ j → j < L.length → Rel f (rd D j) (rd L j)) (d : Nat) : ∀ i : Int, 0 ≤ i → (L.length : Int) - i = d →
    Ev (fun k => estoverstop_TopLruLists.l0 k (f : Int) L D (L.length : Int) i) true := by
  induction d with
  | zero =>
    intro i h0 hdd
    exact Ev.step (fun k => by simp only [estoverstop_TopLruLists.l0]; rw [if_neg (by omega)]) (Ev.now _)
  | succ d ih =>
    intro i h0 hdd
    have hlt : i < L.length := by omega
    obtain ⟨r1, r2, r3⟩ := hr i h0 hlt
    refine Ev.step (fun k => ?_) (ih (i + 1) (by omega) (by omega))
    simp only [estoverstop_TopLruLists.l0]
    rw [if_pos hlt, if_pos h0, if_pos hlt, if_pos (by omega), w64 (i := i + 1) (by omega)]
    have e2 : ((rd L i == (-2)) != (rd D i == (-1))) = false := by
      by_cases h : rd L i = -2
      · simp [h, r2.1 h]
      · have : rd D i ≠ -1 := fun h' => h (r2.2 h')
        rw [beq_eq_false_iff_ne.mpr h, beq_eq_false_iff_ne.mpr this]; rfl
    by_cases hge : rd D i ≥ 0
    · rw [if_pos hge]
      have e1 : ((rd L i == (-1)) != (decide (rd D i < (f : Int)))) = false := by
        by_cases h : rd L i = -1
        · simp [h, (r1.1 h).2]
        · have : ¬ rd D i < (f : Int) := fun h' => h (r1.2 ⟨hge, h'⟩)
          rw [beq_eq_false_iff_ne.mpr h, decide_eq_false this]; rfl
      rw [e1, e2, if_neg (by decide), if_neg (by decide)]
    · rw [if_neg hge]
      have e1 : ((rd L i == (-1)) != false) = false := by
        have : rd L i ≠ -1 := fun h => by have := r1.1 h; omega
        simp [this]
      rw [e1, e2, if_neg (by decide), if_neg (by decide)]
theorem lruLists_yes (l0 : List Int) (a1 : Int) : Ev (fun k => estoverstop_TopLruLists.j0 k l0 a1 true) true :=
  Ev.step (fun k => by simp only [estoverstop_TopLruLists.j0]; rw [if_pos trivial]) (Ev.bind awake19_ev (Ev.now _))
theorem lruLists_no (l0 : List Int) (a1 : Int) (ha : 0 ≤ a1 ∧ a1 ≤ 255) (hl : l0.length ≤ 200) (hw : ∀ x ∈ l0, 0 ≤ x ∧ x ≤ 255) : Ev (fun k => estoverstop_TopLruLists.j0 k l0 a1 false) true := by
  obtain ⟨f, hf, hf1, hf2⟩ : ∃ f : Nat, 1 + Int.tmod a1 16 = f ∧ 1 ≤ f ∧ f ≤ 16 := ⟨(1 + Int.tmod a1 16).toNat, by rw [Int.tmod_eq_emod_of_nonneg ha.1]; omega, by rw [Int.tmod_eq_emod_of_nonneg ha.1]; omega, by rw [Int.tmod_eq_emod_of_nonneg ha.1]; omega⟩
  refine Ev.step (f := fun k => (estoverstop_pageRefs.f k l0).bind fun t498 => ((workingset_Lists.f t498 (f : Int) 0).bind fun bt501 => ((stackdist_Lru.f k t498 (f : Int)).bind fun bt505 => ((stackdist_Distances.f k t498).bind fun bt510 => (if bt501.2 = 0 then (if bt505.2.2 = 0 then (if bt510.2 = 0 then (if (bt501.1.length : Int) = (t498.length : Int) then (if (bt510.1.length : Int) = (t498.length : Int) then ((estoverstop_missed.f k bt501.1).bind fun t514 => (estoverstop_TopLruLists.j1 k (f : Int) bt501.1 bt510.1 (t514 != bt505.1))) else (estoverstop_TopLruLists.j1 k (f : Int) bt501.1 bt510.1 true)) else (estoverstop_TopLruLists.j1 k (f : Int) bt501.1 bt510.1 true)) else (estoverstop_TopLruLists.j1 k (f : Int) bt501.1 bt510.1 true)) else (estoverstop_TopLruLists.j1 k (f : Int) bt501.1 bt510.1 true)) else (estoverstop_TopLruLists.j1 k (f : Int) bt501.1 bt510.1 true))))))
    (fun k => by simp only [estoverstop_TopLruLists.j0]; rw [if_neg (by decide), w64 (i := Int.tmod a1 16) (by omega), hf, w64 (i := (f : Int)) (by omega)]) ?_
  have hpl := pages_length l0
  have r1 : req (pages l0).length f = 0 := by unfold req; rw [if_neg (by omega), if_neg (by omega), if_neg (by omega)]
  have r0 : req (pages l0).length 0 = 0 := by unfold req; rw [if_neg (by omega), if_neg (by omega), if_neg (by omega)]
  obtain ⟨e1, e2, e3⟩ := ls_rel hf1 (pages l0)
  have hdl := dists_length (pages l0) []
  refine Ev.bind (pages_ev l0 (by omega) hw) (Ev.bind (Ev.none_k fun _ => lists_ev (pages l0) f (by omega) (by omega) (pages_wfs l0 hw)) (Ev.bind (lru_ev _ _) (Ev.bind (distances_ev _) ?_)))
  unfold lruR distR
  rw [if_pos r1, if_pos r0]
  refine Ev.congr (fun k => by rw [if_pos rfl, if_pos rfl, if_pos rfl, if_pos (by simp only; omega), if_pos (by simp only; omega)]) (Ev.bind (missed_ev _ (by simp only; omega)) ?_)
  refine Ev.step (f := fun k => estoverstop_TopLruLists.l0 k (f : Int) (ls (pages l0) f) (dists [] (pages l0)) ((ls (pages l0) f).length : Int) 0) (fun k => by simp only [estoverstop_TopLruLists.j1]; rw [if_neg (by simp [e2])]) ?_
  exact lruLists_l0 f _ _ (by omega) (by omega) (fun j h0 hj => (e3 j h0 (by omega)).1) (ls (pages l0) f).length 0 (by omega) (by omega)
theorem TopLruLists : estoverstop_TopLruLists.Pure := by
  intro l0 a1 _ _ hw0 hw
  refine Ev.rounds ?_
  have ha : 0 ≤ a1 ∧ a1 ≤ 255 := by simpa [Lit.wf, IntKind.min, IntKind.max, IntKind.signed, IntKind.bits] using hw
  have hl : ∀ x ∈ l0, 0 ≤ x ∧ x ≤ 255 := fun x hx => by simpa [Lit.wf, IntKind.min, IntKind.max, IntKind.signed, IntKind.bits] using hw0 x hx
  unfold estoverstop_TopLruLists.f
  refine Ev.bind awake19_ev (Ev.congr (fun k => by rw [if_pos rfl]) ?_)
  by_cases h1 : (l0.length : Int) > 200
  · exact Ev.congr (fun k => by rw [decide_eq_true h1]) (lruLists_yes l0 a1)
  · exact Ev.congr (fun k => by rw [decide_eq_false h1]) (lruLists_no l0 a1 ha (by omega) hl)
end Go.Proofs.Ytbchpnhlaknhjaa.Pure
