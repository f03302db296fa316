/-
  TopRefaultReach: a page that refaults at a distance r would have been a hit with r + 1 more frames. No condition.
-/
import Derived.Test.YtbchpnhlaknhjaaQ210
import Derived.Test.YtbchpnhlaknhjaaVh
import Derived.Test.YtbchpnhlaknhjaaVwake2
namespace Go.Proofs.Ytbchpnhlaknhjaa.Pure
open Go.RowKit Go.Proofs.Ytbchpnhlaknhjaa.Q Go.Proofs.Ytbchpnhlaknhjaa.V Go.Proofs.Ytbchpnhlaknhjaa.Sd Go.Proofs.Ytbchpnhlaknhjaa.Bel Go.Proofs.YtbchpnhlaknhjaaW.PrintWords Go.Proofs.YtbchpnhlaknhjaaW.PrintLast
theorem dists_le : ∀ (l s : List Int), ∀ d ∈ dists s l, d ≤ s.length + l.length
  | [], s, d, h => by simp [dists] at h
  | r :: rs, s, d, h => by
    simp only [dists, List.mem_cons] at h
    rcases h with rfl | h
    · have := posF_range s 0 r (by omega)
      simp only [touch, List.length_cons]
      omega
    · have := dists_le rs _ d h
      have := touch_length s r
      simp only [List.length_cons]
      omega
theorem reach_l0 (f : Nat) (hf : f ≤ 16) (L D : List Int) (hl : L.length ≤ 1000) (hd : D.length = L.length) (hr : ∀ j : Int, 0 ≤ j → j < L.length → Rel f (rd D j) (rd L j)) (hb : ∀ j : Int, 0 ≤ j → j < L.length → 0 ≤ rd L j → rd L j ≤ 100000) (d : Nat) : ∀ i : Int, 0 ≤ i → (L.length : Int) - i = d →
    Ev (fun k => estoverstop_TopRefaultReach.l0 k (f : Int) L D (L.length : Int) i) true := by
  induction d with
  | zero =>
    intro i h0 hdd
    exact Ev.step (fun k => by simp only [estoverstop_TopRefaultReach.l0]; rw [if_neg (by omega)]) (Ev.now _)
  | succ d ih =>
    intro i h0 hdd
    have hlt : i < L.length := by omega
    obtain ⟨r1, r2, r3⟩ := hr i h0 hlt
    refine Ev.step (fun k => ?_) (ih (i + 1) (by omega) (by omega))
    simp only [estoverstop_TopRefaultReach.l0]
    rw [if_pos hlt, if_pos h0, if_pos hlt, w64 (i := i + 1) (by omega)]
    by_cases hge : rd L i ≥ 0
    · have h3 := r3 hge
      have h4 := hb i h0 hlt hge
      rw [if_pos hge, if_pos (by omega), if_neg (by omega), w64 (i := (f : Int) + rd L i) (by omega), w64 (i := (f : Int) + rd L i + 1) (by omega), if_neg (by omega)]
    · rw [if_neg hge]
theorem reach_yes (l0 : List Int) (a1 : Int) : Ev (fun k => estoverstop_TopRefaultReach.j0 k l0 a1 true) true :=
  Ev.step (fun k => by simp only [estoverstop_TopRefaultReach.j0]; rw [if_pos trivial]) (Ev.bind awake19_ev (Ev.now _))
theorem reach_no (l0 : List Int) (a1 : Int) (ha : 0 ≤ a1 ∧ a1 ≤ 255) (hl : l0.length ≤ 200) (hw : ∀ x ∈ l0, 0 ≤ x ∧ x ≤ 255) : Ev (fun k => estoverstop_TopRefaultReach.j0 k l0 a1 false) true := by
  obtain ⟨f, hf, hf1, hf2⟩ : ∃ f : Nat, 1 + Int.tmod a1 16 = f ∧ 1 ≤ f ∧ f ≤ 16 := ⟨(1 + Int.tmod a1 16).toNat, by rw [Int.tmod_eq_emod_of_nonneg ha.1]; omega, by rw [Int.tmod_eq_emod_of_nonneg ha.1]; omega, by rw [Int.tmod_eq_emod_of_nonneg ha.1]; omega⟩
  refine Ev.step (f := fun k => (estoverstop_pageRefs.f k l0).bind fun t481 => ((workingset_Lists.f t481 (f : Int) 0).bind fun bt484 => ((stackdist_Distances.f k t481).bind fun bt488 => (if bt484.2 = 0 then (if bt488.2 = 0 then (if (bt484.1.length : Int) = (t481.length : Int) then (estoverstop_TopRefaultReach.j1 k (f : Int) bt484.1 bt488.1 ((bt488.1.length : Int) != (t481.length : Int))) else (estoverstop_TopRefaultReach.j1 k (f : Int) bt484.1 bt488.1 true)) else (estoverstop_TopRefaultReach.j1 k (f : Int) bt484.1 bt488.1 true)) else (estoverstop_TopRefaultReach.j1 k (f : Int) bt484.1 bt488.1 true)))))
    (fun k => by simp only [estoverstop_TopRefaultReach.j0]; rw [if_neg (by decide), w64 (i := Int.tmod a1 16) (by omega), hf, w64 (i := (f : Int)) (by omega)]) ?_
  have hpl := pages_length l0
  have r0 : req (pages l0).length 0 = 0 := by unfold req; rw [if_neg (by omega), if_neg (by omega), if_neg (by omega)]
  obtain ⟨e1, e2, e3⟩ := ls_rel hf1 (pages l0)
  have hdl := dists_length (pages l0) []
  refine Ev.bind (pages_ev l0 (by omega) hw) (Ev.bind (Ev.none_k fun _ => lists_ev (pages l0) f (by omega) (by omega) (pages_wfs l0 hw)) (Ev.bind (distances_ev _) ?_))
  unfold distR
  rw [if_pos r0]
  refine Ev.congr (fun k => by rw [if_pos rfl, if_pos rfl, if_pos (by simp only; omega)]) ?_
  refine Ev.step (f := fun k => estoverstop_TopRefaultReach.l0 k (f : Int) (ls (pages l0) f) (dists [] (pages l0)) ((ls (pages l0) f).length : Int) 0) (fun k => by simp only [estoverstop_TopRefaultReach.j1]; rw [if_neg (by simp [hdl])]) ?_
  refine reach_l0 f hf2 _ _ (by omega) (by omega) (fun j h0 hj => (e3 j h0 (by omega)).1) (fun j h0 hj hge => by have := (e3 j h0 (by omega)).2; omega) (ls (pages l0) f).length 0 (by omega) (by omega)
theorem TopRefaultReach : estoverstop_TopRefaultReach.Pure := by
  intro l0 a1 _ _ hw0 hw
  refine Ev.rounds ?_
  have ha : 0 ≤ a1 ∧ a1 ≤ 255 := by simpa [Lit.wf, IntKind.min, IntKind.max, IntKind.signed, IntKind.bits] using hw
  have hl : ∀ x ∈ l0, 0 ≤ x ∧ x ≤ 255 := fun x hx => by simpa [Lit.wf, IntKind.min, IntKind.max, IntKind.signed, IntKind.bits] using hw0 x hx
  unfold estoverstop_TopRefaultReach.f
  refine Ev.bind awake19_ev (Ev.congr (fun k => by rw [if_pos rfl]) ?_)
  by_cases h1 : (l0.length : Int) > 200
  · exact Ev.congr (fun k => by rw [decide_eq_true h1]) (reach_yes l0 a1)
  · exact Ev.congr (fun k => by rw [decide_eq_false h1]) (reach_no l0 a1 ha (by omega) hl)
end Go.Proofs.Ytbchpnhlaknhjaa.Pure
