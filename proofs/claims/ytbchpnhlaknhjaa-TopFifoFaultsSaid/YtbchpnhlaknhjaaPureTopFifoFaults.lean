/-
  TopFifoFaults: the plain cache has as many faults as FIFO has in as many frames, and at least as many as Optimal. No condition.
-/
import Derived.Test.YtbchpnhlaknhjaaQ209
import Derived.Test.YtbchpnhlaknhjaaVg
import Derived.Test.YtbchpnhlaknhjaaVwake2
namespace Go.Proofs.Ytbchpnhlaknhjaa.Pure
open Go.RowKit Go.Proofs.Ytbchpnhlaknhjaa.Q Go.Proofs.Ytbchpnhlaknhjaa.V Go.Proofs.Ytbchpnhlaknhjaa.Sd Go.Proofs.Ytbchpnhlaknhjaa.Bel Go.Proofs.YtbchpnhlaknhjaaW.PrintWords Go.Proofs.YtbchpnhlaknhjaaW.PrintLast
theorem fifoFaults_yes (l0 : List Int) (a1 : Int) : Ev (fun k => estoverstop_TopFifoFaults.j0 k l0 a1 true) true :=
  Ev.step (fun k => by simp only [estoverstop_TopFifoFaults.j0]; rw [if_pos trivial]) (Ev.bind awake19_ev (Ev.now _))
theorem fifoFaults_no (l0 : List Int) (a1 : Int) (ha : 0 ≤ a1 ∧ a1 ≤ 255) (hl : l0.length ≤ 200) (hw : ∀ x ∈ l0, 0 ≤ x ∧ x ≤ 255) : Ev (fun k => estoverstop_TopFifoFaults.j0 k l0 a1 false) true := by
  obtain ⟨f, hf, hf1, hf2⟩ : ∃ f : Nat, 1 + Int.tmod a1 16 = f ∧ 1 ≤ f ∧ f ≤ 16 := ⟨(1 + Int.tmod a1 16).toNat, by rw [Int.tmod_eq_emod_of_nonneg ha.1]; omega, by rw [Int.tmod_eq_emod_of_nonneg ha.1]; omega, by rw [Int.tmod_eq_emod_of_nonneg ha.1]; omega⟩
  refine Ev.step (f := fun k => (estoverstop_pageRefs.f k l0).bind fun t467 => ((workingset_Refaults.f t467 (f : Int)).bind fun bt470 => ((stackdist_Fifo.f k t467 (f : Int)).bind fun bt474 => ((stackdist_Optimal.f t467 (f : Int)).bind fun bt476 => (if bt470.2 = 0 then (if bt474.2 = 0 then (if bt476.2 = 0 then (if (bt470.1.length : Int) = (t467.length : Int) then ((estoverstop_missed.f k bt470.1).bind fun t478 => (if t478 = bt474.1 then (some (decide (bt476.1 ≤ bt474.1))) else (some false))) else (some false)) else (some false)) else (some false)) else (some false))))))
    (fun k => by simp only [estoverstop_TopFifoFaults.j0]; rw [if_neg (by decide), w64 (i := Int.tmod a1 16) (by omega), hf, w64 (i := (f : Int)) (by omega)]) ?_
  have hpl := pages_length l0
  have r1 : req (pages l0).length f = 0 := by unfold req; rw [if_neg (by omega), if_neg (by omega), if_neg (by omega)]
  obtain ⟨e1, e2⟩ := rf_fifo hf1 (pages l0)
  have hrf : workingset_Refaults.f (pages l0) (f : Int) = some (rf (pages l0) f, 0) := by
    unfold workingset_Refaults.f workingset_check.f
    rw [if_pos (pages_wfs l0 hw), if_neg (by omega), if_neg (by omega), if_neg (by omega)]
    rfl
  refine Ev.bind (pages_ev l0 (by omega) hw) (Ev.bind (Ev.none_k fun _ => hrf) (Ev.bind (fifo_ev _ _) (Ev.bind (opt_ev _ _ (pages_wfs l0 hw)) ?_)))
  have hle := least (opt_grun (pages l0) f hf1) (fifo_arun hf1 (pages l0)) (by simp)
  unfold fifoR optR
  rw [if_pos r1, if_pos r1]
  refine Ev.congr (fun k => by rw [if_pos rfl, if_pos rfl, if_pos rfl, if_pos (by simp only; omega)]) (Ev.bind (missed_ev _ (by simp only; omega)) (Ev.none_k fun k => ?_))
  rw [if_pos e1, decide_eq_true hle]
theorem TopFifoFaults : estoverstop_TopFifoFaults.Pure := by
  intro l0 a1 _ _ hw0 hw
  refine Ev.rounds ?_
  have ha : 0 ≤ a1 ∧ a1 ≤ 255 := by simpa [Lit.wf, IntKind.min, IntKind.max, IntKind.signed, IntKind.bits] using hw
  have hl : ∀ x ∈ l0, 0 ≤ x ∧ x ≤ 255 := fun x hx => by simpa [Lit.wf, IntKind.min, IntKind.max, IntKind.signed, IntKind.bits] using hw0 x hx
  unfold estoverstop_TopFifoFaults.f
  refine Ev.bind awake19_ev (Ev.congr (fun k => by rw [if_pos rfl]) ?_)
  by_cases h1 : (l0.length : Int) > 200
  · exact Ev.congr (fun k => by rw [decide_eq_true h1]) (fifoFaults_yes l0 a1)
  · exact Ev.congr (fun k => by rw [decide_eq_false h1]) (fifoFaults_no l0 a1 ha (by omega) hl)
end Go.Proofs.Ytbchpnhlaknhjaa.Pure
