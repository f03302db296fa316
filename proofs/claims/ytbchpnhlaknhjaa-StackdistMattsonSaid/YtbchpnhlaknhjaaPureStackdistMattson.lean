/-
  StackdistMattson: LRU's faults with f frames are the references whose distance is -1 or at least f. No condition.
-/
import Derived.Test.YtbchpnhlaknhjaaQ205
import Derived.Test.YtbchpnhlaknhjaaVb
import Derived.Test.YtbchpnhlaknhjaaVwake
namespace Go.Proofs.Ytbchpnhlaknhjaa.Pure
open Go.RowKit Go.Proofs.Ytbchpnhlaknhjaa.Q Go.Proofs.Ytbchpnhlaknhjaa.V Go.Proofs.Ytbchpnhlaknhjaa.Sd Go.Proofs.YtbchpnhlaknhjaaW.PrintWords Go.Proofs.YtbchpnhlaknhjaaW.PrintLast
theorem dists_ge : ∀ (l s : List Int), ∀ d ∈ dists s l, -1 ≤ d
  | [], s, d, h => by simp [dists] at h
  | r :: rs, s, d, h => by
    simp only [dists, List.mem_cons] at h
    rcases h with rfl | h
    · have := posF_range s 0 r (by omega)
      simp only [touch]
      omega
    · exact dists_ge rs _ d h
theorem mattson_l0 (f n : Int) (l : List Int) (hl : l.length ≤ 5000) (hd : ∀ d ∈ l, -1 ≤ d) (d : Nat) : ∀ (c i : Int), 0 ≤ i → (l.length : Int) - i = d → 0 ≤ c → c ≤ i → n = c + cntF f (l.drop i.toNat) →
    Ev (fun k => estoverslaw37_StackdistMattson.l0 k f n c l (l.length : Int) i) true := by
  induction d with
  | zero =>
    intro c i h0 hd _ _ hn
    rw [drop_end (by omega), cntF_nil] at hn
    exact Ev.step (fun k => by simp only [estoverslaw37_StackdistMattson.l0]; rw [if_neg (by omega), show (n == c) = true from by simp; omega]) (Ev.now _)
  | succ d ih =>
    intro c i h0 hdd hc hci hn
    have hlt : i < l.length := by omega
    rw [drop_rd h0 hlt, cntF_cons] at hn
    have hm : -1 ≤ rd l i := by
      apply hd
      have hv : i.toNat < l.length := by omega
      simp only [rd, List.getD_eq_getElem?_getD, List.getElem?_eq_getElem hv, Option.getD_some]
      exact List.getElem_mem hv
    by_cases e : rd l i < 0 ∨ rd l i ≥ f
    · rw [if_pos e] at hn
      have h := ih (c + 1) (i + 1) (by omega) (by omega) (by omega) (by omega) (by omega)
      by_cases e1 : rd l i = -1
      · exact Ev.step (fun k => by simp only [estoverslaw37_StackdistMattson.l0]; rw [if_pos hlt, if_pos h0, if_pos hlt, if_neg (by omega), if_pos e1, w64 (by omega), w64 (by omega)]) h
      · exact Ev.step (fun k => by simp only [estoverslaw37_StackdistMattson.l0]; rw [if_pos hlt, if_pos h0, if_pos hlt, if_neg (by omega), if_neg e1, if_pos (by omega), w64 (by omega), w64 (by omega)]) h
    · rw [if_neg e] at hn
      have h := ih c (i + 1) (by omega) (by omega) (by omega) (by omega) (by omega)
      exact Ev.step (fun k => by simp only [estoverslaw37_StackdistMattson.l0]; rw [if_pos hlt, if_pos h0, if_pos hlt, if_neg (by omega), if_neg (by omega), if_neg (by omega), w64 (by omega)]) h
theorem mattson_yes (l0 : List Int) (a1 : Int) : Ev (fun k => estoverslaw37_StackdistMattson.j0 k l0 a1 true) true :=
  Ev.step (fun k => by simp only [estoverslaw37_StackdistMattson.j0]; rw [if_pos trivial]) (Ev.bind awake_ev (Ev.now _))
theorem mattson_no (l0 : List Int) (a1 : Int) (ha : 0 ≤ a1 ∧ a1 ≤ 255) (hl : l0.length ≤ 100) : Ev (fun k => estoverslaw37_StackdistMattson.j0 k l0 a1 false) true := by
  refine Ev.step (f := fun k => (stackdist_Distances.f k l0).bind fun bt381 => ((stackdist_Lru.f k l0 a1).bind fun bt385 => (if bt381.2 = 0 then (if bt385.2.2 = 0 then (estoverslaw37_StackdistMattson.j1 k a1 bt381.1 bt385.1 ((bt381.1.length : Int) != (l0.length : Int))) else (estoverslaw37_StackdistMattson.j1 k a1 bt381.1 bt385.1 true)) else (estoverslaw37_StackdistMattson.j1 k a1 bt381.1 bt385.1 true))))
    (fun k => by simp only [estoverslaw37_StackdistMattson.j0]; rw [if_neg (by decide), w64 (by omega)]) ?_
  refine Ev.bind (distances_ev l0) (Ev.bind (lru_ev l0 a1) ?_)
  have r0 : req l0.length 0 = 0 := by unfold req; rw [if_neg (by omega), if_neg (by omega), if_neg (by omega)]
  have r1 : req l0.length a1 = 0 := by unfold req; rw [if_neg (by omega), if_neg (by omega), if_neg (by omega)]
  have hlen := dists_length l0 []
  unfold distR lruR
  rw [if_pos r0, if_pos r1]
  refine Ev.congr (fun k => by rw [if_pos rfl, if_pos rfl]) ?_
  refine Ev.step (f := fun k => estoverslaw37_StackdistMattson.l0 k a1 (cntF a1 (dists [] l0)) 0 (dists [] l0) ((dists [] l0).length : Int) 0) (fun k => by simp only [estoverslaw37_StackdistMattson.j1]; rw [if_neg (by simp [hlen])]) ?_
  exact mattson_l0 a1 _ _ (by omega) (dists_ge l0 []) (dists [] l0).length 0 0 (by omega) (by omega) (by omega) (by omega) (by simp)
theorem StackdistMattson : estoverslaw37_StackdistMattson.Pure := by
  intro l0 a1 _ _ _ hw
  refine Ev.rounds ?_
  have ha : 0 ≤ a1 ∧ a1 ≤ 255 := by simpa [Lit.wf, IntKind.min, IntKind.max, IntKind.signed, IntKind.bits] using hw
  unfold estoverslaw37_StackdistMattson.f
  refine Ev.bind awake_ev (Ev.congr (fun k => by rw [if_pos rfl]) ?_)
  by_cases h1 : (l0.length : Int) > 100
  · exact Ev.congr (fun k => by rw [decide_eq_true h1]) (mattson_yes l0 a1)
  · exact Ev.congr (fun k => by rw [decide_eq_false h1]) (mattson_no l0 a1 ha (by omega))
end Go.Proofs.Ytbchpnhlaknhjaa.Pure
