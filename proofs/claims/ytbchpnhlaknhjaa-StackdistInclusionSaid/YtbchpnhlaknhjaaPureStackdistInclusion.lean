/-
  StackdistInclusion: LRU keeps in f frames a beginning of what it keeps in f + 1 frames. No condition.
-/
import Derived.Test.YtbchpnhlaknhjaaQ206
import Derived.Test.YtbchpnhlaknhjaaVb
import Derived.Test.YtbchpnhlaknhjaaVwake
namespace Go.Proofs.Ytbchpnhlaknhjaa.Pure
open Go.RowKit Go.Proofs.Ytbchpnhlaknhjaa.Q Go.Proofs.Ytbchpnhlaknhjaa.V Go.Proofs.Ytbchpnhlaknhjaa.Sd Go.Proofs.YtbchpnhlaknhjaaW.PrintWords Go.Proofs.YtbchpnhlaknhjaaW.PrintLast
theorem cntF_anti (f : Int) (l : List Int) : cntF (f + 1) l ≤ cntF f l := by
  induction l with
  | nil => simp [cntF_nil]
  | cons d l ih => rw [cntF_cons, cntF_cons]; split <;> split <;> omega
theorem stk_append : ∀ (l m s : List Int), stk s (l ++ m) = stk (stk s l) m
  | [], m, s => rfl
  | r :: rs, m, s => by simp only [List.cons_append, stk]; exact stk_append rs m _
theorem stk_head (l : List Int) (i : Nat) (h : i < l.length) : ∃ rest, stk [] (l.take (i + 1)) = l.getD i 0 :: rest := by
  have e : l.take (i + 1) = l.take i ++ [l.getD i 0] := by
    rw [List.take_add_one]; simp [List.getD_eq_getElem?_getD, List.getElem?_eq_getElem h]
  rw [e, stk_append]
  simp only [stk, touch]
  exact ⟨_, rfl⟩
theorem inclusion_l1 (l : List Int) (hl : l.length ≤ 100) (f : Nat) (i : Int) (A B : List Int) (hB : B.length ≤ 5000) (h0 : 0 ≤ i) (hi : i < l.length) (hA : A = B.take f) (hh : ∃ rest, B = rd l i :: rest) (X : Bool)
    (hX : Ev (fun k => estoverslaw37_StackdistInclusion.l0 k l (f : Int) (l.length : Int) (i + 1)) X) (d : Nat) : ∀ j : Int, 0 ≤ j → (A.length : Int) - j = d →
    Ev (fun k => estoverslaw37_StackdistInclusion.l1 k l (f : Int) i A B (l.length : Int) i (A.length : Int) j) X := by
  have hAl : A.length ≤ B.length := by rw [hA, List.length_take]; omega
  induction d with
  | zero =>
    intro j hj hd
    obtain ⟨rest, hr⟩ := hh
    refine Ev.step (fun k => ?_) hX
    simp only [estoverslaw37_StackdistInclusion.l1]
    rw [if_neg (by omega), if_neg (by rw [hr]; simp <;> omega), if_pos (by rw [hr]; simp <;> omega), if_pos h0, if_pos hi, if_pos (by rw [hr]; simp [rd]), w64 (by omega)]
  | succ d ih =>
    intro j hj hd
    have hlt : j < A.length := by omega
    have hlB : j < B.length := by omega
    have e : rd A j = rd B j := by
      have : j.toNat < f := by rw [hA, List.length_take] at hlt; omega
      simp [rd, hA, List.getD_eq_getElem?_getD, List.getElem?_take_of_lt this]
    exact Ev.step (fun k => by simp only [estoverslaw37_StackdistInclusion.l1]; rw [if_pos hlt, if_pos hj, if_pos hlt, if_pos hlB, if_pos e, w64 (by omega)]) (ih (j + 1) (by omega) (by omega))
theorem inclusion_l0 (l : List Int) (f : Nat) (hf : f < 20) (hl : l.length ≤ 100) (d : Nat) : ∀ i : Int, 0 ≤ i → (l.length : Int) - i = d → Ev (fun k => estoverslaw37_StackdistInclusion.l0 k l (f : Int) (l.length : Int) i) true := by
  induction d with
  | zero =>
    intro i h0 hd
    exact Ev.step (fun k => by simp only [estoverslaw37_StackdistInclusion.l0]; rw [if_neg (by omega)]) (Ev.now _)
  | succ d ih =>
    intro i h0 hd
    have hlt : i < l.length := by omega
    refine Ev.step (f := fun k => (stackdist_Lru.f k (l.take (i + 1).toNat) (f : Int)).bind fun bt394 => ((stackdist_Lru.f k (l.take (i + 1).toNat) ((f : Int) + 1)).bind fun bt400 => (if bt394.2.2 = 0 then (if bt400.2.2 = 0 then (if bt394.1 < bt400.1 then (estoverslaw37_StackdistInclusion.j2 k l (f : Int) i bt394.2.1 bt400.2.1 (l.length : Int) i true) else (if (bt394.2.1.length : Int) > (f : Int) then (estoverslaw37_StackdistInclusion.j2 k l (f : Int) i bt394.2.1 bt400.2.1 (l.length : Int) i true) else (if (bt394.2.1.length : Int) > (bt400.2.1.length : Int) then (estoverslaw37_StackdistInclusion.j2 k l (f : Int) i bt394.2.1 bt400.2.1 (l.length : Int) i true) else (estoverslaw37_StackdistInclusion.j2 k l (f : Int) i bt394.2.1 bt400.2.1 (l.length : Int) i (decide ((bt400.2.1.length : Int) > ((f : Int) + 1))))))) else (estoverslaw37_StackdistInclusion.j2 k l (f : Int) i bt394.2.1 bt400.2.1 (l.length : Int) i true)) else (estoverslaw37_StackdistInclusion.j2 k l (f : Int) i bt394.2.1 bt400.2.1 (l.length : Int) i true))))
      (fun k => by simp only [estoverslaw37_StackdistInclusion.l0]; rw [if_pos hlt, w64 (i := i + 1) (by omega), if_pos (by omega), if_pos (by omega), w64 (i := (f : Int) + 1) (by omega)]) ?_
    refine Ev.bind (lru_ev _ _) (Ev.bind (lru_ev _ _) ?_)
    have r0 : req (l.take (i + 1).toNat).length f = 0 := by unfold req; rw [List.length_take, if_neg (by omega), if_neg (by omega), if_neg (by omega)]
    have r1 : req (l.take (i + 1).toNat).length ((f : Int) + 1) = 0 := by unfold req; rw [List.length_take, if_neg (by omega), if_neg (by omega), if_neg (by omega)]
    unfold lruR
    rw [if_pos r0, if_pos r1]
    have hc := cntF_anti f (dists [] (l.take (i + 1).toNat))
    obtain ⟨rest, hh⟩ := stk_head l i.toNat (by omega)
    rw [show i.toNat + 1 = (i + 1).toNat by omega] at hh
    have hsl := stk_length (l.take (i + 1).toNat) []
    rw [List.length_take] at hsl
    generalize stk [] (l.take (i + 1).toNat) = S at hh hsl ⊢
    generalize dists [] (l.take (i + 1).toNat) = D at hc ⊢
    rw [show ((f : Int)).toNat = f by omega, show ((f : Int) + 1).toNat = f + 1 by omega]
    refine Ev.congr (fun k => by rw [if_pos rfl, if_pos rfl, if_neg (by simp only; omega), if_neg (by simp only [List.length_take]; omega), if_neg (by simp only [List.length_take]; omega), decide_eq_false (by simp only [List.length_take]; omega)]) ?_
    refine Ev.step (f := fun k => estoverslaw37_StackdistInclusion.l1 k l (f : Int) i (S.take f) (S.take (f + 1)) (l.length : Int) i ((S.take f).length : Int) 0) (fun k => by simp only [estoverslaw37_StackdistInclusion.j2]; rw [if_neg (by decide)]) ?_
    refine inclusion_l1 l hl f i (S.take f) (S.take (f + 1)) (by rw [List.length_take]; simp only [List.length_nil] at hsl; omega) h0 hlt (by rw [List.take_take]; congr 1; omega) ⟨rest.take f, by rw [hh]; rfl⟩ true (ih (i + 1) (by omega) (by omega)) (S.take f).length 0 (by omega) (by omega)
theorem StackdistInclusion : estoverslaw37_StackdistInclusion.Pure := by
  intro l0 a1 _ _ _ hw
  refine Ev.rounds ?_
  have ha : 0 ≤ a1 ∧ a1 ≤ 255 := by simpa [Lit.wf, IntKind.min, IntKind.max, IntKind.signed, IntKind.bits] using hw
  unfold estoverslaw37_StackdistInclusion.f
  refine Ev.bind awake_ev (Ev.congr (fun k => by rw [if_pos rfl]) ?_)
  by_cases h1 : (l0.length : Int) > 100
  · exact Ev.congr (fun k => by rw [decide_eq_true h1]) (Ev.step (fun k => by simp only [estoverslaw37_StackdistInclusion.j0]; rw [if_pos trivial]) (Ev.bind awake_ev (Ev.now _)))
  · refine Ev.congr (fun k => by rw [decide_eq_false h1]) ?_
    obtain ⟨f, hf, hf2⟩ : ∃ f : Nat, Int.tmod a1 20 = f ∧ f < 20 := ⟨(Int.tmod a1 20).toNat, by rw [Int.tmod_eq_emod_of_nonneg ha.1]; omega, by rw [Int.tmod_eq_emod_of_nonneg ha.1]; omega⟩
    have h := inclusion_l0 l0 f hf2 (by omega) l0.length 0 (by omega) (by omega)
    exact Ev.step (fun k => by simp only [estoverslaw37_StackdistInclusion.j0]; rw [if_neg (by decide), w64 (by omega), hf]) h
end Go.Proofs.Ytbchpnhlaknhjaa.Pure
