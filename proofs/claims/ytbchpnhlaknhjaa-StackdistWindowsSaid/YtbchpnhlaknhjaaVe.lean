/-
  What Curve and Working come to, in the program and in its reference: the same plain lists.
-/
import Derived.Test.YtbchpnhlaknhjaaVd
import Derived.Test.YtbchpnhlaknhjaaEWork
namespace Go.Proofs.Ytbchpnhlaknhjaa.V
open Go.RowKit Go.Proofs.Ytbchpnhlaknhjaa.Q Go.Proofs.Ytbchpnhlaknhjaa.Sd Go.Proofs.Ytbchpnhlaknhjaa.Bel Go.Proofs.YtbchpnhlaknhjaaW.PrintWords Go.Proofs.YtbchpnhlaknhjaaW.PrintLast Go.Proofs.YtbchpnhlaknhjaaW.PrintMore
set_option linter.unusedVariables false

/-- The faults for 0, 1, .., most frames. -/
def curve (D : List Int) (most : Nat) : List Int := (List.range (most + 1)).map fun (j : Nat) => cntF j D
def curveR (l : List Int) (f : Int) : List Int × Int := if req l.length f = 0 then (curve (dists [] l) f.toNat, 0) else ([], req l.length f)
theorem range_snoc (n : Nat) (g : Nat → Int) : (List.range (n + 1)).map g = (List.range n).map g ++ [g n] := by rw [List.range_succ, List.map_append]; rfl
theorem refCurve_l1 (D : List Int) (most f : Int) (hD : D.length ≤ 5000) (hf : 0 ≤ f ∧ f ≤ 5000) (acc : List Int) (hacc : acc.length ≤ 5000) (d : Nat) : ∀ (n i : Int), 0 ≤ i → (D.length : Int) - i = d → 0 ≤ n → n ≤ i →
    ∀ X, Ev (fun k => estoversref37_Curve.l0 k most D (acc ++ [n + cntF f (D.drop i.toNat)]) (f + 1)) X → Ev (fun k => estoversref37_Curve.l1 k most D acc f n i) X := by
  induction d with
  | zero =>
    intro n i h0 hd _ _ X hX
    rw [drop_end (by omega), cntF_nil, Int.add_zero] at hX
    exact Ev.step (fun k => by simp only [estoversref37_Curve.l1]; rw [if_neg (by omega), if_pos (by omega), w64 (by omega)]) hX
  | succ d ih =>
    intro n i h0 hd hn hni X hX
    have hlt : i < D.length := by omega
    rw [drop_rd h0 hlt, cntF_cons] at hX
    by_cases e : rd D i < 0 ∨ rd D i ≥ f
    · rw [if_pos e, show n + (cntF f (D.drop (i + 1).toNat) + 1) = n + 1 + cntF f (D.drop (i + 1).toNat) by omega] at hX
      have h := ih (n + 1) (i + 1) (by omega) (by omega) (by omega) (by omega) X hX
      by_cases e1 : rd D i < 0
      · exact Ev.step (fun k => by simp only [estoversref37_Curve.l1]; rw [if_pos hlt, if_pos h0, if_pos e1, w64 (by omega), w64 (by omega)]) h
      · exact Ev.step (fun k => by simp only [estoversref37_Curve.l1]; rw [if_pos hlt, if_pos h0, if_neg e1, if_pos (by omega), w64 (by omega), w64 (by omega)]) h
    · rw [if_neg e, Int.add_zero] at hX
      have h := ih n (i + 1) (by omega) (by omega) (by omega) (by omega) X hX
      exact Ev.step (fun k => by simp only [estoversref37_Curve.l1]; rw [if_pos hlt, if_pos h0, if_neg (by omega), if_neg (by omega), w64 (by omega)]) h
theorem refCurve_l0 (D : List Int) (most : Nat) (hD : D.length ≤ 5000) (hm : most ≤ 4096) (d : Nat) : ∀ f : Nat, f + d = most + 1 →
    Ev (fun k => estoversref37_Curve.l0 k (most : Int) D ((List.range f).map fun (j : Nat) => cntF j D) (f : Int)) (curve D most, 0) := by
  induction d with
  | zero =>
    intro f hf
    refine Ev.step (fun k => ?_) (Ev.now _)
    simp only [estoversref37_Curve.l0]
    rw [if_neg (by omega), curve, show f = most + 1 by omega]
  | succ d ih =>
    intro f hf
    have h := ih (f + 1) (by omega)
    rw [range_snoc] at h
    refine Ev.step (f := fun k => estoversref37_Curve.l1 k (most : Int) D ((List.range f).map fun (j : Nat) => cntF j D) (f : Int) 0 0) (fun k => by simp only [estoversref37_Curve.l0]; rw [if_pos (by omega)]) ?_
    refine refCurve_l1 D most f hD (by omega) _ (by simp; omega) D.length 0 0 (by omega) (by omega) (by omega) (by omega) _ ?_
    simpa using h
theorem refCurve_ev (l : List Int) (f : Int) : Ev (fun k => estoversref37_Curve.f k l f) (curveR l f) := by
  unfold estoversref37_Curve.f curveR
  refine Ev.congr (fun k => by rw [check_f, Option.bind_some]) ?_
  by_cases h : req l.length f = 0
  · obtain ⟨h1, h2, h3⟩ := req_zero h
    have r0 : req l.length 0 = 0 := by unfold req; rw [if_neg (by omega), if_neg (by omega), if_neg (by omega)]
    rw [if_pos h]
    obtain ⟨g, rfl⟩ : ∃ g : Nat, f = g := ⟨f.toNat, by omega⟩
    have hr := refDistances_ev l
    unfold distR at hr
    rw [if_pos r0] at hr
    exact Ev.congr (fun k => by rw [if_pos h]) (Ev.bind hr (refCurve_l0 (dists [] l) g (by rw [dists_length]; omega) (by omega) (g + 1) 0 (by omega)))
  · rw [if_neg h]
    exact Ev.none_k fun k => by rw [if_neg h]

/-- How many distances are j - 1, if they are less than most. -/
def hc (most j : Int) (D : List Int) : Int := (D.countP (fun d => decide (0 ≤ d ∧ d < most ∧ d + 1 = j)) : Nat)
theorem hc_cons (most j d : Int) (D : List Int) : hc most j (d :: D) = hc most j D + (if 0 ≤ d ∧ d < most ∧ d + 1 = j then 1 else 0) := by
  unfold hc
  rw [List.countP_cons]
  by_cases h : 0 ≤ d ∧ d < most ∧ d + 1 = j
  · simp [h]
  · simp [h]
theorem hc_le (most j : Int) (D : List Int) : 0 ≤ hc most j D ∧ hc most j D ≤ D.length := by
  have := List.countP_le_length (p := fun d => decide (0 ≤ d ∧ d < most ∧ d + 1 = j)) (l := D)
  unfold hc; omega
theorem hc_zero (most : Int) : ∀ (D : List Int), hc most 0 D = 0
  | [] => rfl
  | d :: D => by rw [hc_cons, hc_zero most D, if_neg (by omega)]; rfl
theorem cntF_hc (most j : Int) (hj : 1 ≤ j ∧ j ≤ most) : ∀ (D : List Int), cntF j D = cntF (j - 1) D - hc most j D
  | [] => rfl
  | d :: D => by
    rw [cntF_cons, cntF_cons, hc_cons, cntF_hc most j hj D]
    split <;> split <;> split <;> omega
theorem cntF_zero : ∀ (D : List Int), cntF 0 D = D.length
  | [] => rfl
  | d :: D => by rw [cntF_cons, cntF_zero D, if_pos (by omega)]; simp
theorem rd_set {H : List Int} {a j v : Int} (ha : 0 ≤ a) (hal : a < H.length) (hj : 0 ≤ j) : rd (H.set a.toNat v) j = if j = a then v else rd H j := by
  unfold rd
  rw [List.getD_eq_getElem?_getD, List.getD_eq_getElem?_getD]
  by_cases e : j = a
  · subst e
    rw [if_pos rfl, List.getElem?_set_self (by omega)]; rfl
  · rw [if_neg e, List.getElem?_set_ne (by omega)]
theorem curve_l0 (l : List Int) (most : Nat) (zs D : List Int) (hD : D.length ≤ 5000) (hm : most ≤ 4096) (d : Nat) : ∀ (H : List Int) (i : Int), 0 ≤ i → (D.length : Int) - i = d → H.length = most + 1 → (∀ j : Int, 0 ≤ j → j ≤ most → 0 ≤ rd H j ∧ rd H j ≤ i) →
    ∃ H' : List Int, H'.length = most + 1 ∧ (∀ j : Int, 0 ≤ j → j ≤ most → rd H' j = rd H j + hc most j (D.drop i.toNat)) ∧
      ∀ X, Ev (fun k => stackdist_Curve.l1 k zs H' (l.length : Int) (zs.length : Int) 0) X → Ev (fun k => stackdist_Curve.l0 k l (most : Int) zs H D (D.length : Int) i) X := by
  induction d with
  | zero =>
    intro H i h0 hd hH _
    refine ⟨H, hH, fun j _ _ => by rw [drop_end (by omega)]; simp [hc], fun X hX => ?_⟩
    exact Ev.step (fun k => by simp only [stackdist_Curve.l0]; rw [if_neg (by omega)]) hX
  | succ d ih =>
    intro H i h0 hd hH hb
    have hlt : i < D.length := by omega
    by_cases e : 0 ≤ rd D i ∧ rd D i < most
    · obtain ⟨e1, e2⟩ := e
      have hbi := hb (rd D i + 1) (by omega) (by omega)
      obtain ⟨H', g1, g2, g3⟩ := ih (H.set (rd D i + 1).toNat (rd H (rd D i + 1) + 1)) (i + 1) (by omega) (by omega) (by simpa using hH) (fun j hj hjm => by
        rw [rd_set (by omega) (by omega) hj]
        have := hb j hj hjm
        split <;> omega)
      refine ⟨H', g1, fun j hj hjm => ?_, fun X hX => Ev.step (fun k => ?_) (g3 X hX)⟩
      · rw [g2 j hj hjm, rd_set (by omega) (by omega) hj, drop_rd h0 hlt, hc_cons]
        by_cases ej : j = rd D i + 1
        · rw [if_pos ej, if_pos ⟨e1, e2, ej.symm⟩, ej]; omega
        · rw [if_neg ej, if_neg (fun h => ej h.2.2.symm)]; omega
      · simp only [stackdist_Curve.l0]
        rw [if_pos hlt, if_pos h0, if_pos hlt, if_pos e1, if_pos e2, w64 (i := rd D i + 1) (by omega), if_pos (by omega), if_pos (by omega), w64 (i := rd H (rd D i + 1) + 1) (by omega), w64 (i := i + 1) (by omega)]
    · obtain ⟨H', g1, g2, g3⟩ := ih H (i + 1) (by omega) (by omega) hH (fun j hj hjm => by have := hb j hj hjm; omega)
      refine ⟨H', g1, fun j hj hjm => ?_, fun X hX => Ev.step (fun k => ?_) (g3 X hX)⟩
      · rw [g2 j hj hjm, drop_rd h0 hlt, hc_cons, if_neg (fun h => e ⟨h.1, h.2.1⟩)]; omega
      · simp only [stackdist_Curve.l0]
        rw [if_pos hlt, if_pos h0, if_pos hlt, w64 (i := i + 1) (by omega)]
        by_cases e1 : rd D i ≥ 0
        · rw [if_pos e1, if_neg (by omega)]
        · rw [if_neg e1]
theorem curve_l1 (D : List Int) (most : Nat) (hD : D.length ≤ 5000) (hm : most ≤ 4096) (H : List Int) (hH : H.length = most + 1) (hv : ∀ j : Int, 0 ≤ j → j ≤ most → rd H j = hc most j D) (d : Nat) :
    ∀ (zs : List Int) (left i : Int), 0 ≤ i → (most : Int) + 1 - i = d → zs.length = most + 1 → left = (if i = 0 then (D.length : Int) else cntF (i - 1) D) → (∀ j : Int, 0 ≤ j → j < i → rd zs j = cntF j D) →
    Ev (fun k => stackdist_Curve.l1 k zs H left (most + 1 : Int) i) (curve D most, 0) := by
  induction d with
  | zero =>
    intro zs left i h0 hd hz _ hp
    refine Ev.step (fun k => ?_) (Ev.now _)
    simp only [stackdist_Curve.l1]
    rw [if_neg (by omega)]
    congr 2
    unfold curve
    apply List.ext_getElem (by simp [hz])
    intro j hj1 hj2
    have h := hp j (by omega) (by omega)
    simp [rd, List.getD_eq_getElem?_getD, hj1] at h
    simp [h]
  | succ d ih =>
    intro zs left i h0 hd hz hleft hp
    have hlt : i < (most : Int) + 1 := by omega
    have hbd := cntF_le i D
    have hbd1 := cntF_le (i - 1) D
    have hbc := hc_le most i D
    have hn : left - rd H i = cntF i D := by
      rw [hv i h0 (by omega), hleft]
      by_cases e : i = 0
      · subst e; rw [if_pos rfl, hc_zero, cntF_zero]; omega
      · rw [if_neg e, cntF_hc most i (by omega) D]
    have hw : wrap64 (left - rd H i) = cntF i D := by rw [hn]; exact w64 (by omega)
    have h := ih (zs.set i.toNat (cntF i D)) (cntF i D) (i + 1) (by omega) (by omega) (by simpa using hz) (by rw [if_neg (by omega), show i + 1 - 1 = i by omega]) (fun j hj hji => by
      rw [rd_set h0 (by omega) hj]
      by_cases e : j = i
      · rw [if_pos e, e]
      · rw [if_neg e]; exact hp j hj (by omega))
    refine Ev.step (fun k => ?_) h
    simp only [stackdist_Curve.l1]
    rw [if_pos hlt, if_pos h0, if_pos (by omega), if_pos (by omega), hw, w64 (i := i + 1) (by omega)]
theorem curve_ev (l : List Int) (f : Int) : Ev (fun k => stackdist_Curve.f k l f) (curveR l f) := by
  unfold stackdist_Curve.f curveR
  refine Ev.congr (fun k => by rw [request_f, Option.bind_some]) ?_
  by_cases h : req l.length f = 0
  · obtain ⟨h1, h2, h3⟩ := req_zero h
    rw [if_pos h]
    obtain ⟨g, rfl⟩ : ∃ g : Nat, f = g := ⟨f.toNat, by omega⟩
    have hdl := dists_length l []
    refine Ev.congr (fun k => by rw [if_pos h]) (Ev.bind (walk_ev l (by omega)) ?_)
    refine Ev.congr (fun k => by rw [w64 (i := (g : Int) + 1) (by omega), if_pos (by omega), if_pos (by omega), show ((g : Int) + 1).toNat = g + 1 by omega]) ?_
    have hz : ∀ j : Int, rd (List.replicate (g + 1) 0) j = 0 := fun j => by
      simp only [rd, List.getD_eq_getElem?_getD, List.getElem?_replicate]
      split <;> rfl
    obtain ⟨H', g1, g2, g3⟩ := curve_l0 l g (List.replicate (g + 1) 0) (dists [] l) (by omega) (by omega) (dists [] l).length (List.replicate (g + 1) 0) 0 (by omega) (by omega) (by simp) (fun j _ _ => by rw [hz]; omega)
    refine g3 _ ?_
    have h := curve_l1 (dists [] l) g (by omega) (by omega) H' g1 (fun j hj hjm => by rw [g2 j hj hjm, hz, Int.zero_add]; rfl) (g + 1) (List.replicate (g + 1) 0) (l.length : Int) 0 (by omega) (by omega) (by simp) (by rw [if_pos rfl, hdl]) (fun j _ _ => by omega)
    refine Ev.congr (fun k => ?_) h
    rw [List.length_replicate]
    rfl
  · rw [if_neg h]
    exact Ev.none_k fun k => by rw [if_neg h]
end Go.Proofs.Ytbchpnhlaknhjaa.V
