-- Written by wip/stubprint.py for this claim. Lean checks it.
import Derived.Test.YtbchpnhlaknhjaaQ0
import Derived.Test.YtbchpnhlaknhjaaQ100
namespace Go.Proofs.Ytbchpnhlaknhjaa.Q
open Go.RowKit Go.Proofs.YtbchpnhlaknhjaaW.PrintWords Go.Proofs.YtbchpnhlaknhjaaW.PrintLast Go.Proofs.YtbchpnhlaknhjaaW.PrintMore
attribute [local go_sem] max2_int min2_int max_two min_two max_three min_three max_four min_four
set_option linter.unusedVariables false
set_option linter.unusedSimpArgs false

/-! ### stackdist_Curve: function 26 -/
mutual
def stackdist_Curve.l0 : Nat → List Int → Int → List Int → List Int → List Int → Int → Int → Option (List Int × Int)
  | 0, _, _, _, _, _, _, _ => none
  | k + 1, x0, x1, x9, x10, x32, x33, x34 => if x34 < x33 then (if 0 ≤ x34 then (if x34 < (x32.length : Int) then (if (rd x32 x34) ≥ 0 then (if (rd x32 x34) < x1 then (if 0 ≤ (wrap64 ((rd x32 x34) + 1)) then (if (wrap64 ((rd x32 x34) + 1)) < (x10.length : Int) then (stackdist_Curve.l0 k x0 x1 x9 (x10.set ((wrap64 ((rd x32 x34) + 1)) : Int).toNat (wrap64 ((rd x10 (wrap64 ((rd x32 x34) + 1))) + 1))) x32 x33 (wrap64 (x34 + 1))) else (none)) else (none)) else (stackdist_Curve.l0 k x0 x1 x9 x10 x32 x33 (wrap64 (x34 + 1)))) else (stackdist_Curve.l0 k x0 x1 x9 x10 x32 x33 (wrap64 (x34 + 1)))) else (none)) else (none)) else (stackdist_Curve.l1 k x9 x10 (x0.length : Int) (x9.length : Int) 0)
def stackdist_Curve.l1 : Nat → List Int → List Int → Int → Int → Int → Option (List Int × Int)
  | 0, _, _, _, _, _ => none
  | k + 1, x9, x10, x13, x56, x57 => if x57 < x56 then (if 0 ≤ x57 then (if x57 < (x10.length : Int) then (if x57 < (x9.length : Int) then (stackdist_Curve.l1 k (x9.set (x57 : Int).toNat (wrap64 (x13 - (rd x10 x57)))) x10 (wrap64 (x13 - (rd x10 x57))) x56 (wrap64 (x57 + 1))) else (none)) else (none)) else (none)) else (some (x9, 0))
end
def stackdist_Curve.f (k : Nat) (l0 : List Int) (a1 : Int) : Option (List Int × Int) := (stackdist_request.f l0 a1).bind fun t163 => (if t163 = 0 then ((stackdist_walk.f k l0).bind fun bt164 => (if 0 ≤ (wrap64 (a1 + 1)) then (if (wrap64 (a1 + 1) : Int).toNat ≤ 35184372088832 then (stackdist_Curve.l0 k l0 a1 (List.replicate (wrap64 (a1 + 1) : Int).toNat 0) (List.replicate (wrap64 (a1 + 1) : Int).toNat 0) bt164.1 (bt164.1.length : Int) 0) else (none)) else (none))) else (some (([] : List Int), t163)))
theorem stackdist_Curve.mono_l : ∀ k, (∀ y0 y1 y2 y3 y4 y5 y6, LeO (stackdist_Curve.l0 k y0 y1 y2 y3 y4 y5 y6) (stackdist_Curve.l0 (k + 1) y0 y1 y2 y3 y4 y5 y6)) ∧ (∀ y0 y1 y2 y3 y4, LeO (stackdist_Curve.l1 k y0 y1 y2 y3 y4) (stackdist_Curve.l1 (k + 1) y0 y1 y2 y3 y4))
  | 0 => ⟨fun _ _ _ _ _ _ _ r h => by simp [stackdist_Curve.l0] at h, fun _ _ _ _ _ r h => by simp [stackdist_Curve.l1] at h⟩
  | k + 1 => by
    obtain ⟨ih0, ih1⟩ := stackdist_Curve.mono_l k
    refine ⟨?_, ?_⟩
    · intro y0 y1 y2 y3 y4 y5 y6
      unfold stackdist_Curve.l0
      repeat' first
      | (with_reducible exact ih0 _ _ _ _ _ _ _)
      | (with_reducible exact ih1 _ _ _ _ _)
      | (with_reducible exact stackdist_walk.mono _ _)
      | (with_reducible exact LeO.refl _)
      | (with_reducible exact LeO.none _)
      | (with_reducible refine LeO.ite ?_ ?_)
      | (with_reducible refine LeO.bind ?_ (fun _ => ?_))
      | exact ih0 _ _ _ _ _ _ _
      | exact ih1 _ _ _ _ _
      | exact stackdist_walk.mono _ _
      | exact LeO.none _
      | refine LeO.ite ?_ ?_
      | refine LeO.bind ?_ (fun _ => ?_)
    · intro y0 y1 y2 y3 y4
      unfold stackdist_Curve.l1
      repeat' first
      | (with_reducible exact ih0 _ _ _ _ _ _ _)
      | (with_reducible exact ih1 _ _ _ _ _)
      | (with_reducible exact stackdist_walk.mono _ _)
      | (with_reducible exact LeO.refl _)
      | (with_reducible exact LeO.none _)
      | (with_reducible refine LeO.ite ?_ ?_)
      | (with_reducible refine LeO.bind ?_ (fun _ => ?_))
      | exact ih0 _ _ _ _ _ _ _
      | exact ih1 _ _ _ _ _
      | exact stackdist_walk.mono _ _
      | exact LeO.none _
      | refine LeO.ite ?_ ?_
      | refine LeO.bind ?_ (fun _ => ?_)
theorem stackdist_Curve.mono : ∀ a0 a1 k, LeO (stackdist_Curve.f k a0 a1) (stackdist_Curve.f (k + 1) a0 a1) := by
  intro a0 a1 k
  obtain ⟨ih0, ih1⟩ := stackdist_Curve.mono_l k
  unfold stackdist_Curve.f
  repeat' first
      | (with_reducible exact ih0 _ _ _ _ _ _ _)
      | (with_reducible exact ih1 _ _ _ _ _)
      | (with_reducible exact stackdist_walk.mono _ _)
      | (with_reducible exact LeO.refl _)
      | (with_reducible exact LeO.none _)
      | (with_reducible refine LeO.ite ?_ ?_)
      | (with_reducible refine LeO.bind ?_ (fun _ => ?_))
      | exact ih0 _ _ _ _ _ _ _
      | exact ih1 _ _ _ _ _
      | exact stackdist_walk.mono _ _
      | exact LeO.none _
      | refine LeO.ite ?_ ?_
      | refine LeO.bind ?_ (fun _ => ?_)
set_option maxHeartbeats 8000000 in
set_option maxRecDepth 100000 in
theorem stackdist_Curve.calls (k : Nat) (A0 : Option Addr) (c0 : Nat) (l0 : List Int) (a1 : Int) (r1 : List Int) (r2 : Int) (w : World) (hr0 : Kd.C (Kd.int .i64) w A0 l0.length l0) (hc0 : l0.length ≤ c0) (h : stackdist_Curve.f k l0 a1 = some (r1, r2)) :
    Calls Try.prog 26 #[.slice A0 l0.length c0, .int .i64 a1] w fun e w' => ∃ v0_ : Value, e = .returned (.tuple #[v0_, .int .i64 r2]) ∧ Kd.R (Kd.int .i64) 3 w' w.heap.size (fun _ => True) v0_ r1 ∧ Below w.heap.size w w' := by
  have HR0 := Aside0.mk hr0
  have HC0 := Aside0.mk hc0
  clear hr0 hc0
  have HB := Aside0.mk (Below.refl w.heap.size w)
  have H : ((stackdist_request.f l0 a1).bind fun t163 => (if t163 = 0 then ((stackdist_walk.f k l0).bind fun bt164 => (if 0 ≤ (wrap64 (a1 + 1)) then (if (wrap64 (a1 + 1) : Int).toNat ≤ 35184372088832 then (stackdist_Curve.l0 k l0 a1 (List.replicate (wrap64 (a1 + 1) : Int).toNat 0) (List.replicate (wrap64 (a1 + 1) : Int).toNat 0) bt164.1 (bt164.1.length : Int) 0) else (none)) else (none))) else (some (([] : List Int), t163)))) = some (r1, r2) := h
  clear h
  replace H := Option.bind_eq_some_iff.mp H
  obtain ⟨t163, A30, H⟩ := H
  replace H : (if t163 = 0 then ((stackdist_walk.f k l0).bind fun bt164 => (if 0 ≤ (wrap64 (a1 + 1)) then (if (wrap64 (a1 + 1) : Int).toNat ≤ 35184372088832 then (stackdist_Curve.l0 k l0 a1 (List.replicate (wrap64 (a1 + 1) : Int).toNat 0) (List.replicate (wrap64 (a1 + 1) : Int).toNat 0) bt164.1 (bt164.1.length : Int) 0) else (none)) else (none))) else (some (([] : List Int), t163))) = some (r1, r2) := H
  have A3 := Aside0.mk A30
  clear A30
  by_cases c4 : t163 = 0
  · rw [if_pos c4] at H
    have c4b0 : (t163 == 0) = true := beq_iff_eq.mpr c4
    have c4b1 : (t163 != 0) = false := bne_eq_false_iff_eq.mpr c4
    clear c4
    replace H := Option.bind_eq_some_iff.mp H
    obtain ⟨⟨t164, t165⟩, A50, H⟩ := H
    replace H : (if 0 ≤ (wrap64 (a1 + 1)) then (if (wrap64 (a1 + 1) : Int).toNat ≤ 35184372088832 then (stackdist_Curve.l0 k l0 a1 (List.replicate (wrap64 (a1 + 1) : Int).toNat 0) (List.replicate (wrap64 (a1 + 1) : Int).toNat 0) t164 (t164.length : Int) 0) else (none)) else (none)) = some (r1, r2) := H
    have A5 := Aside0.mk A50
    clear A50
    obtain ⟨ji6, hji6⟩ : ∃ j_ : Int, (wrap64 (a1 + 1)) = j_ := ⟨_, rfl⟩
    replace H : (if 0 ≤ (ji6) then (if (ji6 : Int).toNat ≤ 35184372088832 then (stackdist_Curve.l0 k l0 a1 (List.replicate (ji6 : Int).toNat 0) (List.replicate (ji6 : Int).toNat 0) t164 (t164.length : Int) 0) else (none)) else (none)) = some (r1, r2) := by first | (rw [hji6] at H; exact H) | (simp only [hji6] at H ⊢; exact H)
    (try rw [hji6] at A3)
    (try rw [hji6] at A5)
    have hji6w : (IntKind.i64.wrap (a1 + 1)) = ji6 := (i64_w _).trans hji6
    by_cases c7 : 0 ≤ (ji6)
    · rw [if_pos c7] at H
      have c7b0 := eq_true c7
      have c7b1 : decide (0 ≤ (ji6)) = true := decide_eq_true c7
      clear c7
      by_cases c8 : (ji6 : Int).toNat ≤ 35184372088832
      · rw [if_pos c8] at H
        have c8b0 := eq_true c8
        have c8b1 : decide ((ji6 : Int).toNat ≤ 35184372088832) = true := decide_eq_true c8
        clear c8
        obtain ⟨y170, hy170⟩ : ∃ y_ : List Int, y_ = (List.replicate (ji6 : Int).toNat 0) := ⟨_, rfl⟩
        replace H : (stackdist_Curve.l0 k l0 a1 y170 (List.replicate (ji6 : Int).toNat 0) t164 (t164.length : Int) 0) = some (r1, r2) := by first | (rw [hy170]; with_reducible exact H) | (have H2_ := (Option.bind_some _ _).symm.trans H; rw [hy170]; with_reducible exact H2_) | (have H2_ := (Option.bind_some _ _).symm.trans H; with_reducible exact H2_) | with_reducible exact H | (rw [hy170]; exact H) | exact H
        have Ny170 := Aside0.mk hy170
        clear hy170
        obtain ⟨y173, hy173⟩ : ∃ y_ : List Int, y_ = (List.replicate (ji6 : Int).toNat 0) := ⟨_, rfl⟩
        replace H : (stackdist_Curve.l0 k l0 a1 y170 y173 t164 (t164.length : Int) 0) = some (r1, r2) := by first | (rw [hy173]; with_reducible exact H) | (have H2_ := (Option.bind_some _ _).symm.trans H; rw [hy173]; with_reducible exact H2_) | (have H2_ := (Option.bind_some _ _).symm.trans H; with_reducible exact H2_) | with_reducible exact H | (rw [hy173]; exact H) | exact H
        have Ny173 := Aside0.mk hy173
        clear hy173
        have H' := Aside0.mk H
        clear H
        go_enter Try.func26, Try.ntmps26
        go_wp2_with (first | ((with_reducible refine gate_callee (f := 39) rfl ?_); refine goesL_ (some 17) rfl rfl Try.func39 (by kernel_rfl) rfl #[.slice A0 l0.length c0, .int .i64 a1] rfl (by (try simp only [List.map_toArray, List.map_cons, List.map_nil]); first | done | rfl | (simp only [List.length_drop, List.length_take]; rfl)) ?_; (with_reducible refine (stackdist_request.calls _ _ l0 a1 t163 _ ?side1 ?side2 A3.out).mono ?_); (case side1 => repeat (first | exact HR0.out | (with_reducible refine Kd.C_alloc ?_ _) | (with_reducible refine Kd.C_drewN ?_ _) | (with_reducible refine Kd.C_drew ?_))); (case side2 => exact HC0.out); rintro e w' ⟨rfl, ⟨nd, rfl⟩⟩; refine ⟨_, rfl, ?_⟩) | ((with_reducible refine gate_callee (f := 40) rfl ?_); refine goesL_ (some 23) rfl rfl Try.func40 (by kernel_rfl) rfl #[.slice A0 l0.length c0] rfl (by (try simp only [List.map_toArray, List.map_cons, List.map_nil]); first | done | rfl | (simp only [List.length_drop, List.length_take]; rfl)) ?_; (with_reducible refine (stackdist_walk.calls k _ _ l0 t164 t165 _ ?side1 ?side2 A5.out).mono ?_); (case side1 => repeat (first | exact HR0.out | (with_reducible refine Kd.C_alloc ?_ _) | (with_reducible refine Kd.C_drewN ?_ _) | (with_reducible refine Kd.C_drew ?_))); (case side2 => exact HC0.out); rintro e w9 ⟨v166, v168, rfl, ho0, ho1, hb⟩; refine ⟨_, rfl, ?_⟩; have n0_ := Aside0.mk (Kd.R_lower ho0 (below_size (by repeat (first | (with_reducible first | exact HB.out | apply below_alloc | apply pw_below_drewN | apply below_drew1) | exact HB.out)))); have n1_ := Aside0.mk (Kd.R_lower ho1 (below_size (by repeat (first | (with_reducible first | exact HB.out | apply below_alloc | apply pw_below_drewN | apply below_drew1) | exact HB.out)))); have n2_ := Aside0.mk (below_step (by repeat (first | (with_reducible first | exact HB.out | apply below_alloc | apply pw_below_drewN | apply below_drew1) | exact HB.out)) hb); clear HB; have HO167 := n0_; have HO169 := n1_; have HB := n2_; clear n0_ n1_ n2_; (try clear hb); (try clear hb2); (try clear hk); (try clear hi); (try clear ho0); (try clear ho1)) | ((with_reducible refine gate_dst (N := 28) rfl ?_); refine Kd.R_make (Kd.int .i64) _ 3 rfl (N := 28) rfl 22 _ _ rfl ji6 rfl rfl Try.underlying22 (.int .i64 0) 8 info3 rfl (by decide) (by omega) 0 (ok := fun _ => True) (okp := fun _ => True) rfl (fun _ hk => hk) trivial (of_decide_eq_true (by first | (with_reducible assumption) | assumption)) (Nat.le_trans (Nat.mul_le_mul_right _ (of_decide_eq_true (by first | (with_reducible assumption) | assumption) : ji6.toNat ≤ 35184372088832)) (by omega)) (Below.refl _ _) (Nat.le_refl _) ?_; intro v171 w10 ho11 hb hg_ hnew_; clear hg_ hnew_; (first | rw [← Ny170.out] at ho11 | (simp only [Int.reduceToNat] at ho11; rw [← Ny170.out] at ho11)); have n0_ := Aside0.mk (Kd.R_elder' (by (with_reducible repeat (first | apply Kd.R_alloc | apply Kd.R_drewN | apply Kd.R_drew)); exact HO167.out) (Kd.R_base ho11) hb); have n1_ := Aside0.mk (Kd.R_elder' (by (with_reducible repeat (first | apply Kd.R_alloc | apply Kd.R_drewN | apply Kd.R_drew)); exact HO169.out) (Kd.R_base ho11) hb); have n2_ := Aside0.mk (Kd.R_lower (Kd.R_new' (Kd.R_new' ho11 (Kd.R_lt (by (with_reducible repeat (first | apply Kd.R_alloc | apply Kd.R_drewN | apply Kd.R_drew)); exact HO167.out))) (Kd.R_lt (by (with_reducible repeat (first | apply Kd.R_alloc | apply Kd.R_drewN | apply Kd.R_drew)); exact HO169.out))) (below_size (by repeat (first | (with_reducible first | exact HB.out | apply below_alloc | apply pw_below_drewN | apply below_drew1) | exact HB.out)))); have n3_ := Aside0.mk (below_step (by repeat (first | (with_reducible first | exact HB.out | apply below_alloc | apply pw_below_drewN | apply below_drew1) | exact HB.out)) hb); clear HO167; clear HO169; clear HB; have HO167 := n0_; have HO169 := n1_; have HO172 := n2_; have HB := n3_; clear n0_ n1_ n2_ n3_; clear hb ho11) | ((with_reducible refine gate_dst (N := 31) rfl ?_); refine Kd.R_make (Kd.int .i64) _ 3 rfl (N := 31) rfl 22 _ _ rfl ji6 rfl rfl Try.underlying22 (.int .i64 0) 8 info3 rfl (by decide) (by omega) 0 (ok := fun _ => True) (okp := fun _ => True) rfl (fun _ hk => hk) trivial (of_decide_eq_true (by first | (with_reducible assumption) | assumption)) (Nat.le_trans (Nat.mul_le_mul_right _ (of_decide_eq_true (by first | (with_reducible assumption) | assumption) : ji6.toNat ≤ 35184372088832)) (by omega)) (Below.refl _ _) (Nat.le_refl _) ?_; intro v174 w12 ho13 hb hg_ hnew_; clear hg_ hnew_; (first | rw [← Ny173.out] at ho13 | (simp only [Int.reduceToNat] at ho13; rw [← Ny173.out] at ho13)); have n0_ := Aside0.mk (Kd.R_elder' (by (with_reducible repeat (first | apply Kd.R_alloc | apply Kd.R_drewN | apply Kd.R_drew)); exact HO167.out) (Kd.R_base ho13) hb); have n1_ := Aside0.mk (Kd.R_elder' (by (with_reducible repeat (first | apply Kd.R_alloc | apply Kd.R_drewN | apply Kd.R_drew)); exact HO169.out) (Kd.R_base ho13) hb); have n2_ := Aside0.mk (Kd.R_elder' (by (with_reducible repeat (first | apply Kd.R_alloc | apply Kd.R_drewN | apply Kd.R_drew)); exact HO172.out) (Kd.R_base ho13) hb); have n3_ := Aside0.mk (Kd.R_lower (Kd.R_new' (Kd.R_new' (Kd.R_new' ho13 (Kd.R_lt (by (with_reducible repeat (first | apply Kd.R_alloc | apply Kd.R_drewN | apply Kd.R_drew)); exact HO167.out))) (Kd.R_lt (by (with_reducible repeat (first | apply Kd.R_alloc | apply Kd.R_drewN | apply Kd.R_drew)); exact HO169.out))) (Kd.R_lt (by (with_reducible repeat (first | apply Kd.R_alloc | apply Kd.R_drewN | apply Kd.R_drew)); exact HO172.out))) (below_size (by repeat (first | (with_reducible first | exact HB.out | apply below_alloc | apply pw_below_drewN | apply below_drew1) | exact HB.out)))); have n4_ := Aside0.mk (below_step (by repeat (first | (with_reducible first | exact HB.out | apply below_alloc | apply pw_below_drewN | apply below_drew1) | exact HB.out)) hb); clear HO167; clear HO169; clear HO172; clear HB; have HO167 := n0_; have HO169 := n1_; have HO172 := n2_; have HO175 := n3_; have HB := n4_; clear n0_ n1_ n2_ n3_ n4_; clear hb ho13; obtain ⟨Ao14, co14, eo14⟩ := Kd.R_slice HO167.out; subst eo14))
        go_loopg [34] k (fun kq v34 w' => ∃ (x10_1 : List Int) (x34_1 : Int), v34 = .int .i64 x34_1 ∧ Aside0 (stackdist_Curve.l0 kq l0 a1 y170 x10_1 t164 (t164.length : Int) x34_1 = some (r1, r2)) ∧ Aside0 (kq ≤ k) ∧ Aside0 (Kd.R (Kd.int .i64) 3 w' w.heap.size (fun k_ => some k_ ≠ (v174 : Value).ownBlock ∧ some k_ ≠ ((.slice Ao14 t164.length co14) : Value).ownBlock) v171 y170) ∧ Aside0 (Kd.R (Kd.int .i64) 3 w' w.heap.size (fun k_ => some k_ ≠ (v171 : Value).ownBlock ∧ some k_ ≠ ((.slice Ao14 t164.length co14) : Value).ownBlock) v174 x10_1) ∧ Aside0 (Kd.R (Kd.int .i64) 3 w' w.heap.size (fun k_ => some k_ ≠ (v171 : Value).ownBlock ∧ some k_ ≠ (v174 : Value).ownBlock) (.slice Ao14 t164.length co14) t164) ∧ Aside0 (Below w.heap.size w w'))
        case atStart => exact ⟨(y173), (0), (by first | rfl | (simp; done) | (simp [*]; done)), H', ⟨Nat.le_refl _⟩, ⟨by (with_reducible repeat (first | apply Kd.R_alloc | apply Kd.R_drewN | apply Kd.R_drew)); exact Kd.R_mono HO172.out (fun _ hk => ⟨hk.2, hk.1.1.2⟩)⟩, ⟨by (with_reducible repeat (first | apply Kd.R_alloc | apply Kd.R_drewN | apply Kd.R_drew)); exact Kd.R_mono HO175.out (fun _ hk => ⟨hk.2, hk.1.1.2⟩)⟩, ⟨by (with_reducible repeat (first | apply Kd.R_alloc | apply Kd.R_drewN | apply Kd.R_drew)); exact Kd.R_mono HO167.out (fun _ hk => ⟨hk.1.2, hk.2⟩)⟩, ⟨by repeat (first | (with_reducible first | exact HB.out | apply below_alloc | apply pw_below_drewN | apply below_drew1) | exact HB.out)⟩⟩
        case round =>
          clear H'
          try clear c2
          try clear p2
          try clear c3
          try clear c4
          try clear c4b0
          try clear c4b1
          try clear p6
          try clear c7
          try clear c7b0
          try clear c7b1
          try clear c8
          try clear c8b0
          try clear c8b1
          obtain ⟨x10_1, x34_1, rfl, HA, HK1, HO_9, HO_10, HO_32, HB⟩ := hrel
          cases gk with
          | zero => exact absurd HA.out (by simp [stackdist_Curve.l0])
          | succ k1 =>
            have H := HA.out
            clear HA
            simp only [stackdist_Curve.l0] at H
            by_cases c15 : x34_1 < (t164.length : Int)
            · rw [if_pos c15] at H
              have c15b0 : decide (x34_1 < (t164.length : Int)) = true := decide_eq_true c15
              clear c15
              by_cases c16 : 0 ≤ x34_1
              · rw [if_pos c16] at H
                have c16b0 : decide (0 ≤ x34_1) = true := decide_eq_true c16
                clear c16
                by_cases c17 : x34_1 < (t164.length : Int)
                · rw [if_pos c17] at H
                  have c17b0 : decide (x34_1 < (t164.length : Int)) = true := decide_eq_true c17
                  clear c17
                  by_cases c18 : (rd t164 x34_1) ≥ 0
                  · rw [if_pos c18] at H
                    have c18b0 : decide (0 ≤ (rd t164 x34_1)) = true := decide_eq_true c18
                    clear c18
                    by_cases c19 : (rd t164 x34_1) < a1
                    · rw [if_pos c19] at H
                      have c19b0 : decide ((rd t164 x34_1) < a1) = true := decide_eq_true c19
                      clear c19
                      obtain ⟨ji20, hji20⟩ : ∃ j_ : Int, (wrap64 ((rd t164 x34_1) + 1)) = j_ := ⟨_, rfl⟩
                      replace H : (if 0 ≤ (ji20) then (if (ji20) < (x10_1.length : Int) then (stackdist_Curve.l0 k1 l0 a1 y170 (x10_1.set ((ji20) : Int).toNat (wrap64 ((rd x10_1 (ji20)) + 1))) t164 (t164.length : Int) (wrap64 (x34_1 + 1))) else (none)) else (none)) = some (r1, r2) := by first | (rw [hji20] at H; exact H) | (simp only [hji20] at H ⊢; exact H)
                      have hji20w : (IntKind.i64.wrap ((rd t164 x34_1) + 1)) = ji20 := (i64_w _).trans hji20
                      by_cases c21 : 0 ≤ (ji20)
                      · rw [if_pos c21] at H
                        have c21b0 : decide (0 ≤ (ji20)) = true := decide_eq_true c21
                        clear c21
                        by_cases c22 : (ji20) < (x10_1.length : Int)
                        · rw [if_pos c22] at H
                          have c22b0 : decide ((ji20) < (x10_1.length : Int)) = true := decide_eq_true c22
                          clear c22
                          obtain ⟨y178, hy178⟩ : ∃ y_ : List Int, y_ = (x10_1.set ((ji20) : Int).toNat (wrap64 ((rd x10_1 (ji20)) + 1))) := ⟨_, rfl⟩
                          replace H : (stackdist_Curve.l0 k1 l0 a1 y170 y178 t164 (t164.length : Int) (wrap64 (x34_1 + 1))) = some (r1, r2) := by first | (rw [hy178]; with_reducible exact H) | (have H2_ := (Option.bind_some _ _).symm.trans H; rw [hy178]; with_reducible exact H2_) | (have H2_ := (Option.bind_some _ _).symm.trans H; with_reducible exact H2_) | with_reducible exact H | (rw [hy178]; exact H) | exact H
                          have Ny178 := Aside0.mk hy178
                          clear hy178
                          have H' := Aside0.mk H
                          clear H
                          have p176 : 0 ≤ (x34_1 : Int) := of_decide_eq_true (by first | (with_reducible assumption) | assumption)
                          have q176 : x34_1 < (t164.length : Int) := of_decide_eq_true (by first | (with_reducible assumption) | assumption)
                          obtain ⟨ad176, e176, hx176_0⟩ := Kd.at_int (Kd.R_reads' HO_32.out).2.2 x34_1 p176 q176
                          cases e176
                          replace p176 := eq_true p176
                          replace q176 := eq_true q176
                          obtain ⟨Ao24, co24, eo24⟩ := Kd.R_slice HO_10.out
                          subst eo24
                          have p177 : 0 ≤ ((ji20) : Int) := of_decide_eq_true (by first | (with_reducible assumption) | assumption)
                          have q177 : (ji20) < (x10_1.length : Int) := of_decide_eq_true (by first | (with_reducible assumption) | assumption)
                          obtain ⟨ad177, e177, hx177_0⟩ := Kd.at_int (Kd.R_reads' HO_10.out).2.2 (ji20) p177 q177
                          cases e177
                          replace p177 := eq_true p177
                          replace q177 := eq_true q177
                          have p23 : 0 ≤ ((ji20) : Int) := of_decide_eq_true (by first | (with_reducible assumption) | assumption)
                          have q23 : ((ji20) : Int) < ((x10_1.length : Int) : Int) := of_decide_eq_true (by first | (with_reducible assumption) | assumption)
                          obtain ⟨go23, co23, eo23, gb23, gl23, cl23, HG23⟩ := Kd.R_form HO_10.out (by omega)
                          (first | cases eo23 | (injection eo23 with ea_ en_ ec_; (first | subst ea_ | (injection ea_ with ea_; subst ea_)); subst ec_; clear en_))
                          have GB23 := Aside0.mk gb23
                          have GG23 := Aside0.mk HG23
                          clear gb23 gl23 HG23
                          (first | simp only [add_plain] at hx177_0 | skip)
                          obtain ⟨hx23_0, hf23_0⟩ := Kd.R_celln 0 HO_10.out ((ji20) : Int) p23 q23
                          replace p23 := eq_true p23
                          replace q23 := eq_true q23
                          have HP25 := Kd.R_putg HO_10.out ((ji20) : Int) (wrap64 ((rd x10_1 (ji20)) + 1))
                          go_wp2_with (first | ((with_reducible refine gate_store (t := 3) (p := 51) rfl ?_); refine store_event (t := 3) (p := 51) (v := ?vo_w26) (w1 := (wr.setCell ⟨go23, ((ji20) : Int).toNat, none⟩ (.int .i64 (wrap64 ((rd x10_1 (ji20)) + 1))))) ?hg ?ho ?hn ?hr ?_; (case ho => rfl); (case hg => rfl); (case hn => rfl); (case hr => first | (go_simp; done) | (go_simp; rfl)); intro w26 hw; have hg : wr.grownBy w26 (some go23) := (by rw [hw]; exact HP25.2); have hp_ : Kd.R (Kd.int .i64) 3 w26 w.heap.size (fun k_ => some k_ ≠ (v171 : Value).ownBlock ∧ some k_ ≠ (.slice (some ad176) t164.length co14 : Value).ownBlock) (.slice (some ⟨go23, 0, none⟩) x10_1.length co24) y178 := (by rw [hw, Ny178.out]; exact HP25.1); clear HP25; have n0_ := Aside0.mk (Kd.R_after (v := (.slice (some ⟨go23, 0, none⟩) x10_1.length co24)) (v1 := (.slice (some ⟨go23, 0, none⟩) x10_1.length co24)) (ok := (fun k_ => some k_ ≠ (.slice (some ad176) t164.length co14 : Value).ownBlock)) (by (with_reducible repeat (first | apply Kd.R_alloc | apply Kd.R_drewN | apply Kd.R_drew)); exact Kd.R_mono HO_9.out (fun _ hk => ⟨hk.2, hk.1⟩)) hg (.inl rfl)); have n1_ := Aside0.mk (hp_); have n2_ := Aside0.mk (Kd.R_after (v := (.slice (some ⟨go23, 0, none⟩) x10_1.length co24)) (v1 := (.slice (some ⟨go23, 0, none⟩) x10_1.length co24)) (ok := (fun k_ => some k_ ≠ (v171 : Value).ownBlock)) (by (with_reducible repeat (first | apply Kd.R_alloc | apply Kd.R_drewN | apply Kd.R_drew)); exact HO_32.out) hg (.inl rfl)); have n3_ := Aside0.mk ((by rw [hw]; exact below_set (HB.out) GB23.out : Below w.heap.size w w26)); clear HO_9; clear HO_10; clear HO_32; clear HB; have HO_9 := n0_; have HO_10 := n1_; have HO_32 := n2_; have HB := n3_; clear n0_ n1_ n2_ n3_; clear hg hw hp_))
                          go_roundg k1
                          case measure => have := HK1.out; omega
                          case rel => exact ⟨(y178), (wrap64 (x34_1 + 1)), (by first | rfl | (simp; done) | (simp [*]; done)), H', ⟨by have := HK1.out; omega⟩, ⟨by (with_reducible repeat (first | apply Kd.R_alloc | apply Kd.R_drewN | apply Kd.R_drew)); exact Kd.R_mono HO_9.out (fun _ hk => ⟨hk.2, hk.1⟩)⟩, ⟨by (with_reducible repeat (first | apply Kd.R_alloc | apply Kd.R_drewN | apply Kd.R_drew)); exact HO_10.out⟩, ⟨by (with_reducible repeat (first | apply Kd.R_alloc | apply Kd.R_drewN | apply Kd.R_drew)); exact HO_32.out⟩, ⟨by repeat (first | (with_reducible first | exact HB.out | apply below_alloc | apply pw_below_drewN | apply below_drew1) | exact HB.out)⟩⟩
                        · rw [if_neg c22] at H
                          exact absurd H (by simp)
                      · rw [if_neg c21] at H
                        exact absurd H (by simp)
                    · rw [if_neg c19] at H
                      have c19b0 : decide ((rd t164 x34_1) < a1) = false := decide_eq_false c19
                      clear c19
                      have H' := Aside0.mk H
                      clear H
                      have p176 : 0 ≤ (x34_1 : Int) := of_decide_eq_true (by first | (with_reducible assumption) | assumption)
                      have q176 : x34_1 < (t164.length : Int) := of_decide_eq_true (by first | (with_reducible assumption) | assumption)
                      obtain ⟨ad176, e176, hx176_0⟩ := Kd.at_int (Kd.R_reads' HO_32.out).2.2 x34_1 p176 q176
                      cases e176
                      replace p176 := eq_true p176
                      replace q176 := eq_true q176
                      go_wp2
                      go_roundg k1
                      case measure => have := HK1.out; omega
                      case rel => exact ⟨(x10_1), (wrap64 (x34_1 + 1)), (by first | rfl | (simp; done) | (simp [*]; done)), H', ⟨by have := HK1.out; omega⟩, ⟨by (with_reducible repeat (first | apply Kd.R_alloc | apply Kd.R_drewN | apply Kd.R_drew)); exact HO_9.out⟩, ⟨by (with_reducible repeat (first | apply Kd.R_alloc | apply Kd.R_drewN | apply Kd.R_drew)); exact HO_10.out⟩, ⟨by (with_reducible repeat (first | apply Kd.R_alloc | apply Kd.R_drewN | apply Kd.R_drew)); exact HO_32.out⟩, ⟨by repeat (first | (with_reducible first | exact HB.out | apply below_alloc | apply pw_below_drewN | apply below_drew1) | exact HB.out)⟩⟩
                  · rw [if_neg c18] at H
                    have c18b0 : decide (0 ≤ (rd t164 x34_1)) = false := decide_eq_false c18
                    clear c18
                    have H' := Aside0.mk H
                    clear H
                    have p176 : 0 ≤ (x34_1 : Int) := of_decide_eq_true (by first | (with_reducible assumption) | assumption)
                    have q176 : x34_1 < (t164.length : Int) := of_decide_eq_true (by first | (with_reducible assumption) | assumption)
                    obtain ⟨ad176, e176, hx176_0⟩ := Kd.at_int (Kd.R_reads' HO_32.out).2.2 x34_1 p176 q176
                    cases e176
                    replace p176 := eq_true p176
                    replace q176 := eq_true q176
                    go_wp2
                    go_roundg k1
                    case measure => have := HK1.out; omega
                    case rel => exact ⟨(x10_1), (wrap64 (x34_1 + 1)), (by first | rfl | (simp; done) | (simp [*]; done)), H', ⟨by have := HK1.out; omega⟩, ⟨by (with_reducible repeat (first | apply Kd.R_alloc | apply Kd.R_drewN | apply Kd.R_drew)); exact HO_9.out⟩, ⟨by (with_reducible repeat (first | apply Kd.R_alloc | apply Kd.R_drewN | apply Kd.R_drew)); exact HO_10.out⟩, ⟨by (with_reducible repeat (first | apply Kd.R_alloc | apply Kd.R_drewN | apply Kd.R_drew)); exact HO_32.out⟩, ⟨by repeat (first | (with_reducible first | exact HB.out | apply below_alloc | apply pw_below_drewN | apply below_drew1) | exact HB.out)⟩⟩
                · rw [if_neg c17] at H
                  exact absurd H (by simp)
              · rw [if_neg c16] at H
                exact absurd H (by simp)
            · rw [if_neg c15] at H
              have c15b0 : decide (x34_1 < (t164.length : Int)) = false := decide_eq_false c15
              (try (have c15b9 := c15b0; rw [hl9_2] at c15b9))
              clear c15
              have H' := Aside0.mk H
              clear H
              obtain ⟨Ao27, co27, eo27⟩ := Kd.R_slice HO_9.out
              subst eo27
              go_wp2
              go_loopg [13, 57] k1 (fun kq v13 v57 w' => ∃ (x9_2 : List Int) (x13_2 : Int) (x57_2 : Int), v13 = .int .i64 x13_2 ∧ v57 = .int .i64 x57_2 ∧ Aside0 (stackdist_Curve.l1 kq x9_2 x10_1 x13_2 (y170.length : Int) x57_2 = some (r1, r2)) ∧ Aside0 (kq ≤ k1) ∧ Aside0 (Kd.R (Kd.int .i64) 3 w' w.heap.size (fun k_ => some k_ ≠ (v174 : Value).ownBlock) (.slice Ao27 y170.length co27) x9_2) ∧ Aside0 (Kd.R (Kd.int .i64) 3 w' w.heap.size (fun k_ => some k_ ≠ ((.slice Ao27 y170.length co27) : Value).ownBlock) v174 x10_1) ∧ Aside0 (Below w.heap.size w w'))
              case atStart => exact ⟨(y170), ((l0.length : Int)), (0), (by first | rfl | (simp; done) | (simp [*]; done)), (by first | rfl | (simp; done) | (simp [*]; done)), H', ⟨Nat.le_refl _⟩, ⟨by (with_reducible repeat (first | apply Kd.R_alloc | apply Kd.R_drewN | apply Kd.R_drew)); exact Kd.R_mono HO_9.out (fun _ hk => hk.1)⟩, ⟨by (with_reducible repeat (first | apply Kd.R_alloc | apply Kd.R_drewN | apply Kd.R_drew)); exact Kd.R_mono HO_10.out (fun _ hk => hk.1)⟩, ⟨by repeat (first | (with_reducible first | exact HB.out | apply below_alloc | apply pw_below_drewN | apply below_drew1) | exact HB.out)⟩⟩
              case round =>
                clear H'
                try clear c1
                try clear p1
                try clear q1
                try clear hx1
                try clear c2
                try clear p2
                try clear q2
                try clear hx2
                try clear hf2
                try clear c3
                try clear c4
                try clear c4b0
                try clear c4b1
                try clear p6
                try clear c7
                try clear c7b0
                try clear c7b1
                try clear c8
                try clear c8b0
                try clear c8b1
                try clear c15
                try clear c15b0
                try clear c16
                try clear c16b0
                try clear c17
                try clear c17b0
                try clear p17
                try clear q17
                try clear hx17
                try clear c18
                try clear c18b0
                try clear c19
                try clear c19b0
                try clear c21
                try clear c21b0
                try clear c22
                try clear c22b0
                try clear p23
                try clear q23
                try clear hx23
                try clear hf23
                try clear c26
                try clear hx176_0
                try clear hx177_0
                try clear hx23_0
                try clear p176
                try clear p177
                try clear p2
                try clear p23
                try clear p6
                try clear q176
                try clear q177
                try clear q23
                obtain ⟨x9_2, x13_2, x57_2, rfl, rfl, HA, HK2, HO_9, HO_10, HB⟩ := hrel
                have hl9_2 := (Kd.R_reads' HO_9.out).1
                rw [hl9_2] at HO_9
                (try simp only [hl9_2])
                (try simp only [hl9_2] at HO_10)
                cases gk with
                | zero => exact absurd HA.out (by simp [stackdist_Curve.l1])
                | succ k2 =>
                  have H := HA.out
                  clear HA
                  simp only [stackdist_Curve.l1] at H
                  by_cases c28 : x57_2 < (y170.length : Int)
                  · rw [if_pos c28] at H
                    have c28b0 : decide (x57_2 < (y170.length : Int)) = true := decide_eq_true c28
                    clear c28
                    by_cases c29 : 0 ≤ x57_2
                    · rw [if_pos c29] at H
                      have c29b0 : decide (0 ≤ x57_2) = true := decide_eq_true c29
                      clear c29
                      by_cases c30 : x57_2 < (x10_1.length : Int)
                      · rw [if_pos c30] at H
                        have c30b0 : decide (x57_2 < (x10_1.length : Int)) = true := decide_eq_true c30
                        clear c30
                        by_cases c31 : x57_2 < (x9_2.length : Int)
                        · rw [if_pos c31] at H
                          have c31b0 : decide (x57_2 < (x9_2.length : Int)) = true := decide_eq_true c31
                          clear c31
                          obtain ⟨y180, hy180⟩ : ∃ y_ : List Int, y_ = (x9_2.set (x57_2 : Int).toNat (wrap64 (x13_2 - (rd x10_1 x57_2)))) := ⟨_, rfl⟩
                          replace H : (stackdist_Curve.l1 k2 y180 x10_1 (wrap64 (x13_2 - (rd x10_1 x57_2))) (y170.length : Int) (wrap64 (x57_2 + 1))) = some (r1, r2) := by first | (rw [hy180]; with_reducible exact H) | (have H2_ := (Option.bind_some _ _).symm.trans H; rw [hy180]; with_reducible exact H2_) | (have H2_ := (Option.bind_some _ _).symm.trans H; with_reducible exact H2_) | with_reducible exact H | (rw [hy180]; exact H) | exact H
                          have Ny180 := Aside0.mk hy180
                          clear hy180
                          have H' := Aside0.mk H
                          clear H
                          obtain ⟨Ao33, co33, eo33⟩ := Kd.R_slice HO_10.out
                          subst eo33
                          have p179 : 0 ≤ (x57_2 : Int) := of_decide_eq_true (by first | (with_reducible assumption) | assumption)
                          have q179 : x57_2 < (x10_1.length : Int) := of_decide_eq_true (by first | (with_reducible assumption) | assumption)
                          obtain ⟨ad179, e179, hx179_0⟩ := Kd.at_int (Kd.R_reads' HO_10.out).2.2 x57_2 p179 q179
                          cases e179
                          replace p179 := eq_true p179
                          replace q179 := eq_true q179
                          have p32 : 0 ≤ (x57_2 : Int) := of_decide_eq_true (by first | (with_reducible assumption) | assumption)
                          have q32 : (x57_2 : Int) < ((x9_2.length : Int) : Int) := of_decide_eq_true (by first | (with_reducible assumption) | assumption)
                          obtain ⟨go32, co32, eo32, gb32, gl32, cl32, HG32⟩ := Kd.R_form HO_9.out (by omega)
                          (first | cases eo32 | (injection eo32 with ea_ en_ ec_; (first | subst ea_ | (injection ea_ with ea_; subst ea_)); subst ec_; clear en_))
                          have GB32 := Aside0.mk gb32
                          have GG32 := Aside0.mk HG32
                          clear gb32 gl32 HG32
                          obtain ⟨hx32_0, hf32_0⟩ := Kd.R_celln 0 HO_9.out (x57_2 : Int) p32 q32
                          replace p32 := eq_true p32
                          replace q32 := eq_true q32
                          have HP34 := Kd.R_putg HO_9.out (x57_2 : Int) (wrap64 (x13_2 - (rd x10_1 x57_2)))
                          go_wp2_with (first | ((with_reducible refine gate_store (t := 3) (p := 69) rfl ?_); refine store_event (t := 3) (p := 69) (v := ?vo_w35) (w1 := (wr.setCell ⟨go32, (x57_2 : Int).toNat, none⟩ (.int .i64 (wrap64 (x13_2 - (rd x10_1 x57_2)))))) ?hg ?ho ?hn ?hr ?_; (case ho => rfl); (case hg => rfl); (case hn => rfl); (case hr => first | (go_simp; done) | (go_simp; rfl)); intro w35 hw; have hg : wr.grownBy w35 (some go32) := (by rw [hw]; exact HP34.2); have hp_ : Kd.R (Kd.int .i64) 3 w35 w.heap.size (fun k_ => some k_ ≠ (.slice (some ad179) x10_1.length co33 : Value).ownBlock) (.slice (some ⟨go32, 0, none⟩) x9_2.length co27) y180 := (by rw [hw, Ny180.out]; exact HP34.1); clear HP34; have n0_ := Aside0.mk (hp_); have n1_ := Aside0.mk (Kd.R_after (v := (.slice (some ⟨go32, 0, none⟩) x9_2.length co27)) (v1 := (.slice (some ⟨go32, 0, none⟩) x9_2.length co27)) (ok := (fun _ => True)) (by (with_reducible repeat (first | apply Kd.R_alloc | apply Kd.R_drewN | apply Kd.R_drew)); exact Kd.R_mono HO_10.out (fun _ hk => ⟨trivial, hk⟩)) hg (.inl rfl)); have n2_ := Aside0.mk ((by rw [hw]; exact below_set (HB.out) GB32.out : Below w.heap.size w w35)); clear HO_9; clear HO_10; clear HB; have HO_9 := n0_; have HO_10 := n1_; have HB := n2_; clear n0_ n1_ n2_; clear hg hw hp_))
                          (try simp only [← hl9_2])
                          go_roundg k2
                          case measure => have := HK1.out; have := HK2.out; omega
                          case rel => exact ⟨(y180), (wrap64 (x13_2 - (rd x10_1 x57_2))), (wrap64 (x57_2 + 1)), (by first | rfl | (simp; done) | (simp [*]; done)), (by first | rfl | (simp; done) | (simp [*]; done)), H', ⟨by have := HK1.out; have := HK2.out; omega⟩, ⟨by (try simp only [hl9_2]); (with_reducible repeat (first | apply Kd.R_alloc | apply Kd.R_drewN | apply Kd.R_drew)); exact HO_9.out⟩, ⟨by (try simp only [hl9_2]); (with_reducible repeat (first | apply Kd.R_alloc | apply Kd.R_drewN | apply Kd.R_drew)); exact Kd.R_mono HO_10.out (fun _ hk => hk.2)⟩, ⟨by repeat (first | (with_reducible first | exact HB.out | apply below_alloc | apply pw_below_drewN | apply below_drew1) | exact HB.out)⟩⟩
                        · rw [if_neg c31] at H
                          exact absurd H (by simp)
                      · rw [if_neg c30] at H
                        exact absurd H (by simp)
                    · rw [if_neg c29] at H
                      exact absurd H (by simp)
                  · rw [if_neg c28] at H
                    have c28b0 : decide (x57_2 < (y170.length : Int)) = false := decide_eq_false c28
                    (try (have c28b9 := c28b0; rw [hl9_2] at c28b9))
                    clear c28
                    simp only [Option.some.injEq, Prod.mk.injEq] at H
                    obtain ⟨rfl, rfl⟩ := H
                    go_wp2
                    go_ret2
                    exact ⟨_, by first | rfl | (simp [errW_none, errW_some] <;> rfl) | (simp only [← hji6]; first | rfl | (simp [errW_none, errW_some] <;> rfl)) | (simp [*, errW_none, errW_some] <;> rfl), by (with_reducible repeat (first | apply Kd.R_alloc | apply Kd.R_drewN | apply Kd.R_drew)); exact Kd.R_mono HO_9.out (fun _ hk => trivial), by repeat (first | (with_reducible first | exact HB.out | apply below_alloc | apply pw_below_drewN | apply below_drew1) | exact HB.out)⟩
      · rw [if_neg c8] at H
        exact absurd H (by simp)
    · rw [if_neg c7] at H
      exact absurd H (by simp)
  · rw [if_neg c4] at H
    have c4b0 : (t163 == 0) = false := beq_eq_false_iff_ne.mpr c4
    have c4b1 : (t163 != 0) = true := bne_iff_ne.mpr c4
    simp only [Option.some.injEq, Prod.mk.injEq] at H
    obtain ⟨rfl, rfl⟩ := H
    go_enter Try.func26, Try.ntmps26
    go_wp2_with (first | ((with_reducible refine gate_callee (f := 39) rfl ?_); refine goesL_ (some 17) rfl rfl Try.func39 (by kernel_rfl) rfl #[.slice A0 l0.length c0, .int .i64 a1] rfl (by (try simp only [List.map_toArray, List.map_cons, List.map_nil]); first | done | rfl | (simp only [List.length_drop, List.length_take]; rfl)) ?_; (with_reducible refine (stackdist_request.calls _ _ l0 a1 t163 _ ?side1 ?side2 A3.out).mono ?_); (case side1 => repeat (first | exact HR0.out | (with_reducible refine Kd.C_alloc ?_ _) | (with_reducible refine Kd.C_drewN ?_ _) | (with_reducible refine Kd.C_drew ?_))); (case side2 => exact HC0.out); rintro e w' ⟨rfl, ⟨nd, rfl⟩⟩; refine ⟨_, rfl, ?_⟩))
    go_ret2
    exact ⟨_, by first | rfl | (simp [errW_none, errW_some] <;> rfl) | (simp [*, errW_none, errW_some] <;> rfl), by first | exact Kd.R_nil _ _ _ _ _ | exact Kd.N_nil _ _ _ _ _ | exact Kd.V_nil _ _ _ _ _ | exact Kd.Q_nil _ _ _ _ _ | exact Kd.S_nil _ _ _ _ _, by repeat (first | (with_reducible first | exact HB.out | apply below_alloc | apply pw_below_drewN | apply below_drew1) | exact HB.out)⟩

/-! ### estoversref37_At: function 37 -/
def estoversref37_At.l0 : Nat → List Int → Int → Int → Option (Int)
  | 0, _, _, _ => none
  | k + 1, x0, x1, x5 => if x5 < (x0.length : Int) then (if 0 ≤ x5 then (if (rd x0 x5) = x1 then (some x5) else (estoversref37_At.l0 k x0 x1 (wrap64 (x5 + 1)))) else (none)) else (some (-1))
def estoversref37_At.f (k : Nat) (l0 : List Int) (a1 : Int) : Option (Int) := estoversref37_At.l0 k l0 a1 0
theorem estoversref37_At.mono_l : ∀ k, (∀ y0 y1 y2, LeO (estoversref37_At.l0 k y0 y1 y2) (estoversref37_At.l0 (k + 1) y0 y1 y2))
  | 0 => fun _ _ _ r h => by simp [estoversref37_At.l0] at h
  | k + 1 => by
    have ih0 := estoversref37_At.mono_l k
    · intro y0 y1 y2
      unfold estoversref37_At.l0
      repeat' first
      | (with_reducible exact ih0 _ _ _)
      | (with_reducible exact LeO.refl _)
      | (with_reducible exact LeO.none _)
      | (with_reducible refine LeO.ite ?_ ?_)
      | (with_reducible refine LeO.bind ?_ (fun _ => ?_))
      | exact ih0 _ _ _
      | exact LeO.none _
      | refine LeO.ite ?_ ?_
      | refine LeO.bind ?_ (fun _ => ?_)
theorem estoversref37_At.mono : ∀ a0 a1 k, LeO (estoversref37_At.f k a0 a1) (estoversref37_At.f (k + 1) a0 a1) := by
  intro a0 a1 k
  have ih0 := estoversref37_At.mono_l k
  unfold estoversref37_At.f
  repeat' first
      | (with_reducible exact ih0 _ _ _)
      | (with_reducible exact LeO.refl _)
      | (with_reducible exact LeO.none _)
      | (with_reducible refine LeO.ite ?_ ?_)
      | (with_reducible refine LeO.bind ?_ (fun _ => ?_))
      | exact ih0 _ _ _
      | exact LeO.none _
      | refine LeO.ite ?_ ?_
      | refine LeO.bind ?_ (fun _ => ?_)
set_option maxHeartbeats 8000000 in
set_option maxRecDepth 100000 in
theorem estoversref37_At.calls (k : Nat) (A0 : Option Addr) (c0 : Nat) (l0 : List Int) (a1 : Int) (r : Int) (w : World) (hr0 : Kd.C (Kd.int .i64) w A0 l0.length l0) (hc0 : l0.length ≤ c0) (h : estoversref37_At.f k l0 a1 = some r) :
    Calls Try.prog 37 #[.slice A0 l0.length c0, .int .i64 a1] w fun e w' => e = .returned (.int .i64 r) ∧ Drawn0 w w' := by
  have HR0 := Aside0.mk hr0
  have HC0 := Aside0.mk hc0
  clear hr0 hc0
  have H : (estoversref37_At.l0 k l0 a1 0) = some r := h
  clear h
  have H' := Aside0.mk H
  clear H
  go_enter Try.func37, Try.ntmps37
  go_wp2
  go_loopg [5] k (fun kq v5 w' => ∃ (x5_1 : Int), v5 = .int .i64 x5_1 ∧ Aside0 (estoversref37_At.l0 kq l0 a1 x5_1 = some r) ∧ Aside0 (kq ≤ k) ∧ Drawn0 w w')
  case atStart => exact ⟨(0), (by first | rfl | (simp; done) | (simp [*]; done)), H', ⟨Nat.le_refl _⟩, by repeat (first | exact Drawn0.refl _ | apply Drawn0.step)⟩
  case round =>
    clear H'
    try clear p2
    obtain ⟨x5_1, rfl, HA, HK1, ⟨m1, rfl⟩⟩ := hrel
    cases gk with
    | zero => exact absurd HA.out (by simp [estoversref37_At.l0])
    | succ k1 =>
      have H := HA.out
      clear HA
      simp only [estoversref37_At.l0] at H
      by_cases c3 : x5_1 < (l0.length : Int)
      · rw [if_pos c3] at H
        have c3b0 : decide (x5_1 < (l0.length : Int)) = true := decide_eq_true c3
        clear c3
        by_cases c4 : 0 ≤ x5_1
        · rw [if_pos c4] at H
          have c4b0 : decide (0 ≤ x5_1) = true := decide_eq_true c4
          clear c4
          by_cases c5 : (rd l0 x5_1) = a1
          · rw [if_pos c5] at H
            have c5b0 : ((rd l0 x5_1) == a1) = true := beq_iff_eq.mpr c5
            have c5b1 : ((rd l0 x5_1) != a1) = false := bne_eq_false_iff_eq.mpr c5
            clear c5
            obtain rfl := Option.some.inj H
            have p236 : 0 ≤ (x5_1 : Int) := of_decide_eq_true (by first | (with_reducible assumption) | assumption)
            have q236 : x5_1 < (l0.length : Int) := of_decide_eq_true (by first | (with_reducible assumption) | assumption)
            obtain ⟨ad236, e236, hx236_0⟩ := Kd.at_int HR0.out x5_1 p236 q236
            cases e236
            replace p236 := eq_true p236
            replace q236 := eq_true q236
            go_wp2
            go_ret
            exact ⟨by first | rfl | (simp; done) | (simp [*]; done), by repeat (first | exact Drawn0.refl _ | apply Drawn0.step)⟩
          · rw [if_neg c5] at H
            have c5b0 : ((rd l0 x5_1) == a1) = false := beq_eq_false_iff_ne.mpr c5
            have c5b1 : ((rd l0 x5_1) != a1) = true := bne_iff_ne.mpr c5
            have H' := Aside0.mk H
            clear H
            have p236 : 0 ≤ (x5_1 : Int) := of_decide_eq_true (by first | (with_reducible assumption) | assumption)
            have q236 : x5_1 < (l0.length : Int) := of_decide_eq_true (by first | (with_reducible assumption) | assumption)
            obtain ⟨ad236, e236, hx236_0⟩ := Kd.at_int HR0.out x5_1 p236 q236
            cases e236
            replace p236 := eq_true p236
            replace q236 := eq_true q236
            go_wp2
            go_roundg k1
            case measure => have := HK1.out; omega
            case rel => exact ⟨(wrap64 (x5_1 + 1)), (by first | rfl | (simp; done) | (simp [*]; done)), H', ⟨by have := HK1.out; omega⟩, by repeat (first | exact Drawn0.refl _ | apply Drawn0.step)⟩
        · rw [if_neg c4] at H
          exact absurd H (by simp)
      · rw [if_neg c3] at H
        have c3b0 : decide (x5_1 < (l0.length : Int)) = false := decide_eq_false c3
        clear c3
        obtain rfl := Option.some.inj H
        go_wp2
        go_ret
        exact ⟨by first | rfl | (simp; done) | (simp [*]; done), by repeat (first | exact Drawn0.refl _ | apply Drawn0.step)⟩

/-! ### estoversref37_without: function 38 -/
def estoversref37_without.l0 : Nat → List Int → Int → List Int → Int → Option (List Int)
  | 0, _, _, _, _ => none
  | k + 1, x0, x1, x5, x6 => if x6 < (x0.length : Int) then (if x6 = x1 then (estoversref37_without.l0 k x0 x1 x5 (wrap64 (x6 + 1))) else (if 0 ≤ x6 then (if x5.length < 17592186044416 then (estoversref37_without.l0 k x0 x1 (x5 ++ [rd x0 x6]) (wrap64 (x6 + 1))) else (none)) else (none))) else (some x5)
def estoversref37_without.f (k : Nat) (l0 : List Int) (a1 : Int) : Option (List Int) := estoversref37_without.l0 k l0 a1 ([] : List Int) 0
theorem estoversref37_without.mono_l : ∀ k, (∀ y0 y1 y2 y3, LeO (estoversref37_without.l0 k y0 y1 y2 y3) (estoversref37_without.l0 (k + 1) y0 y1 y2 y3))
  | 0 => fun _ _ _ _ r h => by simp [estoversref37_without.l0] at h
  | k + 1 => by
    have ih0 := estoversref37_without.mono_l k
    · intro y0 y1 y2 y3
      unfold estoversref37_without.l0
      repeat' first
      | (with_reducible exact ih0 _ _ _ _)
      | (with_reducible exact LeO.refl _)
      | (with_reducible exact LeO.none _)
      | (with_reducible refine LeO.ite ?_ ?_)
      | (with_reducible refine LeO.bind ?_ (fun _ => ?_))
      | exact ih0 _ _ _ _
      | exact LeO.none _
      | refine LeO.ite ?_ ?_
      | refine LeO.bind ?_ (fun _ => ?_)
theorem estoversref37_without.mono : ∀ a0 a1 k, LeO (estoversref37_without.f k a0 a1) (estoversref37_without.f (k + 1) a0 a1) := by
  intro a0 a1 k
  have ih0 := estoversref37_without.mono_l k
  unfold estoversref37_without.f
  repeat' first
      | (with_reducible exact ih0 _ _ _ _)
      | (with_reducible exact LeO.refl _)
      | (with_reducible exact LeO.none _)
      | (with_reducible refine LeO.ite ?_ ?_)
      | (with_reducible refine LeO.bind ?_ (fun _ => ?_))
      | exact ih0 _ _ _ _
      | exact LeO.none _
      | refine LeO.ite ?_ ?_
      | refine LeO.bind ?_ (fun _ => ?_)
set_option maxHeartbeats 8000000 in
set_option maxRecDepth 100000 in
theorem estoversref37_without.calls (k : Nat) (A0 : Option Addr) (c0 : Nat) (l0 : List Int) (a1 : Int) (r : List Int) (w : World) (hr0 : Kd.C (Kd.int .i64) w A0 l0.length l0) (hc0 : l0.length ≤ c0) (h : estoversref37_without.f k l0 a1 = some r) :
    Calls Try.prog 38 #[.slice A0 l0.length c0, .int .i64 a1] w fun e w' => ∃ v0_ : Value, e = .returned (v0_) ∧ Kd.R (Kd.int .i64) 3 w' w.heap.size (fun _ => True) v0_ r ∧ Below w.heap.size w w' := by
  have HR0 := Aside0.mk hr0
  have HC0 := Aside0.mk hc0
  clear hr0 hc0
  have HB := Aside0.mk (Below.refl w.heap.size w)
  have H : (estoversref37_without.l0 k l0 a1 ([] : List Int) 0) = some r := h
  clear h
  have H' := Aside0.mk H
  clear H
  go_enter Try.func38, Try.ntmps38
  go_wp2
  go_loopg [5, 6] k (fun kq v5 v6 w' => ∃ (x5_1 : List Int) (x6_1 : Int), v6 = .int .i64 x6_1 ∧ Aside0 (estoversref37_without.l0 kq l0 a1 x5_1 x6_1 = some r) ∧ Aside0 (kq ≤ k) ∧ Aside0 (Kd.R (Kd.int .i64) 3 w' w.heap.size (fun _ => True) v5 x5_1) ∧ Aside0 (Below w.heap.size w w'))
  case atStart => exact ⟨(([] : List Int)), (0), (by first | rfl | (simp; done) | (simp [*]; done)), H', ⟨Nat.le_refl _⟩, ⟨by first | exact Kd.R_nil _ _ _ _ _ | exact Kd.N_nil _ _ _ _ _ | exact Kd.V_nil _ _ _ _ _ | exact Kd.Q_nil _ _ _ _ _ | exact Kd.S_nil _ _ _ _ _⟩, ⟨by repeat (first | (with_reducible first | exact HB.out | apply below_alloc | apply pw_below_drewN | apply below_drew1) | exact HB.out)⟩⟩
  case round =>
    clear H'
    try clear p2
    obtain ⟨x5_1, x6_1, rfl, HA, HK1, HO_5, HB⟩ := hrel
    cases gk with
    | zero => exact absurd HA.out (by simp [estoversref37_without.l0])
    | succ k1 =>
      have H := HA.out
      clear HA
      simp only [estoversref37_without.l0] at H
      by_cases c3 : x6_1 < (l0.length : Int)
      · rw [if_pos c3] at H
        have c3b0 : decide (x6_1 < (l0.length : Int)) = true := decide_eq_true c3
        clear c3
        by_cases c4 : x6_1 = a1
        · rw [if_pos c4] at H
          have c4b0 : (x6_1 == a1) = true := beq_iff_eq.mpr c4
          have c4b1 : (x6_1 != a1) = false := bne_eq_false_iff_eq.mpr c4
          clear c4
          have H' := Aside0.mk H
          clear H
          go_wp2
          go_roundg k1
          case measure => have := HK1.out; omega
          case rel => exact ⟨(x5_1), (wrap64 (x6_1 + 1)), (by first | rfl | (simp; done) | (simp [*]; done)), H', ⟨by have := HK1.out; omega⟩, ⟨by (with_reducible repeat (first | apply Kd.R_alloc | apply Kd.R_drewN | apply Kd.R_drew)); exact HO_5.out⟩, ⟨by repeat (first | (with_reducible first | exact HB.out | apply below_alloc | apply pw_below_drewN | apply below_drew1) | exact HB.out)⟩⟩
        · rw [if_neg c4] at H
          have c4b0 : (x6_1 == a1) = false := beq_eq_false_iff_ne.mpr c4
          have c4b1 : (x6_1 != a1) = true := bne_iff_ne.mpr c4
          by_cases c5 : 0 ≤ x6_1
          · rw [if_pos c5] at H
            have c5b0 : decide (0 ≤ x6_1) = true := decide_eq_true c5
            clear c5
            by_cases c6 : x5_1.length < 17592186044416
            · rw [if_pos c6] at H
              have LMc6 := Aside0.mk c6
              clear c6
              obtain ⟨y238, hy238⟩ : ∃ y_ : List Int, y_ = (x5_1 ++ [rd l0 x6_1]) := ⟨_, rfl⟩
              replace H : (estoversref37_without.l0 k1 l0 a1 y238 (wrap64 (x6_1 + 1))) = some r := by first | (rw [hy238]; with_reducible exact H) | (have H2_ := (Option.bind_some _ _).symm.trans H; rw [hy238]; with_reducible exact H2_) | (have H2_ := (Option.bind_some _ _).symm.trans H; with_reducible exact H2_) | with_reducible exact H | (rw [hy238]; exact H) | exact H
              have Ny238 := Aside0.mk hy238
              clear hy238
              have H' := Aside0.mk H
              clear H
              have p237 : 0 ≤ (x6_1 : Int) := of_decide_eq_true (by first | (with_reducible assumption) | assumption)
              have q237 : x6_1 < (l0.length : Int) := of_decide_eq_true (by first | (with_reducible assumption) | assumption)
              obtain ⟨ad237, e237, hx237_0⟩ := Kd.at_int HR0.out x6_1 p237 q237
              cases e237
              replace hx237_0 := (HB.out.cell (World.block_lt_of_cell? w _ hx237_0)).trans hx237_0
              replace p237 := eq_true p237
              replace q237 := eq_true q237
              go_wp2_with (first | ((with_reducible refine gate_builtin (b := .append) (xs := #[.tmp 16, .tmp 21]) rfl ?_); at_builtin; refine Kd.R_append (Kd.int .i64) (w0 := w) w.heap.size rfl (.tmp 16) (.tmp 21) 22 3 (.int .i64 0) 8 rfl Try.underlying22 info3 rfl (by decide) (by omega) u5 x5_1 (rd l0 x6_1) [.int .i64 (rd l0 x6_1)] (fun _ => True) (fun _ => False) rfl rfl ?aP (fun _ hk => hk.elim) ?aF ?aO ?aB ?aS ?aL ?_; (case aP => exact rfl); (case aB => exact (by repeat (first | (with_reducible first | exact HB.out | apply below_alloc | apply pw_below_drewN | apply below_drew1) | exact HB.out))); (case aF => exact (fun _ _ => trivial)); (case aO => exact (by (with_reducible repeat (first | apply Kd.R_alloc | apply Kd.R_drewN | apply Kd.R_drew)); exact HO_5.out)); (case aS => exact (below_size (by repeat (first | (with_reducible first | exact HB.out | apply below_alloc | apply pw_below_drewN | apply below_drew1) | exact HB.out)))); (case aL => have := LMc6.out; omega); intro v239 w7 ho hb hg hat; rw [← Ny238.out] at ho; have n0_ := Aside0.mk (hb); have n1_ := Aside0.mk (ho); clear HB; clear HO_5; have HB := n0_; have HO240 := n1_; clear n0_ n1_; clear ho hb hg hat))
              go_roundg k1
              case measure => have := HK1.out; omega
              case rel => exact ⟨(y238), (wrap64 (x6_1 + 1)), (by first | rfl | (simp; done) | (simp [*]; done)), H', ⟨by have := HK1.out; omega⟩, ⟨by (with_reducible repeat (first | apply Kd.R_alloc | apply Kd.R_drewN | apply Kd.R_drew)); exact HO240.out⟩, ⟨by repeat (first | (with_reducible first | exact HB.out | apply below_alloc | apply pw_below_drewN | apply below_drew1) | exact HB.out)⟩⟩
            · rw [if_neg c6] at H
              exact absurd H (by simp)
          · rw [if_neg c5] at H
            exact absurd H (by simp)
      · rw [if_neg c3] at H
        have c3b0 : decide (x6_1 < (l0.length : Int)) = false := decide_eq_false c3
        clear c3
        obtain rfl := Option.some.inj H
        go_wp2
        go_ret
        exact ⟨_, by first | rfl | (simp [errW_none, errW_some] <;> rfl) | (simp [*, errW_none, errW_some] <;> rfl), by (with_reducible repeat (first | apply Kd.R_alloc | apply Kd.R_drewN | apply Kd.R_drew)); exact HO_5.out, by repeat (first | (with_reducible first | exact HB.out | apply below_alloc | apply pw_below_drewN | apply below_drew1) | exact HB.out)⟩

/-! ### estoversref37_Touch: function 16 -/
def estoversref37_Touch.l0 : Nat → Int → List Int → List Int → Int → Option (List Int × Int)
  | 0, _, _, _, _ => none
  | k + 1, x6, x7, x8, x9 => if x9 < (x7.length : Int) then (if 0 ≤ x9 then (if x8.length < 17592186044416 then (estoversref37_Touch.l0 k x6 x7 (x8 ++ [rd x7 x9]) (wrap64 (x9 + 1))) else (none)) else (none)) else (some (x8, x6))
def estoversref37_Touch.f (k : Nat) (l0 : List Int) (a1 : Int) : Option (List Int × Int) := (estoversref37_At.f k l0 a1).bind fun t241 => ((estoversref37_without.f k l0 t241).bind fun t242 => (estoversref37_Touch.l0 k t241 t242 (([a1] : List Int)) 0))
theorem estoversref37_Touch.mono_l : ∀ k, (∀ y0 y1 y2 y3, LeO (estoversref37_Touch.l0 k y0 y1 y2 y3) (estoversref37_Touch.l0 (k + 1) y0 y1 y2 y3))
  | 0 => fun _ _ _ _ r h => by simp [estoversref37_Touch.l0] at h
  | k + 1 => by
    have ih0 := estoversref37_Touch.mono_l k
    · intro y0 y1 y2 y3
      unfold estoversref37_Touch.l0
      repeat' first
      | (with_reducible exact ih0 _ _ _ _)
      | (with_reducible exact estoversref37_At.mono _ _ _)
      | (with_reducible exact estoversref37_without.mono _ _ _)
      | (with_reducible exact LeO.refl _)
      | (with_reducible exact LeO.none _)
      | (with_reducible refine LeO.ite ?_ ?_)
      | (with_reducible refine LeO.bind ?_ (fun _ => ?_))
      | exact ih0 _ _ _ _
      | exact estoversref37_At.mono _ _ _
      | exact estoversref37_without.mono _ _ _
      | exact LeO.none _
      | refine LeO.ite ?_ ?_
      | refine LeO.bind ?_ (fun _ => ?_)
theorem estoversref37_Touch.mono : ∀ a0 a1 k, LeO (estoversref37_Touch.f k a0 a1) (estoversref37_Touch.f (k + 1) a0 a1) := by
  intro a0 a1 k
  have ih0 := estoversref37_Touch.mono_l k
  unfold estoversref37_Touch.f
  repeat' first
      | (with_reducible exact ih0 _ _ _ _)
      | (with_reducible exact estoversref37_At.mono _ _ _)
      | (with_reducible exact estoversref37_without.mono _ _ _)
      | (with_reducible exact LeO.refl _)
      | (with_reducible exact LeO.none _)
      | (with_reducible refine LeO.ite ?_ ?_)
      | (with_reducible refine LeO.bind ?_ (fun _ => ?_))
      | exact ih0 _ _ _ _
      | exact estoversref37_At.mono _ _ _
      | exact estoversref37_without.mono _ _ _
      | exact LeO.none _
      | refine LeO.ite ?_ ?_
      | refine LeO.bind ?_ (fun _ => ?_)
set_option maxHeartbeats 8000000 in
set_option maxRecDepth 100000 in
theorem estoversref37_Touch.calls (k : Nat) (A0 : Option Addr) (c0 : Nat) (l0 : List Int) (a1 : Int) (r1 : List Int) (r2 : Int) (w : World) (hr0 : Kd.C (Kd.int .i64) w A0 l0.length l0) (hc0 : l0.length ≤ c0) (h : estoversref37_Touch.f k l0 a1 = some (r1, r2)) :
    Calls Try.prog 16 #[.slice A0 l0.length c0, .int .i64 a1] w fun e w' => ∃ v0_ : Value, e = .returned (.tuple #[v0_, .int .i64 r2]) ∧ Kd.R (Kd.int .i64) 3 w' w.heap.size (fun _ => True) v0_ r1 ∧ Below w.heap.size w w' := by
  have HR0 := Aside0.mk hr0
  have HC0 := Aside0.mk hc0
  clear hr0 hc0
  have HB := Aside0.mk (Below.refl w.heap.size w)
  have H : ((estoversref37_At.f k l0 a1).bind fun t241 => ((estoversref37_without.f k l0 t241).bind fun t242 => (estoversref37_Touch.l0 k t241 t242 (([a1] : List Int)) 0))) = some (r1, r2) := h
  clear h
  replace H := Option.bind_eq_some_iff.mp H
  obtain ⟨t241, A30, H⟩ := H
  replace H : ((estoversref37_without.f k l0 t241).bind fun t242 => (estoversref37_Touch.l0 k t241 t242 (([a1] : List Int)) 0)) = some (r1, r2) := H
  have A3 := Aside0.mk A30
  clear A30
  replace H := Option.bind_eq_some_iff.mp H
  obtain ⟨t242, A40, H⟩ := H
  replace H : (estoversref37_Touch.l0 k t241 t242 (([a1] : List Int)) 0) = some (r1, r2) := H
  have A4 := Aside0.mk A40
  clear A40
  obtain ⟨y245, hy245⟩ : ∃ y_ : List Int, y_ = (([a1] : List Int)) := ⟨_, rfl⟩
  replace H : (estoversref37_Touch.l0 k t241 t242 y245 0) = some (r1, r2) := by first | (rw [hy245]; with_reducible exact H) | (have H2_ := (Option.bind_some _ _).symm.trans H; rw [hy245]; with_reducible exact H2_) | (have H2_ := (Option.bind_some _ _).symm.trans H; with_reducible exact H2_) | with_reducible exact H | (rw [hy245]; exact H) | exact H
  have Ny245 := Aside0.mk hy245
  clear hy245
  have H' := Aside0.mk H
  clear H
  go_enter Try.func16, Try.ntmps16
  go_wp2_with (first | ((with_reducible refine gate_callee (f := 37) rfl ?_); refine goesL_ (some 12) rfl rfl Try.func37 (by kernel_rfl) rfl #[.slice A0 l0.length c0, .int .i64 a1] rfl (by (try simp only [List.map_toArray, List.map_cons, List.map_nil]); first | done | rfl | (simp only [List.length_drop, List.length_take]; rfl)) ?_; (with_reducible refine (estoversref37_At.calls k _ _ l0 a1 t241 _ ?side1 ?side2 A3.out).mono ?_); (case side1 => repeat (first | exact HR0.out | (with_reducible refine Kd.C_alloc ?_ _) | (with_reducible refine Kd.C_drewN ?_ _) | (with_reducible refine Kd.C_drew ?_))); (case side2 => exact HC0.out); rintro e w' ⟨rfl, ⟨nd, rfl⟩⟩; refine ⟨_, rfl, ?_⟩) | ((with_reducible refine gate_callee (f := 38) rfl ?_); refine goesL_ (some 15) rfl rfl Try.func38 (by kernel_rfl) rfl #[.slice A0 l0.length c0, .int .i64 t241] rfl (by (try simp only [List.map_toArray, List.map_cons, List.map_nil]); first | done | rfl | (simp only [List.length_drop, List.length_take]; rfl)) ?_; (with_reducible refine (estoversref37_without.calls k _ _ l0 t241 t242 _ ?side1 ?side2 A4.out).mono ?_); (case side1 => repeat (first | exact HR0.out | (with_reducible refine Kd.C_alloc ?_ _) | (with_reducible refine Kd.C_drewN ?_ _) | (with_reducible refine Kd.C_drew ?_))); (case side2 => exact HC0.out); rintro e w5 ⟨v243, rfl, ho0, hb⟩; refine ⟨_, rfl, ?_⟩; have n0_ := Aside0.mk (Kd.R_lower ho0 (below_size (by repeat (first | (with_reducible first | exact HB.out | apply below_alloc | apply pw_below_drewN | apply below_drew1) | exact HB.out)))); have n1_ := Aside0.mk (below_step (by repeat (first | (with_reducible first | exact HB.out | apply below_alloc | apply pw_below_drewN | apply below_drew1) | exact HB.out)) hb); clear HB; have HO244 := n0_; have HB := n1_; clear n0_ n1_; (try clear hb); (try clear hb2); (try clear hk); (try clear hi); (try clear ho0)) | ((with_reducible refine gate_dst (N := 17) rfl ?_); refine Kd.R_lit (Kd.int .i64) _ 3 ?hg (N := 17) ?hd (xs := ([a1] : List Int)) (inner := [.int .i64 a1]) (ok := fun _ => True) (okp := fun _ => True) ?hr ?hp (fun _ hk => hk) trivial (Below.refl _ _) (Nat.le_refl _) (by simp) ?_; (case hd => rfl); (case hg => rfl); (case hr => first | (go_simp; done) | (go_simp; rfl)); (case hp => exact (Reps.one (show Kd.M (Kd.int .i64) _ _ _ a1 [.int .i64 a1] from rfl) (Reps.none _ _))); intro v246 w6 ho7 hb hg_ hnew_; clear hg_ hnew_; (first | rw [← Ny245.out] at ho7 | (simp only [Int.reduceToNat] at ho7; rw [← Ny245.out] at ho7)); have n0_ := Aside0.mk (Kd.R_elder' (by (with_reducible repeat (first | apply Kd.R_alloc | apply Kd.R_drewN | apply Kd.R_drew)); exact HO244.out) (Kd.R_base ho7) hb); have n1_ := Aside0.mk (Kd.R_lower (Kd.R_new' ho7 (Kd.R_lt (by (with_reducible repeat (first | apply Kd.R_alloc | apply Kd.R_drewN | apply Kd.R_drew)); exact HO244.out))) (below_size (by repeat (first | (with_reducible first | exact HB.out | apply below_alloc | apply pw_below_drewN | apply below_drew1) | exact HB.out)))); have n2_ := Aside0.mk (below_step (by repeat (first | (with_reducible first | exact HB.out | apply below_alloc | apply pw_below_drewN | apply below_drew1) | exact HB.out)) hb); clear HO244; clear HB; have HO244 := n0_; have HO247 := n1_; have HB := n2_; clear n0_ n1_ n2_; clear hb ho7))
  go_loopg [8, 9] k (fun kq v8 v9 w' => ∃ (x8_1 : List Int) (x9_1 : Int), v9 = .int .i64 x9_1 ∧ Aside0 (estoversref37_Touch.l0 kq t241 t242 x8_1 x9_1 = some (r1, r2)) ∧ Aside0 (kq ≤ k) ∧ Aside0 (Kd.R (Kd.int .i64) 3 w' w.heap.size (fun k_ => some k_ ≠ (v8 : Value).ownBlock) v243 t242) ∧ Aside0 (Kd.R (Kd.int .i64) 3 w' w.heap.size (fun k_ => some k_ ≠ (v243 : Value).ownBlock) v8 x8_1) ∧ Aside0 (Below w.heap.size w w'))
  case atStart => exact ⟨(y245), (0), (by first | rfl | (simp; done) | (simp [*]; done)), H', ⟨Nat.le_refl _⟩, ⟨by (with_reducible repeat (first | apply Kd.R_alloc | apply Kd.R_drewN | apply Kd.R_drew)); exact Kd.R_mono HO244.out (fun _ hk => hk.2)⟩, ⟨by (with_reducible repeat (first | apply Kd.R_alloc | apply Kd.R_drewN | apply Kd.R_drew)); exact Kd.R_mono HO247.out (fun _ hk => hk.2)⟩, ⟨by repeat (first | (with_reducible first | exact HB.out | apply below_alloc | apply pw_below_drewN | apply below_drew1) | exact HB.out)⟩⟩
  case round =>
    clear H'
    try clear c1
    try clear p2
    try clear c3
    obtain ⟨x8_1, x9_1, rfl, HA, HK1, HO_7, HO_8, HB⟩ := hrel
    cases gk with
    | zero => exact absurd HA.out (by simp [estoversref37_Touch.l0])
    | succ k1 =>
      have H := HA.out
      clear HA
      simp only [estoversref37_Touch.l0] at H
      by_cases c8 : x9_1 < (t242.length : Int)
      · rw [if_pos c8] at H
        have c8b0 : decide (x9_1 < (t242.length : Int)) = true := decide_eq_true c8
        clear c8
        by_cases c9 : 0 ≤ x9_1
        · rw [if_pos c9] at H
          have c9b0 : decide (0 ≤ x9_1) = true := decide_eq_true c9
          clear c9
          by_cases c10 : x8_1.length < 17592186044416
          · rw [if_pos c10] at H
            have LMc10 := Aside0.mk c10
            clear c10
            obtain ⟨y249, hy249⟩ : ∃ y_ : List Int, y_ = (x8_1 ++ [rd t242 x9_1]) := ⟨_, rfl⟩
            replace H : (estoversref37_Touch.l0 k1 t241 t242 y249 (wrap64 (x9_1 + 1))) = some (r1, r2) := by first | (rw [hy249]; with_reducible exact H) | (have H2_ := (Option.bind_some _ _).symm.trans H; rw [hy249]; with_reducible exact H2_) | (have H2_ := (Option.bind_some _ _).symm.trans H; with_reducible exact H2_) | with_reducible exact H | (rw [hy249]; exact H) | exact H
            have Ny249 := Aside0.mk hy249
            clear hy249
            have H' := Aside0.mk H
            clear H
            obtain ⟨Ao11, co11, eo11⟩ := Kd.R_slice HO_7.out
            subst eo11
            have p248 : 0 ≤ (x9_1 : Int) := of_decide_eq_true (by first | (with_reducible assumption) | assumption)
            have q248 : x9_1 < (t242.length : Int) := of_decide_eq_true (by first | (with_reducible assumption) | assumption)
            obtain ⟨ad248, e248, hx248_0⟩ := Kd.at_int (Kd.R_reads' HO_7.out).2.2 x9_1 p248 q248
            cases e248
            replace p248 := eq_true p248
            replace q248 := eq_true q248
            go_wp2_with (first | ((with_reducible refine gate_builtin (b := .append) (xs := #[.tmp 24, .tmp 29]) rfl ?_); at_builtin; refine Kd.R_append (Kd.int .i64) (w0 := w) w.heap.size rfl (.tmp 24) (.tmp 29) 22 3 (.int .i64 0) 8 rfl Try.underlying22 info3 rfl (by decide) (by omega) u8 x8_1 (rd t242 x9_1) [.int .i64 (rd t242 x9_1)] (fun k_ => some k_ ≠ (.slice (some ad248) t242.length co11 : Value).ownBlock) (fun _ => False) rfl rfl ?aP (fun _ hk => hk.elim) ?aF ?aO ?aB ?aS ?aL ?_; (case aP => exact rfl); (case aB => exact (by repeat (first | (with_reducible first | exact HB.out | apply below_alloc | apply pw_below_drewN | apply below_drew1) | exact HB.out))); (case aF => exact (fun k_ hk => Kd.fresh' (Kd.R_lt (by (with_reducible repeat (first | apply Kd.R_alloc | apply Kd.R_drewN | apply Kd.R_drew)); exact HO_7.out)) k_ hk)); (case aO => exact (by (with_reducible repeat (first | apply Kd.R_alloc | apply Kd.R_drewN | apply Kd.R_drew)); exact HO_8.out)); (case aS => exact (below_size (by repeat (first | (with_reducible first | exact HB.out | apply below_alloc | apply pw_below_drewN | apply below_drew1) | exact HB.out)))); (case aL => have := LMc10.out; omega); intro v250 w12 ho hb hg hat; rw [← Ny249.out] at ho; have n0_ := Aside0.mk (Kd.R_after (ok := (fun _ => True)) (by (with_reducible repeat (first | apply Kd.R_alloc | apply Kd.R_drewN | apply Kd.R_drew)); exact Kd.R_mono HO_7.out (fun _ hk => ⟨trivial, hk⟩)) hg hat); have n1_ := Aside0.mk (hb); have n2_ := Aside0.mk (ho); clear HO_7; clear HB; clear HO_8; have HO_7 := n0_; have HB := n1_; have HO251 := n2_; clear n0_ n1_ n2_; clear ho hb hg hat))
            go_roundg k1
            case measure => have := HK1.out; omega
            case rel => exact ⟨(y249), (wrap64 (x9_1 + 1)), (by first | rfl | (simp; done) | (simp [*]; done)), H', ⟨by have := HK1.out; omega⟩, ⟨by (with_reducible repeat (first | apply Kd.R_alloc | apply Kd.R_drewN | apply Kd.R_drew)); exact Kd.R_mono HO_7.out (fun _ hk => hk.2)⟩, ⟨by (with_reducible repeat (first | apply Kd.R_alloc | apply Kd.R_drewN | apply Kd.R_drew)); exact HO251.out⟩, ⟨by repeat (first | (with_reducible first | exact HB.out | apply below_alloc | apply pw_below_drewN | apply below_drew1) | exact HB.out)⟩⟩
          · rw [if_neg c10] at H
            exact absurd H (by simp)
        · rw [if_neg c9] at H
          exact absurd H (by simp)
      · rw [if_neg c8] at H
        have c8b0 : decide (x9_1 < (t242.length : Int)) = false := decide_eq_false c8
        clear c8
        simp only [Option.some.injEq, Prod.mk.injEq] at H
        obtain ⟨rfl, rfl⟩ := H
        obtain ⟨Ao13, co13, eo13⟩ := Kd.R_slice HO_7.out
        subst eo13
        go_wp2
        go_ret2
        exact ⟨_, by first | rfl | (simp [errW_none, errW_some] <;> rfl) | (simp [*, errW_none, errW_some] <;> rfl), by (with_reducible repeat (first | apply Kd.R_alloc | apply Kd.R_drewN | apply Kd.R_drew)); exact Kd.R_mono HO_8.out (fun _ hk => trivial), by repeat (first | (with_reducible first | exact HB.out | apply below_alloc | apply pw_below_drewN | apply below_drew1) | exact HB.out)⟩

/-! ### estoversref37_check: function 41 -/
def estoversref37_check.f (l0 : List Int) (a1 : Int) : Option (Int) := if (l0.length : Int) > 4096 then (some 9) else (if a1 < 0 then (some 2) else (if a1 > 4096 then (some 2) else (some 0)))
set_option maxHeartbeats 8000000 in
set_option maxRecDepth 100000 in
theorem estoversref37_check.calls (A0 : Option Addr) (c0 : Nat) (l0 : List Int) (a1 : Int) (r : Int) (w : World) (hr0 : Kd.C (Kd.int .i64) w A0 l0.length l0) (hc0 : l0.length ≤ c0) (h : estoversref37_check.f l0 a1 = some r) :
    Calls Try.prog 41 #[.slice A0 l0.length c0, .int .i64 a1] w fun e w' => e = .returned (.int .i64 r) ∧ Drawn0 w w' := by
  have HR0 := Aside0.mk hr0
  have HC0 := Aside0.mk hc0
  clear hr0 hc0
  have H : (if (l0.length : Int) > 4096 then (some 9) else (if a1 < 0 then (some 2) else (if a1 > 4096 then (some 2) else (some 0)))) = some r := h
  clear h
  by_cases c3 : (l0.length : Int) > 4096
  · rw [if_pos c3] at H
    have c3b0 : decide (4096 < (l0.length : Int)) = true := decide_eq_true c3
    have c3b1 : decide (4096 < l0.length) = true := decide_eq_true (by omega)
    clear c3
    obtain rfl := Option.some.inj H
    go_enter Try.func41, Try.ntmps41
    go_wp2
    go_ret
    exact ⟨by first | rfl | (simp; done) | (simp [*]; done), by repeat (first | exact Drawn0.refl _ | apply Drawn0.step)⟩
  · rw [if_neg c3] at H
    have c3b0 : decide (4096 < (l0.length : Int)) = false := decide_eq_false c3
    have c3b1 : decide (4096 < l0.length) = false := decide_eq_false (by omega)
    clear c3
    by_cases c4 : a1 < 0
    · rw [if_pos c4] at H
      have c4b0 : decide (a1 < 0) = true := decide_eq_true c4
      clear c4
      obtain rfl := Option.some.inj H
      go_enter Try.func41, Try.ntmps41
      go_wp2
      go_ret
      exact ⟨by first | rfl | (simp; done) | (simp [*]; done), by repeat (first | exact Drawn0.refl _ | apply Drawn0.step)⟩
    · rw [if_neg c4] at H
      have c4b0 : decide (a1 < 0) = false := decide_eq_false c4
      clear c4
      by_cases c5 : a1 > 4096
      · rw [if_pos c5] at H
        have c5b0 : decide (4096 < a1) = true := decide_eq_true c5
        clear c5
        obtain rfl := Option.some.inj H
        go_enter Try.func41, Try.ntmps41
        go_wp2
        go_ret
        exact ⟨by first | rfl | (simp; done) | (simp [*]; done), by repeat (first | exact Drawn0.refl _ | apply Drawn0.step)⟩
      · rw [if_neg c5] at H
        have c5b0 : decide (4096 < a1) = false := decide_eq_false c5
        clear c5
        obtain rfl := Option.some.inj H
        go_enter Try.func41, Try.ntmps41
        go_wp2
        go_ret
        exact ⟨by first | rfl | (simp; done) | (simp [*]; done), by repeat (first | exact Drawn0.refl _ | apply Drawn0.step)⟩

/-! ### estoversref37_Distances: function 18 -/
def estoversref37_Distances.l0 : Nat → List Int → List Int → List Int → Int → Option (List Int × Int)
  | 0, _, _, _, _ => none
  | k + 1, x0, x5, x6, x7 => if x7 < (x0.length : Int) then (if 0 ≤ x7 then ((estoversref37_Touch.f k x6 (rd x0 x7)).bind fun bt254 => (if x5.length < 17592186044416 then (estoversref37_Distances.l0 k x0 (x5 ++ [bt254.2]) bt254.1 (wrap64 (x7 + 1))) else (none))) else (none)) else (some (x5, 0))
def estoversref37_Distances.f (k : Nat) (l0 : List Int) : Option (List Int × Int) := (estoversref37_check.f l0 0).bind fun t252 => (if t252 = 0 then (estoversref37_Distances.l0 k l0 ([] : List Int) ([] : List Int) 0) else (some (([] : List Int), t252)))
theorem estoversref37_Distances.mono_l : ∀ k, (∀ y0 y1 y2 y3, LeO (estoversref37_Distances.l0 k y0 y1 y2 y3) (estoversref37_Distances.l0 (k + 1) y0 y1 y2 y3))
  | 0 => fun _ _ _ _ r h => by simp [estoversref37_Distances.l0] at h
  | k + 1 => by
    have ih0 := estoversref37_Distances.mono_l k
    · intro y0 y1 y2 y3
      unfold estoversref37_Distances.l0
      repeat' first
      | (with_reducible exact ih0 _ _ _ _)
      | (with_reducible exact estoversref37_Touch.mono _ _ _)
      | (with_reducible exact LeO.refl _)
      | (with_reducible exact LeO.none _)
      | (with_reducible refine LeO.ite ?_ ?_)
      | (with_reducible refine LeO.bind ?_ (fun _ => ?_))
      | exact ih0 _ _ _ _
      | exact estoversref37_Touch.mono _ _ _
      | exact LeO.none _
      | refine LeO.ite ?_ ?_
      | refine LeO.bind ?_ (fun _ => ?_)
theorem estoversref37_Distances.mono : ∀ a0 k, LeO (estoversref37_Distances.f k a0) (estoversref37_Distances.f (k + 1) a0) := by
  intro a0 k
  have ih0 := estoversref37_Distances.mono_l k
  unfold estoversref37_Distances.f
  repeat' first
      | (with_reducible exact ih0 _ _ _ _)
      | (with_reducible exact estoversref37_Touch.mono _ _ _)
      | (with_reducible exact LeO.refl _)
      | (with_reducible exact LeO.none _)
      | (with_reducible refine LeO.ite ?_ ?_)
      | (with_reducible refine LeO.bind ?_ (fun _ => ?_))
      | exact ih0 _ _ _ _
      | exact estoversref37_Touch.mono _ _ _
      | exact LeO.none _
      | refine LeO.ite ?_ ?_
      | refine LeO.bind ?_ (fun _ => ?_)
set_option maxHeartbeats 8000000 in
set_option maxRecDepth 100000 in
theorem estoversref37_Distances.calls (k : Nat) (A0 : Option Addr) (c0 : Nat) (l0 : List Int) (r1 : List Int) (r2 : Int) (w : World) (hr0 : Kd.C (Kd.int .i64) w A0 l0.length l0) (hc0 : l0.length ≤ c0) (h : estoversref37_Distances.f k l0 = some (r1, r2)) :
    Calls Try.prog 18 #[.slice A0 l0.length c0] w fun e w' => ∃ v0_ : Value, e = .returned (.tuple #[v0_, .int .i64 r2]) ∧ Kd.R (Kd.int .i64) 3 w' w.heap.size (fun _ => True) v0_ r1 ∧ Below w.heap.size w w' := by
  have HR0 := Aside0.mk hr0
  have HC0 := Aside0.mk hc0
  clear hr0 hc0
  have HB := Aside0.mk (Below.refl w.heap.size w)
  have H : ((estoversref37_check.f l0 0).bind fun t252 => (if t252 = 0 then (estoversref37_Distances.l0 k l0 ([] : List Int) ([] : List Int) 0) else (some (([] : List Int), t252)))) = some (r1, r2) := h
  clear h
  replace H := Option.bind_eq_some_iff.mp H
  obtain ⟨t252, A20, H⟩ := H
  replace H : (if t252 = 0 then (estoversref37_Distances.l0 k l0 ([] : List Int) ([] : List Int) 0) else (some (([] : List Int), t252))) = some (r1, r2) := H
  have A2 := Aside0.mk A20
  clear A20
  by_cases c3 : t252 = 0
  · rw [if_pos c3] at H
    have c3b0 : (t252 == 0) = true := beq_iff_eq.mpr c3
    have c3b1 : (t252 != 0) = false := bne_eq_false_iff_eq.mpr c3
    clear c3
    have H' := Aside0.mk H
    clear H
    go_enter Try.func18, Try.ntmps18
    go_wp2_with (first | ((with_reducible refine gate_callee (f := 41) rfl ?_); refine goesL_ (some 11) rfl rfl Try.func41 (by kernel_rfl) rfl #[.slice A0 l0.length c0, .int .i64 0] rfl (by (try simp only [List.map_toArray, List.map_cons, List.map_nil]); first | done | rfl | (simp only [List.length_drop, List.length_take]; rfl)) ?_; (with_reducible refine (estoversref37_check.calls _ _ l0 0 t252 _ ?side1 ?side2 A2.out).mono ?_); (case side1 => repeat (first | exact HR0.out | (with_reducible refine Kd.C_alloc ?_ _) | (with_reducible refine Kd.C_drewN ?_ _) | (with_reducible refine Kd.C_drew ?_))); (case side2 => exact HC0.out); rintro e w' ⟨rfl, ⟨nd, rfl⟩⟩; refine ⟨_, rfl, ?_⟩))
    go_loopg [5, 6, 7] k (fun kq v5 v6 v7 w' => ∃ (x5_1 : List Int) (x6_1 : List Int) (x7_1 : Int), v7 = .int .i64 x7_1 ∧ Aside0 (estoversref37_Distances.l0 kq l0 x5_1 x6_1 x7_1 = some (r1, r2)) ∧ Aside0 (kq ≤ k) ∧ Aside0 (Kd.R (Kd.int .i64) 3 w' w.heap.size (fun k_ => some k_ ≠ (v6 : Value).ownBlock) v5 x5_1) ∧ Aside0 (Kd.R (Kd.int .i64) 3 w' w.heap.size (fun k_ => some k_ ≠ (v5 : Value).ownBlock) v6 x6_1) ∧ Aside0 (Below w.heap.size w w'))
    case atStart => exact ⟨(([] : List Int)), (([] : List Int)), (0), (by first | rfl | (simp; done) | (simp [*]; done)), H', ⟨Nat.le_refl _⟩, ⟨by first | exact Kd.R_nil _ _ _ _ _ | exact Kd.N_nil _ _ _ _ _ | exact Kd.V_nil _ _ _ _ _ | exact Kd.Q_nil _ _ _ _ _ | exact Kd.S_nil _ _ _ _ _⟩, ⟨by first | exact Kd.R_nil _ _ _ _ _ | exact Kd.N_nil _ _ _ _ _ | exact Kd.V_nil _ _ _ _ _ | exact Kd.Q_nil _ _ _ _ _ | exact Kd.S_nil _ _ _ _ _⟩, ⟨by repeat (first | (with_reducible first | exact HB.out | apply below_alloc | apply pw_below_drewN | apply below_drew1) | exact HB.out)⟩⟩
    case round =>
      clear H'
      try clear c1
      try clear p2
      try clear c3
      try clear c3b0
      try clear c3b1
      obtain ⟨x5_1, x6_1, x7_1, rfl, HA, HK1, HO_5, HO_6, HB⟩ := hrel
      cases gk with
      | zero => exact absurd HA.out (by simp [estoversref37_Distances.l0])
      | succ k1 =>
        have H := HA.out
        clear HA
        simp only [estoversref37_Distances.l0] at H
        by_cases c4 : x7_1 < (l0.length : Int)
        · rw [if_pos c4] at H
          have c4b0 : decide (x7_1 < (l0.length : Int)) = true := decide_eq_true c4
          clear c4
          by_cases c5 : 0 ≤ x7_1
          · rw [if_pos c5] at H
            have c5b0 : decide (0 ≤ x7_1) = true := decide_eq_true c5
            clear c5
            replace H := Option.bind_eq_some_iff.mp H
            obtain ⟨⟨t254, t255⟩, A60, H⟩ := H
            replace H : (if x5_1.length < 17592186044416 then (estoversref37_Distances.l0 k1 l0 (x5_1 ++ [t255]) t254 (wrap64 (x7_1 + 1))) else (none)) = some (r1, r2) := H
            have A6 := Aside0.mk A60
            clear A60
            by_cases c7 : x5_1.length < 17592186044416
            · rw [if_pos c7] at H
              have LMc7 := Aside0.mk c7
              clear c7
              obtain ⟨y258, hy258⟩ : ∃ y_ : List Int, y_ = (x5_1 ++ [t255]) := ⟨_, rfl⟩
              replace H : (estoversref37_Distances.l0 k1 l0 y258 t254 (wrap64 (x7_1 + 1))) = some (r1, r2) := by first | (rw [hy258]; with_reducible exact H) | (have H2_ := (Option.bind_some _ _).symm.trans H; rw [hy258]; with_reducible exact H2_) | (have H2_ := (Option.bind_some _ _).symm.trans H; with_reducible exact H2_) | with_reducible exact H | (rw [hy258]; exact H) | exact H
              have Ny258 := Aside0.mk hy258
              clear hy258
              have H' := Aside0.mk H
              clear H
              have p253 : 0 ≤ (x7_1 : Int) := of_decide_eq_true (by first | (with_reducible assumption) | assumption)
              have q253 : x7_1 < (l0.length : Int) := of_decide_eq_true (by first | (with_reducible assumption) | assumption)
              obtain ⟨ad253, e253, hx253_0⟩ := Kd.at_int HR0.out x7_1 p253 q253
              cases e253
              replace hx253_0 := (HB.out.cell (World.block_lt_of_cell? w _ hx253_0)).trans hx253_0
              replace p253 := eq_true p253
              replace q253 := eq_true q253
              obtain ⟨Ao8, co8, eo8⟩ := Kd.R_slice HO_6.out
              subst eo8
              go_wp2_with (first | ((with_reducible refine gate_callee (f := 16) rfl ?_); refine goesL_ (some 27) rfl rfl Try.func16 (by kernel_rfl) rfl #[.slice Ao8 x6_1.length co8, .int .i64 (rd l0 x7_1)] rfl (by (try simp only [List.map_toArray, List.map_cons, List.map_nil]); first | done | rfl | (simp only [List.length_drop, List.length_take]; rfl)) ?_; (with_reducible refine (estoversref37_Touch.calls k1 _ _ x6_1 (rd l0 x7_1) t254 t255 _ ?side1 ?side2 A6.out).mono ?_); (case side1 => repeat (first | exact (Kd.R_reads' HO_6.out).2.2 | (with_reducible refine Kd.C_alloc ?_ _) | (with_reducible refine Kd.C_drewN ?_ _) | (with_reducible refine Kd.C_drew ?_))); (case side2 => exact (Kd.R_reads' HO_6.out).2.1); rintro e w9 ⟨v256, rfl, ho0, hb⟩; refine ⟨_, rfl, ?_⟩; have n0_ := Aside0.mk (Kd.R_elder' (by (with_reducible repeat (first | apply Kd.R_alloc | apply Kd.R_drewN | apply Kd.R_drew)); exact HO_5.out) (Kd.R_base ho0) hb); have n1_ := Aside0.mk (Kd.R_elder' (by (with_reducible repeat (first | apply Kd.R_alloc | apply Kd.R_drewN | apply Kd.R_drew)); exact HO_6.out) (Kd.R_base ho0) hb); have n2_ := Aside0.mk (Kd.R_lower (Kd.R_new' (Kd.R_new' ho0 (Kd.R_lt (by (with_reducible repeat (first | apply Kd.R_alloc | apply Kd.R_drewN | apply Kd.R_drew)); exact HO_5.out))) (Kd.R_lt (by (with_reducible repeat (first | apply Kd.R_alloc | apply Kd.R_drewN | apply Kd.R_drew)); exact HO_6.out))) (below_size (by repeat (first | (with_reducible first | exact HB.out | apply below_alloc | apply pw_below_drewN | apply below_drew1) | exact HB.out)))); have n3_ := Aside0.mk (below_step (by repeat (first | (with_reducible first | exact HB.out | apply below_alloc | apply pw_below_drewN | apply below_drew1) | exact HB.out)) hb); clear HO_5; clear HO_6; clear HB; have HO_5 := n0_; have HO_6 := n1_; have HO257 := n2_; have HB := n3_; clear n0_ n1_ n2_ n3_; (try clear hb); (try clear hb2); (try clear hk); (try clear hi); (try clear ho0)) | ((with_reducible refine gate_builtin (b := .append) (xs := #[.tmp 31, .tmp 33]) rfl ?_); at_builtin; refine Kd.R_append (Kd.int .i64) (w0 := w) w.heap.size rfl (.tmp 31) (.tmp 33) 22 3 (.int .i64 0) 8 rfl Try.underlying22 info3 rfl (by decide) (by omega) u5 x5_1 t255 [.int .i64 t255] (fun k_ => some k_ ≠ (.slice Ao8 x6_1.length co8 : Value).ownBlock ∧ some k_ ≠ (v256 : Value).ownBlock) (fun _ => False) rfl rfl ?aP (fun _ hk => hk.elim) ?aF ?aO ?aB ?aS ?aL ?_; (case aP => exact rfl); (case aB => exact (by repeat (first | (with_reducible first | exact HB.out | apply below_alloc | apply pw_below_drewN | apply below_drew1) | exact HB.out))); (case aF => exact (fun k_ hk => ⟨Kd.fresh' (Kd.R_lt (by (with_reducible repeat (first | apply Kd.R_alloc | apply Kd.R_drewN | apply Kd.R_drew)); exact HO_6.out)) k_ hk, Kd.fresh' (Kd.R_lt (by (with_reducible repeat (first | apply Kd.R_alloc | apply Kd.R_drewN | apply Kd.R_drew)); exact HO257.out)) k_ hk⟩)); (case aO => exact (by (with_reducible repeat (first | apply Kd.R_alloc | apply Kd.R_drewN | apply Kd.R_drew)); exact HO_5.out)); (case aS => exact (below_size (by repeat (first | (with_reducible first | exact HB.out | apply below_alloc | apply pw_below_drewN | apply below_drew1) | exact HB.out)))); (case aL => have := LMc7.out; omega); intro v259 w10 ho hb hg hat; rw [← Ny258.out] at ho; have n0_ := Aside0.mk (Kd.R_after (ok := (fun k_ => some k_ ≠ (v256 : Value).ownBlock)) (by (with_reducible repeat (first | apply Kd.R_alloc | apply Kd.R_drewN | apply Kd.R_drew)); exact Kd.R_mono HO_6.out (fun _ hk => ⟨hk.2, hk.1⟩)) hg hat); have n1_ := Aside0.mk (Kd.R_after (ok := (fun k_ => some k_ ≠ (.slice Ao8 x6_1.length co8 : Value).ownBlock)) (by (with_reducible repeat (first | apply Kd.R_alloc | apply Kd.R_drewN | apply Kd.R_drew)); exact Kd.R_mono HO257.out (fun _ hk => ⟨hk.2, hk.1.2⟩)) hg hat); have n2_ := Aside0.mk (hb); have n3_ := Aside0.mk (ho); clear HO_6; clear HO257; clear HB; clear HO_5; have HO_6 := n0_; have HO257 := n1_; have HB := n2_; have HO260 := n3_; clear n0_ n1_ n2_ n3_; clear ho hb hg hat))
              go_roundg k1
              case measure => have := HK1.out; omega
              case rel => exact ⟨(y258), (t254), (wrap64 (x7_1 + 1)), (by first | rfl | (simp; done) | (simp [*]; done)), H', ⟨by have := HK1.out; omega⟩, ⟨by (with_reducible repeat (first | apply Kd.R_alloc | apply Kd.R_drewN | apply Kd.R_drew)); exact Kd.R_mono HO260.out (fun _ hk => hk.2)⟩, ⟨by (with_reducible repeat (first | apply Kd.R_alloc | apply Kd.R_drewN | apply Kd.R_drew)); exact Kd.R_mono HO257.out (fun _ hk => hk.2)⟩, ⟨by repeat (first | (with_reducible first | exact HB.out | apply below_alloc | apply pw_below_drewN | apply below_drew1) | exact HB.out)⟩⟩
            · rw [if_neg c7] at H
              exact absurd H (by simp)
          · rw [if_neg c5] at H
            exact absurd H (by simp)
        · rw [if_neg c4] at H
          have c4b0 : decide (x7_1 < (l0.length : Int)) = false := decide_eq_false c4
          clear c4
          simp only [Option.some.injEq, Prod.mk.injEq] at H
          obtain ⟨rfl, rfl⟩ := H
          go_wp2
          go_ret2
          exact ⟨_, by first | rfl | (simp [errW_none, errW_some] <;> rfl) | (simp [*, errW_none, errW_some] <;> rfl), by (with_reducible repeat (first | apply Kd.R_alloc | apply Kd.R_drewN | apply Kd.R_drew)); exact Kd.R_mono HO_5.out (fun _ hk => trivial), by repeat (first | (with_reducible first | exact HB.out | apply below_alloc | apply pw_below_drewN | apply below_drew1) | exact HB.out)⟩
  · rw [if_neg c3] at H
    have c3b0 : (t252 == 0) = false := beq_eq_false_iff_ne.mpr c3
    have c3b1 : (t252 != 0) = true := bne_iff_ne.mpr c3
    simp only [Option.some.injEq, Prod.mk.injEq] at H
    obtain ⟨rfl, rfl⟩ := H
    go_enter Try.func18, Try.ntmps18
    go_wp2_with (first | ((with_reducible refine gate_callee (f := 41) rfl ?_); refine goesL_ (some 11) rfl rfl Try.func41 (by kernel_rfl) rfl #[.slice A0 l0.length c0, .int .i64 0] rfl (by (try simp only [List.map_toArray, List.map_cons, List.map_nil]); first | done | rfl | (simp only [List.length_drop, List.length_take]; rfl)) ?_; (with_reducible refine (estoversref37_check.calls _ _ l0 0 t252 _ ?side1 ?side2 A2.out).mono ?_); (case side1 => repeat (first | exact HR0.out | (with_reducible refine Kd.C_alloc ?_ _) | (with_reducible refine Kd.C_drewN ?_ _) | (with_reducible refine Kd.C_drew ?_))); (case side2 => exact HC0.out); rintro e w' ⟨rfl, ⟨nd, rfl⟩⟩; refine ⟨_, rfl, ?_⟩))
    go_ret2
    exact ⟨_, by first | rfl | (simp [errW_none, errW_some] <;> rfl) | (simp [*, errW_none, errW_some] <;> rfl), by first | exact Kd.R_nil _ _ _ _ _ | exact Kd.N_nil _ _ _ _ _ | exact Kd.V_nil _ _ _ _ _ | exact Kd.Q_nil _ _ _ _ _ | exact Kd.S_nil _ _ _ _ _, by repeat (first | (with_reducible first | exact HB.out | apply below_alloc | apply pw_below_drewN | apply below_drew1) | exact HB.out)⟩

/-! ### estoversref37_Lru: function 21 -/
def estoversref37_Lru.l0 : Nat → List Int → Int → Int → List Int → Int → Option (Int × List Int × Int)
  | 0, _, _, _, _, _ => none
  | k + 1, x0, x1, x8, x9, x10 => if x10 < (x0.length : Int) then (if 0 ≤ x10 then ((estoversref37_Touch.f k x9 (rd x0 x10)).bind fun bt283 => (if bt283.2 < 0 then (if (bt283.1.length : Int) > x1 then ((estoversref37_without.f k bt283.1 (wrap64 ((bt283.1.length : Int) - 1))).bind fun t287 => (estoversref37_Lru.l0 k x0 x1 (wrap64 (x8 + 1)) t287 (wrap64 (x10 + 1)))) else (estoversref37_Lru.l0 k x0 x1 (wrap64 (x8 + 1)) bt283.1 (wrap64 (x10 + 1)))) else (if (bt283.1.length : Int) > x1 then ((estoversref37_without.f k bt283.1 (wrap64 ((bt283.1.length : Int) - 1))).bind fun t290 => (estoversref37_Lru.l0 k x0 x1 x8 t290 (wrap64 (x10 + 1)))) else (estoversref37_Lru.l0 k x0 x1 x8 bt283.1 (wrap64 (x10 + 1)))))) else (none)) else (some (x8, x9, 0))
def estoversref37_Lru.f (k : Nat) (l0 : List Int) (a1 : Int) : Option (Int × List Int × Int) := (estoversref37_check.f l0 a1).bind fun t281 => (if t281 = 0 then (estoversref37_Lru.l0 k l0 a1 0 ([] : List Int) 0) else (some (0, ([] : List Int), t281)))
theorem estoversref37_Lru.mono_l : ∀ k, (∀ y0 y1 y2 y3 y4, LeO (estoversref37_Lru.l0 k y0 y1 y2 y3 y4) (estoversref37_Lru.l0 (k + 1) y0 y1 y2 y3 y4))
  | 0 => fun _ _ _ _ _ r h => by simp [estoversref37_Lru.l0] at h
  | k + 1 => by
    have ih0 := estoversref37_Lru.mono_l k
    · intro y0 y1 y2 y3 y4
      unfold estoversref37_Lru.l0
      repeat' first
      | (with_reducible exact ih0 _ _ _ _ _)
      | (with_reducible exact estoversref37_Touch.mono _ _ _)
      | (with_reducible exact estoversref37_without.mono _ _ _)
      | (with_reducible exact LeO.refl _)
      | (with_reducible exact LeO.none _)
      | (with_reducible refine LeO.ite ?_ ?_)
      | (with_reducible refine LeO.bind ?_ (fun _ => ?_))
      | exact ih0 _ _ _ _ _
      | exact estoversref37_Touch.mono _ _ _
      | exact estoversref37_without.mono _ _ _
      | exact LeO.none _
      | refine LeO.ite ?_ ?_
      | refine LeO.bind ?_ (fun _ => ?_)
theorem estoversref37_Lru.mono : ∀ a0 a1 k, LeO (estoversref37_Lru.f k a0 a1) (estoversref37_Lru.f (k + 1) a0 a1) := by
  intro a0 a1 k
  have ih0 := estoversref37_Lru.mono_l k
  unfold estoversref37_Lru.f
  repeat' first
      | (with_reducible exact ih0 _ _ _ _ _)
      | (with_reducible exact estoversref37_Touch.mono _ _ _)
      | (with_reducible exact estoversref37_without.mono _ _ _)
      | (with_reducible exact LeO.refl _)
      | (with_reducible exact LeO.none _)
      | (with_reducible refine LeO.ite ?_ ?_)
      | (with_reducible refine LeO.bind ?_ (fun _ => ?_))
      | exact ih0 _ _ _ _ _
      | exact estoversref37_Touch.mono _ _ _
      | exact estoversref37_without.mono _ _ _
      | exact LeO.none _
      | refine LeO.ite ?_ ?_
      | refine LeO.bind ?_ (fun _ => ?_)
set_option maxHeartbeats 8000000 in
set_option maxRecDepth 100000 in
theorem estoversref37_Lru.calls (k : Nat) (A0 : Option Addr) (c0 : Nat) (l0 : List Int) (a1 : Int) (r1 : Int) (r2 : List Int) (r3 : Int) (w : World) (hr0 : Kd.C (Kd.int .i64) w A0 l0.length l0) (hc0 : l0.length ≤ c0) (h : estoversref37_Lru.f k l0 a1 = some (r1, r2, r3)) :
    Calls Try.prog 21 #[.slice A0 l0.length c0, .int .i64 a1] w fun e w' => ∃ v1_ : Value, e = .returned (.tuple #[.int .i64 r1, v1_, .int .i64 r3]) ∧ Kd.R (Kd.int .i64) 3 w' w.heap.size (fun _ => True) v1_ r2 ∧ Below w.heap.size w w' := by
  have HR0 := Aside0.mk hr0
  have HC0 := Aside0.mk hc0
  clear hr0 hc0
  have HB := Aside0.mk (Below.refl w.heap.size w)
  have H : ((estoversref37_check.f l0 a1).bind fun t281 => (if t281 = 0 then (estoversref37_Lru.l0 k l0 a1 0 ([] : List Int) 0) else (some (0, ([] : List Int), t281)))) = some (r1, r2, r3) := h
  clear h
  replace H := Option.bind_eq_some_iff.mp H
  obtain ⟨t281, A30, H⟩ := H
  replace H : (if t281 = 0 then (estoversref37_Lru.l0 k l0 a1 0 ([] : List Int) 0) else (some (0, ([] : List Int), t281))) = some (r1, r2, r3) := H
  have A3 := Aside0.mk A30
  clear A30
  by_cases c4 : t281 = 0
  · rw [if_pos c4] at H
    have c4b0 : (t281 == 0) = true := beq_iff_eq.mpr c4
    have c4b1 : (t281 != 0) = false := bne_eq_false_iff_eq.mpr c4
    clear c4
    have H' := Aside0.mk H
    clear H
    go_enter Try.func21, Try.ntmps21
    go_wp2_with (first | ((with_reducible refine gate_callee (f := 41) rfl ?_); refine goesL_ (some 15) rfl rfl Try.func41 (by kernel_rfl) rfl #[.slice A0 l0.length c0, .int .i64 a1] rfl (by (try simp only [List.map_toArray, List.map_cons, List.map_nil]); first | done | rfl | (simp only [List.length_drop, List.length_take]; rfl)) ?_; (with_reducible refine (estoversref37_check.calls _ _ l0 a1 t281 _ ?side1 ?side2 A3.out).mono ?_); (case side1 => repeat (first | exact HR0.out | (with_reducible refine Kd.C_alloc ?_ _) | (with_reducible refine Kd.C_drewN ?_ _) | (with_reducible refine Kd.C_drew ?_))); (case side2 => exact HC0.out); rintro e w' ⟨rfl, ⟨nd, rfl⟩⟩; refine ⟨_, rfl, ?_⟩))
    go_loopg [8, 9, 10] k (fun kq v8 v9 v10 w' => ∃ (x8_1 : Int) (x9_1 : List Int) (x10_1 : Int), v8 = .int .i64 x8_1 ∧ v10 = .int .i64 x10_1 ∧ Aside0 (estoversref37_Lru.l0 kq l0 a1 x8_1 x9_1 x10_1 = some (r1, r2, r3)) ∧ Aside0 (kq ≤ k) ∧ Aside0 (Kd.R (Kd.int .i64) 3 w' w.heap.size (fun _ => True) v9 x9_1) ∧ Aside0 (Below w.heap.size w w'))
    case atStart => exact ⟨(0), (([] : List Int)), (0), (by first | rfl | (simp; done) | (simp [*]; done)), (by first | rfl | (simp; done) | (simp [*]; done)), H', ⟨Nat.le_refl _⟩, ⟨by first | exact Kd.R_nil _ _ _ _ _ | exact Kd.N_nil _ _ _ _ _ | exact Kd.V_nil _ _ _ _ _ | exact Kd.Q_nil _ _ _ _ _ | exact Kd.S_nil _ _ _ _ _⟩, ⟨by repeat (first | (with_reducible first | exact HB.out | apply below_alloc | apply pw_below_drewN | apply below_drew1) | exact HB.out)⟩⟩
    case round =>
      clear H'
      try clear c2
      try clear p2
      try clear c4
      try clear c4b0
      try clear c4b1
      obtain ⟨x8_1, x9_1, x10_1, rfl, rfl, HA, HK1, HO_9, HB⟩ := hrel
      cases gk with
      | zero => exact absurd HA.out (by simp [estoversref37_Lru.l0])
      | succ k1 =>
        have H := HA.out
        clear HA
        simp only [estoversref37_Lru.l0] at H
        by_cases c5 : x10_1 < (l0.length : Int)
        · rw [if_pos c5] at H
          have c5b0 : decide (x10_1 < (l0.length : Int)) = true := decide_eq_true c5
          clear c5
          by_cases c6 : 0 ≤ x10_1
          · rw [if_pos c6] at H
            have c6b0 : decide (0 ≤ x10_1) = true := decide_eq_true c6
            clear c6
            replace H := Option.bind_eq_some_iff.mp H
            obtain ⟨⟨t283, t284⟩, A70, H⟩ := H
            replace H : (if t284 < 0 then (if (t283.length : Int) > a1 then ((estoversref37_without.f k1 t283 (wrap64 ((t283.length : Int) - 1))).bind fun t287 => (estoversref37_Lru.l0 k1 l0 a1 (wrap64 (x8_1 + 1)) t287 (wrap64 (x10_1 + 1)))) else (estoversref37_Lru.l0 k1 l0 a1 (wrap64 (x8_1 + 1)) t283 (wrap64 (x10_1 + 1)))) else (if (t283.length : Int) > a1 then ((estoversref37_without.f k1 t283 (wrap64 ((t283.length : Int) - 1))).bind fun t290 => (estoversref37_Lru.l0 k1 l0 a1 x8_1 t290 (wrap64 (x10_1 + 1)))) else (estoversref37_Lru.l0 k1 l0 a1 x8_1 t283 (wrap64 (x10_1 + 1))))) = some (r1, r2, r3) := H
            have A7 := Aside0.mk A70
            clear A70
            by_cases c8 : t284 < 0
            · rw [if_pos c8] at H
              have c8b0 : decide (t284 < 0) = true := decide_eq_true c8
              clear c8
              by_cases c9 : (t283.length : Int) > a1
              · rw [if_pos c9] at H
                have c9b0 : decide (a1 < (t283.length : Int)) = true := decide_eq_true c9
                clear c9
                replace H := Option.bind_eq_some_iff.mp H
                obtain ⟨t287, A100, H⟩ := H
                replace H : (estoversref37_Lru.l0 k1 l0 a1 (wrap64 (x8_1 + 1)) t287 (wrap64 (x10_1 + 1))) = some (r1, r2, r3) := H
                have A10 := Aside0.mk A100
                clear A100
                have H' := Aside0.mk H
                clear H
                have p282 : 0 ≤ (x10_1 : Int) := of_decide_eq_true (by first | (with_reducible assumption) | assumption)
                have q282 : x10_1 < (l0.length : Int) := of_decide_eq_true (by first | (with_reducible assumption) | assumption)
                obtain ⟨ad282, e282, hx282_0⟩ := Kd.at_int HR0.out x10_1 p282 q282
                cases e282
                replace hx282_0 := (HB.out.cell (World.block_lt_of_cell? w _ hx282_0)).trans hx282_0
                replace p282 := eq_true p282
                replace q282 := eq_true q282
                obtain ⟨Ao11, co11, eo11⟩ := Kd.R_slice HO_9.out
                subst eo11
                go_wp2_with (first | ((with_reducible refine gate_callee (f := 16) rfl ?_); refine goesL_ (some 31) rfl rfl Try.func16 (by kernel_rfl) rfl #[.slice Ao11 x9_1.length co11, .int .i64 (rd l0 x10_1)] rfl (by (try simp only [List.map_toArray, List.map_cons, List.map_nil]); first | done | rfl | (simp only [List.length_drop, List.length_take]; rfl)) ?_; (with_reducible refine (estoversref37_Touch.calls k1 _ _ x9_1 (rd l0 x10_1) t283 t284 _ ?side1 ?side2 A7.out).mono ?_); (case side1 => repeat (first | exact (Kd.R_reads' HO_9.out).2.2 | (with_reducible refine Kd.C_alloc ?_ _) | (with_reducible refine Kd.C_drewN ?_ _) | (with_reducible refine Kd.C_drew ?_))); (case side2 => exact (Kd.R_reads' HO_9.out).2.1); rintro e w12 ⟨v285, rfl, ho0, hb⟩; refine ⟨_, rfl, ?_⟩; have n0_ := Aside0.mk (Kd.R_elder' (by (with_reducible repeat (first | apply Kd.R_alloc | apply Kd.R_drewN | apply Kd.R_drew)); exact HO_9.out) (Kd.R_base ho0) hb); have n1_ := Aside0.mk (Kd.R_lower (Kd.R_new' ho0 (Kd.R_lt (by (with_reducible repeat (first | apply Kd.R_alloc | apply Kd.R_drewN | apply Kd.R_drew)); exact HO_9.out))) (below_size (by repeat (first | (with_reducible first | exact HB.out | apply below_alloc | apply pw_below_drewN | apply below_drew1) | exact HB.out)))); have n2_ := Aside0.mk (below_step (by repeat (first | (with_reducible first | exact HB.out | apply below_alloc | apply pw_below_drewN | apply below_drew1) | exact HB.out)) hb); clear HO_9; clear HB; have HO_9 := n0_; have HO286 := n1_; have HB := n2_; clear n0_ n1_ n2_; (try clear hb); (try clear hb2); (try clear hk); (try clear hi); (try clear ho0); obtain ⟨Ao13, co13, eo13⟩ := Kd.R_slice HO286.out; subst eo13) | ((with_reducible refine gate_callee (f := 38) rfl ?_); refine goesL_ (some 47) rfl rfl Try.func38 (by kernel_rfl) rfl #[.slice Ao13 t283.length co13, .int .i64 (wrap64 ((t283.length : Int) - 1))] rfl (by (try simp only [List.map_toArray, List.map_cons, List.map_nil]); first | done | rfl | (simp only [List.length_drop, List.length_take]; rfl)) ?_; (with_reducible refine (estoversref37_without.calls k1 _ _ t283 (wrap64 ((t283.length : Int) - 1)) t287 _ ?side1 ?side2 A10.out).mono ?_); (case side1 => repeat (first | exact (Kd.R_reads' HO286.out).2.2 | (with_reducible refine Kd.C_alloc ?_ _) | (with_reducible refine Kd.C_drewN ?_ _) | (with_reducible refine Kd.C_drew ?_))); (case side2 => exact (Kd.R_reads' HO286.out).2.1); rintro e w14 ⟨v288, rfl, ho0, hb⟩; refine ⟨_, rfl, ?_⟩; have n0_ := Aside0.mk (Kd.R_elder' (by (with_reducible repeat (first | apply Kd.R_alloc | apply Kd.R_drewN | apply Kd.R_drew)); exact HO_9.out) (Kd.R_base ho0) hb); have n1_ := Aside0.mk (Kd.R_elder' (by (with_reducible repeat (first | apply Kd.R_alloc | apply Kd.R_drewN | apply Kd.R_drew)); exact HO286.out) (Kd.R_base ho0) hb); have n2_ := Aside0.mk (Kd.R_lower (Kd.R_new' (Kd.R_new' ho0 (Kd.R_lt (by (with_reducible repeat (first | apply Kd.R_alloc | apply Kd.R_drewN | apply Kd.R_drew)); exact HO_9.out))) (Kd.R_lt (by (with_reducible repeat (first | apply Kd.R_alloc | apply Kd.R_drewN | apply Kd.R_drew)); exact HO286.out))) (below_size (by repeat (first | (with_reducible first | exact HB.out | apply below_alloc | apply pw_below_drewN | apply below_drew1) | exact HB.out)))); have n3_ := Aside0.mk (below_step (by repeat (first | (with_reducible first | exact HB.out | apply below_alloc | apply pw_below_drewN | apply below_drew1) | exact HB.out)) hb); clear HO_9; clear HO286; clear HB; have HO_9 := n0_; have HO286 := n1_; have HO289 := n2_; have HB := n3_; clear n0_ n1_ n2_ n3_; (try clear hb); (try clear hb2); (try clear hk); (try clear hi); (try clear ho0)))
                go_roundg k1
                case measure => have := HK1.out; omega
                case rel => exact ⟨(wrap64 (x8_1 + 1)), (t287), (wrap64 (x10_1 + 1)), (by first | rfl | (simp; done) | (simp [*]; done)), (by first | rfl | (simp; done) | (simp [*]; done)), H', ⟨by have := HK1.out; omega⟩, ⟨by (with_reducible repeat (first | apply Kd.R_alloc | apply Kd.R_drewN | apply Kd.R_drew)); exact Kd.R_mono HO289.out (fun _ hk => trivial)⟩, ⟨by repeat (first | (with_reducible first | exact HB.out | apply below_alloc | apply pw_below_drewN | apply below_drew1) | exact HB.out)⟩⟩
              · rw [if_neg c9] at H
                have c9b0 : decide (a1 < (t283.length : Int)) = false := decide_eq_false c9
                clear c9
                have H' := Aside0.mk H
                clear H
                have p282 : 0 ≤ (x10_1 : Int) := of_decide_eq_true (by first | (with_reducible assumption) | assumption)
                have q282 : x10_1 < (l0.length : Int) := of_decide_eq_true (by first | (with_reducible assumption) | assumption)
                obtain ⟨ad282, e282, hx282_0⟩ := Kd.at_int HR0.out x10_1 p282 q282
                cases e282
                replace hx282_0 := (HB.out.cell (World.block_lt_of_cell? w _ hx282_0)).trans hx282_0
                replace p282 := eq_true p282
                replace q282 := eq_true q282
                obtain ⟨Ao15, co15, eo15⟩ := Kd.R_slice HO_9.out
                subst eo15
                go_wp2_with (first | ((with_reducible refine gate_callee (f := 16) rfl ?_); refine goesL_ (some 31) rfl rfl Try.func16 (by kernel_rfl) rfl #[.slice Ao15 x9_1.length co15, .int .i64 (rd l0 x10_1)] rfl (by (try simp only [List.map_toArray, List.map_cons, List.map_nil]); first | done | rfl | (simp only [List.length_drop, List.length_take]; rfl)) ?_; (with_reducible refine (estoversref37_Touch.calls k1 _ _ x9_1 (rd l0 x10_1) t283 t284 _ ?side1 ?side2 A7.out).mono ?_); (case side1 => repeat (first | exact (Kd.R_reads' HO_9.out).2.2 | (with_reducible refine Kd.C_alloc ?_ _) | (with_reducible refine Kd.C_drewN ?_ _) | (with_reducible refine Kd.C_drew ?_))); (case side2 => exact (Kd.R_reads' HO_9.out).2.1); rintro e w16 ⟨v285, rfl, ho0, hb⟩; refine ⟨_, rfl, ?_⟩; have n0_ := Aside0.mk (Kd.R_elder' (by (with_reducible repeat (first | apply Kd.R_alloc | apply Kd.R_drewN | apply Kd.R_drew)); exact HO_9.out) (Kd.R_base ho0) hb); have n1_ := Aside0.mk (Kd.R_lower (Kd.R_new' ho0 (Kd.R_lt (by (with_reducible repeat (first | apply Kd.R_alloc | apply Kd.R_drewN | apply Kd.R_drew)); exact HO_9.out))) (below_size (by repeat (first | (with_reducible first | exact HB.out | apply below_alloc | apply pw_below_drewN | apply below_drew1) | exact HB.out)))); have n2_ := Aside0.mk (below_step (by repeat (first | (with_reducible first | exact HB.out | apply below_alloc | apply pw_below_drewN | apply below_drew1) | exact HB.out)) hb); clear HO_9; clear HB; have HO_9 := n0_; have HO286 := n1_; have HB := n2_; clear n0_ n1_ n2_; (try clear hb); (try clear hb2); (try clear hk); (try clear hi); (try clear ho0); obtain ⟨Ao17, co17, eo17⟩ := Kd.R_slice HO286.out; subst eo17))
                go_roundg k1
                case measure => have := HK1.out; omega
                case rel => exact ⟨(wrap64 (x8_1 + 1)), (t283), (wrap64 (x10_1 + 1)), (by first | rfl | (simp; done) | (simp [*]; done)), (by first | rfl | (simp; done) | (simp [*]; done)), H', ⟨by have := HK1.out; omega⟩, ⟨by (with_reducible repeat (first | apply Kd.R_alloc | apply Kd.R_drewN | apply Kd.R_drew)); exact Kd.R_mono HO286.out (fun _ hk => trivial)⟩, ⟨by repeat (first | (with_reducible first | exact HB.out | apply below_alloc | apply pw_below_drewN | apply below_drew1) | exact HB.out)⟩⟩
            · rw [if_neg c8] at H
              have c8b0 : decide (t284 < 0) = false := decide_eq_false c8
              clear c8
              by_cases c18 : (t283.length : Int) > a1
              · rw [if_pos c18] at H
                have c18b0 : decide (a1 < (t283.length : Int)) = true := decide_eq_true c18
                clear c18
                replace H := Option.bind_eq_some_iff.mp H
                obtain ⟨t290, A190, H⟩ := H
                replace H : (estoversref37_Lru.l0 k1 l0 a1 x8_1 t290 (wrap64 (x10_1 + 1))) = some (r1, r2, r3) := H
                have A19 := Aside0.mk A190
                clear A190
                have H' := Aside0.mk H
                clear H
                have p282 : 0 ≤ (x10_1 : Int) := of_decide_eq_true (by first | (with_reducible assumption) | assumption)
                have q282 : x10_1 < (l0.length : Int) := of_decide_eq_true (by first | (with_reducible assumption) | assumption)
                obtain ⟨ad282, e282, hx282_0⟩ := Kd.at_int HR0.out x10_1 p282 q282
                cases e282
                replace hx282_0 := (HB.out.cell (World.block_lt_of_cell? w _ hx282_0)).trans hx282_0
                replace p282 := eq_true p282
                replace q282 := eq_true q282
                obtain ⟨Ao20, co20, eo20⟩ := Kd.R_slice HO_9.out
                subst eo20
                go_wp2_with (first | ((with_reducible refine gate_callee (f := 16) rfl ?_); refine goesL_ (some 31) rfl rfl Try.func16 (by kernel_rfl) rfl #[.slice Ao20 x9_1.length co20, .int .i64 (rd l0 x10_1)] rfl (by (try simp only [List.map_toArray, List.map_cons, List.map_nil]); first | done | rfl | (simp only [List.length_drop, List.length_take]; rfl)) ?_; (with_reducible refine (estoversref37_Touch.calls k1 _ _ x9_1 (rd l0 x10_1) t283 t284 _ ?side1 ?side2 A7.out).mono ?_); (case side1 => repeat (first | exact (Kd.R_reads' HO_9.out).2.2 | (with_reducible refine Kd.C_alloc ?_ _) | (with_reducible refine Kd.C_drewN ?_ _) | (with_reducible refine Kd.C_drew ?_))); (case side2 => exact (Kd.R_reads' HO_9.out).2.1); rintro e w21 ⟨v285, rfl, ho0, hb⟩; refine ⟨_, rfl, ?_⟩; have n0_ := Aside0.mk (Kd.R_elder' (by (with_reducible repeat (first | apply Kd.R_alloc | apply Kd.R_drewN | apply Kd.R_drew)); exact HO_9.out) (Kd.R_base ho0) hb); have n1_ := Aside0.mk (Kd.R_lower (Kd.R_new' ho0 (Kd.R_lt (by (with_reducible repeat (first | apply Kd.R_alloc | apply Kd.R_drewN | apply Kd.R_drew)); exact HO_9.out))) (below_size (by repeat (first | (with_reducible first | exact HB.out | apply below_alloc | apply pw_below_drewN | apply below_drew1) | exact HB.out)))); have n2_ := Aside0.mk (below_step (by repeat (first | (with_reducible first | exact HB.out | apply below_alloc | apply pw_below_drewN | apply below_drew1) | exact HB.out)) hb); clear HO_9; clear HB; have HO_9 := n0_; have HO286 := n1_; have HB := n2_; clear n0_ n1_ n2_; (try clear hb); (try clear hb2); (try clear hk); (try clear hi); (try clear ho0); obtain ⟨Ao22, co22, eo22⟩ := Kd.R_slice HO286.out; subst eo22) | ((with_reducible refine gate_callee (f := 38) rfl ?_); refine goesL_ (some 47) rfl rfl Try.func38 (by kernel_rfl) rfl #[.slice Ao22 t283.length co22, .int .i64 (wrap64 ((t283.length : Int) - 1))] rfl (by (try simp only [List.map_toArray, List.map_cons, List.map_nil]); first | done | rfl | (simp only [List.length_drop, List.length_take]; rfl)) ?_; (with_reducible refine (estoversref37_without.calls k1 _ _ t283 (wrap64 ((t283.length : Int) - 1)) t290 _ ?side1 ?side2 A19.out).mono ?_); (case side1 => repeat (first | exact (Kd.R_reads' HO286.out).2.2 | (with_reducible refine Kd.C_alloc ?_ _) | (with_reducible refine Kd.C_drewN ?_ _) | (with_reducible refine Kd.C_drew ?_))); (case side2 => exact (Kd.R_reads' HO286.out).2.1); rintro e w23 ⟨v291, rfl, ho0, hb⟩; refine ⟨_, rfl, ?_⟩; have n0_ := Aside0.mk (Kd.R_elder' (by (with_reducible repeat (first | apply Kd.R_alloc | apply Kd.R_drewN | apply Kd.R_drew)); exact HO_9.out) (Kd.R_base ho0) hb); have n1_ := Aside0.mk (Kd.R_elder' (by (with_reducible repeat (first | apply Kd.R_alloc | apply Kd.R_drewN | apply Kd.R_drew)); exact HO286.out) (Kd.R_base ho0) hb); have n2_ := Aside0.mk (Kd.R_lower (Kd.R_new' (Kd.R_new' ho0 (Kd.R_lt (by (with_reducible repeat (first | apply Kd.R_alloc | apply Kd.R_drewN | apply Kd.R_drew)); exact HO_9.out))) (Kd.R_lt (by (with_reducible repeat (first | apply Kd.R_alloc | apply Kd.R_drewN | apply Kd.R_drew)); exact HO286.out))) (below_size (by repeat (first | (with_reducible first | exact HB.out | apply below_alloc | apply pw_below_drewN | apply below_drew1) | exact HB.out)))); have n3_ := Aside0.mk (below_step (by repeat (first | (with_reducible first | exact HB.out | apply below_alloc | apply pw_below_drewN | apply below_drew1) | exact HB.out)) hb); clear HO_9; clear HO286; clear HB; have HO_9 := n0_; have HO286 := n1_; have HO292 := n2_; have HB := n3_; clear n0_ n1_ n2_ n3_; (try clear hb); (try clear hb2); (try clear hk); (try clear hi); (try clear ho0)))
                go_roundg k1
                case measure => have := HK1.out; omega
                case rel => exact ⟨(x8_1), (t290), (wrap64 (x10_1 + 1)), (by first | rfl | (simp; done) | (simp [*]; done)), (by first | rfl | (simp; done) | (simp [*]; done)), H', ⟨by have := HK1.out; omega⟩, ⟨by (with_reducible repeat (first | apply Kd.R_alloc | apply Kd.R_drewN | apply Kd.R_drew)); exact Kd.R_mono HO292.out (fun _ hk => trivial)⟩, ⟨by repeat (first | (with_reducible first | exact HB.out | apply below_alloc | apply pw_below_drewN | apply below_drew1) | exact HB.out)⟩⟩
              · rw [if_neg c18] at H
                have c18b0 : decide (a1 < (t283.length : Int)) = false := decide_eq_false c18
                clear c18
                have H' := Aside0.mk H
                clear H
                have p282 : 0 ≤ (x10_1 : Int) := of_decide_eq_true (by first | (with_reducible assumption) | assumption)
                have q282 : x10_1 < (l0.length : Int) := of_decide_eq_true (by first | (with_reducible assumption) | assumption)
                obtain ⟨ad282, e282, hx282_0⟩ := Kd.at_int HR0.out x10_1 p282 q282
                cases e282
                replace hx282_0 := (HB.out.cell (World.block_lt_of_cell? w _ hx282_0)).trans hx282_0
                replace p282 := eq_true p282
                replace q282 := eq_true q282
                obtain ⟨Ao24, co24, eo24⟩ := Kd.R_slice HO_9.out
                subst eo24
                go_wp2_with (first | ((with_reducible refine gate_callee (f := 16) rfl ?_); refine goesL_ (some 31) rfl rfl Try.func16 (by kernel_rfl) rfl #[.slice Ao24 x9_1.length co24, .int .i64 (rd l0 x10_1)] rfl (by (try simp only [List.map_toArray, List.map_cons, List.map_nil]); first | done | rfl | (simp only [List.length_drop, List.length_take]; rfl)) ?_; (with_reducible refine (estoversref37_Touch.calls k1 _ _ x9_1 (rd l0 x10_1) t283 t284 _ ?side1 ?side2 A7.out).mono ?_); (case side1 => repeat (first | exact (Kd.R_reads' HO_9.out).2.2 | (with_reducible refine Kd.C_alloc ?_ _) | (with_reducible refine Kd.C_drewN ?_ _) | (with_reducible refine Kd.C_drew ?_))); (case side2 => exact (Kd.R_reads' HO_9.out).2.1); rintro e w25 ⟨v285, rfl, ho0, hb⟩; refine ⟨_, rfl, ?_⟩; have n0_ := Aside0.mk (Kd.R_elder' (by (with_reducible repeat (first | apply Kd.R_alloc | apply Kd.R_drewN | apply Kd.R_drew)); exact HO_9.out) (Kd.R_base ho0) hb); have n1_ := Aside0.mk (Kd.R_lower (Kd.R_new' ho0 (Kd.R_lt (by (with_reducible repeat (first | apply Kd.R_alloc | apply Kd.R_drewN | apply Kd.R_drew)); exact HO_9.out))) (below_size (by repeat (first | (with_reducible first | exact HB.out | apply below_alloc | apply pw_below_drewN | apply below_drew1) | exact HB.out)))); have n2_ := Aside0.mk (below_step (by repeat (first | (with_reducible first | exact HB.out | apply below_alloc | apply pw_below_drewN | apply below_drew1) | exact HB.out)) hb); clear HO_9; clear HB; have HO_9 := n0_; have HO286 := n1_; have HB := n2_; clear n0_ n1_ n2_; (try clear hb); (try clear hb2); (try clear hk); (try clear hi); (try clear ho0); obtain ⟨Ao26, co26, eo26⟩ := Kd.R_slice HO286.out; subst eo26))
                go_roundg k1
                case measure => have := HK1.out; omega
                case rel => exact ⟨(x8_1), (t283), (wrap64 (x10_1 + 1)), (by first | rfl | (simp; done) | (simp [*]; done)), (by first | rfl | (simp; done) | (simp [*]; done)), H', ⟨by have := HK1.out; omega⟩, ⟨by (with_reducible repeat (first | apply Kd.R_alloc | apply Kd.R_drewN | apply Kd.R_drew)); exact Kd.R_mono HO286.out (fun _ hk => trivial)⟩, ⟨by repeat (first | (with_reducible first | exact HB.out | apply below_alloc | apply pw_below_drewN | apply below_drew1) | exact HB.out)⟩⟩
          · rw [if_neg c6] at H
            exact absurd H (by simp)
        · rw [if_neg c5] at H
          have c5b0 : decide (x10_1 < (l0.length : Int)) = false := decide_eq_false c5
          clear c5
          simp only [Option.some.injEq, Prod.mk.injEq] at H
          obtain ⟨rfl, rfl, rfl⟩ := H
          go_wp2
          go_ret3
          exact ⟨_, by first | rfl | (simp [errW_none, errW_some] <;> rfl) | (simp [*, errW_none, errW_some] <;> rfl), by (with_reducible repeat (first | apply Kd.R_alloc | apply Kd.R_drewN | apply Kd.R_drew)); exact HO_9.out, by repeat (first | (with_reducible first | exact HB.out | apply below_alloc | apply pw_below_drewN | apply below_drew1) | exact HB.out)⟩
  · rw [if_neg c4] at H
    have c4b0 : (t281 == 0) = false := beq_eq_false_iff_ne.mpr c4
    have c4b1 : (t281 != 0) = true := bne_iff_ne.mpr c4
    simp only [Option.some.injEq, Prod.mk.injEq] at H
    obtain ⟨rfl, rfl, rfl⟩ := H
    go_enter Try.func21, Try.ntmps21
    go_wp2_with (first | ((with_reducible refine gate_callee (f := 41) rfl ?_); refine goesL_ (some 15) rfl rfl Try.func41 (by kernel_rfl) rfl #[.slice A0 l0.length c0, .int .i64 a1] rfl (by (try simp only [List.map_toArray, List.map_cons, List.map_nil]); first | done | rfl | (simp only [List.length_drop, List.length_take]; rfl)) ?_; (with_reducible refine (estoversref37_check.calls _ _ l0 a1 t281 _ ?side1 ?side2 A3.out).mono ?_); (case side1 => repeat (first | exact HR0.out | (with_reducible refine Kd.C_alloc ?_ _) | (with_reducible refine Kd.C_drewN ?_ _) | (with_reducible refine Kd.C_drew ?_))); (case side2 => exact HC0.out); rintro e w' ⟨rfl, ⟨nd, rfl⟩⟩; refine ⟨_, rfl, ?_⟩))
    go_ret3
    exact ⟨_, by first | rfl | (simp [errW_none, errW_some] <;> rfl) | (simp [*, errW_none, errW_some] <;> rfl), by first | exact Kd.R_nil _ _ _ _ _ | exact Kd.N_nil _ _ _ _ _ | exact Kd.V_nil _ _ _ _ _ | exact Kd.Q_nil _ _ _ _ _ | exact Kd.S_nil _ _ _ _ _, by repeat (first | (with_reducible first | exact HB.out | apply below_alloc | apply pw_below_drewN | apply below_drew1) | exact HB.out)⟩

end Go.Proofs.Ytbchpnhlaknhjaa.Q
