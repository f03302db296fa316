-- Written by wip/stubprint.py for this claim. Lean checks it.
import Derived.Test.YtbchpnhlaknhjaaQ0
import Derived.Test.YtbchpnhlaknhjaaQ100
import Derived.Test.YtbchpnhlaknhjaaQ200
import Derived.Test.YtbchpnhlaknhjaaQ201
namespace Go.Proofs.Ytbchpnhlaknhjaa.Q
open Go.RowKit Go.Proofs.YtbchpnhlaknhjaaW.PrintWords Go.Proofs.YtbchpnhlaknhjaaW.PrintLast Go.Proofs.YtbchpnhlaknhjaaW.PrintMore
attribute [local go_sem] max2_int min2_int max_two min_two max_three min_three max_four min_four
set_option linter.unusedVariables false
set_option linter.unusedSimpArgs false

/-! ### estoverslaw37_StackdistMattson: function 6 -/
mutual
def estoverslaw37_StackdistMattson.j0 : Nat → List Int → Int → Bool → Option (Bool)
  | 0, _, _, _ => none
  | k + 1, x0, x1, x20 => if x20 = true then ((estoverslaw37_awake.f k).bind fun t380 => (some t380)) else ((stackdist_Distances.f k x0).bind fun bt381 => ((stackdist_Lru.f k x0 (wrap64 (x1))).bind fun bt385 => (if bt381.2 = 0 then (if bt385.2.2 = 0 then (estoverslaw37_StackdistMattson.j1 k (wrap64 (x1)) bt381.1 bt385.1 ((bt381.1.length : Int) != (x0.length : Int))) else (estoverslaw37_StackdistMattson.j1 k (wrap64 (x1)) bt381.1 bt385.1 true)) else (estoverslaw37_StackdistMattson.j1 k (wrap64 (x1)) bt381.1 bt385.1 true))))
def estoverslaw37_StackdistMattson.j1 : Nat → Int → List Int → Int → Bool → Option (Bool)
  | 0, _, _, _, _ => none
  | k + 1, x5, x6, x8, x48 => if x48 = true then (some false) else (estoverslaw37_StackdistMattson.l0 k x5 x8 0 x6 (x6.length : Int) 0)
def estoverslaw37_StackdistMattson.l0 : Nat → Int → Int → Int → List Int → Int → Int → Option (Bool)
  | 0, _, _, _, _, _, _ => none
  | k + 1, x5, x8, x11, x49, x50, x51 => if x51 < x50 then (if 0 ≤ x51 then (if x51 < (x49.length : Int) then (if (rd x49 x51) < (-1) then (some false) else (if (rd x49 x51) = (-1) then (estoverslaw37_StackdistMattson.l0 k x5 x8 (wrap64 (x11 + 1)) x49 x50 (wrap64 (x51 + 1))) else (if (rd x49 x51) ≥ x5 then (estoverslaw37_StackdistMattson.l0 k x5 x8 (wrap64 (x11 + 1)) x49 x50 (wrap64 (x51 + 1))) else (estoverslaw37_StackdistMattson.l0 k x5 x8 x11 x49 x50 (wrap64 (x51 + 1)))))) else (none)) else (none)) else (some (x8 == x11))
end
def estoverslaw37_StackdistMattson.f (k : Nat) (l0 : List Int) (a1 : Int) : Option (Bool) := (estoverslaw37_awake.f k).bind fun t379 => (if t379 = true then (estoverslaw37_StackdistMattson.j0 k l0 a1 (decide ((l0.length : Int) > 100))) else (estoverslaw37_StackdistMattson.j0 k l0 a1 true))
theorem estoverslaw37_StackdistMattson.mono_l : ∀ k, (∀ y0 y1 y2, LeO (estoverslaw37_StackdistMattson.j0 k y0 y1 y2) (estoverslaw37_StackdistMattson.j0 (k + 1) y0 y1 y2)) ∧ (∀ y0 y1 y2 y3, LeO (estoverslaw37_StackdistMattson.j1 k y0 y1 y2 y3) (estoverslaw37_StackdistMattson.j1 (k + 1) y0 y1 y2 y3)) ∧ (∀ y0 y1 y2 y3 y4 y5, LeO (estoverslaw37_StackdistMattson.l0 k y0 y1 y2 y3 y4 y5) (estoverslaw37_StackdistMattson.l0 (k + 1) y0 y1 y2 y3 y4 y5))
  | 0 => ⟨fun _ _ _ r h => by simp [estoverslaw37_StackdistMattson.j0] at h, fun _ _ _ _ r h => by simp [estoverslaw37_StackdistMattson.j1] at h, fun _ _ _ _ _ _ r h => by simp [estoverslaw37_StackdistMattson.l0] at h⟩
  | k + 1 => by
    obtain ⟨ih0, ih1, ih2⟩ := estoverslaw37_StackdistMattson.mono_l k
    refine ⟨?_, ?_, ?_⟩
    · intro y0 y1 y2
      unfold estoverslaw37_StackdistMattson.j0
      repeat' first
      | (with_reducible exact ih0 _ _ _)
      | (with_reducible exact ih1 _ _ _ _)
      | (with_reducible exact ih2 _ _ _ _ _ _)
      | (with_reducible exact estoverslaw37_awake.mono _)
      | (with_reducible exact stackdist_Distances.mono _ _)
      | (with_reducible exact stackdist_Lru.mono _ _ _)
      | (with_reducible exact LeO.refl _)
      | (with_reducible exact LeO.none _)
      | (with_reducible refine LeO.ite ?_ ?_)
      | (with_reducible refine LeO.bind ?_ (fun _ => ?_))
      | exact ih0 _ _ _
      | exact ih1 _ _ _ _
      | exact ih2 _ _ _ _ _ _
      | exact estoverslaw37_awake.mono _
      | exact stackdist_Distances.mono _ _
      | exact stackdist_Lru.mono _ _ _
      | exact LeO.none _
      | refine LeO.ite ?_ ?_
      | refine LeO.bind ?_ (fun _ => ?_)
    · intro y0 y1 y2 y3
      unfold estoverslaw37_StackdistMattson.j1
      repeat' first
      | (with_reducible exact ih0 _ _ _)
      | (with_reducible exact ih1 _ _ _ _)
      | (with_reducible exact ih2 _ _ _ _ _ _)
      | (with_reducible exact estoverslaw37_awake.mono _)
      | (with_reducible exact stackdist_Distances.mono _ _)
      | (with_reducible exact stackdist_Lru.mono _ _ _)
      | (with_reducible exact LeO.refl _)
      | (with_reducible exact LeO.none _)
      | (with_reducible refine LeO.ite ?_ ?_)
      | (with_reducible refine LeO.bind ?_ (fun _ => ?_))
      | exact ih0 _ _ _
      | exact ih1 _ _ _ _
      | exact ih2 _ _ _ _ _ _
      | exact estoverslaw37_awake.mono _
      | exact stackdist_Distances.mono _ _
      | exact stackdist_Lru.mono _ _ _
      | exact LeO.none _
      | refine LeO.ite ?_ ?_
      | refine LeO.bind ?_ (fun _ => ?_)
    · intro y0 y1 y2 y3 y4 y5
      unfold estoverslaw37_StackdistMattson.l0
      repeat' first
      | (with_reducible exact ih0 _ _ _)
      | (with_reducible exact ih1 _ _ _ _)
      | (with_reducible exact ih2 _ _ _ _ _ _)
      | (with_reducible exact estoverslaw37_awake.mono _)
      | (with_reducible exact stackdist_Distances.mono _ _)
      | (with_reducible exact stackdist_Lru.mono _ _ _)
      | (with_reducible exact LeO.refl _)
      | (with_reducible exact LeO.none _)
      | (with_reducible refine LeO.ite ?_ ?_)
      | (with_reducible refine LeO.bind ?_ (fun _ => ?_))
      | exact ih0 _ _ _
      | exact ih1 _ _ _ _
      | exact ih2 _ _ _ _ _ _
      | exact estoverslaw37_awake.mono _
      | exact stackdist_Distances.mono _ _
      | exact stackdist_Lru.mono _ _ _
      | exact LeO.none _
      | refine LeO.ite ?_ ?_
      | refine LeO.bind ?_ (fun _ => ?_)
theorem estoverslaw37_StackdistMattson.mono : ∀ a0 a1 k, LeO (estoverslaw37_StackdistMattson.f k a0 a1) (estoverslaw37_StackdistMattson.f (k + 1) a0 a1) := by
  intro a0 a1 k
  obtain ⟨ih0, ih1, ih2⟩ := estoverslaw37_StackdistMattson.mono_l k
  unfold estoverslaw37_StackdistMattson.f
  repeat' first
      | (with_reducible exact ih0 _ _ _)
      | (with_reducible exact ih1 _ _ _ _)
      | (with_reducible exact ih2 _ _ _ _ _ _)
      | (with_reducible exact estoverslaw37_awake.mono _)
      | (with_reducible exact stackdist_Distances.mono _ _)
      | (with_reducible exact stackdist_Lru.mono _ _ _)
      | (with_reducible exact LeO.refl _)
      | (with_reducible exact LeO.none _)
      | (with_reducible refine LeO.ite ?_ ?_)
      | (with_reducible refine LeO.bind ?_ (fun _ => ?_))
      | exact ih0 _ _ _
      | exact ih1 _ _ _ _
      | exact ih2 _ _ _ _ _ _
      | exact estoverslaw37_awake.mono _
      | exact stackdist_Distances.mono _ _
      | exact stackdist_Lru.mono _ _ _
      | exact LeO.none _
      | refine LeO.ite ?_ ?_
      | refine LeO.bind ?_ (fun _ => ?_)
set_option maxHeartbeats 8000000 in
set_option maxRecDepth 100000 in
theorem estoverslaw37_StackdistMattson.calls (k : Nat) (A0 : Option Addr) (c0 : Nat) (l0 : List Int) (a1 : Int) (r : Bool) (w : World) (hr0 : Kd.C (Kd.int .i64) w A0 l0.length l0) (hc0 : l0.length ≤ c0) (h : estoverslaw37_StackdistMattson.f k l0 a1 = some r) :
    Calls Try.prog 6 #[.slice A0 l0.length c0, .int .u8 a1] w fun e w' => e = .returned (.bool r) ∧ Below w.heap.size w w' := by
  have HR0 := Aside0.mk hr0
  have HC0 := Aside0.mk hc0
  clear hr0 hc0
  have HB := Aside0.mk (Below.refl w.heap.size w)
  have H : ((estoverslaw37_awake.f k).bind fun t379 => (if t379 = true then (estoverslaw37_StackdistMattson.j0 k l0 a1 (decide ((l0.length : Int) > 100))) else (estoverslaw37_StackdistMattson.j0 k l0 a1 true))) = some r := h
  clear h
  have HC3 := Aside0.mk H
  clear H
  go_enter Try.func6, Try.ntmps6
  go_upto_region 1 with (fail)
  go_cut [20] (fun v20 wc => ∃ (kq : Nat) (x20_2 : Bool), v20 = .bool x20_2 ∧ Aside0 (estoverslaw37_StackdistMattson.j0 kq l0 a1 x20_2 = some r) ∧ Aside0 (kq ≤ k) ∧ Aside0 (Below w.heap.size w wc))
  case first =>
    have H := HC3.out
    clear HC3
    replace H := Option.bind_eq_some_iff.mp H
    obtain ⟨t379, A40, H⟩ := H
    replace H : (if t379 = true then (estoverslaw37_StackdistMattson.j0 k l0 a1 (decide ((l0.length : Int) > 100))) else (estoverslaw37_StackdistMattson.j0 k l0 a1 true)) = some r := H
    have A4 := Aside0.mk A40
    clear A40
    by_cases c5 : t379 = true
    · subst c5
      have H1 : (estoverslaw37_StackdistMattson.j0 k l0 a1 (decide ((l0.length : Int) > 100))) = some r := by rw [if_pos rfl] at H; exact H
      clear H
      have H := H1
      clear H1
      have H' := Aside0.mk H
      clear H
      go_wp2_with (first | ((with_reducible refine gate_callee (f := 14) rfl ?_); refine goesL_ (some 14) rfl rfl Try.func14 (by kernel_rfl) rfl #[] rfl (by (try simp only [List.map_toArray, List.map_cons, List.map_nil]); first | done | rfl | (simp only [List.length_drop, List.length_take]; rfl)) ?_; (with_reducible refine (estoverslaw37_awake.calls k  true _ A4.out).mono ?_); rintro e w6 ⟨rfl, hb⟩; refine ⟨_, rfl, ?_⟩; have n0_ := Aside0.mk (below_step (by repeat (first | (with_reducible first | exact HB.out | apply below_alloc | apply pw_below_drewN | apply below_drew1) | exact HB.out)) hb); clear HB; have HB := n0_; clear n0_; (try clear hb); (try clear hb2); (try clear hk); (try clear hi)))
      go_meet
      case rel => exact ⟨_, (decide ((l0.length : Int) > 100)), (by first | rfl | (simp; done) | (simp [*]; done)), H', ⟨by first | omega | exact Nat.le_refl _⟩, ⟨by repeat (first | (with_reducible first | exact HB.out | apply below_alloc | apply pw_below_drewN | apply below_drew1) | exact HB.out)⟩⟩
    · replace c5 := Bool.eq_false_iff.mpr c5
      subst c5
      have H1 : (estoverslaw37_StackdistMattson.j0 k l0 a1 true) = some r := by rw [if_neg (show ¬ (false = true) by decide)] at H; exact H
      clear H
      have H := H1
      clear H1
      have H' := Aside0.mk H
      clear H
      go_wp2_with (first | ((with_reducible refine gate_callee (f := 14) rfl ?_); refine goesL_ (some 14) rfl rfl Try.func14 (by kernel_rfl) rfl #[] rfl (by (try simp only [List.map_toArray, List.map_cons, List.map_nil]); first | done | rfl | (simp only [List.length_drop, List.length_take]; rfl)) ?_; (with_reducible refine (estoverslaw37_awake.calls k  false _ A4.out).mono ?_); rintro e w7 ⟨rfl, hb⟩; refine ⟨_, rfl, ?_⟩; have n0_ := Aside0.mk (below_step (by repeat (first | (with_reducible first | exact HB.out | apply below_alloc | apply pw_below_drewN | apply below_drew1) | exact HB.out)) hb); clear HB; have HB := n0_; clear n0_; (try clear hb); (try clear hb2); (try clear hk); (try clear hi)))
      go_meet
      case rel => exact ⟨_, (true), (by first | rfl | (simp; done) | (simp [*]; done)), H', ⟨by first | omega | exact Nat.le_refl _⟩, ⟨by repeat (first | (with_reducible first | exact HB.out | apply below_alloc | apply pw_below_drewN | apply below_drew1) | exact HB.out)⟩⟩
  case rest =>
    clear HC3
    try clear c1
    try clear p2
    try clear c5
    try clear c6
    obtain ⟨kq, x20_2, rfl, HA, HJ2, HB⟩ := hcut
    cases kq with
    | zero => exact absurd HA.out (by simp [estoverslaw37_StackdistMattson.j0])
    | succ kj2 =>
      have H := HA.out
      clear HA
      simp only [estoverslaw37_StackdistMattson.j0] at H
      by_cases c8 : x20_2 = true
      · subst c8
        have H1 : ((estoverslaw37_awake.f kj2).bind fun t380 => (some t380)) = some r := by rw [if_pos rfl] at H; exact H
        clear H
        have H := H1
        clear H1
        replace H := Option.bind_eq_some_iff.mp H
        obtain ⟨t380, A90, H⟩ := H
        replace H : (some t380) = some r := H
        have A9 := Aside0.mk A90
        clear A90
        obtain rfl := Option.some.inj H
        go_wp2_with (first | ((with_reducible refine gate_callee (f := 14) rfl ?_); refine goesL_ (some 21) rfl rfl Try.func14 (by kernel_rfl) rfl #[] rfl (by (try simp only [List.map_toArray, List.map_cons, List.map_nil]); first | done | rfl | (simp only [List.length_drop, List.length_take]; rfl)) ?_; (with_reducible refine (estoverslaw37_awake.calls kj2  t380 _ A9.out).mono ?_); rintro e w10 ⟨rfl, hb⟩; refine ⟨_, rfl, ?_⟩; have n0_ := Aside0.mk (below_step (by repeat (first | (with_reducible first | exact HB.out | apply below_alloc | apply pw_below_drewN | apply below_drew1) | exact HB.out)) hb); clear HB; have HB := n0_; clear n0_; (try clear hb); (try clear hb2); (try clear hk); (try clear hi)))
        go_ret
        exact ⟨by first | rfl | (simp [errW_none, errW_some] <;> rfl) | (simp [*, errW_none, errW_some] <;> rfl), by repeat (first | (with_reducible first | exact HB.out | apply below_alloc | apply pw_below_drewN | apply below_drew1) | exact HB.out)⟩
      · replace c8 := Bool.eq_false_iff.mpr c8
        subst c8
        have H1 : ((stackdist_Distances.f kj2 l0).bind fun bt381 => ((stackdist_Lru.f kj2 l0 (wrap64 (a1))).bind fun bt385 => (if bt381.2 = 0 then (if bt385.2.2 = 0 then (estoverslaw37_StackdistMattson.j1 kj2 (wrap64 (a1)) bt381.1 bt385.1 ((bt381.1.length : Int) != (l0.length : Int))) else (estoverslaw37_StackdistMattson.j1 kj2 (wrap64 (a1)) bt381.1 bt385.1 true)) else (estoverslaw37_StackdistMattson.j1 kj2 (wrap64 (a1)) bt381.1 bt385.1 true)))) = some r := by rw [if_neg (show ¬ (false = true) by decide)] at H; exact H
        clear H
        have H := H1
        clear H1
        replace H := Option.bind_eq_some_iff.mp H
        obtain ⟨⟨t381, t382⟩, A110, H⟩ := H
        replace H : ((stackdist_Lru.f kj2 l0 (wrap64 (a1))).bind fun bt385 => (if t382 = 0 then (if bt385.2.2 = 0 then (estoverslaw37_StackdistMattson.j1 kj2 (wrap64 (a1)) t381 bt385.1 ((t381.length : Int) != (l0.length : Int))) else (estoverslaw37_StackdistMattson.j1 kj2 (wrap64 (a1)) t381 bt385.1 true)) else (estoverslaw37_StackdistMattson.j1 kj2 (wrap64 (a1)) t381 bt385.1 true))) = some r := H
        have A11 := Aside0.mk A110
        clear A110
        replace H := Option.bind_eq_some_iff.mp H
        obtain ⟨⟨t385, t386, t387⟩, A120, H⟩ := H
        replace H : (if t382 = 0 then (if t387 = 0 then (estoverslaw37_StackdistMattson.j1 kj2 (wrap64 (a1)) t381 t385 ((t381.length : Int) != (l0.length : Int))) else (estoverslaw37_StackdistMattson.j1 kj2 (wrap64 (a1)) t381 t385 true)) else (estoverslaw37_StackdistMattson.j1 kj2 (wrap64 (a1)) t381 t385 true)) = some r := H
        have A12 := Aside0.mk A120
        clear A120
        have HC13 := Aside0.mk H
        clear H
        go_upto_region 6 with (first | ((with_reducible refine gate_callee (f := 17) rfl ?_); refine goesL_ (some 26) rfl rfl Try.func17 (by kernel_rfl) rfl #[.slice A0 l0.length c0] rfl (by (try simp only [List.map_toArray, List.map_cons, List.map_nil]); first | done | rfl | (simp only [List.length_drop, List.length_take]; rfl)) ?_; (with_reducible refine (stackdist_Distances.calls kj2 _ _ l0 t381 t382 _ ?side1 ?side2 A11.out).mono ?_); (case side1 => repeat (first | exact (Kd.C_below HR0.out HB.out) | (with_reducible refine Kd.C_alloc ?_ _) | (with_reducible refine Kd.C_drewN ?_ _) | (with_reducible refine Kd.C_drew ?_))); (case side2 => exact HC0.out); rintro e w14 ⟨v383, rfl, ho0, hb⟩; refine ⟨_, rfl, ?_⟩; have n0_ := Aside0.mk (Kd.R_lower ho0 (below_size (by repeat (first | (with_reducible first | exact HB.out | apply below_alloc | apply pw_below_drewN | apply below_drew1) | exact HB.out)))); have n1_ := Aside0.mk (below_step (by repeat (first | (with_reducible first | exact HB.out | apply below_alloc | apply pw_below_drewN | apply below_drew1) | exact HB.out)) hb); clear HB; have HO384 := n0_; have HB := n1_; clear n0_ n1_; (try clear hb); (try clear hb2); (try clear hk); (try clear hi); (try clear ho0)) | ((with_reducible refine gate_callee (f := 20) rfl ?_); refine goesL_ (some 32) rfl rfl Try.func20 (by kernel_rfl) rfl #[.slice A0 l0.length c0, .int .i64 (wrap64 (a1))] rfl (by (try simp only [List.map_toArray, List.map_cons, List.map_nil]); first | done | rfl | (simp only [List.length_drop, List.length_take]; rfl)) ?_; (with_reducible refine (stackdist_Lru.calls kj2 _ _ l0 (wrap64 (a1)) t385 t386 t387 _ ?side1 ?side2 A12.out).mono ?_); (case side1 => repeat (first | exact (Kd.C_below HR0.out HB.out) | (with_reducible refine Kd.C_alloc ?_ _) | (with_reducible refine Kd.C_drewN ?_ _) | (with_reducible refine Kd.C_drew ?_))); (case side2 => exact HC0.out); rintro e w15 ⟨v388, rfl, ho0, hb⟩; refine ⟨_, rfl, ?_⟩; have n0_ := Aside0.mk (Kd.R_elder' (by (with_reducible repeat (first | apply Kd.R_alloc | apply Kd.R_drewN | apply Kd.R_drew)); exact HO384.out) (Kd.R_base ho0) hb); have n1_ := Aside0.mk (Kd.R_lower (Kd.R_new' ho0 (Kd.R_lt (by (with_reducible repeat (first | apply Kd.R_alloc | apply Kd.R_drewN | apply Kd.R_drew)); exact HO384.out))) (below_size (by repeat (first | (with_reducible first | exact HB.out | apply below_alloc | apply pw_below_drewN | apply below_drew1) | exact HB.out)))); have n2_ := Aside0.mk (below_step (by repeat (first | (with_reducible first | exact HB.out | apply below_alloc | apply pw_below_drewN | apply below_drew1) | exact HB.out)) hb); clear HO384; clear HB; have HO384 := n0_; have HO389 := n1_; have HB := n2_; clear n0_ n1_ n2_; (try clear hb); (try clear hb2); (try clear hk); (try clear hi); (try clear ho0)))
        (try simp only [Act.put, List.setIfInBounds_toArray, List.set_cons_zero, List.set_cons_succ])
        go_cut [48] (fun v48 wc => ∃ (kq : Nat) (x48_12 : Bool), v48 = .bool x48_12 ∧ Aside0 (estoverslaw37_StackdistMattson.j1 kq (wrap64 (a1)) t381 t385 x48_12 = some r) ∧ Aside0 (kq ≤ kj2) ∧ Aside0 (Kd.R (Kd.int .i64) 3 wc w.heap.size (fun _ => True) v383 t381) ∧ Aside0 (Below w.heap.size w wc))
        case first =>
          have H := HC13.out
          clear HC13
          by_cases c16 : t382 = 0
          · rw [if_pos c16] at H
            have c16b0 : (t382 == 0) = true := beq_iff_eq.mpr c16
            have c16b1 : (t382 != 0) = false := bne_eq_false_iff_eq.mpr c16
            clear c16
            (first | rw [c16b0] | (simp only [i64_w, i32_w]; rw [c16b0]) | skip)
            by_cases c17 : t387 = 0
            · rw [if_pos c17] at H
              have c17b0 : (t387 == 0) = true := beq_iff_eq.mpr c17
              have c17b1 : (t387 != 0) = false := bne_eq_false_iff_eq.mpr c17
              clear c17
              have H' := Aside0.mk H
              clear H
              obtain ⟨Ao18, co18, eo18⟩ := Kd.R_slice HO384.out
              subst eo18
              go_wp2
              go_meet
              case rel => exact ⟨_, (((t381.length : Int) != (l0.length : Int))), (by first | rfl | (simp; done) | (simp [*]; done)), H', ⟨by have := HJ2.out; first | omega | exact Nat.le_refl _⟩, ⟨by (with_reducible repeat (first | apply Kd.R_alloc | apply Kd.R_drewN | apply Kd.R_drew)); exact Kd.R_mono HO384.out (fun _ hk => trivial)⟩, ⟨by repeat (first | (with_reducible first | exact HB.out | apply below_alloc | apply pw_below_drewN | apply below_drew1) | exact HB.out)⟩⟩
            · rw [if_neg c17] at H
              have c17b0 : (t387 == 0) = false := beq_eq_false_iff_ne.mpr c17
              have c17b1 : (t387 != 0) = true := bne_iff_ne.mpr c17
              have H' := Aside0.mk H
              clear H
              go_wp2
              go_meet
              case rel => exact ⟨_, (true), (by first | rfl | (simp; done) | (simp [*]; done)), H', ⟨by have := HJ2.out; first | omega | exact Nat.le_refl _⟩, ⟨by (with_reducible repeat (first | apply Kd.R_alloc | apply Kd.R_drewN | apply Kd.R_drew)); exact Kd.R_mono HO384.out (fun _ hk => trivial)⟩, ⟨by repeat (first | (with_reducible first | exact HB.out | apply below_alloc | apply pw_below_drewN | apply below_drew1) | exact HB.out)⟩⟩
          · rw [if_neg c16] at H
            have c16b0 : (t382 == 0) = false := beq_eq_false_iff_ne.mpr c16
            have c16b1 : (t382 != 0) = true := bne_iff_ne.mpr c16
            (first | rw [c16b0] | (simp only [i64_w, i32_w]; rw [c16b0]) | skip)
            have H' := Aside0.mk H
            clear H
            go_wp2
            go_meet
            case rel => exact ⟨_, (true), (by first | rfl | (simp; done) | (simp [*]; done)), H', ⟨by have := HJ2.out; first | omega | exact Nat.le_refl _⟩, ⟨by (with_reducible repeat (first | apply Kd.R_alloc | apply Kd.R_drewN | apply Kd.R_drew)); exact Kd.R_mono HO384.out (fun _ hk => trivial)⟩, ⟨by repeat (first | (with_reducible first | exact HB.out | apply below_alloc | apply pw_below_drewN | apply below_drew1) | exact HB.out)⟩⟩
        case rest =>
          clear HC13
          try clear c1
          try clear c2
          try clear p2
          try clear c5
          try clear c6
          try clear p6
          try clear c8
          try clear c14
          try clear c16
          try clear c16b0
          try clear c16b1
          try clear c17
          try clear c17b0
          try clear c17b1
          try clear p2
          obtain ⟨kq, x48_12, rfl, HA, HJ12, HO_6, HB⟩ := hcut
          cases kq with
          | zero => exact absurd HA.out (by simp [estoverslaw37_StackdistMattson.j1])
          | succ kj12 =>
            have H := HA.out
            clear HA
            simp only [estoverslaw37_StackdistMattson.j1] at H
            by_cases c19 : x48_12 = true
            · subst c19
              have H1 : (some false) = some r := by rw [if_pos rfl] at H; exact H
              clear H
              have H := H1
              clear H1
              obtain rfl := Option.some.inj H
              go_wp2
              go_ret
              exact ⟨by first | rfl | (simp [errW_none, errW_some] <;> rfl) | (simp [*, errW_none, errW_some] <;> rfl), by repeat (first | (with_reducible first | exact HB.out | apply below_alloc | apply pw_below_drewN | apply below_drew1) | exact HB.out)⟩
            · replace c19 := Bool.eq_false_iff.mpr c19
              subst c19
              have H1 : (estoverslaw37_StackdistMattson.l0 kj12 (wrap64 (a1)) t385 0 t381 (t381.length : Int) 0) = some r := by rw [if_neg (show ¬ (false = true) by decide)] at H; exact H
              clear H
              have H := H1
              clear H1
              have H' := Aside0.mk H
              clear H
              obtain ⟨Ao20, co20, eo20⟩ := Kd.R_slice HO_6.out
              subst eo20
              go_wp2
              go_loopg [11, 51] kj12 (fun kq v11 v51 w' => ∃ (x11_3 : Int) (x51_3 : Int), v11 = .int .i64 x11_3 ∧ v51 = .int .i64 x51_3 ∧ Aside0 (estoverslaw37_StackdistMattson.l0 kq (wrap64 (a1)) t385 x11_3 t381 (t381.length : Int) x51_3 = some r) ∧ Aside0 (kq ≤ kj12) ∧ Aside0 (Kd.R (Kd.int .i64) 3 w' w.heap.size (fun _ => True) (.slice Ao20 t381.length co20) t381) ∧ Aside0 (Below w.heap.size w w'))
              case atStart => exact ⟨(0), (0), (by first | rfl | (simp; done) | (simp [*]; done)), (by first | rfl | (simp; done) | (simp [*]; done)), H', ⟨Nat.le_refl _⟩, ⟨by (with_reducible repeat (first | apply Kd.R_alloc | apply Kd.R_drewN | apply Kd.R_drew)); exact HO_6.out⟩, ⟨by repeat (first | (with_reducible first | exact HB.out | apply below_alloc | apply pw_below_drewN | apply below_drew1) | exact HB.out)⟩⟩
              case round =>
                clear H'
                try clear c1
                try clear c2
                try clear p2
                try clear c5
                try clear c6
                try clear p6
                try clear c8
                try clear c14
                try clear c16
                try clear c16b0
                try clear c16b1
                try clear c17
                try clear c17b0
                try clear c17b1
                try clear c19
                try clear c20
                try clear p2
                try clear p6
                obtain ⟨x11_3, x51_3, rfl, rfl, HA, HK3, HO_49, HB⟩ := hrel
                cases gk with
                | zero => exact absurd HA.out (by simp [estoverslaw37_StackdistMattson.l0])
                | succ k3 =>
                  have H := HA.out
                  clear HA
                  simp only [estoverslaw37_StackdistMattson.l0] at H
                  by_cases c21 : x51_3 < (t381.length : Int)
                  · rw [if_pos c21] at H
                    have c21b0 : decide (x51_3 < (t381.length : Int)) = true := decide_eq_true c21
                    clear c21
                    by_cases c22 : 0 ≤ x51_3
                    · rw [if_pos c22] at H
                      have c22b0 : decide (0 ≤ x51_3) = true := decide_eq_true c22
                      clear c22
                      by_cases c23 : x51_3 < (t381.length : Int)
                      · rw [if_pos c23] at H
                        have c23b0 : decide (x51_3 < (t381.length : Int)) = true := decide_eq_true c23
                        clear c23
                        by_cases c24 : (rd t381 x51_3) < (-1)
                        · rw [if_pos c24] at H
                          have c24b0 : decide ((rd t381 x51_3) < (-1)) = true := decide_eq_true c24
                          clear c24
                          obtain rfl := Option.some.inj H
                          have p390 : 0 ≤ (x51_3 : Int) := of_decide_eq_true (by first | (with_reducible assumption) | assumption)
                          have q390 : x51_3 < (t381.length : Int) := of_decide_eq_true (by first | (with_reducible assumption) | assumption)
                          obtain ⟨ad390, e390, hx390_0⟩ := Kd.at_int (Kd.R_reads' HO_49.out).2.2 x51_3 p390 q390
                          cases e390
                          replace p390 := eq_true p390
                          replace q390 := eq_true q390
                          go_wp2
                          go_ret
                          exact ⟨by first | rfl | (simp [errW_none, errW_some] <;> rfl) | (simp [*, errW_none, errW_some] <;> rfl), by repeat (first | (with_reducible first | exact HB.out | apply below_alloc | apply pw_below_drewN | apply below_drew1) | exact HB.out)⟩
                        · rw [if_neg c24] at H
                          have c24b0 : decide ((rd t381 x51_3) < (-1)) = false := decide_eq_false c24
                          clear c24
                          by_cases c25 : (rd t381 x51_3) = (-1)
                          · rw [if_pos c25] at H
                            have c25b0 : ((rd t381 x51_3) == (-1)) = true := beq_iff_eq.mpr c25
                            have c25b1 : ((rd t381 x51_3) != (-1)) = false := bne_eq_false_iff_eq.mpr c25
                            clear c25
                            have H' := Aside0.mk H
                            clear H
                            have p390 : 0 ≤ (x51_3 : Int) := of_decide_eq_true (by first | (with_reducible assumption) | assumption)
                            have q390 : x51_3 < (t381.length : Int) := of_decide_eq_true (by first | (with_reducible assumption) | assumption)
                            obtain ⟨ad390, e390, hx390_0⟩ := Kd.at_int (Kd.R_reads' HO_49.out).2.2 x51_3 p390 q390
                            cases e390
                            replace p390 := eq_true p390
                            replace q390 := eq_true q390
                            go_wp2
                            go_roundg k3
                            case measure => have := HJ2.out; have := HJ12.out; have := HK3.out; omega
                            case rel => exact ⟨(wrap64 (x11_3 + 1)), (wrap64 (x51_3 + 1)), (by first | rfl | (simp; done) | (simp [*]; done)), (by first | rfl | (simp; done) | (simp [*]; done)), H', ⟨by have := HJ2.out; have := HJ12.out; have := HK3.out; omega⟩, ⟨by (with_reducible repeat (first | apply Kd.R_alloc | apply Kd.R_drewN | apply Kd.R_drew)); exact HO_49.out⟩, ⟨by repeat (first | (with_reducible first | exact HB.out | apply below_alloc | apply pw_below_drewN | apply below_drew1) | exact HB.out)⟩⟩
                          · rw [if_neg c25] at H
                            have c25b0 : ((rd t381 x51_3) == (-1)) = false := beq_eq_false_iff_ne.mpr c25
                            have c25b1 : ((rd t381 x51_3) != (-1)) = true := bne_iff_ne.mpr c25
                            by_cases c26 : (rd t381 x51_3) ≥ (wrap64 (a1))
                            · rw [if_pos c26] at H
                              have c26b0 : decide ((wrap64 (a1)) ≤ (rd t381 x51_3)) = true := decide_eq_true c26
                              clear c26
                              have H' := Aside0.mk H
                              clear H
                              have p390 : 0 ≤ (x51_3 : Int) := of_decide_eq_true (by first | (with_reducible assumption) | assumption)
                              have q390 : x51_3 < (t381.length : Int) := of_decide_eq_true (by first | (with_reducible assumption) | assumption)
                              obtain ⟨ad390, e390, hx390_0⟩ := Kd.at_int (Kd.R_reads' HO_49.out).2.2 x51_3 p390 q390
                              cases e390
                              replace p390 := eq_true p390
                              replace q390 := eq_true q390
                              go_wp2
                              go_roundg k3
                              case measure => have := HJ2.out; have := HJ12.out; have := HK3.out; omega
                              case rel => exact ⟨(wrap64 (x11_3 + 1)), (wrap64 (x51_3 + 1)), (by first | rfl | (simp; done) | (simp [*]; done)), (by first | rfl | (simp; done) | (simp [*]; done)), H', ⟨by have := HJ2.out; have := HJ12.out; have := HK3.out; omega⟩, ⟨by (with_reducible repeat (first | apply Kd.R_alloc | apply Kd.R_drewN | apply Kd.R_drew)); exact HO_49.out⟩, ⟨by repeat (first | (with_reducible first | exact HB.out | apply below_alloc | apply pw_below_drewN | apply below_drew1) | exact HB.out)⟩⟩
                            · rw [if_neg c26] at H
                              have c26b0 : decide ((wrap64 (a1)) ≤ (rd t381 x51_3)) = false := decide_eq_false c26
                              clear c26
                              have H' := Aside0.mk H
                              clear H
                              have p390 : 0 ≤ (x51_3 : Int) := of_decide_eq_true (by first | (with_reducible assumption) | assumption)
                              have q390 : x51_3 < (t381.length : Int) := of_decide_eq_true (by first | (with_reducible assumption) | assumption)
                              obtain ⟨ad390, e390, hx390_0⟩ := Kd.at_int (Kd.R_reads' HO_49.out).2.2 x51_3 p390 q390
                              cases e390
                              replace p390 := eq_true p390
                              replace q390 := eq_true q390
                              go_wp2
                              go_roundg k3
                              case measure => have := HJ2.out; have := HJ12.out; have := HK3.out; omega
                              case rel => exact ⟨(x11_3), (wrap64 (x51_3 + 1)), (by first | rfl | (simp; done) | (simp [*]; done)), (by first | rfl | (simp; done) | (simp [*]; done)), H', ⟨by have := HJ2.out; have := HJ12.out; have := HK3.out; omega⟩, ⟨by (with_reducible repeat (first | apply Kd.R_alloc | apply Kd.R_drewN | apply Kd.R_drew)); exact HO_49.out⟩, ⟨by repeat (first | (with_reducible first | exact HB.out | apply below_alloc | apply pw_below_drewN | apply below_drew1) | exact HB.out)⟩⟩
                      · rw [if_neg c23] at H
                        exact absurd H (by simp)
                    · rw [if_neg c22] at H
                      exact absurd H (by simp)
                  · rw [if_neg c21] at H
                    have c21b0 : decide (x51_3 < (t381.length : Int)) = false := decide_eq_false c21
                    clear c21
                    obtain rfl := Option.some.inj H
                    go_wp2
                    go_ret
                    exact ⟨by first | rfl | (simp [errW_none, errW_some] <;> rfl) | (simp [*, errW_none, errW_some] <;> rfl), by repeat (first | (with_reducible first | exact HB.out | apply below_alloc | apply pw_below_drewN | apply below_drew1) | exact HB.out)⟩

/-- THE ONE PURE STATEMENT of estoverslaw37_StackdistMattson: yours. -/
def estoverslaw37_StackdistMattson.Pure : Prop := ∀ (l0 : List Int) (a1 : Int), l0.length ≤ maxLen → l0.length * 8 ≤ 140737488351232 → (∀ x ∈ l0, (Lit.int .i64 x).wf = true) → (Lit.int .u8 a1).wf = true → ∃ k, estoverslaw37_StackdistMattson.f k l0 a1 = some true
theorem estoverslaw37_StackdistMattson.walk (P : estoverslaw37_StackdistMattson.Pure) (a0 : Option Addr) (len0 cap0 : Nat) (z0 : List Int) (a1 : Int) (w : World) (w0 : (a0 = none ∧ len0 = 0 ∧ cap0 = 0 ∧ z0 = []) ∨ ∃ x, a0 = some x ∧ len0 ≤ cap0 ∧ cap0 ≤ maxLen ∧ z0.length = cap0 ∧ (∀ i, i < z0.length → w.cell? (x.add i) = some (.int .i64 (z0.getD i 0))) ∧ ∀ n ∈ z0, (Lit.int .i64 n).wf = true) (y0 : len0 * 8 ≤ 140737488351232) (w1 : (Lit.int .u8 a1).wf = true) :
    Calls Try.prog 6 #[.slice a0 len0 cap0, .int .u8 a1] w fun e w' => e = .returned (.bool true) ∧ Below w.heap.size w w' := by
  obtain ⟨l0, rfl, hr0, hm0, hw0, hc0⟩ := ReadsInt.ofRowC w0
  obtain ⟨k, h⟩ := P l0 a1 hm0 y0 hw0 w1
  refine (estoverslaw37_StackdistMattson.calls k _ _ l0 a1 true w (Kd.C_of_reads (d := (0 : Int)) (h1 := fun _ => rfl) hr0) hc0 h).mono ?_
  rintro e w' ⟨rfl, hd⟩
  exact ⟨rfl, hd⟩

end Go.Proofs.Ytbchpnhlaknhjaa.Q
