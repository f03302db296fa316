-- Written by wip/stubprint.py for this claim. Lean checks it.
import Derived.Test.YtbchpnhlaknhjaaQ0
import Derived.Test.YtbchpnhlaknhjaaQ100
import Derived.Test.YtbchpnhlaknhjaaQ105
import Derived.Test.YtbchpnhlaknhjaaQ208
import Derived.Test.YtbchpnhlaknhjaaELists
namespace Go.Proofs.Ytbchpnhlaknhjaa.Q
open Go.RowKit Go.Proofs.YtbchpnhlaknhjaaW.PrintWords Go.Proofs.YtbchpnhlaknhjaaW.PrintLast Go.Proofs.YtbchpnhlaknhjaaW.PrintMore
attribute [local go_sem] max2_int min2_int max_two min_two max_three min_three max_four min_four
set_option linter.unusedVariables false
set_option linter.unusedSimpArgs false

/-! ### estoverstop_TopRefaultReach: function 12 -/
mutual
def estoverstop_TopRefaultReach.j0 : Nat → List Int → Int → Bool → Option (Bool)
  | 0, _, _, _ => none
  | k + 1, x0, x1, x18 => if x18 = true then ((estoverstop_awake19.f k).bind fun t480 => (some t480)) else ((estoverstop_pageRefs.f k x0).bind fun t481 => ((workingset_Lists.f t481 (wrap64 (1 + (wrap64 (Int.tmod x1 16)))) 0).bind fun bt484 => ((stackdist_Distances.f k t481).bind fun bt488 => (if bt484.2 = 0 then (if bt488.2 = 0 then (if (bt484.1.length : Int) = (t481.length : Int) then (estoverstop_TopRefaultReach.j1 k (wrap64 (1 + (wrap64 (Int.tmod x1 16)))) bt484.1 bt488.1 ((bt488.1.length : Int) != (t481.length : Int))) else (estoverstop_TopRefaultReach.j1 k (wrap64 (1 + (wrap64 (Int.tmod x1 16)))) bt484.1 bt488.1 true)) else (estoverstop_TopRefaultReach.j1 k (wrap64 (1 + (wrap64 (Int.tmod x1 16)))) bt484.1 bt488.1 true)) else (estoverstop_TopRefaultReach.j1 k (wrap64 (1 + (wrap64 (Int.tmod x1 16)))) bt484.1 bt488.1 true)))))
def estoverstop_TopRefaultReach.j1 : Nat → Int → List Int → List Int → Bool → Option (Bool)
  | 0, _, _, _, _ => none
  | k + 1, x6, x7, x9, x56 => if x56 = true then (some false) else (estoverstop_TopRefaultReach.l0 k x6 x7 x9 (x7.length : Int) 0)
def estoverstop_TopRefaultReach.l0 : Nat → Int → List Int → List Int → Int → Int → Option (Bool)
  | 0, _, _, _, _, _ => none
  | k + 1, x6, x7, x9, x58, x59 => if x59 < x58 then (if 0 ≤ x59 then (if x59 < (x7.length : Int) then (if (rd x7 x59) ≥ 0 then (if x59 < (x9.length : Int) then (if (rd x9 x59) < x6 then (some false) else (if (rd x9 x59) ≥ (wrap64 ((wrap64 (x6 + (rd x7 x59))) + 1)) then (some false) else (estoverstop_TopRefaultReach.l0 k x6 x7 x9 x58 (wrap64 (x59 + 1))))) else (none)) else (estoverstop_TopRefaultReach.l0 k x6 x7 x9 x58 (wrap64 (x59 + 1)))) else (none)) else (none)) else (some true)
end
def estoverstop_TopRefaultReach.f (k : Nat) (l0 : List Int) (a1 : Int) : Option (Bool) := (estoverstop_awake19.f k).bind fun t479 => (if t479 = true then (estoverstop_TopRefaultReach.j0 k l0 a1 (decide ((l0.length : Int) > 200))) else (estoverstop_TopRefaultReach.j0 k l0 a1 true))
theorem estoverstop_TopRefaultReach.mono_l : ∀ k, (∀ y0 y1 y2, LeO (estoverstop_TopRefaultReach.j0 k y0 y1 y2) (estoverstop_TopRefaultReach.j0 (k + 1) y0 y1 y2)) ∧ (∀ y0 y1 y2 y3, LeO (estoverstop_TopRefaultReach.j1 k y0 y1 y2 y3) (estoverstop_TopRefaultReach.j1 (k + 1) y0 y1 y2 y3)) ∧ (∀ y0 y1 y2 y3 y4, LeO (estoverstop_TopRefaultReach.l0 k y0 y1 y2 y3 y4) (estoverstop_TopRefaultReach.l0 (k + 1) y0 y1 y2 y3 y4))
  | 0 => ⟨fun _ _ _ r h => by simp [estoverstop_TopRefaultReach.j0] at h, fun _ _ _ _ r h => by simp [estoverstop_TopRefaultReach.j1] at h, fun _ _ _ _ _ r h => by simp [estoverstop_TopRefaultReach.l0] at h⟩
  | k + 1 => by
    obtain ⟨ih0, ih1, ih2⟩ := estoverstop_TopRefaultReach.mono_l k
    refine ⟨?_, ?_, ?_⟩
    · intro y0 y1 y2
      unfold estoverstop_TopRefaultReach.j0
      repeat' first
      | (with_reducible exact ih0 _ _ _)
      | (with_reducible exact ih1 _ _ _ _)
      | (with_reducible exact ih2 _ _ _ _ _)
      | (with_reducible exact estoverstop_awake19.mono _)
      | (with_reducible exact estoverstop_pageRefs.mono _ _)
      | (with_reducible exact stackdist_Distances.mono _ _)
      | (with_reducible exact LeO.refl _)
      | (with_reducible exact LeO.none _)
      | (with_reducible refine LeO.ite ?_ ?_)
      | (with_reducible refine LeO.bind ?_ (fun _ => ?_))
      | exact ih0 _ _ _
      | exact ih1 _ _ _ _
      | exact ih2 _ _ _ _ _
      | exact estoverstop_awake19.mono _
      | exact estoverstop_pageRefs.mono _ _
      | exact stackdist_Distances.mono _ _
      | exact LeO.none _
      | refine LeO.ite ?_ ?_
      | refine LeO.bind ?_ (fun _ => ?_)
    · intro y0 y1 y2 y3
      unfold estoverstop_TopRefaultReach.j1
      repeat' first
      | (with_reducible exact ih0 _ _ _)
      | (with_reducible exact ih1 _ _ _ _)
      | (with_reducible exact ih2 _ _ _ _ _)
      | (with_reducible exact estoverstop_awake19.mono _)
      | (with_reducible exact estoverstop_pageRefs.mono _ _)
      | (with_reducible exact stackdist_Distances.mono _ _)
      | (with_reducible exact LeO.refl _)
      | (with_reducible exact LeO.none _)
      | (with_reducible refine LeO.ite ?_ ?_)
      | (with_reducible refine LeO.bind ?_ (fun _ => ?_))
      | exact ih0 _ _ _
      | exact ih1 _ _ _ _
      | exact ih2 _ _ _ _ _
      | exact estoverstop_awake19.mono _
      | exact estoverstop_pageRefs.mono _ _
      | exact stackdist_Distances.mono _ _
      | exact LeO.none _
      | refine LeO.ite ?_ ?_
      | refine LeO.bind ?_ (fun _ => ?_)
    · intro y0 y1 y2 y3 y4
      unfold estoverstop_TopRefaultReach.l0
      repeat' first
      | (with_reducible exact ih0 _ _ _)
      | (with_reducible exact ih1 _ _ _ _)
      | (with_reducible exact ih2 _ _ _ _ _)
      | (with_reducible exact estoverstop_awake19.mono _)
      | (with_reducible exact estoverstop_pageRefs.mono _ _)
      | (with_reducible exact stackdist_Distances.mono _ _)
      | (with_reducible exact LeO.refl _)
      | (with_reducible exact LeO.none _)
      | (with_reducible refine LeO.ite ?_ ?_)
      | (with_reducible refine LeO.bind ?_ (fun _ => ?_))
      | exact ih0 _ _ _
      | exact ih1 _ _ _ _
      | exact ih2 _ _ _ _ _
      | exact estoverstop_awake19.mono _
      | exact estoverstop_pageRefs.mono _ _
      | exact stackdist_Distances.mono _ _
      | exact LeO.none _
      | refine LeO.ite ?_ ?_
      | refine LeO.bind ?_ (fun _ => ?_)
theorem estoverstop_TopRefaultReach.mono : ∀ a0 a1 k, LeO (estoverstop_TopRefaultReach.f k a0 a1) (estoverstop_TopRefaultReach.f (k + 1) a0 a1) := by
  intro a0 a1 k
  obtain ⟨ih0, ih1, ih2⟩ := estoverstop_TopRefaultReach.mono_l k
  unfold estoverstop_TopRefaultReach.f
  repeat' first
      | (with_reducible exact ih0 _ _ _)
      | (with_reducible exact ih1 _ _ _ _)
      | (with_reducible exact ih2 _ _ _ _ _)
      | (with_reducible exact estoverstop_awake19.mono _)
      | (with_reducible exact estoverstop_pageRefs.mono _ _)
      | (with_reducible exact stackdist_Distances.mono _ _)
      | (with_reducible exact LeO.refl _)
      | (with_reducible exact LeO.none _)
      | (with_reducible refine LeO.ite ?_ ?_)
      | (with_reducible refine LeO.bind ?_ (fun _ => ?_))
      | exact ih0 _ _ _
      | exact ih1 _ _ _ _
      | exact ih2 _ _ _ _ _
      | exact estoverstop_awake19.mono _
      | exact estoverstop_pageRefs.mono _ _
      | exact stackdist_Distances.mono _ _
      | exact LeO.none _
      | refine LeO.ite ?_ ?_
      | refine LeO.bind ?_ (fun _ => ?_)
set_option maxHeartbeats 8000000 in
set_option maxRecDepth 100000 in
theorem estoverstop_TopRefaultReach.calls (k : Nat) (A0 : Option Addr) (c0 : Nat) (l0 : List Int) (a1 : Int) (r : Bool) (w : World) (hr0 : Kd.C (Kd.int .u8) w A0 l0.length l0) (hc0 : l0.length ≤ c0) (h : estoverstop_TopRefaultReach.f k l0 a1 = some r) :
    Calls Try.prog 12 #[.slice A0 l0.length c0, .int .u8 a1] w fun e w' => e = .returned (.bool r) ∧ Below w.heap.size w w' := by
  have HR0 := Aside0.mk hr0
  have HC0 := Aside0.mk hc0
  clear hr0 hc0
  have HB := Aside0.mk (Below.refl w.heap.size w)
  have H : ((estoverstop_awake19.f k).bind fun t479 => (if t479 = true then (estoverstop_TopRefaultReach.j0 k l0 a1 (decide ((l0.length : Int) > 200))) else (estoverstop_TopRefaultReach.j0 k l0 a1 true))) = some r := h
  clear h
  have HC3 := Aside0.mk H
  clear H
  go_enter Try.func12, Try.ntmps12
  go_upto_region 1 with (fail)
  repeat (go_quiet (fail); go_upto_region 1 with (fail))
  go_cut [18] (fun v18 wc => ∃ (kq : Nat) (x18_2 : Bool), v18 = .bool x18_2 ∧ Aside0 (estoverstop_TopRefaultReach.j0 kq l0 a1 x18_2 = some r) ∧ Aside0 (kq ≤ k) ∧ Aside0 (Below w.heap.size w wc))
  case first =>
    have H := HC3.out
    clear HC3
    replace H := Option.bind_eq_some_iff.mp H
    obtain ⟨t479, A40, H⟩ := H
    replace H : (if t479 = true then (estoverstop_TopRefaultReach.j0 k l0 a1 (decide ((l0.length : Int) > 200))) else (estoverstop_TopRefaultReach.j0 k l0 a1 true)) = some r := H
    have A4 := Aside0.mk A40
    clear A40
    by_cases c5 : t479 = true
    · subst c5
      have H1 : (estoverstop_TopRefaultReach.j0 k l0 a1 (decide ((l0.length : Int) > 200))) = some r := by rw [if_pos rfl] at H; exact H
      clear H
      have H := H1
      clear H1
      have H' := Aside0.mk H
      clear H
      go_wp2_with (first | (go_at_call 31; (with_reducible refine (estoverstop_awake19.calls k  true _ A4.out).mono ?_); rintro e w6 ⟨rfl, hb⟩; have n0_ := Aside0.mk (below_step (by repeat (first | (with_reducible first | exact HB.out | apply below_alloc | apply pw_below_drewN | apply below_drew1) | exact HB.out)) hb); clear HB; have HB := n0_; clear n0_; (try clear hb); (try clear hb2); (try clear hk); (try clear hi)))
      repeat (go_quiet (first | (go_at_call 31; (with_reducible refine (estoverstop_awake19.calls k  true _ A4.out).mono ?_); rintro e w6 ⟨rfl, hb⟩; have n0_ := Aside0.mk (below_step (by repeat (first | (with_reducible first | exact HB.out | apply below_alloc | apply pw_below_drewN | apply below_drew1) | exact HB.out)) hb); clear HB; have HB := n0_; clear n0_; (try clear hb); (try clear hb2); (try clear hk); (try clear hi))); try go_wp2_with (first | (go_at_call 31; (with_reducible refine (estoverstop_awake19.calls k  true _ A4.out).mono ?_); rintro e w6 ⟨rfl, hb⟩; have n0_ := Aside0.mk (below_step (by repeat (first | (with_reducible first | exact HB.out | apply below_alloc | apply pw_below_drewN | apply below_drew1) | exact HB.out)) hb); clear HB; have HB := n0_; clear n0_; (try clear hb); (try clear hb2); (try clear hk); (try clear hi))))
      go_meet
      case rel => exact ⟨_, (decide ((l0.length : Int) > 200)), (by first | rfl | (simp; done) | (simp [*]; done)), H', ⟨by first | omega | exact Nat.le_refl _⟩, ⟨by repeat (first | (with_reducible first | exact HB.out | apply below_alloc | apply pw_below_drewN | apply below_drew1) | exact HB.out)⟩⟩
    · replace c5 := Bool.eq_false_iff.mpr c5
      subst c5
      have H1 : (estoverstop_TopRefaultReach.j0 k l0 a1 true) = some r := by rw [if_neg (show ¬ (false = true) by decide)] at H; exact H
      clear H
      have H := H1
      clear H1
      have H' := Aside0.mk H
      clear H
      go_wp2_with (first | (go_at_call 31; (with_reducible refine (estoverstop_awake19.calls k  false _ A4.out).mono ?_); rintro e w7 ⟨rfl, hb⟩; have n0_ := Aside0.mk (below_step (by repeat (first | (with_reducible first | exact HB.out | apply below_alloc | apply pw_below_drewN | apply below_drew1) | exact HB.out)) hb); clear HB; have HB := n0_; clear n0_; (try clear hb); (try clear hb2); (try clear hk); (try clear hi)))
      repeat (go_quiet (first | (go_at_call 31; (with_reducible refine (estoverstop_awake19.calls k  false _ A4.out).mono ?_); rintro e w7 ⟨rfl, hb⟩; have n0_ := Aside0.mk (below_step (by repeat (first | (with_reducible first | exact HB.out | apply below_alloc | apply pw_below_drewN | apply below_drew1) | exact HB.out)) hb); clear HB; have HB := n0_; clear n0_; (try clear hb); (try clear hb2); (try clear hk); (try clear hi))); try go_wp2_with (first | (go_at_call 31; (with_reducible refine (estoverstop_awake19.calls k  false _ A4.out).mono ?_); rintro e w7 ⟨rfl, hb⟩; have n0_ := Aside0.mk (below_step (by repeat (first | (with_reducible first | exact HB.out | apply below_alloc | apply pw_below_drewN | apply below_drew1) | exact HB.out)) hb); clear HB; have HB := n0_; clear n0_; (try clear hb); (try clear hb2); (try clear hk); (try clear hi))))
      go_meet
      case rel => exact ⟨_, (true), (by first | rfl | (simp; done) | (simp [*]; done)), H', ⟨by first | omega | exact Nat.le_refl _⟩, ⟨by repeat (first | (with_reducible first | exact HB.out | apply below_alloc | apply pw_below_drewN | apply below_drew1) | exact HB.out)⟩⟩
  case rest =>
    clear HC3
    try clear c1
    try clear p2
    try clear c5
    obtain ⟨kq, x18_2, rfl, HA, HJ2, HB⟩ := hcut
    cases kq with
    | zero => exact absurd HA.out (by simp [estoverstop_TopRefaultReach.j0])
    | succ kj2 =>
      have H := HA.out
      clear HA
      simp only [estoverstop_TopRefaultReach.j0] at H
      by_cases c8 : x18_2 = true
      · subst c8
        have H1 : ((estoverstop_awake19.f kj2).bind fun t480 => (some t480)) = some r := by rw [if_pos rfl] at H; exact H
        clear H
        have H := H1
        clear H1
        replace H := Option.bind_eq_some_iff.mp H
        obtain ⟨t480, A90, H⟩ := H
        replace H : (some t480) = some r := H
        have A9 := Aside0.mk A90
        clear A90
        obtain rfl := Option.some.inj H
        go_wp2_with (first | (go_at_call 31; (with_reducible refine (estoverstop_awake19.calls kj2  t480 _ A9.out).mono ?_); rintro e w10 ⟨rfl, hb⟩; have n0_ := Aside0.mk (below_step (by repeat (first | (with_reducible first | exact HB.out | apply below_alloc | apply pw_below_drewN | apply below_drew1) | exact HB.out)) hb); clear HB; have HB := n0_; clear n0_; (try clear hb); (try clear hb2); (try clear hk); (try clear hi)))
        repeat (go_quiet (first | (go_at_call 31; (with_reducible refine (estoverstop_awake19.calls kj2  t480 _ A9.out).mono ?_); rintro e w10 ⟨rfl, hb⟩; have n0_ := Aside0.mk (below_step (by repeat (first | (with_reducible first | exact HB.out | apply below_alloc | apply pw_below_drewN | apply below_drew1) | exact HB.out)) hb); clear HB; have HB := n0_; clear n0_; (try clear hb); (try clear hb2); (try clear hk); (try clear hi))); try go_wp2_with (first | (go_at_call 31; (with_reducible refine (estoverstop_awake19.calls kj2  t480 _ A9.out).mono ?_); rintro e w10 ⟨rfl, hb⟩; have n0_ := Aside0.mk (below_step (by repeat (first | (with_reducible first | exact HB.out | apply below_alloc | apply pw_below_drewN | apply below_drew1) | exact HB.out)) hb); clear HB; have HB := n0_; clear n0_; (try clear hb); (try clear hb2); (try clear hk); (try clear hi))))
        go_ret
        exact ⟨by first | rfl | (simp [errW_none, errW_some] <;> rfl) | (simp [*, errW_none, errW_some] <;> rfl), by repeat (first | (with_reducible first | exact HB.out | apply below_alloc | apply pw_below_drewN | apply below_drew1) | exact HB.out)⟩
      · replace c8 := Bool.eq_false_iff.mpr c8
        subst c8
        have H1 : ((estoverstop_pageRefs.f kj2 l0).bind fun t481 => ((workingset_Lists.f t481 (wrap64 (1 + (wrap64 (Int.tmod a1 16)))) 0).bind fun bt484 => ((stackdist_Distances.f kj2 t481).bind fun bt488 => (if bt484.2 = 0 then (if bt488.2 = 0 then (if (bt484.1.length : Int) = (t481.length : Int) then (estoverstop_TopRefaultReach.j1 kj2 (wrap64 (1 + (wrap64 (Int.tmod a1 16)))) bt484.1 bt488.1 ((bt488.1.length : Int) != (t481.length : Int))) else (estoverstop_TopRefaultReach.j1 kj2 (wrap64 (1 + (wrap64 (Int.tmod a1 16)))) bt484.1 bt488.1 true)) else (estoverstop_TopRefaultReach.j1 kj2 (wrap64 (1 + (wrap64 (Int.tmod a1 16)))) bt484.1 bt488.1 true)) else (estoverstop_TopRefaultReach.j1 kj2 (wrap64 (1 + (wrap64 (Int.tmod a1 16)))) bt484.1 bt488.1 true))))) = some r := by rw [if_neg (show ¬ (false = true) by decide)] at H; exact H
        clear H
        have H := H1
        clear H1
        replace H := Option.bind_eq_some_iff.mp H
        obtain ⟨t481, A110, H⟩ := H
        replace H : ((workingset_Lists.f t481 (wrap64 (1 + (wrap64 (Int.tmod a1 16)))) 0).bind fun bt484 => ((stackdist_Distances.f kj2 t481).bind fun bt488 => (if bt484.2 = 0 then (if bt488.2 = 0 then (if (bt484.1.length : Int) = (t481.length : Int) then (estoverstop_TopRefaultReach.j1 kj2 (wrap64 (1 + (wrap64 (Int.tmod a1 16)))) bt484.1 bt488.1 ((bt488.1.length : Int) != (t481.length : Int))) else (estoverstop_TopRefaultReach.j1 kj2 (wrap64 (1 + (wrap64 (Int.tmod a1 16)))) bt484.1 bt488.1 true)) else (estoverstop_TopRefaultReach.j1 kj2 (wrap64 (1 + (wrap64 (Int.tmod a1 16)))) bt484.1 bt488.1 true)) else (estoverstop_TopRefaultReach.j1 kj2 (wrap64 (1 + (wrap64 (Int.tmod a1 16)))) bt484.1 bt488.1 true)))) = some r := H
        have A11 := Aside0.mk A110
        clear A110
        replace H := Option.bind_eq_some_iff.mp H
        obtain ⟨⟨t484, t485⟩, A120, H⟩ := H
        replace H : ((stackdist_Distances.f kj2 t481).bind fun bt488 => (if t485 = 0 then (if bt488.2 = 0 then (if (t484.length : Int) = (t481.length : Int) then (estoverstop_TopRefaultReach.j1 kj2 (wrap64 (1 + (wrap64 (Int.tmod a1 16)))) t484 bt488.1 ((bt488.1.length : Int) != (t481.length : Int))) else (estoverstop_TopRefaultReach.j1 kj2 (wrap64 (1 + (wrap64 (Int.tmod a1 16)))) t484 bt488.1 true)) else (estoverstop_TopRefaultReach.j1 kj2 (wrap64 (1 + (wrap64 (Int.tmod a1 16)))) t484 bt488.1 true)) else (estoverstop_TopRefaultReach.j1 kj2 (wrap64 (1 + (wrap64 (Int.tmod a1 16)))) t484 bt488.1 true))) = some r := H
        have A12 := Aside0.mk A120
        clear A120
        replace H := Option.bind_eq_some_iff.mp H
        obtain ⟨⟨t488, t489⟩, A130, H⟩ := H
        replace H : (if t485 = 0 then (if t489 = 0 then (if (t484.length : Int) = (t481.length : Int) then (estoverstop_TopRefaultReach.j1 kj2 (wrap64 (1 + (wrap64 (Int.tmod a1 16)))) t484 t488 ((t488.length : Int) != (t481.length : Int))) else (estoverstop_TopRefaultReach.j1 kj2 (wrap64 (1 + (wrap64 (Int.tmod a1 16)))) t484 t488 true)) else (estoverstop_TopRefaultReach.j1 kj2 (wrap64 (1 + (wrap64 (Int.tmod a1 16)))) t484 t488 true)) else (estoverstop_TopRefaultReach.j1 kj2 (wrap64 (1 + (wrap64 (Int.tmod a1 16)))) t484 t488 true)) = some r := H
        have A13 := Aside0.mk A130
        clear A130
        have HC14 := Aside0.mk H
        clear H
        go_upto_region 6 with (first | (go_at_call 32; (with_reducible refine (estoverstop_pageRefs.calls kj2 _ _ l0 t481 _ ?side1 ?side2 A11.out).mono ?_); (case side1 => repeat (first | exact (Kd.C_below HR0.out HB.out) | (with_reducible refine Kd.C_alloc ?_ _) | (with_reducible refine Kd.C_drewN ?_ _) | (with_reducible refine Kd.C_drew ?_))); (case side2 => exact HC0.out); rintro e w15 ⟨v482, rfl, ho0, hb⟩; have n0_ := Aside0.mk (Kd.R_lower ho0 (below_size (by repeat (first | (with_reducible first | exact HB.out | apply below_alloc | apply pw_below_drewN | apply below_drew1) | exact HB.out)))); have n1_ := Aside0.mk (below_step (by repeat (first | (with_reducible first | exact HB.out | apply below_alloc | apply pw_below_drewN | apply below_drew1) | exact HB.out)) hb); clear HB; have HO483 := n0_; have HB := n1_; clear n0_ n1_; (try clear hb); (try clear hb2); (try clear hk); (try clear hi); (try clear ho0); obtain ⟨Ao16, co16, eo16⟩ := Kd.R_slice HO483.out; subst eo16) | (go_at_call 35; (with_reducible refine (workingset_Lists.calls _ _ t481 (wrap64 (1 + (wrap64 (Int.tmod a1 16)))) 0 t484 t485 _ ?side1 ?side2 A12.out).mono ?_); (case side1 => repeat (first | exact (Kd.R_reads' HO483.out).2.2 | (with_reducible refine Kd.C_alloc ?_ _) | (with_reducible refine Kd.C_drewN ?_ _) | (with_reducible refine Kd.C_drew ?_))); (case side2 => exact (Kd.R_reads' HO483.out).2.1); rintro e w17 ⟨v486, rfl, ho0, hb⟩; have n0_ := Aside0.mk (Kd.R_elder' (by (with_reducible repeat (first | apply Kd.R_alloc | apply Kd.R_drewN | apply Kd.R_drew)); exact HO483.out) (Kd.R_base ho0) hb); have n1_ := Aside0.mk (Kd.R_lower (Kd.R_new' ho0 (Kd.R_lt (by (with_reducible repeat (first | apply Kd.R_alloc | apply Kd.R_drewN | apply Kd.R_drew)); exact HO483.out))) (below_size (by repeat (first | (with_reducible first | exact HB.out | apply below_alloc | apply pw_below_drewN | apply below_drew1) | exact HB.out)))); have n2_ := Aside0.mk (below_step (by repeat (first | (with_reducible first | exact HB.out | apply below_alloc | apply pw_below_drewN | apply below_drew1) | exact HB.out)) hb); clear HO483; clear HB; have HO483 := n0_; have HO487 := n1_; have HB := n2_; clear n0_ n1_ n2_; (try clear hb); (try clear hb2); (try clear hk); (try clear hi); (try clear ho0)) | (go_at_call 17; (with_reducible refine (stackdist_Distances.calls kj2 _ _ t481 t488 t489 _ ?side1 ?side2 A13.out).mono ?_); (case side1 => repeat (first | exact (Kd.R_reads' HO483.out).2.2 | (with_reducible refine Kd.C_alloc ?_ _) | (with_reducible refine Kd.C_drewN ?_ _) | (with_reducible refine Kd.C_drew ?_))); (case side2 => exact (Kd.R_reads' HO483.out).2.1); rintro e w18 ⟨v490, rfl, ho0, hb⟩; have n0_ := Aside0.mk (Kd.R_elder' (by (with_reducible repeat (first | apply Kd.R_alloc | apply Kd.R_drewN | apply Kd.R_drew)); exact HO483.out) (Kd.R_base ho0) hb); have n1_ := Aside0.mk (Kd.R_elder' (by (with_reducible repeat (first | apply Kd.R_alloc | apply Kd.R_drewN | apply Kd.R_drew)); exact HO487.out) (Kd.R_base ho0) hb); have n2_ := Aside0.mk (Kd.R_lower (Kd.R_new' (Kd.R_new' ho0 (Kd.R_lt (by (with_reducible repeat (first | apply Kd.R_alloc | apply Kd.R_drewN | apply Kd.R_drew)); exact HO483.out))) (Kd.R_lt (by (with_reducible repeat (first | apply Kd.R_alloc | apply Kd.R_drewN | apply Kd.R_drew)); exact HO487.out))) (below_size (by repeat (first | (with_reducible first | exact HB.out | apply below_alloc | apply pw_below_drewN | apply below_drew1) | exact HB.out)))); have n3_ := Aside0.mk (below_step (by repeat (first | (with_reducible first | exact HB.out | apply below_alloc | apply pw_below_drewN | apply below_drew1) | exact HB.out)) hb); clear HO483; clear HO487; clear HB; have HO483 := n0_; have HO487 := n1_; have HO491 := n2_; have HB := n3_; clear n0_ n1_ n2_ n3_; (try clear hb); (try clear hb2); (try clear hk); (try clear hi); (try clear ho0)))
        repeat (go_quiet (first | (go_at_call 32; (with_reducible refine (estoverstop_pageRefs.calls kj2 _ _ l0 t481 _ ?side1 ?side2 A11.out).mono ?_); (case side1 => repeat (first | exact (Kd.C_below HR0.out HB.out) | (with_reducible refine Kd.C_alloc ?_ _) | (with_reducible refine Kd.C_drewN ?_ _) | (with_reducible refine Kd.C_drew ?_))); (case side2 => exact HC0.out); rintro e w15 ⟨v482, rfl, ho0, hb⟩; have n0_ := Aside0.mk (Kd.R_lower ho0 (below_size (by repeat (first | (with_reducible first | exact HB.out | apply below_alloc | apply pw_below_drewN | apply below_drew1) | exact HB.out)))); have n1_ := Aside0.mk (below_step (by repeat (first | (with_reducible first | exact HB.out | apply below_alloc | apply pw_below_drewN | apply below_drew1) | exact HB.out)) hb); clear HB; have HO483 := n0_; have HB := n1_; clear n0_ n1_; (try clear hb); (try clear hb2); (try clear hk); (try clear hi); (try clear ho0); obtain ⟨Ao16, co16, eo16⟩ := Kd.R_slice HO483.out; subst eo16) | (go_at_call 35; (with_reducible refine (workingset_Lists.calls _ _ t481 (wrap64 (1 + (wrap64 (Int.tmod a1 16)))) 0 t484 t485 _ ?side1 ?side2 A12.out).mono ?_); (case side1 => repeat (first | exact (Kd.R_reads' HO483.out).2.2 | (with_reducible refine Kd.C_alloc ?_ _) | (with_reducible refine Kd.C_drewN ?_ _) | (with_reducible refine Kd.C_drew ?_))); (case side2 => exact (Kd.R_reads' HO483.out).2.1); rintro e w17 ⟨v486, rfl, ho0, hb⟩; have n0_ := Aside0.mk (Kd.R_elder' (by (with_reducible repeat (first | apply Kd.R_alloc | apply Kd.R_drewN | apply Kd.R_drew)); exact HO483.out) (Kd.R_base ho0) hb); have n1_ := Aside0.mk (Kd.R_lower (Kd.R_new' ho0 (Kd.R_lt (by (with_reducible repeat (first | apply Kd.R_alloc | apply Kd.R_drewN | apply Kd.R_drew)); exact HO483.out))) (below_size (by repeat (first | (with_reducible first | exact HB.out | apply below_alloc | apply pw_below_drewN | apply below_drew1) | exact HB.out)))); have n2_ := Aside0.mk (below_step (by repeat (first | (with_reducible first | exact HB.out | apply below_alloc | apply pw_below_drewN | apply below_drew1) | exact HB.out)) hb); clear HO483; clear HB; have HO483 := n0_; have HO487 := n1_; have HB := n2_; clear n0_ n1_ n2_; (try clear hb); (try clear hb2); (try clear hk); (try clear hi); (try clear ho0)) | (go_at_call 17; (with_reducible refine (stackdist_Distances.calls kj2 _ _ t481 t488 t489 _ ?side1 ?side2 A13.out).mono ?_); (case side1 => repeat (first | exact (Kd.R_reads' HO483.out).2.2 | (with_reducible refine Kd.C_alloc ?_ _) | (with_reducible refine Kd.C_drewN ?_ _) | (with_reducible refine Kd.C_drew ?_))); (case side2 => exact (Kd.R_reads' HO483.out).2.1); rintro e w18 ⟨v490, rfl, ho0, hb⟩; have n0_ := Aside0.mk (Kd.R_elder' (by (with_reducible repeat (first | apply Kd.R_alloc | apply Kd.R_drewN | apply Kd.R_drew)); exact HO483.out) (Kd.R_base ho0) hb); have n1_ := Aside0.mk (Kd.R_elder' (by (with_reducible repeat (first | apply Kd.R_alloc | apply Kd.R_drewN | apply Kd.R_drew)); exact HO487.out) (Kd.R_base ho0) hb); have n2_ := Aside0.mk (Kd.R_lower (Kd.R_new' (Kd.R_new' ho0 (Kd.R_lt (by (with_reducible repeat (first | apply Kd.R_alloc | apply Kd.R_drewN | apply Kd.R_drew)); exact HO483.out))) (Kd.R_lt (by (with_reducible repeat (first | apply Kd.R_alloc | apply Kd.R_drewN | apply Kd.R_drew)); exact HO487.out))) (below_size (by repeat (first | (with_reducible first | exact HB.out | apply below_alloc | apply pw_below_drewN | apply below_drew1) | exact HB.out)))); have n3_ := Aside0.mk (below_step (by repeat (first | (with_reducible first | exact HB.out | apply below_alloc | apply pw_below_drewN | apply below_drew1) | exact HB.out)) hb); clear HO483; clear HO487; clear HB; have HO483 := n0_; have HO487 := n1_; have HO491 := n2_; have HB := n3_; clear n0_ n1_ n2_ n3_; (try clear hb); (try clear hb2); (try clear hk); (try clear hi); (try clear ho0))); go_upto_region 6 with (first | (go_at_call 32; (with_reducible refine (estoverstop_pageRefs.calls kj2 _ _ l0 t481 _ ?side1 ?side2 A11.out).mono ?_); (case side1 => repeat (first | exact (Kd.C_below HR0.out HB.out) | (with_reducible refine Kd.C_alloc ?_ _) | (with_reducible refine Kd.C_drewN ?_ _) | (with_reducible refine Kd.C_drew ?_))); (case side2 => exact HC0.out); rintro e w15 ⟨v482, rfl, ho0, hb⟩; have n0_ := Aside0.mk (Kd.R_lower ho0 (below_size (by repeat (first | (with_reducible first | exact HB.out | apply below_alloc | apply pw_below_drewN | apply below_drew1) | exact HB.out)))); have n1_ := Aside0.mk (below_step (by repeat (first | (with_reducible first | exact HB.out | apply below_alloc | apply pw_below_drewN | apply below_drew1) | exact HB.out)) hb); clear HB; have HO483 := n0_; have HB := n1_; clear n0_ n1_; (try clear hb); (try clear hb2); (try clear hk); (try clear hi); (try clear ho0); obtain ⟨Ao16, co16, eo16⟩ := Kd.R_slice HO483.out; subst eo16) | (go_at_call 35; (with_reducible refine (workingset_Lists.calls _ _ t481 (wrap64 (1 + (wrap64 (Int.tmod a1 16)))) 0 t484 t485 _ ?side1 ?side2 A12.out).mono ?_); (case side1 => repeat (first | exact (Kd.R_reads' HO483.out).2.2 | (with_reducible refine Kd.C_alloc ?_ _) | (with_reducible refine Kd.C_drewN ?_ _) | (with_reducible refine Kd.C_drew ?_))); (case side2 => exact (Kd.R_reads' HO483.out).2.1); rintro e w17 ⟨v486, rfl, ho0, hb⟩; have n0_ := Aside0.mk (Kd.R_elder' (by (with_reducible repeat (first | apply Kd.R_alloc | apply Kd.R_drewN | apply Kd.R_drew)); exact HO483.out) (Kd.R_base ho0) hb); have n1_ := Aside0.mk (Kd.R_lower (Kd.R_new' ho0 (Kd.R_lt (by (with_reducible repeat (first | apply Kd.R_alloc | apply Kd.R_drewN | apply Kd.R_drew)); exact HO483.out))) (below_size (by repeat (first | (with_reducible first | exact HB.out | apply below_alloc | apply pw_below_drewN | apply below_drew1) | exact HB.out)))); have n2_ := Aside0.mk (below_step (by repeat (first | (with_reducible first | exact HB.out | apply below_alloc | apply pw_below_drewN | apply below_drew1) | exact HB.out)) hb); clear HO483; clear HB; have HO483 := n0_; have HO487 := n1_; have HB := n2_; clear n0_ n1_ n2_; (try clear hb); (try clear hb2); (try clear hk); (try clear hi); (try clear ho0)) | (go_at_call 17; (with_reducible refine (stackdist_Distances.calls kj2 _ _ t481 t488 t489 _ ?side1 ?side2 A13.out).mono ?_); (case side1 => repeat (first | exact (Kd.R_reads' HO483.out).2.2 | (with_reducible refine Kd.C_alloc ?_ _) | (with_reducible refine Kd.C_drewN ?_ _) | (with_reducible refine Kd.C_drew ?_))); (case side2 => exact (Kd.R_reads' HO483.out).2.1); rintro e w18 ⟨v490, rfl, ho0, hb⟩; have n0_ := Aside0.mk (Kd.R_elder' (by (with_reducible repeat (first | apply Kd.R_alloc | apply Kd.R_drewN | apply Kd.R_drew)); exact HO483.out) (Kd.R_base ho0) hb); have n1_ := Aside0.mk (Kd.R_elder' (by (with_reducible repeat (first | apply Kd.R_alloc | apply Kd.R_drewN | apply Kd.R_drew)); exact HO487.out) (Kd.R_base ho0) hb); have n2_ := Aside0.mk (Kd.R_lower (Kd.R_new' (Kd.R_new' ho0 (Kd.R_lt (by (with_reducible repeat (first | apply Kd.R_alloc | apply Kd.R_drewN | apply Kd.R_drew)); exact HO483.out))) (Kd.R_lt (by (with_reducible repeat (first | apply Kd.R_alloc | apply Kd.R_drewN | apply Kd.R_drew)); exact HO487.out))) (below_size (by repeat (first | (with_reducible first | exact HB.out | apply below_alloc | apply pw_below_drewN | apply below_drew1) | exact HB.out)))); have n3_ := Aside0.mk (below_step (by repeat (first | (with_reducible first | exact HB.out | apply below_alloc | apply pw_below_drewN | apply below_drew1) | exact HB.out)) hb); clear HO483; clear HO487; clear HB; have HO483 := n0_; have HO487 := n1_; have HO491 := n2_; have HB := n3_; clear n0_ n1_ n2_ n3_; (try clear hb); (try clear hb2); (try clear hk); (try clear hi); (try clear ho0))))
        (try simp only [Act.put, List.setIfInBounds_toArray, List.set_cons_zero, List.set_cons_succ])
        go_cut [56] (fun v56 wc => ∃ (kq : Nat) (x56_13 : Bool), v56 = .bool x56_13 ∧ Aside0 (estoverstop_TopRefaultReach.j1 kq (wrap64 (1 + (wrap64 (Int.tmod a1 16)))) t484 t488 x56_13 = some r) ∧ Aside0 (kq ≤ kj2) ∧ Aside0 (Kd.R (Kd.int .i64) 3 wc w.heap.size (fun k_ => some k_ ≠ (v490 : Value).ownBlock) v486 t484) ∧ Aside0 (Kd.R (Kd.int .i64) 3 wc w.heap.size (fun k_ => some k_ ≠ (v486 : Value).ownBlock) v490 t488) ∧ Aside0 (Below w.heap.size w wc))
        case first =>
          have H := HC14.out
          clear HC14
          by_cases c19 : t485 = 0
          · rw [if_pos c19] at H
            have c19b0 : (t485 == 0) = true := beq_iff_eq.mpr c19
            have c19b1 : (t485 != 0) = false := bne_eq_false_iff_eq.mpr c19
            clear c19
            (first | rw [c19b0] | (simp only [i64_w, i32_w]; rw [c19b0]) | skip)
            by_cases c20 : t489 = 0
            · rw [if_pos c20] at H
              have c20b0 : (t489 == 0) = true := beq_iff_eq.mpr c20
              have c20b1 : (t489 != 0) = false := bne_eq_false_iff_eq.mpr c20
              clear c20
              by_cases c21 : (t484.length : Int) = (t481.length : Int)
              · rw [if_pos c21] at H
                have c21b0 : ((t484.length : Int) == (t481.length : Int)) = true := beq_iff_eq.mpr c21
                have c21b1 : ((t484.length : Int) != (t481.length : Int)) = false := bne_eq_false_iff_eq.mpr c21
                have c21b2 : (t484.length == t481.length) = true := by first | simpa using c21 | (simp at c21 ⊢; omega)
                clear c21
                have H' := Aside0.mk H
                clear H
                obtain ⟨Ao22, co22, eo22⟩ := Kd.R_slice HO487.out
                subst eo22
                obtain ⟨Ao23, co23, eo23⟩ := Kd.R_slice HO491.out
                subst eo23
                go_wp2
                repeat (go_quiet (fail); try go_wp2)
                go_meet
                case rel => exact ⟨_, (((t488.length : Int) != (t481.length : Int))), (by first | rfl | (simp; done) | (simp [*]; done)), H', ⟨by have := HJ2.out; first | omega | exact Nat.le_refl _⟩, ⟨by (with_reducible repeat (first | apply Kd.R_alloc | apply Kd.R_drewN | apply Kd.R_drew)); exact Kd.R_mono HO487.out (fun _ hk => hk.2)⟩, ⟨by (with_reducible repeat (first | apply Kd.R_alloc | apply Kd.R_drewN | apply Kd.R_drew)); exact Kd.R_mono HO491.out (fun _ hk => hk.2)⟩, ⟨by repeat (first | (with_reducible first | exact HB.out | apply below_alloc | apply pw_below_drewN | apply below_drew1) | exact HB.out)⟩⟩
              · rw [if_neg c21] at H
                have c21b0 : ((t484.length : Int) == (t481.length : Int)) = false := beq_eq_false_iff_ne.mpr c21
                have c21b1 : ((t484.length : Int) != (t481.length : Int)) = true := bne_iff_ne.mpr c21
                have c21b2 : (t484.length == t481.length) = false := by first | simpa using c21 | (simp at c21 ⊢; omega)
                have H' := Aside0.mk H
                clear H
                obtain ⟨Ao24, co24, eo24⟩ := Kd.R_slice HO487.out
                subst eo24
                go_wp2
                repeat (go_quiet (fail); try go_wp2)
                go_meet
                case rel => exact ⟨_, (true), (by first | rfl | (simp; done) | (simp [*]; done)), H', ⟨by have := HJ2.out; first | omega | exact Nat.le_refl _⟩, ⟨by (with_reducible repeat (first | apply Kd.R_alloc | apply Kd.R_drewN | apply Kd.R_drew)); exact Kd.R_mono HO487.out (fun _ hk => hk.2)⟩, ⟨by (with_reducible repeat (first | apply Kd.R_alloc | apply Kd.R_drewN | apply Kd.R_drew)); exact Kd.R_mono HO491.out (fun _ hk => hk.2)⟩, ⟨by repeat (first | (with_reducible first | exact HB.out | apply below_alloc | apply pw_below_drewN | apply below_drew1) | exact HB.out)⟩⟩
            · rw [if_neg c20] at H
              have c20b0 : (t489 == 0) = false := beq_eq_false_iff_ne.mpr c20
              have c20b1 : (t489 != 0) = true := bne_iff_ne.mpr c20
              have H' := Aside0.mk H
              clear H
              go_wp2
              repeat (go_quiet (fail); try go_wp2)
              go_meet
              case rel => exact ⟨_, (true), (by first | rfl | (simp; done) | (simp [*]; done)), H', ⟨by have := HJ2.out; first | omega | exact Nat.le_refl _⟩, ⟨by (with_reducible repeat (first | apply Kd.R_alloc | apply Kd.R_drewN | apply Kd.R_drew)); exact Kd.R_mono HO487.out (fun _ hk => hk.2)⟩, ⟨by (with_reducible repeat (first | apply Kd.R_alloc | apply Kd.R_drewN | apply Kd.R_drew)); exact Kd.R_mono HO491.out (fun _ hk => hk.2)⟩, ⟨by repeat (first | (with_reducible first | exact HB.out | apply below_alloc | apply pw_below_drewN | apply below_drew1) | exact HB.out)⟩⟩
          · rw [if_neg c19] at H
            have c19b0 : (t485 == 0) = false := beq_eq_false_iff_ne.mpr c19
            have c19b1 : (t485 != 0) = true := bne_iff_ne.mpr c19
            (first | rw [c19b0] | (simp only [i64_w, i32_w]; rw [c19b0]) | skip)
            have H' := Aside0.mk H
            clear H
            go_wp2
            repeat (go_quiet (fail); try go_wp2)
            go_meet
            case rel => exact ⟨_, (true), (by first | rfl | (simp; done) | (simp [*]; done)), H', ⟨by have := HJ2.out; first | omega | exact Nat.le_refl _⟩, ⟨by (with_reducible repeat (first | apply Kd.R_alloc | apply Kd.R_drewN | apply Kd.R_drew)); exact Kd.R_mono HO487.out (fun _ hk => hk.2)⟩, ⟨by (with_reducible repeat (first | apply Kd.R_alloc | apply Kd.R_drewN | apply Kd.R_drew)); exact Kd.R_mono HO491.out (fun _ hk => hk.2)⟩, ⟨by repeat (first | (with_reducible first | exact HB.out | apply below_alloc | apply pw_below_drewN | apply below_drew1) | exact HB.out)⟩⟩
        case rest =>
          clear HC14
          try clear c1
          try clear c2
          try clear p2
          try clear c5
          try clear p6
          try clear c8
          try clear c12
          try clear c19
          try clear c19b0
          try clear c19b1
          try clear c20
          try clear c20b0
          try clear c20b1
          try clear c21
          try clear c21b0
          try clear c21b1
          try clear c21b2
          try clear p2
          obtain ⟨kq, x56_13, rfl, HA, HJ13, HO_7, HO_9, HB⟩ := hcut
          cases kq with
          | zero => exact absurd HA.out (by simp [estoverstop_TopRefaultReach.j1])
          | succ kj13 =>
            have H := HA.out
            clear HA
            simp only [estoverstop_TopRefaultReach.j1] at H
            by_cases c25 : x56_13 = true
            · subst c25
              have H1 : (some false) = some r := by rw [if_pos rfl] at H; exact H
              clear H
              have H := H1
              clear H1
              obtain rfl := Option.some.inj H
              go_wp2
              repeat (go_quiet (fail); try go_wp2)
              go_ret
              exact ⟨by first | rfl | (simp [errW_none, errW_some] <;> rfl) | (simp [*, errW_none, errW_some] <;> rfl), by repeat (first | (with_reducible first | exact HB.out | apply below_alloc | apply pw_below_drewN | apply below_drew1) | exact HB.out)⟩
            · replace c25 := Bool.eq_false_iff.mpr c25
              subst c25
              have H1 : (estoverstop_TopRefaultReach.l0 kj13 (wrap64 (1 + (wrap64 (Int.tmod a1 16)))) t484 t488 (t484.length : Int) 0) = some r := by rw [if_neg (show ¬ (false = true) by decide)] at H; exact H
              clear H
              have H := H1
              clear H1
              have H' := Aside0.mk H
              clear H
              obtain ⟨Ao26, co26, eo26⟩ := Kd.R_slice HO_7.out
              subst eo26
              go_wp2
              repeat (go_quiet (fail); try go_wp2)
              go_loopg [59] kj13 (fun kq v59 w' => ∃ (x59_3 : Int), v59 = .int .i64 x59_3 ∧ Aside0 (estoverstop_TopRefaultReach.l0 kq (wrap64 (1 + (wrap64 (Int.tmod a1 16)))) t484 t488 (t484.length : Int) x59_3 = some r) ∧ Aside0 (kq ≤ kj13) ∧ Aside0 (Kd.R (Kd.int .i64) 3 w' w.heap.size (fun k_ => some k_ ≠ (v490 : Value).ownBlock) (.slice Ao26 t484.length co26) t484) ∧ Aside0 (Kd.R (Kd.int .i64) 3 w' w.heap.size (fun k_ => some k_ ≠ ((.slice Ao26 t484.length co26) : Value).ownBlock) v490 t488) ∧ Aside0 (Below w.heap.size w w'))
              case atStart => exact ⟨(0), (by first | rfl | (simp; done) | (simp [*]; done)), H', ⟨Nat.le_refl _⟩, ⟨by (with_reducible repeat (first | apply Kd.R_alloc | apply Kd.R_drewN | apply Kd.R_drew)); exact HO_7.out⟩, ⟨by (with_reducible repeat (first | apply Kd.R_alloc | apply Kd.R_drewN | apply Kd.R_drew)); exact HO_9.out⟩, ⟨by repeat (first | (with_reducible first | exact HB.out | apply below_alloc | apply pw_below_drewN | apply below_drew1) | exact HB.out)⟩⟩
              case round =>
                clear H'
                try clear c1
                try clear c2
                try clear p2
                try clear c5
                try clear p6
                try clear c8
                try clear c12
                try clear c19
                try clear c19b0
                try clear c19b1
                try clear c20
                try clear c20b0
                try clear c20b1
                try clear c21
                try clear c21b0
                try clear c21b1
                try clear c21b2
                try clear c25
                try clear p2
                try clear p6
                obtain ⟨x59_3, rfl, HA, HK3, HO_7, HO_9, HB⟩ := hrel
                cases gk with
                | zero => exact absurd HA.out (by simp [estoverstop_TopRefaultReach.l0])
                | succ k3 =>
                  have H := HA.out
                  clear HA
                  simp only [estoverstop_TopRefaultReach.l0] at H
                  by_cases c27 : x59_3 < (t484.length : Int)
                  · rw [if_pos c27] at H
                    have c27b0 : decide (x59_3 < (t484.length : Int)) = true := decide_eq_true c27
                    clear c27
                    by_cases c28 : 0 ≤ x59_3
                    · rw [if_pos c28] at H
                      have c28b0 : decide (0 ≤ x59_3) = true := decide_eq_true c28
                      clear c28
                      by_cases c29 : x59_3 < (t484.length : Int)
                      · rw [if_pos c29] at H
                        have c29b0 : decide (x59_3 < (t484.length : Int)) = true := decide_eq_true c29
                        clear c29
                        by_cases c30 : (rd t484 x59_3) ≥ 0
                        · rw [if_pos c30] at H
                          have c30b0 : decide (0 ≤ (rd t484 x59_3)) = true := decide_eq_true c30
                          clear c30
                          by_cases c31 : x59_3 < (t488.length : Int)
                          · rw [if_pos c31] at H
                            have c31b0 : decide (x59_3 < (t488.length : Int)) = true := decide_eq_true c31
                            clear c31
                            by_cases c32 : (rd t488 x59_3) < (wrap64 (1 + (wrap64 (Int.tmod a1 16))))
                            · rw [if_pos c32] at H
                              have c32b0 : decide ((rd t488 x59_3) < (wrap64 (1 + (wrap64 (Int.tmod a1 16))))) = true := decide_eq_true c32
                              clear c32
                              obtain rfl := Option.some.inj H
                              have p492 : 0 ≤ (x59_3 : Int) := of_decide_eq_true (by first | (with_reducible assumption) | assumption)
                              have q492 : x59_3 < (t484.length : Int) := of_decide_eq_true (by first | (with_reducible assumption) | assumption)
                              obtain ⟨ad492, e492, hx492_0⟩ := Kd.at_int (Kd.R_reads' HO_7.out).2.2 x59_3 p492 q492
                              cases e492
                              replace p492 := eq_true p492
                              replace q492 := eq_true q492
                              obtain ⟨Ao33, co33, eo33⟩ := Kd.R_slice HO_9.out
                              subst eo33
                              have p493 : 0 ≤ (x59_3 : Int) := of_decide_eq_true (by first | (with_reducible assumption) | assumption)
                              have q493 : x59_3 < (t488.length : Int) := of_decide_eq_true (by first | (with_reducible assumption) | assumption)
                              obtain ⟨ad493, e493, hx493_0⟩ := Kd.at_int (Kd.R_reads' HO_9.out).2.2 x59_3 p493 q493
                              cases e493
                              replace p493 := eq_true p493
                              replace q493 := eq_true q493
                              go_wp2
                              repeat (go_quiet (fail); try go_wp2)
                              go_ret
                              exact ⟨by first | rfl | (simp [errW_none, errW_some] <;> rfl) | (simp [*, errW_none, errW_some] <;> rfl), by repeat (first | (with_reducible first | exact HB.out | apply below_alloc | apply pw_below_drewN | apply below_drew1) | exact HB.out)⟩
                            · rw [if_neg c32] at H
                              have c32b0 : decide ((rd t488 x59_3) < (wrap64 (1 + (wrap64 (Int.tmod a1 16))))) = false := decide_eq_false c32
                              clear c32
                              by_cases c34 : (rd t488 x59_3) ≥ (wrap64 ((wrap64 ((wrap64 (1 + (wrap64 (Int.tmod a1 16)))) + (rd t484 x59_3))) + 1))
                              · rw [if_pos c34] at H
                                have c34b0 : decide ((wrap64 ((wrap64 ((wrap64 (1 + (wrap64 (Int.tmod a1 16)))) + (rd t484 x59_3))) + 1)) ≤ (rd t488 x59_3)) = true := decide_eq_true c34
                                clear c34
                                obtain rfl := Option.some.inj H
                                have p492 : 0 ≤ (x59_3 : Int) := of_decide_eq_true (by first | (with_reducible assumption) | assumption)
                                have q492 : x59_3 < (t484.length : Int) := of_decide_eq_true (by first | (with_reducible assumption) | assumption)
                                obtain ⟨ad492, e492, hx492_0⟩ := Kd.at_int (Kd.R_reads' HO_7.out).2.2 x59_3 p492 q492
                                cases e492
                                replace p492 := eq_true p492
                                replace q492 := eq_true q492
                                obtain ⟨Ao35, co35, eo35⟩ := Kd.R_slice HO_9.out
                                subst eo35
                                have p493 : 0 ≤ (x59_3 : Int) := of_decide_eq_true (by first | (with_reducible assumption) | assumption)
                                have q493 : x59_3 < (t488.length : Int) := of_decide_eq_true (by first | (with_reducible assumption) | assumption)
                                obtain ⟨ad493, e493, hx493_0⟩ := Kd.at_int (Kd.R_reads' HO_9.out).2.2 x59_3 p493 q493
                                cases e493
                                replace p493 := eq_true p493
                                replace q493 := eq_true q493
                                have p494 : 0 ≤ (x59_3 : Int) := of_decide_eq_true (by first | (with_reducible assumption) | assumption)
                                have q494 : x59_3 < (t488.length : Int) := of_decide_eq_true (by first | (with_reducible assumption) | assumption)
                                obtain ⟨ad494, e494, hx494_0⟩ := Kd.at_int (Kd.R_reads' HO_9.out).2.2 x59_3 p494 q494
                                obtain rfl : ad493 = ad494 := (by injection e494)
                                replace p494 := eq_true p494
                                replace q494 := eq_true q494
                                have p495 : 0 ≤ (x59_3 : Int) := of_decide_eq_true (by first | (with_reducible assumption) | assumption)
                                have q495 : x59_3 < (t484.length : Int) := of_decide_eq_true (by first | (with_reducible assumption) | assumption)
                                obtain ⟨ad495, e495, hx495_0⟩ := Kd.at_int (Kd.R_reads' HO_7.out).2.2 x59_3 p495 q495
                                obtain rfl : ad492 = ad495 := (by injection e495)
                                replace p495 := eq_true p495
                                replace q495 := eq_true q495
                                go_wp2
                                repeat (go_quiet (fail); try go_wp2)
                                go_ret
                                exact ⟨by first | rfl | (simp [errW_none, errW_some] <;> rfl) | (simp [*, errW_none, errW_some] <;> rfl), by repeat (first | (with_reducible first | exact HB.out | apply below_alloc | apply pw_below_drewN | apply below_drew1) | exact HB.out)⟩
                              · rw [if_neg c34] at H
                                have c34b0 : decide ((wrap64 ((wrap64 ((wrap64 (1 + (wrap64 (Int.tmod a1 16)))) + (rd t484 x59_3))) + 1)) ≤ (rd t488 x59_3)) = false := decide_eq_false c34
                                clear c34
                                have H' := Aside0.mk H
                                clear H
                                have p492 : 0 ≤ (x59_3 : Int) := of_decide_eq_true (by first | (with_reducible assumption) | assumption)
                                have q492 : x59_3 < (t484.length : Int) := of_decide_eq_true (by first | (with_reducible assumption) | assumption)
                                obtain ⟨ad492, e492, hx492_0⟩ := Kd.at_int (Kd.R_reads' HO_7.out).2.2 x59_3 p492 q492
                                cases e492
                                replace p492 := eq_true p492
                                replace q492 := eq_true q492
                                obtain ⟨Ao36, co36, eo36⟩ := Kd.R_slice HO_9.out
                                subst eo36
                                have p493 : 0 ≤ (x59_3 : Int) := of_decide_eq_true (by first | (with_reducible assumption) | assumption)
                                have q493 : x59_3 < (t488.length : Int) := of_decide_eq_true (by first | (with_reducible assumption) | assumption)
                                obtain ⟨ad493, e493, hx493_0⟩ := Kd.at_int (Kd.R_reads' HO_9.out).2.2 x59_3 p493 q493
                                cases e493
                                replace p493 := eq_true p493
                                replace q493 := eq_true q493
                                have p494 : 0 ≤ (x59_3 : Int) := of_decide_eq_true (by first | (with_reducible assumption) | assumption)
                                have q494 : x59_3 < (t488.length : Int) := of_decide_eq_true (by first | (with_reducible assumption) | assumption)
                                obtain ⟨ad494, e494, hx494_0⟩ := Kd.at_int (Kd.R_reads' HO_9.out).2.2 x59_3 p494 q494
                                obtain rfl : ad493 = ad494 := (by injection e494)
                                replace p494 := eq_true p494
                                replace q494 := eq_true q494
                                have p495 : 0 ≤ (x59_3 : Int) := of_decide_eq_true (by first | (with_reducible assumption) | assumption)
                                have q495 : x59_3 < (t484.length : Int) := of_decide_eq_true (by first | (with_reducible assumption) | assumption)
                                obtain ⟨ad495, e495, hx495_0⟩ := Kd.at_int (Kd.R_reads' HO_7.out).2.2 x59_3 p495 q495
                                obtain rfl : ad492 = ad495 := (by injection e495)
                                replace p495 := eq_true p495
                                replace q495 := eq_true q495
                                go_wp2
                                repeat (go_quiet (fail); try go_wp2)
                                go_roundg k3
                                case measure => have := HJ2.out; have := HJ13.out; have := HK3.out; omega
                                case rel => exact ⟨(wrap64 (x59_3 + 1)), (by first | rfl | (simp; done) | (simp [*]; done)), H', ⟨by have := HJ2.out; have := HJ13.out; have := HK3.out; omega⟩, ⟨by (with_reducible repeat (first | apply Kd.R_alloc | apply Kd.R_drewN | apply Kd.R_drew)); exact HO_7.out⟩, ⟨by (with_reducible repeat (first | apply Kd.R_alloc | apply Kd.R_drewN | apply Kd.R_drew)); exact HO_9.out⟩, ⟨by repeat (first | (with_reducible first | exact HB.out | apply below_alloc | apply pw_below_drewN | apply below_drew1) | exact HB.out)⟩⟩
                          · rw [if_neg c31] at H
                            exact absurd H (by simp)
                        · rw [if_neg c30] at H
                          have c30b0 : decide (0 ≤ (rd t484 x59_3)) = false := decide_eq_false c30
                          clear c30
                          have H' := Aside0.mk H
                          clear H
                          have p492 : 0 ≤ (x59_3 : Int) := of_decide_eq_true (by first | (with_reducible assumption) | assumption)
                          have q492 : x59_3 < (t484.length : Int) := of_decide_eq_true (by first | (with_reducible assumption) | assumption)
                          obtain ⟨ad492, e492, hx492_0⟩ := Kd.at_int (Kd.R_reads' HO_7.out).2.2 x59_3 p492 q492
                          cases e492
                          replace p492 := eq_true p492
                          replace q492 := eq_true q492
                          go_wp2
                          repeat (go_quiet (fail); try go_wp2)
                          go_roundg k3
                          case measure => have := HJ2.out; have := HJ13.out; have := HK3.out; omega
                          case rel => exact ⟨(wrap64 (x59_3 + 1)), (by first | rfl | (simp; done) | (simp [*]; done)), H', ⟨by have := HJ2.out; have := HJ13.out; have := HK3.out; omega⟩, ⟨by (with_reducible repeat (first | apply Kd.R_alloc | apply Kd.R_drewN | apply Kd.R_drew)); exact HO_7.out⟩, ⟨by (with_reducible repeat (first | apply Kd.R_alloc | apply Kd.R_drewN | apply Kd.R_drew)); exact HO_9.out⟩, ⟨by repeat (first | (with_reducible first | exact HB.out | apply below_alloc | apply pw_below_drewN | apply below_drew1) | exact HB.out)⟩⟩
                      · rw [if_neg c29] at H
                        exact absurd H (by simp)
                    · rw [if_neg c28] at H
                      exact absurd H (by simp)
                  · rw [if_neg c27] at H
                    have c27b0 : decide (x59_3 < (t484.length : Int)) = false := decide_eq_false c27
                    clear c27
                    obtain rfl := Option.some.inj H
                    go_wp2
                    repeat (go_quiet (fail); try go_wp2)
                    go_ret
                    exact ⟨by first | rfl | (simp [errW_none, errW_some] <;> rfl) | (simp [*, errW_none, errW_some] <;> rfl), by repeat (first | (with_reducible first | exact HB.out | apply below_alloc | apply pw_below_drewN | apply below_drew1) | exact HB.out)⟩

/-- THE ONE PURE STATEMENT of estoverstop_TopRefaultReach: yours. -/
def estoverstop_TopRefaultReach.Pure : Prop := ∀ (l0 : List Int) (a1 : Int), l0.length ≤ maxLen → l0.length * 1 ≤ 140737488351232 → (∀ x ∈ l0, (Lit.int .u8 x).wf = true) → (Lit.int .u8 a1).wf = true → ∃ k, estoverstop_TopRefaultReach.f k l0 a1 = some true
theorem estoverstop_TopRefaultReach.walk (P : estoverstop_TopRefaultReach.Pure) (a0 : Option Addr) (len0 cap0 : Nat) (z0 : List Int) (a1 : Int) (w : World) (w0 : (a0 = none ∧ len0 = 0 ∧ cap0 = 0 ∧ z0 = []) ∨ ∃ x, a0 = some x ∧ len0 ≤ cap0 ∧ cap0 ≤ maxLen ∧ z0.length = cap0 ∧ (∀ i, i < z0.length → w.cell? (x.add i) = some (.int .u8 (z0.getD i 0))) ∧ ∀ n ∈ z0, (Lit.int .u8 n).wf = true) (y0 : len0 * 1 ≤ 140737488351232) (w1 : (Lit.int .u8 a1).wf = true) :
    Calls Try.prog 12 #[.slice a0 len0 cap0, .int .u8 a1] w fun e w' => e = .returned (.bool true) ∧ Below w.heap.size w w' := by
  obtain ⟨l0, rfl, hr0, hm0, hw0, hc0⟩ := ReadsInt.ofRowC w0
  obtain ⟨k, h⟩ := P l0 a1 hm0 y0 hw0 w1
  refine (estoverstop_TopRefaultReach.calls k _ _ l0 a1 true w (Kd.C_of_reads (d := (0 : Int)) (h1 := fun _ => rfl) hr0) hc0 h).mono ?_
  rintro e w' ⟨rfl, hd⟩
  exact ⟨rfl, hd⟩

end Go.Proofs.Ytbchpnhlaknhjaa.Q
