-- Written by wip/stubprint.py for this claim. Lean checks it.
import Derived.Test.YtbchpnhlaknhjaaQ0
import Derived.Test.YtbchpnhlaknhjaaQ100
import Derived.Test.YtbchpnhlaknhjaaQ105
import Derived.Test.YtbchpnhlaknhjaaQ200
import Derived.Test.YtbchpnhlaknhjaaQ208
import Derived.Test.YtbchpnhlaknhjaaELists
namespace Go.Proofs.Ytbchpnhlaknhjaa.Q
open Go.RowKit Go.Proofs.YtbchpnhlaknhjaaW.PrintWords Go.Proofs.YtbchpnhlaknhjaaW.PrintLast Go.Proofs.YtbchpnhlaknhjaaW.PrintMore
attribute [local go_sem] max2_int min2_int max_two min_two max_three min_three max_four min_four
set_option linter.unusedVariables false
set_option linter.unusedSimpArgs false

/-! ### estoverstop_TopLruLists: function 13 -/
mutual
def estoverstop_TopLruLists.j0 : Nat → List Int → Int → Bool → Option (Bool)
  | 0, _, _, _ => none
  | k + 1, x0, x1, x21 => if x21 = true then ((estoverstop_awake19.f k).bind fun t497 => (some t497)) else ((estoverstop_pageRefs.f k x0).bind fun t498 => ((workingset_Lists.f t498 (wrap64 (1 + (wrap64 (Int.tmod x1 16)))) 0).bind fun bt501 => ((stackdist_Lru.f k t498 (wrap64 (1 + (wrap64 (Int.tmod x1 16))))).bind fun bt505 => ((stackdist_Distances.f k t498).bind fun bt510 => (if bt501.2 = 0 then (if bt505.2.2 = 0 then (if bt510.2 = 0 then (if (bt501.1.length : Int) = (t498.length : Int) then (if (bt510.1.length : Int) = (t498.length : Int) then ((estoverstop_missed.f k bt501.1).bind fun t514 => (estoverstop_TopLruLists.j1 k (wrap64 (1 + (wrap64 (Int.tmod x1 16)))) bt501.1 bt510.1 (t514 != bt505.1))) else (estoverstop_TopLruLists.j1 k (wrap64 (1 + (wrap64 (Int.tmod x1 16)))) bt501.1 bt510.1 true)) else (estoverstop_TopLruLists.j1 k (wrap64 (1 + (wrap64 (Int.tmod x1 16)))) bt501.1 bt510.1 true)) else (estoverstop_TopLruLists.j1 k (wrap64 (1 + (wrap64 (Int.tmod x1 16)))) bt501.1 bt510.1 true)) else (estoverstop_TopLruLists.j1 k (wrap64 (1 + (wrap64 (Int.tmod x1 16)))) bt501.1 bt510.1 true)) else (estoverstop_TopLruLists.j1 k (wrap64 (1 + (wrap64 (Int.tmod x1 16)))) bt501.1 bt510.1 true))))))
def estoverstop_TopLruLists.j1 : Nat → Int → List Int → List Int → Bool → Option (Bool)
  | 0, _, _, _, _ => none
  | k + 1, x6, x7, x12, x76 => if x76 = true then (some false) else (estoverstop_TopLruLists.l0 k x6 x7 x12 (x7.length : Int) 0)
def estoverstop_TopLruLists.l0 : Nat → Int → List Int → List Int → Int → Int → Option (Bool)
  | 0, _, _, _, _, _ => none
  | k + 1, x6, x7, x12, x78, x79 => if x79 < x78 then (if 0 ≤ x79 then (if x79 < (x7.length : Int) then (if x79 < (x12.length : Int) then (if (rd x12 x79) ≥ 0 then (if (((rd x7 x79) == (-1)) != (decide ((rd x12 x79) < x6))) = true then (some false) else (if (((rd x7 x79) == (-2)) != ((rd x12 x79) == (-1))) = true then (some false) else (estoverstop_TopLruLists.l0 k x6 x7 x12 x78 (wrap64 (x79 + 1))))) else (if (((rd x7 x79) == (-1)) != false) = true then (some false) else (if (((rd x7 x79) == (-2)) != ((rd x12 x79) == (-1))) = true then (some false) else (estoverstop_TopLruLists.l0 k x6 x7 x12 x78 (wrap64 (x79 + 1)))))) else (none)) else (none)) else (none)) else (some true)
end
def estoverstop_TopLruLists.f (k : Nat) (l0 : List Int) (a1 : Int) : Option (Bool) := (estoverstop_awake19.f k).bind fun t496 => (if t496 = true then (estoverstop_TopLruLists.j0 k l0 a1 (decide ((l0.length : Int) > 200))) else (estoverstop_TopLruLists.j0 k l0 a1 true))
theorem estoverstop_TopLruLists.mono_l : ∀ k, (∀ y0 y1 y2, LeO (estoverstop_TopLruLists.j0 k y0 y1 y2) (estoverstop_TopLruLists.j0 (k + 1) y0 y1 y2)) ∧ (∀ y0 y1 y2 y3, LeO (estoverstop_TopLruLists.j1 k y0 y1 y2 y3) (estoverstop_TopLruLists.j1 (k + 1) y0 y1 y2 y3)) ∧ (∀ y0 y1 y2 y3 y4, LeO (estoverstop_TopLruLists.l0 k y0 y1 y2 y3 y4) (estoverstop_TopLruLists.l0 (k + 1) y0 y1 y2 y3 y4))
  | 0 => ⟨fun _ _ _ r h => by simp [estoverstop_TopLruLists.j0] at h, fun _ _ _ _ r h => by simp [estoverstop_TopLruLists.j1] at h, fun _ _ _ _ _ r h => by simp [estoverstop_TopLruLists.l0] at h⟩
  | k + 1 => by
    obtain ⟨ih0, ih1, ih2⟩ := estoverstop_TopLruLists.mono_l k
    refine ⟨?_, ?_, ?_⟩
    · intro y0 y1 y2
      unfold estoverstop_TopLruLists.j0
      repeat' first
      | (with_reducible exact ih0 _ _ _)
      | (with_reducible exact ih1 _ _ _ _)
      | (with_reducible exact ih2 _ _ _ _ _)
      | (with_reducible exact estoverstop_awake19.mono _)
      | (with_reducible exact estoverstop_missed.mono _ _)
      | (with_reducible exact estoverstop_pageRefs.mono _ _)
      | (with_reducible exact stackdist_Distances.mono _ _)
      | (with_reducible exact stackdist_Lru.mono _ _ _)
      | (with_reducible exact LeO.refl _)
      | (with_reducible exact LeO.none _)
      | (with_reducible refine LeO.ite ?_ ?_)
      | (with_reducible refine LeO.bind ?_ (fun _ => ?_))
      | exact ih0 _ _ _
      | exact ih1 _ _ _ _
      | exact ih2 _ _ _ _ _
      | exact estoverstop_awake19.mono _
      | exact estoverstop_missed.mono _ _
      | exact estoverstop_pageRefs.mono _ _
      | exact stackdist_Distances.mono _ _
      | exact stackdist_Lru.mono _ _ _
      | exact LeO.none _
      | refine LeO.ite ?_ ?_
      | refine LeO.bind ?_ (fun _ => ?_)
    · intro y0 y1 y2 y3
      unfold estoverstop_TopLruLists.j1
      repeat' first
      | (with_reducible exact ih0 _ _ _)
      | (with_reducible exact ih1 _ _ _ _)
      | (with_reducible exact ih2 _ _ _ _ _)
      | (with_reducible exact estoverstop_awake19.mono _)
      | (with_reducible exact estoverstop_missed.mono _ _)
      | (with_reducible exact estoverstop_pageRefs.mono _ _)
      | (with_reducible exact stackdist_Distances.mono _ _)
      | (with_reducible exact stackdist_Lru.mono _ _ _)
      | (with_reducible exact LeO.refl _)
      | (with_reducible exact LeO.none _)
      | (with_reducible refine LeO.ite ?_ ?_)
      | (with_reducible refine LeO.bind ?_ (fun _ => ?_))
      | exact ih0 _ _ _
      | exact ih1 _ _ _ _
      | exact ih2 _ _ _ _ _
      | exact estoverstop_awake19.mono _
      | exact estoverstop_missed.mono _ _
      | exact estoverstop_pageRefs.mono _ _
      | exact stackdist_Distances.mono _ _
      | exact stackdist_Lru.mono _ _ _
      | exact LeO.none _
      | refine LeO.ite ?_ ?_
      | refine LeO.bind ?_ (fun _ => ?_)
    · intro y0 y1 y2 y3 y4
      unfold estoverstop_TopLruLists.l0
      repeat' first
      | (with_reducible exact ih0 _ _ _)
      | (with_reducible exact ih1 _ _ _ _)
      | (with_reducible exact ih2 _ _ _ _ _)
      | (with_reducible exact estoverstop_awake19.mono _)
      | (with_reducible exact estoverstop_missed.mono _ _)
      | (with_reducible exact estoverstop_pageRefs.mono _ _)
      | (with_reducible exact stackdist_Distances.mono _ _)
      | (with_reducible exact stackdist_Lru.mono _ _ _)
      | (with_reducible exact LeO.refl _)
      | (with_reducible exact LeO.none _)
      | (with_reducible refine LeO.ite ?_ ?_)
      | (with_reducible refine LeO.bind ?_ (fun _ => ?_))
      | exact ih0 _ _ _
      | exact ih1 _ _ _ _
      | exact ih2 _ _ _ _ _
      | exact estoverstop_awake19.mono _
      | exact estoverstop_missed.mono _ _
      | exact estoverstop_pageRefs.mono _ _
      | exact stackdist_Distances.mono _ _
      | exact stackdist_Lru.mono _ _ _
      | exact LeO.none _
      | refine LeO.ite ?_ ?_
      | refine LeO.bind ?_ (fun _ => ?_)
theorem estoverstop_TopLruLists.mono : ∀ a0 a1 k, LeO (estoverstop_TopLruLists.f k a0 a1) (estoverstop_TopLruLists.f (k + 1) a0 a1) := by
  intro a0 a1 k
  obtain ⟨ih0, ih1, ih2⟩ := estoverstop_TopLruLists.mono_l k
  unfold estoverstop_TopLruLists.f
  repeat' first
      | (with_reducible exact ih0 _ _ _)
      | (with_reducible exact ih1 _ _ _ _)
      | (with_reducible exact ih2 _ _ _ _ _)
      | (with_reducible exact estoverstop_awake19.mono _)
      | (with_reducible exact estoverstop_missed.mono _ _)
      | (with_reducible exact estoverstop_pageRefs.mono _ _)
      | (with_reducible exact stackdist_Distances.mono _ _)
      | (with_reducible exact stackdist_Lru.mono _ _ _)
      | (with_reducible exact LeO.refl _)
      | (with_reducible exact LeO.none _)
      | (with_reducible refine LeO.ite ?_ ?_)
      | (with_reducible refine LeO.bind ?_ (fun _ => ?_))
      | exact ih0 _ _ _
      | exact ih1 _ _ _ _
      | exact ih2 _ _ _ _ _
      | exact estoverstop_awake19.mono _
      | exact estoverstop_missed.mono _ _
      | exact estoverstop_pageRefs.mono _ _
      | exact stackdist_Distances.mono _ _
      | exact stackdist_Lru.mono _ _ _
      | exact LeO.none _
      | refine LeO.ite ?_ ?_
      | refine LeO.bind ?_ (fun _ => ?_)
set_option maxHeartbeats 8000000 in
set_option maxRecDepth 100000 in
theorem estoverstop_TopLruLists.calls (k : Nat) (A0 : Option Addr) (c0 : Nat) (l0 : List Int) (a1 : Int) (r : Bool) (w : World) (hr0 : Kd.C (Kd.int .u8) w A0 l0.length l0) (hc0 : l0.length ≤ c0) (h : estoverstop_TopLruLists.f k l0 a1 = some r) :
    Calls Try.prog 13 #[.slice A0 l0.length c0, .int .u8 a1] w fun e w' => e = .returned (.bool r) ∧ Below w.heap.size w w' := by
  have HR0 := Aside0.mk hr0
  have HC0 := Aside0.mk hc0
  clear hr0 hc0
  have HB := Aside0.mk (Below.refl w.heap.size w)
  have H : ((estoverstop_awake19.f k).bind fun t496 => (if t496 = true then (estoverstop_TopLruLists.j0 k l0 a1 (decide ((l0.length : Int) > 200))) else (estoverstop_TopLruLists.j0 k l0 a1 true))) = some r := h
  clear h
  have HC3 := Aside0.mk H
  clear H
  go_enter Try.func13, Try.ntmps13
  go_upto_region 1 with (fail)
  repeat (go_quiet (fail); go_upto_region 1 with (fail))
  go_cut [21] (fun v21 wc => ∃ (kq : Nat) (x21_2 : Bool), v21 = .bool x21_2 ∧ Aside0 (estoverstop_TopLruLists.j0 kq l0 a1 x21_2 = some r) ∧ Aside0 (kq ≤ k) ∧ Aside0 (Below w.heap.size w wc))
  case first =>
    have H := HC3.out
    clear HC3
    replace H := Option.bind_eq_some_iff.mp H
    obtain ⟨t496, A40, H⟩ := H
    replace H : (if t496 = true then (estoverstop_TopLruLists.j0 k l0 a1 (decide ((l0.length : Int) > 200))) else (estoverstop_TopLruLists.j0 k l0 a1 true)) = some r := H
    have A4 := Aside0.mk A40
    clear A40
    by_cases c5 : t496 = true
    · subst c5
      have H1 : (estoverstop_TopLruLists.j0 k l0 a1 (decide ((l0.length : Int) > 200))) = some r := by rw [if_pos rfl] at H; exact H
      clear H
      have H := H1
      clear H1
      have H' := Aside0.mk H
      clear H
      go_wp2_with (first | (go_at_call 31; (with_reducible refine (estoverstop_awake19.calls k  true _ A4.out).mono ?_); rintro e w6 ⟨rfl, hb⟩; have n0_ := Aside0.mk (below_step (by repeat (first | (with_reducible first | exact HB.out | apply below_alloc | apply pw_below_drewN | apply below_drew1) | exact HB.out)) hb); clear HB; have HB := n0_; clear n0_; (try clear hb); (try clear hb2); (try clear hk); (try clear hi)))
      repeat (go_quiet (first | (go_at_call 31; (with_reducible refine (estoverstop_awake19.calls k  true _ A4.out).mono ?_); rintro e w6 ⟨rfl, hb⟩; have n0_ := Aside0.mk (below_step (by repeat (first | (with_reducible first | exact HB.out | apply below_alloc | apply pw_below_drewN | apply below_drew1) | exact HB.out)) hb); clear HB; have HB := n0_; clear n0_; (try clear hb); (try clear hb2); (try clear hk); (try clear hi))); try go_wp2_with (first | (go_at_call 31; (with_reducible refine (estoverstop_awake19.calls k  true _ A4.out).mono ?_); rintro e w6 ⟨rfl, hb⟩; have n0_ := Aside0.mk (below_step (by repeat (first | (with_reducible first | exact HB.out | apply below_alloc | apply pw_below_drewN | apply below_drew1) | exact HB.out)) hb); clear HB; have HB := n0_; clear n0_; (try clear hb); (try clear hb2); (try clear hk); (try clear hi))))
      go_meet
      case rel => exact ⟨_, (decide ((l0.length : Int) > 200)), (by first | rfl | (simp; done) | (simp [*]; done)), H', ⟨by first | omega | exact Nat.le_refl _⟩, ⟨by repeat (first | (with_reducible first | exact HB.out | apply below_alloc | apply pw_below_drewN | apply below_drew1) | exact HB.out)⟩⟩
    · replace c5 := Bool.eq_false_iff.mpr c5
      subst c5
      have H1 : (estoverstop_TopLruLists.j0 k l0 a1 true) = some r := by rw [if_neg (show ¬ (false = true) by decide)] at H; exact H
      clear H
      have H := H1
      clear H1
      have H' := Aside0.mk H
      clear H
      go_wp2_with (first | (go_at_call 31; (with_reducible refine (estoverstop_awake19.calls k  false _ A4.out).mono ?_); rintro e w7 ⟨rfl, hb⟩; have n0_ := Aside0.mk (below_step (by repeat (first | (with_reducible first | exact HB.out | apply below_alloc | apply pw_below_drewN | apply below_drew1) | exact HB.out)) hb); clear HB; have HB := n0_; clear n0_; (try clear hb); (try clear hb2); (try clear hk); (try clear hi)))
      repeat (go_quiet (first | (go_at_call 31; (with_reducible refine (estoverstop_awake19.calls k  false _ A4.out).mono ?_); rintro e w7 ⟨rfl, hb⟩; have n0_ := Aside0.mk (below_step (by repeat (first | (with_reducible first | exact HB.out | apply below_alloc | apply pw_below_drewN | apply below_drew1) | exact HB.out)) hb); clear HB; have HB := n0_; clear n0_; (try clear hb); (try clear hb2); (try clear hk); (try clear hi))); try go_wp2_with (first | (go_at_call 31; (with_reducible refine (estoverstop_awake19.calls k  false _ A4.out).mono ?_); rintro e w7 ⟨rfl, hb⟩; have n0_ := Aside0.mk (below_step (by repeat (first | (with_reducible first | exact HB.out | apply below_alloc | apply pw_below_drewN | apply below_drew1) | exact HB.out)) hb); clear HB; have HB := n0_; clear n0_; (try clear hb); (try clear hb2); (try clear hk); (try clear hi))))
      go_meet
      case rel => exact ⟨_, (true), (by first | rfl | (simp; done) | (simp [*]; done)), H', ⟨by first | omega | exact Nat.le_refl _⟩, ⟨by repeat (first | (with_reducible first | exact HB.out | apply below_alloc | apply pw_below_drewN | apply below_drew1) | exact HB.out)⟩⟩
  case rest =>
    clear HC3
    try clear c1
    try clear p2
    try clear c5
    obtain ⟨kq, x21_2, rfl, HA, HJ2, HB⟩ := hcut
    cases kq with
    | zero => exact absurd HA.out (by simp [estoverstop_TopLruLists.j0])
    | succ kj2 =>
      have H := HA.out
      clear HA
      simp only [estoverstop_TopLruLists.j0] at H
      by_cases c8 : x21_2 = true
      · subst c8
        have H1 : ((estoverstop_awake19.f kj2).bind fun t497 => (some t497)) = some r := by rw [if_pos rfl] at H; exact H
        clear H
        have H := H1
        clear H1
        replace H := Option.bind_eq_some_iff.mp H
        obtain ⟨t497, A90, H⟩ := H
        replace H : (some t497) = some r := H
        have A9 := Aside0.mk A90
        clear A90
        obtain rfl := Option.some.inj H
        go_wp2_with (first | (go_at_call 31; (with_reducible refine (estoverstop_awake19.calls kj2  t497 _ A9.out).mono ?_); rintro e w10 ⟨rfl, hb⟩; have n0_ := Aside0.mk (below_step (by repeat (first | (with_reducible first | exact HB.out | apply below_alloc | apply pw_below_drewN | apply below_drew1) | exact HB.out)) hb); clear HB; have HB := n0_; clear n0_; (try clear hb); (try clear hb2); (try clear hk); (try clear hi)))
        repeat (go_quiet (first | (go_at_call 31; (with_reducible refine (estoverstop_awake19.calls kj2  t497 _ A9.out).mono ?_); rintro e w10 ⟨rfl, hb⟩; have n0_ := Aside0.mk (below_step (by repeat (first | (with_reducible first | exact HB.out | apply below_alloc | apply pw_below_drewN | apply below_drew1) | exact HB.out)) hb); clear HB; have HB := n0_; clear n0_; (try clear hb); (try clear hb2); (try clear hk); (try clear hi))); try go_wp2_with (first | (go_at_call 31; (with_reducible refine (estoverstop_awake19.calls kj2  t497 _ A9.out).mono ?_); rintro e w10 ⟨rfl, hb⟩; have n0_ := Aside0.mk (below_step (by repeat (first | (with_reducible first | exact HB.out | apply below_alloc | apply pw_below_drewN | apply below_drew1) | exact HB.out)) hb); clear HB; have HB := n0_; clear n0_; (try clear hb); (try clear hb2); (try clear hk); (try clear hi))))
        go_ret
        exact ⟨by first | rfl | (simp [errW_none, errW_some] <;> rfl) | (simp [*, errW_none, errW_some] <;> rfl), by repeat (first | (with_reducible first | exact HB.out | apply below_alloc | apply pw_below_drewN | apply below_drew1) | exact HB.out)⟩
      · replace c8 := Bool.eq_false_iff.mpr c8
        subst c8
        have H1 : ((estoverstop_pageRefs.f kj2 l0).bind fun t498 => ((workingset_Lists.f t498 (wrap64 (1 + (wrap64 (Int.tmod a1 16)))) 0).bind fun bt501 => ((stackdist_Lru.f kj2 t498 (wrap64 (1 + (wrap64 (Int.tmod a1 16))))).bind fun bt505 => ((stackdist_Distances.f kj2 t498).bind fun bt510 => (if bt501.2 = 0 then (if bt505.2.2 = 0 then (if bt510.2 = 0 then (if (bt501.1.length : Int) = (t498.length : Int) then (if (bt510.1.length : Int) = (t498.length : Int) then ((estoverstop_missed.f kj2 bt501.1).bind fun t514 => (estoverstop_TopLruLists.j1 kj2 (wrap64 (1 + (wrap64 (Int.tmod a1 16)))) bt501.1 bt510.1 (t514 != bt505.1))) else (estoverstop_TopLruLists.j1 kj2 (wrap64 (1 + (wrap64 (Int.tmod a1 16)))) bt501.1 bt510.1 true)) else (estoverstop_TopLruLists.j1 kj2 (wrap64 (1 + (wrap64 (Int.tmod a1 16)))) bt501.1 bt510.1 true)) else (estoverstop_TopLruLists.j1 kj2 (wrap64 (1 + (wrap64 (Int.tmod a1 16)))) bt501.1 bt510.1 true)) else (estoverstop_TopLruLists.j1 kj2 (wrap64 (1 + (wrap64 (Int.tmod a1 16)))) bt501.1 bt510.1 true)) else (estoverstop_TopLruLists.j1 kj2 (wrap64 (1 + (wrap64 (Int.tmod a1 16)))) bt501.1 bt510.1 true)))))) = some r := by rw [if_neg (show ¬ (false = true) by decide)] at H; exact H
        clear H
        have H := H1
        clear H1
        replace H := Option.bind_eq_some_iff.mp H
        obtain ⟨t498, A110, H⟩ := H
        replace H : ((workingset_Lists.f t498 (wrap64 (1 + (wrap64 (Int.tmod a1 16)))) 0).bind fun bt501 => ((stackdist_Lru.f kj2 t498 (wrap64 (1 + (wrap64 (Int.tmod a1 16))))).bind fun bt505 => ((stackdist_Distances.f kj2 t498).bind fun bt510 => (if bt501.2 = 0 then (if bt505.2.2 = 0 then (if bt510.2 = 0 then (if (bt501.1.length : Int) = (t498.length : Int) then (if (bt510.1.length : Int) = (t498.length : Int) then ((estoverstop_missed.f kj2 bt501.1).bind fun t514 => (estoverstop_TopLruLists.j1 kj2 (wrap64 (1 + (wrap64 (Int.tmod a1 16)))) bt501.1 bt510.1 (t514 != bt505.1))) else (estoverstop_TopLruLists.j1 kj2 (wrap64 (1 + (wrap64 (Int.tmod a1 16)))) bt501.1 bt510.1 true)) else (estoverstop_TopLruLists.j1 kj2 (wrap64 (1 + (wrap64 (Int.tmod a1 16)))) bt501.1 bt510.1 true)) else (estoverstop_TopLruLists.j1 kj2 (wrap64 (1 + (wrap64 (Int.tmod a1 16)))) bt501.1 bt510.1 true)) else (estoverstop_TopLruLists.j1 kj2 (wrap64 (1 + (wrap64 (Int.tmod a1 16)))) bt501.1 bt510.1 true)) else (estoverstop_TopLruLists.j1 kj2 (wrap64 (1 + (wrap64 (Int.tmod a1 16)))) bt501.1 bt510.1 true))))) = some r := H
        have A11 := Aside0.mk A110
        clear A110
        replace H := Option.bind_eq_some_iff.mp H
        obtain ⟨⟨t501, t502⟩, A120, H⟩ := H
        replace H : ((stackdist_Lru.f kj2 t498 (wrap64 (1 + (wrap64 (Int.tmod a1 16))))).bind fun bt505 => ((stackdist_Distances.f kj2 t498).bind fun bt510 => (if t502 = 0 then (if bt505.2.2 = 0 then (if bt510.2 = 0 then (if (t501.length : Int) = (t498.length : Int) then (if (bt510.1.length : Int) = (t498.length : Int) then ((estoverstop_missed.f kj2 t501).bind fun t514 => (estoverstop_TopLruLists.j1 kj2 (wrap64 (1 + (wrap64 (Int.tmod a1 16)))) t501 bt510.1 (t514 != bt505.1))) else (estoverstop_TopLruLists.j1 kj2 (wrap64 (1 + (wrap64 (Int.tmod a1 16)))) t501 bt510.1 true)) else (estoverstop_TopLruLists.j1 kj2 (wrap64 (1 + (wrap64 (Int.tmod a1 16)))) t501 bt510.1 true)) else (estoverstop_TopLruLists.j1 kj2 (wrap64 (1 + (wrap64 (Int.tmod a1 16)))) t501 bt510.1 true)) else (estoverstop_TopLruLists.j1 kj2 (wrap64 (1 + (wrap64 (Int.tmod a1 16)))) t501 bt510.1 true)) else (estoverstop_TopLruLists.j1 kj2 (wrap64 (1 + (wrap64 (Int.tmod a1 16)))) t501 bt510.1 true)))) = some r := H
        have A12 := Aside0.mk A120
        clear A120
        replace H := Option.bind_eq_some_iff.mp H
        obtain ⟨⟨t505, t506, t507⟩, A130, H⟩ := H
        replace H : ((stackdist_Distances.f kj2 t498).bind fun bt510 => (if t502 = 0 then (if t507 = 0 then (if bt510.2 = 0 then (if (t501.length : Int) = (t498.length : Int) then (if (bt510.1.length : Int) = (t498.length : Int) then ((estoverstop_missed.f kj2 t501).bind fun t514 => (estoverstop_TopLruLists.j1 kj2 (wrap64 (1 + (wrap64 (Int.tmod a1 16)))) t501 bt510.1 (t514 != t505))) else (estoverstop_TopLruLists.j1 kj2 (wrap64 (1 + (wrap64 (Int.tmod a1 16)))) t501 bt510.1 true)) else (estoverstop_TopLruLists.j1 kj2 (wrap64 (1 + (wrap64 (Int.tmod a1 16)))) t501 bt510.1 true)) else (estoverstop_TopLruLists.j1 kj2 (wrap64 (1 + (wrap64 (Int.tmod a1 16)))) t501 bt510.1 true)) else (estoverstop_TopLruLists.j1 kj2 (wrap64 (1 + (wrap64 (Int.tmod a1 16)))) t501 bt510.1 true)) else (estoverstop_TopLruLists.j1 kj2 (wrap64 (1 + (wrap64 (Int.tmod a1 16)))) t501 bt510.1 true))) = some r := H
        have A13 := Aside0.mk A130
        clear A130
        replace H := Option.bind_eq_some_iff.mp H
        obtain ⟨⟨t510, t511⟩, A140, H⟩ := H
        replace H : (if t502 = 0 then (if t507 = 0 then (if t511 = 0 then (if (t501.length : Int) = (t498.length : Int) then (if (t510.length : Int) = (t498.length : Int) then ((estoverstop_missed.f kj2 t501).bind fun t514 => (estoverstop_TopLruLists.j1 kj2 (wrap64 (1 + (wrap64 (Int.tmod a1 16)))) t501 t510 (t514 != t505))) else (estoverstop_TopLruLists.j1 kj2 (wrap64 (1 + (wrap64 (Int.tmod a1 16)))) t501 t510 true)) else (estoverstop_TopLruLists.j1 kj2 (wrap64 (1 + (wrap64 (Int.tmod a1 16)))) t501 t510 true)) else (estoverstop_TopLruLists.j1 kj2 (wrap64 (1 + (wrap64 (Int.tmod a1 16)))) t501 t510 true)) else (estoverstop_TopLruLists.j1 kj2 (wrap64 (1 + (wrap64 (Int.tmod a1 16)))) t501 t510 true)) else (estoverstop_TopLruLists.j1 kj2 (wrap64 (1 + (wrap64 (Int.tmod a1 16)))) t501 t510 true)) = some r := H
        have A14 := Aside0.mk A140
        clear A140
        have HC15 := Aside0.mk H
        clear H
        go_upto_region 7 with (first | (go_at_call 32; (with_reducible refine (estoverstop_pageRefs.calls kj2 _ _ l0 t498 _ ?side1 ?side2 A11.out).mono ?_); (case side1 => repeat (first | exact (Kd.C_below HR0.out HB.out) | (with_reducible refine Kd.C_alloc ?_ _) | (with_reducible refine Kd.C_drewN ?_ _) | (with_reducible refine Kd.C_drew ?_))); (case side2 => exact HC0.out); rintro e w16 ⟨v499, rfl, ho0, hb⟩; have n0_ := Aside0.mk (Kd.R_lower ho0 (below_size (by repeat (first | (with_reducible first | exact HB.out | apply below_alloc | apply pw_below_drewN | apply below_drew1) | exact HB.out)))); have n1_ := Aside0.mk (below_step (by repeat (first | (with_reducible first | exact HB.out | apply below_alloc | apply pw_below_drewN | apply below_drew1) | exact HB.out)) hb); clear HB; have HO500 := n0_; have HB := n1_; clear n0_ n1_; (try clear hb); (try clear hb2); (try clear hk); (try clear hi); (try clear ho0); obtain ⟨Ao17, co17, eo17⟩ := Kd.R_slice HO500.out; subst eo17) | (go_at_call 35; (with_reducible refine (workingset_Lists.calls _ _ t498 (wrap64 (1 + (wrap64 (Int.tmod a1 16)))) 0 t501 t502 _ ?side1 ?side2 A12.out).mono ?_); (case side1 => repeat (first | exact (Kd.R_reads' HO500.out).2.2 | (with_reducible refine Kd.C_alloc ?_ _) | (with_reducible refine Kd.C_drewN ?_ _) | (with_reducible refine Kd.C_drew ?_))); (case side2 => exact (Kd.R_reads' HO500.out).2.1); rintro e w18 ⟨v503, rfl, ho0, hb⟩; have n0_ := Aside0.mk (Kd.R_elder' (by (with_reducible repeat (first | apply Kd.R_alloc | apply Kd.R_drewN | apply Kd.R_drew)); exact HO500.out) (Kd.R_base ho0) hb); have n1_ := Aside0.mk (Kd.R_lower (Kd.R_new' ho0 (Kd.R_lt (by (with_reducible repeat (first | apply Kd.R_alloc | apply Kd.R_drewN | apply Kd.R_drew)); exact HO500.out))) (below_size (by repeat (first | (with_reducible first | exact HB.out | apply below_alloc | apply pw_below_drewN | apply below_drew1) | exact HB.out)))); have n2_ := Aside0.mk (below_step (by repeat (first | (with_reducible first | exact HB.out | apply below_alloc | apply pw_below_drewN | apply below_drew1) | exact HB.out)) hb); clear HO500; clear HB; have HO500 := n0_; have HO504 := n1_; have HB := n2_; clear n0_ n1_ n2_; (try clear hb); (try clear hb2); (try clear hk); (try clear hi); (try clear ho0)) | (go_at_call 20; (with_reducible refine (stackdist_Lru.calls kj2 _ _ t498 (wrap64 (1 + (wrap64 (Int.tmod a1 16)))) t505 t506 t507 _ ?side1 ?side2 A13.out).mono ?_); (case side1 => repeat (first | exact (Kd.R_reads' HO500.out).2.2 | (with_reducible refine Kd.C_alloc ?_ _) | (with_reducible refine Kd.C_drewN ?_ _) | (with_reducible refine Kd.C_drew ?_))); (case side2 => exact (Kd.R_reads' HO500.out).2.1); rintro e w19 ⟨v508, rfl, ho0, hb⟩; have n0_ := Aside0.mk (Kd.R_elder' (by (with_reducible repeat (first | apply Kd.R_alloc | apply Kd.R_drewN | apply Kd.R_drew)); exact HO500.out) (Kd.R_base ho0) hb); have n1_ := Aside0.mk (Kd.R_elder' (by (with_reducible repeat (first | apply Kd.R_alloc | apply Kd.R_drewN | apply Kd.R_drew)); exact HO504.out) (Kd.R_base ho0) hb); have n2_ := Aside0.mk (Kd.R_lower (Kd.R_new' (Kd.R_new' ho0 (Kd.R_lt (by (with_reducible repeat (first | apply Kd.R_alloc | apply Kd.R_drewN | apply Kd.R_drew)); exact HO500.out))) (Kd.R_lt (by (with_reducible repeat (first | apply Kd.R_alloc | apply Kd.R_drewN | apply Kd.R_drew)); exact HO504.out))) (below_size (by repeat (first | (with_reducible first | exact HB.out | apply below_alloc | apply pw_below_drewN | apply below_drew1) | exact HB.out)))); have n3_ := Aside0.mk (below_step (by repeat (first | (with_reducible first | exact HB.out | apply below_alloc | apply pw_below_drewN | apply below_drew1) | exact HB.out)) hb); clear HO500; clear HO504; clear HB; have HO500 := n0_; have HO504 := n1_; have HO509 := n2_; have HB := n3_; clear n0_ n1_ n2_ n3_; (try clear hb); (try clear hb2); (try clear hk); (try clear hi); (try clear ho0)) | (go_at_call 17; (with_reducible refine (stackdist_Distances.calls kj2 _ _ t498 t510 t511 _ ?side1 ?side2 A14.out).mono ?_); (case side1 => repeat (first | exact (Kd.R_reads' HO500.out).2.2 | (with_reducible refine Kd.C_alloc ?_ _) | (with_reducible refine Kd.C_drewN ?_ _) | (with_reducible refine Kd.C_drew ?_))); (case side2 => exact (Kd.R_reads' HO500.out).2.1); rintro e w20 ⟨v512, rfl, ho0, hb⟩; have n0_ := Aside0.mk (Kd.R_elder' (by (with_reducible repeat (first | apply Kd.R_alloc | apply Kd.R_drewN | apply Kd.R_drew)); exact HO500.out) (Kd.R_base ho0) hb); have n1_ := Aside0.mk (Kd.R_elder' (by (with_reducible repeat (first | apply Kd.R_alloc | apply Kd.R_drewN | apply Kd.R_drew)); exact HO504.out) (Kd.R_base ho0) hb); have n2_ := Aside0.mk (Kd.R_elder' (by (with_reducible repeat (first | apply Kd.R_alloc | apply Kd.R_drewN | apply Kd.R_drew)); exact HO509.out) (Kd.R_base ho0) hb); have n3_ := Aside0.mk (Kd.R_lower (Kd.R_new' (Kd.R_new' (Kd.R_new' ho0 (Kd.R_lt (by (with_reducible repeat (first | apply Kd.R_alloc | apply Kd.R_drewN | apply Kd.R_drew)); exact HO500.out))) (Kd.R_lt (by (with_reducible repeat (first | apply Kd.R_alloc | apply Kd.R_drewN | apply Kd.R_drew)); exact HO504.out))) (Kd.R_lt (by (with_reducible repeat (first | apply Kd.R_alloc | apply Kd.R_drewN | apply Kd.R_drew)); exact HO509.out))) (below_size (by repeat (first | (with_reducible first | exact HB.out | apply below_alloc | apply pw_below_drewN | apply below_drew1) | exact HB.out)))); have n4_ := Aside0.mk (below_step (by repeat (first | (with_reducible first | exact HB.out | apply below_alloc | apply pw_below_drewN | apply below_drew1) | exact HB.out)) hb); clear HO500; clear HO504; clear HO509; clear HB; have HO500 := n0_; have HO504 := n1_; have HO509 := n2_; have HO513 := n3_; have HB := n4_; clear n0_ n1_ n2_ n3_ n4_; (try clear hb); (try clear hb2); (try clear hk); (try clear hi); (try clear ho0)))
        repeat (go_quiet (first | (go_at_call 32; (with_reducible refine (estoverstop_pageRefs.calls kj2 _ _ l0 t498 _ ?side1 ?side2 A11.out).mono ?_); (case side1 => repeat (first | exact (Kd.C_below HR0.out HB.out) | (with_reducible refine Kd.C_alloc ?_ _) | (with_reducible refine Kd.C_drewN ?_ _) | (with_reducible refine Kd.C_drew ?_))); (case side2 => exact HC0.out); rintro e w16 ⟨v499, rfl, ho0, hb⟩; have n0_ := Aside0.mk (Kd.R_lower ho0 (below_size (by repeat (first | (with_reducible first | exact HB.out | apply below_alloc | apply pw_below_drewN | apply below_drew1) | exact HB.out)))); have n1_ := Aside0.mk (below_step (by repeat (first | (with_reducible first | exact HB.out | apply below_alloc | apply pw_below_drewN | apply below_drew1) | exact HB.out)) hb); clear HB; have HO500 := n0_; have HB := n1_; clear n0_ n1_; (try clear hb); (try clear hb2); (try clear hk); (try clear hi); (try clear ho0); obtain ⟨Ao17, co17, eo17⟩ := Kd.R_slice HO500.out; subst eo17) | (go_at_call 35; (with_reducible refine (workingset_Lists.calls _ _ t498 (wrap64 (1 + (wrap64 (Int.tmod a1 16)))) 0 t501 t502 _ ?side1 ?side2 A12.out).mono ?_); (case side1 => repeat (first | exact (Kd.R_reads' HO500.out).2.2 | (with_reducible refine Kd.C_alloc ?_ _) | (with_reducible refine Kd.C_drewN ?_ _) | (with_reducible refine Kd.C_drew ?_))); (case side2 => exact (Kd.R_reads' HO500.out).2.1); rintro e w18 ⟨v503, rfl, ho0, hb⟩; have n0_ := Aside0.mk (Kd.R_elder' (by (with_reducible repeat (first | apply Kd.R_alloc | apply Kd.R_drewN | apply Kd.R_drew)); exact HO500.out) (Kd.R_base ho0) hb); have n1_ := Aside0.mk (Kd.R_lower (Kd.R_new' ho0 (Kd.R_lt (by (with_reducible repeat (first | apply Kd.R_alloc | apply Kd.R_drewN | apply Kd.R_drew)); exact HO500.out))) (below_size (by repeat (first | (with_reducible first | exact HB.out | apply below_alloc | apply pw_below_drewN | apply below_drew1) | exact HB.out)))); have n2_ := Aside0.mk (below_step (by repeat (first | (with_reducible first | exact HB.out | apply below_alloc | apply pw_below_drewN | apply below_drew1) | exact HB.out)) hb); clear HO500; clear HB; have HO500 := n0_; have HO504 := n1_; have HB := n2_; clear n0_ n1_ n2_; (try clear hb); (try clear hb2); (try clear hk); (try clear hi); (try clear ho0)) | (go_at_call 20; (with_reducible refine (stackdist_Lru.calls kj2 _ _ t498 (wrap64 (1 + (wrap64 (Int.tmod a1 16)))) t505 t506 t507 _ ?side1 ?side2 A13.out).mono ?_); (case side1 => repeat (first | exact (Kd.R_reads' HO500.out).2.2 | (with_reducible refine Kd.C_alloc ?_ _) | (with_reducible refine Kd.C_drewN ?_ _) | (with_reducible refine Kd.C_drew ?_))); (case side2 => exact (Kd.R_reads' HO500.out).2.1); rintro e w19 ⟨v508, rfl, ho0, hb⟩; have n0_ := Aside0.mk (Kd.R_elder' (by (with_reducible repeat (first | apply Kd.R_alloc | apply Kd.R_drewN | apply Kd.R_drew)); exact HO500.out) (Kd.R_base ho0) hb); have n1_ := Aside0.mk (Kd.R_elder' (by (with_reducible repeat (first | apply Kd.R_alloc | apply Kd.R_drewN | apply Kd.R_drew)); exact HO504.out) (Kd.R_base ho0) hb); have n2_ := Aside0.mk (Kd.R_lower (Kd.R_new' (Kd.R_new' ho0 (Kd.R_lt (by (with_reducible repeat (first | apply Kd.R_alloc | apply Kd.R_drewN | apply Kd.R_drew)); exact HO500.out))) (Kd.R_lt (by (with_reducible repeat (first | apply Kd.R_alloc | apply Kd.R_drewN | apply Kd.R_drew)); exact HO504.out))) (below_size (by repeat (first | (with_reducible first | exact HB.out | apply below_alloc | apply pw_below_drewN | apply below_drew1) | exact HB.out)))); have n3_ := Aside0.mk (below_step (by repeat (first | (with_reducible first | exact HB.out | apply below_alloc | apply pw_below_drewN | apply below_drew1) | exact HB.out)) hb); clear HO500; clear HO504; clear HB; have HO500 := n0_; have HO504 := n1_; have HO509 := n2_; have HB := n3_; clear n0_ n1_ n2_ n3_; (try clear hb); (try clear hb2); (try clear hk); (try clear hi); (try clear ho0)) | (go_at_call 17; (with_reducible refine (stackdist_Distances.calls kj2 _ _ t498 t510 t511 _ ?side1 ?side2 A14.out).mono ?_); (case side1 => repeat (first | exact (Kd.R_reads' HO500.out).2.2 | (with_reducible refine Kd.C_alloc ?_ _) | (with_reducible refine Kd.C_drewN ?_ _) | (with_reducible refine Kd.C_drew ?_))); (case side2 => exact (Kd.R_reads' HO500.out).2.1); rintro e w20 ⟨v512, rfl, ho0, hb⟩; have n0_ := Aside0.mk (Kd.R_elder' (by (with_reducible repeat (first | apply Kd.R_alloc | apply Kd.R_drewN | apply Kd.R_drew)); exact HO500.out) (Kd.R_base ho0) hb); have n1_ := Aside0.mk (Kd.R_elder' (by (with_reducible repeat (first | apply Kd.R_alloc | apply Kd.R_drewN | apply Kd.R_drew)); exact HO504.out) (Kd.R_base ho0) hb); have n2_ := Aside0.mk (Kd.R_elder' (by (with_reducible repeat (first | apply Kd.R_alloc | apply Kd.R_drewN | apply Kd.R_drew)); exact HO509.out) (Kd.R_base ho0) hb); have n3_ := Aside0.mk (Kd.R_lower (Kd.R_new' (Kd.R_new' (Kd.R_new' ho0 (Kd.R_lt (by (with_reducible repeat (first | apply Kd.R_alloc | apply Kd.R_drewN | apply Kd.R_drew)); exact HO500.out))) (Kd.R_lt (by (with_reducible repeat (first | apply Kd.R_alloc | apply Kd.R_drewN | apply Kd.R_drew)); exact HO504.out))) (Kd.R_lt (by (with_reducible repeat (first | apply Kd.R_alloc | apply Kd.R_drewN | apply Kd.R_drew)); exact HO509.out))) (below_size (by repeat (first | (with_reducible first | exact HB.out | apply below_alloc | apply pw_below_drewN | apply below_drew1) | exact HB.out)))); have n4_ := Aside0.mk (below_step (by repeat (first | (with_reducible first | exact HB.out | apply below_alloc | apply pw_below_drewN | apply below_drew1) | exact HB.out)) hb); clear HO500; clear HO504; clear HO509; clear HB; have HO500 := n0_; have HO504 := n1_; have HO509 := n2_; have HO513 := n3_; have HB := n4_; clear n0_ n1_ n2_ n3_ n4_; (try clear hb); (try clear hb2); (try clear hk); (try clear hi); (try clear ho0))); go_upto_region 7 with (first | (go_at_call 32; (with_reducible refine (estoverstop_pageRefs.calls kj2 _ _ l0 t498 _ ?side1 ?side2 A11.out).mono ?_); (case side1 => repeat (first | exact (Kd.C_below HR0.out HB.out) | (with_reducible refine Kd.C_alloc ?_ _) | (with_reducible refine Kd.C_drewN ?_ _) | (with_reducible refine Kd.C_drew ?_))); (case side2 => exact HC0.out); rintro e w16 ⟨v499, rfl, ho0, hb⟩; have n0_ := Aside0.mk (Kd.R_lower ho0 (below_size (by repeat (first | (with_reducible first | exact HB.out | apply below_alloc | apply pw_below_drewN | apply below_drew1) | exact HB.out)))); have n1_ := Aside0.mk (below_step (by repeat (first | (with_reducible first | exact HB.out | apply below_alloc | apply pw_below_drewN | apply below_drew1) | exact HB.out)) hb); clear HB; have HO500 := n0_; have HB := n1_; clear n0_ n1_; (try clear hb); (try clear hb2); (try clear hk); (try clear hi); (try clear ho0); obtain ⟨Ao17, co17, eo17⟩ := Kd.R_slice HO500.out; subst eo17) | (go_at_call 35; (with_reducible refine (workingset_Lists.calls _ _ t498 (wrap64 (1 + (wrap64 (Int.tmod a1 16)))) 0 t501 t502 _ ?side1 ?side2 A12.out).mono ?_); (case side1 => repeat (first | exact (Kd.R_reads' HO500.out).2.2 | (with_reducible refine Kd.C_alloc ?_ _) | (with_reducible refine Kd.C_drewN ?_ _) | (with_reducible refine Kd.C_drew ?_))); (case side2 => exact (Kd.R_reads' HO500.out).2.1); rintro e w18 ⟨v503, rfl, ho0, hb⟩; have n0_ := Aside0.mk (Kd.R_elder' (by (with_reducible repeat (first | apply Kd.R_alloc | apply Kd.R_drewN | apply Kd.R_drew)); exact HO500.out) (Kd.R_base ho0) hb); have n1_ := Aside0.mk (Kd.R_lower (Kd.R_new' ho0 (Kd.R_lt (by (with_reducible repeat (first | apply Kd.R_alloc | apply Kd.R_drewN | apply Kd.R_drew)); exact HO500.out))) (below_size (by repeat (first | (with_reducible first | exact HB.out | apply below_alloc | apply pw_below_drewN | apply below_drew1) | exact HB.out)))); have n2_ := Aside0.mk (below_step (by repeat (first | (with_reducible first | exact HB.out | apply below_alloc | apply pw_below_drewN | apply below_drew1) | exact HB.out)) hb); clear HO500; clear HB; have HO500 := n0_; have HO504 := n1_; have HB := n2_; clear n0_ n1_ n2_; (try clear hb); (try clear hb2); (try clear hk); (try clear hi); (try clear ho0)) | (go_at_call 20; (with_reducible refine (stackdist_Lru.calls kj2 _ _ t498 (wrap64 (1 + (wrap64 (Int.tmod a1 16)))) t505 t506 t507 _ ?side1 ?side2 A13.out).mono ?_); (case side1 => repeat (first | exact (Kd.R_reads' HO500.out).2.2 | (with_reducible refine Kd.C_alloc ?_ _) | (with_reducible refine Kd.C_drewN ?_ _) | (with_reducible refine Kd.C_drew ?_))); (case side2 => exact (Kd.R_reads' HO500.out).2.1); rintro e w19 ⟨v508, rfl, ho0, hb⟩; have n0_ := Aside0.mk (Kd.R_elder' (by (with_reducible repeat (first | apply Kd.R_alloc | apply Kd.R_drewN | apply Kd.R_drew)); exact HO500.out) (Kd.R_base ho0) hb); have n1_ := Aside0.mk (Kd.R_elder' (by (with_reducible repeat (first | apply Kd.R_alloc | apply Kd.R_drewN | apply Kd.R_drew)); exact HO504.out) (Kd.R_base ho0) hb); have n2_ := Aside0.mk (Kd.R_lower (Kd.R_new' (Kd.R_new' ho0 (Kd.R_lt (by (with_reducible repeat (first | apply Kd.R_alloc | apply Kd.R_drewN | apply Kd.R_drew)); exact HO500.out))) (Kd.R_lt (by (with_reducible repeat (first | apply Kd.R_alloc | apply Kd.R_drewN | apply Kd.R_drew)); exact HO504.out))) (below_size (by repeat (first | (with_reducible first | exact HB.out | apply below_alloc | apply pw_below_drewN | apply below_drew1) | exact HB.out)))); have n3_ := Aside0.mk (below_step (by repeat (first | (with_reducible first | exact HB.out | apply below_alloc | apply pw_below_drewN | apply below_drew1) | exact HB.out)) hb); clear HO500; clear HO504; clear HB; have HO500 := n0_; have HO504 := n1_; have HO509 := n2_; have HB := n3_; clear n0_ n1_ n2_ n3_; (try clear hb); (try clear hb2); (try clear hk); (try clear hi); (try clear ho0)) | (go_at_call 17; (with_reducible refine (stackdist_Distances.calls kj2 _ _ t498 t510 t511 _ ?side1 ?side2 A14.out).mono ?_); (case side1 => repeat (first | exact (Kd.R_reads' HO500.out).2.2 | (with_reducible refine Kd.C_alloc ?_ _) | (with_reducible refine Kd.C_drewN ?_ _) | (with_reducible refine Kd.C_drew ?_))); (case side2 => exact (Kd.R_reads' HO500.out).2.1); rintro e w20 ⟨v512, rfl, ho0, hb⟩; have n0_ := Aside0.mk (Kd.R_elder' (by (with_reducible repeat (first | apply Kd.R_alloc | apply Kd.R_drewN | apply Kd.R_drew)); exact HO500.out) (Kd.R_base ho0) hb); have n1_ := Aside0.mk (Kd.R_elder' (by (with_reducible repeat (first | apply Kd.R_alloc | apply Kd.R_drewN | apply Kd.R_drew)); exact HO504.out) (Kd.R_base ho0) hb); have n2_ := Aside0.mk (Kd.R_elder' (by (with_reducible repeat (first | apply Kd.R_alloc | apply Kd.R_drewN | apply Kd.R_drew)); exact HO509.out) (Kd.R_base ho0) hb); have n3_ := Aside0.mk (Kd.R_lower (Kd.R_new' (Kd.R_new' (Kd.R_new' ho0 (Kd.R_lt (by (with_reducible repeat (first | apply Kd.R_alloc | apply Kd.R_drewN | apply Kd.R_drew)); exact HO500.out))) (Kd.R_lt (by (with_reducible repeat (first | apply Kd.R_alloc | apply Kd.R_drewN | apply Kd.R_drew)); exact HO504.out))) (Kd.R_lt (by (with_reducible repeat (first | apply Kd.R_alloc | apply Kd.R_drewN | apply Kd.R_drew)); exact HO509.out))) (below_size (by repeat (first | (with_reducible first | exact HB.out | apply below_alloc | apply pw_below_drewN | apply below_drew1) | exact HB.out)))); have n4_ := Aside0.mk (below_step (by repeat (first | (with_reducible first | exact HB.out | apply below_alloc | apply pw_below_drewN | apply below_drew1) | exact HB.out)) hb); clear HO500; clear HO504; clear HO509; clear HB; have HO500 := n0_; have HO504 := n1_; have HO509 := n2_; have HO513 := n3_; have HB := n4_; clear n0_ n1_ n2_ n3_ n4_; (try clear hb); (try clear hb2); (try clear hk); (try clear hi); (try clear ho0))))
        (try simp only [Act.put, List.setIfInBounds_toArray, List.set_cons_zero, List.set_cons_succ])
        go_cut [76] (fun v76 wc => ∃ (kq : Nat) (x76_14 : Bool), v76 = .bool x76_14 ∧ Aside0 (estoverstop_TopLruLists.j1 kq (wrap64 (1 + (wrap64 (Int.tmod a1 16)))) t501 t510 x76_14 = some r) ∧ Aside0 (kq ≤ kj2) ∧ Aside0 (Kd.R (Kd.int .i64) 3 wc w.heap.size (fun k_ => some k_ ≠ (v512 : Value).ownBlock) v503 t501) ∧ Aside0 (Kd.R (Kd.int .i64) 3 wc w.heap.size (fun k_ => some k_ ≠ (v503 : Value).ownBlock) v512 t510) ∧ Aside0 (Below w.heap.size w wc))
        case first =>
          have H := HC15.out
          clear HC15
          by_cases c21 : t502 = 0
          · rw [if_pos c21] at H
            have c21b0 : (t502 == 0) = true := beq_iff_eq.mpr c21
            have c21b1 : (t502 != 0) = false := bne_eq_false_iff_eq.mpr c21
            clear c21
            (first | rw [c21b0] | (simp only [i64_w, i32_w]; rw [c21b0]) | skip)
            by_cases c22 : t507 = 0
            · rw [if_pos c22] at H
              have c22b0 : (t507 == 0) = true := beq_iff_eq.mpr c22
              have c22b1 : (t507 != 0) = false := bne_eq_false_iff_eq.mpr c22
              clear c22
              by_cases c23 : t511 = 0
              · rw [if_pos c23] at H
                have c23b0 : (t511 == 0) = true := beq_iff_eq.mpr c23
                have c23b1 : (t511 != 0) = false := bne_eq_false_iff_eq.mpr c23
                clear c23
                by_cases c24 : (t501.length : Int) = (t498.length : Int)
                · rw [if_pos c24] at H
                  have c24b0 : ((t501.length : Int) == (t498.length : Int)) = true := beq_iff_eq.mpr c24
                  have c24b1 : ((t501.length : Int) != (t498.length : Int)) = false := bne_eq_false_iff_eq.mpr c24
                  have c24b2 : (t501.length == t498.length) = true := by first | simpa using c24 | (simp at c24 ⊢; omega)
                  clear c24
                  by_cases c25 : (t510.length : Int) = (t498.length : Int)
                  · rw [if_pos c25] at H
                    have c25b0 : ((t510.length : Int) == (t498.length : Int)) = true := beq_iff_eq.mpr c25
                    have c25b1 : ((t510.length : Int) != (t498.length : Int)) = false := bne_eq_false_iff_eq.mpr c25
                    have c25b2 : (t510.length == t498.length) = true := by first | simpa using c25 | (simp at c25 ⊢; omega)
                    clear c25
                    replace H := Option.bind_eq_some_iff.mp H
                    obtain ⟨t514, A260, H⟩ := H
                    replace H : (estoverstop_TopLruLists.j1 kj2 (wrap64 (1 + (wrap64 (Int.tmod a1 16)))) t501 t510 (t514 != t505)) = some r := H
                    have A26 := Aside0.mk A260
                    clear A260
                    have H' := Aside0.mk H
                    clear H
                    obtain ⟨Ao27, co27, eo27⟩ := Kd.R_slice HO504.out
                    subst eo27
                    obtain ⟨Ao28, co28, eo28⟩ := Kd.R_slice HO513.out
                    subst eo28
                    go_wp2_with (first | (go_at_call 34; (with_reducible refine (estoverstop_missed.calls kj2 _ _ t501 t514 _ ?side1 ?side2 A26.out).mono ?_); (case side1 => repeat (first | exact (Kd.R_reads' HO504.out).2.2 | (with_reducible refine Kd.C_alloc ?_ _) | (with_reducible refine Kd.C_drewN ?_ _) | (with_reducible refine Kd.C_drew ?_))); (case side2 => exact (Kd.R_reads' HO504.out).2.1); rintro e w' ⟨rfl, ⟨nd, rfl⟩⟩; (try first | exact ⟨rfl, _, World.drewN_drewN _ _ _⟩ | exact ⟨rfl, _, Eq.trans (World.drewN_drewN _ _ _) (congrArg (World.drewN _) (Nat.add_assoc _ _ _))⟩)))
                    repeat (go_quiet (first | (go_at_call 34; (with_reducible refine (estoverstop_missed.calls kj2 _ _ t501 t514 _ ?side1 ?side2 A26.out).mono ?_); (case side1 => repeat (first | exact (Kd.R_reads' HO504.out).2.2 | (with_reducible refine Kd.C_alloc ?_ _) | (with_reducible refine Kd.C_drewN ?_ _) | (with_reducible refine Kd.C_drew ?_))); (case side2 => exact (Kd.R_reads' HO504.out).2.1); rintro e w' ⟨rfl, ⟨nd, rfl⟩⟩; (try first | exact ⟨rfl, _, World.drewN_drewN _ _ _⟩ | exact ⟨rfl, _, Eq.trans (World.drewN_drewN _ _ _) (congrArg (World.drewN _) (Nat.add_assoc _ _ _))⟩))); try go_wp2_with (first | (go_at_call 34; (with_reducible refine (estoverstop_missed.calls kj2 _ _ t501 t514 _ ?side1 ?side2 A26.out).mono ?_); (case side1 => repeat (first | exact (Kd.R_reads' HO504.out).2.2 | (with_reducible refine Kd.C_alloc ?_ _) | (with_reducible refine Kd.C_drewN ?_ _) | (with_reducible refine Kd.C_drew ?_))); (case side2 => exact (Kd.R_reads' HO504.out).2.1); rintro e w' ⟨rfl, ⟨nd, rfl⟩⟩; (try first | exact ⟨rfl, _, World.drewN_drewN _ _ _⟩ | exact ⟨rfl, _, Eq.trans (World.drewN_drewN _ _ _) (congrArg (World.drewN _) (Nat.add_assoc _ _ _))⟩))))
                    go_meet
                    case rel => exact ⟨_, ((t514 != t505)), (by first | rfl | (simp; done) | (simp [*]; done)), H', ⟨by have := HJ2.out; first | omega | exact Nat.le_refl _⟩, ⟨by (with_reducible repeat (first | apply Kd.R_alloc | apply Kd.R_drewN | apply Kd.R_drew)); exact Kd.R_mono HO504.out (fun _ hk => hk.2)⟩, ⟨by (with_reducible repeat (first | apply Kd.R_alloc | apply Kd.R_drewN | apply Kd.R_drew)); exact Kd.R_mono HO513.out (fun _ hk => hk.1.2)⟩, ⟨by repeat (first | (with_reducible first | exact HB.out | apply below_alloc | apply pw_below_drewN | apply below_drew1) | exact HB.out)⟩⟩
                  · rw [if_neg c25] at H
                    have c25b0 : ((t510.length : Int) == (t498.length : Int)) = false := beq_eq_false_iff_ne.mpr c25
                    have c25b1 : ((t510.length : Int) != (t498.length : Int)) = true := bne_iff_ne.mpr c25
                    have c25b2 : (t510.length == t498.length) = false := by first | simpa using c25 | (simp at c25 ⊢; omega)
                    have H' := Aside0.mk H
                    clear H
                    obtain ⟨Ao29, co29, eo29⟩ := Kd.R_slice HO504.out
                    subst eo29
                    obtain ⟨Ao30, co30, eo30⟩ := Kd.R_slice HO513.out
                    subst eo30
                    go_wp2
                    repeat (go_quiet (fail); try go_wp2)
                    go_meet
                    case rel => exact ⟨_, (true), (by first | rfl | (simp; done) | (simp [*]; done)), H', ⟨by have := HJ2.out; first | omega | exact Nat.le_refl _⟩, ⟨by (with_reducible repeat (first | apply Kd.R_alloc | apply Kd.R_drewN | apply Kd.R_drew)); exact Kd.R_mono HO504.out (fun _ hk => hk.2)⟩, ⟨by (with_reducible repeat (first | apply Kd.R_alloc | apply Kd.R_drewN | apply Kd.R_drew)); exact Kd.R_mono HO513.out (fun _ hk => hk.1.2)⟩, ⟨by repeat (first | (with_reducible first | exact HB.out | apply below_alloc | apply pw_below_drewN | apply below_drew1) | exact HB.out)⟩⟩
                · rw [if_neg c24] at H
                  have c24b0 : ((t501.length : Int) == (t498.length : Int)) = false := beq_eq_false_iff_ne.mpr c24
                  have c24b1 : ((t501.length : Int) != (t498.length : Int)) = true := bne_iff_ne.mpr c24
                  have c24b2 : (t501.length == t498.length) = false := by first | simpa using c24 | (simp at c24 ⊢; omega)
                  have H' := Aside0.mk H
                  clear H
                  obtain ⟨Ao31, co31, eo31⟩ := Kd.R_slice HO504.out
                  subst eo31
                  go_wp2
                  repeat (go_quiet (fail); try go_wp2)
                  go_meet
                  case rel => exact ⟨_, (true), (by first | rfl | (simp; done) | (simp [*]; done)), H', ⟨by have := HJ2.out; first | omega | exact Nat.le_refl _⟩, ⟨by (with_reducible repeat (first | apply Kd.R_alloc | apply Kd.R_drewN | apply Kd.R_drew)); exact Kd.R_mono HO504.out (fun _ hk => hk.2)⟩, ⟨by (with_reducible repeat (first | apply Kd.R_alloc | apply Kd.R_drewN | apply Kd.R_drew)); exact Kd.R_mono HO513.out (fun _ hk => hk.1.2)⟩, ⟨by repeat (first | (with_reducible first | exact HB.out | apply below_alloc | apply pw_below_drewN | apply below_drew1) | exact HB.out)⟩⟩
              · rw [if_neg c23] at H
                have c23b0 : (t511 == 0) = false := beq_eq_false_iff_ne.mpr c23
                have c23b1 : (t511 != 0) = true := bne_iff_ne.mpr c23
                have H' := Aside0.mk H
                clear H
                go_wp2
                repeat (go_quiet (fail); try go_wp2)
                go_meet
                case rel => exact ⟨_, (true), (by first | rfl | (simp; done) | (simp [*]; done)), H', ⟨by have := HJ2.out; first | omega | exact Nat.le_refl _⟩, ⟨by (with_reducible repeat (first | apply Kd.R_alloc | apply Kd.R_drewN | apply Kd.R_drew)); exact Kd.R_mono HO504.out (fun _ hk => hk.2)⟩, ⟨by (with_reducible repeat (first | apply Kd.R_alloc | apply Kd.R_drewN | apply Kd.R_drew)); exact Kd.R_mono HO513.out (fun _ hk => hk.1.2)⟩, ⟨by repeat (first | (with_reducible first | exact HB.out | apply below_alloc | apply pw_below_drewN | apply below_drew1) | exact HB.out)⟩⟩
            · rw [if_neg c22] at H
              have c22b0 : (t507 == 0) = false := beq_eq_false_iff_ne.mpr c22
              have c22b1 : (t507 != 0) = true := bne_iff_ne.mpr c22
              have H' := Aside0.mk H
              clear H
              go_wp2
              repeat (go_quiet (fail); try go_wp2)
              go_meet
              case rel => exact ⟨_, (true), (by first | rfl | (simp; done) | (simp [*]; done)), H', ⟨by have := HJ2.out; first | omega | exact Nat.le_refl _⟩, ⟨by (with_reducible repeat (first | apply Kd.R_alloc | apply Kd.R_drewN | apply Kd.R_drew)); exact Kd.R_mono HO504.out (fun _ hk => hk.2)⟩, ⟨by (with_reducible repeat (first | apply Kd.R_alloc | apply Kd.R_drewN | apply Kd.R_drew)); exact Kd.R_mono HO513.out (fun _ hk => hk.1.2)⟩, ⟨by repeat (first | (with_reducible first | exact HB.out | apply below_alloc | apply pw_below_drewN | apply below_drew1) | exact HB.out)⟩⟩
          · rw [if_neg c21] at H
            have c21b0 : (t502 == 0) = false := beq_eq_false_iff_ne.mpr c21
            have c21b1 : (t502 != 0) = true := bne_iff_ne.mpr c21
            (first | rw [c21b0] | (simp only [i64_w, i32_w]; rw [c21b0]) | skip)
            have H' := Aside0.mk H
            clear H
            go_wp2
            repeat (go_quiet (fail); try go_wp2)
            go_meet
            case rel => exact ⟨_, (true), (by first | rfl | (simp; done) | (simp [*]; done)), H', ⟨by have := HJ2.out; first | omega | exact Nat.le_refl _⟩, ⟨by (with_reducible repeat (first | apply Kd.R_alloc | apply Kd.R_drewN | apply Kd.R_drew)); exact Kd.R_mono HO504.out (fun _ hk => hk.2)⟩, ⟨by (with_reducible repeat (first | apply Kd.R_alloc | apply Kd.R_drewN | apply Kd.R_drew)); exact Kd.R_mono HO513.out (fun _ hk => hk.1.2)⟩, ⟨by repeat (first | (with_reducible first | exact HB.out | apply below_alloc | apply pw_below_drewN | apply below_drew1) | exact HB.out)⟩⟩
        case rest =>
          clear HC15
          try clear c1
          try clear c2
          try clear p2
          try clear c5
          try clear p6
          try clear c8
          try clear c13
          try clear c21
          try clear c21b0
          try clear c21b1
          try clear c22
          try clear c22b0
          try clear c22b1
          try clear c23
          try clear c23b0
          try clear c23b1
          try clear c24
          try clear c24b0
          try clear c24b1
          try clear c24b2
          try clear c25
          try clear c25b0
          try clear c25b1
          try clear c25b2
          try clear p2
          obtain ⟨kq, x76_14, rfl, HA, HJ14, HO_7, HO_12, HB⟩ := hcut
          cases kq with
          | zero => exact absurd HA.out (by simp [estoverstop_TopLruLists.j1])
          | succ kj14 =>
            have H := HA.out
            clear HA
            simp only [estoverstop_TopLruLists.j1] at H
            by_cases c32 : x76_14 = true
            · subst c32
              have H1 : (some false) = some r := by rw [if_pos rfl] at H; exact H
              clear H
              have H := H1
              clear H1
              obtain rfl := Option.some.inj H
              go_wp2
              repeat (go_quiet (fail); try go_wp2)
              go_ret
              exact ⟨by first | rfl | (simp [errW_none, errW_some] <;> rfl) | (simp [*, errW_none, errW_some] <;> rfl), by repeat (first | (with_reducible first | exact HB.out | apply below_alloc | apply pw_below_drewN | apply below_drew1) | exact HB.out)⟩
            · replace c32 := Bool.eq_false_iff.mpr c32
              subst c32
              have H1 : (estoverstop_TopLruLists.l0 kj14 (wrap64 (1 + (wrap64 (Int.tmod a1 16)))) t501 t510 (t501.length : Int) 0) = some r := by rw [if_neg (show ¬ (false = true) by decide)] at H; exact H
              clear H
              have H := H1
              clear H1
              have H' := Aside0.mk H
              clear H
              obtain ⟨Ao33, co33, eo33⟩ := Kd.R_slice HO_7.out
              subst eo33
              go_wp2
              repeat (go_quiet (fail); try go_wp2)
              go_loopg [79] kj14 (fun kq v79 w' => ∃ (x79_3 : Int), v79 = .int .i64 x79_3 ∧ Aside0 (estoverstop_TopLruLists.l0 kq (wrap64 (1 + (wrap64 (Int.tmod a1 16)))) t501 t510 (t501.length : Int) x79_3 = some r) ∧ Aside0 (kq ≤ kj14) ∧ Aside0 (Kd.R (Kd.int .i64) 3 w' w.heap.size (fun k_ => some k_ ≠ (v512 : Value).ownBlock) (.slice Ao33 t501.length co33) t501) ∧ Aside0 (Kd.R (Kd.int .i64) 3 w' w.heap.size (fun k_ => some k_ ≠ ((.slice Ao33 t501.length co33) : Value).ownBlock) v512 t510) ∧ Aside0 (Below w.heap.size w w'))
              case atStart => exact ⟨(0), (by first | rfl | (simp; done) | (simp [*]; done)), H', ⟨Nat.le_refl _⟩, ⟨by (with_reducible repeat (first | apply Kd.R_alloc | apply Kd.R_drewN | apply Kd.R_drew)); exact HO_7.out⟩, ⟨by (with_reducible repeat (first | apply Kd.R_alloc | apply Kd.R_drewN | apply Kd.R_drew)); exact HO_12.out⟩, ⟨by repeat (first | (with_reducible first | exact HB.out | apply below_alloc | apply pw_below_drewN | apply below_drew1) | exact HB.out)⟩⟩
              case round =>
                clear H'
                try clear c1
                try clear c2
                try clear p2
                try clear c3
                try clear c5
                try clear p6
                try clear c8
                try clear c13
                try clear c21
                try clear c21b0
                try clear c21b1
                try clear c22
                try clear c22b0
                try clear c22b1
                try clear c23
                try clear c23b0
                try clear c23b1
                try clear c24
                try clear c24b0
                try clear c24b1
                try clear c24b2
                try clear c25
                try clear c25b0
                try clear c25b1
                try clear c25b2
                try clear c32
                try clear p2
                try clear p6
                obtain ⟨x79_3, rfl, HA, HK3, HO_7, HO_12, HB⟩ := hrel
                cases gk with
                | zero => exact absurd HA.out (by simp [estoverstop_TopLruLists.l0])
                | succ k3 =>
                  have H := HA.out
                  clear HA
                  simp only [estoverstop_TopLruLists.l0] at H
                  by_cases c34 : x79_3 < (t501.length : Int)
                  · rw [if_pos c34] at H
                    have c34b0 : decide (x79_3 < (t501.length : Int)) = true := decide_eq_true c34
                    clear c34
                    by_cases c35 : 0 ≤ x79_3
                    · rw [if_pos c35] at H
                      have c35b0 : decide (0 ≤ x79_3) = true := decide_eq_true c35
                      clear c35
                      by_cases c36 : x79_3 < (t501.length : Int)
                      · rw [if_pos c36] at H
                        have c36b0 : decide (x79_3 < (t501.length : Int)) = true := decide_eq_true c36
                        clear c36
                        by_cases c37 : x79_3 < (t510.length : Int)
                        · rw [if_pos c37] at H
                          have c37b0 : decide (x79_3 < (t510.length : Int)) = true := decide_eq_true c37
                          clear c37
                          by_cases c38 : (rd t510 x79_3) ≥ 0
                          · rw [if_pos c38] at H
                            have c38b0 : decide (0 ≤ (rd t510 x79_3)) = true := decide_eq_true c38
                            clear c38
                            by_cases c39 : (((rd t501 x79_3) == (-1)) != (decide ((rd t510 x79_3) < (wrap64 (1 + (wrap64 (Int.tmod a1 16))))))) = true
                            · rw [if_pos c39] at H
                              have c39b0 : (((rd t501 x79_3) == (-1)) != (decide ((rd t510 x79_3) < (wrap64 (1 + (wrap64 (Int.tmod a1 16))))))) = true := c39
                              (try (have c39b1 : decide (((rd t501 x79_3) == (-1)) = (decide ((rd t510 x79_3) < (wrap64 (1 + (wrap64 (Int.tmod a1 16))))))) = false := by simpa using c39))
                              (try (have c39b2 : (((rd t501 x79_3) == (-1)) == (decide ((rd t510 x79_3) < (wrap64 (1 + (wrap64 (Int.tmod a1 16))))))) = false := by simpa using c39))
                              (try (have c39b3 : ¬ (((rd t501 x79_3) == (-1)) = (decide ((rd t510 x79_3) < (wrap64 (1 + (wrap64 (Int.tmod a1 16))))))) := by simpa using c39))
                              clear c39
                              obtain rfl := Option.some.inj H
                              have p515 : 0 ≤ (x79_3 : Int) := of_decide_eq_true (by first | (with_reducible assumption) | assumption)
                              have q515 : x79_3 < (t501.length : Int) := of_decide_eq_true (by first | (with_reducible assumption) | assumption)
                              obtain ⟨ad515, e515, hx515_0⟩ := Kd.at_int (Kd.R_reads' HO_7.out).2.2 x79_3 p515 q515
                              cases e515
                              replace p515 := eq_true p515
                              replace q515 := eq_true q515
                              obtain ⟨Ao40, co40, eo40⟩ := Kd.R_slice HO_12.out
                              subst eo40
                              have p516 : 0 ≤ (x79_3 : Int) := of_decide_eq_true (by first | (with_reducible assumption) | assumption)
                              have q516 : x79_3 < (t510.length : Int) := of_decide_eq_true (by first | (with_reducible assumption) | assumption)
                              obtain ⟨ad516, e516, hx516_0⟩ := Kd.at_int (Kd.R_reads' HO_12.out).2.2 x79_3 p516 q516
                              cases e516
                              replace p516 := eq_true p516
                              replace q516 := eq_true q516
                              have p517 : 0 ≤ (x79_3 : Int) := of_decide_eq_true (by first | (with_reducible assumption) | assumption)
                              have q517 : x79_3 < (t510.length : Int) := of_decide_eq_true (by first | (with_reducible assumption) | assumption)
                              obtain ⟨ad517, e517, hx517_0⟩ := Kd.at_int (Kd.R_reads' HO_12.out).2.2 x79_3 p517 q517
                              obtain rfl : ad516 = ad517 := (by injection e517)
                              replace p517 := eq_true p517
                              replace q517 := eq_true q517
                              go_wp2
                              repeat (go_quiet (fail); try go_wp2)
                              go_ret
                              exact ⟨by first | rfl | (simp [errW_none, errW_some] <;> rfl) | (simp [*, errW_none, errW_some] <;> rfl), by repeat (first | (with_reducible first | exact HB.out | apply below_alloc | apply pw_below_drewN | apply below_drew1) | exact HB.out)⟩
                            · rw [if_neg c39] at H
                              have c39b0 : (((rd t501 x79_3) == (-1)) != (decide ((rd t510 x79_3) < (wrap64 (1 + (wrap64 (Int.tmod a1 16))))))) = false := by simpa using c39
                              (try (have c39b1 : decide (((rd t501 x79_3) == (-1)) = (decide ((rd t510 x79_3) < (wrap64 (1 + (wrap64 (Int.tmod a1 16))))))) = true := by simpa using c39))
                              (try (have c39b2 : (((rd t501 x79_3) == (-1)) == (decide ((rd t510 x79_3) < (wrap64 (1 + (wrap64 (Int.tmod a1 16))))))) = true := by simpa using c39))
                              clear c39
                              by_cases c41 : (((rd t501 x79_3) == (-2)) != ((rd t510 x79_3) == (-1))) = true
                              · rw [if_pos c41] at H
                                have c41b0 : (((rd t501 x79_3) == (-2)) != ((rd t510 x79_3) == (-1))) = true := c41
                                (try (have c41b1 : decide (((rd t501 x79_3) == (-2)) = ((rd t510 x79_3) == (-1))) = false := by simpa using c41))
                                (try (have c41b2 : (((rd t501 x79_3) == (-2)) == ((rd t510 x79_3) == (-1))) = false := by simpa using c41))
                                (try (have c41b3 : ¬ (((rd t501 x79_3) == (-2)) = ((rd t510 x79_3) == (-1))) := by simpa using c41))
                                clear c41
                                obtain rfl := Option.some.inj H
                                have p515 : 0 ≤ (x79_3 : Int) := of_decide_eq_true (by first | (with_reducible assumption) | assumption)
                                have q515 : x79_3 < (t501.length : Int) := of_decide_eq_true (by first | (with_reducible assumption) | assumption)
                                obtain ⟨ad515, e515, hx515_0⟩ := Kd.at_int (Kd.R_reads' HO_7.out).2.2 x79_3 p515 q515
                                cases e515
                                replace p515 := eq_true p515
                                replace q515 := eq_true q515
                                obtain ⟨Ao42, co42, eo42⟩ := Kd.R_slice HO_12.out
                                subst eo42
                                have p516 : 0 ≤ (x79_3 : Int) := of_decide_eq_true (by first | (with_reducible assumption) | assumption)
                                have q516 : x79_3 < (t510.length : Int) := of_decide_eq_true (by first | (with_reducible assumption) | assumption)
                                obtain ⟨ad516, e516, hx516_0⟩ := Kd.at_int (Kd.R_reads' HO_12.out).2.2 x79_3 p516 q516
                                cases e516
                                replace p516 := eq_true p516
                                replace q516 := eq_true q516
                                have p517 : 0 ≤ (x79_3 : Int) := of_decide_eq_true (by first | (with_reducible assumption) | assumption)
                                have q517 : x79_3 < (t510.length : Int) := of_decide_eq_true (by first | (with_reducible assumption) | assumption)
                                obtain ⟨ad517, e517, hx517_0⟩ := Kd.at_int (Kd.R_reads' HO_12.out).2.2 x79_3 p517 q517
                                obtain rfl : ad516 = ad517 := (by injection e517)
                                replace p517 := eq_true p517
                                replace q517 := eq_true q517
                                have p518 : 0 ≤ (x79_3 : Int) := of_decide_eq_true (by first | (with_reducible assumption) | assumption)
                                have q518 : x79_3 < (t501.length : Int) := of_decide_eq_true (by first | (with_reducible assumption) | assumption)
                                obtain ⟨ad518, e518, hx518_0⟩ := Kd.at_int (Kd.R_reads' HO_7.out).2.2 x79_3 p518 q518
                                obtain rfl : ad515 = ad518 := (by injection e518)
                                replace p518 := eq_true p518
                                replace q518 := eq_true q518
                                have p519 : 0 ≤ (x79_3 : Int) := of_decide_eq_true (by first | (with_reducible assumption) | assumption)
                                have q519 : x79_3 < (t510.length : Int) := of_decide_eq_true (by first | (with_reducible assumption) | assumption)
                                obtain ⟨ad519, e519, hx519_0⟩ := Kd.at_int (Kd.R_reads' HO_12.out).2.2 x79_3 p519 q519
                                obtain rfl : ad516 = ad519 := (by injection e519)
                                replace p519 := eq_true p519
                                replace q519 := eq_true q519
                                go_wp2
                                repeat (go_quiet (fail); try go_wp2)
                                go_ret
                                exact ⟨by first | rfl | (simp [errW_none, errW_some] <;> rfl) | (simp [*, errW_none, errW_some] <;> rfl), by repeat (first | (with_reducible first | exact HB.out | apply below_alloc | apply pw_below_drewN | apply below_drew1) | exact HB.out)⟩
                              · rw [if_neg c41] at H
                                have c41b0 : (((rd t501 x79_3) == (-2)) != ((rd t510 x79_3) == (-1))) = false := by simpa using c41
                                (try (have c41b1 : decide (((rd t501 x79_3) == (-2)) = ((rd t510 x79_3) == (-1))) = true := by simpa using c41))
                                (try (have c41b2 : (((rd t501 x79_3) == (-2)) == ((rd t510 x79_3) == (-1))) = true := by simpa using c41))
                                clear c41
                                have H' := Aside0.mk H
                                clear H
                                have p515 : 0 ≤ (x79_3 : Int) := of_decide_eq_true (by first | (with_reducible assumption) | assumption)
                                have q515 : x79_3 < (t501.length : Int) := of_decide_eq_true (by first | (with_reducible assumption) | assumption)
                                obtain ⟨ad515, e515, hx515_0⟩ := Kd.at_int (Kd.R_reads' HO_7.out).2.2 x79_3 p515 q515
                                cases e515
                                replace p515 := eq_true p515
                                replace q515 := eq_true q515
                                obtain ⟨Ao43, co43, eo43⟩ := Kd.R_slice HO_12.out
                                subst eo43
                                have p516 : 0 ≤ (x79_3 : Int) := of_decide_eq_true (by first | (with_reducible assumption) | assumption)
                                have q516 : x79_3 < (t510.length : Int) := of_decide_eq_true (by first | (with_reducible assumption) | assumption)
                                obtain ⟨ad516, e516, hx516_0⟩ := Kd.at_int (Kd.R_reads' HO_12.out).2.2 x79_3 p516 q516
                                cases e516
                                replace p516 := eq_true p516
                                replace q516 := eq_true q516
                                have p517 : 0 ≤ (x79_3 : Int) := of_decide_eq_true (by first | (with_reducible assumption) | assumption)
                                have q517 : x79_3 < (t510.length : Int) := of_decide_eq_true (by first | (with_reducible assumption) | assumption)
                                obtain ⟨ad517, e517, hx517_0⟩ := Kd.at_int (Kd.R_reads' HO_12.out).2.2 x79_3 p517 q517
                                obtain rfl : ad516 = ad517 := (by injection e517)
                                replace p517 := eq_true p517
                                replace q517 := eq_true q517
                                have p518 : 0 ≤ (x79_3 : Int) := of_decide_eq_true (by first | (with_reducible assumption) | assumption)
                                have q518 : x79_3 < (t501.length : Int) := of_decide_eq_true (by first | (with_reducible assumption) | assumption)
                                obtain ⟨ad518, e518, hx518_0⟩ := Kd.at_int (Kd.R_reads' HO_7.out).2.2 x79_3 p518 q518
                                obtain rfl : ad515 = ad518 := (by injection e518)
                                replace p518 := eq_true p518
                                replace q518 := eq_true q518
                                have p519 : 0 ≤ (x79_3 : Int) := of_decide_eq_true (by first | (with_reducible assumption) | assumption)
                                have q519 : x79_3 < (t510.length : Int) := of_decide_eq_true (by first | (with_reducible assumption) | assumption)
                                obtain ⟨ad519, e519, hx519_0⟩ := Kd.at_int (Kd.R_reads' HO_12.out).2.2 x79_3 p519 q519
                                obtain rfl : ad516 = ad519 := (by injection e519)
                                replace p519 := eq_true p519
                                replace q519 := eq_true q519
                                go_wp2
                                repeat (go_quiet (fail); try go_wp2)
                                go_roundg k3
                                case measure => have := HJ2.out; have := HJ14.out; have := HK3.out; omega
                                case rel => exact ⟨(wrap64 (x79_3 + 1)), (by first | rfl | (simp; done) | (simp [*]; done)), H', ⟨by have := HJ2.out; have := HJ14.out; have := HK3.out; omega⟩, ⟨by (with_reducible repeat (first | apply Kd.R_alloc | apply Kd.R_drewN | apply Kd.R_drew)); exact HO_7.out⟩, ⟨by (with_reducible repeat (first | apply Kd.R_alloc | apply Kd.R_drewN | apply Kd.R_drew)); exact HO_12.out⟩, ⟨by repeat (first | (with_reducible first | exact HB.out | apply below_alloc | apply pw_below_drewN | apply below_drew1) | exact HB.out)⟩⟩
                          · rw [if_neg c38] at H
                            have c38b0 : decide (0 ≤ (rd t510 x79_3)) = false := decide_eq_false c38
                            clear c38
                            by_cases c44 : (((rd t501 x79_3) == (-1)) != false) = true
                            · rw [if_pos c44] at H
                              have c44b0 : (((rd t501 x79_3) == (-1)) != false) = true := c44
                              (try (have c44b1 : decide (((rd t501 x79_3) == (-1)) = false) = false := by simpa using c44))
                              (try (have c44b2 : (((rd t501 x79_3) == (-1)) == false) = false := by simpa using c44))
                              (try (have c44b3 : ¬ (((rd t501 x79_3) == (-1)) = false) := by simpa using c44))
                              clear c44
                              obtain rfl := Option.some.inj H
                              have p515 : 0 ≤ (x79_3 : Int) := of_decide_eq_true (by first | (with_reducible assumption) | assumption)
                              have q515 : x79_3 < (t501.length : Int) := of_decide_eq_true (by first | (with_reducible assumption) | assumption)
                              obtain ⟨ad515, e515, hx515_0⟩ := Kd.at_int (Kd.R_reads' HO_7.out).2.2 x79_3 p515 q515
                              cases e515
                              replace p515 := eq_true p515
                              replace q515 := eq_true q515
                              obtain ⟨Ao45, co45, eo45⟩ := Kd.R_slice HO_12.out
                              subst eo45
                              have p516 : 0 ≤ (x79_3 : Int) := of_decide_eq_true (by first | (with_reducible assumption) | assumption)
                              have q516 : x79_3 < (t510.length : Int) := of_decide_eq_true (by first | (with_reducible assumption) | assumption)
                              obtain ⟨ad516, e516, hx516_0⟩ := Kd.at_int (Kd.R_reads' HO_12.out).2.2 x79_3 p516 q516
                              cases e516
                              replace p516 := eq_true p516
                              replace q516 := eq_true q516
                              go_wp2
                              repeat (go_quiet (fail); try go_wp2)
                              go_ret
                              exact ⟨by first | rfl | (simp [errW_none, errW_some] <;> rfl) | (simp [*, errW_none, errW_some] <;> rfl), by repeat (first | (with_reducible first | exact HB.out | apply below_alloc | apply pw_below_drewN | apply below_drew1) | exact HB.out)⟩
                            · rw [if_neg c44] at H
                              have c44b0 : (((rd t501 x79_3) == (-1)) != false) = false := by simpa using c44
                              (try (have c44b1 : decide (((rd t501 x79_3) == (-1)) = false) = true := by simpa using c44))
                              (try (have c44b2 : (((rd t501 x79_3) == (-1)) == false) = true := by simpa using c44))
                              clear c44
                              by_cases c46 : (((rd t501 x79_3) == (-2)) != ((rd t510 x79_3) == (-1))) = true
                              · rw [if_pos c46] at H
                                have c46b0 : (((rd t501 x79_3) == (-2)) != ((rd t510 x79_3) == (-1))) = true := c46
                                (try (have c46b1 : decide (((rd t501 x79_3) == (-2)) = ((rd t510 x79_3) == (-1))) = false := by simpa using c46))
                                (try (have c46b2 : (((rd t501 x79_3) == (-2)) == ((rd t510 x79_3) == (-1))) = false := by simpa using c46))
                                (try (have c46b3 : ¬ (((rd t501 x79_3) == (-2)) = ((rd t510 x79_3) == (-1))) := by simpa using c46))
                                clear c46
                                obtain rfl := Option.some.inj H
                                have p515 : 0 ≤ (x79_3 : Int) := of_decide_eq_true (by first | (with_reducible assumption) | assumption)
                                have q515 : x79_3 < (t501.length : Int) := of_decide_eq_true (by first | (with_reducible assumption) | assumption)
                                obtain ⟨ad515, e515, hx515_0⟩ := Kd.at_int (Kd.R_reads' HO_7.out).2.2 x79_3 p515 q515
                                cases e515
                                replace p515 := eq_true p515
                                replace q515 := eq_true q515
                                obtain ⟨Ao47, co47, eo47⟩ := Kd.R_slice HO_12.out
                                subst eo47
                                have p516 : 0 ≤ (x79_3 : Int) := of_decide_eq_true (by first | (with_reducible assumption) | assumption)
                                have q516 : x79_3 < (t510.length : Int) := of_decide_eq_true (by first | (with_reducible assumption) | assumption)
                                obtain ⟨ad516, e516, hx516_0⟩ := Kd.at_int (Kd.R_reads' HO_12.out).2.2 x79_3 p516 q516
                                cases e516
                                replace p516 := eq_true p516
                                replace q516 := eq_true q516
                                have p520 : 0 ≤ (x79_3 : Int) := of_decide_eq_true (by first | (with_reducible assumption) | assumption)
                                have q520 : x79_3 < (t501.length : Int) := of_decide_eq_true (by first | (with_reducible assumption) | assumption)
                                obtain ⟨ad520, e520, hx520_0⟩ := Kd.at_int (Kd.R_reads' HO_7.out).2.2 x79_3 p520 q520
                                obtain rfl : ad515 = ad520 := (by injection e520)
                                replace p520 := eq_true p520
                                replace q520 := eq_true q520
                                have p521 : 0 ≤ (x79_3 : Int) := of_decide_eq_true (by first | (with_reducible assumption) | assumption)
                                have q521 : x79_3 < (t510.length : Int) := of_decide_eq_true (by first | (with_reducible assumption) | assumption)
                                obtain ⟨ad521, e521, hx521_0⟩ := Kd.at_int (Kd.R_reads' HO_12.out).2.2 x79_3 p521 q521
                                obtain rfl : ad516 = ad521 := (by injection e521)
                                replace p521 := eq_true p521
                                replace q521 := eq_true q521
                                go_wp2
                                repeat (go_quiet (fail); try go_wp2)
                                go_ret
                                exact ⟨by first | rfl | (simp [errW_none, errW_some] <;> rfl) | (simp [*, errW_none, errW_some] <;> rfl), by repeat (first | (with_reducible first | exact HB.out | apply below_alloc | apply pw_below_drewN | apply below_drew1) | exact HB.out)⟩
                              · rw [if_neg c46] at H
                                have c46b0 : (((rd t501 x79_3) == (-2)) != ((rd t510 x79_3) == (-1))) = false := by simpa using c46
                                (try (have c46b1 : decide (((rd t501 x79_3) == (-2)) = ((rd t510 x79_3) == (-1))) = true := by simpa using c46))
                                (try (have c46b2 : (((rd t501 x79_3) == (-2)) == ((rd t510 x79_3) == (-1))) = true := by simpa using c46))
                                clear c46
                                have H' := Aside0.mk H
                                clear H
                                have p515 : 0 ≤ (x79_3 : Int) := of_decide_eq_true (by first | (with_reducible assumption) | assumption)
                                have q515 : x79_3 < (t501.length : Int) := of_decide_eq_true (by first | (with_reducible assumption) | assumption)
                                obtain ⟨ad515, e515, hx515_0⟩ := Kd.at_int (Kd.R_reads' HO_7.out).2.2 x79_3 p515 q515
                                cases e515
                                replace p515 := eq_true p515
                                replace q515 := eq_true q515
                                obtain ⟨Ao48, co48, eo48⟩ := Kd.R_slice HO_12.out
                                subst eo48
                                have p516 : 0 ≤ (x79_3 : Int) := of_decide_eq_true (by first | (with_reducible assumption) | assumption)
                                have q516 : x79_3 < (t510.length : Int) := of_decide_eq_true (by first | (with_reducible assumption) | assumption)
                                obtain ⟨ad516, e516, hx516_0⟩ := Kd.at_int (Kd.R_reads' HO_12.out).2.2 x79_3 p516 q516
                                cases e516
                                replace p516 := eq_true p516
                                replace q516 := eq_true q516
                                have p520 : 0 ≤ (x79_3 : Int) := of_decide_eq_true (by first | (with_reducible assumption) | assumption)
                                have q520 : x79_3 < (t501.length : Int) := of_decide_eq_true (by first | (with_reducible assumption) | assumption)
                                obtain ⟨ad520, e520, hx520_0⟩ := Kd.at_int (Kd.R_reads' HO_7.out).2.2 x79_3 p520 q520
                                obtain rfl : ad515 = ad520 := (by injection e520)
                                replace p520 := eq_true p520
                                replace q520 := eq_true q520
                                have p521 : 0 ≤ (x79_3 : Int) := of_decide_eq_true (by first | (with_reducible assumption) | assumption)
                                have q521 : x79_3 < (t510.length : Int) := of_decide_eq_true (by first | (with_reducible assumption) | assumption)
                                obtain ⟨ad521, e521, hx521_0⟩ := Kd.at_int (Kd.R_reads' HO_12.out).2.2 x79_3 p521 q521
                                obtain rfl : ad516 = ad521 := (by injection e521)
                                replace p521 := eq_true p521
                                replace q521 := eq_true q521
                                go_wp2
                                repeat (go_quiet (fail); try go_wp2)
                                go_roundg k3
                                case measure => have := HJ2.out; have := HJ14.out; have := HK3.out; omega
                                case rel => exact ⟨(wrap64 (x79_3 + 1)), (by first | rfl | (simp; done) | (simp [*]; done)), H', ⟨by have := HJ2.out; have := HJ14.out; have := HK3.out; omega⟩, ⟨by (with_reducible repeat (first | apply Kd.R_alloc | apply Kd.R_drewN | apply Kd.R_drew)); exact HO_7.out⟩, ⟨by (with_reducible repeat (first | apply Kd.R_alloc | apply Kd.R_drewN | apply Kd.R_drew)); exact HO_12.out⟩, ⟨by repeat (first | (with_reducible first | exact HB.out | apply below_alloc | apply pw_below_drewN | apply below_drew1) | exact HB.out)⟩⟩
                        · rw [if_neg c37] at H
                          exact absurd H (by simp)
                      · rw [if_neg c36] at H
                        exact absurd H (by simp)
                    · rw [if_neg c35] at H
                      exact absurd H (by simp)
                  · rw [if_neg c34] at H
                    have c34b0 : decide (x79_3 < (t501.length : Int)) = false := decide_eq_false c34
                    clear c34
                    obtain rfl := Option.some.inj H
                    go_wp2
                    repeat (go_quiet (fail); try go_wp2)
                    go_ret
                    exact ⟨by first | rfl | (simp [errW_none, errW_some] <;> rfl) | (simp [*, errW_none, errW_some] <;> rfl), by repeat (first | (with_reducible first | exact HB.out | apply below_alloc | apply pw_below_drewN | apply below_drew1) | exact HB.out)⟩

/-- THE ONE PURE STATEMENT of estoverstop_TopLruLists: yours. -/
def estoverstop_TopLruLists.Pure : Prop := ∀ (l0 : List Int) (a1 : Int), l0.length ≤ maxLen → l0.length * 1 ≤ 140737488351232 → (∀ x ∈ l0, (Lit.int .u8 x).wf = true) → (Lit.int .u8 a1).wf = true → ∃ k, estoverstop_TopLruLists.f k l0 a1 = some true
theorem estoverstop_TopLruLists.walk (P : estoverstop_TopLruLists.Pure) (a0 : Option Addr) (len0 cap0 : Nat) (z0 : List Int) (a1 : Int) (w : World) (w0 : (a0 = none ∧ len0 = 0 ∧ cap0 = 0 ∧ z0 = []) ∨ ∃ x, a0 = some x ∧ len0 ≤ cap0 ∧ cap0 ≤ maxLen ∧ z0.length = cap0 ∧ (∀ i, i < z0.length → w.cell? (x.add i) = some (.int .u8 (z0.getD i 0))) ∧ ∀ n ∈ z0, (Lit.int .u8 n).wf = true) (y0 : len0 * 1 ≤ 140737488351232) (w1 : (Lit.int .u8 a1).wf = true) :
    Calls Try.prog 13 #[.slice a0 len0 cap0, .int .u8 a1] w fun e w' => e = .returned (.bool true) ∧ Below w.heap.size w w' := by
  obtain ⟨l0, rfl, hr0, hm0, hw0, hc0⟩ := ReadsInt.ofRowC w0
  obtain ⟨k, h⟩ := P l0 a1 hm0 y0 hw0 w1
  refine (estoverstop_TopLruLists.calls k _ _ l0 a1 true w (Kd.C_of_reads (d := (0 : Int)) (h1 := fun _ => rfl) hr0) hc0 h).mono ?_
  rintro e w' ⟨rfl, hd⟩
  exact ⟨rfl, hd⟩

end Go.Proofs.Ytbchpnhlaknhjaa.Q
