-- Written by wip/stubprint.py for this claim. Lean checks it.
import Derived.Test.YtbchpnhlaknhjaaQ0
import Derived.Test.YtbchpnhlaknhjaaQ200
import Derived.Test.YtbchpnhlaknhjaaQ201
namespace Go.Proofs.Ytbchpnhlaknhjaa.Q
open Go.RowKit Go.Proofs.YtbchpnhlaknhjaaW.PrintWords Go.Proofs.YtbchpnhlaknhjaaW.PrintLast Go.Proofs.YtbchpnhlaknhjaaW.PrintMore
attribute [local go_sem] max2_int min2_int max_two min_two max_three min_three max_four min_four
set_option linter.unusedVariables false
set_option linter.unusedSimpArgs false

/-! ### estoverslaw37_StackdistInclusion: function 7 -/
mutual
def estoverslaw37_StackdistInclusion.j0 : Nat → List Int → Int → Bool → Option (Bool)
  | 0, _, _, _ => none
  | k + 1, x0, x1, x20 => if x20 = true then ((estoverslaw37_awake.f k).bind fun t392 => (some t392)) else (estoverslaw37_StackdistInclusion.l0 k x0 (Int.tmod (wrap64 (x1)) 20) (x0.length : Int) 0)
def estoverslaw37_StackdistInclusion.l0 : Nat → List Int → Int → Int → Int → Option (Bool)
  | 0, _, _, _, _ => none
  | k + 1, x0, x5, x26, x27 => if x27 < x26 then (if 0 ≤ (wrap64 (x27 + 1)) then (if (wrap64 (x27 + 1)) ≤ (x0.length : Int) then ((stackdist_Lru.f k (x0.take ((wrap64 (x27 + 1)) : Int).toNat) x5).bind fun bt394 => ((stackdist_Lru.f k (x0.take ((wrap64 (x27 + 1)) : Int).toNat) (wrap64 (x5 + 1))).bind fun bt400 => (if bt394.2.2 = 0 then (if bt400.2.2 = 0 then (if bt394.1 < bt400.1 then (estoverslaw37_StackdistInclusion.j2 k x0 x5 x27 bt394.2.1 bt400.2.1 x26 x27 true) else (if (bt394.2.1.length : Int) > x5 then (estoverslaw37_StackdistInclusion.j2 k x0 x5 x27 bt394.2.1 bt400.2.1 x26 x27 true) else (if (bt394.2.1.length : Int) > (bt400.2.1.length : Int) then (estoverslaw37_StackdistInclusion.j2 k x0 x5 x27 bt394.2.1 bt400.2.1 x26 x27 true) else (estoverslaw37_StackdistInclusion.j2 k x0 x5 x27 bt394.2.1 bt400.2.1 x26 x27 (decide ((bt400.2.1.length : Int) > (wrap64 (x5 + 1)))))))) else (estoverslaw37_StackdistInclusion.j2 k x0 x5 x27 bt394.2.1 bt400.2.1 x26 x27 true)) else (estoverslaw37_StackdistInclusion.j2 k x0 x5 x27 bt394.2.1 bt400.2.1 x26 x27 true)))) else (none)) else (none)) else (some true)
def estoverslaw37_StackdistInclusion.j2 : Nat → List Int → Int → Int → List Int → List Int → Int → Int → Bool → Option (Bool)
  | 0, _, _, _, _, _, _, _, _ => none
  | k + 1, x0, x5, x6, x8, x11, x26, x27, x81 => if x81 = true then (some false) else (estoverslaw37_StackdistInclusion.l1 k x0 x5 x6 x8 x11 x26 x27 (x8.length : Int) 0)
def estoverslaw37_StackdistInclusion.l1 : Nat → List Int → Int → Int → List Int → List Int → Int → Int → Int → Int → Option (Bool)
  | 0, _, _, _, _, _, _, _, _, _ => none
  | k + 1, x0, x5, x6, x8, x11, x26, x27, x83, x84 => if x84 < x83 then (if 0 ≤ x84 then (if x84 < (x8.length : Int) then (if x84 < (x11.length : Int) then (if (rd x8 x84) = (rd x11 x84) then (estoverslaw37_StackdistInclusion.l1 k x0 x5 x6 x8 x11 x26 x27 x83 (wrap64 (x84 + 1))) else (some false)) else (none)) else (none)) else (none)) else (if (x11.length : Int) = 0 then (some false) else (if 0 < (x11.length : Int) then (if 0 ≤ x6 then (if x6 < (x0.length : Int) then (if (rd x11 0) = (rd x0 x6) then (estoverslaw37_StackdistInclusion.l0 k x0 x5 x26 (wrap64 (x27 + 1))) else (some false)) else (none)) else (none)) else (none)))
end
def estoverslaw37_StackdistInclusion.f (k : Nat) (l0 : List Int) (a1 : Int) : Option (Bool) := (estoverslaw37_awake.f k).bind fun t391 => (if t391 = true then (estoverslaw37_StackdistInclusion.j0 k l0 a1 (decide ((l0.length : Int) > 100))) else (estoverslaw37_StackdistInclusion.j0 k l0 a1 true))
theorem estoverslaw37_StackdistInclusion.mono_l : ∀ k, (∀ y0 y1 y2, LeO (estoverslaw37_StackdistInclusion.j0 k y0 y1 y2) (estoverslaw37_StackdistInclusion.j0 (k + 1) y0 y1 y2)) ∧ (∀ y0 y1 y2 y3, LeO (estoverslaw37_StackdistInclusion.l0 k y0 y1 y2 y3) (estoverslaw37_StackdistInclusion.l0 (k + 1) y0 y1 y2 y3)) ∧ (∀ y0 y1 y2 y3 y4 y5 y6 y7, LeO (estoverslaw37_StackdistInclusion.j2 k y0 y1 y2 y3 y4 y5 y6 y7) (estoverslaw37_StackdistInclusion.j2 (k + 1) y0 y1 y2 y3 y4 y5 y6 y7)) ∧ (∀ y0 y1 y2 y3 y4 y5 y6 y7 y8, LeO (estoverslaw37_StackdistInclusion.l1 k y0 y1 y2 y3 y4 y5 y6 y7 y8) (estoverslaw37_StackdistInclusion.l1 (k + 1) y0 y1 y2 y3 y4 y5 y6 y7 y8))
  | 0 => ⟨fun _ _ _ r h => by simp [estoverslaw37_StackdistInclusion.j0] at h, fun _ _ _ _ r h => by simp [estoverslaw37_StackdistInclusion.l0] at h, fun _ _ _ _ _ _ _ _ r h => by simp [estoverslaw37_StackdistInclusion.j2] at h, fun _ _ _ _ _ _ _ _ _ r h => by simp [estoverslaw37_StackdistInclusion.l1] at h⟩
  | k + 1 => by
    obtain ⟨ih0, ih1, ih2, ih3⟩ := estoverslaw37_StackdistInclusion.mono_l k
    refine ⟨?_, ?_, ?_, ?_⟩
    · intro y0 y1 y2
      unfold estoverslaw37_StackdistInclusion.j0
      repeat' first
      | (with_reducible exact ih0 _ _ _)
      | (with_reducible exact ih1 _ _ _ _)
      | (with_reducible exact ih2 _ _ _ _ _ _ _ _)
      | (with_reducible exact ih3 _ _ _ _ _ _ _ _ _)
      | (with_reducible exact estoverslaw37_awake.mono _)
      | (with_reducible exact stackdist_Lru.mono _ _ _)
      | (with_reducible exact LeO.refl _)
      | (with_reducible exact LeO.none _)
      | (with_reducible refine LeO.ite ?_ ?_)
      | (with_reducible refine LeO.bind ?_ (fun _ => ?_))
      | exact ih0 _ _ _
      | exact ih1 _ _ _ _
      | exact ih2 _ _ _ _ _ _ _ _
      | exact ih3 _ _ _ _ _ _ _ _ _
      | exact estoverslaw37_awake.mono _
      | exact stackdist_Lru.mono _ _ _
      | exact LeO.none _
      | refine LeO.ite ?_ ?_
      | refine LeO.bind ?_ (fun _ => ?_)
    · intro y0 y1 y2 y3
      unfold estoverslaw37_StackdistInclusion.l0
      repeat' first
      | (with_reducible exact ih0 _ _ _)
      | (with_reducible exact ih1 _ _ _ _)
      | (with_reducible exact ih2 _ _ _ _ _ _ _ _)
      | (with_reducible exact ih3 _ _ _ _ _ _ _ _ _)
      | (with_reducible exact estoverslaw37_awake.mono _)
      | (with_reducible exact stackdist_Lru.mono _ _ _)
      | (with_reducible exact LeO.refl _)
      | (with_reducible exact LeO.none _)
      | (with_reducible refine LeO.ite ?_ ?_)
      | (with_reducible refine LeO.bind ?_ (fun _ => ?_))
      | exact ih0 _ _ _
      | exact ih1 _ _ _ _
      | exact ih2 _ _ _ _ _ _ _ _
      | exact ih3 _ _ _ _ _ _ _ _ _
      | exact estoverslaw37_awake.mono _
      | exact stackdist_Lru.mono _ _ _
      | exact LeO.none _
      | refine LeO.ite ?_ ?_
      | refine LeO.bind ?_ (fun _ => ?_)
    · intro y0 y1 y2 y3 y4 y5 y6 y7
      unfold estoverslaw37_StackdistInclusion.j2
      repeat' first
      | (with_reducible exact ih0 _ _ _)
      | (with_reducible exact ih1 _ _ _ _)
      | (with_reducible exact ih2 _ _ _ _ _ _ _ _)
      | (with_reducible exact ih3 _ _ _ _ _ _ _ _ _)
      | (with_reducible exact estoverslaw37_awake.mono _)
      | (with_reducible exact stackdist_Lru.mono _ _ _)
      | (with_reducible exact LeO.refl _)
      | (with_reducible exact LeO.none _)
      | (with_reducible refine LeO.ite ?_ ?_)
      | (with_reducible refine LeO.bind ?_ (fun _ => ?_))
      | exact ih0 _ _ _
      | exact ih1 _ _ _ _
      | exact ih2 _ _ _ _ _ _ _ _
      | exact ih3 _ _ _ _ _ _ _ _ _
      | exact estoverslaw37_awake.mono _
      | exact stackdist_Lru.mono _ _ _
      | exact LeO.none _
      | refine LeO.ite ?_ ?_
      | refine LeO.bind ?_ (fun _ => ?_)
    · intro y0 y1 y2 y3 y4 y5 y6 y7 y8
      unfold estoverslaw37_StackdistInclusion.l1
      repeat' first
      | (with_reducible exact ih0 _ _ _)
      | (with_reducible exact ih1 _ _ _ _)
      | (with_reducible exact ih2 _ _ _ _ _ _ _ _)
      | (with_reducible exact ih3 _ _ _ _ _ _ _ _ _)
      | (with_reducible exact estoverslaw37_awake.mono _)
      | (with_reducible exact stackdist_Lru.mono _ _ _)
      | (with_reducible exact LeO.refl _)
      | (with_reducible exact LeO.none _)
      | (with_reducible refine LeO.ite ?_ ?_)
      | (with_reducible refine LeO.bind ?_ (fun _ => ?_))
      | exact ih0 _ _ _
      | exact ih1 _ _ _ _
      | exact ih2 _ _ _ _ _ _ _ _
      | exact ih3 _ _ _ _ _ _ _ _ _
      | exact estoverslaw37_awake.mono _
      | exact stackdist_Lru.mono _ _ _
      | exact LeO.none _
      | refine LeO.ite ?_ ?_
      | refine LeO.bind ?_ (fun _ => ?_)
theorem estoverslaw37_StackdistInclusion.mono : ∀ a0 a1 k, LeO (estoverslaw37_StackdistInclusion.f k a0 a1) (estoverslaw37_StackdistInclusion.f (k + 1) a0 a1) := by
  intro a0 a1 k
  obtain ⟨ih0, ih1, ih2, ih3⟩ := estoverslaw37_StackdistInclusion.mono_l k
  unfold estoverslaw37_StackdistInclusion.f
  repeat' first
      | (with_reducible exact ih0 _ _ _)
      | (with_reducible exact ih1 _ _ _ _)
      | (with_reducible exact ih2 _ _ _ _ _ _ _ _)
      | (with_reducible exact ih3 _ _ _ _ _ _ _ _ _)
      | (with_reducible exact estoverslaw37_awake.mono _)
      | (with_reducible exact stackdist_Lru.mono _ _ _)
      | (with_reducible exact LeO.refl _)
      | (with_reducible exact LeO.none _)
      | (with_reducible refine LeO.ite ?_ ?_)
      | (with_reducible refine LeO.bind ?_ (fun _ => ?_))
      | exact ih0 _ _ _
      | exact ih1 _ _ _ _
      | exact ih2 _ _ _ _ _ _ _ _
      | exact ih3 _ _ _ _ _ _ _ _ _
      | exact estoverslaw37_awake.mono _
      | exact stackdist_Lru.mono _ _ _
      | exact LeO.none _
      | refine LeO.ite ?_ ?_
      | refine LeO.bind ?_ (fun _ => ?_)
set_option maxHeartbeats 8000000 in
set_option maxRecDepth 100000 in
theorem estoverslaw37_StackdistInclusion.calls (k : Nat) (A0 : Option Addr) (c0 : Nat) (l0 : List Int) (a1 : Int) (r : Bool) (w : World) (hr0 : Kd.C (Kd.int .i64) w A0 l0.length l0) (hc0 : l0.length ≤ c0) (h : estoverslaw37_StackdistInclusion.f k l0 a1 = some r) :
    Calls Try.prog 7 #[.slice A0 l0.length c0, .int .u8 a1] w fun e w' => e = .returned (.bool r) ∧ Below w.heap.size w w' := by
  have HR0 := Aside0.mk hr0
  have HC0 := Aside0.mk hc0
  clear hr0 hc0
  have HB := Aside0.mk (Below.refl w.heap.size w)
  have H : ((estoverslaw37_awake.f k).bind fun t391 => (if t391 = true then (estoverslaw37_StackdistInclusion.j0 k l0 a1 (decide ((l0.length : Int) > 100))) else (estoverslaw37_StackdistInclusion.j0 k l0 a1 true))) = some r := h
  clear h
  have HC3 := Aside0.mk H
  clear H
  go_enter Try.func7, Try.ntmps7
  go_upto_region 1 with (fail)
  repeat (go_quiet (fail); go_upto_region 1 with (fail))
  go_cut [20] (fun v20 wc => ∃ (kq : Nat) (x20_2 : Bool), v20 = .bool x20_2 ∧ Aside0 (estoverslaw37_StackdistInclusion.j0 kq l0 a1 x20_2 = some r) ∧ Aside0 (kq ≤ k) ∧ Aside0 (Below w.heap.size w wc))
  case first =>
    have H := HC3.out
    clear HC3
    replace H := Option.bind_eq_some_iff.mp H
    obtain ⟨t391, A40, H⟩ := H
    replace H : (if t391 = true then (estoverslaw37_StackdistInclusion.j0 k l0 a1 (decide ((l0.length : Int) > 100))) else (estoverslaw37_StackdistInclusion.j0 k l0 a1 true)) = some r := H
    have A4 := Aside0.mk A40
    clear A40
    by_cases c5 : t391 = true
    · subst c5
      have H1 : (estoverslaw37_StackdistInclusion.j0 k l0 a1 (decide ((l0.length : Int) > 100))) = some r := by rw [if_pos rfl] at H; exact H
      clear H
      have H := H1
      clear H1
      have H' := Aside0.mk H
      clear H
      go_wp2_with (first | (go_at_call 14; (with_reducible refine (estoverslaw37_awake.calls k  true _ A4.out).mono ?_); rintro e w6 ⟨rfl, hb⟩; have n0_ := Aside0.mk (below_step (by repeat (first | (with_reducible first | exact HB.out | apply below_alloc | apply pw_below_drewN | apply below_drew1) | exact HB.out)) hb); clear HB; have HB := n0_; clear n0_; (try clear hb); (try clear hb2); (try clear hk); (try clear hi)))
      repeat (go_quiet (first | (go_at_call 14; (with_reducible refine (estoverslaw37_awake.calls k  true _ A4.out).mono ?_); rintro e w6 ⟨rfl, hb⟩; have n0_ := Aside0.mk (below_step (by repeat (first | (with_reducible first | exact HB.out | apply below_alloc | apply pw_below_drewN | apply below_drew1) | exact HB.out)) hb); clear HB; have HB := n0_; clear n0_; (try clear hb); (try clear hb2); (try clear hk); (try clear hi))); try go_wp2_with (first | (go_at_call 14; (with_reducible refine (estoverslaw37_awake.calls k  true _ A4.out).mono ?_); rintro e w6 ⟨rfl, hb⟩; have n0_ := Aside0.mk (below_step (by repeat (first | (with_reducible first | exact HB.out | apply below_alloc | apply pw_below_drewN | apply below_drew1) | exact HB.out)) hb); clear HB; have HB := n0_; clear n0_; (try clear hb); (try clear hb2); (try clear hk); (try clear hi))))
      go_meet
      case rel => exact ⟨_, (decide ((l0.length : Int) > 100)), (by first | rfl | (simp; done) | (simp [*]; done)), H', ⟨by first | omega | exact Nat.le_refl _⟩, ⟨by repeat (first | (with_reducible first | exact HB.out | apply below_alloc | apply pw_below_drewN | apply below_drew1) | exact HB.out)⟩⟩
    · replace c5 := Bool.eq_false_iff.mpr c5
      subst c5
      have H1 : (estoverslaw37_StackdistInclusion.j0 k l0 a1 true) = some r := by rw [if_neg (show ¬ (false = true) by decide)] at H; exact H
      clear H
      have H := H1
      clear H1
      have H' := Aside0.mk H
      clear H
      go_wp2_with (first | (go_at_call 14; (with_reducible refine (estoverslaw37_awake.calls k  false _ A4.out).mono ?_); rintro e w7 ⟨rfl, hb⟩; have n0_ := Aside0.mk (below_step (by repeat (first | (with_reducible first | exact HB.out | apply below_alloc | apply pw_below_drewN | apply below_drew1) | exact HB.out)) hb); clear HB; have HB := n0_; clear n0_; (try clear hb); (try clear hb2); (try clear hk); (try clear hi)))
      repeat (go_quiet (first | (go_at_call 14; (with_reducible refine (estoverslaw37_awake.calls k  false _ A4.out).mono ?_); rintro e w7 ⟨rfl, hb⟩; have n0_ := Aside0.mk (below_step (by repeat (first | (with_reducible first | exact HB.out | apply below_alloc | apply pw_below_drewN | apply below_drew1) | exact HB.out)) hb); clear HB; have HB := n0_; clear n0_; (try clear hb); (try clear hb2); (try clear hk); (try clear hi))); try go_wp2_with (first | (go_at_call 14; (with_reducible refine (estoverslaw37_awake.calls k  false _ A4.out).mono ?_); rintro e w7 ⟨rfl, hb⟩; have n0_ := Aside0.mk (below_step (by repeat (first | (with_reducible first | exact HB.out | apply below_alloc | apply pw_below_drewN | apply below_drew1) | exact HB.out)) hb); clear HB; have HB := n0_; clear n0_; (try clear hb); (try clear hb2); (try clear hk); (try clear hi))))
      go_meet
      case rel => exact ⟨_, (true), (by first | rfl | (simp; done) | (simp [*]; done)), H', ⟨by first | omega | exact Nat.le_refl _⟩, ⟨by repeat (first | (with_reducible first | exact HB.out | apply below_alloc | apply pw_below_drewN | apply below_drew1) | exact HB.out)⟩⟩
  case rest =>
    clear HC3
    try clear p2
    try clear c5
    try clear c7
    obtain ⟨kq, x20_2, rfl, HA, HJ2, HB⟩ := hcut
    cases kq with
    | zero => exact absurd HA.out (by simp [estoverslaw37_StackdistInclusion.j0])
    | succ kj2 =>
      have H := HA.out
      clear HA
      simp only [estoverslaw37_StackdistInclusion.j0] at H
      by_cases c8 : x20_2 = true
      · subst c8
        have H1 : ((estoverslaw37_awake.f kj2).bind fun t392 => (some t392)) = some r := by rw [if_pos rfl] at H; exact H
        clear H
        have H := H1
        clear H1
        replace H := Option.bind_eq_some_iff.mp H
        obtain ⟨t392, A90, H⟩ := H
        replace H : (some t392) = some r := H
        have A9 := Aside0.mk A90
        clear A90
        obtain rfl := Option.some.inj H
        go_wp2_with (first | (go_at_call 14; (with_reducible refine (estoverslaw37_awake.calls kj2  t392 _ A9.out).mono ?_); rintro e w10 ⟨rfl, hb⟩; have n0_ := Aside0.mk (below_step (by repeat (first | (with_reducible first | exact HB.out | apply below_alloc | apply pw_below_drewN | apply below_drew1) | exact HB.out)) hb); clear HB; have HB := n0_; clear n0_; (try clear hb); (try clear hb2); (try clear hk); (try clear hi)))
        repeat (go_quiet (first | (go_at_call 14; (with_reducible refine (estoverslaw37_awake.calls kj2  t392 _ A9.out).mono ?_); rintro e w10 ⟨rfl, hb⟩; have n0_ := Aside0.mk (below_step (by repeat (first | (with_reducible first | exact HB.out | apply below_alloc | apply pw_below_drewN | apply below_drew1) | exact HB.out)) hb); clear HB; have HB := n0_; clear n0_; (try clear hb); (try clear hb2); (try clear hk); (try clear hi))); try go_wp2_with (first | (go_at_call 14; (with_reducible refine (estoverslaw37_awake.calls kj2  t392 _ A9.out).mono ?_); rintro e w10 ⟨rfl, hb⟩; have n0_ := Aside0.mk (below_step (by repeat (first | (with_reducible first | exact HB.out | apply below_alloc | apply pw_below_drewN | apply below_drew1) | exact HB.out)) hb); clear HB; have HB := n0_; clear n0_; (try clear hb); (try clear hb2); (try clear hk); (try clear hi))))
        go_ret
        exact ⟨by first | rfl | (simp [errW_none, errW_some] <;> rfl) | (simp [*, errW_none, errW_some] <;> rfl), by repeat (first | (with_reducible first | exact HB.out | apply below_alloc | apply pw_below_drewN | apply below_drew1) | exact HB.out)⟩
      · replace c8 := Bool.eq_false_iff.mpr c8
        subst c8
        have H1 : (estoverslaw37_StackdistInclusion.l0 kj2 l0 (Int.tmod (wrap64 (a1)) 20) (l0.length : Int) 0) = some r := by rw [if_neg (show ¬ (false = true) by decide)] at H; exact H
        clear H
        have H := H1
        clear H1
        have H' := Aside0.mk H
        clear H
        go_wp2
        repeat (go_quiet (fail); try go_wp2)
        go_loopg [27] kj2 (fun kq v27 w' => ∃ (x27_2 : Int), v27 = .int .i64 x27_2 ∧ Aside0 (estoverslaw37_StackdistInclusion.l0 kq l0 (Int.tmod (wrap64 (a1)) 20) (l0.length : Int) x27_2 = some r) ∧ Aside0 (kq ≤ kj2) ∧ Aside0 (Below w.heap.size w w'))
        case atStart => exact ⟨(0), (by first | rfl | (simp; done) | (simp [*]; done)), H', ⟨Nat.le_refl _⟩, ⟨by repeat (first | (with_reducible first | exact HB.out | apply below_alloc | apply pw_below_drewN | apply below_drew1) | exact HB.out)⟩⟩
        case round =>
          clear H'
          try clear p2
          try clear c5
          try clear p6
          try clear c7
          try clear c8
          try clear p2
          obtain ⟨x27_2, rfl, HA, HK2, HB⟩ := hrel
          cases gk with
          | zero => exact absurd HA.out (by simp [estoverslaw37_StackdistInclusion.l0])
          | succ k2 =>
            have H := HA.out
            clear HA
            simp only [estoverslaw37_StackdistInclusion.l0] at H
            by_cases c11 : x27_2 < (l0.length : Int)
            · rw [if_pos c11] at H
              have c11b0 : decide (x27_2 < (l0.length : Int)) = true := decide_eq_true c11
              clear c11
              obtain ⟨ji12, hji12⟩ : ∃ j_ : Int, (wrap64 (x27_2 + 1)) = j_ := ⟨_, rfl⟩
              replace H : (if 0 ≤ (ji12) then (if (ji12) ≤ (l0.length : Int) then ((stackdist_Lru.f k2 (l0.take ((ji12) : Int).toNat) (Int.tmod (wrap64 (a1)) 20)).bind fun bt394 => ((stackdist_Lru.f k2 (l0.take ((ji12) : Int).toNat) (wrap64 ((Int.tmod (wrap64 (a1)) 20) + 1))).bind fun bt400 => (if bt394.2.2 = 0 then (if bt400.2.2 = 0 then (if bt394.1 < bt400.1 then (estoverslaw37_StackdistInclusion.j2 k2 l0 (Int.tmod (wrap64 (a1)) 20) x27_2 bt394.2.1 bt400.2.1 (l0.length : Int) x27_2 true) else (if (bt394.2.1.length : Int) > (Int.tmod (wrap64 (a1)) 20) then (estoverslaw37_StackdistInclusion.j2 k2 l0 (Int.tmod (wrap64 (a1)) 20) x27_2 bt394.2.1 bt400.2.1 (l0.length : Int) x27_2 true) else (if (bt394.2.1.length : Int) > (bt400.2.1.length : Int) then (estoverslaw37_StackdistInclusion.j2 k2 l0 (Int.tmod (wrap64 (a1)) 20) x27_2 bt394.2.1 bt400.2.1 (l0.length : Int) x27_2 true) else (estoverslaw37_StackdistInclusion.j2 k2 l0 (Int.tmod (wrap64 (a1)) 20) x27_2 bt394.2.1 bt400.2.1 (l0.length : Int) x27_2 (decide ((bt400.2.1.length : Int) > (wrap64 ((Int.tmod (wrap64 (a1)) 20) + 1)))))))) else (estoverslaw37_StackdistInclusion.j2 k2 l0 (Int.tmod (wrap64 (a1)) 20) x27_2 bt394.2.1 bt400.2.1 (l0.length : Int) x27_2 true)) else (estoverslaw37_StackdistInclusion.j2 k2 l0 (Int.tmod (wrap64 (a1)) 20) x27_2 bt394.2.1 bt400.2.1 (l0.length : Int) x27_2 true)))) else (none)) else (none)) = some r := by first | (rw [hji12] at H; exact H) | (simp only [hji12] at H ⊢; exact H)
              have hji12w : (IntKind.i64.wrap (x27_2 + 1)) = ji12 := (i64_w _).trans hji12
              by_cases c13 : 0 ≤ (ji12)
              · rw [if_pos c13] at H
                have c13b0 := eq_true c13
                have c13b1 : decide (0 ≤ (ji12)) = true := decide_eq_true c13
                clear c13
                by_cases c14 : (ji12) ≤ (l0.length : Int)
                · rw [if_pos c14] at H
                  have c14b0 := eq_true c14
                  have c14b1 : decide ((ji12) ≤ (l0.length : Int)) = true := decide_eq_true c14
                  clear c14
                  replace H := Option.bind_eq_some_iff.mp H
                  obtain ⟨⟨t394, t395, t396⟩, A150, H⟩ := H
                  replace H : ((stackdist_Lru.f k2 (l0.take ((ji12) : Int).toNat) (wrap64 ((Int.tmod (wrap64 (a1)) 20) + 1))).bind fun bt400 => (if t396 = 0 then (if bt400.2.2 = 0 then (if t394 < bt400.1 then (estoverslaw37_StackdistInclusion.j2 k2 l0 (Int.tmod (wrap64 (a1)) 20) x27_2 t395 bt400.2.1 (l0.length : Int) x27_2 true) else (if (t395.length : Int) > (Int.tmod (wrap64 (a1)) 20) then (estoverslaw37_StackdistInclusion.j2 k2 l0 (Int.tmod (wrap64 (a1)) 20) x27_2 t395 bt400.2.1 (l0.length : Int) x27_2 true) else (if (t395.length : Int) > (bt400.2.1.length : Int) then (estoverslaw37_StackdistInclusion.j2 k2 l0 (Int.tmod (wrap64 (a1)) 20) x27_2 t395 bt400.2.1 (l0.length : Int) x27_2 true) else (estoverslaw37_StackdistInclusion.j2 k2 l0 (Int.tmod (wrap64 (a1)) 20) x27_2 t395 bt400.2.1 (l0.length : Int) x27_2 (decide ((bt400.2.1.length : Int) > (wrap64 ((Int.tmod (wrap64 (a1)) 20) + 1)))))))) else (estoverslaw37_StackdistInclusion.j2 k2 l0 (Int.tmod (wrap64 (a1)) 20) x27_2 t395 bt400.2.1 (l0.length : Int) x27_2 true)) else (estoverslaw37_StackdistInclusion.j2 k2 l0 (Int.tmod (wrap64 (a1)) 20) x27_2 t395 bt400.2.1 (l0.length : Int) x27_2 true))) = some r := H
                  have A15 := Aside0.mk A150
                  clear A150
                  have c16b0 := eq_true (of_decide_eq_true (by first | (with_reducible assumption) | assumption) : 0 ≤ (ji12))
                  have c17b0 := eq_true (of_decide_eq_true (by first | (with_reducible assumption) | assumption) : (ji12) ≤ (l0.length : Int))
                  replace H := Option.bind_eq_some_iff.mp H
                  obtain ⟨⟨t400, t401, t402⟩, A180, H⟩ := H
                  replace H : (if t396 = 0 then (if t402 = 0 then (if t394 < t400 then (estoverslaw37_StackdistInclusion.j2 k2 l0 (Int.tmod (wrap64 (a1)) 20) x27_2 t395 t401 (l0.length : Int) x27_2 true) else (if (t395.length : Int) > (Int.tmod (wrap64 (a1)) 20) then (estoverslaw37_StackdistInclusion.j2 k2 l0 (Int.tmod (wrap64 (a1)) 20) x27_2 t395 t401 (l0.length : Int) x27_2 true) else (if (t395.length : Int) > (t401.length : Int) then (estoverslaw37_StackdistInclusion.j2 k2 l0 (Int.tmod (wrap64 (a1)) 20) x27_2 t395 t401 (l0.length : Int) x27_2 true) else (estoverslaw37_StackdistInclusion.j2 k2 l0 (Int.tmod (wrap64 (a1)) 20) x27_2 t395 t401 (l0.length : Int) x27_2 (decide ((t401.length : Int) > (wrap64 ((Int.tmod (wrap64 (a1)) 20) + 1)))))))) else (estoverslaw37_StackdistInclusion.j2 k2 l0 (Int.tmod (wrap64 (a1)) 20) x27_2 t395 t401 (l0.length : Int) x27_2 true)) else (estoverslaw37_StackdistInclusion.j2 k2 l0 (Int.tmod (wrap64 (a1)) 20) x27_2 t395 t401 (l0.length : Int) x27_2 true)) = some r := H
                  have A18 := Aside0.mk A180
                  clear A180
                  have HC19 := Aside0.mk H
                  clear H
                  obtain ⟨i020, hi020, _, hsz20, _⟩ := info_parts info3
                  obtain ⟨hcut20, hA20, hC20⟩ := print_take_of (P := Try.prog) (Value.int .i64) 0 22 3 .i64 Try.underlying22 hi020 hsz20 A0 c0 l0 (ji12) (of_decide_eq_true (by first | (with_reducible assumption) | assumption)) (of_decide_eq_true (by first | (with_reducible assumption) | assumption)) HC0.out
                  have HR393 := Aside0.mk (Kd.C_of_reads (h1 := fun _ => rfl) (hA20 _ (Kd.reads_of_C HR0.out)))
                  have HC393 := Aside0.mk hC20
                  clear hA20 hC20 hi020 hsz20
                  go_upto_region 9 with (first | (go_at_call 20; rw [show (((ji12) : Int)).toNat = (l0.take (((ji12) : Int)).toNat).length from (show ∀ n : Int, n ≤ (l0.length : Int) → n.toNat = (l0.take n.toNat).length from fun n h => by rw [List.length_take]; omega) _ (of_decide_eq_true (by first | (with_reducible assumption) | assumption))]; (with_reducible refine (stackdist_Lru.calls k2 _ _ (l0.take ((ji12) : Int).toNat) (Int.tmod (wrap64 (a1)) 20) t394 t395 t396 _ ?side1 ?side2 A15.out).mono ?_); (case side1 => repeat (first | exact (Kd.C_below HR393.out HB.out) | (with_reducible refine Kd.C_alloc ?_ _) | (with_reducible refine Kd.C_drewN ?_ _) | (with_reducible refine Kd.C_drew ?_))); (case side2 => exact HC393.out); rintro e w21 ⟨v397, rfl, ho0, hb⟩; have n0_ := Aside0.mk (Kd.R_lower ho0 (below_size (by repeat (first | (with_reducible first | exact HB.out | apply below_alloc | apply pw_below_drewN | apply below_drew1) | exact HB.out)))); have n1_ := Aside0.mk (below_step (by repeat (first | (with_reducible first | exact HB.out | apply below_alloc | apply pw_below_drewN | apply below_drew1) | exact HB.out)) hb); clear HB; have HO398 := n0_; have HB := n1_; clear n0_ n1_; (try clear hb); (try clear hb2); (try clear hk); (try clear hi); (try clear ho0); obtain ⟨i022, hi022, _, hsz22, _⟩ := info_parts info3; obtain ⟨hcut22, hA22, hC22⟩ := print_take_of (P := Try.prog) (Value.int .i64) 0 22 3 .i64 Try.underlying22 hi022 hsz22 A0 c0 l0 (ji12) (of_decide_eq_true (by first | (with_reducible assumption) | assumption)) (of_decide_eq_true (by first | (with_reducible assumption) | assumption)) HC0.out; have HR399 := Aside0.mk (Kd.C_of_reads (h1 := fun _ => rfl) (hA22 _ (Kd.reads_of_C HR0.out))); have HC399 := Aside0.mk hC22; clear hA22 hC22 hi022 hsz22) | (go_at_call 20; rw [show (((ji12) : Int)).toNat = (l0.take (((ji12) : Int)).toNat).length from (show ∀ n : Int, n ≤ (l0.length : Int) → n.toNat = (l0.take n.toNat).length from fun n h => by rw [List.length_take]; omega) _ (of_decide_eq_true (by first | (with_reducible assumption) | assumption))]; (with_reducible refine (stackdist_Lru.calls k2 _ _ (l0.take ((ji12) : Int).toNat) (wrap64 ((Int.tmod (wrap64 (a1)) 20) + 1)) t400 t401 t402 _ ?side1 ?side2 A18.out).mono ?_); (case side1 => repeat (first | exact (Kd.C_below HR399.out HB.out) | (with_reducible refine Kd.C_alloc ?_ _) | (with_reducible refine Kd.C_drewN ?_ _) | (with_reducible refine Kd.C_drew ?_))); (case side2 => exact HC399.out); rintro e w23 ⟨v403, rfl, ho0, hb⟩; have n0_ := Aside0.mk (Kd.R_elder' (by (with_reducible repeat (first | apply Kd.R_alloc | apply Kd.R_drewN | apply Kd.R_drew)); exact HO398.out) (Kd.R_base ho0) hb); have n1_ := Aside0.mk (Kd.R_lower (Kd.R_new' ho0 (Kd.R_lt (by (with_reducible repeat (first | apply Kd.R_alloc | apply Kd.R_drewN | apply Kd.R_drew)); exact HO398.out))) (below_size (by repeat (first | (with_reducible first | exact HB.out | apply below_alloc | apply pw_below_drewN | apply below_drew1) | exact HB.out)))); have n2_ := Aside0.mk (below_step (by repeat (first | (with_reducible first | exact HB.out | apply below_alloc | apply pw_below_drewN | apply below_drew1) | exact HB.out)) hb); clear HO398; clear HB; have HO398 := n0_; have HO404 := n1_; have HB := n2_; clear n0_ n1_ n2_; (try clear hb); (try clear hb2); (try clear hk); (try clear hi); (try clear ho0)))
                  repeat (go_quiet (first | (go_at_call 20; rw [show (((ji12) : Int)).toNat = (l0.take (((ji12) : Int)).toNat).length from (show ∀ n : Int, n ≤ (l0.length : Int) → n.toNat = (l0.take n.toNat).length from fun n h => by rw [List.length_take]; omega) _ (of_decide_eq_true (by first | (with_reducible assumption) | assumption))]; (with_reducible refine (stackdist_Lru.calls k2 _ _ (l0.take ((ji12) : Int).toNat) (Int.tmod (wrap64 (a1)) 20) t394 t395 t396 _ ?side1 ?side2 A15.out).mono ?_); (case side1 => repeat (first | exact (Kd.C_below HR393.out HB.out) | (with_reducible refine Kd.C_alloc ?_ _) | (with_reducible refine Kd.C_drewN ?_ _) | (with_reducible refine Kd.C_drew ?_))); (case side2 => exact HC393.out); rintro e w21 ⟨v397, rfl, ho0, hb⟩; have n0_ := Aside0.mk (Kd.R_lower ho0 (below_size (by repeat (first | (with_reducible first | exact HB.out | apply below_alloc | apply pw_below_drewN | apply below_drew1) | exact HB.out)))); have n1_ := Aside0.mk (below_step (by repeat (first | (with_reducible first | exact HB.out | apply below_alloc | apply pw_below_drewN | apply below_drew1) | exact HB.out)) hb); clear HB; have HO398 := n0_; have HB := n1_; clear n0_ n1_; (try clear hb); (try clear hb2); (try clear hk); (try clear hi); (try clear ho0); obtain ⟨i022, hi022, _, hsz22, _⟩ := info_parts info3; obtain ⟨hcut22, hA22, hC22⟩ := print_take_of (P := Try.prog) (Value.int .i64) 0 22 3 .i64 Try.underlying22 hi022 hsz22 A0 c0 l0 (ji12) (of_decide_eq_true (by first | (with_reducible assumption) | assumption)) (of_decide_eq_true (by first | (with_reducible assumption) | assumption)) HC0.out; have HR399 := Aside0.mk (Kd.C_of_reads (h1 := fun _ => rfl) (hA22 _ (Kd.reads_of_C HR0.out))); have HC399 := Aside0.mk hC22; clear hA22 hC22 hi022 hsz22) | (go_at_call 20; rw [show (((ji12) : Int)).toNat = (l0.take (((ji12) : Int)).toNat).length from (show ∀ n : Int, n ≤ (l0.length : Int) → n.toNat = (l0.take n.toNat).length from fun n h => by rw [List.length_take]; omega) _ (of_decide_eq_true (by first | (with_reducible assumption) | assumption))]; (with_reducible refine (stackdist_Lru.calls k2 _ _ (l0.take ((ji12) : Int).toNat) (wrap64 ((Int.tmod (wrap64 (a1)) 20) + 1)) t400 t401 t402 _ ?side1 ?side2 A18.out).mono ?_); (case side1 => repeat (first | exact (Kd.C_below HR399.out HB.out) | (with_reducible refine Kd.C_alloc ?_ _) | (with_reducible refine Kd.C_drewN ?_ _) | (with_reducible refine Kd.C_drew ?_))); (case side2 => exact HC399.out); rintro e w23 ⟨v403, rfl, ho0, hb⟩; have n0_ := Aside0.mk (Kd.R_elder' (by (with_reducible repeat (first | apply Kd.R_alloc | apply Kd.R_drewN | apply Kd.R_drew)); exact HO398.out) (Kd.R_base ho0) hb); have n1_ := Aside0.mk (Kd.R_lower (Kd.R_new' ho0 (Kd.R_lt (by (with_reducible repeat (first | apply Kd.R_alloc | apply Kd.R_drewN | apply Kd.R_drew)); exact HO398.out))) (below_size (by repeat (first | (with_reducible first | exact HB.out | apply below_alloc | apply pw_below_drewN | apply below_drew1) | exact HB.out)))); have n2_ := Aside0.mk (below_step (by repeat (first | (with_reducible first | exact HB.out | apply below_alloc | apply pw_below_drewN | apply below_drew1) | exact HB.out)) hb); clear HO398; clear HB; have HO398 := n0_; have HO404 := n1_; have HB := n2_; clear n0_ n1_ n2_; (try clear hb); (try clear hb2); (try clear hk); (try clear hi); (try clear ho0))); go_upto_region 9 with (first | (go_at_call 20; rw [show (((ji12) : Int)).toNat = (l0.take (((ji12) : Int)).toNat).length from (show ∀ n : Int, n ≤ (l0.length : Int) → n.toNat = (l0.take n.toNat).length from fun n h => by rw [List.length_take]; omega) _ (of_decide_eq_true (by first | (with_reducible assumption) | assumption))]; (with_reducible refine (stackdist_Lru.calls k2 _ _ (l0.take ((ji12) : Int).toNat) (Int.tmod (wrap64 (a1)) 20) t394 t395 t396 _ ?side1 ?side2 A15.out).mono ?_); (case side1 => repeat (first | exact (Kd.C_below HR393.out HB.out) | (with_reducible refine Kd.C_alloc ?_ _) | (with_reducible refine Kd.C_drewN ?_ _) | (with_reducible refine Kd.C_drew ?_))); (case side2 => exact HC393.out); rintro e w21 ⟨v397, rfl, ho0, hb⟩; have n0_ := Aside0.mk (Kd.R_lower ho0 (below_size (by repeat (first | (with_reducible first | exact HB.out | apply below_alloc | apply pw_below_drewN | apply below_drew1) | exact HB.out)))); have n1_ := Aside0.mk (below_step (by repeat (first | (with_reducible first | exact HB.out | apply below_alloc | apply pw_below_drewN | apply below_drew1) | exact HB.out)) hb); clear HB; have HO398 := n0_; have HB := n1_; clear n0_ n1_; (try clear hb); (try clear hb2); (try clear hk); (try clear hi); (try clear ho0); obtain ⟨i022, hi022, _, hsz22, _⟩ := info_parts info3; obtain ⟨hcut22, hA22, hC22⟩ := print_take_of (P := Try.prog) (Value.int .i64) 0 22 3 .i64 Try.underlying22 hi022 hsz22 A0 c0 l0 (ji12) (of_decide_eq_true (by first | (with_reducible assumption) | assumption)) (of_decide_eq_true (by first | (with_reducible assumption) | assumption)) HC0.out; have HR399 := Aside0.mk (Kd.C_of_reads (h1 := fun _ => rfl) (hA22 _ (Kd.reads_of_C HR0.out))); have HC399 := Aside0.mk hC22; clear hA22 hC22 hi022 hsz22) | (go_at_call 20; rw [show (((ji12) : Int)).toNat = (l0.take (((ji12) : Int)).toNat).length from (show ∀ n : Int, n ≤ (l0.length : Int) → n.toNat = (l0.take n.toNat).length from fun n h => by rw [List.length_take]; omega) _ (of_decide_eq_true (by first | (with_reducible assumption) | assumption))]; (with_reducible refine (stackdist_Lru.calls k2 _ _ (l0.take ((ji12) : Int).toNat) (wrap64 ((Int.tmod (wrap64 (a1)) 20) + 1)) t400 t401 t402 _ ?side1 ?side2 A18.out).mono ?_); (case side1 => repeat (first | exact (Kd.C_below HR399.out HB.out) | (with_reducible refine Kd.C_alloc ?_ _) | (with_reducible refine Kd.C_drewN ?_ _) | (with_reducible refine Kd.C_drew ?_))); (case side2 => exact HC399.out); rintro e w23 ⟨v403, rfl, ho0, hb⟩; have n0_ := Aside0.mk (Kd.R_elder' (by (with_reducible repeat (first | apply Kd.R_alloc | apply Kd.R_drewN | apply Kd.R_drew)); exact HO398.out) (Kd.R_base ho0) hb); have n1_ := Aside0.mk (Kd.R_lower (Kd.R_new' ho0 (Kd.R_lt (by (with_reducible repeat (first | apply Kd.R_alloc | apply Kd.R_drewN | apply Kd.R_drew)); exact HO398.out))) (below_size (by repeat (first | (with_reducible first | exact HB.out | apply below_alloc | apply pw_below_drewN | apply below_drew1) | exact HB.out)))); have n2_ := Aside0.mk (below_step (by repeat (first | (with_reducible first | exact HB.out | apply below_alloc | apply pw_below_drewN | apply below_drew1) | exact HB.out)) hb); clear HO398; clear HB; have HO398 := n0_; have HO404 := n1_; have HB := n2_; clear n0_ n1_ n2_; (try clear hb); (try clear hb2); (try clear hk); (try clear hi); (try clear ho0))))
                  (try simp only [Act.put, List.setIfInBounds_toArray, List.set_cons_zero, List.set_cons_succ])
                  go_cut [81] (fun v81 wc => ∃ (kq : Nat) (x81_18 : Bool), v81 = .bool x81_18 ∧ Aside0 (estoverslaw37_StackdistInclusion.j2 kq l0 (Int.tmod (wrap64 (a1)) 20) x27_2 t395 t401 (l0.length : Int) x27_2 x81_18 = some r) ∧ Aside0 (kq ≤ k2) ∧ Aside0 (Kd.R (Kd.int .i64) 3 wc w.heap.size (fun k_ => some k_ ≠ (v403 : Value).ownBlock) v397 t395) ∧ Aside0 (Kd.R (Kd.int .i64) 3 wc w.heap.size (fun k_ => some k_ ≠ (v397 : Value).ownBlock) v403 t401) ∧ Aside0 (Below w.heap.size w wc))
                  case first =>
                    have H := HC19.out
                    clear HC19
                    by_cases c24 : t396 = 0
                    · rw [if_pos c24] at H
                      have c24b0 : (t396 == 0) = true := beq_iff_eq.mpr c24
                      have c24b1 : (t396 != 0) = false := bne_eq_false_iff_eq.mpr c24
                      clear c24
                      (first | rw [c24b0] | (simp only [i64_w, i32_w]; rw [c24b0]) | skip)
                      by_cases c25 : t402 = 0
                      · rw [if_pos c25] at H
                        have c25b0 : (t402 == 0) = true := beq_iff_eq.mpr c25
                        have c25b1 : (t402 != 0) = false := bne_eq_false_iff_eq.mpr c25
                        clear c25
                        by_cases c26 : t394 < t400
                        · rw [if_pos c26] at H
                          have c26b0 : decide (t394 < t400) = true := decide_eq_true c26
                          clear c26
                          have H' := Aside0.mk H
                          clear H
                          go_wp2
                          repeat (go_quiet (fail); try go_wp2)
                          go_meet
                          case rel => exact ⟨_, (true), (by first | rfl | (simp; done) | (simp [*]; done)), H', ⟨by have := HJ2.out; have := HK2.out; first | omega | exact Nat.le_refl _⟩, ⟨by (with_reducible repeat (first | apply Kd.R_alloc | apply Kd.R_drewN | apply Kd.R_drew)); exact Kd.R_mono HO398.out (fun _ hk => hk.2)⟩, ⟨by (with_reducible repeat (first | apply Kd.R_alloc | apply Kd.R_drewN | apply Kd.R_drew)); exact Kd.R_mono HO404.out (fun _ hk => hk.2)⟩, ⟨by repeat (first | (with_reducible first | exact HB.out | apply below_alloc | apply pw_below_drewN | apply below_drew1) | exact HB.out)⟩⟩
                        · rw [if_neg c26] at H
                          have c26b0 : decide (t394 < t400) = false := decide_eq_false c26
                          clear c26
                          by_cases c27 : (t395.length : Int) > (Int.tmod (wrap64 (a1)) 20)
                          · rw [if_pos c27] at H
                            have c27b0 : decide ((Int.tmod (wrap64 (a1)) 20) < (t395.length : Int)) = true := decide_eq_true c27
                            clear c27
                            have H' := Aside0.mk H
                            clear H
                            obtain ⟨Ao28, co28, eo28⟩ := Kd.R_slice HO398.out
                            subst eo28
                            go_wp2
                            repeat (go_quiet (fail); try go_wp2)
                            go_meet
                            case rel => exact ⟨_, (true), (by first | rfl | (simp; done) | (simp [*]; done)), H', ⟨by have := HJ2.out; have := HK2.out; first | omega | exact Nat.le_refl _⟩, ⟨by (with_reducible repeat (first | apply Kd.R_alloc | apply Kd.R_drewN | apply Kd.R_drew)); exact Kd.R_mono HO398.out (fun _ hk => hk.2)⟩, ⟨by (with_reducible repeat (first | apply Kd.R_alloc | apply Kd.R_drewN | apply Kd.R_drew)); exact Kd.R_mono HO404.out (fun _ hk => hk.2)⟩, ⟨by repeat (first | (with_reducible first | exact HB.out | apply below_alloc | apply pw_below_drewN | apply below_drew1) | exact HB.out)⟩⟩
                          · rw [if_neg c27] at H
                            have c27b0 : decide ((Int.tmod (wrap64 (a1)) 20) < (t395.length : Int)) = false := decide_eq_false c27
                            clear c27
                            by_cases c29 : (t395.length : Int) > (t401.length : Int)
                            · rw [if_pos c29] at H
                              have c29b0 : decide ((t401.length : Int) < (t395.length : Int)) = true := decide_eq_true c29
                              have c29b1 : decide (t401.length < t395.length) = true := decide_eq_true (Int.ofNat_lt.mp c29)
                              clear c29
                              have H' := Aside0.mk H
                              clear H
                              obtain ⟨Ao30, co30, eo30⟩ := Kd.R_slice HO398.out
                              subst eo30
                              obtain ⟨Ao31, co31, eo31⟩ := Kd.R_slice HO404.out
                              subst eo31
                              go_wp2
                              repeat (go_quiet (fail); try go_wp2)
                              go_meet
                              case rel => exact ⟨_, (true), (by first | rfl | (simp; done) | (simp [*]; done)), H', ⟨by have := HJ2.out; have := HK2.out; first | omega | exact Nat.le_refl _⟩, ⟨by (with_reducible repeat (first | apply Kd.R_alloc | apply Kd.R_drewN | apply Kd.R_drew)); exact Kd.R_mono HO398.out (fun _ hk => hk.2)⟩, ⟨by (with_reducible repeat (first | apply Kd.R_alloc | apply Kd.R_drewN | apply Kd.R_drew)); exact Kd.R_mono HO404.out (fun _ hk => hk.2)⟩, ⟨by repeat (first | (with_reducible first | exact HB.out | apply below_alloc | apply pw_below_drewN | apply below_drew1) | exact HB.out)⟩⟩
                            · rw [if_neg c29] at H
                              have c29b0 : decide ((t401.length : Int) < (t395.length : Int)) = false := decide_eq_false c29
                              have c29b1 : decide (t401.length < t395.length) = false := decide_eq_false (fun h => c29 (Int.ofNat_lt.mpr h))
                              clear c29
                              have H' := Aside0.mk H
                              clear H
                              obtain ⟨Ao32, co32, eo32⟩ := Kd.R_slice HO398.out
                              subst eo32
                              obtain ⟨Ao33, co33, eo33⟩ := Kd.R_slice HO404.out
                              subst eo33
                              go_wp2
                              repeat (go_quiet (fail); try go_wp2)
                              go_meet
                              case rel => exact ⟨_, (decide ((t401.length : Int) > (wrap64 ((Int.tmod (wrap64 (a1)) 20) + 1)))), (by first | rfl | (simp; done) | (simp [*]; done)), H', ⟨by have := HJ2.out; have := HK2.out; first | omega | exact Nat.le_refl _⟩, ⟨by (with_reducible repeat (first | apply Kd.R_alloc | apply Kd.R_drewN | apply Kd.R_drew)); exact Kd.R_mono HO398.out (fun _ hk => hk.2)⟩, ⟨by (with_reducible repeat (first | apply Kd.R_alloc | apply Kd.R_drewN | apply Kd.R_drew)); exact Kd.R_mono HO404.out (fun _ hk => hk.2)⟩, ⟨by repeat (first | (with_reducible first | exact HB.out | apply below_alloc | apply pw_below_drewN | apply below_drew1) | exact HB.out)⟩⟩
                      · rw [if_neg c25] at H
                        have c25b0 : (t402 == 0) = false := beq_eq_false_iff_ne.mpr c25
                        have c25b1 : (t402 != 0) = true := bne_iff_ne.mpr c25
                        have H' := Aside0.mk H
                        clear H
                        go_wp2
                        repeat (go_quiet (fail); try go_wp2)
                        go_meet
                        case rel => exact ⟨_, (true), (by first | rfl | (simp; done) | (simp [*]; done)), H', ⟨by have := HJ2.out; have := HK2.out; first | omega | exact Nat.le_refl _⟩, ⟨by (with_reducible repeat (first | apply Kd.R_alloc | apply Kd.R_drewN | apply Kd.R_drew)); exact Kd.R_mono HO398.out (fun _ hk => hk.2)⟩, ⟨by (with_reducible repeat (first | apply Kd.R_alloc | apply Kd.R_drewN | apply Kd.R_drew)); exact Kd.R_mono HO404.out (fun _ hk => hk.2)⟩, ⟨by repeat (first | (with_reducible first | exact HB.out | apply below_alloc | apply pw_below_drewN | apply below_drew1) | exact HB.out)⟩⟩
                    · rw [if_neg c24] at H
                      have c24b0 : (t396 == 0) = false := beq_eq_false_iff_ne.mpr c24
                      have c24b1 : (t396 != 0) = true := bne_iff_ne.mpr c24
                      (first | rw [c24b0] | (simp only [i64_w, i32_w]; rw [c24b0]) | skip)
                      have H' := Aside0.mk H
                      clear H
                      go_wp2
                      repeat (go_quiet (fail); try go_wp2)
                      go_meet
                      case rel => exact ⟨_, (true), (by first | rfl | (simp; done) | (simp [*]; done)), H', ⟨by have := HJ2.out; have := HK2.out; first | omega | exact Nat.le_refl _⟩, ⟨by (with_reducible repeat (first | apply Kd.R_alloc | apply Kd.R_drewN | apply Kd.R_drew)); exact Kd.R_mono HO398.out (fun _ hk => hk.2)⟩, ⟨by (with_reducible repeat (first | apply Kd.R_alloc | apply Kd.R_drewN | apply Kd.R_drew)); exact Kd.R_mono HO404.out (fun _ hk => hk.2)⟩, ⟨by repeat (first | (with_reducible first | exact HB.out | apply below_alloc | apply pw_below_drewN | apply below_drew1) | exact HB.out)⟩⟩
                  case rest =>
                    clear HC19
                    try clear c1
                    try clear c2
                    try clear p2
                    try clear c5
                    try clear p6
                    try clear c7
                    try clear c8
                    try clear c11
                    try clear c11b0
                    try clear c13
                    try clear c13b0
                    try clear c13b1
                    try clear c14
                    try clear c14b0
                    try clear c14b1
                    try clear c16
                    try clear c16b0
                    try clear c17
                    try clear c17b0
                    try clear c24
                    try clear c24b0
                    try clear c24b1
                    try clear c25
                    try clear c25b0
                    try clear c25b1
                    try clear c26
                    try clear c26b0
                    try clear c27
                    try clear c27b0
                    try clear c29
                    try clear c29b0
                    try clear c29b1
                    try clear p2
                    try clear p6
                    obtain ⟨kq, x81_18, rfl, HA, HJ18, HO_8, HO_11, HB⟩ := hcut
                    cases kq with
                    | zero => exact absurd HA.out (by simp [estoverslaw37_StackdistInclusion.j2])
                    | succ kj18 =>
                      have H := HA.out
                      clear HA
                      simp only [estoverslaw37_StackdistInclusion.j2] at H
                      by_cases c34 : x81_18 = true
                      · subst c34
                        have H1 : (some false) = some r := by rw [if_pos rfl] at H; exact H
                        clear H
                        have H := H1
                        clear H1
                        obtain rfl := Option.some.inj H
                        go_wp2
                        repeat (go_quiet (fail); try go_wp2)
                        go_ret
                        exact ⟨by first | rfl | (simp [errW_none, errW_some] <;> rfl) | (simp only [← hji12]; first | rfl | (simp [errW_none, errW_some] <;> rfl)) | (simp [*, errW_none, errW_some] <;> rfl), by repeat (first | (with_reducible first | exact HB.out | apply below_alloc | apply pw_below_drewN | apply below_drew1) | exact HB.out)⟩
                      · replace c34 := Bool.eq_false_iff.mpr c34
                        subst c34
                        have H1 : (estoverslaw37_StackdistInclusion.l1 kj18 l0 (Int.tmod (wrap64 (a1)) 20) x27_2 t395 t401 (l0.length : Int) x27_2 (t395.length : Int) 0) = some r := by rw [if_neg (show ¬ (false = true) by decide)] at H; exact H
                        clear H
                        have H := H1
                        clear H1
                        have H' := Aside0.mk H
                        clear H
                        obtain ⟨Ao35, co35, eo35⟩ := Kd.R_slice HO_8.out
                        subst eo35
                        go_wp2
                        repeat (go_quiet (fail); try go_wp2)
                        go_loopg [84] kj18 (fun kq v84 w' => ∃ (x84_4 : Int), v84 = .int .i64 x84_4 ∧ Aside0 (estoverslaw37_StackdistInclusion.l1 kq l0 (Int.tmod (wrap64 (a1)) 20) x27_2 t395 t401 (l0.length : Int) x27_2 (t395.length : Int) x84_4 = some r) ∧ Aside0 (kq ≤ kj18) ∧ Aside0 (Kd.R (Kd.int .i64) 3 w' w.heap.size (fun k_ => some k_ ≠ (v403 : Value).ownBlock) (.slice Ao35 t395.length co35) t395) ∧ Aside0 (Kd.R (Kd.int .i64) 3 w' w.heap.size (fun k_ => some k_ ≠ ((.slice Ao35 t395.length co35) : Value).ownBlock) v403 t401) ∧ Aside0 (Below w.heap.size w w'))
                        case atStart => exact ⟨(0), (by first | rfl | (simp; done) | (simp [*]; done)), H', ⟨Nat.le_refl _⟩, ⟨by (with_reducible repeat (first | apply Kd.R_alloc | apply Kd.R_drewN | apply Kd.R_drew)); exact HO_8.out⟩, ⟨by (with_reducible repeat (first | apply Kd.R_alloc | apply Kd.R_drewN | apply Kd.R_drew)); exact HO_11.out⟩, ⟨by repeat (first | (with_reducible first | exact HB.out | apply below_alloc | apply pw_below_drewN | apply below_drew1) | exact HB.out)⟩⟩
                        case round =>
                          clear H'
                          try clear c1
                          try clear c2
                          try clear p2
                          try clear c3
                          try clear c5
                          try clear p6
                          try clear c7
                          try clear c8
                          try clear c11
                          try clear c11b0
                          try clear c13
                          try clear c13b0
                          try clear c13b1
                          try clear c14
                          try clear c14b0
                          try clear c14b1
                          try clear c16
                          try clear c16b0
                          try clear c17
                          try clear c17b0
                          try clear c24
                          try clear c24b0
                          try clear c24b1
                          try clear c25
                          try clear c25b0
                          try clear c25b1
                          try clear c26
                          try clear c26b0
                          try clear c27
                          try clear c27b0
                          try clear c29
                          try clear c29b0
                          try clear c29b1
                          try clear c34
                          try clear p2
                          try clear p6
                          obtain ⟨x84_4, rfl, HA, HK4, HO_8, HO_11, HB⟩ := hrel
                          cases gk with
                          | zero => exact absurd HA.out (by simp [estoverslaw37_StackdistInclusion.l1])
                          | succ k4 =>
                            have H := HA.out
                            clear HA
                            simp only [estoverslaw37_StackdistInclusion.l1] at H
                            by_cases c36 : x84_4 < (t395.length : Int)
                            · rw [if_pos c36] at H
                              have c36b0 : decide (x84_4 < (t395.length : Int)) = true := decide_eq_true c36
                              clear c36
                              by_cases c37 : 0 ≤ x84_4
                              · rw [if_pos c37] at H
                                have c37b0 : decide (0 ≤ x84_4) = true := decide_eq_true c37
                                clear c37
                                by_cases c38 : x84_4 < (t395.length : Int)
                                · rw [if_pos c38] at H
                                  have c38b0 : decide (x84_4 < (t395.length : Int)) = true := decide_eq_true c38
                                  clear c38
                                  by_cases c39 : x84_4 < (t401.length : Int)
                                  · rw [if_pos c39] at H
                                    have c39b0 : decide (x84_4 < (t401.length : Int)) = true := decide_eq_true c39
                                    clear c39
                                    by_cases c40 : (rd t395 x84_4) = (rd t401 x84_4)
                                    · rw [if_pos c40] at H
                                      have c40b0 : ((rd t395 x84_4) == (rd t401 x84_4)) = true := beq_iff_eq.mpr c40
                                      have c40b1 : ((rd t395 x84_4) != (rd t401 x84_4)) = false := bne_eq_false_iff_eq.mpr c40
                                      clear c40
                                      have H' := Aside0.mk H
                                      clear H
                                      have p405 : 0 ≤ (x84_4 : Int) := of_decide_eq_true (by first | (with_reducible assumption) | assumption)
                                      have q405 : x84_4 < (t395.length : Int) := of_decide_eq_true (by first | (with_reducible assumption) | assumption)
                                      obtain ⟨ad405, e405, hx405_0⟩ := Kd.at_int (Kd.R_reads' HO_8.out).2.2 x84_4 p405 q405
                                      cases e405
                                      replace p405 := eq_true p405
                                      replace q405 := eq_true q405
                                      obtain ⟨Ao41, co41, eo41⟩ := Kd.R_slice HO_11.out
                                      subst eo41
                                      have p406 : 0 ≤ (x84_4 : Int) := of_decide_eq_true (by first | (with_reducible assumption) | assumption)
                                      have q406 : x84_4 < (t401.length : Int) := of_decide_eq_true (by first | (with_reducible assumption) | assumption)
                                      obtain ⟨ad406, e406, hx406_0⟩ := Kd.at_int (Kd.R_reads' HO_11.out).2.2 x84_4 p406 q406
                                      cases e406
                                      replace p406 := eq_true p406
                                      replace q406 := eq_true q406
                                      go_wp2
                                      repeat (go_quiet (fail); try go_wp2)
                                      go_roundg k4
                                      case measure => have := HJ2.out; have := HK2.out; have := HJ18.out; have := HK4.out; omega
                                      case rel => exact ⟨(wrap64 (x84_4 + 1)), (by first | rfl | (simp; done) | (simp [*]; done)), H', ⟨by have := HJ2.out; have := HK2.out; have := HJ18.out; have := HK4.out; omega⟩, ⟨by (with_reducible repeat (first | apply Kd.R_alloc | apply Kd.R_drewN | apply Kd.R_drew)); exact HO_8.out⟩, ⟨by (with_reducible repeat (first | apply Kd.R_alloc | apply Kd.R_drewN | apply Kd.R_drew)); exact HO_11.out⟩, ⟨by repeat (first | (with_reducible first | exact HB.out | apply below_alloc | apply pw_below_drewN | apply below_drew1) | exact HB.out)⟩⟩
                                    · rw [if_neg c40] at H
                                      have c40b0 : ((rd t395 x84_4) == (rd t401 x84_4)) = false := beq_eq_false_iff_ne.mpr c40
                                      have c40b1 : ((rd t395 x84_4) != (rd t401 x84_4)) = true := bne_iff_ne.mpr c40
                                      obtain rfl := Option.some.inj H
                                      have p405 : 0 ≤ (x84_4 : Int) := of_decide_eq_true (by first | (with_reducible assumption) | assumption)
                                      have q405 : x84_4 < (t395.length : Int) := of_decide_eq_true (by first | (with_reducible assumption) | assumption)
                                      obtain ⟨ad405, e405, hx405_0⟩ := Kd.at_int (Kd.R_reads' HO_8.out).2.2 x84_4 p405 q405
                                      cases e405
                                      replace p405 := eq_true p405
                                      replace q405 := eq_true q405
                                      obtain ⟨Ao42, co42, eo42⟩ := Kd.R_slice HO_11.out
                                      subst eo42
                                      have p406 : 0 ≤ (x84_4 : Int) := of_decide_eq_true (by first | (with_reducible assumption) | assumption)
                                      have q406 : x84_4 < (t401.length : Int) := of_decide_eq_true (by first | (with_reducible assumption) | assumption)
                                      obtain ⟨ad406, e406, hx406_0⟩ := Kd.at_int (Kd.R_reads' HO_11.out).2.2 x84_4 p406 q406
                                      cases e406
                                      replace p406 := eq_true p406
                                      replace q406 := eq_true q406
                                      go_wp2
                                      repeat (go_quiet (fail); try go_wp2)
                                      go_ret
                                      exact ⟨by first | rfl | (simp [errW_none, errW_some] <;> rfl) | (simp only [← hji12]; first | rfl | (simp [errW_none, errW_some] <;> rfl)) | (simp [*, errW_none, errW_some] <;> rfl), by repeat (first | (with_reducible first | exact HB.out | apply below_alloc | apply pw_below_drewN | apply below_drew1) | exact HB.out)⟩
                                  · rw [if_neg c39] at H
                                    exact absurd H (by simp)
                                · rw [if_neg c38] at H
                                  exact absurd H (by simp)
                              · rw [if_neg c37] at H
                                exact absurd H (by simp)
                            · rw [if_neg c36] at H
                              have c36b0 : decide (x84_4 < (t395.length : Int)) = false := decide_eq_false c36
                              clear c36
                              by_cases c43 : (t401.length : Int) = 0
                              · rw [if_pos c43] at H
                                have c43b0 : ((t401.length : Int) == 0) = true := beq_iff_eq.mpr c43
                                have c43b1 : ((t401.length : Int) != 0) = false := bne_eq_false_iff_eq.mpr c43
                                clear c43
                                obtain rfl := Option.some.inj H
                                obtain ⟨Ao44, co44, eo44⟩ := Kd.R_slice HO_11.out
                                subst eo44
                                go_wp2
                                repeat (go_quiet (fail); try go_wp2)
                                go_ret
                                exact ⟨by first | rfl | (simp [errW_none, errW_some] <;> rfl) | (simp only [← hji12]; first | rfl | (simp [errW_none, errW_some] <;> rfl)) | (simp [*, errW_none, errW_some] <;> rfl), by repeat (first | (with_reducible first | exact HB.out | apply below_alloc | apply pw_below_drewN | apply below_drew1) | exact HB.out)⟩
                              · rw [if_neg c43] at H
                                have c43b0 : ((t401.length : Int) == 0) = false := beq_eq_false_iff_ne.mpr c43
                                have c43b1 : ((t401.length : Int) != 0) = true := bne_iff_ne.mpr c43
                                have c43b2 : ¬ (t401 = []) := fun h_ => c43 (by rw [h_]; rfl)
                                by_cases c45 : 0 < (t401.length : Int)
                                · rw [if_pos c45] at H
                                  have c45b0 : decide (0 < (t401.length : Int)) = true := decide_eq_true c45
                                  have c45b1 : decide (0 < t401.length) = true := decide_eq_true (by omega)
                                  clear c45
                                  by_cases c46 : 0 ≤ x27_2
                                  · rw [if_pos c46] at H
                                    have c46b0 : decide (0 ≤ x27_2) = true := decide_eq_true c46
                                    clear c46
                                    by_cases c47 : x27_2 < (l0.length : Int)
                                    · rw [if_pos c47] at H
                                      have c47b0 : decide (x27_2 < (l0.length : Int)) = true := decide_eq_true c47
                                      clear c47
                                      by_cases c48 : (rd t401 0) = (rd l0 x27_2)
                                      · rw [if_pos c48] at H
                                        have c48b0 : ((rd t401 0) == (rd l0 x27_2)) = true := beq_iff_eq.mpr c48
                                        have c48b1 : ((rd t401 0) != (rd l0 x27_2)) = false := bne_eq_false_iff_eq.mpr c48
                                        clear c48
                                        have H' := Aside0.mk H
                                        clear H
                                        obtain ⟨Ao49, co49, eo49⟩ := Kd.R_slice HO_11.out
                                        subst eo49
                                        have p407 : 0 ≤ (0 : Int) := (by omega)
                                        have q407 : 0 < (t401.length : Int) := of_decide_eq_true (by first | (with_reducible assumption) | assumption)
                                        obtain ⟨ad407, e407, hx407_0⟩ := Kd.at_int (Kd.R_reads' HO_11.out).2.2 0 p407 q407
                                        cases e407
                                        have qi407 : (0 < t401.length) = True := eq_true (by omega)
                                        (try rw [show ((0 : Int)).toNat = 0 from rfl] at hx407_0)
                                        (try rw [Addr.add_zero'] at hx407_0)
                                        replace p407 := eq_true p407
                                        replace q407 := eq_true q407
                                        have p408 : 0 ≤ (x27_2 : Int) := of_decide_eq_true (by first | (with_reducible assumption) | assumption)
                                        have q408 : x27_2 < (l0.length : Int) := of_decide_eq_true (by first | (with_reducible assumption) | assumption)
                                        obtain ⟨ad408, e408, hx408_0⟩ := Kd.at_int HR0.out x27_2 p408 q408
                                        cases e408
                                        replace hx408_0 := (HB.out.cell (World.block_lt_of_cell? w _ hx408_0)).trans hx408_0
                                        replace p408 := eq_true p408
                                        replace q408 := eq_true q408
                                        go_wp2
                                        repeat (go_quiet (fail); try go_wp2)
                                        go_roundg k4
                                        case measure => have := HJ2.out; have := HK2.out; have := HJ18.out; have := HK4.out; omega
                                        case rel => exact ⟨(wrap64 (x27_2 + 1)), (by first | rfl | (simp; done) | (simp [*]; done)), H', ⟨by have := HJ2.out; have := HK2.out; have := HJ18.out; have := HK4.out; omega⟩, ⟨by repeat (first | (with_reducible first | exact HB.out | apply below_alloc | apply pw_below_drewN | apply below_drew1) | exact HB.out)⟩⟩
                                      · rw [if_neg c48] at H
                                        have c48b0 : ((rd t401 0) == (rd l0 x27_2)) = false := beq_eq_false_iff_ne.mpr c48
                                        have c48b1 : ((rd t401 0) != (rd l0 x27_2)) = true := bne_iff_ne.mpr c48
                                        obtain rfl := Option.some.inj H
                                        obtain ⟨Ao50, co50, eo50⟩ := Kd.R_slice HO_11.out
                                        subst eo50
                                        have p407 : 0 ≤ (0 : Int) := (by omega)
                                        have q407 : 0 < (t401.length : Int) := of_decide_eq_true (by first | (with_reducible assumption) | assumption)
                                        obtain ⟨ad407, e407, hx407_0⟩ := Kd.at_int (Kd.R_reads' HO_11.out).2.2 0 p407 q407
                                        cases e407
                                        have qi407 : (0 < t401.length) = True := eq_true (by omega)
                                        (try rw [show ((0 : Int)).toNat = 0 from rfl] at hx407_0)
                                        (try rw [Addr.add_zero'] at hx407_0)
                                        replace p407 := eq_true p407
                                        replace q407 := eq_true q407
                                        have p408 : 0 ≤ (x27_2 : Int) := of_decide_eq_true (by first | (with_reducible assumption) | assumption)
                                        have q408 : x27_2 < (l0.length : Int) := of_decide_eq_true (by first | (with_reducible assumption) | assumption)
                                        obtain ⟨ad408, e408, hx408_0⟩ := Kd.at_int HR0.out x27_2 p408 q408
                                        cases e408
                                        replace hx408_0 := (HB.out.cell (World.block_lt_of_cell? w _ hx408_0)).trans hx408_0
                                        replace p408 := eq_true p408
                                        replace q408 := eq_true q408
                                        go_wp2
                                        repeat (go_quiet (fail); try go_wp2)
                                        go_ret
                                        exact ⟨by first | rfl | (simp [errW_none, errW_some] <;> rfl) | (simp only [← hji12]; first | rfl | (simp [errW_none, errW_some] <;> rfl)) | (simp [*, errW_none, errW_some] <;> rfl), by repeat (first | (with_reducible first | exact HB.out | apply below_alloc | apply pw_below_drewN | apply below_drew1) | exact HB.out)⟩
                                    · rw [if_neg c47] at H
                                      exact absurd H (by simp)
                                  · rw [if_neg c46] at H
                                    exact absurd H (by simp)
                                · rw [if_neg c45] at H
                                  exact absurd H (by simp)
                · rw [if_neg c14] at H
                  exact absurd H (by simp)
              · rw [if_neg c13] at H
                exact absurd H (by simp)
            · rw [if_neg c11] at H
              have c11b0 : decide (x27_2 < (l0.length : Int)) = false := decide_eq_false c11
              clear c11
              obtain rfl := Option.some.inj H
              go_wp2
              repeat (go_quiet (fail); try go_wp2)
              go_ret
              exact ⟨by first | rfl | (simp [errW_none, errW_some] <;> rfl) | (simp [*, errW_none, errW_some] <;> rfl), by repeat (first | (with_reducible first | exact HB.out | apply below_alloc | apply pw_below_drewN | apply below_drew1) | exact HB.out)⟩

/-- THE ONE PURE STATEMENT of estoverslaw37_StackdistInclusion: yours. -/
def estoverslaw37_StackdistInclusion.Pure : Prop := ∀ (l0 : List Int) (a1 : Int), l0.length ≤ maxLen → l0.length * 8 ≤ 140737488351232 → (∀ x ∈ l0, (Lit.int .i64 x).wf = true) → (Lit.int .u8 a1).wf = true → ∃ k, estoverslaw37_StackdistInclusion.f k l0 a1 = some true
theorem estoverslaw37_StackdistInclusion.walk (P : estoverslaw37_StackdistInclusion.Pure) (a0 : Option Addr) (len0 cap0 : Nat) (z0 : List Int) (a1 : Int) (w : World) (w0 : (a0 = none ∧ len0 = 0 ∧ cap0 = 0 ∧ z0 = []) ∨ ∃ x, a0 = some x ∧ len0 ≤ cap0 ∧ cap0 ≤ maxLen ∧ z0.length = cap0 ∧ (∀ i, i < z0.length → w.cell? (x.add i) = some (.int .i64 (z0.getD i 0))) ∧ ∀ n ∈ z0, (Lit.int .i64 n).wf = true) (y0 : len0 * 8 ≤ 140737488351232) (w1 : (Lit.int .u8 a1).wf = true) :
    Calls Try.prog 7 #[.slice a0 len0 cap0, .int .u8 a1] w fun e w' => e = .returned (.bool true) ∧ Below w.heap.size w w' := by
  obtain ⟨l0, rfl, hr0, hm0, hw0, hc0⟩ := ReadsInt.ofRowC w0
  obtain ⟨k, h⟩ := P l0 a1 hm0 y0 hw0 w1
  refine (estoverslaw37_StackdistInclusion.calls k _ _ l0 a1 true w (Kd.C_of_reads (d := (0 : Int)) (h1 := fun _ => rfl) hr0) hc0 h).mono ?_
  rintro e w' ⟨rfl, hd⟩
  exact ⟨rfl, hd⟩

end Go.Proofs.Ytbchpnhlaknhjaa.Q
