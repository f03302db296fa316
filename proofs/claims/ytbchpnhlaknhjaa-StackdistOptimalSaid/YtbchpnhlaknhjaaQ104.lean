-- Written by wip/stubprint.py for this claim. Lean checks it.
import Derived.Test.YtbchpnhlaknhjaaQ0
namespace Go.Proofs.Ytbchpnhlaknhjaa.Q
open Go.RowKit Go.Proofs.YtbchpnhlaknhjaaW.PrintWords Go.Proofs.YtbchpnhlaknhjaaW.PrintLast Go.Proofs.YtbchpnhlaknhjaaW.PrintMore
attribute [local go_sem] max2_int min2_int max_two min_two max_three min_three max_four min_four
set_option linter.unusedVariables false
set_option linter.unusedSimpArgs false

/-! ### estoverslaw37_best: function 30 -/
mutual
def estoverslaw37_best.l0 : Nat → List Int → Int → List Int → Int → List Int → Int → Int → Option (Int)
  | 0, _, _, _, _, _, _, _ => none
  | k + 1, x0, x1, x2, x3, x18, x19, x20 => if x20 < x19 then (if 0 ≤ x20 then (if x20 < (x18.length : Int) then (if 0 ≤ x1 then (if x1 < (x0.length : Int) then (if (rd x18 x20) = (rd x0 x1) then ((estoverslaw37_best.f k x0 (wrap64 (x1 + 1)) x2 x3).bind fun t411 => (some t411)) else (estoverslaw37_best.l0 k x0 x1 x2 x3 x18 x19 (wrap64 (x20 + 1)))) else (none)) else (none)) else (none)) else (none)) else (if (x2.length : Int) < x3 then ((some (([] : List Int) : List Int)).bind fun y412 => (if y412.length + x2.length < 17592186044416 then ((some (y412 ++ x2 : List Int)).bind fun y415 => (if 0 ≤ x1 then (if x1 < (x0.length : Int) then ((some (([rd x0 x1] : List Int) : List Int)).bind fun y419 => (if y415.length + y419.length < 17592186044416 then ((estoverslaw37_best.f k x0 (wrap64 (x1 + 1)) (y415 ++ y419) x3).bind fun t425 => (some (wrap64 (1 + t425)))) else (none))) else (none)) else (none))) else (none))) else (estoverslaw37_best.l1 k x0 x1 x2 x3 (x0.length : Int) (x2.length : Int) 0))
def estoverslaw37_best.l1 : Nat → List Int → Int → List Int → Int → Int → Int → Int → Option (Int)
  | 0, _, _, _, _, _, _, _ => none
  | k + 1, x0, x1, x2, x3, x11, x59, x60 => if x60 < x59 then ((some (([] : List Int) : List Int)).bind fun y426 => (if 0 ≤ x60 then (if x60 ≤ (x2.length : Int) then (if y426.length + (x2.take (x60 : Int).toNat).length < 17592186044416 then ((some (y426 ++ (x2.take (x60 : Int).toNat) : List Int)).bind fun y430 => (if 0 ≤ (wrap64 (x60 + 1)) then (if (wrap64 (x60 + 1)) ≤ (x2.length : Int) then (if y430.length + (x2.drop ((wrap64 (x60 + 1)) : Int).toNat).length < 17592186044416 then ((some (y430 ++ (x2.drop ((wrap64 (x60 + 1)) : Int).toNat) : List Int)).bind fun y434 => (if 0 ≤ x1 then (if x1 < (x0.length : Int) then ((some (([rd x0 x1] : List Int) : List Int)).bind fun y438 => (if y434.length + y438.length < 17592186044416 then ((estoverslaw37_best.f k x0 (wrap64 (x1 + 1)) (y434 ++ y438) x3).bind fun t444 => (estoverslaw37_best.l1 k x0 x1 x2 x3 (mn x11 (wrap64 (1 + t444))) x59 (wrap64 (x60 + 1)))) else (none))) else (none)) else (none))) else (none)) else (none)) else (none))) else (none)) else (none)) else (none))) else (some x11)
def estoverslaw37_best.f : Nat → List Int → Int → List Int → Int → Option (Int)
  | 0, _, _, _, _ => none
  | k + 1, l0, a1, l2, a3 => if a1 = (l0.length : Int) then (some 0) else (estoverslaw37_best.l0 k l0 a1 l2 a3 l2 (l2.length : Int) 0)
end
theorem estoverslaw37_best.mono_l : ∀ k, (∀ y0 y1 y2 y3, LeO (estoverslaw37_best.f k y0 y1 y2 y3) (estoverslaw37_best.f (k + 1) y0 y1 y2 y3)) ∧ (∀ y0 y1 y2 y3 y4 y5 y6, LeO (estoverslaw37_best.l0 k y0 y1 y2 y3 y4 y5 y6) (estoverslaw37_best.l0 (k + 1) y0 y1 y2 y3 y4 y5 y6)) ∧ (∀ y0 y1 y2 y3 y4 y5 y6, LeO (estoverslaw37_best.l1 k y0 y1 y2 y3 y4 y5 y6) (estoverslaw37_best.l1 (k + 1) y0 y1 y2 y3 y4 y5 y6))
  | 0 => ⟨fun _ _ _ _ r h => by simp [estoverslaw37_best.f] at h, fun _ _ _ _ _ _ _ r h => by simp [estoverslaw37_best.l0] at h, fun _ _ _ _ _ _ _ r h => by simp [estoverslaw37_best.l1] at h⟩
  | k + 1 => by
    obtain ⟨ih0, ih1, ih2⟩ := estoverslaw37_best.mono_l k
    refine ⟨?_, ?_, ?_⟩
    · intro y0 y1 y2 y3
      unfold estoverslaw37_best.f
      repeat' first
      | (with_reducible exact ih0 _ _ _ _)
      | (with_reducible exact ih1 _ _ _ _ _ _ _)
      | (with_reducible exact ih2 _ _ _ _ _ _ _)
      | (with_reducible exact LeO.refl _)
      | (with_reducible exact LeO.none _)
      | (with_reducible refine LeO.ite ?_ ?_)
      | (with_reducible refine LeO.bind ?_ (fun _ => ?_))
      | exact ih0 _ _ _ _
      | exact ih1 _ _ _ _ _ _ _
      | exact ih2 _ _ _ _ _ _ _
      | exact LeO.none _
      | refine LeO.ite ?_ ?_
      | refine LeO.bind ?_ (fun _ => ?_)
    · intro y0 y1 y2 y3 y4 y5 y6
      unfold estoverslaw37_best.l0
      repeat' first
      | (with_reducible exact ih0 _ _ _ _)
      | (with_reducible exact ih1 _ _ _ _ _ _ _)
      | (with_reducible exact ih2 _ _ _ _ _ _ _)
      | (with_reducible exact LeO.refl _)
      | (with_reducible exact LeO.none _)
      | (with_reducible refine LeO.ite ?_ ?_)
      | (with_reducible refine LeO.bind ?_ (fun _ => ?_))
      | exact ih0 _ _ _ _
      | exact ih1 _ _ _ _ _ _ _
      | exact ih2 _ _ _ _ _ _ _
      | exact LeO.none _
      | refine LeO.ite ?_ ?_
      | refine LeO.bind ?_ (fun _ => ?_)
    · intro y0 y1 y2 y3 y4 y5 y6
      unfold estoverslaw37_best.l1
      repeat' first
      | (with_reducible exact ih0 _ _ _ _)
      | (with_reducible exact ih1 _ _ _ _ _ _ _)
      | (with_reducible exact ih2 _ _ _ _ _ _ _)
      | (with_reducible exact LeO.refl _)
      | (with_reducible exact LeO.none _)
      | (with_reducible refine LeO.ite ?_ ?_)
      | (with_reducible refine LeO.bind ?_ (fun _ => ?_))
      | exact ih0 _ _ _ _
      | exact ih1 _ _ _ _ _ _ _
      | exact ih2 _ _ _ _ _ _ _
      | exact LeO.none _
      | refine LeO.ite ?_ ?_
      | refine LeO.bind ?_ (fun _ => ?_)
theorem estoverslaw37_best.mono : ∀ a0 a1 a2 a3 k, LeO (estoverslaw37_best.f k a0 a1 a2 a3) (estoverslaw37_best.f (k + 1) a0 a1 a2 a3) := by
  intro a0 a1 a2 a3 k
  obtain ⟨ih0, ih1, ih2⟩ := estoverslaw37_best.mono_l k
  exact ih0 a0 a1 a2 a3
def estoverslaw37_best.T10 : Bool × List (List Nat × List Nat) := (true, [([], []), ([], []), ([1], [1]), ([], []), ([], []), ([3, 4], [3, 4]), ([], []), ([], []), ([6, 7], [6, 7]), ([8], [8]), ([9], [9]), ([5, 10, 5], [5, 10]), ([], []), ([0, 2, 11, 12, 11], [0, 2, 11, 12]), ([13], [13]), ([14, 13, 0, 1, 2, 3, 4, 5, 6, 7, 8, 9, 10, 11, 12, 13, 14], [14])])
def estoverslaw37_best.B10 : List Nat := [0, 0, 2, 0, 0, 24, 0, 0, 192, 448, 960, 2040, 0, 8191, 16383, 32767]
theorem estoverslaw37_best.tab10 : rtab .any (opsOf Try.f30 10) = estoverslaw37_best.T10 := by kernel_rfl
theorem estoverslaw37_best.bits10 : waitsOk estoverslaw37_best.T10.2 estoverslaw37_best.B10 = true := by kernel_rfl
def estoverslaw37_best.T15 : Bool × List (List Nat × List Nat) := (true, [([], []), ([], []), ([], []), ([1, 2], [1, 2]), ([0, 3], [0, 3]), ([], []), ([], []), ([6], [6]), ([5, 7], [5, 7]), ([4, 8, 4], [4, 8]), ([9, 9, 0, 1, 2, 3, 4, 5, 6, 7, 8, 9], [9])])
def estoverslaw37_best.B15 : List Nat := [0, 0, 0, 6, 15, 0, 0, 64, 224, 511, 1023]
theorem estoverslaw37_best.tab15 : rtab .any (opsOf Try.f30 15) = estoverslaw37_best.T15 := by kernel_rfl
theorem estoverslaw37_best.bits15 : waitsOk estoverslaw37_best.T15.2 estoverslaw37_best.B15 = true := by kernel_rfl
set_option maxHeartbeats 8000000 in
set_option maxRecDepth 100000 in
theorem estoverslaw37_best.calls (k : Nat) : ∀ (A0 : Option Addr) (c0 : Nat) (l0 : List Int) (a1 : Int) (A2 : Option Addr) (c2 : Nat) (l2 : List Int) (a3 : Int) (r : Int) (w : World) (hr0 : Kd.C (Kd.int .i64) w A0 l0.length l0) (hc0 : l0.length ≤ c0) (hr2 : Kd.C (Kd.int .i64) w A2 l2.length l2) (hc2 : l2.length ≤ c2) (h : estoverslaw37_best.f k l0 a1 l2 a3 = some r),
    Calls Try.prog 30 #[.slice A0 l0.length c0, .int .i64 a1, .slice A2 l2.length c2, .int .i64 a3] w fun e w' => e = .returned (.int .i64 r) ∧ Below w.heap.size w w' := by
  induction k using Nat.strongRecOn with
  | _ k ih =>
  intro A0 c0 l0 a1 A2 c2 l2 a3 r w hr0 hc0 hr2 hc2 h
  cases k with
  | zero => exact absurd h (by simp [estoverslaw37_best.f])
  | succ k =>
  simp only [estoverslaw37_best.f] at h
  have HR0 := Aside0.mk hr0
  have HC0 := Aside0.mk hc0
  clear hr0 hc0
  have HR2 := Aside0.mk hr2
  have HC2 := Aside0.mk hc2
  clear hr2 hc2
  have HB := Aside0.mk (Below.refl w.heap.size w)
  have H : (if a1 = (l0.length : Int) then (some 0) else (estoverslaw37_best.l0 k l0 a1 l2 a3 l2 (l2.length : Int) 0)) = some r := h
  clear h
  by_cases c5 : a1 = (l0.length : Int)
  · rw [if_pos c5] at H
    have c5b0 : (a1 == (l0.length : Int)) = true := beq_iff_eq.mpr c5
    have c5b1 : (a1 != (l0.length : Int)) = false := bne_eq_false_iff_eq.mpr c5
    clear c5
    obtain rfl := Option.some.inj H
    go_enter Try.func30, Try.ntmps30
    go_wp2
    go_ret
    exact ⟨by first | rfl | (simp [errW_none, errW_some] <;> rfl) | (simp [*, errW_none, errW_some] <;> rfl), by repeat (first | (with_reducible first | exact HB.out | apply below_alloc | apply pw_below_drewN | apply below_drew1) | exact HB.out)⟩
  · rw [if_neg c5] at H
    have c5b0 : (a1 == (l0.length : Int)) = false := beq_eq_false_iff_ne.mpr c5
    have c5b1 : (a1 != (l0.length : Int)) = true := bne_iff_ne.mpr c5
    have H' := Aside0.mk H
    clear H
    go_enter Try.func30, Try.ntmps30
    go_wp2
    go_loopg [20] k (fun kq v20 w' => ∃ (x20_1 : Int), v20 = .int .i64 x20_1 ∧ Aside0 (estoverslaw37_best.l0 kq l0 a1 l2 a3 l2 (l2.length : Int) x20_1 = some r) ∧ Aside0 (kq ≤ k) ∧ Aside0 (Below w.heap.size w w'))
    case atStart => exact ⟨(0), (by first | rfl | (simp; done) | (simp [*]; done)), H', ⟨Nat.le_refl _⟩, ⟨by repeat (first | (with_reducible first | exact HB.out | apply below_alloc | apply pw_below_drewN | apply below_drew1) | exact HB.out)⟩⟩
    case round =>
      clear H'
      try clear c2
      try clear p2
      try clear c3
      try clear c5
      try clear c5b0
      try clear c5b1
      obtain ⟨x20_1, rfl, HA, HK1, HB⟩ := hrel
      cases gk with
      | zero => exact absurd HA.out (by simp [estoverslaw37_best.l0])
      | succ k1 =>
        have H := HA.out
        clear HA
        simp only [estoverslaw37_best.l0] at H
        by_cases c6 : x20_1 < (l2.length : Int)
        · rw [if_pos c6] at H
          have c6b0 : decide (x20_1 < (l2.length : Int)) = true := decide_eq_true c6
          clear c6
          by_cases c7 : 0 ≤ x20_1
          · rw [if_pos c7] at H
            have c7b0 : decide (0 ≤ x20_1) = true := decide_eq_true c7
            clear c7
            by_cases c8 : x20_1 < (l2.length : Int)
            · rw [if_pos c8] at H
              have c8b0 : decide (x20_1 < (l2.length : Int)) = true := decide_eq_true c8
              clear c8
              by_cases c9 : 0 ≤ a1
              · rw [if_pos c9] at H
                have c9b0 : decide (0 ≤ a1) = true := decide_eq_true c9
                clear c9
                by_cases c10 : a1 < (l0.length : Int)
                · rw [if_pos c10] at H
                  have c10b0 : decide (a1 < (l0.length : Int)) = true := decide_eq_true c10
                  clear c10
                  by_cases c11 : (rd l2 x20_1) = (rd l0 a1)
                  · rw [if_pos c11] at H
                    have c11b0 : ((rd l2 x20_1) == (rd l0 a1)) = true := beq_iff_eq.mpr c11
                    have c11b1 : ((rd l2 x20_1) != (rd l0 a1)) = false := bne_eq_false_iff_eq.mpr c11
                    clear c11
                    replace H := Option.bind_eq_some_iff.mp H
                    obtain ⟨t411, A120, H⟩ := H
                    replace H : (some t411) = some r := H
                    have A12 := Aside0.mk A120
                    clear A120
                    obtain rfl := Option.some.inj H
                    have p409 : 0 ≤ (x20_1 : Int) := of_decide_eq_true (by first | (with_reducible assumption) | assumption)
                    have q409 : x20_1 < (l2.length : Int) := of_decide_eq_true (by first | (with_reducible assumption) | assumption)
                    obtain ⟨ad409, e409, hx409_0⟩ := Kd.at_int HR2.out x20_1 p409 q409
                    cases e409
                    replace hx409_0 := (HB.out.cell (World.block_lt_of_cell? w _ hx409_0)).trans hx409_0
                    replace p409 := eq_true p409
                    replace q409 := eq_true q409
                    have p410 : 0 ≤ (a1 : Int) := of_decide_eq_true (by first | (with_reducible assumption) | assumption)
                    have q410 : a1 < (l0.length : Int) := of_decide_eq_true (by first | (with_reducible assumption) | assumption)
                    obtain ⟨ad410, e410, hx410_0⟩ := Kd.at_int HR0.out a1 p410 q410
                    cases e410
                    replace hx410_0 := (HB.out.cell (World.block_lt_of_cell? w _ hx410_0)).trans hx410_0
                    replace p410 := eq_true p410
                    replace q410 := eq_true q410
                    go_wp2_with (first | ((with_reducible refine gate_callee (f := 30) rfl ?_); refine goesL_ (some 35) rfl rfl Try.func30 (by kernel_rfl) rfl #[.slice (some ad410) l0.length c0, .int .i64 (wrap64 (a1 + 1)), .slice (some ad409) l2.length c2, .int .i64 a3] rfl (by (try simp only [List.map_toArray, List.map_cons, List.map_nil]); first | done | rfl | (simp only [List.length_drop, List.length_take]; rfl)) ?_; (with_reducible refine (ih k1 (by have := HK1.out; omega) _ _ l0 (wrap64 (a1 + 1)) _ _ l2 a3 t411 _ ?side1 ?side2 ?side3 ?side4 A12.out).mono ?_); (case side1 => repeat (first | exact (Kd.C_below HR0.out HB.out) | (with_reducible refine Kd.C_alloc ?_ _) | (with_reducible refine Kd.C_drewN ?_ _) | (with_reducible refine Kd.C_drew ?_))); (case side2 => exact HC0.out); (case side3 => repeat (first | exact (Kd.C_below HR2.out HB.out) | (with_reducible refine Kd.C_alloc ?_ _) | (with_reducible refine Kd.C_drewN ?_ _) | (with_reducible refine Kd.C_drew ?_))); (case side4 => exact HC2.out); rintro e w13 ⟨rfl, hb⟩; refine ⟨_, rfl, ?_⟩; have n0_ := Aside0.mk (below_step (by repeat (first | (with_reducible first | exact HB.out | apply below_alloc | apply pw_below_drewN | apply below_drew1) | exact HB.out)) hb); clear HB; have HB := n0_; clear n0_; (try clear hb); (try clear hb2); (try clear hk); (try clear hi)))
                    go_ret
                    exact ⟨by first | rfl | (simp [errW_none, errW_some] <;> rfl) | (simp [*, errW_none, errW_some] <;> rfl), by repeat (first | (with_reducible first | exact HB.out | apply below_alloc | apply pw_below_drewN | apply below_drew1) | exact HB.out)⟩
                  · rw [if_neg c11] at H
                    have c11b0 : ((rd l2 x20_1) == (rd l0 a1)) = false := beq_eq_false_iff_ne.mpr c11
                    have c11b1 : ((rd l2 x20_1) != (rd l0 a1)) = true := bne_iff_ne.mpr c11
                    have H' := Aside0.mk H
                    clear H
                    have p409 : 0 ≤ (x20_1 : Int) := of_decide_eq_true (by first | (with_reducible assumption) | assumption)
                    have q409 : x20_1 < (l2.length : Int) := of_decide_eq_true (by first | (with_reducible assumption) | assumption)
                    obtain ⟨ad409, e409, hx409_0⟩ := Kd.at_int HR2.out x20_1 p409 q409
                    cases e409
                    replace hx409_0 := (HB.out.cell (World.block_lt_of_cell? w _ hx409_0)).trans hx409_0
                    replace p409 := eq_true p409
                    replace q409 := eq_true q409
                    have p410 : 0 ≤ (a1 : Int) := of_decide_eq_true (by first | (with_reducible assumption) | assumption)
                    have q410 : a1 < (l0.length : Int) := of_decide_eq_true (by first | (with_reducible assumption) | assumption)
                    obtain ⟨ad410, e410, hx410_0⟩ := Kd.at_int HR0.out a1 p410 q410
                    cases e410
                    replace hx410_0 := (HB.out.cell (World.block_lt_of_cell? w _ hx410_0)).trans hx410_0
                    replace p410 := eq_true p410
                    replace q410 := eq_true q410
                    go_wp2
                    go_roundg k1
                    case measure => have := HK1.out; omega
                    case rel => exact ⟨(wrap64 (x20_1 + 1)), (by first | rfl | (simp; done) | (simp [*]; done)), H', ⟨by have := HK1.out; omega⟩, ⟨by repeat (first | (with_reducible first | exact HB.out | apply below_alloc | apply pw_below_drewN | apply below_drew1) | exact HB.out)⟩⟩
                · rw [if_neg c10] at H
                  exact absurd H (by simp)
              · rw [if_neg c9] at H
                exact absurd H (by simp)
            · rw [if_neg c8] at H
              exact absurd H (by simp)
          · rw [if_neg c7] at H
            exact absurd H (by simp)
        · rw [if_neg c6] at H
          have c6b0 : decide (x20_1 < (l2.length : Int)) = false := decide_eq_false c6
          clear c6
          by_cases c14 : (l2.length : Int) < a3
          · rw [if_pos c14] at H
            have c14b0 : decide ((l2.length : Int) < a3) = true := decide_eq_true c14
            clear c14
            obtain ⟨y412, hy412⟩ : ∃ y_ : List Int, y_ = (([] : List Int)) := ⟨_, rfl⟩
            replace H : (if y412.length + l2.length < 17592186044416 then ((some (y412 ++ l2 : List Int)).bind fun y415 => (if 0 ≤ a1 then (if a1 < (l0.length : Int) then ((some (([rd l0 a1] : List Int) : List Int)).bind fun y419 => (if y415.length + y419.length < 17592186044416 then ((estoverslaw37_best.f k1 l0 (wrap64 (a1 + 1)) (y415 ++ y419) a3).bind fun t425 => (some (wrap64 (1 + t425)))) else (none))) else (none)) else (none))) else (none)) = some r := by first | (rw [hy412]; with_reducible exact H) | (have H2_ := (Option.bind_some _ _).symm.trans H; rw [hy412]; with_reducible exact H2_) | (have H2_ := (Option.bind_some _ _).symm.trans H; with_reducible exact H2_) | with_reducible exact H | (rw [hy412]; exact H) | exact H
            have Ny412 := Aside0.mk hy412
            clear hy412
            by_cases c15 : y412.length + l2.length < 17592186044416
            · rw [if_pos c15] at H
              have LMc15 := Aside0.mk c15
              clear c15
              obtain ⟨y415, hy415⟩ : ∃ y_ : List Int, y_ = (y412 ++ l2) := ⟨_, rfl⟩
              replace H : (if 0 ≤ a1 then (if a1 < (l0.length : Int) then ((some (([rd l0 a1] : List Int) : List Int)).bind fun y419 => (if y415.length + y419.length < 17592186044416 then ((estoverslaw37_best.f k1 l0 (wrap64 (a1 + 1)) (y415 ++ y419) a3).bind fun t425 => (some (wrap64 (1 + t425)))) else (none))) else (none)) else (none)) = some r := by first | (rw [hy415]; with_reducible exact H) | (have H2_ := (Option.bind_some _ _).symm.trans H; rw [hy415]; with_reducible exact H2_) | (have H2_ := (Option.bind_some _ _).symm.trans H; with_reducible exact H2_) | with_reducible exact H | (rw [hy415]; exact H) | exact H
              have Ny415 := Aside0.mk hy415
              clear hy415
              by_cases c16 : 0 ≤ a1
              · rw [if_pos c16] at H
                have c16b0 : decide (0 ≤ a1) = true := decide_eq_true c16
                clear c16
                by_cases c17 : a1 < (l0.length : Int)
                · rw [if_pos c17] at H
                  have c17b0 : decide (a1 < (l0.length : Int)) = true := decide_eq_true c17
                  clear c17
                  obtain ⟨y419, hy419⟩ : ∃ y_ : List Int, y_ = (([rd l0 a1] : List Int)) := ⟨_, rfl⟩
                  replace H : (if y415.length + y419.length < 17592186044416 then ((estoverslaw37_best.f k1 l0 (wrap64 (a1 + 1)) (y415 ++ y419) a3).bind fun t425 => (some (wrap64 (1 + t425)))) else (none)) = some r := by first | (rw [hy419]; with_reducible exact H) | (have H2_ := (Option.bind_some _ _).symm.trans H; rw [hy419]; with_reducible exact H2_) | (have H2_ := (Option.bind_some _ _).symm.trans H; with_reducible exact H2_) | with_reducible exact H | (rw [hy419]; exact H) | exact H
                  have Ny419 := Aside0.mk hy419
                  clear hy419
                  by_cases c18 : y415.length + y419.length < 17592186044416
                  · rw [if_pos c18] at H
                    have LMc18 := Aside0.mk c18
                    clear c18
                    obtain ⟨y422, hy422⟩ : ∃ y_ : List Int, y_ = (y415 ++ y419) := ⟨_, rfl⟩
                    replace H : ((estoverslaw37_best.f k1 l0 (wrap64 (a1 + 1)) y422 a3).bind fun t425 => (some (wrap64 (1 + t425)))) = some r := by first | (rw [hy422]; with_reducible exact H) | (have H2_ := (Option.bind_some _ _).symm.trans H; rw [hy422]; with_reducible exact H2_) | (have H2_ := (Option.bind_some _ _).symm.trans H; with_reducible exact H2_) | with_reducible exact H | (rw [hy422]; exact H) | exact H
                    have Ny422 := Aside0.mk hy422
                    clear hy422
                    replace H := Option.bind_eq_some_iff.mp H
                    obtain ⟨t425, A190, H⟩ := H
                    replace H : (some (wrap64 (1 + t425))) = some r := H
                    have A19 := Aside0.mk A190
                    clear A190
                    obtain rfl := Option.some.inj H
                    try go_wp2
                    have n0_ := Aside0.mk (below_drew1 HB.out)
                    clear HB
                    have HB := n0_
                    clear n0_
                    have p418 : 0 ≤ (a1 : Int) := of_decide_eq_true (by first | (with_reducible assumption) | assumption)
                    have q418 : a1 < (l0.length : Int) := of_decide_eq_true (by first | (with_reducible assumption) | assumption)
                    obtain ⟨ad418, e418, hx418_0⟩ := Kd.at_int HR0.out a1 p418 q418
                    have hw418_0 := hx418_0
                    cases e418
                    replace hx418_0 := (HB.out.cell (World.block_lt_of_cell? w _ hx418_0)).trans hx418_0
                    replace p418 := eq_true p418
                    replace q418 := eq_true q418
                    refine start_ (n := 16) (S := fun w' => w'.cell? (ad418.add (a1).toNat) = some (.int .i64 (rd l0 a1))) (ds := []) #[false, false, false, false, false, false, false, false, false, false, false, false, false, false, false, false] (by kernel_rfl) rfl rfl (((HB.out.cell (World.block_lt_of_cell? w _ hw418_0)).trans hw418_0)) (fun hHeld => ?_); refine with_tabW estoverslaw37_best.tab10 estoverslaw37_best.bits10 (fun HT_ HW_ => ?_)
                    generalize wr.drew = w20 at HB hx418_0 hHeld ⊢
                    refine pure_ (i := 0) (N := some 41) (v := ?_) (a' := ?_) #[true, false, false, false, false, false, false, false, false, false, false, false, false, false, false, false] rfl rfl (any_of HT_.out (by kernel_rfl)) (fun _ _ _ h => h) (Or.inl ⟨by rfl, ?_⟩) ?_ ?_
                    rotate_left
                    · intro w'
                      go_simp
                      with_reducible rfl
                    rotate_left
                    · simp only [Act.put, List.setIfInBounds_toArray, List.set_cons_zero, List.set_cons_succ, i64_w, i32_w]
                      rfl
                    refine pure_ (i := 1) (N := some 42) (v := ?_) (a' := ?_) #[true, true, false, false, false, false, false, false, false, false, false, false, false, false, false, false] rfl rfl (any_of HT_.out (by kernel_rfl)) (fun _ _ _ h => h) (Or.inl ⟨by rfl, ?_⟩) ?_ ?_
                    rotate_left
                    · intro w'
                      go_simp
                      with_reducible rfl
                    rotate_left
                    · simp only [Act.put, List.setIfInBounds_toArray, List.set_cons_zero, List.set_cons_succ, i64_w, i32_w]
                      rfl
                    refine pure_ (i := 2) (N := some 43) (v := ?_) (a' := ?_) #[true, true, true, false, false, false, false, false, false, false, false, false, false, false, false, false] rfl rfl (any_of HT_.out (by kernel_rfl)) (fun _ _ _ h => h) (Or.inl ⟨by rfl, ?_⟩) ?_ ?_
                    rotate_left
                    · intro w'
                      go_simp
                      with_reducible rfl
                    rotate_left
                    · simp only [Act.put, List.setIfInBounds_toArray, List.set_cons_zero, List.set_cons_succ, i64_w, i32_w]
                      rfl
                    refine pure_ (i := 4) (N := some 45) (v := ?_) (a' := ?_) #[true, true, true, false, true, false, false, false, false, false, false, false, false, false, false, false] rfl rfl (any_of HT_.out (by kernel_rfl)) (fun _ _ _ h => h) (Or.inl ⟨by rfl, ?_⟩) ?_ ?_
                    rotate_left
                    · intro w'
                      go_simp
                      with_reducible rfl
                    rotate_left
                    · simp only [Act.put, List.setIfInBounds_toArray, List.set_cons_zero, List.set_cons_succ, i64_w, i32_w]
                      rfl
                    refine pure_ (i := 6) (N := some 47) (v := ?_) (a' := ?_) #[true, true, true, false, true, false, true, false, false, false, false, false, false, false, false, false] rfl rfl (any_of HT_.out (by kernel_rfl)) (fun _ _ _ h => h) (Or.inl ⟨by rfl, ?_⟩) ?_ ?_
                    rotate_left
                    · intro w'
                      go_simp
                      with_reducible rfl
                    rotate_left
                    · simp only [Act.put, List.setIfInBounds_toArray, List.set_cons_zero, List.set_cons_succ, i64_w, i32_w]
                      rfl
                    refine pure_ (i := 7) (N := some 48) (v := ?_) (a' := ?_) #[true, true, true, false, true, false, true, true, false, false, false, false, false, false, false, false] rfl rfl (any_of HT_.out (by kernel_rfl)) (fun _ _ _ h => h) (Or.inl ⟨by rfl, ?_⟩) ?_ ?_
                    rotate_left
                    · intro w'
                      go_simp
                      with_reducible rfl
                    rotate_left
                    · simp only [Act.put, List.setIfInBounds_toArray, List.set_cons_zero, List.set_cons_succ, i64_w, i32_w]
                      rfl
                    refine pure_ (i := 8) (N := some 49) (v := ?_) (a' := ?_) #[true, true, true, false, true, false, true, true, true, false, false, false, false, false, false, false] rfl rfl (any_of HT_.out (by kernel_rfl)) (fun _ _ _ h => h) (Or.inl ⟨by rfl, ?_⟩) ?_ ?_
                    rotate_left
                    · intro w'
                      go_simp
                      with_reducible rfl
                    rotate_left
                    · simp only [Act.put, List.setIfInBounds_toArray, List.set_cons_zero, List.set_cons_succ, i64_w, i32_w]
                      rfl
                    refine pure_ (i := 12) (N := some 53) (v := ?_) (a' := ?_) #[true, true, true, false, true, false, true, true, true, false, false, false, true, false, false, false] rfl rfl (any_of HT_.out (by kernel_rfl)) (fun _ _ _ h => h) (Or.inl ⟨by rfl, ?_⟩) ?_ ?_
                    rotate_left
                    · intro w'
                      go_simp
                      with_reducible rfl
                    rotate_left
                    · simp only [Act.put, List.setIfInBounds_toArray, List.set_cons_zero, List.set_cons_succ, i64_w, i32_w]
                      rfl
                    refine take_ (i := 9) (N := some 50) (v := ?_) (a' := ?_) #[true, true, true, false, true, false, true, true, true, true, false, false, true, false, false, false] rfl rfl (take_ofW HT_.out HW_.out (by kernel_rfl)) (fun _ _ _ h => h) (Or.inl ⟨by rfl, ?_⟩) hHeld ?_ ?_
                    rotate_left
                    · intro w' s0
                      go_simp
                      with_reducible rfl
                    rotate_left
                    · simp only [Act.put, List.setIfInBounds_toArray, List.set_cons_zero, List.set_cons_succ, i64_w, i32_w]
                      rfl
                    refine join_ (σ := Value × Value × Value) 4 #[true, true, true, true, true, true, true, true, true, true, true, false, true, false, false, false] (fun s_ => [(44, s_.1), (46, s_.2.1), (51, s_.2.2)]) (fun s_ w' => (w'.cell? (ad418.add (a1).toNat) = some (.int .i64 (rd l0 a1))) ∧ (Kd.R (Kd.int .i64) 3 w' w.heap.size (fun k_ => some k_ ≠ (s_.2.2 : Value).ownBlock) s_.2.1 y415) ∧ (Kd.R (Kd.int .i64) 3 w' w.heap.size (fun k_ => some k_ ≠ (s_.2.1 : Value).ownBlock) s_.2.2 y419) ∧ (Below w.heap.size w w')) ?_ ?_
                    rotate_left
                    · intro hCont
                      refine two_ (i := 3) (j := 10) (Ni := some 44) (Nj := some 51) #[true, true, true, true, true, false, true, true, true, true, false, false, true, false, false, false] #[true, true, true, false, true, false, true, true, true, true, true, false, true, false, false, false] rfl rfl rfl rfl (two_of HT_.out (by kernel_rfl)) (by decide) (by decide) (fun K hK => ?_) (fun K hK => ?_)
                      · skip
                        refine Kd.R_lit_step (Kd.int .i64) _ 3 ?hg (N := 44) ?hd (xs := ([] : List Int)) (inner := []) (ok := fun _ => True) (okp := fun _ => True) ?hr ?hp (fun _ hk => hk) trivial (Below.refl _ _) (Nat.le_refl _) (by simp) ?_; (case hd => rfl); (case hg => rfl); (case hr => first | (go_simp; done) | (go_simp; rfl)); (case hp => exact (Reps.none _ _))
                        intro v413 w21 ho22 hb hg_ hnew_
                        clear hg_ hnew_
                        (first | rw [← Ny412.out] at ho22 | (simp only [Int.reduceToNat] at ho22; rw [← Ny412.out] at ho22))
                        have n0_ := Aside0.mk (Kd.R_lower ho22 (below_size (by repeat (first | (with_reducible first | exact HB.out | apply below_alloc | apply pw_below_drewN | apply below_drew1) | exact HB.out))))
                        have n1_ := Aside0.mk (below_step (by repeat (first | (with_reducible first | exact HB.out | apply below_alloc | apply pw_below_drewN | apply below_drew1) | exact HB.out)) hb)
                        clear HB
                        have HO414 := n0_
                        have HB := n1_
                        clear n0_ n1_
                        clear hb ho22
                        refine hK.out _ _ (((HB.out.cell (World.block_lt_of_cell? w _ hw418_0)).trans hw418_0)) (fun hHeld => ?_)
                        clear hK K
                        refine norm_ (a' := ?_) ?_ ?_
                        rotate_left
                        · show Act.put _ (some 44) _ = _
                          simp only [Act.put, List.setIfInBounds_toArray, List.set_cons_zero, List.set_cons_succ, i64_w, i32_w]
                          rfl
                        refine two_ (i := 5) (j := 10) (Ni := some 46) (Nj := some 51) #[true, true, true, true, true, true, true, true, true, true, false, false, true, false, false, false] #[true, true, true, true, true, false, true, true, true, true, true, false, true, false, false, false] rfl rfl rfl rfl (two_of HT_.out (by kernel_rfl)) (by decide) (by decide) (fun K hK => ?_) (fun K hK => ?_)
                        · skip
                          refine Kd.R_append_rows_step (Kd.int .i64) (w0 := w) w.heap.size (by rfl) (.tmp 44) (.tmp 45) 22 3 (.int .i64 0) 8 rfl Try.underlying22 info3 rfl (by decide) (by omega) v413 y412 l2 _ _ _ (fun _ => True) (fun _ => False) rfl rfl ?aO ?aR (fun _ _ h => h) (fun _ h => h.elim) ?aF ?aB ?aS ?aL ?_
                          (case aR => repeat (first | exact (Kd.C_below HR2.out HB.out) | (with_reducible refine Kd.C_alloc ?_ _) | (with_reducible refine Kd.C_drewN ?_ _) | (with_reducible refine Kd.C_drew ?_)))
                          (case aB => exact (by repeat (first | (with_reducible first | exact HB.out | apply below_alloc | apply pw_below_drewN | apply below_drew1) | exact HB.out)))
                          (case aF => exact (fun _ _ => trivial))
                          (case aO => exact (by (with_reducible repeat (first | apply Kd.R_alloc | apply Kd.R_drewN | apply Kd.R_drew)); exact HO414.out))
                          (case aS => exact (below_size (by repeat (first | (with_reducible first | exact HB.out | apply below_alloc | apply pw_below_drewN | apply below_drew1) | exact HB.out))))
                          (case aL => have := LMc15.out; omega)
                          intro v416 w23 ho hb hg hat
                          rw [← Ny415.out] at ho
                          have n0_ := Aside0.mk (hb)
                          have n1_ := Aside0.mk (ho)
                          clear HB
                          clear HO414
                          have HB := n0_
                          have HO417 := n1_
                          clear n0_ n1_
                          clear ho hb hg hat
                          refine hK.out _ _ (((HB.out.cell (World.block_lt_of_cell? w _ hw418_0)).trans hw418_0)) (fun hHeld => ?_)
                          clear hK K
                          refine norm_ (a' := ?_) ?_ ?_
                          rotate_left
                          · show Act.put _ (some 46) _ = _
                            simp only [Act.put, List.setIfInBounds_toArray, List.set_cons_zero, List.set_cons_succ, i64_w, i32_w]
                            rfl
                          refine one_ (i := 10) (N := some 51) #[true, true, true, true, true, true, true, true, true, true, true, false, true, false, false, false] rfl rfl (one_of HT_.out (by kernel_rfl)) (by decide) (fun K hK => ?_)
                          refine Kd.R_lit_step (Kd.int .i64) _ 3 ?hg (N := 51) ?hd (xs := ([rd l0 a1] : List Int)) (inner := [.int .i64 (rd l0 a1)]) (ok := fun _ => True) (okp := fun _ => True) ?hr ?hp (fun _ hk => hk) trivial (Below.refl _ _) (Nat.le_refl _) (by simp) ?_; (case hd => rfl); (case hg => rfl); (case hr => first | (go_simp; done) | (go_simp; rfl)); (case hp => exact (Reps.one (show Kd.M (Kd.int .i64) _ _ _ (rd l0 a1) [.int .i64 (rd l0 a1)] from rfl) (Reps.none _ _)))
                          intro v420 w24 ho25 hb hg_ hnew_
                          clear hg_ hnew_
                          (first | rw [← Ny419.out] at ho25 | (simp only [Int.reduceToNat] at ho25; rw [← Ny419.out] at ho25))
                          have n0_ := Aside0.mk (Kd.R_elder' (by (with_reducible repeat (first | apply Kd.R_alloc | apply Kd.R_drewN | apply Kd.R_drew)); exact HO417.out) (Kd.R_base ho25) hb)
                          have n1_ := Aside0.mk (Kd.R_lower (Kd.R_new' ho25 (Kd.R_lt (by (with_reducible repeat (first | apply Kd.R_alloc | apply Kd.R_drewN | apply Kd.R_drew)); exact HO417.out))) (below_size (by repeat (first | (with_reducible first | exact HB.out | apply below_alloc | apply pw_below_drewN | apply below_drew1) | exact HB.out))))
                          have n2_ := Aside0.mk (below_step (by repeat (first | (with_reducible first | exact HB.out | apply below_alloc | apply pw_below_drewN | apply below_drew1) | exact HB.out)) hb)
                          clear HO417
                          clear HB
                          have HO417 := n0_
                          have HO421 := n1_
                          have HB := n2_
                          clear n0_ n1_ n2_
                          clear hb ho25
                          refine hK.out _ _ (((HB.out.cell (World.block_lt_of_cell? w _ hw418_0)).trans hw418_0)) (fun hHeld => ?_)
                          clear hK K
                          refine norm_ (a' := ?_) ?_ ?_
                          rotate_left
                          · show Act.put _ (some 51) _ = _
                            simp only [Act.put, List.setIfInBounds_toArray, List.set_cons_zero, List.set_cons_succ, i64_w, i32_w]
                            rfl
                          exact norm_ (by simp only [putAll, Act.put, List.setIfInBounds_toArray, List.set_cons_zero, List.set_cons_succ]) (hCont (v413, v416, v420) _ ⟨hHeld, (by (with_reducible repeat (first | apply Kd.R_alloc | apply Kd.R_drewN | apply Kd.R_drew)); exact Kd.R_mono HO417.out (fun _ hk => hk.2)), (by (with_reducible repeat (first | apply Kd.R_alloc | apply Kd.R_drewN | apply Kd.R_drew)); exact Kd.R_mono HO421.out (fun _ hk => hk.2)), (by repeat (first | (with_reducible first | exact HB.out | apply below_alloc | apply pw_below_drewN | apply below_drew1) | exact HB.out))⟩)
                        · skip
                          refine Kd.R_lit_step (Kd.int .i64) _ 3 ?hg (N := 51) ?hd (xs := ([rd l0 a1] : List Int)) (inner := [.int .i64 (rd l0 a1)]) (ok := fun _ => True) (okp := fun _ => True) ?hr ?hp (fun _ hk => hk) trivial (Below.refl _ _) (Nat.le_refl _) (by simp) ?_; (case hd => rfl); (case hg => rfl); (case hr => first | (go_simp; done) | (go_simp; rfl)); (case hp => exact (Reps.one (show Kd.M (Kd.int .i64) _ _ _ (rd l0 a1) [.int .i64 (rd l0 a1)] from rfl) (Reps.none _ _)))
                          intro v420 w23 ho24 hb hg_ hnew_
                          clear hg_ hnew_
                          (first | rw [← Ny419.out] at ho24 | (simp only [Int.reduceToNat] at ho24; rw [← Ny419.out] at ho24))
                          have n0_ := Aside0.mk (Kd.R_elder' (by (with_reducible repeat (first | apply Kd.R_alloc | apply Kd.R_drewN | apply Kd.R_drew)); exact HO414.out) (Kd.R_base ho24) hb)
                          have n1_ := Aside0.mk (Kd.R_lower (Kd.R_new' ho24 (Kd.R_lt (by (with_reducible repeat (first | apply Kd.R_alloc | apply Kd.R_drewN | apply Kd.R_drew)); exact HO414.out))) (below_size (by repeat (first | (with_reducible first | exact HB.out | apply below_alloc | apply pw_below_drewN | apply below_drew1) | exact HB.out))))
                          have n2_ := Aside0.mk (below_step (by repeat (first | (with_reducible first | exact HB.out | apply below_alloc | apply pw_below_drewN | apply below_drew1) | exact HB.out)) hb)
                          clear HO414
                          clear HB
                          have HO414 := n0_
                          have HO421 := n1_
                          have HB := n2_
                          clear n0_ n1_ n2_
                          clear hb ho24
                          refine hK.out _ _ (((HB.out.cell (World.block_lt_of_cell? w _ hw418_0)).trans hw418_0)) (fun hHeld => ?_)
                          clear hK K
                          refine norm_ (a' := ?_) ?_ ?_
                          rotate_left
                          · show Act.put _ (some 51) _ = _
                            simp only [Act.put, List.setIfInBounds_toArray, List.set_cons_zero, List.set_cons_succ, i64_w, i32_w]
                            rfl
                          refine one_ (i := 5) (N := some 46) #[true, true, true, true, true, true, true, true, true, true, true, false, true, false, false, false] rfl rfl (one_of HT_.out (by kernel_rfl)) (by decide) (fun K hK => ?_)
                          refine Kd.R_append_rows_step (Kd.int .i64) (w0 := w) w.heap.size (by rfl) (.tmp 44) (.tmp 45) 22 3 (.int .i64 0) 8 rfl Try.underlying22 info3 rfl (by decide) (by omega) v413 y412 l2 _ _ _ (fun k_ => some k_ ≠ (v420 : Value).ownBlock) (fun _ => False) rfl rfl ?aO ?aR (fun _ _ h => h) (fun _ h => h.elim) ?aF ?aB ?aS ?aL ?_
                          (case aR => repeat (first | exact (Kd.C_below HR2.out HB.out) | (with_reducible refine Kd.C_alloc ?_ _) | (with_reducible refine Kd.C_drewN ?_ _) | (with_reducible refine Kd.C_drew ?_)))
                          (case aB => exact (by repeat (first | (with_reducible first | exact HB.out | apply below_alloc | apply pw_below_drewN | apply below_drew1) | exact HB.out)))
                          (case aF => exact (fun k_ hk => Kd.fresh' (Kd.R_lt (by (with_reducible repeat (first | apply Kd.R_alloc | apply Kd.R_drewN | apply Kd.R_drew)); exact HO421.out)) k_ hk))
                          (case aO => exact (by (with_reducible repeat (first | apply Kd.R_alloc | apply Kd.R_drewN | apply Kd.R_drew)); exact Kd.R_mono HO414.out (fun _ hk => hk.2)))
                          (case aS => exact (below_size (by repeat (first | (with_reducible first | exact HB.out | apply below_alloc | apply pw_below_drewN | apply below_drew1) | exact HB.out))))
                          (case aL => have := LMc15.out; omega)
                          intro v416 w25 ho hb hg hat
                          rw [← Ny415.out] at ho
                          have n0_ := Aside0.mk (Kd.R_after (ok := (fun _ => True)) (by (with_reducible repeat (first | apply Kd.R_alloc | apply Kd.R_drewN | apply Kd.R_drew)); exact HO421.out) hg hat)
                          have n1_ := Aside0.mk (hb)
                          have n2_ := Aside0.mk (ho)
                          clear HO421
                          clear HB
                          clear HO414
                          have HO421 := n0_
                          have HB := n1_
                          have HO417 := n2_
                          clear n0_ n1_ n2_
                          clear ho hb hg hat
                          refine hK.out _ _ (((HB.out.cell (World.block_lt_of_cell? w _ hw418_0)).trans hw418_0)) (fun hHeld => ?_)
                          clear hK K
                          refine norm_ (a' := ?_) ?_ ?_
                          rotate_left
                          · show Act.put _ (some 46) _ = _
                            simp only [Act.put, List.setIfInBounds_toArray, List.set_cons_zero, List.set_cons_succ, i64_w, i32_w]
                            rfl
                          exact norm_ (by simp only [putAll, Act.put, List.setIfInBounds_toArray, List.set_cons_zero, List.set_cons_succ]) (hCont (v413, v416, v420) _ ⟨hHeld, (by (with_reducible repeat (first | apply Kd.R_alloc | apply Kd.R_drewN | apply Kd.R_drew)); exact HO417.out), (by (with_reducible repeat (first | apply Kd.R_alloc | apply Kd.R_drewN | apply Kd.R_drew)); exact Kd.R_mono HO421.out (fun _ hk => hk.2)), (by repeat (first | (with_reducible first | exact HB.out | apply below_alloc | apply pw_below_drewN | apply below_drew1) | exact HB.out))⟩)
                      · skip
                        refine Kd.R_lit_step (Kd.int .i64) _ 3 ?hg (N := 51) ?hd (xs := ([rd l0 a1] : List Int)) (inner := [.int .i64 (rd l0 a1)]) (ok := fun _ => True) (okp := fun _ => True) ?hr ?hp (fun _ hk => hk) trivial (Below.refl _ _) (Nat.le_refl _) (by simp) ?_; (case hd => rfl); (case hg => rfl); (case hr => first | (go_simp; done) | (go_simp; rfl)); (case hp => exact (Reps.one (show Kd.M (Kd.int .i64) _ _ _ (rd l0 a1) [.int .i64 (rd l0 a1)] from rfl) (Reps.none _ _)))
                        intro v420 w21 ho22 hb hg_ hnew_
                        clear hg_ hnew_
                        (first | rw [← Ny419.out] at ho22 | (simp only [Int.reduceToNat] at ho22; rw [← Ny419.out] at ho22))
                        have n0_ := Aside0.mk (Kd.R_lower ho22 (below_size (by repeat (first | (with_reducible first | exact HB.out | apply below_alloc | apply pw_below_drewN | apply below_drew1) | exact HB.out))))
                        have n1_ := Aside0.mk (below_step (by repeat (first | (with_reducible first | exact HB.out | apply below_alloc | apply pw_below_drewN | apply below_drew1) | exact HB.out)) hb)
                        clear HB
                        have HO421 := n0_
                        have HB := n1_
                        clear n0_ n1_
                        clear hb ho22
                        refine hK.out _ _ (((HB.out.cell (World.block_lt_of_cell? w _ hw418_0)).trans hw418_0)) (fun hHeld => ?_)
                        clear hK K
                        refine norm_ (a' := ?_) ?_ ?_
                        rotate_left
                        · show Act.put _ (some 51) _ = _
                          simp only [Act.put, List.setIfInBounds_toArray, List.set_cons_zero, List.set_cons_succ, i64_w, i32_w]
                          rfl
                        refine one_ (i := 3) (N := some 44) #[true, true, true, true, true, false, true, true, true, true, true, false, true, false, false, false] rfl rfl (one_of HT_.out (by kernel_rfl)) (by decide) (fun K hK => ?_)
                        refine Kd.R_lit_step (Kd.int .i64) _ 3 ?hg (N := 44) ?hd (xs := ([] : List Int)) (inner := []) (ok := fun _ => True) (okp := fun _ => True) ?hr ?hp (fun _ hk => hk) trivial (Below.refl _ _) (Nat.le_refl _) (by simp) ?_; (case hd => rfl); (case hg => rfl); (case hr => first | (go_simp; done) | (go_simp; rfl)); (case hp => exact (Reps.none _ _))
                        intro v413 w23 ho24 hb hg_ hnew_
                        clear hg_ hnew_
                        (first | rw [← Ny412.out] at ho24 | (simp only [Int.reduceToNat] at ho24; rw [← Ny412.out] at ho24))
                        have n0_ := Aside0.mk (Kd.R_elder' (by (with_reducible repeat (first | apply Kd.R_alloc | apply Kd.R_drewN | apply Kd.R_drew)); exact HO421.out) (Kd.R_base ho24) hb)
                        have n1_ := Aside0.mk (Kd.R_lower (Kd.R_new' ho24 (Kd.R_lt (by (with_reducible repeat (first | apply Kd.R_alloc | apply Kd.R_drewN | apply Kd.R_drew)); exact HO421.out))) (below_size (by repeat (first | (with_reducible first | exact HB.out | apply below_alloc | apply pw_below_drewN | apply below_drew1) | exact HB.out))))
                        have n2_ := Aside0.mk (below_step (by repeat (first | (with_reducible first | exact HB.out | apply below_alloc | apply pw_below_drewN | apply below_drew1) | exact HB.out)) hb)
                        clear HO421
                        clear HB
                        have HO421 := n0_
                        have HO414 := n1_
                        have HB := n2_
                        clear n0_ n1_ n2_
                        clear hb ho24
                        refine hK.out _ _ (((HB.out.cell (World.block_lt_of_cell? w _ hw418_0)).trans hw418_0)) (fun hHeld => ?_)
                        clear hK K
                        refine norm_ (a' := ?_) ?_ ?_
                        rotate_left
                        · show Act.put _ (some 44) _ = _
                          simp only [Act.put, List.setIfInBounds_toArray, List.set_cons_zero, List.set_cons_succ, i64_w, i32_w]
                          rfl
                        refine one_ (i := 5) (N := some 46) #[true, true, true, true, true, true, true, true, true, true, true, false, true, false, false, false] rfl rfl (one_of HT_.out (by kernel_rfl)) (by decide) (fun K hK => ?_)
                        refine Kd.R_append_rows_step (Kd.int .i64) (w0 := w) w.heap.size (by rfl) (.tmp 44) (.tmp 45) 22 3 (.int .i64 0) 8 rfl Try.underlying22 info3 rfl (by decide) (by omega) v413 y412 l2 _ _ _ (fun k_ => some k_ ≠ (v420 : Value).ownBlock) (fun _ => False) rfl rfl ?aO ?aR (fun _ _ h => h) (fun _ h => h.elim) ?aF ?aB ?aS ?aL ?_
                        (case aR => repeat (first | exact (Kd.C_below HR2.out HB.out) | (with_reducible refine Kd.C_alloc ?_ _) | (with_reducible refine Kd.C_drewN ?_ _) | (with_reducible refine Kd.C_drew ?_)))
                        (case aB => exact (by repeat (first | (with_reducible first | exact HB.out | apply below_alloc | apply pw_below_drewN | apply below_drew1) | exact HB.out)))
                        (case aF => exact (fun k_ hk => Kd.fresh' (Kd.R_lt (by (with_reducible repeat (first | apply Kd.R_alloc | apply Kd.R_drewN | apply Kd.R_drew)); exact HO421.out)) k_ hk))
                        (case aO => exact (by (with_reducible repeat (first | apply Kd.R_alloc | apply Kd.R_drewN | apply Kd.R_drew)); exact Kd.R_mono HO414.out (fun _ hk => hk.2)))
                        (case aS => exact (below_size (by repeat (first | (with_reducible first | exact HB.out | apply below_alloc | apply pw_below_drewN | apply below_drew1) | exact HB.out))))
                        (case aL => have := LMc15.out; omega)
                        intro v416 w25 ho hb hg hat
                        rw [← Ny415.out] at ho
                        have n0_ := Aside0.mk (Kd.R_after (ok := (fun _ => True)) (by (with_reducible repeat (first | apply Kd.R_alloc | apply Kd.R_drewN | apply Kd.R_drew)); exact HO421.out) hg hat)
                        have n1_ := Aside0.mk (hb)
                        have n2_ := Aside0.mk (ho)
                        clear HO421
                        clear HB
                        clear HO414
                        have HO421 := n0_
                        have HB := n1_
                        have HO417 := n2_
                        clear n0_ n1_ n2_
                        clear ho hb hg hat
                        refine hK.out _ _ (((HB.out.cell (World.block_lt_of_cell? w _ hw418_0)).trans hw418_0)) (fun hHeld => ?_)
                        clear hK K
                        refine norm_ (a' := ?_) ?_ ?_
                        rotate_left
                        · show Act.put _ (some 46) _ = _
                          simp only [Act.put, List.setIfInBounds_toArray, List.set_cons_zero, List.set_cons_succ, i64_w, i32_w]
                          rfl
                        exact norm_ (by simp only [putAll, Act.put, List.setIfInBounds_toArray, List.set_cons_zero, List.set_cons_succ]) (hCont (v413, v416, v420) _ ⟨hHeld, (by (with_reducible repeat (first | apply Kd.R_alloc | apply Kd.R_drewN | apply Kd.R_drew)); exact HO417.out), (by (with_reducible repeat (first | apply Kd.R_alloc | apply Kd.R_drewN | apply Kd.R_drew)); exact Kd.R_mono HO421.out (fun _ hk => hk.2)), (by repeat (first | (with_reducible first | exact HB.out | apply below_alloc | apply pw_below_drewN | apply below_drew1) | exact HB.out))⟩)
                    rintro ⟨v413, v416, v420⟩ w26 ⟨hS_, h0_, h1_, h2_⟩
                    have n0_ : Aside0 (Kd.R (Kd.int .i64) 3 w26 w.heap.size (fun k_ => some k_ ≠ (v420 : Value).ownBlock) v416 y415) := ⟨h0_⟩
                    have n1_ : Aside0 (Kd.R (Kd.int .i64) 3 w26 w.heap.size (fun k_ => some k_ ≠ (v416 : Value).ownBlock) v420 y419) := ⟨h1_⟩
                    have n2_ : Aside0 (Below w.heap.size w w26) := ⟨h2_⟩
                    clear HB
                    clear h0_ h1_ h2_
                    have HO417 := n0_
                    have HO421 := n1_
                    have HB := n2_
                    clear n0_ n1_ n2_
                    have hHeld : w26.cell? (ad418.add (a1).toNat) = some (.int .i64 (rd l0 a1)) := hS_
                    obtain ⟨Ao28, co28, eo28⟩ := Kd.R_slice HO421.out
                    (first | subst eo28 | (injection eo28 with f1_ f2_ f3_; have f4_ := f1_.symm; have f5_ := f3_.symm; clear f1_ f2_ f3_; subst f4_; subst f5_))
                    refine norm_ (a' := ?_) ?_ ?_
                    rotate_left
                    · simp only [putAll, Act.put, List.setIfInBounds_toArray, List.set_cons_zero, List.set_cons_succ]
                      rfl
                    refine one_ (i := 11) (N := some 52) #[true, true, true, true, true, true, true, true, true, true, true, true, true, false, false, false] rfl rfl (one_of HT_.out (by kernel_rfl)) (by decide) (fun K hK => ?_)
                    refine Kd.R_append_rows_step (Kd.int .i64) (w0 := w) w.heap.size (by rfl) (.tmp 46) (.tmp 51) 22 3 (.int .i64 0) 8 rfl Try.underlying22 info3 rfl (by decide) (by omega) v416 y415 y419 _ _ _ (fun k_ => some k_ ≠ (.slice Ao28 y419.length co28 : Value).ownBlock) (fun _ => False) rfl rfl ?aO ?aR (fun _ _ h => h) (fun _ h => h.elim) ?aF ?aB ?aS ?aL ?_
                    (case aR => repeat (first | exact (Kd.R_reads' HO421.out).2.2 | (with_reducible refine Kd.C_alloc ?_ _) | (with_reducible refine Kd.C_drewN ?_ _) | (with_reducible refine Kd.C_drew ?_)))
                    (case aB => exact (by repeat (first | (with_reducible first | exact HB.out | apply below_alloc | apply pw_below_drewN | apply below_drew1) | exact HB.out)))
                    (case aF => exact (fun k_ hk => Kd.fresh' (Kd.R_lt (by (with_reducible repeat (first | apply Kd.R_alloc | apply Kd.R_drewN | apply Kd.R_drew)); exact HO421.out)) k_ hk))
                    (case aO => exact (by (with_reducible repeat (first | apply Kd.R_alloc | apply Kd.R_drewN | apply Kd.R_drew)); exact HO417.out))
                    (case aS => exact (below_size (by repeat (first | (with_reducible first | exact HB.out | apply below_alloc | apply pw_below_drewN | apply below_drew1) | exact HB.out))))
                    (case aL => have := LMc18.out; omega)
                    intro v423 w27 ho hb hg hat
                    rw [← Ny422.out] at ho
                    have n0_ := Aside0.mk (Kd.R_after (ok := (fun _ => True)) (by (with_reducible repeat (first | apply Kd.R_alloc | apply Kd.R_drewN | apply Kd.R_drew)); exact Kd.R_mono HO421.out (fun _ hk => ⟨trivial, hk⟩)) hg hat)
                    have n1_ := Aside0.mk (hb)
                    have n2_ := Aside0.mk (ho)
                    clear HO421
                    clear HB
                    clear HO417
                    have HO421 := n0_
                    have HB := n1_
                    have HO424 := n2_
                    clear n0_ n1_ n2_
                    clear ho hb hg hat
                    obtain ⟨Ao29, co29, eo29⟩ := Kd.R_slice HO424.out
                    (first | subst eo29 | (injection eo29 with f1_ f2_ f3_; have f4_ := f1_.symm; have f5_ := f3_.symm; clear f1_ f2_ f3_; subst f4_; subst f5_))
                    refine hK.out _ _ (((HB.out.cell (World.block_lt_of_cell? w _ hw418_0)).trans hw418_0)) (fun hHeld => ?_)
                    clear hK K
                    refine norm_ (a' := ?_) ?_ ?_
                    rotate_left
                    · show Act.put _ (some 52) _ = _
                      simp only [Act.put, List.setIfInBounds_toArray, List.set_cons_zero, List.set_cons_succ, i64_w, i32_w]
                      rfl
                    refine one_ (i := 13) (N := some 54) #[true, true, true, true, true, true, true, true, true, true, true, true, true, true, false, false] rfl rfl (one_of HT_.out (by kernel_rfl)) (by decide) (fun K hK => ?_)
                    refine goes_ Try.func30 (by kernel_rfl) rfl #[.slice (some ad418) l0.length c0, .int .i64 (wrap64 (a1 + 1)), .slice Ao29 y422.length co29, .int .i64 a3] (by rfl) rfl rfl (by (try simp only [List.map_toArray, List.map_cons, List.map_nil]); first | done | rfl | (simp only [List.length_drop, List.length_take]; rfl)) ?_
                    with_reducible refine (ih k1 (by have := HK1.out; omega) _ _ l0 (wrap64 (a1 + 1)) _ _ y422 a3 t425 _ ?side1 ?side2 ?side3 ?side4 A19.out).mono ?_
                    (case side1 => repeat (first | exact (Kd.C_below HR0.out HB.out) | (with_reducible refine Kd.C_alloc ?_ _) | (with_reducible refine Kd.C_drewN ?_ _) | (with_reducible refine Kd.C_drew ?_)))
                    (case side2 => exact HC0.out)
                    (case side3 => repeat (first | exact (Kd.R_reads' HO424.out).2.2 | (with_reducible refine Kd.C_alloc ?_ _) | (with_reducible refine Kd.C_drewN ?_ _) | (with_reducible refine Kd.C_drew ?_)))
                    (case side4 => exact (Kd.R_reads' HO424.out).2.1)
                    rintro e w30 ⟨rfl, hb⟩
                    refine ⟨_, rfl, ?_⟩
                    have n0_ := Aside0.mk (Kd.R_below (by (with_reducible repeat (first | apply Kd.R_alloc | apply Kd.R_drewN | apply Kd.R_drew)); exact HO421.out) hb)
                    have n1_ := Aside0.mk (Kd.R_below (by (with_reducible repeat (first | apply Kd.R_alloc | apply Kd.R_drewN | apply Kd.R_drew)); exact HO424.out) hb)
                    have n2_ := Aside0.mk (below_step (by repeat (first | (with_reducible first | exact HB.out | apply below_alloc | apply pw_below_drewN | apply below_drew1) | exact HB.out)) hb)
                    clear HO421
                    clear HO424
                    clear HB
                    have HO421 := n0_
                    have HO424 := n1_
                    have HB := n2_
                    clear n0_ n1_ n2_
                    (try clear hb)
                    (try clear hb2)
                    (try clear hk)
                    (try clear hi)
                    refine hK.out _ _ (((HB.out.cell (World.block_lt_of_cell? w _ hw418_0)).trans hw418_0)) (fun hHeld => ?_)
                    clear hK K
                    refine norm_ (a' := ?_) ?_ ?_
                    rotate_left
                    · show Act.put _ (some 54) _ = _
                      simp only [Act.put, List.setIfInBounds_toArray, List.set_cons_zero, List.set_cons_succ, i64_w, i32_w]
                      rfl
                    refine pure_ (i := 14) (N := some 55) (v := ?_) (a' := ?_) #[true, true, true, true, true, true, true, true, true, true, true, true, true, true, true, false] rfl rfl (any_of HT_.out (by kernel_rfl)) (fun _ _ _ h => h) (Or.inl ⟨by rfl, ?_⟩) ?_ ?_
                    rotate_left
                    · intro w'
                      go_simp
                      with_reducible rfl
                    rotate_left
                    · simp only [Act.put, List.setIfInBounds_toArray, List.set_cons_zero, List.set_cons_succ, i64_w, i32_w]
                      rfl
                    refine pure_ (i := 15) (N := some 8) (v := ?_) (a' := ?_) #[true, true, true, true, true, true, true, true, true, true, true, true, true, true, true, true] rfl rfl (any_of HT_.out (by kernel_rfl)) (fun _ _ _ h => h) (Or.inl ⟨by rfl, ?_⟩) ?_ ?_
                    rotate_left
                    · intro w'
                      go_simp
                      with_reducible rfl
                    rotate_left
                    · simp only [Act.put, List.setIfInBounds_toArray, List.set_cons_zero, List.set_cons_succ, i64_w, i32_w]
                      rfl
                    refine done_ (done_of HT_.out (by kernel_rfl)) ?_
                    try go_wp2
                    go_ret
                    exact ⟨by first | rfl | (simp [errW_none, errW_some] <;> rfl) | (simp [*, errW_none, errW_some] <;> rfl), by repeat (first | (with_reducible first | exact HB.out | apply below_alloc | apply pw_below_drewN | apply below_drew1) | exact HB.out)⟩
                  · rw [if_neg c18] at H
                    exact absurd H (by simp)
                · rw [if_neg c17] at H
                  exact absurd H (by simp)
              · rw [if_neg c16] at H
                exact absurd H (by simp)
            · rw [if_neg c15] at H
              exact absurd H (by simp)
          · rw [if_neg c14] at H
            have c14b0 : decide ((l2.length : Int) < a3) = false := decide_eq_false c14
            clear c14
            have H' := Aside0.mk H
            clear H
            go_wp2
            go_loopg [11, 60] k1 (fun kq v11 v60 w' => ∃ (x11_2 : Int) (x60_2 : Int), v11 = .int .i64 x11_2 ∧ v60 = .int .i64 x60_2 ∧ Aside0 (estoverslaw37_best.l1 kq l0 a1 l2 a3 x11_2 (l2.length : Int) x60_2 = some r) ∧ Aside0 (kq ≤ k1) ∧ Aside0 (Below w.heap.size w w'))
            case atStart => exact ⟨((l0.length : Int)), (0), (by first | rfl | (simp; done) | (simp [*]; done)), (by first | rfl | (simp; done) | (simp [*]; done)), H', ⟨Nat.le_refl _⟩, ⟨by repeat (first | (with_reducible first | exact HB.out | apply below_alloc | apply pw_below_drewN | apply below_drew1) | exact HB.out)⟩⟩
            case round =>
              clear H'
              try clear c1
              try clear c2
              try clear p2
              try clear c3
              try clear p4
              try clear q4
              try clear hx4
              try clear c5
              try clear c5b0
              try clear c5b1
              try clear c6
              try clear c6b0
              try clear p6
              try clear c7
              try clear c7b0
              try clear c8
              try clear c8b0
              try clear c9
              try clear c9b0
              try clear c10
              try clear c10b0
              try clear c11
              try clear c11b0
              try clear c11b1
              try clear c14
              try clear c14b0
              try clear c15
              try clear c16
              try clear c16b0
              try clear c17
              try clear c17b0
              try clear c18
              try clear c30
              try clear hx409_0
              try clear hx410_0
              try clear hx418_0
              try clear p2
              try clear p409
              try clear p410
              try clear p418
              try clear q409
              try clear q410
              try clear q418
              obtain ⟨x11_2, x60_2, rfl, rfl, HA, HK2, HB⟩ := hrel
              cases gk with
              | zero => exact absurd HA.out (by simp [estoverslaw37_best.l1])
              | succ k2 =>
                have H := HA.out
                clear HA
                simp only [estoverslaw37_best.l1] at H
                by_cases c31 : x60_2 < (l2.length : Int)
                · rw [if_pos c31] at H
                  have c31b0 : decide (x60_2 < (l2.length : Int)) = true := decide_eq_true c31
                  clear c31
                  obtain ⟨y426, hy426⟩ : ∃ y_ : List Int, y_ = (([] : List Int)) := ⟨_, rfl⟩
                  replace H : (if 0 ≤ x60_2 then (if x60_2 ≤ (l2.length : Int) then (if y426.length + (l2.take (x60_2 : Int).toNat).length < 17592186044416 then ((some (y426 ++ (l2.take (x60_2 : Int).toNat) : List Int)).bind fun y430 => (if 0 ≤ (wrap64 (x60_2 + 1)) then (if (wrap64 (x60_2 + 1)) ≤ (l2.length : Int) then (if y430.length + (l2.drop ((wrap64 (x60_2 + 1)) : Int).toNat).length < 17592186044416 then ((some (y430 ++ (l2.drop ((wrap64 (x60_2 + 1)) : Int).toNat) : List Int)).bind fun y434 => (if 0 ≤ a1 then (if a1 < (l0.length : Int) then ((some (([rd l0 a1] : List Int) : List Int)).bind fun y438 => (if y434.length + y438.length < 17592186044416 then ((estoverslaw37_best.f k2 l0 (wrap64 (a1 + 1)) (y434 ++ y438) a3).bind fun t444 => (estoverslaw37_best.l1 k2 l0 a1 l2 a3 (mn x11_2 (wrap64 (1 + t444))) (l2.length : Int) (wrap64 (x60_2 + 1)))) else (none))) else (none)) else (none))) else (none)) else (none)) else (none))) else (none)) else (none)) else (none)) = some r := by first | (rw [hy426]; with_reducible exact H) | (have H2_ := (Option.bind_some _ _).symm.trans H; rw [hy426]; with_reducible exact H2_) | (have H2_ := (Option.bind_some _ _).symm.trans H; with_reducible exact H2_) | with_reducible exact H | (rw [hy426]; exact H) | exact H
                  have Ny426 := Aside0.mk hy426
                  clear hy426
                  by_cases c32 : 0 ≤ x60_2
                  · rw [if_pos c32] at H
                    have c32b0 := eq_true c32
                    have c32b1 : decide (0 ≤ x60_2) = true := decide_eq_true c32
                    clear c32
                    by_cases c33 : x60_2 ≤ (l2.length : Int)
                    · rw [if_pos c33] at H
                      have c33b0 := eq_true c33
                      have c33b1 : decide (x60_2 ≤ (l2.length : Int)) = true := decide_eq_true c33
                      clear c33
                      by_cases c34 : y426.length + (l2.take (x60_2 : Int).toNat).length < 17592186044416
                      · rw [if_pos c34] at H
                        have LMc34 := Aside0.mk c34
                        clear c34
                        obtain ⟨y430, hy430⟩ : ∃ y_ : List Int, y_ = (y426 ++ (l2.take (x60_2 : Int).toNat)) := ⟨_, rfl⟩
                        replace H : (if 0 ≤ (wrap64 (x60_2 + 1)) then (if (wrap64 (x60_2 + 1)) ≤ (l2.length : Int) then (if y430.length + (l2.drop ((wrap64 (x60_2 + 1)) : Int).toNat).length < 17592186044416 then ((some (y430 ++ (l2.drop ((wrap64 (x60_2 + 1)) : Int).toNat) : List Int)).bind fun y434 => (if 0 ≤ a1 then (if a1 < (l0.length : Int) then ((some (([rd l0 a1] : List Int) : List Int)).bind fun y438 => (if y434.length + y438.length < 17592186044416 then ((estoverslaw37_best.f k2 l0 (wrap64 (a1 + 1)) (y434 ++ y438) a3).bind fun t444 => (estoverslaw37_best.l1 k2 l0 a1 l2 a3 (mn x11_2 (wrap64 (1 + t444))) (l2.length : Int) (wrap64 (x60_2 + 1)))) else (none))) else (none)) else (none))) else (none)) else (none)) else (none)) = some r := by first | (rw [hy430]; with_reducible exact H) | (have H2_ := (Option.bind_some _ _).symm.trans H; rw [hy430]; with_reducible exact H2_) | (have H2_ := (Option.bind_some _ _).symm.trans H; with_reducible exact H2_) | with_reducible exact H | (rw [hy430]; exact H) | exact H
                        have Ny430 := Aside0.mk hy430
                        clear hy430
                        obtain ⟨ji35, hji35⟩ : ∃ j_ : Int, (wrap64 (x60_2 + 1)) = j_ := ⟨_, rfl⟩
                        replace H : (if 0 ≤ (ji35) then (if (ji35) ≤ (l2.length : Int) then (if y430.length + (l2.drop ((ji35) : Int).toNat).length < 17592186044416 then ((some (y430 ++ (l2.drop ((ji35) : Int).toNat) : List Int)).bind fun y434 => (if 0 ≤ a1 then (if a1 < (l0.length : Int) then ((some (([rd l0 a1] : List Int) : List Int)).bind fun y438 => (if y434.length + y438.length < 17592186044416 then ((estoverslaw37_best.f k2 l0 (wrap64 (a1 + 1)) (y434 ++ y438) a3).bind fun t444 => (estoverslaw37_best.l1 k2 l0 a1 l2 a3 (mn x11_2 (wrap64 (1 + t444))) (l2.length : Int) ji35)) else (none))) else (none)) else (none))) else (none)) else (none)) else (none)) = some r := by first | (rw [hji35] at H; exact H) | (simp only [hji35] at H ⊢; exact H)
                        have hji35w : (IntKind.i64.wrap (x60_2 + 1)) = ji35 := (i64_w _).trans hji35
                        by_cases c36 : 0 ≤ (ji35)
                        · rw [if_pos c36] at H
                          have c36b0 := eq_true c36
                          have c36b1 : decide (0 ≤ (ji35)) = true := decide_eq_true c36
                          clear c36
                          by_cases c37 : (ji35) ≤ (l2.length : Int)
                          · rw [if_pos c37] at H
                            have c37b0 := eq_true c37
                            have c37b1 : decide ((ji35) ≤ (l2.length : Int)) = true := decide_eq_true c37
                            clear c37
                            by_cases c38 : y430.length + (l2.drop ((ji35) : Int).toNat).length < 17592186044416
                            · rw [if_pos c38] at H
                              have LMc38 := Aside0.mk c38
                              clear c38
                              obtain ⟨y434, hy434⟩ : ∃ y_ : List Int, y_ = (y430 ++ (l2.drop ((ji35) : Int).toNat)) := ⟨_, rfl⟩
                              replace H : (if 0 ≤ a1 then (if a1 < (l0.length : Int) then ((some (([rd l0 a1] : List Int) : List Int)).bind fun y438 => (if y434.length + y438.length < 17592186044416 then ((estoverslaw37_best.f k2 l0 (wrap64 (a1 + 1)) (y434 ++ y438) a3).bind fun t444 => (estoverslaw37_best.l1 k2 l0 a1 l2 a3 (mn x11_2 (wrap64 (1 + t444))) (l2.length : Int) ji35)) else (none))) else (none)) else (none)) = some r := by first | (rw [hy434]; with_reducible exact H) | (have H2_ := (Option.bind_some _ _).symm.trans H; rw [hy434]; with_reducible exact H2_) | (have H2_ := (Option.bind_some _ _).symm.trans H; with_reducible exact H2_) | with_reducible exact H | (rw [hy434]; exact H) | exact H
                              have Ny434 := Aside0.mk hy434
                              clear hy434
                              by_cases c39 : 0 ≤ a1
                              · rw [if_pos c39] at H
                                have c39b0 : decide (0 ≤ a1) = true := decide_eq_true c39
                                clear c39
                                by_cases c40 : a1 < (l0.length : Int)
                                · rw [if_pos c40] at H
                                  have c40b0 : decide (a1 < (l0.length : Int)) = true := decide_eq_true c40
                                  clear c40
                                  obtain ⟨y438, hy438⟩ : ∃ y_ : List Int, y_ = (([rd l0 a1] : List Int)) := ⟨_, rfl⟩
                                  replace H : (if y434.length + y438.length < 17592186044416 then ((estoverslaw37_best.f k2 l0 (wrap64 (a1 + 1)) (y434 ++ y438) a3).bind fun t444 => (estoverslaw37_best.l1 k2 l0 a1 l2 a3 (mn x11_2 (wrap64 (1 + t444))) (l2.length : Int) ji35)) else (none)) = some r := by first | (rw [hy438]; with_reducible exact H) | (have H2_ := (Option.bind_some _ _).symm.trans H; rw [hy438]; with_reducible exact H2_) | (have H2_ := (Option.bind_some _ _).symm.trans H; with_reducible exact H2_) | with_reducible exact H | (rw [hy438]; exact H) | exact H
                                  have Ny438 := Aside0.mk hy438
                                  clear hy438
                                  by_cases c41 : y434.length + y438.length < 17592186044416
                                  · rw [if_pos c41] at H
                                    have LMc41 := Aside0.mk c41
                                    clear c41
                                    obtain ⟨y441, hy441⟩ : ∃ y_ : List Int, y_ = (y434 ++ y438) := ⟨_, rfl⟩
                                    replace H : ((estoverslaw37_best.f k2 l0 (wrap64 (a1 + 1)) y441 a3).bind fun t444 => (estoverslaw37_best.l1 k2 l0 a1 l2 a3 (mn x11_2 (wrap64 (1 + t444))) (l2.length : Int) ji35)) = some r := by first | (rw [hy441]; with_reducible exact H) | (have H2_ := (Option.bind_some _ _).symm.trans H; rw [hy441]; with_reducible exact H2_) | (have H2_ := (Option.bind_some _ _).symm.trans H; with_reducible exact H2_) | with_reducible exact H | (rw [hy441]; exact H) | exact H
                                    have Ny441 := Aside0.mk hy441
                                    clear hy441
                                    replace H := Option.bind_eq_some_iff.mp H
                                    obtain ⟨t444, A420, H⟩ := H
                                    replace H : (estoverslaw37_best.l1 k2 l0 a1 l2 a3 (mn x11_2 (wrap64 (1 + t444))) (l2.length : Int) ji35) = some r := H
                                    have A42 := Aside0.mk A420
                                    clear A420
                                    obtain ⟨ji43, hji43⟩ : ∃ j_ : Int, (mn x11_2 (wrap64 (1 + t444))) = j_ := ⟨_, rfl⟩
                                    replace H : (estoverslaw37_best.l1 k2 l0 a1 l2 a3 ji43 (l2.length : Int) ji35) = some r := by first | (rw [hji43] at H; exact H) | (simp only [hji43] at H ⊢; exact H)
                                    (try rw [hji43] at A42)
                                    have hji43_ : (if (wrap64 (1 + t444)) < x11_2 then (wrap64 (1 + t444)) else x11_2) = ji43 := hji43
                                    have H' := Aside0.mk H
                                    clear H
                                    try go_wp2
                                    have n0_ := Aside0.mk (below_drew1 HB.out)
                                    clear HB
                                    have HB := n0_
                                    clear n0_
                                    obtain ⟨i045, hi045, _, hsz45, _⟩ := info_parts info3
                                    obtain ⟨hcut45, hA45, hC45⟩ := print_take_of (P := Try.prog) (Value.int .i64) 0 22 3 .i64 Try.underlying22 hi045 hsz45 A2 c2 l2 x60_2 (of_decide_eq_true (by first | (with_reducible assumption) | assumption)) (of_decide_eq_true (by first | (with_reducible assumption) | assumption)) HC2.out
                                    have HR429 := Aside0.mk (Kd.C_of_reads (h1 := fun _ => rfl) (hA45 _ (Kd.reads_of_C HR2.out)))
                                    have HC429 := Aside0.mk hC45
                                    clear hA45 hC45 hi045 hsz45
                                    obtain ⟨i046, hi046, _, hsz46, _⟩ := info_parts info3
                                    obtain ⟨A46, hcut46, hA46, hC46⟩ := print_drop_of (P := Try.prog) (Value.int .i64) 0 22 3 .i64 Try.underlying22 hi046 hsz46 A2 c2 l2 (ji35) (of_decide_eq_true (by first | (with_reducible assumption) | assumption)) (of_decide_eq_true (by first | (with_reducible assumption) | assumption)) HC2.out
                                    have HR433 := Aside0.mk (Kd.C_of_reads (h1 := fun _ => rfl) (hA46 _ (Kd.reads_of_C HR2.out)))
                                    have HC433 := Aside0.mk hC46
                                    clear hA46 hC46 hi046 hsz46
                                    refine start_ (n := 11) (S := fun w' => True) (ds := []) #[false, false, false, false, false, false, false, false, false, false, false] (by kernel_rfl) rfl rfl trivial (fun hHeld => ?_); refine with_tabW estoverslaw37_best.tab15 estoverslaw37_best.bits15 (fun HT_ HW_ => ?_)
                                    generalize wr.drew = w44 at HB HR429 HR433 hHeld ⊢
                                    refine pure_ (i := 1) (N := some 64) (v := ?_) (a' := ?_) #[false, true, false, false, false, false, false, false, false, false, false] rfl rfl (any_of HT_.out (by kernel_rfl)) (fun _ _ _ h => h) (Or.inl ⟨by rfl, ?_⟩) ?_ ?_
                                    rotate_left
                                    · intro w'
                                      go_simp
                                      with_reducible rfl
                                    rotate_left
                                    · simp only [Act.put, List.setIfInBounds_toArray, List.set_cons_zero, List.set_cons_succ, i64_w, i32_w]
                                      rfl
                                    refine pure_ (i := 2) (N := some 65) (v := ?_) (a' := ?_) #[false, true, true, false, false, false, false, false, false, false, false] rfl rfl (any_of HT_.out (by kernel_rfl)) (fun _ _ _ h => h) (Or.inl ⟨by rfl, ?_⟩) ?_ ?_
                                    rotate_left
                                    · intro w'
                                      go_simp
                                      with_reducible rfl
                                    rotate_left
                                    · simp only [Act.put, List.setIfInBounds_toArray, List.set_cons_zero, List.set_cons_succ, i64_w, i32_w]
                                      rfl
                                    refine pure_ (i := 3) (N := some 66) (v := ?_) (a' := ?_) #[false, true, true, true, false, false, false, false, false, false, false] rfl rfl (any_of HT_.out (by kernel_rfl)) (fun _ _ _ h => h) (Or.inl ⟨by rfl, ?_⟩) ?_ ?_
                                    rotate_left
                                    · intro w'
                                      go_simp
                                      with_reducible rfl
                                    rotate_left
                                    · simp only [Act.put, List.setIfInBounds_toArray, List.set_cons_zero, List.set_cons_succ, i64_w, i32_w]
                                      rfl
                                    refine pure_ (i := 5) (N := some 68) (v := ?_) (a' := ?_) #[false, true, true, true, false, true, false, false, false, false, false] rfl rfl (any_of HT_.out (by kernel_rfl)) (fun _ _ _ h => h) (Or.inl ⟨by rfl, ?_⟩) ?_ ?_
                                    rotate_left
                                    · intro w'
                                      go_simp
                                      with_reducible rfl
                                    rotate_left
                                    · simp only [Act.put, List.setIfInBounds_toArray, List.set_cons_zero, List.set_cons_succ, i64_w, i32_w]
                                      rfl
                                    refine pure_ (i := 6) (N := some 69) (v := ?_) (a' := ?_) #[false, true, true, true, false, true, true, false, false, false, false] rfl rfl (any_of HT_.out (by kernel_rfl)) (fun _ _ _ h => h) (Or.inl ⟨by rfl, ?_⟩) ?_ ?_
                                    rotate_left
                                    · intro w'
                                      go_simp
                                      with_reducible rfl
                                    rotate_left
                                    · simp only [Act.put, List.setIfInBounds_toArray, List.set_cons_zero, List.set_cons_succ, i64_w, i32_w]
                                      rfl
                                    refine pure_ (i := 7) (N := some 70) (v := ?_) (a' := ?_) #[false, true, true, true, false, true, true, true, false, false, false] rfl rfl (any_of HT_.out (by kernel_rfl)) (fun _ _ _ h => h) (Or.inl ⟨by rfl, ?_⟩) ?_ ?_
                                    rotate_left
                                    · intro w'
                                      go_simp
                                      with_reducible rfl
                                    rotate_left
                                    · simp only [Act.put, List.setIfInBounds_toArray, List.set_cons_zero, List.set_cons_succ, i64_w, i32_w]
                                      rfl
                                    refine pure_ (i := 8) (N := some 71) (v := ?_) (a' := ?_) #[false, true, true, true, false, true, true, true, true, false, false] rfl rfl (any_of HT_.out (by kernel_rfl)) (fun _ _ _ h => h) (Or.inl ⟨by rfl, ?_⟩) ?_ ?_
                                    rotate_left
                                    · intro w'
                                      go_simp
                                      with_reducible rfl
                                    rotate_left
                                    · simp only [Act.put, List.setIfInBounds_toArray, List.set_cons_zero, List.set_cons_succ, i64_w, i32_w]
                                      rfl
                                    refine one_ (i := 0) (N := some 63) #[true, true, true, true, false, true, true, true, true, false, false] rfl rfl (one_of HT_.out (by kernel_rfl)) (by decide) (fun K hK => ?_)
                                    refine Kd.R_lit_step (Kd.int .i64) _ 3 ?hg (N := 63) ?hd (xs := ([] : List Int)) (inner := []) (ok := fun _ => True) (okp := fun _ => True) ?hr ?hp (fun _ hk => hk) trivial (Below.refl _ _) (Nat.le_refl _) (by simp) ?_; (case hd => rfl); (case hg => rfl); (case hr => first | (go_simp; done) | (go_simp; rfl)); (case hp => exact (Reps.none _ _))
                                    intro v427 w47 ho48 hb hg_ hnew_
                                    clear hg_ hnew_
                                    (first | rw [← Ny426.out] at ho48 | (simp only [Int.reduceToNat] at ho48; rw [← Ny426.out] at ho48))
                                    have n0_ := Aside0.mk (Kd.R_lower ho48 (below_size (by repeat (first | (with_reducible first | exact HB.out | apply below_alloc | apply pw_below_drewN | apply below_drew1) | exact HB.out))))
                                    have n1_ := Aside0.mk (below_step (by repeat (first | (with_reducible first | exact HB.out | apply below_alloc | apply pw_below_drewN | apply below_drew1) | exact HB.out)) hb)
                                    clear HB
                                    have HO428 := n0_
                                    have HB := n1_
                                    clear n0_ n1_
                                    clear hb ho48
                                    refine hK.out _ _ trivial (fun hHeld => ?_)
                                    clear hK K
                                    refine norm_ (a' := ?_) ?_ ?_
                                    rotate_left
                                    · show Act.put _ (some 63) _ = _
                                      simp only [Act.put, List.setIfInBounds_toArray, List.set_cons_zero, List.set_cons_succ, i64_w, i32_w]
                                      rfl
                                    refine one_ (i := 4) (N := some 67) #[true, true, true, true, true, true, true, true, true, false, false] rfl rfl (one_of HT_.out (by kernel_rfl)) (by decide) (fun K hK => ?_)
                                    refine Kd.R_append_rows_step (Kd.int .i64) (w0 := w) w.heap.size (by rfl) (.tmp 63) (.tmp 66) 22 3 (.int .i64 0) 8 rfl Try.underlying22 info3 rfl (by decide) (by omega) v427 y426 (l2.take (x60_2 : Int).toNat) _ _ _ (fun _ => True) (fun _ => False) rfl rfl ?aO ?aR (fun _ _ h => h) (fun _ h => h.elim) ?aF ?aB ?aS ?aL ?_
                                    (case aR => first | exact (Kd.C_below HR429.out HB.out) | ((with_reducible refine Kd.C_alloc ?_ _); exact (Kd.C_below HR429.out HB.out)) | (have hrr_ := (Kd.C_below HR429.out HB.out); rw [show (l2.take (x60_2 : Int).toNat).length = x60_2.toNat from (by rw [List.length_take]; have h_ : (x60_2 : Int) ≤ (l2.length : Int) := of_decide_eq_true (by first | (with_reducible assumption) | assumption); omega)] at hrr_; exact hrr_) | (have hrr_ := (Kd.C_below HR429.out HB.out); rw [show (l2.take (x60_2 : Int).toNat).length = x60_2.toNat from (by rw [List.length_take]; have h_ : (x60_2 : Int) ≤ (l2.length : Int) := of_decide_eq_true (by first | (with_reducible assumption) | assumption); omega)] at hrr_; (with_reducible refine Kd.C_alloc ?_ _); exact hrr_) | (have hrr_ := (Kd.C_below HR429.out HB.out); rw [show (l2.take (x60_2 : Int).toNat).length = x60_2.toNat from (by rw [List.length_take]; have h_ : (x60_2 : Int) ≤ (l2.length : Int) := of_decide_eq_true (by first | (with_reducible assumption) | assumption); omega)] at hrr_; (with_reducible refine Kd.C_alloc ?_ _); (with_reducible refine Kd.C_alloc ?_ _); exact hrr_) | (rw [← show (l2.take (x60_2 : Int).toNat).length = x60_2.toNat from (by rw [List.length_take]; have h_ : (x60_2 : Int) ≤ (l2.length : Int) := of_decide_eq_true (by first | (with_reducible assumption) | assumption); omega)]; repeat (first | exact (Kd.C_below HR429.out HB.out) | (with_reducible refine Kd.C_alloc ?_ _) | (with_reducible refine Kd.C_drewN ?_ _) | (with_reducible refine Kd.C_drew ?_))) | (repeat (first | exact (Kd.C_below HR429.out HB.out) | (with_reducible refine Kd.C_alloc ?_ _) | (with_reducible refine Kd.C_drewN ?_ _) | (with_reducible refine Kd.C_drew ?_))))
                                    (case aB => exact (by repeat (first | (with_reducible first | exact HB.out | apply below_alloc | apply pw_below_drewN | apply below_drew1) | exact HB.out)))
                                    (case aF => exact (fun _ _ => trivial))
                                    (case aO => exact (by (with_reducible repeat (first | apply Kd.R_alloc | apply Kd.R_drewN | apply Kd.R_drew)); exact HO428.out))
                                    (case aS => exact (below_size (by repeat (first | (with_reducible first | exact HB.out | apply below_alloc | apply pw_below_drewN | apply below_drew1) | exact HB.out))))
                                    (case aL => have := LMc34.out; have hlx_ := (show (l2.take (x60_2 : Int).toNat).length = x60_2.toNat from (by rw [List.length_take]; have h_ : (x60_2 : Int) ≤ (l2.length : Int) := of_decide_eq_true (by first | (with_reducible assumption) | assumption); omega)); omega)
                                    intro v431 w49 ho hb hg hat
                                    rw [← Ny430.out] at ho
                                    have n0_ := Aside0.mk (hb)
                                    have n1_ := Aside0.mk (ho)
                                    clear HB
                                    clear HO428
                                    have HB := n0_
                                    have HO432 := n1_
                                    clear n0_ n1_
                                    clear ho hb hg hat
                                    refine hK.out _ _ trivial (fun hHeld => ?_)
                                    clear hK K
                                    refine norm_ (a' := ?_) ?_ ?_
                                    rotate_left
                                    · show Act.put _ (some 67) _ = _
                                      simp only [Act.put, List.setIfInBounds_toArray, List.set_cons_zero, List.set_cons_succ, i64_w, i32_w]
                                      rfl
                                    refine one_ (i := 9) (N := some 72) #[true, true, true, true, true, true, true, true, true, true, false] rfl rfl (one_of HT_.out (by kernel_rfl)) (by decide) (fun K hK => ?_)
                                    refine Kd.R_append_rows_step (Kd.int .i64) (w0 := w) w.heap.size (by rfl) (.tmp 67) (.tmp 71) 22 3 (.int .i64 0) 8 rfl Try.underlying22 info3 rfl (by decide) (by omega) v431 y430 (l2.drop ((ji35) : Int).toNat) _ _ _ (fun _ => True) (fun _ => False) rfl rfl ?aO ?aR (fun _ _ h => h) (fun _ h => h.elim) ?aF ?aB ?aS ?aL ?_
                                    (case aR => first | exact (Kd.C_below HR433.out HB.out) | ((with_reducible refine Kd.C_alloc ?_ _); exact (Kd.C_below HR433.out HB.out)) | (have hrr_ := (Kd.C_below HR433.out HB.out); rw [show (l2.drop ((ji35) : Int).toNat).length = (l2.length - (ji35).toNat) from List.length_drop] at hrr_; exact hrr_) | (have hrr_ := (Kd.C_below HR433.out HB.out); rw [show (l2.drop ((ji35) : Int).toNat).length = (l2.length - (ji35).toNat) from List.length_drop] at hrr_; (with_reducible refine Kd.C_alloc ?_ _); exact hrr_) | (have hrr_ := (Kd.C_below HR433.out HB.out); rw [show (l2.drop ((ji35) : Int).toNat).length = (l2.length - (ji35).toNat) from List.length_drop] at hrr_; (with_reducible refine Kd.C_alloc ?_ _); (with_reducible refine Kd.C_alloc ?_ _); exact hrr_) | (rw [← show (l2.drop ((ji35) : Int).toNat).length = (l2.length - (ji35).toNat) from List.length_drop]; repeat (first | exact (Kd.C_below HR433.out HB.out) | (with_reducible refine Kd.C_alloc ?_ _) | (with_reducible refine Kd.C_drewN ?_ _) | (with_reducible refine Kd.C_drew ?_))) | (repeat (first | exact (Kd.C_below HR433.out HB.out) | (with_reducible refine Kd.C_alloc ?_ _) | (with_reducible refine Kd.C_drewN ?_ _) | (with_reducible refine Kd.C_drew ?_))))
                                    (case aB => exact (by repeat (first | (with_reducible first | exact HB.out | apply below_alloc | apply pw_below_drewN | apply below_drew1) | exact HB.out)))
                                    (case aF => exact (fun _ _ => trivial))
                                    (case aO => exact (by (with_reducible repeat (first | apply Kd.R_alloc | apply Kd.R_drewN | apply Kd.R_drew)); exact HO432.out))
                                    (case aS => exact (below_size (by repeat (first | (with_reducible first | exact HB.out | apply below_alloc | apply pw_below_drewN | apply below_drew1) | exact HB.out))))
                                    (case aL => have := LMc38.out; have hlx_ := (show (l2.drop ((ji35) : Int).toNat).length = (l2.length - (ji35).toNat) from List.length_drop); omega)
                                    intro v435 w50 ho hb hg hat
                                    rw [← Ny434.out] at ho
                                    have n0_ := Aside0.mk (hb)
                                    have n1_ := Aside0.mk (ho)
                                    clear HB
                                    clear HO432
                                    have HB := n0_
                                    have HO436 := n1_
                                    clear n0_ n1_
                                    clear ho hb hg hat
                                    refine hK.out _ _ trivial (fun hHeld => ?_)
                                    clear hK K
                                    refine norm_ (a' := ?_) ?_ ?_
                                    rotate_left
                                    · show Act.put _ (some 72) _ = _
                                      simp only [Act.put, List.setIfInBounds_toArray, List.set_cons_zero, List.set_cons_succ, i64_w, i32_w]
                                      rfl
                                    refine pure_ (i := 10) (N := some 13) (v := ?_) (a' := ?_) #[true, true, true, true, true, true, true, true, true, true, true] rfl rfl (any_of HT_.out (by kernel_rfl)) (fun _ _ _ h => h) (Or.inl ⟨by rfl, ?_⟩) ?_ ?_
                                    rotate_left
                                    · intro w'
                                      go_simp
                                      with_reducible rfl
                                    rotate_left
                                    · simp only [Act.put, List.setIfInBounds_toArray, List.set_cons_zero, List.set_cons_succ, i64_w, i32_w]
                                      rfl
                                    refine done_ (done_of HT_.out (by kernel_rfl)) ?_
                                    have p437 : 0 ≤ (a1 : Int) := of_decide_eq_true (by first | (with_reducible assumption) | assumption)
                                    have q437 : a1 < (l0.length : Int) := of_decide_eq_true (by first | (with_reducible assumption) | assumption)
                                    obtain ⟨ad437, e437, hx437_0⟩ := Kd.at_int HR0.out a1 p437 q437
                                    cases e437
                                    replace hx437_0 := (HB.out.cell (World.block_lt_of_cell? w _ hx437_0)).trans hx437_0
                                    replace p437 := eq_true p437
                                    replace q437 := eq_true q437
                                    try go_wp2_with (first | ((with_reducible refine gate_dst (N := 82) rfl ?_); refine Kd.R_lit (Kd.int .i64) _ 3 ?hg (N := 82) ?hd (xs := ([rd l0 a1] : List Int)) (inner := [.int .i64 (rd l0 a1)]) (ok := fun _ => True) (okp := fun _ => True) ?hr ?hp (fun _ hk => hk) trivial (Below.refl _ _) (Nat.le_refl _) (by simp) ?_; (case hd => rfl); (case hg => rfl); (case hr => first | (go_simp; done) | (go_simp; rfl)); (case hp => exact (Reps.one (show Kd.M (Kd.int .i64) _ _ _ (rd l0 a1) [.int .i64 (rd l0 a1)] from rfl) (Reps.none _ _))); intro v439 w51 ho52 hb hg_ hnew_; clear hg_ hnew_; (first | rw [← Ny438.out] at ho52 | (simp only [Int.reduceToNat] at ho52; rw [← Ny438.out] at ho52)); have n0_ := Aside0.mk (Kd.R_elder' (by (with_reducible repeat (first | apply Kd.R_alloc | apply Kd.R_drewN | apply Kd.R_drew)); exact HO436.out) (Kd.R_base ho52) hb); have n1_ := Aside0.mk (Kd.R_lower (Kd.R_new' ho52 (Kd.R_lt (by (with_reducible repeat (first | apply Kd.R_alloc | apply Kd.R_drewN | apply Kd.R_drew)); exact HO436.out))) (below_size (by repeat (first | (with_reducible first | exact HB.out | apply below_alloc | apply pw_below_drewN | apply below_drew1) | exact HB.out)))); have n2_ := Aside0.mk (below_step (by repeat (first | (with_reducible first | exact HB.out | apply below_alloc | apply pw_below_drewN | apply below_drew1) | exact HB.out)) hb); clear HO436; clear HB; have HO436 := n0_; have HO440 := n1_; have HB := n2_; clear n0_ n1_ n2_; clear hb ho52; obtain ⟨Ao54, co54, eo54⟩ := Kd.R_slice HO440.out; subst eo54) | ((with_reducible refine gate_builtin (b := .append) (xs := #[.tmp 77, .tmp 82]) rfl ?_); at_builtin; refine Kd.R_append_rows (Kd.int .i64) (w0 := w) w.heap.size rfl (.tmp 77) (.tmp 82) 22 3 (.int .i64 0) 8 rfl Try.underlying22 info3 rfl (by decide) (by omega) v435 y434 y438 _ _ _ (fun k_ => some k_ ≠ (.slice Ao54 y438.length co54 : Value).ownBlock) (fun _ => False) rfl rfl ?aO ?aR (fun _ _ h => h) (fun _ h => h.elim) ?aF ?aB ?aS ?aL ?_; (case aR => repeat (first | exact (Kd.R_reads' HO440.out).2.2 | (with_reducible refine Kd.C_alloc ?_ _) | (with_reducible refine Kd.C_drewN ?_ _) | (with_reducible refine Kd.C_drew ?_))); (case aB => exact (by repeat (first | (with_reducible first | exact HB.out | apply below_alloc | apply pw_below_drewN | apply below_drew1) | exact HB.out))); (case aF => exact (fun k_ hk => Kd.fresh' (Kd.R_lt (by (with_reducible repeat (first | apply Kd.R_alloc | apply Kd.R_drewN | apply Kd.R_drew)); exact HO440.out)) k_ hk)); (case aO => exact (by (with_reducible repeat (first | apply Kd.R_alloc | apply Kd.R_drewN | apply Kd.R_drew)); exact Kd.R_mono HO436.out (fun _ hk => hk.2))); (case aS => exact (below_size (by repeat (first | (with_reducible first | exact HB.out | apply below_alloc | apply pw_below_drewN | apply below_drew1) | exact HB.out)))); (case aL => have := LMc41.out; omega); intro v442 w53 ho hb hg hat; rw [← Ny441.out] at ho; have n0_ := Aside0.mk (Kd.R_after (ok := (fun _ => True)) (by (with_reducible repeat (first | apply Kd.R_alloc | apply Kd.R_drewN | apply Kd.R_drew)); exact HO440.out) hg hat); have n1_ := Aside0.mk (hb); have n2_ := Aside0.mk (ho); clear HO440; clear HB; clear HO436; have HO440 := n0_; have HB := n1_; have HO443 := n2_; clear n0_ n1_ n2_; clear ho hb hg hat; obtain ⟨Ao55, co55, eo55⟩ := Kd.R_slice HO443.out; subst eo55) | ((with_reducible refine gate_callee (f := 30) rfl ?_); refine goesL_ (some 85) rfl rfl Try.func30 (by kernel_rfl) rfl #[.slice (some ad437) l0.length c0, .int .i64 (wrap64 (a1 + 1)), .slice Ao55 y441.length co55, .int .i64 a3] rfl (by (try simp only [List.map_toArray, List.map_cons, List.map_nil]); first | done | rfl | (simp only [List.length_drop, List.length_take]; rfl)) ?_; (with_reducible refine (ih k2 (by have := HK1.out; have := HK2.out; omega) _ _ l0 (wrap64 (a1 + 1)) _ _ y441 a3 t444 _ ?side1 ?side2 ?side3 ?side4 A42.out).mono ?_); (case side1 => repeat (first | exact (Kd.C_below HR0.out HB.out) | (with_reducible refine Kd.C_alloc ?_ _) | (with_reducible refine Kd.C_drewN ?_ _) | (with_reducible refine Kd.C_drew ?_))); (case side2 => exact HC0.out); (case side3 => repeat (first | exact (Kd.R_reads' HO443.out).2.2 | (with_reducible refine Kd.C_alloc ?_ _) | (with_reducible refine Kd.C_drewN ?_ _) | (with_reducible refine Kd.C_drew ?_))); (case side4 => exact (Kd.R_reads' HO443.out).2.1); rintro e w56 ⟨rfl, hb⟩; refine ⟨_, rfl, ?_⟩; have n0_ := Aside0.mk (Kd.R_below (by (with_reducible repeat (first | apply Kd.R_alloc | apply Kd.R_drewN | apply Kd.R_drew)); exact HO440.out) hb); have n1_ := Aside0.mk (Kd.R_below (by (with_reducible repeat (first | apply Kd.R_alloc | apply Kd.R_drewN | apply Kd.R_drew)); exact HO443.out) hb); have n2_ := Aside0.mk (below_step (by repeat (first | (with_reducible first | exact HB.out | apply below_alloc | apply pw_below_drewN | apply below_drew1) | exact HB.out)) hb); clear HO440; clear HO443; clear HB; have HO440 := n0_; have HO443 := n1_; have HB := n2_; clear n0_ n1_ n2_; (try clear hb); (try clear hb2); (try clear hk); (try clear hi)))
                                    go_roundg k2
                                    case measure => have := HK1.out; have := HK2.out; omega
                                    case rel => exact ⟨(ji43), (ji35), (by first | rfl | (simp; done) | (simp only [← hji43] <;> (first | rfl | simp)) | (simp [*]; done)), (by first | rfl | (simp; done) | (simp only [← hji35] <;> (first | rfl | simp)) | (simp [*]; done)), H', ⟨by have := HK1.out; have := HK2.out; omega⟩, ⟨by repeat (first | (with_reducible first | exact HB.out | apply below_alloc | apply pw_below_drewN | apply below_drew1) | exact HB.out)⟩⟩
                                  · rw [if_neg c41] at H
                                    exact absurd H (by simp)
                                · rw [if_neg c40] at H
                                  exact absurd H (by simp)
                              · rw [if_neg c39] at H
                                exact absurd H (by simp)
                            · rw [if_neg c38] at H
                              exact absurd H (by simp)
                          · rw [if_neg c37] at H
                            exact absurd H (by simp)
                        · rw [if_neg c36] at H
                          exact absurd H (by simp)
                      · rw [if_neg c34] at H
                        exact absurd H (by simp)
                    · rw [if_neg c33] at H
                      exact absurd H (by simp)
                  · rw [if_neg c32] at H
                    exact absurd H (by simp)
                · rw [if_neg c31] at H
                  have c31b0 : decide (x60_2 < (l2.length : Int)) = false := decide_eq_false c31
                  clear c31
                  obtain rfl := Option.some.inj H
                  go_wp2
                  go_ret
                  exact ⟨by first | rfl | (simp [errW_none, errW_some] <;> rfl) | (simp [*, errW_none, errW_some] <;> rfl), by repeat (first | (with_reducible first | exact HB.out | apply below_alloc | apply pw_below_drewN | apply below_drew1) | exact HB.out)⟩

end Go.Proofs.Ytbchpnhlaknhjaa.Q
