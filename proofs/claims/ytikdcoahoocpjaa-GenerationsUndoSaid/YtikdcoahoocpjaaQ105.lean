-- Written by wip/stubprint.py for this claim. Lean checks it.
import Derived.Test.YtikdcoahoocpjaaQ0
import Derived.Test.YtikdcoahoocpjaaQ100
import Derived.Test.YtikdcoahoocpjaaQ101
namespace Go.Proofs.Ytikdcoahoocpjaa.Q
open Go.RowKit Go.Proofs.YtikdcoahoocpjaaW.PrintWords Go.Proofs.YtikdcoahoocpjaaW.PrintLast Go.Proofs.YtikdcoahoocpjaaW.PrintMore
attribute [local go_sem] max2_int min2_int max_two min_two max_three min_three max_four min_four
set_option linter.unusedVariables false
set_option linter.unusedSimpArgs false

/-! ### estoversref36_Replace: function 26 -/
mutual
def estoversref36_Replace.j0 : Nat → List (List Int) → Int → Int → Bool → Option ((List (List Int)) × Int)
  | 0, _, _, _, _ => none
  | k + 1, x0, x1, x2, x22 => if x22 = true then (some (([] : List (List Int)), 2)) else ((estoversref36_where.f k x0 x1).bind fun t248 => (if t248 < 0 then (some (([] : List (List Int)), 6)) else ((estoversref36_where.f k x0 x2).bind fun t249 => (if t249 ≥ 0 then (some (([] : List (List Int)), 7)) else ((estoversref36_Clone.f k x0).bind fun t250 => (if 0 ≤ t248 then (if t248 < (t250.length : Int) then (estoversref36_Replace.l0 k x1 x2 t248 t250 ((rd_L1 t250 t248).length : Int) 0) else (none)) else (none)))))))
def estoversref36_Replace.l0 : Nat → Int → Int → Int → List (List Int) → Int → Int → Option ((List (List Int)) × Int)
  | 0, _, _, _, _, _, _ => none
  | k + 1, x1, x2, x9, x10, x38, x39 => if x39 < x38 then (if 0 ≤ x9 then (if x9 < (x10.length : Int) then (if 0 ≤ x39 then (if x39 < ((rd_L1 x10 x9).length : Int) then (if (rd (rd_L1 x10 x9) x39) = x1 then (estoversref36_Replace.l0 k x1 x2 x9 (x10.set (x9 : Int).toNat ((rd_L1 x10 x9).set (x39 : Int).toNat x2)) x38 (wrap64 (x39 + 1))) else (estoversref36_Replace.l0 k x1 x2 x9 x10 x38 (wrap64 (x39 + 1)))) else (none)) else (none)) else (none)) else (none)) else (some (x10, 0))
end
def estoversref36_Replace.f (k : Nat) (l0 : List (List Int)) (a1 : Int) (a2 : Int) : Option ((List (List Int)) × Int) := (estoversref36_Check.f k l0).bind fun t247 => (if t247 = 0 then (if a2 < 0 then (estoversref36_Replace.j0 k l0 a1 a2 true) else (estoversref36_Replace.j0 k l0 a1 a2 (decide (a2 ≥ 256)))) else (some (([] : List (List Int)), t247)))
theorem estoversref36_Replace.mono_l : ∀ k, (∀ y0 y1 y2 y3, LeO (estoversref36_Replace.j0 k y0 y1 y2 y3) (estoversref36_Replace.j0 (k + 1) y0 y1 y2 y3)) ∧ (∀ y0 y1 y2 y3 y4 y5, LeO (estoversref36_Replace.l0 k y0 y1 y2 y3 y4 y5) (estoversref36_Replace.l0 (k + 1) y0 y1 y2 y3 y4 y5))
  | 0 => ⟨fun _ _ _ _ r h => by simp [estoversref36_Replace.j0] at h, fun _ _ _ _ _ _ r h => by simp [estoversref36_Replace.l0] at h⟩
  | k + 1 => by
    obtain ⟨ih0, ih1⟩ := estoversref36_Replace.mono_l k
    refine ⟨?_, ?_⟩
    · intro y0 y1 y2 y3
      unfold estoversref36_Replace.j0
      repeat' first
      | (with_reducible exact ih0 _ _ _ _)
      | (with_reducible exact ih1 _ _ _ _ _ _)
      | (with_reducible exact estoversref36_Check.mono _ _)
      | (with_reducible exact estoversref36_Clone.mono _ _)
      | (with_reducible exact estoversref36_where.mono _ _ _)
      | (with_reducible exact LeO.refl _)
      | (with_reducible exact LeO.none _)
      | (with_reducible refine LeO.ite ?_ ?_)
      | (with_reducible refine LeO.bind ?_ (fun _ => ?_))
      | exact ih0 _ _ _ _
      | exact ih1 _ _ _ _ _ _
      | exact estoversref36_Check.mono _ _
      | exact estoversref36_Clone.mono _ _
      | exact estoversref36_where.mono _ _ _
      | exact LeO.none _
      | refine LeO.ite ?_ ?_
      | refine LeO.bind ?_ (fun _ => ?_)
    · intro y0 y1 y2 y3 y4 y5
      unfold estoversref36_Replace.l0
      repeat' first
      | (with_reducible exact ih0 _ _ _ _)
      | (with_reducible exact ih1 _ _ _ _ _ _)
      | (with_reducible exact estoversref36_Check.mono _ _)
      | (with_reducible exact estoversref36_Clone.mono _ _)
      | (with_reducible exact estoversref36_where.mono _ _ _)
      | (with_reducible exact LeO.refl _)
      | (with_reducible exact LeO.none _)
      | (with_reducible refine LeO.ite ?_ ?_)
      | (with_reducible refine LeO.bind ?_ (fun _ => ?_))
      | exact ih0 _ _ _ _
      | exact ih1 _ _ _ _ _ _
      | exact estoversref36_Check.mono _ _
      | exact estoversref36_Clone.mono _ _
      | exact estoversref36_where.mono _ _ _
      | exact LeO.none _
      | refine LeO.ite ?_ ?_
      | refine LeO.bind ?_ (fun _ => ?_)
theorem estoversref36_Replace.mono : ∀ a0 a1 a2 k, LeO (estoversref36_Replace.f k a0 a1 a2) (estoversref36_Replace.f (k + 1) a0 a1 a2) := by
  intro a0 a1 a2 k
  obtain ⟨ih0, ih1⟩ := estoversref36_Replace.mono_l k
  unfold estoversref36_Replace.f
  repeat' first
      | (with_reducible exact ih0 _ _ _ _)
      | (with_reducible exact ih1 _ _ _ _ _ _)
      | (with_reducible exact estoversref36_Check.mono _ _)
      | (with_reducible exact estoversref36_Clone.mono _ _)
      | (with_reducible exact estoversref36_where.mono _ _ _)
      | (with_reducible exact LeO.refl _)
      | (with_reducible exact LeO.none _)
      | (with_reducible refine LeO.ite ?_ ?_)
      | (with_reducible refine LeO.bind ?_ (fun _ => ?_))
      | exact ih0 _ _ _ _
      | exact ih1 _ _ _ _ _ _
      | exact estoversref36_Check.mono _ _
      | exact estoversref36_Clone.mono _ _
      | exact estoversref36_where.mono _ _ _
      | exact LeO.none _
      | refine LeO.ite ?_ ?_
      | refine LeO.bind ?_ (fun _ => ?_)
set_option maxHeartbeats 8000000 in
set_option maxRecDepth 100000 in
theorem estoversref36_Replace.calls (k : Nat) (A0 : Option Addr) (c0 : Nat) (l0 : List (List Int)) (a1 : Int) (a2 : Int) (r1 : List (List Int)) (r2 : Int) (w : World) (hr0 : Kd.C (Kd.slice 3 (Kd.int .i64)) w A0 l0.length l0) (hc0 : l0.length ≤ c0) (h : estoversref36_Replace.f k l0 a1 a2 = some (r1, r2)) :
    Calls Try.prog 26 #[.slice A0 l0.length c0, .int .i64 a1, .int .i64 a2] w fun e w' => ∃ v0_ : Value, e = .returned (.tuple #[v0_, .int .i64 r2]) ∧ Kd.S (Kd.slice 3 (Kd.int .i64)) 25 w' w.heap.size (fun _ => True) v0_ r1 ∧ Below w.heap.size w w' := by
  have HR0 := Aside0.mk hr0
  have HC0 := Aside0.mk hc0
  clear hr0 hc0
  have HB := Aside0.mk (Below.refl w.heap.size w)
  have H : ((estoversref36_Check.f k l0).bind fun t247 => (if t247 = 0 then (if a2 < 0 then (estoversref36_Replace.j0 k l0 a1 a2 true) else (estoversref36_Replace.j0 k l0 a1 a2 (decide (a2 ≥ 256)))) else (some (([] : List (List Int)), t247)))) = some (r1, r2) := h
  clear h
  replace H := Option.bind_eq_some_iff.mp H
  obtain ⟨t247, A40, H⟩ := H
  replace H : (if t247 = 0 then (if a2 < 0 then (estoversref36_Replace.j0 k l0 a1 a2 true) else (estoversref36_Replace.j0 k l0 a1 a2 (decide (a2 ≥ 256)))) else (some (([] : List (List Int)), t247))) = some (r1, r2) := H
  have A4 := Aside0.mk A40
  clear A40
  by_cases c5 : t247 = 0
  · rw [if_pos c5] at H
    have c5b0 : (t247 == 0) = true := beq_iff_eq.mpr c5
    have c5b1 : (t247 != 0) = false := bne_eq_false_iff_eq.mpr c5
    clear c5
    have HC6 := Aside0.mk H
    clear H
    go_enter Try.func26, Try.ntmps26
    go_upto_region 4 with (first | ((with_reducible refine gate_callee (f := 17) rfl ?_); refine goesL_ (some 13) rfl rfl Try.func17 (by kernel_rfl) rfl #[.slice A0 l0.length c0] rfl (by (try simp only [List.map_toArray, List.map_cons, List.map_nil]); first | done | rfl | (simp only [List.length_drop, List.length_take]; rfl)) ?_; (with_reducible refine (estoversref36_Check.calls k _ _ l0 t247 _ ?side1 ?side2 A4.out).mono ?_); (case side1 => repeat (first | exact HR0.out | (with_reducible refine Kd.C_alloc ?_ _) | (with_reducible refine Kd.C_drewN ?_ _) | (with_reducible refine Kd.C_drew ?_))); (case side2 => exact HC0.out); rintro e w7 ⟨rfl, hb⟩; refine ⟨_, rfl, ?_⟩; have n0_ := Aside0.mk (below_step (by repeat (first | (with_reducible first | exact HB.out | apply below_alloc | apply pw_below_drewN | apply below_drew1) | exact HB.out)) hb); clear HB; have HB := n0_; clear n0_; (try clear hb); (try clear hb2); (try clear hk); (try clear hi)))
    (try simp only [Act.put, List.setIfInBounds_toArray, List.set_cons_zero, List.set_cons_succ])
    go_cut [22] (fun v22 wc => ∃ (kq : Nat) (x22_5 : Bool), v22 = .bool x22_5 ∧ Aside0 (estoversref36_Replace.j0 kq l0 a1 a2 x22_5 = some (r1, r2)) ∧ Aside0 (kq ≤ k) ∧ Aside0 (Below w.heap.size w wc))
    case first =>
      have H := HC6.out
      clear HC6
      by_cases c8 : a2 < 0
      · rw [if_pos c8] at H
        have c8b0 : decide (a2 < 0) = true := decide_eq_true c8
        clear c8
        (first | rw [c8b0] | (simp only [i64_w, i32_w]; rw [c8b0]) | skip)
        have H' := Aside0.mk H
        clear H
        go_wp2
        go_meet
        case rel => exact ⟨_, (true), (by first | rfl | (simp; done) | (simp [*]; done)), H', ⟨by first | omega | exact Nat.le_refl _⟩, ⟨by repeat (first | (with_reducible first | exact HB.out | apply below_alloc | apply pw_below_drewN | apply below_drew1) | exact HB.out)⟩⟩
      · rw [if_neg c8] at H
        have c8b0 : decide (a2 < 0) = false := decide_eq_false c8
        clear c8
        (first | rw [c8b0] | (simp only [i64_w, i32_w]; rw [c8b0]) | skip)
        have H' := Aside0.mk H
        clear H
        go_wp2
        go_meet
        case rel => exact ⟨_, (decide (a2 ≥ 256)), (by first | rfl | (simp; done) | (simp [*]; done)), H', ⟨by first | omega | exact Nat.le_refl _⟩, ⟨by repeat (first | (with_reducible first | exact HB.out | apply below_alloc | apply pw_below_drewN | apply below_drew1) | exact HB.out)⟩⟩
    case rest =>
      clear HC6
      try clear c1
      try clear c2
      try clear p2
      try clear c5
      try clear c5b0
      try clear c5b1
      try clear c8
      try clear c8b0
      obtain ⟨kq, x22_5, rfl, HA, HJ5, HB⟩ := hcut
      cases kq with
      | zero => exact absurd HA.out (by simp [estoversref36_Replace.j0])
      | succ kj5 =>
        have H := HA.out
        clear HA
        simp only [estoversref36_Replace.j0] at H
        by_cases c9 : x22_5 = true
        · subst c9
          have H1 : (some (([] : List (List Int)), 2)) = some (r1, r2) := by rw [if_pos rfl] at H; exact H
          clear H
          have H := H1
          clear H1
          simp only [Option.some.injEq, Prod.mk.injEq] at H
          obtain ⟨rfl, rfl⟩ := H
          go_wp2
          go_ret2
          exact ⟨_, by first | rfl | (simp [errW_none, errW_some] <;> rfl) | (simp [*, errW_none, errW_some] <;> rfl), by first | exact Kd.S_nil _ _ _ _ _ | exact Kd.N_nil _ _ _ _ _ | exact Kd.V_nil _ _ _ _ _ | exact Kd.Q_nil _ _ _ _ _ | exact Kd.R_nil _ _ _ _ _, by repeat (first | (with_reducible first | exact HB.out | apply below_alloc | apply pw_below_drewN | apply below_drew1) | exact HB.out)⟩
        · replace c9 := Bool.eq_false_iff.mpr c9
          subst c9
          have H1 : ((estoversref36_where.f kj5 l0 a1).bind fun t248 => (if t248 < 0 then (some (([] : List (List Int)), 6)) else ((estoversref36_where.f kj5 l0 a2).bind fun t249 => (if t249 ≥ 0 then (some (([] : List (List Int)), 7)) else ((estoversref36_Clone.f kj5 l0).bind fun t250 => (if 0 ≤ t248 then (if t248 < (t250.length : Int) then (estoversref36_Replace.l0 kj5 a1 a2 t248 t250 ((rd_L1 t250 t248).length : Int) 0) else (none)) else (none))))))) = some (r1, r2) := by rw [if_neg (show ¬ (false = true) by decide)] at H; exact H
          clear H
          have H := H1
          clear H1
          replace H := Option.bind_eq_some_iff.mp H
          obtain ⟨t248, A100, H⟩ := H
          replace H : (if t248 < 0 then (some (([] : List (List Int)), 6)) else ((estoversref36_where.f kj5 l0 a2).bind fun t249 => (if t249 ≥ 0 then (some (([] : List (List Int)), 7)) else ((estoversref36_Clone.f kj5 l0).bind fun t250 => (if 0 ≤ t248 then (if t248 < (t250.length : Int) then (estoversref36_Replace.l0 kj5 a1 a2 t248 t250 ((rd_L1 t250 t248).length : Int) 0) else (none)) else (none)))))) = some (r1, r2) := H
          have A10 := Aside0.mk A100
          clear A100
          by_cases c11 : t248 < 0
          · rw [if_pos c11] at H
            have c11b0 : decide (t248 < 0) = true := decide_eq_true c11
            clear c11
            simp only [Option.some.injEq, Prod.mk.injEq] at H
            obtain ⟨rfl, rfl⟩ := H
            go_wp2_with (first | ((with_reducible refine gate_callee (f := 34) rfl ?_); refine goesL_ (some 25) rfl rfl Try.func34 (by kernel_rfl) rfl #[.slice A0 l0.length c0, .int .i64 a1] rfl (by (try simp only [List.map_toArray, List.map_cons, List.map_nil]); first | done | rfl | (simp only [List.length_drop, List.length_take]; rfl)) ?_; (with_reducible refine (estoversref36_where.calls kj5 _ _ l0 a1 t248 _ ?side1 ?side2 A10.out).mono ?_); (case side1 => repeat (first | exact (Kd.C_below HR0.out HB.out) | (with_reducible refine Kd.C_alloc ?_ _) | (with_reducible refine Kd.C_drewN ?_ _) | (with_reducible refine Kd.C_drew ?_))); (case side2 => exact HC0.out); rintro e w' ⟨rfl, ⟨nd, rfl⟩⟩; refine ⟨_, rfl, ?_⟩))
            go_ret2
            exact ⟨_, by first | rfl | (simp [errW_none, errW_some] <;> rfl) | (simp [*, errW_none, errW_some] <;> rfl), by first | exact Kd.S_nil _ _ _ _ _ | exact Kd.N_nil _ _ _ _ _ | exact Kd.V_nil _ _ _ _ _ | exact Kd.Q_nil _ _ _ _ _ | exact Kd.R_nil _ _ _ _ _, by repeat (first | (with_reducible first | exact HB.out | apply below_alloc | apply pw_below_drewN | apply below_drew1) | exact HB.out)⟩
          · rw [if_neg c11] at H
            have c11b0 : decide (t248 < 0) = false := decide_eq_false c11
            clear c11
            replace H := Option.bind_eq_some_iff.mp H
            obtain ⟨t249, A120, H⟩ := H
            replace H : (if t249 ≥ 0 then (some (([] : List (List Int)), 7)) else ((estoversref36_Clone.f kj5 l0).bind fun t250 => (if 0 ≤ t248 then (if t248 < (t250.length : Int) then (estoversref36_Replace.l0 kj5 a1 a2 t248 t250 ((rd_L1 t250 t248).length : Int) 0) else (none)) else (none)))) = some (r1, r2) := H
            have A12 := Aside0.mk A120
            clear A120
            by_cases c13 : t249 ≥ 0
            · rw [if_pos c13] at H
              have c13b0 : decide (0 ≤ t249) = true := decide_eq_true c13
              clear c13
              simp only [Option.some.injEq, Prod.mk.injEq] at H
              obtain ⟨rfl, rfl⟩ := H
              go_wp2_with (first | ((with_reducible refine gate_callee (f := 34) rfl ?_); refine goesL_ (some 25) rfl rfl Try.func34 (by kernel_rfl) rfl #[.slice A0 l0.length c0, .int .i64 a1] rfl (by (try simp only [List.map_toArray, List.map_cons, List.map_nil]); first | done | rfl | (simp only [List.length_drop, List.length_take]; rfl)) ?_; (with_reducible refine (estoversref36_where.calls kj5 _ _ l0 a1 t248 _ ?side1 ?side2 A10.out).mono ?_); (case side1 => repeat (first | exact (Kd.C_below HR0.out HB.out) | (with_reducible refine Kd.C_alloc ?_ _) | (with_reducible refine Kd.C_drewN ?_ _) | (with_reducible refine Kd.C_drew ?_))); (case side2 => exact HC0.out); rintro e w' ⟨rfl, ⟨nd, rfl⟩⟩; refine ⟨_, rfl, ?_⟩) | ((with_reducible refine gate_callee (f := 34) rfl ?_); refine goesL_ (some 30) rfl rfl Try.func34 (by kernel_rfl) rfl #[.slice A0 l0.length c0, .int .i64 a2] rfl (by (try simp only [List.map_toArray, List.map_cons, List.map_nil]); first | done | rfl | (simp only [List.length_drop, List.length_take]; rfl)) ?_; (with_reducible refine (estoversref36_where.calls kj5 _ _ l0 a2 t249 _ ?side1 ?side2 A12.out).mono ?_); (case side1 => repeat (first | exact (Kd.C_below HR0.out (by repeat (first | (with_reducible first | exact HB.out | apply below_alloc | apply pw_below_drewN | apply below_drew1) | exact HB.out))) | (with_reducible refine Kd.C_alloc ?_ _) | (with_reducible refine Kd.C_drewN ?_ _) | (with_reducible refine Kd.C_drew ?_))); (case side2 => exact HC0.out); rintro e w' ⟨rfl, ⟨nd, rfl⟩⟩; refine ⟨_, rfl, ?_⟩))
              go_ret2
              exact ⟨_, by first | rfl | (simp [errW_none, errW_some] <;> rfl) | (simp [*, errW_none, errW_some] <;> rfl), by first | exact Kd.S_nil _ _ _ _ _ | exact Kd.N_nil _ _ _ _ _ | exact Kd.V_nil _ _ _ _ _ | exact Kd.Q_nil _ _ _ _ _ | exact Kd.R_nil _ _ _ _ _, by repeat (first | (with_reducible first | exact HB.out | apply below_alloc | apply pw_below_drewN | apply below_drew1) | exact HB.out)⟩
            · rw [if_neg c13] at H
              have c13b0 : decide (0 ≤ t249) = false := decide_eq_false c13
              clear c13
              replace H := Option.bind_eq_some_iff.mp H
              obtain ⟨t250, A140, H⟩ := H
              replace H : (if 0 ≤ t248 then (if t248 < (t250.length : Int) then (estoversref36_Replace.l0 kj5 a1 a2 t248 t250 ((rd_L1 t250 t248).length : Int) 0) else (none)) else (none)) = some (r1, r2) := H
              have A14 := Aside0.mk A140
              clear A140
              by_cases c15 : 0 ≤ t248
              · rw [if_pos c15] at H
                have c15b0 : decide (0 ≤ t248) = true := decide_eq_true c15
                clear c15
                by_cases c16 : t248 < (t250.length : Int)
                · rw [if_pos c16] at H
                  have c16b0 : decide (t248 < (t250.length : Int)) = true := decide_eq_true c16
                  clear c16
                  have H' := Aside0.mk H
                  clear H
                  go_wp2_with (first | ((with_reducible refine gate_callee (f := 34) rfl ?_); refine goesL_ (some 25) rfl rfl Try.func34 (by kernel_rfl) rfl #[.slice A0 l0.length c0, .int .i64 a1] rfl (by (try simp only [List.map_toArray, List.map_cons, List.map_nil]); first | done | rfl | (simp only [List.length_drop, List.length_take]; rfl)) ?_; (with_reducible refine (estoversref36_where.calls kj5 _ _ l0 a1 t248 _ ?side1 ?side2 A10.out).mono ?_); (case side1 => repeat (first | exact (Kd.C_below HR0.out HB.out) | (with_reducible refine Kd.C_alloc ?_ _) | (with_reducible refine Kd.C_drewN ?_ _) | (with_reducible refine Kd.C_drew ?_))); (case side2 => exact HC0.out); rintro e w' ⟨rfl, ⟨nd, rfl⟩⟩; refine ⟨_, rfl, ?_⟩) | ((with_reducible refine gate_callee (f := 34) rfl ?_); refine goesL_ (some 30) rfl rfl Try.func34 (by kernel_rfl) rfl #[.slice A0 l0.length c0, .int .i64 a2] rfl (by (try simp only [List.map_toArray, List.map_cons, List.map_nil]); first | done | rfl | (simp only [List.length_drop, List.length_take]; rfl)) ?_; (with_reducible refine (estoversref36_where.calls kj5 _ _ l0 a2 t249 _ ?side1 ?side2 A12.out).mono ?_); (case side1 => repeat (first | exact (Kd.C_below HR0.out (by repeat (first | (with_reducible first | exact HB.out | apply below_alloc | apply pw_below_drewN | apply below_drew1) | exact HB.out))) | (with_reducible refine Kd.C_alloc ?_ _) | (with_reducible refine Kd.C_drewN ?_ _) | (with_reducible refine Kd.C_drew ?_))); (case side2 => exact HC0.out); rintro e w' ⟨rfl, ⟨nd, rfl⟩⟩; refine ⟨_, rfl, ?_⟩) | ((with_reducible refine gate_callee (f := 36) rfl ?_); refine goesL_ (some 33) rfl rfl Try.func36 (by kernel_rfl) rfl #[.slice A0 l0.length c0] rfl (by (try simp only [List.map_toArray, List.map_cons, List.map_nil]); first | done | rfl | (simp only [List.length_drop, List.length_take]; rfl)) ?_; (with_reducible refine (estoversref36_Clone.calls kj5 _ _ l0 t250 _ ?side1 ?side2 A14.out).mono ?_); (case side1 => repeat (first | exact (Kd.C_below HR0.out (by repeat (first | (with_reducible first | exact HB.out | apply below_alloc | apply pw_below_drewN | apply below_drew1) | exact HB.out))) | (with_reducible refine Kd.C_alloc ?_ _) | (with_reducible refine Kd.C_drewN ?_ _) | (with_reducible refine Kd.C_drew ?_))); (case side2 => exact HC0.out); rintro e w17 ⟨v251, rfl, ho0, hb⟩; refine ⟨_, rfl, ?_⟩; have n0_ := Aside0.mk (Kd.S_lower ho0 (below_size (by repeat (first | (with_reducible first | exact HB.out | apply below_alloc | apply pw_below_drewN | apply below_drew1) | exact HB.out)))); have n1_ := Aside0.mk (below_step (by repeat (first | (with_reducible first | exact HB.out | apply below_alloc | apply pw_below_drewN | apply below_drew1) | exact HB.out)) hb); clear HB; have HO252 := n0_; have HB := n1_; clear n0_ n1_; (try clear hb); (try clear hb2); (try clear hk); (try clear hi); (try clear ho0); obtain ⟨Ao18, co18, eo18⟩ := Kd.S_slice HO252.out; subst eo18; have p253 : 0 ≤ (t248 : Int) := of_decide_eq_true (by first | (with_reducible assumption) | assumption); have q253 : t248 < (t250.length : Int) := of_decide_eq_true (by first | (with_reducible assumption) | assumption); obtain ⟨ad253, A253_0, c253_0, e253, hx253_0, hl253_0, hi253_0⟩ := at_L1 (Kd.S_reads' HO252.out).2.2 t248 p253 q253; cases e253; obtain ⟨ce253, hce253, hMe253, hcc253⟩ := Kd.S_get HO252.out [] t248 p253 (by first | exact q253 | exact of_decide_eq_true (by first | (with_reducible assumption) | assumption) | (have e_ := (Kd.S_reads' HO252.out).1; omega)); obtain ⟨ve253_0, rfl, ge253_0⟩ := hMe253; have hv253_0 := hcc253 0 _ rfl; rw [Nat.add_zero, show ((Kd.slice 3 (Kd.int .i64))).sz = 1 from rfl, Nat.mul_one] at hv253_0; replace hv253_0 := Option.some.inj (hv253_0.symm.trans hx253_0); rw [hv253_0] at ge253_0; have HL253_0 := Aside0.mk (show Kd.R (Kd.int .i64) 3 _ _ _ _ (rd_L1 t250 t248) from ge253_0); clear hv253_0 ge253_0; have HX253_0 := Aside0.mk hx253_0; clear hcc253 hce253; have HR253_0 := Aside0.mk hi253_0; have HC253_0 := Aside0.mk hl253_0; clear hi253_0 hl253_0; replace p253 := eq_true p253; replace q253 := eq_true q253))
                  go_loopg [39] kj5 (fun kq v39 w' => ∃ (x10_2 : List (List Int)) (x39_2 : Int), v39 = .int .i64 x39_2 ∧ Aside0 (estoversref36_Replace.l0 kq a1 a2 t248 x10_2 ((rd_L1 t250 t248).length : Int) x39_2 = some (r1, r2)) ∧ Aside0 (kq ≤ kj5) ∧ Aside0 (Kd.S (Kd.slice 3 (Kd.int .i64)) 25 w' w.heap.size (fun _ => True) (.slice (some ad253) t250.length co18) x10_2) ∧ Aside0 (Below w.heap.size w w'))
                  case atStart => exact ⟨(t250), (0), (by first | rfl | (simp; done) | (simp [*]; done)), H', ⟨Nat.le_refl _⟩, ⟨by (with_reducible repeat (first | apply Kd.S_alloc | apply Kd.S_drewN | apply Kd.S_drew)); exact HO252.out⟩, ⟨by repeat (first | (with_reducible first | exact HB.out | apply below_alloc | apply pw_below_drewN | apply below_drew1) | exact HB.out)⟩⟩
                  case round =>
                    clear H'
                    try clear c1
                    try clear c2
                    try clear p2
                    try clear q2
                    try clear hx2
                    try clear c3
                    try clear c5
                    try clear c5b0
                    try clear c5b1
                    try clear c8
                    try clear c8b0
                    try clear c9
                    try clear c11
                    try clear c11b0
                    try clear c13
                    try clear c13b0
                    try clear c15
                    try clear c15b0
                    try clear c16
                    try clear c16b0
                    try clear c17
                    try clear hx253_0
                    try clear p2
                    try clear p253
                    try clear q253
                    obtain ⟨x10_2, x39_2, rfl, HA, HK2, HO_10, HB⟩ := hrel
                    have hl10_2 := (Kd.S_reads' HO_10.out).1
                    rw [hl10_2] at HO_10
                    (try simp only [hl10_2])
                    cases gk with
                    | zero => exact absurd HA.out (by simp [estoversref36_Replace.l0])
                    | succ k2 =>
                      have H := HA.out
                      clear HA
                      simp only [estoversref36_Replace.l0] at H
                      by_cases c19 : x39_2 < ((rd_L1 t250 t248).length : Int)
                      · rw [if_pos c19] at H
                        have c19b0 : decide (x39_2 < ((rd_L1 t250 t248).length : Int)) = true := decide_eq_true c19
                        clear c19
                        by_cases c20 : 0 ≤ t248
                        · rw [if_pos c20] at H
                          have c20b0 : decide (0 ≤ t248) = true := decide_eq_true c20
                          clear c20
                          by_cases c21 : t248 < (x10_2.length : Int)
                          · rw [if_pos c21] at H
                            have c21b0 : decide (t248 < (x10_2.length : Int)) = true := decide_eq_true c21
                            clear c21
                            by_cases c22 : 0 ≤ x39_2
                            · rw [if_pos c22] at H
                              have c22b0 : decide (0 ≤ x39_2) = true := decide_eq_true c22
                              clear c22
                              by_cases c23 : x39_2 < ((rd_L1 x10_2 t248).length : Int)
                              · rw [if_pos c23] at H
                                have c23b0 : decide (x39_2 < ((rd_L1 x10_2 t248).length : Int)) = true := decide_eq_true c23
                                clear c23
                                by_cases c24 : (rd (rd_L1 x10_2 t248) x39_2) = a1
                                · rw [if_pos c24] at H
                                  have c24b0 : ((rd (rd_L1 x10_2 t248) x39_2) == a1) = true := beq_iff_eq.mpr c24
                                  have c24b1 : ((rd (rd_L1 x10_2 t248) x39_2) != a1) = false := bne_eq_false_iff_eq.mpr c24
                                  clear c24
                                  obtain ⟨y257, hy257⟩ : ∃ y_ : List Int, y_ = ((rd_L1 x10_2 t248).set (x39_2 : Int).toNat a2) := ⟨_, rfl⟩
                                  replace H : (estoversref36_Replace.l0 k2 a1 a2 t248 (x10_2.set (t248 : Int).toNat y257) ((rd_L1 t250 t248).length : Int) (wrap64 (x39_2 + 1))) = some (r1, r2) := by first | (rw [hy257]; with_reducible exact H) | (have H2_ := (Option.bind_some _ _).symm.trans H; rw [hy257]; with_reducible exact H2_) | (have H2_ := (Option.bind_some _ _).symm.trans H; with_reducible exact H2_) | with_reducible exact H | (rw [hy257]; exact H) | exact H
                                  have Ny257 := Aside0.mk hy257
                                  clear hy257
                                  obtain ⟨y259, hy259⟩ : ∃ y_ : List (List Int), y_ = (x10_2.set (t248 : Int).toNat y257) := ⟨_, rfl⟩
                                  replace H : (estoversref36_Replace.l0 k2 a1 a2 t248 y259 ((rd_L1 t250 t248).length : Int) (wrap64 (x39_2 + 1))) = some (r1, r2) := by first | (rw [hy259]; with_reducible exact H) | (have H2_ := (Option.bind_some _ _).symm.trans H; rw [hy259]; with_reducible exact H2_) | (have H2_ := (Option.bind_some _ _).symm.trans H; with_reducible exact H2_) | with_reducible exact H | (rw [hy259]; exact H) | exact H
                                  have Ny259 := Aside0.mk hy259
                                  clear hy259
                                  have H' := Aside0.mk H
                                  clear H
                                  have p254 : 0 ≤ (t248 : Int) := of_decide_eq_true (by first | (with_reducible assumption) | assumption)
                                  have q254 : t248 < (x10_2.length : Int) := of_decide_eq_true (by first | (with_reducible assumption) | assumption)
                                  obtain ⟨ad254, A254_0, c254_0, e254, hx254_0, hl254_0, hi254_0⟩ := at_L1 (Kd.S_reads' HO_10.out).2.2 t248 p254 q254
                                  obtain rfl : ad253 = ad254 := (by injection e254)
                                  obtain ⟨ce254, hce254, hMe254, hcc254⟩ := Kd.S_get HO_10.out [] t248 p254 (by first | exact q254 | exact of_decide_eq_true (by first | (with_reducible assumption) | assumption) | (have e_ := (Kd.S_reads' HO_10.out).1; omega))
                                  obtain ⟨ve254_0, rfl, ge254_0⟩ := hMe254
                                  have hv254_0 := hcc254 0 _ rfl
                                  rw [Nat.add_zero, show ((Kd.slice 3 (Kd.int .i64))).sz = 1 from rfl, Nat.mul_one] at hv254_0
                                  replace hv254_0 := Option.some.inj (hv254_0.symm.trans hx254_0)
                                  rw [hv254_0] at ge254_0
                                  have HL254_0 := Aside0.mk (show Kd.R (Kd.int .i64) 3 _ _ _ _ (rd_L1 x10_2 t248) from ge254_0)
                                  clear hv254_0 ge254_0
                                  have HX254_0 := Aside0.mk hx254_0
                                  clear hcc254 hce254
                                  have HR254_0 := Aside0.mk hi254_0
                                  have HC254_0 := Aside0.mk hl254_0
                                  clear hi254_0 hl254_0
                                  replace p254 := eq_true p254
                                  replace q254 := eq_true q254
                                  have p255 : 0 ≤ (x39_2 : Int) := of_decide_eq_true (by first | (with_reducible assumption) | assumption)
                                  have q255 : x39_2 < ((rd_L1 x10_2 t248).length : Int) := of_decide_eq_true (by first | (with_reducible assumption) | assumption)
                                  obtain ⟨ad255, e255, hx255_0⟩ := Kd.at_int (by repeat (first | (with_reducible exact HR254_0.out) | (with_reducible refine Kd.C_alloc ?_ _) | (with_reducible refine Kd.C_drewN ?_ _) | (with_reducible refine Kd.C_drew ?_) | exact HR254_0.out)) x39_2 p255 q255
                                  cases e255
                                  replace p255 := eq_true p255
                                  replace q255 := eq_true q255
                                  have p256 : 0 ≤ (t248 : Int) := of_decide_eq_true (by first | (with_reducible assumption) | assumption)
                                  have q256 : t248 < (x10_2.length : Int) := of_decide_eq_true (by first | (with_reducible assumption) | assumption)
                                  obtain ⟨ad256, A256_0, c256_0, e256, hx256_0, hl256_0, hi256_0⟩ := at_L1 (Kd.S_reads' HO_10.out).2.2 t248 p256 q256
                                  obtain rfl : ad253 = ad256 := (by injection e256)
                                  obtain ⟨ce256, hce256, hMe256, hcc256⟩ := Kd.S_get HO_10.out [] t248 p256 (by first | exact q256 | exact of_decide_eq_true (by first | (with_reducible assumption) | assumption) | (have e_ := (Kd.S_reads' HO_10.out).1; omega))
                                  obtain ⟨ve256_0, rfl, ge256_0⟩ := hMe256
                                  have hv256_0 := hcc256 0 _ rfl
                                  rw [Nat.add_zero, show ((Kd.slice 3 (Kd.int .i64))).sz = 1 from rfl, Nat.mul_one] at hv256_0
                                  replace hv256_0 := Option.some.inj (hv256_0.symm.trans hx256_0)
                                  rw [hv256_0] at ge256_0
                                  have HL256_0 := Aside0.mk (show Kd.R (Kd.int .i64) 3 _ _ _ _ (rd_L1 x10_2 t248) from ge256_0)
                                  clear hv256_0 ge256_0
                                  have HX256_0 := Aside0.mk hx256_0
                                  clear hcc256 hce256
                                  have HR256_0 := Aside0.mk hi256_0
                                  have HC256_0 := Aside0.mk hl256_0
                                  clear hi256_0 hl256_0
                                  replace p256 := eq_true p256
                                  replace q256 := eq_true q256
                                  have ea_ := Option.some.inj (hx254_0.symm.trans hx256_0)
                                  injection ea_ with ea_ en_ ec_
                                  subst ea_
                                  subst ec_
                                  clear en_
                                  have p25 : 0 ≤ (x39_2 : Int) := of_decide_eq_true (by first | (with_reducible assumption) | assumption)
                                  have q25 : (x39_2 : Int) < (((rd_L1 x10_2 t248).length : Int) : Int) := of_decide_eq_true (by first | (with_reducible assumption) | assumption)
                                  obtain ⟨go25, co25, eo25, gb25, gl25, cl25, HG25⟩ := Kd.R_form HL256_0.out (by omega)
                                  (first | cases eo25 | (injection eo25 with ea_ en_ ec_; (first | subst ea_ | (injection ea_ with ea_; subst ea_)); subst ec_; clear en_))
                                  have GB25 := Aside0.mk gb25
                                  have GG25 := Aside0.mk HG25
                                  clear gb25 gl25 HG25
                                  (first | simp only [add_plain] at hx255_0 | skip)
                                  obtain ⟨hx25_0, hf25_0⟩ := Kd.R_celln 0 HL256_0.out (x39_2 : Int) p25 q25
                                  replace p25 := eq_true p25
                                  replace q25 := eq_true q25
                                  have hq26 : (t248 : Int) < (x10_2.length : Int) := (by have h_ : (t248 : Int) < ((x10_2.length : Int) : Int) := of_decide_eq_true (by first | (with_reducible assumption) | assumption); first | exact h_ | (have e_ := (Kd.S_reads' HO_10.out).1; omega) | simpa only [List.length_set, List.length_set] using h_)
                                  obtain ⟨oki26, ce26, hcl26, hM26, hcc26, hok26, hbk26⟩ := Kd.S_borrow HO_10.out [] (t248 : Int) (of_decide_eq_true (by first | (with_reducible assumption) | assumption)) hq26
                                  obtain ⟨ve26_0, rfl, ge26_0⟩ := hM26
                                  have hv26 := hcc26 0 _ rfl
                                  rw [Nat.add_zero, show ((Kd.slice 3 (Kd.int .i64))).sz = 1 from rfl, Nat.mul_one] at hv26
                                  replace hv26 := Option.some.inj (hv26.symm.trans HX256_0.out)
                                  subst hv26
                                  clear hcc26 hcl26
                                  replace ge26_0 := (show Kd.R (Kd.int .i64) 3 _ _ _ _ (rd_L1 x10_2 t248) from ge26_0)
                                  have HP26 := Kd.R_putg ge26_0 (x39_2 : Int) a2
                                  go_wp2_with (first | ((with_reducible refine gate_store (t := 3) (p := 57) rfl ?_); refine store_event (t := 3) (p := 57) (v := ?vo_w27) (w1 := (wr.setCell ⟨go25, (x39_2 : Int).toNat, none⟩ (.int .i64 a2))) ?hg ?ho ?hn ?hr ?_; (case ho => rfl); (case hg => rfl); (case hn => rfl); (case hr => first | (go_simp; done) | (go_simp; rfl)); intro w27 hw; have hg : wr.grownBy w27 (some go25) := (by rw [hw]; exact HP26.2); have hz_ : Kd.R (Kd.int .i64) 3 w27 w.heap.size oki26 (.slice (some ⟨go25, 0, none⟩) (rd_L1 x10_2 t248).length c254_0) y257 := (by rw [hw, Ny257.out]; exact HP26.1); have hp_ : Kd.S (Kd.slice 3 (Kd.int .i64)) 25 w27 w.heap.size (fun _ => True) (.slice (some ad253) x10_2.length co18) y259 := (by rw [Ny259.out]; exact hbk26 hg (fun k_ e_ => by injection e_ with e_; subst e_; exact ge26_0.1 _ rfl) (Kd.M_row hz_)); have hm_ := Kd.R_mono hz_ hok26; clear HP26 hbk26; have n0_ := Aside0.mk (hp_); have n1_ := Aside0.mk ((by rw [hw]; exact below_set (HB.out) GB25.out : Below w.heap.size w w27)); have n2_ := Aside0.mk (hm_); have n3_ := Aside0.mk ((Kd.R_reads' hm_).2.1); clear HO_10; clear HB; clear HL254_0; clear HL256_0; have HO_10 := n0_; have HB := n1_; have HL260 := n2_; have HC258 := n3_; clear n0_ n1_ n2_ n3_; clear hg hw hp_ hz_ hm_ hok26))
                                  (try simp only [← hl10_2])
                                  go_roundg k2
                                  case measure => have := HJ5.out; have := HK2.out; omega
                                  case rel => exact ⟨(y259), (wrap64 (x39_2 + 1)), (by first | rfl | (simp; done) | (simp [*]; done)), H', ⟨by have := HJ5.out; have := HK2.out; omega⟩, ⟨by (try simp only [hl10_2]); (with_reducible repeat (first | apply Kd.S_alloc | apply Kd.S_drewN | apply Kd.S_drew)); exact HO_10.out⟩, ⟨by repeat (first | (with_reducible first | exact HB.out | apply below_alloc | apply pw_below_drewN | apply below_drew1) | exact HB.out)⟩⟩
                                · rw [if_neg c24] at H
                                  have c24b0 : ((rd (rd_L1 x10_2 t248) x39_2) == a1) = false := beq_eq_false_iff_ne.mpr c24
                                  have c24b1 : ((rd (rd_L1 x10_2 t248) x39_2) != a1) = true := bne_iff_ne.mpr c24
                                  have H' := Aside0.mk H
                                  clear H
                                  have p254 : 0 ≤ (t248 : Int) := of_decide_eq_true (by first | (with_reducible assumption) | assumption)
                                  have q254 : t248 < (x10_2.length : Int) := of_decide_eq_true (by first | (with_reducible assumption) | assumption)
                                  obtain ⟨ad254, A254_0, c254_0, e254, hx254_0, hl254_0, hi254_0⟩ := at_L1 (Kd.S_reads' HO_10.out).2.2 t248 p254 q254
                                  obtain rfl : ad253 = ad254 := (by injection e254)
                                  obtain ⟨ce254, hce254, hMe254, hcc254⟩ := Kd.S_get HO_10.out [] t248 p254 (by first | exact q254 | exact of_decide_eq_true (by first | (with_reducible assumption) | assumption) | (have e_ := (Kd.S_reads' HO_10.out).1; omega))
                                  obtain ⟨ve254_0, rfl, ge254_0⟩ := hMe254
                                  have hv254_0 := hcc254 0 _ rfl
                                  rw [Nat.add_zero, show ((Kd.slice 3 (Kd.int .i64))).sz = 1 from rfl, Nat.mul_one] at hv254_0
                                  replace hv254_0 := Option.some.inj (hv254_0.symm.trans hx254_0)
                                  rw [hv254_0] at ge254_0
                                  have HL254_0 := Aside0.mk (show Kd.R (Kd.int .i64) 3 _ _ _ _ (rd_L1 x10_2 t248) from ge254_0)
                                  clear hv254_0 ge254_0
                                  have HX254_0 := Aside0.mk hx254_0
                                  clear hcc254 hce254
                                  have HR254_0 := Aside0.mk hi254_0
                                  have HC254_0 := Aside0.mk hl254_0
                                  clear hi254_0 hl254_0
                                  replace p254 := eq_true p254
                                  replace q254 := eq_true q254
                                  have p255 : 0 ≤ (x39_2 : Int) := of_decide_eq_true (by first | (with_reducible assumption) | assumption)
                                  have q255 : x39_2 < ((rd_L1 x10_2 t248).length : Int) := of_decide_eq_true (by first | (with_reducible assumption) | assumption)
                                  obtain ⟨ad255, e255, hx255_0⟩ := Kd.at_int (by repeat (first | (with_reducible exact HR254_0.out) | (with_reducible refine Kd.C_alloc ?_ _) | (with_reducible refine Kd.C_drewN ?_ _) | (with_reducible refine Kd.C_drew ?_) | exact HR254_0.out)) x39_2 p255 q255
                                  cases e255
                                  replace p255 := eq_true p255
                                  replace q255 := eq_true q255
                                  go_wp2
                                  (try simp only [← hl10_2])
                                  go_roundg k2
                                  case measure => have := HJ5.out; have := HK2.out; omega
                                  case rel => exact ⟨(x10_2), (wrap64 (x39_2 + 1)), (by first | rfl | (simp; done) | (simp [*]; done)), H', ⟨by have := HJ5.out; have := HK2.out; omega⟩, ⟨by (try simp only [hl10_2]); (with_reducible repeat (first | apply Kd.S_alloc | apply Kd.S_drewN | apply Kd.S_drew)); exact HO_10.out⟩, ⟨by repeat (first | (with_reducible first | exact HB.out | apply below_alloc | apply pw_below_drewN | apply below_drew1) | exact HB.out)⟩⟩
                              · rw [if_neg c23] at H
                                exact absurd H (by simp)
                            · rw [if_neg c22] at H
                              exact absurd H (by simp)
                          · rw [if_neg c21] at H
                            exact absurd H (by simp)
                        · rw [if_neg c20] at H
                          exact absurd H (by simp)
                      · rw [if_neg c19] at H
                        have c19b0 : decide (x39_2 < ((rd_L1 t250 t248).length : Int)) = false := decide_eq_false c19
                        clear c19
                        simp only [Option.some.injEq, Prod.mk.injEq] at H
                        obtain ⟨rfl, rfl⟩ := H
                        go_wp2
                        go_ret2
                        exact ⟨_, by first | rfl | (simp [errW_none, errW_some] <;> rfl) | (simp [*, errW_none, errW_some] <;> rfl), by (with_reducible repeat (first | apply Kd.S_alloc | apply Kd.S_drewN | apply Kd.S_drew)); exact HO_10.out, by repeat (first | (with_reducible first | exact HB.out | apply below_alloc | apply pw_below_drewN | apply below_drew1) | exact HB.out)⟩
                · rw [if_neg c16] at H
                  exact absurd H (by simp)
              · rw [if_neg c15] at H
                exact absurd H (by simp)
  · rw [if_neg c5] at H
    have c5b0 : (t247 == 0) = false := beq_eq_false_iff_ne.mpr c5
    have c5b1 : (t247 != 0) = true := bne_iff_ne.mpr c5
    simp only [Option.some.injEq, Prod.mk.injEq] at H
    obtain ⟨rfl, rfl⟩ := H
    go_enter Try.func26, Try.ntmps26
    go_wp2_with (first | ((with_reducible refine gate_callee (f := 17) rfl ?_); refine goesL_ (some 13) rfl rfl Try.func17 (by kernel_rfl) rfl #[.slice A0 l0.length c0] rfl (by (try simp only [List.map_toArray, List.map_cons, List.map_nil]); first | done | rfl | (simp only [List.length_drop, List.length_take]; rfl)) ?_; (with_reducible refine (estoversref36_Check.calls k _ _ l0 t247 _ ?side1 ?side2 A4.out).mono ?_); (case side1 => repeat (first | exact HR0.out | (with_reducible refine Kd.C_alloc ?_ _) | (with_reducible refine Kd.C_drewN ?_ _) | (with_reducible refine Kd.C_drew ?_))); (case side2 => exact HC0.out); rintro e w28 ⟨rfl, hb⟩; refine ⟨_, rfl, ?_⟩; have n0_ := Aside0.mk (below_step (by repeat (first | (with_reducible first | exact HB.out | apply below_alloc | apply pw_below_drewN | apply below_drew1) | exact HB.out)) hb); clear HB; have HB := n0_; clear n0_; (try clear hb); (try clear hb2); (try clear hk); (try clear hi)))
    go_ret2
    exact ⟨_, by first | rfl | (simp [errW_none, errW_some] <;> rfl) | (simp [*, errW_none, errW_some] <;> rfl), by first | exact Kd.S_nil _ _ _ _ _ | exact Kd.N_nil _ _ _ _ _ | exact Kd.V_nil _ _ _ _ _ | exact Kd.Q_nil _ _ _ _ _ | exact Kd.R_nil _ _ _ _ _, by repeat (first | (with_reducible first | exact HB.out | apply below_alloc | apply pw_below_drewN | apply below_drew1) | exact HB.out)⟩

end Go.Proofs.Ytikdcoahoocpjaa.Q
