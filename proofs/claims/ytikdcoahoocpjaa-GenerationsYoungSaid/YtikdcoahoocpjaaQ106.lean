-- Written by wip/stubprint.py for this claim. Lean checks it.
import Derived.Test.YtikdcoahoocpjaaQ0
import Derived.Test.YtikdcoahoocpjaaQ100
import Derived.Test.YtikdcoahoocpjaaQ103
namespace Go.Proofs.Ytikdcoahoocpjaa.Q
open Go.RowKit Go.Proofs.YtikdcoahoocpjaaW.PrintWords Go.Proofs.YtikdcoahoocpjaaW.PrintLast Go.Proofs.YtikdcoahoocpjaaW.PrintMore
attribute [local go_sem] max2_int min2_int max_two min_two max_three min_three max_four min_four
set_option linter.unusedVariables false
set_option linter.unusedSimpArgs false

/-! ### estoversref36_Age: function 28 -/
mutual
def estoversref36_Age.l0 : Nat → List (List Int) → List Int → List Int → Int → Int → Option ((List (List Int)) × Int)
  | 0, _, _, _, _, _ => none
  | k + 1, x0, x1, x21, x22, x23 => if x23 < x22 then (if 0 ≤ x23 then (if x23 < (x21.length : Int) then ((estoversref36_where.f k x0 (rd x21 x23)).bind fun t293 => (if t293 < 0 then (some (([] : List (List Int)), 6)) else (if x23 ≤ (x1.length : Int) then ((estoversref36_Has.f k (x1.take (x23 : Int).toNat) (rd x21 x23)).bind fun t295 => (if t295 = true then (some (([] : List (List Int)), 7)) else (estoversref36_Age.l0 k x0 x1 x21 x22 (wrap64 (x23 + 1))))) else (none)))) else (none)) else (none)) else ((estoversref36_New.f).bind fun t296 => (estoversref36_Age.l1 k x1 t296 ([] : List Int) x0 (x0.length : Int) 0))
def estoversref36_Age.l1 : Nat → List Int → List (List Int) → List Int → List (List Int) → Int → Int → Option ((List (List Int)) × Int)
  | 0, _, _, _, _, _, _ => none
  | k + 1, x1, x9, x10, x39, x40, x41 => if x41 < x40 then (if 0 ≤ x41 then (if x41 < (x39.length : Int) then (if (wrap64 (x41 - 1)) < 0 then (estoversref36_Age.j2 k x1 x9 x10 (rd_L1 x39 x41) 0 x39 x40 x41) else (estoversref36_Age.j2 k x1 x9 x10 (rd_L1 x39 x41) (wrap64 (x41 - 1)) x39 x40 x41)) else (none)) else (none)) else (if 3 < (x9.length : Int) then (some ((x9.set (3 : Int).toNat x10), 0)) else (none))
def estoversref36_Age.j2 : Nat → List Int → List (List Int) → List Int → List Int → Int → List (List Int) → Int → Int → Option ((List (List Int)) × Int)
  | 0, _, _, _, _, _, _, _, _ => none
  | k + 1, x1, x9, x10, x12, x13, x39, x40, x41 => estoversref36_Age.l2 k x1 x9 x10 x13 x39 x40 x41 x12 (x12.length : Int) 0
def estoversref36_Age.l2 : Nat → List Int → List (List Int) → List Int → Int → List (List Int) → Int → Int → List Int → Int → Int → Option ((List (List Int)) × Int)
  | 0, _, _, _, _, _, _, _, _, _, _ => none
  | k + 1, x1, x9, x10, x13, x39, x40, x41, x50, x51, x52 => if x52 < x51 then (if 0 ≤ x52 then (if x52 < (x50.length : Int) then ((estoversref36_Has.f k x1 (rd x50 x52)).bind fun t302 => (if t302 = true then (if x10.length < 17592186044416 then (estoversref36_Age.l2 k x1 x9 (x10 ++ [rd x50 x52]) x13 x39 x40 x41 x50 x51 (wrap64 (x52 + 1))) else (none)) else (if 0 ≤ x13 then (if x13 < (x9.length : Int) then (if (rd_L1 x9 x13).length < 17592186044416 then (estoversref36_Age.l2 k x1 (x9.set (x13 : Int).toNat ((rd_L1 x9 x13) ++ [rd x50 x52])) x10 x13 x39 x40 x41 x50 x51 (wrap64 (x52 + 1))) else (none)) else (none)) else (none)))) else (none)) else (none)) else (estoversref36_Age.l1 k x1 x9 x10 x39 x40 (wrap64 (x41 + 1)))
end
def estoversref36_Age.f (k : Nat) (l0 : List (List Int)) (l1 : List Int) : Option ((List (List Int)) × Int) := (estoversref36_Check.f k l0).bind fun t291 => (if t291 = 0 then (estoversref36_Age.l0 k l0 l1 l1 (l1.length : Int) 0) else (some (([] : List (List Int)), t291)))
theorem estoversref36_Age.mono_l : ∀ k, (∀ y0 y1 y2 y3 y4, LeO (estoversref36_Age.l0 k y0 y1 y2 y3 y4) (estoversref36_Age.l0 (k + 1) y0 y1 y2 y3 y4)) ∧ (∀ y0 y1 y2 y3 y4 y5, LeO (estoversref36_Age.l1 k y0 y1 y2 y3 y4 y5) (estoversref36_Age.l1 (k + 1) y0 y1 y2 y3 y4 y5)) ∧ (∀ y0 y1 y2 y3 y4 y5 y6 y7, LeO (estoversref36_Age.j2 k y0 y1 y2 y3 y4 y5 y6 y7) (estoversref36_Age.j2 (k + 1) y0 y1 y2 y3 y4 y5 y6 y7)) ∧ (∀ y0 y1 y2 y3 y4 y5 y6 y7 y8 y9, LeO (estoversref36_Age.l2 k y0 y1 y2 y3 y4 y5 y6 y7 y8 y9) (estoversref36_Age.l2 (k + 1) y0 y1 y2 y3 y4 y5 y6 y7 y8 y9))
  | 0 => ⟨fun _ _ _ _ _ r h => by simp [estoversref36_Age.l0] at h, fun _ _ _ _ _ _ r h => by simp [estoversref36_Age.l1] at h, fun _ _ _ _ _ _ _ _ r h => by simp [estoversref36_Age.j2] at h, fun _ _ _ _ _ _ _ _ _ _ r h => by simp [estoversref36_Age.l2] at h⟩
  | k + 1 => by
    obtain ⟨ih0, ih1, ih2, ih3⟩ := estoversref36_Age.mono_l k
    refine ⟨?_, ?_, ?_, ?_⟩
    · intro y0 y1 y2 y3 y4
      unfold estoversref36_Age.l0
      repeat' first
      | (with_reducible exact ih0 _ _ _ _ _)
      | (with_reducible exact ih1 _ _ _ _ _ _)
      | (with_reducible exact ih2 _ _ _ _ _ _ _ _)
      | (with_reducible exact ih3 _ _ _ _ _ _ _ _ _ _)
      | (with_reducible exact estoversref36_Check.mono _ _)
      | (with_reducible exact estoversref36_Has.mono _ _ _)
      | (with_reducible exact estoversref36_where.mono _ _ _)
      | (with_reducible exact LeO.refl _)
      | (with_reducible exact LeO.none _)
      | (with_reducible refine LeO.ite ?_ ?_)
      | (with_reducible refine LeO.bind ?_ (fun _ => ?_))
      | exact ih0 _ _ _ _ _
      | exact ih1 _ _ _ _ _ _
      | exact ih2 _ _ _ _ _ _ _ _
      | exact ih3 _ _ _ _ _ _ _ _ _ _
      | exact estoversref36_Check.mono _ _
      | exact estoversref36_Has.mono _ _ _
      | exact estoversref36_where.mono _ _ _
      | exact LeO.none _
      | refine LeO.ite ?_ ?_
      | refine LeO.bind ?_ (fun _ => ?_)
    · intro y0 y1 y2 y3 y4 y5
      unfold estoversref36_Age.l1
      repeat' first
      | (with_reducible exact ih0 _ _ _ _ _)
      | (with_reducible exact ih1 _ _ _ _ _ _)
      | (with_reducible exact ih2 _ _ _ _ _ _ _ _)
      | (with_reducible exact ih3 _ _ _ _ _ _ _ _ _ _)
      | (with_reducible exact estoversref36_Check.mono _ _)
      | (with_reducible exact estoversref36_Has.mono _ _ _)
      | (with_reducible exact estoversref36_where.mono _ _ _)
      | (with_reducible exact LeO.refl _)
      | (with_reducible exact LeO.none _)
      | (with_reducible refine LeO.ite ?_ ?_)
      | (with_reducible refine LeO.bind ?_ (fun _ => ?_))
      | exact ih0 _ _ _ _ _
      | exact ih1 _ _ _ _ _ _
      | exact ih2 _ _ _ _ _ _ _ _
      | exact ih3 _ _ _ _ _ _ _ _ _ _
      | exact estoversref36_Check.mono _ _
      | exact estoversref36_Has.mono _ _ _
      | exact estoversref36_where.mono _ _ _
      | exact LeO.none _
      | refine LeO.ite ?_ ?_
      | refine LeO.bind ?_ (fun _ => ?_)
    · intro y0 y1 y2 y3 y4 y5 y6 y7
      unfold estoversref36_Age.j2
      repeat' first
      | (with_reducible exact ih0 _ _ _ _ _)
      | (with_reducible exact ih1 _ _ _ _ _ _)
      | (with_reducible exact ih2 _ _ _ _ _ _ _ _)
      | (with_reducible exact ih3 _ _ _ _ _ _ _ _ _ _)
      | (with_reducible exact estoversref36_Check.mono _ _)
      | (with_reducible exact estoversref36_Has.mono _ _ _)
      | (with_reducible exact estoversref36_where.mono _ _ _)
      | (with_reducible exact LeO.refl _)
      | (with_reducible exact LeO.none _)
      | (with_reducible refine LeO.ite ?_ ?_)
      | (with_reducible refine LeO.bind ?_ (fun _ => ?_))
      | exact ih0 _ _ _ _ _
      | exact ih1 _ _ _ _ _ _
      | exact ih2 _ _ _ _ _ _ _ _
      | exact ih3 _ _ _ _ _ _ _ _ _ _
      | exact estoversref36_Check.mono _ _
      | exact estoversref36_Has.mono _ _ _
      | exact estoversref36_where.mono _ _ _
      | exact LeO.none _
      | refine LeO.ite ?_ ?_
      | refine LeO.bind ?_ (fun _ => ?_)
    · intro y0 y1 y2 y3 y4 y5 y6 y7 y8 y9
      unfold estoversref36_Age.l2
      repeat' first
      | (with_reducible exact ih0 _ _ _ _ _)
      | (with_reducible exact ih1 _ _ _ _ _ _)
      | (with_reducible exact ih2 _ _ _ _ _ _ _ _)
      | (with_reducible exact ih3 _ _ _ _ _ _ _ _ _ _)
      | (with_reducible exact estoversref36_Check.mono _ _)
      | (with_reducible exact estoversref36_Has.mono _ _ _)
      | (with_reducible exact estoversref36_where.mono _ _ _)
      | (with_reducible exact LeO.refl _)
      | (with_reducible exact LeO.none _)
      | (with_reducible refine LeO.ite ?_ ?_)
      | (with_reducible refine LeO.bind ?_ (fun _ => ?_))
      | exact ih0 _ _ _ _ _
      | exact ih1 _ _ _ _ _ _
      | exact ih2 _ _ _ _ _ _ _ _
      | exact ih3 _ _ _ _ _ _ _ _ _ _
      | exact estoversref36_Check.mono _ _
      | exact estoversref36_Has.mono _ _ _
      | exact estoversref36_where.mono _ _ _
      | exact LeO.none _
      | refine LeO.ite ?_ ?_
      | refine LeO.bind ?_ (fun _ => ?_)
theorem estoversref36_Age.mono : ∀ a0 a1 k, LeO (estoversref36_Age.f k a0 a1) (estoversref36_Age.f (k + 1) a0 a1) := by
  intro a0 a1 k
  obtain ⟨ih0, ih1, ih2, ih3⟩ := estoversref36_Age.mono_l k
  unfold estoversref36_Age.f
  repeat' first
      | (with_reducible exact ih0 _ _ _ _ _)
      | (with_reducible exact ih1 _ _ _ _ _ _)
      | (with_reducible exact ih2 _ _ _ _ _ _ _ _)
      | (with_reducible exact ih3 _ _ _ _ _ _ _ _ _ _)
      | (with_reducible exact estoversref36_Check.mono _ _)
      | (with_reducible exact estoversref36_Has.mono _ _ _)
      | (with_reducible exact estoversref36_where.mono _ _ _)
      | (with_reducible exact LeO.refl _)
      | (with_reducible exact LeO.none _)
      | (with_reducible refine LeO.ite ?_ ?_)
      | (with_reducible refine LeO.bind ?_ (fun _ => ?_))
      | exact ih0 _ _ _ _ _
      | exact ih1 _ _ _ _ _ _
      | exact ih2 _ _ _ _ _ _ _ _
      | exact ih3 _ _ _ _ _ _ _ _ _ _
      | exact estoversref36_Check.mono _ _
      | exact estoversref36_Has.mono _ _ _
      | exact estoversref36_where.mono _ _ _
      | exact LeO.none _
      | refine LeO.ite ?_ ?_
      | refine LeO.bind ?_ (fun _ => ?_)
set_option maxHeartbeats 8000000 in
set_option maxRecDepth 100000 in
theorem estoversref36_Age.calls (k : Nat) (A0 : Option Addr) (c0 : Nat) (l0 : List (List Int)) (A1 : Option Addr) (c1 : Nat) (l1 : List Int) (r1 : List (List Int)) (r2 : Int) (w : World) (hr0 : Kd.C (Kd.slice 3 (Kd.int .i64)) w A0 l0.length l0) (hc0 : l0.length ≤ c0) (hr1 : Kd.C (Kd.int .i64) w A1 l1.length l1) (hc1 : l1.length ≤ c1) (h : estoversref36_Age.f k l0 l1 = some (r1, r2)) :
    Calls Try.prog 28 #[.slice A0 l0.length c0, .slice A1 l1.length c1] w fun e w' => ∃ v0_ : Value, e = .returned (.tuple #[v0_, .int .i64 r2]) ∧ Kd.S (Kd.slice 3 (Kd.int .i64)) 25 w' w.heap.size (fun _ => True) v0_ r1 ∧ Below w.heap.size w w' := by
  have HR0 := Aside0.mk hr0
  have HC0 := Aside0.mk hc0
  clear hr0 hc0
  have HR1 := Aside0.mk hr1
  have HC1 := Aside0.mk hc1
  clear hr1 hc1
  have HB := Aside0.mk (Below.refl w.heap.size w)
  have H : ((estoversref36_Check.f k l0).bind fun t291 => (if t291 = 0 then (estoversref36_Age.l0 k l0 l1 l1 (l1.length : Int) 0) else (some (([] : List (List Int)), t291)))) = some (r1, r2) := h
  clear h
  replace H := Option.bind_eq_some_iff.mp H
  obtain ⟨t291, A30, H⟩ := H
  replace H : (if t291 = 0 then (estoversref36_Age.l0 k l0 l1 l1 (l1.length : Int) 0) else (some (([] : List (List Int)), t291))) = some (r1, r2) := H
  have A3 := Aside0.mk A30
  clear A30
  by_cases c4 : t291 = 0
  · rw [if_pos c4] at H
    have c4b0 : (t291 == 0) = true := beq_iff_eq.mpr c4
    have c4b1 : (t291 != 0) = false := bne_eq_false_iff_eq.mpr c4
    clear c4
    have H' := Aside0.mk H
    clear H
    go_enter Try.func28, Try.ntmps28
    go_wp2_with (first | ((with_reducible refine gate_callee (f := 17) rfl ?_); refine goesL_ (some 17) rfl rfl Try.func17 (by kernel_rfl) rfl #[.slice A0 l0.length c0] rfl (by (try simp only [List.map_toArray, List.map_cons, List.map_nil]); first | done | rfl | (simp only [List.length_drop, List.length_take]; rfl)) ?_; (with_reducible refine (estoversref36_Check.calls k _ _ l0 t291 _ ?side1 ?side2 A3.out).mono ?_); (case side1 => repeat (first | exact HR0.out | (with_reducible refine Kd.C_alloc ?_ _) | (with_reducible refine Kd.C_drewN ?_ _) | (with_reducible refine Kd.C_drew ?_))); (case side2 => exact HC0.out); rintro e w5 ⟨rfl, hb⟩; refine ⟨_, rfl, ?_⟩; have n0_ := Aside0.mk (below_step (by repeat (first | (with_reducible first | exact HB.out | apply below_alloc | apply pw_below_drewN | apply below_drew1) | exact HB.out)) hb); clear HB; have HB := n0_; clear n0_; (try clear hb); (try clear hb2); (try clear hk); (try clear hi)))
    go_loopg [23] k (fun kq v23 w' => ∃ (x23_1 : Int), v23 = .int .i64 x23_1 ∧ Aside0 (estoversref36_Age.l0 kq l0 l1 l1 (l1.length : Int) x23_1 = some (r1, r2)) ∧ Aside0 (kq ≤ k) ∧ Aside0 (Below w.heap.size w w'))
    case atStart => exact ⟨(0), (by first | rfl | (simp; done) | (simp [*]; done)), H', ⟨Nat.le_refl _⟩, ⟨by repeat (first | (with_reducible first | exact HB.out | apply below_alloc | apply pw_below_drewN | apply below_drew1) | exact HB.out)⟩⟩
    case round =>
      clear H'
      try clear c1
      try clear c2
      try clear p2
      try clear c4
      try clear c4b0
      try clear c4b1
      obtain ⟨x23_1, rfl, HA, HK1, HB⟩ := hrel
      cases gk with
      | zero => exact absurd HA.out (by simp [estoversref36_Age.l0])
      | succ k1 =>
        have H := HA.out
        clear HA
        simp only [estoversref36_Age.l0] at H
        by_cases c6 : x23_1 < (l1.length : Int)
        · rw [if_pos c6] at H
          have c6b0 : decide (x23_1 < (l1.length : Int)) = true := decide_eq_true c6
          clear c6
          by_cases c7 : 0 ≤ x23_1
          · rw [if_pos c7] at H
            have c7b0 : decide (0 ≤ x23_1) = true := decide_eq_true c7
            clear c7
            by_cases c8 : x23_1 < (l1.length : Int)
            · rw [if_pos c8] at H
              have c8b0 : decide (x23_1 < (l1.length : Int)) = true := decide_eq_true c8
              clear c8
              replace H := Option.bind_eq_some_iff.mp H
              obtain ⟨t293, A90, H⟩ := H
              replace H : (if t293 < 0 then (some (([] : List (List Int)), 6)) else (if x23_1 ≤ (l1.length : Int) then ((estoversref36_Has.f k1 (l1.take (x23_1 : Int).toNat) (rd l1 x23_1)).bind fun t295 => (if t295 = true then (some (([] : List (List Int)), 7)) else (estoversref36_Age.l0 k1 l0 l1 l1 (l1.length : Int) (wrap64 (x23_1 + 1))))) else (none))) = some (r1, r2) := H
              have A9 := Aside0.mk A90
              clear A90
              by_cases c10 : t293 < 0
              · rw [if_pos c10] at H
                have c10b0 : decide (t293 < 0) = true := decide_eq_true c10
                clear c10
                simp only [Option.some.injEq, Prod.mk.injEq] at H
                obtain ⟨rfl, rfl⟩ := H
                have p292 : 0 ≤ (x23_1 : Int) := of_decide_eq_true (by first | (with_reducible assumption) | assumption)
                have q292 : x23_1 < (l1.length : Int) := of_decide_eq_true (by first | (with_reducible assumption) | assumption)
                obtain ⟨ad292, e292, hx292_0⟩ := Kd.at_int HR1.out x23_1 p292 q292
                cases e292
                replace hx292_0 := (HB.out.cell (World.block_lt_of_cell? w _ hx292_0)).trans hx292_0
                replace p292 := eq_true p292
                replace q292 := eq_true q292
                go_wp2_with (first | ((with_reducible refine gate_callee (f := 34) rfl ?_); refine goesL_ (some 30) rfl rfl Try.func34 (by kernel_rfl) rfl #[.slice A0 l0.length c0, .int .i64 (rd l1 x23_1)] rfl (by (try simp only [List.map_toArray, List.map_cons, List.map_nil]); first | done | rfl | (simp only [List.length_drop, List.length_take]; rfl)) ?_; (with_reducible refine (estoversref36_where.calls k1 _ _ l0 (rd l1 x23_1) t293 _ ?side1 ?side2 A9.out).mono ?_); (case side1 => repeat (first | exact (Kd.C_below HR0.out HB.out) | (with_reducible refine Kd.C_alloc ?_ _) | (with_reducible refine Kd.C_drewN ?_ _) | (with_reducible refine Kd.C_drew ?_))); (case side2 => exact HC0.out); rintro e w' ⟨rfl, ⟨nd, rfl⟩⟩; refine ⟨_, rfl, ?_⟩))
                go_ret2
                exact ⟨_, by first | rfl | (simp [errW_none, errW_some] <;> rfl) | (simp [*, errW_none, errW_some] <;> rfl), by first | exact Kd.S_nil _ _ _ _ _ | exact Kd.N_nil _ _ _ _ _ | exact Kd.V_nil _ _ _ _ _ | exact Kd.Q_nil _ _ _ _ _ | exact Kd.R_nil _ _ _ _ _, by repeat (first | (with_reducible first | exact HB.out | apply below_alloc | apply pw_below_drewN | apply below_drew1) | exact HB.out)⟩
              · rw [if_neg c10] at H
                have c10b0 : decide (t293 < 0) = false := decide_eq_false c10
                clear c10
                have c11b0 := eq_true (of_decide_eq_true (by first | (with_reducible assumption) | assumption) : 0 ≤ x23_1)
                by_cases c12 : x23_1 ≤ (l1.length : Int)
                · rw [if_pos c12] at H
                  have c12b0 := eq_true c12
                  have c12b1 : decide (x23_1 ≤ (l1.length : Int)) = true := decide_eq_true c12
                  clear c12
                  replace H := Option.bind_eq_some_iff.mp H
                  obtain ⟨t295, A130, H⟩ := H
                  replace H : (if t295 = true then (some (([] : List (List Int)), 7)) else (estoversref36_Age.l0 k1 l0 l1 l1 (l1.length : Int) (wrap64 (x23_1 + 1)))) = some (r1, r2) := H
                  have A13 := Aside0.mk A130
                  clear A130
                  by_cases c14 : t295 = true
                  · subst c14
                    have H1 : (some (([] : List (List Int)), 7)) = some (r1, r2) := by rw [if_pos rfl] at H; exact H
                    clear H
                    have H := H1
                    clear H1
                    simp only [Option.some.injEq, Prod.mk.injEq] at H
                    obtain ⟨rfl, rfl⟩ := H
                    have p292 : 0 ≤ (x23_1 : Int) := of_decide_eq_true (by first | (with_reducible assumption) | assumption)
                    have q292 : x23_1 < (l1.length : Int) := of_decide_eq_true (by first | (with_reducible assumption) | assumption)
                    obtain ⟨ad292, e292, hx292_0⟩ := Kd.at_int HR1.out x23_1 p292 q292
                    cases e292
                    replace hx292_0 := (HB.out.cell (World.block_lt_of_cell? w _ hx292_0)).trans hx292_0
                    replace p292 := eq_true p292
                    replace q292 := eq_true q292
                    go_wp2_with (first | ((with_reducible refine gate_callee (f := 34) rfl ?_); refine goesL_ (some 30) rfl rfl Try.func34 (by kernel_rfl) rfl #[.slice A0 l0.length c0, .int .i64 (rd l1 x23_1)] rfl (by (try simp only [List.map_toArray, List.map_cons, List.map_nil]); first | done | rfl | (simp only [List.length_drop, List.length_take]; rfl)) ?_; (with_reducible refine (estoversref36_where.calls k1 _ _ l0 (rd l1 x23_1) t293 _ ?side1 ?side2 A9.out).mono ?_); (case side1 => repeat (first | exact (Kd.C_below HR0.out HB.out) | (with_reducible refine Kd.C_alloc ?_ _) | (with_reducible refine Kd.C_drewN ?_ _) | (with_reducible refine Kd.C_drew ?_))); (case side2 => exact HC0.out); rintro e w' ⟨rfl, ⟨nd, rfl⟩⟩; refine ⟨_, rfl, ?_⟩; obtain ⟨i015, hi015, _, hsz15, _⟩ := info_parts info3; obtain ⟨hcut15, hA15, hC15⟩ := print_take_of (P := Try.prog) (Value.int .i64) 0 25 3 .i64 Try.underlying25 hi015 hsz15 (some ad292) c1 l1 x23_1 (of_decide_eq_true (by first | (with_reducible assumption) | assumption)) (of_decide_eq_true (by first | (with_reducible assumption) | assumption)) HC1.out; have HR294 := Aside0.mk (Kd.C_of_reads (h1 := fun _ => rfl) (hA15 _ (Kd.reads_of_C HR1.out))); have HC294 := Aside0.mk hC15; clear hA15 hC15 hi015 hsz15) | ((with_reducible refine gate_callee (f := 40) rfl ?_); refine goesL_ (some 36) rfl rfl Try.func40 (by kernel_rfl) rfl #[.slice (some ad292) (l1.take (x23_1 : Int).toNat).length c1, .int .i64 (rd l1 x23_1)] rfl (by (try simp only [List.map_toArray, List.map_cons, List.map_nil]); first | done | (rw [show (l1.take (x23_1 : Int).toNat).length = x23_1.toNat from (by rw [List.length_take]; have h_ : (x23_1 : Int) ≤ (l1.length : Int) := of_decide_eq_true (by first | (with_reducible assumption) | assumption); omega)] <;> rfl) | rfl | (simp only [List.length_drop, List.length_take]; rfl)) ?_; (with_reducible refine (estoversref36_Has.calls k1 _ _ (l1.take (x23_1 : Int).toNat) (rd l1 x23_1) true _ ?side1 ?side2 A13.out).mono ?_); (case side1 => repeat (first | exact (Kd.C_below HR294.out (by repeat (first | (with_reducible first | exact HB.out | apply below_alloc | apply pw_below_drewN | apply below_drew1) | exact HB.out))) | (with_reducible refine Kd.C_alloc ?_ _) | (with_reducible refine Kd.C_drewN ?_ _) | (with_reducible refine Kd.C_drew ?_))); (case side2 => exact HC294.out); rintro e w' ⟨rfl, ⟨nd, rfl⟩⟩; refine ⟨_, rfl, ?_⟩))
                    go_ret2
                    exact ⟨_, by first | rfl | (simp [errW_none, errW_some] <;> rfl) | (simp [*, errW_none, errW_some] <;> rfl), by first | exact Kd.S_nil _ _ _ _ _ | exact Kd.N_nil _ _ _ _ _ | exact Kd.V_nil _ _ _ _ _ | exact Kd.Q_nil _ _ _ _ _ | exact Kd.R_nil _ _ _ _ _, by repeat (first | (with_reducible first | exact HB.out | apply below_alloc | apply pw_below_drewN | apply below_drew1) | exact HB.out)⟩
                  · replace c14 := Bool.eq_false_iff.mpr c14
                    subst c14
                    have H1 : (estoversref36_Age.l0 k1 l0 l1 l1 (l1.length : Int) (wrap64 (x23_1 + 1))) = some (r1, r2) := by rw [if_neg (show ¬ (false = true) by decide)] at H; exact H
                    clear H
                    have H := H1
                    clear H1
                    have H' := Aside0.mk H
                    clear H
                    have p292 : 0 ≤ (x23_1 : Int) := of_decide_eq_true (by first | (with_reducible assumption) | assumption)
                    have q292 : x23_1 < (l1.length : Int) := of_decide_eq_true (by first | (with_reducible assumption) | assumption)
                    obtain ⟨ad292, e292, hx292_0⟩ := Kd.at_int HR1.out x23_1 p292 q292
                    cases e292
                    replace hx292_0 := (HB.out.cell (World.block_lt_of_cell? w _ hx292_0)).trans hx292_0
                    replace p292 := eq_true p292
                    replace q292 := eq_true q292
                    go_wp2_with (first | ((with_reducible refine gate_callee (f := 34) rfl ?_); refine goesL_ (some 30) rfl rfl Try.func34 (by kernel_rfl) rfl #[.slice A0 l0.length c0, .int .i64 (rd l1 x23_1)] rfl (by (try simp only [List.map_toArray, List.map_cons, List.map_nil]); first | done | rfl | (simp only [List.length_drop, List.length_take]; rfl)) ?_; (with_reducible refine (estoversref36_where.calls k1 _ _ l0 (rd l1 x23_1) t293 _ ?side1 ?side2 A9.out).mono ?_); (case side1 => repeat (first | exact (Kd.C_below HR0.out HB.out) | (with_reducible refine Kd.C_alloc ?_ _) | (with_reducible refine Kd.C_drewN ?_ _) | (with_reducible refine Kd.C_drew ?_))); (case side2 => exact HC0.out); rintro e w' ⟨rfl, ⟨nd, rfl⟩⟩; refine ⟨_, rfl, ?_⟩; obtain ⟨i016, hi016, _, hsz16, _⟩ := info_parts info3; obtain ⟨hcut16, hA16, hC16⟩ := print_take_of (P := Try.prog) (Value.int .i64) 0 25 3 .i64 Try.underlying25 hi016 hsz16 (some ad292) c1 l1 x23_1 (of_decide_eq_true (by first | (with_reducible assumption) | assumption)) (of_decide_eq_true (by first | (with_reducible assumption) | assumption)) HC1.out; have HR294 := Aside0.mk (Kd.C_of_reads (h1 := fun _ => rfl) (hA16 _ (Kd.reads_of_C HR1.out))); have HC294 := Aside0.mk hC16; clear hA16 hC16 hi016 hsz16) | ((with_reducible refine gate_callee (f := 40) rfl ?_); refine goesL_ (some 36) rfl rfl Try.func40 (by kernel_rfl) rfl #[.slice (some ad292) (l1.take (x23_1 : Int).toNat).length c1, .int .i64 (rd l1 x23_1)] rfl (by (try simp only [List.map_toArray, List.map_cons, List.map_nil]); first | done | (rw [show (l1.take (x23_1 : Int).toNat).length = x23_1.toNat from (by rw [List.length_take]; have h_ : (x23_1 : Int) ≤ (l1.length : Int) := of_decide_eq_true (by first | (with_reducible assumption) | assumption); omega)] <;> rfl) | rfl | (simp only [List.length_drop, List.length_take]; rfl)) ?_; (with_reducible refine (estoversref36_Has.calls k1 _ _ (l1.take (x23_1 : Int).toNat) (rd l1 x23_1) false _ ?side1 ?side2 A13.out).mono ?_); (case side1 => repeat (first | exact (Kd.C_below HR294.out (by repeat (first | (with_reducible first | exact HB.out | apply below_alloc | apply pw_below_drewN | apply below_drew1) | exact HB.out))) | (with_reducible refine Kd.C_alloc ?_ _) | (with_reducible refine Kd.C_drewN ?_ _) | (with_reducible refine Kd.C_drew ?_))); (case side2 => exact HC294.out); rintro e w' ⟨rfl, ⟨nd, rfl⟩⟩; refine ⟨_, rfl, ?_⟩))
                    go_roundg k1
                    case measure => have := HK1.out; omega
                    case rel => exact ⟨(wrap64 (x23_1 + 1)), (by first | rfl | (simp; done) | (simp [*]; done)), H', ⟨by have := HK1.out; omega⟩, ⟨by repeat (first | (with_reducible first | exact HB.out | apply below_alloc | apply pw_below_drewN | apply below_drew1) | exact HB.out)⟩⟩
                · rw [if_neg c12] at H
                  exact absurd H (by simp)
            · rw [if_neg c8] at H
              exact absurd H (by simp)
          · rw [if_neg c7] at H
            exact absurd H (by simp)
        · rw [if_neg c6] at H
          have c6b0 : decide (x23_1 < (l1.length : Int)) = false := decide_eq_false c6
          clear c6
          replace H := Option.bind_eq_some_iff.mp H
          obtain ⟨t296, A170, H⟩ := H
          replace H : (estoversref36_Age.l1 k1 l1 t296 ([] : List Int) l0 (l0.length : Int) 0) = some (r1, r2) := H
          have A17 := Aside0.mk A170
          clear A170
          have H' := Aside0.mk H
          clear H
          go_wp2_with (first | ((with_reducible refine gate_callee (f := 15) rfl ?_); refine goesL_ (some 38) rfl rfl Try.func15 (by kernel_rfl) rfl #[] rfl (by (try simp only [List.map_toArray, List.map_cons, List.map_nil]); first | done | rfl | (simp only [List.length_drop, List.length_take]; rfl)) ?_; (with_reducible refine (estoversref36_New.calls  t296 _ A17.out).mono ?_); rintro e w18 ⟨v297, rfl, ho0, hb⟩; refine ⟨_, rfl, ?_⟩; have n0_ := Aside0.mk (Kd.S_lower ho0 (below_size (by repeat (first | (with_reducible first | exact HB.out | apply below_alloc | apply pw_below_drewN | apply below_drew1) | exact HB.out)))); have n1_ := Aside0.mk (below_step (by repeat (first | (with_reducible first | exact HB.out | apply below_alloc | apply pw_below_drewN | apply below_drew1) | exact HB.out)) hb); clear HB; have HO298 := n0_; have HB := n1_; clear n0_ n1_; (try clear hb); (try clear hb2); (try clear hk); (try clear hi); (try clear ho0)))
          go_loopg [10, 41] k1 (fun kq v10 v41 w' => ∃ (x9_2 : List (List Int)) (x10_2 : List Int) (x41_2 : Int), v41 = .int .i64 x41_2 ∧ Aside0 (estoversref36_Age.l1 kq l1 x9_2 x10_2 l0 (l0.length : Int) x41_2 = some (r1, r2)) ∧ Aside0 (kq ≤ k1) ∧ Aside0 (Kd.S (Kd.slice 3 (Kd.int .i64)) 25 w' w.heap.size (fun k_ => some k_ ≠ (v10 : Value).ownBlock) v297 x9_2) ∧ Aside0 (Kd.R (Kd.int .i64) 3 w' w.heap.size (fun _ => True) v10 x10_2) ∧ Aside0 (Below w.heap.size w w'))
          case atStart => exact ⟨(t296), (([] : List Int)), (0), (by first | rfl | (simp; done) | (simp [*]; done)), H', ⟨Nat.le_refl _⟩, ⟨by (with_reducible repeat (first | apply Kd.S_alloc | apply Kd.S_drewN | apply Kd.S_drew)); exact Kd.S_mono HO298.out (fun _ hk => (by simp [Value.ownBlock]))⟩, ⟨by first | exact Kd.R_nil _ _ _ _ _ | exact Kd.N_nil _ _ _ _ _ | exact Kd.V_nil _ _ _ _ _ | exact Kd.Q_nil _ _ _ _ _ | exact Kd.S_nil _ _ _ _ _⟩, ⟨by repeat (first | (with_reducible first | exact HB.out | apply below_alloc | apply pw_below_drewN | apply below_drew1) | exact HB.out)⟩⟩
          case round =>
            clear H'
            try clear c1
            try clear c2
            try clear p2
            try clear q2
            try clear hx2
            try clear c3
            try clear c4
            try clear c4b0
            try clear c4b1
            try clear c6
            try clear c6b0
            try clear p6
            try clear c7
            try clear c7b0
            try clear c8
            try clear c8b0
            try clear c10
            try clear c10b0
            try clear c11
            try clear c11b0
            try clear c12
            try clear c12b0
            try clear c12b1
            try clear c14
            try clear c15
            try clear c17
            try clear hx292_0
            try clear p2
            try clear p292
            try clear q292
            obtain ⟨x9_2, x10_2, x41_2, rfl, HA, HK2, HO_9, HO_10, HB⟩ := hrel
            cases gk with
            | zero => exact absurd HA.out (by simp [estoversref36_Age.l1])
            | succ k2 =>
              have H := HA.out
              clear HA
              simp only [estoversref36_Age.l1] at H
              by_cases c19 : x41_2 < (l0.length : Int)
              · rw [if_pos c19] at H
                have c19b0 : decide (x41_2 < (l0.length : Int)) = true := decide_eq_true c19
                clear c19
                by_cases c20 : 0 ≤ x41_2
                · rw [if_pos c20] at H
                  have c20b0 : decide (0 ≤ x41_2) = true := decide_eq_true c20
                  clear c20
                  by_cases c21 : x41_2 < (l0.length : Int)
                  · rw [if_pos c21] at H
                    have c21b0 : decide (x41_2 < (l0.length : Int)) = true := decide_eq_true c21
                    clear c21
                    have HC22 := Aside0.mk H
                    clear H
                    have p300 : 0 ≤ (x41_2 : Int) := of_decide_eq_true (by first | (with_reducible assumption) | assumption)
                    have q300 : x41_2 < (l0.length : Int) := of_decide_eq_true (by first | (with_reducible assumption) | assumption)
                    obtain ⟨ad300, A300_0, c300_0, e300, hx300_0, hl300_0, hi300_0⟩ := at_L1 HR0.out x41_2 p300 q300
                    cases e300
                    replace hx300_0 := (HB.out.cell (World.block_lt_of_cell? w _ hx300_0)).trans hx300_0
                    have HR300_0 := Aside0.mk hi300_0
                    have HC300_0 := Aside0.mk hl300_0
                    clear hi300_0 hl300_0
                    replace p300 := eq_true p300
                    replace q300 := eq_true q300
                    go_upto_if 49 with (fail)
                    go_cut [13] (fun v13 wc => ∃ (kq : Nat) (x13_21 : Int), v13 = .int .i64 x13_21 ∧ Aside0 (estoversref36_Age.j2 kq l1 x9_2 x10_2 (rd_L1 l0 x41_2) x13_21 l0 (l0.length : Int) x41_2 = some (r1, r2)) ∧ Aside0 (kq ≤ k2) ∧ Aside0 (Kd.S (Kd.slice 3 (Kd.int .i64)) 25 wc w.heap.size (fun k_ => some k_ ≠ (u10 : Value).ownBlock) v297 x9_2) ∧ Aside0 (Kd.R (Kd.int .i64) 3 wc w.heap.size (fun _ => True) u10 x10_2) ∧ Aside0 (Below w.heap.size w wc))
                    case first =>
                      have H := HC22.out
                      clear HC22
                      by_cases c23 : (wrap64 (x41_2 - 1)) < 0
                      · rw [if_pos c23] at H
                        have c23b0 : decide ((wrap64 (x41_2 - 1)) < 0) = true := decide_eq_true c23
                        clear c23
                        (first | rw [c23b0] | (simp only [i64_w, i32_w]; rw [c23b0]) | skip)
                        have H' := Aside0.mk H
                        clear H
                        go_wp2
                        go_meet
                        case rel => exact ⟨_, (0), (by first | rfl | (simp; done) | (simp [*]; done)), H', ⟨by have := HK1.out; have := HK2.out; first | omega | exact Nat.le_refl _⟩, ⟨by (with_reducible repeat (first | apply Kd.S_alloc | apply Kd.S_drewN | apply Kd.S_drew)); exact HO_9.out⟩, ⟨by (with_reducible repeat (first | apply Kd.R_alloc | apply Kd.R_drewN | apply Kd.R_drew)); exact HO_10.out⟩, ⟨by repeat (first | (with_reducible first | exact HB.out | apply below_alloc | apply pw_below_drewN | apply below_drew1) | exact HB.out)⟩⟩
                      · rw [if_neg c23] at H
                        have c23b0 : decide ((wrap64 (x41_2 - 1)) < 0) = false := decide_eq_false c23
                        clear c23
                        (first | rw [c23b0] | (simp only [i64_w, i32_w]; rw [c23b0]) | skip)
                        have H' := Aside0.mk H
                        clear H
                        go_wp2
                        go_meet
                        case rel => exact ⟨_, (wrap64 (x41_2 - 1)), (by first | rfl | (simp; done) | (simp [*]; done)), H', ⟨by have := HK1.out; have := HK2.out; first | omega | exact Nat.le_refl _⟩, ⟨by (with_reducible repeat (first | apply Kd.S_alloc | apply Kd.S_drewN | apply Kd.S_drew)); exact HO_9.out⟩, ⟨by (with_reducible repeat (first | apply Kd.R_alloc | apply Kd.R_drewN | apply Kd.R_drew)); exact HO_10.out⟩, ⟨by repeat (first | (with_reducible first | exact HB.out | apply below_alloc | apply pw_below_drewN | apply below_drew1) | exact HB.out)⟩⟩
                    case rest =>
                      clear HC22
                      try clear c1
                      try clear c2
                      try clear p2
                      try clear q2
                      try clear hx2
                      try clear c3
                      try clear p3
                      try clear q3
                      try clear hx3
                      try clear c4
                      try clear c4b0
                      try clear c4b1
                      try clear c6
                      try clear c6b0
                      try clear p6
                      try clear c7
                      try clear c7b0
                      try clear c8
                      try clear c8b0
                      try clear c10
                      try clear c10b0
                      try clear c11
                      try clear c11b0
                      try clear c12
                      try clear c12b0
                      try clear c12b1
                      try clear c14
                      try clear c15
                      try clear c17
                      try clear c19
                      try clear c19b0
                      try clear c20
                      try clear c20b0
                      try clear c21
                      try clear c21b0
                      try clear c23
                      try clear c23b0
                      try clear hx292_0
                      try clear hx300_0
                      try clear p2
                      try clear p292
                      try clear p300
                      try clear p6
                      try clear q2
                      try clear q292
                      try clear q300
                      obtain ⟨kq, x13_21, rfl, HA, HJ21, HO_9, HO_10, HB⟩ := hcut
                      cases kq with
                      | zero => exact absurd HA.out (by simp [estoversref36_Age.j2])
                      | succ kj21 =>
                        have H := HA.out
                        clear HA
                        simp only [estoversref36_Age.j2] at H
                        have H' := Aside0.mk H
                        clear H
                        go_wp2
                        go_loopg [10, 52] kj21 (fun kq v10 v52 w' => ∃ (x9_4 : List (List Int)) (x10_4 : List Int) (x52_4 : Int), v52 = .int .i64 x52_4 ∧ Aside0 (estoversref36_Age.l2 kq l1 x9_4 x10_4 x13_21 l0 (l0.length : Int) x41_2 (rd_L1 l0 x41_2) ((rd_L1 l0 x41_2).length : Int) x52_4 = some (r1, r2)) ∧ Aside0 (kq ≤ kj21) ∧ Aside0 (Kd.S (Kd.slice 3 (Kd.int .i64)) 25 w' w.heap.size (fun k_ => some k_ ≠ (v10 : Value).ownBlock) v297 x9_4) ∧ Aside0 (Kd.R (Kd.int .i64) 3 w' w.heap.size (fun _ => True) v10 x10_4) ∧ Aside0 (Below w.heap.size w w'))
                        case atStart => exact ⟨(x9_2), (x10_2), (0), (by first | rfl | (simp; done) | (simp [*]; done)), H', ⟨Nat.le_refl _⟩, ⟨by (with_reducible repeat (first | apply Kd.S_alloc | apply Kd.S_drewN | apply Kd.S_drew)); exact HO_9.out⟩, ⟨by (with_reducible repeat (first | apply Kd.R_alloc | apply Kd.R_drewN | apply Kd.R_drew)); exact HO_10.out⟩, ⟨by repeat (first | (with_reducible first | exact HB.out | apply below_alloc | apply pw_below_drewN | apply below_drew1) | exact HB.out)⟩⟩
                        case round =>
                          clear H'
                          try clear c1
                          try clear c2
                          try clear p2
                          try clear q2
                          try clear hx2
                          try clear c3
                          try clear p3
                          try clear q3
                          try clear hx3
                          try clear c4
                          try clear c4b0
                          try clear c4b1
                          try clear c6
                          try clear c6b0
                          try clear p6
                          try clear c7
                          try clear c7b0
                          try clear c8
                          try clear c8b0
                          try clear c10
                          try clear c10b0
                          try clear c11
                          try clear c11b0
                          try clear c12
                          try clear c12b0
                          try clear c12b1
                          try clear c14
                          try clear c15
                          try clear c17
                          try clear c19
                          try clear c19b0
                          try clear c20
                          try clear c20b0
                          try clear c21
                          try clear c21b0
                          try clear c23
                          try clear c23b0
                          try clear hx292_0
                          try clear hx300_0
                          try clear p2
                          try clear p292
                          try clear p3
                          try clear p300
                          try clear p6
                          try clear q2
                          try clear q292
                          try clear q3
                          try clear q300
                          obtain ⟨x9_4, x10_4, x52_4, rfl, HA, HK4, HO_9, HO_10, HB⟩ := hrel
                          cases gk with
                          | zero => exact absurd HA.out (by simp [estoversref36_Age.l2])
                          | succ k4 =>
                            have H := HA.out
                            clear HA
                            simp only [estoversref36_Age.l2] at H
                            by_cases c24 : x52_4 < ((rd_L1 l0 x41_2).length : Int)
                            · rw [if_pos c24] at H
                              have c24b0 : decide (x52_4 < ((rd_L1 l0 x41_2).length : Int)) = true := decide_eq_true c24
                              clear c24
                              by_cases c25 : 0 ≤ x52_4
                              · rw [if_pos c25] at H
                                have c25b0 : decide (0 ≤ x52_4) = true := decide_eq_true c25
                                clear c25
                                by_cases c26 : x52_4 < ((rd_L1 l0 x41_2).length : Int)
                                · rw [if_pos c26] at H
                                  have c26b0 : decide (x52_4 < ((rd_L1 l0 x41_2).length : Int)) = true := decide_eq_true c26
                                  clear c26
                                  replace H := Option.bind_eq_some_iff.mp H
                                  obtain ⟨t302, A270, H⟩ := H
                                  replace H : (if t302 = true then (if x10_4.length < 17592186044416 then (estoversref36_Age.l2 k4 l1 x9_4 (x10_4 ++ [rd (rd_L1 l0 x41_2) x52_4]) x13_21 l0 (l0.length : Int) x41_2 (rd_L1 l0 x41_2) ((rd_L1 l0 x41_2).length : Int) (wrap64 (x52_4 + 1))) else (none)) else (if 0 ≤ x13_21 then (if x13_21 < (x9_4.length : Int) then (if (rd_L1 x9_4 x13_21).length < 17592186044416 then (estoversref36_Age.l2 k4 l1 (x9_4.set (x13_21 : Int).toNat ((rd_L1 x9_4 x13_21) ++ [rd (rd_L1 l0 x41_2) x52_4])) x10_4 x13_21 l0 (l0.length : Int) x41_2 (rd_L1 l0 x41_2) ((rd_L1 l0 x41_2).length : Int) (wrap64 (x52_4 + 1))) else (none)) else (none)) else (none))) = some (r1, r2) := H
                                  have A27 := Aside0.mk A270
                                  clear A270
                                  by_cases c28 : t302 = true
                                  · subst c28
                                    have H1 : (if x10_4.length < 17592186044416 then (estoversref36_Age.l2 k4 l1 x9_4 (x10_4 ++ [rd (rd_L1 l0 x41_2) x52_4]) x13_21 l0 (l0.length : Int) x41_2 (rd_L1 l0 x41_2) ((rd_L1 l0 x41_2).length : Int) (wrap64 (x52_4 + 1))) else (none)) = some (r1, r2) := by rw [if_pos rfl] at H; exact H
                                    clear H
                                    have H := H1
                                    clear H1
                                    by_cases c29 : x10_4.length < 17592186044416
                                    · rw [if_pos c29] at H
                                      have LMc29 := Aside0.mk c29
                                      clear c29
                                      obtain ⟨y303, hy303⟩ : ∃ y_ : List Int, y_ = (x10_4 ++ [rd (rd_L1 l0 x41_2) x52_4]) := ⟨_, rfl⟩
                                      replace H : (estoversref36_Age.l2 k4 l1 x9_4 y303 x13_21 l0 (l0.length : Int) x41_2 (rd_L1 l0 x41_2) ((rd_L1 l0 x41_2).length : Int) (wrap64 (x52_4 + 1))) = some (r1, r2) := by first | (rw [hy303]; with_reducible exact H) | (have H2_ := (Option.bind_some _ _).symm.trans H; rw [hy303]; with_reducible exact H2_) | (have H2_ := (Option.bind_some _ _).symm.trans H; with_reducible exact H2_) | with_reducible exact H | (rw [hy303]; exact H) | exact H
                                      have Ny303 := Aside0.mk hy303
                                      clear hy303
                                      have H' := Aside0.mk H
                                      clear H
                                      have p301 : 0 ≤ (x52_4 : Int) := of_decide_eq_true (by first | (with_reducible assumption) | assumption)
                                      have q301 : x52_4 < ((rd_L1 l0 x41_2).length : Int) := of_decide_eq_true (by first | (with_reducible assumption) | assumption)
                                      obtain ⟨ad301, e301, hx301_0⟩ := Kd.at_int HR300_0.out x52_4 p301 q301
                                      cases e301
                                      replace hx301_0 := (HB.out.cell (World.block_lt_of_cell? w _ hx301_0)).trans hx301_0
                                      replace p301 := eq_true p301
                                      replace q301 := eq_true q301
                                      go_wp2_with (first | ((with_reducible refine gate_callee (f := 40) rfl ?_); refine goesL_ (some 58) rfl rfl Try.func40 (by kernel_rfl) rfl #[.slice A1 l1.length c1, .int .i64 (rd (rd_L1 l0 x41_2) x52_4)] rfl (by (try simp only [List.map_toArray, List.map_cons, List.map_nil]); first | done | rfl | (simp only [List.length_drop, List.length_take]; rfl)) ?_; (with_reducible refine (estoversref36_Has.calls k4 _ _ l1 (rd (rd_L1 l0 x41_2) x52_4) true _ ?side1 ?side2 A27.out).mono ?_); (case side1 => repeat (first | exact (Kd.C_below HR1.out HB.out) | (with_reducible refine Kd.C_alloc ?_ _) | (with_reducible refine Kd.C_drewN ?_ _) | (with_reducible refine Kd.C_drew ?_))); (case side2 => exact HC1.out); rintro e w' ⟨rfl, ⟨nd, rfl⟩⟩; refine ⟨_, rfl, ?_⟩) | ((with_reducible refine gate_builtin (b := .append) (xs := #[.tmp 59, .tmp 61]) rfl ?_); at_builtin; refine Kd.R_append (Kd.int .i64) (w0 := w) w.heap.size rfl (.tmp 59) (.tmp 61) 25 3 (.int .i64 0) 8 rfl Try.underlying25 info3 rfl (by decide) (by omega) u10 x10_4 (rd (rd_L1 l0 x41_2) x52_4) [.int .i64 (rd (rd_L1 l0 x41_2) x52_4)] (fun _ => True) (fun _ => False) rfl rfl ?aP (fun _ hk => hk.elim) ?aF ?aO ?aB ?aS ?aL ?_; (case aP => exact rfl); (case aB => exact (by repeat (first | (with_reducible first | exact HB.out | apply below_alloc | apply pw_below_drewN | apply below_drew1) | exact HB.out))); (case aF => exact (fun _ _ => trivial)); (case aO => exact (by (with_reducible repeat (first | apply Kd.R_alloc | apply Kd.R_drewN | apply Kd.R_drew)); exact HO_10.out)); (case aS => exact (below_size (by repeat (first | (with_reducible first | exact HB.out | apply below_alloc | apply pw_below_drewN | apply below_drew1) | exact HB.out)))); (case aL => have := LMc29.out; omega); intro v304 w30 ho hb hg hat; rw [← Ny303.out] at ho; have n0_ := Aside0.mk (Kd.S_after (ok := (fun _ => True)) (by (with_reducible repeat (first | apply Kd.S_alloc | apply Kd.S_drewN | apply Kd.S_drew)); exact Kd.S_mono HO_9.out (fun _ hk => ⟨trivial, hk⟩)) hg hat); have n1_ := Aside0.mk (hb); have n2_ := Aside0.mk (ho); clear HO_9; clear HB; clear HO_10; have HO_9 := n0_; have HB := n1_; have HO305 := n2_; clear n0_ n1_ n2_; clear ho hb hg hat))
                                      go_roundg k4
                                      case measure => have := HK1.out; have := HK2.out; have := HJ21.out; have := HK4.out; omega
                                      case rel => exact ⟨(x9_4), (y303), (wrap64 (x52_4 + 1)), (by first | rfl | (simp; done) | (simp [*]; done)), H', ⟨by have := HK1.out; have := HK2.out; have := HJ21.out; have := HK4.out; omega⟩, ⟨by (with_reducible repeat (first | apply Kd.S_alloc | apply Kd.S_drewN | apply Kd.S_drew)); exact Kd.S_mono HO_9.out (fun _ hk => hk.2)⟩, ⟨by (with_reducible repeat (first | apply Kd.R_alloc | apply Kd.R_drewN | apply Kd.R_drew)); exact HO305.out⟩, ⟨by repeat (first | (with_reducible first | exact HB.out | apply below_alloc | apply pw_below_drewN | apply below_drew1) | exact HB.out)⟩⟩
                                    · rw [if_neg c29] at H
                                      exact absurd H (by simp)
                                  · replace c28 := Bool.eq_false_iff.mpr c28
                                    subst c28
                                    have H1 : (if 0 ≤ x13_21 then (if x13_21 < (x9_4.length : Int) then (if (rd_L1 x9_4 x13_21).length < 17592186044416 then (estoversref36_Age.l2 k4 l1 (x9_4.set (x13_21 : Int).toNat ((rd_L1 x9_4 x13_21) ++ [rd (rd_L1 l0 x41_2) x52_4])) x10_4 x13_21 l0 (l0.length : Int) x41_2 (rd_L1 l0 x41_2) ((rd_L1 l0 x41_2).length : Int) (wrap64 (x52_4 + 1))) else (none)) else (none)) else (none)) = some (r1, r2) := by rw [if_neg (show ¬ (false = true) by decide)] at H; exact H
                                    clear H
                                    have H := H1
                                    clear H1
                                    by_cases c31 : 0 ≤ x13_21
                                    · rw [if_pos c31] at H
                                      have c31b0 : decide (0 ≤ x13_21) = true := decide_eq_true c31
                                      clear c31
                                      by_cases c32 : x13_21 < (x9_4.length : Int)
                                      · rw [if_pos c32] at H
                                        have c32b0 : decide (x13_21 < (x9_4.length : Int)) = true := decide_eq_true c32
                                        clear c32
                                        by_cases c33 : (rd_L1 x9_4 x13_21).length < 17592186044416
                                        · rw [if_pos c33] at H
                                          have LMc33 := Aside0.mk c33
                                          clear c33
                                          obtain ⟨y307, hy307⟩ : ∃ y_ : List Int, y_ = ((rd_L1 x9_4 x13_21) ++ [rd (rd_L1 l0 x41_2) x52_4]) := ⟨_, rfl⟩
                                          replace H : (estoversref36_Age.l2 k4 l1 (x9_4.set (x13_21 : Int).toNat y307) x10_4 x13_21 l0 (l0.length : Int) x41_2 (rd_L1 l0 x41_2) ((rd_L1 l0 x41_2).length : Int) (wrap64 (x52_4 + 1))) = some (r1, r2) := by first | (rw [hy307]; with_reducible exact H) | (have H2_ := (Option.bind_some _ _).symm.trans H; rw [hy307]; with_reducible exact H2_) | (have H2_ := (Option.bind_some _ _).symm.trans H; with_reducible exact H2_) | with_reducible exact H | (rw [hy307]; exact H) | exact H
                                          have Ny307 := Aside0.mk hy307
                                          clear hy307
                                          obtain ⟨y310, hy310⟩ : ∃ y_ : List (List Int), y_ = (x9_4.set (x13_21 : Int).toNat y307) := ⟨_, rfl⟩
                                          replace H : (estoversref36_Age.l2 k4 l1 y310 x10_4 x13_21 l0 (l0.length : Int) x41_2 (rd_L1 l0 x41_2) ((rd_L1 l0 x41_2).length : Int) (wrap64 (x52_4 + 1))) = some (r1, r2) := by first | (rw [hy310]; with_reducible exact H) | (have H2_ := (Option.bind_some _ _).symm.trans H; rw [hy310]; with_reducible exact H2_) | (have H2_ := (Option.bind_some _ _).symm.trans H; with_reducible exact H2_) | with_reducible exact H | (rw [hy310]; exact H) | exact H
                                          have Ny310 := Aside0.mk hy310
                                          clear hy310
                                          have H' := Aside0.mk H
                                          clear H
                                          have p301 : 0 ≤ (x52_4 : Int) := of_decide_eq_true (by first | (with_reducible assumption) | assumption)
                                          have q301 : x52_4 < ((rd_L1 l0 x41_2).length : Int) := of_decide_eq_true (by first | (with_reducible assumption) | assumption)
                                          obtain ⟨ad301, e301, hx301_0⟩ := Kd.at_int HR300_0.out x52_4 p301 q301
                                          cases e301
                                          replace hx301_0 := (HB.out.cell (World.block_lt_of_cell? w _ hx301_0)).trans hx301_0
                                          replace p301 := eq_true p301
                                          replace q301 := eq_true q301
                                          go_wp2_with (first | ((with_reducible refine gate_callee (f := 40) rfl ?_); refine goesL_ (some 58) rfl rfl Try.func40 (by kernel_rfl) rfl #[.slice A1 l1.length c1, .int .i64 (rd (rd_L1 l0 x41_2) x52_4)] rfl (by (try simp only [List.map_toArray, List.map_cons, List.map_nil]); first | done | rfl | (simp only [List.length_drop, List.length_take]; rfl)) ?_; (with_reducible refine (estoversref36_Has.calls k4 _ _ l1 (rd (rd_L1 l0 x41_2) x52_4) false _ ?side1 ?side2 A27.out).mono ?_); (case side1 => repeat (first | exact (Kd.C_below HR1.out HB.out) | (with_reducible refine Kd.C_alloc ?_ _) | (with_reducible refine Kd.C_drewN ?_ _) | (with_reducible refine Kd.C_drew ?_))); (case side2 => exact HC1.out); rintro e w' ⟨rfl, ⟨nd, rfl⟩⟩; refine ⟨_, rfl, ?_⟩; (try (rw [drewN_self wr]; generalize hq_ : World.drewN wr _ = wr; have n0_ : Aside0 (Kd.R (Kd.int .i64) 3 wr w.heap.size (fun _ => True) u10 x10_4) := ⟨by rw [← hq_]; exact (by (with_reducible repeat (first | apply Kd.R_alloc | apply Kd.R_drewN | apply Kd.R_drew)); exact HO_10.out)⟩; have n1_ : Aside0 (Kd.S (Kd.slice 3 (Kd.int .i64)) 25 wr w.heap.size (fun k_ => some k_ ≠ (u10 : Value).ownBlock) v297 x9_4) := ⟨by rw [← hq_]; exact (by (with_reducible repeat (first | apply Kd.S_alloc | apply Kd.S_drewN | apply Kd.S_drew)); exact HO_9.out)⟩; have n2_ : Aside0 (Below w.heap.size w wr) := ⟨by rw [← hq_]; exact (by repeat (first | (with_reducible first | exact HB.out | apply below_alloc | apply pw_below_drewN | apply below_drew1) | exact HB.out))⟩; clear HO_10 HO_9 HB hq_; have HO_10 := n0_; have HO_9 := n1_; have HB := n2_; clear n0_ n1_ n2_)); obtain ⟨Ao35, co35, eo35⟩ := Kd.S_slice HO_9.out; subst eo35; have p306 : 0 ≤ (x13_21 : Int) := of_decide_eq_true (by first | (with_reducible assumption) | assumption); have q306 : x13_21 < (x9_4.length : Int) := of_decide_eq_true (by first | (with_reducible assumption) | assumption); obtain ⟨ad306, A306_0, c306_0, e306, hx306_0, hl306_0, hi306_0⟩ := at_L1 (Kd.S_reads' HO_9.out).2.2 x13_21 p306 q306; cases e306; obtain ⟨ce306, hce306, hMe306, hcc306⟩ := Kd.S_get HO_9.out [] x13_21 p306 (by first | exact q306 | exact of_decide_eq_true (by first | (with_reducible assumption) | assumption) | (have e_ := (Kd.S_reads' HO_9.out).1; omega)); obtain ⟨ve306_0, rfl, ge306_0⟩ := hMe306; have hv306_0 := hcc306 0 _ rfl; rw [Nat.add_zero, show ((Kd.slice 3 (Kd.int .i64))).sz = 1 from rfl, Nat.mul_one] at hv306_0; replace hv306_0 := Option.some.inj (hv306_0.symm.trans hx306_0); rw [hv306_0] at ge306_0; have HL306_0 := Aside0.mk (show Kd.R (Kd.int .i64) 3 _ _ _ _ (rd_L1 x9_4 x13_21) from ge306_0); clear hv306_0 ge306_0; have HX306_0 := Aside0.mk hx306_0; clear hcc306 hce306; have HR306_0 := Aside0.mk hi306_0; have HC306_0 := Aside0.mk hl306_0; clear hi306_0 hl306_0; replace p306 := eq_true p306; replace q306 := eq_true q306; obtain ⟨go36, co36, eo36, gb36, gl36, cl36, HG36⟩ := Kd.S_form HO_9.out (by have h_ : (x13_21 : Int) < ((x9_4.length : Int) : Int) := of_decide_eq_true (by first | (with_reducible assumption) | assumption); have h2_ : 0 ≤ (x13_21 : Int) := (of_decide_eq_true (by first | (with_reducible assumption) | assumption)); omega); (first | cases eo36 | (injection eo36 with ea_ en_ ec_; (first | subst ea_ | (injection ea_ with ea_; subst ea_)); subst ec_; clear en_)); have GB36 := Aside0.mk gb36; have GG36 := Aside0.mk HG36; clear gb36 gl36 HG36; (first | simp only [add_plain] at hx306_0 | skip); obtain ⟨oki36, ce36, hcl36, hM36, hcc36, _, _, hH36⟩ := Kd.S_elem HO_9.out [] (x13_21 : Int) (of_decide_eq_true (by first | (with_reducible assumption) | assumption)) (by have h_ : (x13_21 : Int) < ((x9_4.length : Int) : Int) := of_decide_eq_true (by first | (with_reducible assumption) | assumption); first | exact h_ | (have e_ := (Kd.S_reads' HO_9.out).1; omega) | simpa using h_); obtain ⟨ve36_0, rfl, ge36_0⟩ := hM36; have hv36 := hcc36 0 _ rfl; have hX36 := HX306_0.out; (try simp only [add_plain] at hX36); (try simp only [Nat.add_zero] at hv36); (try rw [show ((Kd.slice 3 (Kd.int .i64))).sz = 1 from rfl, Nat.mul_one] at hv36); replace hv36 := Option.some.inj (hv36.symm.trans hX36); subst hv36; clear hX36 hcc36 hcl36; have UU36 := Aside0.mk (show Kd.R (Kd.int .i64) 3 _ w.heap.size oki36 (.slice A306_0 (rd_L1 x9_4 x13_21).length c306_0) (rd_L1 x9_4 x13_21) from ge36_0); have HH36 := Aside0.mk hH36; have HN36 := Aside0.mk (Kd.S_reads' HO_9.out).1; clear hH36 ge36_0) | ((with_reducible refine gate_builtin (b := .append) (xs := #[.tmp 68, .tmp 70]) rfl ?_); at_builtin; refine Kd.R_append (Kd.int .i64) (w0 := w) w.heap.size rfl (.tmp 68) (.tmp 70) 25 3 (.int .i64 0) 8 rfl Try.underlying25 info3 rfl (by decide) (by omega) (.slice A306_0 (rd_L1 x9_4 x13_21).length c306_0) (rd_L1 x9_4 x13_21) (rd (rd_L1 l0 x41_2) x52_4) [.int .i64 (rd (rd_L1 l0 x41_2) x52_4)] (fun k_ => oki36 k_ ∨ ((fun k_ => some k_ ≠ (u10 : Value).ownBlock)) k_ ∧ wr.heap.size ≤ k_) (fun _ => False) rfl rfl ?aP (fun _ hk => hk.elim) ?aF ?aO ?aB ?aS ?aL ?_; (case aP => exact rfl); (case aB => exact (by repeat (first | (with_reducible first | exact HB.out | apply below_alloc | apply pw_below_drewN | apply below_drew1) | exact HB.out))); (case aF => exact (fun k_ hk => .inr ⟨Kd.fresh' (Kd.R_lt (by (with_reducible repeat (first | apply Kd.R_alloc | apply Kd.R_drewN | apply Kd.R_drew)); exact HO_10.out)) k_ hk, hk⟩)); (case aO => exact (by (with_reducible repeat (first | apply Kd.R_alloc | apply Kd.R_drewN | apply Kd.R_drew)); exact Kd.R_mono UU36.out (fun _ hk => .inl hk))); (case aS => exact (below_size (by repeat (first | (with_reducible first | exact HB.out | apply below_alloc | apply pw_below_drewN | apply below_drew1) | exact HB.out)))); (case aL => have := LMc33.out; omega); intro v308 w37 ho hb hg hat; rw [← Ny307.out] at ho; have n0_ := Aside0.mk (Kd.R_grown2 (by (with_reducible repeat (first | apply Kd.R_alloc | apply Kd.R_drewN | apply Kd.R_drew)); exact HO_10.out) rfl hg (fun k_ e_ => (HL306_0.out.1 k_ e_).1)); have n1_ := Aside0.mk (hb); have n2_ := Aside0.mk (Kd.H_grown (Kd.H_widen (by repeat (first | exact HH36.out | refine Kd.H_alloc ?_ _ | refine Kd.H_drewN ?_ _ | refine Kd.H_drew ?_))) hg (fun k_ e_ => .inl (UU36.out.1 k_ e_))); have n3_ := Aside0.mk (ho); clear HO_10; clear HB; clear HH36; clear HO_9; clear UU36; clear HL306_0; have HO_10 := n0_; have HB := n1_; have HH36 := n2_; have HO309 := n3_; clear n0_ n1_ n2_ n3_; clear ho hb hg hat; have p34 : 0 ≤ (x13_21 : Int) := of_decide_eq_true (by first | (with_reducible assumption) | assumption); have q34 : (x13_21 : Int) < ((x9_4.length : Int) : Int) := of_decide_eq_true (by first | (with_reducible assumption) | assumption); replace p34 := eq_true p34; replace q34 := eq_true q34; obtain ⟨Ao40, co40, eo40⟩ := Kd.R_slice HO309.out; subst eo40; obtain ⟨_, _, hraw38, _, _, hcc38, _⟩ := Kd.H_raw HH36.out (of_decide_eq_true (by first | (with_reducible assumption) | assumption)) (by have h_ : (x13_21 : Int) < ((x9_4.length : Int) : Int) := of_decide_eq_true (by first | (with_reducible assumption) | assumption); first | exact h_ | (have e_ := (HN36.out); omega) | simpa using h_); obtain ⟨_, hfr38⟩ := Kd.H_at HH36.out (of_decide_eq_true (by first | (with_reducible assumption) | assumption)) (by have h_ : (x13_21 : Int) < ((x9_4.length : Int) : Int) := of_decide_eq_true (by first | (with_reducible assumption) | assumption); first | exact h_ | (have e_ := (HN36.out); omega) | simpa using h_); have hx38_0 := hcc38 0 _ rfl; have hf38_0 := hfr38 0; (try simp only [Nat.add_zero] at hx38_0 hf38_0); (try rw [show ((Kd.slice 3 (Kd.int .i64))).sz = 1 from rfl, Nat.mul_one] at hx38_0); (try rw [show ((Kd.slice 3 (Kd.int .i64))).sz = 1 from rfl, Nat.mul_one] at hf38_0); have HP38 := Kd.S_seg0 HH36.out (of_decide_eq_true (by first | (with_reducible assumption) | assumption)) (by have h_ : (x13_21 : Int) < ((x9_4.length : Int) : Int) := of_decide_eq_true (by first | (with_reducible assumption) | assumption); first | exact h_ | (have e_ := (HN36.out); omega) | simpa using h_) (seg := [.slice Ao40 y307.length co40]) (j := 0) (show 1 ≤ 1 from by decide) (x' := y307) (Kd.M_row HO309.out) (fun _ hk => hk); (try simp only [show ((Kd.slice 3 (Kd.int .i64))).sz = 1 from rfl, Nat.mul_one, Nat.add_zero] at HP38); clear hcc38 hfr38) | ((with_reducible refine gate_store (t := 25) (p := 72) rfl ?_); refine store_event (t := 25) (p := 72) (v := ?vo_w39) (w1 := (w37.setCell ⟨go36, (x13_21 : Int).toNat, none⟩ (.slice Ao40 y307.length co40))) ?hg ?ho ?hn ?hr ?_; (case ho => rfl); (case hg => rfl); (case hn => rfl); (case hr => first | (go_simp; done) | (go_simp; rfl)); intro w39 hw; have hg : w37.grownBy w39 (some go36) := (by rw [hw]; exact HP38.2); have hp_ : Kd.S (Kd.slice 3 (Kd.int .i64)) 25 w39 w.heap.size (fun k_ => some k_ ≠ (u10 : Value).ownBlock) (.slice (some ⟨go36, 0, none⟩) x9_4.length co35) y310 := (by rw [hw, Ny310.out]; exact HP38.1); clear HP38; have n0_ := Aside0.mk (Kd.R_over' (v := (.slice (some ⟨go36, 0, none⟩) x9_4.length co35)) (by (with_reducible repeat (first | apply Kd.R_alloc | apply Kd.R_drewN | apply Kd.R_drew)); exact HO_10.out) (Kd.R_typed hraw38) (by decide) hg); have n1_ := Aside0.mk ((by rw [hw]; exact below_set HB.out GB36.out : Below w.heap.size w w39)); have n2_ := Aside0.mk (hp_); clear HO_10; clear HB; clear HO309; clear HH36; have HO_10 := n0_; have HB := n1_; have HO_9 := n2_; clear n0_ n1_ n2_; clear hg hw hp_ hraw38))
                                          go_roundg k4
                                          case measure => have := HK1.out; have := HK2.out; have := HJ21.out; have := HK4.out; omega
                                          case rel => exact ⟨(y310), (x10_4), (wrap64 (x52_4 + 1)), (by first | rfl | (simp; done) | (simp [*]; done)), H', ⟨by have := HK1.out; have := HK2.out; have := HJ21.out; have := HK4.out; omega⟩, ⟨by (with_reducible repeat (first | apply Kd.S_alloc | apply Kd.S_drewN | apply Kd.S_drew)); exact HO_9.out⟩, ⟨by (with_reducible repeat (first | apply Kd.R_alloc | apply Kd.R_drewN | apply Kd.R_drew)); exact HO_10.out⟩, ⟨by repeat (first | (with_reducible first | exact HB.out | apply below_alloc | apply pw_below_drewN | apply below_drew1) | exact HB.out)⟩⟩
                                        · rw [if_neg c33] at H
                                          exact absurd H (by simp)
                                      · rw [if_neg c32] at H
                                        exact absurd H (by simp)
                                    · rw [if_neg c31] at H
                                      exact absurd H (by simp)
                                · rw [if_neg c26] at H
                                  exact absurd H (by simp)
                              · rw [if_neg c25] at H
                                exact absurd H (by simp)
                            · rw [if_neg c24] at H
                              have c24b0 : decide (x52_4 < ((rd_L1 l0 x41_2).length : Int)) = false := decide_eq_false c24
                              clear c24
                              have H' := Aside0.mk H
                              clear H
                              go_wp2
                              go_roundg k4
                              case measure => have := HK1.out; have := HK2.out; have := HJ21.out; have := HK4.out; omega
                              case rel => exact ⟨(x9_4), (x10_4), (wrap64 (x41_2 + 1)), (by first | rfl | (simp; done) | (simp [*]; done)), H', ⟨by have := HK1.out; have := HK2.out; have := HJ21.out; have := HK4.out; omega⟩, ⟨by (with_reducible repeat (first | apply Kd.S_alloc | apply Kd.S_drewN | apply Kd.S_drew)); exact HO_9.out⟩, ⟨by (with_reducible repeat (first | apply Kd.R_alloc | apply Kd.R_drewN | apply Kd.R_drew)); exact HO_10.out⟩, ⟨by repeat (first | (with_reducible first | exact HB.out | apply below_alloc | apply pw_below_drewN | apply below_drew1) | exact HB.out)⟩⟩
                  · rw [if_neg c21] at H
                    exact absurd H (by simp)
                · rw [if_neg c20] at H
                  exact absurd H (by simp)
              · rw [if_neg c19] at H
                have c19b0 : decide (x41_2 < (l0.length : Int)) = false := decide_eq_false c19
                clear c19
                by_cases c41 : 3 < (x9_2.length : Int)
                · rw [if_pos c41] at H
                  have c41b0 : decide (3 < (x9_2.length : Int)) = true := decide_eq_true c41
                  have c41b1 : decide (3 < x9_2.length) = true := decide_eq_true (by omega)
                  clear c41
                  obtain ⟨y299, hy299⟩ : ∃ y_ : List (List Int), y_ = (x9_2.set (3 : Int).toNat x10_2) := ⟨_, rfl⟩
                  replace H : (some (y299, 0)) = some (r1, r2) := by first | (rw [hy299]; with_reducible exact H) | (have H2_ := (Option.bind_some _ _).symm.trans H; rw [hy299]; with_reducible exact H2_) | (have H2_ := (Option.bind_some _ _).symm.trans H; with_reducible exact H2_) | with_reducible exact H | (rw [hy299]; exact H) | exact H
                  have Ny299 := Aside0.mk hy299
                  clear hy299
                  simp only [Option.some.injEq, Prod.mk.injEq] at H
                  obtain ⟨rfl, rfl⟩ := H
                  have p42 : 0 ≤ (3 : Int) := (by omega)
                  have q42 : (3 : Int) < ((x9_2.length : Int) : Int) := of_decide_eq_true (by first | (with_reducible assumption) | assumption)
                  have qi42 : (3 < x9_2.length) = True := eq_true (by omega)
                  obtain ⟨go42, co42, eo42, gb42, gl42, cl42, HG42⟩ := Kd.S_form HO_9.out (by omega)
                  (first | cases eo42 | (injection eo42 with ea_ en_ ec_; (first | subst ea_ | (injection ea_ with ea_; subst ea_)); subst ec_; clear en_))
                  have GB42 := Aside0.mk gb42
                  have GG42 := Aside0.mk HG42
                  clear gb42 gl42 HG42
                  obtain ⟨_, ce42, hcl42, hM42, hcc42, hfr42, _, _⟩ := Kd.S_elem HO_9.out [] (3 : Int) p42 q42
                  obtain ⟨ve42_0, rfl, ge42_0⟩ := hM42
                  have hx42_0 := hcc42 0 _ rfl
                  have hf42_0 := hfr42 0
                  (try simp only [show ((Kd.slice 3 (Kd.int .i64))).sz = 1 from rfl, Nat.mul_one, Nat.add_zero] at hx42_0)
                  (try simp only [show ((Kd.slice 3 (Kd.int .i64))).sz = 1 from rfl, Nat.mul_one, Nat.add_zero] at hf42_0)
                  clear hcl42 hcc42 hfr42; (try clear hM42)
                  (try rw [show ((3 : Int)).toNat = 3 from rfl] at hx42_0)
                  (try simp only [Nat.reduceMul, Nat.zero_mul, Nat.zero_add, Nat.reduceAdd] at hx42_0)
                  (try rw [show ((3 : Int)).toNat = 3 from rfl] at hf42_0)
                  (try simp only [Nat.reduceMul, Nat.zero_mul, Nat.zero_add, Nat.reduceAdd] at hf42_0)
                  replace p42 := eq_true p42
                  replace q42 := eq_true q42
                  have HX43 := Aside0.mk (show Kd.S (Kd.slice 3 (Kd.int .i64)) 25 wr w.heap.size (fun k_ => ((fun _ => True)) k_ ∧ ¬ ((fun k_ => some k_ = (u10 : Value).ownBlock)) k_) (.slice (some ⟨go42, 0, none⟩) x9_2.length co42) x9_2 from (by (with_reducible repeat (first | apply Kd.S_alloc | apply Kd.S_drewN | apply Kd.S_drew)); exact Kd.S_mono HO_9.out (fun k_ hk => ⟨trivial, fun e_ => hk e_⟩)))
                  obtain ⟨oki43, ce43, hcl43, hM43, hcc43, hfr43, hoki43, hH43⟩ := Kd.S_elem HX43.out [] (3 : Int) (by omega) (by have h_ : (3 : Int) < ((x9_2.length : Int) : Int) := of_decide_eq_true (by first | (with_reducible assumption) | assumption); first | exact h_ | (have e_ := (Kd.S_reads' HO_9.out).1; omega) | simpa using h_)
                  obtain ⟨ve43_0, rfl, ge43_0⟩ := hM43
                  have HP43 := Kd.S_seg hH43 (by omega) (by have h_ : (3 : Int) < ((x9_2.length : Int) : Int) := of_decide_eq_true (by first | (with_reducible assumption) | assumption); first | exact h_ | (have e_ := (Kd.S_reads' HO_9.out).1; omega) | simpa using h_) (seg := [u10]) (j := 0) (show 1 ≤ 1 from by decide) (x' := x10_2) (Kd.M_row (Kd.R_mono (Kd.R_tight rfl (Kd.R_mono (ok' := fun k_ => ((fun _ => True)) k_ ∧ k_ ≠ go42) (Kd.R_apart' (HO_10.out) (Kd.S_typed HO_9.out) (by decide)) (fun k_ hk => ⟨trivial, fun e_ => (hk.2) (by rw [e_]; rfl)⟩))) (fun _ h_ => Or.inr (h_)))) (fun _ hk => hk) (fun k_ hk_ => ((Kd.R_mono (ok' := fun k_ => ((fun _ => True)) k_ ∧ k_ ≠ go42) (Kd.R_apart' (HO_10.out) (Kd.S_typed HO_9.out) (by decide)) (fun k_ hk => ⟨trivial, fun e_ => (hk.2) (by rw [e_]; rfl)⟩))).1 k_ hk_.symm)
                  have hx43_0 := hcc43 0 _ rfl
                  (try simp only [show ((Kd.slice 3 (Kd.int .i64))).sz = 1 from rfl, Nat.mul_one, Nat.add_zero] at hx43_0)
                  (try rw [show ((3 : Int)).toNat = 3 from rfl] at hx43_0)
                  (try simp only [Nat.reduceMul, Nat.zero_mul, Nat.zero_add, Nat.reduceAdd] at hx43_0)
                  have hf43_0 := hfr43 0
                  (try simp only [show ((Kd.slice 3 (Kd.int .i64))).sz = 1 from rfl, Nat.mul_one, Nat.add_zero] at hf43_0)
                  (try rw [show ((3 : Int)).toNat = 3 from rfl] at hf43_0)
                  (try simp only [Nat.reduceMul, Nat.zero_mul, Nat.zero_add, Nat.reduceAdd] at hf43_0)
                  clear hcl43 hcc43 hfr43 hoki43 hH43; (try clear hM43)
                  (try simp only [show ((Kd.slice 3 (Kd.int .i64))).sz = 1 from rfl, Nat.mul_one, Nat.add_zero] at HP43)
                  go_wp2_with (first | ((with_reducible refine gate_store (t := 25) (p := 77) rfl ?_); refine store_event (t := 25) (p := 77) (v := ?vo_w44) (w1 := (wr.setCell ⟨go42, 3, none⟩ (u10))) ?hg ?ho ?hn ?hr ?_; (case ho => rfl); (case hg => rfl); (case hn => rfl); (case hr => first | (go_simp; done) | (go_simp; rfl) | (obtain ⟨_, _, e_⟩ := Kd.R_slice HO_10.out; simp only [e_]; first | (go_simp; done) | (go_simp; rfl))); intro w44 hw; have hg : wr.grownBy w44 (some go42) := (by rw [hw]; exact HP43.2); have hp_ : Kd.S (Kd.slice 3 (Kd.int .i64)) 25 w44 w.heap.size (fun _ => True) (.slice (some ⟨go42, 0, none⟩) x9_2.length co42) y299 := (by rw [hw, Ny299.out]; exact HP43.1); clear HP43; have n0_ := Aside0.mk (hp_); have n1_ := Aside0.mk ((by rw [hw]; exact below_set (HB.out) GB42.out : Below w.heap.size w w44)); clear HO_9; clear HB; clear HO_10; have HO_9 := n0_; have HB := n1_; clear n0_ n1_; clear hg hw hp_))
                  go_ret2
                  exact ⟨_, by first | rfl | (simp [errW_none, errW_some] <;> rfl) | (simp [*, errW_none, errW_some] <;> rfl), by (with_reducible repeat (first | apply Kd.S_alloc | apply Kd.S_drewN | apply Kd.S_drew)); exact HO_9.out, by repeat (first | (with_reducible first | exact HB.out | apply below_alloc | apply pw_below_drewN | apply below_drew1) | exact HB.out)⟩
                · rw [if_neg c41] at H
                  exact absurd H (by simp)
  · rw [if_neg c4] at H
    have c4b0 : (t291 == 0) = false := beq_eq_false_iff_ne.mpr c4
    have c4b1 : (t291 != 0) = true := bne_iff_ne.mpr c4
    simp only [Option.some.injEq, Prod.mk.injEq] at H
    obtain ⟨rfl, rfl⟩ := H
    go_enter Try.func28, Try.ntmps28
    go_wp2_with (first | ((with_reducible refine gate_callee (f := 17) rfl ?_); refine goesL_ (some 17) rfl rfl Try.func17 (by kernel_rfl) rfl #[.slice A0 l0.length c0] rfl (by (try simp only [List.map_toArray, List.map_cons, List.map_nil]); first | done | rfl | (simp only [List.length_drop, List.length_take]; rfl)) ?_; (with_reducible refine (estoversref36_Check.calls k _ _ l0 t291 _ ?side1 ?side2 A3.out).mono ?_); (case side1 => repeat (first | exact HR0.out | (with_reducible refine Kd.C_alloc ?_ _) | (with_reducible refine Kd.C_drewN ?_ _) | (with_reducible refine Kd.C_drew ?_))); (case side2 => exact HC0.out); rintro e w45 ⟨rfl, hb⟩; refine ⟨_, rfl, ?_⟩; have n0_ := Aside0.mk (below_step (by repeat (first | (with_reducible first | exact HB.out | apply below_alloc | apply pw_below_drewN | apply below_drew1) | exact HB.out)) hb); clear HB; have HB := n0_; clear n0_; (try clear hb); (try clear hb2); (try clear hk); (try clear hi)))
    go_ret2
    exact ⟨_, by first | rfl | (simp [errW_none, errW_some] <;> rfl) | (simp [*, errW_none, errW_some] <;> rfl), by first | exact Kd.S_nil _ _ _ _ _ | exact Kd.N_nil _ _ _ _ _ | exact Kd.V_nil _ _ _ _ _ | exact Kd.Q_nil _ _ _ _ _ | exact Kd.R_nil _ _ _ _ _, by repeat (first | (with_reducible first | exact HB.out | apply below_alloc | apply pw_below_drewN | apply below_drew1) | exact HB.out)⟩

end Go.Proofs.Ytikdcoahoocpjaa.Q
