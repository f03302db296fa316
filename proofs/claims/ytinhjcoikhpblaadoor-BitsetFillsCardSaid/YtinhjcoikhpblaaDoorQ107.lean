-- Written by wip/stubprint.py for this claim. Lean checks it.
import Derived.Test.YtinhjcoikhpblaaDoorQ0
import Derived.Test.YtinhjcoikhpblaaDoorQ102
import Derived.Test.YtinhjcoikhpblaaDoorQ103
import Derived.Test.YtinhjcoikhpblaaDoorQ104
namespace Go.Proofs.YtinhjcoikhpblaaDoor.Q
open Go.RowKit Go.Proofs.YtinhjcoikhpblaaDoorW.PrintWords Go.Proofs.YtinhjcoikhpblaaDoorW.PrintLast Go.Proofs.YtinhjcoikhpblaaDoorW.PrintMore
attribute [local go_sem] max2_int min2_int max_two min_two max_three min_three max_four min_four
set_option linter.unusedVariables false
set_option linter.unusedSimpArgs false

/-! ### estoversref01_Fill: function 22 -/
mutual
def estoversref01_Fill.j0 : Nat → Int → Int → Bool → Bool → Int → List Int → Option (Int × List Int × Int)
  | 0, _, _, _, _, _, _ => none
  | k + 1, x1, x2, x3, x31, x237000, x237001 => if x31 = true then (some (0, ([] : List Int), 2)) else ((estoversref01_Copy.f k x237000 x237001).bind fun bt239 => (estoversref01_Fill.l0 k x2 x3 x1 bt239.1 bt239.2))
def estoversref01_Fill.l0 : Nat → Int → Bool → Int → Int → List Int → Option (Int × List Int × Int)
  | 0, _, _, _, _, _ => none
  | k + 1, x2, x3, x12, x244000, x244001 => if x12 < x2 then ((estoversref01_put.f x244000 x244001 x12 x3).bind fun t244 => (estoversref01_Fill.l0 k x2 x3 (wrap64 (x12 + 1)) x244000 t244)) else (some (x244000, x244001, 0))
end
def estoversref01_Fill.f (k : Nat) (a0_0 : Int) (l0_1 : List Int) (a1 : Int) (a2 : Int) (a3 : Bool) : Option (Int × List Int × Int) := (estoversref01_Check.f k a0_0 l0_1).bind fun t238 => (if t238 = 0 then (if a1 < 0 then (estoversref01_Fill.j0 k a1 a2 a3 true a0_0 l0_1) else (if a1 > a2 then (estoversref01_Fill.j0 k a1 a2 a3 true a0_0 l0_1) else (estoversref01_Fill.j0 k a1 a2 a3 (decide (a2 > a0_0)) a0_0 l0_1))) else (some (0, ([] : List Int), t238)))
theorem estoversref01_Fill.mono_l : ∀ k, (∀ y0 y1 y2 y3 y4 y5, LeO (estoversref01_Fill.j0 k y0 y1 y2 y3 y4 y5) (estoversref01_Fill.j0 (k + 1) y0 y1 y2 y3 y4 y5)) ∧ (∀ y0 y1 y2 y3 y4, LeO (estoversref01_Fill.l0 k y0 y1 y2 y3 y4) (estoversref01_Fill.l0 (k + 1) y0 y1 y2 y3 y4))
  | 0 => ⟨fun _ _ _ _ _ _ r h => by simp [estoversref01_Fill.j0] at h, fun _ _ _ _ _ r h => by simp [estoversref01_Fill.l0] at h⟩
  | k + 1 => by
    obtain ⟨ih0, ih1⟩ := estoversref01_Fill.mono_l k
    refine ⟨?_, ?_⟩
    · intro y0 y1 y2 y3 y4 y5
      unfold estoversref01_Fill.j0
      repeat' first
      | (with_reducible exact ih0 _ _ _ _ _ _)
      | (with_reducible exact ih1 _ _ _ _ _)
      | (with_reducible exact estoversref01_Check.mono _ _ _)
      | (with_reducible exact estoversref01_Copy.mono _ _ _)
      | (with_reducible exact LeO.refl _)
      | (with_reducible exact LeO.none _)
      | (with_reducible refine LeO.ite ?_ ?_)
      | (with_reducible refine LeO.bind ?_ (fun _ => ?_))
      | exact ih0 _ _ _ _ _ _
      | exact ih1 _ _ _ _ _
      | exact estoversref01_Check.mono _ _ _
      | exact estoversref01_Copy.mono _ _ _
      | exact LeO.none _
      | refine LeO.ite ?_ ?_
      | refine LeO.bind ?_ (fun _ => ?_)
    · intro y0 y1 y2 y3 y4
      unfold estoversref01_Fill.l0
      repeat' first
      | (with_reducible exact ih0 _ _ _ _ _ _)
      | (with_reducible exact ih1 _ _ _ _ _)
      | (with_reducible exact estoversref01_Check.mono _ _ _)
      | (with_reducible exact estoversref01_Copy.mono _ _ _)
      | (with_reducible exact LeO.refl _)
      | (with_reducible exact LeO.none _)
      | (with_reducible refine LeO.ite ?_ ?_)
      | (with_reducible refine LeO.bind ?_ (fun _ => ?_))
      | exact ih0 _ _ _ _ _ _
      | exact ih1 _ _ _ _ _
      | exact estoversref01_Check.mono _ _ _
      | exact estoversref01_Copy.mono _ _ _
      | exact LeO.none _
      | refine LeO.ite ?_ ?_
      | refine LeO.bind ?_ (fun _ => ?_)
theorem estoversref01_Fill.mono : ∀ a0 a1 a2 a3 a4 k, LeO (estoversref01_Fill.f k a0 a1 a2 a3 a4) (estoversref01_Fill.f (k + 1) a0 a1 a2 a3 a4) := by
  intro a0 a1 a2 a3 a4 k
  obtain ⟨ih0, ih1⟩ := estoversref01_Fill.mono_l k
  unfold estoversref01_Fill.f
  repeat' first
      | (with_reducible exact ih0 _ _ _ _ _ _)
      | (with_reducible exact ih1 _ _ _ _ _)
      | (with_reducible exact estoversref01_Check.mono _ _ _)
      | (with_reducible exact estoversref01_Copy.mono _ _ _)
      | (with_reducible exact LeO.refl _)
      | (with_reducible exact LeO.none _)
      | (with_reducible refine LeO.ite ?_ ?_)
      | (with_reducible refine LeO.bind ?_ (fun _ => ?_))
      | exact ih0 _ _ _ _ _ _
      | exact ih1 _ _ _ _ _
      | exact estoversref01_Check.mono _ _ _
      | exact estoversref01_Copy.mono _ _ _
      | exact LeO.none _
      | refine LeO.ite ?_ ?_
      | refine LeO.bind ?_ (fun _ => ?_)
set_option maxHeartbeats 8000000 in
set_option maxRecDepth 100000 in
theorem estoversref01_Fill.calls (k : Nat) (a0_0 : Int) (A0_1 : Option Addr) (c0_1 : Nat) (l0_1 : List Int) (a1 : Int) (a2 : Int) (a3 : Bool) (r1 : Int) (r2 : List Int) (r3 : Int) (w : World) (hr0_1 : Kd.C (Kd.int .u64) w A0_1 l0_1.length l0_1) (hc0_1 : l0_1.length ≤ c0_1) (h : estoversref01_Fill.f k a0_0 l0_1 a1 a2 a3 = some (r1, r2, r3)) :
    Calls Tryd.prog 22 #[.agg #[.int .i64 a0_0, .slice A0_1 l0_1.length c0_1], .int .i64 a1, .int .i64 a2, .bool a3] w fun e w' => ∃ v1_ : Value, e = .returned (.tuple #[.agg #[.int .i64 r1, v1_], .int .i64 r3]) ∧ Kd.R (Kd.int .u64) 42 w' w.heap.size (fun _ => True) v1_ r2 ∧ Below w.heap.size w w' := by
  have hu24 := Tryd.underlying24
  have HR0_1 := Aside0.mk hr0_1
  have HC0_1 := Aside0.mk hc0_1
  clear hr0_1 hc0_1
  have HB := Aside0.mk (Below.refl w.heap.size w)
  have H : ((estoversref01_Check.f k a0_0 l0_1).bind fun t238 => (if t238 = 0 then (if a1 < 0 then (estoversref01_Fill.j0 k a1 a2 a3 true a0_0 l0_1) else (if a1 > a2 then (estoversref01_Fill.j0 k a1 a2 a3 true a0_0 l0_1) else (estoversref01_Fill.j0 k a1 a2 a3 (decide (a2 > a0_0)) a0_0 l0_1))) else (some (0, ([] : List Int), t238)))) = some (r1, r2, r3) := h
  clear h
  replace H := Option.bind_eq_some_iff.mp H
  obtain ⟨t238, A50, H⟩ := H
  replace H : (if t238 = 0 then (if a1 < 0 then (estoversref01_Fill.j0 k a1 a2 a3 true a0_0 l0_1) else (if a1 > a2 then (estoversref01_Fill.j0 k a1 a2 a3 true a0_0 l0_1) else (estoversref01_Fill.j0 k a1 a2 a3 (decide (a2 > a0_0)) a0_0 l0_1))) else (some (0, ([] : List Int), t238))) = some (r1, r2, r3) := H
  have A5 := Aside0.mk A50
  clear A50
  by_cases c6 : t238 = 0
  · rw [if_pos c6] at H
    have c6b0 : (t238 == 0) = true := beq_iff_eq.mpr c6
    have c6b1 : (t238 != 0) = false := bne_eq_false_iff_eq.mpr c6
    clear c6
    have HC7 := Aside0.mk H
    clear H
    go_enter Tryd.func22, Tryd.ntmps22
    go_upto_region 4 with (first | ((with_reducible refine gate_dst (N := 4) rfl ?_); refine box_event ?hg (N := 4) ?hd (cs := #[.int .i64 a0_0, .slice A0_1 l0_1.length c0_1]) (t := 24) ?hr ?_; (case hd => rfl); (case hg => rfl); (case hr => first | (go_simp; done) | (go_simp; rfl)); intro gb236 hg w8 hbox hb; have n0_ := Aside0.mk (below_step (by repeat (first | (with_reducible first | exact HB.out | apply below_alloc | apply pw_below_drewN | apply below_drew1) | exact HB.out)) hb); have n1_ := Aside0.mk (hbox); have n2_ := Aside0.mk ((by rw [hg]; exact (below_size (by repeat (first | (with_reducible first | exact HB.out | apply below_alloc | apply pw_below_drewN | apply below_drew1) | exact HB.out))) : w.heap.size ≤ gb236)); have n3_ := Aside0.mk ((by rw [hg]; exact (below_size (by repeat (first | (with_reducible first | exact HB.out | apply below_alloc | apply pw_below_drewN | apply below_drew1) | exact HB.out))) : w.heap.size ≤ gb236)); clear HB; have HB := n0_; have BK236 := n1_; have GW236 := n2_; have GE236 := n3_; clear n0_ n1_ n2_ n3_; clear hb hbox hg) | ((with_reducible refine gate_dst (N := 8) rfl ?_); refine box_event ?hg (N := 8) ?hd (cs := #[.int .i64 0, .slice none 0 0]) (t := 24) ?hr ?_; (case hd => rfl); (case hg => rfl); (case hr => first | (go_simp; done) | (go_simp; rfl)); intro gb237 hg w9 hbox hb; have n0_ := Aside0.mk (blk_below (g := gb236) (o := .cells #[.int .i64 a0_0, .slice A0_1 l0_1.length c0_1] 24 (0, 0)) (by (with_reducible repeat (first | refine blk_drewN ?_ _ | refine blk_drew ?_ | refine blk_alloc ?_ _)); exact BK236.out) hb); have n1_ := Aside0.mk (below_step (by repeat (first | (with_reducible first | exact HB.out | apply below_alloc | apply pw_below_drewN | apply below_drew1 | refine below_set ?_ GE236.out) | exact HB.out)) hb); have n2_ := Aside0.mk (hbox); have n3_ := Aside0.mk ((by rw [hg]; exact (below_size (by repeat (first | (with_reducible first | exact HB.out | apply below_alloc | apply pw_below_drewN | apply below_drew1 | refine below_set ?_ GE236.out) | exact HB.out))) : w.heap.size ≤ gb237)); have n4_ := Aside0.mk ((by rw [hg]; exact (below_size (by repeat (first | (with_reducible first | exact HB.out | apply below_alloc | apply pw_below_drewN | apply below_drew1 | refine below_set ?_ GE236.out) | exact HB.out))) : w.heap.size ≤ gb237)); have n5_ := Aside0.mk ((by rw [hg]; exact Nat.ne_of_lt (blk_lt (g := gb236) (o := .cells #[.int .i64 a0_0, .slice A0_1 l0_1.length c0_1] 24 (0, 0)) (by (with_reducible repeat (first | refine blk_drewN ?_ _ | refine blk_drew ?_ | refine blk_alloc ?_ _)); exact BK236.out)) : gb236 ≠ gb237)); have n6_ := Aside0.mk ((by rw [hg]; exact Nat.ne_of_gt (blk_lt (g := gb236) (o := .cells #[.int .i64 a0_0, .slice A0_1 l0_1.length c0_1] 24 (0, 0)) (by (with_reducible repeat (first | refine blk_drewN ?_ _ | refine blk_drew ?_ | refine blk_alloc ?_ _)); exact BK236.out)) : gb237 ≠ gb236)); clear BK236; clear HB; have BK236 := n0_; have HB := n1_; have BK237 := n2_; have GW237 := n3_; have GE237 := n4_; have NB236_237 := n5_; have NB237_236 := n6_; clear n0_ n1_ n2_ n3_ n4_ n5_ n6_; clear hb hbox hg; have hnb10 := NB236_237.out; have hnc10 := NB237_236.out; have hcz11_0 : w9.cell? ⟨gb236, 0, none⟩ = some (.int .i64 a0_0) := (blk_cell BK236.out 0).trans rfl; have hcz11_1 : w9.cell? ⟨gb236, 1, none⟩ = some (.slice A0_1 l0_1.length c0_1) := (blk_cell BK236.out 1).trans rfl; have hfz11_0 := blk_frozen BK236.out 0; have hfz11_1 := blk_frozen BK236.out 1) | ((with_reducible refine gate_callee (f := 15) rfl ?_); refine goesL_ (some 14) rfl rfl Tryd.func15 (by kernel_rfl) rfl #[.agg #[.int .i64 a0_0, .slice A0_1 l0_1.length c0_1]] rfl (by (try simp only [List.map_toArray, List.map_cons, List.map_nil]); first | done | rfl | (simp only [List.length_drop, List.length_take]; rfl)) ?_; (with_reducible refine (estoversref01_Check.calls k a0_0 _ _ l0_1 t238 _ ?side1 ?side2 A5.out).mono ?_); (case side1 => repeat (first | exact (Kd.C_below HR0_1.out HB.out) | (with_reducible refine Kd.C_alloc ?_ _) | (with_reducible refine Kd.C_drewN ?_ _) | (with_reducible refine Kd.C_drew ?_))); (case side2 => exact HC0_1.out); rintro e w12 ⟨rfl, hb⟩; refine ⟨_, rfl, ?_⟩; have n0_ := Aside0.mk (blk_below (g := gb236) (o := .cells #[.int .i64 a0_0, .slice A0_1 l0_1.length c0_1] 24 (0, 0)) (by (with_reducible repeat (first | refine blk_drewN ?_ _ | refine blk_drew ?_ | refine blk_alloc ?_ _)); exact BK236.out) hb); have n1_ := Aside0.mk (blk_below (g := gb237) (o := .cells #[.int .i64 0, .slice none 0 0] 24 (0, 0)) (by (with_reducible repeat (first | refine blk_drewN ?_ _ | refine blk_drew ?_ | refine blk_alloc ?_ _)); exact BK237.out) hb); have n2_ := Aside0.mk (below_step (by repeat (first | (with_reducible first | exact HB.out | apply below_alloc | apply pw_below_drewN | apply below_drew1 | refine below_set ?_ GE236.out | refine below_set ?_ GE237.out) | exact HB.out)) hb); clear BK236; clear BK237; clear HB; have BK236 := n0_; have BK237 := n1_; have HB := n2_; clear n0_ n1_ n2_; (try clear hb); (try clear hb2); (try clear hk); (try clear hi)))
    (try simp only [Act.put, List.setIfInBounds_toArray, List.set_cons_zero, List.set_cons_succ])
    go_cut [31] (fun v31 wc => ∃ (kq : Nat) (x31_6 : Bool), v31 = .bool x31_6 ∧ Aside0 (estoversref01_Fill.j0 kq a1 a2 a3 x31_6 a0_0 l0_1 = some (r1, r2, r3)) ∧ Aside0 (kq ≤ k) ∧ Aside0 (wc.heap[gb236]? = some (.cells #[.int .i64 a0_0, (.slice A0_1 l0_1.length c0_1)] 24 (0, 0))) ∧ Aside0 (wc.heap[gb237]? = some (.cells #[.int .i64 0, (.slice none 0 0)] 24 (0, 0))) ∧ Aside0 (Below w.heap.size w wc))
    case first =>
      have H := HC7.out
      clear HC7
      by_cases c13 : a1 < 0
      · rw [if_pos c13] at H
        have c13b0 : decide (a1 < 0) = true := decide_eq_true c13
        clear c13
        (first | rw [c13b0] | (simp only [i64_w, i32_w]; rw [c13b0]) | skip)
        have H' := Aside0.mk H
        clear H
        go_wp2
        go_meet
        case rel => exact ⟨_, (true), (by first | rfl | (simp; done) | (simp [*]; done)), H', ⟨by first | omega | exact Nat.le_refl _⟩, ⟨by (with_reducible repeat (first | refine blk_drewN ?_ _ | refine blk_drew ?_ | refine blk_alloc ?_ _)); exact BK236.out⟩, ⟨by (with_reducible repeat (first | refine blk_drewN ?_ _ | refine blk_drew ?_ | refine blk_alloc ?_ _)); exact BK237.out⟩, ⟨by repeat (first | (with_reducible first | exact HB.out | apply below_alloc | apply pw_below_drewN | apply below_drew1 | refine below_set ?_ GE236.out | refine below_set ?_ GE237.out) | exact HB.out)⟩⟩
      · rw [if_neg c13] at H
        have c13b0 : decide (a1 < 0) = false := decide_eq_false c13
        clear c13
        (first | rw [c13b0] | (simp only [i64_w, i32_w]; rw [c13b0]) | skip)
        by_cases c14 : a1 > a2
        · rw [if_pos c14] at H
          have c14b0 : decide (a2 < a1) = true := decide_eq_true c14
          clear c14
          have H' := Aside0.mk H
          clear H
          go_wp2
          go_meet
          case rel => exact ⟨_, (true), (by first | rfl | (simp; done) | (simp [*]; done)), H', ⟨by first | omega | exact Nat.le_refl _⟩, ⟨by (with_reducible repeat (first | refine blk_drewN ?_ _ | refine blk_drew ?_ | refine blk_alloc ?_ _)); exact BK236.out⟩, ⟨by (with_reducible repeat (first | refine blk_drewN ?_ _ | refine blk_drew ?_ | refine blk_alloc ?_ _)); exact BK237.out⟩, ⟨by repeat (first | (with_reducible first | exact HB.out | apply below_alloc | apply pw_below_drewN | apply below_drew1 | refine below_set ?_ GE236.out | refine below_set ?_ GE237.out) | exact HB.out)⟩⟩
        · rw [if_neg c14] at H
          have c14b0 : decide (a2 < a1) = false := decide_eq_false c14
          clear c14
          have H' := Aside0.mk H
          clear H
          have hnb15 := NB236_237.out
          have hnc15 := NB237_236.out
          have hcz16_0 : w12.cell? ⟨gb236, 0, none⟩ = some (.int .i64 a0_0) := (blk_cell BK236.out 0).trans rfl
          have hcz16_1 : w12.cell? ⟨gb236, 1, none⟩ = some (.slice A0_1 l0_1.length c0_1) := (blk_cell BK236.out 1).trans rfl
          have hfz16_0 := blk_frozen BK236.out 0
          have hfz16_1 := blk_frozen BK236.out 1
          go_wp2
          go_meet
          case rel => exact ⟨_, (decide (a2 > a0_0)), (by first | rfl | (simp; done) | (simp [*]; done)), H', ⟨by first | omega | exact Nat.le_refl _⟩, ⟨by (with_reducible repeat (first | refine blk_drewN ?_ _ | refine blk_drew ?_ | refine blk_alloc ?_ _)); exact BK236.out⟩, ⟨by (with_reducible repeat (first | refine blk_drewN ?_ _ | refine blk_drew ?_ | refine blk_alloc ?_ _)); exact BK237.out⟩, ⟨by repeat (first | (with_reducible first | exact HB.out | apply below_alloc | apply pw_below_drewN | apply below_drew1 | refine below_set ?_ GE236.out | refine below_set ?_ GE237.out) | exact HB.out)⟩⟩
    case rest =>
      clear HC7
      try clear c1
      try clear c2
      try clear p2
      try clear c6
      try clear c6b0
      try clear c6b1
      try clear c10
      try clear c13
      try clear c13b0
      try clear c14
      try clear c14b0
      try clear c15
      try clear hcz11_0
      try clear hcz11_1
      try clear hcz16_0
      try clear hcz16_1
      try clear hfz11_0
      try clear hfz11_1
      try clear hfz16_0
      try clear hfz16_1
      obtain ⟨kq, x31_6, rfl, HA, HJ6, BK236, BK237, HB⟩ := hcut
      cases kq with
      | zero => exact absurd HA.out (by simp [estoversref01_Fill.j0])
      | succ kj6 =>
        have H := HA.out
        clear HA
        simp only [estoversref01_Fill.j0] at H
        by_cases c17 : x31_6 = true
        · subst c17
          have H1 : (some (0, ([] : List Int), 2)) = some (r1, r2, r3) := by rw [if_pos rfl] at H; exact H
          clear H
          have H := H1
          clear H1
          simp only [Option.some.injEq, Prod.mk.injEq] at H
          obtain ⟨rfl, rfl, rfl⟩ := H
          have hnb18 := NB237_236.out
          have hnc18 := NB236_237.out
          have hcz19_0 : wc.cell? ⟨gb237, 0, none⟩ = some (.int .i64 0) := (blk_cell BK237.out 0).trans rfl
          have hcz19_1 : wc.cell? ⟨gb237, 1, none⟩ = some (.slice none 0 0) := (blk_cell BK237.out 1).trans rfl
          have hfz19_0 := blk_frozen BK237.out 0
          have hfz19_1 := blk_frozen BK237.out 1
          go_wp2
          refine bodyPost_ret (results_ct rfl _ _ gb237 24 #[.int .i64 0, .slice none 0 0] (0, 0) _ rfl (by (with_reducible repeat (first | refine blk_drewN ?_ _ | refine blk_drew ?_ | refine blk_alloc ?_ _)); refine blk_put (cs := #[.int .i64 0, .slice none 0 0]) ?_ 1 _ rfl; (with_reducible repeat (first | refine blk_drewN ?_ _ | refine blk_drew ?_ | refine blk_alloc ?_ _)); refine blk_put (cs := #[.int .i64 0, .slice none 0 0]) ?_ 0 _ rfl; (with_reducible repeat (first | refine blk_drewN ?_ _ | refine blk_drew ?_ | refine blk_alloc ?_ _)); exact BK237.out) Tryd.underlying24 rfl (by kernel_rfl)) rfl ?_
          exact ⟨_, by first | rfl | (simp [errW_none, errW_some] <;> rfl) | (simp [*, errW_none, errW_some] <;> rfl), by first | exact Kd.R_nil _ _ _ _ _ | exact Kd.N_nil _ _ _ _ _ | exact Kd.V_nil _ _ _ _ _ | exact Kd.Q_nil _ _ _ _ _ | exact Kd.S_nil _ _ _ _ _, by repeat (first | (with_reducible first | exact HB.out | apply below_alloc | apply pw_below_drewN | apply below_drew1 | refine below_set ?_ GE236.out | refine below_set ?_ GE237.out) | exact HB.out)⟩
        · replace c17 := Bool.eq_false_iff.mpr c17
          subst c17
          have H1 : ((estoversref01_Copy.f kj6 a0_0 l0_1).bind fun bt239 => (estoversref01_Fill.l0 kj6 a2 a3 a1 bt239.1 bt239.2)) = some (r1, r2, r3) := by rw [if_neg (show ¬ (false = true) by decide)] at H; exact H
          clear H
          have H := H1
          clear H1
          replace H := Option.bind_eq_some_iff.mp H
          obtain ⟨⟨t239, t240⟩, A200, H⟩ := H
          replace H : (estoversref01_Fill.l0 kj6 a2 a3 a1 t239 t240) = some (r1, r2, r3) := H
          have A20 := Aside0.mk A200
          clear A200
          have H' := Aside0.mk H
          clear H
          have hnb21 := NB236_237.out
          have hnc21 := NB237_236.out
          have hcz22_0 : wc.cell? ⟨gb236, 0, none⟩ = some (.int .i64 a0_0) := (blk_cell BK236.out 0).trans rfl
          have hcz22_1 : wc.cell? ⟨gb236, 1, none⟩ = some (.slice A0_1 l0_1.length c0_1) := (blk_cell BK236.out 1).trans rfl
          have hfz22_0 := blk_frozen BK236.out 0
          have hfz22_1 := blk_frozen BK236.out 1
          go_wp2_with (first | ((with_reducible refine gate_callee (f := 35) rfl ?_); refine goesL_ (some 34) rfl rfl Tryd.func35 (by kernel_rfl) rfl #[.agg #[.int .i64 a0_0, .slice A0_1 l0_1.length c0_1]] rfl (by (try simp only [List.map_toArray, List.map_cons, List.map_nil]); first | done | rfl | (simp only [List.length_drop, List.length_take]; rfl)) ?_; (with_reducible refine (estoversref01_Copy.calls kj6 a0_0 _ _ l0_1 t239 t240 _ ?side1 ?side2 A20.out).mono ?_); (case side1 => repeat (first | exact (Kd.C_below HR0_1.out HB.out) | (with_reducible refine Kd.C_alloc ?_ _) | (with_reducible refine Kd.C_drewN ?_ _) | (with_reducible refine Kd.C_drew ?_))); (case side2 => exact HC0_1.out); rintro e w23 ⟨v241, rfl, ho0, hb⟩; refine ⟨_, rfl, ?_⟩; have n0_ := Aside0.mk (Kd.R_lower ho0 (below_size (by repeat (first | (with_reducible first | exact HB.out | apply below_alloc | apply pw_below_drewN | apply below_drew1 | refine below_set ?_ GE236.out | refine below_set ?_ GE237.out) | exact HB.out)))); have n1_ := Aside0.mk (blk_below (g := gb236) (o := .cells #[.int .i64 a0_0, .slice A0_1 l0_1.length c0_1] 24 (0, 0)) (by (with_reducible repeat (first | refine blk_drewN ?_ _ | refine blk_drew ?_ | refine blk_alloc ?_ _)); exact BK236.out) hb); have n2_ := Aside0.mk (blk_below (g := gb237) (o := .cells #[.int .i64 0, .slice none 0 0] 24 (0, 0)) (by (with_reducible repeat (first | refine blk_drewN ?_ _ | refine blk_drew ?_ | refine blk_alloc ?_ _)); exact BK237.out) hb); have n3_ := Aside0.mk (below_step (by repeat (first | (with_reducible first | exact HB.out | apply below_alloc | apply pw_below_drewN | apply below_drew1 | refine below_set ?_ GE236.out | refine below_set ?_ GE237.out) | exact HB.out)) hb); clear BK236; clear BK237; clear HB; have HO242 := n0_; have BK236 := n1_; have BK237 := n2_; have HB := n3_; clear n0_ n1_ n2_ n3_; (try clear hb); (try clear hb2); (try clear hk); (try clear hi); (try clear ho0)) | ((with_reducible refine gate_dst (N := 11) rfl ?_); refine box_event ?hg (N := 11) ?hd (cs := #[.int .i64 0, .slice none 0 0]) (t := 24) ?hr ?_; (case hd => rfl); (case hg => rfl); (case hr => first | (go_simp; done) | (go_simp; rfl)); intro gb243 hg w24 hbox hb; have n0_ := Aside0.mk (Kd.R_below (by (with_reducible repeat (first | apply Kd.R_alloc | apply Kd.R_drewN | apply Kd.R_drew)); exact HO242.out) hb); have n1_ := Aside0.mk (blk_below (g := gb236) (o := .cells #[.int .i64 a0_0, .slice A0_1 l0_1.length c0_1] 24 (0, 0)) (by (with_reducible repeat (first | refine blk_drewN ?_ _ | refine blk_drew ?_ | refine blk_alloc ?_ _)); exact BK236.out) hb); have n2_ := Aside0.mk (blk_below (g := gb237) (o := .cells #[.int .i64 0, .slice none 0 0] 24 (0, 0)) (by (with_reducible repeat (first | refine blk_drewN ?_ _ | refine blk_drew ?_ | refine blk_alloc ?_ _)); exact BK237.out) hb); have n3_ := Aside0.mk (below_step (by repeat (first | (with_reducible first | exact HB.out | apply below_alloc | apply pw_below_drewN | apply below_drew1 | refine below_set ?_ GE236.out | refine below_set ?_ GE237.out) | exact HB.out)) hb); have n4_ := Aside0.mk (hbox); have n5_ := Aside0.mk ((by rw [hg]; exact (below_size (by repeat (first | (with_reducible first | exact HB.out | apply below_alloc | apply pw_below_drewN | apply below_drew1 | refine below_set ?_ GE236.out | refine below_set ?_ GE237.out) | exact HB.out))) : w.heap.size ≤ gb243)); have n6_ := Aside0.mk ((by rw [hg]; exact (below_size (by repeat (first | (with_reducible first | exact HB.out | apply below_alloc | apply pw_below_drewN | apply below_drew1 | refine below_set ?_ GE236.out | refine below_set ?_ GE237.out) | exact HB.out))) : w.heap.size ≤ gb243)); have n7_ := Aside0.mk ((by rw [hg]; exact Nat.ne_of_lt (blk_lt (g := gb236) (o := .cells #[.int .i64 a0_0, .slice A0_1 l0_1.length c0_1] 24 (0, 0)) (by (with_reducible repeat (first | refine blk_drewN ?_ _ | refine blk_drew ?_ | refine blk_alloc ?_ _)); exact BK236.out)) : gb236 ≠ gb243)); have n8_ := Aside0.mk ((by rw [hg]; exact Nat.ne_of_gt (blk_lt (g := gb236) (o := .cells #[.int .i64 a0_0, .slice A0_1 l0_1.length c0_1] 24 (0, 0)) (by (with_reducible repeat (first | refine blk_drewN ?_ _ | refine blk_drew ?_ | refine blk_alloc ?_ _)); exact BK236.out)) : gb243 ≠ gb236)); have n9_ := Aside0.mk ((by rw [hg]; exact Nat.ne_of_lt (blk_lt (g := gb237) (o := .cells #[.int .i64 0, .slice none 0 0] 24 (0, 0)) (by (with_reducible repeat (first | refine blk_drewN ?_ _ | refine blk_drew ?_ | refine blk_alloc ?_ _)); exact BK237.out)) : gb237 ≠ gb243)); have n10_ := Aside0.mk ((by rw [hg]; exact Nat.ne_of_gt (blk_lt (g := gb237) (o := .cells #[.int .i64 0, .slice none 0 0] 24 (0, 0)) (by (with_reducible repeat (first | refine blk_drewN ?_ _ | refine blk_drew ?_ | refine blk_alloc ?_ _)); exact BK237.out)) : gb243 ≠ gb237)); clear HO242; clear BK236; clear BK237; clear HB; have HO242 := n0_; have BK236 := n1_; have BK237 := n2_; have HB := n3_; have BK243 := n4_; have GW243 := n5_; have GE243 := n6_; have NB236_243 := n7_; have NB243_236 := n8_; have NB237_243 := n9_; have NB243_237 := n10_; clear n0_ n1_ n2_ n3_ n4_ n5_ n6_ n7_ n8_ n9_ n10_; clear hb hbox hg; have hnb25 := NB243_236.out; have hnc25 := NB236_243.out; have hnb26 := NB243_237.out; have hnc26 := NB237_243.out; have hcz27_0 : w24.cell? ⟨gb243, 0, none⟩ = some (.int .i64 0) := (blk_cell BK243.out 0).trans rfl; have hcz27_1 : w24.cell? ⟨gb243, 1, none⟩ = some (.slice none 0 0) := (blk_cell BK243.out 1).trans rfl; have hfz27_0 := blk_frozen BK243.out 0; have hfz27_1 := blk_frozen BK243.out 1; obtain ⟨Ao28, co28, eo28⟩ := Kd.R_slice HO242.out; subst eo28))
          go_loopg [12] kj6 (fun kq v12 w' => ∃ (x12_2 : Int) (x244001_2 : List Int) (u244001 : Value), v12 = .int .i64 x12_2 ∧ Aside0 (estoversref01_Fill.l0 kq a2 a3 x12_2 t239 x244001_2 = some (r1, r2, r3)) ∧ Aside0 (kq ≤ kj6) ∧ Aside0 (Kd.R (Kd.int .u64) 42 w' w.heap.size (fun _ => True) u244001 x244001_2) ∧ Aside0 (w'.heap[gb236]? = some (.cells #[.int .i64 a0_0, (.slice A0_1 l0_1.length c0_1)] 24 (0, 0))) ∧ Aside0 (w'.heap[gb237]? = some (.cells #[.int .i64 0, (.slice none 0 0)] 24 (0, 0))) ∧ Aside0 (w'.heap[gb243]? = some (.cells #[.int .i64 t239, u244001] 24 (0, 0))) ∧ Aside0 (Below w.heap.size w w'))
          case atStart => exact ⟨(a1), (t240), (.slice Ao28 t240.length co28), (by first | rfl | (simp; done) | (simp [*]; done)), H', ⟨Nat.le_refl _⟩, ⟨by (with_reducible repeat (first | apply Kd.R_alloc | apply Kd.R_drewN | apply Kd.R_drew)); exact Kd.R_mono (Kd.R_far (p := ⟨gb243, 1, none⟩) (Kd.R_far (p := ⟨gb243, 0, none⟩) (Kd.R_types HO242.out BK243.out (by decide)) (fun _ hk => hk.2) (.int .i64 t239)) (fun _ hk => hk.2) (.slice Ao28 t240.length co28)) (fun _ hk => trivial)⟩, ⟨by (with_reducible repeat (first | refine blk_drewN ?_ _ | refine blk_drew ?_ | refine blk_alloc ?_ _)); refine blk_far ?_ NB236_243.out _; (with_reducible repeat (first | refine blk_drewN ?_ _ | refine blk_drew ?_ | refine blk_alloc ?_ _)); refine blk_far ?_ NB236_243.out _; (with_reducible repeat (first | refine blk_drewN ?_ _ | refine blk_drew ?_ | refine blk_alloc ?_ _)); exact BK236.out⟩, ⟨by (with_reducible repeat (first | refine blk_drewN ?_ _ | refine blk_drew ?_ | refine blk_alloc ?_ _)); refine blk_far ?_ NB237_243.out _; (with_reducible repeat (first | refine blk_drewN ?_ _ | refine blk_drew ?_ | refine blk_alloc ?_ _)); refine blk_far ?_ NB237_243.out _; (with_reducible repeat (first | refine blk_drewN ?_ _ | refine blk_drew ?_ | refine blk_alloc ?_ _)); exact BK237.out⟩, ⟨by (with_reducible repeat (first | refine blk_drewN ?_ _ | refine blk_drew ?_ | refine blk_alloc ?_ _)); refine blk_put (cs := #[.int .i64 t239, .slice none 0 0]) ?_ 1 _ rfl; (with_reducible repeat (first | refine blk_drewN ?_ _ | refine blk_drew ?_ | refine blk_alloc ?_ _)); refine blk_put (cs := #[.int .i64 0, .slice none 0 0]) ?_ 0 _ rfl; (with_reducible repeat (first | refine blk_drewN ?_ _ | refine blk_drew ?_ | refine blk_alloc ?_ _)); exact BK243.out⟩, ⟨by repeat (first | (with_reducible first | exact HB.out | apply below_alloc | apply pw_below_drewN | apply below_drew1 | refine below_set ?_ GE236.out | refine below_set ?_ GE237.out | refine below_set ?_ GE243.out) | exact HB.out)⟩⟩
          case round =>
            clear H'
            try clear c1
            try clear c2
            try clear p2
            try clear c3
            try clear c6
            try clear c6b0
            try clear c6b1
            try clear c10
            try clear c13
            try clear c13b0
            try clear c14
            try clear c14b0
            try clear c15
            try clear c17
            try clear c18
            try clear c21
            try clear c22
            try clear c25
            try clear c26
            try clear hcz11_0
            try clear hcz11_1
            try clear hcz16_0
            try clear hcz16_1
            try clear hcz19_0
            try clear hcz19_1
            try clear hcz22_0
            try clear hcz22_1
            try clear hcz27_0
            try clear hcz27_1
            try clear hfz11_0
            try clear hfz11_1
            try clear hfz16_0
            try clear hfz16_1
            try clear hfz19_0
            try clear hfz19_1
            try clear hfz22_0
            try clear hfz22_1
            try clear hfz27_0
            try clear hfz27_1
            try clear p2
            obtain ⟨x12_2, x244001_2, u244001, rfl, HA, HK2, HO_244001, BK236, BK237, BK243, HB⟩ := hrel
            cases gk with
            | zero => exact absurd HA.out (by simp [estoversref01_Fill.l0])
            | succ k2 =>
              have H := HA.out
              clear HA
              simp only [estoversref01_Fill.l0] at H
              by_cases c29 : x12_2 < a2
              · rw [if_pos c29] at H
                have c29b0 : decide (x12_2 < a2) = true := decide_eq_true c29
                clear c29
                replace H := Option.bind_eq_some_iff.mp H
                obtain ⟨t244, A300, H⟩ := H
                replace H : (estoversref01_Fill.l0 k2 a2 a3 (wrap64 (x12_2 + 1)) t239 t244) = some (r1, r2, r3) := H
                have A30 := Aside0.mk A300
                clear A300
                have H' := Aside0.mk H
                clear H
                have hnb31 := NB243_236.out
                have hnc31 := NB236_243.out
                have hnb32 := NB243_237.out
                have hnc32 := NB237_243.out
                have hcz33_0 : wr.cell? ⟨gb243, 0, none⟩ = some (.int .i64 t239) := (blk_cell BK243.out 0).trans rfl
                have hcz33_1 : wr.cell? ⟨gb243, 1, none⟩ = some (u244001) := (blk_cell BK243.out 1).trans rfl
                have hfz33_0 := blk_frozen BK243.out 0
                have hfz33_1 := blk_frozen BK243.out 1
                obtain ⟨Ao34, co34, eo34⟩ := Kd.R_slice HO_244001.out
                subst eo34
                go_wp2_with (first | ((with_reducible refine gate_callee (f := 36) rfl ?_); refine goesL_ (some 44) rfl rfl Tryd.func36 (by kernel_rfl) rfl #[.agg #[.int .i64 t239, .slice Ao34 x244001_2.length co34], .int .i64 x12_2, .bool a3] rfl (by (try simp only [List.map_toArray, List.map_cons, List.map_nil]); first | done | rfl | (simp only [List.length_drop, List.length_take]; rfl)) ?_; (with_reducible refine (estoversref01_put.calls t239 (fun k_ => some k_ = (.slice Ao34 x244001_2.length co34 : Value).ownBlock) (.slice Ao34 x244001_2.length co34) x244001_2 x12_2 a3 t244 w _ ?side1 ?side2 A30.out).mono ?_); (case side1 => repeat (first | (with_reducible first | exact HB.out | apply below_alloc | apply pw_below_drewN | apply below_drew1 | refine below_set ?_ GE236.out | refine below_set ?_ GE237.out | refine below_set ?_ GE243.out) | exact HB.out)); (case side2 => exact Kd.R_tight rfl HO_244001.out); rintro e w35 ⟨rfl, hy0, hb, hkp⟩; refine ⟨_, rfl, ?_⟩; have n0_ := Aside0.mk (Kd.R_reok rfl hy0 (fun k_ e_ => HO_244001.out.1 k_ e_)); have n1_ := Aside0.mk (blk_kept (by (with_reducible repeat (first | refine blk_drewN ?_ _ | refine blk_drew ?_ | refine blk_alloc ?_ _)); exact BK236.out) hkp (fun hs_ => (fun e_ => (Kd.R_ne HO_244001.out BK236.out (by decide)) e_) hs_)); have n2_ := Aside0.mk (blk_kept (by (with_reducible repeat (first | refine blk_drewN ?_ _ | refine blk_drew ?_ | refine blk_alloc ?_ _)); exact BK237.out) hkp (fun hs_ => (fun e_ => (Kd.R_ne HO_244001.out BK237.out (by decide)) e_) hs_)); have n3_ := Aside0.mk (blk_kept (by (with_reducible repeat (first | refine blk_drewN ?_ _ | refine blk_drew ?_ | refine blk_alloc ?_ _)); exact BK243.out) hkp (fun hs_ => (fun e_ => (Kd.R_ne HO_244001.out BK243.out (by decide)) e_) hs_)); have n4_ := Aside0.mk (hb); clear HO_244001; clear BK236; clear BK237; clear BK243; clear HB; have HO_244001 := n0_; have BK236 := n1_; have BK237 := n2_; have BK243 := n3_; have HB := n4_; clear n0_ n1_ n2_ n3_ n4_; (try clear hb); (try clear hkp); (try clear hy0)))
                go_roundg k2
                case measure => have := HJ6.out; have := HK2.out; omega
                case rel => exact ⟨(wrap64 (x12_2 + 1)), (t244), (.slice Ao34 x244001_2.length co34), (by first | rfl | (simp; done) | (simp [*]; done)), H', ⟨by have := HJ6.out; have := HK2.out; omega⟩, ⟨by (with_reducible repeat (first | apply Kd.R_alloc | apply Kd.R_drewN | apply Kd.R_drew)); exact HO_244001.out⟩, ⟨by (with_reducible repeat (first | refine blk_drewN ?_ _ | refine blk_drew ?_ | refine blk_alloc ?_ _)); exact BK236.out⟩, ⟨by (with_reducible repeat (first | refine blk_drewN ?_ _ | refine blk_drew ?_ | refine blk_alloc ?_ _)); exact BK237.out⟩, ⟨by (with_reducible repeat (first | refine blk_drewN ?_ _ | refine blk_drew ?_ | refine blk_alloc ?_ _)); exact BK243.out⟩, ⟨by repeat (first | (with_reducible first | exact HB.out | apply below_alloc | apply pw_below_drewN | apply below_drew1 | refine below_set ?_ GE236.out | refine below_set ?_ GE237.out | refine below_set ?_ GE243.out) | exact HB.out)⟩⟩
              · rw [if_neg c29] at H
                have c29b0 : decide (x12_2 < a2) = false := decide_eq_false c29
                clear c29
                simp only [Option.some.injEq, Prod.mk.injEq] at H
                obtain ⟨rfl, rfl, rfl⟩ := H
                have hnb36 := NB243_236.out
                have hnc36 := NB236_243.out
                have hnb37 := NB243_237.out
                have hnc37 := NB237_243.out
                have hcz38_0 : wr.cell? ⟨gb243, 0, none⟩ = some (.int .i64 t239) := (blk_cell BK243.out 0).trans rfl
                have hcz38_1 : wr.cell? ⟨gb243, 1, none⟩ = some (u244001) := (blk_cell BK243.out 1).trans rfl
                have hfz38_0 := blk_frozen BK243.out 0
                have hfz38_1 := blk_frozen BK243.out 1
                have hnb39 := NB237_236.out
                have hnc39 := NB236_237.out
                have hcz40_0 : wr.cell? ⟨gb237, 0, none⟩ = some (.int .i64 0) := (blk_cell BK237.out 0).trans rfl
                have hcz40_1 : wr.cell? ⟨gb237, 1, none⟩ = some (.slice none 0 0) := (blk_cell BK237.out 1).trans rfl
                have hfz40_0 := blk_frozen BK237.out 0
                have hfz40_1 := blk_frozen BK237.out 1
                obtain ⟨Ao41, co41, eo41⟩ := Kd.R_slice HO_244001.out
                subst eo41
                go_wp2
                refine bodyPost_ret (results_ct rfl _ _ gb237 24 #[.int .i64 t239, .slice Ao41 x244001_2.length co41] (0, 0) _ rfl (by (with_reducible repeat (first | refine blk_drewN ?_ _ | refine blk_drew ?_ | refine blk_alloc ?_ _)); refine blk_put (cs := #[.int .i64 t239, .slice none 0 0]) ?_ 1 _ rfl; (with_reducible repeat (first | refine blk_drewN ?_ _ | refine blk_drew ?_ | refine blk_alloc ?_ _)); refine blk_put (cs := #[.int .i64 0, .slice none 0 0]) ?_ 0 _ rfl; (with_reducible repeat (first | refine blk_drewN ?_ _ | refine blk_drew ?_ | refine blk_alloc ?_ _)); exact BK237.out) Tryd.underlying24 rfl (by kernel_rfl)) rfl ?_
                exact ⟨_, by first | rfl | (simp [errW_none, errW_some] <;> rfl) | (simp [*, errW_none, errW_some] <;> rfl), by (with_reducible repeat (first | apply Kd.R_alloc | apply Kd.R_drewN | apply Kd.R_drew)); exact Kd.R_mono (Kd.R_far (p := ⟨gb237, 1, none⟩) (Kd.R_far (p := ⟨gb237, 0, none⟩) (Kd.R_types HO_244001.out BK237.out (by decide)) (fun _ hk => hk.2) (.int .i64 t239)) (fun _ hk => hk.2) (.slice Ao41 x244001_2.length co41)) (fun _ hk => trivial), by repeat (first | (with_reducible first | exact HB.out | apply below_alloc | apply pw_below_drewN | apply below_drew1 | refine below_set ?_ GE236.out | refine below_set ?_ GE237.out | refine below_set ?_ GE243.out) | exact HB.out)⟩
  · rw [if_neg c6] at H
    have c6b0 : (t238 == 0) = false := beq_eq_false_iff_ne.mpr c6
    have c6b1 : (t238 != 0) = true := bne_iff_ne.mpr c6
    simp only [Option.some.injEq, Prod.mk.injEq] at H
    obtain ⟨rfl, rfl, rfl⟩ := H
    go_enter Tryd.func22, Tryd.ntmps22
    go_wp2_with (first | ((with_reducible refine gate_dst (N := 4) rfl ?_); refine box_event ?hg (N := 4) ?hd (cs := #[.int .i64 a0_0, .slice A0_1 l0_1.length c0_1]) (t := 24) ?hr ?_; (case hd => rfl); (case hg => rfl); (case hr => first | (go_simp; done) | (go_simp; rfl)); intro gb236 hg w42 hbox hb; have n0_ := Aside0.mk (below_step (by repeat (first | (with_reducible first | exact HB.out | apply below_alloc | apply pw_below_drewN | apply below_drew1) | exact HB.out)) hb); have n1_ := Aside0.mk (hbox); have n2_ := Aside0.mk ((by rw [hg]; exact (below_size (by repeat (first | (with_reducible first | exact HB.out | apply below_alloc | apply pw_below_drewN | apply below_drew1) | exact HB.out))) : w.heap.size ≤ gb236)); have n3_ := Aside0.mk ((by rw [hg]; exact (below_size (by repeat (first | (with_reducible first | exact HB.out | apply below_alloc | apply pw_below_drewN | apply below_drew1) | exact HB.out))) : w.heap.size ≤ gb236)); clear HB; have HB := n0_; have BK236 := n1_; have GW236 := n2_; have GE236 := n3_; clear n0_ n1_ n2_ n3_; clear hb hbox hg) | ((with_reducible refine gate_dst (N := 8) rfl ?_); refine box_event ?hg (N := 8) ?hd (cs := #[.int .i64 0, .slice none 0 0]) (t := 24) ?hr ?_; (case hd => rfl); (case hg => rfl); (case hr => first | (go_simp; done) | (go_simp; rfl)); intro gb237 hg w43 hbox hb; have n0_ := Aside0.mk (blk_below (g := gb236) (o := .cells #[.int .i64 a0_0, .slice A0_1 l0_1.length c0_1] 24 (0, 0)) (by (with_reducible repeat (first | refine blk_drewN ?_ _ | refine blk_drew ?_ | refine blk_alloc ?_ _)); exact BK236.out) hb); have n1_ := Aside0.mk (below_step (by repeat (first | (with_reducible first | exact HB.out | apply below_alloc | apply pw_below_drewN | apply below_drew1 | refine below_set ?_ GE236.out) | exact HB.out)) hb); have n2_ := Aside0.mk (hbox); have n3_ := Aside0.mk ((by rw [hg]; exact (below_size (by repeat (first | (with_reducible first | exact HB.out | apply below_alloc | apply pw_below_drewN | apply below_drew1 | refine below_set ?_ GE236.out) | exact HB.out))) : w.heap.size ≤ gb237)); have n4_ := Aside0.mk ((by rw [hg]; exact (below_size (by repeat (first | (with_reducible first | exact HB.out | apply below_alloc | apply pw_below_drewN | apply below_drew1 | refine below_set ?_ GE236.out) | exact HB.out))) : w.heap.size ≤ gb237)); have n5_ := Aside0.mk ((by rw [hg]; exact Nat.ne_of_lt (blk_lt (g := gb236) (o := .cells #[.int .i64 a0_0, .slice A0_1 l0_1.length c0_1] 24 (0, 0)) (by (with_reducible repeat (first | refine blk_drewN ?_ _ | refine blk_drew ?_ | refine blk_alloc ?_ _)); exact BK236.out)) : gb236 ≠ gb237)); have n6_ := Aside0.mk ((by rw [hg]; exact Nat.ne_of_gt (blk_lt (g := gb236) (o := .cells #[.int .i64 a0_0, .slice A0_1 l0_1.length c0_1] 24 (0, 0)) (by (with_reducible repeat (first | refine blk_drewN ?_ _ | refine blk_drew ?_ | refine blk_alloc ?_ _)); exact BK236.out)) : gb237 ≠ gb236)); clear BK236; clear HB; have BK236 := n0_; have HB := n1_; have BK237 := n2_; have GW237 := n3_; have GE237 := n4_; have NB236_237 := n5_; have NB237_236 := n6_; clear n0_ n1_ n2_ n3_ n4_ n5_ n6_; clear hb hbox hg; have hnb44 := NB236_237.out; have hnc44 := NB237_236.out; have hcz45_0 : w43.cell? ⟨gb236, 0, none⟩ = some (.int .i64 a0_0) := (blk_cell BK236.out 0).trans rfl; have hcz45_1 : w43.cell? ⟨gb236, 1, none⟩ = some (.slice A0_1 l0_1.length c0_1) := (blk_cell BK236.out 1).trans rfl; have hfz45_0 := blk_frozen BK236.out 0; have hfz45_1 := blk_frozen BK236.out 1) | ((with_reducible refine gate_callee (f := 15) rfl ?_); refine goesL_ (some 14) rfl rfl Tryd.func15 (by kernel_rfl) rfl #[.agg #[.int .i64 a0_0, .slice A0_1 l0_1.length c0_1]] rfl (by (try simp only [List.map_toArray, List.map_cons, List.map_nil]); first | done | rfl | (simp only [List.length_drop, List.length_take]; rfl)) ?_; (with_reducible refine (estoversref01_Check.calls k a0_0 _ _ l0_1 t238 _ ?side1 ?side2 A5.out).mono ?_); (case side1 => repeat (first | exact (Kd.C_below HR0_1.out HB.out) | (with_reducible refine Kd.C_alloc ?_ _) | (with_reducible refine Kd.C_drewN ?_ _) | (with_reducible refine Kd.C_drew ?_))); (case side2 => exact HC0_1.out); rintro e w46 ⟨rfl, hb⟩; refine ⟨_, rfl, ?_⟩; have n0_ := Aside0.mk (blk_below (g := gb236) (o := .cells #[.int .i64 a0_0, .slice A0_1 l0_1.length c0_1] 24 (0, 0)) (by (with_reducible repeat (first | refine blk_drewN ?_ _ | refine blk_drew ?_ | refine blk_alloc ?_ _)); exact BK236.out) hb); have n1_ := Aside0.mk (blk_below (g := gb237) (o := .cells #[.int .i64 0, .slice none 0 0] 24 (0, 0)) (by (with_reducible repeat (first | refine blk_drewN ?_ _ | refine blk_drew ?_ | refine blk_alloc ?_ _)); exact BK237.out) hb); have n2_ := Aside0.mk (below_step (by repeat (first | (with_reducible first | exact HB.out | apply below_alloc | apply pw_below_drewN | apply below_drew1 | refine below_set ?_ GE236.out | refine below_set ?_ GE237.out) | exact HB.out)) hb); clear BK236; clear BK237; clear HB; have BK236 := n0_; have BK237 := n1_; have HB := n2_; clear n0_ n1_ n2_; (try clear hb); (try clear hb2); (try clear hk); (try clear hi); have hcz47_0 : w46.cell? ⟨gb237, 0, none⟩ = some (.int .i64 0) := (blk_cell BK237.out 0).trans rfl; have hcz47_1 : w46.cell? ⟨gb237, 1, none⟩ = some (.slice none 0 0) := (blk_cell BK237.out 1).trans rfl; have hfz47_0 := blk_frozen BK237.out 0; have hfz47_1 := blk_frozen BK237.out 1))
    refine bodyPost_ret (results_ct rfl _ _ gb237 24 #[.int .i64 0, .slice none 0 0] (0, 0) _ rfl (by (with_reducible repeat (first | refine blk_drewN ?_ _ | refine blk_drew ?_ | refine blk_alloc ?_ _)); refine blk_put (cs := #[.int .i64 0, .slice none 0 0]) ?_ 1 _ rfl; (with_reducible repeat (first | refine blk_drewN ?_ _ | refine blk_drew ?_ | refine blk_alloc ?_ _)); refine blk_put (cs := #[.int .i64 0, .slice none 0 0]) ?_ 0 _ rfl; (with_reducible repeat (first | refine blk_drewN ?_ _ | refine blk_drew ?_ | refine blk_alloc ?_ _)); exact BK237.out) Tryd.underlying24 rfl (by kernel_rfl)) rfl ?_
    exact ⟨_, by first | rfl | (simp [errW_none, errW_some] <;> rfl) | (simp [*, errW_none, errW_some] <;> rfl), by first | exact Kd.R_nil _ _ _ _ _ | exact Kd.N_nil _ _ _ _ _ | exact Kd.V_nil _ _ _ _ _ | exact Kd.Q_nil _ _ _ _ _ | exact Kd.S_nil _ _ _ _ _, by repeat (first | (with_reducible first | exact HB.out | apply below_alloc | apply pw_below_drewN | apply below_drew1 | refine below_set ?_ GE236.out | refine below_set ?_ GE237.out) | exact HB.out)⟩

end Go.Proofs.YtinhjcoikhpblaaDoor.Q
