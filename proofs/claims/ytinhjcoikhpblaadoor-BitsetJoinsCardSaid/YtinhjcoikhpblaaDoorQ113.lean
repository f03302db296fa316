-- Written by wip/stubprint.py for this claim. Lean checks it.
import Derived.Test.YtinhjcoikhpblaaDoorQ0
import Derived.Test.YtinhjcoikhpblaaDoorQ102
import Derived.Test.YtinhjcoikhpblaaDoorQ103
import Derived.Test.YtinhjcoikhpblaaDoorQ104
namespace Go.Proofs.YtinhjcoikhpblaaDoor.Q
open Go.RowKit Go.Proofs.YtinhjcoikhpblaaDoorW.PrintWords Go.Proofs.YtinhjcoikhpblaaDoorW.PrintLast Go.Proofs.YtinhjcoikhpblaaDoorW.PrintMore
attribute [local go_sem] max2_int min2_int max_two min_two max_three min_three max_four min_four
set_option linter.unusedVariables false
set_option linter.unusedSimpArgs false

/-! ### estoversref01_Not: function 32 -/
def estoversref01_Not.l0 : Nat → Int → Int → List Int → Int → List Int → Option (Int × List Int × Int)
  | 0, _, _, _, _, _ => none
  | k + 1, x6, x359000, x359001, x366000, x366001 => if x6 < x359000 then ((estoversref01_bit.f x359000 x359001 x6).bind fun t366 => ((estoversref01_put.f x366000 x366001 x6 (!t366)).bind fun t367 => (estoversref01_Not.l0 k (wrap64 (x6 + 1)) x359000 x359001 x366000 t367))) else (some (x366000, x366001, 0))
def estoversref01_Not.f (k : Nat) (a0_0 : Int) (l0_1 : List Int) : Option (Int × List Int × Int) := (estoversref01_Check.f k a0_0 l0_1).bind fun t360 => (if t360 = 0 then ((estoversref01_Copy.f k a0_0 l0_1).bind fun bt361 => (estoversref01_Not.l0 k 0 a0_0 l0_1 bt361.1 bt361.2)) else (some (0, ([] : List Int), t360)))
set_option maxHeartbeats 8000000 in
set_option maxRecDepth 100000 in
theorem estoversref01_Not.calls (k : Nat) (a0_0 : Int) (A0_1 : Option Addr) (c0_1 : Nat) (l0_1 : List Int) (r1 : Int) (r2 : List Int) (r3 : Int) (w : World) (hr0_1 : Kd.C (Kd.int .u64) w A0_1 l0_1.length l0_1) (hc0_1 : l0_1.length ≤ c0_1) (h : estoversref01_Not.f k a0_0 l0_1 = some (r1, r2, r3)) :
    Calls Tryd.prog 32 #[.agg #[.int .i64 a0_0, .slice A0_1 l0_1.length c0_1]] w fun e w' => ∃ v1_ : Value, e = .returned (.tuple #[.agg #[.int .i64 r1, v1_], .int .i64 r3]) ∧ Kd.R (Kd.int .u64) 42 w' w.heap.size (fun _ => True) v1_ r2 ∧ Below w.heap.size w w' := by
  have hu24 := Tryd.underlying24
  have HR0_1 := Aside0.mk hr0_1
  have HC0_1 := Aside0.mk hc0_1
  clear hr0_1 hc0_1
  have HB := Aside0.mk (Below.refl w.heap.size w)
  have H : ((estoversref01_Check.f k a0_0 l0_1).bind fun t360 => (if t360 = 0 then ((estoversref01_Copy.f k a0_0 l0_1).bind fun bt361 => (estoversref01_Not.l0 k 0 a0_0 l0_1 bt361.1 bt361.2)) else (some (0, ([] : List Int), t360)))) = some (r1, r2, r3) := h
  clear h
  replace H := Option.bind_eq_some_iff.mp H
  obtain ⟨t360, A20, H⟩ := H
  replace H : (if t360 = 0 then ((estoversref01_Copy.f k a0_0 l0_1).bind fun bt361 => (estoversref01_Not.l0 k 0 a0_0 l0_1 bt361.1 bt361.2)) else (some (0, ([] : List Int), t360))) = some (r1, r2, r3) := H
  have A2 := Aside0.mk A20
  clear A20
  by_cases c3 : t360 = 0
  · rw [if_pos c3] at H
    have c3b0 : (t360 == 0) = true := beq_iff_eq.mpr c3
    have c3b1 : (t360 != 0) = false := bne_eq_false_iff_eq.mpr c3
    clear c3
    replace H := Option.bind_eq_some_iff.mp H
    obtain ⟨⟨t361, t362⟩, A40, H⟩ := H
    replace H : (estoversref01_Not.l0 k 0 a0_0 l0_1 t361 t362) = some (r1, r2, r3) := H
    have A4 := Aside0.mk A40
    clear A40
    have H' := Aside0.mk H
    clear H
    go_enter Tryd.func32, Tryd.ntmps32
    go_wp2_with (first | ((with_reducible refine gate_dst (N := 1) rfl ?_); refine box_event ?hg (N := 1) ?hd (cs := #[.int .i64 a0_0, .slice A0_1 l0_1.length c0_1]) (t := 24) ?hr ?_; (case hd => rfl); (case hg => rfl); (case hr => first | (go_simp; done) | (go_simp; rfl)); intro gb358 hg w5 hbox hb; have n0_ := Aside0.mk (below_step (by repeat (first | (with_reducible first | exact HB.out | apply below_alloc | apply pw_below_drewN | apply below_drew1) | exact HB.out)) hb); have n1_ := Aside0.mk (hbox); have n2_ := Aside0.mk ((by rw [hg]; exact (below_size (by repeat (first | (with_reducible first | exact HB.out | apply below_alloc | apply pw_below_drewN | apply below_drew1) | exact HB.out))) : w.heap.size ≤ gb358)); have n3_ := Aside0.mk ((by rw [hg]; exact (below_size (by repeat (first | (with_reducible first | exact HB.out | apply below_alloc | apply pw_below_drewN | apply below_drew1) | exact HB.out))) : w.heap.size ≤ gb358)); clear HB; have HB := n0_; have BK358 := n1_; have GW358 := n2_; have GE358 := n3_; clear n0_ n1_ n2_ n3_; clear hb hbox hg) | ((with_reducible refine gate_dst (N := 2) rfl ?_); refine box_event ?hg (N := 2) ?hd (cs := #[.int .i64 0, .slice none 0 0]) (t := 24) ?hr ?_; (case hd => rfl); (case hg => rfl); (case hr => first | (go_simp; done) | (go_simp; rfl)); intro gb359 hg w6 hbox hb; have n0_ := Aside0.mk (blk_below (g := gb358) (o := .cells #[.int .i64 a0_0, .slice A0_1 l0_1.length c0_1] 24 (0, 0)) (by (with_reducible repeat (first | refine blk_drewN ?_ _ | refine blk_drew ?_ | refine blk_alloc ?_ _)); exact BK358.out) hb); have n1_ := Aside0.mk (below_step (by repeat (first | (with_reducible first | exact HB.out | apply below_alloc | apply pw_below_drewN | apply below_drew1 | refine below_set ?_ GE358.out) | exact HB.out)) hb); have n2_ := Aside0.mk (hbox); have n3_ := Aside0.mk ((by rw [hg]; exact (below_size (by repeat (first | (with_reducible first | exact HB.out | apply below_alloc | apply pw_below_drewN | apply below_drew1 | refine below_set ?_ GE358.out) | exact HB.out))) : w.heap.size ≤ gb359)); have n4_ := Aside0.mk ((by rw [hg]; exact (below_size (by repeat (first | (with_reducible first | exact HB.out | apply below_alloc | apply pw_below_drewN | apply below_drew1 | refine below_set ?_ GE358.out) | exact HB.out))) : w.heap.size ≤ gb359)); have n5_ := Aside0.mk ((by rw [hg]; exact Nat.ne_of_lt (blk_lt (g := gb358) (o := .cells #[.int .i64 a0_0, .slice A0_1 l0_1.length c0_1] 24 (0, 0)) (by (with_reducible repeat (first | refine blk_drewN ?_ _ | refine blk_drew ?_ | refine blk_alloc ?_ _)); exact BK358.out)) : gb358 ≠ gb359)); have n6_ := Aside0.mk ((by rw [hg]; exact Nat.ne_of_gt (blk_lt (g := gb358) (o := .cells #[.int .i64 a0_0, .slice A0_1 l0_1.length c0_1] 24 (0, 0)) (by (with_reducible repeat (first | refine blk_drewN ?_ _ | refine blk_drew ?_ | refine blk_alloc ?_ _)); exact BK358.out)) : gb359 ≠ gb358)); clear BK358; clear HB; have BK358 := n0_; have HB := n1_; have BK359 := n2_; have GW359 := n3_; have GE359 := n4_; have NB358_359 := n5_; have NB359_358 := n6_; clear n0_ n1_ n2_ n3_ n4_ n5_ n6_; clear hb hbox hg; have hnb7 := NB358_359.out; have hnc7 := NB359_358.out; have hcz8_0 : w6.cell? ⟨gb358, 0, none⟩ = some (.int .i64 a0_0) := (blk_cell BK358.out 0).trans rfl; have hcz8_1 : w6.cell? ⟨gb358, 1, none⟩ = some (.slice A0_1 l0_1.length c0_1) := (blk_cell BK358.out 1).trans rfl; have hfz8_0 := blk_frozen BK358.out 0; have hfz8_1 := blk_frozen BK358.out 1) | ((with_reducible refine gate_callee (f := 15) rfl ?_); refine goesL_ (some 8) rfl rfl Tryd.func15 (by kernel_rfl) rfl #[.agg #[.int .i64 a0_0, .slice A0_1 l0_1.length c0_1]] rfl (by (try simp only [List.map_toArray, List.map_cons, List.map_nil]); first | done | rfl | (simp only [List.length_drop, List.length_take]; rfl)) ?_; (with_reducible refine (estoversref01_Check.calls k a0_0 _ _ l0_1 t360 _ ?side1 ?side2 A2.out).mono ?_); (case side1 => repeat (first | exact (Kd.C_below HR0_1.out HB.out) | (with_reducible refine Kd.C_alloc ?_ _) | (with_reducible refine Kd.C_drewN ?_ _) | (with_reducible refine Kd.C_drew ?_))); (case side2 => exact HC0_1.out); rintro e w9 ⟨rfl, hb⟩; refine ⟨_, rfl, ?_⟩; have n0_ := Aside0.mk (blk_below (g := gb358) (o := .cells #[.int .i64 a0_0, .slice A0_1 l0_1.length c0_1] 24 (0, 0)) (by (with_reducible repeat (first | refine blk_drewN ?_ _ | refine blk_drew ?_ | refine blk_alloc ?_ _)); exact BK358.out) hb); have n1_ := Aside0.mk (blk_below (g := gb359) (o := .cells #[.int .i64 0, .slice none 0 0] 24 (0, 0)) (by (with_reducible repeat (first | refine blk_drewN ?_ _ | refine blk_drew ?_ | refine blk_alloc ?_ _)); exact BK359.out) hb); have n2_ := Aside0.mk (below_step (by repeat (first | (with_reducible first | exact HB.out | apply below_alloc | apply pw_below_drewN | apply below_drew1 | refine below_set ?_ GE358.out | refine below_set ?_ GE359.out) | exact HB.out)) hb); clear BK358; clear BK359; clear HB; have BK358 := n0_; have BK359 := n1_; have HB := n2_; clear n0_ n1_ n2_; (try clear hb); (try clear hb2); (try clear hk); (try clear hi); have hcz10_0 : w9.cell? ⟨gb358, 0, none⟩ = some (.int .i64 a0_0) := (blk_cell BK358.out 0).trans rfl; have hcz10_1 : w9.cell? ⟨gb358, 1, none⟩ = some (.slice A0_1 l0_1.length c0_1) := (blk_cell BK358.out 1).trans rfl; have hfz10_0 := blk_frozen BK358.out 0; have hfz10_1 := blk_frozen BK358.out 1) | ((with_reducible refine gate_callee (f := 35) rfl ?_); refine goesL_ (some 14) rfl rfl Tryd.func35 (by kernel_rfl) rfl #[.agg #[.int .i64 a0_0, .slice A0_1 l0_1.length c0_1]] rfl (by (try simp only [List.map_toArray, List.map_cons, List.map_nil]); first | done | rfl | (simp only [List.length_drop, List.length_take]; rfl)) ?_; (with_reducible refine (estoversref01_Copy.calls k a0_0 _ _ l0_1 t361 t362 _ ?side1 ?side2 A4.out).mono ?_); (case side1 => repeat (first | exact (Kd.C_below HR0_1.out HB.out) | (with_reducible refine Kd.C_alloc ?_ _) | (with_reducible refine Kd.C_drewN ?_ _) | (with_reducible refine Kd.C_drew ?_))); (case side2 => exact HC0_1.out); rintro e w11 ⟨v363, rfl, ho0, hb⟩; refine ⟨_, rfl, ?_⟩; have n0_ := Aside0.mk (Kd.R_lower ho0 (below_size (by repeat (first | (with_reducible first | exact HB.out | apply below_alloc | apply pw_below_drewN | apply below_drew1 | refine below_set ?_ GE358.out | refine below_set ?_ GE359.out) | exact HB.out)))); have n1_ := Aside0.mk (blk_below (g := gb358) (o := .cells #[.int .i64 a0_0, .slice A0_1 l0_1.length c0_1] 24 (0, 0)) (by (with_reducible repeat (first | refine blk_drewN ?_ _ | refine blk_drew ?_ | refine blk_alloc ?_ _)); exact BK358.out) hb); have n2_ := Aside0.mk (blk_below (g := gb359) (o := .cells #[.int .i64 0, .slice none 0 0] 24 (0, 0)) (by (with_reducible repeat (first | refine blk_drewN ?_ _ | refine blk_drew ?_ | refine blk_alloc ?_ _)); exact BK359.out) hb); have n3_ := Aside0.mk (below_step (by repeat (first | (with_reducible first | exact HB.out | apply below_alloc | apply pw_below_drewN | apply below_drew1 | refine below_set ?_ GE358.out | refine below_set ?_ GE359.out) | exact HB.out)) hb); clear BK358; clear BK359; clear HB; have HO364 := n0_; have BK358 := n1_; have BK359 := n2_; have HB := n3_; clear n0_ n1_ n2_ n3_; (try clear hb); (try clear hb2); (try clear hk); (try clear hi); (try clear ho0)) | ((with_reducible refine gate_dst (N := 5) rfl ?_); refine box_event ?hg (N := 5) ?hd (cs := #[.int .i64 0, .slice none 0 0]) (t := 24) ?hr ?_; (case hd => rfl); (case hg => rfl); (case hr => first | (go_simp; done) | (go_simp; rfl)); intro gb365 hg w12 hbox hb; have n0_ := Aside0.mk (Kd.R_below (by (with_reducible repeat (first | apply Kd.R_alloc | apply Kd.R_drewN | apply Kd.R_drew)); exact HO364.out) hb); have n1_ := Aside0.mk (blk_below (g := gb358) (o := .cells #[.int .i64 a0_0, .slice A0_1 l0_1.length c0_1] 24 (0, 0)) (by (with_reducible repeat (first | refine blk_drewN ?_ _ | refine blk_drew ?_ | refine blk_alloc ?_ _)); exact BK358.out) hb); have n2_ := Aside0.mk (blk_below (g := gb359) (o := .cells #[.int .i64 0, .slice none 0 0] 24 (0, 0)) (by (with_reducible repeat (first | refine blk_drewN ?_ _ | refine blk_drew ?_ | refine blk_alloc ?_ _)); exact BK359.out) hb); have n3_ := Aside0.mk (below_step (by repeat (first | (with_reducible first | exact HB.out | apply below_alloc | apply pw_below_drewN | apply below_drew1 | refine below_set ?_ GE358.out | refine below_set ?_ GE359.out) | exact HB.out)) hb); have n4_ := Aside0.mk (hbox); have n5_ := Aside0.mk ((by rw [hg]; exact (below_size (by repeat (first | (with_reducible first | exact HB.out | apply below_alloc | apply pw_below_drewN | apply below_drew1 | refine below_set ?_ GE358.out | refine below_set ?_ GE359.out) | exact HB.out))) : w.heap.size ≤ gb365)); have n6_ := Aside0.mk ((by rw [hg]; exact (below_size (by repeat (first | (with_reducible first | exact HB.out | apply below_alloc | apply pw_below_drewN | apply below_drew1 | refine below_set ?_ GE358.out | refine below_set ?_ GE359.out) | exact HB.out))) : w.heap.size ≤ gb365)); have n7_ := Aside0.mk ((by rw [hg]; exact Nat.ne_of_lt (blk_lt (g := gb358) (o := .cells #[.int .i64 a0_0, .slice A0_1 l0_1.length c0_1] 24 (0, 0)) (by (with_reducible repeat (first | refine blk_drewN ?_ _ | refine blk_drew ?_ | refine blk_alloc ?_ _)); exact BK358.out)) : gb358 ≠ gb365)); have n8_ := Aside0.mk ((by rw [hg]; exact Nat.ne_of_gt (blk_lt (g := gb358) (o := .cells #[.int .i64 a0_0, .slice A0_1 l0_1.length c0_1] 24 (0, 0)) (by (with_reducible repeat (first | refine blk_drewN ?_ _ | refine blk_drew ?_ | refine blk_alloc ?_ _)); exact BK358.out)) : gb365 ≠ gb358)); have n9_ := Aside0.mk ((by rw [hg]; exact Nat.ne_of_lt (blk_lt (g := gb359) (o := .cells #[.int .i64 0, .slice none 0 0] 24 (0, 0)) (by (with_reducible repeat (first | refine blk_drewN ?_ _ | refine blk_drew ?_ | refine blk_alloc ?_ _)); exact BK359.out)) : gb359 ≠ gb365)); have n10_ := Aside0.mk ((by rw [hg]; exact Nat.ne_of_gt (blk_lt (g := gb359) (o := .cells #[.int .i64 0, .slice none 0 0] 24 (0, 0)) (by (with_reducible repeat (first | refine blk_drewN ?_ _ | refine blk_drew ?_ | refine blk_alloc ?_ _)); exact BK359.out)) : gb365 ≠ gb359)); clear HO364; clear BK358; clear BK359; clear HB; have HO364 := n0_; have BK358 := n1_; have BK359 := n2_; have HB := n3_; have BK365 := n4_; have GW365 := n5_; have GE365 := n6_; have NB358_365 := n7_; have NB365_358 := n8_; have NB359_365 := n9_; have NB365_359 := n10_; clear n0_ n1_ n2_ n3_ n4_ n5_ n6_ n7_ n8_ n9_ n10_; clear hb hbox hg; have hnb13 := NB365_358.out; have hnc13 := NB358_365.out; have hnb14 := NB365_359.out; have hnc14 := NB359_365.out; have hcz15_0 : w12.cell? ⟨gb365, 0, none⟩ = some (.int .i64 0) := (blk_cell BK365.out 0).trans rfl; have hcz15_1 : w12.cell? ⟨gb365, 1, none⟩ = some (.slice none 0 0) := (blk_cell BK365.out 1).trans rfl; have hfz15_0 := blk_frozen BK365.out 0; have hfz15_1 := blk_frozen BK365.out 1; obtain ⟨Ao16, co16, eo16⟩ := Kd.R_slice HO364.out; subst eo16))
    go_loopg [6] k (fun kq v6 w' => ∃ (x6_1 : Int) (x366001_1 : List Int) (u366001 : Value), v6 = .int .i64 x6_1 ∧ Aside0 (estoversref01_Not.l0 kq x6_1 a0_0 l0_1 t361 x366001_1 = some (r1, r2, r3)) ∧ Aside0 (kq ≤ k) ∧ Aside0 (Kd.R (Kd.int .u64) 42 w' w.heap.size (fun _ => True) u366001 x366001_1) ∧ Aside0 (w'.heap[gb358]? = some (.cells #[.int .i64 a0_0, (.slice A0_1 l0_1.length c0_1)] 24 (0, 0))) ∧ Aside0 (w'.heap[gb359]? = some (.cells #[.int .i64 0, (.slice none 0 0)] 24 (0, 0))) ∧ Aside0 (w'.heap[gb365]? = some (.cells #[.int .i64 t361, u366001] 24 (0, 0))) ∧ Aside0 (Below w.heap.size w w'))
    case atStart => exact ⟨(0), (t362), (.slice Ao16 t362.length co16), (by first | rfl | (simp; done) | (simp [*]; done)), H', ⟨Nat.le_refl _⟩, ⟨by (with_reducible repeat (first | apply Kd.R_alloc | apply Kd.R_drewN | apply Kd.R_drew)); exact Kd.R_mono (Kd.R_far (p := ⟨gb365, 1, none⟩) (Kd.R_far (p := ⟨gb365, 0, none⟩) (Kd.R_types HO364.out BK365.out (by decide)) (fun _ hk => hk.2) (.int .i64 t361)) (fun _ hk => hk.2) (.slice Ao16 t362.length co16)) (fun _ hk => trivial)⟩, ⟨by (with_reducible repeat (first | refine blk_drewN ?_ _ | refine blk_drew ?_ | refine blk_alloc ?_ _)); refine blk_far ?_ NB358_365.out _; (with_reducible repeat (first | refine blk_drewN ?_ _ | refine blk_drew ?_ | refine blk_alloc ?_ _)); refine blk_far ?_ NB358_365.out _; (with_reducible repeat (first | refine blk_drewN ?_ _ | refine blk_drew ?_ | refine blk_alloc ?_ _)); exact BK358.out⟩, ⟨by (with_reducible repeat (first | refine blk_drewN ?_ _ | refine blk_drew ?_ | refine blk_alloc ?_ _)); refine blk_far ?_ NB359_365.out _; (with_reducible repeat (first | refine blk_drewN ?_ _ | refine blk_drew ?_ | refine blk_alloc ?_ _)); refine blk_far ?_ NB359_365.out _; (with_reducible repeat (first | refine blk_drewN ?_ _ | refine blk_drew ?_ | refine blk_alloc ?_ _)); exact BK359.out⟩, ⟨by (with_reducible repeat (first | refine blk_drewN ?_ _ | refine blk_drew ?_ | refine blk_alloc ?_ _)); refine blk_put (cs := #[.int .i64 t361, .slice none 0 0]) ?_ 1 _ rfl; (with_reducible repeat (first | refine blk_drewN ?_ _ | refine blk_drew ?_ | refine blk_alloc ?_ _)); refine blk_put (cs := #[.int .i64 0, .slice none 0 0]) ?_ 0 _ rfl; (with_reducible repeat (first | refine blk_drewN ?_ _ | refine blk_drew ?_ | refine blk_alloc ?_ _)); exact BK365.out⟩, ⟨by repeat (first | (with_reducible first | exact HB.out | apply below_alloc | apply pw_below_drewN | apply below_drew1 | refine below_set ?_ GE358.out | refine below_set ?_ GE359.out | refine below_set ?_ GE365.out) | exact HB.out)⟩⟩
    case round =>
      clear H'
      try clear c1
      try clear p2
      try clear c3
      try clear c3b0
      try clear c3b1
      try clear c7
      try clear c13
      try clear c14
      try clear c15
      try clear hcz10_0
      try clear hcz10_1
      try clear hcz15_0
      try clear hcz15_1
      try clear hcz8_0
      try clear hcz8_1
      try clear hfz10_0
      try clear hfz10_1
      try clear hfz15_0
      try clear hfz15_1
      try clear hfz8_0
      try clear hfz8_1
      obtain ⟨x6_1, x366001_1, u366001, rfl, HA, HK1, HO_366001, BK358, BK359, BK365, HB⟩ := hrel
      cases gk with
      | zero => exact absurd HA.out (by simp [estoversref01_Not.l0])
      | succ k1 =>
        have H := HA.out
        clear HA
        simp only [estoversref01_Not.l0] at H
        by_cases c17 : x6_1 < a0_0
        · rw [if_pos c17] at H
          have c17b0 : decide (x6_1 < a0_0) = true := decide_eq_true c17
          clear c17
          replace H := Option.bind_eq_some_iff.mp H
          obtain ⟨t366, A180, H⟩ := H
          replace H : ((estoversref01_put.f t361 x366001_1 x6_1 (!t366)).bind fun t367 => (estoversref01_Not.l0 k1 (wrap64 (x6_1 + 1)) a0_0 l0_1 t361 t367)) = some (r1, r2, r3) := H
          have A18 := Aside0.mk A180
          clear A180
          replace H := Option.bind_eq_some_iff.mp H
          obtain ⟨t367, A190, H⟩ := H
          replace H : (estoversref01_Not.l0 k1 (wrap64 (x6_1 + 1)) a0_0 l0_1 t361 t367) = some (r1, r2, r3) := H
          have A19 := Aside0.mk A190
          clear A190
          have H' := Aside0.mk H
          clear H
          have hnb20 := NB358_359.out
          have hnc20 := NB359_358.out
          have hnb21 := NB358_365.out
          have hnc21 := NB365_358.out
          have hcz22_0 : wr.cell? ⟨gb358, 0, none⟩ = some (.int .i64 a0_0) := (blk_cell BK358.out 0).trans rfl
          have hcz22_1 : wr.cell? ⟨gb358, 1, none⟩ = some (.slice A0_1 l0_1.length c0_1) := (blk_cell BK358.out 1).trans rfl
          have hfz22_0 := blk_frozen BK358.out 0
          have hfz22_1 := blk_frozen BK358.out 1
          try go_wp2
          have n0_ := Aside0.mk (Kd.R_drew HO_366001.out)
          have n1_ := Aside0.mk (blk_drew BK358.out)
          have n2_ := Aside0.mk (blk_drew BK359.out)
          have n3_ := Aside0.mk (blk_drew BK365.out)
          have n4_ := Aside0.mk (below_drew1 HB.out)
          clear HO_366001
          clear BK358
          clear BK359
          clear BK365
          clear HB
          have HO_366001 := n0_
          have BK358 := n1_
          have BK359 := n2_
          have BK365 := n3_
          have HB := n4_
          clear n0_ n1_ n2_ n3_ n4_
          refine start_ (n := 7) (S := fun w' => w'.cell? ⟨gb365, 0, none⟩ = some (.int .i64 t361) ∧ w'.cell? ⟨gb365, 1, none⟩ = some (u366001) ∧ w'.cell? ⟨gb358, 0, none⟩ = some (.int .i64 a0_0) ∧ w'.cell? ⟨gb358, 1, none⟩ = some (.slice A0_1 l0_1.length c0_1)) (ds := []) #[false, false, false, false, false, false, false] (by kernel_rfl) rfl rfl ⟨(blk_cell BK365.out 0).trans rfl, (blk_cell BK365.out 1).trans rfl, (blk_cell BK358.out 0).trans rfl, (blk_cell BK358.out 1).trans rfl⟩ (fun hHeld => ?_)
          generalize wr.drew = w23 at HO_366001 BK358 BK359 BK365 HB hHeld ⊢
          refine pure_ (i := 1) (N := some 22) (v := ?_) (a' := ?_) #[false, true, false, false, false, false, false] rfl rfl (by kernel_rfl) (fun _ _ _ h => h) (Or.inl ⟨by rfl, ?_⟩) ?_ ?_
          rotate_left
          · intro w'
            go_simp
            with_reducible rfl
          rotate_left
          · simp only [Act.put, List.setIfInBounds_toArray, List.set_cons_zero, List.set_cons_succ, i64_w, i32_w]
            rfl
          refine pure_ (i := 3) (N := some 24) (v := ?_) (a' := ?_) #[false, true, false, true, false, false, false] rfl rfl (by kernel_rfl) (fun _ _ _ h => h) (Or.inl ⟨by rfl, ?_⟩) ?_ ?_
          rotate_left
          · intro w'
            go_simp
            with_reducible rfl
          rotate_left
          · simp only [Act.put, List.setIfInBounds_toArray, List.set_cons_zero, List.set_cons_succ, i64_w, i32_w]
            rfl
          refine take_ (i := 0) (N := some 21) (v := ?_) (a' := ?_) #[true, true, false, true, false, false, false] rfl rfl (by kernel_rfl) (fun _ _ _ h => h) (Or.inl ⟨by rfl, ?_⟩) hHeld ?_ ?_
          rotate_left
          · rintro w' ⟨s0, s1, s2, s3⟩
            go_simp
            with_reducible rfl
          rotate_left
          · simp only [Act.put, List.setIfInBounds_toArray, List.set_cons_zero, List.set_cons_succ, i64_w, i32_w]
            rfl
          refine take_ (i := 2) (N := some 23) (v := ?_) (a' := ?_) #[true, true, true, true, false, false, false] rfl rfl (by kernel_rfl) (fun _ _ _ h => h) (Or.inl ⟨by rfl, ?_⟩) hHeld ?_ ?_
          rotate_left
          · rintro w' ⟨s0, s1, s2, s3⟩
            go_simp
            with_reducible rfl
          rotate_left
          · simp only [Act.put, List.setIfInBounds_toArray, List.set_cons_zero, List.set_cons_succ, i64_w, i32_w]
            rfl
          refine one_ (i := 4) (N := some 25) #[true, true, true, true, true, false, false] rfl rfl (by kernel_rfl) (by decide) (fun K hK => ?_)
          refine goes_ Tryd.func34 (by kernel_rfl) rfl #[.agg #[.int .i64 a0_0, .slice A0_1 l0_1.length c0_1], .int .i64 x6_1] (by rfl) rfl rfl (by (try simp only [List.map_toArray, List.map_cons, List.map_nil]); first | done | rfl | (simp only [List.length_drop, List.length_take]; rfl)) ?_
          with_reducible refine (estoversref01_bit.calls a0_0 _ _ l0_1 x6_1 t366 _ ?side1 ?side2 A18.out).mono ?_
          (case side1 => repeat (first | exact (Kd.C_below HR0_1.out HB.out) | (with_reducible refine Kd.C_alloc ?_ _) | (with_reducible refine Kd.C_drewN ?_ _) | (with_reducible refine Kd.C_drew ?_)))
          (case side2 => exact HC0_1.out)
          rintro e w24 ⟨rfl, hb⟩
          refine ⟨_, rfl, ?_⟩
          have n0_ := Aside0.mk (Kd.R_below (by (with_reducible repeat (first | apply Kd.R_alloc | apply Kd.R_drewN | apply Kd.R_drew)); exact HO_366001.out) hb)
          have n1_ := Aside0.mk (blk_below (g := gb358) (o := .cells #[.int .i64 a0_0, .slice A0_1 l0_1.length c0_1] 24 (0, 0)) (by (with_reducible repeat (first | refine blk_drewN ?_ _ | refine blk_drew ?_ | refine blk_alloc ?_ _)); exact BK358.out) hb)
          have n2_ := Aside0.mk (blk_below (g := gb359) (o := .cells #[.int .i64 0, .slice none 0 0] 24 (0, 0)) (by (with_reducible repeat (first | refine blk_drewN ?_ _ | refine blk_drew ?_ | refine blk_alloc ?_ _)); exact BK359.out) hb)
          have n3_ := Aside0.mk (blk_below (g := gb365) (o := .cells #[.int .i64 t361, u366001] 24 (0, 0)) (by (with_reducible repeat (first | refine blk_drewN ?_ _ | refine blk_drew ?_ | refine blk_alloc ?_ _)); exact BK365.out) hb)
          have n4_ := Aside0.mk (below_step (by repeat (first | (with_reducible first | exact HB.out | apply below_alloc | apply pw_below_drewN | apply below_drew1 | refine below_set ?_ GE358.out | refine below_set ?_ GE359.out | refine below_set ?_ GE365.out) | exact HB.out)) hb)
          clear HO_366001
          clear BK358
          clear BK359
          clear BK365
          clear HB
          have HO_366001 := n0_
          have BK358 := n1_
          have BK359 := n2_
          have BK365 := n3_
          have HB := n4_
          clear n0_ n1_ n2_ n3_ n4_
          (try clear hb)
          (try clear hb2)
          (try clear hk)
          (try clear hi)
          obtain ⟨Ao25, co25, eo25⟩ := Kd.R_slice HO_366001.out
          (first | subst eo25 | (injection eo25 with f1_ f2_ f3_; have f4_ := f1_.symm; have f5_ := f3_.symm; clear f1_ f2_ f3_; subst f4_; subst f5_))
          refine hK.out _ _ ⟨(blk_cell BK365.out 0).trans rfl, (blk_cell BK365.out 1).trans rfl, (blk_cell BK358.out 0).trans rfl, (blk_cell BK358.out 1).trans rfl⟩ (fun hHeld => ?_)
          clear hK K
          refine norm_ (a' := ?_) ?_ ?_
          rotate_left
          · show Act.put _ (some 25) _ = _
            simp only [Act.put, List.setIfInBounds_toArray, List.set_cons_zero, List.set_cons_succ, i64_w, i32_w]
            rfl
          refine pure_ (i := 5) (N := some 26) (v := ?_) (a' := ?_) #[true, true, true, true, true, true, false] rfl rfl (by kernel_rfl) (fun _ _ _ h => h) (Or.inl ⟨by rfl, ?_⟩) ?_ ?_
          rotate_left
          · intro w'
            go_simp
            with_reducible rfl
          rotate_left
          · simp only [Act.put, List.setIfInBounds_toArray, List.set_cons_zero, List.set_cons_succ, i64_w, i32_w]
            rfl
          refine one_ (i := 6) (N := some 27) #[true, true, true, true, true, true, true] rfl rfl (by kernel_rfl) (by decide) (fun K hK => ?_)
          refine goes_ Tryd.func36 (by kernel_rfl) rfl #[.agg #[.int .i64 t361, .slice Ao25 x366001_1.length co25], .int .i64 x6_1, .bool (!t366)] (by rfl) rfl rfl (by (try simp only [List.map_toArray, List.map_cons, List.map_nil]); first | done | rfl | (simp only [List.length_drop, List.length_take]; rfl)) ?_
          with_reducible refine (estoversref01_put.calls t361 (fun k_ => some k_ = (.slice Ao25 x366001_1.length co25 : Value).ownBlock) (.slice Ao25 x366001_1.length co25) x366001_1 x6_1 (!t366) t367 w _ ?side1 ?side2 A19.out).mono ?_
          (case side1 => repeat (first | (with_reducible first | exact HB.out | apply below_alloc | apply pw_below_drewN | apply below_drew1 | refine below_set ?_ GE358.out | refine below_set ?_ GE359.out | refine below_set ?_ GE365.out) | exact HB.out))
          (case side2 => exact Kd.R_tight rfl HO_366001.out)
          rintro e w26 ⟨rfl, hy0, hb, hkp⟩
          refine ⟨_, rfl, ?_⟩
          have n0_ := Aside0.mk (Kd.R_reok rfl hy0 (fun k_ e_ => HO_366001.out.1 k_ e_))
          have n1_ := Aside0.mk (blk_kept (by (with_reducible repeat (first | refine blk_drewN ?_ _ | refine blk_drew ?_ | refine blk_alloc ?_ _)); exact BK358.out) hkp (fun hs_ => (fun e_ => (Kd.R_ne HO_366001.out BK358.out (by decide)) e_) hs_))
          have n2_ := Aside0.mk (blk_kept (by (with_reducible repeat (first | refine blk_drewN ?_ _ | refine blk_drew ?_ | refine blk_alloc ?_ _)); exact BK359.out) hkp (fun hs_ => (fun e_ => (Kd.R_ne HO_366001.out BK359.out (by decide)) e_) hs_))
          have n3_ := Aside0.mk (blk_kept (by (with_reducible repeat (first | refine blk_drewN ?_ _ | refine blk_drew ?_ | refine blk_alloc ?_ _)); exact BK365.out) hkp (fun hs_ => (fun e_ => (Kd.R_ne HO_366001.out BK365.out (by decide)) e_) hs_))
          have n4_ := Aside0.mk (hb)
          clear HO_366001
          clear BK358
          clear BK359
          clear BK365
          clear HB
          have HO_366001 := n0_
          have BK358 := n1_
          have BK359 := n2_
          have BK365 := n3_
          have HB := n4_
          clear n0_ n1_ n2_ n3_ n4_
          (try clear hb)
          (try clear hkp)
          (try clear hy0)
          refine hK.out _ _ ⟨(blk_cell BK365.out 0).trans rfl, (blk_cell BK365.out 1).trans rfl, (blk_cell BK358.out 0).trans rfl, (blk_cell BK358.out 1).trans rfl⟩ (fun hHeld => ?_)
          clear hK K
          refine norm_ (a' := ?_) ?_ ?_
          rotate_left
          · show Act.put _ (some 27) _ = _
            simp only [Act.put, List.setIfInBounds_toArray, List.set_cons_zero, List.set_cons_succ, i64_w, i32_w]
            rfl
          refine done_ (by kernel_rfl) ?_
          try go_wp2
          go_roundg k1
          case measure => have := HK1.out; omega
          case rel => exact ⟨(wrap64 (x6_1 + 1)), (t367), (.slice Ao25 x366001_1.length co25), (by first | rfl | (simp; done) | (simp [*]; done)), H', ⟨by have := HK1.out; omega⟩, ⟨by (with_reducible repeat (first | apply Kd.R_alloc | apply Kd.R_drewN | apply Kd.R_drew)); exact HO_366001.out⟩, ⟨by (with_reducible repeat (first | refine blk_drewN ?_ _ | refine blk_drew ?_ | refine blk_alloc ?_ _)); exact BK358.out⟩, ⟨by (with_reducible repeat (first | refine blk_drewN ?_ _ | refine blk_drew ?_ | refine blk_alloc ?_ _)); exact BK359.out⟩, ⟨by (with_reducible repeat (first | refine blk_drewN ?_ _ | refine blk_drew ?_ | refine blk_alloc ?_ _)); exact BK365.out⟩, ⟨by repeat (first | (with_reducible first | exact HB.out | apply below_alloc | apply pw_below_drewN | apply below_drew1 | refine below_set ?_ GE358.out | refine below_set ?_ GE359.out | refine below_set ?_ GE365.out) | exact HB.out)⟩⟩
        · rw [if_neg c17] at H
          have c17b0 : decide (x6_1 < a0_0) = false := decide_eq_false c17
          clear c17
          simp only [Option.some.injEq, Prod.mk.injEq] at H
          obtain ⟨rfl, rfl, rfl⟩ := H
          have hnb27 := NB358_359.out
          have hnc27 := NB359_358.out
          have hnb28 := NB358_365.out
          have hnc28 := NB365_358.out
          have hcz29_0 : wr.cell? ⟨gb358, 0, none⟩ = some (.int .i64 a0_0) := (blk_cell BK358.out 0).trans rfl
          have hcz29_1 : wr.cell? ⟨gb358, 1, none⟩ = some (.slice A0_1 l0_1.length c0_1) := (blk_cell BK358.out 1).trans rfl
          have hfz29_0 := blk_frozen BK358.out 0
          have hfz29_1 := blk_frozen BK358.out 1
          have hnb30 := NB365_359.out
          have hnc30 := NB359_365.out
          have hcz31_0 : wr.cell? ⟨gb365, 0, none⟩ = some (.int .i64 t361) := (blk_cell BK365.out 0).trans rfl
          have hcz31_1 : wr.cell? ⟨gb365, 1, none⟩ = some (u366001) := (blk_cell BK365.out 1).trans rfl
          have hfz31_0 := blk_frozen BK365.out 0
          have hfz31_1 := blk_frozen BK365.out 1
          have hcz32_0 : wr.cell? ⟨gb359, 0, none⟩ = some (.int .i64 0) := (blk_cell BK359.out 0).trans rfl
          have hcz32_1 : wr.cell? ⟨gb359, 1, none⟩ = some (.slice none 0 0) := (blk_cell BK359.out 1).trans rfl
          have hfz32_0 := blk_frozen BK359.out 0
          have hfz32_1 := blk_frozen BK359.out 1
          obtain ⟨Ao33, co33, eo33⟩ := Kd.R_slice HO_366001.out
          subst eo33
          go_wp2
          refine bodyPost_ret (results_ct rfl _ _ gb359 24 #[.int .i64 t361, .slice Ao33 x366001_1.length co33] (0, 0) _ rfl (by (with_reducible repeat (first | refine blk_drewN ?_ _ | refine blk_drew ?_ | refine blk_alloc ?_ _)); refine blk_put (cs := #[.int .i64 t361, .slice none 0 0]) ?_ 1 _ rfl; (with_reducible repeat (first | refine blk_drewN ?_ _ | refine blk_drew ?_ | refine blk_alloc ?_ _)); refine blk_put (cs := #[.int .i64 0, .slice none 0 0]) ?_ 0 _ rfl; (with_reducible repeat (first | refine blk_drewN ?_ _ | refine blk_drew ?_ | refine blk_alloc ?_ _)); exact BK359.out) Tryd.underlying24 rfl (by kernel_rfl)) rfl ?_
          exact ⟨_, by first | rfl | (simp [errW_none, errW_some] <;> rfl) | (simp [*, errW_none, errW_some] <;> rfl), by (with_reducible repeat (first | apply Kd.R_alloc | apply Kd.R_drewN | apply Kd.R_drew)); exact Kd.R_mono (Kd.R_far (p := ⟨gb359, 1, none⟩) (Kd.R_far (p := ⟨gb359, 0, none⟩) (Kd.R_types HO_366001.out BK359.out (by decide)) (fun _ hk => hk.2) (.int .i64 t361)) (fun _ hk => hk.2) (.slice Ao33 x366001_1.length co33)) (fun _ hk => trivial), by repeat (first | (with_reducible first | exact HB.out | apply below_alloc | apply pw_below_drewN | apply below_drew1 | refine below_set ?_ GE358.out | refine below_set ?_ GE359.out | refine below_set ?_ GE365.out) | exact HB.out)⟩
  · rw [if_neg c3] at H
    have c3b0 : (t360 == 0) = false := beq_eq_false_iff_ne.mpr c3
    have c3b1 : (t360 != 0) = true := bne_iff_ne.mpr c3
    simp only [Option.some.injEq, Prod.mk.injEq] at H
    obtain ⟨rfl, rfl, rfl⟩ := H
    go_enter Tryd.func32, Tryd.ntmps32
    go_wp2_with (first | ((with_reducible refine gate_dst (N := 1) rfl ?_); refine box_event ?hg (N := 1) ?hd (cs := #[.int .i64 a0_0, .slice A0_1 l0_1.length c0_1]) (t := 24) ?hr ?_; (case hd => rfl); (case hg => rfl); (case hr => first | (go_simp; done) | (go_simp; rfl)); intro gb358 hg w34 hbox hb; have n0_ := Aside0.mk (below_step (by repeat (first | (with_reducible first | exact HB.out | apply below_alloc | apply pw_below_drewN | apply below_drew1) | exact HB.out)) hb); have n1_ := Aside0.mk (hbox); have n2_ := Aside0.mk ((by rw [hg]; exact (below_size (by repeat (first | (with_reducible first | exact HB.out | apply below_alloc | apply pw_below_drewN | apply below_drew1) | exact HB.out))) : w.heap.size ≤ gb358)); have n3_ := Aside0.mk ((by rw [hg]; exact (below_size (by repeat (first | (with_reducible first | exact HB.out | apply below_alloc | apply pw_below_drewN | apply below_drew1) | exact HB.out))) : w.heap.size ≤ gb358)); clear HB; have HB := n0_; have BK358 := n1_; have GW358 := n2_; have GE358 := n3_; clear n0_ n1_ n2_ n3_; clear hb hbox hg) | ((with_reducible refine gate_dst (N := 2) rfl ?_); refine box_event ?hg (N := 2) ?hd (cs := #[.int .i64 0, .slice none 0 0]) (t := 24) ?hr ?_; (case hd => rfl); (case hg => rfl); (case hr => first | (go_simp; done) | (go_simp; rfl)); intro gb359 hg w35 hbox hb; have n0_ := Aside0.mk (blk_below (g := gb358) (o := .cells #[.int .i64 a0_0, .slice A0_1 l0_1.length c0_1] 24 (0, 0)) (by (with_reducible repeat (first | refine blk_drewN ?_ _ | refine blk_drew ?_ | refine blk_alloc ?_ _)); exact BK358.out) hb); have n1_ := Aside0.mk (below_step (by repeat (first | (with_reducible first | exact HB.out | apply below_alloc | apply pw_below_drewN | apply below_drew1 | refine below_set ?_ GE358.out) | exact HB.out)) hb); have n2_ := Aside0.mk (hbox); have n3_ := Aside0.mk ((by rw [hg]; exact (below_size (by repeat (first | (with_reducible first | exact HB.out | apply below_alloc | apply pw_below_drewN | apply below_drew1 | refine below_set ?_ GE358.out) | exact HB.out))) : w.heap.size ≤ gb359)); have n4_ := Aside0.mk ((by rw [hg]; exact (below_size (by repeat (first | (with_reducible first | exact HB.out | apply below_alloc | apply pw_below_drewN | apply below_drew1 | refine below_set ?_ GE358.out) | exact HB.out))) : w.heap.size ≤ gb359)); have n5_ := Aside0.mk ((by rw [hg]; exact Nat.ne_of_lt (blk_lt (g := gb358) (o := .cells #[.int .i64 a0_0, .slice A0_1 l0_1.length c0_1] 24 (0, 0)) (by (with_reducible repeat (first | refine blk_drewN ?_ _ | refine blk_drew ?_ | refine blk_alloc ?_ _)); exact BK358.out)) : gb358 ≠ gb359)); have n6_ := Aside0.mk ((by rw [hg]; exact Nat.ne_of_gt (blk_lt (g := gb358) (o := .cells #[.int .i64 a0_0, .slice A0_1 l0_1.length c0_1] 24 (0, 0)) (by (with_reducible repeat (first | refine blk_drewN ?_ _ | refine blk_drew ?_ | refine blk_alloc ?_ _)); exact BK358.out)) : gb359 ≠ gb358)); clear BK358; clear HB; have BK358 := n0_; have HB := n1_; have BK359 := n2_; have GW359 := n3_; have GE359 := n4_; have NB358_359 := n5_; have NB359_358 := n6_; clear n0_ n1_ n2_ n3_ n4_ n5_ n6_; clear hb hbox hg; have hnb36 := NB358_359.out; have hnc36 := NB359_358.out; have hcz37_0 : w35.cell? ⟨gb358, 0, none⟩ = some (.int .i64 a0_0) := (blk_cell BK358.out 0).trans rfl; have hcz37_1 : w35.cell? ⟨gb358, 1, none⟩ = some (.slice A0_1 l0_1.length c0_1) := (blk_cell BK358.out 1).trans rfl; have hfz37_0 := blk_frozen BK358.out 0; have hfz37_1 := blk_frozen BK358.out 1) | ((with_reducible refine gate_callee (f := 15) rfl ?_); refine goesL_ (some 8) rfl rfl Tryd.func15 (by kernel_rfl) rfl #[.agg #[.int .i64 a0_0, .slice A0_1 l0_1.length c0_1]] rfl (by (try simp only [List.map_toArray, List.map_cons, List.map_nil]); first | done | rfl | (simp only [List.length_drop, List.length_take]; rfl)) ?_; (with_reducible refine (estoversref01_Check.calls k a0_0 _ _ l0_1 t360 _ ?side1 ?side2 A2.out).mono ?_); (case side1 => repeat (first | exact (Kd.C_below HR0_1.out HB.out) | (with_reducible refine Kd.C_alloc ?_ _) | (with_reducible refine Kd.C_drewN ?_ _) | (with_reducible refine Kd.C_drew ?_))); (case side2 => exact HC0_1.out); rintro e w38 ⟨rfl, hb⟩; refine ⟨_, rfl, ?_⟩; have n0_ := Aside0.mk (blk_below (g := gb358) (o := .cells #[.int .i64 a0_0, .slice A0_1 l0_1.length c0_1] 24 (0, 0)) (by (with_reducible repeat (first | refine blk_drewN ?_ _ | refine blk_drew ?_ | refine blk_alloc ?_ _)); exact BK358.out) hb); have n1_ := Aside0.mk (blk_below (g := gb359) (o := .cells #[.int .i64 0, .slice none 0 0] 24 (0, 0)) (by (with_reducible repeat (first | refine blk_drewN ?_ _ | refine blk_drew ?_ | refine blk_alloc ?_ _)); exact BK359.out) hb); have n2_ := Aside0.mk (below_step (by repeat (first | (with_reducible first | exact HB.out | apply below_alloc | apply pw_below_drewN | apply below_drew1 | refine below_set ?_ GE358.out | refine below_set ?_ GE359.out) | exact HB.out)) hb); clear BK358; clear BK359; clear HB; have BK358 := n0_; have BK359 := n1_; have HB := n2_; clear n0_ n1_ n2_; (try clear hb); (try clear hb2); (try clear hk); (try clear hi); have hcz39_0 : w38.cell? ⟨gb359, 0, none⟩ = some (.int .i64 0) := (blk_cell BK359.out 0).trans rfl; have hcz39_1 : w38.cell? ⟨gb359, 1, none⟩ = some (.slice none 0 0) := (blk_cell BK359.out 1).trans rfl; have hfz39_0 := blk_frozen BK359.out 0; have hfz39_1 := blk_frozen BK359.out 1))
    refine bodyPost_ret (results_ct rfl _ _ gb359 24 #[.int .i64 0, .slice none 0 0] (0, 0) _ rfl (by (with_reducible repeat (first | refine blk_drewN ?_ _ | refine blk_drew ?_ | refine blk_alloc ?_ _)); refine blk_put (cs := #[.int .i64 0, .slice none 0 0]) ?_ 1 _ rfl; (with_reducible repeat (first | refine blk_drewN ?_ _ | refine blk_drew ?_ | refine blk_alloc ?_ _)); refine blk_put (cs := #[.int .i64 0, .slice none 0 0]) ?_ 0 _ rfl; (with_reducible repeat (first | refine blk_drewN ?_ _ | refine blk_drew ?_ | refine blk_alloc ?_ _)); exact BK359.out) Tryd.underlying24 rfl (by kernel_rfl)) rfl ?_
    exact ⟨_, by first | rfl | (simp [errW_none, errW_some] <;> rfl) | (simp [*, errW_none, errW_some] <;> rfl), by first | exact Kd.R_nil _ _ _ _ _ | exact Kd.N_nil _ _ _ _ _ | exact Kd.V_nil _ _ _ _ _ | exact Kd.Q_nil _ _ _ _ _ | exact Kd.S_nil _ _ _ _ _, by repeat (first | (with_reducible first | exact HB.out | apply below_alloc | apply pw_below_drewN | apply below_drew1 | refine below_set ?_ GE358.out | refine below_set ?_ GE359.out) | exact HB.out)⟩

end Go.Proofs.YtinhjcoikhpblaaDoor.Q
