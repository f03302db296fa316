-- Written by wip/stubprint.py for this claim. Lean checks it.
import Derived.Test.YtinhjcoikhpblaaDoorQ0
import Derived.Test.YtinhjcoikhpblaaDoorQ100
import Derived.Test.YtinhjcoikhpblaaDoorQ102
import Derived.Test.YtinhjcoikhpblaaDoorQ105
import Derived.Test.YtinhjcoikhpblaaDoorQ106
import Derived.Test.YtinhjcoikhpblaaDoorQ200
import Derived.Test.YtinhjcoikhpblaaDoorQ202
namespace Go.Proofs.YtinhjcoikhpblaaDoor.Q
open Go.RowKit Go.Proofs.YtinhjcoikhpblaaDoorW.PrintWords Go.Proofs.YtinhjcoikhpblaaDoorW.PrintLast Go.Proofs.YtinhjcoikhpblaaDoorW.PrintMore
attribute [local go_sem] max2_int min2_int max_two min_two max_three min_three max_four min_four
set_option linter.unusedVariables false
set_option linter.unusedSimpArgs false

/-! ### estoverslaw01_BitsetSets: function 4 -/
def estoverslaw01_BitsetSets.f (k : Nat) (a0_0 : Int) (l0_1 : List Int) (a1 : Int) (a2 : Bool) : Option (Bool) := (estoverslaw01_awake.f k).bind fun t219 => (if t219 = true then ((bitset_Set.f k a0_0 l0_1 a1 a2).bind fun bt220 => ((estoversref01_Set.f k a0_0 l0_1 a1 a2).bind fun bt226 => (if bt220.2.2 = bt226.2.2 then ((estoversref01_Same.f k bt220.1 bt220.2.1 bt226.1 bt226.2.1).bind fun t232 => (if t232 = true then ((bitset_Get.f k a0_0 l0_1 a1).bind fun t233 => ((estoversref01_Get.f k a0_0 l0_1 a1).bind fun t234 => (if (t233 != t234) = true then (some false) else (if bt220.2.2 = 0 then ((bitset_Get.f k bt220.1 bt220.2.1 a1).bind fun t235 => (some (t235 == a2))) else (some true))))) else (some false))) else (some false)))) else (some false))
theorem estoverslaw01_BitsetSets.mono : ∀ a0 a1 a2 a3 k, LeO (estoverslaw01_BitsetSets.f k a0 a1 a2 a3) (estoverslaw01_BitsetSets.f (k + 1) a0 a1 a2 a3) := by
  intro a0 a1 a2 a3 k
  unfold estoverslaw01_BitsetSets.f
  repeat' first
      | (with_reducible exact bitset_Get.mono _ _ _ _)
      | (with_reducible exact bitset_Set.mono _ _ _ _ _)
      | (with_reducible exact estoverslaw01_awake.mono _)
      | (with_reducible exact estoversref01_Get.mono _ _ _ _)
      | (with_reducible exact estoversref01_Same.mono _ _ _ _ _)
      | (with_reducible exact estoversref01_Set.mono _ _ _ _ _)
      | (with_reducible exact LeO.refl _)
      | (with_reducible exact LeO.none _)
      | (with_reducible refine LeO.ite ?_ ?_)
      | (with_reducible refine LeO.bind ?_ (fun _ => ?_))
      | exact bitset_Get.mono _ _ _ _
      | exact bitset_Set.mono _ _ _ _ _
      | exact estoverslaw01_awake.mono _
      | exact estoversref01_Get.mono _ _ _ _
      | exact estoversref01_Same.mono _ _ _ _ _
      | exact estoversref01_Set.mono _ _ _ _ _
      | exact LeO.none _
      | refine LeO.ite ?_ ?_
      | refine LeO.bind ?_ (fun _ => ?_)
def estoverslaw01_BitsetSets.T5 : Bool × List (List Nat × List Nat) := (true, [([], []), ([], []), ([0, 1], [0, 1]), ([2], [2]), ([3], [3]), ([3], [3]), ([4, 5, 3, 3], [3, 4, 5]), ([6, 3], [3, 6]), ([3, 7], [3, 7]), ([8, 6], [8]), ([9], [9]), ([9], [9]), ([10, 11, 9, 9], [9, 10, 11]), ([9], [9]), ([9], [9]), ([13, 14, 12, 9], [9, 13, 14]), ([12, 15, 9], [9, 12, 15]), ([9, 16], [9, 16])])
def estoverslaw01_BitsetSets.B5 : List Nat := [0, 0, 3, 7, 15, 15, 63, 127, 255, 511, 1023, 1023, 4095, 1023, 1023, 32767, 65535, 131071]
theorem estoverslaw01_BitsetSets.tab5 : rtab .any (opsOf Tryd.f4 5) = estoverslaw01_BitsetSets.T5 := by kernel_rfl
theorem estoverslaw01_BitsetSets.bits5 : waitsOk estoverslaw01_BitsetSets.T5.2 estoverslaw01_BitsetSets.B5 = true := by kernel_rfl
set_option maxHeartbeats 8000000 in
set_option maxRecDepth 100000 in
theorem estoverslaw01_BitsetSets.calls (k : Nat) (a0_0 : Int) (A0_1 : Option Addr) (c0_1 : Nat) (l0_1 : List Int) (a1 : Int) (a2 : Bool) (r : Bool) (w : World) (hr0_1 : Kd.C (Kd.int .u64) w A0_1 l0_1.length l0_1) (hc0_1 : l0_1.length ≤ c0_1) (h : estoverslaw01_BitsetSets.f k a0_0 l0_1 a1 a2 = some r) (HT : TabW w) :
    Calls Tryd.prog 4 #[.agg #[.int .i64 a0_0, .slice A0_1 l0_1.length c0_1], .int .i64 a1, .bool a2] w fun e w' => e = .returned (.bool r) ∧ Below w.heap.size w w' := by
  have hu24 := Tryd.underlying24
  have HR0_1 := Aside0.mk hr0_1
  have HC0_1 := Aside0.mk hc0_1
  clear hr0_1 hc0_1
  have HB := Aside0.mk (Below.refl w.heap.size w)
  have H : ((estoverslaw01_awake.f k).bind fun t219 => (if t219 = true then ((bitset_Set.f k a0_0 l0_1 a1 a2).bind fun bt220 => ((estoversref01_Set.f k a0_0 l0_1 a1 a2).bind fun bt226 => (if bt220.2.2 = bt226.2.2 then ((estoversref01_Same.f k bt220.1 bt220.2.1 bt226.1 bt226.2.1).bind fun t232 => (if t232 = true then ((bitset_Get.f k a0_0 l0_1 a1).bind fun t233 => ((estoversref01_Get.f k a0_0 l0_1 a1).bind fun t234 => (if (t233 != t234) = true then (some false) else (if bt220.2.2 = 0 then ((bitset_Get.f k bt220.1 bt220.2.1 a1).bind fun t235 => (some (t235 == a2))) else (some true))))) else (some false))) else (some false)))) else (some false))) = some r := h
  clear h
  replace H := Option.bind_eq_some_iff.mp H
  obtain ⟨t219, A40, H⟩ := H
  replace H : (if t219 = true then ((bitset_Set.f k a0_0 l0_1 a1 a2).bind fun bt220 => ((estoversref01_Set.f k a0_0 l0_1 a1 a2).bind fun bt226 => (if bt220.2.2 = bt226.2.2 then ((estoversref01_Same.f k bt220.1 bt220.2.1 bt226.1 bt226.2.1).bind fun t232 => (if t232 = true then ((bitset_Get.f k a0_0 l0_1 a1).bind fun t233 => ((estoversref01_Get.f k a0_0 l0_1 a1).bind fun t234 => (if (t233 != t234) = true then (some false) else (if bt220.2.2 = 0 then ((bitset_Get.f k bt220.1 bt220.2.1 a1).bind fun t235 => (some (t235 == a2))) else (some true))))) else (some false))) else (some false)))) else (some false)) = some r := H
  have A4 := Aside0.mk A40
  clear A40
  by_cases c5 : t219 = true
  · subst c5
    have H1 : ((bitset_Set.f k a0_0 l0_1 a1 a2).bind fun bt220 => ((estoversref01_Set.f k a0_0 l0_1 a1 a2).bind fun bt226 => (if bt220.2.2 = bt226.2.2 then ((estoversref01_Same.f k bt220.1 bt220.2.1 bt226.1 bt226.2.1).bind fun t232 => (if t232 = true then ((bitset_Get.f k a0_0 l0_1 a1).bind fun t233 => ((estoversref01_Get.f k a0_0 l0_1 a1).bind fun t234 => (if (t233 != t234) = true then (some false) else (if bt220.2.2 = 0 then ((bitset_Get.f k bt220.1 bt220.2.1 a1).bind fun t235 => (some (t235 == a2))) else (some true))))) else (some false))) else (some false)))) = some r := by rw [if_pos rfl] at H; exact H
    clear H
    have H := H1
    clear H1
    replace H := Option.bind_eq_some_iff.mp H
    obtain ⟨⟨t220, t221, t224⟩, A60, H⟩ := H
    replace H : ((estoversref01_Set.f k a0_0 l0_1 a1 a2).bind fun bt226 => (if t224 = bt226.2.2 then ((estoversref01_Same.f k t220 t221 bt226.1 bt226.2.1).bind fun t232 => (if t232 = true then ((bitset_Get.f k a0_0 l0_1 a1).bind fun t233 => ((estoversref01_Get.f k a0_0 l0_1 a1).bind fun t234 => (if (t233 != t234) = true then (some false) else (if t224 = 0 then ((bitset_Get.f k t220 t221 a1).bind fun t235 => (some (t235 == a2))) else (some true))))) else (some false))) else (some false))) = some r := H
    have A6 := Aside0.mk A60
    clear A60
    replace H := Option.bind_eq_some_iff.mp H
    obtain ⟨⟨t226, t227, t230⟩, A70, H⟩ := H
    replace H : (if t224 = t230 then ((estoversref01_Same.f k t220 t221 t226 t227).bind fun t232 => (if t232 = true then ((bitset_Get.f k a0_0 l0_1 a1).bind fun t233 => ((estoversref01_Get.f k a0_0 l0_1 a1).bind fun t234 => (if (t233 != t234) = true then (some false) else (if t224 = 0 then ((bitset_Get.f k t220 t221 a1).bind fun t235 => (some (t235 == a2))) else (some true))))) else (some false))) else (some false)) = some r := H
    have A7 := Aside0.mk A70
    clear A70
    by_cases c8 : t224 = t230
    · rw [if_pos c8] at H
      have c8b0 : (t224 == t230) = true := beq_iff_eq.mpr c8
      have c8b1 : (t224 != t230) = false := bne_eq_false_iff_eq.mpr c8
      clear c8
      replace H := Option.bind_eq_some_iff.mp H
      obtain ⟨t232, A90, H⟩ := H
      replace H : (if t232 = true then ((bitset_Get.f k a0_0 l0_1 a1).bind fun t233 => ((estoversref01_Get.f k a0_0 l0_1 a1).bind fun t234 => (if (t233 != t234) = true then (some false) else (if t224 = 0 then ((bitset_Get.f k t220 t221 a1).bind fun t235 => (some (t235 == a2))) else (some true))))) else (some false)) = some r := H
      have A9 := Aside0.mk A90
      clear A90
      by_cases c10 : t232 = true
      · subst c10
        have H1 : ((bitset_Get.f k a0_0 l0_1 a1).bind fun t233 => ((estoversref01_Get.f k a0_0 l0_1 a1).bind fun t234 => (if (t233 != t234) = true then (some false) else (if t224 = 0 then ((bitset_Get.f k t220 t221 a1).bind fun t235 => (some (t235 == a2))) else (some true))))) = some r := by rw [if_pos rfl] at H; exact H
        clear H
        have H := H1
        clear H1
        replace H := Option.bind_eq_some_iff.mp H
        obtain ⟨t233, A110, H⟩ := H
        replace H : ((estoversref01_Get.f k a0_0 l0_1 a1).bind fun t234 => (if (t233 != t234) = true then (some false) else (if t224 = 0 then ((bitset_Get.f k t220 t221 a1).bind fun t235 => (some (t235 == a2))) else (some true)))) = some r := H
        have A11 := Aside0.mk A110
        clear A110
        replace H := Option.bind_eq_some_iff.mp H
        obtain ⟨t234, A120, H⟩ := H
        replace H : (if (t233 != t234) = true then (some false) else (if t224 = 0 then ((bitset_Get.f k t220 t221 a1).bind fun t235 => (some (t235 == a2))) else (some true))) = some r := H
        have A12 := Aside0.mk A120
        clear A120
        by_cases c13 : (t233 != t234) = true
        · rw [if_pos c13] at H
          have c13b0 : (t233 != t234) = true := c13
          (try (have c13b1 : decide (t233 = t234) = false := by simpa using c13))
          (try (have c13b2 : (t233 == t234) = false := by simpa using c13))
          (try (have c13b3 : ¬ (t233 = t234) := by simpa using c13))
          clear c13
          obtain rfl := Option.some.inj H
          go_enter Tryd.func4, Tryd.ntmps4
          try go_wp2_with (first | ((with_reducible refine gate_dst (N := 3) rfl ?_); refine box_event ?hg (N := 3) ?hd (cs := #[.int .i64 a0_0, .slice A0_1 l0_1.length c0_1]) (t := 24) ?hr ?_; (case hd => rfl); (case hg => rfl); (case hr => first | (go_simp; done) | (go_simp; rfl)); intro gb218 hg w14 hbox hb; have n0_ := Aside0.mk (below_step (by repeat (first | (with_reducible first | exact HB.out | apply below_alloc | apply pw_below_drewN | apply below_drew1) | exact HB.out)) hb); have n1_ := Aside0.mk (hbox); have n2_ := Aside0.mk ((by rw [hg]; exact (below_size (by repeat (first | (with_reducible first | exact HB.out | apply below_alloc | apply pw_below_drewN | apply below_drew1) | exact HB.out))) : w.heap.size ≤ gb218)); have n3_ := Aside0.mk ((by rw [hg]; exact (below_size (by repeat (first | (with_reducible first | exact HB.out | apply below_alloc | apply pw_below_drewN | apply below_drew1) | exact HB.out))) : w.heap.size ≤ gb218)); clear HB; have HB := n0_; have BK218 := n1_; have GW218 := n2_; have GE218 := n3_; clear n0_ n1_ n2_ n3_; clear hb hbox hg) | ((with_reducible refine gate_callee (f := 11) rfl ?_); refine goesL_ (some 11) rfl rfl Tryd.func11 (by kernel_rfl) rfl #[] rfl (by (try simp only [List.map_toArray, List.map_cons, List.map_nil]); first | done | rfl | (simp only [List.length_drop, List.length_take]; rfl)) ?_; (with_reducible refine (estoverslaw01_awake.calls k  true _ A4.out (TabW.below HT (by repeat (first | (with_reducible first | exact HB.out | apply below_alloc | apply pw_below_drewN | apply below_drew1 | refine below_set ?_ GE218.out | refine below_set ?_ GE225.out | refine below_set ?_ GE231.out) | exact HB.out)))).mono ?_); rintro e w15 ⟨rfl, hb⟩; refine ⟨_, rfl, ?_⟩; have n0_ := Aside0.mk (blk_below (g := gb218) (o := .cells #[.int .i64 a0_0, .slice A0_1 l0_1.length c0_1] 24 (0, 0)) (by (with_reducible repeat (first | refine blk_drewN ?_ _ | refine blk_drew ?_ | refine blk_alloc ?_ _)); exact BK218.out) hb); have n1_ := Aside0.mk (below_step (by repeat (first | (with_reducible first | exact HB.out | apply below_alloc | apply pw_below_drewN | apply below_drew1 | refine below_set ?_ GE218.out) | exact HB.out)) hb); clear BK218; clear HB; have BK218 := n0_; have HB := n1_; clear n0_ n1_; (try clear hb); (try clear hb2); (try clear hk); (try clear hi); have hcz16_0 : w15.cell? ⟨gb218, 0, none⟩ = some (.int .i64 a0_0) := (blk_cell BK218.out 0).trans rfl; have hcz16_1 : w15.cell? ⟨gb218, 1, none⟩ = some (.slice A0_1 l0_1.length c0_1) := (blk_cell BK218.out 1).trans rfl; have hfz16_0 := blk_frozen BK218.out 0; have hfz16_1 := blk_frozen BK218.out 1) | ((with_reducible refine gate_callee (f := 17) rfl ?_); refine goesL_ (some 17) rfl rfl Tryd.func17 (by kernel_rfl) rfl #[.agg #[.int .i64 a0_0, .slice A0_1 l0_1.length c0_1], .int .i64 a1, .bool a2] rfl (by (try simp only [List.map_toArray, List.map_cons, List.map_nil]); first | done | rfl | (simp only [List.length_drop, List.length_take]; rfl)) ?_; (with_reducible refine (bitset_Set.calls k a0_0 _ _ l0_1 a1 a2 t220 t221 t224 _ ?side1 ?side2 A6.out).mono ?_); (case side1 => repeat (first | exact (Kd.C_below HR0_1.out HB.out) | (with_reducible refine Kd.C_alloc ?_ _) | (with_reducible refine Kd.C_drewN ?_ _) | (with_reducible refine Kd.C_drew ?_))); (case side2 => exact HC0_1.out); rintro e w17 ⟨v222, rfl, ho0, hb⟩; refine ⟨_, rfl, ?_⟩; have n0_ := Aside0.mk (Kd.R_lower ho0 (below_size (by repeat (first | (with_reducible first | exact HB.out | apply below_alloc | apply pw_below_drewN | apply below_drew1 | refine below_set ?_ GE218.out) | exact HB.out)))); have n1_ := Aside0.mk (blk_below (g := gb218) (o := .cells #[.int .i64 a0_0, .slice A0_1 l0_1.length c0_1] 24 (0, 0)) (by (with_reducible repeat (first | refine blk_drewN ?_ _ | refine blk_drew ?_ | refine blk_alloc ?_ _)); exact BK218.out) hb); have n2_ := Aside0.mk (below_step (by repeat (first | (with_reducible first | exact HB.out | apply below_alloc | apply pw_below_drewN | apply below_drew1 | refine below_set ?_ GE218.out) | exact HB.out)) hb); clear BK218; clear HB; have HO223 := n0_; have BK218 := n1_; have HB := n2_; clear n0_ n1_ n2_; (try clear hb); (try clear hb2); (try clear hk); (try clear hi); (try clear ho0)) | ((with_reducible refine gate_dst (N := 7) rfl ?_); refine box_event ?hg (N := 7) ?hd (cs := #[.int .i64 0, .slice none 0 0]) (t := 24) ?hr ?_; (case hd => rfl); (case hg => rfl); (case hr => first | (go_simp; done) | (go_simp; rfl)); intro gb225 hg w18 hbox hb; have n0_ := Aside0.mk (Kd.R_below (by (with_reducible repeat (first | apply Kd.R_alloc | apply Kd.R_drewN | apply Kd.R_drew)); exact HO223.out) hb); have n1_ := Aside0.mk (blk_below (g := gb218) (o := .cells #[.int .i64 a0_0, .slice A0_1 l0_1.length c0_1] 24 (0, 0)) (by (with_reducible repeat (first | refine blk_drewN ?_ _ | refine blk_drew ?_ | refine blk_alloc ?_ _)); exact BK218.out) hb); have n2_ := Aside0.mk (below_step (by repeat (first | (with_reducible first | exact HB.out | apply below_alloc | apply pw_below_drewN | apply below_drew1 | refine below_set ?_ GE218.out) | exact HB.out)) hb); have n3_ := Aside0.mk (hbox); have n4_ := Aside0.mk ((by rw [hg]; exact (below_size (by repeat (first | (with_reducible first | exact HB.out | apply below_alloc | apply pw_below_drewN | apply below_drew1 | refine below_set ?_ GE218.out) | exact HB.out))) : w.heap.size ≤ gb225)); have n5_ := Aside0.mk ((by rw [hg]; exact (below_size (by repeat (first | (with_reducible first | exact HB.out | apply below_alloc | apply pw_below_drewN | apply below_drew1 | refine below_set ?_ GE218.out) | exact HB.out))) : w.heap.size ≤ gb225)); have n6_ := Aside0.mk ((by rw [hg]; exact Nat.ne_of_lt (blk_lt (g := gb218) (o := .cells #[.int .i64 a0_0, .slice A0_1 l0_1.length c0_1] 24 (0, 0)) (by (with_reducible repeat (first | refine blk_drewN ?_ _ | refine blk_drew ?_ | refine blk_alloc ?_ _)); exact BK218.out)) : gb218 ≠ gb225)); have n7_ := Aside0.mk ((by rw [hg]; exact Nat.ne_of_gt (blk_lt (g := gb218) (o := .cells #[.int .i64 a0_0, .slice A0_1 l0_1.length c0_1] 24 (0, 0)) (by (with_reducible repeat (first | refine blk_drewN ?_ _ | refine blk_drew ?_ | refine blk_alloc ?_ _)); exact BK218.out)) : gb225 ≠ gb218)); clear HO223; clear BK218; clear HB; have HO223 := n0_; have BK218 := n1_; have HB := n2_; have BK225 := n3_; have GW225 := n4_; have GE225 := n5_; have NB218_225 := n6_; have NB225_218 := n7_; clear n0_ n1_ n2_ n3_ n4_ n5_ n6_ n7_; clear hb hbox hg; have hnb19 := NB225_218.out; have hnc19 := NB218_225.out; have hcz20_0 : w18.cell? ⟨gb225, 0, none⟩ = some (.int .i64 0) := (blk_cell BK225.out 0).trans rfl; have hcz20_1 : w18.cell? ⟨gb225, 1, none⟩ = some (.slice none 0 0) := (blk_cell BK225.out 1).trans rfl; have hfz20_0 := blk_frozen BK225.out 0; have hfz20_1 := blk_frozen BK225.out 1; obtain ⟨Ao21, co21, eo21⟩ := Kd.R_slice HO223.out; subst eo21; have hcz22_0 : w18.cell? ⟨gb218, 0, none⟩ = some (.int .i64 a0_0) := (blk_cell BK218.out 0).trans rfl; have hcz22_1 : w18.cell? ⟨gb218, 1, none⟩ = some (.slice A0_1 l0_1.length c0_1) := (blk_cell BK218.out 1).trans rfl; have hfz22_0 := blk_frozen BK218.out 0; have hfz22_1 := blk_frozen BK218.out 1) | ((with_reducible refine gate_callee (f := 18) rfl ?_); refine goesL_ (some 24) rfl rfl Tryd.func18 (by kernel_rfl) rfl #[.agg #[.int .i64 a0_0, .slice A0_1 l0_1.length c0_1], .int .i64 a1, .bool a2] rfl (by (try simp only [List.map_toArray, List.map_cons, List.map_nil]); first | done | rfl | (simp only [List.length_drop, List.length_take]; rfl)) ?_; (with_reducible refine (estoversref01_Set.calls k a0_0 _ _ l0_1 a1 a2 t226 t227 t230 _ ?side1 ?side2 A7.out).mono ?_); (case side1 => exact Kd.C_below HR0_1.out (by repeat (first | (with_reducible first | exact HB.out | apply below_alloc | apply pw_below_drewN | apply below_drew1 | refine below_set ?_ GE218.out | refine below_set ?_ GE225.out) | exact HB.out))); (case side2 => exact HC0_1.out); rintro e w23 ⟨v228, rfl, ho0, hb⟩; refine ⟨_, rfl, ?_⟩; have n0_ := Aside0.mk (Kd.R_elder' (by (with_reducible repeat (first | apply Kd.R_alloc | apply Kd.R_drewN | apply Kd.R_drew)); exact (Kd.R_mono (Kd.R_far (p := ⟨gb225, 1, none⟩) (Kd.R_far (p := ⟨gb225, 0, none⟩) (Kd.R_types HO223.out BK225.out (by decide)) (fun _ hk => hk.2) (.int .i64 t220)) (fun _ hk => hk.2) (.slice Ao21 t221.length co21)) (fun _ h_ => h_.1))) (Kd.R_base ho0) hb); have n1_ := Aside0.mk (Kd.R_lower (Kd.R_new' ho0 (Kd.R_lt (by (with_reducible repeat (first | apply Kd.R_alloc | apply Kd.R_drewN | apply Kd.R_drew)); exact (Kd.R_mono (Kd.R_far (p := ⟨gb225, 1, none⟩) (Kd.R_far (p := ⟨gb225, 0, none⟩) (Kd.R_types HO223.out BK225.out (by decide)) (fun _ hk => hk.2) (.int .i64 t220)) (fun _ hk => hk.2) (.slice Ao21 t221.length co21)) (fun _ h_ => h_.1))))) (below_size (by repeat (first | (with_reducible first | exact HB.out | apply below_alloc | apply pw_below_drewN | apply below_drew1 | refine below_set ?_ GE218.out | refine below_set ?_ GE225.out) | exact HB.out)))); have n2_ := Aside0.mk (blk_below (g := gb218) (o := .cells #[.int .i64 a0_0, .slice A0_1 l0_1.length c0_1] 24 (0, 0)) (by (with_reducible repeat (first | refine blk_drewN ?_ _ | refine blk_drew ?_ | refine blk_alloc ?_ _)); refine blk_far ?_ NB218_225.out _; (with_reducible repeat (first | refine blk_drewN ?_ _ | refine blk_drew ?_ | refine blk_alloc ?_ _)); refine blk_far ?_ NB218_225.out _; (with_reducible repeat (first | refine blk_drewN ?_ _ | refine blk_drew ?_ | refine blk_alloc ?_ _)); exact BK218.out) hb); have n3_ := Aside0.mk (blk_below (g := gb225) (o := .cells #[.int .i64 t220, .slice Ao21 t221.length co21] 24 (0, 0)) (by (with_reducible repeat (first | refine blk_drewN ?_ _ | refine blk_drew ?_ | refine blk_alloc ?_ _)); refine blk_put (cs := #[.int .i64 t220, .slice none 0 0]) ?_ 1 _ rfl; (with_reducible repeat (first | refine blk_drewN ?_ _ | refine blk_drew ?_ | refine blk_alloc ?_ _)); refine blk_put (cs := #[.int .i64 0, .slice none 0 0]) ?_ 0 _ rfl; (with_reducible repeat (first | refine blk_drewN ?_ _ | refine blk_drew ?_ | refine blk_alloc ?_ _)); exact BK225.out) hb); have n4_ := Aside0.mk (below_step (by repeat (first | (with_reducible first | exact HB.out | apply below_alloc | apply pw_below_drewN | apply below_drew1 | refine below_set ?_ GE218.out | refine below_set ?_ GE225.out) | exact HB.out)) hb); clear HO223; clear BK218; clear BK225; clear HB; have HO223 := n0_; have HO229 := n1_; have BK218 := n2_; have BK225 := n3_; have HB := n4_; clear n0_ n1_ n2_ n3_ n4_; (try clear hb); (try clear hb2); (try clear hk); (try clear hi); (try clear ho0)) | ((with_reducible refine gate_dst (N := 9) rfl ?_); refine box_event ?hg (N := 9) ?hd (cs := #[.int .i64 0, .slice none 0 0]) (t := 24) ?hr ?_; (case hd => rfl); (case hg => rfl); (case hr => first | (go_simp; done) | (go_simp; rfl)); intro gb231 hg w24 hbox hb; have n0_ := Aside0.mk (Kd.R_below (by (with_reducible repeat (first | apply Kd.R_alloc | apply Kd.R_drewN | apply Kd.R_drew)); exact HO223.out) hb); have n1_ := Aside0.mk (Kd.R_below (by (with_reducible repeat (first | apply Kd.R_alloc | apply Kd.R_drewN | apply Kd.R_drew)); exact HO229.out) hb); have n2_ := Aside0.mk (blk_below (g := gb218) (o := .cells #[.int .i64 a0_0, .slice A0_1 l0_1.length c0_1] 24 (0, 0)) (by (with_reducible repeat (first | refine blk_drewN ?_ _ | refine blk_drew ?_ | refine blk_alloc ?_ _)); exact BK218.out) hb); have n3_ := Aside0.mk (blk_below (g := gb225) (o := .cells #[.int .i64 t220, .slice Ao21 t221.length co21] 24 (0, 0)) (by (with_reducible repeat (first | refine blk_drewN ?_ _ | refine blk_drew ?_ | refine blk_alloc ?_ _)); exact BK225.out) hb); have n4_ := Aside0.mk (below_step (by repeat (first | (with_reducible first | exact HB.out | apply below_alloc | apply pw_below_drewN | apply below_drew1 | refine below_set ?_ GE218.out | refine below_set ?_ GE225.out) | exact HB.out)) hb); have n5_ := Aside0.mk (hbox); have n6_ := Aside0.mk ((by rw [hg]; exact (below_size (by repeat (first | (with_reducible first | exact HB.out | apply below_alloc | apply pw_below_drewN | apply below_drew1 | refine below_set ?_ GE218.out | refine below_set ?_ GE225.out) | exact HB.out))) : w.heap.size ≤ gb231)); have n7_ := Aside0.mk ((by rw [hg]; exact (below_size (by repeat (first | (with_reducible first | exact HB.out | apply below_alloc | apply pw_below_drewN | apply below_drew1 | refine below_set ?_ GE218.out | refine below_set ?_ GE225.out) | exact HB.out))) : w.heap.size ≤ gb231)); have n8_ := Aside0.mk ((by rw [hg]; exact Nat.ne_of_lt (blk_lt (g := gb218) (o := .cells #[.int .i64 a0_0, .slice A0_1 l0_1.length c0_1] 24 (0, 0)) (by (with_reducible repeat (first | refine blk_drewN ?_ _ | refine blk_drew ?_ | refine blk_alloc ?_ _)); exact BK218.out)) : gb218 ≠ gb231)); have n9_ := Aside0.mk ((by rw [hg]; exact Nat.ne_of_gt (blk_lt (g := gb218) (o := .cells #[.int .i64 a0_0, .slice A0_1 l0_1.length c0_1] 24 (0, 0)) (by (with_reducible repeat (first | refine blk_drewN ?_ _ | refine blk_drew ?_ | refine blk_alloc ?_ _)); exact BK218.out)) : gb231 ≠ gb218)); have n10_ := Aside0.mk ((by rw [hg]; exact Nat.ne_of_lt (blk_lt (g := gb225) (o := .cells #[.int .i64 t220, .slice Ao21 t221.length co21] 24 (0, 0)) (by (with_reducible repeat (first | refine blk_drewN ?_ _ | refine blk_drew ?_ | refine blk_alloc ?_ _)); exact BK225.out)) : gb225 ≠ gb231)); have n11_ := Aside0.mk ((by rw [hg]; exact Nat.ne_of_gt (blk_lt (g := gb225) (o := .cells #[.int .i64 t220, .slice Ao21 t221.length co21] 24 (0, 0)) (by (with_reducible repeat (first | refine blk_drewN ?_ _ | refine blk_drew ?_ | refine blk_alloc ?_ _)); exact BK225.out)) : gb231 ≠ gb225)); clear HO223; clear HO229; clear BK218; clear BK225; clear HB; have HO223 := n0_; have HO229 := n1_; have BK218 := n2_; have BK225 := n3_; have HB := n4_; have BK231 := n5_; have GW231 := n6_; have GE231 := n7_; have NB218_231 := n8_; have NB231_218 := n9_; have NB225_231 := n10_; have NB231_225 := n11_; clear n0_ n1_ n2_ n3_ n4_ n5_ n6_ n7_ n8_ n9_ n10_ n11_; clear hb hbox hg; have hnb25 := NB231_218.out; have hnc25 := NB218_231.out; have hnb26 := NB231_225.out; have hnc26 := NB225_231.out; have hcz27_0 : w24.cell? ⟨gb231, 0, none⟩ = some (.int .i64 0) := (blk_cell BK231.out 0).trans rfl; have hcz27_1 : w24.cell? ⟨gb231, 1, none⟩ = some (.slice none 0 0) := (blk_cell BK231.out 1).trans rfl; have hfz27_0 := blk_frozen BK231.out 0; have hfz27_1 := blk_frozen BK231.out 1; obtain ⟨Ao28, co28, eo28⟩ := Kd.R_slice HO229.out; subst eo28))
          have n0_ : Aside0 (Kd.R (Kd.int .u64) 42 ((w24.setCell ⟨gb231, 0, none⟩ (.int .i64 t226)).setCell ⟨gb231, 1, none⟩ (.slice Ao28 t227.length co28)) w.heap.size (fun k_ => some k_ ≠ (.slice Ao28 t227.length co28 : Value).ownBlock) (.slice Ao21 t221.length co21) t221) := ⟨by (with_reducible repeat (first | apply Kd.R_alloc | apply Kd.R_drewN | apply Kd.R_drew)); exact Kd.R_mono (Kd.R_far (p := ⟨gb231, 1, none⟩) (Kd.R_far (p := ⟨gb231, 0, none⟩) (Kd.R_types HO223.out BK231.out (by decide)) (fun _ hk => hk.2) (.int .i64 t226)) (fun _ hk => hk.2) (.slice Ao28 t227.length co28)) (fun _ hk => hk.1.2)⟩
          have n1_ : Aside0 (Kd.R (Kd.int .u64) 42 ((w24.setCell ⟨gb231, 0, none⟩ (.int .i64 t226)).setCell ⟨gb231, 1, none⟩ (.slice Ao28 t227.length co28)) w.heap.size (fun k_ => some k_ ≠ (.slice Ao21 t221.length co21 : Value).ownBlock) (.slice Ao28 t227.length co28) t227) := ⟨by (with_reducible repeat (first | apply Kd.R_alloc | apply Kd.R_drewN | apply Kd.R_drew)); exact Kd.R_mono (Kd.R_far (p := ⟨gb231, 1, none⟩) (Kd.R_far (p := ⟨gb231, 0, none⟩) (Kd.R_types HO229.out BK231.out (by decide)) (fun _ hk => hk.2) (.int .i64 t226)) (fun _ hk => hk.2) (.slice Ao28 t227.length co28)) (fun _ hk => hk.1.2)⟩
          have n2_ : Aside0 (((w24.setCell ⟨gb231, 0, none⟩ (.int .i64 t226)).setCell ⟨gb231, 1, none⟩ (.slice Ao28 t227.length co28)).heap[gb218]? = some (.cells #[.int .i64 a0_0, .slice A0_1 l0_1.length c0_1] 24 (0, 0))) := ⟨by (with_reducible repeat (first | refine blk_drewN ?_ _ | refine blk_drew ?_ | refine blk_alloc ?_ _)); refine blk_far ?_ NB218_231.out _; (with_reducible repeat (first | refine blk_drewN ?_ _ | refine blk_drew ?_ | refine blk_alloc ?_ _)); refine blk_far ?_ NB218_231.out _; (with_reducible repeat (first | refine blk_drewN ?_ _ | refine blk_drew ?_ | refine blk_alloc ?_ _)); exact BK218.out⟩
          have n3_ : Aside0 (((w24.setCell ⟨gb231, 0, none⟩ (.int .i64 t226)).setCell ⟨gb231, 1, none⟩ (.slice Ao28 t227.length co28)).heap[gb225]? = some (.cells #[.int .i64 t220, .slice Ao21 t221.length co21] 24 (0, 0))) := ⟨by (with_reducible repeat (first | refine blk_drewN ?_ _ | refine blk_drew ?_ | refine blk_alloc ?_ _)); refine blk_far ?_ NB225_231.out _; (with_reducible repeat (first | refine blk_drewN ?_ _ | refine blk_drew ?_ | refine blk_alloc ?_ _)); refine blk_far ?_ NB225_231.out _; (with_reducible repeat (first | refine blk_drewN ?_ _ | refine blk_drew ?_ | refine blk_alloc ?_ _)); exact BK225.out⟩
          have n4_ : Aside0 (((w24.setCell ⟨gb231, 0, none⟩ (.int .i64 t226)).setCell ⟨gb231, 1, none⟩ (.slice Ao28 t227.length co28)).heap[gb231]? = some (.cells #[.int .i64 t226, .slice Ao28 t227.length co28] 24 (0, 0))) := ⟨by (with_reducible repeat (first | refine blk_drewN ?_ _ | refine blk_drew ?_ | refine blk_alloc ?_ _)); refine blk_put (cs := #[.int .i64 t226, .slice none 0 0]) ?_ 1 _ rfl; (with_reducible repeat (first | refine blk_drewN ?_ _ | refine blk_drew ?_ | refine blk_alloc ?_ _)); refine blk_put (cs := #[.int .i64 0, .slice none 0 0]) ?_ 0 _ rfl; (with_reducible repeat (first | refine blk_drewN ?_ _ | refine blk_drew ?_ | refine blk_alloc ?_ _)); exact BK231.out⟩
          have n5_ : Aside0 (Below w.heap.size w ((w24.setCell ⟨gb231, 0, none⟩ (.int .i64 t226)).setCell ⟨gb231, 1, none⟩ (.slice Ao28 t227.length co28))) := ⟨by repeat (first | (with_reducible first | exact HB.out | apply below_alloc | apply pw_below_drewN | apply below_drew1 | refine below_set ?_ GE218.out | refine below_set ?_ GE225.out | refine below_set ?_ GE231.out) | exact HB.out)⟩
          (try clear HO223)
          (try clear HO229)
          (try clear BK218)
          (try clear BK225)
          (try clear BK231)
          (try clear HB)
          generalize ((w24.setCell ⟨gb231, 0, none⟩ (.int .i64 t226)).setCell ⟨gb231, 1, none⟩ (.slice Ao28 t227.length co28)) = w29 at n0_ n1_ n2_ n3_ n4_ n5_ ⊢
          have HO223 := n0_
          have HO229 := n1_
          have BK218 := n2_
          have BK225 := n3_
          have BK231 := n4_
          have HB := n5_
          clear n0_ n1_ n2_ n3_ n4_ n5_
          have n0_ := Aside0.mk (Kd.R_drew HO223.out)
          have n1_ := Aside0.mk (Kd.R_drew HO229.out)
          have n2_ := Aside0.mk (blk_drew BK218.out)
          have n3_ := Aside0.mk (blk_drew BK225.out)
          have n4_ := Aside0.mk (blk_drew BK231.out)
          have n5_ := Aside0.mk (below_drew1 HB.out)
          clear HO223
          clear HO229
          clear BK218
          clear BK225
          clear BK231
          clear HB
          have HO223 := n0_
          have HO229 := n1_
          have BK218 := n2_
          have BK225 := n3_
          have BK231 := n4_
          have HB := n5_
          clear n0_ n1_ n2_ n3_ n4_ n5_
          refine start_ (n := 18) (S := fun w' => w'.cell? ⟨gb225, 0, none⟩ = some (.int .i64 t220) ∧ w'.cell? ⟨gb225, 1, none⟩ = some (.slice Ao21 t221.length co21) ∧ w'.cell? ⟨gb231, 0, none⟩ = some (.int .i64 t226) ∧ w'.cell? ⟨gb231, 1, none⟩ = some (.slice Ao28 t227.length co28) ∧ w'.cell? ⟨gb218, 0, none⟩ = some (.int .i64 a0_0) ∧ w'.cell? ⟨gb218, 1, none⟩ = some (.slice A0_1 l0_1.length c0_1)) (ds := []) #[false, false, false, false, false, false, false, false, false, false, false, false, false, false, false, false, false, false] (by kernel_rfl) rfl rfl ⟨(blk_cell BK225.out 0).trans rfl, (blk_cell BK225.out 1).trans rfl, (blk_cell BK231.out 0).trans rfl, (blk_cell BK231.out 1).trans rfl, (blk_cell BK218.out 0).trans rfl, (blk_cell BK218.out 1).trans rfl⟩ (fun hHeld => ?_); refine with_tabW estoverslaw01_BitsetSets.tab5 estoverslaw01_BitsetSets.bits5 (fun HT_ HW_ => ?_)
          generalize w29.drew = w30 at HO223 HO229 BK218 BK225 BK231 HB hHeld ⊢
          refine pure_ (i := 0) (N := some 27) (v := ?_) (a' := ?_) #[true, false, false, false, false, false, false, false, false, false, false, false, false, false, false, false, false, false] rfl rfl (any_of HT_.out (by kernel_rfl)) (fun _ _ _ h => h) (Or.inl ⟨by rfl, ?_⟩) ?_ ?_
          rotate_left
          · intro w'
            go_simp
            with_reducible rfl
          rotate_left
          · simp only [Act.put, List.setIfInBounds_toArray, List.set_cons_zero, List.set_cons_succ, i64_w, i32_w]
            rfl
          refine pure_ (i := 1) (N := some 28) (v := ?_) (a' := ?_) #[true, true, false, false, false, false, false, false, false, false, false, false, false, false, false, false, false, false] rfl rfl (any_of HT_.out (by kernel_rfl)) (fun _ _ _ h => h) (Or.inl ⟨by rfl, ?_⟩) ?_ ?_
          rotate_left
          · intro w'
            go_simp
            with_reducible rfl
          rotate_left
          · simp only [Act.put, List.setIfInBounds_toArray, List.set_cons_zero, List.set_cons_succ, i64_w, i32_w]
            rfl
          refine pure_ (i := 2) (N := some 29) (v := ?_) (a' := ?_) #[true, true, true, false, false, false, false, false, false, false, false, false, false, false, false, false, false, false] rfl rfl (any_of HT_.out (by kernel_rfl)) (fun _ _ _ h => h) (Or.inl ⟨by rfl, ?_⟩) ?_ ?_
          rotate_left
          · intro w'
            go_simp
            with_reducible rfl
          rotate_left
          · simp only [Act.put, List.setIfInBounds_toArray, List.set_cons_zero, List.set_cons_succ, i64_w, i32_w]
            rfl
          refine pure_ (i := 3) (N := some 30) (v := ?_) (a' := ?_) #[true, true, true, true, false, false, false, false, false, false, false, false, false, false, false, false, false, false] rfl rfl (any_of HT_.out (by kernel_rfl)) (fun _ _ _ h => h) (Or.inl ⟨by rfl, ?_⟩) ?_ ?_
          rotate_left
          · intro w'
            go_simp
            with_reducible rfl
          rotate_left
          · simp only [Act.put, List.setIfInBounds_toArray, List.set_cons_zero, List.set_cons_succ, i64_w, i32_w]
            rfl
          refine take_ (i := 4) (N := some 31) (v := ?_) (a' := ?_) #[true, true, true, true, true, false, false, false, false, false, false, false, false, false, false, false, false, false] rfl rfl (take_ofW HT_.out HW_.out (by kernel_rfl)) (fun _ _ _ h => h) (Or.inl ⟨by rfl, ?_⟩) hHeld ?_ ?_
          rotate_left
          · rintro w' ⟨s0, s1, s2, s3, s4, s5⟩
            go_simp
            with_reducible rfl
          rotate_left
          · simp only [Act.put, List.setIfInBounds_toArray, List.set_cons_zero, List.set_cons_succ, i64_w, i32_w]
            rfl
          refine take_ (i := 5) (N := some 32) (v := ?_) (a' := ?_) #[true, true, true, true, true, true, false, false, false, false, false, false, false, false, false, false, false, false] rfl rfl (take_ofW HT_.out HW_.out (by kernel_rfl)) (fun _ _ _ h => h) (Or.inl ⟨by rfl, ?_⟩) hHeld ?_ ?_
          rotate_left
          · rintro w' ⟨s0, s1, s2, s3, s4, s5⟩
            go_simp
            with_reducible rfl
          rotate_left
          · simp only [Act.put, List.setIfInBounds_toArray, List.set_cons_zero, List.set_cons_succ, i64_w, i32_w]
            rfl
          refine one_ (i := 6) (N := some 33) #[true, true, true, true, true, true, true, false, false, false, false, false, false, false, false, false, false, false] rfl rfl (one_of HT_.out (by kernel_rfl)) (by decide) (fun K hK => ?_)
          refine goes_ Tryd.func16 (by kernel_rfl) rfl #[.agg #[.int .i64 t220, .slice Ao21 t221.length co21], .agg #[.int .i64 t226, .slice Ao28 t227.length co28]] (by rfl) rfl rfl (by (try simp only [List.map_toArray, List.map_cons, List.map_nil]); first | done | rfl | (simp only [List.length_drop, List.length_take]; rfl)) ?_
          with_reducible refine (estoversref01_Same.calls k t220 _ _ t221 t226 _ _ t227 true _ ?side1 ?side2 ?side3 ?side4 A9.out).mono ?_
          (case side1 => repeat (first | exact (Kd.R_reads' HO223.out).2.2 | (with_reducible refine Kd.C_alloc ?_ _) | (with_reducible refine Kd.C_drewN ?_ _) | (with_reducible refine Kd.C_drew ?_)))
          (case side2 => exact (Kd.R_reads' HO223.out).2.1)
          (case side3 => repeat (first | exact (Kd.R_reads' HO229.out).2.2 | (with_reducible refine Kd.C_alloc ?_ _) | (with_reducible refine Kd.C_drewN ?_ _) | (with_reducible refine Kd.C_drew ?_)))
          (case side4 => exact (Kd.R_reads' HO229.out).2.1)
          rintro e w31 ⟨rfl, hb⟩
          refine ⟨_, rfl, ?_⟩
          have n0_ := Aside0.mk (Kd.R_below (by (with_reducible repeat (first | apply Kd.R_alloc | apply Kd.R_drewN | apply Kd.R_drew)); exact HO223.out) hb)
          have n1_ := Aside0.mk (Kd.R_below (by (with_reducible repeat (first | apply Kd.R_alloc | apply Kd.R_drewN | apply Kd.R_drew)); exact HO229.out) hb)
          have n2_ := Aside0.mk (blk_below (g := gb218) (o := .cells #[.int .i64 a0_0, .slice A0_1 l0_1.length c0_1] 24 (0, 0)) (by (with_reducible repeat (first | refine blk_drewN ?_ _ | refine blk_drew ?_ | refine blk_alloc ?_ _)); exact BK218.out) hb)
          have n3_ := Aside0.mk (blk_below (g := gb225) (o := .cells #[.int .i64 t220, .slice Ao21 t221.length co21] 24 (0, 0)) (by (with_reducible repeat (first | refine blk_drewN ?_ _ | refine blk_drew ?_ | refine blk_alloc ?_ _)); exact BK225.out) hb)
          have n4_ := Aside0.mk (blk_below (g := gb231) (o := .cells #[.int .i64 t226, .slice Ao28 t227.length co28] 24 (0, 0)) (by (with_reducible repeat (first | refine blk_drewN ?_ _ | refine blk_drew ?_ | refine blk_alloc ?_ _)); exact BK231.out) hb)
          have n5_ := Aside0.mk (below_step (by repeat (first | (with_reducible first | exact HB.out | apply below_alloc | apply pw_below_drewN | apply below_drew1 | refine below_set ?_ GE218.out | refine below_set ?_ GE225.out | refine below_set ?_ GE231.out) | exact HB.out)) hb)
          clear HO223
          clear HO229
          clear BK218
          clear BK225
          clear BK231
          clear HB
          have HO223 := n0_
          have HO229 := n1_
          have BK218 := n2_
          have BK225 := n3_
          have BK231 := n4_
          have HB := n5_
          clear n0_ n1_ n2_ n3_ n4_ n5_
          (try clear hb)
          (try clear hb2)
          (try clear hk)
          (try clear hi)
          refine hK.out _ _ ⟨(blk_cell BK225.out 0).trans rfl, (blk_cell BK225.out 1).trans rfl, (blk_cell BK231.out 0).trans rfl, (blk_cell BK231.out 1).trans rfl, (blk_cell BK218.out 0).trans rfl, (blk_cell BK218.out 1).trans rfl⟩ (fun hHeld => ?_)
          clear hK K
          refine norm_ (a' := ?_) ?_ ?_
          rotate_left
          · show Act.put _ (some 33) _ = _
            simp only [Act.put, List.setIfInBounds_toArray, List.set_cons_zero, List.set_cons_succ, i64_w, i32_w]
            rfl
          refine pure_ (i := 7) (N := some 34) (v := ?_) (a' := ?_) #[true, true, true, true, true, true, true, true, false, false, false, false, false, false, false, false, false, false] rfl rfl (any_of HT_.out (by kernel_rfl)) (fun _ _ _ h => h) (Or.inl ⟨by rfl, ?_⟩) ?_ ?_
          rotate_left
          · intro w'
            go_simp
            with_reducible rfl
          rotate_left
          · simp only [Act.put, List.setIfInBounds_toArray, List.set_cons_zero, List.set_cons_succ, i64_w, i32_w]
            rfl
          refine pure_ (i := 8) (N := some 35) (v := ?_) (a' := ?_) #[true, true, true, true, true, true, true, true, true, false, false, false, false, false, false, false, false, false] rfl rfl (any_of HT_.out (by kernel_rfl)) (fun _ _ _ h => h) (Or.inl ⟨by rfl, ?_⟩) ?_ ?_
          rotate_left
          · intro w'
            go_simp
            with_reducible rfl
          rotate_left
          · simp only [Act.put, List.setIfInBounds_toArray, List.set_cons_zero, List.set_cons_succ, i64_w, i32_w]
            rfl
          refine pure_ (i := 9) (N := some 36) (v := ?_) (a' := ?_) #[true, true, true, true, true, true, true, true, true, true, false, false, false, false, false, false, false, false] rfl rfl (any_of HT_.out (by kernel_rfl)) (fun _ _ _ h => h) (Or.inl ⟨by rfl, ?_⟩) ?_ ?_
          rotate_left
          · intro w'
            go_simp
            with_reducible rfl
          rotate_left
          · simp only [Act.put, List.setIfInBounds_toArray, List.set_cons_zero, List.set_cons_succ, i64_w, i32_w]
            rfl
          refine pure_ (i := 11) (N := some 38) (v := ?_) (a' := ?_) #[true, true, true, true, true, true, true, true, true, true, false, true, false, false, false, false, false, false] rfl rfl (any_of HT_.out (by kernel_rfl)) (fun _ _ _ h => h) (Or.inl ⟨by rfl, ?_⟩) ?_ ?_
          rotate_left
          · intro w'
            go_simp
            with_reducible rfl
          rotate_left
          · simp only [Act.put, List.setIfInBounds_toArray, List.set_cons_zero, List.set_cons_succ, i64_w, i32_w]
            rfl
          refine pure_ (i := 14) (N := some 41) (v := ?_) (a' := ?_) #[true, true, true, true, true, true, true, true, true, true, false, true, false, false, true, false, false, false] rfl rfl (any_of HT_.out (by kernel_rfl)) (fun _ _ _ h => h) (Or.inl ⟨by rfl, ?_⟩) ?_ ?_
          rotate_left
          · intro w'
            go_simp
            with_reducible rfl
          rotate_left
          · simp only [Act.put, List.setIfInBounds_toArray, List.set_cons_zero, List.set_cons_succ, i64_w, i32_w]
            rfl
          refine take_ (i := 10) (N := some 37) (v := ?_) (a' := ?_) #[true, true, true, true, true, true, true, true, true, true, true, true, false, false, true, false, false, false] rfl rfl (take_ofW HT_.out HW_.out (by kernel_rfl)) (fun _ _ _ h => h) (Or.inl ⟨by rfl, ?_⟩) hHeld ?_ ?_
          rotate_left
          · rintro w' ⟨s0, s1, s2, s3, s4, s5⟩
            go_simp
            with_reducible rfl
          rotate_left
          · simp only [Act.put, List.setIfInBounds_toArray, List.set_cons_zero, List.set_cons_succ, i64_w, i32_w]
            rfl
          refine take_ (i := 13) (N := some 40) (v := ?_) (a' := ?_) #[true, true, true, true, true, true, true, true, true, true, true, true, false, true, true, false, false, false] rfl rfl (take_ofW HT_.out HW_.out (by kernel_rfl)) (fun _ _ _ h => h) (Or.inl ⟨by rfl, ?_⟩) hHeld ?_ ?_
          rotate_left
          · rintro w' ⟨s0, s1, s2, s3, s4, s5⟩
            go_simp
            with_reducible rfl
          rotate_left
          · simp only [Act.put, List.setIfInBounds_toArray, List.set_cons_zero, List.set_cons_succ, i64_w, i32_w]
            rfl
          refine one_ (i := 12) (N := some 39) #[true, true, true, true, true, true, true, true, true, true, true, true, true, true, true, false, false, false] rfl rfl (one_of HT_.out (by kernel_rfl)) (by decide) (fun K hK => ?_)
          refine goes_ Tryd.func19 (by kernel_rfl) rfl #[.agg #[.int .i64 a0_0, .slice A0_1 l0_1.length c0_1], .int .i64 a1] (by rfl) rfl rfl (by (try simp only [List.map_toArray, List.map_cons, List.map_nil]); first | done | rfl | (simp only [List.length_drop, List.length_take]; rfl)) ?_
          with_reducible refine (bitset_Get.calls k a0_0 _ _ l0_1 a1 t233 _ ?side1 ?side2 A11.out).mono ?_
          (case side1 => repeat (first | exact (Kd.C_below HR0_1.out HB.out) | (with_reducible refine Kd.C_alloc ?_ _) | (with_reducible refine Kd.C_drewN ?_ _) | (with_reducible refine Kd.C_drew ?_)))
          (case side2 => exact HC0_1.out)
          rintro e w32 ⟨rfl, hb⟩
          refine ⟨_, rfl, ?_⟩
          have n0_ := Aside0.mk (Kd.R_below (by (with_reducible repeat (first | apply Kd.R_alloc | apply Kd.R_drewN | apply Kd.R_drew)); exact HO223.out) hb)
          have n1_ := Aside0.mk (Kd.R_below (by (with_reducible repeat (first | apply Kd.R_alloc | apply Kd.R_drewN | apply Kd.R_drew)); exact HO229.out) hb)
          have n2_ := Aside0.mk (blk_below (g := gb218) (o := .cells #[.int .i64 a0_0, .slice A0_1 l0_1.length c0_1] 24 (0, 0)) (by (with_reducible repeat (first | refine blk_drewN ?_ _ | refine blk_drew ?_ | refine blk_alloc ?_ _)); exact BK218.out) hb)
          have n3_ := Aside0.mk (blk_below (g := gb225) (o := .cells #[.int .i64 t220, .slice Ao21 t221.length co21] 24 (0, 0)) (by (with_reducible repeat (first | refine blk_drewN ?_ _ | refine blk_drew ?_ | refine blk_alloc ?_ _)); exact BK225.out) hb)
          have n4_ := Aside0.mk (blk_below (g := gb231) (o := .cells #[.int .i64 t226, .slice Ao28 t227.length co28] 24 (0, 0)) (by (with_reducible repeat (first | refine blk_drewN ?_ _ | refine blk_drew ?_ | refine blk_alloc ?_ _)); exact BK231.out) hb)
          have n5_ := Aside0.mk (below_step (by repeat (first | (with_reducible first | exact HB.out | apply below_alloc | apply pw_below_drewN | apply below_drew1 | refine below_set ?_ GE218.out | refine below_set ?_ GE225.out | refine below_set ?_ GE231.out) | exact HB.out)) hb)
          clear HO223
          clear HO229
          clear BK218
          clear BK225
          clear BK231
          clear HB
          have HO223 := n0_
          have HO229 := n1_
          have BK218 := n2_
          have BK225 := n3_
          have BK231 := n4_
          have HB := n5_
          clear n0_ n1_ n2_ n3_ n4_ n5_
          (try clear hb)
          (try clear hb2)
          (try clear hk)
          (try clear hi)
          refine hK.out _ _ ⟨(blk_cell BK225.out 0).trans rfl, (blk_cell BK225.out 1).trans rfl, (blk_cell BK231.out 0).trans rfl, (blk_cell BK231.out 1).trans rfl, (blk_cell BK218.out 0).trans rfl, (blk_cell BK218.out 1).trans rfl⟩ (fun hHeld => ?_)
          clear hK K
          refine norm_ (a' := ?_) ?_ ?_
          rotate_left
          · show Act.put _ (some 39) _ = _
            simp only [Act.put, List.setIfInBounds_toArray, List.set_cons_zero, List.set_cons_succ, i64_w, i32_w]
            rfl
          refine one_ (i := 15) (N := some 42) #[true, true, true, true, true, true, true, true, true, true, true, true, true, true, true, true, false, false] rfl rfl (one_of HT_.out (by kernel_rfl)) (by decide) (fun K hK => ?_)
          refine goes_ Tryd.func20 (by kernel_rfl) rfl #[.agg #[.int .i64 a0_0, .slice A0_1 l0_1.length c0_1], .int .i64 a1] (by rfl) rfl rfl (by (try simp only [List.map_toArray, List.map_cons, List.map_nil]); first | done | rfl | (simp only [List.length_drop, List.length_take]; rfl)) ?_
          with_reducible refine (estoversref01_Get.calls k a0_0 _ _ l0_1 a1 t234 _ ?side1 ?side2 A12.out).mono ?_
          (case side1 => repeat (first | exact (Kd.C_below HR0_1.out HB.out) | (with_reducible refine Kd.C_alloc ?_ _) | (with_reducible refine Kd.C_drewN ?_ _) | (with_reducible refine Kd.C_drew ?_)))
          (case side2 => exact HC0_1.out)
          rintro e w33 ⟨rfl, hb⟩
          refine ⟨_, rfl, ?_⟩
          have n0_ := Aside0.mk (Kd.R_below (by (with_reducible repeat (first | apply Kd.R_alloc | apply Kd.R_drewN | apply Kd.R_drew)); exact HO223.out) hb)
          have n1_ := Aside0.mk (Kd.R_below (by (with_reducible repeat (first | apply Kd.R_alloc | apply Kd.R_drewN | apply Kd.R_drew)); exact HO229.out) hb)
          have n2_ := Aside0.mk (blk_below (g := gb218) (o := .cells #[.int .i64 a0_0, .slice A0_1 l0_1.length c0_1] 24 (0, 0)) (by (with_reducible repeat (first | refine blk_drewN ?_ _ | refine blk_drew ?_ | refine blk_alloc ?_ _)); exact BK218.out) hb)
          have n3_ := Aside0.mk (blk_below (g := gb225) (o := .cells #[.int .i64 t220, .slice Ao21 t221.length co21] 24 (0, 0)) (by (with_reducible repeat (first | refine blk_drewN ?_ _ | refine blk_drew ?_ | refine blk_alloc ?_ _)); exact BK225.out) hb)
          have n4_ := Aside0.mk (blk_below (g := gb231) (o := .cells #[.int .i64 t226, .slice Ao28 t227.length co28] 24 (0, 0)) (by (with_reducible repeat (first | refine blk_drewN ?_ _ | refine blk_drew ?_ | refine blk_alloc ?_ _)); exact BK231.out) hb)
          have n5_ := Aside0.mk (below_step (by repeat (first | (with_reducible first | exact HB.out | apply below_alloc | apply pw_below_drewN | apply below_drew1 | refine below_set ?_ GE218.out | refine below_set ?_ GE225.out | refine below_set ?_ GE231.out) | exact HB.out)) hb)
          clear HO223
          clear HO229
          clear BK218
          clear BK225
          clear BK231
          clear HB
          have HO223 := n0_
          have HO229 := n1_
          have BK218 := n2_
          have BK225 := n3_
          have BK231 := n4_
          have HB := n5_
          clear n0_ n1_ n2_ n3_ n4_ n5_
          (try clear hb)
          (try clear hb2)
          (try clear hk)
          (try clear hi)
          refine hK.out _ _ ⟨(blk_cell BK225.out 0).trans rfl, (blk_cell BK225.out 1).trans rfl, (blk_cell BK231.out 0).trans rfl, (blk_cell BK231.out 1).trans rfl, (blk_cell BK218.out 0).trans rfl, (blk_cell BK218.out 1).trans rfl⟩ (fun hHeld => ?_)
          clear hK K
          refine norm_ (a' := ?_) ?_ ?_
          rotate_left
          · show Act.put _ (some 42) _ = _
            simp only [Act.put, List.setIfInBounds_toArray, List.set_cons_zero, List.set_cons_succ, i64_w, i32_w]
            rfl
          refine pure_ (i := 16) (N := some 43) (v := ?_) (a' := ?_) #[true, true, true, true, true, true, true, true, true, true, true, true, true, true, true, true, true, false] rfl rfl (any_of HT_.out (by kernel_rfl)) (fun _ _ _ h => h) (Or.inl ⟨by rfl, ?_⟩) ?_ ?_
          rotate_left
          · intro w'
            go_simp
            with_reducible rfl
          rotate_left
          · simp only [Act.put, List.setIfInBounds_toArray, List.set_cons_zero, List.set_cons_succ, i64_w, i32_w]
            rfl
          refine pure_ (i := 17) (N := some 44) (v := ?_) (a' := ?_) #[true, true, true, true, true, true, true, true, true, true, true, true, true, true, true, true, true, true] rfl rfl (any_of HT_.out (by kernel_rfl)) (fun _ _ _ h => h) (Or.inl ⟨by rfl, ?_⟩) ?_ ?_
          rotate_left
          · intro w'
            go_simp
            with_reducible rfl
          rotate_left
          · simp only [Act.put, List.setIfInBounds_toArray, List.set_cons_zero, List.set_cons_succ, i64_w, i32_w]
            rfl
          refine done_ (done_of HT_.out (by kernel_rfl)) ?_
          try go_wp2
          go_ret
          exact ⟨by first | rfl | (simp [errW_none, errW_some] <;> rfl) | (simp [*, errW_none, errW_some] <;> rfl), by repeat (first | (with_reducible first | exact HB.out | apply below_alloc | apply pw_below_drewN | apply below_drew1 | refine below_set ?_ GE218.out | refine below_set ?_ GE225.out | refine below_set ?_ GE231.out) | exact HB.out)⟩
        · rw [if_neg c13] at H
          have c13b0 : (t233 != t234) = false := by simpa using c13
          (try (have c13b1 : decide (t233 = t234) = true := by simpa using c13))
          (try (have c13b2 : (t233 == t234) = true := by simpa using c13))
          clear c13
          by_cases c34 : t224 = 0
          · rw [if_pos c34] at H
            have c34b0 : (t224 == 0) = true := beq_iff_eq.mpr c34
            have c34b1 : (t224 != 0) = false := bne_eq_false_iff_eq.mpr c34
            clear c34
            replace H := Option.bind_eq_some_iff.mp H
            obtain ⟨t235, A350, H⟩ := H
            replace H : (some (t235 == a2)) = some r := H
            have A35 := Aside0.mk A350
            clear A350
            obtain rfl := Option.some.inj H
            go_enter Tryd.func4, Tryd.ntmps4
            try go_wp2_with (first | ((with_reducible refine gate_dst (N := 3) rfl ?_); refine box_event ?hg (N := 3) ?hd (cs := #[.int .i64 a0_0, .slice A0_1 l0_1.length c0_1]) (t := 24) ?hr ?_; (case hd => rfl); (case hg => rfl); (case hr => first | (go_simp; done) | (go_simp; rfl)); intro gb218 hg w36 hbox hb; have n0_ := Aside0.mk (below_step (by repeat (first | (with_reducible first | exact HB.out | apply below_alloc | apply pw_below_drewN | apply below_drew1) | exact HB.out)) hb); have n1_ := Aside0.mk (hbox); have n2_ := Aside0.mk ((by rw [hg]; exact (below_size (by repeat (first | (with_reducible first | exact HB.out | apply below_alloc | apply pw_below_drewN | apply below_drew1) | exact HB.out))) : w.heap.size ≤ gb218)); have n3_ := Aside0.mk ((by rw [hg]; exact (below_size (by repeat (first | (with_reducible first | exact HB.out | apply below_alloc | apply pw_below_drewN | apply below_drew1) | exact HB.out))) : w.heap.size ≤ gb218)); clear HB; have HB := n0_; have BK218 := n1_; have GW218 := n2_; have GE218 := n3_; clear n0_ n1_ n2_ n3_; clear hb hbox hg) | ((with_reducible refine gate_callee (f := 11) rfl ?_); refine goesL_ (some 11) rfl rfl Tryd.func11 (by kernel_rfl) rfl #[] rfl (by (try simp only [List.map_toArray, List.map_cons, List.map_nil]); first | done | rfl | (simp only [List.length_drop, List.length_take]; rfl)) ?_; (with_reducible refine (estoverslaw01_awake.calls k  true _ A4.out (TabW.below HT (by repeat (first | (with_reducible first | exact HB.out | apply below_alloc | apply pw_below_drewN | apply below_drew1 | refine below_set ?_ GE218.out | refine below_set ?_ GE225.out | refine below_set ?_ GE231.out) | exact HB.out)))).mono ?_); rintro e w37 ⟨rfl, hb⟩; refine ⟨_, rfl, ?_⟩; have n0_ := Aside0.mk (blk_below (g := gb218) (o := .cells #[.int .i64 a0_0, .slice A0_1 l0_1.length c0_1] 24 (0, 0)) (by (with_reducible repeat (first | refine blk_drewN ?_ _ | refine blk_drew ?_ | refine blk_alloc ?_ _)); exact BK218.out) hb); have n1_ := Aside0.mk (below_step (by repeat (first | (with_reducible first | exact HB.out | apply below_alloc | apply pw_below_drewN | apply below_drew1 | refine below_set ?_ GE218.out) | exact HB.out)) hb); clear BK218; clear HB; have BK218 := n0_; have HB := n1_; clear n0_ n1_; (try clear hb); (try clear hb2); (try clear hk); (try clear hi); have hcz38_0 : w37.cell? ⟨gb218, 0, none⟩ = some (.int .i64 a0_0) := (blk_cell BK218.out 0).trans rfl; have hcz38_1 : w37.cell? ⟨gb218, 1, none⟩ = some (.slice A0_1 l0_1.length c0_1) := (blk_cell BK218.out 1).trans rfl; have hfz38_0 := blk_frozen BK218.out 0; have hfz38_1 := blk_frozen BK218.out 1) | ((with_reducible refine gate_callee (f := 17) rfl ?_); refine goesL_ (some 17) rfl rfl Tryd.func17 (by kernel_rfl) rfl #[.agg #[.int .i64 a0_0, .slice A0_1 l0_1.length c0_1], .int .i64 a1, .bool a2] rfl (by (try simp only [List.map_toArray, List.map_cons, List.map_nil]); first | done | rfl | (simp only [List.length_drop, List.length_take]; rfl)) ?_; (with_reducible refine (bitset_Set.calls k a0_0 _ _ l0_1 a1 a2 t220 t221 t224 _ ?side1 ?side2 A6.out).mono ?_); (case side1 => repeat (first | exact (Kd.C_below HR0_1.out HB.out) | (with_reducible refine Kd.C_alloc ?_ _) | (with_reducible refine Kd.C_drewN ?_ _) | (with_reducible refine Kd.C_drew ?_))); (case side2 => exact HC0_1.out); rintro e w39 ⟨v222, rfl, ho0, hb⟩; refine ⟨_, rfl, ?_⟩; have n0_ := Aside0.mk (Kd.R_lower ho0 (below_size (by repeat (first | (with_reducible first | exact HB.out | apply below_alloc | apply pw_below_drewN | apply below_drew1 | refine below_set ?_ GE218.out) | exact HB.out)))); have n1_ := Aside0.mk (blk_below (g := gb218) (o := .cells #[.int .i64 a0_0, .slice A0_1 l0_1.length c0_1] 24 (0, 0)) (by (with_reducible repeat (first | refine blk_drewN ?_ _ | refine blk_drew ?_ | refine blk_alloc ?_ _)); exact BK218.out) hb); have n2_ := Aside0.mk (below_step (by repeat (first | (with_reducible first | exact HB.out | apply below_alloc | apply pw_below_drewN | apply below_drew1 | refine below_set ?_ GE218.out) | exact HB.out)) hb); clear BK218; clear HB; have HO223 := n0_; have BK218 := n1_; have HB := n2_; clear n0_ n1_ n2_; (try clear hb); (try clear hb2); (try clear hk); (try clear hi); (try clear ho0)) | ((with_reducible refine gate_dst (N := 7) rfl ?_); refine box_event ?hg (N := 7) ?hd (cs := #[.int .i64 0, .slice none 0 0]) (t := 24) ?hr ?_; (case hd => rfl); (case hg => rfl); (case hr => first | (go_simp; done) | (go_simp; rfl)); intro gb225 hg w40 hbox hb; have n0_ := Aside0.mk (Kd.R_below (by (with_reducible repeat (first | apply Kd.R_alloc | apply Kd.R_drewN | apply Kd.R_drew)); exact HO223.out) hb); have n1_ := Aside0.mk (blk_below (g := gb218) (o := .cells #[.int .i64 a0_0, .slice A0_1 l0_1.length c0_1] 24 (0, 0)) (by (with_reducible repeat (first | refine blk_drewN ?_ _ | refine blk_drew ?_ | refine blk_alloc ?_ _)); exact BK218.out) hb); have n2_ := Aside0.mk (below_step (by repeat (first | (with_reducible first | exact HB.out | apply below_alloc | apply pw_below_drewN | apply below_drew1 | refine below_set ?_ GE218.out) | exact HB.out)) hb); have n3_ := Aside0.mk (hbox); have n4_ := Aside0.mk ((by rw [hg]; exact (below_size (by repeat (first | (with_reducible first | exact HB.out | apply below_alloc | apply pw_below_drewN | apply below_drew1 | refine below_set ?_ GE218.out) | exact HB.out))) : w.heap.size ≤ gb225)); have n5_ := Aside0.mk ((by rw [hg]; exact (below_size (by repeat (first | (with_reducible first | exact HB.out | apply below_alloc | apply pw_below_drewN | apply below_drew1 | refine below_set ?_ GE218.out) | exact HB.out))) : w.heap.size ≤ gb225)); have n6_ := Aside0.mk ((by rw [hg]; exact Nat.ne_of_lt (blk_lt (g := gb218) (o := .cells #[.int .i64 a0_0, .slice A0_1 l0_1.length c0_1] 24 (0, 0)) (by (with_reducible repeat (first | refine blk_drewN ?_ _ | refine blk_drew ?_ | refine blk_alloc ?_ _)); exact BK218.out)) : gb218 ≠ gb225)); have n7_ := Aside0.mk ((by rw [hg]; exact Nat.ne_of_gt (blk_lt (g := gb218) (o := .cells #[.int .i64 a0_0, .slice A0_1 l0_1.length c0_1] 24 (0, 0)) (by (with_reducible repeat (first | refine blk_drewN ?_ _ | refine blk_drew ?_ | refine blk_alloc ?_ _)); exact BK218.out)) : gb225 ≠ gb218)); clear HO223; clear BK218; clear HB; have HO223 := n0_; have BK218 := n1_; have HB := n2_; have BK225 := n3_; have GW225 := n4_; have GE225 := n5_; have NB218_225 := n6_; have NB225_218 := n7_; clear n0_ n1_ n2_ n3_ n4_ n5_ n6_ n7_; clear hb hbox hg; have hnb41 := NB225_218.out; have hnc41 := NB218_225.out; have hcz42_0 : w40.cell? ⟨gb225, 0, none⟩ = some (.int .i64 0) := (blk_cell BK225.out 0).trans rfl; have hcz42_1 : w40.cell? ⟨gb225, 1, none⟩ = some (.slice none 0 0) := (blk_cell BK225.out 1).trans rfl; have hfz42_0 := blk_frozen BK225.out 0; have hfz42_1 := blk_frozen BK225.out 1; obtain ⟨Ao43, co43, eo43⟩ := Kd.R_slice HO223.out; subst eo43; have hcz44_0 : w40.cell? ⟨gb218, 0, none⟩ = some (.int .i64 a0_0) := (blk_cell BK218.out 0).trans rfl; have hcz44_1 : w40.cell? ⟨gb218, 1, none⟩ = some (.slice A0_1 l0_1.length c0_1) := (blk_cell BK218.out 1).trans rfl; have hfz44_0 := blk_frozen BK218.out 0; have hfz44_1 := blk_frozen BK218.out 1) | ((with_reducible refine gate_callee (f := 18) rfl ?_); refine goesL_ (some 24) rfl rfl Tryd.func18 (by kernel_rfl) rfl #[.agg #[.int .i64 a0_0, .slice A0_1 l0_1.length c0_1], .int .i64 a1, .bool a2] rfl (by (try simp only [List.map_toArray, List.map_cons, List.map_nil]); first | done | rfl | (simp only [List.length_drop, List.length_take]; rfl)) ?_; (with_reducible refine (estoversref01_Set.calls k a0_0 _ _ l0_1 a1 a2 t226 t227 t230 _ ?side1 ?side2 A7.out).mono ?_); (case side1 => exact Kd.C_below HR0_1.out (by repeat (first | (with_reducible first | exact HB.out | apply below_alloc | apply pw_below_drewN | apply below_drew1 | refine below_set ?_ GE218.out | refine below_set ?_ GE225.out) | exact HB.out))); (case side2 => exact HC0_1.out); rintro e w45 ⟨v228, rfl, ho0, hb⟩; refine ⟨_, rfl, ?_⟩; have n0_ := Aside0.mk (Kd.R_elder' (by (with_reducible repeat (first | apply Kd.R_alloc | apply Kd.R_drewN | apply Kd.R_drew)); exact (Kd.R_mono (Kd.R_far (p := ⟨gb225, 1, none⟩) (Kd.R_far (p := ⟨gb225, 0, none⟩) (Kd.R_types HO223.out BK225.out (by decide)) (fun _ hk => hk.2) (.int .i64 t220)) (fun _ hk => hk.2) (.slice Ao43 t221.length co43)) (fun _ h_ => h_.1))) (Kd.R_base ho0) hb); have n1_ := Aside0.mk (Kd.R_lower (Kd.R_new' ho0 (Kd.R_lt (by (with_reducible repeat (first | apply Kd.R_alloc | apply Kd.R_drewN | apply Kd.R_drew)); exact (Kd.R_mono (Kd.R_far (p := ⟨gb225, 1, none⟩) (Kd.R_far (p := ⟨gb225, 0, none⟩) (Kd.R_types HO223.out BK225.out (by decide)) (fun _ hk => hk.2) (.int .i64 t220)) (fun _ hk => hk.2) (.slice Ao43 t221.length co43)) (fun _ h_ => h_.1))))) (below_size (by repeat (first | (with_reducible first | exact HB.out | apply below_alloc | apply pw_below_drewN | apply below_drew1 | refine below_set ?_ GE218.out | refine below_set ?_ GE225.out) | exact HB.out)))); have n2_ := Aside0.mk (blk_below (g := gb218) (o := .cells #[.int .i64 a0_0, .slice A0_1 l0_1.length c0_1] 24 (0, 0)) (by (with_reducible repeat (first | refine blk_drewN ?_ _ | refine blk_drew ?_ | refine blk_alloc ?_ _)); refine blk_far ?_ NB218_225.out _; (with_reducible repeat (first | refine blk_drewN ?_ _ | refine blk_drew ?_ | refine blk_alloc ?_ _)); refine blk_far ?_ NB218_225.out _; (with_reducible repeat (first | refine blk_drewN ?_ _ | refine blk_drew ?_ | refine blk_alloc ?_ _)); exact BK218.out) hb); have n3_ := Aside0.mk (blk_below (g := gb225) (o := .cells #[.int .i64 t220, .slice Ao43 t221.length co43] 24 (0, 0)) (by (with_reducible repeat (first | refine blk_drewN ?_ _ | refine blk_drew ?_ | refine blk_alloc ?_ _)); refine blk_put (cs := #[.int .i64 t220, .slice none 0 0]) ?_ 1 _ rfl; (with_reducible repeat (first | refine blk_drewN ?_ _ | refine blk_drew ?_ | refine blk_alloc ?_ _)); refine blk_put (cs := #[.int .i64 0, .slice none 0 0]) ?_ 0 _ rfl; (with_reducible repeat (first | refine blk_drewN ?_ _ | refine blk_drew ?_ | refine blk_alloc ?_ _)); exact BK225.out) hb); have n4_ := Aside0.mk (below_step (by repeat (first | (with_reducible first | exact HB.out | apply below_alloc | apply pw_below_drewN | apply below_drew1 | refine below_set ?_ GE218.out | refine below_set ?_ GE225.out) | exact HB.out)) hb); clear HO223; clear BK218; clear BK225; clear HB; have HO223 := n0_; have HO229 := n1_; have BK218 := n2_; have BK225 := n3_; have HB := n4_; clear n0_ n1_ n2_ n3_ n4_; (try clear hb); (try clear hb2); (try clear hk); (try clear hi); (try clear ho0)) | ((with_reducible refine gate_dst (N := 9) rfl ?_); refine box_event ?hg (N := 9) ?hd (cs := #[.int .i64 0, .slice none 0 0]) (t := 24) ?hr ?_; (case hd => rfl); (case hg => rfl); (case hr => first | (go_simp; done) | (go_simp; rfl)); intro gb231 hg w46 hbox hb; have n0_ := Aside0.mk (Kd.R_below (by (with_reducible repeat (first | apply Kd.R_alloc | apply Kd.R_drewN | apply Kd.R_drew)); exact HO223.out) hb); have n1_ := Aside0.mk (Kd.R_below (by (with_reducible repeat (first | apply Kd.R_alloc | apply Kd.R_drewN | apply Kd.R_drew)); exact HO229.out) hb); have n2_ := Aside0.mk (blk_below (g := gb218) (o := .cells #[.int .i64 a0_0, .slice A0_1 l0_1.length c0_1] 24 (0, 0)) (by (with_reducible repeat (first | refine blk_drewN ?_ _ | refine blk_drew ?_ | refine blk_alloc ?_ _)); exact BK218.out) hb); have n3_ := Aside0.mk (blk_below (g := gb225) (o := .cells #[.int .i64 t220, .slice Ao43 t221.length co43] 24 (0, 0)) (by (with_reducible repeat (first | refine blk_drewN ?_ _ | refine blk_drew ?_ | refine blk_alloc ?_ _)); exact BK225.out) hb); have n4_ := Aside0.mk (below_step (by repeat (first | (with_reducible first | exact HB.out | apply below_alloc | apply pw_below_drewN | apply below_drew1 | refine below_set ?_ GE218.out | refine below_set ?_ GE225.out) | exact HB.out)) hb); have n5_ := Aside0.mk (hbox); have n6_ := Aside0.mk ((by rw [hg]; exact (below_size (by repeat (first | (with_reducible first | exact HB.out | apply below_alloc | apply pw_below_drewN | apply below_drew1 | refine below_set ?_ GE218.out | refine below_set ?_ GE225.out) | exact HB.out))) : w.heap.size ≤ gb231)); have n7_ := Aside0.mk ((by rw [hg]; exact (below_size (by repeat (first | (with_reducible first | exact HB.out | apply below_alloc | apply pw_below_drewN | apply below_drew1 | refine below_set ?_ GE218.out | refine below_set ?_ GE225.out) | exact HB.out))) : w.heap.size ≤ gb231)); have n8_ := Aside0.mk ((by rw [hg]; exact Nat.ne_of_lt (blk_lt (g := gb218) (o := .cells #[.int .i64 a0_0, .slice A0_1 l0_1.length c0_1] 24 (0, 0)) (by (with_reducible repeat (first | refine blk_drewN ?_ _ | refine blk_drew ?_ | refine blk_alloc ?_ _)); exact BK218.out)) : gb218 ≠ gb231)); have n9_ := Aside0.mk ((by rw [hg]; exact Nat.ne_of_gt (blk_lt (g := gb218) (o := .cells #[.int .i64 a0_0, .slice A0_1 l0_1.length c0_1] 24 (0, 0)) (by (with_reducible repeat (first | refine blk_drewN ?_ _ | refine blk_drew ?_ | refine blk_alloc ?_ _)); exact BK218.out)) : gb231 ≠ gb218)); have n10_ := Aside0.mk ((by rw [hg]; exact Nat.ne_of_lt (blk_lt (g := gb225) (o := .cells #[.int .i64 t220, .slice Ao43 t221.length co43] 24 (0, 0)) (by (with_reducible repeat (first | refine blk_drewN ?_ _ | refine blk_drew ?_ | refine blk_alloc ?_ _)); exact BK225.out)) : gb225 ≠ gb231)); have n11_ := Aside0.mk ((by rw [hg]; exact Nat.ne_of_gt (blk_lt (g := gb225) (o := .cells #[.int .i64 t220, .slice Ao43 t221.length co43] 24 (0, 0)) (by (with_reducible repeat (first | refine blk_drewN ?_ _ | refine blk_drew ?_ | refine blk_alloc ?_ _)); exact BK225.out)) : gb231 ≠ gb225)); clear HO223; clear HO229; clear BK218; clear BK225; clear HB; have HO223 := n0_; have HO229 := n1_; have BK218 := n2_; have BK225 := n3_; have HB := n4_; have BK231 := n5_; have GW231 := n6_; have GE231 := n7_; have NB218_231 := n8_; have NB231_218 := n9_; have NB225_231 := n10_; have NB231_225 := n11_; clear n0_ n1_ n2_ n3_ n4_ n5_ n6_ n7_ n8_ n9_ n10_ n11_; clear hb hbox hg; have hnb47 := NB231_218.out; have hnc47 := NB218_231.out; have hnb48 := NB231_225.out; have hnc48 := NB225_231.out; have hcz49_0 : w46.cell? ⟨gb231, 0, none⟩ = some (.int .i64 0) := (blk_cell BK231.out 0).trans rfl; have hcz49_1 : w46.cell? ⟨gb231, 1, none⟩ = some (.slice none 0 0) := (blk_cell BK231.out 1).trans rfl; have hfz49_0 := blk_frozen BK231.out 0; have hfz49_1 := blk_frozen BK231.out 1; obtain ⟨Ao50, co50, eo50⟩ := Kd.R_slice HO229.out; subst eo50))
            have n0_ : Aside0 (Kd.R (Kd.int .u64) 42 ((w46.setCell ⟨gb231, 0, none⟩ (.int .i64 t226)).setCell ⟨gb231, 1, none⟩ (.slice Ao50 t227.length co50)) w.heap.size (fun k_ => some k_ ≠ (.slice Ao50 t227.length co50 : Value).ownBlock) (.slice Ao43 t221.length co43) t221) := ⟨by (with_reducible repeat (first | apply Kd.R_alloc | apply Kd.R_drewN | apply Kd.R_drew)); exact Kd.R_mono (Kd.R_far (p := ⟨gb231, 1, none⟩) (Kd.R_far (p := ⟨gb231, 0, none⟩) (Kd.R_types HO223.out BK231.out (by decide)) (fun _ hk => hk.2) (.int .i64 t226)) (fun _ hk => hk.2) (.slice Ao50 t227.length co50)) (fun _ hk => hk.1.2)⟩
            have n1_ : Aside0 (Kd.R (Kd.int .u64) 42 ((w46.setCell ⟨gb231, 0, none⟩ (.int .i64 t226)).setCell ⟨gb231, 1, none⟩ (.slice Ao50 t227.length co50)) w.heap.size (fun k_ => some k_ ≠ (.slice Ao43 t221.length co43 : Value).ownBlock) (.slice Ao50 t227.length co50) t227) := ⟨by (with_reducible repeat (first | apply Kd.R_alloc | apply Kd.R_drewN | apply Kd.R_drew)); exact Kd.R_mono (Kd.R_far (p := ⟨gb231, 1, none⟩) (Kd.R_far (p := ⟨gb231, 0, none⟩) (Kd.R_types HO229.out BK231.out (by decide)) (fun _ hk => hk.2) (.int .i64 t226)) (fun _ hk => hk.2) (.slice Ao50 t227.length co50)) (fun _ hk => hk.1.2)⟩
            have n2_ : Aside0 (((w46.setCell ⟨gb231, 0, none⟩ (.int .i64 t226)).setCell ⟨gb231, 1, none⟩ (.slice Ao50 t227.length co50)).heap[gb218]? = some (.cells #[.int .i64 a0_0, .slice A0_1 l0_1.length c0_1] 24 (0, 0))) := ⟨by (with_reducible repeat (first | refine blk_drewN ?_ _ | refine blk_drew ?_ | refine blk_alloc ?_ _)); refine blk_far ?_ NB218_231.out _; (with_reducible repeat (first | refine blk_drewN ?_ _ | refine blk_drew ?_ | refine blk_alloc ?_ _)); refine blk_far ?_ NB218_231.out _; (with_reducible repeat (first | refine blk_drewN ?_ _ | refine blk_drew ?_ | refine blk_alloc ?_ _)); exact BK218.out⟩
            have n3_ : Aside0 (((w46.setCell ⟨gb231, 0, none⟩ (.int .i64 t226)).setCell ⟨gb231, 1, none⟩ (.slice Ao50 t227.length co50)).heap[gb225]? = some (.cells #[.int .i64 t220, .slice Ao43 t221.length co43] 24 (0, 0))) := ⟨by (with_reducible repeat (first | refine blk_drewN ?_ _ | refine blk_drew ?_ | refine blk_alloc ?_ _)); refine blk_far ?_ NB225_231.out _; (with_reducible repeat (first | refine blk_drewN ?_ _ | refine blk_drew ?_ | refine blk_alloc ?_ _)); refine blk_far ?_ NB225_231.out _; (with_reducible repeat (first | refine blk_drewN ?_ _ | refine blk_drew ?_ | refine blk_alloc ?_ _)); exact BK225.out⟩
            have n4_ : Aside0 (((w46.setCell ⟨gb231, 0, none⟩ (.int .i64 t226)).setCell ⟨gb231, 1, none⟩ (.slice Ao50 t227.length co50)).heap[gb231]? = some (.cells #[.int .i64 t226, .slice Ao50 t227.length co50] 24 (0, 0))) := ⟨by (with_reducible repeat (first | refine blk_drewN ?_ _ | refine blk_drew ?_ | refine blk_alloc ?_ _)); refine blk_put (cs := #[.int .i64 t226, .slice none 0 0]) ?_ 1 _ rfl; (with_reducible repeat (first | refine blk_drewN ?_ _ | refine blk_drew ?_ | refine blk_alloc ?_ _)); refine blk_put (cs := #[.int .i64 0, .slice none 0 0]) ?_ 0 _ rfl; (with_reducible repeat (first | refine blk_drewN ?_ _ | refine blk_drew ?_ | refine blk_alloc ?_ _)); exact BK231.out⟩
            have n5_ : Aside0 (Below w.heap.size w ((w46.setCell ⟨gb231, 0, none⟩ (.int .i64 t226)).setCell ⟨gb231, 1, none⟩ (.slice Ao50 t227.length co50))) := ⟨by repeat (first | (with_reducible first | exact HB.out | apply below_alloc | apply pw_below_drewN | apply below_drew1 | refine below_set ?_ GE218.out | refine below_set ?_ GE225.out | refine below_set ?_ GE231.out) | exact HB.out)⟩
            (try clear HO223)
            (try clear HO229)
            (try clear BK218)
            (try clear BK225)
            (try clear BK231)
            (try clear HB)
            generalize ((w46.setCell ⟨gb231, 0, none⟩ (.int .i64 t226)).setCell ⟨gb231, 1, none⟩ (.slice Ao50 t227.length co50)) = w51 at n0_ n1_ n2_ n3_ n4_ n5_ ⊢
            have HO223 := n0_
            have HO229 := n1_
            have BK218 := n2_
            have BK225 := n3_
            have BK231 := n4_
            have HB := n5_
            clear n0_ n1_ n2_ n3_ n4_ n5_
            have n0_ := Aside0.mk (Kd.R_drew HO223.out)
            have n1_ := Aside0.mk (Kd.R_drew HO229.out)
            have n2_ := Aside0.mk (blk_drew BK218.out)
            have n3_ := Aside0.mk (blk_drew BK225.out)
            have n4_ := Aside0.mk (blk_drew BK231.out)
            have n5_ := Aside0.mk (below_drew1 HB.out)
            clear HO223
            clear HO229
            clear BK218
            clear BK225
            clear BK231
            clear HB
            have HO223 := n0_
            have HO229 := n1_
            have BK218 := n2_
            have BK225 := n3_
            have BK231 := n4_
            have HB := n5_
            clear n0_ n1_ n2_ n3_ n4_ n5_
            refine start_ (n := 18) (S := fun w' => w'.cell? ⟨gb225, 0, none⟩ = some (.int .i64 t220) ∧ w'.cell? ⟨gb225, 1, none⟩ = some (.slice Ao43 t221.length co43) ∧ w'.cell? ⟨gb231, 0, none⟩ = some (.int .i64 t226) ∧ w'.cell? ⟨gb231, 1, none⟩ = some (.slice Ao50 t227.length co50) ∧ w'.cell? ⟨gb218, 0, none⟩ = some (.int .i64 a0_0) ∧ w'.cell? ⟨gb218, 1, none⟩ = some (.slice A0_1 l0_1.length c0_1)) (ds := []) #[false, false, false, false, false, false, false, false, false, false, false, false, false, false, false, false, false, false] (by kernel_rfl) rfl rfl ⟨(blk_cell BK225.out 0).trans rfl, (blk_cell BK225.out 1).trans rfl, (blk_cell BK231.out 0).trans rfl, (blk_cell BK231.out 1).trans rfl, (blk_cell BK218.out 0).trans rfl, (blk_cell BK218.out 1).trans rfl⟩ (fun hHeld => ?_); refine with_tabW estoverslaw01_BitsetSets.tab5 estoverslaw01_BitsetSets.bits5 (fun HT_ HW_ => ?_)
            generalize w51.drew = w52 at HO223 HO229 BK218 BK225 BK231 HB hHeld ⊢
            refine pure_ (i := 0) (N := some 27) (v := ?_) (a' := ?_) #[true, false, false, false, false, false, false, false, false, false, false, false, false, false, false, false, false, false] rfl rfl (any_of HT_.out (by kernel_rfl)) (fun _ _ _ h => h) (Or.inl ⟨by rfl, ?_⟩) ?_ ?_
            rotate_left
            · intro w'
              go_simp
              with_reducible rfl
            rotate_left
            · simp only [Act.put, List.setIfInBounds_toArray, List.set_cons_zero, List.set_cons_succ, i64_w, i32_w]
              rfl
            refine pure_ (i := 1) (N := some 28) (v := ?_) (a' := ?_) #[true, true, false, false, false, false, false, false, false, false, false, false, false, false, false, false, false, false] rfl rfl (any_of HT_.out (by kernel_rfl)) (fun _ _ _ h => h) (Or.inl ⟨by rfl, ?_⟩) ?_ ?_
            rotate_left
            · intro w'
              go_simp
              with_reducible rfl
            rotate_left
            · simp only [Act.put, List.setIfInBounds_toArray, List.set_cons_zero, List.set_cons_succ, i64_w, i32_w]
              rfl
            refine pure_ (i := 2) (N := some 29) (v := ?_) (a' := ?_) #[true, true, true, false, false, false, false, false, false, false, false, false, false, false, false, false, false, false] rfl rfl (any_of HT_.out (by kernel_rfl)) (fun _ _ _ h => h) (Or.inl ⟨by rfl, ?_⟩) ?_ ?_
            rotate_left
            · intro w'
              go_simp
              with_reducible rfl
            rotate_left
            · simp only [Act.put, List.setIfInBounds_toArray, List.set_cons_zero, List.set_cons_succ, i64_w, i32_w]
              rfl
            refine pure_ (i := 3) (N := some 30) (v := ?_) (a' := ?_) #[true, true, true, true, false, false, false, false, false, false, false, false, false, false, false, false, false, false] rfl rfl (any_of HT_.out (by kernel_rfl)) (fun _ _ _ h => h) (Or.inl ⟨by rfl, ?_⟩) ?_ ?_
            rotate_left
            · intro w'
              go_simp
              with_reducible rfl
            rotate_left
            · simp only [Act.put, List.setIfInBounds_toArray, List.set_cons_zero, List.set_cons_succ, i64_w, i32_w]
              rfl
            refine take_ (i := 4) (N := some 31) (v := ?_) (a' := ?_) #[true, true, true, true, true, false, false, false, false, false, false, false, false, false, false, false, false, false] rfl rfl (take_ofW HT_.out HW_.out (by kernel_rfl)) (fun _ _ _ h => h) (Or.inl ⟨by rfl, ?_⟩) hHeld ?_ ?_
            rotate_left
            · rintro w' ⟨s0, s1, s2, s3, s4, s5⟩
              go_simp
              with_reducible rfl
            rotate_left
            · simp only [Act.put, List.setIfInBounds_toArray, List.set_cons_zero, List.set_cons_succ, i64_w, i32_w]
              rfl
            refine take_ (i := 5) (N := some 32) (v := ?_) (a' := ?_) #[true, true, true, true, true, true, false, false, false, false, false, false, false, false, false, false, false, false] rfl rfl (take_ofW HT_.out HW_.out (by kernel_rfl)) (fun _ _ _ h => h) (Or.inl ⟨by rfl, ?_⟩) hHeld ?_ ?_
            rotate_left
            · rintro w' ⟨s0, s1, s2, s3, s4, s5⟩
              go_simp
              with_reducible rfl
            rotate_left
            · simp only [Act.put, List.setIfInBounds_toArray, List.set_cons_zero, List.set_cons_succ, i64_w, i32_w]
              rfl
            refine one_ (i := 6) (N := some 33) #[true, true, true, true, true, true, true, false, false, false, false, false, false, false, false, false, false, false] rfl rfl (one_of HT_.out (by kernel_rfl)) (by decide) (fun K hK => ?_)
            refine goes_ Tryd.func16 (by kernel_rfl) rfl #[.agg #[.int .i64 t220, .slice Ao43 t221.length co43], .agg #[.int .i64 t226, .slice Ao50 t227.length co50]] (by rfl) rfl rfl (by (try simp only [List.map_toArray, List.map_cons, List.map_nil]); first | done | rfl | (simp only [List.length_drop, List.length_take]; rfl)) ?_
            with_reducible refine (estoversref01_Same.calls k t220 _ _ t221 t226 _ _ t227 true _ ?side1 ?side2 ?side3 ?side4 A9.out).mono ?_
            (case side1 => repeat (first | exact (Kd.R_reads' HO223.out).2.2 | (with_reducible refine Kd.C_alloc ?_ _) | (with_reducible refine Kd.C_drewN ?_ _) | (with_reducible refine Kd.C_drew ?_)))
            (case side2 => exact (Kd.R_reads' HO223.out).2.1)
            (case side3 => repeat (first | exact (Kd.R_reads' HO229.out).2.2 | (with_reducible refine Kd.C_alloc ?_ _) | (with_reducible refine Kd.C_drewN ?_ _) | (with_reducible refine Kd.C_drew ?_)))
            (case side4 => exact (Kd.R_reads' HO229.out).2.1)
            rintro e w53 ⟨rfl, hb⟩
            refine ⟨_, rfl, ?_⟩
            have n0_ := Aside0.mk (Kd.R_below (by (with_reducible repeat (first | apply Kd.R_alloc | apply Kd.R_drewN | apply Kd.R_drew)); exact HO223.out) hb)
            have n1_ := Aside0.mk (Kd.R_below (by (with_reducible repeat (first | apply Kd.R_alloc | apply Kd.R_drewN | apply Kd.R_drew)); exact HO229.out) hb)
            have n2_ := Aside0.mk (blk_below (g := gb218) (o := .cells #[.int .i64 a0_0, .slice A0_1 l0_1.length c0_1] 24 (0, 0)) (by (with_reducible repeat (first | refine blk_drewN ?_ _ | refine blk_drew ?_ | refine blk_alloc ?_ _)); exact BK218.out) hb)
            have n3_ := Aside0.mk (blk_below (g := gb225) (o := .cells #[.int .i64 t220, .slice Ao43 t221.length co43] 24 (0, 0)) (by (with_reducible repeat (first | refine blk_drewN ?_ _ | refine blk_drew ?_ | refine blk_alloc ?_ _)); exact BK225.out) hb)
            have n4_ := Aside0.mk (blk_below (g := gb231) (o := .cells #[.int .i64 t226, .slice Ao50 t227.length co50] 24 (0, 0)) (by (with_reducible repeat (first | refine blk_drewN ?_ _ | refine blk_drew ?_ | refine blk_alloc ?_ _)); exact BK231.out) hb)
            have n5_ := Aside0.mk (below_step (by repeat (first | (with_reducible first | exact HB.out | apply below_alloc | apply pw_below_drewN | apply below_drew1 | refine below_set ?_ GE218.out | refine below_set ?_ GE225.out | refine below_set ?_ GE231.out) | exact HB.out)) hb)
            clear HO223
            clear HO229
            clear BK218
            clear BK225
            clear BK231
            clear HB
            have HO223 := n0_
            have HO229 := n1_
            have BK218 := n2_
            have BK225 := n3_
            have BK231 := n4_
            have HB := n5_
            clear n0_ n1_ n2_ n3_ n4_ n5_
            (try clear hb)
            (try clear hb2)
            (try clear hk)
            (try clear hi)
            refine hK.out _ _ ⟨(blk_cell BK225.out 0).trans rfl, (blk_cell BK225.out 1).trans rfl, (blk_cell BK231.out 0).trans rfl, (blk_cell BK231.out 1).trans rfl, (blk_cell BK218.out 0).trans rfl, (blk_cell BK218.out 1).trans rfl⟩ (fun hHeld => ?_)
            clear hK K
            refine norm_ (a' := ?_) ?_ ?_
            rotate_left
            · show Act.put _ (some 33) _ = _
              simp only [Act.put, List.setIfInBounds_toArray, List.set_cons_zero, List.set_cons_succ, i64_w, i32_w]
              rfl
            refine pure_ (i := 7) (N := some 34) (v := ?_) (a' := ?_) #[true, true, true, true, true, true, true, true, false, false, false, false, false, false, false, false, false, false] rfl rfl (any_of HT_.out (by kernel_rfl)) (fun _ _ _ h => h) (Or.inl ⟨by rfl, ?_⟩) ?_ ?_
            rotate_left
            · intro w'
              go_simp
              with_reducible rfl
            rotate_left
            · simp only [Act.put, List.setIfInBounds_toArray, List.set_cons_zero, List.set_cons_succ, i64_w, i32_w]
              rfl
            refine pure_ (i := 8) (N := some 35) (v := ?_) (a' := ?_) #[true, true, true, true, true, true, true, true, true, false, false, false, false, false, false, false, false, false] rfl rfl (any_of HT_.out (by kernel_rfl)) (fun _ _ _ h => h) (Or.inl ⟨by rfl, ?_⟩) ?_ ?_
            rotate_left
            · intro w'
              go_simp
              with_reducible rfl
            rotate_left
            · simp only [Act.put, List.setIfInBounds_toArray, List.set_cons_zero, List.set_cons_succ, i64_w, i32_w]
              rfl
            refine pure_ (i := 9) (N := some 36) (v := ?_) (a' := ?_) #[true, true, true, true, true, true, true, true, true, true, false, false, false, false, false, false, false, false] rfl rfl (any_of HT_.out (by kernel_rfl)) (fun _ _ _ h => h) (Or.inl ⟨by rfl, ?_⟩) ?_ ?_
            rotate_left
            · intro w'
              go_simp
              with_reducible rfl
            rotate_left
            · simp only [Act.put, List.setIfInBounds_toArray, List.set_cons_zero, List.set_cons_succ, i64_w, i32_w]
              rfl
            refine pure_ (i := 11) (N := some 38) (v := ?_) (a' := ?_) #[true, true, true, true, true, true, true, true, true, true, false, true, false, false, false, false, false, false] rfl rfl (any_of HT_.out (by kernel_rfl)) (fun _ _ _ h => h) (Or.inl ⟨by rfl, ?_⟩) ?_ ?_
            rotate_left
            · intro w'
              go_simp
              with_reducible rfl
            rotate_left
            · simp only [Act.put, List.setIfInBounds_toArray, List.set_cons_zero, List.set_cons_succ, i64_w, i32_w]
              rfl
            refine pure_ (i := 14) (N := some 41) (v := ?_) (a' := ?_) #[true, true, true, true, true, true, true, true, true, true, false, true, false, false, true, false, false, false] rfl rfl (any_of HT_.out (by kernel_rfl)) (fun _ _ _ h => h) (Or.inl ⟨by rfl, ?_⟩) ?_ ?_
            rotate_left
            · intro w'
              go_simp
              with_reducible rfl
            rotate_left
            · simp only [Act.put, List.setIfInBounds_toArray, List.set_cons_zero, List.set_cons_succ, i64_w, i32_w]
              rfl
            refine take_ (i := 10) (N := some 37) (v := ?_) (a' := ?_) #[true, true, true, true, true, true, true, true, true, true, true, true, false, false, true, false, false, false] rfl rfl (take_ofW HT_.out HW_.out (by kernel_rfl)) (fun _ _ _ h => h) (Or.inl ⟨by rfl, ?_⟩) hHeld ?_ ?_
            rotate_left
            · rintro w' ⟨s0, s1, s2, s3, s4, s5⟩
              go_simp
              with_reducible rfl
            rotate_left
            · simp only [Act.put, List.setIfInBounds_toArray, List.set_cons_zero, List.set_cons_succ, i64_w, i32_w]
              rfl
            refine take_ (i := 13) (N := some 40) (v := ?_) (a' := ?_) #[true, true, true, true, true, true, true, true, true, true, true, true, false, true, true, false, false, false] rfl rfl (take_ofW HT_.out HW_.out (by kernel_rfl)) (fun _ _ _ h => h) (Or.inl ⟨by rfl, ?_⟩) hHeld ?_ ?_
            rotate_left
            · rintro w' ⟨s0, s1, s2, s3, s4, s5⟩
              go_simp
              with_reducible rfl
            rotate_left
            · simp only [Act.put, List.setIfInBounds_toArray, List.set_cons_zero, List.set_cons_succ, i64_w, i32_w]
              rfl
            refine one_ (i := 12) (N := some 39) #[true, true, true, true, true, true, true, true, true, true, true, true, true, true, true, false, false, false] rfl rfl (one_of HT_.out (by kernel_rfl)) (by decide) (fun K hK => ?_)
            refine goes_ Tryd.func19 (by kernel_rfl) rfl #[.agg #[.int .i64 a0_0, .slice A0_1 l0_1.length c0_1], .int .i64 a1] (by rfl) rfl rfl (by (try simp only [List.map_toArray, List.map_cons, List.map_nil]); first | done | rfl | (simp only [List.length_drop, List.length_take]; rfl)) ?_
            with_reducible refine (bitset_Get.calls k a0_0 _ _ l0_1 a1 t233 _ ?side1 ?side2 A11.out).mono ?_
            (case side1 => repeat (first | exact (Kd.C_below HR0_1.out HB.out) | (with_reducible refine Kd.C_alloc ?_ _) | (with_reducible refine Kd.C_drewN ?_ _) | (with_reducible refine Kd.C_drew ?_)))
            (case side2 => exact HC0_1.out)
            rintro e w54 ⟨rfl, hb⟩
            refine ⟨_, rfl, ?_⟩
            have n0_ := Aside0.mk (Kd.R_below (by (with_reducible repeat (first | apply Kd.R_alloc | apply Kd.R_drewN | apply Kd.R_drew)); exact HO223.out) hb)
            have n1_ := Aside0.mk (Kd.R_below (by (with_reducible repeat (first | apply Kd.R_alloc | apply Kd.R_drewN | apply Kd.R_drew)); exact HO229.out) hb)
            have n2_ := Aside0.mk (blk_below (g := gb218) (o := .cells #[.int .i64 a0_0, .slice A0_1 l0_1.length c0_1] 24 (0, 0)) (by (with_reducible repeat (first | refine blk_drewN ?_ _ | refine blk_drew ?_ | refine blk_alloc ?_ _)); exact BK218.out) hb)
            have n3_ := Aside0.mk (blk_below (g := gb225) (o := .cells #[.int .i64 t220, .slice Ao43 t221.length co43] 24 (0, 0)) (by (with_reducible repeat (first | refine blk_drewN ?_ _ | refine blk_drew ?_ | refine blk_alloc ?_ _)); exact BK225.out) hb)
            have n4_ := Aside0.mk (blk_below (g := gb231) (o := .cells #[.int .i64 t226, .slice Ao50 t227.length co50] 24 (0, 0)) (by (with_reducible repeat (first | refine blk_drewN ?_ _ | refine blk_drew ?_ | refine blk_alloc ?_ _)); exact BK231.out) hb)
            have n5_ := Aside0.mk (below_step (by repeat (first | (with_reducible first | exact HB.out | apply below_alloc | apply pw_below_drewN | apply below_drew1 | refine below_set ?_ GE218.out | refine below_set ?_ GE225.out | refine below_set ?_ GE231.out) | exact HB.out)) hb)
            clear HO223
            clear HO229
            clear BK218
            clear BK225
            clear BK231
            clear HB
            have HO223 := n0_
            have HO229 := n1_
            have BK218 := n2_
            have BK225 := n3_
            have BK231 := n4_
            have HB := n5_
            clear n0_ n1_ n2_ n3_ n4_ n5_
            (try clear hb)
            (try clear hb2)
            (try clear hk)
            (try clear hi)
            refine hK.out _ _ ⟨(blk_cell BK225.out 0).trans rfl, (blk_cell BK225.out 1).trans rfl, (blk_cell BK231.out 0).trans rfl, (blk_cell BK231.out 1).trans rfl, (blk_cell BK218.out 0).trans rfl, (blk_cell BK218.out 1).trans rfl⟩ (fun hHeld => ?_)
            clear hK K
            refine norm_ (a' := ?_) ?_ ?_
            rotate_left
            · show Act.put _ (some 39) _ = _
              simp only [Act.put, List.setIfInBounds_toArray, List.set_cons_zero, List.set_cons_succ, i64_w, i32_w]
              rfl
            refine one_ (i := 15) (N := some 42) #[true, true, true, true, true, true, true, true, true, true, true, true, true, true, true, true, false, false] rfl rfl (one_of HT_.out (by kernel_rfl)) (by decide) (fun K hK => ?_)
            refine goes_ Tryd.func20 (by kernel_rfl) rfl #[.agg #[.int .i64 a0_0, .slice A0_1 l0_1.length c0_1], .int .i64 a1] (by rfl) rfl rfl (by (try simp only [List.map_toArray, List.map_cons, List.map_nil]); first | done | rfl | (simp only [List.length_drop, List.length_take]; rfl)) ?_
            with_reducible refine (estoversref01_Get.calls k a0_0 _ _ l0_1 a1 t234 _ ?side1 ?side2 A12.out).mono ?_
            (case side1 => repeat (first | exact (Kd.C_below HR0_1.out HB.out) | (with_reducible refine Kd.C_alloc ?_ _) | (with_reducible refine Kd.C_drewN ?_ _) | (with_reducible refine Kd.C_drew ?_)))
            (case side2 => exact HC0_1.out)
            rintro e w55 ⟨rfl, hb⟩
            refine ⟨_, rfl, ?_⟩
            have n0_ := Aside0.mk (Kd.R_below (by (with_reducible repeat (first | apply Kd.R_alloc | apply Kd.R_drewN | apply Kd.R_drew)); exact HO223.out) hb)
            have n1_ := Aside0.mk (Kd.R_below (by (with_reducible repeat (first | apply Kd.R_alloc | apply Kd.R_drewN | apply Kd.R_drew)); exact HO229.out) hb)
            have n2_ := Aside0.mk (blk_below (g := gb218) (o := .cells #[.int .i64 a0_0, .slice A0_1 l0_1.length c0_1] 24 (0, 0)) (by (with_reducible repeat (first | refine blk_drewN ?_ _ | refine blk_drew ?_ | refine blk_alloc ?_ _)); exact BK218.out) hb)
            have n3_ := Aside0.mk (blk_below (g := gb225) (o := .cells #[.int .i64 t220, .slice Ao43 t221.length co43] 24 (0, 0)) (by (with_reducible repeat (first | refine blk_drewN ?_ _ | refine blk_drew ?_ | refine blk_alloc ?_ _)); exact BK225.out) hb)
            have n4_ := Aside0.mk (blk_below (g := gb231) (o := .cells #[.int .i64 t226, .slice Ao50 t227.length co50] 24 (0, 0)) (by (with_reducible repeat (first | refine blk_drewN ?_ _ | refine blk_drew ?_ | refine blk_alloc ?_ _)); exact BK231.out) hb)
            have n5_ := Aside0.mk (below_step (by repeat (first | (with_reducible first | exact HB.out | apply below_alloc | apply pw_below_drewN | apply below_drew1 | refine below_set ?_ GE218.out | refine below_set ?_ GE225.out | refine below_set ?_ GE231.out) | exact HB.out)) hb)
            clear HO223
            clear HO229
            clear BK218
            clear BK225
            clear BK231
            clear HB
            have HO223 := n0_
            have HO229 := n1_
            have BK218 := n2_
            have BK225 := n3_
            have BK231 := n4_
            have HB := n5_
            clear n0_ n1_ n2_ n3_ n4_ n5_
            (try clear hb)
            (try clear hb2)
            (try clear hk)
            (try clear hi)
            refine hK.out _ _ ⟨(blk_cell BK225.out 0).trans rfl, (blk_cell BK225.out 1).trans rfl, (blk_cell BK231.out 0).trans rfl, (blk_cell BK231.out 1).trans rfl, (blk_cell BK218.out 0).trans rfl, (blk_cell BK218.out 1).trans rfl⟩ (fun hHeld => ?_)
            clear hK K
            refine norm_ (a' := ?_) ?_ ?_
            rotate_left
            · show Act.put _ (some 42) _ = _
              simp only [Act.put, List.setIfInBounds_toArray, List.set_cons_zero, List.set_cons_succ, i64_w, i32_w]
              rfl
            refine pure_ (i := 16) (N := some 43) (v := ?_) (a' := ?_) #[true, true, true, true, true, true, true, true, true, true, true, true, true, true, true, true, true, false] rfl rfl (any_of HT_.out (by kernel_rfl)) (fun _ _ _ h => h) (Or.inl ⟨by rfl, ?_⟩) ?_ ?_
            rotate_left
            · intro w'
              go_simp
              with_reducible rfl
            rotate_left
            · simp only [Act.put, List.setIfInBounds_toArray, List.set_cons_zero, List.set_cons_succ, i64_w, i32_w]
              rfl
            refine pure_ (i := 17) (N := some 44) (v := ?_) (a' := ?_) #[true, true, true, true, true, true, true, true, true, true, true, true, true, true, true, true, true, true] rfl rfl (any_of HT_.out (by kernel_rfl)) (fun _ _ _ h => h) (Or.inl ⟨by rfl, ?_⟩) ?_ ?_
            rotate_left
            · intro w'
              go_simp
              with_reducible rfl
            rotate_left
            · simp only [Act.put, List.setIfInBounds_toArray, List.set_cons_zero, List.set_cons_succ, i64_w, i32_w]
              rfl
            refine done_ (done_of HT_.out (by kernel_rfl)) ?_
            have hcz56_0 : w55.cell? ⟨gb225, 0, none⟩ = some (.int .i64 t220) := (blk_cell BK225.out 0).trans rfl
            have hcz56_1 : w55.cell? ⟨gb225, 1, none⟩ = some (.slice Ao43 t221.length co43) := (blk_cell BK225.out 1).trans rfl
            have hfz56_0 := blk_frozen BK225.out 0
            have hfz56_1 := blk_frozen BK225.out 1
            try go_wp2_with (first | (go_at_call 19; (with_reducible refine (bitset_Get.calls k t220 _ _ t221 a1 t235 _ ?side1 ?side2 A35.out).mono ?_); (case side1 => repeat (first | exact (Kd.R_reads' HO223.out).2.2 | (with_reducible refine Kd.C_alloc ?_ _) | (with_reducible refine Kd.C_drewN ?_ _) | (with_reducible refine Kd.C_drew ?_))); (case side2 => exact (Kd.R_reads' HO223.out).2.1); rintro e w57 ⟨rfl, hb⟩; have n0_ := Aside0.mk (Kd.R_below (by (with_reducible repeat (first | apply Kd.R_alloc | apply Kd.R_drewN | apply Kd.R_drew)); exact HO223.out) hb); have n1_ := Aside0.mk (Kd.R_below (by (with_reducible repeat (first | apply Kd.R_alloc | apply Kd.R_drewN | apply Kd.R_drew)); exact HO229.out) hb); have n2_ := Aside0.mk (blk_below (g := gb218) (o := .cells #[.int .i64 a0_0, .slice A0_1 l0_1.length c0_1] 24 (0, 0)) (by (with_reducible repeat (first | refine blk_drewN ?_ _ | refine blk_drew ?_ | refine blk_alloc ?_ _)); exact BK218.out) hb); have n3_ := Aside0.mk (blk_below (g := gb225) (o := .cells #[.int .i64 t220, .slice Ao43 t221.length co43] 24 (0, 0)) (by (with_reducible repeat (first | refine blk_drewN ?_ _ | refine blk_drew ?_ | refine blk_alloc ?_ _)); exact BK225.out) hb); have n4_ := Aside0.mk (blk_below (g := gb231) (o := .cells #[.int .i64 t226, .slice Ao50 t227.length co50] 24 (0, 0)) (by (with_reducible repeat (first | refine blk_drewN ?_ _ | refine blk_drew ?_ | refine blk_alloc ?_ _)); exact BK231.out) hb); have n5_ := Aside0.mk (below_step (by repeat (first | (with_reducible first | exact HB.out | apply below_alloc | apply pw_below_drewN | apply below_drew1 | refine below_set ?_ GE218.out | refine below_set ?_ GE225.out | refine below_set ?_ GE231.out) | exact HB.out)) hb); clear HO223; clear HO229; clear BK218; clear BK225; clear BK231; clear HB; have HO223 := n0_; have HO229 := n1_; have BK218 := n2_; have BK225 := n3_; have BK231 := n4_; have HB := n5_; clear n0_ n1_ n2_ n3_ n4_ n5_; (try clear hb); (try clear hb2); (try clear hk); (try clear hi)))
            go_ret
            exact ⟨by first | rfl | (simp [errW_none, errW_some] <;> rfl) | (simp [*, errW_none, errW_some] <;> rfl), by repeat (first | (with_reducible first | exact HB.out | apply below_alloc | apply pw_below_drewN | apply below_drew1 | refine below_set ?_ GE218.out | refine below_set ?_ GE225.out | refine below_set ?_ GE231.out) | exact HB.out)⟩
          · rw [if_neg c34] at H
            have c34b0 : (t224 == 0) = false := beq_eq_false_iff_ne.mpr c34
            have c34b1 : (t224 != 0) = true := bne_iff_ne.mpr c34
            obtain rfl := Option.some.inj H
            go_enter Tryd.func4, Tryd.ntmps4
            try go_wp2_with (first | ((with_reducible refine gate_dst (N := 3) rfl ?_); refine box_event ?hg (N := 3) ?hd (cs := #[.int .i64 a0_0, .slice A0_1 l0_1.length c0_1]) (t := 24) ?hr ?_; (case hd => rfl); (case hg => rfl); (case hr => first | (go_simp; done) | (go_simp; rfl)); intro gb218 hg w58 hbox hb; have n0_ := Aside0.mk (below_step (by repeat (first | (with_reducible first | exact HB.out | apply below_alloc | apply pw_below_drewN | apply below_drew1) | exact HB.out)) hb); have n1_ := Aside0.mk (hbox); have n2_ := Aside0.mk ((by rw [hg]; exact (below_size (by repeat (first | (with_reducible first | exact HB.out | apply below_alloc | apply pw_below_drewN | apply below_drew1) | exact HB.out))) : w.heap.size ≤ gb218)); have n3_ := Aside0.mk ((by rw [hg]; exact (below_size (by repeat (first | (with_reducible first | exact HB.out | apply below_alloc | apply pw_below_drewN | apply below_drew1) | exact HB.out))) : w.heap.size ≤ gb218)); clear HB; have HB := n0_; have BK218 := n1_; have GW218 := n2_; have GE218 := n3_; clear n0_ n1_ n2_ n3_; clear hb hbox hg) | ((with_reducible refine gate_callee (f := 11) rfl ?_); refine goesL_ (some 11) rfl rfl Tryd.func11 (by kernel_rfl) rfl #[] rfl (by (try simp only [List.map_toArray, List.map_cons, List.map_nil]); first | done | rfl | (simp only [List.length_drop, List.length_take]; rfl)) ?_; (with_reducible refine (estoverslaw01_awake.calls k  true _ A4.out (TabW.below HT (by repeat (first | (with_reducible first | exact HB.out | apply below_alloc | apply pw_below_drewN | apply below_drew1 | refine below_set ?_ GE218.out | refine below_set ?_ GE225.out | refine below_set ?_ GE231.out) | exact HB.out)))).mono ?_); rintro e w59 ⟨rfl, hb⟩; refine ⟨_, rfl, ?_⟩; have n0_ := Aside0.mk (blk_below (g := gb218) (o := .cells #[.int .i64 a0_0, .slice A0_1 l0_1.length c0_1] 24 (0, 0)) (by (with_reducible repeat (first | refine blk_drewN ?_ _ | refine blk_drew ?_ | refine blk_alloc ?_ _)); exact BK218.out) hb); have n1_ := Aside0.mk (below_step (by repeat (first | (with_reducible first | exact HB.out | apply below_alloc | apply pw_below_drewN | apply below_drew1 | refine below_set ?_ GE218.out) | exact HB.out)) hb); clear BK218; clear HB; have BK218 := n0_; have HB := n1_; clear n0_ n1_; (try clear hb); (try clear hb2); (try clear hk); (try clear hi); have hcz60_0 : w59.cell? ⟨gb218, 0, none⟩ = some (.int .i64 a0_0) := (blk_cell BK218.out 0).trans rfl; have hcz60_1 : w59.cell? ⟨gb218, 1, none⟩ = some (.slice A0_1 l0_1.length c0_1) := (blk_cell BK218.out 1).trans rfl; have hfz60_0 := blk_frozen BK218.out 0; have hfz60_1 := blk_frozen BK218.out 1) | ((with_reducible refine gate_callee (f := 17) rfl ?_); refine goesL_ (some 17) rfl rfl Tryd.func17 (by kernel_rfl) rfl #[.agg #[.int .i64 a0_0, .slice A0_1 l0_1.length c0_1], .int .i64 a1, .bool a2] rfl (by (try simp only [List.map_toArray, List.map_cons, List.map_nil]); first | done | rfl | (simp only [List.length_drop, List.length_take]; rfl)) ?_; (with_reducible refine (bitset_Set.calls k a0_0 _ _ l0_1 a1 a2 t220 t221 t224 _ ?side1 ?side2 A6.out).mono ?_); (case side1 => repeat (first | exact (Kd.C_below HR0_1.out HB.out) | (with_reducible refine Kd.C_alloc ?_ _) | (with_reducible refine Kd.C_drewN ?_ _) | (with_reducible refine Kd.C_drew ?_))); (case side2 => exact HC0_1.out); rintro e w61 ⟨v222, rfl, ho0, hb⟩; refine ⟨_, rfl, ?_⟩; have n0_ := Aside0.mk (Kd.R_lower ho0 (below_size (by repeat (first | (with_reducible first | exact HB.out | apply below_alloc | apply pw_below_drewN | apply below_drew1 | refine below_set ?_ GE218.out) | exact HB.out)))); have n1_ := Aside0.mk (blk_below (g := gb218) (o := .cells #[.int .i64 a0_0, .slice A0_1 l0_1.length c0_1] 24 (0, 0)) (by (with_reducible repeat (first | refine blk_drewN ?_ _ | refine blk_drew ?_ | refine blk_alloc ?_ _)); exact BK218.out) hb); have n2_ := Aside0.mk (below_step (by repeat (first | (with_reducible first | exact HB.out | apply below_alloc | apply pw_below_drewN | apply below_drew1 | refine below_set ?_ GE218.out) | exact HB.out)) hb); clear BK218; clear HB; have HO223 := n0_; have BK218 := n1_; have HB := n2_; clear n0_ n1_ n2_; (try clear hb); (try clear hb2); (try clear hk); (try clear hi); (try clear ho0)) | ((with_reducible refine gate_dst (N := 7) rfl ?_); refine box_event ?hg (N := 7) ?hd (cs := #[.int .i64 0, .slice none 0 0]) (t := 24) ?hr ?_; (case hd => rfl); (case hg => rfl); (case hr => first | (go_simp; done) | (go_simp; rfl)); intro gb225 hg w62 hbox hb; have n0_ := Aside0.mk (Kd.R_below (by (with_reducible repeat (first | apply Kd.R_alloc | apply Kd.R_drewN | apply Kd.R_drew)); exact HO223.out) hb); have n1_ := Aside0.mk (blk_below (g := gb218) (o := .cells #[.int .i64 a0_0, .slice A0_1 l0_1.length c0_1] 24 (0, 0)) (by (with_reducible repeat (first | refine blk_drewN ?_ _ | refine blk_drew ?_ | refine blk_alloc ?_ _)); exact BK218.out) hb); have n2_ := Aside0.mk (below_step (by repeat (first | (with_reducible first | exact HB.out | apply below_alloc | apply pw_below_drewN | apply below_drew1 | refine below_set ?_ GE218.out) | exact HB.out)) hb); have n3_ := Aside0.mk (hbox); have n4_ := Aside0.mk ((by rw [hg]; exact (below_size (by repeat (first | (with_reducible first | exact HB.out | apply below_alloc | apply pw_below_drewN | apply below_drew1 | refine below_set ?_ GE218.out) | exact HB.out))) : w.heap.size ≤ gb225)); have n5_ := Aside0.mk ((by rw [hg]; exact (below_size (by repeat (first | (with_reducible first | exact HB.out | apply below_alloc | apply pw_below_drewN | apply below_drew1 | refine below_set ?_ GE218.out) | exact HB.out))) : w.heap.size ≤ gb225)); have n6_ := Aside0.mk ((by rw [hg]; exact Nat.ne_of_lt (blk_lt (g := gb218) (o := .cells #[.int .i64 a0_0, .slice A0_1 l0_1.length c0_1] 24 (0, 0)) (by (with_reducible repeat (first | refine blk_drewN ?_ _ | refine blk_drew ?_ | refine blk_alloc ?_ _)); exact BK218.out)) : gb218 ≠ gb225)); have n7_ := Aside0.mk ((by rw [hg]; exact Nat.ne_of_gt (blk_lt (g := gb218) (o := .cells #[.int .i64 a0_0, .slice A0_1 l0_1.length c0_1] 24 (0, 0)) (by (with_reducible repeat (first | refine blk_drewN ?_ _ | refine blk_drew ?_ | refine blk_alloc ?_ _)); exact BK218.out)) : gb225 ≠ gb218)); clear HO223; clear BK218; clear HB; have HO223 := n0_; have BK218 := n1_; have HB := n2_; have BK225 := n3_; have GW225 := n4_; have GE225 := n5_; have NB218_225 := n6_; have NB225_218 := n7_; clear n0_ n1_ n2_ n3_ n4_ n5_ n6_ n7_; clear hb hbox hg; have hnb63 := NB225_218.out; have hnc63 := NB218_225.out; have hcz64_0 : w62.cell? ⟨gb225, 0, none⟩ = some (.int .i64 0) := (blk_cell BK225.out 0).trans rfl; have hcz64_1 : w62.cell? ⟨gb225, 1, none⟩ = some (.slice none 0 0) := (blk_cell BK225.out 1).trans rfl; have hfz64_0 := blk_frozen BK225.out 0; have hfz64_1 := blk_frozen BK225.out 1; obtain ⟨Ao65, co65, eo65⟩ := Kd.R_slice HO223.out; subst eo65; have hcz66_0 : w62.cell? ⟨gb218, 0, none⟩ = some (.int .i64 a0_0) := (blk_cell BK218.out 0).trans rfl; have hcz66_1 : w62.cell? ⟨gb218, 1, none⟩ = some (.slice A0_1 l0_1.length c0_1) := (blk_cell BK218.out 1).trans rfl; have hfz66_0 := blk_frozen BK218.out 0; have hfz66_1 := blk_frozen BK218.out 1) | ((with_reducible refine gate_callee (f := 18) rfl ?_); refine goesL_ (some 24) rfl rfl Tryd.func18 (by kernel_rfl) rfl #[.agg #[.int .i64 a0_0, .slice A0_1 l0_1.length c0_1], .int .i64 a1, .bool a2] rfl (by (try simp only [List.map_toArray, List.map_cons, List.map_nil]); first | done | rfl | (simp only [List.length_drop, List.length_take]; rfl)) ?_; (with_reducible refine (estoversref01_Set.calls k a0_0 _ _ l0_1 a1 a2 t226 t227 t230 _ ?side1 ?side2 A7.out).mono ?_); (case side1 => exact Kd.C_below HR0_1.out (by repeat (first | (with_reducible first | exact HB.out | apply below_alloc | apply pw_below_drewN | apply below_drew1 | refine below_set ?_ GE218.out | refine below_set ?_ GE225.out) | exact HB.out))); (case side2 => exact HC0_1.out); rintro e w67 ⟨v228, rfl, ho0, hb⟩; refine ⟨_, rfl, ?_⟩; have n0_ := Aside0.mk (Kd.R_elder' (by (with_reducible repeat (first | apply Kd.R_alloc | apply Kd.R_drewN | apply Kd.R_drew)); exact (Kd.R_mono (Kd.R_far (p := ⟨gb225, 1, none⟩) (Kd.R_far (p := ⟨gb225, 0, none⟩) (Kd.R_types HO223.out BK225.out (by decide)) (fun _ hk => hk.2) (.int .i64 t220)) (fun _ hk => hk.2) (.slice Ao65 t221.length co65)) (fun _ h_ => h_.1))) (Kd.R_base ho0) hb); have n1_ := Aside0.mk (Kd.R_lower (Kd.R_new' ho0 (Kd.R_lt (by (with_reducible repeat (first | apply Kd.R_alloc | apply Kd.R_drewN | apply Kd.R_drew)); exact (Kd.R_mono (Kd.R_far (p := ⟨gb225, 1, none⟩) (Kd.R_far (p := ⟨gb225, 0, none⟩) (Kd.R_types HO223.out BK225.out (by decide)) (fun _ hk => hk.2) (.int .i64 t220)) (fun _ hk => hk.2) (.slice Ao65 t221.length co65)) (fun _ h_ => h_.1))))) (below_size (by repeat (first | (with_reducible first | exact HB.out | apply below_alloc | apply pw_below_drewN | apply below_drew1 | refine below_set ?_ GE218.out | refine below_set ?_ GE225.out) | exact HB.out)))); have n2_ := Aside0.mk (blk_below (g := gb218) (o := .cells #[.int .i64 a0_0, .slice A0_1 l0_1.length c0_1] 24 (0, 0)) (by (with_reducible repeat (first | refine blk_drewN ?_ _ | refine blk_drew ?_ | refine blk_alloc ?_ _)); refine blk_far ?_ NB218_225.out _; (with_reducible repeat (first | refine blk_drewN ?_ _ | refine blk_drew ?_ | refine blk_alloc ?_ _)); refine blk_far ?_ NB218_225.out _; (with_reducible repeat (first | refine blk_drewN ?_ _ | refine blk_drew ?_ | refine blk_alloc ?_ _)); exact BK218.out) hb); have n3_ := Aside0.mk (blk_below (g := gb225) (o := .cells #[.int .i64 t220, .slice Ao65 t221.length co65] 24 (0, 0)) (by (with_reducible repeat (first | refine blk_drewN ?_ _ | refine blk_drew ?_ | refine blk_alloc ?_ _)); refine blk_put (cs := #[.int .i64 t220, .slice none 0 0]) ?_ 1 _ rfl; (with_reducible repeat (first | refine blk_drewN ?_ _ | refine blk_drew ?_ | refine blk_alloc ?_ _)); refine blk_put (cs := #[.int .i64 0, .slice none 0 0]) ?_ 0 _ rfl; (with_reducible repeat (first | refine blk_drewN ?_ _ | refine blk_drew ?_ | refine blk_alloc ?_ _)); exact BK225.out) hb); have n4_ := Aside0.mk (below_step (by repeat (first | (with_reducible first | exact HB.out | apply below_alloc | apply pw_below_drewN | apply below_drew1 | refine below_set ?_ GE218.out | refine below_set ?_ GE225.out) | exact HB.out)) hb); clear HO223; clear BK218; clear BK225; clear HB; have HO223 := n0_; have HO229 := n1_; have BK218 := n2_; have BK225 := n3_; have HB := n4_; clear n0_ n1_ n2_ n3_ n4_; (try clear hb); (try clear hb2); (try clear hk); (try clear hi); (try clear ho0)) | ((with_reducible refine gate_dst (N := 9) rfl ?_); refine box_event ?hg (N := 9) ?hd (cs := #[.int .i64 0, .slice none 0 0]) (t := 24) ?hr ?_; (case hd => rfl); (case hg => rfl); (case hr => first | (go_simp; done) | (go_simp; rfl)); intro gb231 hg w68 hbox hb; have n0_ := Aside0.mk (Kd.R_below (by (with_reducible repeat (first | apply Kd.R_alloc | apply Kd.R_drewN | apply Kd.R_drew)); exact HO223.out) hb); have n1_ := Aside0.mk (Kd.R_below (by (with_reducible repeat (first | apply Kd.R_alloc | apply Kd.R_drewN | apply Kd.R_drew)); exact HO229.out) hb); have n2_ := Aside0.mk (blk_below (g := gb218) (o := .cells #[.int .i64 a0_0, .slice A0_1 l0_1.length c0_1] 24 (0, 0)) (by (with_reducible repeat (first | refine blk_drewN ?_ _ | refine blk_drew ?_ | refine blk_alloc ?_ _)); exact BK218.out) hb); have n3_ := Aside0.mk (blk_below (g := gb225) (o := .cells #[.int .i64 t220, .slice Ao65 t221.length co65] 24 (0, 0)) (by (with_reducible repeat (first | refine blk_drewN ?_ _ | refine blk_drew ?_ | refine blk_alloc ?_ _)); exact BK225.out) hb); have n4_ := Aside0.mk (below_step (by repeat (first | (with_reducible first | exact HB.out | apply below_alloc | apply pw_below_drewN | apply below_drew1 | refine below_set ?_ GE218.out | refine below_set ?_ GE225.out) | exact HB.out)) hb); have n5_ := Aside0.mk (hbox); have n6_ := Aside0.mk ((by rw [hg]; exact (below_size (by repeat (first | (with_reducible first | exact HB.out | apply below_alloc | apply pw_below_drewN | apply below_drew1 | refine below_set ?_ GE218.out | refine below_set ?_ GE225.out) | exact HB.out))) : w.heap.size ≤ gb231)); have n7_ := Aside0.mk ((by rw [hg]; exact (below_size (by repeat (first | (with_reducible first | exact HB.out | apply below_alloc | apply pw_below_drewN | apply below_drew1 | refine below_set ?_ GE218.out | refine below_set ?_ GE225.out) | exact HB.out))) : w.heap.size ≤ gb231)); have n8_ := Aside0.mk ((by rw [hg]; exact Nat.ne_of_lt (blk_lt (g := gb218) (o := .cells #[.int .i64 a0_0, .slice A0_1 l0_1.length c0_1] 24 (0, 0)) (by (with_reducible repeat (first | refine blk_drewN ?_ _ | refine blk_drew ?_ | refine blk_alloc ?_ _)); exact BK218.out)) : gb218 ≠ gb231)); have n9_ := Aside0.mk ((by rw [hg]; exact Nat.ne_of_gt (blk_lt (g := gb218) (o := .cells #[.int .i64 a0_0, .slice A0_1 l0_1.length c0_1] 24 (0, 0)) (by (with_reducible repeat (first | refine blk_drewN ?_ _ | refine blk_drew ?_ | refine blk_alloc ?_ _)); exact BK218.out)) : gb231 ≠ gb218)); have n10_ := Aside0.mk ((by rw [hg]; exact Nat.ne_of_lt (blk_lt (g := gb225) (o := .cells #[.int .i64 t220, .slice Ao65 t221.length co65] 24 (0, 0)) (by (with_reducible repeat (first | refine blk_drewN ?_ _ | refine blk_drew ?_ | refine blk_alloc ?_ _)); exact BK225.out)) : gb225 ≠ gb231)); have n11_ := Aside0.mk ((by rw [hg]; exact Nat.ne_of_gt (blk_lt (g := gb225) (o := .cells #[.int .i64 t220, .slice Ao65 t221.length co65] 24 (0, 0)) (by (with_reducible repeat (first | refine blk_drewN ?_ _ | refine blk_drew ?_ | refine blk_alloc ?_ _)); exact BK225.out)) : gb231 ≠ gb225)); clear HO223; clear HO229; clear BK218; clear BK225; clear HB; have HO223 := n0_; have HO229 := n1_; have BK218 := n2_; have BK225 := n3_; have HB := n4_; have BK231 := n5_; have GW231 := n6_; have GE231 := n7_; have NB218_231 := n8_; have NB231_218 := n9_; have NB225_231 := n10_; have NB231_225 := n11_; clear n0_ n1_ n2_ n3_ n4_ n5_ n6_ n7_ n8_ n9_ n10_ n11_; clear hb hbox hg; have hnb69 := NB231_218.out; have hnc69 := NB218_231.out; have hnb70 := NB231_225.out; have hnc70 := NB225_231.out; have hcz71_0 : w68.cell? ⟨gb231, 0, none⟩ = some (.int .i64 0) := (blk_cell BK231.out 0).trans rfl; have hcz71_1 : w68.cell? ⟨gb231, 1, none⟩ = some (.slice none 0 0) := (blk_cell BK231.out 1).trans rfl; have hfz71_0 := blk_frozen BK231.out 0; have hfz71_1 := blk_frozen BK231.out 1; obtain ⟨Ao72, co72, eo72⟩ := Kd.R_slice HO229.out; subst eo72))
            have n0_ : Aside0 (Kd.R (Kd.int .u64) 42 ((w68.setCell ⟨gb231, 0, none⟩ (.int .i64 t226)).setCell ⟨gb231, 1, none⟩ (.slice Ao72 t227.length co72)) w.heap.size (fun k_ => some k_ ≠ (.slice Ao72 t227.length co72 : Value).ownBlock) (.slice Ao65 t221.length co65) t221) := ⟨by (with_reducible repeat (first | apply Kd.R_alloc | apply Kd.R_drewN | apply Kd.R_drew)); exact Kd.R_mono (Kd.R_far (p := ⟨gb231, 1, none⟩) (Kd.R_far (p := ⟨gb231, 0, none⟩) (Kd.R_types HO223.out BK231.out (by decide)) (fun _ hk => hk.2) (.int .i64 t226)) (fun _ hk => hk.2) (.slice Ao72 t227.length co72)) (fun _ hk => hk.1.2)⟩
            have n1_ : Aside0 (Kd.R (Kd.int .u64) 42 ((w68.setCell ⟨gb231, 0, none⟩ (.int .i64 t226)).setCell ⟨gb231, 1, none⟩ (.slice Ao72 t227.length co72)) w.heap.size (fun k_ => some k_ ≠ (.slice Ao65 t221.length co65 : Value).ownBlock) (.slice Ao72 t227.length co72) t227) := ⟨by (with_reducible repeat (first | apply Kd.R_alloc | apply Kd.R_drewN | apply Kd.R_drew)); exact Kd.R_mono (Kd.R_far (p := ⟨gb231, 1, none⟩) (Kd.R_far (p := ⟨gb231, 0, none⟩) (Kd.R_types HO229.out BK231.out (by decide)) (fun _ hk => hk.2) (.int .i64 t226)) (fun _ hk => hk.2) (.slice Ao72 t227.length co72)) (fun _ hk => hk.1.2)⟩
            have n2_ : Aside0 (((w68.setCell ⟨gb231, 0, none⟩ (.int .i64 t226)).setCell ⟨gb231, 1, none⟩ (.slice Ao72 t227.length co72)).heap[gb218]? = some (.cells #[.int .i64 a0_0, .slice A0_1 l0_1.length c0_1] 24 (0, 0))) := ⟨by (with_reducible repeat (first | refine blk_drewN ?_ _ | refine blk_drew ?_ | refine blk_alloc ?_ _)); refine blk_far ?_ NB218_231.out _; (with_reducible repeat (first | refine blk_drewN ?_ _ | refine blk_drew ?_ | refine blk_alloc ?_ _)); refine blk_far ?_ NB218_231.out _; (with_reducible repeat (first | refine blk_drewN ?_ _ | refine blk_drew ?_ | refine blk_alloc ?_ _)); exact BK218.out⟩
            have n3_ : Aside0 (((w68.setCell ⟨gb231, 0, none⟩ (.int .i64 t226)).setCell ⟨gb231, 1, none⟩ (.slice Ao72 t227.length co72)).heap[gb225]? = some (.cells #[.int .i64 t220, .slice Ao65 t221.length co65] 24 (0, 0))) := ⟨by (with_reducible repeat (first | refine blk_drewN ?_ _ | refine blk_drew ?_ | refine blk_alloc ?_ _)); refine blk_far ?_ NB225_231.out _; (with_reducible repeat (first | refine blk_drewN ?_ _ | refine blk_drew ?_ | refine blk_alloc ?_ _)); refine blk_far ?_ NB225_231.out _; (with_reducible repeat (first | refine blk_drewN ?_ _ | refine blk_drew ?_ | refine blk_alloc ?_ _)); exact BK225.out⟩
            have n4_ : Aside0 (((w68.setCell ⟨gb231, 0, none⟩ (.int .i64 t226)).setCell ⟨gb231, 1, none⟩ (.slice Ao72 t227.length co72)).heap[gb231]? = some (.cells #[.int .i64 t226, .slice Ao72 t227.length co72] 24 (0, 0))) := ⟨by (with_reducible repeat (first | refine blk_drewN ?_ _ | refine blk_drew ?_ | refine blk_alloc ?_ _)); refine blk_put (cs := #[.int .i64 t226, .slice none 0 0]) ?_ 1 _ rfl; (with_reducible repeat (first | refine blk_drewN ?_ _ | refine blk_drew ?_ | refine blk_alloc ?_ _)); refine blk_put (cs := #[.int .i64 0, .slice none 0 0]) ?_ 0 _ rfl; (with_reducible repeat (first | refine blk_drewN ?_ _ | refine blk_drew ?_ | refine blk_alloc ?_ _)); exact BK231.out⟩
            have n5_ : Aside0 (Below w.heap.size w ((w68.setCell ⟨gb231, 0, none⟩ (.int .i64 t226)).setCell ⟨gb231, 1, none⟩ (.slice Ao72 t227.length co72))) := ⟨by repeat (first | (with_reducible first | exact HB.out | apply below_alloc | apply pw_below_drewN | apply below_drew1 | refine below_set ?_ GE218.out | refine below_set ?_ GE225.out | refine below_set ?_ GE231.out) | exact HB.out)⟩
            (try clear HO223)
            (try clear HO229)
            (try clear BK218)
            (try clear BK225)
            (try clear BK231)
            (try clear HB)
            generalize ((w68.setCell ⟨gb231, 0, none⟩ (.int .i64 t226)).setCell ⟨gb231, 1, none⟩ (.slice Ao72 t227.length co72)) = w73 at n0_ n1_ n2_ n3_ n4_ n5_ ⊢
            have HO223 := n0_
            have HO229 := n1_
            have BK218 := n2_
            have BK225 := n3_
            have BK231 := n4_
            have HB := n5_
            clear n0_ n1_ n2_ n3_ n4_ n5_
            have n0_ := Aside0.mk (Kd.R_drew HO223.out)
            have n1_ := Aside0.mk (Kd.R_drew HO229.out)
            have n2_ := Aside0.mk (blk_drew BK218.out)
            have n3_ := Aside0.mk (blk_drew BK225.out)
            have n4_ := Aside0.mk (blk_drew BK231.out)
            have n5_ := Aside0.mk (below_drew1 HB.out)
            clear HO223
            clear HO229
            clear BK218
            clear BK225
            clear BK231
            clear HB
            have HO223 := n0_
            have HO229 := n1_
            have BK218 := n2_
            have BK225 := n3_
            have BK231 := n4_
            have HB := n5_
            clear n0_ n1_ n2_ n3_ n4_ n5_
            refine start_ (n := 18) (S := fun w' => w'.cell? ⟨gb225, 0, none⟩ = some (.int .i64 t220) ∧ w'.cell? ⟨gb225, 1, none⟩ = some (.slice Ao65 t221.length co65) ∧ w'.cell? ⟨gb231, 0, none⟩ = some (.int .i64 t226) ∧ w'.cell? ⟨gb231, 1, none⟩ = some (.slice Ao72 t227.length co72) ∧ w'.cell? ⟨gb218, 0, none⟩ = some (.int .i64 a0_0) ∧ w'.cell? ⟨gb218, 1, none⟩ = some (.slice A0_1 l0_1.length c0_1)) (ds := []) #[false, false, false, false, false, false, false, false, false, false, false, false, false, false, false, false, false, false] (by kernel_rfl) rfl rfl ⟨(blk_cell BK225.out 0).trans rfl, (blk_cell BK225.out 1).trans rfl, (blk_cell BK231.out 0).trans rfl, (blk_cell BK231.out 1).trans rfl, (blk_cell BK218.out 0).trans rfl, (blk_cell BK218.out 1).trans rfl⟩ (fun hHeld => ?_); refine with_tabW estoverslaw01_BitsetSets.tab5 estoverslaw01_BitsetSets.bits5 (fun HT_ HW_ => ?_)
            generalize w73.drew = w74 at HO223 HO229 BK218 BK225 BK231 HB hHeld ⊢
            refine pure_ (i := 0) (N := some 27) (v := ?_) (a' := ?_) #[true, false, false, false, false, false, false, false, false, false, false, false, false, false, false, false, false, false] rfl rfl (any_of HT_.out (by kernel_rfl)) (fun _ _ _ h => h) (Or.inl ⟨by rfl, ?_⟩) ?_ ?_
            rotate_left
            · intro w'
              go_simp
              with_reducible rfl
            rotate_left
            · simp only [Act.put, List.setIfInBounds_toArray, List.set_cons_zero, List.set_cons_succ, i64_w, i32_w]
              rfl
            refine pure_ (i := 1) (N := some 28) (v := ?_) (a' := ?_) #[true, true, false, false, false, false, false, false, false, false, false, false, false, false, false, false, false, false] rfl rfl (any_of HT_.out (by kernel_rfl)) (fun _ _ _ h => h) (Or.inl ⟨by rfl, ?_⟩) ?_ ?_
            rotate_left
            · intro w'
              go_simp
              with_reducible rfl
            rotate_left
            · simp only [Act.put, List.setIfInBounds_toArray, List.set_cons_zero, List.set_cons_succ, i64_w, i32_w]
              rfl
            refine pure_ (i := 2) (N := some 29) (v := ?_) (a' := ?_) #[true, true, true, false, false, false, false, false, false, false, false, false, false, false, false, false, false, false] rfl rfl (any_of HT_.out (by kernel_rfl)) (fun _ _ _ h => h) (Or.inl ⟨by rfl, ?_⟩) ?_ ?_
            rotate_left
            · intro w'
              go_simp
              with_reducible rfl
            rotate_left
            · simp only [Act.put, List.setIfInBounds_toArray, List.set_cons_zero, List.set_cons_succ, i64_w, i32_w]
              rfl
            refine pure_ (i := 3) (N := some 30) (v := ?_) (a' := ?_) #[true, true, true, true, false, false, false, false, false, false, false, false, false, false, false, false, false, false] rfl rfl (any_of HT_.out (by kernel_rfl)) (fun _ _ _ h => h) (Or.inl ⟨by rfl, ?_⟩) ?_ ?_
            rotate_left
            · intro w'
              go_simp
              with_reducible rfl
            rotate_left
            · simp only [Act.put, List.setIfInBounds_toArray, List.set_cons_zero, List.set_cons_succ, i64_w, i32_w]
              rfl
            refine take_ (i := 4) (N := some 31) (v := ?_) (a' := ?_) #[true, true, true, true, true, false, false, false, false, false, false, false, false, false, false, false, false, false] rfl rfl (take_ofW HT_.out HW_.out (by kernel_rfl)) (fun _ _ _ h => h) (Or.inl ⟨by rfl, ?_⟩) hHeld ?_ ?_
            rotate_left
            · rintro w' ⟨s0, s1, s2, s3, s4, s5⟩
              go_simp
              with_reducible rfl
            rotate_left
            · simp only [Act.put, List.setIfInBounds_toArray, List.set_cons_zero, List.set_cons_succ, i64_w, i32_w]
              rfl
            refine take_ (i := 5) (N := some 32) (v := ?_) (a' := ?_) #[true, true, true, true, true, true, false, false, false, false, false, false, false, false, false, false, false, false] rfl rfl (take_ofW HT_.out HW_.out (by kernel_rfl)) (fun _ _ _ h => h) (Or.inl ⟨by rfl, ?_⟩) hHeld ?_ ?_
            rotate_left
            · rintro w' ⟨s0, s1, s2, s3, s4, s5⟩
              go_simp
              with_reducible rfl
            rotate_left
            · simp only [Act.put, List.setIfInBounds_toArray, List.set_cons_zero, List.set_cons_succ, i64_w, i32_w]
              rfl
            refine one_ (i := 6) (N := some 33) #[true, true, true, true, true, true, true, false, false, false, false, false, false, false, false, false, false, false] rfl rfl (one_of HT_.out (by kernel_rfl)) (by decide) (fun K hK => ?_)
            refine goes_ Tryd.func16 (by kernel_rfl) rfl #[.agg #[.int .i64 t220, .slice Ao65 t221.length co65], .agg #[.int .i64 t226, .slice Ao72 t227.length co72]] (by rfl) rfl rfl (by (try simp only [List.map_toArray, List.map_cons, List.map_nil]); first | done | rfl | (simp only [List.length_drop, List.length_take]; rfl)) ?_
            with_reducible refine (estoversref01_Same.calls k t220 _ _ t221 t226 _ _ t227 true _ ?side1 ?side2 ?side3 ?side4 A9.out).mono ?_
            (case side1 => repeat (first | exact (Kd.R_reads' HO223.out).2.2 | (with_reducible refine Kd.C_alloc ?_ _) | (with_reducible refine Kd.C_drewN ?_ _) | (with_reducible refine Kd.C_drew ?_)))
            (case side2 => exact (Kd.R_reads' HO223.out).2.1)
            (case side3 => repeat (first | exact (Kd.R_reads' HO229.out).2.2 | (with_reducible refine Kd.C_alloc ?_ _) | (with_reducible refine Kd.C_drewN ?_ _) | (with_reducible refine Kd.C_drew ?_)))
            (case side4 => exact (Kd.R_reads' HO229.out).2.1)
            rintro e w75 ⟨rfl, hb⟩
            refine ⟨_, rfl, ?_⟩
            have n0_ := Aside0.mk (Kd.R_below (by (with_reducible repeat (first | apply Kd.R_alloc | apply Kd.R_drewN | apply Kd.R_drew)); exact HO223.out) hb)
            have n1_ := Aside0.mk (Kd.R_below (by (with_reducible repeat (first | apply Kd.R_alloc | apply Kd.R_drewN | apply Kd.R_drew)); exact HO229.out) hb)
            have n2_ := Aside0.mk (blk_below (g := gb218) (o := .cells #[.int .i64 a0_0, .slice A0_1 l0_1.length c0_1] 24 (0, 0)) (by (with_reducible repeat (first | refine blk_drewN ?_ _ | refine blk_drew ?_ | refine blk_alloc ?_ _)); exact BK218.out) hb)
            have n3_ := Aside0.mk (blk_below (g := gb225) (o := .cells #[.int .i64 t220, .slice Ao65 t221.length co65] 24 (0, 0)) (by (with_reducible repeat (first | refine blk_drewN ?_ _ | refine blk_drew ?_ | refine blk_alloc ?_ _)); exact BK225.out) hb)
            have n4_ := Aside0.mk (blk_below (g := gb231) (o := .cells #[.int .i64 t226, .slice Ao72 t227.length co72] 24 (0, 0)) (by (with_reducible repeat (first | refine blk_drewN ?_ _ | refine blk_drew ?_ | refine blk_alloc ?_ _)); exact BK231.out) hb)
            have n5_ := Aside0.mk (below_step (by repeat (first | (with_reducible first | exact HB.out | apply below_alloc | apply pw_below_drewN | apply below_drew1 | refine below_set ?_ GE218.out | refine below_set ?_ GE225.out | refine below_set ?_ GE231.out) | exact HB.out)) hb)
            clear HO223
            clear HO229
            clear BK218
            clear BK225
            clear BK231
            clear HB
            have HO223 := n0_
            have HO229 := n1_
            have BK218 := n2_
            have BK225 := n3_
            have BK231 := n4_
            have HB := n5_
            clear n0_ n1_ n2_ n3_ n4_ n5_
            (try clear hb)
            (try clear hb2)
            (try clear hk)
            (try clear hi)
            refine hK.out _ _ ⟨(blk_cell BK225.out 0).trans rfl, (blk_cell BK225.out 1).trans rfl, (blk_cell BK231.out 0).trans rfl, (blk_cell BK231.out 1).trans rfl, (blk_cell BK218.out 0).trans rfl, (blk_cell BK218.out 1).trans rfl⟩ (fun hHeld => ?_)
            clear hK K
            refine norm_ (a' := ?_) ?_ ?_
            rotate_left
            · show Act.put _ (some 33) _ = _
              simp only [Act.put, List.setIfInBounds_toArray, List.set_cons_zero, List.set_cons_succ, i64_w, i32_w]
              rfl
            refine pure_ (i := 7) (N := some 34) (v := ?_) (a' := ?_) #[true, true, true, true, true, true, true, true, false, false, false, false, false, false, false, false, false, false] rfl rfl (any_of HT_.out (by kernel_rfl)) (fun _ _ _ h => h) (Or.inl ⟨by rfl, ?_⟩) ?_ ?_
            rotate_left
            · intro w'
              go_simp
              with_reducible rfl
            rotate_left
            · simp only [Act.put, List.setIfInBounds_toArray, List.set_cons_zero, List.set_cons_succ, i64_w, i32_w]
              rfl
            refine pure_ (i := 8) (N := some 35) (v := ?_) (a' := ?_) #[true, true, true, true, true, true, true, true, true, false, false, false, false, false, false, false, false, false] rfl rfl (any_of HT_.out (by kernel_rfl)) (fun _ _ _ h => h) (Or.inl ⟨by rfl, ?_⟩) ?_ ?_
            rotate_left
            · intro w'
              go_simp
              with_reducible rfl
            rotate_left
            · simp only [Act.put, List.setIfInBounds_toArray, List.set_cons_zero, List.set_cons_succ, i64_w, i32_w]
              rfl
            refine pure_ (i := 9) (N := some 36) (v := ?_) (a' := ?_) #[true, true, true, true, true, true, true, true, true, true, false, false, false, false, false, false, false, false] rfl rfl (any_of HT_.out (by kernel_rfl)) (fun _ _ _ h => h) (Or.inl ⟨by rfl, ?_⟩) ?_ ?_
            rotate_left
            · intro w'
              go_simp
              with_reducible rfl
            rotate_left
            · simp only [Act.put, List.setIfInBounds_toArray, List.set_cons_zero, List.set_cons_succ, i64_w, i32_w]
              rfl
            refine pure_ (i := 11) (N := some 38) (v := ?_) (a' := ?_) #[true, true, true, true, true, true, true, true, true, true, false, true, false, false, false, false, false, false] rfl rfl (any_of HT_.out (by kernel_rfl)) (fun _ _ _ h => h) (Or.inl ⟨by rfl, ?_⟩) ?_ ?_
            rotate_left
            · intro w'
              go_simp
              with_reducible rfl
            rotate_left
            · simp only [Act.put, List.setIfInBounds_toArray, List.set_cons_zero, List.set_cons_succ, i64_w, i32_w]
              rfl
            refine pure_ (i := 14) (N := some 41) (v := ?_) (a' := ?_) #[true, true, true, true, true, true, true, true, true, true, false, true, false, false, true, false, false, false] rfl rfl (any_of HT_.out (by kernel_rfl)) (fun _ _ _ h => h) (Or.inl ⟨by rfl, ?_⟩) ?_ ?_
            rotate_left
            · intro w'
              go_simp
              with_reducible rfl
            rotate_left
            · simp only [Act.put, List.setIfInBounds_toArray, List.set_cons_zero, List.set_cons_succ, i64_w, i32_w]
              rfl
            refine take_ (i := 10) (N := some 37) (v := ?_) (a' := ?_) #[true, true, true, true, true, true, true, true, true, true, true, true, false, false, true, false, false, false] rfl rfl (take_ofW HT_.out HW_.out (by kernel_rfl)) (fun _ _ _ h => h) (Or.inl ⟨by rfl, ?_⟩) hHeld ?_ ?_
            rotate_left
            · rintro w' ⟨s0, s1, s2, s3, s4, s5⟩
              go_simp
              with_reducible rfl
            rotate_left
            · simp only [Act.put, List.setIfInBounds_toArray, List.set_cons_zero, List.set_cons_succ, i64_w, i32_w]
              rfl
            refine take_ (i := 13) (N := some 40) (v := ?_) (a' := ?_) #[true, true, true, true, true, true, true, true, true, true, true, true, false, true, true, false, false, false] rfl rfl (take_ofW HT_.out HW_.out (by kernel_rfl)) (fun _ _ _ h => h) (Or.inl ⟨by rfl, ?_⟩) hHeld ?_ ?_
            rotate_left
            · rintro w' ⟨s0, s1, s2, s3, s4, s5⟩
              go_simp
              with_reducible rfl
            rotate_left
            · simp only [Act.put, List.setIfInBounds_toArray, List.set_cons_zero, List.set_cons_succ, i64_w, i32_w]
              rfl
            refine one_ (i := 12) (N := some 39) #[true, true, true, true, true, true, true, true, true, true, true, true, true, true, true, false, false, false] rfl rfl (one_of HT_.out (by kernel_rfl)) (by decide) (fun K hK => ?_)
            refine goes_ Tryd.func19 (by kernel_rfl) rfl #[.agg #[.int .i64 a0_0, .slice A0_1 l0_1.length c0_1], .int .i64 a1] (by rfl) rfl rfl (by (try simp only [List.map_toArray, List.map_cons, List.map_nil]); first | done | rfl | (simp only [List.length_drop, List.length_take]; rfl)) ?_
            with_reducible refine (bitset_Get.calls k a0_0 _ _ l0_1 a1 t233 _ ?side1 ?side2 A11.out).mono ?_
            (case side1 => repeat (first | exact (Kd.C_below HR0_1.out HB.out) | (with_reducible refine Kd.C_alloc ?_ _) | (with_reducible refine Kd.C_drewN ?_ _) | (with_reducible refine Kd.C_drew ?_)))
            (case side2 => exact HC0_1.out)
            rintro e w76 ⟨rfl, hb⟩
            refine ⟨_, rfl, ?_⟩
            have n0_ := Aside0.mk (Kd.R_below (by (with_reducible repeat (first | apply Kd.R_alloc | apply Kd.R_drewN | apply Kd.R_drew)); exact HO223.out) hb)
            have n1_ := Aside0.mk (Kd.R_below (by (with_reducible repeat (first | apply Kd.R_alloc | apply Kd.R_drewN | apply Kd.R_drew)); exact HO229.out) hb)
            have n2_ := Aside0.mk (blk_below (g := gb218) (o := .cells #[.int .i64 a0_0, .slice A0_1 l0_1.length c0_1] 24 (0, 0)) (by (with_reducible repeat (first | refine blk_drewN ?_ _ | refine blk_drew ?_ | refine blk_alloc ?_ _)); exact BK218.out) hb)
            have n3_ := Aside0.mk (blk_below (g := gb225) (o := .cells #[.int .i64 t220, .slice Ao65 t221.length co65] 24 (0, 0)) (by (with_reducible repeat (first | refine blk_drewN ?_ _ | refine blk_drew ?_ | refine blk_alloc ?_ _)); exact BK225.out) hb)
            have n4_ := Aside0.mk (blk_below (g := gb231) (o := .cells #[.int .i64 t226, .slice Ao72 t227.length co72] 24 (0, 0)) (by (with_reducible repeat (first | refine blk_drewN ?_ _ | refine blk_drew ?_ | refine blk_alloc ?_ _)); exact BK231.out) hb)
            have n5_ := Aside0.mk (below_step (by repeat (first | (with_reducible first | exact HB.out | apply below_alloc | apply pw_below_drewN | apply below_drew1 | refine below_set ?_ GE218.out | refine below_set ?_ GE225.out | refine below_set ?_ GE231.out) | exact HB.out)) hb)
            clear HO223
            clear HO229
            clear BK218
            clear BK225
            clear BK231
            clear HB
            have HO223 := n0_
            have HO229 := n1_
            have BK218 := n2_
            have BK225 := n3_
            have BK231 := n4_
            have HB := n5_
            clear n0_ n1_ n2_ n3_ n4_ n5_
            (try clear hb)
            (try clear hb2)
            (try clear hk)
            (try clear hi)
            refine hK.out _ _ ⟨(blk_cell BK225.out 0).trans rfl, (blk_cell BK225.out 1).trans rfl, (blk_cell BK231.out 0).trans rfl, (blk_cell BK231.out 1).trans rfl, (blk_cell BK218.out 0).trans rfl, (blk_cell BK218.out 1).trans rfl⟩ (fun hHeld => ?_)
            clear hK K
            refine norm_ (a' := ?_) ?_ ?_
            rotate_left
            · show Act.put _ (some 39) _ = _
              simp only [Act.put, List.setIfInBounds_toArray, List.set_cons_zero, List.set_cons_succ, i64_w, i32_w]
              rfl
            refine one_ (i := 15) (N := some 42) #[true, true, true, true, true, true, true, true, true, true, true, true, true, true, true, true, false, false] rfl rfl (one_of HT_.out (by kernel_rfl)) (by decide) (fun K hK => ?_)
            refine goes_ Tryd.func20 (by kernel_rfl) rfl #[.agg #[.int .i64 a0_0, .slice A0_1 l0_1.length c0_1], .int .i64 a1] (by rfl) rfl rfl (by (try simp only [List.map_toArray, List.map_cons, List.map_nil]); first | done | rfl | (simp only [List.length_drop, List.length_take]; rfl)) ?_
            with_reducible refine (estoversref01_Get.calls k a0_0 _ _ l0_1 a1 t234 _ ?side1 ?side2 A12.out).mono ?_
            (case side1 => repeat (first | exact (Kd.C_below HR0_1.out HB.out) | (with_reducible refine Kd.C_alloc ?_ _) | (with_reducible refine Kd.C_drewN ?_ _) | (with_reducible refine Kd.C_drew ?_)))
            (case side2 => exact HC0_1.out)
            rintro e w77 ⟨rfl, hb⟩
            refine ⟨_, rfl, ?_⟩
            have n0_ := Aside0.mk (Kd.R_below (by (with_reducible repeat (first | apply Kd.R_alloc | apply Kd.R_drewN | apply Kd.R_drew)); exact HO223.out) hb)
            have n1_ := Aside0.mk (Kd.R_below (by (with_reducible repeat (first | apply Kd.R_alloc | apply Kd.R_drewN | apply Kd.R_drew)); exact HO229.out) hb)
            have n2_ := Aside0.mk (blk_below (g := gb218) (o := .cells #[.int .i64 a0_0, .slice A0_1 l0_1.length c0_1] 24 (0, 0)) (by (with_reducible repeat (first | refine blk_drewN ?_ _ | refine blk_drew ?_ | refine blk_alloc ?_ _)); exact BK218.out) hb)
            have n3_ := Aside0.mk (blk_below (g := gb225) (o := .cells #[.int .i64 t220, .slice Ao65 t221.length co65] 24 (0, 0)) (by (with_reducible repeat (first | refine blk_drewN ?_ _ | refine blk_drew ?_ | refine blk_alloc ?_ _)); exact BK225.out) hb)
            have n4_ := Aside0.mk (blk_below (g := gb231) (o := .cells #[.int .i64 t226, .slice Ao72 t227.length co72] 24 (0, 0)) (by (with_reducible repeat (first | refine blk_drewN ?_ _ | refine blk_drew ?_ | refine blk_alloc ?_ _)); exact BK231.out) hb)
            have n5_ := Aside0.mk (below_step (by repeat (first | (with_reducible first | exact HB.out | apply below_alloc | apply pw_below_drewN | apply below_drew1 | refine below_set ?_ GE218.out | refine below_set ?_ GE225.out | refine below_set ?_ GE231.out) | exact HB.out)) hb)
            clear HO223
            clear HO229
            clear BK218
            clear BK225
            clear BK231
            clear HB
            have HO223 := n0_
            have HO229 := n1_
            have BK218 := n2_
            have BK225 := n3_
            have BK231 := n4_
            have HB := n5_
            clear n0_ n1_ n2_ n3_ n4_ n5_
            (try clear hb)
            (try clear hb2)
            (try clear hk)
            (try clear hi)
            refine hK.out _ _ ⟨(blk_cell BK225.out 0).trans rfl, (blk_cell BK225.out 1).trans rfl, (blk_cell BK231.out 0).trans rfl, (blk_cell BK231.out 1).trans rfl, (blk_cell BK218.out 0).trans rfl, (blk_cell BK218.out 1).trans rfl⟩ (fun hHeld => ?_)
            clear hK K
            refine norm_ (a' := ?_) ?_ ?_
            rotate_left
            · show Act.put _ (some 42) _ = _
              simp only [Act.put, List.setIfInBounds_toArray, List.set_cons_zero, List.set_cons_succ, i64_w, i32_w]
              rfl
            refine pure_ (i := 16) (N := some 43) (v := ?_) (a' := ?_) #[true, true, true, true, true, true, true, true, true, true, true, true, true, true, true, true, true, false] rfl rfl (any_of HT_.out (by kernel_rfl)) (fun _ _ _ h => h) (Or.inl ⟨by rfl, ?_⟩) ?_ ?_
            rotate_left
            · intro w'
              go_simp
              with_reducible rfl
            rotate_left
            · simp only [Act.put, List.setIfInBounds_toArray, List.set_cons_zero, List.set_cons_succ, i64_w, i32_w]
              rfl
            refine pure_ (i := 17) (N := some 44) (v := ?_) (a' := ?_) #[true, true, true, true, true, true, true, true, true, true, true, true, true, true, true, true, true, true] rfl rfl (any_of HT_.out (by kernel_rfl)) (fun _ _ _ h => h) (Or.inl ⟨by rfl, ?_⟩) ?_ ?_
            rotate_left
            · intro w'
              go_simp
              with_reducible rfl
            rotate_left
            · simp only [Act.put, List.setIfInBounds_toArray, List.set_cons_zero, List.set_cons_succ, i64_w, i32_w]
              rfl
            refine done_ (done_of HT_.out (by kernel_rfl)) ?_
            try go_wp2
            go_ret
            exact ⟨by first | rfl | (simp [errW_none, errW_some] <;> rfl) | (simp [*, errW_none, errW_some] <;> rfl), by repeat (first | (with_reducible first | exact HB.out | apply below_alloc | apply pw_below_drewN | apply below_drew1 | refine below_set ?_ GE218.out | refine below_set ?_ GE225.out | refine below_set ?_ GE231.out) | exact HB.out)⟩
      · replace c10 := Bool.eq_false_iff.mpr c10
        subst c10
        have H1 : (some false) = some r := by rw [if_neg (show ¬ (false = true) by decide)] at H; exact H
        clear H
        have H := H1
        clear H1
        obtain rfl := Option.some.inj H
        go_enter Tryd.func4, Tryd.ntmps4
        try go_wp2_with (first | ((with_reducible refine gate_dst (N := 3) rfl ?_); refine box_event ?hg (N := 3) ?hd (cs := #[.int .i64 a0_0, .slice A0_1 l0_1.length c0_1]) (t := 24) ?hr ?_; (case hd => rfl); (case hg => rfl); (case hr => first | (go_simp; done) | (go_simp; rfl)); intro gb218 hg w78 hbox hb; have n0_ := Aside0.mk (below_step (by repeat (first | (with_reducible first | exact HB.out | apply below_alloc | apply pw_below_drewN | apply below_drew1) | exact HB.out)) hb); have n1_ := Aside0.mk (hbox); have n2_ := Aside0.mk ((by rw [hg]; exact (below_size (by repeat (first | (with_reducible first | exact HB.out | apply below_alloc | apply pw_below_drewN | apply below_drew1) | exact HB.out))) : w.heap.size ≤ gb218)); have n3_ := Aside0.mk ((by rw [hg]; exact (below_size (by repeat (first | (with_reducible first | exact HB.out | apply below_alloc | apply pw_below_drewN | apply below_drew1) | exact HB.out))) : w.heap.size ≤ gb218)); clear HB; have HB := n0_; have BK218 := n1_; have GW218 := n2_; have GE218 := n3_; clear n0_ n1_ n2_ n3_; clear hb hbox hg) | ((with_reducible refine gate_callee (f := 11) rfl ?_); refine goesL_ (some 11) rfl rfl Tryd.func11 (by kernel_rfl) rfl #[] rfl (by (try simp only [List.map_toArray, List.map_cons, List.map_nil]); first | done | rfl | (simp only [List.length_drop, List.length_take]; rfl)) ?_; (with_reducible refine (estoverslaw01_awake.calls k  true _ A4.out (TabW.below HT (by repeat (first | (with_reducible first | exact HB.out | apply below_alloc | apply pw_below_drewN | apply below_drew1 | refine below_set ?_ GE218.out | refine below_set ?_ GE225.out | refine below_set ?_ GE231.out) | exact HB.out)))).mono ?_); rintro e w79 ⟨rfl, hb⟩; refine ⟨_, rfl, ?_⟩; have n0_ := Aside0.mk (blk_below (g := gb218) (o := .cells #[.int .i64 a0_0, .slice A0_1 l0_1.length c0_1] 24 (0, 0)) (by (with_reducible repeat (first | refine blk_drewN ?_ _ | refine blk_drew ?_ | refine blk_alloc ?_ _)); exact BK218.out) hb); have n1_ := Aside0.mk (below_step (by repeat (first | (with_reducible first | exact HB.out | apply below_alloc | apply pw_below_drewN | apply below_drew1 | refine below_set ?_ GE218.out) | exact HB.out)) hb); clear BK218; clear HB; have BK218 := n0_; have HB := n1_; clear n0_ n1_; (try clear hb); (try clear hb2); (try clear hk); (try clear hi); have hcz80_0 : w79.cell? ⟨gb218, 0, none⟩ = some (.int .i64 a0_0) := (blk_cell BK218.out 0).trans rfl; have hcz80_1 : w79.cell? ⟨gb218, 1, none⟩ = some (.slice A0_1 l0_1.length c0_1) := (blk_cell BK218.out 1).trans rfl; have hfz80_0 := blk_frozen BK218.out 0; have hfz80_1 := blk_frozen BK218.out 1) | ((with_reducible refine gate_callee (f := 17) rfl ?_); refine goesL_ (some 17) rfl rfl Tryd.func17 (by kernel_rfl) rfl #[.agg #[.int .i64 a0_0, .slice A0_1 l0_1.length c0_1], .int .i64 a1, .bool a2] rfl (by (try simp only [List.map_toArray, List.map_cons, List.map_nil]); first | done | rfl | (simp only [List.length_drop, List.length_take]; rfl)) ?_; (with_reducible refine (bitset_Set.calls k a0_0 _ _ l0_1 a1 a2 t220 t221 t224 _ ?side1 ?side2 A6.out).mono ?_); (case side1 => repeat (first | exact (Kd.C_below HR0_1.out HB.out) | (with_reducible refine Kd.C_alloc ?_ _) | (with_reducible refine Kd.C_drewN ?_ _) | (with_reducible refine Kd.C_drew ?_))); (case side2 => exact HC0_1.out); rintro e w81 ⟨v222, rfl, ho0, hb⟩; refine ⟨_, rfl, ?_⟩; have n0_ := Aside0.mk (Kd.R_lower ho0 (below_size (by repeat (first | (with_reducible first | exact HB.out | apply below_alloc | apply pw_below_drewN | apply below_drew1 | refine below_set ?_ GE218.out) | exact HB.out)))); have n1_ := Aside0.mk (blk_below (g := gb218) (o := .cells #[.int .i64 a0_0, .slice A0_1 l0_1.length c0_1] 24 (0, 0)) (by (with_reducible repeat (first | refine blk_drewN ?_ _ | refine blk_drew ?_ | refine blk_alloc ?_ _)); exact BK218.out) hb); have n2_ := Aside0.mk (below_step (by repeat (first | (with_reducible first | exact HB.out | apply below_alloc | apply pw_below_drewN | apply below_drew1 | refine below_set ?_ GE218.out) | exact HB.out)) hb); clear BK218; clear HB; have HO223 := n0_; have BK218 := n1_; have HB := n2_; clear n0_ n1_ n2_; (try clear hb); (try clear hb2); (try clear hk); (try clear hi); (try clear ho0)) | ((with_reducible refine gate_dst (N := 7) rfl ?_); refine box_event ?hg (N := 7) ?hd (cs := #[.int .i64 0, .slice none 0 0]) (t := 24) ?hr ?_; (case hd => rfl); (case hg => rfl); (case hr => first | (go_simp; done) | (go_simp; rfl)); intro gb225 hg w82 hbox hb; have n0_ := Aside0.mk (Kd.R_below (by (with_reducible repeat (first | apply Kd.R_alloc | apply Kd.R_drewN | apply Kd.R_drew)); exact HO223.out) hb); have n1_ := Aside0.mk (blk_below (g := gb218) (o := .cells #[.int .i64 a0_0, .slice A0_1 l0_1.length c0_1] 24 (0, 0)) (by (with_reducible repeat (first | refine blk_drewN ?_ _ | refine blk_drew ?_ | refine blk_alloc ?_ _)); exact BK218.out) hb); have n2_ := Aside0.mk (below_step (by repeat (first | (with_reducible first | exact HB.out | apply below_alloc | apply pw_below_drewN | apply below_drew1 | refine below_set ?_ GE218.out) | exact HB.out)) hb); have n3_ := Aside0.mk (hbox); have n4_ := Aside0.mk ((by rw [hg]; exact (below_size (by repeat (first | (with_reducible first | exact HB.out | apply below_alloc | apply pw_below_drewN | apply below_drew1 | refine below_set ?_ GE218.out) | exact HB.out))) : w.heap.size ≤ gb225)); have n5_ := Aside0.mk ((by rw [hg]; exact (below_size (by repeat (first | (with_reducible first | exact HB.out | apply below_alloc | apply pw_below_drewN | apply below_drew1 | refine below_set ?_ GE218.out) | exact HB.out))) : w.heap.size ≤ gb225)); have n6_ := Aside0.mk ((by rw [hg]; exact Nat.ne_of_lt (blk_lt (g := gb218) (o := .cells #[.int .i64 a0_0, .slice A0_1 l0_1.length c0_1] 24 (0, 0)) (by (with_reducible repeat (first | refine blk_drewN ?_ _ | refine blk_drew ?_ | refine blk_alloc ?_ _)); exact BK218.out)) : gb218 ≠ gb225)); have n7_ := Aside0.mk ((by rw [hg]; exact Nat.ne_of_gt (blk_lt (g := gb218) (o := .cells #[.int .i64 a0_0, .slice A0_1 l0_1.length c0_1] 24 (0, 0)) (by (with_reducible repeat (first | refine blk_drewN ?_ _ | refine blk_drew ?_ | refine blk_alloc ?_ _)); exact BK218.out)) : gb225 ≠ gb218)); clear HO223; clear BK218; clear HB; have HO223 := n0_; have BK218 := n1_; have HB := n2_; have BK225 := n3_; have GW225 := n4_; have GE225 := n5_; have NB218_225 := n6_; have NB225_218 := n7_; clear n0_ n1_ n2_ n3_ n4_ n5_ n6_ n7_; clear hb hbox hg; have hnb83 := NB225_218.out; have hnc83 := NB218_225.out; have hcz84_0 : w82.cell? ⟨gb225, 0, none⟩ = some (.int .i64 0) := (blk_cell BK225.out 0).trans rfl; have hcz84_1 : w82.cell? ⟨gb225, 1, none⟩ = some (.slice none 0 0) := (blk_cell BK225.out 1).trans rfl; have hfz84_0 := blk_frozen BK225.out 0; have hfz84_1 := blk_frozen BK225.out 1; obtain ⟨Ao85, co85, eo85⟩ := Kd.R_slice HO223.out; subst eo85; have hcz86_0 : w82.cell? ⟨gb218, 0, none⟩ = some (.int .i64 a0_0) := (blk_cell BK218.out 0).trans rfl; have hcz86_1 : w82.cell? ⟨gb218, 1, none⟩ = some (.slice A0_1 l0_1.length c0_1) := (blk_cell BK218.out 1).trans rfl; have hfz86_0 := blk_frozen BK218.out 0; have hfz86_1 := blk_frozen BK218.out 1) | ((with_reducible refine gate_callee (f := 18) rfl ?_); refine goesL_ (some 24) rfl rfl Tryd.func18 (by kernel_rfl) rfl #[.agg #[.int .i64 a0_0, .slice A0_1 l0_1.length c0_1], .int .i64 a1, .bool a2] rfl (by (try simp only [List.map_toArray, List.map_cons, List.map_nil]); first | done | rfl | (simp only [List.length_drop, List.length_take]; rfl)) ?_; (with_reducible refine (estoversref01_Set.calls k a0_0 _ _ l0_1 a1 a2 t226 t227 t230 _ ?side1 ?side2 A7.out).mono ?_); (case side1 => exact Kd.C_below HR0_1.out (by repeat (first | (with_reducible first | exact HB.out | apply below_alloc | apply pw_below_drewN | apply below_drew1 | refine below_set ?_ GE218.out | refine below_set ?_ GE225.out) | exact HB.out))); (case side2 => exact HC0_1.out); rintro e w87 ⟨v228, rfl, ho0, hb⟩; refine ⟨_, rfl, ?_⟩; have n0_ := Aside0.mk (Kd.R_elder' (by (with_reducible repeat (first | apply Kd.R_alloc | apply Kd.R_drewN | apply Kd.R_drew)); exact (Kd.R_mono (Kd.R_far (p := ⟨gb225, 1, none⟩) (Kd.R_far (p := ⟨gb225, 0, none⟩) (Kd.R_types HO223.out BK225.out (by decide)) (fun _ hk => hk.2) (.int .i64 t220)) (fun _ hk => hk.2) (.slice Ao85 t221.length co85)) (fun _ h_ => h_.1))) (Kd.R_base ho0) hb); have n1_ := Aside0.mk (Kd.R_lower (Kd.R_new' ho0 (Kd.R_lt (by (with_reducible repeat (first | apply Kd.R_alloc | apply Kd.R_drewN | apply Kd.R_drew)); exact (Kd.R_mono (Kd.R_far (p := ⟨gb225, 1, none⟩) (Kd.R_far (p := ⟨gb225, 0, none⟩) (Kd.R_types HO223.out BK225.out (by decide)) (fun _ hk => hk.2) (.int .i64 t220)) (fun _ hk => hk.2) (.slice Ao85 t221.length co85)) (fun _ h_ => h_.1))))) (below_size (by repeat (first | (with_reducible first | exact HB.out | apply below_alloc | apply pw_below_drewN | apply below_drew1 | refine below_set ?_ GE218.out | refine below_set ?_ GE225.out) | exact HB.out)))); have n2_ := Aside0.mk (blk_below (g := gb218) (o := .cells #[.int .i64 a0_0, .slice A0_1 l0_1.length c0_1] 24 (0, 0)) (by (with_reducible repeat (first | refine blk_drewN ?_ _ | refine blk_drew ?_ | refine blk_alloc ?_ _)); refine blk_far ?_ NB218_225.out _; (with_reducible repeat (first | refine blk_drewN ?_ _ | refine blk_drew ?_ | refine blk_alloc ?_ _)); refine blk_far ?_ NB218_225.out _; (with_reducible repeat (first | refine blk_drewN ?_ _ | refine blk_drew ?_ | refine blk_alloc ?_ _)); exact BK218.out) hb); have n3_ := Aside0.mk (blk_below (g := gb225) (o := .cells #[.int .i64 t220, .slice Ao85 t221.length co85] 24 (0, 0)) (by (with_reducible repeat (first | refine blk_drewN ?_ _ | refine blk_drew ?_ | refine blk_alloc ?_ _)); refine blk_put (cs := #[.int .i64 t220, .slice none 0 0]) ?_ 1 _ rfl; (with_reducible repeat (first | refine blk_drewN ?_ _ | refine blk_drew ?_ | refine blk_alloc ?_ _)); refine blk_put (cs := #[.int .i64 0, .slice none 0 0]) ?_ 0 _ rfl; (with_reducible repeat (first | refine blk_drewN ?_ _ | refine blk_drew ?_ | refine blk_alloc ?_ _)); exact BK225.out) hb); have n4_ := Aside0.mk (below_step (by repeat (first | (with_reducible first | exact HB.out | apply below_alloc | apply pw_below_drewN | apply below_drew1 | refine below_set ?_ GE218.out | refine below_set ?_ GE225.out) | exact HB.out)) hb); clear HO223; clear BK218; clear BK225; clear HB; have HO223 := n0_; have HO229 := n1_; have BK218 := n2_; have BK225 := n3_; have HB := n4_; clear n0_ n1_ n2_ n3_ n4_; (try clear hb); (try clear hb2); (try clear hk); (try clear hi); (try clear ho0)) | ((with_reducible refine gate_dst (N := 9) rfl ?_); refine box_event ?hg (N := 9) ?hd (cs := #[.int .i64 0, .slice none 0 0]) (t := 24) ?hr ?_; (case hd => rfl); (case hg => rfl); (case hr => first | (go_simp; done) | (go_simp; rfl)); intro gb231 hg w88 hbox hb; have n0_ := Aside0.mk (Kd.R_below (by (with_reducible repeat (first | apply Kd.R_alloc | apply Kd.R_drewN | apply Kd.R_drew)); exact HO223.out) hb); have n1_ := Aside0.mk (Kd.R_below (by (with_reducible repeat (first | apply Kd.R_alloc | apply Kd.R_drewN | apply Kd.R_drew)); exact HO229.out) hb); have n2_ := Aside0.mk (blk_below (g := gb218) (o := .cells #[.int .i64 a0_0, .slice A0_1 l0_1.length c0_1] 24 (0, 0)) (by (with_reducible repeat (first | refine blk_drewN ?_ _ | refine blk_drew ?_ | refine blk_alloc ?_ _)); exact BK218.out) hb); have n3_ := Aside0.mk (blk_below (g := gb225) (o := .cells #[.int .i64 t220, .slice Ao85 t221.length co85] 24 (0, 0)) (by (with_reducible repeat (first | refine blk_drewN ?_ _ | refine blk_drew ?_ | refine blk_alloc ?_ _)); exact BK225.out) hb); have n4_ := Aside0.mk (below_step (by repeat (first | (with_reducible first | exact HB.out | apply below_alloc | apply pw_below_drewN | apply below_drew1 | refine below_set ?_ GE218.out | refine below_set ?_ GE225.out) | exact HB.out)) hb); have n5_ := Aside0.mk (hbox); have n6_ := Aside0.mk ((by rw [hg]; exact (below_size (by repeat (first | (with_reducible first | exact HB.out | apply below_alloc | apply pw_below_drewN | apply below_drew1 | refine below_set ?_ GE218.out | refine below_set ?_ GE225.out) | exact HB.out))) : w.heap.size ≤ gb231)); have n7_ := Aside0.mk ((by rw [hg]; exact (below_size (by repeat (first | (with_reducible first | exact HB.out | apply below_alloc | apply pw_below_drewN | apply below_drew1 | refine below_set ?_ GE218.out | refine below_set ?_ GE225.out) | exact HB.out))) : w.heap.size ≤ gb231)); have n8_ := Aside0.mk ((by rw [hg]; exact Nat.ne_of_lt (blk_lt (g := gb218) (o := .cells #[.int .i64 a0_0, .slice A0_1 l0_1.length c0_1] 24 (0, 0)) (by (with_reducible repeat (first | refine blk_drewN ?_ _ | refine blk_drew ?_ | refine blk_alloc ?_ _)); exact BK218.out)) : gb218 ≠ gb231)); have n9_ := Aside0.mk ((by rw [hg]; exact Nat.ne_of_gt (blk_lt (g := gb218) (o := .cells #[.int .i64 a0_0, .slice A0_1 l0_1.length c0_1] 24 (0, 0)) (by (with_reducible repeat (first | refine blk_drewN ?_ _ | refine blk_drew ?_ | refine blk_alloc ?_ _)); exact BK218.out)) : gb231 ≠ gb218)); have n10_ := Aside0.mk ((by rw [hg]; exact Nat.ne_of_lt (blk_lt (g := gb225) (o := .cells #[.int .i64 t220, .slice Ao85 t221.length co85] 24 (0, 0)) (by (with_reducible repeat (first | refine blk_drewN ?_ _ | refine blk_drew ?_ | refine blk_alloc ?_ _)); exact BK225.out)) : gb225 ≠ gb231)); have n11_ := Aside0.mk ((by rw [hg]; exact Nat.ne_of_gt (blk_lt (g := gb225) (o := .cells #[.int .i64 t220, .slice Ao85 t221.length co85] 24 (0, 0)) (by (with_reducible repeat (first | refine blk_drewN ?_ _ | refine blk_drew ?_ | refine blk_alloc ?_ _)); exact BK225.out)) : gb231 ≠ gb225)); clear HO223; clear HO229; clear BK218; clear BK225; clear HB; have HO223 := n0_; have HO229 := n1_; have BK218 := n2_; have BK225 := n3_; have HB := n4_; have BK231 := n5_; have GW231 := n6_; have GE231 := n7_; have NB218_231 := n8_; have NB231_218 := n9_; have NB225_231 := n10_; have NB231_225 := n11_; clear n0_ n1_ n2_ n3_ n4_ n5_ n6_ n7_ n8_ n9_ n10_ n11_; clear hb hbox hg; have hnb89 := NB231_218.out; have hnc89 := NB218_231.out; have hnb90 := NB231_225.out; have hnc90 := NB225_231.out; have hcz91_0 : w88.cell? ⟨gb231, 0, none⟩ = some (.int .i64 0) := (blk_cell BK231.out 0).trans rfl; have hcz91_1 : w88.cell? ⟨gb231, 1, none⟩ = some (.slice none 0 0) := (blk_cell BK231.out 1).trans rfl; have hfz91_0 := blk_frozen BK231.out 0; have hfz91_1 := blk_frozen BK231.out 1; obtain ⟨Ao92, co92, eo92⟩ := Kd.R_slice HO229.out; subst eo92))
        have n0_ : Aside0 (Kd.R (Kd.int .u64) 42 ((w88.setCell ⟨gb231, 0, none⟩ (.int .i64 t226)).setCell ⟨gb231, 1, none⟩ (.slice Ao92 t227.length co92)) w.heap.size (fun k_ => some k_ ≠ (.slice Ao92 t227.length co92 : Value).ownBlock) (.slice Ao85 t221.length co85) t221) := ⟨by (with_reducible repeat (first | apply Kd.R_alloc | apply Kd.R_drewN | apply Kd.R_drew)); exact Kd.R_mono (Kd.R_far (p := ⟨gb231, 1, none⟩) (Kd.R_far (p := ⟨gb231, 0, none⟩) (Kd.R_types HO223.out BK231.out (by decide)) (fun _ hk => hk.2) (.int .i64 t226)) (fun _ hk => hk.2) (.slice Ao92 t227.length co92)) (fun _ hk => hk.1.2)⟩
        have n1_ : Aside0 (Kd.R (Kd.int .u64) 42 ((w88.setCell ⟨gb231, 0, none⟩ (.int .i64 t226)).setCell ⟨gb231, 1, none⟩ (.slice Ao92 t227.length co92)) w.heap.size (fun k_ => some k_ ≠ (.slice Ao85 t221.length co85 : Value).ownBlock) (.slice Ao92 t227.length co92) t227) := ⟨by (with_reducible repeat (first | apply Kd.R_alloc | apply Kd.R_drewN | apply Kd.R_drew)); exact Kd.R_mono (Kd.R_far (p := ⟨gb231, 1, none⟩) (Kd.R_far (p := ⟨gb231, 0, none⟩) (Kd.R_types HO229.out BK231.out (by decide)) (fun _ hk => hk.2) (.int .i64 t226)) (fun _ hk => hk.2) (.slice Ao92 t227.length co92)) (fun _ hk => hk.1.2)⟩
        have n2_ : Aside0 (((w88.setCell ⟨gb231, 0, none⟩ (.int .i64 t226)).setCell ⟨gb231, 1, none⟩ (.slice Ao92 t227.length co92)).heap[gb218]? = some (.cells #[.int .i64 a0_0, .slice A0_1 l0_1.length c0_1] 24 (0, 0))) := ⟨by (with_reducible repeat (first | refine blk_drewN ?_ _ | refine blk_drew ?_ | refine blk_alloc ?_ _)); refine blk_far ?_ NB218_231.out _; (with_reducible repeat (first | refine blk_drewN ?_ _ | refine blk_drew ?_ | refine blk_alloc ?_ _)); refine blk_far ?_ NB218_231.out _; (with_reducible repeat (first | refine blk_drewN ?_ _ | refine blk_drew ?_ | refine blk_alloc ?_ _)); exact BK218.out⟩
        have n3_ : Aside0 (((w88.setCell ⟨gb231, 0, none⟩ (.int .i64 t226)).setCell ⟨gb231, 1, none⟩ (.slice Ao92 t227.length co92)).heap[gb225]? = some (.cells #[.int .i64 t220, .slice Ao85 t221.length co85] 24 (0, 0))) := ⟨by (with_reducible repeat (first | refine blk_drewN ?_ _ | refine blk_drew ?_ | refine blk_alloc ?_ _)); refine blk_far ?_ NB225_231.out _; (with_reducible repeat (first | refine blk_drewN ?_ _ | refine blk_drew ?_ | refine blk_alloc ?_ _)); refine blk_far ?_ NB225_231.out _; (with_reducible repeat (first | refine blk_drewN ?_ _ | refine blk_drew ?_ | refine blk_alloc ?_ _)); exact BK225.out⟩
        have n4_ : Aside0 (((w88.setCell ⟨gb231, 0, none⟩ (.int .i64 t226)).setCell ⟨gb231, 1, none⟩ (.slice Ao92 t227.length co92)).heap[gb231]? = some (.cells #[.int .i64 t226, .slice Ao92 t227.length co92] 24 (0, 0))) := ⟨by (with_reducible repeat (first | refine blk_drewN ?_ _ | refine blk_drew ?_ | refine blk_alloc ?_ _)); refine blk_put (cs := #[.int .i64 t226, .slice none 0 0]) ?_ 1 _ rfl; (with_reducible repeat (first | refine blk_drewN ?_ _ | refine blk_drew ?_ | refine blk_alloc ?_ _)); refine blk_put (cs := #[.int .i64 0, .slice none 0 0]) ?_ 0 _ rfl; (with_reducible repeat (first | refine blk_drewN ?_ _ | refine blk_drew ?_ | refine blk_alloc ?_ _)); exact BK231.out⟩
        have n5_ : Aside0 (Below w.heap.size w ((w88.setCell ⟨gb231, 0, none⟩ (.int .i64 t226)).setCell ⟨gb231, 1, none⟩ (.slice Ao92 t227.length co92))) := ⟨by repeat (first | (with_reducible first | exact HB.out | apply below_alloc | apply pw_below_drewN | apply below_drew1 | refine below_set ?_ GE218.out | refine below_set ?_ GE225.out | refine below_set ?_ GE231.out) | exact HB.out)⟩
        (try clear HO223)
        (try clear HO229)
        (try clear BK218)
        (try clear BK225)
        (try clear BK231)
        (try clear HB)
        generalize ((w88.setCell ⟨gb231, 0, none⟩ (.int .i64 t226)).setCell ⟨gb231, 1, none⟩ (.slice Ao92 t227.length co92)) = w93 at n0_ n1_ n2_ n3_ n4_ n5_ ⊢
        have HO223 := n0_
        have HO229 := n1_
        have BK218 := n2_
        have BK225 := n3_
        have BK231 := n4_
        have HB := n5_
        clear n0_ n1_ n2_ n3_ n4_ n5_
        have n0_ := Aside0.mk (Kd.R_drew HO223.out)
        have n1_ := Aside0.mk (Kd.R_drew HO229.out)
        have n2_ := Aside0.mk (blk_drew BK218.out)
        have n3_ := Aside0.mk (blk_drew BK225.out)
        have n4_ := Aside0.mk (blk_drew BK231.out)
        have n5_ := Aside0.mk (below_drew1 HB.out)
        clear HO223
        clear HO229
        clear BK218
        clear BK225
        clear BK231
        clear HB
        have HO223 := n0_
        have HO229 := n1_
        have BK218 := n2_
        have BK225 := n3_
        have BK231 := n4_
        have HB := n5_
        clear n0_ n1_ n2_ n3_ n4_ n5_
        refine start_ (n := 18) (S := fun w' => w'.cell? ⟨gb225, 0, none⟩ = some (.int .i64 t220) ∧ w'.cell? ⟨gb225, 1, none⟩ = some (.slice Ao85 t221.length co85) ∧ w'.cell? ⟨gb231, 0, none⟩ = some (.int .i64 t226) ∧ w'.cell? ⟨gb231, 1, none⟩ = some (.slice Ao92 t227.length co92)) (ds := []) #[false, false, false, false, false, false, false, false, false, false, false, false, false, false, false, false, false, false] (by kernel_rfl) rfl rfl ⟨(blk_cell BK225.out 0).trans rfl, (blk_cell BK225.out 1).trans rfl, (blk_cell BK231.out 0).trans rfl, (blk_cell BK231.out 1).trans rfl⟩ (fun hHeld => ?_); refine with_tabW estoverslaw01_BitsetSets.tab5 estoverslaw01_BitsetSets.bits5 (fun HT_ HW_ => ?_)
        generalize w93.drew = w94 at HO223 HO229 BK218 BK225 BK231 HB hHeld ⊢
        refine pure_ (i := 0) (N := some 27) (v := ?_) (a' := ?_) #[true, false, false, false, false, false, false, false, false, false, false, false, false, false, false, false, false, false] rfl rfl (any_of HT_.out (by kernel_rfl)) (fun _ _ _ h => h) (Or.inl ⟨by rfl, ?_⟩) ?_ ?_
        rotate_left
        · intro w'
          go_simp
          with_reducible rfl
        rotate_left
        · simp only [Act.put, List.setIfInBounds_toArray, List.set_cons_zero, List.set_cons_succ, i64_w, i32_w]
          rfl
        refine pure_ (i := 1) (N := some 28) (v := ?_) (a' := ?_) #[true, true, false, false, false, false, false, false, false, false, false, false, false, false, false, false, false, false] rfl rfl (any_of HT_.out (by kernel_rfl)) (fun _ _ _ h => h) (Or.inl ⟨by rfl, ?_⟩) ?_ ?_
        rotate_left
        · intro w'
          go_simp
          with_reducible rfl
        rotate_left
        · simp only [Act.put, List.setIfInBounds_toArray, List.set_cons_zero, List.set_cons_succ, i64_w, i32_w]
          rfl
        refine pure_ (i := 2) (N := some 29) (v := ?_) (a' := ?_) #[true, true, true, false, false, false, false, false, false, false, false, false, false, false, false, false, false, false] rfl rfl (any_of HT_.out (by kernel_rfl)) (fun _ _ _ h => h) (Or.inl ⟨by rfl, ?_⟩) ?_ ?_
        rotate_left
        · intro w'
          go_simp
          with_reducible rfl
        rotate_left
        · simp only [Act.put, List.setIfInBounds_toArray, List.set_cons_zero, List.set_cons_succ, i64_w, i32_w]
          rfl
        refine pure_ (i := 3) (N := some 30) (v := ?_) (a' := ?_) #[true, true, true, true, false, false, false, false, false, false, false, false, false, false, false, false, false, false] rfl rfl (any_of HT_.out (by kernel_rfl)) (fun _ _ _ h => h) (Or.inl ⟨by rfl, ?_⟩) ?_ ?_
        rotate_left
        · intro w'
          go_simp
          with_reducible rfl
        rotate_left
        · simp only [Act.put, List.setIfInBounds_toArray, List.set_cons_zero, List.set_cons_succ, i64_w, i32_w]
          rfl
        refine take_ (i := 4) (N := some 31) (v := ?_) (a' := ?_) #[true, true, true, true, true, false, false, false, false, false, false, false, false, false, false, false, false, false] rfl rfl (take_ofW HT_.out HW_.out (by kernel_rfl)) (fun _ _ _ h => h) (Or.inl ⟨by rfl, ?_⟩) hHeld ?_ ?_
        rotate_left
        · rintro w' ⟨s0, s1, s2, s3⟩
          go_simp
          with_reducible rfl
        rotate_left
        · simp only [Act.put, List.setIfInBounds_toArray, List.set_cons_zero, List.set_cons_succ, i64_w, i32_w]
          rfl
        refine take_ (i := 5) (N := some 32) (v := ?_) (a' := ?_) #[true, true, true, true, true, true, false, false, false, false, false, false, false, false, false, false, false, false] rfl rfl (take_ofW HT_.out HW_.out (by kernel_rfl)) (fun _ _ _ h => h) (Or.inl ⟨by rfl, ?_⟩) hHeld ?_ ?_
        rotate_left
        · rintro w' ⟨s0, s1, s2, s3⟩
          go_simp
          with_reducible rfl
        rotate_left
        · simp only [Act.put, List.setIfInBounds_toArray, List.set_cons_zero, List.set_cons_succ, i64_w, i32_w]
          rfl
        refine one_ (i := 6) (N := some 33) #[true, true, true, true, true, true, true, false, false, false, false, false, false, false, false, false, false, false] rfl rfl (one_of HT_.out (by kernel_rfl)) (by decide) (fun K hK => ?_)
        refine goes_ Tryd.func16 (by kernel_rfl) rfl #[.agg #[.int .i64 t220, .slice Ao85 t221.length co85], .agg #[.int .i64 t226, .slice Ao92 t227.length co92]] (by rfl) rfl rfl (by (try simp only [List.map_toArray, List.map_cons, List.map_nil]); first | done | rfl | (simp only [List.length_drop, List.length_take]; rfl)) ?_
        with_reducible refine (estoversref01_Same.calls k t220 _ _ t221 t226 _ _ t227 false _ ?side1 ?side2 ?side3 ?side4 A9.out).mono ?_
        (case side1 => repeat (first | exact (Kd.R_reads' HO223.out).2.2 | (with_reducible refine Kd.C_alloc ?_ _) | (with_reducible refine Kd.C_drewN ?_ _) | (with_reducible refine Kd.C_drew ?_)))
        (case side2 => exact (Kd.R_reads' HO223.out).2.1)
        (case side3 => repeat (first | exact (Kd.R_reads' HO229.out).2.2 | (with_reducible refine Kd.C_alloc ?_ _) | (with_reducible refine Kd.C_drewN ?_ _) | (with_reducible refine Kd.C_drew ?_)))
        (case side4 => exact (Kd.R_reads' HO229.out).2.1)
        rintro e w95 ⟨rfl, hb⟩
        refine ⟨_, rfl, ?_⟩
        have n0_ := Aside0.mk (Kd.R_below (by (with_reducible repeat (first | apply Kd.R_alloc | apply Kd.R_drewN | apply Kd.R_drew)); exact HO223.out) hb)
        have n1_ := Aside0.mk (Kd.R_below (by (with_reducible repeat (first | apply Kd.R_alloc | apply Kd.R_drewN | apply Kd.R_drew)); exact HO229.out) hb)
        have n2_ := Aside0.mk (blk_below (g := gb218) (o := .cells #[.int .i64 a0_0, .slice A0_1 l0_1.length c0_1] 24 (0, 0)) (by (with_reducible repeat (first | refine blk_drewN ?_ _ | refine blk_drew ?_ | refine blk_alloc ?_ _)); exact BK218.out) hb)
        have n3_ := Aside0.mk (blk_below (g := gb225) (o := .cells #[.int .i64 t220, .slice Ao85 t221.length co85] 24 (0, 0)) (by (with_reducible repeat (first | refine blk_drewN ?_ _ | refine blk_drew ?_ | refine blk_alloc ?_ _)); exact BK225.out) hb)
        have n4_ := Aside0.mk (blk_below (g := gb231) (o := .cells #[.int .i64 t226, .slice Ao92 t227.length co92] 24 (0, 0)) (by (with_reducible repeat (first | refine blk_drewN ?_ _ | refine blk_drew ?_ | refine blk_alloc ?_ _)); exact BK231.out) hb)
        have n5_ := Aside0.mk (below_step (by repeat (first | (with_reducible first | exact HB.out | apply below_alloc | apply pw_below_drewN | apply below_drew1 | refine below_set ?_ GE218.out | refine below_set ?_ GE225.out | refine below_set ?_ GE231.out) | exact HB.out)) hb)
        clear HO223
        clear HO229
        clear BK218
        clear BK225
        clear BK231
        clear HB
        have HO223 := n0_
        have HO229 := n1_
        have BK218 := n2_
        have BK225 := n3_
        have BK231 := n4_
        have HB := n5_
        clear n0_ n1_ n2_ n3_ n4_ n5_
        (try clear hb)
        (try clear hb2)
        (try clear hk)
        (try clear hi)
        refine hK.out _ _ ⟨(blk_cell BK225.out 0).trans rfl, (blk_cell BK225.out 1).trans rfl, (blk_cell BK231.out 0).trans rfl, (blk_cell BK231.out 1).trans rfl⟩ (fun hHeld => ?_)
        clear hK K
        refine norm_ (a' := ?_) ?_ ?_
        rotate_left
        · show Act.put _ (some 33) _ = _
          simp only [Act.put, List.setIfInBounds_toArray, List.set_cons_zero, List.set_cons_succ, i64_w, i32_w]
          rfl
        refine pure_ (i := 7) (N := some 34) (v := ?_) (a' := ?_) #[true, true, true, true, true, true, true, true, false, false, false, false, false, false, false, false, false, false] rfl rfl (any_of HT_.out (by kernel_rfl)) (fun _ _ _ h => h) (Or.inl ⟨by rfl, ?_⟩) ?_ ?_
        rotate_left
        · intro w'
          go_simp
          with_reducible rfl
        rotate_left
        · simp only [Act.put, List.setIfInBounds_toArray, List.set_cons_zero, List.set_cons_succ, i64_w, i32_w]
          rfl
        refine pure_ (i := 8) (N := some 35) (v := ?_) (a' := ?_) #[true, true, true, true, true, true, true, true, true, false, false, false, false, false, false, false, false, false] rfl rfl (any_of HT_.out (by kernel_rfl)) (fun _ _ _ h => h) (Or.inl ⟨by rfl, ?_⟩) ?_ ?_
        rotate_left
        · intro w'
          go_simp
          with_reducible rfl
        rotate_left
        · simp only [Act.put, List.setIfInBounds_toArray, List.set_cons_zero, List.set_cons_succ, i64_w, i32_w]
          rfl
        refine pure_ (i := 9) (N := some 36) (v := ?_) (a' := ?_) #[true, true, true, true, true, true, true, true, true, true, false, false, false, false, false, false, false, false] rfl rfl (any_of HT_.out (by kernel_rfl)) (fun _ _ _ h => h) (Or.inl ⟨by rfl, ?_⟩) ?_ ?_
        rotate_left
        · intro w'
          go_simp
          with_reducible rfl
        rotate_left
        · simp only [Act.put, List.setIfInBounds_toArray, List.set_cons_zero, List.set_cons_succ, i64_w, i32_w]
          rfl
        refine pure_ (i := 10) (N := some 37) (v := undef) (a' := ?_) #[true, true, true, true, true, true, true, true, true, true, true, false, false, false, false, false, false, false] rfl rfl (any_of HT_.out (by kernel_rfl)) (fun _ _ _ h => h) (Or.inr ⟨by rfl, rfl⟩) ?_ ?_
        rotate_left
        · simp only [Act.put, List.setIfInBounds_toArray, List.set_cons_zero, List.set_cons_succ, i64_w, i32_w]
          rfl
        refine pure_ (i := 11) (N := some 38) (v := undef) (a' := ?_) #[true, true, true, true, true, true, true, true, true, true, true, true, false, false, false, false, false, false] rfl rfl (any_of HT_.out (by kernel_rfl)) (fun _ _ _ h => h) (Or.inr ⟨by rfl, rfl⟩) ?_ ?_
        rotate_left
        · simp only [Act.put, List.setIfInBounds_toArray, List.set_cons_zero, List.set_cons_succ, i64_w, i32_w]
          rfl
        refine pure_ (i := 12) (N := some 39) (v := undef) (a' := ?_) #[true, true, true, true, true, true, true, true, true, true, true, true, true, false, false, false, false, false] rfl rfl (any_of HT_.out (by kernel_rfl)) (fun _ _ _ h => h) (Or.inr ⟨by rfl, rfl⟩) ?_ ?_
        rotate_left
        · simp only [Act.put, List.setIfInBounds_toArray, List.set_cons_zero, List.set_cons_succ, i64_w, i32_w]
          rfl
        refine pure_ (i := 13) (N := some 40) (v := undef) (a' := ?_) #[true, true, true, true, true, true, true, true, true, true, true, true, true, true, false, false, false, false] rfl rfl (any_of HT_.out (by kernel_rfl)) (fun _ _ _ h => h) (Or.inr ⟨by rfl, rfl⟩) ?_ ?_
        rotate_left
        · simp only [Act.put, List.setIfInBounds_toArray, List.set_cons_zero, List.set_cons_succ, i64_w, i32_w]
          rfl
        refine pure_ (i := 14) (N := some 41) (v := undef) (a' := ?_) #[true, true, true, true, true, true, true, true, true, true, true, true, true, true, true, false, false, false] rfl rfl (any_of HT_.out (by kernel_rfl)) (fun _ _ _ h => h) (Or.inr ⟨by rfl, rfl⟩) ?_ ?_
        rotate_left
        · simp only [Act.put, List.setIfInBounds_toArray, List.set_cons_zero, List.set_cons_succ, i64_w, i32_w]
          rfl
        refine pure_ (i := 15) (N := some 42) (v := undef) (a' := ?_) #[true, true, true, true, true, true, true, true, true, true, true, true, true, true, true, true, false, false] rfl rfl (any_of HT_.out (by kernel_rfl)) (fun _ _ _ h => h) (Or.inr ⟨by rfl, rfl⟩) ?_ ?_
        rotate_left
        · simp only [Act.put, List.setIfInBounds_toArray, List.set_cons_zero, List.set_cons_succ, i64_w, i32_w]
          rfl
        refine pure_ (i := 16) (N := some 43) (v := undef) (a' := ?_) #[true, true, true, true, true, true, true, true, true, true, true, true, true, true, true, true, true, false] rfl rfl (any_of HT_.out (by kernel_rfl)) (fun _ _ _ h => h) (Or.inr ⟨by rfl, rfl⟩) ?_ ?_
        rotate_left
        · simp only [Act.put, List.setIfInBounds_toArray, List.set_cons_zero, List.set_cons_succ, i64_w, i32_w]
          rfl
        refine pure_ (i := 17) (N := some 44) (v := ?_) (a' := ?_) #[true, true, true, true, true, true, true, true, true, true, true, true, true, true, true, true, true, true] rfl rfl (any_of HT_.out (by kernel_rfl)) (fun _ _ _ h => h) (Or.inl ⟨by rfl, ?_⟩) ?_ ?_
        rotate_left
        · intro w'
          go_simp
          with_reducible rfl
        rotate_left
        · simp only [Act.put, List.setIfInBounds_toArray, List.set_cons_zero, List.set_cons_succ, i64_w, i32_w]
          rfl
        refine done_ (done_of HT_.out (by kernel_rfl)) ?_
        try go_wp2
        go_ret
        exact ⟨by first | rfl | (simp [errW_none, errW_some] <;> rfl) | (simp [*, errW_none, errW_some] <;> rfl), by repeat (first | (with_reducible first | exact HB.out | apply below_alloc | apply pw_below_drewN | apply below_drew1 | refine below_set ?_ GE218.out | refine below_set ?_ GE225.out | refine below_set ?_ GE231.out) | exact HB.out)⟩
    · rw [if_neg c8] at H
      have c8b0 : (t224 == t230) = false := beq_eq_false_iff_ne.mpr c8
      have c8b1 : (t224 != t230) = true := bne_iff_ne.mpr c8
      obtain rfl := Option.some.inj H
      go_enter Tryd.func4, Tryd.ntmps4
      try go_wp2_with (first | ((with_reducible refine gate_dst (N := 3) rfl ?_); refine box_event ?hg (N := 3) ?hd (cs := #[.int .i64 a0_0, .slice A0_1 l0_1.length c0_1]) (t := 24) ?hr ?_; (case hd => rfl); (case hg => rfl); (case hr => first | (go_simp; done) | (go_simp; rfl)); intro gb218 hg w96 hbox hb; have n0_ := Aside0.mk (below_step (by repeat (first | (with_reducible first | exact HB.out | apply below_alloc | apply pw_below_drewN | apply below_drew1) | exact HB.out)) hb); have n1_ := Aside0.mk (hbox); have n2_ := Aside0.mk ((by rw [hg]; exact (below_size (by repeat (first | (with_reducible first | exact HB.out | apply below_alloc | apply pw_below_drewN | apply below_drew1) | exact HB.out))) : w.heap.size ≤ gb218)); have n3_ := Aside0.mk ((by rw [hg]; exact (below_size (by repeat (first | (with_reducible first | exact HB.out | apply below_alloc | apply pw_below_drewN | apply below_drew1) | exact HB.out))) : w.heap.size ≤ gb218)); clear HB; have HB := n0_; have BK218 := n1_; have GW218 := n2_; have GE218 := n3_; clear n0_ n1_ n2_ n3_; clear hb hbox hg) | ((with_reducible refine gate_callee (f := 11) rfl ?_); refine goesL_ (some 11) rfl rfl Tryd.func11 (by kernel_rfl) rfl #[] rfl (by (try simp only [List.map_toArray, List.map_cons, List.map_nil]); first | done | rfl | (simp only [List.length_drop, List.length_take]; rfl)) ?_; (with_reducible refine (estoverslaw01_awake.calls k  true _ A4.out (TabW.below HT (by repeat (first | (with_reducible first | exact HB.out | apply below_alloc | apply pw_below_drewN | apply below_drew1 | refine below_set ?_ GE218.out | refine below_set ?_ GE225.out | refine below_set ?_ GE231.out) | exact HB.out)))).mono ?_); rintro e w97 ⟨rfl, hb⟩; refine ⟨_, rfl, ?_⟩; have n0_ := Aside0.mk (blk_below (g := gb218) (o := .cells #[.int .i64 a0_0, .slice A0_1 l0_1.length c0_1] 24 (0, 0)) (by (with_reducible repeat (first | refine blk_drewN ?_ _ | refine blk_drew ?_ | refine blk_alloc ?_ _)); exact BK218.out) hb); have n1_ := Aside0.mk (below_step (by repeat (first | (with_reducible first | exact HB.out | apply below_alloc | apply pw_below_drewN | apply below_drew1 | refine below_set ?_ GE218.out) | exact HB.out)) hb); clear BK218; clear HB; have BK218 := n0_; have HB := n1_; clear n0_ n1_; (try clear hb); (try clear hb2); (try clear hk); (try clear hi); have hcz98_0 : w97.cell? ⟨gb218, 0, none⟩ = some (.int .i64 a0_0) := (blk_cell BK218.out 0).trans rfl; have hcz98_1 : w97.cell? ⟨gb218, 1, none⟩ = some (.slice A0_1 l0_1.length c0_1) := (blk_cell BK218.out 1).trans rfl; have hfz98_0 := blk_frozen BK218.out 0; have hfz98_1 := blk_frozen BK218.out 1) | ((with_reducible refine gate_callee (f := 17) rfl ?_); refine goesL_ (some 17) rfl rfl Tryd.func17 (by kernel_rfl) rfl #[.agg #[.int .i64 a0_0, .slice A0_1 l0_1.length c0_1], .int .i64 a1, .bool a2] rfl (by (try simp only [List.map_toArray, List.map_cons, List.map_nil]); first | done | rfl | (simp only [List.length_drop, List.length_take]; rfl)) ?_; (with_reducible refine (bitset_Set.calls k a0_0 _ _ l0_1 a1 a2 t220 t221 t224 _ ?side1 ?side2 A6.out).mono ?_); (case side1 => repeat (first | exact (Kd.C_below HR0_1.out HB.out) | (with_reducible refine Kd.C_alloc ?_ _) | (with_reducible refine Kd.C_drewN ?_ _) | (with_reducible refine Kd.C_drew ?_))); (case side2 => exact HC0_1.out); rintro e w99 ⟨v222, rfl, ho0, hb⟩; refine ⟨_, rfl, ?_⟩; have n0_ := Aside0.mk (Kd.R_lower ho0 (below_size (by repeat (first | (with_reducible first | exact HB.out | apply below_alloc | apply pw_below_drewN | apply below_drew1 | refine below_set ?_ GE218.out) | exact HB.out)))); have n1_ := Aside0.mk (blk_below (g := gb218) (o := .cells #[.int .i64 a0_0, .slice A0_1 l0_1.length c0_1] 24 (0, 0)) (by (with_reducible repeat (first | refine blk_drewN ?_ _ | refine blk_drew ?_ | refine blk_alloc ?_ _)); exact BK218.out) hb); have n2_ := Aside0.mk (below_step (by repeat (first | (with_reducible first | exact HB.out | apply below_alloc | apply pw_below_drewN | apply below_drew1 | refine below_set ?_ GE218.out) | exact HB.out)) hb); clear BK218; clear HB; have HO223 := n0_; have BK218 := n1_; have HB := n2_; clear n0_ n1_ n2_; (try clear hb); (try clear hb2); (try clear hk); (try clear hi); (try clear ho0)) | ((with_reducible refine gate_dst (N := 7) rfl ?_); refine box_event ?hg (N := 7) ?hd (cs := #[.int .i64 0, .slice none 0 0]) (t := 24) ?hr ?_; (case hd => rfl); (case hg => rfl); (case hr => first | (go_simp; done) | (go_simp; rfl)); intro gb225 hg w100 hbox hb; have n0_ := Aside0.mk (Kd.R_below (by (with_reducible repeat (first | apply Kd.R_alloc | apply Kd.R_drewN | apply Kd.R_drew)); exact HO223.out) hb); have n1_ := Aside0.mk (blk_below (g := gb218) (o := .cells #[.int .i64 a0_0, .slice A0_1 l0_1.length c0_1] 24 (0, 0)) (by (with_reducible repeat (first | refine blk_drewN ?_ _ | refine blk_drew ?_ | refine blk_alloc ?_ _)); exact BK218.out) hb); have n2_ := Aside0.mk (below_step (by repeat (first | (with_reducible first | exact HB.out | apply below_alloc | apply pw_below_drewN | apply below_drew1 | refine below_set ?_ GE218.out) | exact HB.out)) hb); have n3_ := Aside0.mk (hbox); have n4_ := Aside0.mk ((by rw [hg]; exact (below_size (by repeat (first | (with_reducible first | exact HB.out | apply below_alloc | apply pw_below_drewN | apply below_drew1 | refine below_set ?_ GE218.out) | exact HB.out))) : w.heap.size ≤ gb225)); have n5_ := Aside0.mk ((by rw [hg]; exact (below_size (by repeat (first | (with_reducible first | exact HB.out | apply below_alloc | apply pw_below_drewN | apply below_drew1 | refine below_set ?_ GE218.out) | exact HB.out))) : w.heap.size ≤ gb225)); have n6_ := Aside0.mk ((by rw [hg]; exact Nat.ne_of_lt (blk_lt (g := gb218) (o := .cells #[.int .i64 a0_0, .slice A0_1 l0_1.length c0_1] 24 (0, 0)) (by (with_reducible repeat (first | refine blk_drewN ?_ _ | refine blk_drew ?_ | refine blk_alloc ?_ _)); exact BK218.out)) : gb218 ≠ gb225)); have n7_ := Aside0.mk ((by rw [hg]; exact Nat.ne_of_gt (blk_lt (g := gb218) (o := .cells #[.int .i64 a0_0, .slice A0_1 l0_1.length c0_1] 24 (0, 0)) (by (with_reducible repeat (first | refine blk_drewN ?_ _ | refine blk_drew ?_ | refine blk_alloc ?_ _)); exact BK218.out)) : gb225 ≠ gb218)); clear HO223; clear BK218; clear HB; have HO223 := n0_; have BK218 := n1_; have HB := n2_; have BK225 := n3_; have GW225 := n4_; have GE225 := n5_; have NB218_225 := n6_; have NB225_218 := n7_; clear n0_ n1_ n2_ n3_ n4_ n5_ n6_ n7_; clear hb hbox hg; have hnb101 := NB225_218.out; have hnc101 := NB218_225.out; have hcz102_0 : w100.cell? ⟨gb225, 0, none⟩ = some (.int .i64 0) := (blk_cell BK225.out 0).trans rfl; have hcz102_1 : w100.cell? ⟨gb225, 1, none⟩ = some (.slice none 0 0) := (blk_cell BK225.out 1).trans rfl; have hfz102_0 := blk_frozen BK225.out 0; have hfz102_1 := blk_frozen BK225.out 1; obtain ⟨Ao103, co103, eo103⟩ := Kd.R_slice HO223.out; subst eo103; have hcz104_0 : w100.cell? ⟨gb218, 0, none⟩ = some (.int .i64 a0_0) := (blk_cell BK218.out 0).trans rfl; have hcz104_1 : w100.cell? ⟨gb218, 1, none⟩ = some (.slice A0_1 l0_1.length c0_1) := (blk_cell BK218.out 1).trans rfl; have hfz104_0 := blk_frozen BK218.out 0; have hfz104_1 := blk_frozen BK218.out 1) | ((with_reducible refine gate_callee (f := 18) rfl ?_); refine goesL_ (some 24) rfl rfl Tryd.func18 (by kernel_rfl) rfl #[.agg #[.int .i64 a0_0, .slice A0_1 l0_1.length c0_1], .int .i64 a1, .bool a2] rfl (by (try simp only [List.map_toArray, List.map_cons, List.map_nil]); first | done | rfl | (simp only [List.length_drop, List.length_take]; rfl)) ?_; (with_reducible refine (estoversref01_Set.calls k a0_0 _ _ l0_1 a1 a2 t226 t227 t230 _ ?side1 ?side2 A7.out).mono ?_); (case side1 => exact Kd.C_below HR0_1.out (by repeat (first | (with_reducible first | exact HB.out | apply below_alloc | apply pw_below_drewN | apply below_drew1 | refine below_set ?_ GE218.out | refine below_set ?_ GE225.out) | exact HB.out))); (case side2 => exact HC0_1.out); rintro e w105 ⟨v228, rfl, ho0, hb⟩; refine ⟨_, rfl, ?_⟩; have n0_ := Aside0.mk (Kd.R_elder' (by (with_reducible repeat (first | apply Kd.R_alloc | apply Kd.R_drewN | apply Kd.R_drew)); exact (Kd.R_mono (Kd.R_far (p := ⟨gb225, 1, none⟩) (Kd.R_far (p := ⟨gb225, 0, none⟩) (Kd.R_types HO223.out BK225.out (by decide)) (fun _ hk => hk.2) (.int .i64 t220)) (fun _ hk => hk.2) (.slice Ao103 t221.length co103)) (fun _ h_ => h_.1))) (Kd.R_base ho0) hb); have n1_ := Aside0.mk (Kd.R_lower (Kd.R_new' ho0 (Kd.R_lt (by (with_reducible repeat (first | apply Kd.R_alloc | apply Kd.R_drewN | apply Kd.R_drew)); exact (Kd.R_mono (Kd.R_far (p := ⟨gb225, 1, none⟩) (Kd.R_far (p := ⟨gb225, 0, none⟩) (Kd.R_types HO223.out BK225.out (by decide)) (fun _ hk => hk.2) (.int .i64 t220)) (fun _ hk => hk.2) (.slice Ao103 t221.length co103)) (fun _ h_ => h_.1))))) (below_size (by repeat (first | (with_reducible first | exact HB.out | apply below_alloc | apply pw_below_drewN | apply below_drew1 | refine below_set ?_ GE218.out | refine below_set ?_ GE225.out) | exact HB.out)))); have n2_ := Aside0.mk (blk_below (g := gb218) (o := .cells #[.int .i64 a0_0, .slice A0_1 l0_1.length c0_1] 24 (0, 0)) (by (with_reducible repeat (first | refine blk_drewN ?_ _ | refine blk_drew ?_ | refine blk_alloc ?_ _)); refine blk_far ?_ NB218_225.out _; (with_reducible repeat (first | refine blk_drewN ?_ _ | refine blk_drew ?_ | refine blk_alloc ?_ _)); refine blk_far ?_ NB218_225.out _; (with_reducible repeat (first | refine blk_drewN ?_ _ | refine blk_drew ?_ | refine blk_alloc ?_ _)); exact BK218.out) hb); have n3_ := Aside0.mk (blk_below (g := gb225) (o := .cells #[.int .i64 t220, .slice Ao103 t221.length co103] 24 (0, 0)) (by (with_reducible repeat (first | refine blk_drewN ?_ _ | refine blk_drew ?_ | refine blk_alloc ?_ _)); refine blk_put (cs := #[.int .i64 t220, .slice none 0 0]) ?_ 1 _ rfl; (with_reducible repeat (first | refine blk_drewN ?_ _ | refine blk_drew ?_ | refine blk_alloc ?_ _)); refine blk_put (cs := #[.int .i64 0, .slice none 0 0]) ?_ 0 _ rfl; (with_reducible repeat (first | refine blk_drewN ?_ _ | refine blk_drew ?_ | refine blk_alloc ?_ _)); exact BK225.out) hb); have n4_ := Aside0.mk (below_step (by repeat (first | (with_reducible first | exact HB.out | apply below_alloc | apply pw_below_drewN | apply below_drew1 | refine below_set ?_ GE218.out | refine below_set ?_ GE225.out) | exact HB.out)) hb); clear HO223; clear BK218; clear BK225; clear HB; have HO223 := n0_; have HO229 := n1_; have BK218 := n2_; have BK225 := n3_; have HB := n4_; clear n0_ n1_ n2_ n3_ n4_; (try clear hb); (try clear hb2); (try clear hk); (try clear hi); (try clear ho0)) | ((with_reducible refine gate_dst (N := 9) rfl ?_); refine box_event ?hg (N := 9) ?hd (cs := #[.int .i64 0, .slice none 0 0]) (t := 24) ?hr ?_; (case hd => rfl); (case hg => rfl); (case hr => first | (go_simp; done) | (go_simp; rfl)); intro gb231 hg w106 hbox hb; have n0_ := Aside0.mk (Kd.R_below (by (with_reducible repeat (first | apply Kd.R_alloc | apply Kd.R_drewN | apply Kd.R_drew)); exact HO223.out) hb); have n1_ := Aside0.mk (Kd.R_below (by (with_reducible repeat (first | apply Kd.R_alloc | apply Kd.R_drewN | apply Kd.R_drew)); exact HO229.out) hb); have n2_ := Aside0.mk (blk_below (g := gb218) (o := .cells #[.int .i64 a0_0, .slice A0_1 l0_1.length c0_1] 24 (0, 0)) (by (with_reducible repeat (first | refine blk_drewN ?_ _ | refine blk_drew ?_ | refine blk_alloc ?_ _)); exact BK218.out) hb); have n3_ := Aside0.mk (blk_below (g := gb225) (o := .cells #[.int .i64 t220, .slice Ao103 t221.length co103] 24 (0, 0)) (by (with_reducible repeat (first | refine blk_drewN ?_ _ | refine blk_drew ?_ | refine blk_alloc ?_ _)); exact BK225.out) hb); have n4_ := Aside0.mk (below_step (by repeat (first | (with_reducible first | exact HB.out | apply below_alloc | apply pw_below_drewN | apply below_drew1 | refine below_set ?_ GE218.out | refine below_set ?_ GE225.out) | exact HB.out)) hb); have n5_ := Aside0.mk (hbox); have n6_ := Aside0.mk ((by rw [hg]; exact (below_size (by repeat (first | (with_reducible first | exact HB.out | apply below_alloc | apply pw_below_drewN | apply below_drew1 | refine below_set ?_ GE218.out | refine below_set ?_ GE225.out) | exact HB.out))) : w.heap.size ≤ gb231)); have n7_ := Aside0.mk ((by rw [hg]; exact (below_size (by repeat (first | (with_reducible first | exact HB.out | apply below_alloc | apply pw_below_drewN | apply below_drew1 | refine below_set ?_ GE218.out | refine below_set ?_ GE225.out) | exact HB.out))) : w.heap.size ≤ gb231)); have n8_ := Aside0.mk ((by rw [hg]; exact Nat.ne_of_lt (blk_lt (g := gb218) (o := .cells #[.int .i64 a0_0, .slice A0_1 l0_1.length c0_1] 24 (0, 0)) (by (with_reducible repeat (first | refine blk_drewN ?_ _ | refine blk_drew ?_ | refine blk_alloc ?_ _)); exact BK218.out)) : gb218 ≠ gb231)); have n9_ := Aside0.mk ((by rw [hg]; exact Nat.ne_of_gt (blk_lt (g := gb218) (o := .cells #[.int .i64 a0_0, .slice A0_1 l0_1.length c0_1] 24 (0, 0)) (by (with_reducible repeat (first | refine blk_drewN ?_ _ | refine blk_drew ?_ | refine blk_alloc ?_ _)); exact BK218.out)) : gb231 ≠ gb218)); have n10_ := Aside0.mk ((by rw [hg]; exact Nat.ne_of_lt (blk_lt (g := gb225) (o := .cells #[.int .i64 t220, .slice Ao103 t221.length co103] 24 (0, 0)) (by (with_reducible repeat (first | refine blk_drewN ?_ _ | refine blk_drew ?_ | refine blk_alloc ?_ _)); exact BK225.out)) : gb225 ≠ gb231)); have n11_ := Aside0.mk ((by rw [hg]; exact Nat.ne_of_gt (blk_lt (g := gb225) (o := .cells #[.int .i64 t220, .slice Ao103 t221.length co103] 24 (0, 0)) (by (with_reducible repeat (first | refine blk_drewN ?_ _ | refine blk_drew ?_ | refine blk_alloc ?_ _)); exact BK225.out)) : gb231 ≠ gb225)); clear HO223; clear HO229; clear BK218; clear BK225; clear HB; have HO223 := n0_; have HO229 := n1_; have BK218 := n2_; have BK225 := n3_; have HB := n4_; have BK231 := n5_; have GW231 := n6_; have GE231 := n7_; have NB218_231 := n8_; have NB231_218 := n9_; have NB225_231 := n10_; have NB231_225 := n11_; clear n0_ n1_ n2_ n3_ n4_ n5_ n6_ n7_ n8_ n9_ n10_ n11_; clear hb hbox hg; have hnb107 := NB231_218.out; have hnc107 := NB218_231.out; have hnb108 := NB231_225.out; have hnc108 := NB225_231.out; have hcz109_0 : w106.cell? ⟨gb231, 0, none⟩ = some (.int .i64 0) := (blk_cell BK231.out 0).trans rfl; have hcz109_1 : w106.cell? ⟨gb231, 1, none⟩ = some (.slice none 0 0) := (blk_cell BK231.out 1).trans rfl; have hfz109_0 := blk_frozen BK231.out 0; have hfz109_1 := blk_frozen BK231.out 1; obtain ⟨Ao110, co110, eo110⟩ := Kd.R_slice HO229.out; subst eo110))
      have n0_ : Aside0 (Kd.R (Kd.int .u64) 42 ((w106.setCell ⟨gb231, 0, none⟩ (.int .i64 t226)).setCell ⟨gb231, 1, none⟩ (.slice Ao110 t227.length co110)) w.heap.size (fun k_ => some k_ ≠ (.slice Ao110 t227.length co110 : Value).ownBlock) (.slice Ao103 t221.length co103) t221) := ⟨by (with_reducible repeat (first | apply Kd.R_alloc | apply Kd.R_drewN | apply Kd.R_drew)); exact Kd.R_mono (Kd.R_far (p := ⟨gb231, 1, none⟩) (Kd.R_far (p := ⟨gb231, 0, none⟩) (Kd.R_types HO223.out BK231.out (by decide)) (fun _ hk => hk.2) (.int .i64 t226)) (fun _ hk => hk.2) (.slice Ao110 t227.length co110)) (fun _ hk => hk.1.2)⟩
      have n1_ : Aside0 (Kd.R (Kd.int .u64) 42 ((w106.setCell ⟨gb231, 0, none⟩ (.int .i64 t226)).setCell ⟨gb231, 1, none⟩ (.slice Ao110 t227.length co110)) w.heap.size (fun k_ => some k_ ≠ (.slice Ao103 t221.length co103 : Value).ownBlock) (.slice Ao110 t227.length co110) t227) := ⟨by (with_reducible repeat (first | apply Kd.R_alloc | apply Kd.R_drewN | apply Kd.R_drew)); exact Kd.R_mono (Kd.R_far (p := ⟨gb231, 1, none⟩) (Kd.R_far (p := ⟨gb231, 0, none⟩) (Kd.R_types HO229.out BK231.out (by decide)) (fun _ hk => hk.2) (.int .i64 t226)) (fun _ hk => hk.2) (.slice Ao110 t227.length co110)) (fun _ hk => hk.1.2)⟩
      have n2_ : Aside0 (((w106.setCell ⟨gb231, 0, none⟩ (.int .i64 t226)).setCell ⟨gb231, 1, none⟩ (.slice Ao110 t227.length co110)).heap[gb218]? = some (.cells #[.int .i64 a0_0, .slice A0_1 l0_1.length c0_1] 24 (0, 0))) := ⟨by (with_reducible repeat (first | refine blk_drewN ?_ _ | refine blk_drew ?_ | refine blk_alloc ?_ _)); refine blk_far ?_ NB218_231.out _; (with_reducible repeat (first | refine blk_drewN ?_ _ | refine blk_drew ?_ | refine blk_alloc ?_ _)); refine blk_far ?_ NB218_231.out _; (with_reducible repeat (first | refine blk_drewN ?_ _ | refine blk_drew ?_ | refine blk_alloc ?_ _)); exact BK218.out⟩
      have n3_ : Aside0 (((w106.setCell ⟨gb231, 0, none⟩ (.int .i64 t226)).setCell ⟨gb231, 1, none⟩ (.slice Ao110 t227.length co110)).heap[gb225]? = some (.cells #[.int .i64 t220, .slice Ao103 t221.length co103] 24 (0, 0))) := ⟨by (with_reducible repeat (first | refine blk_drewN ?_ _ | refine blk_drew ?_ | refine blk_alloc ?_ _)); refine blk_far ?_ NB225_231.out _; (with_reducible repeat (first | refine blk_drewN ?_ _ | refine blk_drew ?_ | refine blk_alloc ?_ _)); refine blk_far ?_ NB225_231.out _; (with_reducible repeat (first | refine blk_drewN ?_ _ | refine blk_drew ?_ | refine blk_alloc ?_ _)); exact BK225.out⟩
      have n4_ : Aside0 (((w106.setCell ⟨gb231, 0, none⟩ (.int .i64 t226)).setCell ⟨gb231, 1, none⟩ (.slice Ao110 t227.length co110)).heap[gb231]? = some (.cells #[.int .i64 t226, .slice Ao110 t227.length co110] 24 (0, 0))) := ⟨by (with_reducible repeat (first | refine blk_drewN ?_ _ | refine blk_drew ?_ | refine blk_alloc ?_ _)); refine blk_put (cs := #[.int .i64 t226, .slice none 0 0]) ?_ 1 _ rfl; (with_reducible repeat (first | refine blk_drewN ?_ _ | refine blk_drew ?_ | refine blk_alloc ?_ _)); refine blk_put (cs := #[.int .i64 0, .slice none 0 0]) ?_ 0 _ rfl; (with_reducible repeat (first | refine blk_drewN ?_ _ | refine blk_drew ?_ | refine blk_alloc ?_ _)); exact BK231.out⟩
      have n5_ : Aside0 (Below w.heap.size w ((w106.setCell ⟨gb231, 0, none⟩ (.int .i64 t226)).setCell ⟨gb231, 1, none⟩ (.slice Ao110 t227.length co110))) := ⟨by repeat (first | (with_reducible first | exact HB.out | apply below_alloc | apply pw_below_drewN | apply below_drew1 | refine below_set ?_ GE218.out | refine below_set ?_ GE225.out | refine below_set ?_ GE231.out) | exact HB.out)⟩
      (try clear HO223)
      (try clear HO229)
      (try clear BK218)
      (try clear BK225)
      (try clear BK231)
      (try clear HB)
      generalize ((w106.setCell ⟨gb231, 0, none⟩ (.int .i64 t226)).setCell ⟨gb231, 1, none⟩ (.slice Ao110 t227.length co110)) = w111 at n0_ n1_ n2_ n3_ n4_ n5_ ⊢
      have HO223 := n0_
      have HO229 := n1_
      have BK218 := n2_
      have BK225 := n3_
      have BK231 := n4_
      have HB := n5_
      clear n0_ n1_ n2_ n3_ n4_ n5_
      have n0_ := Aside0.mk (Kd.R_drew HO223.out)
      have n1_ := Aside0.mk (Kd.R_drew HO229.out)
      have n2_ := Aside0.mk (blk_drew BK218.out)
      have n3_ := Aside0.mk (blk_drew BK225.out)
      have n4_ := Aside0.mk (blk_drew BK231.out)
      have n5_ := Aside0.mk (below_drew1 HB.out)
      clear HO223
      clear HO229
      clear BK218
      clear BK225
      clear BK231
      clear HB
      have HO223 := n0_
      have HO229 := n1_
      have BK218 := n2_
      have BK225 := n3_
      have BK231 := n4_
      have HB := n5_
      clear n0_ n1_ n2_ n3_ n4_ n5_
      refine start_ (n := 18) (S := fun w' => True) (ds := []) #[false, false, false, false, false, false, false, false, false, false, false, false, false, false, false, false, false, false] (by kernel_rfl) rfl rfl trivial (fun hHeld => ?_); refine with_tabW estoverslaw01_BitsetSets.tab5 estoverslaw01_BitsetSets.bits5 (fun HT_ HW_ => ?_)
      generalize w111.drew = w112 at HO223 HO229 BK218 BK225 BK231 HB hHeld ⊢
      refine pure_ (i := 0) (N := some 27) (v := ?_) (a' := ?_) #[true, false, false, false, false, false, false, false, false, false, false, false, false, false, false, false, false, false] rfl rfl (any_of HT_.out (by kernel_rfl)) (fun _ _ _ h => h) (Or.inl ⟨by rfl, ?_⟩) ?_ ?_
      rotate_left
      · intro w'
        go_simp
        with_reducible rfl
      rotate_left
      · simp only [Act.put, List.setIfInBounds_toArray, List.set_cons_zero, List.set_cons_succ, i64_w, i32_w]
        rfl
      refine pure_ (i := 1) (N := some 28) (v := ?_) (a' := ?_) #[true, true, false, false, false, false, false, false, false, false, false, false, false, false, false, false, false, false] rfl rfl (any_of HT_.out (by kernel_rfl)) (fun _ _ _ h => h) (Or.inl ⟨by rfl, ?_⟩) ?_ ?_
      rotate_left
      · intro w'
        go_simp
        with_reducible rfl
      rotate_left
      · simp only [Act.put, List.setIfInBounds_toArray, List.set_cons_zero, List.set_cons_succ, i64_w, i32_w]
        rfl
      refine pure_ (i := 2) (N := some 29) (v := ?_) (a' := ?_) #[true, true, true, false, false, false, false, false, false, false, false, false, false, false, false, false, false, false] rfl rfl (any_of HT_.out (by kernel_rfl)) (fun _ _ _ h => h) (Or.inl ⟨by rfl, ?_⟩) ?_ ?_
      rotate_left
      · intro w'
        go_simp
        with_reducible rfl
      rotate_left
      · simp only [Act.put, List.setIfInBounds_toArray, List.set_cons_zero, List.set_cons_succ, i64_w, i32_w]
        rfl
      refine pure_ (i := 3) (N := some 30) (v := ?_) (a' := ?_) #[true, true, true, true, false, false, false, false, false, false, false, false, false, false, false, false, false, false] rfl rfl (any_of HT_.out (by kernel_rfl)) (fun _ _ _ h => h) (Or.inl ⟨by rfl, ?_⟩) ?_ ?_
      rotate_left
      · intro w'
        go_simp
        with_reducible rfl
      rotate_left
      · simp only [Act.put, List.setIfInBounds_toArray, List.set_cons_zero, List.set_cons_succ, i64_w, i32_w]
        rfl
      refine pure_ (i := 4) (N := some 31) (v := undef) (a' := ?_) #[true, true, true, true, true, false, false, false, false, false, false, false, false, false, false, false, false, false] rfl rfl (any_of HT_.out (by kernel_rfl)) (fun _ _ _ h => h) (Or.inr ⟨by rfl, rfl⟩) ?_ ?_
      rotate_left
      · simp only [Act.put, List.setIfInBounds_toArray, List.set_cons_zero, List.set_cons_succ, i64_w, i32_w]
        rfl
      refine pure_ (i := 5) (N := some 32) (v := undef) (a' := ?_) #[true, true, true, true, true, true, false, false, false, false, false, false, false, false, false, false, false, false] rfl rfl (any_of HT_.out (by kernel_rfl)) (fun _ _ _ h => h) (Or.inr ⟨by rfl, rfl⟩) ?_ ?_
      rotate_left
      · simp only [Act.put, List.setIfInBounds_toArray, List.set_cons_zero, List.set_cons_succ, i64_w, i32_w]
        rfl
      refine pure_ (i := 6) (N := some 33) (v := undef) (a' := ?_) #[true, true, true, true, true, true, true, false, false, false, false, false, false, false, false, false, false, false] rfl rfl (any_of HT_.out (by kernel_rfl)) (fun _ _ _ h => h) (Or.inr ⟨by rfl, rfl⟩) ?_ ?_
      rotate_left
      · simp only [Act.put, List.setIfInBounds_toArray, List.set_cons_zero, List.set_cons_succ, i64_w, i32_w]
        rfl
      refine pure_ (i := 7) (N := some 34) (v := undef) (a' := ?_) #[true, true, true, true, true, true, true, true, false, false, false, false, false, false, false, false, false, false] rfl rfl (any_of HT_.out (by kernel_rfl)) (fun _ _ _ h => h) (Or.inr ⟨by rfl, rfl⟩) ?_ ?_
      rotate_left
      · simp only [Act.put, List.setIfInBounds_toArray, List.set_cons_zero, List.set_cons_succ, i64_w, i32_w]
        rfl
      refine pure_ (i := 8) (N := some 35) (v := ?_) (a' := ?_) #[true, true, true, true, true, true, true, true, true, false, false, false, false, false, false, false, false, false] rfl rfl (any_of HT_.out (by kernel_rfl)) (fun _ _ _ h => h) (Or.inl ⟨by rfl, ?_⟩) ?_ ?_
      rotate_left
      · intro w'
        go_simp
        with_reducible rfl
      rotate_left
      · simp only [Act.put, List.setIfInBounds_toArray, List.set_cons_zero, List.set_cons_succ, i64_w, i32_w]
        rfl
      refine pure_ (i := 9) (N := some 36) (v := ?_) (a' := ?_) #[true, true, true, true, true, true, true, true, true, true, false, false, false, false, false, false, false, false] rfl rfl (any_of HT_.out (by kernel_rfl)) (fun _ _ _ h => h) (Or.inl ⟨by rfl, ?_⟩) ?_ ?_
      rotate_left
      · intro w'
        go_simp
        with_reducible rfl
      rotate_left
      · simp only [Act.put, List.setIfInBounds_toArray, List.set_cons_zero, List.set_cons_succ, i64_w, i32_w]
        rfl
      refine pure_ (i := 10) (N := some 37) (v := undef) (a' := ?_) #[true, true, true, true, true, true, true, true, true, true, true, false, false, false, false, false, false, false] rfl rfl (any_of HT_.out (by kernel_rfl)) (fun _ _ _ h => h) (Or.inr ⟨by rfl, rfl⟩) ?_ ?_
      rotate_left
      · simp only [Act.put, List.setIfInBounds_toArray, List.set_cons_zero, List.set_cons_succ, i64_w, i32_w]
        rfl
      refine pure_ (i := 11) (N := some 38) (v := undef) (a' := ?_) #[true, true, true, true, true, true, true, true, true, true, true, true, false, false, false, false, false, false] rfl rfl (any_of HT_.out (by kernel_rfl)) (fun _ _ _ h => h) (Or.inr ⟨by rfl, rfl⟩) ?_ ?_
      rotate_left
      · simp only [Act.put, List.setIfInBounds_toArray, List.set_cons_zero, List.set_cons_succ, i64_w, i32_w]
        rfl
      refine pure_ (i := 12) (N := some 39) (v := undef) (a' := ?_) #[true, true, true, true, true, true, true, true, true, true, true, true, true, false, false, false, false, false] rfl rfl (any_of HT_.out (by kernel_rfl)) (fun _ _ _ h => h) (Or.inr ⟨by rfl, rfl⟩) ?_ ?_
      rotate_left
      · simp only [Act.put, List.setIfInBounds_toArray, List.set_cons_zero, List.set_cons_succ, i64_w, i32_w]
        rfl
      refine pure_ (i := 13) (N := some 40) (v := undef) (a' := ?_) #[true, true, true, true, true, true, true, true, true, true, true, true, true, true, false, false, false, false] rfl rfl (any_of HT_.out (by kernel_rfl)) (fun _ _ _ h => h) (Or.inr ⟨by rfl, rfl⟩) ?_ ?_
      rotate_left
      · simp only [Act.put, List.setIfInBounds_toArray, List.set_cons_zero, List.set_cons_succ, i64_w, i32_w]
        rfl
      refine pure_ (i := 14) (N := some 41) (v := undef) (a' := ?_) #[true, true, true, true, true, true, true, true, true, true, true, true, true, true, true, false, false, false] rfl rfl (any_of HT_.out (by kernel_rfl)) (fun _ _ _ h => h) (Or.inr ⟨by rfl, rfl⟩) ?_ ?_
      rotate_left
      · simp only [Act.put, List.setIfInBounds_toArray, List.set_cons_zero, List.set_cons_succ, i64_w, i32_w]
        rfl
      refine pure_ (i := 15) (N := some 42) (v := undef) (a' := ?_) #[true, true, true, true, true, true, true, true, true, true, true, true, true, true, true, true, false, false] rfl rfl (any_of HT_.out (by kernel_rfl)) (fun _ _ _ h => h) (Or.inr ⟨by rfl, rfl⟩) ?_ ?_
      rotate_left
      · simp only [Act.put, List.setIfInBounds_toArray, List.set_cons_zero, List.set_cons_succ, i64_w, i32_w]
        rfl
      refine pure_ (i := 16) (N := some 43) (v := undef) (a' := ?_) #[true, true, true, true, true, true, true, true, true, true, true, true, true, true, true, true, true, false] rfl rfl (any_of HT_.out (by kernel_rfl)) (fun _ _ _ h => h) (Or.inr ⟨by rfl, rfl⟩) ?_ ?_
      rotate_left
      · simp only [Act.put, List.setIfInBounds_toArray, List.set_cons_zero, List.set_cons_succ, i64_w, i32_w]
        rfl
      refine pure_ (i := 17) (N := some 44) (v := ?_) (a' := ?_) #[true, true, true, true, true, true, true, true, true, true, true, true, true, true, true, true, true, true] rfl rfl (any_of HT_.out (by kernel_rfl)) (fun _ _ _ h => h) (Or.inl ⟨by rfl, ?_⟩) ?_ ?_
      rotate_left
      · intro w'
        go_simp
        with_reducible rfl
      rotate_left
      · simp only [Act.put, List.setIfInBounds_toArray, List.set_cons_zero, List.set_cons_succ, i64_w, i32_w]
        rfl
      refine done_ (done_of HT_.out (by kernel_rfl)) ?_
      try go_wp2
      go_ret
      exact ⟨by first | rfl | (simp [errW_none, errW_some] <;> rfl) | (simp [*, errW_none, errW_some] <;> rfl), by repeat (first | (with_reducible first | exact HB.out | apply below_alloc | apply pw_below_drewN | apply below_drew1 | refine below_set ?_ GE218.out | refine below_set ?_ GE225.out | refine below_set ?_ GE231.out) | exact HB.out)⟩
  · replace c5 := Bool.eq_false_iff.mpr c5
    subst c5
    have H1 : (some false) = some r := by rw [if_neg (show ¬ (false = true) by decide)] at H; exact H
    clear H
    have H := H1
    clear H1
    obtain rfl := Option.some.inj H
    go_enter Tryd.func4, Tryd.ntmps4
    go_wp2_with (first | ((with_reducible refine gate_dst (N := 3) rfl ?_); refine box_event ?hg (N := 3) ?hd (cs := #[.int .i64 a0_0, .slice A0_1 l0_1.length c0_1]) (t := 24) ?hr ?_; (case hd => rfl); (case hg => rfl); (case hr => first | (go_simp; done) | (go_simp; rfl)); intro gb218 hg w113 hbox hb; have n0_ := Aside0.mk (below_step (by repeat (first | (with_reducible first | exact HB.out | apply below_alloc | apply pw_below_drewN | apply below_drew1) | exact HB.out)) hb); have n1_ := Aside0.mk (hbox); have n2_ := Aside0.mk ((by rw [hg]; exact (below_size (by repeat (first | (with_reducible first | exact HB.out | apply below_alloc | apply pw_below_drewN | apply below_drew1) | exact HB.out))) : w.heap.size ≤ gb218)); have n3_ := Aside0.mk ((by rw [hg]; exact (below_size (by repeat (first | (with_reducible first | exact HB.out | apply below_alloc | apply pw_below_drewN | apply below_drew1) | exact HB.out))) : w.heap.size ≤ gb218)); clear HB; have HB := n0_; have BK218 := n1_; have GW218 := n2_; have GE218 := n3_; clear n0_ n1_ n2_ n3_; clear hb hbox hg) | ((with_reducible refine gate_callee (f := 11) rfl ?_); refine goesL_ (some 11) rfl rfl Tryd.func11 (by kernel_rfl) rfl #[] rfl (by (try simp only [List.map_toArray, List.map_cons, List.map_nil]); first | done | rfl | (simp only [List.length_drop, List.length_take]; rfl)) ?_; (with_reducible refine (estoverslaw01_awake.calls k  false _ A4.out (TabW.below HT (by repeat (first | (with_reducible first | exact HB.out | apply below_alloc | apply pw_below_drewN | apply below_drew1 | refine below_set ?_ GE218.out | refine below_set ?_ GE225.out | refine below_set ?_ GE231.out) | exact HB.out)))).mono ?_); rintro e w114 ⟨rfl, hb⟩; refine ⟨_, rfl, ?_⟩; have n0_ := Aside0.mk (blk_below (g := gb218) (o := .cells #[.int .i64 a0_0, .slice A0_1 l0_1.length c0_1] 24 (0, 0)) (by (with_reducible repeat (first | refine blk_drewN ?_ _ | refine blk_drew ?_ | refine blk_alloc ?_ _)); exact BK218.out) hb); have n1_ := Aside0.mk (below_step (by repeat (first | (with_reducible first | exact HB.out | apply below_alloc | apply pw_below_drewN | apply below_drew1 | refine below_set ?_ GE218.out) | exact HB.out)) hb); clear BK218; clear HB; have BK218 := n0_; have HB := n1_; clear n0_ n1_; (try clear hb); (try clear hb2); (try clear hk); (try clear hi)))
    go_ret
    exact ⟨by first | rfl | (simp [errW_none, errW_some] <;> rfl) | (simp [*, errW_none, errW_some] <;> rfl), by repeat (first | (with_reducible first | exact HB.out | apply below_alloc | apply pw_below_drewN | apply below_drew1 | refine below_set ?_ GE218.out) | exact HB.out)⟩

end Go.Proofs.YtinhjcoikhpblaaDoor.Q
