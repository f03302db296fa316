-- Written by wip/stubprint.py for this claim. Lean checks it.
import Derived.Test.YtinhjcoikhpblaaDoorQ0
import Derived.Test.YtinhjcoikhpblaaDoorQ100
import Derived.Test.YtinhjcoikhpblaaDoorEClone
namespace Go.Proofs.YtinhjcoikhpblaaDoor.Q
open Go.RowKit Go.Proofs.YtinhjcoikhpblaaDoorW.PrintWords Go.Proofs.YtinhjcoikhpblaaDoorW.PrintLast Go.Proofs.YtinhjcoikhpblaaDoorW.PrintMore
attribute [local go_sem] max2_int min2_int max_two min_two max_three min_three max_four min_four
set_option linter.unusedVariables false
set_option linter.unusedSimpArgs false

/-! ### bitset_combine: function 43 -/
def bitset_combine.l0 : Nat → Bool → List Int → Int → Int → Int → List Int → Option (Int × List Int × Int)
  | 0, _, _, _, _, _, _ => none
  | k + 1, x2, x38, x39, x40, x295000, x295001 => if x40 < x39 then (if 0 ≤ x40 then (if x40 < (x38.length : Int) then (if x40 < (x295001.length : Int) then ((comb.f x2 (rd x295001 x40) (rd x38 x40)).bind fun t297 => (bitset_combine.l0 k x2 x38 x39 (wrap64 (x40 + 1)) x295000 (x295001.set (x40 : Int).toNat t297))) else (none)) else (none)) else (none)) else (some (x295000, x295001, 0))
def bitset_combine.f (k : Nat) (a0_0 : Int) (l0_1 : List Int) (a1_0 : Int) (l1_1 : List Int) (a2 : Bool) : Option (Int × List Int × Int) := (bitset_Check.f k a0_0 l0_1).bind fun t289 => (if t289 = 0 then ((bitset_Check.f k a1_0 l1_1).bind fun t290 => (if t290 = 0 then (if a0_0 = a1_0 then ((slices_Clone_uint64_uint64.f l0_1).bind fun t291 => (bitset_combine.l0 k a2 l1_1 (l1_1.length : Int) 0 a0_0 t291)) else (some (0, ([] : List Int), 1))) else (some (0, ([] : List Int), t290)))) else (some (0, ([] : List Int), t289)))
def bitset_combine.T9 : Bool × List (List Nat × List Nat) := (true, [([], []), ([0], [0]), ([], []), ([2], [2]), ([3], [3]), ([1, 4], [1, 4]), ([], []), ([6, 5, 4, 0, 1, 2, 3, 4, 5, 6], [5, 6])])
def bitset_combine.B9 : List Nat := [0, 1, 0, 4, 12, 31, 0, 127]
theorem bitset_combine.tab9 : rtab .any (opsOf Tryd.f43 9) = bitset_combine.T9 := by kernel_rfl
theorem bitset_combine.bits9 : waitsOk bitset_combine.T9.2 bitset_combine.B9 = true := by kernel_rfl
def bitset_combine.T13 : Bool × List (List Nat × List Nat) := (true, [([], []), ([0], [0]), ([], []), ([], []), ([], []), ([4], [4]), ([], []), ([5, 6], [5, 6]), ([7], [7]), ([], []), ([3, 8, 9], [3, 8, 9]), ([1, 2, 0, 1, 2, 3, 4, 5, 6, 7, 8, 9, 10], [1, 2]), ([11, 10, 10, 0, 1, 2, 3, 4, 5, 6, 7, 8, 9, 10], [10, 11])])
def bitset_combine.B13 : List Nat := [0, 1, 0, 0, 0, 16, 0, 112, 240, 0, 1016, 2047, 4095]
theorem bitset_combine.tab13 : rtab .any (opsOf Tryd.f43 13) = bitset_combine.T13 := by kernel_rfl
theorem bitset_combine.bits13 : waitsOk bitset_combine.T13.2 bitset_combine.B13 = true := by kernel_rfl
set_option maxHeartbeats 8000000 in
set_option maxRecDepth 100000 in
theorem bitset_combine.calls (k : Nat) (a0_0 : Int) (A0_1 : Option Addr) (c0_1 : Nat) (l0_1 : List Int) (a1_0 : Int) (A1_1 : Option Addr) (c1_1 : Nat) (l1_1 : List Int) (a2 : Bool) (gf : Nat) (HG : CombFn a2 gf) (r1 : Int) (r2 : List Int) (r3 : Int) (w : World) (hr0_1 : Kd.C (Kd.int .u64) w A0_1 l0_1.length l0_1) (hc0_1 : l0_1.length ≤ c0_1) (hr1_1 : Kd.C (Kd.int .u64) w A1_1 l1_1.length l1_1) (hc1_1 : l1_1.length ≤ c1_1) (h : bitset_combine.f k a0_0 l0_1 a1_0 l1_1 a2 = some (r1, r2, r3)) :
    Calls Tryd.prog 43 #[.agg #[.int .i64 a0_0, .slice A0_1 l0_1.length c0_1], .agg #[.int .i64 a1_0, .slice A1_1 l1_1.length c1_1], .func (.func gf) #[] #[]] w fun e w' => ∃ v1_ : Value, e = .returned (.tuple #[.agg #[.int .i64 r1, v1_], .int .i64 r3]) ∧ Kd.R (Kd.int .u64) 42 w' w.heap.size (fun _ => True) v1_ r2 ∧ Below w.heap.size w w' := by
  have hu24 := Tryd.underlying24
  have HR0_1 := Aside0.mk hr0_1
  have HC0_1 := Aside0.mk hc0_1
  clear hr0_1 hc0_1
  have HR1_1 := Aside0.mk hr1_1
  have HC1_1 := Aside0.mk hc1_1
  clear hr1_1 hc1_1
  have HB := Aside0.mk (Below.refl w.heap.size w)
  have H : ((bitset_Check.f k a0_0 l0_1).bind fun t289 => (if t289 = 0 then ((bitset_Check.f k a1_0 l1_1).bind fun t290 => (if t290 = 0 then (if a0_0 = a1_0 then ((slices_Clone_uint64_uint64.f l0_1).bind fun t291 => (bitset_combine.l0 k a2 l1_1 (l1_1.length : Int) 0 a0_0 t291)) else (some (0, ([] : List Int), 1))) else (some (0, ([] : List Int), t290)))) else (some (0, ([] : List Int), t289)))) = some (r1, r2, r3) := h
  clear h
  replace H := Option.bind_eq_some_iff.mp H
  obtain ⟨t289, A40, H⟩ := H
  replace H : (if t289 = 0 then ((bitset_Check.f k a1_0 l1_1).bind fun t290 => (if t290 = 0 then (if a0_0 = a1_0 then ((slices_Clone_uint64_uint64.f l0_1).bind fun t291 => (bitset_combine.l0 k a2 l1_1 (l1_1.length : Int) 0 a0_0 t291)) else (some (0, ([] : List Int), 1))) else (some (0, ([] : List Int), t290)))) else (some (0, ([] : List Int), t289))) = some (r1, r2, r3) := H
  have A4 := Aside0.mk A40
  clear A40
  by_cases c5 : t289 = 0
  · rw [if_pos c5] at H
    have c5b0 : (t289 == 0) = true := beq_iff_eq.mpr c5
    have c5b1 : (t289 != 0) = false := bne_eq_false_iff_eq.mpr c5
    clear c5
    replace H := Option.bind_eq_some_iff.mp H
    obtain ⟨t290, A60, H⟩ := H
    replace H : (if t290 = 0 then (if a0_0 = a1_0 then ((slices_Clone_uint64_uint64.f l0_1).bind fun t291 => (bitset_combine.l0 k a2 l1_1 (l1_1.length : Int) 0 a0_0 t291)) else (some (0, ([] : List Int), 1))) else (some (0, ([] : List Int), t290))) = some (r1, r2, r3) := H
    have A6 := Aside0.mk A60
    clear A60
    by_cases c7 : t290 = 0
    · rw [if_pos c7] at H
      have c7b0 : (t290 == 0) = true := beq_iff_eq.mpr c7
      have c7b1 : (t290 != 0) = false := bne_eq_false_iff_eq.mpr c7
      clear c7
      by_cases c8 : a0_0 = a1_0
      · rw [if_pos c8] at H
        have c8b0 : (a0_0 == a1_0) = true := beq_iff_eq.mpr c8
        have c8b1 : (a0_0 != a1_0) = false := bne_eq_false_iff_eq.mpr c8
        clear c8
        replace H := Option.bind_eq_some_iff.mp H
        obtain ⟨t291, A90, H⟩ := H
        replace H : (bitset_combine.l0 k a2 l1_1 (l1_1.length : Int) 0 a0_0 t291) = some (r1, r2, r3) := H
        have A9 := Aside0.mk A90
        clear A90
        have H' := Aside0.mk H
        clear H
        go_enter Tryd.func43, Tryd.ntmps43
        try go_wp2_with (first | ((with_reducible refine gate_dst (N := 3) rfl ?_); refine box_event ?hg (N := 3) ?hd (cs := #[.int .i64 a0_0, .slice A0_1 l0_1.length c0_1]) (t := 24) ?hr ?_; (case hd => rfl); (case hg => rfl); (case hr => first | (go_simp; done) | (go_simp; rfl)); intro gb286 hg w10 hbox hb; have n0_ := Aside0.mk (below_step (by repeat (first | (with_reducible first | exact HB.out | apply below_alloc | apply pw_below_drewN | apply below_drew1) | exact HB.out)) hb); have n1_ := Aside0.mk (hbox); have n2_ := Aside0.mk ((by rw [hg]; exact (below_size (by repeat (first | (with_reducible first | exact HB.out | apply below_alloc | apply pw_below_drewN | apply below_drew1) | exact HB.out))) : w.heap.size ≤ gb286)); have n3_ := Aside0.mk ((by rw [hg]; exact (below_size (by repeat (first | (with_reducible first | exact HB.out | apply below_alloc | apply pw_below_drewN | apply below_drew1) | exact HB.out))) : w.heap.size ≤ gb286)); clear HB; have HB := n0_; have BK286 := n1_; have GW286 := n2_; have GE286 := n3_; clear n0_ n1_ n2_ n3_; clear hb hbox hg) | ((with_reducible refine gate_dst (N := 4) rfl ?_); refine box_event ?hg (N := 4) ?hd (cs := #[.int .i64 a1_0, .slice A1_1 l1_1.length c1_1]) (t := 24) ?hr ?_; (case hd => rfl); (case hg => rfl); (case hr => first | (go_simp; done) | (go_simp; rfl)); intro gb287 hg w11 hbox hb; have n0_ := Aside0.mk (blk_below (g := gb286) (o := .cells #[.int .i64 a0_0, .slice A0_1 l0_1.length c0_1] 24 (0, 0)) (by (with_reducible repeat (first | refine blk_drewN ?_ _ | refine blk_drew ?_ | refine blk_alloc ?_ _)); exact BK286.out) hb); have n1_ := Aside0.mk (below_step (by repeat (first | (with_reducible first | exact HB.out | apply below_alloc | apply pw_below_drewN | apply below_drew1 | refine below_set ?_ GE286.out) | exact HB.out)) hb); have n2_ := Aside0.mk (hbox); have n3_ := Aside0.mk ((by rw [hg]; exact (below_size (by repeat (first | (with_reducible first | exact HB.out | apply below_alloc | apply pw_below_drewN | apply below_drew1 | refine below_set ?_ GE286.out) | exact HB.out))) : w.heap.size ≤ gb287)); have n4_ := Aside0.mk ((by rw [hg]; exact (below_size (by repeat (first | (with_reducible first | exact HB.out | apply below_alloc | apply pw_below_drewN | apply below_drew1 | refine below_set ?_ GE286.out) | exact HB.out))) : w.heap.size ≤ gb287)); have n5_ := Aside0.mk ((by rw [hg]; exact Nat.ne_of_lt (blk_lt (g := gb286) (o := .cells #[.int .i64 a0_0, .slice A0_1 l0_1.length c0_1] 24 (0, 0)) (by (with_reducible repeat (first | refine blk_drewN ?_ _ | refine blk_drew ?_ | refine blk_alloc ?_ _)); exact BK286.out)) : gb286 ≠ gb287)); have n6_ := Aside0.mk ((by rw [hg]; exact Nat.ne_of_gt (blk_lt (g := gb286) (o := .cells #[.int .i64 a0_0, .slice A0_1 l0_1.length c0_1] 24 (0, 0)) (by (with_reducible repeat (first | refine blk_drewN ?_ _ | refine blk_drew ?_ | refine blk_alloc ?_ _)); exact BK286.out)) : gb287 ≠ gb286)); clear BK286; clear HB; have BK286 := n0_; have HB := n1_; have BK287 := n2_; have GW287 := n3_; have GE287 := n4_; have NB286_287 := n5_; have NB287_286 := n6_; clear n0_ n1_ n2_ n3_ n4_ n5_ n6_; clear hb hbox hg) | ((with_reducible refine gate_dst (N := 6) rfl ?_); refine box_event ?hg (N := 6) ?hd (cs := #[.int .i64 0, .slice none 0 0]) (t := 24) ?hr ?_; (case hd => rfl); (case hg => rfl); (case hr => first | (go_simp; done) | (go_simp; rfl)); intro gb288 hg w12 hbox hb; have n0_ := Aside0.mk (blk_below (g := gb286) (o := .cells #[.int .i64 a0_0, .slice A0_1 l0_1.length c0_1] 24 (0, 0)) (by (with_reducible repeat (first | refine blk_drewN ?_ _ | refine blk_drew ?_ | refine blk_alloc ?_ _)); exact BK286.out) hb); have n1_ := Aside0.mk (blk_below (g := gb287) (o := .cells #[.int .i64 a1_0, .slice A1_1 l1_1.length c1_1] 24 (0, 0)) (by (with_reducible repeat (first | refine blk_drewN ?_ _ | refine blk_drew ?_ | refine blk_alloc ?_ _)); exact BK287.out) hb); have n2_ := Aside0.mk (below_step (by repeat (first | (with_reducible first | exact HB.out | apply below_alloc | apply pw_below_drewN | apply below_drew1 | refine below_set ?_ GE286.out | refine below_set ?_ GE287.out) | exact HB.out)) hb); have n3_ := Aside0.mk (hbox); have n4_ := Aside0.mk ((by rw [hg]; exact (below_size (by repeat (first | (with_reducible first | exact HB.out | apply below_alloc | apply pw_below_drewN | apply below_drew1 | refine below_set ?_ GE286.out | refine below_set ?_ GE287.out) | exact HB.out))) : w.heap.size ≤ gb288)); have n5_ := Aside0.mk ((by rw [hg]; exact (below_size (by repeat (first | (with_reducible first | exact HB.out | apply below_alloc | apply pw_below_drewN | apply below_drew1 | refine below_set ?_ GE286.out | refine below_set ?_ GE287.out) | exact HB.out))) : w.heap.size ≤ gb288)); have n6_ := Aside0.mk ((by rw [hg]; exact Nat.ne_of_lt (blk_lt (g := gb286) (o := .cells #[.int .i64 a0_0, .slice A0_1 l0_1.length c0_1] 24 (0, 0)) (by (with_reducible repeat (first | refine blk_drewN ?_ _ | refine blk_drew ?_ | refine blk_alloc ?_ _)); exact BK286.out)) : gb286 ≠ gb288)); have n7_ := Aside0.mk ((by rw [hg]; exact Nat.ne_of_gt (blk_lt (g := gb286) (o := .cells #[.int .i64 a0_0, .slice A0_1 l0_1.length c0_1] 24 (0, 0)) (by (with_reducible repeat (first | refine blk_drewN ?_ _ | refine blk_drew ?_ | refine blk_alloc ?_ _)); exact BK286.out)) : gb288 ≠ gb286)); have n8_ := Aside0.mk ((by rw [hg]; exact Nat.ne_of_lt (blk_lt (g := gb287) (o := .cells #[.int .i64 a1_0, .slice A1_1 l1_1.length c1_1] 24 (0, 0)) (by (with_reducible repeat (first | refine blk_drewN ?_ _ | refine blk_drew ?_ | refine blk_alloc ?_ _)); exact BK287.out)) : gb287 ≠ gb288)); have n9_ := Aside0.mk ((by rw [hg]; exact Nat.ne_of_gt (blk_lt (g := gb287) (o := .cells #[.int .i64 a1_0, .slice A1_1 l1_1.length c1_1] 24 (0, 0)) (by (with_reducible repeat (first | refine blk_drewN ?_ _ | refine blk_drew ?_ | refine blk_alloc ?_ _)); exact BK287.out)) : gb288 ≠ gb287)); clear BK286; clear BK287; clear HB; have BK286 := n0_; have BK287 := n1_; have HB := n2_; have BK288 := n3_; have GW288 := n4_; have GE288 := n5_; have NB286_288 := n6_; have NB288_286 := n7_; have NB287_288 := n8_; have NB288_287 := n9_; clear n0_ n1_ n2_ n3_ n4_ n5_ n6_ n7_ n8_ n9_; clear hb hbox hg; have hnb13 := NB286_287.out; have hnc13 := NB287_286.out; have hnb14 := NB286_288.out; have hnc14 := NB288_286.out; have hcz15_0 : w12.cell? ⟨gb286, 0, none⟩ = some (.int .i64 a0_0) := (blk_cell BK286.out 0).trans rfl; have hcz15_1 : w12.cell? ⟨gb286, 1, none⟩ = some (.slice A0_1 l0_1.length c0_1) := (blk_cell BK286.out 1).trans rfl; have hfz15_0 := blk_frozen BK286.out 0; have hfz15_1 := blk_frozen BK286.out 1) | ((with_reducible refine gate_callee (f := 14) rfl ?_); refine goesL_ (some 14) rfl rfl Tryd.func14 (by kernel_rfl) rfl #[.agg #[.int .i64 a0_0, .slice A0_1 l0_1.length c0_1]] rfl (by (try simp only [List.map_toArray, List.map_cons, List.map_nil]); first | done | rfl | (simp only [List.length_drop, List.length_take]; rfl)) ?_; (with_reducible refine (bitset_Check.calls k a0_0 _ _ l0_1 t289 _ ?side1 ?side2 A4.out).mono ?_); (case side1 => repeat (first | exact (Kd.C_below HR0_1.out HB.out) | (with_reducible refine Kd.C_alloc ?_ _) | (with_reducible refine Kd.C_drewN ?_ _) | (with_reducible refine Kd.C_drew ?_))); (case side2 => exact HC0_1.out); rintro e w16 ⟨rfl, hb⟩; refine ⟨_, rfl, ?_⟩; have n0_ := Aside0.mk (blk_below (g := gb286) (o := .cells #[.int .i64 a0_0, .slice A0_1 l0_1.length c0_1] 24 (0, 0)) (by (with_reducible repeat (first | refine blk_drewN ?_ _ | refine blk_drew ?_ | refine blk_alloc ?_ _)); exact BK286.out) hb); have n1_ := Aside0.mk (blk_below (g := gb287) (o := .cells #[.int .i64 a1_0, .slice A1_1 l1_1.length c1_1] 24 (0, 0)) (by (with_reducible repeat (first | refine blk_drewN ?_ _ | refine blk_drew ?_ | refine blk_alloc ?_ _)); exact BK287.out) hb); have n2_ := Aside0.mk (blk_below (g := gb288) (o := .cells #[.int .i64 0, .slice none 0 0] 24 (0, 0)) (by (with_reducible repeat (first | refine blk_drewN ?_ _ | refine blk_drew ?_ | refine blk_alloc ?_ _)); exact BK288.out) hb); have n3_ := Aside0.mk (below_step (by repeat (first | (with_reducible first | exact HB.out | apply below_alloc | apply pw_below_drewN | apply below_drew1 | refine below_set ?_ GE286.out | refine below_set ?_ GE287.out | refine below_set ?_ GE288.out) | exact HB.out)) hb); clear BK286; clear BK287; clear BK288; clear HB; have BK286 := n0_; have BK287 := n1_; have BK288 := n2_; have HB := n3_; clear n0_ n1_ n2_ n3_; (try clear hb); (try clear hb2); (try clear hk); (try clear hi); have hnb17 := NB287_288.out; have hnc17 := NB288_287.out; have hcz18_0 : w16.cell? ⟨gb287, 0, none⟩ = some (.int .i64 a1_0) := (blk_cell BK287.out 0).trans rfl; have hcz18_1 : w16.cell? ⟨gb287, 1, none⟩ = some (.slice A1_1 l1_1.length c1_1) := (blk_cell BK287.out 1).trans rfl; have hfz18_0 := blk_frozen BK287.out 0; have hfz18_1 := blk_frozen BK287.out 1) | ((with_reducible refine gate_callee (f := 14) rfl ?_); refine goesL_ (some 20) rfl rfl Tryd.func14 (by kernel_rfl) rfl #[.agg #[.int .i64 a1_0, .slice A1_1 l1_1.length c1_1]] rfl (by (try simp only [List.map_toArray, List.map_cons, List.map_nil]); first | done | rfl | (simp only [List.length_drop, List.length_take]; rfl)) ?_; (with_reducible refine (bitset_Check.calls k a1_0 _ _ l1_1 t290 _ ?side1 ?side2 A6.out).mono ?_); (case side1 => repeat (first | exact (Kd.C_below HR1_1.out HB.out) | (with_reducible refine Kd.C_alloc ?_ _) | (with_reducible refine Kd.C_drewN ?_ _) | (with_reducible refine Kd.C_drew ?_))); (case side2 => exact HC1_1.out); rintro e w19 ⟨rfl, hb⟩; refine ⟨_, rfl, ?_⟩; have n0_ := Aside0.mk (blk_below (g := gb286) (o := .cells #[.int .i64 a0_0, .slice A0_1 l0_1.length c0_1] 24 (0, 0)) (by (with_reducible repeat (first | refine blk_drewN ?_ _ | refine blk_drew ?_ | refine blk_alloc ?_ _)); exact BK286.out) hb); have n1_ := Aside0.mk (blk_below (g := gb287) (o := .cells #[.int .i64 a1_0, .slice A1_1 l1_1.length c1_1] 24 (0, 0)) (by (with_reducible repeat (first | refine blk_drewN ?_ _ | refine blk_drew ?_ | refine blk_alloc ?_ _)); exact BK287.out) hb); have n2_ := Aside0.mk (blk_below (g := gb288) (o := .cells #[.int .i64 0, .slice none 0 0] 24 (0, 0)) (by (with_reducible repeat (first | refine blk_drewN ?_ _ | refine blk_drew ?_ | refine blk_alloc ?_ _)); exact BK288.out) hb); have n3_ := Aside0.mk (below_step (by repeat (first | (with_reducible first | exact HB.out | apply below_alloc | apply pw_below_drewN | apply below_drew1 | refine below_set ?_ GE286.out | refine below_set ?_ GE287.out | refine below_set ?_ GE288.out) | exact HB.out)) hb); clear BK286; clear BK287; clear BK288; clear HB; have BK286 := n0_; have BK287 := n1_; have BK288 := n2_; have HB := n3_; clear n0_ n1_ n2_ n3_; (try clear hb); (try clear hb2); (try clear hk); (try clear hi); have hcz20_0 : w19.cell? ⟨gb286, 0, none⟩ = some (.int .i64 a0_0) := (blk_cell BK286.out 0).trans rfl; have hcz20_1 : w19.cell? ⟨gb286, 1, none⟩ = some (.slice A0_1 l0_1.length c0_1) := (blk_cell BK286.out 1).trans rfl; have hfz20_0 := blk_frozen BK286.out 0; have hfz20_1 := blk_frozen BK286.out 1; have hcz21_0 : w19.cell? ⟨gb287, 0, none⟩ = some (.int .i64 a1_0) := (blk_cell BK287.out 0).trans rfl; have hcz21_1 : w19.cell? ⟨gb287, 1, none⟩ = some (.slice A1_1 l1_1.length c1_1) := (blk_cell BK287.out 1).trans rfl; have hfz21_0 := blk_frozen BK287.out 0; have hfz21_1 := blk_frozen BK287.out 1))
        have n0_ := Aside0.mk (blk_drew BK286.out)
        have n1_ := Aside0.mk (blk_drew BK287.out)
        have n2_ := Aside0.mk (blk_drew BK288.out)
        have n3_ := Aside0.mk (below_drew1 HB.out)
        clear BK286
        clear BK287
        clear BK288
        clear HB
        have BK286 := n0_
        have BK287 := n1_
        have BK288 := n2_
        have HB := n3_
        clear n0_ n1_ n2_ n3_
        refine start_ (n := 8) (S := fun w' => w'.cell? ⟨gb286, 0, none⟩ = some (.int .i64 a0_0) ∧ w'.cell? ⟨gb286, 1, none⟩ = some (.slice A0_1 l0_1.length c0_1)) (ds := []) #[false, false, false, false, false, false, false, false] (by kernel_rfl) rfl rfl ⟨(blk_cell BK286.out 0).trans rfl, (blk_cell BK286.out 1).trans rfl⟩ (fun hHeld => ?_); refine with_tabW bitset_combine.tab9 bitset_combine.bits9 (fun HT_ HW_ => ?_)
        generalize w19.drew = w22 at BK286 BK287 BK288 HB hHeld ⊢
        refine pure_ (i := 0) (N := some 31) (v := ?_) (a' := ?_) #[true, false, false, false, false, false, false, false] rfl rfl (any_of HT_.out (by kernel_rfl)) (fun _ _ _ h => h) (Or.inl ⟨by rfl, ?_⟩) ?_ ?_
        rotate_left
        · intro w'
          go_simp
          with_reducible rfl
        rotate_left
        · simp only [Act.put, List.setIfInBounds_toArray, List.set_cons_zero, List.set_cons_succ, i64_w, i32_w]
          rfl
        refine pure_ (i := 2) (N := some 33) (v := ?_) (a' := ?_) #[true, false, true, false, false, false, false, false] rfl rfl (any_of HT_.out (by kernel_rfl)) (fun _ _ _ h => h) (Or.inl ⟨by rfl, ?_⟩) ?_ ?_
        rotate_left
        · intro w'
          go_simp
          with_reducible rfl
        rotate_left
        · simp only [Act.put, List.setIfInBounds_toArray, List.set_cons_zero, List.set_cons_succ, i64_w, i32_w]
          rfl
        refine take_ (i := 1) (N := some 32) (v := ?_) (a' := ?_) #[true, true, true, false, false, false, false, false] rfl rfl (take_ofW HT_.out HW_.out (by kernel_rfl)) (fun _ _ _ h => h) (Or.inl ⟨by rfl, ?_⟩) hHeld ?_ ?_
        rotate_left
        · rintro w' ⟨s0, s1⟩
          go_simp
          with_reducible rfl
        rotate_left
        · simp only [Act.put, List.setIfInBounds_toArray, List.set_cons_zero, List.set_cons_succ, i64_w, i32_w]
          rfl
        refine take_ (i := 3) (N := some 34) (v := ?_) (a' := ?_) #[true, true, true, true, false, false, false, false] rfl rfl (take_ofW HT_.out HW_.out (by kernel_rfl)) (fun _ _ _ h => h) (Or.inl ⟨by rfl, ?_⟩) hHeld ?_ ?_
        rotate_left
        · rintro w' ⟨s0, s1⟩
          go_simp
          with_reducible rfl
        rotate_left
        · simp only [Act.put, List.setIfInBounds_toArray, List.set_cons_zero, List.set_cons_succ, i64_w, i32_w]
          rfl
        refine join_ (σ := Value × Nat) 1 #[true, true, true, true, true, true, true, false] (fun s_ => [(35, s_.1), (10, .pointer (some ⟨s_.2, 0, none⟩)), (36, .agg #[.int .i64 a0_0, s_.1])]) (fun s_ w' => (w'.cell? ⟨gb286, 0, none⟩ = some (.int .i64 a0_0) ∧ w'.cell? ⟨gb286, 1, none⟩ = some (.slice A0_1 l0_1.length c0_1)) ∧ (Kd.R (Kd.int .u64) 42 w' w.heap.size (fun _ => True) s_.1 t291) ∧ (w'.heap[gb286]? = some (.cells #[.int .i64 a0_0, .slice A0_1 l0_1.length c0_1] 24 (0, 0))) ∧ (w'.heap[gb287]? = some (.cells #[.int .i64 a1_0, .slice A1_1 l1_1.length c1_1] 24 (0, 0))) ∧ (w'.heap[gb288]? = some (.cells #[.int .i64 0, .slice none 0 0] 24 (0, 0))) ∧ (w'.heap[s_.2]? = some (.cells #[.int .i64 0, .slice none 0 0] 24 (0, 0))) ∧ (w.heap.size ≤ s_.2) ∧ (w.heap.size ≤ s_.2) ∧ (gb286 ≠ s_.2) ∧ (s_.2 ≠ gb286) ∧ (gb287 ≠ s_.2) ∧ (s_.2 ≠ gb287) ∧ (gb288 ≠ s_.2) ∧ (s_.2 ≠ gb288) ∧ (Below w.heap.size w w')) ?_ ?_
        rotate_left
        · intro hCont
          refine two_ (i := 4) (j := 6) (Ni := some 35) (Nj := some 10) #[true, true, true, true, true, false, false, false] #[true, true, true, true, false, false, true, false] rfl rfl rfl rfl (two_of HT_.out (by kernel_rfl)) (by decide) (by decide) (fun K hK => ?_) (fun K hK => ?_)
          · skip
            refine goes_ Tryd.func38 (by kernel_rfl) rfl #[.slice A0_1 l0_1.length c0_1] (by rfl) rfl rfl (by (try simp only [List.map_toArray, List.map_cons, List.map_nil]); first | done | rfl | (simp only [List.length_drop, List.length_take]; rfl)) ?_
            with_reducible refine (slices_Clone_uint64_uint64.calls _ _ l0_1 t291 _ ?side1 ?side2 A9.out).mono ?_
            (case side1 => repeat (first | exact (Kd.C_below HR0_1.out HB.out) | (with_reducible refine Kd.C_alloc ?_ _) | (with_reducible refine Kd.C_drewN ?_ _) | (with_reducible refine Kd.C_drew ?_)))
            (case side2 => exact HC0_1.out)
            rintro e w23 ⟨v292, rfl, ho0, hb⟩
            refine ⟨_, rfl, ?_⟩
            have n0_ := Aside0.mk (Kd.R_lower ho0 (below_size (by repeat (first | (with_reducible first | exact HB.out | apply below_alloc | apply pw_below_drewN | apply below_drew1 | refine below_set ?_ GE286.out | refine below_set ?_ GE287.out | refine below_set ?_ GE288.out) | exact HB.out))))
            have n1_ := Aside0.mk (blk_below (g := gb286) (o := .cells #[.int .i64 a0_0, .slice A0_1 l0_1.length c0_1] 24 (0, 0)) (by (with_reducible repeat (first | refine blk_drewN ?_ _ | refine blk_drew ?_ | refine blk_alloc ?_ _)); exact BK286.out) hb)
            have n2_ := Aside0.mk (blk_below (g := gb287) (o := .cells #[.int .i64 a1_0, .slice A1_1 l1_1.length c1_1] 24 (0, 0)) (by (with_reducible repeat (first | refine blk_drewN ?_ _ | refine blk_drew ?_ | refine blk_alloc ?_ _)); exact BK287.out) hb)
            have n3_ := Aside0.mk (blk_below (g := gb288) (o := .cells #[.int .i64 0, .slice none 0 0] 24 (0, 0)) (by (with_reducible repeat (first | refine blk_drewN ?_ _ | refine blk_drew ?_ | refine blk_alloc ?_ _)); exact BK288.out) hb)
            have n4_ := Aside0.mk (below_step (by repeat (first | (with_reducible first | exact HB.out | apply below_alloc | apply pw_below_drewN | apply below_drew1 | refine below_set ?_ GE286.out | refine below_set ?_ GE287.out | refine below_set ?_ GE288.out) | exact HB.out)) hb)
            clear BK286
            clear BK287
            clear BK288
            clear HB
            have HO293 := n0_
            have BK286 := n1_
            have BK287 := n2_
            have BK288 := n3_
            have HB := n4_
            clear n0_ n1_ n2_ n3_ n4_
            (try clear hb)
            (try clear hb2)
            (try clear hk)
            (try clear hi)
            (try clear ho0)
            obtain ⟨Ao24, co24, eo24⟩ := Kd.R_slice HO293.out
            (first | subst eo24 | (injection eo24 with f1_ f2_ f3_; have f4_ := f1_.symm; have f5_ := f3_.symm; clear f1_ f2_ f3_; subst f4_; subst f5_))
            refine hK.out _ _ ⟨(blk_cell BK286.out 0).trans rfl, (blk_cell BK286.out 1).trans rfl⟩ (fun hHeld => ?_)
            clear hK K
            refine norm_ (a' := ?_) ?_ ?_
            rotate_left
            · show Act.put _ (some 35) _ = _
              simp only [Act.put, List.setIfInBounds_toArray, List.set_cons_zero, List.set_cons_succ, i64_w, i32_w]
              rfl
            refine pure_ (i := 5) (N := some 36) (v := ?_) (a' := ?_) #[true, true, true, true, true, true, false, false] rfl rfl (any_of HT_.out (by kernel_rfl)) (fun _ _ _ h => h) (Or.inl ⟨by rfl, ?_⟩) ?_ ?_
            rotate_left
            · intro w'
              go_simp
              with_reducible rfl
            rotate_left
            · simp only [Act.put, List.setIfInBounds_toArray, List.set_cons_zero, List.set_cons_succ, i64_w, i32_w]
              rfl
            refine one_ (i := 6) (N := some 10) #[true, true, true, true, true, true, true, false] rfl rfl (one_of HT_.out (by kernel_rfl)) (by decide) (fun K hK => ?_)
            refine box_step ?hg (N := 10) ?hd (cs := #[.int .i64 0, .slice none 0 0]) (t := 24) ?hr ?_; (case hd => rfl); (case hg => rfl); (case hr => first | (go_simp; done) | (go_simp; rfl))
            intro gb294 hg w25 hbox hb
            have n0_ := Aside0.mk (Kd.R_below (by (with_reducible repeat (first | apply Kd.R_alloc | apply Kd.R_drewN | apply Kd.R_drew)); exact HO293.out) hb)
            have n1_ := Aside0.mk (blk_below (g := gb286) (o := .cells #[.int .i64 a0_0, .slice A0_1 l0_1.length c0_1] 24 (0, 0)) (by (with_reducible repeat (first | refine blk_drewN ?_ _ | refine blk_drew ?_ | refine blk_alloc ?_ _)); exact BK286.out) hb)
            have n2_ := Aside0.mk (blk_below (g := gb287) (o := .cells #[.int .i64 a1_0, .slice A1_1 l1_1.length c1_1] 24 (0, 0)) (by (with_reducible repeat (first | refine blk_drewN ?_ _ | refine blk_drew ?_ | refine blk_alloc ?_ _)); exact BK287.out) hb)
            have n3_ := Aside0.mk (blk_below (g := gb288) (o := .cells #[.int .i64 0, .slice none 0 0] 24 (0, 0)) (by (with_reducible repeat (first | refine blk_drewN ?_ _ | refine blk_drew ?_ | refine blk_alloc ?_ _)); exact BK288.out) hb)
            have n4_ := Aside0.mk (below_step (by repeat (first | (with_reducible first | exact HB.out | apply below_alloc | apply pw_below_drewN | apply below_drew1 | refine below_set ?_ GE286.out | refine below_set ?_ GE287.out | refine below_set ?_ GE288.out) | exact HB.out)) hb)
            have n5_ := Aside0.mk (hbox)
            have n6_ := Aside0.mk ((by rw [hg]; exact (below_size (by repeat (first | (with_reducible first | exact HB.out | apply below_alloc | apply pw_below_drewN | apply below_drew1 | refine below_set ?_ GE286.out | refine below_set ?_ GE287.out | refine below_set ?_ GE288.out) | exact HB.out))) : w.heap.size ≤ gb294))
            have n7_ := Aside0.mk ((by rw [hg]; exact (below_size (by repeat (first | (with_reducible first | exact HB.out | apply below_alloc | apply pw_below_drewN | apply below_drew1 | refine below_set ?_ GE286.out | refine below_set ?_ GE287.out | refine below_set ?_ GE288.out) | exact HB.out))) : w.heap.size ≤ gb294))
            have n8_ := Aside0.mk ((by rw [hg]; exact Nat.ne_of_lt (blk_lt (g := gb286) (o := .cells #[.int .i64 a0_0, .slice A0_1 l0_1.length c0_1] 24 (0, 0)) (by (with_reducible repeat (first | refine blk_drewN ?_ _ | refine blk_drew ?_ | refine blk_alloc ?_ _)); exact BK286.out)) : gb286 ≠ gb294))
            have n9_ := Aside0.mk ((by rw [hg]; exact Nat.ne_of_gt (blk_lt (g := gb286) (o := .cells #[.int .i64 a0_0, .slice A0_1 l0_1.length c0_1] 24 (0, 0)) (by (with_reducible repeat (first | refine blk_drewN ?_ _ | refine blk_drew ?_ | refine blk_alloc ?_ _)); exact BK286.out)) : gb294 ≠ gb286))
            have n10_ := Aside0.mk ((by rw [hg]; exact Nat.ne_of_lt (blk_lt (g := gb287) (o := .cells #[.int .i64 a1_0, .slice A1_1 l1_1.length c1_1] 24 (0, 0)) (by (with_reducible repeat (first | refine blk_drewN ?_ _ | refine blk_drew ?_ | refine blk_alloc ?_ _)); exact BK287.out)) : gb287 ≠ gb294))
            have n11_ := Aside0.mk ((by rw [hg]; exact Nat.ne_of_gt (blk_lt (g := gb287) (o := .cells #[.int .i64 a1_0, .slice A1_1 l1_1.length c1_1] 24 (0, 0)) (by (with_reducible repeat (first | refine blk_drewN ?_ _ | refine blk_drew ?_ | refine blk_alloc ?_ _)); exact BK287.out)) : gb294 ≠ gb287))
            have n12_ := Aside0.mk ((by rw [hg]; exact Nat.ne_of_lt (blk_lt (g := gb288) (o := .cells #[.int .i64 0, .slice none 0 0] 24 (0, 0)) (by (with_reducible repeat (first | refine blk_drewN ?_ _ | refine blk_drew ?_ | refine blk_alloc ?_ _)); exact BK288.out)) : gb288 ≠ gb294))
            have n13_ := Aside0.mk ((by rw [hg]; exact Nat.ne_of_gt (blk_lt (g := gb288) (o := .cells #[.int .i64 0, .slice none 0 0] 24 (0, 0)) (by (with_reducible repeat (first | refine blk_drewN ?_ _ | refine blk_drew ?_ | refine blk_alloc ?_ _)); exact BK288.out)) : gb294 ≠ gb288))
            clear HO293
            clear BK286
            clear BK287
            clear BK288
            clear HB
            have HO293 := n0_
            have BK286 := n1_
            have BK287 := n2_
            have BK288 := n3_
            have HB := n4_
            have BK294 := n5_
            have GW294 := n6_
            have GE294 := n7_
            have NB286_294 := n8_
            have NB294_286 := n9_
            have NB287_294 := n10_
            have NB294_287 := n11_
            have NB288_294 := n12_
            have NB294_288 := n13_
            clear n0_ n1_ n2_ n3_ n4_ n5_ n6_ n7_ n8_ n9_ n10_ n11_ n12_ n13_
            clear hb hbox hg
            refine hK.out _ _ ⟨(blk_cell BK286.out 0).trans rfl, (blk_cell BK286.out 1).trans rfl⟩ (fun hHeld => ?_)
            clear hK K
            refine norm_ (a' := ?_) ?_ ?_
            rotate_left
            · show Act.put _ (some 10) _ = _
              simp only [Act.put, List.setIfInBounds_toArray, List.set_cons_zero, List.set_cons_succ, i64_w, i32_w]
              rfl
            exact norm_ (by simp only [putAll, Act.put, List.setIfInBounds_toArray, List.set_cons_zero, List.set_cons_succ]) (hCont (.slice Ao24 t291.length co24, gb294) _ ⟨hHeld, (by (with_reducible repeat (first | apply Kd.R_alloc | apply Kd.R_drewN | apply Kd.R_drew)); exact HO293.out), (by (with_reducible repeat (first | refine blk_drewN ?_ _ | refine blk_drew ?_ | refine blk_alloc ?_ _)); exact BK286.out), (by (with_reducible repeat (first | refine blk_drewN ?_ _ | refine blk_drew ?_ | refine blk_alloc ?_ _)); exact BK287.out), (by (with_reducible repeat (first | refine blk_drewN ?_ _ | refine blk_drew ?_ | refine blk_alloc ?_ _)); exact BK288.out), (by (with_reducible repeat (first | refine blk_drewN ?_ _ | refine blk_drew ?_ | refine blk_alloc ?_ _)); exact BK294.out), GW294.out, GE294.out, NB286_294.out, NB294_286.out, NB287_294.out, NB294_287.out, NB288_294.out, NB294_288.out, (by repeat (first | (with_reducible first | exact HB.out | apply below_alloc | apply pw_below_drewN | apply below_drew1 | refine below_set ?_ GE286.out | refine below_set ?_ GE287.out | refine below_set ?_ GE288.out | refine below_set ?_ GE294.out) | exact HB.out))⟩)
          · skip
            refine box_step ?hg (N := 10) ?hd (cs := #[.int .i64 0, .slice none 0 0]) (t := 24) ?hr ?_; (case hd => rfl); (case hg => rfl); (case hr => first | (go_simp; done) | (go_simp; rfl))
            intro gb294 hg w23 hbox hb
            have n0_ := Aside0.mk (blk_below (g := gb286) (o := .cells #[.int .i64 a0_0, .slice A0_1 l0_1.length c0_1] 24 (0, 0)) (by (with_reducible repeat (first | refine blk_drewN ?_ _ | refine blk_drew ?_ | refine blk_alloc ?_ _)); exact BK286.out) hb)
            have n1_ := Aside0.mk (blk_below (g := gb287) (o := .cells #[.int .i64 a1_0, .slice A1_1 l1_1.length c1_1] 24 (0, 0)) (by (with_reducible repeat (first | refine blk_drewN ?_ _ | refine blk_drew ?_ | refine blk_alloc ?_ _)); exact BK287.out) hb)
            have n2_ := Aside0.mk (blk_below (g := gb288) (o := .cells #[.int .i64 0, .slice none 0 0] 24 (0, 0)) (by (with_reducible repeat (first | refine blk_drewN ?_ _ | refine blk_drew ?_ | refine blk_alloc ?_ _)); exact BK288.out) hb)
            have n3_ := Aside0.mk (below_step (by repeat (first | (with_reducible first | exact HB.out | apply below_alloc | apply pw_below_drewN | apply below_drew1 | refine below_set ?_ GE286.out | refine below_set ?_ GE287.out | refine below_set ?_ GE288.out) | exact HB.out)) hb)
            have n4_ := Aside0.mk (hbox)
            have n5_ := Aside0.mk ((by rw [hg]; exact (below_size (by repeat (first | (with_reducible first | exact HB.out | apply below_alloc | apply pw_below_drewN | apply below_drew1 | refine below_set ?_ GE286.out | refine below_set ?_ GE287.out | refine below_set ?_ GE288.out) | exact HB.out))) : w.heap.size ≤ gb294))
            have n6_ := Aside0.mk ((by rw [hg]; exact (below_size (by repeat (first | (with_reducible first | exact HB.out | apply below_alloc | apply pw_below_drewN | apply below_drew1 | refine below_set ?_ GE286.out | refine below_set ?_ GE287.out | refine below_set ?_ GE288.out) | exact HB.out))) : w.heap.size ≤ gb294))
            have n7_ := Aside0.mk ((by rw [hg]; exact Nat.ne_of_lt (blk_lt (g := gb286) (o := .cells #[.int .i64 a0_0, .slice A0_1 l0_1.length c0_1] 24 (0, 0)) (by (with_reducible repeat (first | refine blk_drewN ?_ _ | refine blk_drew ?_ | refine blk_alloc ?_ _)); exact BK286.out)) : gb286 ≠ gb294))
            have n8_ := Aside0.mk ((by rw [hg]; exact Nat.ne_of_gt (blk_lt (g := gb286) (o := .cells #[.int .i64 a0_0, .slice A0_1 l0_1.length c0_1] 24 (0, 0)) (by (with_reducible repeat (first | refine blk_drewN ?_ _ | refine blk_drew ?_ | refine blk_alloc ?_ _)); exact BK286.out)) : gb294 ≠ gb286))
            have n9_ := Aside0.mk ((by rw [hg]; exact Nat.ne_of_lt (blk_lt (g := gb287) (o := .cells #[.int .i64 a1_0, .slice A1_1 l1_1.length c1_1] 24 (0, 0)) (by (with_reducible repeat (first | refine blk_drewN ?_ _ | refine blk_drew ?_ | refine blk_alloc ?_ _)); exact BK287.out)) : gb287 ≠ gb294))
            have n10_ := Aside0.mk ((by rw [hg]; exact Nat.ne_of_gt (blk_lt (g := gb287) (o := .cells #[.int .i64 a1_0, .slice A1_1 l1_1.length c1_1] 24 (0, 0)) (by (with_reducible repeat (first | refine blk_drewN ?_ _ | refine blk_drew ?_ | refine blk_alloc ?_ _)); exact BK287.out)) : gb294 ≠ gb287))
            have n11_ := Aside0.mk ((by rw [hg]; exact Nat.ne_of_lt (blk_lt (g := gb288) (o := .cells #[.int .i64 0, .slice none 0 0] 24 (0, 0)) (by (with_reducible repeat (first | refine blk_drewN ?_ _ | refine blk_drew ?_ | refine blk_alloc ?_ _)); exact BK288.out)) : gb288 ≠ gb294))
            have n12_ := Aside0.mk ((by rw [hg]; exact Nat.ne_of_gt (blk_lt (g := gb288) (o := .cells #[.int .i64 0, .slice none 0 0] 24 (0, 0)) (by (with_reducible repeat (first | refine blk_drewN ?_ _ | refine blk_drew ?_ | refine blk_alloc ?_ _)); exact BK288.out)) : gb294 ≠ gb288))
            clear BK286
            clear BK287
            clear BK288
            clear HB
            have BK286 := n0_
            have BK287 := n1_
            have BK288 := n2_
            have HB := n3_
            have BK294 := n4_
            have GW294 := n5_
            have GE294 := n6_
            have NB286_294 := n7_
            have NB294_286 := n8_
            have NB287_294 := n9_
            have NB294_287 := n10_
            have NB288_294 := n11_
            have NB294_288 := n12_
            clear n0_ n1_ n2_ n3_ n4_ n5_ n6_ n7_ n8_ n9_ n10_ n11_ n12_
            clear hb hbox hg
            refine hK.out _ _ ⟨(blk_cell BK286.out 0).trans rfl, (blk_cell BK286.out 1).trans rfl⟩ (fun hHeld => ?_)
            clear hK K
            refine norm_ (a' := ?_) ?_ ?_
            rotate_left
            · show Act.put _ (some 10) _ = _
              simp only [Act.put, List.setIfInBounds_toArray, List.set_cons_zero, List.set_cons_succ, i64_w, i32_w]
              rfl
            refine one_ (i := 4) (N := some 35) #[true, true, true, true, true, false, true, false] rfl rfl (one_of HT_.out (by kernel_rfl)) (by decide) (fun K hK => ?_)
            refine goes_ Tryd.func38 (by kernel_rfl) rfl #[.slice A0_1 l0_1.length c0_1] (by rfl) rfl rfl (by (try simp only [List.map_toArray, List.map_cons, List.map_nil]); first | done | rfl | (simp only [List.length_drop, List.length_take]; rfl)) ?_
            with_reducible refine (slices_Clone_uint64_uint64.calls _ _ l0_1 t291 _ ?side1 ?side2 A9.out).mono ?_
            (case side1 => repeat (first | exact (Kd.C_below HR0_1.out HB.out) | (with_reducible refine Kd.C_alloc ?_ _) | (with_reducible refine Kd.C_drewN ?_ _) | (with_reducible refine Kd.C_drew ?_)))
            (case side2 => exact HC0_1.out)
            rintro e w24 ⟨v292, rfl, ho0, hb⟩
            refine ⟨_, rfl, ?_⟩
            have n0_ := Aside0.mk (Kd.R_lower ho0 (below_size (by repeat (first | (with_reducible first | exact HB.out | apply below_alloc | apply pw_below_drewN | apply below_drew1 | refine below_set ?_ GE286.out | refine below_set ?_ GE287.out | refine below_set ?_ GE288.out | refine below_set ?_ GE294.out) | exact HB.out))))
            have n1_ := Aside0.mk (blk_below (g := gb286) (o := .cells #[.int .i64 a0_0, .slice A0_1 l0_1.length c0_1] 24 (0, 0)) (by (with_reducible repeat (first | refine blk_drewN ?_ _ | refine blk_drew ?_ | refine blk_alloc ?_ _)); exact BK286.out) hb)
            have n2_ := Aside0.mk (blk_below (g := gb287) (o := .cells #[.int .i64 a1_0, .slice A1_1 l1_1.length c1_1] 24 (0, 0)) (by (with_reducible repeat (first | refine blk_drewN ?_ _ | refine blk_drew ?_ | refine blk_alloc ?_ _)); exact BK287.out) hb)
            have n3_ := Aside0.mk (blk_below (g := gb288) (o := .cells #[.int .i64 0, .slice none 0 0] 24 (0, 0)) (by (with_reducible repeat (first | refine blk_drewN ?_ _ | refine blk_drew ?_ | refine blk_alloc ?_ _)); exact BK288.out) hb)
            have n4_ := Aside0.mk (blk_below (g := gb294) (o := .cells #[.int .i64 0, .slice none 0 0] 24 (0, 0)) (by (with_reducible repeat (first | refine blk_drewN ?_ _ | refine blk_drew ?_ | refine blk_alloc ?_ _)); exact BK294.out) hb)
            have n5_ := Aside0.mk (below_step (by repeat (first | (with_reducible first | exact HB.out | apply below_alloc | apply pw_below_drewN | apply below_drew1 | refine below_set ?_ GE286.out | refine below_set ?_ GE287.out | refine below_set ?_ GE288.out | refine below_set ?_ GE294.out) | exact HB.out)) hb)
            clear BK286
            clear BK287
            clear BK288
            clear BK294
            clear HB
            have HO293 := n0_
            have BK286 := n1_
            have BK287 := n2_
            have BK288 := n3_
            have BK294 := n4_
            have HB := n5_
            clear n0_ n1_ n2_ n3_ n4_ n5_
            (try clear hb)
            (try clear hb2)
            (try clear hk)
            (try clear hi)
            (try clear ho0)
            obtain ⟨Ao25, co25, eo25⟩ := Kd.R_slice HO293.out
            (first | subst eo25 | (injection eo25 with f1_ f2_ f3_; have f4_ := f1_.symm; have f5_ := f3_.symm; clear f1_ f2_ f3_; subst f4_; subst f5_))
            refine hK.out _ _ ⟨(blk_cell BK286.out 0).trans rfl, (blk_cell BK286.out 1).trans rfl⟩ (fun hHeld => ?_)
            clear hK K
            refine norm_ (a' := ?_) ?_ ?_
            rotate_left
            · show Act.put _ (some 35) _ = _
              simp only [Act.put, List.setIfInBounds_toArray, List.set_cons_zero, List.set_cons_succ, i64_w, i32_w]
              rfl
            refine pure_ (i := 5) (N := some 36) (v := ?_) (a' := ?_) #[true, true, true, true, true, true, true, false] rfl rfl (any_of HT_.out (by kernel_rfl)) (fun _ _ _ h => h) (Or.inl ⟨by rfl, ?_⟩) ?_ ?_
            rotate_left
            · intro w'
              go_simp
              with_reducible rfl
            rotate_left
            · simp only [Act.put, List.setIfInBounds_toArray, List.set_cons_zero, List.set_cons_succ, i64_w, i32_w]
              rfl
            exact norm_ (by simp only [putAll, Act.put, List.setIfInBounds_toArray, List.set_cons_zero, List.set_cons_succ]) (hCont (.slice Ao25 t291.length co25, gb294) _ ⟨hHeld, (by (with_reducible repeat (first | apply Kd.R_alloc | apply Kd.R_drewN | apply Kd.R_drew)); exact HO293.out), (by (with_reducible repeat (first | refine blk_drewN ?_ _ | refine blk_drew ?_ | refine blk_alloc ?_ _)); exact BK286.out), (by (with_reducible repeat (first | refine blk_drewN ?_ _ | refine blk_drew ?_ | refine blk_alloc ?_ _)); exact BK287.out), (by (with_reducible repeat (first | refine blk_drewN ?_ _ | refine blk_drew ?_ | refine blk_alloc ?_ _)); exact BK288.out), (by (with_reducible repeat (first | refine blk_drewN ?_ _ | refine blk_drew ?_ | refine blk_alloc ?_ _)); exact BK294.out), GW294.out, GE294.out, NB286_294.out, NB294_286.out, NB287_294.out, NB294_287.out, NB288_294.out, NB294_288.out, (by repeat (first | (with_reducible first | exact HB.out | apply below_alloc | apply pw_below_drewN | apply below_drew1 | refine below_set ?_ GE286.out | refine below_set ?_ GE287.out | refine below_set ?_ GE288.out | refine below_set ?_ GE294.out) | exact HB.out))⟩)
        rintro ⟨v292, gb294⟩ w26 ⟨hS_, h0_, h1_, h2_, h3_, h4_, h5_, h6_, h7_, h8_, h9_, h10_, h11_, h12_, h13_⟩
        have n0_ : Aside0 (Kd.R (Kd.int .u64) 42 w26 w.heap.size (fun _ => True) v292 t291) := ⟨h0_⟩
        have n1_ : Aside0 (w26.heap[gb286]? = some (.cells #[.int .i64 a0_0, .slice A0_1 l0_1.length c0_1] 24 (0, 0))) := ⟨h1_⟩
        have n2_ : Aside0 (w26.heap[gb287]? = some (.cells #[.int .i64 a1_0, .slice A1_1 l1_1.length c1_1] 24 (0, 0))) := ⟨h2_⟩
        have n3_ : Aside0 (w26.heap[gb288]? = some (.cells #[.int .i64 0, .slice none 0 0] 24 (0, 0))) := ⟨h3_⟩
        have n4_ : Aside0 (w26.heap[gb294]? = some (.cells #[.int .i64 0, .slice none 0 0] 24 (0, 0))) := ⟨h4_⟩
        have n5_ : Aside0 (w.heap.size ≤ gb294) := ⟨h5_⟩
        have n6_ : Aside0 (w.heap.size ≤ gb294) := ⟨h6_⟩
        have n7_ : Aside0 (gb286 ≠ gb294) := ⟨h7_⟩
        have n8_ : Aside0 (gb294 ≠ gb286) := ⟨h8_⟩
        have n9_ : Aside0 (gb287 ≠ gb294) := ⟨h9_⟩
        have n10_ : Aside0 (gb294 ≠ gb287) := ⟨h10_⟩
        have n11_ : Aside0 (gb288 ≠ gb294) := ⟨h11_⟩
        have n12_ : Aside0 (gb294 ≠ gb288) := ⟨h12_⟩
        have n13_ : Aside0 (Below w.heap.size w w26) := ⟨h13_⟩
        clear BK286
        clear BK287
        clear BK288
        clear HB
        clear h0_ h1_ h2_ h3_ h4_ h5_ h6_ h7_ h8_ h9_ h10_ h11_ h12_ h13_
        have HO293 := n0_
        have BK286 := n1_
        have BK287 := n2_
        have BK288 := n3_
        have BK294 := n4_
        have GW294 := n5_
        have GE294 := n6_
        have NB286_294 := n7_
        have NB294_286 := n8_
        have NB287_294 := n9_
        have NB294_287 := n10_
        have NB288_294 := n11_
        have NB294_288 := n12_
        have HB := n13_
        clear n0_ n1_ n2_ n3_ n4_ n5_ n6_ n7_ n8_ n9_ n10_ n11_ n12_ n13_
        have hHeld : w26.cell? ⟨gb286, 0, none⟩ = some (.int .i64 a0_0) ∧ w26.cell? ⟨gb286, 1, none⟩ = some (.slice A0_1 l0_1.length c0_1) := hS_
        obtain ⟨Ao27, co27, eo27⟩ := Kd.R_slice HO293.out
        (first | subst eo27 | (injection eo27 with f1_ f2_ f3_; have f4_ := f1_.symm; have f5_ := f3_.symm; clear f1_ f2_ f3_; subst f4_; subst f5_))
        refine norm_ (a' := ?_) ?_ ?_
        rotate_left
        · simp only [putAll, Act.put, List.setIfInBounds_toArray, List.set_cons_zero, List.set_cons_succ]
          rfl
        refine one_ (i := 7) (N := none) #[true, true, true, true, true, true, true, true] rfl rfl (one_of HT_.out (by kernel_rfl)) (by decide) (fun K hK => ?_)
        have hs28 : w26.cell? ⟨gb294, 0, none⟩ = some (.int .i64 0) := (blk_cell BK294.out 0).trans rfl
        have hfs28 := blk_frozen BK294.out 0
        have hns28_0 := NB286_294.out
        have hns28_1 := NB287_294.out
        have hns28_2 := NB288_294.out
        have hms28_0 := NB294_286.out
        have hms28_1 := NB294_287.out
        have hms28_2 := NB294_288.out
        have hs29 : w26.cell? ⟨gb294, 1, none⟩ = some (.slice none 0 0) := (blk_cell BK294.out 1).trans rfl
        have hfs29 := blk_frozen BK294.out 1
        have hns29_0 := NB286_294.out
        have hns29_1 := NB287_294.out
        have hns29_2 := NB288_294.out
        have hms29_0 := NB294_286.out
        have hms29_1 := NB294_287.out
        have hms29_2 := NB294_288.out
        refine skip_ (w1 := ?_) (by rfl) rfl ?_ ?_
        rotate_left
        · go_simp
          rfl
        refine hK.out _ _ ⟨((cell_far (p := ⟨gb294, _, none⟩) NB286_294.out _).trans (((cell_far (p := ⟨gb294, _, none⟩) NB286_294.out _).trans (hHeld.1)))), ((cell_far (p := ⟨gb294, _, none⟩) NB286_294.out _).trans (((cell_far (p := ⟨gb294, _, none⟩) NB286_294.out _).trans (hHeld.2))))⟩ (fun hHeld => ?_)
        clear hK K
        refine done_ (done_of HT_.out (by kernel_rfl)) ?_
        have hnb30 := NB287_294.out
        have hnc30 := NB294_287.out
        have hcz31_0 : w26.cell? ⟨gb287, 0, none⟩ = some (.int .i64 a1_0) := (blk_cell BK287.out 0).trans rfl
        have hcz31_1 : w26.cell? ⟨gb287, 1, none⟩ = some (.slice A1_1 l1_1.length c1_1) := (blk_cell BK287.out 1).trans rfl
        have hfz31_0 := blk_frozen BK287.out 0
        have hfz31_1 := blk_frozen BK287.out 1
        try go_wp2
        go_loopg [40] k (fun kq v40 w' => ∃ (x40_1 : Int) (x295001_1 : List Int) (u295001 : Value), v40 = .int .i64 x40_1 ∧ Aside0 (bitset_combine.l0 kq a2 l1_1 (l1_1.length : Int) x40_1 a0_0 x295001_1 = some (r1, r2, r3)) ∧ Aside0 (kq ≤ k) ∧ Aside0 (Kd.R (Kd.int .u64) 42 w' w.heap.size (fun _ => True) u295001 x295001_1) ∧ Aside0 (w'.heap[gb286]? = some (.cells #[.int .i64 a0_0, (.slice A0_1 l0_1.length c0_1)] 24 (0, 0))) ∧ Aside0 (w'.heap[gb287]? = some (.cells #[.int .i64 a1_0, (.slice A1_1 l1_1.length c1_1)] 24 (0, 0))) ∧ Aside0 (w'.heap[gb288]? = some (.cells #[.int .i64 0, (.slice none 0 0)] 24 (0, 0))) ∧ Aside0 (w'.heap[gb294]? = some (.cells #[.int .i64 a0_0, u295001] 24 (0, 0))) ∧ Aside0 (Below w.heap.size w w'))
        case atStart => exact ⟨(0), (t291), (.slice Ao27 t291.length co27), (by first | rfl | (simp; done) | (simp [*]; done)), H', ⟨Nat.le_refl _⟩, ⟨by (with_reducible repeat (first | apply Kd.R_alloc | apply Kd.R_drewN | apply Kd.R_drew)); exact Kd.R_mono (Kd.R_far (p := ⟨gb294, 1, none⟩) (Kd.R_far (p := ⟨gb294, 0, none⟩) (Kd.R_types HO293.out BK294.out (by decide)) (fun _ hk => hk.2) (.int .i64 a0_0)) (fun _ hk => hk.2) (.slice Ao27 t291.length co27)) (fun _ hk => trivial)⟩, ⟨by (with_reducible repeat (first | refine blk_drewN ?_ _ | refine blk_drew ?_ | refine blk_alloc ?_ _)); refine blk_far ?_ NB286_294.out _; (with_reducible repeat (first | refine blk_drewN ?_ _ | refine blk_drew ?_ | refine blk_alloc ?_ _)); refine blk_far ?_ NB286_294.out _; (with_reducible repeat (first | refine blk_drewN ?_ _ | refine blk_drew ?_ | refine blk_alloc ?_ _)); exact BK286.out⟩, ⟨by (with_reducible repeat (first | refine blk_drewN ?_ _ | refine blk_drew ?_ | refine blk_alloc ?_ _)); refine blk_far ?_ NB287_294.out _; (with_reducible repeat (first | refine blk_drewN ?_ _ | refine blk_drew ?_ | refine blk_alloc ?_ _)); refine blk_far ?_ NB287_294.out _; (with_reducible repeat (first | refine blk_drewN ?_ _ | refine blk_drew ?_ | refine blk_alloc ?_ _)); exact BK287.out⟩, ⟨by (with_reducible repeat (first | refine blk_drewN ?_ _ | refine blk_drew ?_ | refine blk_alloc ?_ _)); refine blk_far ?_ NB288_294.out _; (with_reducible repeat (first | refine blk_drewN ?_ _ | refine blk_drew ?_ | refine blk_alloc ?_ _)); refine blk_far ?_ NB288_294.out _; (with_reducible repeat (first | refine blk_drewN ?_ _ | refine blk_drew ?_ | refine blk_alloc ?_ _)); exact BK288.out⟩, ⟨by (with_reducible repeat (first | refine blk_drewN ?_ _ | refine blk_drew ?_ | refine blk_alloc ?_ _)); refine blk_put (cs := #[.int .i64 a0_0, .slice none 0 0]) ?_ 1 _ rfl; (with_reducible repeat (first | refine blk_drewN ?_ _ | refine blk_drew ?_ | refine blk_alloc ?_ _)); refine blk_put (cs := #[.int .i64 0, .slice none 0 0]) ?_ 0 _ rfl; (with_reducible repeat (first | refine blk_drewN ?_ _ | refine blk_drew ?_ | refine blk_alloc ?_ _)); exact BK294.out⟩, ⟨by repeat (first | (with_reducible first | exact HB.out | apply below_alloc | apply pw_below_drewN | apply below_drew1 | refine below_set ?_ GE286.out | refine below_set ?_ GE287.out | refine below_set ?_ GE288.out | refine below_set ?_ GE294.out) | exact HB.out)⟩⟩
        case round =>
          clear H'
          try clear c1
          try clear p2
          try clear c3
          try clear c4
          try clear c5
          try clear c5b0
          try clear c5b1
          try clear c7
          try clear c7b0
          try clear c7b1
          try clear c8
          try clear c8b0
          try clear c8b1
          try clear c13
          try clear c14
          try clear c17
          try clear c30
          try clear hcz15_0
          try clear hcz15_1
          try clear hcz18_0
          try clear hcz18_1
          try clear hcz20_0
          try clear hcz20_1
          try clear hcz21_0
          try clear hcz21_1
          try clear hcz31_0
          try clear hcz31_1
          try clear hfz15_0
          try clear hfz15_1
          try clear hfz18_0
          try clear hfz18_1
          try clear hfz20_0
          try clear hfz20_1
          try clear hfz21_0
          try clear hfz21_1
          try clear hfz31_0
          try clear hfz31_1
          obtain ⟨x40_1, x295001_1, u295001, rfl, HA, HK1, HO_295001, BK286, BK287, BK288, BK294, HB⟩ := hrel
          cases gk with
          | zero => exact absurd HA.out (by simp [bitset_combine.l0])
          | succ k1 =>
            have H := HA.out
            clear HA
            simp only [bitset_combine.l0] at H
            by_cases c32 : x40_1 < (l1_1.length : Int)
            · rw [if_pos c32] at H
              have c32b0 : decide (x40_1 < (l1_1.length : Int)) = true := decide_eq_true c32
              clear c32
              by_cases c33 : 0 ≤ x40_1
              · rw [if_pos c33] at H
                have c33b0 : decide (0 ≤ x40_1) = true := decide_eq_true c33
                clear c33
                by_cases c34 : x40_1 < (l1_1.length : Int)
                · rw [if_pos c34] at H
                  have c34b0 : decide (x40_1 < (l1_1.length : Int)) = true := decide_eq_true c34
                  clear c34
                  by_cases c35 : x40_1 < (x295001_1.length : Int)
                  · rw [if_pos c35] at H
                    have c35b0 : decide (x40_1 < (x295001_1.length : Int)) = true := decide_eq_true c35
                    clear c35
                    replace H := Option.bind_eq_some_iff.mp H
                    obtain ⟨t297, A360, H⟩ := H
                    replace H : (bitset_combine.l0 k1 a2 l1_1 (l1_1.length : Int) (wrap64 (x40_1 + 1)) a0_0 (x295001_1.set (x40_1 : Int).toNat t297)) = some (r1, r2, r3) := H
                    have A36 := Aside0.mk A360
                    clear A360
                    obtain ⟨y298, hy298⟩ : ∃ y_ : List Int, y_ = (x295001_1.set (x40_1 : Int).toNat t297) := ⟨_, rfl⟩
                    replace H : (bitset_combine.l0 k1 a2 l1_1 (l1_1.length : Int) (wrap64 (x40_1 + 1)) a0_0 y298) = some (r1, r2, r3) := by first | (rw [hy298]; with_reducible exact H) | (have H2_ := (Option.bind_some _ _).symm.trans H; rw [hy298]; with_reducible exact H2_) | (have H2_ := (Option.bind_some _ _).symm.trans H; with_reducible exact H2_) | with_reducible exact H | (rw [hy298]; exact H) | exact H
                    have Ny298 := Aside0.mk hy298
                    clear hy298
                    have H' := Aside0.mk H
                    clear H
                    have p295 : 0 ≤ (x40_1 : Int) := of_decide_eq_true (by first | (with_reducible assumption) | assumption)
                    have q295 : x40_1 < (l1_1.length : Int) := of_decide_eq_true (by first | (with_reducible assumption) | assumption)
                    obtain ⟨ad295, e295, hx295_0⟩ := Kd.at_int HR1_1.out x40_1 p295 q295
                    cases e295
                    replace hx295_0 := (HB.out.cell (World.block_lt_of_cell? w _ hx295_0)).trans hx295_0
                    replace p295 := eq_true p295
                    replace q295 := eq_true q295
                    try go_wp2
                    have n0_ := Aside0.mk (Kd.R_drew HO_295001.out)
                    have n1_ := Aside0.mk (blk_drew BK286.out)
                    have n2_ := Aside0.mk (blk_drew BK287.out)
                    have n3_ := Aside0.mk (blk_drew BK288.out)
                    have n4_ := Aside0.mk (blk_drew BK294.out)
                    have n5_ := Aside0.mk (below_drew1 HB.out)
                    clear HO_295001
                    clear BK286
                    clear BK287
                    clear BK288
                    clear BK294
                    clear HB
                    have HO_295001 := n0_
                    have BK286 := n1_
                    have BK287 := n2_
                    have BK288 := n3_
                    have BK294 := n4_
                    have HB := n5_
                    clear n0_ n1_ n2_ n3_ n4_ n5_
                    obtain ⟨Ao39, co39, eo39⟩ := Kd.R_slice HO_295001.out
                    (first | subst eo39 | (injection eo39 with f1_ f2_ f3_; have f4_ := f1_.symm; have f5_ := f3_.symm; clear f1_ f2_ f3_; subst f4_; subst f5_))
                    have p296 : 0 ≤ (x40_1 : Int) := of_decide_eq_true (by first | (with_reducible assumption) | assumption)
                    have q296 : x40_1 < (x295001_1.length : Int) := of_decide_eq_true (by first | (with_reducible assumption) | assumption)
                    obtain ⟨ad296, e296, hx296_0⟩ := Kd.at_int (Kd.R_reads' HO_295001.out).2.2 x40_1 p296 q296
                    cases e296
                    replace p296 := eq_true p296
                    replace q296 := eq_true q296
                    refine start_ (n := 13) (S := fun w' => w'.cell? ⟨gb294, 0, none⟩ = some (.int .i64 a0_0) ∧ w'.cell? ⟨gb294, 1, none⟩ = some (.slice (some ad296) x295001_1.length co39) ∧ w'.cell? (ad296.add (x40_1).toNat) = some (.int .u64 (rd x295001_1 x40_1))) (ds := [12]) #[false, false, false, false, false, false, false, false, false, false, false, false, false] (by kernel_rfl) rfl rfl ⟨(blk_cell BK294.out 0).trans rfl, (blk_cell BK294.out 1).trans rfl, hx296_0⟩ (fun hHeld => ?_); refine with_tabW bitset_combine.tab13 bitset_combine.bits13 (fun HT_ HW_ => ?_)
                    generalize wr.drew = w38 at HO_295001 BK286 BK287 BK288 BK294 HB hx296_0 hHeld ⊢
                    refine pure_ (i := 0) (N := some 45) (v := ?_) (a' := ?_) #[true, false, false, false, false, false, false, false, false, false, false, false, false] rfl rfl (any_of HT_.out (by kernel_rfl)) (fun _ _ _ h => h) (Or.inl ⟨by rfl, ?_⟩) ?_ ?_
                    rotate_left
                    · intro w'
                      go_simp
                      with_reducible rfl
                    rotate_left
                    · simp only [Act.put, List.setIfInBounds_toArray, List.set_cons_zero, List.set_cons_succ, i64_w, i32_w]
                      rfl
                    refine pure_ (i := 2) (N := some 47) (v := ?_) (a' := ?_) #[true, false, true, false, false, false, false, false, false, false, false, false, false] rfl rfl (any_of HT_.out (by kernel_rfl)) (fun _ _ _ h => h) (Or.inl ⟨by rfl, ?_⟩) ?_ ?_
                    rotate_left
                    · intro w'
                      go_simp
                      with_reducible rfl
                    rotate_left
                    · simp only [Act.put, List.setIfInBounds_toArray, List.set_cons_zero, List.set_cons_succ, i64_w, i32_w]
                      rfl
                    refine pure_ (i := 3) (N := some 48) (v := ?_) (a' := ?_) #[true, false, true, true, false, false, false, false, false, false, false, false, false] rfl rfl (any_of HT_.out (by kernel_rfl)) (fun _ _ _ h => h) (Or.inl ⟨by rfl, ?_⟩) ?_ ?_
                    rotate_left
                    · intro w'
                      go_simp
                      with_reducible rfl
                    rotate_left
                    · simp only [Act.put, List.setIfInBounds_toArray, List.set_cons_zero, List.set_cons_succ, i64_w, i32_w]
                      rfl
                    refine pure_ (i := 4) (N := some 49) (v := ?_) (a' := ?_) #[true, false, true, true, true, false, false, false, false, false, false, false, false] rfl rfl (any_of HT_.out (by kernel_rfl)) (fun _ _ _ h => h) (Or.inl ⟨by rfl, ?_⟩) ?_ ?_
                    rotate_left
                    · intro w'
                      go_simp
                      with_reducible rfl
                    rotate_left
                    · simp only [Act.put, List.setIfInBounds_toArray, List.set_cons_zero, List.set_cons_succ, i64_w, i32_w]
                      rfl
                    refine pure_ (i := 6) (N := some 51) (v := ?_) (a' := ?_) #[true, false, true, true, true, false, true, false, false, false, false, false, false] rfl rfl (any_of HT_.out (by kernel_rfl)) (fun _ _ _ h => h) (Or.inl ⟨by rfl, ?_⟩) ?_ ?_
                    rotate_left
                    · intro w'
                      go_simp
                      with_reducible rfl
                    rotate_left
                    · simp only [Act.put, List.setIfInBounds_toArray, List.set_cons_zero, List.set_cons_succ, i64_w, i32_w]
                      rfl
                    refine pure_ (i := 9) (N := some 54) (v := ?_) (a' := ?_) #[true, false, true, true, true, false, true, false, false, true, false, false, false] rfl rfl (any_of HT_.out (by kernel_rfl)) (fun _ _ _ h => h) (Or.inl ⟨by rfl, ?_⟩) ?_ ?_
                    rotate_left
                    · intro w'
                      go_simp
                      with_reducible rfl
                    rotate_left
                    · simp only [Act.put, List.setIfInBounds_toArray, List.set_cons_zero, List.set_cons_succ, i64_w, i32_w]
                      rfl
                    refine take_ (i := 1) (N := some 46) (v := ?_) (a' := ?_) #[true, true, true, true, true, false, true, false, false, true, false, false, false] rfl rfl (take_ofW HT_.out HW_.out (by kernel_rfl)) (fun _ _ _ h => h) (Or.inl ⟨by rfl, ?_⟩) hHeld ?_ ?_
                    rotate_left
                    · rintro w' ⟨s0, s1, s2⟩
                      go_simp
                      with_reducible rfl
                    rotate_left
                    · simp only [Act.put, List.setIfInBounds_toArray, List.set_cons_zero, List.set_cons_succ, i64_w, i32_w]
                      rfl
                    refine take_ (i := 5) (N := some 50) (v := ?_) (a' := ?_) #[true, true, true, true, true, true, true, false, false, true, false, false, false] rfl rfl (take_ofW HT_.out HW_.out (by kernel_rfl)) (fun _ _ _ h => h) (Or.inl ⟨by rfl, ?_⟩) hHeld ?_ ?_
                    rotate_left
                    · rintro w' ⟨s0, s1, s2⟩
                      go_simp
                      with_reducible rfl
                    rotate_left
                    · simp only [Act.put, List.setIfInBounds_toArray, List.set_cons_zero, List.set_cons_succ, i64_w, i32_w]
                      rfl
                    refine pure_ (i := 7) (N := some 52) (v := ?_) (a' := ?_) #[true, true, true, true, true, true, true, true, false, true, false, false, false] rfl rfl (any_of HT_.out (by kernel_rfl)) (fun _ _ _ h => h) (Or.inl ⟨by rfl, ?_⟩) ?_ ?_
                    rotate_left
                    · intro w'
                      go_simp
                      with_reducible rfl
                    rotate_left
                    · simp only [Act.put, List.setIfInBounds_toArray, List.set_cons_zero, List.set_cons_succ, i64_w, i32_w]
                      rfl
                    refine take_ (i := 8) (N := some 53) (v := ?_) (a' := ?_) #[true, true, true, true, true, true, true, true, true, true, false, false, false] rfl rfl (take_ofW HT_.out HW_.out (by kernel_rfl)) (fun _ _ _ h => h) (Or.inl ⟨by rfl, ?_⟩) hHeld ?_ ?_
                    rotate_left
                    · rintro w' ⟨s0, s1, s2⟩
                      go_simp
                      with_reducible rfl
                    rotate_left
                    · simp only [Act.put, List.setIfInBounds_toArray, List.set_cons_zero, List.set_cons_succ, i64_w, i32_w]
                      rfl
                    refine one_ (i := 10) (N := some 55) #[true, true, true, true, true, true, true, true, true, true, true, false, false] rfl rfl (one_of HT_.out (by kernel_rfl)) (by decide) (fun K hK => ?_)
                    refine goesF_ (.tmp 48) HG #[.int .u64 (rd x295001_1 x40_1), .int .u64 (rd l1_1 x40_1)] (by rfl) rfl rfl rfl (by (try simp only [List.map_toArray, List.map_cons, List.map_nil]); first | done | rfl | (simp only [List.length_drop, List.length_take]; rfl)) ?_
                    with_reducible refine (HG.calls (rd x295001_1 x40_1) (rd l1_1 x40_1) t297 _ A36.out).mono ?_
                    rintro e w' ⟨rfl, ⟨nd, rfl⟩⟩
                    refine ⟨_, rfl, ?_⟩
                    have p37 : 0 ≤ (x40_1 : Int) := of_decide_eq_true (by first | (with_reducible assumption) | assumption)
                    have q37 : (x40_1 : Int) < ((x295001_1.length : Int) : Int) := of_decide_eq_true (by first | (with_reducible assumption) | assumption)
                    obtain ⟨go37, co37, eo37, gb37, gl37, cl37, HG37⟩ := Kd.R_form HO_295001.out (by omega)
                    (first | cases eo37 | (injection eo37 with ea_ en_ ec_; (first | subst ea_ | (injection ea_ with ea_; subst ea_)); subst ec_; clear en_))
                    have GB37 := Aside0.mk gb37
                    have GG37 := Aside0.mk HG37
                    clear gb37 gl37 HG37
                    (first | simp only [add_plain] at hx296_0 | skip)
                    obtain ⟨hx37_0, hf37_0⟩ := Kd.R_celln 0 HO_295001.out (x40_1 : Int) p37 q37
                    replace p37 := eq_true p37
                    replace q37 := eq_true q37
                    have HP40 := Kd.R_putn HO_295001.out (x40_1 : Int) t297
                    rw [← Ny298.out] at HP40
                    have HQ40 := Aside0.mk HP40
                    clear HP40
                    refine hK.out _ _ ⟨(blk_cell BK294.out 0).trans rfl, (blk_cell BK294.out 1).trans rfl, hHeld.2.2⟩ (fun hHeld => ?_)
                    clear hK K
                    refine norm_ (a' := ?_) ?_ ?_
                    rotate_left
                    · show Act.put _ (some 55) _ = _
                      simp only [Act.put, List.setIfInBounds_toArray, List.set_cons_zero, List.set_cons_succ, i64_w, i32_w]
                      rfl
                    refine pure_ (i := 11) (N := some 56) (v := ?_) (a' := ?_) #[true, true, true, true, true, true, true, true, true, true, true, true, false] rfl rfl (any_of HT_.out (by kernel_rfl)) (fun _ _ _ h => h) (Or.inl ⟨by rfl, ?_⟩) ?_ ?_
                    rotate_left
                    · intro w'
                      go_simp
                      with_reducible rfl
                    rotate_left
                    · simp only [Act.put, List.setIfInBounds_toArray, List.set_cons_zero, List.set_cons_succ, i64_w, i32_w]
                      rfl
                    refine last_ (i := 12) (N := none) #[true, true, true, true, true, true, true, true, true, true, true, true, true] rfl rfl (one_of HT_.out (by kernel_rfl)) (by decide) (fun K hK => ?_)
                    refine skip_ (w1 := ?_) (by rfl) rfl ?_ ?_
                    rotate_left
                    · go_simp
                      rfl
                    refine hK.out _ _ ?_
                    clear hK K
                    refine done_ (done_of HT_.out (by kernel_rfl)) ?_
                    try go_wp2
                    go_roundg k1
                    case measure => have := HK1.out; omega
                    case rel => exact ⟨(wrap64 (x40_1 + 1)), (y298), (.slice (some ⟨go37, 0, none⟩) x295001_1.length co39), (by first | rfl | (simp; done) | (simp [*]; done)), H', ⟨by have := HK1.out; omega⟩, ⟨by (with_reducible repeat (first | apply Kd.R_alloc | apply Kd.R_drewN | apply Kd.R_drew)); exact HQ40.out⟩, ⟨by (with_reducible repeat (first | refine blk_drewN ?_ _ | refine blk_drew ?_ | refine blk_alloc ?_ _)); refine blk_far ?_ (by have h_ := Kd.R_ne HO_295001.out BK286.out (by decide); intro e_; exact h_ (by rw [e_]; rfl)) _; (with_reducible repeat (first | refine blk_drewN ?_ _ | refine blk_drew ?_ | refine blk_alloc ?_ _)); exact BK286.out⟩, ⟨by (with_reducible repeat (first | refine blk_drewN ?_ _ | refine blk_drew ?_ | refine blk_alloc ?_ _)); refine blk_far ?_ (by have h_ := Kd.R_ne HO_295001.out BK287.out (by decide); intro e_; exact h_ (by rw [e_]; rfl)) _; (with_reducible repeat (first | refine blk_drewN ?_ _ | refine blk_drew ?_ | refine blk_alloc ?_ _)); exact BK287.out⟩, ⟨by (with_reducible repeat (first | refine blk_drewN ?_ _ | refine blk_drew ?_ | refine blk_alloc ?_ _)); refine blk_far ?_ (by have h_ := Kd.R_ne HO_295001.out BK288.out (by decide); intro e_; exact h_ (by rw [e_]; rfl)) _; (with_reducible repeat (first | refine blk_drewN ?_ _ | refine blk_drew ?_ | refine blk_alloc ?_ _)); exact BK288.out⟩, ⟨by (with_reducible repeat (first | refine blk_drewN ?_ _ | refine blk_drew ?_ | refine blk_alloc ?_ _)); refine blk_far ?_ (by have h_ := Kd.R_ne HO_295001.out BK294.out (by decide); intro e_; exact h_ (by rw [e_]; rfl)) _; (with_reducible repeat (first | refine blk_drewN ?_ _ | refine blk_drew ?_ | refine blk_alloc ?_ _)); exact BK294.out⟩, ⟨by repeat (first | (with_reducible first | exact HB.out | apply below_alloc | apply pw_below_drewN | apply below_drew1 | refine below_set ?_ GB37.out | refine below_set ?_ GE286.out | refine below_set ?_ GE287.out | refine below_set ?_ GE288.out | refine below_set ?_ GE294.out) | exact HB.out)⟩⟩
                  · rw [if_neg c35] at H
                    exact absurd H (by simp)
                · rw [if_neg c34] at H
                  exact absurd H (by simp)
              · rw [if_neg c33] at H
                exact absurd H (by simp)
            · rw [if_neg c32] at H
              have c32b0 : decide (x40_1 < (l1_1.length : Int)) = false := decide_eq_false c32
              clear c32
              simp only [Option.some.injEq, Prod.mk.injEq] at H
              obtain ⟨rfl, rfl, rfl⟩ := H
              have hnb41 := NB294_286.out
              have hnc41 := NB286_294.out
              have hnb42 := NB294_287.out
              have hnc42 := NB287_294.out
              have hnb43 := NB294_288.out
              have hnc43 := NB288_294.out
              have hcz44_0 : wr.cell? ⟨gb294, 0, none⟩ = some (.int .i64 a0_0) := (blk_cell BK294.out 0).trans rfl
              have hcz44_1 : wr.cell? ⟨gb294, 1, none⟩ = some (u295001) := (blk_cell BK294.out 1).trans rfl
              have hfz44_0 := blk_frozen BK294.out 0
              have hfz44_1 := blk_frozen BK294.out 1
              have hnb45 := NB288_286.out
              have hnc45 := NB286_288.out
              have hnb46 := NB288_287.out
              have hnc46 := NB287_288.out
              have hcz47_0 : wr.cell? ⟨gb288, 0, none⟩ = some (.int .i64 0) := (blk_cell BK288.out 0).trans rfl
              have hcz47_1 : wr.cell? ⟨gb288, 1, none⟩ = some (.slice none 0 0) := (blk_cell BK288.out 1).trans rfl
              have hfz47_0 := blk_frozen BK288.out 0
              have hfz47_1 := blk_frozen BK288.out 1
              obtain ⟨Ao48, co48, eo48⟩ := Kd.R_slice HO_295001.out
              subst eo48
              go_wp2
              refine bodyPost_ret (results_ct rfl _ _ gb288 24 #[.int .i64 a0_0, .slice Ao48 x295001_1.length co48] (0, 0) _ rfl (by (with_reducible repeat (first | refine blk_drewN ?_ _ | refine blk_drew ?_ | refine blk_alloc ?_ _)); refine blk_put (cs := #[.int .i64 a0_0, .slice none 0 0]) ?_ 1 _ rfl; (with_reducible repeat (first | refine blk_drewN ?_ _ | refine blk_drew ?_ | refine blk_alloc ?_ _)); refine blk_put (cs := #[.int .i64 0, .slice none 0 0]) ?_ 0 _ rfl; (with_reducible repeat (first | refine blk_drewN ?_ _ | refine blk_drew ?_ | refine blk_alloc ?_ _)); exact BK288.out) Tryd.underlying24 rfl (by kernel_rfl)) rfl ?_
              exact ⟨_, by first | rfl | (simp [errW_none, errW_some] <;> rfl) | (simp [*, errW_none, errW_some] <;> rfl), by (with_reducible repeat (first | apply Kd.R_alloc | apply Kd.R_drewN | apply Kd.R_drew)); exact Kd.R_mono (Kd.R_far (p := ⟨gb288, 1, none⟩) (Kd.R_far (p := ⟨gb288, 0, none⟩) (Kd.R_types HO_295001.out BK288.out (by decide)) (fun _ hk => hk.2) (.int .i64 a0_0)) (fun _ hk => hk.2) (.slice Ao48 x295001_1.length co48)) (fun _ hk => trivial), by repeat (first | (with_reducible first | exact HB.out | apply below_alloc | apply pw_below_drewN | apply below_drew1 | refine below_set ?_ GE286.out | refine below_set ?_ GE287.out | refine below_set ?_ GE288.out | refine below_set ?_ GE294.out) | exact HB.out)⟩
      · rw [if_neg c8] at H
        have c8b0 : (a0_0 == a1_0) = false := beq_eq_false_iff_ne.mpr c8
        have c8b1 : (a0_0 != a1_0) = true := bne_iff_ne.mpr c8
        simp only [Option.some.injEq, Prod.mk.injEq] at H
        obtain ⟨rfl, rfl, rfl⟩ := H
        go_enter Tryd.func43, Tryd.ntmps43
        go_wp2_with (first | ((with_reducible refine gate_dst (N := 3) rfl ?_); refine box_event ?hg (N := 3) ?hd (cs := #[.int .i64 a0_0, .slice A0_1 l0_1.length c0_1]) (t := 24) ?hr ?_; (case hd => rfl); (case hg => rfl); (case hr => first | (go_simp; done) | (go_simp; rfl)); intro gb286 hg w49 hbox hb; have n0_ := Aside0.mk (below_step (by repeat (first | (with_reducible first | exact HB.out | apply below_alloc | apply pw_below_drewN | apply below_drew1) | exact HB.out)) hb); have n1_ := Aside0.mk (hbox); have n2_ := Aside0.mk ((by rw [hg]; exact (below_size (by repeat (first | (with_reducible first | exact HB.out | apply below_alloc | apply pw_below_drewN | apply below_drew1) | exact HB.out))) : w.heap.size ≤ gb286)); have n3_ := Aside0.mk ((by rw [hg]; exact (below_size (by repeat (first | (with_reducible first | exact HB.out | apply below_alloc | apply pw_below_drewN | apply below_drew1) | exact HB.out))) : w.heap.size ≤ gb286)); clear HB; have HB := n0_; have BK286 := n1_; have GW286 := n2_; have GE286 := n3_; clear n0_ n1_ n2_ n3_; clear hb hbox hg) | ((with_reducible refine gate_dst (N := 4) rfl ?_); refine box_event ?hg (N := 4) ?hd (cs := #[.int .i64 a1_0, .slice A1_1 l1_1.length c1_1]) (t := 24) ?hr ?_; (case hd => rfl); (case hg => rfl); (case hr => first | (go_simp; done) | (go_simp; rfl)); intro gb287 hg w50 hbox hb; have n0_ := Aside0.mk (blk_below (g := gb286) (o := .cells #[.int .i64 a0_0, .slice A0_1 l0_1.length c0_1] 24 (0, 0)) (by (with_reducible repeat (first | refine blk_drewN ?_ _ | refine blk_drew ?_ | refine blk_alloc ?_ _)); exact BK286.out) hb); have n1_ := Aside0.mk (below_step (by repeat (first | (with_reducible first | exact HB.out | apply below_alloc | apply pw_below_drewN | apply below_drew1 | refine below_set ?_ GE286.out) | exact HB.out)) hb); have n2_ := Aside0.mk (hbox); have n3_ := Aside0.mk ((by rw [hg]; exact (below_size (by repeat (first | (with_reducible first | exact HB.out | apply below_alloc | apply pw_below_drewN | apply below_drew1 | refine below_set ?_ GE286.out) | exact HB.out))) : w.heap.size ≤ gb287)); have n4_ := Aside0.mk ((by rw [hg]; exact (below_size (by repeat (first | (with_reducible first | exact HB.out | apply below_alloc | apply pw_below_drewN | apply below_drew1 | refine below_set ?_ GE286.out) | exact HB.out))) : w.heap.size ≤ gb287)); have n5_ := Aside0.mk ((by rw [hg]; exact Nat.ne_of_lt (blk_lt (g := gb286) (o := .cells #[.int .i64 a0_0, .slice A0_1 l0_1.length c0_1] 24 (0, 0)) (by (with_reducible repeat (first | refine blk_drewN ?_ _ | refine blk_drew ?_ | refine blk_alloc ?_ _)); exact BK286.out)) : gb286 ≠ gb287)); have n6_ := Aside0.mk ((by rw [hg]; exact Nat.ne_of_gt (blk_lt (g := gb286) (o := .cells #[.int .i64 a0_0, .slice A0_1 l0_1.length c0_1] 24 (0, 0)) (by (with_reducible repeat (first | refine blk_drewN ?_ _ | refine blk_drew ?_ | refine blk_alloc ?_ _)); exact BK286.out)) : gb287 ≠ gb286)); clear BK286; clear HB; have BK286 := n0_; have HB := n1_; have BK287 := n2_; have GW287 := n3_; have GE287 := n4_; have NB286_287 := n5_; have NB287_286 := n6_; clear n0_ n1_ n2_ n3_ n4_ n5_ n6_; clear hb hbox hg) | ((with_reducible refine gate_dst (N := 6) rfl ?_); refine box_event ?hg (N := 6) ?hd (cs := #[.int .i64 0, .slice none 0 0]) (t := 24) ?hr ?_; (case hd => rfl); (case hg => rfl); (case hr => first | (go_simp; done) | (go_simp; rfl)); intro gb288 hg w51 hbox hb; have n0_ := Aside0.mk (blk_below (g := gb286) (o := .cells #[.int .i64 a0_0, .slice A0_1 l0_1.length c0_1] 24 (0, 0)) (by (with_reducible repeat (first | refine blk_drewN ?_ _ | refine blk_drew ?_ | refine blk_alloc ?_ _)); exact BK286.out) hb); have n1_ := Aside0.mk (blk_below (g := gb287) (o := .cells #[.int .i64 a1_0, .slice A1_1 l1_1.length c1_1] 24 (0, 0)) (by (with_reducible repeat (first | refine blk_drewN ?_ _ | refine blk_drew ?_ | refine blk_alloc ?_ _)); exact BK287.out) hb); have n2_ := Aside0.mk (below_step (by repeat (first | (with_reducible first | exact HB.out | apply below_alloc | apply pw_below_drewN | apply below_drew1 | refine below_set ?_ GE286.out | refine below_set ?_ GE287.out) | exact HB.out)) hb); have n3_ := Aside0.mk (hbox); have n4_ := Aside0.mk ((by rw [hg]; exact (below_size (by repeat (first | (with_reducible first | exact HB.out | apply below_alloc | apply pw_below_drewN | apply below_drew1 | refine below_set ?_ GE286.out | refine below_set ?_ GE287.out) | exact HB.out))) : w.heap.size ≤ gb288)); have n5_ := Aside0.mk ((by rw [hg]; exact (below_size (by repeat (first | (with_reducible first | exact HB.out | apply below_alloc | apply pw_below_drewN | apply below_drew1 | refine below_set ?_ GE286.out | refine below_set ?_ GE287.out) | exact HB.out))) : w.heap.size ≤ gb288)); have n6_ := Aside0.mk ((by rw [hg]; exact Nat.ne_of_lt (blk_lt (g := gb286) (o := .cells #[.int .i64 a0_0, .slice A0_1 l0_1.length c0_1] 24 (0, 0)) (by (with_reducible repeat (first | refine blk_drewN ?_ _ | refine blk_drew ?_ | refine blk_alloc ?_ _)); exact BK286.out)) : gb286 ≠ gb288)); have n7_ := Aside0.mk ((by rw [hg]; exact Nat.ne_of_gt (blk_lt (g := gb286) (o := .cells #[.int .i64 a0_0, .slice A0_1 l0_1.length c0_1] 24 (0, 0)) (by (with_reducible repeat (first | refine blk_drewN ?_ _ | refine blk_drew ?_ | refine blk_alloc ?_ _)); exact BK286.out)) : gb288 ≠ gb286)); have n8_ := Aside0.mk ((by rw [hg]; exact Nat.ne_of_lt (blk_lt (g := gb287) (o := .cells #[.int .i64 a1_0, .slice A1_1 l1_1.length c1_1] 24 (0, 0)) (by (with_reducible repeat (first | refine blk_drewN ?_ _ | refine blk_drew ?_ | refine blk_alloc ?_ _)); exact BK287.out)) : gb287 ≠ gb288)); have n9_ := Aside0.mk ((by rw [hg]; exact Nat.ne_of_gt (blk_lt (g := gb287) (o := .cells #[.int .i64 a1_0, .slice A1_1 l1_1.length c1_1] 24 (0, 0)) (by (with_reducible repeat (first | refine blk_drewN ?_ _ | refine blk_drew ?_ | refine blk_alloc ?_ _)); exact BK287.out)) : gb288 ≠ gb287)); clear BK286; clear BK287; clear HB; have BK286 := n0_; have BK287 := n1_; have HB := n2_; have BK288 := n3_; have GW288 := n4_; have GE288 := n5_; have NB286_288 := n6_; have NB288_286 := n7_; have NB287_288 := n8_; have NB288_287 := n9_; clear n0_ n1_ n2_ n3_ n4_ n5_ n6_ n7_ n8_ n9_; clear hb hbox hg; have hnb52 := NB286_287.out; have hnc52 := NB287_286.out; have hnb53 := NB286_288.out; have hnc53 := NB288_286.out; have hcz54_0 : w51.cell? ⟨gb286, 0, none⟩ = some (.int .i64 a0_0) := (blk_cell BK286.out 0).trans rfl; have hcz54_1 : w51.cell? ⟨gb286, 1, none⟩ = some (.slice A0_1 l0_1.length c0_1) := (blk_cell BK286.out 1).trans rfl; have hfz54_0 := blk_frozen BK286.out 0; have hfz54_1 := blk_frozen BK286.out 1) | ((with_reducible refine gate_callee (f := 14) rfl ?_); refine goesL_ (some 14) rfl rfl Tryd.func14 (by kernel_rfl) rfl #[.agg #[.int .i64 a0_0, .slice A0_1 l0_1.length c0_1]] rfl (by (try simp only [List.map_toArray, List.map_cons, List.map_nil]); first | done | rfl | (simp only [List.length_drop, List.length_take]; rfl)) ?_; (with_reducible refine (bitset_Check.calls k a0_0 _ _ l0_1 t289 _ ?side1 ?side2 A4.out).mono ?_); (case side1 => repeat (first | exact (Kd.C_below HR0_1.out HB.out) | (with_reducible refine Kd.C_alloc ?_ _) | (with_reducible refine Kd.C_drewN ?_ _) | (with_reducible refine Kd.C_drew ?_))); (case side2 => exact HC0_1.out); rintro e w55 ⟨rfl, hb⟩; refine ⟨_, rfl, ?_⟩; have n0_ := Aside0.mk (blk_below (g := gb286) (o := .cells #[.int .i64 a0_0, .slice A0_1 l0_1.length c0_1] 24 (0, 0)) (by (with_reducible repeat (first | refine blk_drewN ?_ _ | refine blk_drew ?_ | refine blk_alloc ?_ _)); exact BK286.out) hb); have n1_ := Aside0.mk (blk_below (g := gb287) (o := .cells #[.int .i64 a1_0, .slice A1_1 l1_1.length c1_1] 24 (0, 0)) (by (with_reducible repeat (first | refine blk_drewN ?_ _ | refine blk_drew ?_ | refine blk_alloc ?_ _)); exact BK287.out) hb); have n2_ := Aside0.mk (blk_below (g := gb288) (o := .cells #[.int .i64 0, .slice none 0 0] 24 (0, 0)) (by (with_reducible repeat (first | refine blk_drewN ?_ _ | refine blk_drew ?_ | refine blk_alloc ?_ _)); exact BK288.out) hb); have n3_ := Aside0.mk (below_step (by repeat (first | (with_reducible first | exact HB.out | apply below_alloc | apply pw_below_drewN | apply below_drew1 | refine below_set ?_ GE286.out | refine below_set ?_ GE287.out | refine below_set ?_ GE288.out) | exact HB.out)) hb); clear BK286; clear BK287; clear BK288; clear HB; have BK286 := n0_; have BK287 := n1_; have BK288 := n2_; have HB := n3_; clear n0_ n1_ n2_ n3_; (try clear hb); (try clear hb2); (try clear hk); (try clear hi); have hnb56 := NB287_288.out; have hnc56 := NB288_287.out; have hcz57_0 : w55.cell? ⟨gb287, 0, none⟩ = some (.int .i64 a1_0) := (blk_cell BK287.out 0).trans rfl; have hcz57_1 : w55.cell? ⟨gb287, 1, none⟩ = some (.slice A1_1 l1_1.length c1_1) := (blk_cell BK287.out 1).trans rfl; have hfz57_0 := blk_frozen BK287.out 0; have hfz57_1 := blk_frozen BK287.out 1) | ((with_reducible refine gate_callee (f := 14) rfl ?_); refine goesL_ (some 20) rfl rfl Tryd.func14 (by kernel_rfl) rfl #[.agg #[.int .i64 a1_0, .slice A1_1 l1_1.length c1_1]] rfl (by (try simp only [List.map_toArray, List.map_cons, List.map_nil]); first | done | rfl | (simp only [List.length_drop, List.length_take]; rfl)) ?_; (with_reducible refine (bitset_Check.calls k a1_0 _ _ l1_1 t290 _ ?side1 ?side2 A6.out).mono ?_); (case side1 => repeat (first | exact (Kd.C_below HR1_1.out HB.out) | (with_reducible refine Kd.C_alloc ?_ _) | (with_reducible refine Kd.C_drewN ?_ _) | (with_reducible refine Kd.C_drew ?_))); (case side2 => exact HC1_1.out); rintro e w58 ⟨rfl, hb⟩; refine ⟨_, rfl, ?_⟩; have n0_ := Aside0.mk (blk_below (g := gb286) (o := .cells #[.int .i64 a0_0, .slice A0_1 l0_1.length c0_1] 24 (0, 0)) (by (with_reducible repeat (first | refine blk_drewN ?_ _ | refine blk_drew ?_ | refine blk_alloc ?_ _)); exact BK286.out) hb); have n1_ := Aside0.mk (blk_below (g := gb287) (o := .cells #[.int .i64 a1_0, .slice A1_1 l1_1.length c1_1] 24 (0, 0)) (by (with_reducible repeat (first | refine blk_drewN ?_ _ | refine blk_drew ?_ | refine blk_alloc ?_ _)); exact BK287.out) hb); have n2_ := Aside0.mk (blk_below (g := gb288) (o := .cells #[.int .i64 0, .slice none 0 0] 24 (0, 0)) (by (with_reducible repeat (first | refine blk_drewN ?_ _ | refine blk_drew ?_ | refine blk_alloc ?_ _)); exact BK288.out) hb); have n3_ := Aside0.mk (below_step (by repeat (first | (with_reducible first | exact HB.out | apply below_alloc | apply pw_below_drewN | apply below_drew1 | refine below_set ?_ GE286.out | refine below_set ?_ GE287.out | refine below_set ?_ GE288.out) | exact HB.out)) hb); clear BK286; clear BK287; clear BK288; clear HB; have BK286 := n0_; have BK287 := n1_; have BK288 := n2_; have HB := n3_; clear n0_ n1_ n2_ n3_; (try clear hb); (try clear hb2); (try clear hk); (try clear hi); have hcz59_0 : w58.cell? ⟨gb286, 0, none⟩ = some (.int .i64 a0_0) := (blk_cell BK286.out 0).trans rfl; have hcz59_1 : w58.cell? ⟨gb286, 1, none⟩ = some (.slice A0_1 l0_1.length c0_1) := (blk_cell BK286.out 1).trans rfl; have hfz59_0 := blk_frozen BK286.out 0; have hfz59_1 := blk_frozen BK286.out 1; have hcz60_0 : w58.cell? ⟨gb287, 0, none⟩ = some (.int .i64 a1_0) := (blk_cell BK287.out 0).trans rfl; have hcz60_1 : w58.cell? ⟨gb287, 1, none⟩ = some (.slice A1_1 l1_1.length c1_1) := (blk_cell BK287.out 1).trans rfl; have hfz60_0 := blk_frozen BK287.out 0; have hfz60_1 := blk_frozen BK287.out 1; have hcz61_0 : w58.cell? ⟨gb288, 0, none⟩ = some (.int .i64 0) := (blk_cell BK288.out 0).trans rfl; have hcz61_1 : w58.cell? ⟨gb288, 1, none⟩ = some (.slice none 0 0) := (blk_cell BK288.out 1).trans rfl; have hfz61_0 := blk_frozen BK288.out 0; have hfz61_1 := blk_frozen BK288.out 1))
        refine bodyPost_ret (results_ct rfl _ _ gb288 24 #[.int .i64 0, .slice none 0 0] (0, 0) _ rfl (by (with_reducible repeat (first | refine blk_drewN ?_ _ | refine blk_drew ?_ | refine blk_alloc ?_ _)); refine blk_put (cs := #[.int .i64 0, .slice none 0 0]) ?_ 1 _ rfl; (with_reducible repeat (first | refine blk_drewN ?_ _ | refine blk_drew ?_ | refine blk_alloc ?_ _)); refine blk_put (cs := #[.int .i64 0, .slice none 0 0]) ?_ 0 _ rfl; (with_reducible repeat (first | refine blk_drewN ?_ _ | refine blk_drew ?_ | refine blk_alloc ?_ _)); exact BK288.out) Tryd.underlying24 rfl (by kernel_rfl)) rfl ?_
        exact ⟨_, by first | rfl | (simp [errW_none, errW_some] <;> rfl) | (simp [*, errW_none, errW_some] <;> rfl), by first | exact Kd.R_nil _ _ _ _ _ | exact Kd.N_nil _ _ _ _ _ | exact Kd.V_nil _ _ _ _ _ | exact Kd.Q_nil _ _ _ _ _ | exact Kd.S_nil _ _ _ _ _, by repeat (first | (with_reducible first | exact HB.out | apply below_alloc | apply pw_below_drewN | apply below_drew1 | refine below_set ?_ GE286.out | refine below_set ?_ GE287.out | refine below_set ?_ GE288.out) | exact HB.out)⟩
    · rw [if_neg c7] at H
      have c7b0 : (t290 == 0) = false := beq_eq_false_iff_ne.mpr c7
      have c7b1 : (t290 != 0) = true := bne_iff_ne.mpr c7
      simp only [Option.some.injEq, Prod.mk.injEq] at H
      obtain ⟨rfl, rfl, rfl⟩ := H
      go_enter Tryd.func43, Tryd.ntmps43
      go_wp2_with (first | ((with_reducible refine gate_dst (N := 3) rfl ?_); refine box_event ?hg (N := 3) ?hd (cs := #[.int .i64 a0_0, .slice A0_1 l0_1.length c0_1]) (t := 24) ?hr ?_; (case hd => rfl); (case hg => rfl); (case hr => first | (go_simp; done) | (go_simp; rfl)); intro gb286 hg w62 hbox hb; have n0_ := Aside0.mk (below_step (by repeat (first | (with_reducible first | exact HB.out | apply below_alloc | apply pw_below_drewN | apply below_drew1) | exact HB.out)) hb); have n1_ := Aside0.mk (hbox); have n2_ := Aside0.mk ((by rw [hg]; exact (below_size (by repeat (first | (with_reducible first | exact HB.out | apply below_alloc | apply pw_below_drewN | apply below_drew1) | exact HB.out))) : w.heap.size ≤ gb286)); have n3_ := Aside0.mk ((by rw [hg]; exact (below_size (by repeat (first | (with_reducible first | exact HB.out | apply below_alloc | apply pw_below_drewN | apply below_drew1) | exact HB.out))) : w.heap.size ≤ gb286)); clear HB; have HB := n0_; have BK286 := n1_; have GW286 := n2_; have GE286 := n3_; clear n0_ n1_ n2_ n3_; clear hb hbox hg) | ((with_reducible refine gate_dst (N := 4) rfl ?_); refine box_event ?hg (N := 4) ?hd (cs := #[.int .i64 a1_0, .slice A1_1 l1_1.length c1_1]) (t := 24) ?hr ?_; (case hd => rfl); (case hg => rfl); (case hr => first | (go_simp; done) | (go_simp; rfl)); intro gb287 hg w63 hbox hb; have n0_ := Aside0.mk (blk_below (g := gb286) (o := .cells #[.int .i64 a0_0, .slice A0_1 l0_1.length c0_1] 24 (0, 0)) (by (with_reducible repeat (first | refine blk_drewN ?_ _ | refine blk_drew ?_ | refine blk_alloc ?_ _)); exact BK286.out) hb); have n1_ := Aside0.mk (below_step (by repeat (first | (with_reducible first | exact HB.out | apply below_alloc | apply pw_below_drewN | apply below_drew1 | refine below_set ?_ GE286.out) | exact HB.out)) hb); have n2_ := Aside0.mk (hbox); have n3_ := Aside0.mk ((by rw [hg]; exact (below_size (by repeat (first | (with_reducible first | exact HB.out | apply below_alloc | apply pw_below_drewN | apply below_drew1 | refine below_set ?_ GE286.out) | exact HB.out))) : w.heap.size ≤ gb287)); have n4_ := Aside0.mk ((by rw [hg]; exact (below_size (by repeat (first | (with_reducible first | exact HB.out | apply below_alloc | apply pw_below_drewN | apply below_drew1 | refine below_set ?_ GE286.out) | exact HB.out))) : w.heap.size ≤ gb287)); have n5_ := Aside0.mk ((by rw [hg]; exact Nat.ne_of_lt (blk_lt (g := gb286) (o := .cells #[.int .i64 a0_0, .slice A0_1 l0_1.length c0_1] 24 (0, 0)) (by (with_reducible repeat (first | refine blk_drewN ?_ _ | refine blk_drew ?_ | refine blk_alloc ?_ _)); exact BK286.out)) : gb286 ≠ gb287)); have n6_ := Aside0.mk ((by rw [hg]; exact Nat.ne_of_gt (blk_lt (g := gb286) (o := .cells #[.int .i64 a0_0, .slice A0_1 l0_1.length c0_1] 24 (0, 0)) (by (with_reducible repeat (first | refine blk_drewN ?_ _ | refine blk_drew ?_ | refine blk_alloc ?_ _)); exact BK286.out)) : gb287 ≠ gb286)); clear BK286; clear HB; have BK286 := n0_; have HB := n1_; have BK287 := n2_; have GW287 := n3_; have GE287 := n4_; have NB286_287 := n5_; have NB287_286 := n6_; clear n0_ n1_ n2_ n3_ n4_ n5_ n6_; clear hb hbox hg) | ((with_reducible refine gate_dst (N := 6) rfl ?_); refine box_event ?hg (N := 6) ?hd (cs := #[.int .i64 0, .slice none 0 0]) (t := 24) ?hr ?_; (case hd => rfl); (case hg => rfl); (case hr => first | (go_simp; done) | (go_simp; rfl)); intro gb288 hg w64 hbox hb; have n0_ := Aside0.mk (blk_below (g := gb286) (o := .cells #[.int .i64 a0_0, .slice A0_1 l0_1.length c0_1] 24 (0, 0)) (by (with_reducible repeat (first | refine blk_drewN ?_ _ | refine blk_drew ?_ | refine blk_alloc ?_ _)); exact BK286.out) hb); have n1_ := Aside0.mk (blk_below (g := gb287) (o := .cells #[.int .i64 a1_0, .slice A1_1 l1_1.length c1_1] 24 (0, 0)) (by (with_reducible repeat (first | refine blk_drewN ?_ _ | refine blk_drew ?_ | refine blk_alloc ?_ _)); exact BK287.out) hb); have n2_ := Aside0.mk (below_step (by repeat (first | (with_reducible first | exact HB.out | apply below_alloc | apply pw_below_drewN | apply below_drew1 | refine below_set ?_ GE286.out | refine below_set ?_ GE287.out) | exact HB.out)) hb); have n3_ := Aside0.mk (hbox); have n4_ := Aside0.mk ((by rw [hg]; exact (below_size (by repeat (first | (with_reducible first | exact HB.out | apply below_alloc | apply pw_below_drewN | apply below_drew1 | refine below_set ?_ GE286.out | refine below_set ?_ GE287.out) | exact HB.out))) : w.heap.size ≤ gb288)); have n5_ := Aside0.mk ((by rw [hg]; exact (below_size (by repeat (first | (with_reducible first | exact HB.out | apply below_alloc | apply pw_below_drewN | apply below_drew1 | refine below_set ?_ GE286.out | refine below_set ?_ GE287.out) | exact HB.out))) : w.heap.size ≤ gb288)); have n6_ := Aside0.mk ((by rw [hg]; exact Nat.ne_of_lt (blk_lt (g := gb286) (o := .cells #[.int .i64 a0_0, .slice A0_1 l0_1.length c0_1] 24 (0, 0)) (by (with_reducible repeat (first | refine blk_drewN ?_ _ | refine blk_drew ?_ | refine blk_alloc ?_ _)); exact BK286.out)) : gb286 ≠ gb288)); have n7_ := Aside0.mk ((by rw [hg]; exact Nat.ne_of_gt (blk_lt (g := gb286) (o := .cells #[.int .i64 a0_0, .slice A0_1 l0_1.length c0_1] 24 (0, 0)) (by (with_reducible repeat (first | refine blk_drewN ?_ _ | refine blk_drew ?_ | refine blk_alloc ?_ _)); exact BK286.out)) : gb288 ≠ gb286)); have n8_ := Aside0.mk ((by rw [hg]; exact Nat.ne_of_lt (blk_lt (g := gb287) (o := .cells #[.int .i64 a1_0, .slice A1_1 l1_1.length c1_1] 24 (0, 0)) (by (with_reducible repeat (first | refine blk_drewN ?_ _ | refine blk_drew ?_ | refine blk_alloc ?_ _)); exact BK287.out)) : gb287 ≠ gb288)); have n9_ := Aside0.mk ((by rw [hg]; exact Nat.ne_of_gt (blk_lt (g := gb287) (o := .cells #[.int .i64 a1_0, .slice A1_1 l1_1.length c1_1] 24 (0, 0)) (by (with_reducible repeat (first | refine blk_drewN ?_ _ | refine blk_drew ?_ | refine blk_alloc ?_ _)); exact BK287.out)) : gb288 ≠ gb287)); clear BK286; clear BK287; clear HB; have BK286 := n0_; have BK287 := n1_; have HB := n2_; have BK288 := n3_; have GW288 := n4_; have GE288 := n5_; have NB286_288 := n6_; have NB288_286 := n7_; have NB287_288 := n8_; have NB288_287 := n9_; clear n0_ n1_ n2_ n3_ n4_ n5_ n6_ n7_ n8_ n9_; clear hb hbox hg; have hnb65 := NB286_287.out; have hnc65 := NB287_286.out; have hnb66 := NB286_288.out; have hnc66 := NB288_286.out; have hcz67_0 : w64.cell? ⟨gb286, 0, none⟩ = some (.int .i64 a0_0) := (blk_cell BK286.out 0).trans rfl; have hcz67_1 : w64.cell? ⟨gb286, 1, none⟩ = some (.slice A0_1 l0_1.length c0_1) := (blk_cell BK286.out 1).trans rfl; have hfz67_0 := blk_frozen BK286.out 0; have hfz67_1 := blk_frozen BK286.out 1) | ((with_reducible refine gate_callee (f := 14) rfl ?_); refine goesL_ (some 14) rfl rfl Tryd.func14 (by kernel_rfl) rfl #[.agg #[.int .i64 a0_0, .slice A0_1 l0_1.length c0_1]] rfl (by (try simp only [List.map_toArray, List.map_cons, List.map_nil]); first | done | rfl | (simp only [List.length_drop, List.length_take]; rfl)) ?_; (with_reducible refine (bitset_Check.calls k a0_0 _ _ l0_1 t289 _ ?side1 ?side2 A4.out).mono ?_); (case side1 => repeat (first | exact (Kd.C_below HR0_1.out HB.out) | (with_reducible refine Kd.C_alloc ?_ _) | (with_reducible refine Kd.C_drewN ?_ _) | (with_reducible refine Kd.C_drew ?_))); (case side2 => exact HC0_1.out); rintro e w68 ⟨rfl, hb⟩; refine ⟨_, rfl, ?_⟩; have n0_ := Aside0.mk (blk_below (g := gb286) (o := .cells #[.int .i64 a0_0, .slice A0_1 l0_1.length c0_1] 24 (0, 0)) (by (with_reducible repeat (first | refine blk_drewN ?_ _ | refine blk_drew ?_ | refine blk_alloc ?_ _)); exact BK286.out) hb); have n1_ := Aside0.mk (blk_below (g := gb287) (o := .cells #[.int .i64 a1_0, .slice A1_1 l1_1.length c1_1] 24 (0, 0)) (by (with_reducible repeat (first | refine blk_drewN ?_ _ | refine blk_drew ?_ | refine blk_alloc ?_ _)); exact BK287.out) hb); have n2_ := Aside0.mk (blk_below (g := gb288) (o := .cells #[.int .i64 0, .slice none 0 0] 24 (0, 0)) (by (with_reducible repeat (first | refine blk_drewN ?_ _ | refine blk_drew ?_ | refine blk_alloc ?_ _)); exact BK288.out) hb); have n3_ := Aside0.mk (below_step (by repeat (first | (with_reducible first | exact HB.out | apply below_alloc | apply pw_below_drewN | apply below_drew1 | refine below_set ?_ GE286.out | refine below_set ?_ GE287.out | refine below_set ?_ GE288.out) | exact HB.out)) hb); clear BK286; clear BK287; clear BK288; clear HB; have BK286 := n0_; have BK287 := n1_; have BK288 := n2_; have HB := n3_; clear n0_ n1_ n2_ n3_; (try clear hb); (try clear hb2); (try clear hk); (try clear hi); have hnb69 := NB287_288.out; have hnc69 := NB288_287.out; have hcz70_0 : w68.cell? ⟨gb287, 0, none⟩ = some (.int .i64 a1_0) := (blk_cell BK287.out 0).trans rfl; have hcz70_1 : w68.cell? ⟨gb287, 1, none⟩ = some (.slice A1_1 l1_1.length c1_1) := (blk_cell BK287.out 1).trans rfl; have hfz70_0 := blk_frozen BK287.out 0; have hfz70_1 := blk_frozen BK287.out 1) | ((with_reducible refine gate_callee (f := 14) rfl ?_); refine goesL_ (some 20) rfl rfl Tryd.func14 (by kernel_rfl) rfl #[.agg #[.int .i64 a1_0, .slice A1_1 l1_1.length c1_1]] rfl (by (try simp only [List.map_toArray, List.map_cons, List.map_nil]); first | done | rfl | (simp only [List.length_drop, List.length_take]; rfl)) ?_; (with_reducible refine (bitset_Check.calls k a1_0 _ _ l1_1 t290 _ ?side1 ?side2 A6.out).mono ?_); (case side1 => repeat (first | exact (Kd.C_below HR1_1.out HB.out) | (with_reducible refine Kd.C_alloc ?_ _) | (with_reducible refine Kd.C_drewN ?_ _) | (with_reducible refine Kd.C_drew ?_))); (case side2 => exact HC1_1.out); rintro e w71 ⟨rfl, hb⟩; refine ⟨_, rfl, ?_⟩; have n0_ := Aside0.mk (blk_below (g := gb286) (o := .cells #[.int .i64 a0_0, .slice A0_1 l0_1.length c0_1] 24 (0, 0)) (by (with_reducible repeat (first | refine blk_drewN ?_ _ | refine blk_drew ?_ | refine blk_alloc ?_ _)); exact BK286.out) hb); have n1_ := Aside0.mk (blk_below (g := gb287) (o := .cells #[.int .i64 a1_0, .slice A1_1 l1_1.length c1_1] 24 (0, 0)) (by (with_reducible repeat (first | refine blk_drewN ?_ _ | refine blk_drew ?_ | refine blk_alloc ?_ _)); exact BK287.out) hb); have n2_ := Aside0.mk (blk_below (g := gb288) (o := .cells #[.int .i64 0, .slice none 0 0] 24 (0, 0)) (by (with_reducible repeat (first | refine blk_drewN ?_ _ | refine blk_drew ?_ | refine blk_alloc ?_ _)); exact BK288.out) hb); have n3_ := Aside0.mk (below_step (by repeat (first | (with_reducible first | exact HB.out | apply below_alloc | apply pw_below_drewN | apply below_drew1 | refine below_set ?_ GE286.out | refine below_set ?_ GE287.out | refine below_set ?_ GE288.out) | exact HB.out)) hb); clear BK286; clear BK287; clear BK288; clear HB; have BK286 := n0_; have BK287 := n1_; have BK288 := n2_; have HB := n3_; clear n0_ n1_ n2_ n3_; (try clear hb); (try clear hb2); (try clear hk); (try clear hi); have hcz72_0 : w71.cell? ⟨gb288, 0, none⟩ = some (.int .i64 0) := (blk_cell BK288.out 0).trans rfl; have hcz72_1 : w71.cell? ⟨gb288, 1, none⟩ = some (.slice none 0 0) := (blk_cell BK288.out 1).trans rfl; have hfz72_0 := blk_frozen BK288.out 0; have hfz72_1 := blk_frozen BK288.out 1))
      refine bodyPost_ret (results_ct rfl _ _ gb288 24 #[.int .i64 0, .slice none 0 0] (0, 0) _ rfl (by (with_reducible repeat (first | refine blk_drewN ?_ _ | refine blk_drew ?_ | refine blk_alloc ?_ _)); refine blk_put (cs := #[.int .i64 0, .slice none 0 0]) ?_ 1 _ rfl; (with_reducible repeat (first | refine blk_drewN ?_ _ | refine blk_drew ?_ | refine blk_alloc ?_ _)); refine blk_put (cs := #[.int .i64 0, .slice none 0 0]) ?_ 0 _ rfl; (with_reducible repeat (first | refine blk_drewN ?_ _ | refine blk_drew ?_ | refine blk_alloc ?_ _)); exact BK288.out) Tryd.underlying24 rfl (by kernel_rfl)) rfl ?_
      exact ⟨_, by first | rfl | (simp [errW_none, errW_some] <;> rfl) | (simp [*, errW_none, errW_some] <;> rfl), by first | exact Kd.R_nil _ _ _ _ _ | exact Kd.N_nil _ _ _ _ _ | exact Kd.V_nil _ _ _ _ _ | exact Kd.Q_nil _ _ _ _ _ | exact Kd.S_nil _ _ _ _ _, by repeat (first | (with_reducible first | exact HB.out | apply below_alloc | apply pw_below_drewN | apply below_drew1 | refine below_set ?_ GE286.out | refine below_set ?_ GE287.out | refine below_set ?_ GE288.out) | exact HB.out)⟩
  · rw [if_neg c5] at H
    have c5b0 : (t289 == 0) = false := beq_eq_false_iff_ne.mpr c5
    have c5b1 : (t289 != 0) = true := bne_iff_ne.mpr c5
    simp only [Option.some.injEq, Prod.mk.injEq] at H
    obtain ⟨rfl, rfl, rfl⟩ := H
    go_enter Tryd.func43, Tryd.ntmps43
    go_wp2_with (first | ((with_reducible refine gate_dst (N := 3) rfl ?_); refine box_event ?hg (N := 3) ?hd (cs := #[.int .i64 a0_0, .slice A0_1 l0_1.length c0_1]) (t := 24) ?hr ?_; (case hd => rfl); (case hg => rfl); (case hr => first | (go_simp; done) | (go_simp; rfl)); intro gb286 hg w73 hbox hb; have n0_ := Aside0.mk (below_step (by repeat (first | (with_reducible first | exact HB.out | apply below_alloc | apply pw_below_drewN | apply below_drew1) | exact HB.out)) hb); have n1_ := Aside0.mk (hbox); have n2_ := Aside0.mk ((by rw [hg]; exact (below_size (by repeat (first | (with_reducible first | exact HB.out | apply below_alloc | apply pw_below_drewN | apply below_drew1) | exact HB.out))) : w.heap.size ≤ gb286)); have n3_ := Aside0.mk ((by rw [hg]; exact (below_size (by repeat (first | (with_reducible first | exact HB.out | apply below_alloc | apply pw_below_drewN | apply below_drew1) | exact HB.out))) : w.heap.size ≤ gb286)); clear HB; have HB := n0_; have BK286 := n1_; have GW286 := n2_; have GE286 := n3_; clear n0_ n1_ n2_ n3_; clear hb hbox hg) | ((with_reducible refine gate_dst (N := 4) rfl ?_); refine box_event ?hg (N := 4) ?hd (cs := #[.int .i64 a1_0, .slice A1_1 l1_1.length c1_1]) (t := 24) ?hr ?_; (case hd => rfl); (case hg => rfl); (case hr => first | (go_simp; done) | (go_simp; rfl)); intro gb287 hg w74 hbox hb; have n0_ := Aside0.mk (blk_below (g := gb286) (o := .cells #[.int .i64 a0_0, .slice A0_1 l0_1.length c0_1] 24 (0, 0)) (by (with_reducible repeat (first | refine blk_drewN ?_ _ | refine blk_drew ?_ | refine blk_alloc ?_ _)); exact BK286.out) hb); have n1_ := Aside0.mk (below_step (by repeat (first | (with_reducible first | exact HB.out | apply below_alloc | apply pw_below_drewN | apply below_drew1 | refine below_set ?_ GE286.out) | exact HB.out)) hb); have n2_ := Aside0.mk (hbox); have n3_ := Aside0.mk ((by rw [hg]; exact (below_size (by repeat (first | (with_reducible first | exact HB.out | apply below_alloc | apply pw_below_drewN | apply below_drew1 | refine below_set ?_ GE286.out) | exact HB.out))) : w.heap.size ≤ gb287)); have n4_ := Aside0.mk ((by rw [hg]; exact (below_size (by repeat (first | (with_reducible first | exact HB.out | apply below_alloc | apply pw_below_drewN | apply below_drew1 | refine below_set ?_ GE286.out) | exact HB.out))) : w.heap.size ≤ gb287)); have n5_ := Aside0.mk ((by rw [hg]; exact Nat.ne_of_lt (blk_lt (g := gb286) (o := .cells #[.int .i64 a0_0, .slice A0_1 l0_1.length c0_1] 24 (0, 0)) (by (with_reducible repeat (first | refine blk_drewN ?_ _ | refine blk_drew ?_ | refine blk_alloc ?_ _)); exact BK286.out)) : gb286 ≠ gb287)); have n6_ := Aside0.mk ((by rw [hg]; exact Nat.ne_of_gt (blk_lt (g := gb286) (o := .cells #[.int .i64 a0_0, .slice A0_1 l0_1.length c0_1] 24 (0, 0)) (by (with_reducible repeat (first | refine blk_drewN ?_ _ | refine blk_drew ?_ | refine blk_alloc ?_ _)); exact BK286.out)) : gb287 ≠ gb286)); clear BK286; clear HB; have BK286 := n0_; have HB := n1_; have BK287 := n2_; have GW287 := n3_; have GE287 := n4_; have NB286_287 := n5_; have NB287_286 := n6_; clear n0_ n1_ n2_ n3_ n4_ n5_ n6_; clear hb hbox hg) | ((with_reducible refine gate_dst (N := 6) rfl ?_); refine box_event ?hg (N := 6) ?hd (cs := #[.int .i64 0, .slice none 0 0]) (t := 24) ?hr ?_; (case hd => rfl); (case hg => rfl); (case hr => first | (go_simp; done) | (go_simp; rfl)); intro gb288 hg w75 hbox hb; have n0_ := Aside0.mk (blk_below (g := gb286) (o := .cells #[.int .i64 a0_0, .slice A0_1 l0_1.length c0_1] 24 (0, 0)) (by (with_reducible repeat (first | refine blk_drewN ?_ _ | refine blk_drew ?_ | refine blk_alloc ?_ _)); exact BK286.out) hb); have n1_ := Aside0.mk (blk_below (g := gb287) (o := .cells #[.int .i64 a1_0, .slice A1_1 l1_1.length c1_1] 24 (0, 0)) (by (with_reducible repeat (first | refine blk_drewN ?_ _ | refine blk_drew ?_ | refine blk_alloc ?_ _)); exact BK287.out) hb); have n2_ := Aside0.mk (below_step (by repeat (first | (with_reducible first | exact HB.out | apply below_alloc | apply pw_below_drewN | apply below_drew1 | refine below_set ?_ GE286.out | refine below_set ?_ GE287.out) | exact HB.out)) hb); have n3_ := Aside0.mk (hbox); have n4_ := Aside0.mk ((by rw [hg]; exact (below_size (by repeat (first | (with_reducible first | exact HB.out | apply below_alloc | apply pw_below_drewN | apply below_drew1 | refine below_set ?_ GE286.out | refine below_set ?_ GE287.out) | exact HB.out))) : w.heap.size ≤ gb288)); have n5_ := Aside0.mk ((by rw [hg]; exact (below_size (by repeat (first | (with_reducible first | exact HB.out | apply below_alloc | apply pw_below_drewN | apply below_drew1 | refine below_set ?_ GE286.out | refine below_set ?_ GE287.out) | exact HB.out))) : w.heap.size ≤ gb288)); have n6_ := Aside0.mk ((by rw [hg]; exact Nat.ne_of_lt (blk_lt (g := gb286) (o := .cells #[.int .i64 a0_0, .slice A0_1 l0_1.length c0_1] 24 (0, 0)) (by (with_reducible repeat (first | refine blk_drewN ?_ _ | refine blk_drew ?_ | refine blk_alloc ?_ _)); exact BK286.out)) : gb286 ≠ gb288)); have n7_ := Aside0.mk ((by rw [hg]; exact Nat.ne_of_gt (blk_lt (g := gb286) (o := .cells #[.int .i64 a0_0, .slice A0_1 l0_1.length c0_1] 24 (0, 0)) (by (with_reducible repeat (first | refine blk_drewN ?_ _ | refine blk_drew ?_ | refine blk_alloc ?_ _)); exact BK286.out)) : gb288 ≠ gb286)); have n8_ := Aside0.mk ((by rw [hg]; exact Nat.ne_of_lt (blk_lt (g := gb287) (o := .cells #[.int .i64 a1_0, .slice A1_1 l1_1.length c1_1] 24 (0, 0)) (by (with_reducible repeat (first | refine blk_drewN ?_ _ | refine blk_drew ?_ | refine blk_alloc ?_ _)); exact BK287.out)) : gb287 ≠ gb288)); have n9_ := Aside0.mk ((by rw [hg]; exact Nat.ne_of_gt (blk_lt (g := gb287) (o := .cells #[.int .i64 a1_0, .slice A1_1 l1_1.length c1_1] 24 (0, 0)) (by (with_reducible repeat (first | refine blk_drewN ?_ _ | refine blk_drew ?_ | refine blk_alloc ?_ _)); exact BK287.out)) : gb288 ≠ gb287)); clear BK286; clear BK287; clear HB; have BK286 := n0_; have BK287 := n1_; have HB := n2_; have BK288 := n3_; have GW288 := n4_; have GE288 := n5_; have NB286_288 := n6_; have NB288_286 := n7_; have NB287_288 := n8_; have NB288_287 := n9_; clear n0_ n1_ n2_ n3_ n4_ n5_ n6_ n7_ n8_ n9_; clear hb hbox hg; have hnb76 := NB286_287.out; have hnc76 := NB287_286.out; have hnb77 := NB286_288.out; have hnc77 := NB288_286.out; have hcz78_0 : w75.cell? ⟨gb286, 0, none⟩ = some (.int .i64 a0_0) := (blk_cell BK286.out 0).trans rfl; have hcz78_1 : w75.cell? ⟨gb286, 1, none⟩ = some (.slice A0_1 l0_1.length c0_1) := (blk_cell BK286.out 1).trans rfl; have hfz78_0 := blk_frozen BK286.out 0; have hfz78_1 := blk_frozen BK286.out 1) | ((with_reducible refine gate_callee (f := 14) rfl ?_); refine goesL_ (some 14) rfl rfl Tryd.func14 (by kernel_rfl) rfl #[.agg #[.int .i64 a0_0, .slice A0_1 l0_1.length c0_1]] rfl (by (try simp only [List.map_toArray, List.map_cons, List.map_nil]); first | done | rfl | (simp only [List.length_drop, List.length_take]; rfl)) ?_; (with_reducible refine (bitset_Check.calls k a0_0 _ _ l0_1 t289 _ ?side1 ?side2 A4.out).mono ?_); (case side1 => repeat (first | exact (Kd.C_below HR0_1.out HB.out) | (with_reducible refine Kd.C_alloc ?_ _) | (with_reducible refine Kd.C_drewN ?_ _) | (with_reducible refine Kd.C_drew ?_))); (case side2 => exact HC0_1.out); rintro e w79 ⟨rfl, hb⟩; refine ⟨_, rfl, ?_⟩; have n0_ := Aside0.mk (blk_below (g := gb286) (o := .cells #[.int .i64 a0_0, .slice A0_1 l0_1.length c0_1] 24 (0, 0)) (by (with_reducible repeat (first | refine blk_drewN ?_ _ | refine blk_drew ?_ | refine blk_alloc ?_ _)); exact BK286.out) hb); have n1_ := Aside0.mk (blk_below (g := gb287) (o := .cells #[.int .i64 a1_0, .slice A1_1 l1_1.length c1_1] 24 (0, 0)) (by (with_reducible repeat (first | refine blk_drewN ?_ _ | refine blk_drew ?_ | refine blk_alloc ?_ _)); exact BK287.out) hb); have n2_ := Aside0.mk (blk_below (g := gb288) (o := .cells #[.int .i64 0, .slice none 0 0] 24 (0, 0)) (by (with_reducible repeat (first | refine blk_drewN ?_ _ | refine blk_drew ?_ | refine blk_alloc ?_ _)); exact BK288.out) hb); have n3_ := Aside0.mk (below_step (by repeat (first | (with_reducible first | exact HB.out | apply below_alloc | apply pw_below_drewN | apply below_drew1 | refine below_set ?_ GE286.out | refine below_set ?_ GE287.out | refine below_set ?_ GE288.out) | exact HB.out)) hb); clear BK286; clear BK287; clear BK288; clear HB; have BK286 := n0_; have BK287 := n1_; have BK288 := n2_; have HB := n3_; clear n0_ n1_ n2_ n3_; (try clear hb); (try clear hb2); (try clear hk); (try clear hi); have hnb80 := NB288_287.out; have hnc80 := NB287_288.out; have hcz81_0 : w79.cell? ⟨gb288, 0, none⟩ = some (.int .i64 0) := (blk_cell BK288.out 0).trans rfl; have hcz81_1 : w79.cell? ⟨gb288, 1, none⟩ = some (.slice none 0 0) := (blk_cell BK288.out 1).trans rfl; have hfz81_0 := blk_frozen BK288.out 0; have hfz81_1 := blk_frozen BK288.out 1))
    refine bodyPost_ret (results_ct rfl _ _ gb288 24 #[.int .i64 0, .slice none 0 0] (0, 0) _ rfl (by (with_reducible repeat (first | refine blk_drewN ?_ _ | refine blk_drew ?_ | refine blk_alloc ?_ _)); refine blk_put (cs := #[.int .i64 0, .slice none 0 0]) ?_ 1 _ rfl; (with_reducible repeat (first | refine blk_drewN ?_ _ | refine blk_drew ?_ | refine blk_alloc ?_ _)); refine blk_put (cs := #[.int .i64 0, .slice none 0 0]) ?_ 0 _ rfl; (with_reducible repeat (first | refine blk_drewN ?_ _ | refine blk_drew ?_ | refine blk_alloc ?_ _)); exact BK288.out) Tryd.underlying24 rfl (by kernel_rfl)) rfl ?_
    exact ⟨_, by first | rfl | (simp [errW_none, errW_some] <;> rfl) | (simp [*, errW_none, errW_some] <;> rfl), by first | exact Kd.R_nil _ _ _ _ _ | exact Kd.N_nil _ _ _ _ _ | exact Kd.V_nil _ _ _ _ _ | exact Kd.Q_nil _ _ _ _ _ | exact Kd.S_nil _ _ _ _ _, by repeat (first | (with_reducible first | exact HB.out | apply below_alloc | apply pw_below_drewN | apply below_drew1 | refine below_set ?_ GE286.out | refine below_set ?_ GE287.out | refine below_set ?_ GE288.out) | exact HB.out)⟩

end Go.Proofs.YtinhjcoikhpblaaDoor.Q
