-- Written by wip/stubprint.py for this claim. Lean checks it.
import Derived.Test.YtinhjcoikhpblaaDoorQ0
import Derived.Test.YtinhjcoikhpblaaDoorQ102
import Derived.Test.YtinhjcoikhpblaaDoorQ103
import Derived.Test.YtinhjcoikhpblaaDoorQ104
import Derived.Test.YtinhjcoikhpblaaDoorQ110
namespace Go.Proofs.YtinhjcoikhpblaaDoor.Q
open Go.RowKit Go.Proofs.YtinhjcoikhpblaaDoorW.PrintWords Go.Proofs.YtinhjcoikhpblaaDoorW.PrintLast Go.Proofs.YtinhjcoikhpblaaDoorW.PrintMore
attribute [local go_sem] max2_int min2_int max_two min_two max_three min_three max_four min_four
set_option linter.unusedVariables false
set_option linter.unusedSimpArgs false

/-! ### estoversref01_Or: function 30 -/
def estoversref01_Or.l0 : Nat → Int → Int → List Int → Int → List Int → Int → List Int → Option (Int × List Int × Int)
  | 0, _, _, _, _, _, _, _ => none
  | k + 1, x8, x335000, x335001, x336000, x336001, x343000, x343001 => if x8 < x335000 then ((estoversref01_bit.f x335000 x335001 x8).bind fun t343 => (if t343 = true then ((estoversref01_put.f x343000 x343001 x8 true).bind fun t344 => (estoversref01_Or.l0 k (wrap64 (x8 + 1)) x335000 x335001 x336000 x336001 x343000 t344)) else ((estoversref01_bit.f x336000 x336001 x8).bind fun t345 => ((estoversref01_put.f x343000 x343001 x8 t345).bind fun t346 => (estoversref01_Or.l0 k (wrap64 (x8 + 1)) x335000 x335001 x336000 x336001 x343000 t346))))) else (some (x343000, x343001, 0))
def estoversref01_Or.f (k : Nat) (a0_0 : Int) (l0_1 : List Int) (a1_0 : Int) (l1_1 : List Int) : Option (Int × List Int × Int) := (estoversref01_both.f k a0_0 l0_1 a1_0 l1_1).bind fun t337 => (if t337 = 0 then ((estoversref01_Copy.f k a0_0 l0_1).bind fun bt338 => (estoversref01_Or.l0 k 0 a0_0 l0_1 a1_0 l1_1 bt338.1 bt338.2)) else (some (0, ([] : List Int), t337)))
def estoversref01_Or.T8 : Bool × List (List Nat × List Nat) := (true, [([], []), ([], []), ([], []), ([], []), ([2, 3], [2, 3]), ([4, 4], [4]), ([5], [5]), ([5], [5]), ([6, 7, 5, 5], [5, 6, 7]), ([5, 8], [5, 8]), ([0, 1, 9, 8], [0, 1, 9])])
def estoversref01_Or.B8 : List Nat := [0, 0, 0, 0, 12, 28, 60, 60, 252, 508, 1023]
theorem estoversref01_Or.tab8 : rtab .any (opsOf Tryd.f30 8) = estoversref01_Or.T8 := by kernel_rfl
theorem estoversref01_Or.bits8 : waitsOk estoversref01_Or.T8.2 estoversref01_Or.B8 = true := by kernel_rfl
set_option maxHeartbeats 8000000 in
set_option maxRecDepth 100000 in
theorem estoversref01_Or.calls (k : Nat) (a0_0 : Int) (A0_1 : Option Addr) (c0_1 : Nat) (l0_1 : List Int) (a1_0 : Int) (A1_1 : Option Addr) (c1_1 : Nat) (l1_1 : List Int) (r1 : Int) (r2 : List Int) (r3 : Int) (w : World) (hr0_1 : Kd.C (Kd.int .u64) w A0_1 l0_1.length l0_1) (hc0_1 : l0_1.length ≤ c0_1) (hr1_1 : Kd.C (Kd.int .u64) w A1_1 l1_1.length l1_1) (hc1_1 : l1_1.length ≤ c1_1) (h : estoversref01_Or.f k a0_0 l0_1 a1_0 l1_1 = some (r1, r2, r3)) :
    Calls Tryd.prog 30 #[.agg #[.int .i64 a0_0, .slice A0_1 l0_1.length c0_1], .agg #[.int .i64 a1_0, .slice A1_1 l1_1.length c1_1]] w fun e w' => ∃ v1_ : Value, e = .returned (.tuple #[.agg #[.int .i64 r1, v1_], .int .i64 r3]) ∧ Kd.R (Kd.int .u64) 42 w' w.heap.size (fun _ => True) v1_ r2 ∧ Below w.heap.size w w' := by
  have hu24 := Tryd.underlying24
  have HR0_1 := Aside0.mk hr0_1
  have HC0_1 := Aside0.mk hc0_1
  clear hr0_1 hc0_1
  have HR1_1 := Aside0.mk hr1_1
  have HC1_1 := Aside0.mk hc1_1
  clear hr1_1 hc1_1
  have HB := Aside0.mk (Below.refl w.heap.size w)
  have H : ((estoversref01_both.f k a0_0 l0_1 a1_0 l1_1).bind fun t337 => (if t337 = 0 then ((estoversref01_Copy.f k a0_0 l0_1).bind fun bt338 => (estoversref01_Or.l0 k 0 a0_0 l0_1 a1_0 l1_1 bt338.1 bt338.2)) else (some (0, ([] : List Int), t337)))) = some (r1, r2, r3) := h
  clear h
  replace H := Option.bind_eq_some_iff.mp H
  obtain ⟨t337, A30, H⟩ := H
  replace H : (if t337 = 0 then ((estoversref01_Copy.f k a0_0 l0_1).bind fun bt338 => (estoversref01_Or.l0 k 0 a0_0 l0_1 a1_0 l1_1 bt338.1 bt338.2)) else (some (0, ([] : List Int), t337))) = some (r1, r2, r3) := H
  have A3 := Aside0.mk A30
  clear A30
  by_cases c4 : t337 = 0
  · rw [if_pos c4] at H
    have c4b0 : (t337 == 0) = true := beq_iff_eq.mpr c4
    have c4b1 : (t337 != 0) = false := bne_eq_false_iff_eq.mpr c4
    clear c4
    replace H := Option.bind_eq_some_iff.mp H
    obtain ⟨⟨t338, t339⟩, A50, H⟩ := H
    replace H : (estoversref01_Or.l0 k 0 a0_0 l0_1 a1_0 l1_1 t338 t339) = some (r1, r2, r3) := H
    have A5 := Aside0.mk A50
    clear A50
    have H' := Aside0.mk H
    clear H
    go_enter Tryd.func30, Tryd.ntmps30
    go_wp2_with (first | ((with_reducible refine gate_dst (N := 2) rfl ?_); refine box_event ?hg (N := 2) ?hd (cs := #[.int .i64 a0_0, .slice A0_1 l0_1.length c0_1]) (t := 24) ?hr ?_; (case hd => rfl); (case hg => rfl); (case hr => first | (go_simp; done) | (go_simp; rfl)); intro gb334 hg w6 hbox hb; have n0_ := Aside0.mk (below_step (by repeat (first | (with_reducible first | exact HB.out | apply below_alloc | apply pw_below_drewN | apply below_drew1) | exact HB.out)) hb); have n1_ := Aside0.mk (hbox); have n2_ := Aside0.mk ((by rw [hg]; exact (below_size (by repeat (first | (with_reducible first | exact HB.out | apply below_alloc | apply pw_below_drewN | apply below_drew1) | exact HB.out))) : w.heap.size ≤ gb334)); have n3_ := Aside0.mk ((by rw [hg]; exact (below_size (by repeat (first | (with_reducible first | exact HB.out | apply below_alloc | apply pw_below_drewN | apply below_drew1) | exact HB.out))) : w.heap.size ≤ gb334)); clear HB; have HB := n0_; have BK334 := n1_; have GW334 := n2_; have GE334 := n3_; clear n0_ n1_ n2_ n3_; clear hb hbox hg) | ((with_reducible refine gate_dst (N := 3) rfl ?_); refine box_event ?hg (N := 3) ?hd (cs := #[.int .i64 a1_0, .slice A1_1 l1_1.length c1_1]) (t := 24) ?hr ?_; (case hd => rfl); (case hg => rfl); (case hr => first | (go_simp; done) | (go_simp; rfl)); intro gb335 hg w7 hbox hb; have n0_ := Aside0.mk (blk_below (g := gb334) (o := .cells #[.int .i64 a0_0, .slice A0_1 l0_1.length c0_1] 24 (0, 0)) (by (with_reducible repeat (first | refine blk_drewN ?_ _ | refine blk_drew ?_ | refine blk_alloc ?_ _)); exact BK334.out) hb); have n1_ := Aside0.mk (below_step (by repeat (first | (with_reducible first | exact HB.out | apply below_alloc | apply pw_below_drewN | apply below_drew1 | refine below_set ?_ GE334.out) | exact HB.out)) hb); have n2_ := Aside0.mk (hbox); have n3_ := Aside0.mk ((by rw [hg]; exact (below_size (by repeat (first | (with_reducible first | exact HB.out | apply below_alloc | apply pw_below_drewN | apply below_drew1 | refine below_set ?_ GE334.out) | exact HB.out))) : w.heap.size ≤ gb335)); have n4_ := Aside0.mk ((by rw [hg]; exact (below_size (by repeat (first | (with_reducible first | exact HB.out | apply below_alloc | apply pw_below_drewN | apply below_drew1 | refine below_set ?_ GE334.out) | exact HB.out))) : w.heap.size ≤ gb335)); have n5_ := Aside0.mk ((by rw [hg]; exact Nat.ne_of_lt (blk_lt (g := gb334) (o := .cells #[.int .i64 a0_0, .slice A0_1 l0_1.length c0_1] 24 (0, 0)) (by (with_reducible repeat (first | refine blk_drewN ?_ _ | refine blk_drew ?_ | refine blk_alloc ?_ _)); exact BK334.out)) : gb334 ≠ gb335)); have n6_ := Aside0.mk ((by rw [hg]; exact Nat.ne_of_gt (blk_lt (g := gb334) (o := .cells #[.int .i64 a0_0, .slice A0_1 l0_1.length c0_1] 24 (0, 0)) (by (with_reducible repeat (first | refine blk_drewN ?_ _ | refine blk_drew ?_ | refine blk_alloc ?_ _)); exact BK334.out)) : gb335 ≠ gb334)); clear BK334; clear HB; have BK334 := n0_; have HB := n1_; have BK335 := n2_; have GW335 := n3_; have GE335 := n4_; have NB334_335 := n5_; have NB335_334 := n6_; clear n0_ n1_ n2_ n3_ n4_ n5_ n6_; clear hb hbox hg) | ((with_reducible refine gate_dst (N := 4) rfl ?_); refine box_event ?hg (N := 4) ?hd (cs := #[.int .i64 0, .slice none 0 0]) (t := 24) ?hr ?_; (case hd => rfl); (case hg => rfl); (case hr => first | (go_simp; done) | (go_simp; rfl)); intro gb336 hg w8 hbox hb; have n0_ := Aside0.mk (blk_below (g := gb334) (o := .cells #[.int .i64 a0_0, .slice A0_1 l0_1.length c0_1] 24 (0, 0)) (by (with_reducible repeat (first | refine blk_drewN ?_ _ | refine blk_drew ?_ | refine blk_alloc ?_ _)); exact BK334.out) hb); have n1_ := Aside0.mk (blk_below (g := gb335) (o := .cells #[.int .i64 a1_0, .slice A1_1 l1_1.length c1_1] 24 (0, 0)) (by (with_reducible repeat (first | refine blk_drewN ?_ _ | refine blk_drew ?_ | refine blk_alloc ?_ _)); exact BK335.out) hb); have n2_ := Aside0.mk (below_step (by repeat (first | (with_reducible first | exact HB.out | apply below_alloc | apply pw_below_drewN | apply below_drew1 | refine below_set ?_ GE334.out | refine below_set ?_ GE335.out) | exact HB.out)) hb); have n3_ := Aside0.mk (hbox); have n4_ := Aside0.mk ((by rw [hg]; exact (below_size (by repeat (first | (with_reducible first | exact HB.out | apply below_alloc | apply pw_below_drewN | apply below_drew1 | refine below_set ?_ GE334.out | refine below_set ?_ GE335.out) | exact HB.out))) : w.heap.size ≤ gb336)); have n5_ := Aside0.mk ((by rw [hg]; exact (below_size (by repeat (first | (with_reducible first | exact HB.out | apply below_alloc | apply pw_below_drewN | apply below_drew1 | refine below_set ?_ GE334.out | refine below_set ?_ GE335.out) | exact HB.out))) : w.heap.size ≤ gb336)); have n6_ := Aside0.mk ((by rw [hg]; exact Nat.ne_of_lt (blk_lt (g := gb334) (o := .cells #[.int .i64 a0_0, .slice A0_1 l0_1.length c0_1] 24 (0, 0)) (by (with_reducible repeat (first | refine blk_drewN ?_ _ | refine blk_drew ?_ | refine blk_alloc ?_ _)); exact BK334.out)) : gb334 ≠ gb336)); have n7_ := Aside0.mk ((by rw [hg]; exact Nat.ne_of_gt (blk_lt (g := gb334) (o := .cells #[.int .i64 a0_0, .slice A0_1 l0_1.length c0_1] 24 (0, 0)) (by (with_reducible repeat (first | refine blk_drewN ?_ _ | refine blk_drew ?_ | refine blk_alloc ?_ _)); exact BK334.out)) : gb336 ≠ gb334)); have n8_ := Aside0.mk ((by rw [hg]; exact Nat.ne_of_lt (blk_lt (g := gb335) (o := .cells #[.int .i64 a1_0, .slice A1_1 l1_1.length c1_1] 24 (0, 0)) (by (with_reducible repeat (first | refine blk_drewN ?_ _ | refine blk_drew ?_ | refine blk_alloc ?_ _)); exact BK335.out)) : gb335 ≠ gb336)); have n9_ := Aside0.mk ((by rw [hg]; exact Nat.ne_of_gt (blk_lt (g := gb335) (o := .cells #[.int .i64 a1_0, .slice A1_1 l1_1.length c1_1] 24 (0, 0)) (by (with_reducible repeat (first | refine blk_drewN ?_ _ | refine blk_drew ?_ | refine blk_alloc ?_ _)); exact BK335.out)) : gb336 ≠ gb335)); clear BK334; clear BK335; clear HB; have BK334 := n0_; have BK335 := n1_; have HB := n2_; have BK336 := n3_; have GW336 := n4_; have GE336 := n5_; have NB334_336 := n6_; have NB336_334 := n7_; have NB335_336 := n8_; have NB336_335 := n9_; clear n0_ n1_ n2_ n3_ n4_ n5_ n6_ n7_ n8_ n9_; clear hb hbox hg; have hnb9 := NB334_335.out; have hnc9 := NB335_334.out; have hnb10 := NB334_336.out; have hnc10 := NB336_334.out; have hcz11_0 : w8.cell? ⟨gb334, 0, none⟩ = some (.int .i64 a0_0) := (blk_cell BK334.out 0).trans rfl; have hcz11_1 : w8.cell? ⟨gb334, 1, none⟩ = some (.slice A0_1 l0_1.length c0_1) := (blk_cell BK334.out 1).trans rfl; have hfz11_0 := blk_frozen BK334.out 0; have hfz11_1 := blk_frozen BK334.out 1; have hnb12 := NB335_336.out; have hnc12 := NB336_335.out; have hcz13_0 : w8.cell? ⟨gb335, 0, none⟩ = some (.int .i64 a1_0) := (blk_cell BK335.out 0).trans rfl; have hcz13_1 : w8.cell? ⟨gb335, 1, none⟩ = some (.slice A1_1 l1_1.length c1_1) := (blk_cell BK335.out 1).trans rfl; have hfz13_0 := blk_frozen BK335.out 0; have hfz13_1 := blk_frozen BK335.out 1) | ((with_reducible refine gate_callee (f := 45) rfl ?_); refine goesL_ (some 11) rfl rfl Tryd.func45 (by kernel_rfl) rfl #[.agg #[.int .i64 a0_0, .slice A0_1 l0_1.length c0_1], .agg #[.int .i64 a1_0, .slice A1_1 l1_1.length c1_1]] rfl (by (try simp only [List.map_toArray, List.map_cons, List.map_nil]); first | done | rfl | (simp only [List.length_drop, List.length_take]; rfl)) ?_; (with_reducible refine (estoversref01_both.calls k a0_0 _ _ l0_1 a1_0 _ _ l1_1 t337 _ ?side1 ?side2 ?side3 ?side4 A3.out).mono ?_); (case side1 => repeat (first | exact (Kd.C_below HR0_1.out HB.out) | (with_reducible refine Kd.C_alloc ?_ _) | (with_reducible refine Kd.C_drewN ?_ _) | (with_reducible refine Kd.C_drew ?_))); (case side2 => exact HC0_1.out); (case side3 => repeat (first | exact (Kd.C_below HR1_1.out HB.out) | (with_reducible refine Kd.C_alloc ?_ _) | (with_reducible refine Kd.C_drewN ?_ _) | (with_reducible refine Kd.C_drew ?_))); (case side4 => exact HC1_1.out); rintro e w14 ⟨rfl, hb⟩; refine ⟨_, rfl, ?_⟩; have n0_ := Aside0.mk (blk_below (g := gb334) (o := .cells #[.int .i64 a0_0, .slice A0_1 l0_1.length c0_1] 24 (0, 0)) (by (with_reducible repeat (first | refine blk_drewN ?_ _ | refine blk_drew ?_ | refine blk_alloc ?_ _)); exact BK334.out) hb); have n1_ := Aside0.mk (blk_below (g := gb335) (o := .cells #[.int .i64 a1_0, .slice A1_1 l1_1.length c1_1] 24 (0, 0)) (by (with_reducible repeat (first | refine blk_drewN ?_ _ | refine blk_drew ?_ | refine blk_alloc ?_ _)); exact BK335.out) hb); have n2_ := Aside0.mk (blk_below (g := gb336) (o := .cells #[.int .i64 0, .slice none 0 0] 24 (0, 0)) (by (with_reducible repeat (first | refine blk_drewN ?_ _ | refine blk_drew ?_ | refine blk_alloc ?_ _)); exact BK336.out) hb); have n3_ := Aside0.mk (below_step (by repeat (first | (with_reducible first | exact HB.out | apply below_alloc | apply pw_below_drewN | apply below_drew1 | refine below_set ?_ GE334.out | refine below_set ?_ GE335.out | refine below_set ?_ GE336.out) | exact HB.out)) hb); clear BK334; clear BK335; clear BK336; clear HB; have BK334 := n0_; have BK335 := n1_; have BK336 := n2_; have HB := n3_; clear n0_ n1_ n2_ n3_; (try clear hb); (try clear hb2); (try clear hk); (try clear hi); have hcz15_0 : w14.cell? ⟨gb334, 0, none⟩ = some (.int .i64 a0_0) := (blk_cell BK334.out 0).trans rfl; have hcz15_1 : w14.cell? ⟨gb334, 1, none⟩ = some (.slice A0_1 l0_1.length c0_1) := (blk_cell BK334.out 1).trans rfl; have hfz15_0 := blk_frozen BK334.out 0; have hfz15_1 := blk_frozen BK334.out 1) | ((with_reducible refine gate_callee (f := 35) rfl ?_); refine goesL_ (some 17) rfl rfl Tryd.func35 (by kernel_rfl) rfl #[.agg #[.int .i64 a0_0, .slice A0_1 l0_1.length c0_1]] rfl (by (try simp only [List.map_toArray, List.map_cons, List.map_nil]); first | done | rfl | (simp only [List.length_drop, List.length_take]; rfl)) ?_; (with_reducible refine (estoversref01_Copy.calls k a0_0 _ _ l0_1 t338 t339 _ ?side1 ?side2 A5.out).mono ?_); (case side1 => repeat (first | exact (Kd.C_below HR0_1.out HB.out) | (with_reducible refine Kd.C_alloc ?_ _) | (with_reducible refine Kd.C_drewN ?_ _) | (with_reducible refine Kd.C_drew ?_))); (case side2 => exact HC0_1.out); rintro e w16 ⟨v340, rfl, ho0, hb⟩; refine ⟨_, rfl, ?_⟩; have n0_ := Aside0.mk (Kd.R_lower ho0 (below_size (by repeat (first | (with_reducible first | exact HB.out | apply below_alloc | apply pw_below_drewN | apply below_drew1 | refine below_set ?_ GE334.out | refine below_set ?_ GE335.out | refine below_set ?_ GE336.out) | exact HB.out)))); have n1_ := Aside0.mk (blk_below (g := gb334) (o := .cells #[.int .i64 a0_0, .slice A0_1 l0_1.length c0_1] 24 (0, 0)) (by (with_reducible repeat (first | refine blk_drewN ?_ _ | refine blk_drew ?_ | refine blk_alloc ?_ _)); exact BK334.out) hb); have n2_ := Aside0.mk (blk_below (g := gb335) (o := .cells #[.int .i64 a1_0, .slice A1_1 l1_1.length c1_1] 24 (0, 0)) (by (with_reducible repeat (first | refine blk_drewN ?_ _ | refine blk_drew ?_ | refine blk_alloc ?_ _)); exact BK335.out) hb); have n3_ := Aside0.mk (blk_below (g := gb336) (o := .cells #[.int .i64 0, .slice none 0 0] 24 (0, 0)) (by (with_reducible repeat (first | refine blk_drewN ?_ _ | refine blk_drew ?_ | refine blk_alloc ?_ _)); exact BK336.out) hb); have n4_ := Aside0.mk (below_step (by repeat (first | (with_reducible first | exact HB.out | apply below_alloc | apply pw_below_drewN | apply below_drew1 | refine below_set ?_ GE334.out | refine below_set ?_ GE335.out | refine below_set ?_ GE336.out) | exact HB.out)) hb); clear BK334; clear BK335; clear BK336; clear HB; have HO341 := n0_; have BK334 := n1_; have BK335 := n2_; have BK336 := n3_; have HB := n4_; clear n0_ n1_ n2_ n3_ n4_; (try clear hb); (try clear hb2); (try clear hk); (try clear hi); (try clear ho0)) | ((with_reducible refine gate_dst (N := 7) rfl ?_); refine box_event ?hg (N := 7) ?hd (cs := #[.int .i64 0, .slice none 0 0]) (t := 24) ?hr ?_; (case hd => rfl); (case hg => rfl); (case hr => first | (go_simp; done) | (go_simp; rfl)); intro gb342 hg w17 hbox hb; have n0_ := Aside0.mk (Kd.R_below (by (with_reducible repeat (first | apply Kd.R_alloc | apply Kd.R_drewN | apply Kd.R_drew)); exact HO341.out) hb); have n1_ := Aside0.mk (blk_below (g := gb334) (o := .cells #[.int .i64 a0_0, .slice A0_1 l0_1.length c0_1] 24 (0, 0)) (by (with_reducible repeat (first | refine blk_drewN ?_ _ | refine blk_drew ?_ | refine blk_alloc ?_ _)); exact BK334.out) hb); have n2_ := Aside0.mk (blk_below (g := gb335) (o := .cells #[.int .i64 a1_0, .slice A1_1 l1_1.length c1_1] 24 (0, 0)) (by (with_reducible repeat (first | refine blk_drewN ?_ _ | refine blk_drew ?_ | refine blk_alloc ?_ _)); exact BK335.out) hb); have n3_ := Aside0.mk (blk_below (g := gb336) (o := .cells #[.int .i64 0, .slice none 0 0] 24 (0, 0)) (by (with_reducible repeat (first | refine blk_drewN ?_ _ | refine blk_drew ?_ | refine blk_alloc ?_ _)); exact BK336.out) hb); have n4_ := Aside0.mk (below_step (by repeat (first | (with_reducible first | exact HB.out | apply below_alloc | apply pw_below_drewN | apply below_drew1 | refine below_set ?_ GE334.out | refine below_set ?_ GE335.out | refine below_set ?_ GE336.out) | exact HB.out)) hb); have n5_ := Aside0.mk (hbox); have n6_ := Aside0.mk ((by rw [hg]; exact (below_size (by repeat (first | (with_reducible first | exact HB.out | apply below_alloc | apply pw_below_drewN | apply below_drew1 | refine below_set ?_ GE334.out | refine below_set ?_ GE335.out | refine below_set ?_ GE336.out) | exact HB.out))) : w.heap.size ≤ gb342)); have n7_ := Aside0.mk ((by rw [hg]; exact (below_size (by repeat (first | (with_reducible first | exact HB.out | apply below_alloc | apply pw_below_drewN | apply below_drew1 | refine below_set ?_ GE334.out | refine below_set ?_ GE335.out | refine below_set ?_ GE336.out) | exact HB.out))) : w.heap.size ≤ gb342)); have n8_ := Aside0.mk ((by rw [hg]; exact Nat.ne_of_lt (blk_lt (g := gb334) (o := .cells #[.int .i64 a0_0, .slice A0_1 l0_1.length c0_1] 24 (0, 0)) (by (with_reducible repeat (first | refine blk_drewN ?_ _ | refine blk_drew ?_ | refine blk_alloc ?_ _)); exact BK334.out)) : gb334 ≠ gb342)); have n9_ := Aside0.mk ((by rw [hg]; exact Nat.ne_of_gt (blk_lt (g := gb334) (o := .cells #[.int .i64 a0_0, .slice A0_1 l0_1.length c0_1] 24 (0, 0)) (by (with_reducible repeat (first | refine blk_drewN ?_ _ | refine blk_drew ?_ | refine blk_alloc ?_ _)); exact BK334.out)) : gb342 ≠ gb334)); have n10_ := Aside0.mk ((by rw [hg]; exact Nat.ne_of_lt (blk_lt (g := gb335) (o := .cells #[.int .i64 a1_0, .slice A1_1 l1_1.length c1_1] 24 (0, 0)) (by (with_reducible repeat (first | refine blk_drewN ?_ _ | refine blk_drew ?_ | refine blk_alloc ?_ _)); exact BK335.out)) : gb335 ≠ gb342)); have n11_ := Aside0.mk ((by rw [hg]; exact Nat.ne_of_gt (blk_lt (g := gb335) (o := .cells #[.int .i64 a1_0, .slice A1_1 l1_1.length c1_1] 24 (0, 0)) (by (with_reducible repeat (first | refine blk_drewN ?_ _ | refine blk_drew ?_ | refine blk_alloc ?_ _)); exact BK335.out)) : gb342 ≠ gb335)); have n12_ := Aside0.mk ((by rw [hg]; exact Nat.ne_of_lt (blk_lt (g := gb336) (o := .cells #[.int .i64 0, .slice none 0 0] 24 (0, 0)) (by (with_reducible repeat (first | refine blk_drewN ?_ _ | refine blk_drew ?_ | refine blk_alloc ?_ _)); exact BK336.out)) : gb336 ≠ gb342)); have n13_ := Aside0.mk ((by rw [hg]; exact Nat.ne_of_gt (blk_lt (g := gb336) (o := .cells #[.int .i64 0, .slice none 0 0] 24 (0, 0)) (by (with_reducible repeat (first | refine blk_drewN ?_ _ | refine blk_drew ?_ | refine blk_alloc ?_ _)); exact BK336.out)) : gb342 ≠ gb336)); clear HO341; clear BK334; clear BK335; clear BK336; clear HB; have HO341 := n0_; have BK334 := n1_; have BK335 := n2_; have BK336 := n3_; have HB := n4_; have BK342 := n5_; have GW342 := n6_; have GE342 := n7_; have NB334_342 := n8_; have NB342_334 := n9_; have NB335_342 := n10_; have NB342_335 := n11_; have NB336_342 := n12_; have NB342_336 := n13_; clear n0_ n1_ n2_ n3_ n4_ n5_ n6_ n7_ n8_ n9_ n10_ n11_ n12_ n13_; clear hb hbox hg; have hnb18 := NB342_334.out; have hnc18 := NB334_342.out; have hnb19 := NB342_335.out; have hnc19 := NB335_342.out; have hnb20 := NB342_336.out; have hnc20 := NB336_342.out; have hcz21_0 : w17.cell? ⟨gb342, 0, none⟩ = some (.int .i64 0) := (blk_cell BK342.out 0).trans rfl; have hcz21_1 : w17.cell? ⟨gb342, 1, none⟩ = some (.slice none 0 0) := (blk_cell BK342.out 1).trans rfl; have hfz21_0 := blk_frozen BK342.out 0; have hfz21_1 := blk_frozen BK342.out 1; obtain ⟨Ao22, co22, eo22⟩ := Kd.R_slice HO341.out; subst eo22))
    go_loopg [8] k (fun kq v8 w' => ∃ (x8_1 : Int) (x343001_1 : List Int) (u343001 : Value), v8 = .int .i64 x8_1 ∧ Aside0 (estoversref01_Or.l0 kq x8_1 a0_0 l0_1 a1_0 l1_1 t338 x343001_1 = some (r1, r2, r3)) ∧ Aside0 (kq ≤ k) ∧ Aside0 (Kd.R (Kd.int .u64) 42 w' w.heap.size (fun _ => True) u343001 x343001_1) ∧ Aside0 (w'.heap[gb334]? = some (.cells #[.int .i64 a0_0, (.slice A0_1 l0_1.length c0_1)] 24 (0, 0))) ∧ Aside0 (w'.heap[gb335]? = some (.cells #[.int .i64 a1_0, (.slice A1_1 l1_1.length c1_1)] 24 (0, 0))) ∧ Aside0 (w'.heap[gb336]? = some (.cells #[.int .i64 0, (.slice none 0 0)] 24 (0, 0))) ∧ Aside0 (w'.heap[gb342]? = some (.cells #[.int .i64 t338, u343001] 24 (0, 0))) ∧ Aside0 (Below w.heap.size w w'))
    case atStart => exact ⟨(0), (t339), (.slice Ao22 t339.length co22), (by first | rfl | (simp; done) | (simp [*]; done)), H', ⟨Nat.le_refl _⟩, ⟨by (with_reducible repeat (first | apply Kd.R_alloc | apply Kd.R_drewN | apply Kd.R_drew)); exact Kd.R_mono (Kd.R_far (p := ⟨gb342, 1, none⟩) (Kd.R_far (p := ⟨gb342, 0, none⟩) (Kd.R_types HO341.out BK342.out (by decide)) (fun _ hk => hk.2) (.int .i64 t338)) (fun _ hk => hk.2) (.slice Ao22 t339.length co22)) (fun _ hk => trivial)⟩, ⟨by (with_reducible repeat (first | refine blk_drewN ?_ _ | refine blk_drew ?_ | refine blk_alloc ?_ _)); refine blk_far ?_ NB334_342.out _; (with_reducible repeat (first | refine blk_drewN ?_ _ | refine blk_drew ?_ | refine blk_alloc ?_ _)); refine blk_far ?_ NB334_342.out _; (with_reducible repeat (first | refine blk_drewN ?_ _ | refine blk_drew ?_ | refine blk_alloc ?_ _)); exact BK334.out⟩, ⟨by (with_reducible repeat (first | refine blk_drewN ?_ _ | refine blk_drew ?_ | refine blk_alloc ?_ _)); refine blk_far ?_ NB335_342.out _; (with_reducible repeat (first | refine blk_drewN ?_ _ | refine blk_drew ?_ | refine blk_alloc ?_ _)); refine blk_far ?_ NB335_342.out _; (with_reducible repeat (first | refine blk_drewN ?_ _ | refine blk_drew ?_ | refine blk_alloc ?_ _)); exact BK335.out⟩, ⟨by (with_reducible repeat (first | refine blk_drewN ?_ _ | refine blk_drew ?_ | refine blk_alloc ?_ _)); refine blk_far ?_ NB336_342.out _; (with_reducible repeat (first | refine blk_drewN ?_ _ | refine blk_drew ?_ | refine blk_alloc ?_ _)); refine blk_far ?_ NB336_342.out _; (with_reducible repeat (first | refine blk_drewN ?_ _ | refine blk_drew ?_ | refine blk_alloc ?_ _)); exact BK336.out⟩, ⟨by (with_reducible repeat (first | refine blk_drewN ?_ _ | refine blk_drew ?_ | refine blk_alloc ?_ _)); refine blk_put (cs := #[.int .i64 t338, .slice none 0 0]) ?_ 1 _ rfl; (with_reducible repeat (first | refine blk_drewN ?_ _ | refine blk_drew ?_ | refine blk_alloc ?_ _)); refine blk_put (cs := #[.int .i64 0, .slice none 0 0]) ?_ 0 _ rfl; (with_reducible repeat (first | refine blk_drewN ?_ _ | refine blk_drew ?_ | refine blk_alloc ?_ _)); exact BK342.out⟩, ⟨by repeat (first | (with_reducible first | exact HB.out | apply below_alloc | apply pw_below_drewN | apply below_drew1 | refine below_set ?_ GE334.out | refine below_set ?_ GE335.out | refine below_set ?_ GE336.out | refine below_set ?_ GE342.out) | exact HB.out)⟩⟩
    case round =>
      clear H'
      try clear c1
      try clear c2
      try clear p2
      try clear c3
      try clear c4
      try clear c4b0
      try clear c4b1
      try clear c9
      try clear c10
      try clear c12
      try clear c18
      try clear c19
      try clear c20
      try clear hcz11_0
      try clear hcz11_1
      try clear hcz13_0
      try clear hcz13_1
      try clear hcz15_0
      try clear hcz15_1
      try clear hcz21_0
      try clear hcz21_1
      try clear hfz11_0
      try clear hfz11_1
      try clear hfz13_0
      try clear hfz13_1
      try clear hfz15_0
      try clear hfz15_1
      try clear hfz21_0
      try clear hfz21_1
      obtain ⟨x8_1, x343001_1, u343001, rfl, HA, HK1, HO_343001, BK334, BK335, BK336, BK342, HB⟩ := hrel
      cases gk with
      | zero => exact absurd HA.out (by simp [estoversref01_Or.l0])
      | succ k1 =>
        have H := HA.out
        clear HA
        simp only [estoversref01_Or.l0] at H
        by_cases c23 : x8_1 < a0_0
        · rw [if_pos c23] at H
          have c23b0 : decide (x8_1 < a0_0) = true := decide_eq_true c23
          clear c23
          replace H := Option.bind_eq_some_iff.mp H
          obtain ⟨t343, A240, H⟩ := H
          replace H : (if t343 = true then ((estoversref01_put.f t338 x343001_1 x8_1 true).bind fun t344 => (estoversref01_Or.l0 k1 (wrap64 (x8_1 + 1)) a0_0 l0_1 a1_0 l1_1 t338 t344)) else ((estoversref01_bit.f a1_0 l1_1 x8_1).bind fun t345 => ((estoversref01_put.f t338 x343001_1 x8_1 t345).bind fun t346 => (estoversref01_Or.l0 k1 (wrap64 (x8_1 + 1)) a0_0 l0_1 a1_0 l1_1 t338 t346)))) = some (r1, r2, r3) := H
          have A24 := Aside0.mk A240
          clear A240
          by_cases c25 : t343 = true
          · subst c25
            have H1 : ((estoversref01_put.f t338 x343001_1 x8_1 true).bind fun t344 => (estoversref01_Or.l0 k1 (wrap64 (x8_1 + 1)) a0_0 l0_1 a1_0 l1_1 t338 t344)) = some (r1, r2, r3) := by rw [if_pos rfl] at H; exact H
            clear H
            have H := H1
            clear H1
            replace H := Option.bind_eq_some_iff.mp H
            obtain ⟨t344, A260, H⟩ := H
            replace H : (estoversref01_Or.l0 k1 (wrap64 (x8_1 + 1)) a0_0 l0_1 a1_0 l1_1 t338 t344) = some (r1, r2, r3) := H
            have A26 := Aside0.mk A260
            clear A260
            have H' := Aside0.mk H
            clear H
            have hnb27 := NB334_335.out
            have hnc27 := NB335_334.out
            have hnb28 := NB334_336.out
            have hnc28 := NB336_334.out
            have hnb29 := NB334_342.out
            have hnc29 := NB342_334.out
            have hcz30_0 : wr.cell? ⟨gb334, 0, none⟩ = some (.int .i64 a0_0) := (blk_cell BK334.out 0).trans rfl
            have hcz30_1 : wr.cell? ⟨gb334, 1, none⟩ = some (.slice A0_1 l0_1.length c0_1) := (blk_cell BK334.out 1).trans rfl
            have hfz30_0 := blk_frozen BK334.out 0
            have hfz30_1 := blk_frozen BK334.out 1
            try go_wp2
            have n0_ := Aside0.mk (Kd.R_drew HO_343001.out)
            have n1_ := Aside0.mk (blk_drew BK334.out)
            have n2_ := Aside0.mk (blk_drew BK335.out)
            have n3_ := Aside0.mk (blk_drew BK336.out)
            have n4_ := Aside0.mk (blk_drew BK342.out)
            have n5_ := Aside0.mk (below_drew1 HB.out)
            clear HO_343001
            clear BK334
            clear BK335
            clear BK336
            clear BK342
            clear HB
            have HO_343001 := n0_
            have BK334 := n1_
            have BK335 := n2_
            have BK336 := n3_
            have BK342 := n4_
            have HB := n5_
            clear n0_ n1_ n2_ n3_ n4_ n5_
            refine start_ (n := 11) (S := fun w' => w'.cell? ⟨gb342, 0, none⟩ = some (.int .i64 t338) ∧ w'.cell? ⟨gb342, 1, none⟩ = some (u343001) ∧ w'.cell? ⟨gb334, 0, none⟩ = some (.int .i64 a0_0) ∧ w'.cell? ⟨gb334, 1, none⟩ = some (.slice A0_1 l0_1.length c0_1)) (ds := []) #[false, false, false, false, false, false, false, false, false, false, false] (by kernel_rfl) rfl rfl ⟨(blk_cell BK342.out 0).trans rfl, (blk_cell BK342.out 1).trans rfl, (blk_cell BK334.out 0).trans rfl, (blk_cell BK334.out 1).trans rfl⟩ (fun hHeld => ?_); refine with_tabW estoversref01_Or.tab8 estoversref01_Or.bits8 (fun HT_ HW_ => ?_)
            generalize wr.drew = w31 at HO_343001 BK334 BK335 BK336 BK342 HB hHeld ⊢
            refine pure_ (i := 1) (N := some 25) (v := ?_) (a' := ?_) #[false, true, false, false, false, false, false, false, false, false, false] rfl rfl (any_of HT_.out (by kernel_rfl)) (fun _ _ _ h => h) (Or.inl ⟨by rfl, ?_⟩) ?_ ?_
            rotate_left
            · intro w'
              go_simp
              with_reducible rfl
            rotate_left
            · simp only [Act.put, List.setIfInBounds_toArray, List.set_cons_zero, List.set_cons_succ, i64_w, i32_w]
              rfl
            refine pure_ (i := 3) (N := some 27) (v := ?_) (a' := ?_) #[false, true, false, true, false, false, false, false, false, false, false] rfl rfl (any_of HT_.out (by kernel_rfl)) (fun _ _ _ h => h) (Or.inl ⟨by rfl, ?_⟩) ?_ ?_
            rotate_left
            · intro w'
              go_simp
              with_reducible rfl
            rotate_left
            · simp only [Act.put, List.setIfInBounds_toArray, List.set_cons_zero, List.set_cons_succ, i64_w, i32_w]
              rfl
            refine take_ (i := 0) (N := some 24) (v := ?_) (a' := ?_) #[true, true, false, true, false, false, false, false, false, false, false] rfl rfl (take_ofW HT_.out HW_.out (by kernel_rfl)) (fun _ _ _ h => h) (Or.inl ⟨by rfl, ?_⟩) hHeld ?_ ?_
            rotate_left
            · rintro w' ⟨s0, s1, s2, s3⟩
              go_simp
              with_reducible rfl
            rotate_left
            · simp only [Act.put, List.setIfInBounds_toArray, List.set_cons_zero, List.set_cons_succ, i64_w, i32_w]
              rfl
            refine take_ (i := 2) (N := some 26) (v := ?_) (a' := ?_) #[true, true, true, true, false, false, false, false, false, false, false] rfl rfl (take_ofW HT_.out HW_.out (by kernel_rfl)) (fun _ _ _ h => h) (Or.inl ⟨by rfl, ?_⟩) hHeld ?_ ?_
            rotate_left
            · rintro w' ⟨s0, s1, s2, s3⟩
              go_simp
              with_reducible rfl
            rotate_left
            · simp only [Act.put, List.setIfInBounds_toArray, List.set_cons_zero, List.set_cons_succ, i64_w, i32_w]
              rfl
            refine one_ (i := 4) (N := some 28) #[true, true, true, true, true, false, false, false, false, false, false] rfl rfl (one_of HT_.out (by kernel_rfl)) (by decide) (fun K hK => ?_)
            refine goes_ Tryd.func34 (by kernel_rfl) rfl #[.agg #[.int .i64 a0_0, .slice A0_1 l0_1.length c0_1], .int .i64 x8_1] (by rfl) rfl rfl (by (try simp only [List.map_toArray, List.map_cons, List.map_nil]); first | done | rfl | (simp only [List.length_drop, List.length_take]; rfl)) ?_
            with_reducible refine (estoversref01_bit.calls a0_0 _ _ l0_1 x8_1 true _ ?side1 ?side2 A24.out).mono ?_
            (case side1 => repeat (first | exact (Kd.C_below HR0_1.out HB.out) | (with_reducible refine Kd.C_alloc ?_ _) | (with_reducible refine Kd.C_drewN ?_ _) | (with_reducible refine Kd.C_drew ?_)))
            (case side2 => exact HC0_1.out)
            rintro e w32 ⟨rfl, hb⟩
            refine ⟨_, rfl, ?_⟩
            have n0_ := Aside0.mk (Kd.R_below (by (with_reducible repeat (first | apply Kd.R_alloc | apply Kd.R_drewN | apply Kd.R_drew)); exact HO_343001.out) hb)
            have n1_ := Aside0.mk (blk_below (g := gb334) (o := .cells #[.int .i64 a0_0, .slice A0_1 l0_1.length c0_1] 24 (0, 0)) (by (with_reducible repeat (first | refine blk_drewN ?_ _ | refine blk_drew ?_ | refine blk_alloc ?_ _)); exact BK334.out) hb)
            have n2_ := Aside0.mk (blk_below (g := gb335) (o := .cells #[.int .i64 a1_0, .slice A1_1 l1_1.length c1_1] 24 (0, 0)) (by (with_reducible repeat (first | refine blk_drewN ?_ _ | refine blk_drew ?_ | refine blk_alloc ?_ _)); exact BK335.out) hb)
            have n3_ := Aside0.mk (blk_below (g := gb336) (o := .cells #[.int .i64 0, .slice none 0 0] 24 (0, 0)) (by (with_reducible repeat (first | refine blk_drewN ?_ _ | refine blk_drew ?_ | refine blk_alloc ?_ _)); exact BK336.out) hb)
            have n4_ := Aside0.mk (blk_below (g := gb342) (o := .cells #[.int .i64 t338, u343001] 24 (0, 0)) (by (with_reducible repeat (first | refine blk_drewN ?_ _ | refine blk_drew ?_ | refine blk_alloc ?_ _)); exact BK342.out) hb)
            have n5_ := Aside0.mk (below_step (by repeat (first | (with_reducible first | exact HB.out | apply below_alloc | apply pw_below_drewN | apply below_drew1 | refine below_set ?_ GE334.out | refine below_set ?_ GE335.out | refine below_set ?_ GE336.out | refine below_set ?_ GE342.out) | exact HB.out)) hb)
            clear HO_343001
            clear BK334
            clear BK335
            clear BK336
            clear BK342
            clear HB
            have HO_343001 := n0_
            have BK334 := n1_
            have BK335 := n2_
            have BK336 := n3_
            have BK342 := n4_
            have HB := n5_
            clear n0_ n1_ n2_ n3_ n4_ n5_
            (try clear hb)
            (try clear hb2)
            (try clear hk)
            (try clear hi)
            obtain ⟨Ao33, co33, eo33⟩ := Kd.R_slice HO_343001.out
            (first | subst eo33 | (injection eo33 with f1_ f2_ f3_; have f4_ := f1_.symm; have f5_ := f3_.symm; clear f1_ f2_ f3_; subst f4_; subst f5_))
            refine hK.out _ _ ⟨(blk_cell BK342.out 0).trans rfl, (blk_cell BK342.out 1).trans rfl, (blk_cell BK334.out 0).trans rfl, (blk_cell BK334.out 1).trans rfl⟩ (fun hHeld => ?_)
            clear hK K
            refine norm_ (a' := ?_) ?_ ?_
            rotate_left
            · show Act.put _ (some 28) _ = _
              simp only [Act.put, List.setIfInBounds_toArray, List.set_cons_zero, List.set_cons_succ, i64_w, i32_w]
              rfl
            refine pure_ (i := 5) (N := some 29) (v := ?_) (a' := ?_) #[true, true, true, true, true, true, false, false, false, false, false] rfl rfl (any_of HT_.out (by kernel_rfl)) (fun _ _ _ h => h) (Or.inl ⟨by rfl, ?_⟩) ?_ ?_
            rotate_left
            · intro w'
              go_simp
              with_reducible rfl
            rotate_left
            · simp only [Act.put, List.setIfInBounds_toArray, List.set_cons_zero, List.set_cons_succ, i64_w, i32_w]
              rfl
            refine pure_ (i := 6) (N := some 30) (v := undef) (a' := ?_) #[true, true, true, true, true, true, true, false, false, false, false] rfl rfl (any_of HT_.out (by kernel_rfl)) (fun _ _ _ h => h) (Or.inr ⟨by rfl, rfl⟩) ?_ ?_
            rotate_left
            · simp only [Act.put, List.setIfInBounds_toArray, List.set_cons_zero, List.set_cons_succ, i64_w, i32_w]
              rfl
            refine pure_ (i := 7) (N := some 31) (v := undef) (a' := ?_) #[true, true, true, true, true, true, true, true, false, false, false] rfl rfl (any_of HT_.out (by kernel_rfl)) (fun _ _ _ h => h) (Or.inr ⟨by rfl, rfl⟩) ?_ ?_
            rotate_left
            · simp only [Act.put, List.setIfInBounds_toArray, List.set_cons_zero, List.set_cons_succ, i64_w, i32_w]
              rfl
            refine pure_ (i := 8) (N := some 32) (v := undef) (a' := ?_) #[true, true, true, true, true, true, true, true, true, false, false] rfl rfl (any_of HT_.out (by kernel_rfl)) (fun _ _ _ h => h) (Or.inr ⟨by rfl, rfl⟩) ?_ ?_
            rotate_left
            · simp only [Act.put, List.setIfInBounds_toArray, List.set_cons_zero, List.set_cons_succ, i64_w, i32_w]
              rfl
            refine pure_ (i := 9) (N := some 33) (v := ?_) (a' := ?_) #[true, true, true, true, true, true, true, true, true, true, false] rfl rfl (any_of HT_.out (by kernel_rfl)) (fun _ _ _ h => h) (Or.inl ⟨by rfl, ?_⟩) ?_ ?_
            rotate_left
            · intro w'
              go_simp
              with_reducible rfl
            rotate_left
            · simp only [Act.put, List.setIfInBounds_toArray, List.set_cons_zero, List.set_cons_succ, i64_w, i32_w]
              rfl
            refine one_ (i := 10) (N := some 34) #[true, true, true, true, true, true, true, true, true, true, true] rfl rfl (one_of HT_.out (by kernel_rfl)) (by decide) (fun K hK => ?_)
            refine goes_ Tryd.func36 (by kernel_rfl) rfl #[.agg #[.int .i64 t338, .slice Ao33 x343001_1.length co33], .int .i64 x8_1, .bool true] (by rfl) rfl rfl (by (try simp only [List.map_toArray, List.map_cons, List.map_nil]); first | done | rfl | (simp only [List.length_drop, List.length_take]; rfl)) ?_
            with_reducible refine (estoversref01_put.calls t338 (fun k_ => some k_ = (.slice Ao33 x343001_1.length co33 : Value).ownBlock) (.slice Ao33 x343001_1.length co33) x343001_1 x8_1 true t344 w _ ?side1 ?side2 A26.out).mono ?_
            (case side1 => repeat (first | (with_reducible first | exact HB.out | apply below_alloc | apply pw_below_drewN | apply below_drew1 | refine below_set ?_ GE334.out | refine below_set ?_ GE335.out | refine below_set ?_ GE336.out | refine below_set ?_ GE342.out) | exact HB.out))
            (case side2 => exact Kd.R_tight rfl HO_343001.out)
            rintro e w34 ⟨rfl, hy0, hb, hkp⟩
            refine ⟨_, rfl, ?_⟩
            have n0_ := Aside0.mk (Kd.R_reok rfl hy0 (fun k_ e_ => HO_343001.out.1 k_ e_))
            have n1_ := Aside0.mk (blk_kept (by (with_reducible repeat (first | refine blk_drewN ?_ _ | refine blk_drew ?_ | refine blk_alloc ?_ _)); exact BK334.out) hkp (fun hs_ => (fun e_ => (Kd.R_ne HO_343001.out BK334.out (by decide)) e_) hs_))
            have n2_ := Aside0.mk (blk_kept (by (with_reducible repeat (first | refine blk_drewN ?_ _ | refine blk_drew ?_ | refine blk_alloc ?_ _)); exact BK335.out) hkp (fun hs_ => (fun e_ => (Kd.R_ne HO_343001.out BK335.out (by decide)) e_) hs_))
            have n3_ := Aside0.mk (blk_kept (by (with_reducible repeat (first | refine blk_drewN ?_ _ | refine blk_drew ?_ | refine blk_alloc ?_ _)); exact BK336.out) hkp (fun hs_ => (fun e_ => (Kd.R_ne HO_343001.out BK336.out (by decide)) e_) hs_))
            have n4_ := Aside0.mk (blk_kept (by (with_reducible repeat (first | refine blk_drewN ?_ _ | refine blk_drew ?_ | refine blk_alloc ?_ _)); exact BK342.out) hkp (fun hs_ => (fun e_ => (Kd.R_ne HO_343001.out BK342.out (by decide)) e_) hs_))
            have n5_ := Aside0.mk (hb)
            clear HO_343001
            clear BK334
            clear BK335
            clear BK336
            clear BK342
            clear HB
            have HO_343001 := n0_
            have BK334 := n1_
            have BK335 := n2_
            have BK336 := n3_
            have BK342 := n4_
            have HB := n5_
            clear n0_ n1_ n2_ n3_ n4_ n5_
            (try clear hb)
            (try clear hkp)
            (try clear hy0)
            refine hK.out _ _ ⟨(blk_cell BK342.out 0).trans rfl, (blk_cell BK342.out 1).trans rfl, (blk_cell BK334.out 0).trans rfl, (blk_cell BK334.out 1).trans rfl⟩ (fun hHeld => ?_)
            clear hK K
            refine norm_ (a' := ?_) ?_ ?_
            rotate_left
            · show Act.put _ (some 34) _ = _
              simp only [Act.put, List.setIfInBounds_toArray, List.set_cons_zero, List.set_cons_succ, i64_w, i32_w]
              rfl
            refine done_ (done_of HT_.out (by kernel_rfl)) ?_
            try go_wp2
            go_roundg k1
            case measure => have := HK1.out; omega
            case rel => exact ⟨(wrap64 (x8_1 + 1)), (t344), (.slice Ao33 x343001_1.length co33), (by first | rfl | (simp; done) | (simp [*]; done)), H', ⟨by have := HK1.out; omega⟩, ⟨by (with_reducible repeat (first | apply Kd.R_alloc | apply Kd.R_drewN | apply Kd.R_drew)); exact HO_343001.out⟩, ⟨by (with_reducible repeat (first | refine blk_drewN ?_ _ | refine blk_drew ?_ | refine blk_alloc ?_ _)); exact BK334.out⟩, ⟨by (with_reducible repeat (first | refine blk_drewN ?_ _ | refine blk_drew ?_ | refine blk_alloc ?_ _)); exact BK335.out⟩, ⟨by (with_reducible repeat (first | refine blk_drewN ?_ _ | refine blk_drew ?_ | refine blk_alloc ?_ _)); exact BK336.out⟩, ⟨by (with_reducible repeat (first | refine blk_drewN ?_ _ | refine blk_drew ?_ | refine blk_alloc ?_ _)); exact BK342.out⟩, ⟨by repeat (first | (with_reducible first | exact HB.out | apply below_alloc | apply pw_below_drewN | apply below_drew1 | refine below_set ?_ GE334.out | refine below_set ?_ GE335.out | refine below_set ?_ GE336.out | refine below_set ?_ GE342.out) | exact HB.out)⟩⟩
          · replace c25 := Bool.eq_false_iff.mpr c25
            subst c25
            have H1 : ((estoversref01_bit.f a1_0 l1_1 x8_1).bind fun t345 => ((estoversref01_put.f t338 x343001_1 x8_1 t345).bind fun t346 => (estoversref01_Or.l0 k1 (wrap64 (x8_1 + 1)) a0_0 l0_1 a1_0 l1_1 t338 t346))) = some (r1, r2, r3) := by rw [if_neg (show ¬ (false = true) by decide)] at H; exact H
            clear H
            have H := H1
            clear H1
            replace H := Option.bind_eq_some_iff.mp H
            obtain ⟨t345, A350, H⟩ := H
            replace H : ((estoversref01_put.f t338 x343001_1 x8_1 t345).bind fun t346 => (estoversref01_Or.l0 k1 (wrap64 (x8_1 + 1)) a0_0 l0_1 a1_0 l1_1 t338 t346)) = some (r1, r2, r3) := H
            have A35 := Aside0.mk A350
            clear A350
            replace H := Option.bind_eq_some_iff.mp H
            obtain ⟨t346, A360, H⟩ := H
            replace H : (estoversref01_Or.l0 k1 (wrap64 (x8_1 + 1)) a0_0 l0_1 a1_0 l1_1 t338 t346) = some (r1, r2, r3) := H
            have A36 := Aside0.mk A360
            clear A360
            have H' := Aside0.mk H
            clear H
            have hnb37 := NB334_335.out
            have hnc37 := NB335_334.out
            have hnb38 := NB334_336.out
            have hnc38 := NB336_334.out
            have hnb39 := NB334_342.out
            have hnc39 := NB342_334.out
            have hcz40_0 : wr.cell? ⟨gb334, 0, none⟩ = some (.int .i64 a0_0) := (blk_cell BK334.out 0).trans rfl
            have hcz40_1 : wr.cell? ⟨gb334, 1, none⟩ = some (.slice A0_1 l0_1.length c0_1) := (blk_cell BK334.out 1).trans rfl
            have hfz40_0 := blk_frozen BK334.out 0
            have hfz40_1 := blk_frozen BK334.out 1
            try go_wp2
            have n0_ := Aside0.mk (Kd.R_drew HO_343001.out)
            have n1_ := Aside0.mk (blk_drew BK334.out)
            have n2_ := Aside0.mk (blk_drew BK335.out)
            have n3_ := Aside0.mk (blk_drew BK336.out)
            have n4_ := Aside0.mk (blk_drew BK342.out)
            have n5_ := Aside0.mk (below_drew1 HB.out)
            clear HO_343001
            clear BK334
            clear BK335
            clear BK336
            clear BK342
            clear HB
            have HO_343001 := n0_
            have BK334 := n1_
            have BK335 := n2_
            have BK336 := n3_
            have BK342 := n4_
            have HB := n5_
            clear n0_ n1_ n2_ n3_ n4_ n5_
            refine start_ (n := 11) (S := fun w' => w'.cell? ⟨gb342, 0, none⟩ = some (.int .i64 t338) ∧ w'.cell? ⟨gb342, 1, none⟩ = some (u343001) ∧ w'.cell? ⟨gb334, 0, none⟩ = some (.int .i64 a0_0) ∧ w'.cell? ⟨gb334, 1, none⟩ = some (.slice A0_1 l0_1.length c0_1) ∧ w'.cell? ⟨gb335, 0, none⟩ = some (.int .i64 a1_0) ∧ w'.cell? ⟨gb335, 1, none⟩ = some (.slice A1_1 l1_1.length c1_1)) (ds := []) #[false, false, false, false, false, false, false, false, false, false, false] (by kernel_rfl) rfl rfl ⟨(blk_cell BK342.out 0).trans rfl, (blk_cell BK342.out 1).trans rfl, (blk_cell BK334.out 0).trans rfl, (blk_cell BK334.out 1).trans rfl, (blk_cell BK335.out 0).trans rfl, (blk_cell BK335.out 1).trans rfl⟩ (fun hHeld => ?_); refine with_tabW estoversref01_Or.tab8 estoversref01_Or.bits8 (fun HT_ HW_ => ?_)
            generalize wr.drew = w41 at HO_343001 BK334 BK335 BK336 BK342 HB hHeld ⊢
            refine pure_ (i := 1) (N := some 25) (v := ?_) (a' := ?_) #[false, true, false, false, false, false, false, false, false, false, false] rfl rfl (any_of HT_.out (by kernel_rfl)) (fun _ _ _ h => h) (Or.inl ⟨by rfl, ?_⟩) ?_ ?_
            rotate_left
            · intro w'
              go_simp
              with_reducible rfl
            rotate_left
            · simp only [Act.put, List.setIfInBounds_toArray, List.set_cons_zero, List.set_cons_succ, i64_w, i32_w]
              rfl
            refine pure_ (i := 3) (N := some 27) (v := ?_) (a' := ?_) #[false, true, false, true, false, false, false, false, false, false, false] rfl rfl (any_of HT_.out (by kernel_rfl)) (fun _ _ _ h => h) (Or.inl ⟨by rfl, ?_⟩) ?_ ?_
            rotate_left
            · intro w'
              go_simp
              with_reducible rfl
            rotate_left
            · simp only [Act.put, List.setIfInBounds_toArray, List.set_cons_zero, List.set_cons_succ, i64_w, i32_w]
              rfl
            refine take_ (i := 0) (N := some 24) (v := ?_) (a' := ?_) #[true, true, false, true, false, false, false, false, false, false, false] rfl rfl (take_ofW HT_.out HW_.out (by kernel_rfl)) (fun _ _ _ h => h) (Or.inl ⟨by rfl, ?_⟩) hHeld ?_ ?_
            rotate_left
            · rintro w' ⟨s0, s1, s2, s3, s4, s5⟩
              go_simp
              with_reducible rfl
            rotate_left
            · simp only [Act.put, List.setIfInBounds_toArray, List.set_cons_zero, List.set_cons_succ, i64_w, i32_w]
              rfl
            refine take_ (i := 2) (N := some 26) (v := ?_) (a' := ?_) #[true, true, true, true, false, false, false, false, false, false, false] rfl rfl (take_ofW HT_.out HW_.out (by kernel_rfl)) (fun _ _ _ h => h) (Or.inl ⟨by rfl, ?_⟩) hHeld ?_ ?_
            rotate_left
            · rintro w' ⟨s0, s1, s2, s3, s4, s5⟩
              go_simp
              with_reducible rfl
            rotate_left
            · simp only [Act.put, List.setIfInBounds_toArray, List.set_cons_zero, List.set_cons_succ, i64_w, i32_w]
              rfl
            refine one_ (i := 4) (N := some 28) #[true, true, true, true, true, false, false, false, false, false, false] rfl rfl (one_of HT_.out (by kernel_rfl)) (by decide) (fun K hK => ?_)
            refine goes_ Tryd.func34 (by kernel_rfl) rfl #[.agg #[.int .i64 a0_0, .slice A0_1 l0_1.length c0_1], .int .i64 x8_1] (by rfl) rfl rfl (by (try simp only [List.map_toArray, List.map_cons, List.map_nil]); first | done | rfl | (simp only [List.length_drop, List.length_take]; rfl)) ?_
            with_reducible refine (estoversref01_bit.calls a0_0 _ _ l0_1 x8_1 false _ ?side1 ?side2 A24.out).mono ?_
            (case side1 => repeat (first | exact (Kd.C_below HR0_1.out HB.out) | (with_reducible refine Kd.C_alloc ?_ _) | (with_reducible refine Kd.C_drewN ?_ _) | (with_reducible refine Kd.C_drew ?_)))
            (case side2 => exact HC0_1.out)
            rintro e w42 ⟨rfl, hb⟩
            refine ⟨_, rfl, ?_⟩
            have n0_ := Aside0.mk (Kd.R_below (by (with_reducible repeat (first | apply Kd.R_alloc | apply Kd.R_drewN | apply Kd.R_drew)); exact HO_343001.out) hb)
            have n1_ := Aside0.mk (blk_below (g := gb334) (o := .cells #[.int .i64 a0_0, .slice A0_1 l0_1.length c0_1] 24 (0, 0)) (by (with_reducible repeat (first | refine blk_drewN ?_ _ | refine blk_drew ?_ | refine blk_alloc ?_ _)); exact BK334.out) hb)
            have n2_ := Aside0.mk (blk_below (g := gb335) (o := .cells #[.int .i64 a1_0, .slice A1_1 l1_1.length c1_1] 24 (0, 0)) (by (with_reducible repeat (first | refine blk_drewN ?_ _ | refine blk_drew ?_ | refine blk_alloc ?_ _)); exact BK335.out) hb)
            have n3_ := Aside0.mk (blk_below (g := gb336) (o := .cells #[.int .i64 0, .slice none 0 0] 24 (0, 0)) (by (with_reducible repeat (first | refine blk_drewN ?_ _ | refine blk_drew ?_ | refine blk_alloc ?_ _)); exact BK336.out) hb)
            have n4_ := Aside0.mk (blk_below (g := gb342) (o := .cells #[.int .i64 t338, u343001] 24 (0, 0)) (by (with_reducible repeat (first | refine blk_drewN ?_ _ | refine blk_drew ?_ | refine blk_alloc ?_ _)); exact BK342.out) hb)
            have n5_ := Aside0.mk (below_step (by repeat (first | (with_reducible first | exact HB.out | apply below_alloc | apply pw_below_drewN | apply below_drew1 | refine below_set ?_ GE334.out | refine below_set ?_ GE335.out | refine below_set ?_ GE336.out | refine below_set ?_ GE342.out) | exact HB.out)) hb)
            clear HO_343001
            clear BK334
            clear BK335
            clear BK336
            clear BK342
            clear HB
            have HO_343001 := n0_
            have BK334 := n1_
            have BK335 := n2_
            have BK336 := n3_
            have BK342 := n4_
            have HB := n5_
            clear n0_ n1_ n2_ n3_ n4_ n5_
            (try clear hb)
            (try clear hb2)
            (try clear hk)
            (try clear hi)
            refine hK.out _ _ ⟨(blk_cell BK342.out 0).trans rfl, (blk_cell BK342.out 1).trans rfl, (blk_cell BK334.out 0).trans rfl, (blk_cell BK334.out 1).trans rfl, (blk_cell BK335.out 0).trans rfl, (blk_cell BK335.out 1).trans rfl⟩ (fun hHeld => ?_)
            clear hK K
            refine norm_ (a' := ?_) ?_ ?_
            rotate_left
            · show Act.put _ (some 28) _ = _
              simp only [Act.put, List.setIfInBounds_toArray, List.set_cons_zero, List.set_cons_succ, i64_w, i32_w]
              rfl
            refine pure_ (i := 5) (N := some 29) (v := ?_) (a' := ?_) #[true, true, true, true, true, true, false, false, false, false, false] rfl rfl (any_of HT_.out (by kernel_rfl)) (fun _ _ _ h => h) (Or.inl ⟨by rfl, ?_⟩) ?_ ?_
            rotate_left
            · intro w'
              go_simp
              with_reducible rfl
            rotate_left
            · simp only [Act.put, List.setIfInBounds_toArray, List.set_cons_zero, List.set_cons_succ, i64_w, i32_w]
              rfl
            refine pure_ (i := 7) (N := some 31) (v := ?_) (a' := ?_) #[true, true, true, true, true, true, false, true, false, false, false] rfl rfl (any_of HT_.out (by kernel_rfl)) (fun _ _ _ h => h) (Or.inl ⟨by rfl, ?_⟩) ?_ ?_
            rotate_left
            · intro w'
              go_simp
              with_reducible rfl
            rotate_left
            · simp only [Act.put, List.setIfInBounds_toArray, List.set_cons_zero, List.set_cons_succ, i64_w, i32_w]
              rfl
            refine take_ (i := 6) (N := some 30) (v := ?_) (a' := ?_) #[true, true, true, true, true, true, true, true, false, false, false] rfl rfl (take_ofW HT_.out HW_.out (by kernel_rfl)) (fun _ _ _ h => h) (Or.inl ⟨by rfl, ?_⟩) hHeld ?_ ?_
            rotate_left
            · rintro w' ⟨s0, s1, s2, s3, s4, s5⟩
              go_simp
              with_reducible rfl
            rotate_left
            · simp only [Act.put, List.setIfInBounds_toArray, List.set_cons_zero, List.set_cons_succ, i64_w, i32_w]
              rfl
            refine one_ (i := 8) (N := some 32) #[true, true, true, true, true, true, true, true, true, false, false] rfl rfl (one_of HT_.out (by kernel_rfl)) (by decide) (fun K hK => ?_)
            refine goes_ Tryd.func34 (by kernel_rfl) rfl #[.agg #[.int .i64 a1_0, .slice A1_1 l1_1.length c1_1], .int .i64 x8_1] (by rfl) rfl rfl (by (try simp only [List.map_toArray, List.map_cons, List.map_nil]); first | done | rfl | (simp only [List.length_drop, List.length_take]; rfl)) ?_
            with_reducible refine (estoversref01_bit.calls a1_0 _ _ l1_1 x8_1 t345 _ ?side1 ?side2 A35.out).mono ?_
            (case side1 => repeat (first | exact (Kd.C_below HR1_1.out HB.out) | (with_reducible refine Kd.C_alloc ?_ _) | (with_reducible refine Kd.C_drewN ?_ _) | (with_reducible refine Kd.C_drew ?_)))
            (case side2 => exact HC1_1.out)
            rintro e w43 ⟨rfl, hb⟩
            refine ⟨_, rfl, ?_⟩
            have n0_ := Aside0.mk (Kd.R_below (by (with_reducible repeat (first | apply Kd.R_alloc | apply Kd.R_drewN | apply Kd.R_drew)); exact HO_343001.out) hb)
            have n1_ := Aside0.mk (blk_below (g := gb334) (o := .cells #[.int .i64 a0_0, .slice A0_1 l0_1.length c0_1] 24 (0, 0)) (by (with_reducible repeat (first | refine blk_drewN ?_ _ | refine blk_drew ?_ | refine blk_alloc ?_ _)); exact BK334.out) hb)
            have n2_ := Aside0.mk (blk_below (g := gb335) (o := .cells #[.int .i64 a1_0, .slice A1_1 l1_1.length c1_1] 24 (0, 0)) (by (with_reducible repeat (first | refine blk_drewN ?_ _ | refine blk_drew ?_ | refine blk_alloc ?_ _)); exact BK335.out) hb)
            have n3_ := Aside0.mk (blk_below (g := gb336) (o := .cells #[.int .i64 0, .slice none 0 0] 24 (0, 0)) (by (with_reducible repeat (first | refine blk_drewN ?_ _ | refine blk_drew ?_ | refine blk_alloc ?_ _)); exact BK336.out) hb)
            have n4_ := Aside0.mk (blk_below (g := gb342) (o := .cells #[.int .i64 t338, u343001] 24 (0, 0)) (by (with_reducible repeat (first | refine blk_drewN ?_ _ | refine blk_drew ?_ | refine blk_alloc ?_ _)); exact BK342.out) hb)
            have n5_ := Aside0.mk (below_step (by repeat (first | (with_reducible first | exact HB.out | apply below_alloc | apply pw_below_drewN | apply below_drew1 | refine below_set ?_ GE334.out | refine below_set ?_ GE335.out | refine below_set ?_ GE336.out | refine below_set ?_ GE342.out) | exact HB.out)) hb)
            clear HO_343001
            clear BK334
            clear BK335
            clear BK336
            clear BK342
            clear HB
            have HO_343001 := n0_
            have BK334 := n1_
            have BK335 := n2_
            have BK336 := n3_
            have BK342 := n4_
            have HB := n5_
            clear n0_ n1_ n2_ n3_ n4_ n5_
            (try clear hb)
            (try clear hb2)
            (try clear hk)
            (try clear hi)
            obtain ⟨Ao44, co44, eo44⟩ := Kd.R_slice HO_343001.out
            (first | subst eo44 | (injection eo44 with f1_ f2_ f3_; have f4_ := f1_.symm; have f5_ := f3_.symm; clear f1_ f2_ f3_; subst f4_; subst f5_))
            refine hK.out _ _ ⟨(blk_cell BK342.out 0).trans rfl, (blk_cell BK342.out 1).trans rfl, (blk_cell BK334.out 0).trans rfl, (blk_cell BK334.out 1).trans rfl, (blk_cell BK335.out 0).trans rfl, (blk_cell BK335.out 1).trans rfl⟩ (fun hHeld => ?_)
            clear hK K
            refine norm_ (a' := ?_) ?_ ?_
            rotate_left
            · show Act.put _ (some 32) _ = _
              simp only [Act.put, List.setIfInBounds_toArray, List.set_cons_zero, List.set_cons_succ, i64_w, i32_w]
              rfl
            refine pure_ (i := 9) (N := some 33) (v := ?_) (a' := ?_) #[true, true, true, true, true, true, true, true, true, true, false] rfl rfl (any_of HT_.out (by kernel_rfl)) (fun _ _ _ h => h) (Or.inl ⟨by rfl, ?_⟩) ?_ ?_
            rotate_left
            · intro w'
              go_simp
              with_reducible rfl
            rotate_left
            · simp only [Act.put, List.setIfInBounds_toArray, List.set_cons_zero, List.set_cons_succ, i64_w, i32_w]
              rfl
            refine one_ (i := 10) (N := some 34) #[true, true, true, true, true, true, true, true, true, true, true] rfl rfl (one_of HT_.out (by kernel_rfl)) (by decide) (fun K hK => ?_)
            refine goes_ Tryd.func36 (by kernel_rfl) rfl #[.agg #[.int .i64 t338, .slice Ao44 x343001_1.length co44], .int .i64 x8_1, .bool t345] (by rfl) rfl rfl (by (try simp only [List.map_toArray, List.map_cons, List.map_nil]); first | done | rfl | (simp only [List.length_drop, List.length_take]; rfl)) ?_
            with_reducible refine (estoversref01_put.calls t338 (fun k_ => some k_ = (.slice Ao44 x343001_1.length co44 : Value).ownBlock) (.slice Ao44 x343001_1.length co44) x343001_1 x8_1 t345 t346 w _ ?side1 ?side2 A36.out).mono ?_
            (case side1 => repeat (first | (with_reducible first | exact HB.out | apply below_alloc | apply pw_below_drewN | apply below_drew1 | refine below_set ?_ GE334.out | refine below_set ?_ GE335.out | refine below_set ?_ GE336.out | refine below_set ?_ GE342.out) | exact HB.out))
            (case side2 => exact Kd.R_tight rfl HO_343001.out)
            rintro e w45 ⟨rfl, hy0, hb, hkp⟩
            refine ⟨_, rfl, ?_⟩
            have n0_ := Aside0.mk (Kd.R_reok rfl hy0 (fun k_ e_ => HO_343001.out.1 k_ e_))
            have n1_ := Aside0.mk (blk_kept (by (with_reducible repeat (first | refine blk_drewN ?_ _ | refine blk_drew ?_ | refine blk_alloc ?_ _)); exact BK334.out) hkp (fun hs_ => (fun e_ => (Kd.R_ne HO_343001.out BK334.out (by decide)) e_) hs_))
            have n2_ := Aside0.mk (blk_kept (by (with_reducible repeat (first | refine blk_drewN ?_ _ | refine blk_drew ?_ | refine blk_alloc ?_ _)); exact BK335.out) hkp (fun hs_ => (fun e_ => (Kd.R_ne HO_343001.out BK335.out (by decide)) e_) hs_))
            have n3_ := Aside0.mk (blk_kept (by (with_reducible repeat (first | refine blk_drewN ?_ _ | refine blk_drew ?_ | refine blk_alloc ?_ _)); exact BK336.out) hkp (fun hs_ => (fun e_ => (Kd.R_ne HO_343001.out BK336.out (by decide)) e_) hs_))
            have n4_ := Aside0.mk (blk_kept (by (with_reducible repeat (first | refine blk_drewN ?_ _ | refine blk_drew ?_ | refine blk_alloc ?_ _)); exact BK342.out) hkp (fun hs_ => (fun e_ => (Kd.R_ne HO_343001.out BK342.out (by decide)) e_) hs_))
            have n5_ := Aside0.mk (hb)
            clear HO_343001
            clear BK334
            clear BK335
            clear BK336
            clear BK342
            clear HB
            have HO_343001 := n0_
            have BK334 := n1_
            have BK335 := n2_
            have BK336 := n3_
            have BK342 := n4_
            have HB := n5_
            clear n0_ n1_ n2_ n3_ n4_ n5_
            (try clear hb)
            (try clear hkp)
            (try clear hy0)
            refine hK.out _ _ ⟨(blk_cell BK342.out 0).trans rfl, (blk_cell BK342.out 1).trans rfl, (blk_cell BK334.out 0).trans rfl, (blk_cell BK334.out 1).trans rfl, (blk_cell BK335.out 0).trans rfl, (blk_cell BK335.out 1).trans rfl⟩ (fun hHeld => ?_)
            clear hK K
            refine norm_ (a' := ?_) ?_ ?_
            rotate_left
            · show Act.put _ (some 34) _ = _
              simp only [Act.put, List.setIfInBounds_toArray, List.set_cons_zero, List.set_cons_succ, i64_w, i32_w]
              rfl
            refine done_ (done_of HT_.out (by kernel_rfl)) ?_
            try go_wp2
            go_roundg k1
            case measure => have := HK1.out; omega
            case rel => exact ⟨(wrap64 (x8_1 + 1)), (t346), (.slice Ao44 x343001_1.length co44), (by first | rfl | (simp; done) | (simp [*]; done)), H', ⟨by have := HK1.out; omega⟩, ⟨by (with_reducible repeat (first | apply Kd.R_alloc | apply Kd.R_drewN | apply Kd.R_drew)); exact HO_343001.out⟩, ⟨by (with_reducible repeat (first | refine blk_drewN ?_ _ | refine blk_drew ?_ | refine blk_alloc ?_ _)); exact BK334.out⟩, ⟨by (with_reducible repeat (first | refine blk_drewN ?_ _ | refine blk_drew ?_ | refine blk_alloc ?_ _)); exact BK335.out⟩, ⟨by (with_reducible repeat (first | refine blk_drewN ?_ _ | refine blk_drew ?_ | refine blk_alloc ?_ _)); exact BK336.out⟩, ⟨by (with_reducible repeat (first | refine blk_drewN ?_ _ | refine blk_drew ?_ | refine blk_alloc ?_ _)); exact BK342.out⟩, ⟨by repeat (first | (with_reducible first | exact HB.out | apply below_alloc | apply pw_below_drewN | apply below_drew1 | refine below_set ?_ GE334.out | refine below_set ?_ GE335.out | refine below_set ?_ GE336.out | refine below_set ?_ GE342.out) | exact HB.out)⟩⟩
        · rw [if_neg c23] at H
          have c23b0 : decide (x8_1 < a0_0) = false := decide_eq_false c23
          clear c23
          simp only [Option.some.injEq, Prod.mk.injEq] at H
          obtain ⟨rfl, rfl, rfl⟩ := H
          have hnb46 := NB334_335.out
          have hnc46 := NB335_334.out
          have hnb47 := NB334_336.out
          have hnc47 := NB336_334.out
          have hnb48 := NB334_342.out
          have hnc48 := NB342_334.out
          have hcz49_0 : wr.cell? ⟨gb334, 0, none⟩ = some (.int .i64 a0_0) := (blk_cell BK334.out 0).trans rfl
          have hcz49_1 : wr.cell? ⟨gb334, 1, none⟩ = some (.slice A0_1 l0_1.length c0_1) := (blk_cell BK334.out 1).trans rfl
          have hfz49_0 := blk_frozen BK334.out 0
          have hfz49_1 := blk_frozen BK334.out 1
          have hnb50 := NB342_335.out
          have hnc50 := NB335_342.out
          have hnb51 := NB342_336.out
          have hnc51 := NB336_342.out
          have hcz52_0 : wr.cell? ⟨gb342, 0, none⟩ = some (.int .i64 t338) := (blk_cell BK342.out 0).trans rfl
          have hcz52_1 : wr.cell? ⟨gb342, 1, none⟩ = some (u343001) := (blk_cell BK342.out 1).trans rfl
          have hfz52_0 := blk_frozen BK342.out 0
          have hfz52_1 := blk_frozen BK342.out 1
          have hnb53 := NB336_335.out
          have hnc53 := NB335_336.out
          have hcz54_0 : wr.cell? ⟨gb336, 0, none⟩ = some (.int .i64 0) := (blk_cell BK336.out 0).trans rfl
          have hcz54_1 : wr.cell? ⟨gb336, 1, none⟩ = some (.slice none 0 0) := (blk_cell BK336.out 1).trans rfl
          have hfz54_0 := blk_frozen BK336.out 0
          have hfz54_1 := blk_frozen BK336.out 1
          obtain ⟨Ao55, co55, eo55⟩ := Kd.R_slice HO_343001.out
          subst eo55
          go_wp2
          refine bodyPost_ret (results_ct rfl _ _ gb336 24 #[.int .i64 t338, .slice Ao55 x343001_1.length co55] (0, 0) _ rfl (by (with_reducible repeat (first | refine blk_drewN ?_ _ | refine blk_drew ?_ | refine blk_alloc ?_ _)); refine blk_put (cs := #[.int .i64 t338, .slice none 0 0]) ?_ 1 _ rfl; (with_reducible repeat (first | refine blk_drewN ?_ _ | refine blk_drew ?_ | refine blk_alloc ?_ _)); refine blk_put (cs := #[.int .i64 0, .slice none 0 0]) ?_ 0 _ rfl; (with_reducible repeat (first | refine blk_drewN ?_ _ | refine blk_drew ?_ | refine blk_alloc ?_ _)); exact BK336.out) Tryd.underlying24 rfl (by kernel_rfl)) rfl ?_
          exact ⟨_, by first | rfl | (simp [errW_none, errW_some] <;> rfl) | (simp [*, errW_none, errW_some] <;> rfl), by (with_reducible repeat (first | apply Kd.R_alloc | apply Kd.R_drewN | apply Kd.R_drew)); exact Kd.R_mono (Kd.R_far (p := ⟨gb336, 1, none⟩) (Kd.R_far (p := ⟨gb336, 0, none⟩) (Kd.R_types HO_343001.out BK336.out (by decide)) (fun _ hk => hk.2) (.int .i64 t338)) (fun _ hk => hk.2) (.slice Ao55 x343001_1.length co55)) (fun _ hk => trivial), by repeat (first | (with_reducible first | exact HB.out | apply below_alloc | apply pw_below_drewN | apply below_drew1 | refine below_set ?_ GE334.out | refine below_set ?_ GE335.out | refine below_set ?_ GE336.out | refine below_set ?_ GE342.out) | exact HB.out)⟩
  · rw [if_neg c4] at H
    have c4b0 : (t337 == 0) = false := beq_eq_false_iff_ne.mpr c4
    have c4b1 : (t337 != 0) = true := bne_iff_ne.mpr c4
    simp only [Option.some.injEq, Prod.mk.injEq] at H
    obtain ⟨rfl, rfl, rfl⟩ := H
    go_enter Tryd.func30, Tryd.ntmps30
    go_wp2_with (first | ((with_reducible refine gate_dst (N := 2) rfl ?_); refine box_event ?hg (N := 2) ?hd (cs := #[.int .i64 a0_0, .slice A0_1 l0_1.length c0_1]) (t := 24) ?hr ?_; (case hd => rfl); (case hg => rfl); (case hr => first | (go_simp; done) | (go_simp; rfl)); intro gb334 hg w56 hbox hb; have n0_ := Aside0.mk (below_step (by repeat (first | (with_reducible first | exact HB.out | apply below_alloc | apply pw_below_drewN | apply below_drew1) | exact HB.out)) hb); have n1_ := Aside0.mk (hbox); have n2_ := Aside0.mk ((by rw [hg]; exact (below_size (by repeat (first | (with_reducible first | exact HB.out | apply below_alloc | apply pw_below_drewN | apply below_drew1) | exact HB.out))) : w.heap.size ≤ gb334)); have n3_ := Aside0.mk ((by rw [hg]; exact (below_size (by repeat (first | (with_reducible first | exact HB.out | apply below_alloc | apply pw_below_drewN | apply below_drew1) | exact HB.out))) : w.heap.size ≤ gb334)); clear HB; have HB := n0_; have BK334 := n1_; have GW334 := n2_; have GE334 := n3_; clear n0_ n1_ n2_ n3_; clear hb hbox hg) | ((with_reducible refine gate_dst (N := 3) rfl ?_); refine box_event ?hg (N := 3) ?hd (cs := #[.int .i64 a1_0, .slice A1_1 l1_1.length c1_1]) (t := 24) ?hr ?_; (case hd => rfl); (case hg => rfl); (case hr => first | (go_simp; done) | (go_simp; rfl)); intro gb335 hg w57 hbox hb; have n0_ := Aside0.mk (blk_below (g := gb334) (o := .cells #[.int .i64 a0_0, .slice A0_1 l0_1.length c0_1] 24 (0, 0)) (by (with_reducible repeat (first | refine blk_drewN ?_ _ | refine blk_drew ?_ | refine blk_alloc ?_ _)); exact BK334.out) hb); have n1_ := Aside0.mk (below_step (by repeat (first | (with_reducible first | exact HB.out | apply below_alloc | apply pw_below_drewN | apply below_drew1 | refine below_set ?_ GE334.out) | exact HB.out)) hb); have n2_ := Aside0.mk (hbox); have n3_ := Aside0.mk ((by rw [hg]; exact (below_size (by repeat (first | (with_reducible first | exact HB.out | apply below_alloc | apply pw_below_drewN | apply below_drew1 | refine below_set ?_ GE334.out) | exact HB.out))) : w.heap.size ≤ gb335)); have n4_ := Aside0.mk ((by rw [hg]; exact (below_size (by repeat (first | (with_reducible first | exact HB.out | apply below_alloc | apply pw_below_drewN | apply below_drew1 | refine below_set ?_ GE334.out) | exact HB.out))) : w.heap.size ≤ gb335)); have n5_ := Aside0.mk ((by rw [hg]; exact Nat.ne_of_lt (blk_lt (g := gb334) (o := .cells #[.int .i64 a0_0, .slice A0_1 l0_1.length c0_1] 24 (0, 0)) (by (with_reducible repeat (first | refine blk_drewN ?_ _ | refine blk_drew ?_ | refine blk_alloc ?_ _)); exact BK334.out)) : gb334 ≠ gb335)); have n6_ := Aside0.mk ((by rw [hg]; exact Nat.ne_of_gt (blk_lt (g := gb334) (o := .cells #[.int .i64 a0_0, .slice A0_1 l0_1.length c0_1] 24 (0, 0)) (by (with_reducible repeat (first | refine blk_drewN ?_ _ | refine blk_drew ?_ | refine blk_alloc ?_ _)); exact BK334.out)) : gb335 ≠ gb334)); clear BK334; clear HB; have BK334 := n0_; have HB := n1_; have BK335 := n2_; have GW335 := n3_; have GE335 := n4_; have NB334_335 := n5_; have NB335_334 := n6_; clear n0_ n1_ n2_ n3_ n4_ n5_ n6_; clear hb hbox hg) | ((with_reducible refine gate_dst (N := 4) rfl ?_); refine box_event ?hg (N := 4) ?hd (cs := #[.int .i64 0, .slice none 0 0]) (t := 24) ?hr ?_; (case hd => rfl); (case hg => rfl); (case hr => first | (go_simp; done) | (go_simp; rfl)); intro gb336 hg w58 hbox hb; have n0_ := Aside0.mk (blk_below (g := gb334) (o := .cells #[.int .i64 a0_0, .slice A0_1 l0_1.length c0_1] 24 (0, 0)) (by (with_reducible repeat (first | refine blk_drewN ?_ _ | refine blk_drew ?_ | refine blk_alloc ?_ _)); exact BK334.out) hb); have n1_ := Aside0.mk (blk_below (g := gb335) (o := .cells #[.int .i64 a1_0, .slice A1_1 l1_1.length c1_1] 24 (0, 0)) (by (with_reducible repeat (first | refine blk_drewN ?_ _ | refine blk_drew ?_ | refine blk_alloc ?_ _)); exact BK335.out) hb); have n2_ := Aside0.mk (below_step (by repeat (first | (with_reducible first | exact HB.out | apply below_alloc | apply pw_below_drewN | apply below_drew1 | refine below_set ?_ GE334.out | refine below_set ?_ GE335.out) | exact HB.out)) hb); have n3_ := Aside0.mk (hbox); have n4_ := Aside0.mk ((by rw [hg]; exact (below_size (by repeat (first | (with_reducible first | exact HB.out | apply below_alloc | apply pw_below_drewN | apply below_drew1 | refine below_set ?_ GE334.out | refine below_set ?_ GE335.out) | exact HB.out))) : w.heap.size ≤ gb336)); have n5_ := Aside0.mk ((by rw [hg]; exact (below_size (by repeat (first | (with_reducible first | exact HB.out | apply below_alloc | apply pw_below_drewN | apply below_drew1 | refine below_set ?_ GE334.out | refine below_set ?_ GE335.out) | exact HB.out))) : w.heap.size ≤ gb336)); have n6_ := Aside0.mk ((by rw [hg]; exact Nat.ne_of_lt (blk_lt (g := gb334) (o := .cells #[.int .i64 a0_0, .slice A0_1 l0_1.length c0_1] 24 (0, 0)) (by (with_reducible repeat (first | refine blk_drewN ?_ _ | refine blk_drew ?_ | refine blk_alloc ?_ _)); exact BK334.out)) : gb334 ≠ gb336)); have n7_ := Aside0.mk ((by rw [hg]; exact Nat.ne_of_gt (blk_lt (g := gb334) (o := .cells #[.int .i64 a0_0, .slice A0_1 l0_1.length c0_1] 24 (0, 0)) (by (with_reducible repeat (first | refine blk_drewN ?_ _ | refine blk_drew ?_ | refine blk_alloc ?_ _)); exact BK334.out)) : gb336 ≠ gb334)); have n8_ := Aside0.mk ((by rw [hg]; exact Nat.ne_of_lt (blk_lt (g := gb335) (o := .cells #[.int .i64 a1_0, .slice A1_1 l1_1.length c1_1] 24 (0, 0)) (by (with_reducible repeat (first | refine blk_drewN ?_ _ | refine blk_drew ?_ | refine blk_alloc ?_ _)); exact BK335.out)) : gb335 ≠ gb336)); have n9_ := Aside0.mk ((by rw [hg]; exact Nat.ne_of_gt (blk_lt (g := gb335) (o := .cells #[.int .i64 a1_0, .slice A1_1 l1_1.length c1_1] 24 (0, 0)) (by (with_reducible repeat (first | refine blk_drewN ?_ _ | refine blk_drew ?_ | refine blk_alloc ?_ _)); exact BK335.out)) : gb336 ≠ gb335)); clear BK334; clear BK335; clear HB; have BK334 := n0_; have BK335 := n1_; have HB := n2_; have BK336 := n3_; have GW336 := n4_; have GE336 := n5_; have NB334_336 := n6_; have NB336_334 := n7_; have NB335_336 := n8_; have NB336_335 := n9_; clear n0_ n1_ n2_ n3_ n4_ n5_ n6_ n7_ n8_ n9_; clear hb hbox hg; have hnb59 := NB334_335.out; have hnc59 := NB335_334.out; have hnb60 := NB334_336.out; have hnc60 := NB336_334.out; have hcz61_0 : w58.cell? ⟨gb334, 0, none⟩ = some (.int .i64 a0_0) := (blk_cell BK334.out 0).trans rfl; have hcz61_1 : w58.cell? ⟨gb334, 1, none⟩ = some (.slice A0_1 l0_1.length c0_1) := (blk_cell BK334.out 1).trans rfl; have hfz61_0 := blk_frozen BK334.out 0; have hfz61_1 := blk_frozen BK334.out 1; have hnb62 := NB335_336.out; have hnc62 := NB336_335.out; have hcz63_0 : w58.cell? ⟨gb335, 0, none⟩ = some (.int .i64 a1_0) := (blk_cell BK335.out 0).trans rfl; have hcz63_1 : w58.cell? ⟨gb335, 1, none⟩ = some (.slice A1_1 l1_1.length c1_1) := (blk_cell BK335.out 1).trans rfl; have hfz63_0 := blk_frozen BK335.out 0; have hfz63_1 := blk_frozen BK335.out 1) | ((with_reducible refine gate_callee (f := 45) rfl ?_); refine goesL_ (some 11) rfl rfl Tryd.func45 (by kernel_rfl) rfl #[.agg #[.int .i64 a0_0, .slice A0_1 l0_1.length c0_1], .agg #[.int .i64 a1_0, .slice A1_1 l1_1.length c1_1]] rfl (by (try simp only [List.map_toArray, List.map_cons, List.map_nil]); first | done | rfl | (simp only [List.length_drop, List.length_take]; rfl)) ?_; (with_reducible refine (estoversref01_both.calls k a0_0 _ _ l0_1 a1_0 _ _ l1_1 t337 _ ?side1 ?side2 ?side3 ?side4 A3.out).mono ?_); (case side1 => repeat (first | exact (Kd.C_below HR0_1.out HB.out) | (with_reducible refine Kd.C_alloc ?_ _) | (with_reducible refine Kd.C_drewN ?_ _) | (with_reducible refine Kd.C_drew ?_))); (case side2 => exact HC0_1.out); (case side3 => repeat (first | exact (Kd.C_below HR1_1.out HB.out) | (with_reducible refine Kd.C_alloc ?_ _) | (with_reducible refine Kd.C_drewN ?_ _) | (with_reducible refine Kd.C_drew ?_))); (case side4 => exact HC1_1.out); rintro e w64 ⟨rfl, hb⟩; refine ⟨_, rfl, ?_⟩; have n0_ := Aside0.mk (blk_below (g := gb334) (o := .cells #[.int .i64 a0_0, .slice A0_1 l0_1.length c0_1] 24 (0, 0)) (by (with_reducible repeat (first | refine blk_drewN ?_ _ | refine blk_drew ?_ | refine blk_alloc ?_ _)); exact BK334.out) hb); have n1_ := Aside0.mk (blk_below (g := gb335) (o := .cells #[.int .i64 a1_0, .slice A1_1 l1_1.length c1_1] 24 (0, 0)) (by (with_reducible repeat (first | refine blk_drewN ?_ _ | refine blk_drew ?_ | refine blk_alloc ?_ _)); exact BK335.out) hb); have n2_ := Aside0.mk (blk_below (g := gb336) (o := .cells #[.int .i64 0, .slice none 0 0] 24 (0, 0)) (by (with_reducible repeat (first | refine blk_drewN ?_ _ | refine blk_drew ?_ | refine blk_alloc ?_ _)); exact BK336.out) hb); have n3_ := Aside0.mk (below_step (by repeat (first | (with_reducible first | exact HB.out | apply below_alloc | apply pw_below_drewN | apply below_drew1 | refine below_set ?_ GE334.out | refine below_set ?_ GE335.out | refine below_set ?_ GE336.out) | exact HB.out)) hb); clear BK334; clear BK335; clear BK336; clear HB; have BK334 := n0_; have BK335 := n1_; have BK336 := n2_; have HB := n3_; clear n0_ n1_ n2_ n3_; (try clear hb); (try clear hb2); (try clear hk); (try clear hi); have hcz65_0 : w64.cell? ⟨gb336, 0, none⟩ = some (.int .i64 0) := (blk_cell BK336.out 0).trans rfl; have hcz65_1 : w64.cell? ⟨gb336, 1, none⟩ = some (.slice none 0 0) := (blk_cell BK336.out 1).trans rfl; have hfz65_0 := blk_frozen BK336.out 0; have hfz65_1 := blk_frozen BK336.out 1))
    refine bodyPost_ret (results_ct rfl _ _ gb336 24 #[.int .i64 0, .slice none 0 0] (0, 0) _ rfl (by (with_reducible repeat (first | refine blk_drewN ?_ _ | refine blk_drew ?_ | refine blk_alloc ?_ _)); refine blk_put (cs := #[.int .i64 0, .slice none 0 0]) ?_ 1 _ rfl; (with_reducible repeat (first | refine blk_drewN ?_ _ | refine blk_drew ?_ | refine blk_alloc ?_ _)); refine blk_put (cs := #[.int .i64 0, .slice none 0 0]) ?_ 0 _ rfl; (with_reducible repeat (first | refine blk_drewN ?_ _ | refine blk_drew ?_ | refine blk_alloc ?_ _)); exact BK336.out) Tryd.underlying24 rfl (by kernel_rfl)) rfl ?_
    exact ⟨_, by first | rfl | (simp [errW_none, errW_some] <;> rfl) | (simp [*, errW_none, errW_some] <;> rfl), by first | exact Kd.R_nil _ _ _ _ _ | exact Kd.N_nil _ _ _ _ _ | exact Kd.V_nil _ _ _ _ _ | exact Kd.Q_nil _ _ _ _ _ | exact Kd.S_nil _ _ _ _ _, by repeat (first | (with_reducible first | exact HB.out | apply below_alloc | apply pw_below_drewN | apply below_drew1 | refine below_set ?_ GE334.out | refine below_set ?_ GE335.out | refine below_set ?_ GE336.out) | exact HB.out)⟩

end Go.Proofs.YtinhjcoikhpblaaDoor.Q
