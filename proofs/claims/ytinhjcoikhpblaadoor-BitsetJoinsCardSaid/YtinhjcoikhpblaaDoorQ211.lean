-- Written by wip/stubprint.py for this claim. Lean checks it.
import Derived.Test.YtinhjcoikhpblaaDoorQ0
import Derived.Test.YtinhjcoikhpblaaDoorQ100
import Derived.Test.YtinhjcoikhpblaaDoorEClone
namespace Go.Proofs.YtinhjcoikhpblaaDoor.Q
open Go.RowKit Go.Proofs.YtinhjcoikhpblaaDoorW.PrintWords Go.Proofs.YtinhjcoikhpblaaDoorW.PrintLast Go.Proofs.YtinhjcoikhpblaaDoorW.PrintMore
attribute [local go_sem] max2_int min2_int max_two min_two max_three min_three max_four min_four
set_option linter.unusedVariables false
set_option linter.unusedSimpArgs false

/-! ### bitset_Not: function 31 -/
def bitset_Not.l0 : Nat → Int → Int → Int → List Int → Int → List Int → Option (Int × List Int × Int)
  | 0, _, _, _, _, _, _ => none
  | k + 1, x22, x23, x348000, x348001, x354000, x354001 => if x23 < x22 then (if 0 ≤ x23 then (if x23 < (x354001.length : Int) then (bitset_Not.l0 k x22 (wrap64 (x23 + 1)) x348000 x348001 x354000 (x354001.set (x23 : Int).toNat (Go.bits .xor .u64 18446744073709551615 (rd x354001 x23)))) else (none)) else (none)) else (if (Int.tmod x348000 64) > 0 then (if 0 ≤ (wrap64 ((x354001.length : Int) - 1)) then (if (wrap64 ((x354001.length : Int) - 1)) < (x354001.length : Int) then (if 0 ≤ (Int.tmod x348000 64) then (some (x354000, (x354001.set ((wrap64 ((x354001.length : Int) - 1)) : Int).toNat (Go.bits .and .u64 (rd x354001 (wrap64 ((x354001.length : Int) - 1))) (IntKind.u64.wrap ((shl .u64 1 (Int.tmod x348000 64)) - 1)))), 0)) else (none)) else (none)) else (none)) else (some (x354000, x354001, 0)))
def bitset_Not.f (k : Nat) (a0_0 : Int) (l0_1 : List Int) : Option (Int × List Int × Int) := (bitset_Check.f k a0_0 l0_1).bind fun t349 => (if t349 = 0 then ((slices_Clone_uint64_uint64.f l0_1).bind fun t350 => (bitset_Not.l0 k (t350.length : Int) 0 a0_0 l0_1 a0_0 t350)) else (some (0, ([] : List Int), t349)))
def bitset_Not.T4 : Bool × List (List Nat × List Nat) := (true, [([], []), ([0], [0]), ([], []), ([2], [2]), ([3], [3]), ([1, 4], [1, 4]), ([], []), ([6, 5, 4, 0, 1, 2, 3, 4, 5, 6], [5, 6])])
def bitset_Not.B4 : List Nat := [0, 1, 0, 4, 12, 31, 0, 127]
theorem bitset_Not.tab4 : rtab .any (opsOf Tryd.f31 4) = bitset_Not.T4 := by kernel_rfl
theorem bitset_Not.bits4 : waitsOk bitset_Not.T4.2 bitset_Not.B4 = true := by kernel_rfl
def bitset_Not.T8 : Bool × List (List Nat × List Nat) := (true, [([], []), ([0], [0]), ([], []), ([], []), ([3], [3]), ([], []), ([4, 5], [4, 5]), ([6], [6]), ([7], [7]), ([1, 2, 0, 1, 2, 3, 4, 5, 6, 7, 8], [1, 2]), ([9, 8, 0, 1, 2, 3, 4, 5, 6, 7, 8], [8, 9])])
def bitset_Not.B8 : List Nat := [0, 1, 0, 0, 8, 0, 56, 120, 248, 511, 1023]
theorem bitset_Not.tab8 : rtab .any (opsOf Tryd.f31 8) = bitset_Not.T8 := by kernel_rfl
theorem bitset_Not.bits8 : waitsOk bitset_Not.T8.2 bitset_Not.B8 = true := by kernel_rfl
def bitset_Not.T12 : Bool × List (List Nat × List Nat) := (true, [([], []), ([0], [0]), ([], []), ([2], [2]), ([3], [3]), ([4], [4]), ([1, 5], [1, 5]), ([6], [6]), ([], []), ([8], [8]), ([9], [9]), ([7, 10], [7, 10]), ([1, 5, 0, 1, 2, 3, 4, 5, 6, 7, 8, 9, 10, 11], [1, 5]), ([12, 11, 0, 1, 2, 3, 4, 5, 6, 7, 8, 9, 10, 11], [11, 12])])
def bitset_Not.B12 : List Nat := [0, 1, 0, 4, 12, 28, 63, 127, 0, 256, 768, 2047, 4095, 8191]
theorem bitset_Not.tab12 : rtab .any (opsOf Tryd.f31 12) = bitset_Not.T12 := by kernel_rfl
theorem bitset_Not.bits12 : waitsOk bitset_Not.T12.2 bitset_Not.B12 = true := by kernel_rfl
set_option maxHeartbeats 8000000 in
set_option maxRecDepth 100000 in
theorem bitset_Not.calls (k : Nat) (a0_0 : Int) (A0_1 : Option Addr) (c0_1 : Nat) (l0_1 : List Int) (r1 : Int) (r2 : List Int) (r3 : Int) (w : World) (hr0_1 : Kd.C (Kd.int .u64) w A0_1 l0_1.length l0_1) (hc0_1 : l0_1.length ≤ c0_1) (h : bitset_Not.f k a0_0 l0_1 = some (r1, r2, r3)) :
    Calls Tryd.prog 31 #[.agg #[.int .i64 a0_0, .slice A0_1 l0_1.length c0_1]] w fun e w' => ∃ v1_ : Value, e = .returned (.tuple #[.agg #[.int .i64 r1, v1_], .int .i64 r3]) ∧ Kd.R (Kd.int .u64) 42 w' w.heap.size (fun _ => True) v1_ r2 ∧ Below w.heap.size w w' := by
  have hu24 := Tryd.underlying24
  have HR0_1 := Aside0.mk hr0_1
  have HC0_1 := Aside0.mk hc0_1
  clear hr0_1 hc0_1
  have HB := Aside0.mk (Below.refl w.heap.size w)
  have H : ((bitset_Check.f k a0_0 l0_1).bind fun t349 => (if t349 = 0 then ((slices_Clone_uint64_uint64.f l0_1).bind fun t350 => (bitset_Not.l0 k (t350.length : Int) 0 a0_0 l0_1 a0_0 t350)) else (some (0, ([] : List Int), t349)))) = some (r1, r2, r3) := h
  clear h
  replace H := Option.bind_eq_some_iff.mp H
  obtain ⟨t349, A20, H⟩ := H
  replace H : (if t349 = 0 then ((slices_Clone_uint64_uint64.f l0_1).bind fun t350 => (bitset_Not.l0 k (t350.length : Int) 0 a0_0 l0_1 a0_0 t350)) else (some (0, ([] : List Int), t349))) = some (r1, r2, r3) := H
  have A2 := Aside0.mk A20
  clear A20
  by_cases c3 : t349 = 0
  · rw [if_pos c3] at H
    have c3b0 : (t349 == 0) = true := beq_iff_eq.mpr c3
    have c3b1 : (t349 != 0) = false := bne_eq_false_iff_eq.mpr c3
    clear c3
    replace H := Option.bind_eq_some_iff.mp H
    obtain ⟨t350, A40, H⟩ := H
    replace H : (bitset_Not.l0 k (t350.length : Int) 0 a0_0 l0_1 a0_0 t350) = some (r1, r2, r3) := H
    have A4 := Aside0.mk A40
    clear A40
    have H' := Aside0.mk H
    clear H
    go_enter Tryd.func31, Tryd.ntmps31
    try go_wp2_with (first | ((with_reducible refine gate_dst (N := 1) rfl ?_); refine box_event ?hg (N := 1) ?hd (cs := #[.int .i64 a0_0, .slice A0_1 l0_1.length c0_1]) (t := 24) ?hr ?_; (case hd => rfl); (case hg => rfl); (case hr => first | (go_simp; done) | (go_simp; rfl)); intro gb347 hg w5 hbox hb; have n0_ := Aside0.mk (below_step (by repeat (first | (with_reducible first | exact HB.out | apply below_alloc | apply pw_below_drewN | apply below_drew1) | exact HB.out)) hb); have n1_ := Aside0.mk (hbox); have n2_ := Aside0.mk ((by rw [hg]; exact (below_size (by repeat (first | (with_reducible first | exact HB.out | apply below_alloc | apply pw_below_drewN | apply below_drew1) | exact HB.out))) : w.heap.size ≤ gb347)); have n3_ := Aside0.mk ((by rw [hg]; exact (below_size (by repeat (first | (with_reducible first | exact HB.out | apply below_alloc | apply pw_below_drewN | apply below_drew1) | exact HB.out))) : w.heap.size ≤ gb347)); clear HB; have HB := n0_; have BK347 := n1_; have GW347 := n2_; have GE347 := n3_; clear n0_ n1_ n2_ n3_; clear hb hbox hg) | ((with_reducible refine gate_dst (N := 2) rfl ?_); refine box_event ?hg (N := 2) ?hd (cs := #[.int .i64 0, .slice none 0 0]) (t := 24) ?hr ?_; (case hd => rfl); (case hg => rfl); (case hr => first | (go_simp; done) | (go_simp; rfl)); intro gb348 hg w6 hbox hb; have n0_ := Aside0.mk (blk_below (g := gb347) (o := .cells #[.int .i64 a0_0, .slice A0_1 l0_1.length c0_1] 24 (0, 0)) (by (with_reducible repeat (first | refine blk_drewN ?_ _ | refine blk_drew ?_ | refine blk_alloc ?_ _)); exact BK347.out) hb); have n1_ := Aside0.mk (below_step (by repeat (first | (with_reducible first | exact HB.out | apply below_alloc | apply pw_below_drewN | apply below_drew1 | refine below_set ?_ GE347.out) | exact HB.out)) hb); have n2_ := Aside0.mk (hbox); have n3_ := Aside0.mk ((by rw [hg]; exact (below_size (by repeat (first | (with_reducible first | exact HB.out | apply below_alloc | apply pw_below_drewN | apply below_drew1 | refine below_set ?_ GE347.out) | exact HB.out))) : w.heap.size ≤ gb348)); have n4_ := Aside0.mk ((by rw [hg]; exact (below_size (by repeat (first | (with_reducible first | exact HB.out | apply below_alloc | apply pw_below_drewN | apply below_drew1 | refine below_set ?_ GE347.out) | exact HB.out))) : w.heap.size ≤ gb348)); have n5_ := Aside0.mk ((by rw [hg]; exact Nat.ne_of_lt (blk_lt (g := gb347) (o := .cells #[.int .i64 a0_0, .slice A0_1 l0_1.length c0_1] 24 (0, 0)) (by (with_reducible repeat (first | refine blk_drewN ?_ _ | refine blk_drew ?_ | refine blk_alloc ?_ _)); exact BK347.out)) : gb347 ≠ gb348)); have n6_ := Aside0.mk ((by rw [hg]; exact Nat.ne_of_gt (blk_lt (g := gb347) (o := .cells #[.int .i64 a0_0, .slice A0_1 l0_1.length c0_1] 24 (0, 0)) (by (with_reducible repeat (first | refine blk_drewN ?_ _ | refine blk_drew ?_ | refine blk_alloc ?_ _)); exact BK347.out)) : gb348 ≠ gb347)); clear BK347; clear HB; have BK347 := n0_; have HB := n1_; have BK348 := n2_; have GW348 := n3_; have GE348 := n4_; have NB347_348 := n5_; have NB348_347 := n6_; clear n0_ n1_ n2_ n3_ n4_ n5_ n6_; clear hb hbox hg; have hnb7 := NB347_348.out; have hnc7 := NB348_347.out; have hcz8_0 : w6.cell? ⟨gb347, 0, none⟩ = some (.int .i64 a0_0) := (blk_cell BK347.out 0).trans rfl; have hcz8_1 : w6.cell? ⟨gb347, 1, none⟩ = some (.slice A0_1 l0_1.length c0_1) := (blk_cell BK347.out 1).trans rfl; have hfz8_0 := blk_frozen BK347.out 0; have hfz8_1 := blk_frozen BK347.out 1) | ((with_reducible refine gate_callee (f := 14) rfl ?_); refine goesL_ (some 9) rfl rfl Tryd.func14 (by kernel_rfl) rfl #[.agg #[.int .i64 a0_0, .slice A0_1 l0_1.length c0_1]] rfl (by (try simp only [List.map_toArray, List.map_cons, List.map_nil]); first | done | rfl | (simp only [List.length_drop, List.length_take]; rfl)) ?_; (with_reducible refine (bitset_Check.calls k a0_0 _ _ l0_1 t349 _ ?side1 ?side2 A2.out).mono ?_); (case side1 => repeat (first | exact (Kd.C_below HR0_1.out HB.out) | (with_reducible refine Kd.C_alloc ?_ _) | (with_reducible refine Kd.C_drewN ?_ _) | (with_reducible refine Kd.C_drew ?_))); (case side2 => exact HC0_1.out); rintro e w9 ⟨rfl, hb⟩; refine ⟨_, rfl, ?_⟩; have n0_ := Aside0.mk (blk_below (g := gb347) (o := .cells #[.int .i64 a0_0, .slice A0_1 l0_1.length c0_1] 24 (0, 0)) (by (with_reducible repeat (first | refine blk_drewN ?_ _ | refine blk_drew ?_ | refine blk_alloc ?_ _)); exact BK347.out) hb); have n1_ := Aside0.mk (blk_below (g := gb348) (o := .cells #[.int .i64 0, .slice none 0 0] 24 (0, 0)) (by (with_reducible repeat (first | refine blk_drewN ?_ _ | refine blk_drew ?_ | refine blk_alloc ?_ _)); exact BK348.out) hb); have n2_ := Aside0.mk (below_step (by repeat (first | (with_reducible first | exact HB.out | apply below_alloc | apply pw_below_drewN | apply below_drew1 | refine below_set ?_ GE347.out | refine below_set ?_ GE348.out) | exact HB.out)) hb); clear BK347; clear BK348; clear HB; have BK347 := n0_; have BK348 := n1_; have HB := n2_; clear n0_ n1_ n2_; (try clear hb); (try clear hb2); (try clear hk); (try clear hi)))
    have n0_ := Aside0.mk (blk_drew BK347.out)
    have n1_ := Aside0.mk (blk_drew BK348.out)
    have n2_ := Aside0.mk (below_drew1 HB.out)
    clear BK347
    clear BK348
    clear HB
    have BK347 := n0_
    have BK348 := n1_
    have HB := n2_
    clear n0_ n1_ n2_
    refine start_ (n := 8) (S := fun w' => w'.cell? ⟨gb347, 0, none⟩ = some (.int .i64 a0_0) ∧ w'.cell? ⟨gb347, 1, none⟩ = some (.slice A0_1 l0_1.length c0_1)) (ds := []) #[false, false, false, false, false, false, false, false] (by kernel_rfl) rfl rfl ⟨(blk_cell BK347.out 0).trans rfl, (blk_cell BK347.out 1).trans rfl⟩ (fun hHeld => ?_); refine with_tabW bitset_Not.tab4 bitset_Not.bits4 (fun HT_ HW_ => ?_)
    generalize w9.drew = w10 at BK347 BK348 HB hHeld ⊢
    refine pure_ (i := 0) (N := some 14) (v := ?_) (a' := ?_) #[true, false, false, false, false, false, false, false] rfl rfl (any_of HT_.out (by kernel_rfl)) (fun _ _ _ h => h) (Or.inl ⟨by rfl, ?_⟩) ?_ ?_
    rotate_left
    · intro w'
      go_simp
      with_reducible rfl
    rotate_left
    · simp only [Act.put, List.setIfInBounds_toArray, List.set_cons_zero, List.set_cons_succ, i64_w, i32_w]
      rfl
    refine pure_ (i := 2) (N := some 16) (v := ?_) (a' := ?_) #[true, false, true, false, false, false, false, false] rfl rfl (any_of HT_.out (by kernel_rfl)) (fun _ _ _ h => h) (Or.inl ⟨by rfl, ?_⟩) ?_ ?_
    rotate_left
    · intro w'
      go_simp
      with_reducible rfl
    rotate_left
    · simp only [Act.put, List.setIfInBounds_toArray, List.set_cons_zero, List.set_cons_succ, i64_w, i32_w]
      rfl
    refine take_ (i := 1) (N := some 15) (v := ?_) (a' := ?_) #[true, true, true, false, false, false, false, false] rfl rfl (take_ofW HT_.out HW_.out (by kernel_rfl)) (fun _ _ _ h => h) (Or.inl ⟨by rfl, ?_⟩) hHeld ?_ ?_
    rotate_left
    · rintro w' ⟨s0, s1⟩
      go_simp
      with_reducible rfl
    rotate_left
    · simp only [Act.put, List.setIfInBounds_toArray, List.set_cons_zero, List.set_cons_succ, i64_w, i32_w]
      rfl
    refine take_ (i := 3) (N := some 17) (v := ?_) (a' := ?_) #[true, true, true, true, false, false, false, false] rfl rfl (take_ofW HT_.out HW_.out (by kernel_rfl)) (fun _ _ _ h => h) (Or.inl ⟨by rfl, ?_⟩) hHeld ?_ ?_
    rotate_left
    · rintro w' ⟨s0, s1⟩
      go_simp
      with_reducible rfl
    rotate_left
    · simp only [Act.put, List.setIfInBounds_toArray, List.set_cons_zero, List.set_cons_succ, i64_w, i32_w]
      rfl
    refine join_ (σ := Value × Nat) 1 #[true, true, true, true, true, true, true, false] (fun s_ => [(18, s_.1), (5, .pointer (some ⟨s_.2, 0, none⟩)), (19, .agg #[.int .i64 a0_0, s_.1])]) (fun s_ w' => (w'.cell? ⟨gb347, 0, none⟩ = some (.int .i64 a0_0) ∧ w'.cell? ⟨gb347, 1, none⟩ = some (.slice A0_1 l0_1.length c0_1)) ∧ (Kd.R (Kd.int .u64) 42 w' w.heap.size (fun _ => True) s_.1 t350) ∧ (w'.heap[gb347]? = some (.cells #[.int .i64 a0_0, .slice A0_1 l0_1.length c0_1] 24 (0, 0))) ∧ (w'.heap[gb348]? = some (.cells #[.int .i64 0, .slice none 0 0] 24 (0, 0))) ∧ (w'.heap[s_.2]? = some (.cells #[.int .i64 0, .slice none 0 0] 24 (0, 0))) ∧ (w.heap.size ≤ s_.2) ∧ (w.heap.size ≤ s_.2) ∧ (gb347 ≠ s_.2) ∧ (s_.2 ≠ gb347) ∧ (gb348 ≠ s_.2) ∧ (s_.2 ≠ gb348) ∧ (Below w.heap.size w w')) ?_ ?_
    rotate_left
    · intro hCont
      refine two_ (i := 4) (j := 6) (Ni := some 18) (Nj := some 5) #[true, true, true, true, true, false, false, false] #[true, true, true, true, false, false, true, false] rfl rfl rfl rfl (two_of HT_.out (by kernel_rfl)) (by decide) (by decide) (fun K hK => ?_) (fun K hK => ?_)
      · skip
        refine goes_ Tryd.func38 (by kernel_rfl) rfl #[.slice A0_1 l0_1.length c0_1] (by rfl) rfl rfl (by (try simp only [List.map_toArray, List.map_cons, List.map_nil]); first | done | rfl | (simp only [List.length_drop, List.length_take]; rfl)) ?_
        with_reducible refine (slices_Clone_uint64_uint64.calls _ _ l0_1 t350 _ ?side1 ?side2 A4.out).mono ?_
        (case side1 => repeat (first | exact (Kd.C_below HR0_1.out HB.out) | (with_reducible refine Kd.C_alloc ?_ _) | (with_reducible refine Kd.C_drewN ?_ _) | (with_reducible refine Kd.C_drew ?_)))
        (case side2 => exact HC0_1.out)
        rintro e w11 ⟨v351, rfl, ho0, hb⟩
        refine ⟨_, rfl, ?_⟩
        have n0_ := Aside0.mk (Kd.R_lower ho0 (below_size (by repeat (first | (with_reducible first | exact HB.out | apply below_alloc | apply pw_below_drewN | apply below_drew1 | refine below_set ?_ GE347.out | refine below_set ?_ GE348.out) | exact HB.out))))
        have n1_ := Aside0.mk (blk_below (g := gb347) (o := .cells #[.int .i64 a0_0, .slice A0_1 l0_1.length c0_1] 24 (0, 0)) (by (with_reducible repeat (first | refine blk_drewN ?_ _ | refine blk_drew ?_ | refine blk_alloc ?_ _)); exact BK347.out) hb)
        have n2_ := Aside0.mk (blk_below (g := gb348) (o := .cells #[.int .i64 0, .slice none 0 0] 24 (0, 0)) (by (with_reducible repeat (first | refine blk_drewN ?_ _ | refine blk_drew ?_ | refine blk_alloc ?_ _)); exact BK348.out) hb)
        have n3_ := Aside0.mk (below_step (by repeat (first | (with_reducible first | exact HB.out | apply below_alloc | apply pw_below_drewN | apply below_drew1 | refine below_set ?_ GE347.out | refine below_set ?_ GE348.out) | exact HB.out)) hb)
        clear BK347
        clear BK348
        clear HB
        have HO352 := n0_
        have BK347 := n1_
        have BK348 := n2_
        have HB := n3_
        clear n0_ n1_ n2_ n3_
        (try clear hb)
        (try clear hb2)
        (try clear hk)
        (try clear hi)
        (try clear ho0)
        obtain ⟨Ao12, co12, eo12⟩ := Kd.R_slice HO352.out
        (first | subst eo12 | (injection eo12 with f1_ f2_ f3_; have f4_ := f1_.symm; have f5_ := f3_.symm; clear f1_ f2_ f3_; subst f4_; subst f5_))
        refine hK.out _ _ ⟨(blk_cell BK347.out 0).trans rfl, (blk_cell BK347.out 1).trans rfl⟩ (fun hHeld => ?_)
        clear hK K
        refine norm_ (a' := ?_) ?_ ?_
        rotate_left
        · show Act.put _ (some 18) _ = _
          simp only [Act.put, List.setIfInBounds_toArray, List.set_cons_zero, List.set_cons_succ, i64_w, i32_w]
          rfl
        refine pure_ (i := 5) (N := some 19) (v := ?_) (a' := ?_) #[true, true, true, true, true, true, false, false] rfl rfl (any_of HT_.out (by kernel_rfl)) (fun _ _ _ h => h) (Or.inl ⟨by rfl, ?_⟩) ?_ ?_
        rotate_left
        · intro w'
          go_simp
          with_reducible rfl
        rotate_left
        · simp only [Act.put, List.setIfInBounds_toArray, List.set_cons_zero, List.set_cons_succ, i64_w, i32_w]
          rfl
        refine one_ (i := 6) (N := some 5) #[true, true, true, true, true, true, true, false] rfl rfl (one_of HT_.out (by kernel_rfl)) (by decide) (fun K hK => ?_)
        refine box_step ?hg (N := 5) ?hd (cs := #[.int .i64 0, .slice none 0 0]) (t := 24) ?hr ?_; (case hd => rfl); (case hg => rfl); (case hr => first | (go_simp; done) | (go_simp; rfl))
        intro gb353 hg w13 hbox hb
        have n0_ := Aside0.mk (Kd.R_below (by (with_reducible repeat (first | apply Kd.R_alloc | apply Kd.R_drewN | apply Kd.R_drew)); exact HO352.out) hb)
        have n1_ := Aside0.mk (blk_below (g := gb347) (o := .cells #[.int .i64 a0_0, .slice A0_1 l0_1.length c0_1] 24 (0, 0)) (by (with_reducible repeat (first | refine blk_drewN ?_ _ | refine blk_drew ?_ | refine blk_alloc ?_ _)); exact BK347.out) hb)
        have n2_ := Aside0.mk (blk_below (g := gb348) (o := .cells #[.int .i64 0, .slice none 0 0] 24 (0, 0)) (by (with_reducible repeat (first | refine blk_drewN ?_ _ | refine blk_drew ?_ | refine blk_alloc ?_ _)); exact BK348.out) hb)
        have n3_ := Aside0.mk (below_step (by repeat (first | (with_reducible first | exact HB.out | apply below_alloc | apply pw_below_drewN | apply below_drew1 | refine below_set ?_ GE347.out | refine below_set ?_ GE348.out) | exact HB.out)) hb)
        have n4_ := Aside0.mk (hbox)
        have n5_ := Aside0.mk ((by rw [hg]; exact (below_size (by repeat (first | (with_reducible first | exact HB.out | apply below_alloc | apply pw_below_drewN | apply below_drew1 | refine below_set ?_ GE347.out | refine below_set ?_ GE348.out) | exact HB.out))) : w.heap.size ≤ gb353))
        have n6_ := Aside0.mk ((by rw [hg]; exact (below_size (by repeat (first | (with_reducible first | exact HB.out | apply below_alloc | apply pw_below_drewN | apply below_drew1 | refine below_set ?_ GE347.out | refine below_set ?_ GE348.out) | exact HB.out))) : w.heap.size ≤ gb353))
        have n7_ := Aside0.mk ((by rw [hg]; exact Nat.ne_of_lt (blk_lt (g := gb347) (o := .cells #[.int .i64 a0_0, .slice A0_1 l0_1.length c0_1] 24 (0, 0)) (by (with_reducible repeat (first | refine blk_drewN ?_ _ | refine blk_drew ?_ | refine blk_alloc ?_ _)); exact BK347.out)) : gb347 ≠ gb353))
        have n8_ := Aside0.mk ((by rw [hg]; exact Nat.ne_of_gt (blk_lt (g := gb347) (o := .cells #[.int .i64 a0_0, .slice A0_1 l0_1.length c0_1] 24 (0, 0)) (by (with_reducible repeat (first | refine blk_drewN ?_ _ | refine blk_drew ?_ | refine blk_alloc ?_ _)); exact BK347.out)) : gb353 ≠ gb347))
        have n9_ := Aside0.mk ((by rw [hg]; exact Nat.ne_of_lt (blk_lt (g := gb348) (o := .cells #[.int .i64 0, .slice none 0 0] 24 (0, 0)) (by (with_reducible repeat (first | refine blk_drewN ?_ _ | refine blk_drew ?_ | refine blk_alloc ?_ _)); exact BK348.out)) : gb348 ≠ gb353))
        have n10_ := Aside0.mk ((by rw [hg]; exact Nat.ne_of_gt (blk_lt (g := gb348) (o := .cells #[.int .i64 0, .slice none 0 0] 24 (0, 0)) (by (with_reducible repeat (first | refine blk_drewN ?_ _ | refine blk_drew ?_ | refine blk_alloc ?_ _)); exact BK348.out)) : gb353 ≠ gb348))
        clear HO352
        clear BK347
        clear BK348
        clear HB
        have HO352 := n0_
        have BK347 := n1_
        have BK348 := n2_
        have HB := n3_
        have BK353 := n4_
        have GW353 := n5_
        have GE353 := n6_
        have NB347_353 := n7_
        have NB353_347 := n8_
        have NB348_353 := n9_
        have NB353_348 := n10_
        clear n0_ n1_ n2_ n3_ n4_ n5_ n6_ n7_ n8_ n9_ n10_
        clear hb hbox hg
        refine hK.out _ _ ⟨(blk_cell BK347.out 0).trans rfl, (blk_cell BK347.out 1).trans rfl⟩ (fun hHeld => ?_)
        clear hK K
        refine norm_ (a' := ?_) ?_ ?_
        rotate_left
        · show Act.put _ (some 5) _ = _
          simp only [Act.put, List.setIfInBounds_toArray, List.set_cons_zero, List.set_cons_succ, i64_w, i32_w]
          rfl
        exact norm_ (by simp only [putAll, Act.put, List.setIfInBounds_toArray, List.set_cons_zero, List.set_cons_succ]) (hCont (.slice Ao12 t350.length co12, gb353) _ ⟨hHeld, (by (with_reducible repeat (first | apply Kd.R_alloc | apply Kd.R_drewN | apply Kd.R_drew)); exact HO352.out), (by (with_reducible repeat (first | refine blk_drewN ?_ _ | refine blk_drew ?_ | refine blk_alloc ?_ _)); exact BK347.out), (by (with_reducible repeat (first | refine blk_drewN ?_ _ | refine blk_drew ?_ | refine blk_alloc ?_ _)); exact BK348.out), (by (with_reducible repeat (first | refine blk_drewN ?_ _ | refine blk_drew ?_ | refine blk_alloc ?_ _)); exact BK353.out), GW353.out, GE353.out, NB347_353.out, NB353_347.out, NB348_353.out, NB353_348.out, (by repeat (first | (with_reducible first | exact HB.out | apply below_alloc | apply pw_below_drewN | apply below_drew1 | refine below_set ?_ GE347.out | refine below_set ?_ GE348.out | refine below_set ?_ GE353.out) | exact HB.out))⟩)
      · skip
        refine box_step ?hg (N := 5) ?hd (cs := #[.int .i64 0, .slice none 0 0]) (t := 24) ?hr ?_; (case hd => rfl); (case hg => rfl); (case hr => first | (go_simp; done) | (go_simp; rfl))
        intro gb353 hg w11 hbox hb
        have n0_ := Aside0.mk (blk_below (g := gb347) (o := .cells #[.int .i64 a0_0, .slice A0_1 l0_1.length c0_1] 24 (0, 0)) (by (with_reducible repeat (first | refine blk_drewN ?_ _ | refine blk_drew ?_ | refine blk_alloc ?_ _)); exact BK347.out) hb)
        have n1_ := Aside0.mk (blk_below (g := gb348) (o := .cells #[.int .i64 0, .slice none 0 0] 24 (0, 0)) (by (with_reducible repeat (first | refine blk_drewN ?_ _ | refine blk_drew ?_ | refine blk_alloc ?_ _)); exact BK348.out) hb)
        have n2_ := Aside0.mk (below_step (by repeat (first | (with_reducible first | exact HB.out | apply below_alloc | apply pw_below_drewN | apply below_drew1 | refine below_set ?_ GE347.out | refine below_set ?_ GE348.out) | exact HB.out)) hb)
        have n3_ := Aside0.mk (hbox)
        have n4_ := Aside0.mk ((by rw [hg]; exact (below_size (by repeat (first | (with_reducible first | exact HB.out | apply below_alloc | apply pw_below_drewN | apply below_drew1 | refine below_set ?_ GE347.out | refine below_set ?_ GE348.out) | exact HB.out))) : w.heap.size ≤ gb353))
        have n5_ := Aside0.mk ((by rw [hg]; exact (below_size (by repeat (first | (with_reducible first | exact HB.out | apply below_alloc | apply pw_below_drewN | apply below_drew1 | refine below_set ?_ GE347.out | refine below_set ?_ GE348.out) | exact HB.out))) : w.heap.size ≤ gb353))
        have n6_ := Aside0.mk ((by rw [hg]; exact Nat.ne_of_lt (blk_lt (g := gb347) (o := .cells #[.int .i64 a0_0, .slice A0_1 l0_1.length c0_1] 24 (0, 0)) (by (with_reducible repeat (first | refine blk_drewN ?_ _ | refine blk_drew ?_ | refine blk_alloc ?_ _)); exact BK347.out)) : gb347 ≠ gb353))
        have n7_ := Aside0.mk ((by rw [hg]; exact Nat.ne_of_gt (blk_lt (g := gb347) (o := .cells #[.int .i64 a0_0, .slice A0_1 l0_1.length c0_1] 24 (0, 0)) (by (with_reducible repeat (first | refine blk_drewN ?_ _ | refine blk_drew ?_ | refine blk_alloc ?_ _)); exact BK347.out)) : gb353 ≠ gb347))
        have n8_ := Aside0.mk ((by rw [hg]; exact Nat.ne_of_lt (blk_lt (g := gb348) (o := .cells #[.int .i64 0, .slice none 0 0] 24 (0, 0)) (by (with_reducible repeat (first | refine blk_drewN ?_ _ | refine blk_drew ?_ | refine blk_alloc ?_ _)); exact BK348.out)) : gb348 ≠ gb353))
        have n9_ := Aside0.mk ((by rw [hg]; exact Nat.ne_of_gt (blk_lt (g := gb348) (o := .cells #[.int .i64 0, .slice none 0 0] 24 (0, 0)) (by (with_reducible repeat (first | refine blk_drewN ?_ _ | refine blk_drew ?_ | refine blk_alloc ?_ _)); exact BK348.out)) : gb353 ≠ gb348))
        clear BK347
        clear BK348
        clear HB
        have BK347 := n0_
        have BK348 := n1_
        have HB := n2_
        have BK353 := n3_
        have GW353 := n4_
        have GE353 := n5_
        have NB347_353 := n6_
        have NB353_347 := n7_
        have NB348_353 := n8_
        have NB353_348 := n9_
        clear n0_ n1_ n2_ n3_ n4_ n5_ n6_ n7_ n8_ n9_
        clear hb hbox hg
        refine hK.out _ _ ⟨(blk_cell BK347.out 0).trans rfl, (blk_cell BK347.out 1).trans rfl⟩ (fun hHeld => ?_)
        clear hK K
        refine norm_ (a' := ?_) ?_ ?_
        rotate_left
        · show Act.put _ (some 5) _ = _
          simp only [Act.put, List.setIfInBounds_toArray, List.set_cons_zero, List.set_cons_succ, i64_w, i32_w]
          rfl
        refine one_ (i := 4) (N := some 18) #[true, true, true, true, true, false, true, false] rfl rfl (one_of HT_.out (by kernel_rfl)) (by decide) (fun K hK => ?_)
        refine goes_ Tryd.func38 (by kernel_rfl) rfl #[.slice A0_1 l0_1.length c0_1] (by rfl) rfl rfl (by (try simp only [List.map_toArray, List.map_cons, List.map_nil]); first | done | rfl | (simp only [List.length_drop, List.length_take]; rfl)) ?_
        with_reducible refine (slices_Clone_uint64_uint64.calls _ _ l0_1 t350 _ ?side1 ?side2 A4.out).mono ?_
        (case side1 => repeat (first | exact (Kd.C_below HR0_1.out HB.out) | (with_reducible refine Kd.C_alloc ?_ _) | (with_reducible refine Kd.C_drewN ?_ _) | (with_reducible refine Kd.C_drew ?_)))
        (case side2 => exact HC0_1.out)
        rintro e w12 ⟨v351, rfl, ho0, hb⟩
        refine ⟨_, rfl, ?_⟩
        have n0_ := Aside0.mk (Kd.R_lower ho0 (below_size (by repeat (first | (with_reducible first | exact HB.out | apply below_alloc | apply pw_below_drewN | apply below_drew1 | refine below_set ?_ GE347.out | refine below_set ?_ GE348.out | refine below_set ?_ GE353.out) | exact HB.out))))
        have n1_ := Aside0.mk (blk_below (g := gb347) (o := .cells #[.int .i64 a0_0, .slice A0_1 l0_1.length c0_1] 24 (0, 0)) (by (with_reducible repeat (first | refine blk_drewN ?_ _ | refine blk_drew ?_ | refine blk_alloc ?_ _)); exact BK347.out) hb)
        have n2_ := Aside0.mk (blk_below (g := gb348) (o := .cells #[.int .i64 0, .slice none 0 0] 24 (0, 0)) (by (with_reducible repeat (first | refine blk_drewN ?_ _ | refine blk_drew ?_ | refine blk_alloc ?_ _)); exact BK348.out) hb)
        have n3_ := Aside0.mk (blk_below (g := gb353) (o := .cells #[.int .i64 0, .slice none 0 0] 24 (0, 0)) (by (with_reducible repeat (first | refine blk_drewN ?_ _ | refine blk_drew ?_ | refine blk_alloc ?_ _)); exact BK353.out) hb)
        have n4_ := Aside0.mk (below_step (by repeat (first | (with_reducible first | exact HB.out | apply below_alloc | apply pw_below_drewN | apply below_drew1 | refine below_set ?_ GE347.out | refine below_set ?_ GE348.out | refine below_set ?_ GE353.out) | exact HB.out)) hb)
        clear BK347
        clear BK348
        clear BK353
        clear HB
        have HO352 := n0_
        have BK347 := n1_
        have BK348 := n2_
        have BK353 := n3_
        have HB := n4_
        clear n0_ n1_ n2_ n3_ n4_
        (try clear hb)
        (try clear hb2)
        (try clear hk)
        (try clear hi)
        (try clear ho0)
        obtain ⟨Ao13, co13, eo13⟩ := Kd.R_slice HO352.out
        (first | subst eo13 | (injection eo13 with f1_ f2_ f3_; have f4_ := f1_.symm; have f5_ := f3_.symm; clear f1_ f2_ f3_; subst f4_; subst f5_))
        refine hK.out _ _ ⟨(blk_cell BK347.out 0).trans rfl, (blk_cell BK347.out 1).trans rfl⟩ (fun hHeld => ?_)
        clear hK K
        refine norm_ (a' := ?_) ?_ ?_
        rotate_left
        · show Act.put _ (some 18) _ = _
          simp only [Act.put, List.setIfInBounds_toArray, List.set_cons_zero, List.set_cons_succ, i64_w, i32_w]
          rfl
        refine pure_ (i := 5) (N := some 19) (v := ?_) (a' := ?_) #[true, true, true, true, true, true, true, false] rfl rfl (any_of HT_.out (by kernel_rfl)) (fun _ _ _ h => h) (Or.inl ⟨by rfl, ?_⟩) ?_ ?_
        rotate_left
        · intro w'
          go_simp
          with_reducible rfl
        rotate_left
        · simp only [Act.put, List.setIfInBounds_toArray, List.set_cons_zero, List.set_cons_succ, i64_w, i32_w]
          rfl
        exact norm_ (by simp only [putAll, Act.put, List.setIfInBounds_toArray, List.set_cons_zero, List.set_cons_succ]) (hCont (.slice Ao13 t350.length co13, gb353) _ ⟨hHeld, (by (with_reducible repeat (first | apply Kd.R_alloc | apply Kd.R_drewN | apply Kd.R_drew)); exact HO352.out), (by (with_reducible repeat (first | refine blk_drewN ?_ _ | refine blk_drew ?_ | refine blk_alloc ?_ _)); exact BK347.out), (by (with_reducible repeat (first | refine blk_drewN ?_ _ | refine blk_drew ?_ | refine blk_alloc ?_ _)); exact BK348.out), (by (with_reducible repeat (first | refine blk_drewN ?_ _ | refine blk_drew ?_ | refine blk_alloc ?_ _)); exact BK353.out), GW353.out, GE353.out, NB347_353.out, NB353_347.out, NB348_353.out, NB353_348.out, (by repeat (first | (with_reducible first | exact HB.out | apply below_alloc | apply pw_below_drewN | apply below_drew1 | refine below_set ?_ GE347.out | refine below_set ?_ GE348.out | refine below_set ?_ GE353.out) | exact HB.out))⟩)
    rintro ⟨v351, gb353⟩ w14 ⟨hS_, h0_, h1_, h2_, h3_, h4_, h5_, h6_, h7_, h8_, h9_, h10_⟩
    have n0_ : Aside0 (Kd.R (Kd.int .u64) 42 w14 w.heap.size (fun _ => True) v351 t350) := ⟨h0_⟩
    have n1_ : Aside0 (w14.heap[gb347]? = some (.cells #[.int .i64 a0_0, .slice A0_1 l0_1.length c0_1] 24 (0, 0))) := ⟨h1_⟩
    have n2_ : Aside0 (w14.heap[gb348]? = some (.cells #[.int .i64 0, .slice none 0 0] 24 (0, 0))) := ⟨h2_⟩
    have n3_ : Aside0 (w14.heap[gb353]? = some (.cells #[.int .i64 0, .slice none 0 0] 24 (0, 0))) := ⟨h3_⟩
    have n4_ : Aside0 (w.heap.size ≤ gb353) := ⟨h4_⟩
    have n5_ : Aside0 (w.heap.size ≤ gb353) := ⟨h5_⟩
    have n6_ : Aside0 (gb347 ≠ gb353) := ⟨h6_⟩
    have n7_ : Aside0 (gb353 ≠ gb347) := ⟨h7_⟩
    have n8_ : Aside0 (gb348 ≠ gb353) := ⟨h8_⟩
    have n9_ : Aside0 (gb353 ≠ gb348) := ⟨h9_⟩
    have n10_ : Aside0 (Below w.heap.size w w14) := ⟨h10_⟩
    clear BK347
    clear BK348
    clear HB
    clear h0_ h1_ h2_ h3_ h4_ h5_ h6_ h7_ h8_ h9_ h10_
    have HO352 := n0_
    have BK347 := n1_
    have BK348 := n2_
    have BK353 := n3_
    have GW353 := n4_
    have GE353 := n5_
    have NB347_353 := n6_
    have NB353_347 := n7_
    have NB348_353 := n8_
    have NB353_348 := n9_
    have HB := n10_
    clear n0_ n1_ n2_ n3_ n4_ n5_ n6_ n7_ n8_ n9_ n10_
    have hHeld : w14.cell? ⟨gb347, 0, none⟩ = some (.int .i64 a0_0) ∧ w14.cell? ⟨gb347, 1, none⟩ = some (.slice A0_1 l0_1.length c0_1) := hS_
    obtain ⟨Ao15, co15, eo15⟩ := Kd.R_slice HO352.out
    (first | subst eo15 | (injection eo15 with f1_ f2_ f3_; have f4_ := f1_.symm; have f5_ := f3_.symm; clear f1_ f2_ f3_; subst f4_; subst f5_))
    refine norm_ (a' := ?_) ?_ ?_
    rotate_left
    · simp only [putAll, Act.put, List.setIfInBounds_toArray, List.set_cons_zero, List.set_cons_succ]
      rfl
    refine one_ (i := 7) (N := none) #[true, true, true, true, true, true, true, true] rfl rfl (one_of HT_.out (by kernel_rfl)) (by decide) (fun K hK => ?_)
    have hs16 : w14.cell? ⟨gb353, 0, none⟩ = some (.int .i64 0) := (blk_cell BK353.out 0).trans rfl
    have hfs16 := blk_frozen BK353.out 0
    have hns16_0 := NB347_353.out
    have hns16_1 := NB348_353.out
    have hms16_0 := NB353_347.out
    have hms16_1 := NB353_348.out
    have hs17 : w14.cell? ⟨gb353, 1, none⟩ = some (.slice none 0 0) := (blk_cell BK353.out 1).trans rfl
    have hfs17 := blk_frozen BK353.out 1
    have hns17_0 := NB347_353.out
    have hns17_1 := NB348_353.out
    have hms17_0 := NB353_347.out
    have hms17_1 := NB353_348.out
    refine skip_ (w1 := ?_) (by rfl) rfl ?_ ?_
    rotate_left
    · go_simp
      rfl
    refine hK.out _ _ ⟨((cell_far (p := ⟨gb353, _, none⟩) NB347_353.out _).trans (((cell_far (p := ⟨gb353, _, none⟩) NB347_353.out _).trans (hHeld.1)))), ((cell_far (p := ⟨gb353, _, none⟩) NB347_353.out _).trans (((cell_far (p := ⟨gb353, _, none⟩) NB347_353.out _).trans (hHeld.2))))⟩ (fun hHeld => ?_)
    clear hK K
    refine done_ (done_of HT_.out (by kernel_rfl)) ?_
    have hnb18 := NB353_347.out
    have hnc18 := NB347_353.out
    have hnb19 := NB353_348.out
    have hnc19 := NB348_353.out
    have hcz20_0 : w14.cell? ⟨gb353, 0, none⟩ = some (.int .i64 0) := (blk_cell BK353.out 0).trans rfl
    have hcz20_1 : w14.cell? ⟨gb353, 1, none⟩ = some (.slice none 0 0) := (blk_cell BK353.out 1).trans rfl
    have hfz20_0 := blk_frozen BK353.out 0
    have hfz20_1 := blk_frozen BK353.out 1
    try go_wp2
    go_loopg [23] k (fun kq v23 w' => ∃ (x23_1 : Int) (x354001_1 : List Int) (u354001 : Value), v23 = .int .i64 x23_1 ∧ Aside0 (bitset_Not.l0 kq (t350.length : Int) x23_1 a0_0 l0_1 a0_0 x354001_1 = some (r1, r2, r3)) ∧ Aside0 (kq ≤ k) ∧ Aside0 (Kd.R (Kd.int .u64) 42 w' w.heap.size (fun _ => True) u354001 x354001_1) ∧ Aside0 (w'.heap[gb347]? = some (.cells #[.int .i64 a0_0, (.slice A0_1 l0_1.length c0_1)] 24 (0, 0))) ∧ Aside0 (w'.heap[gb348]? = some (.cells #[.int .i64 0, (.slice none 0 0)] 24 (0, 0))) ∧ Aside0 (w'.heap[gb353]? = some (.cells #[.int .i64 a0_0, u354001] 24 (0, 0))) ∧ Aside0 (Below w.heap.size w w'))
    case atStart => exact ⟨(0), (t350), (.slice Ao15 t350.length co15), (by first | rfl | (simp; done) | (simp [*]; done)), H', ⟨Nat.le_refl _⟩, ⟨by (with_reducible repeat (first | apply Kd.R_alloc | apply Kd.R_drewN | apply Kd.R_drew)); exact Kd.R_mono (Kd.R_far (p := ⟨gb353, 1, none⟩) (Kd.R_far (p := ⟨gb353, 0, none⟩) (Kd.R_types HO352.out BK353.out (by decide)) (fun _ hk => hk.2) (.int .i64 a0_0)) (fun _ hk => hk.2) (.slice Ao15 t350.length co15)) (fun _ hk => trivial)⟩, ⟨by (with_reducible repeat (first | refine blk_drewN ?_ _ | refine blk_drew ?_ | refine blk_alloc ?_ _)); refine blk_far ?_ NB347_353.out _; (with_reducible repeat (first | refine blk_drewN ?_ _ | refine blk_drew ?_ | refine blk_alloc ?_ _)); refine blk_far ?_ NB347_353.out _; (with_reducible repeat (first | refine blk_drewN ?_ _ | refine blk_drew ?_ | refine blk_alloc ?_ _)); exact BK347.out⟩, ⟨by (with_reducible repeat (first | refine blk_drewN ?_ _ | refine blk_drew ?_ | refine blk_alloc ?_ _)); refine blk_far ?_ NB348_353.out _; (with_reducible repeat (first | refine blk_drewN ?_ _ | refine blk_drew ?_ | refine blk_alloc ?_ _)); refine blk_far ?_ NB348_353.out _; (with_reducible repeat (first | refine blk_drewN ?_ _ | refine blk_drew ?_ | refine blk_alloc ?_ _)); exact BK348.out⟩, ⟨by (with_reducible repeat (first | refine blk_drewN ?_ _ | refine blk_drew ?_ | refine blk_alloc ?_ _)); refine blk_put (cs := #[.int .i64 a0_0, .slice none 0 0]) ?_ 1 _ rfl; (with_reducible repeat (first | refine blk_drewN ?_ _ | refine blk_drew ?_ | refine blk_alloc ?_ _)); refine blk_put (cs := #[.int .i64 0, .slice none 0 0]) ?_ 0 _ rfl; (with_reducible repeat (first | refine blk_drewN ?_ _ | refine blk_drew ?_ | refine blk_alloc ?_ _)); exact BK353.out⟩, ⟨by repeat (first | (with_reducible first | exact HB.out | apply below_alloc | apply pw_below_drewN | apply below_drew1 | refine below_set ?_ GE347.out | refine below_set ?_ GE348.out | refine below_set ?_ GE353.out) | exact HB.out)⟩⟩
    case round =>
      clear H'
      try clear c1
      try clear p2
      try clear c3
      try clear c3b0
      try clear c3b1
      try clear c7
      try clear c14
      try clear c18
      try clear c19
      try clear hcz20_0
      try clear hcz20_1
      try clear hcz8_0
      try clear hcz8_1
      try clear hfz20_0
      try clear hfz20_1
      try clear hfz8_0
      try clear hfz8_1
      obtain ⟨x23_1, x354001_1, u354001, rfl, HA, HK1, HO_354001, BK347, BK348, BK353, HB⟩ := hrel
      cases gk with
      | zero => exact absurd HA.out (by simp [bitset_Not.l0])
      | succ k1 =>
        have H := HA.out
        clear HA
        simp only [bitset_Not.l0] at H
        by_cases c21 : x23_1 < (t350.length : Int)
        · rw [if_pos c21] at H
          have c21b0 : decide (x23_1 < (t350.length : Int)) = true := decide_eq_true c21
          clear c21
          by_cases c22 : 0 ≤ x23_1
          · rw [if_pos c22] at H
            have c22b0 : decide (0 ≤ x23_1) = true := decide_eq_true c22
            clear c22
            by_cases c23 : x23_1 < (x354001_1.length : Int)
            · rw [if_pos c23] at H
              have c23b0 : decide (x23_1 < (x354001_1.length : Int)) = true := decide_eq_true c23
              clear c23
              obtain ⟨y355, hy355⟩ : ∃ y_ : List Int, y_ = (x354001_1.set (x23_1 : Int).toNat (Go.bits .xor .u64 18446744073709551615 (rd x354001_1 x23_1))) := ⟨_, rfl⟩
              replace H : (bitset_Not.l0 k1 (t350.length : Int) (wrap64 (x23_1 + 1)) a0_0 l0_1 a0_0 y355) = some (r1, r2, r3) := by first | (rw [hy355]; with_reducible exact H) | (have H2_ := (Option.bind_some _ _).symm.trans H; rw [hy355]; with_reducible exact H2_) | (have H2_ := (Option.bind_some _ _).symm.trans H; with_reducible exact H2_) | with_reducible exact H | (rw [hy355]; exact H) | exact H
              have Ny355 := Aside0.mk hy355
              clear hy355
              have H' := Aside0.mk H
              clear H
              try go_wp2
              have n0_ := Aside0.mk (Kd.R_drew HO_354001.out)
              have n1_ := Aside0.mk (blk_drew BK347.out)
              have n2_ := Aside0.mk (blk_drew BK348.out)
              have n3_ := Aside0.mk (blk_drew BK353.out)
              have n4_ := Aside0.mk (below_drew1 HB.out)
              clear HO_354001
              clear BK347
              clear BK348
              clear BK353
              clear HB
              have HO_354001 := n0_
              have BK347 := n1_
              have BK348 := n2_
              have BK353 := n3_
              have HB := n4_
              clear n0_ n1_ n2_ n3_ n4_
              obtain ⟨Ao26, co26, eo26⟩ := Kd.R_slice HO_354001.out
              (first | subst eo26 | (injection eo26 with f1_ f2_ f3_; have f4_ := f1_.symm; have f5_ := f3_.symm; clear f1_ f2_ f3_; subst f4_; subst f5_))
              have p354 : 0 ≤ (x23_1 : Int) := of_decide_eq_true (by first | (with_reducible assumption) | assumption)
              have q354 : x23_1 < (x354001_1.length : Int) := of_decide_eq_true (by first | (with_reducible assumption) | assumption)
              obtain ⟨ad354, e354, hx354_0⟩ := Kd.at_int (Kd.R_reads' HO_354001.out).2.2 x23_1 p354 q354
              cases e354
              replace p354 := eq_true p354
              replace q354 := eq_true q354
              have p24 : 0 ≤ (x23_1 : Int) := of_decide_eq_true (by first | (with_reducible assumption) | assumption)
              have q24 : (x23_1 : Int) < ((x354001_1.length : Int) : Int) := of_decide_eq_true (by first | (with_reducible assumption) | assumption)
              obtain ⟨go24, co24, eo24, gb24, gl24, cl24, HG24⟩ := Kd.R_form HO_354001.out (by omega)
              (first | cases eo24 | (injection eo24 with ea_ en_ ec_; (first | subst ea_ | (injection ea_ with ea_; subst ea_)); subst ec_; clear en_))
              have GB24 := Aside0.mk gb24
              have GG24 := Aside0.mk HG24
              clear gb24 gl24 HG24
              (first | simp only [add_plain] at hx354_0 | skip)
              obtain ⟨hx24_0, hf24_0⟩ := Kd.R_celln 0 HO_354001.out (x23_1 : Int) p24 q24
              replace p24 := eq_true p24
              replace q24 := eq_true q24
              have HP27 := Kd.R_putn HO_354001.out (x23_1 : Int) (Go.bits .xor .u64 18446744073709551615 (rd x354001_1 x23_1))
              rw [← Ny355.out] at HP27
              have HQ27 := Aside0.mk HP27
              clear HP27
              refine start_ (n := 11) (S := fun w' => w'.cell? ⟨gb353, 0, none⟩ = some (.int .i64 a0_0) ∧ w'.cell? ⟨gb353, 1, none⟩ = some (.slice (some ⟨go24, 0, none⟩) x354001_1.length co26) ∧ w'.cell? ⟨go24, (x23_1).toNat, none⟩ = some (.int .u64 (rd x354001_1 x23_1))) (ds := [10]) #[false, false, false, false, false, false, false, false, false, false, false] (by kernel_rfl) rfl rfl ⟨(blk_cell BK353.out 0).trans rfl, (blk_cell BK353.out 1).trans rfl, hx354_0⟩ (fun hHeld => ?_); refine with_tabW bitset_Not.tab8 bitset_Not.bits8 (fun HT_ HW_ => ?_)
              generalize wr.drew = w25 at HO_354001 BK347 BK348 BK353 HB GG24 HQ27 hf24_0 hx24_0 hx354_0 hHeld ⊢
              refine pure_ (i := 0) (N := some 26) (v := ?_) (a' := ?_) #[true, false, false, false, false, false, false, false, false, false, false] rfl rfl (any_of HT_.out (by kernel_rfl)) (fun _ _ _ h => h) (Or.inl ⟨by rfl, ?_⟩) ?_ ?_
              rotate_left
              · intro w'
                go_simp
                with_reducible rfl
              rotate_left
              · simp only [Act.put, List.setIfInBounds_toArray, List.set_cons_zero, List.set_cons_succ, i64_w, i32_w]
                rfl
              refine pure_ (i := 2) (N := some 28) (v := ?_) (a' := ?_) #[true, false, true, false, false, false, false, false, false, false, false] rfl rfl (any_of HT_.out (by kernel_rfl)) (fun _ _ _ h => h) (Or.inl ⟨by rfl, ?_⟩) ?_ ?_
              rotate_left
              · intro w'
                go_simp
                with_reducible rfl
              rotate_left
              · simp only [Act.put, List.setIfInBounds_toArray, List.set_cons_zero, List.set_cons_succ, i64_w, i32_w]
                rfl
              refine pure_ (i := 3) (N := some 29) (v := ?_) (a' := ?_) #[true, false, true, true, false, false, false, false, false, false, false] rfl rfl (any_of HT_.out (by kernel_rfl)) (fun _ _ _ h => h) (Or.inl ⟨by rfl, ?_⟩) ?_ ?_
              rotate_left
              · intro w'
                go_simp
                with_reducible rfl
              rotate_left
              · simp only [Act.put, List.setIfInBounds_toArray, List.set_cons_zero, List.set_cons_succ, i64_w, i32_w]
                rfl
              refine pure_ (i := 5) (N := some 31) (v := ?_) (a' := ?_) #[true, false, true, true, false, true, false, false, false, false, false] rfl rfl (any_of HT_.out (by kernel_rfl)) (fun _ _ _ h => h) (Or.inl ⟨by rfl, ?_⟩) ?_ ?_
              rotate_left
              · intro w'
                go_simp
                with_reducible rfl
              rotate_left
              · simp only [Act.put, List.setIfInBounds_toArray, List.set_cons_zero, List.set_cons_succ, i64_w, i32_w]
                rfl
              refine take_ (i := 1) (N := some 27) (v := ?_) (a' := ?_) #[true, true, true, true, false, true, false, false, false, false, false] rfl rfl (take_ofW HT_.out HW_.out (by kernel_rfl)) (fun _ _ _ h => h) (Or.inl ⟨by rfl, ?_⟩) hHeld ?_ ?_
              rotate_left
              · rintro w' ⟨s0, s1, s2⟩
                go_simp
                with_reducible rfl
              rotate_left
              · simp only [Act.put, List.setIfInBounds_toArray, List.set_cons_zero, List.set_cons_succ, i64_w, i32_w]
                rfl
              refine take_ (i := 4) (N := some 30) (v := ?_) (a' := ?_) #[true, true, true, true, true, true, false, false, false, false, false] rfl rfl (take_ofW HT_.out HW_.out (by kernel_rfl)) (fun _ _ _ h => h) (Or.inl ⟨by rfl, ?_⟩) hHeld ?_ ?_
              rotate_left
              · rintro w' ⟨s0, s1, s2⟩
                go_simp
                with_reducible rfl
              rotate_left
              · simp only [Act.put, List.setIfInBounds_toArray, List.set_cons_zero, List.set_cons_succ, i64_w, i32_w]
                rfl
              refine pure_ (i := 6) (N := some 32) (v := ?_) (a' := ?_) #[true, true, true, true, true, true, true, false, false, false, false] rfl rfl (any_of HT_.out (by kernel_rfl)) (fun _ _ _ h => h) (Or.inl ⟨by rfl, ?_⟩) ?_ ?_
              rotate_left
              · intro w'
                go_simp
                with_reducible rfl
              rotate_left
              · simp only [Act.put, List.setIfInBounds_toArray, List.set_cons_zero, List.set_cons_succ, i64_w, i32_w]
                rfl
              refine take_ (i := 7) (N := some 33) (v := ?_) (a' := ?_) #[true, true, true, true, true, true, true, true, false, false, false] rfl rfl (take_ofW HT_.out HW_.out (by kernel_rfl)) (fun _ _ _ h => h) (Or.inl ⟨by rfl, ?_⟩) hHeld ?_ ?_
              rotate_left
              · rintro w' ⟨s0, s1, s2⟩
                go_simp
                with_reducible rfl
              rotate_left
              · simp only [Act.put, List.setIfInBounds_toArray, List.set_cons_zero, List.set_cons_succ, i64_w, i32_w]
                rfl
              refine pure_ (i := 8) (N := some 34) (v := ?_) (a' := ?_) #[true, true, true, true, true, true, true, true, true, false, false] rfl rfl (any_of HT_.out (by kernel_rfl)) (fun _ _ _ h => h) (Or.inl ⟨by rfl, ?_⟩) ?_ ?_
              rotate_left
              · intro w'
                go_simp
                with_reducible rfl
              rotate_left
              · simp only [Act.put, List.setIfInBounds_toArray, List.set_cons_zero, List.set_cons_succ, i64_w, i32_w]
                rfl
              refine pure_ (i := 9) (N := some 35) (v := ?_) (a' := ?_) #[true, true, true, true, true, true, true, true, true, true, false] rfl rfl (any_of HT_.out (by kernel_rfl)) (fun _ _ _ h => h) (Or.inl ⟨by rfl, ?_⟩) ?_ ?_
              rotate_left
              · intro w'
                go_simp
                with_reducible rfl
              rotate_left
              · simp only [Act.put, List.setIfInBounds_toArray, List.set_cons_zero, List.set_cons_succ, i64_w, i32_w]
                rfl
              refine last_ (i := 10) (N := none) #[true, true, true, true, true, true, true, true, true, true, true] rfl rfl (one_of HT_.out (by kernel_rfl)) (by decide) (fun K hK => ?_)
              refine skip_ (w1 := ?_) (by rfl) rfl ?_ ?_
              rotate_left
              · go_simp
                rfl
              refine hK.out _ _ ?_
              clear hK K
              refine done_ (done_of HT_.out (by kernel_rfl)) ?_
              try go_wp2
              go_roundg k1
              case measure => have := HK1.out; omega
              case rel => exact ⟨(wrap64 (x23_1 + 1)), (y355), (.slice (some ⟨go24, 0, none⟩) x354001_1.length co26), (by first | rfl | (simp; done) | (simp [*]; done)), H', ⟨by have := HK1.out; omega⟩, ⟨by (with_reducible repeat (first | apply Kd.R_alloc | apply Kd.R_drewN | apply Kd.R_drew)); exact HQ27.out⟩, ⟨by (with_reducible repeat (first | refine blk_drewN ?_ _ | refine blk_drew ?_ | refine blk_alloc ?_ _)); refine blk_far ?_ (by have h_ := Kd.R_ne HO_354001.out BK347.out (by decide); intro e_; exact h_ (by rw [e_]; rfl)) _; (with_reducible repeat (first | refine blk_drewN ?_ _ | refine blk_drew ?_ | refine blk_alloc ?_ _)); exact BK347.out⟩, ⟨by (with_reducible repeat (first | refine blk_drewN ?_ _ | refine blk_drew ?_ | refine blk_alloc ?_ _)); refine blk_far ?_ (by have h_ := Kd.R_ne HO_354001.out BK348.out (by decide); intro e_; exact h_ (by rw [e_]; rfl)) _; (with_reducible repeat (first | refine blk_drewN ?_ _ | refine blk_drew ?_ | refine blk_alloc ?_ _)); exact BK348.out⟩, ⟨by (with_reducible repeat (first | refine blk_drewN ?_ _ | refine blk_drew ?_ | refine blk_alloc ?_ _)); refine blk_far ?_ (by have h_ := Kd.R_ne HO_354001.out BK353.out (by decide); intro e_; exact h_ (by rw [e_]; rfl)) _; (with_reducible repeat (first | refine blk_drewN ?_ _ | refine blk_drew ?_ | refine blk_alloc ?_ _)); exact BK353.out⟩, ⟨by repeat (first | (with_reducible first | exact HB.out | apply below_alloc | apply pw_below_drewN | apply below_drew1 | refine below_set ?_ GB24.out | refine below_set ?_ GE347.out | refine below_set ?_ GE348.out | refine below_set ?_ GE353.out) | exact HB.out)⟩⟩
            · rw [if_neg c23] at H
              exact absurd H (by simp)
          · rw [if_neg c22] at H
            exact absurd H (by simp)
        · rw [if_neg c21] at H
          have c21b0 : decide (x23_1 < (t350.length : Int)) = false := decide_eq_false c21
          clear c21
          by_cases c28 : (Int.tmod a0_0 64) > 0
          · rw [if_pos c28] at H
            have c28b0 : decide (0 < (Int.tmod a0_0 64)) = true := decide_eq_true c28
            clear c28
            obtain ⟨ji29, hji29⟩ : ∃ j_ : Int, (wrap64 ((x354001_1.length : Int) - 1)) = j_ := ⟨_, rfl⟩
            replace H : (if 0 ≤ (ji29) then (if (ji29) < (x354001_1.length : Int) then (if 0 ≤ (Int.tmod a0_0 64) then (some (a0_0, (x354001_1.set ((ji29) : Int).toNat (Go.bits .and .u64 (rd x354001_1 (ji29)) (IntKind.u64.wrap ((shl .u64 1 (Int.tmod a0_0 64)) - 1)))), 0)) else (none)) else (none)) else (none)) = some (r1, r2, r3) := by first | (rw [hji29] at H; exact H) | (simp only [hji29] at H ⊢; exact H)
            have hji29w : (IntKind.i64.wrap ((x354001_1.length : Int) - 1)) = ji29 := (i64_w _).trans hji29
            by_cases c30 : 0 ≤ (ji29)
            · rw [if_pos c30] at H
              have c30b0 : decide (0 ≤ (ji29)) = true := decide_eq_true c30
              clear c30
              by_cases c31 : (ji29) < (x354001_1.length : Int)
              · rw [if_pos c31] at H
                have c31b0 : decide ((ji29) < (x354001_1.length : Int)) = true := decide_eq_true c31
                clear c31
                obtain ⟨ji32, hji32⟩ : ∃ j_ : Int, (Int.tmod a0_0 64) = j_ := ⟨_, rfl⟩
                replace H : (if 0 ≤ (ji32) then (some (a0_0, (x354001_1.set ((ji29) : Int).toNat (Go.bits .and .u64 (rd x354001_1 (ji29)) (IntKind.u64.wrap ((shl .u64 1 (ji32)) - 1)))), 0)) else (none)) = some (r1, r2, r3) := by first | (rw [hji32] at H; exact H) | (simp only [hji32] at H ⊢; exact H)
                (try rw [hji32] at c28b0)
                by_cases c33 : 0 ≤ (ji32)
                · rw [if_pos c33] at H
                  have c33b0 := eq_true c33
                  have c33b1 : decide (0 ≤ (ji32)) = true := decide_eq_true c33
                  clear c33
                  obtain ⟨ji34, hji34⟩ : ∃ j_ : Int, (shl .u64 1 (ji32)) = j_ := ⟨_, rfl⟩
                  replace H : (some (a0_0, (x354001_1.set ((ji29) : Int).toNat (Go.bits .and .u64 (rd x354001_1 (ji29)) (IntKind.u64.wrap ((ji34) - 1)))), 0)) = some (r1, r2, r3) := by first | (rw [hji34] at H; exact H) | (simp only [hji34] at H ⊢; exact H)
                  have hji34_ : (IntKind.u64.wrap (1 * 2 ^ min (ji32).toNat 64)) = ji34 := hji34
                  have hji34z : (ji32) ≤ 64 → (IntKind.u64.wrap (1 * 2 ^ (ji32).toNat)) = ji34 := shl_small hji34
                  have hji34u : (IntKind.u64.wrap (2 ^ min (ji32).toNat 64)) = ji34 := by have h_ := hji34_; rw [Int.one_mul] at h_; exact h_
                  have hji34v : (ji32) ≤ 64 → (IntKind.u64.wrap (2 ^ (ji32).toNat)) = ji34 := fun hle_ => by have h_ := hji34z hle_; rw [Int.one_mul] at h_; exact h_
                  obtain ⟨y357, hy357⟩ : ∃ y_ : List Int, y_ = (x354001_1.set ((ji29) : Int).toNat (Go.bits .and .u64 (rd x354001_1 (ji29)) (IntKind.u64.wrap ((ji34) - 1)))) := ⟨_, rfl⟩
                  replace H : (some (a0_0, y357, 0)) = some (r1, r2, r3) := by first | (rw [hy357]; with_reducible exact H) | (have H2_ := (Option.bind_some _ _).symm.trans H; rw [hy357]; with_reducible exact H2_) | (have H2_ := (Option.bind_some _ _).symm.trans H; with_reducible exact H2_) | with_reducible exact H | (rw [hy357]; exact H) | exact H
                  have Ny357 := Aside0.mk hy357
                  clear hy357
                  simp only [Option.some.injEq, Prod.mk.injEq] at H
                  obtain ⟨rfl, rfl, rfl⟩ := H
                  have hnb36 := NB347_348.out
                  have hnc36 := NB348_347.out
                  have hnb37 := NB347_353.out
                  have hnc37 := NB353_347.out
                  have hcz38_0 : wr.cell? ⟨gb347, 0, none⟩ = some (.int .i64 a0_0) := (blk_cell BK347.out 0).trans rfl
                  have hcz38_1 : wr.cell? ⟨gb347, 1, none⟩ = some (.slice A0_1 l0_1.length c0_1) := (blk_cell BK347.out 1).trans rfl
                  have hfz38_0 := blk_frozen BK347.out 0
                  have hfz38_1 := blk_frozen BK347.out 1
                  try go_wp2
                  have n0_ := Aside0.mk (Kd.R_drew HO_354001.out)
                  have n1_ := Aside0.mk (blk_drew BK347.out)
                  have n2_ := Aside0.mk (blk_drew BK348.out)
                  have n3_ := Aside0.mk (blk_drew BK353.out)
                  have n4_ := Aside0.mk (below_drew1 HB.out)
                  clear HO_354001
                  clear BK347
                  clear BK348
                  clear BK353
                  clear HB
                  have HO_354001 := n0_
                  have BK347 := n1_
                  have BK348 := n2_
                  have BK353 := n3_
                  have HB := n4_
                  clear n0_ n1_ n2_ n3_ n4_
                  obtain ⟨Ao40, co40, eo40⟩ := Kd.R_slice HO_354001.out
                  (first | subst eo40 | (injection eo40 with f1_ f2_ f3_; have f4_ := f1_.symm; have f5_ := f3_.symm; clear f1_ f2_ f3_; subst f4_; subst f5_))
                  have p356 : 0 ≤ ((ji29) : Int) := of_decide_eq_true (by first | (with_reducible assumption) | assumption)
                  have q356 : (ji29) < (x354001_1.length : Int) := of_decide_eq_true (by first | (with_reducible assumption) | assumption)
                  obtain ⟨ad356, e356, hx356_0⟩ := Kd.at_int (Kd.R_reads' HO_354001.out).2.2 (ji29) p356 q356
                  cases e356
                  replace p356 := eq_true p356
                  replace q356 := eq_true q356
                  have p35 : 0 ≤ ((ji29) : Int) := of_decide_eq_true (by first | (with_reducible assumption) | assumption)
                  have q35 : ((ji29) : Int) < ((x354001_1.length : Int) : Int) := of_decide_eq_true (by first | (with_reducible assumption) | assumption)
                  obtain ⟨go35, co35, eo35, gb35, gl35, cl35, HG35⟩ := Kd.R_form HO_354001.out (by omega)
                  (first | cases eo35 | (injection eo35 with ea_ en_ ec_; (first | subst ea_ | (injection ea_ with ea_; subst ea_)); subst ec_; clear en_))
                  have GB35 := Aside0.mk gb35
                  have GG35 := Aside0.mk HG35
                  clear gb35 gl35 HG35
                  (first | simp only [add_plain] at hx356_0 | skip)
                  obtain ⟨hx35_0, hf35_0⟩ := Kd.R_celln 0 HO_354001.out ((ji29) : Int) p35 q35
                  replace p35 := eq_true p35
                  replace q35 := eq_true q35
                  have HP41 := Kd.R_putn HO_354001.out ((ji29) : Int) (Go.bits .and .u64 (rd x354001_1 (ji29)) (IntKind.u64.wrap ((ji34) - 1)))
                  rw [← Ny357.out] at HP41
                  have HQ41 := Aside0.mk HP41
                  clear HP41
                  refine start_ (n := 14) (S := fun w' => w'.cell? ⟨gb353, 0, none⟩ = some (.int .i64 a0_0) ∧ w'.cell? ⟨gb353, 1, none⟩ = some (.slice (some ⟨go35, 0, none⟩) x354001_1.length co40) ∧ w'.cell? ⟨go35, ((ji29)).toNat, none⟩ = some (.int .u64 (rd x354001_1 (ji29)))) (ds := [13]) #[false, false, false, false, false, false, false, false, false, false, false, false, false, false] (by kernel_rfl) rfl rfl ⟨(blk_cell BK353.out 0).trans rfl, (blk_cell BK353.out 1).trans rfl, hx356_0⟩ (fun hHeld => ?_); refine with_tabW bitset_Not.tab12 bitset_Not.bits12 (fun HT_ HW_ => ?_)
                  generalize wr.drew = w39 at HO_354001 BK347 BK348 BK353 HB GG35 HQ41 hf35_0 hx356_0 hx35_0 hHeld ⊢
                  refine pure_ (i := 0) (N := some 42) (v := ?_) (a' := ?_) #[true, false, false, false, false, false, false, false, false, false, false, false, false, false] rfl rfl (any_of HT_.out (by kernel_rfl)) (fun _ _ _ h => h) (Or.inl ⟨by rfl, ?_⟩) ?_ ?_
                  rotate_left
                  · intro w'
                    go_simp
                    with_reducible rfl
                  rotate_left
                  · simp only [Act.put, List.setIfInBounds_toArray, List.set_cons_zero, List.set_cons_succ, i64_w, i32_w]
                    rfl
                  refine pure_ (i := 2) (N := some 44) (v := ?_) (a' := ?_) #[true, false, true, false, false, false, false, false, false, false, false, false, false, false] rfl rfl (any_of HT_.out (by kernel_rfl)) (fun _ _ _ h => h) (Or.inl ⟨by rfl, ?_⟩) ?_ ?_
                  rotate_left
                  · intro w'
                    go_simp
                    with_reducible rfl
                  rotate_left
                  · simp only [Act.put, List.setIfInBounds_toArray, List.set_cons_zero, List.set_cons_succ, i64_w, i32_w]
                    rfl
                  refine pure_ (i := 8) (N := some 50) (v := ?_) (a' := ?_) #[true, false, true, false, false, false, false, false, true, false, false, false, false, false] rfl rfl (any_of HT_.out (by kernel_rfl)) (fun _ _ _ h => h) (Or.inl ⟨by rfl, ?_⟩) ?_ ?_
                  rotate_left
                  · intro w'
                    go_simp
                    with_reducible rfl
                  rotate_left
                  · simp only [Act.put, List.setIfInBounds_toArray, List.set_cons_zero, List.set_cons_succ, i64_w, i32_w]
                    rfl
                  refine pure_ (i := 9) (N := some 51) (v := ?_) (a' := ?_) #[true, false, true, false, false, false, false, false, true, true, false, false, false, false] rfl rfl (any_of HT_.out (by kernel_rfl)) (fun _ _ _ h => h) (Or.inl ⟨by rfl, ?_⟩) ?_ ?_
                  rotate_left
                  · intro w'
                    go_simp
                    with_reducible rfl
                  rotate_left
                  · simp only [Act.put, List.setIfInBounds_toArray, List.set_cons_zero, List.set_cons_succ, i64_w, i32_w]
                    rfl
                  refine pure_ (i := 10) (N := some 52) (v := ?_) (a' := ?_) #[true, false, true, false, false, false, false, false, true, true, true, false, false, false] rfl rfl (any_of HT_.out (by kernel_rfl)) (fun _ _ _ h => h) (Or.inl ⟨by rfl, ?_⟩) ?_ ?_
                  rotate_left
                  · intro w'
                    go_simp
                    with_reducible rfl
                  rotate_left
                  · simp only [Act.put, List.setIfInBounds_toArray, List.set_cons_zero, List.set_cons_succ, i64_w, i32_w]
                    rfl
                  refine take_ (i := 1) (N := some 43) (v := ?_) (a' := ?_) #[true, true, true, false, false, false, false, false, true, true, true, false, false, false] rfl rfl (take_ofW HT_.out HW_.out (by kernel_rfl)) (fun _ _ _ h => h) (Or.inl ⟨by rfl, ?_⟩) hHeld ?_ ?_
                  rotate_left
                  · rintro w' ⟨s0, s1, s2⟩
                    go_simp
                    with_reducible rfl
                  rotate_left
                  · simp only [Act.put, List.setIfInBounds_toArray, List.set_cons_zero, List.set_cons_succ, i64_w, i32_w]
                    rfl
                  refine take_ (i := 3) (N := some 45) (v := ?_) (a' := ?_) #[true, true, true, true, false, false, false, false, true, true, true, false, false, false] rfl rfl (take_ofW HT_.out HW_.out (by kernel_rfl)) (fun _ _ _ h => h) (Or.inl ⟨by rfl, ?_⟩) hHeld ?_ ?_
                  rotate_left
                  · rintro w' ⟨s0, s1, s2⟩
                    go_simp
                    with_reducible rfl
                  rotate_left
                  · simp only [Act.put, List.setIfInBounds_toArray, List.set_cons_zero, List.set_cons_succ, i64_w, i32_w]
                    rfl
                  refine pure_ (i := 4) (N := some 46) (v := ?_) (a' := ?_) #[true, true, true, true, true, false, false, false, true, true, true, false, false, false] rfl rfl (any_of HT_.out (by kernel_rfl)) (fun _ _ _ h => h) (Or.inl ⟨by rfl, ?_⟩) ?_ ?_
                  rotate_left
                  · intro w'
                    go_simp
                    with_reducible rfl
                  rotate_left
                  · simp only [Act.put, List.setIfInBounds_toArray, List.set_cons_zero, List.set_cons_succ, i64_w, i32_w]
                    rfl
                  refine pure_ (i := 5) (N := some 47) (v := ?_) (a' := ?_) #[true, true, true, true, true, true, false, false, true, true, true, false, false, false] rfl rfl (any_of HT_.out (by kernel_rfl)) (fun _ _ _ h => h) (Or.inl ⟨by rfl, ?_⟩) ?_ ?_
                  rotate_left
                  · intro w'
                    go_simp
                    with_reducible rfl
                  rotate_left
                  · simp only [Act.put, List.setIfInBounds_toArray, List.set_cons_zero, List.set_cons_succ, i64_w, i32_w]
                    rfl
                  refine pure_ (i := 6) (N := some 48) (v := ?_) (a' := ?_) #[true, true, true, true, true, true, true, false, true, true, true, false, false, false] rfl rfl (any_of HT_.out (by kernel_rfl)) (fun _ _ _ h => h) (Or.inl ⟨by rfl, ?_⟩) ?_ ?_
                  rotate_left
                  · intro w'
                    go_simp
                    with_reducible rfl
                  rotate_left
                  · simp only [Act.put, List.setIfInBounds_toArray, List.set_cons_zero, List.set_cons_succ, i64_w, i32_w]
                    rfl
                  refine take_ (i := 7) (N := some 49) (v := ?_) (a' := ?_) #[true, true, true, true, true, true, true, true, true, true, true, false, false, false] rfl rfl (take_ofW HT_.out HW_.out (by kernel_rfl)) (fun _ _ _ h => h) (Or.inl ⟨by rfl, ?_⟩) hHeld ?_ ?_
                  rotate_left
                  · rintro w' ⟨s0, s1, s2⟩
                    go_simp
                    with_reducible rfl
                  rotate_left
                  · simp only [Act.put, List.setIfInBounds_toArray, List.set_cons_zero, List.set_cons_succ, i64_w, i32_w]
                    rfl
                  refine pure_ (i := 11) (N := some 53) (v := ?_) (a' := ?_) #[true, true, true, true, true, true, true, true, true, true, true, true, false, false] rfl rfl (any_of HT_.out (by kernel_rfl)) (fun _ _ _ h => h) (Or.inl ⟨by rfl, ?_⟩) ?_ ?_
                  rotate_left
                  · intro w'
                    go_simp
                    with_reducible rfl
                  rotate_left
                  · simp only [Act.put, List.setIfInBounds_toArray, List.set_cons_zero, List.set_cons_succ, i64_w, i32_w]
                    rfl
                  refine pure_ (i := 12) (N := some 54) (v := ?_) (a' := ?_) #[true, true, true, true, true, true, true, true, true, true, true, true, true, false] rfl rfl (any_of HT_.out (by kernel_rfl)) (fun _ _ _ h => h) (Or.inl ⟨by rfl, ?_⟩) ?_ ?_
                  rotate_left
                  · intro w'
                    go_simp
                    with_reducible rfl
                  rotate_left
                  · simp only [Act.put, List.setIfInBounds_toArray, List.set_cons_zero, List.set_cons_succ, i64_w, i32_w]
                    rfl
                  refine last_ (i := 13) (N := none) #[true, true, true, true, true, true, true, true, true, true, true, true, true, true] rfl rfl (one_of HT_.out (by kernel_rfl)) (by decide) (fun K hK => ?_)
                  refine skip_ (w1 := ?_) (by rfl) rfl ?_ ?_
                  rotate_left
                  · go_simp
                    rfl
                  refine hK.out _ _ ?_
                  clear hK K
                  refine done_ (done_of HT_.out (by kernel_rfl)) ?_
                  have n0_ : Aside0 (Kd.R (Kd.int .u64) 42 (w39.setCell ⟨go35, ((ji29) : Int).toNat, none⟩ (.int .u64 (Go.bits .and .u64 (rd x354001_1 (ji29)) (IntKind.u64.wrap ((ji34) - 1))))) w.heap.size (fun _ => True) (.slice (some ⟨go35, 0, none⟩) x354001_1.length co40) y357) := ⟨by (with_reducible repeat (first | apply Kd.R_alloc | apply Kd.R_drewN | apply Kd.R_drew)); exact HQ41.out⟩
                  have n1_ : Aside0 ((w39.setCell ⟨go35, ((ji29) : Int).toNat, none⟩ (.int .u64 (Go.bits .and .u64 (rd x354001_1 (ji29)) (IntKind.u64.wrap ((ji34) - 1))))).heap[gb347]? = some (.cells #[.int .i64 a0_0, .slice A0_1 l0_1.length c0_1] 24 (0, 0))) := ⟨by (with_reducible repeat (first | refine blk_drewN ?_ _ | refine blk_drew ?_ | refine blk_alloc ?_ _)); refine blk_far ?_ (by have h_ := Kd.R_ne HO_354001.out BK347.out (by decide); intro e_; exact h_ (by rw [e_]; rfl)) _; (with_reducible repeat (first | refine blk_drewN ?_ _ | refine blk_drew ?_ | refine blk_alloc ?_ _)); exact BK347.out⟩
                  have n2_ : Aside0 ((w39.setCell ⟨go35, ((ji29) : Int).toNat, none⟩ (.int .u64 (Go.bits .and .u64 (rd x354001_1 (ji29)) (IntKind.u64.wrap ((ji34) - 1))))).heap[gb348]? = some (.cells #[.int .i64 0, .slice none 0 0] 24 (0, 0))) := ⟨by (with_reducible repeat (first | refine blk_drewN ?_ _ | refine blk_drew ?_ | refine blk_alloc ?_ _)); refine blk_far ?_ (by have h_ := Kd.R_ne HO_354001.out BK348.out (by decide); intro e_; exact h_ (by rw [e_]; rfl)) _; (with_reducible repeat (first | refine blk_drewN ?_ _ | refine blk_drew ?_ | refine blk_alloc ?_ _)); exact BK348.out⟩
                  have n3_ : Aside0 ((w39.setCell ⟨go35, ((ji29) : Int).toNat, none⟩ (.int .u64 (Go.bits .and .u64 (rd x354001_1 (ji29)) (IntKind.u64.wrap ((ji34) - 1))))).heap[gb353]? = some (.cells #[.int .i64 a0_0, .slice (some ⟨go35, 0, none⟩) x354001_1.length co40] 24 (0, 0))) := ⟨by (with_reducible repeat (first | refine blk_drewN ?_ _ | refine blk_drew ?_ | refine blk_alloc ?_ _)); refine blk_far ?_ (by have h_ := Kd.R_ne HO_354001.out BK353.out (by decide); intro e_; exact h_ (by rw [e_]; rfl)) _; (with_reducible repeat (first | refine blk_drewN ?_ _ | refine blk_drew ?_ | refine blk_alloc ?_ _)); exact BK353.out⟩
                  have n4_ : Aside0 (Below w.heap.size w (w39.setCell ⟨go35, ((ji29) : Int).toNat, none⟩ (.int .u64 (Go.bits .and .u64 (rd x354001_1 (ji29)) (IntKind.u64.wrap ((ji34) - 1)))))) := ⟨by repeat (first | (with_reducible first | exact HB.out | apply below_alloc | apply pw_below_drewN | apply below_drew1 | refine below_set ?_ GB35.out | refine below_set ?_ GE347.out | refine below_set ?_ GE348.out | refine below_set ?_ GE353.out) | exact HB.out)⟩
                  (try clear HO_354001)
                  (try clear BK347)
                  (try clear BK348)
                  (try clear BK353)
                  (try clear HB)
                  generalize (w39.setCell ⟨go35, ((ji29) : Int).toNat, none⟩ (.int .u64 (Go.bits .and .u64 (rd x354001_1 (ji29)) (IntKind.u64.wrap ((ji34) - 1))))) = w42 at n0_ n1_ n2_ n3_ n4_ ⊢
                  have HO_354001 := n0_
                  have BK347 := n1_
                  have BK348 := n2_
                  have BK353 := n3_
                  have HB := n4_
                  clear n0_ n1_ n2_ n3_ n4_
                  have hnb43 := NB353_348.out
                  have hnc43 := NB348_353.out
                  have hcz44_0 : w42.cell? ⟨gb353, 0, none⟩ = some (.int .i64 a0_0) := (blk_cell BK353.out 0).trans rfl
                  have hcz44_1 : w42.cell? ⟨gb353, 1, none⟩ = some (.slice (some ⟨go35, 0, none⟩) x354001_1.length co40) := (blk_cell BK353.out 1).trans rfl
                  have hfz44_0 := blk_frozen BK353.out 0
                  have hfz44_1 := blk_frozen BK353.out 1
                  have hcz45_0 : w42.cell? ⟨gb348, 0, none⟩ = some (.int .i64 0) := (blk_cell BK348.out 0).trans rfl
                  have hcz45_1 : w42.cell? ⟨gb348, 1, none⟩ = some (.slice none 0 0) := (blk_cell BK348.out 1).trans rfl
                  have hfz45_0 := blk_frozen BK348.out 0
                  have hfz45_1 := blk_frozen BK348.out 1
                  try go_wp2
                  refine bodyPost_ret (results_ct rfl _ _ gb348 24 #[.int .i64 a0_0, .slice (some ⟨go35, 0, none⟩) x354001_1.length co40] (0, 0) _ rfl (by (with_reducible repeat (first | refine blk_drewN ?_ _ | refine blk_drew ?_ | refine blk_alloc ?_ _)); refine blk_put (cs := #[.int .i64 a0_0, .slice none 0 0]) ?_ 1 _ rfl; (with_reducible repeat (first | refine blk_drewN ?_ _ | refine blk_drew ?_ | refine blk_alloc ?_ _)); refine blk_put (cs := #[.int .i64 0, .slice none 0 0]) ?_ 0 _ rfl; (with_reducible repeat (first | refine blk_drewN ?_ _ | refine blk_drew ?_ | refine blk_alloc ?_ _)); exact BK348.out) Tryd.underlying24 rfl (by kernel_rfl)) rfl ?_
                  exact ⟨_, by first | rfl | (simp [errW_none, errW_some] <;> rfl) | (simp only [← hji29, ← hji32, ← hji34]; first | rfl | (simp [errW_none, errW_some] <;> rfl)) | (simp [*, errW_none, errW_some] <;> rfl), by (with_reducible repeat (first | apply Kd.R_alloc | apply Kd.R_drewN | apply Kd.R_drew)); exact Kd.R_mono (Kd.R_far (p := ⟨gb348, 1, none⟩) (Kd.R_far (p := ⟨gb348, 0, none⟩) (Kd.R_types HO_354001.out BK348.out (by decide)) (fun _ hk => hk.2) (.int .i64 a0_0)) (fun _ hk => hk.2) (.slice (some ⟨go35, 0, none⟩) x354001_1.length co40)) (fun _ hk => trivial), by repeat (first | (with_reducible first | exact HB.out | apply below_alloc | apply pw_below_drewN | apply below_drew1 | refine below_set ?_ GE347.out | refine below_set ?_ GE348.out | refine below_set ?_ GE353.out) | exact HB.out)⟩
                · rw [if_neg c33] at H
                  exact absurd H (by simp)
              · rw [if_neg c31] at H
                exact absurd H (by simp)
            · rw [if_neg c30] at H
              exact absurd H (by simp)
          · rw [if_neg c28] at H
            have c28b0 : decide (0 < (Int.tmod a0_0 64)) = false := decide_eq_false c28
            clear c28
            simp only [Option.some.injEq, Prod.mk.injEq] at H
            obtain ⟨rfl, rfl, rfl⟩ := H
            have hnb46 := NB347_348.out
            have hnc46 := NB348_347.out
            have hnb47 := NB347_353.out
            have hnc47 := NB353_347.out
            have hcz48_0 : wr.cell? ⟨gb347, 0, none⟩ = some (.int .i64 a0_0) := (blk_cell BK347.out 0).trans rfl
            have hcz48_1 : wr.cell? ⟨gb347, 1, none⟩ = some (.slice A0_1 l0_1.length c0_1) := (blk_cell BK347.out 1).trans rfl
            have hfz48_0 := blk_frozen BK347.out 0
            have hfz48_1 := blk_frozen BK347.out 1
            have hnb49 := NB353_348.out
            have hnc49 := NB348_353.out
            have hcz50_0 : wr.cell? ⟨gb353, 0, none⟩ = some (.int .i64 a0_0) := (blk_cell BK353.out 0).trans rfl
            have hcz50_1 : wr.cell? ⟨gb353, 1, none⟩ = some (u354001) := (blk_cell BK353.out 1).trans rfl
            have hfz50_0 := blk_frozen BK353.out 0
            have hfz50_1 := blk_frozen BK353.out 1
            have hcz51_0 : wr.cell? ⟨gb348, 0, none⟩ = some (.int .i64 0) := (blk_cell BK348.out 0).trans rfl
            have hcz51_1 : wr.cell? ⟨gb348, 1, none⟩ = some (.slice none 0 0) := (blk_cell BK348.out 1).trans rfl
            have hfz51_0 := blk_frozen BK348.out 0
            have hfz51_1 := blk_frozen BK348.out 1
            obtain ⟨Ao52, co52, eo52⟩ := Kd.R_slice HO_354001.out
            subst eo52
            go_wp2
            refine bodyPost_ret (results_ct rfl _ _ gb348 24 #[.int .i64 a0_0, .slice Ao52 x354001_1.length co52] (0, 0) _ rfl (by (with_reducible repeat (first | refine blk_drewN ?_ _ | refine blk_drew ?_ | refine blk_alloc ?_ _)); refine blk_put (cs := #[.int .i64 a0_0, .slice none 0 0]) ?_ 1 _ rfl; (with_reducible repeat (first | refine blk_drewN ?_ _ | refine blk_drew ?_ | refine blk_alloc ?_ _)); refine blk_put (cs := #[.int .i64 0, .slice none 0 0]) ?_ 0 _ rfl; (with_reducible repeat (first | refine blk_drewN ?_ _ | refine blk_drew ?_ | refine blk_alloc ?_ _)); exact BK348.out) Tryd.underlying24 rfl (by kernel_rfl)) rfl ?_
            exact ⟨_, by first | rfl | (simp [errW_none, errW_some] <;> rfl) | (simp [*, errW_none, errW_some] <;> rfl), by (with_reducible repeat (first | apply Kd.R_alloc | apply Kd.R_drewN | apply Kd.R_drew)); exact Kd.R_mono (Kd.R_far (p := ⟨gb348, 1, none⟩) (Kd.R_far (p := ⟨gb348, 0, none⟩) (Kd.R_types HO_354001.out BK348.out (by decide)) (fun _ hk => hk.2) (.int .i64 a0_0)) (fun _ hk => hk.2) (.slice Ao52 x354001_1.length co52)) (fun _ hk => trivial), by repeat (first | (with_reducible first | exact HB.out | apply below_alloc | apply pw_below_drewN | apply below_drew1 | refine below_set ?_ GE347.out | refine below_set ?_ GE348.out | refine below_set ?_ GE353.out) | exact HB.out)⟩
  · rw [if_neg c3] at H
    have c3b0 : (t349 == 0) = false := beq_eq_false_iff_ne.mpr c3
    have c3b1 : (t349 != 0) = true := bne_iff_ne.mpr c3
    simp only [Option.some.injEq, Prod.mk.injEq] at H
    obtain ⟨rfl, rfl, rfl⟩ := H
    go_enter Tryd.func31, Tryd.ntmps31
    go_wp2_with (first | ((with_reducible refine gate_dst (N := 1) rfl ?_); refine box_event ?hg (N := 1) ?hd (cs := #[.int .i64 a0_0, .slice A0_1 l0_1.length c0_1]) (t := 24) ?hr ?_; (case hd => rfl); (case hg => rfl); (case hr => first | (go_simp; done) | (go_simp; rfl)); intro gb347 hg w53 hbox hb; have n0_ := Aside0.mk (below_step (by repeat (first | (with_reducible first | exact HB.out | apply below_alloc | apply pw_below_drewN | apply below_drew1) | exact HB.out)) hb); have n1_ := Aside0.mk (hbox); have n2_ := Aside0.mk ((by rw [hg]; exact (below_size (by repeat (first | (with_reducible first | exact HB.out | apply below_alloc | apply pw_below_drewN | apply below_drew1) | exact HB.out))) : w.heap.size ≤ gb347)); have n3_ := Aside0.mk ((by rw [hg]; exact (below_size (by repeat (first | (with_reducible first | exact HB.out | apply below_alloc | apply pw_below_drewN | apply below_drew1) | exact HB.out))) : w.heap.size ≤ gb347)); clear HB; have HB := n0_; have BK347 := n1_; have GW347 := n2_; have GE347 := n3_; clear n0_ n1_ n2_ n3_; clear hb hbox hg) | ((with_reducible refine gate_dst (N := 2) rfl ?_); refine box_event ?hg (N := 2) ?hd (cs := #[.int .i64 0, .slice none 0 0]) (t := 24) ?hr ?_; (case hd => rfl); (case hg => rfl); (case hr => first | (go_simp; done) | (go_simp; rfl)); intro gb348 hg w54 hbox hb; have n0_ := Aside0.mk (blk_below (g := gb347) (o := .cells #[.int .i64 a0_0, .slice A0_1 l0_1.length c0_1] 24 (0, 0)) (by (with_reducible repeat (first | refine blk_drewN ?_ _ | refine blk_drew ?_ | refine blk_alloc ?_ _)); exact BK347.out) hb); have n1_ := Aside0.mk (below_step (by repeat (first | (with_reducible first | exact HB.out | apply below_alloc | apply pw_below_drewN | apply below_drew1 | refine below_set ?_ GE347.out) | exact HB.out)) hb); have n2_ := Aside0.mk (hbox); have n3_ := Aside0.mk ((by rw [hg]; exact (below_size (by repeat (first | (with_reducible first | exact HB.out | apply below_alloc | apply pw_below_drewN | apply below_drew1 | refine below_set ?_ GE347.out) | exact HB.out))) : w.heap.size ≤ gb348)); have n4_ := Aside0.mk ((by rw [hg]; exact (below_size (by repeat (first | (with_reducible first | exact HB.out | apply below_alloc | apply pw_below_drewN | apply below_drew1 | refine below_set ?_ GE347.out) | exact HB.out))) : w.heap.size ≤ gb348)); have n5_ := Aside0.mk ((by rw [hg]; exact Nat.ne_of_lt (blk_lt (g := gb347) (o := .cells #[.int .i64 a0_0, .slice A0_1 l0_1.length c0_1] 24 (0, 0)) (by (with_reducible repeat (first | refine blk_drewN ?_ _ | refine blk_drew ?_ | refine blk_alloc ?_ _)); exact BK347.out)) : gb347 ≠ gb348)); have n6_ := Aside0.mk ((by rw [hg]; exact Nat.ne_of_gt (blk_lt (g := gb347) (o := .cells #[.int .i64 a0_0, .slice A0_1 l0_1.length c0_1] 24 (0, 0)) (by (with_reducible repeat (first | refine blk_drewN ?_ _ | refine blk_drew ?_ | refine blk_alloc ?_ _)); exact BK347.out)) : gb348 ≠ gb347)); clear BK347; clear HB; have BK347 := n0_; have HB := n1_; have BK348 := n2_; have GW348 := n3_; have GE348 := n4_; have NB347_348 := n5_; have NB348_347 := n6_; clear n0_ n1_ n2_ n3_ n4_ n5_ n6_; clear hb hbox hg; have hnb55 := NB347_348.out; have hnc55 := NB348_347.out; have hcz56_0 : w54.cell? ⟨gb347, 0, none⟩ = some (.int .i64 a0_0) := (blk_cell BK347.out 0).trans rfl; have hcz56_1 : w54.cell? ⟨gb347, 1, none⟩ = some (.slice A0_1 l0_1.length c0_1) := (blk_cell BK347.out 1).trans rfl; have hfz56_0 := blk_frozen BK347.out 0; have hfz56_1 := blk_frozen BK347.out 1) | ((with_reducible refine gate_callee (f := 14) rfl ?_); refine goesL_ (some 9) rfl rfl Tryd.func14 (by kernel_rfl) rfl #[.agg #[.int .i64 a0_0, .slice A0_1 l0_1.length c0_1]] rfl (by (try simp only [List.map_toArray, List.map_cons, List.map_nil]); first | done | rfl | (simp only [List.length_drop, List.length_take]; rfl)) ?_; (with_reducible refine (bitset_Check.calls k a0_0 _ _ l0_1 t349 _ ?side1 ?side2 A2.out).mono ?_); (case side1 => repeat (first | exact (Kd.C_below HR0_1.out HB.out) | (with_reducible refine Kd.C_alloc ?_ _) | (with_reducible refine Kd.C_drewN ?_ _) | (with_reducible refine Kd.C_drew ?_))); (case side2 => exact HC0_1.out); rintro e w57 ⟨rfl, hb⟩; refine ⟨_, rfl, ?_⟩; have n0_ := Aside0.mk (blk_below (g := gb347) (o := .cells #[.int .i64 a0_0, .slice A0_1 l0_1.length c0_1] 24 (0, 0)) (by (with_reducible repeat (first | refine blk_drewN ?_ _ | refine blk_drew ?_ | refine blk_alloc ?_ _)); exact BK347.out) hb); have n1_ := Aside0.mk (blk_below (g := gb348) (o := .cells #[.int .i64 0, .slice none 0 0] 24 (0, 0)) (by (with_reducible repeat (first | refine blk_drewN ?_ _ | refine blk_drew ?_ | refine blk_alloc ?_ _)); exact BK348.out) hb); have n2_ := Aside0.mk (below_step (by repeat (first | (with_reducible first | exact HB.out | apply below_alloc | apply pw_below_drewN | apply below_drew1 | refine below_set ?_ GE347.out | refine below_set ?_ GE348.out) | exact HB.out)) hb); clear BK347; clear BK348; clear HB; have BK347 := n0_; have BK348 := n1_; have HB := n2_; clear n0_ n1_ n2_; (try clear hb); (try clear hb2); (try clear hk); (try clear hi); have hcz58_0 : w57.cell? ⟨gb348, 0, none⟩ = some (.int .i64 0) := (blk_cell BK348.out 0).trans rfl; have hcz58_1 : w57.cell? ⟨gb348, 1, none⟩ = some (.slice none 0 0) := (blk_cell BK348.out 1).trans rfl; have hfz58_0 := blk_frozen BK348.out 0; have hfz58_1 := blk_frozen BK348.out 1))
    refine bodyPost_ret (results_ct rfl _ _ gb348 24 #[.int .i64 0, .slice none 0 0] (0, 0) _ rfl (by (with_reducible repeat (first | refine blk_drewN ?_ _ | refine blk_drew ?_ | refine blk_alloc ?_ _)); refine blk_put (cs := #[.int .i64 0, .slice none 0 0]) ?_ 1 _ rfl; (with_reducible repeat (first | refine blk_drewN ?_ _ | refine blk_drew ?_ | refine blk_alloc ?_ _)); refine blk_put (cs := #[.int .i64 0, .slice none 0 0]) ?_ 0 _ rfl; (with_reducible repeat (first | refine blk_drewN ?_ _ | refine blk_drew ?_ | refine blk_alloc ?_ _)); exact BK348.out) Tryd.underlying24 rfl (by kernel_rfl)) rfl ?_
    exact ⟨_, by first | rfl | (simp [errW_none, errW_some] <;> rfl) | (simp [*, errW_none, errW_some] <;> rfl), by first | exact Kd.R_nil _ _ _ _ _ | exact Kd.N_nil _ _ _ _ _ | exact Kd.V_nil _ _ _ _ _ | exact Kd.Q_nil _ _ _ _ _ | exact Kd.S_nil _ _ _ _ _, by repeat (first | (with_reducible first | exact HB.out | apply below_alloc | apply pw_below_drewN | apply below_drew1 | refine below_set ?_ GE347.out | refine below_set ?_ GE348.out) | exact HB.out)⟩

end Go.Proofs.YtinhjcoikhpblaaDoor.Q
