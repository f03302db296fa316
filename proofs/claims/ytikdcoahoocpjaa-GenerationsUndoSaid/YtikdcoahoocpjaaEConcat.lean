/-
  The contracts of slices.Grow at nil and of slices.Concat at [][]int: a row of the call's own with the elements of all lists, in order. Condition: the lists are short.
-/
import Derived.Test.YtikdcoahoocpjaaQ0
import Derived.Lib.SliceRun
namespace Go.Proofs.Ytikdcoahoocpjaa.Q
open Go.RowKit Go.Proofs.YtikdcoahoocpjaaW.PrintWords Go.Proofs.YtikdcoahoocpjaaW.PrintLast Go.Proofs.YtikdcoahoocpjaaW.PrintMore
set_option linter.unusedVariables false
set_option linter.unusedSimpArgs false
set_option maxHeartbeats 2000000 in
set_option maxRecDepth 100000 in
theorem grow_calls (n : Nat) (hn : n ≤ 1000000) (w : World) :
    Calls Try.prog 41 #[.slice none 0 0, .int .i64 n] w fun e w' => ∃ v, e = .returned v ∧ Kd.R (Kd.int .i64) 3 w' w.heap.size (fun _ => True) v ([] : List Int) ∧ Below w.heap.size w w' := by
  have HB := Aside0.mk (Below.refl w.heap.size w)
  have t0 : decide ((n : Int) < 0) = false := decide_eq_false (by omega)
  have t1 : wrap64 (n : Int) = n := by unfold wrap64; omega
  by_cases h0 : n = 0
  · have t2 : decide ((n : Int) > 0) = false := decide_eq_false (by omega)
    go_enter Try.func41, Try.ntmps41
    go_wp2
    go_ret
    exact ⟨_, rfl, Kd.R_nil _ _ _ _ _, HB.out⟩
  · have t2 : decide ((n : Int) > 0) = true := decide_eq_true (by omega)
    have NB := Aside0.mk hn
    go_enter Try.func41, Try.ntmps41
    go_wp2_with (first | ((with_reducible refine gate_builtin (b := .append) (xs := #[.tmp 20, .tmp 21]) rfl ?_); at_builtin; refine Kd.R_append_zeros (Kd.int .i64) (w0 := w) w.heap.size rfl (.tmp 20) (.tmp 21) 25 3 3 (.int .i64 0) 8 rfl Try.underlying25 Try.underlying3 info3 rfl (by decide) (by decide) (.slice none 0 0) [] 0 (n : Int) (fun _ => True) rfl rfl rfl (fun _ _ => trivial) (Kd.R_nil _ _ _ _ _) (by omega) HB.out HB.out.size (by have := NB.out; simp; omega) ?_; intro v1 w1 ho hb hg hat; obtain ⟨A1, c1, e1⟩ := Kd.R_slice ho; subst e1; have HO := Aside0.mk (Kd.R_take ho (m := 0) (by omega)); have HR := Aside0.mk (Kd.R_reads' ho); clear HB; have HB := Aside0.mk hb; clear ho hb hg hat))
    go_ret
    exact ⟨_, rfl, by have := HO.out; simpa using this, HB.out⟩
def pre (l : List (List Int)) (i : Nat) : List Int := (l.take i).flatten
theorem pre_succ (l : List (List Int)) (i : Nat) (h : i < l.length) : pre l (i + 1) = pre l i ++ rd_L1 l (i : Int) := by
  unfold pre rd_L1
  rw [List.take_add_one, List.flatten_append, Int.toNat_natCast, List.getD_eq_getElem?_getD, List.getElem?_eq_getElem h]
  simp
theorem pre_le (l : List (List Int)) (i : Nat) : (pre l i).length ≤ l.flatten.length := by
  unfold pre
  conv => rhs; rw [← List.take_append_drop i l]
  rw [List.flatten_append, List.length_append]
  omega
theorem pre_all (l : List (List Int)) : pre l l.length = l.flatten := by unfold pre; rw [List.take_length]
def slices_Concat_int_int.f (l0 : List (List Int)) : Option (List Int) := if l0.length ≤ 1000000 ∧ l0.flatten.length ≤ 1000000 then some l0.flatten else none
set_option maxHeartbeats 4000000 in
set_option maxRecDepth 100000 in
theorem slices_Concat_int_int.calls (A0 : Option Addr) (c0 : Nat) (l0 : List (List Int)) (r : List Int) (w : World) (hr0 : Kd.C (Kd.slice 3 (Kd.int .i64)) w A0 l0.length l0) (hc0 : l0.length ≤ c0) (h : slices_Concat_int_int.f l0 = some r) :
    Calls Try.prog 30 #[.slice A0 l0.length c0] w fun e w' => ∃ v0_ : Value, e = .returned (v0_) ∧ Kd.R (Kd.int .i64) 3 w' w.heap.size (fun _ => True) v0_ r ∧ Below w.heap.size w w' := by
  unfold slices_Concat_int_int.f at h
  split at h
  · rename_i hl
    obtain rfl := Option.some.inj h
    obtain ⟨hl1, hl2⟩ := hl
    have HR0 := Aside0.mk hr0
    have HC0 := Aside0.mk hc0
    have HB := Aside0.mk (Below.refl w.heap.size w)
    clear h hr0 hc0
    go_enter Try.func30, Try.ntmps30
    go_wp2
    go_loopg [3, 11] l0.length (fun kq v3 v11 w' => ∃ i : Nat, v3 = .int .i64 ((pre l0 i).length : Int) ∧ v11 = .int .i64 i ∧ i ≤ l0.length ∧ Aside0 (l0.length - i ≤ kq) ∧ Aside0 (Below w.heap.size w w'))
    case atStart => exact ⟨0, rfl, rfl, Nat.zero_le _, ⟨by omega⟩, HB⟩
    case round =>
      clear HB
      obtain ⟨i, rfl, rfl, hi, HI, HB⟩ := hrel
      by_cases hlt : i < l0.length
      · have c1 : decide ((i : Int) < (l0.length : Int)) = true := decide_eq_true (by omega)
        obtain ⟨ad, A1, c1_, rfl, hx, hc1, hC1⟩ := at_L1 HR0.out (i : Int) (by omega) (by omega)
        replace hx := (HB.out.cell (World.block_lt_of_cell? w _ hx)).trans hx
        have hsum : (pre l0 (i + 1)).length = (pre l0 i).length + (rd_L1 l0 (i : Int)).length := by rw [pre_succ l0 i hlt, List.length_append]
        have hle := pre_le l0 (i + 1)
        have hw : wrap64 (((pre l0 i).length : Int) + ((rd_L1 l0 (i : Int)).length : Int)) = ((pre l0 (i + 1)).length : Int) := by rw [hsum]; unfold wrap64; omega
        have hn : decide (((pre l0 (i + 1)).length : Int) < 0) = false := decide_eq_false (by omega)
        rw [Int.toNat_natCast] at hx
        clear hsum hC1 hc1
        go_wp2
        go_roundg (gk - 1)
        case measure => have := HI.out; omega
        case rel => exact ⟨i + 1, by rw [hw], rfl, by omega, ⟨by have := HI.out; omega⟩, HB⟩
      · have c1 : decide ((i : Int) < (l0.length : Int)) = false := decide_eq_false (by omega)
        obtain rfl : i = l0.length := by omega
        have hp := pre_le l0 l0.length
        go_wp2_with (first | (go_at_call 41; refine (grow_calls (pre l0 l0.length).length (by omega) _).mono ?_; rintro e w2 ⟨v2, rfl, ho, hb⟩; have HO0 := Aside0.mk (Kd.R_lower ho HB.out.size); have n0_ := Aside0.mk (below_step HB.out hb); clear HB; have HB := n0_; clear n0_ hb ho))
        go_loopg [6, 27] l0.length (fun kq v6 v27 w' => ∃ i : Nat, v27 = .int .i64 i ∧ i ≤ l0.length ∧ Aside0 (l0.length - i ≤ kq) ∧ Aside0 (Kd.R (Kd.int .i64) 3 w' w.heap.size (fun _ => True) v6 (pre l0 i)) ∧ Aside0 (Below w.heap.size w w'))
        case atStart => exact ⟨0, rfl, Nat.zero_le _, ⟨by omega⟩, HO0, HB⟩
        case round =>
          clear HB HO0 HI c1 hlt hi hp
          obtain ⟨i, rfl, hi, HI, HO, HB⟩ := hrel
          obtain ⟨A6, c6, e6⟩ := Kd.R_slice HO.out
          subst e6
          by_cases hlt : i < l0.length
          · have c1 : decide ((i : Int) < (l0.length : Int)) = true := decide_eq_true (by omega)
            obtain ⟨ad, A1, c1_, rfl, hx, hc1, hC1⟩ := at_L1 HR0.out (i : Int) (by omega) (by omega)
            replace hx := (HB.out.cell (World.block_lt_of_cell? w _ hx)).trans hx
            have HC1 := Aside0.mk hC1
            have hsum : (pre l0 (i + 1)).length = (pre l0 i).length + (rd_L1 l0 (i : Int)).length := by rw [pre_succ l0 i hlt, List.length_append]
            have hle := pre_le l0 (i + 1)
            have LM := Aside0.mk (show (pre l0 i).length + (rd_L1 l0 (i : Int)).length ≤ 1000000 by omega)
            rw [Int.toNat_natCast] at hx
            clear hsum hC1 hle
            go_wp2_with (first | ((with_reducible refine gate_builtin (b := .append) (xs := #[.tmp 31, .tmp 32]) rfl ?_); at_builtin; refine Kd.R_append_rows (Kd.int .i64) (w0 := w) w.heap.size rfl (.tmp 31) (.tmp 32) 25 3 (.int .i64 0) 8 rfl Try.underlying25 info3 rfl (by decide) (by omega) (.slice A6 (pre l0 i).length c6) (pre l0 i) (rd_L1 l0 (i : Int)) _ _ _ (fun _ => True) (fun _ => False) rfl rfl ?aO ?aR (fun _ _ h => h) (fun _ h => h.elim) ?aF ?aB ?aS ?aL ?_; (case aR => repeat (first | exact (Kd.C_below HC1.out HB.out) | (with_reducible refine Kd.C_alloc ?_ _) | (with_reducible refine Kd.C_drewN ?_ _) | (with_reducible refine Kd.C_drew ?_))); (case aB => exact HB.out); (case aF => exact (fun _ _ => trivial)); (case aO => exact HO.out); (case aS => exact HB.out.size); (case aL => have := LM.out; simp; omega); intro v3 w3 ho hb hg hat; have HO2 := Aside0.mk ho; clear HB; have HB := Aside0.mk hb; clear ho hb hg hat))
            go_roundg (gk - 1)
            case measure => have := HI.out; omega
            case rel => exact ⟨i + 1, rfl, by omega, ⟨by have := HI.out; omega⟩, ⟨by rw [pre_succ l0 i hlt]; exact HO2.out⟩, HB⟩
          · have c1 : decide ((i : Int) < (l0.length : Int)) = false := decide_eq_false (by omega)
            obtain rfl : i = l0.length := by omega
            have hO := HO.out
            rw [pre_all] at hO
            go_wp2
            go_ret
            exact ⟨_, rfl, by rw [pre_all]; exact hO, HB.out⟩
  · cases h
end Go.Proofs.Ytikdcoahoocpjaa.Q
