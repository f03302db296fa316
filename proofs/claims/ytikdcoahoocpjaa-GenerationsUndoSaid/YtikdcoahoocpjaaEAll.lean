/-
  The contract of the iterator over the frames of generations (all and its closure): the frames with the numbers of their lists, in order, or a prefix. Condition: the lists are read as rows.
-/
import Derived.RangeFuncWrites
import Derived.RangeFuncNested
import Derived.RangeFuncBound
import Derived.RangeFuncCalls
import Derived.RangeFuncLeaves
import Derived.Shelf.Abstract
import Derived.Shelf.RegionOpen
import Derived.WalkKit
import Derived.OwnWalkIn
import Derived.TacticsInMore
import Derived.LoopNIn
import Derived.LoopIn
import Derived.Maps.OwnIn
import Derived.Test.YtikdcoahoocpjaaQ0
namespace Go.Proofs.Ytikdcoahoocpjaa.Q
open Go.RowKit Go.Shelf Go.Proofs.YtikdcoahoocpjaaW.PrintWords Go.Proofs.YtikdcoahoocpjaaW.PrintLast Go.Proofs.YtikdcoahoocpjaaW.PrintMore
set_option linter.unusedVariables false
set_option linter.unusedSimpArgs false
attribute [local go_sem] Oper.semAt_some

/-- The frames with the numbers of their lists, counted from s. -/
def prsF : Nat → List (List Int) → List (Nat × Int)
  | _, [] => []
  | s, xs :: r => xs.map (fun f => (s, f)) ++ prsF (s + 1) r
def prs (l : List (List Int)) : List (Nat × Int) := prsF 0 l
/-- Where list i begins. -/
def off (l : List (List Int)) (i : Nat) : Nat := (l.take i).flatten.length
theorem prsF_length : ∀ (l : List (List Int)) s, (prsF s l).length = l.flatten.length
  | [], s => rfl
  | xs :: r, s => by simp [prsF, prsF_length r]
theorem off_succ (l : List (List Int)) (i : Nat) (h : i < l.length) : off l (i + 1) = off l i + (l.getD i []).length := by
  unfold off
  rw [List.take_add_one, List.flatten_append, List.length_append, List.getD_eq_getElem?_getD, List.getElem?_eq_getElem h]
  simp
theorem off_all (l : List (List Int)) : off l l.length = (prs l).length := by
  unfold off prs; rw [List.take_length, prsF_length]
theorem prsF_at : ∀ (l : List (List Int)) (s i j : Nat), i < l.length → j < (l.getD i []).length → (prsF s l)[off l i + j]? = some (s + i, (l.getD i []).getD j 0)
  | [], s, i, j, h, _ => by simp at h
  | xs :: r, s, 0, j, _, h => by
    simp only [List.getD_cons_zero] at h ⊢
    simp only [off, List.take_zero, List.flatten_nil, List.length_nil, Nat.zero_add, prsF]
    rw [List.getElem?_append_left (by simpa using h), List.getElem?_map, List.getElem?_eq_getElem h]
    simp [List.getD_eq_getElem?_getD, h]
  | xs :: r, s, i + 1, j, h, h2 => by
    simp only [List.getD_cons_succ] at h2 ⊢
    have ih := prsF_at r (s + 1) i j (by simpa using h) h2
    simp only [prsF]
    rw [show off (xs :: r) (i + 1) + j = (xs.map (fun f => (s, f))).length + (off r i + j) by simp [off]; omega, List.getElem?_append_right (by omega), Nat.add_sub_cancel_left, ih]
    simp; omega
theorem prs_at (l : List (List Int)) (i j : Nat) (h : i < l.length) (h2 : j < (l.getD i []).length) : (prs l)[off l i + j]? = some (i, (l.getD i []).getD j 0) := by
  have := prsF_at l 0 i j h h2
  rw [Nat.zero_add] at this
  exact this
theorem off_lt (l : List (List Int)) (i j : Nat) (h : i < l.length) (h2 : j < (l.getD i []).length) : off l i + j < (prs l).length := by
  have := prs_at l i j h h2
  exact (List.getElem?_eq_some_iff.mp this).1
/-- The first k rounds. -/
def upK (N k : Nat) : List (Fin N) := (List.finRange N).take k
theorem upK_length {N k : Nat} (h : k ≤ N) : (upK N k).length = k := by simp [upK, h]
theorem upK_succ {N k : Nat} (h : k < N) : upK N (k + 1) = upK N k ++ [⟨k, h⟩] := by
  unfold upK
  rw [List.take_add_one, List.getElem?_eq_getElem (by simpa using h)]
  simp
theorem upK_all (N : Nat) : upK N N = List.finRange N := by unfold upK; rw [List.take_of_length_le (by simp)]
/-- What comes in round x. -/
def prE (l : List (List Int)) (x : Fin (prs l).length) : Nat × Int := (prs l)[x]
theorem prE_at (l : List (List Int)) (i j : Nat) (h : i < l.length) (h2 : j < (l.getD i []).length) : prE l ⟨off l i + j, off_lt l i j h h2⟩ = (i, (l.getD i []).getD j 0) := by
  have := prs_at l i j h h2
  obtain ⟨h3, h4⟩ := List.getElem?_eq_some_iff.mp this
  exact h4
def encP (l : List (List Int)) (x : Fin (prs l).length) : Array Value := #[.int .i64 ((prE l x).1 : Int), .int .i64 (prE l x).2]
set_option maxRecDepth 100000 in
set_option maxHeartbeats 4000000 in
theorem all1_in (F : Fence) (n : Nat) (h42 : F.fn 42) (hro : F.round = none) (hn : 1 ≤ n) (lp Bs : Nat) (w0 : World) (A0 : Option Addr) (c0 : Nat) (l : List (List Int)) (hr0 : Kd.C (Kd.slice 3 (Kd.int .i64)) w0 A0 l.length l) (hl : l.length ≤ 1000000) (hl2 : ∀ i : Nat, (l.getD i []).length ≤ 1000000) (J Jx : List (Fin (prs l).length) → World → Prop)
    (hY : ∀ pre x W, J pre W → pre.length < (prs l).length → YieldAt F (n - 1) Try.prog lp (encP l x) W fun e W' =>
      (e = .returned (.bool true) ∧ J (pre ++ [x]) W' ∧ Below w0.heap.size W W') ∨ (e = .returned (.bool false) ∧ Jx (pre ++ [x]) W'))
    (W : World) (hW : Below w0.heap.size w0 W) (hBs : W.cell? ⟨Bs, 0, none⟩ = some (.slice A0 l.length c0)) (h0 : J [] W) :
    CallsIn F n Try.prog 42 #[.func (.yield lp) #[] #[], .pointer (some ⟨Bs, 0, none⟩)] W fun e W' => (∃ v, e = .returned v) ∧
      ((∃ ys, ys = upK (prs l).length (prs l).length ∧ J ys W') ∨ (∃ pre, (∃ k, k ≤ (prs l).length ∧ pre = upK (prs l).length k) ∧ Jx pre W')) := by
  refine callsIn_of_wp Try.func42 rfl h42 ?_ hro
  simp only [Try.ntmps42, List.size_toArray, List.length_cons, List.length_nil, Nat.reduceAdd, Nat.reduceSub, Array.replicate_succ, Array.replicate_zero, List.push_toArray, List.append_toArray, List.nil_append, List.cons_append]
  have hu22 := Try.underlying22
  gi_wp2
  gi_loopw [9] (fun v wr => ∃ i : Nat, i ≤ l.length ∧ v = .int .i64 i ∧ J (upK (prs l).length (off l i)) wr ∧ Below w0.heap.size w0 wr) (fun v _ => l.length - (intOf v).toNat)
  case atStart => exact ⟨0, Nat.zero_le _, rfl, h0, hW⟩
  case round =>
    obtain ⟨i, hi, rfl, hJi, hBi⟩ := hrel
    by_cases hlt : i < l.length
    · obtain ⟨ad, A1, c1, rfl, hx, hc1, hC1⟩ := at_L1 hr0 (i : Int) (by omega) (by omega)
      have hx' := (hBi.cell (World.block_lt_of_cell? w0 _ hx)).trans hx
      have hlen : (rd_L1 l (i : Int)).length = (l.getD i []).length := rfl
      obtain ⟨m, hm⟩ : ∃ m, m = (rd_L1 l (i : Int)).length := ⟨_, rfl⟩
      have hm2 : m ≤ 1000000 := by rw [hm, hlen]; exact hl2 i
      rw [← hm, Int.toNat_natCast] at hx'
      rw [← hm] at hC1 hc1
      have HMM := Aside0.mk (hm.trans hlen)
      clear hm hlen hx
      gi_wp2
      gi_loopw [16] (fun v wr => ∃ j : Nat, j ≤ m ∧ v = .int .i64 j ∧ J (upK (prs l).length (off l i + j)) wr ∧ Below w0.heap.size w0 wr) (fun v _ => m - (intOf v).toNat)
      case atStart => exact ⟨0, Nat.zero_le _, rfl, hJi, hBi⟩
      case round =>
        obtain ⟨j, hj, rfl, hJj, hBj⟩ := hrel
        by_cases hjl : j < m
        · obtain ⟨ad2, rfl, hy0⟩ := Kd.at_int hC1 (j : Int) (by omega) (by omega)
          have hy1 := (hBj.cell (World.block_lt_of_cell? w0 _ hy0)).trans hy0
          rw [Int.toNat_natCast] at hy1
          have hk := off_lt l i j hlt (by have := HMM.out; omega)
          obtain ⟨fn, tmps, assign, body, hy, hR⟩ := hY _ ⟨off l i + j, hk⟩ wr hJj (by rw [upK_length (by omega)]; exact hk)
          rw [show encP l ⟨off l i + j, hk⟩ = #[.int .i64 (i : Int), .int .i64 (rd (rd_L1 l (i : Int)) (j : Int))] from by unfold encP; rw [prE_at l i j hlt (by have := HMM.out; omega)]; rfl] at hy
          gi_wp2
          refine hR.mono ?_
          rintro e W3 (⟨rfl, hJ3, hk3⟩ | ⟨rfl, hJx3⟩)
          · gi_wp2
            go_roundw
            case rel => exact ⟨j + 1, by omega, by simp, by rw [show off l i + (j + 1) = off l i + j + 1 by omega, upK_succ hk]; exact hJ3, hBj.trans hk3⟩
            case measure => simp [intOf]; omega
          · gi_wp2
            refine bodyPost_ret (results_none rfl _ _ _) rfl ?_
            exact ⟨⟨_, rfl⟩, .inr ⟨_, ⟨off l i + j + 1, by omega, (upK_succ hk).symm⟩, hJx3⟩⟩
        · obtain rfl : j = m := by omega
          gi_wp2
          exact ⟨⟨i + 1, by omega, by simp, by rw [off_succ l i hlt, ← HMM.out]; exact hJj, hBj⟩, by simp [intOf]; omega⟩
    · obtain rfl : i = l.length := by omega
      gi_wp2
      go_end0
      exact ⟨⟨_, rfl⟩, .inl ⟨_, rfl, by have := hJi; rw [off_all] at this; exact this⟩⟩
set_option maxHeartbeats 1000000 in
/-- **all(l)**: the slice value is boxed; the function value captures the box. -/
theorem all_in (F : Fence) (n : Nat) (h31 : F.fn 31) (hro : F.round = none) (a : Option Addr) (len cap : Nat) (w : World) :
    CallsIn F n Try.prog 31 #[.slice a len cap] w fun e w' => e = .returned (.func (.func 42) #[] #[.pointer (some ⟨w.heap.size, 0, none⟩)]) ∧ w' = w.alloc (.cells #[.slice a len cap] 22) := by
  refine callsIn_of_wp Try.func31 rfl h31 ?_ hro
  simp only [Try.ntmps31, List.size_toArray, List.length_cons, List.length_nil, Nat.reduceAdd, Nat.reduceSub, Array.replicate_succ, Array.replicate_zero, List.push_toArray, List.append_toArray, List.nil_append, List.cons_append]
  gi_wp2
  go_ret
  exact ⟨rfl, rfl⟩
/-- The iterator's contract. -/
theorem all_stops (F : Fence) (n : Nat) (h42 : F.fn 42) (hro : F.round = none) (hn : 1 ≤ n) (Bs : Nat) (w0 : World) (A0 : Option Addr) (c0 : Nat) (l : List (List Int)) (hr0 : Kd.C (Kd.slice 3 (Kd.int .i64)) w0 A0 l.length l) (hl : l.length ≤ 1000000) (hl2 : ∀ i : Nat, (l.getD i []).length ≤ 1000000)
    (w : World) (hBs : Bs < w.heap.size) (hw : Below w0.heap.size w0 w) (hc : w.cell? ⟨Bs, 0, none⟩ = some (.slice A0 l.length c0)) :
    SeqStopsK F n Try.prog 42 #[.pointer (some ⟨Bs, 0, none⟩)] (encP l) (Below w0.heap.size) (fun ys => ys = upK (prs l).length (prs l).length) (fun pre => ∃ k, k ≤ (prs l).length ∧ pre = upK (prs l).length k) (prs l).length w := fun lp J Jx W hW _ _ hY h0 =>
  all1_in F n h42 hro hn lp Bs w0 A0 c0 l hr0 hl hl2 J Jx hY W (hw.trans (hW.mono hw.size)) ((hW.cell (p := ⟨Bs, 0, none⟩) hBs).trans hc) h0
end Go.Proofs.Ytikdcoahoocpjaa.Q
