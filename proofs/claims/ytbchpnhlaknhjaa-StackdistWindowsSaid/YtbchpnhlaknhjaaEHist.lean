/-
  The contracts of workingset.history's methods distance and evict, over its two cells and its map.
-/
import Derived.Test.YtbchpnhlaknhjaaEOpt
import Derived.StillTailTactics
namespace Go.Proofs.Ytbchpnhlaknhjaa.Q
open Go.Proofs.Ytbchpnhlaknhjaa.Sd
open Go.RowKit Go.Proofs.YtbchpnhlaknhjaaW.PrintWords Go.Proofs.YtbchpnhlaknhjaaW.PrintLast Go.Proofs.YtbchpnhlaknhjaaW.PrintMore
set_option linter.unusedVariables false
set_option linter.unusedSimpArgs false

theorem blk_cell {w : World} {g j t : Nat} {cs : Array Value} {v : Value} (h : w.heap[g]? = some (.cells cs t (0, 0))) (hj : cs[j]? = some v) : w.cell? ⟨g, j, none⟩ = some v := by simp [World.cell?, h, hj]
theorem blk_free {w : World} {g j t : Nat} {cs : Array Value} (h : w.heap[g]? = some (.cells cs t (0, 0))) : w.frozen? ⟨g, j, none⟩ = false := by simp [World.frozen?, h]
theorem blk_set {w : World} {g j t : Nat} {cs : Array Value} {u : Value} (h : w.heap[g]? = some (.cells cs t (0, 0))) : (w.setCell ⟨g, j, none⟩ u).heap[g]? = some (.cells (cs.setIfInBounds j u) t (0, 0)) := by
  have hlt := lt_of_block h
  have h' : w.heap[g] = .cells cs t (0, 0) := by simpa [Array.getElem?_eq_getElem hlt] using h
  show (w.heap.modify g _)[g]? = _
  rw [Array.getElem?_eq_getElem (by simpa using hlt), Array.getElem_modify_self, h']
  rfl
theorem grown_setCell (w : World) (g j : Nat) (u : Value) : w.grownBy (w.setCell ⟨g, j, none⟩ u) (some g) :=
  ⟨rfl, rfl, rfl, by simp [World.setCell], fun k hk hne => Below.heap_setCell w _ u k (fun e => hne (by rw [e]))⟩
theorem blk_grown {w w1 : World} {g t : Nat} {cs : Array Value} {row : Option Nat} (h : w.heap[g]? = some (.cells cs t (0, 0))) (hg : w.grownBy w1 row) (hne : some g ≠ row) : w1.heap[g]? = some (.cells cs t (0, 0)) :=
  (hg.block g (lt_of_block h) hne).trans h
theorem blk_below {w w1 : World} {g t : Nat} {cs : Array Value} (h : w.heap[g]? = some (.cells cs t (0, 0))) (hb : Below w.heap.size w w1) : w1.heap[g]? = some (.cells cs t (0, 0)) :=
  (hb.block g (lt_of_block h)).trans h
/-- A history: its two cells, its map; the times lie between 0 and the count. -/
def Hs (w : World) (g b n : Nat) (m : List (Int × Int)) (c : Int) : Prop :=
  w.heap[g]? = some (.cells #[.int .i64 c, .map (some b)] 53 (0, 0)) ∧ OM Try.prog 3 3 w b n m ∧ (∀ p ∈ m, 0 ≤ p.2 ∧ p.2 ≤ c)
theorem Hs.grown {w w1 : World} {g b n : Nat} {m : List (Int × Int)} {c : Int} {row : Option Nat} (h : Hs w g b n m c) (hg : w.grownBy w1 row) (h1 : some g ≠ row) (h2 : some b ≠ row) : Hs w1 g b n m c :=
  ⟨blk_grown h.1 hg h1, h.2.1.kept hg h2, h.2.2⟩
theorem Hs.below {w w1 : World} {g b n : Nat} {m : List (Int × Int)} {c : Int} (h : Hs w g b n m c) (hb : Below w.heap.size w w1) : Hs w1 g b n m c := ⟨blk_below h.1 hb, h.2.1.below hb, h.2.2⟩
theorem Hs.mono {w : World} {g b n n' : Nat} {m : List (Int × Int)} {c : Int} (h : Hs w g b n m c) (hn : n ≤ n') : Hs w g b n' m c := ⟨h.1, h.2.1.mono hn, h.2.2⟩

set_option maxHeartbeats 1000000 in
theorem history_distance {w : World} {g b n : Nat} {m : List (Int × Int)} {c p : Int} (h : Hs w g b n m c) (hc0 : 0 ≤ c) (hc1 : c ≤ 1000000) (hp : (Lit.int .i64 p).wf = true) :
    Calls Try.prog 48 #[.pointer (some ⟨g, 0, none⟩), .int .i64 p] w fun e w' => e = .returned (.int .i64 (dist m c p)) ∧ w = w' := by
  obtain ⟨hb, hM, hv⟩ := h
  have x0 := blk_cell (j := 0) hb rfl
  have x1 := blk_cell (j := 1) hb rfl
  have HM := Aside0.mk hM
  have HP := Aside0.mk hp
  have HV := Aside0.mk hv
  clear hb hM hp hv
  cases hq : lku m p with
  | none =>
    go_enter Try.func48, Try.ntmps48
    go_wp2_with (first | ((with_reducible refine gate_dst (N := 13) rfl ?_); at_lookup; refine wp_look_ok rfl _ _ 48 rfl 3 3 Try.underlying48 Try.underlying3 Try.underlying3 (zero3 _) b _ m rfl HM.out p rfl HP.out ?_))
    go_ret
    exact ⟨by simp [dist, hq], rfl⟩
  | some a =>
    obtain ⟨ha0, ha1⟩ := HV.out _ (get_some_mem hq)
    simp only at ha0 ha1
    go_enter Try.func48, Try.ntmps48
    go_wp2_with (first | ((with_reducible refine gate_dst (N := 13) rfl ?_); at_lookup; refine wp_look_ok rfl _ _ 48 rfl 3 3 Try.underlying48 Try.underlying3 Try.underlying3 (zero3 _) b _ m rfl HM.out p rfl HP.out ?_))
    go_ret
    exact ⟨by simp [dist, hq], rfl⟩

set_option maxHeartbeats 1000000 in
theorem history_evict {w : World} {g b n : Nat} {m : List (Int × Int)} {c p : Int} (h : Hs w g b n m c) (hc0 : 0 ≤ c) (hc1 : c ≤ 1000000) (hn : n < 1000000) (hp : (Lit.int .i64 p).wf = true) :
    Calls Try.prog 49 #[.pointer (some ⟨g, 0, none⟩), .int .i64 p] w fun e w' => e = .returned (.tuple #[]) ∧ Hs w' g b (n + 1) (ins m p (c + 1)) (c + 1) ∧ ∃ w1, w.grownBy w1 (some g) ∧ w1.grownBy w' (some b) := by
  obtain ⟨hb, hM, hv⟩ := h
  have x0 := blk_cell (j := 0) hb rfl
  have x1 := blk_cell (j := 1) hb rfl
  have f0 := blk_free (j := 0) hb
  have HM := Aside0.mk hM
  have HP := Aside0.mk hp
  have HV := Aside0.mk hv
  have Hb := Aside0.mk hb
  clear hb hM hp hv
  go_enter Try.func49, Try.ntmps49
  go_wp2_with fail
  have hB := blk_set (j := 0) (u := .int .i64 (c + 1)) Hb.out
  have hG := HM.out.setCell (a := ⟨g, 0, none⟩) (u := .int .i64 (c + 1)) (by
    rintro rfl
    obtain ⟨es, cl, hm⟩ := HM.out.at_map
    rw [Hb.out] at hm
    cases hm)
  have hgr := grown_setCell w g 0 (.int .i64 (c + 1))
  generalize w.setCell { block := g, off := 0 } (Value.int IntKind.i64 (c + 1)) = W at *
  clear x0 x1 f0 HM
  have x0 := blk_cell (j := 0) hB rfl
  have x1 := blk_cell (j := 1) hB rfl
  simp only [List.setIfInBounds_toArray, List.set_cons_zero, List.getElem_toArray, List.getElem_cons_zero, List.getElem_cons_succ] at x0 x1
  have HM := Aside0.mk hG
  have HB2 := Aside0.mk hB
  have HGR := Aside0.mk hgr
  clear hG hB hgr Hb
  go_still_tail 9, (by kernel_rfl)
  change wpList _ _ _ _ _ W.drew
  have HMd : Aside0 (OM Try.prog 3 3 W.drew b n m) := ⟨by obtain ⟨D, h1, h2⟩ := HM.out; exact ⟨D, h1.drew, h2⟩⟩
  refine wp_ins rfl _ _ _ 48 rfl 3 3 Try.underlying48 Try.underlying3 Try.underlying3 b _ m rfl HMd.out hn p (c + 1) rfl rfl HP.out (wf_of _ (by omega)) ?_
  intro w4 hm4 hg4
  have hne : some g ≠ some b := by
    intro h
    injection h with h
    obtain ⟨es, cl, hm⟩ := HM.out.at_map
    rw [← h, HB2.out] at hm
    cases hm
  have hb4 : w4.heap[g]? = some (.cells #[.int .i64 (c + 1), .map (some b)] 53 (0, 0)) := (hg4.block g (lt_of_block (w := W.drew) HB2.out) hne).trans HB2.out
  have hfin : Hs w4 g b (n + 1) (ins m p (c + 1)) (c + 1) := ⟨hb4, hm4, fun q hq => by
    rcases List.mem_cons.1 hq with rfl | hq
    · simp only; omega
    · have := HV.out q (List.mem_filter.1 hq).1
      omega⟩
  have HFIN := Aside0.mk hfin
  have HG4 : Aside0 (W.grownBy w4 (some b)) := ⟨⟨hg4.os, hg4.tape, hg4.output, hg4.size, hg4.block⟩⟩
  clear hm4 hg4 hb4 hfin hne x0 x1
  go_wp2
  go_end0
  exact ⟨rfl, HFIN.out, W, HGR.out, HG4.out⟩
end Go.Proofs.Ytbchpnhlaknhjaa.Q
