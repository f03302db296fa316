/-
  The contracts of workingset.lists's methods activate and evict, for the bound 0 of the active list.
-/
import Derived.Test.YtbchpnhlaknhjaaEDel
import Derived.Test.YtbchpnhlaknhjaaERefaults
namespace Go.Proofs.Ytbchpnhlaknhjaa.Q
open Go.Proofs.Ytbchpnhlaknhjaa.Sd
open Go.RowKit Go.Proofs.YtbchpnhlaknhjaaW.PrintWords Go.Proofs.YtbchpnhlaknhjaaW.PrintLast Go.Proofs.YtbchpnhlaknhjaaW.PrintMore
set_option linter.unusedVariables false
set_option linter.unusedSimpArgs false

/-- Where the two lists stand in memory: the history, the struct's cells (ui, ua, 0), the inactive row vi, the active row va, what is told so far (v8); nothing old has changed. -/
structure SL (w W : World) (g b gl n : Nat) (m : List (Int × Int)) (k : Int) (xs ys out : List Int) (ui ua vi va v8 : Value) : Prop where
  hs : Hs W g b n m k
  cl : W.heap[gl]? = some (.cells #[ui, ua, .int .i64 0] 57 (0, 0))
  qi : Kd.Q (Kd.int .i64) 3 W w.heap.size (fun k => some k ≠ va.ownBlock ∧ some k ≠ v8.ownBlock) vi xs
  qa : Kd.Q (Kd.int .i64) 3 W w.heap.size (fun k => some k ≠ vi.ownBlock ∧ some k ≠ v8.ownBlock) va ys
  r : Kd.R (Kd.int .i64) 3 W w.heap.size (fun k => some k ≠ vi.ownBlock ∧ some k ≠ va.ownBlock) v8 out
  bel : Below w.heap.size w W
  gg : w.heap.size ≤ g
  gb : w.heap.size ≤ b
  ggl : w.heap.size ≤ gl
section
variable {w W W1 : World} {g b gl n n' : Nat} {m : List (Int × Int)} {k : Int} {xs ys out : List Int} {ui ua vi va v8 v : Value}
theorem SL.mono (h : SL w W g b gl n m k xs ys out ui ua vi va v8) (hn : n ≤ n') : SL w W g b gl n' m k xs ys out ui ua vi va v8 := ⟨h.hs.mono hn, h.cl, h.qi, h.qa, h.r, h.bel, h.gg, h.gb, h.ggl⟩
theorem SL.below (h : SL w W g b gl n m k xs ys out ui ua vi va v8) (hb : Below W.heap.size W W1) : SL w W1 g b gl n m k xs ys out ui ua vi va v8 :=
  ⟨h.hs.below hb, blk_below h.cl hb, Kd.Q_below h.qi hb, Kd.Q_below h.qa hb, Kd.R_below h.r hb, below_step h.bel hb, h.gg, h.gb, h.ggl⟩
theorem SL.g_ne (h : SL w W g b gl n m k xs ys out ui ua vi va v8) : g ≠ gl := by
  rintro rfl
  have h1 := h.hs.1
  rw [h.cl] at h1
  cases h1
theorem SL.b_ne (h : SL w W g b gl n m k xs ys out ui ua vi va v8) : b ≠ gl := by
  rintro rfl
  obtain ⟨es, cl, hm⟩ := h.hs.2.1.at_map
  rw [h.cl] at hm
  cases hm
theorem SL.g_ne_b (h : SL w W g b gl n m k xs ys out ui ua vi va v8) : g ≠ b := by
  rintro rfl
  obtain ⟨es, cl, hm⟩ := h.hs.2.1.at_map
  rw [h.hs.1] at hm
  cases hm
theorem SL.outApp (h : SL w W g b gl n m k xs ys out ui ua vi va v8) {x : Int} (hr : Kd.R (Kd.int .i64) 3 W1 w.heap.size (fun k => some k ≠ vi.ownBlock ∧ some k ≠ va.ownBlock) v (out ++ [x])) (hb : Below w.heap.size w W1) (hg : W.grownBy W1 v8.ownBlock)
    (hat : v.ownBlock = v8.ownBlock ∨ ∃ b, v.ownBlock = some b ∧ W.heap.size ≤ b) : SL w W1 g b gl n m k xs ys (out ++ [x]) ui ua vi va v := by
  obtain ⟨es, cl, hm⟩ := h.hs.2.1.at_map
  exact ⟨h.hs.grown hg (Kd.R_ne h.r h.hs.1 (by decide)) (Kd.R_apart_map h.r hm), blk_grown h.cl hg (Kd.R_ne h.r h.cl (by decide)),
    Kd.Q_after h.qi hg hat, Kd.Q_after h.qa hg hat, hr, hb, h.gg, h.gb, h.ggl⟩
theorem SL.iApp (h : SL w W g b gl n m k xs ys out ui ua vi va v8) {x : Int} (hr : Kd.Q (Kd.int .i64) 3 W1 w.heap.size (fun k => some k ≠ va.ownBlock ∧ some k ≠ v8.ownBlock) v (xs ++ [x])) (hb : Below w.heap.size w W1) (hg : W.grownBy W1 vi.ownBlock)
    (hat : v.ownBlock = vi.ownBlock ∨ ∃ b, v.ownBlock = some b ∧ W.heap.size ≤ b) : SL w W1 g b gl n m k (xs ++ [x]) ys out ui ua v va v8 := by
  obtain ⟨es, cl, hm⟩ := h.hs.2.1.at_map
  exact ⟨h.hs.grown hg (Kd.Q_ne h.qi h.hs.1 (by decide)) (Kd.Q_apart_map h.qi hm), blk_grown h.cl hg (Kd.Q_ne h.qi h.cl (by decide)), hr,
    Kd.Q_mono (Kd.Q_after (Kd.Q_mono h.qa (fun _ hk => hk.symm)) hg hat) (fun _ hk => hk.symm), Kd.R_mono (Kd.R_after (Kd.R_mono h.r (fun _ hk => hk.symm)) hg hat) (fun _ hk => hk.symm), hb, h.gg, h.gb, h.ggl⟩
theorem SL.aApp (h : SL w W g b gl n m k xs ys out ui ua vi va v8) {x : Int} (hr : Kd.Q (Kd.int .i64) 3 W1 w.heap.size (fun k => some k ≠ vi.ownBlock ∧ some k ≠ v8.ownBlock) v (ys ++ [x])) (hb : Below w.heap.size w W1) (hg : W.grownBy W1 va.ownBlock)
    (hat : v.ownBlock = va.ownBlock ∨ ∃ b, v.ownBlock = some b ∧ W.heap.size ≤ b) : SL w W1 g b gl n m k xs (ys ++ [x]) out ui ua vi v v8 := by
  obtain ⟨es, cl, hm⟩ := h.hs.2.1.at_map
  exact ⟨h.hs.grown hg (Kd.Q_ne h.qa h.hs.1 (by decide)) (Kd.Q_apart_map h.qa hm), blk_grown h.cl hg (Kd.Q_ne h.qa h.cl (by decide)),
    Kd.Q_mono (Kd.Q_after (Kd.Q_mono h.qi (fun _ hk => hk.symm)) hg hat) (fun _ hk => hk.symm), hr, Kd.R_after h.r hg hat, hb, h.gg, h.gb, h.ggl⟩
theorem SL.cells (h : SL w W g b gl n m k xs ys out ui ua vi va v8) {ui' ua' : Value} (hg : W.grownBy W1 (some gl)) (hc : W1.heap[gl]? = some (.cells #[ui', ua', .int .i64 0] 57 (0, 0))) : SL w W1 g b gl n m k xs ys out ui' ua' vi va v8 :=
  ⟨h.hs.grown hg (fun e => h.g_ne (by injection e)) (fun e => h.b_ne (by injection e)), hc,
    Kd.Q_mono (Kd.Q_grown (Kd.Q_types h.qi h.cl (by decide)) hg (fun k hk e => hk.2 (by injection e))) (fun _ hk => hk.1),
    Kd.Q_mono (Kd.Q_grown (Kd.Q_types h.qa h.cl (by decide)) hg (fun k hk e => hk.2 (by injection e))) (fun _ hk => hk.1),
    Kd.R_mono (Kd.R_grown (Kd.R_types h.r h.cl (by decide)) hg (fun k hk e => hk.2 (by injection e))) (fun _ hk => hk.1),
    h.bel.grown hg h.bel.size (fun j hj => by cases hj; exact h.ggl), h.gg, h.gb, h.ggl⟩
theorem SL.storeI (h : SL w W g b gl n m k xs ys out ui ua vi va v8) (u : Value) : SL w (W.setCell ⟨gl, 0, none⟩ u) g b gl n m k xs ys out u ua vi va v8 := h.cells (grown_setCell W gl 0 u) (by
  have := blk_set (j := 0) (u := u) h.cl
  simpa using this)
theorem SL.storeA (h : SL w W g b gl n m k xs ys out ui ua vi va v8) (u : Value) : SL w (W.setCell ⟨gl, 1, none⟩ u) g b gl n m k xs ys out ui u vi va v8 := h.cells (grown_setCell W gl 1 u) (by
  have := blk_set (j := 1) (u := u) h.cl
  simpa using this)
theorem SL.iSame (h : SL w W g b gl n m k xs ys out ui ua vi va v8) {xs' : List Int} (hr : Kd.Q (Kd.int .i64) 3 W w.heap.size (fun k => some k ≠ va.ownBlock ∧ some k ≠ v8.ownBlock) v xs') (hv : v.ownBlock = vi.ownBlock) : SL w W g b gl n m k xs' ys out ui ua v va v8 :=
  ⟨h.hs, h.cl, hr, Kd.Q_mono h.qa (fun _ hk => by rw [hv]; exact hk), Kd.R_mono h.r (fun _ hk => by rw [hv]; exact hk), h.bel, h.gg, h.gb, h.ggl⟩
theorem SL.aSame (h : SL w W g b gl n m k xs ys out ui ua vi va v8) {ys' : List Int} (hr : Kd.Q (Kd.int .i64) 3 W w.heap.size (fun k => some k ≠ vi.ownBlock ∧ some k ≠ v8.ownBlock) v ys') (hv : v.ownBlock = va.ownBlock) : SL w W g b gl n m k xs ys' out ui ua vi v v8 :=
  ⟨h.hs, h.cl, Kd.Q_mono h.qi (fun _ hk => by rw [hv]; exact hk), hr, Kd.R_mono h.r (fun _ hk => by rw [hv]; exact hk), h.bel, h.gg, h.gb, h.ggl⟩
theorem SL.x0 (h : SL w W g b gl n m k xs ys out ui ua vi va v8) : W.cell? ⟨gl, 0, none⟩ = some ui := blk_cell (j := 0) h.cl rfl
theorem SL.x1 (h : SL w W g b gl n m k xs ys out ui ua vi va v8) : W.cell? ⟨gl, 1, none⟩ = some ua := blk_cell (j := 1) h.cl rfl
theorem SL.x2 (h : SL w W g b gl n m k xs ys out ui ua vi va v8) : W.cell? ⟨gl, 2, none⟩ = some (.int .i64 0) := blk_cell (j := 2) h.cl rfl
theorem SL.f (h : SL w W g b gl n m k xs ys out ui ua vi va v8) (j : Nat) : W.frozen? ⟨gl, j, none⟩ = false := blk_free h.cl
end

set_option maxHeartbeats 2000000 in
theorem lists_evict {w W : World} {g b gl n : Nat} {m : List (Int × Int)} {k : Int} {xs out : List Int} {vi va v8 : Value} (h : SL w W g b gl n m k xs [] out vi va vi va v8) (hx : 0 < xs.length) (hxl : xs.length ≤ 100000) :
    Calls Try.prog 52 #[.pointer (some ⟨gl, 0, none⟩)] W fun e W' => e = .returned (.int .i64 (rd xs 0)) ∧ ∃ vi', SL w W' g b gl n m k (xs.drop 1) [] out vi' va vi' va v8 := by
  have HS := Aside0.mk h
  obtain ⟨A, co, e, hco⟩ := Kd.Q_slice h.qi
  subst e
  have x0 := h.x0
  have x1 := h.x1
  have f0 := h.f 0
  have hp : (0 : Int) < ((xs.length : Nat) : Int) := by omega
  have hpb : decide ((0 : Int) < (xs.length : Int)) = true := decide_eq_true hp
  obtain ⟨ad, e, hq0⟩ := q_head h.qi hp
  cases e
  clear h
  obtain ⟨i0, hi0_, _, hsz0, _⟩ := info_parts info3
  have hcut := cut_from (P := Try.prog) 22 3 .i64 Try.underlying22 hi0_ 1 hsz0 (some ad) xs.length co 1 (by omega) (by omega)
  obtain ⟨qd, hqd⟩ : ∃ qd : List Int, qd = xs.drop 1 := ⟨_, rfl⟩
  obtain ⟨A1, hA1⟩ : ∃ A1, A1 = (if co = (1 : Int).toNat then some ad else (some ad : Option Addr).map (·.add ((1 : Int).toNat * 1))) := ⟨_, rfl⟩
  obtain ⟨c1, hc1⟩ : ∃ c1, c1 = co - (1 : Int).toNat := ⟨_, rfl⟩
  have hy : qd.length = xs.length - (1 : Int).toNat := by rw [hqd, List.length_drop]; rfl
  rw [← hy, ← hA1, ← hc1] at hcut
  have hr : Kd.Q (Kd.int .i64) 3 W w.heap.size (fun k => some k ≠ va.ownBlock ∧ some k ≠ v8.ownBlock) (.slice A1 qd.length c1) qd := by
    rw [hA1, hc1, hy, hqd]
    exact Kd.Q_drop (k := (1 : Int).toNat) HS.out.qi (by simp; omega)
  have hE : (Value.slice A1 qd.length c1).ownBlock = (.slice (some ad) xs.length co : Value).ownBlock := by rw [hA1]; split <;> rfl
  have HS2 := Aside0.mk ((HS.out.iSame hr hE).storeI (.slice A1 qd.length c1))
  have HQ := Aside0.mk hqd
  clear hr hE hy hA1 hc1 hi0_ hsz0 hqd
  go_enter Try.func52, Try.ntmps52
  go_wp2
  go_ret
  rw [← HQ.out]
  exact ⟨rfl, _, HS2.out⟩

set_option maxHeartbeats 4000000 in
theorem lists_activate {w W : World} {g b gl n : Nat} {m : List (Int × Int)} {k p : Int} {xs out : List Int} {vi va v8 : Value} (h : SL w W g b gl n m k xs [] out vi va vi va v8) (hxl : xs.length ≤ 100000) :
    Calls Try.prog 51 #[.pointer (some ⟨gl, 0, none⟩), .int .i64 p] W fun e W' => e = .returned (.tuple #[]) ∧ ∃ vi' va', SL w W' g b gl n m k (xs ++ [p]) [] out vi' va' vi' va' v8 := by
  have HS := Aside0.mk h
  obtain ⟨A, co, e, hco⟩ := Kd.Q_slice h.qa
  subst e
  obtain ⟨Ai, ci, e, hci⟩ := Kd.Q_slice h.qi
  subst e
  have x0 := h.x0
  have x1 := h.x1
  have x2 := h.x2
  have f0 := h.f 0
  have f1 := h.f 1
  clear h
  go_enter Try.func51, Try.ntmps51
  go_upto_region 1 with (first | ((with_reducible refine gate_builtin (b := .append) (xs := #[.tmp 8, .tmp 10]) rfl ?_); at_builtin; refine Kd.Q_append (Kd.int .i64) (w0 := w) w.heap.size rfl (.tmp 8) (.tmp 10) 22 3 (.int .i64 0) 8 rfl Try.underlying22 info3 rfl (by decide) (by omega) (.slice A 0 co) [] p [.int .i64 p] (fun k => some k ≠ (Value.slice Ai xs.length ci).ownBlock ∧ some k ≠ v8.ownBlock) (fun _ => False) rfl rfl ?aP (fun _ hk => hk.elim) ?aF ?aO ?aB ?aS ?aL ?_; (case aP => exact rfl); (case aF => exact (fun k hk => ⟨Kd.fresh' (Kd.Q_lt HS.out.qi) k hk, Kd.fresh' (Kd.R_lt HS.out.r) k hk⟩)); (case aO => exact HS.out.qa); (case aB => exact HS.out.bel); (case aS => exact HS.out.bel.size); (case aL => simp); intro v5 w5 ho hb hg hat; obtain ⟨A5, c5, e5, hc5⟩ : ∃ A c, v5 = .slice A 1 c ∧ 1 ≤ c := Kd.Q_slice ho; subst e5; have n0_ : Aside0 (SL w w5 g b gl n m k xs [p] out (.slice Ai xs.length ci) (.slice A 0 co) (.slice Ai xs.length ci) (.slice A5 1 c5) v8) := Aside0.mk (HS.out.aApp ho hb hg hat); clear HS ho hb hg hat x0 x1 x2 f0 f1; have HS := n0_; clear n0_; have x0 := HS.out.x0; have x1 := HS.out.x1; have x2 := HS.out.x2; have f0 := HS.out.f 0; have f1 := HS.out.f 1))
  have n0_ := Aside0.mk (HS.out.storeA (.slice A5 1 c5))
  clear HS x0 x1 x2 f0 f1
  have HS := n0_
  clear n0_
  generalize w5.setCell { block := gl, off := 1 } (.slice A5 1 c5) = W2 at *
  obtain ⟨ad, e, hq0⟩ := q_head HS.out.qa (by simp)
  cases e
  replace hq0 : W2.cell? ad = some (.int .i64 p) := hq0
  have x0 := HS.out.x0
  have x1 := HS.out.x1
  have x2 := HS.out.x2
  have n0_ := Aside0.mk (HS.out.below (below_drew (Below.refl _ _)))
  replace hq0 : W2.drew.cell? ad = some (.int .i64 p) := hq0
  go_still (by kernel_rfl)
  clear x0 x1 x2 HS
  have HS := n0_
  clear n0_
  obtain ⟨W3, hW3⟩ : ∃ W3, W3 = W2.drew := ⟨_, rfl⟩
  rw [show ({ heap := W2.heap, tape := W2.tape, drawn := W2.drawn + 1, os := W2.os, output := W2.output } : World) = W3 from hW3.symm]
  rw [← hW3] at HS hq0
  clear hW3
  have x0 := HS.out.x0
  have x1 := HS.out.x1
  go_upto_region 2 with fail
  have n0_ := Aside0.mk (HS.out.below (below_drew (Below.refl _ _)))
  clear HS x0 x1
  have HS := n0_
  clear n0_
  have x0 := HS.out.x0
  have x1 := HS.out.x1
  replace hq0 : W3.drew.cell? ad = some (.int .i64 p) := hq0
  have hc0 : ∀ o, (W3.alloc o).cell? ⟨gl, 0, none⟩ = some (.slice Ai xs.length ci) := fun o => (HS.out.below (below_alloc (Below.refl _ _) o)).x0
  have hc1 : ∀ o, (W3.alloc o).cell? ⟨gl, 1, none⟩ = some (.slice (some ad) 1 c5) := fun o => (HS.out.below (below_alloc (Below.refl _ _) o)).x1
  have hcq : ∀ o, (W3.alloc o).cell? ad = some (.int .i64 p) := fun o => ((below_alloc (Below.refl _ _) o).cell (World.block_lt_of_cell? _ _ hq0)).trans hq0
  go_region_law (refine Kd.Q_append_step (Kd.int .i64) (w0 := w) w.heap.size (by rfl) (.tmp 28) (.tmp 35) 22 3 (.int .i64 0) 8 rfl Try.underlying22 info3 rfl (by decide) (by omega) (.slice Ai xs.length ci) xs p [.int .i64 p] (fun k => some k ≠ (Value.slice (some ad) 1 c5).ownBlock ∧ some k ≠ v8.ownBlock) (fun _ => False) (by simp [Act.eval, Act.put]) (by simp [Act.eval, Act.put]) (by exact rfl) (fun _ hk => hk.elim) (fun k hk => ⟨Kd.fresh' (Kd.Q_lt HS.out.qa) k hk, Kd.fresh' (Kd.R_lt HS.out.r) k hk⟩) HS.out.qi HS.out.bel HS.out.bel.size (by omega) ?_; intro v6 w6 ho hb hg hat; obtain ⟨A6, c6, e6, hc6⟩ := Kd.Q_slice ho; subst e6; have n0_ := Aside0.mk (HS.out.iApp ho hb hg hat); clear HS ho hb hg hat x0 x1 hq0 hc0 hc1 hcq; have HS := n0_; clear n0_; have x0 := HS.out.x0; have x1 := HS.out.x1; have f0 := HS.out.f 0; have f1 := HS.out.f 1)
  all_goals
    have n0_ := Aside0.mk (HS.out.storeI (.slice A6 (xs ++ [p]).length c6))
    clear HS x0 x1 f0 f1
    have HS := n0_
    clear n0_
    rw [show xs.length + 1 = (xs ++ [p]).length by simp]
    generalize w6.setCell { block := gl, off := 0 } (Value.slice A6 (xs ++ [p]).length c6) = W7 at *
    generalize (xs ++ [p]).length = L6 at *
    have x1 := HS.out.x1
    have f1 := HS.out.f 1
    obtain ⟨i0, hi0_, _, hsz0, _⟩ := info_parts info3
    have hcut := cut_from (P := Try.prog) 22 3 .i64 Try.underlying22 hi0_ 1 hsz0 (some ad) 1 c5 1 (by omega) (by omega)
    obtain ⟨A7, hA7⟩ : ∃ A1, A1 = (if c5 = (1 : Int).toNat then some ad else (some ad : Option Addr).map (·.add ((1 : Int).toNat * 1))) := ⟨_, rfl⟩
    obtain ⟨c7, hc7⟩ : ∃ c1, c1 = c5 - (1 : Int).toNat := ⟨_, rfl⟩
    rw [← hA7, ← hc7, show 1 - (1 : Int).toNat = 0 from rfl] at hcut
    have hr : Kd.Q (Kd.int .i64) 3 W7 w.heap.size (fun k => some k ≠ (Value.slice A6 L6 c6).ownBlock ∧ some k ≠ v8.ownBlock) (.slice A7 0 c7) [] := by
      rw [hA7, hc7]
      exact Kd.Q_drop (k := (1 : Int).toNat) HS.out.qa (by simp)
    have hE : (Value.slice A7 0 c7).ownBlock = (.slice (some ad) 1 c5 : Value).ownBlock := by rw [hA7]; split <;> rfl
    have HS2 := Aside0.mk ((HS.out.aSame hr hE).storeA (.slice A7 0 c7))
    clear hr hE hA7 hc7 hi0_ hsz0
    go_wp2
    go_end0
    exact ⟨rfl, _, _, HS2.out⟩
end Go.Proofs.Ytbchpnhlaknhjaa.Q
