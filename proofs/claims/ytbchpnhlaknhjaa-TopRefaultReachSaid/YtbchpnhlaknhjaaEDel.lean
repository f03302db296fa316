/-
  The contract of slices.Delete at []int, for one element of a row of one's own.
-/
import Derived.Test.YtbchpnhlaknhjaaEHist
import Derived.Deep.RegionLaw
import Derived.Lib.SliceRun
namespace Go.Proofs.Ytbchpnhlaknhjaa.Q
open Go.Proofs.Ytbchpnhlaknhjaa.Sd
open Go.RowKit Go.Proofs.YtbchpnhlaknhjaaW.PrintWords Go.Proofs.YtbchpnhlaknhjaaW.PrintLast Go.Proofs.YtbchpnhlaknhjaaW.PrintMore
set_option linter.unusedVariables false
set_option linter.unusedSimpArgs false

/-- A cell behind a row's end may be written. -/
theorem R_spare {α : Type} {d : Kd α} {e : Nat} {W : World} {base : Nat} {ok : Nat → Prop} {g n c j : Nat} {xs : List α} {u : Value} (h : Kd.R d e W base ok (.slice (some ⟨g, 0, none⟩) n c) xs) (hj : n * d.sz ≤ j) :
    Kd.R d e (W.setCell ⟨g, j, none⟩ u) base ok (.slice (some ⟨g, 0, none⟩) n c) xs := by
  obtain ⟨hn, hnc, _⟩ := Kd.R_reads' h
  obtain ⟨hok, inner, hown, hr⟩ := h
  rcases hown.2 with ⟨hv, _⟩ | ⟨g', cap', cur, hv, hb, hh, hlen, hcm, hcs, htake⟩
  · cases hv
  injection hv with ha _ hc
  injection ha with ha
  injection ha with hg
  subst hg; subst hc
  have hgo : some g = (Value.slice (some ⟨g, 0, none⟩) n c).ownBlock := by simp [Value.ownBlock]
  refine ⟨hok, inner, ⟨hown.1, .inr ⟨g, c, cur.setIfInBounds j u, by rw [hn], hb, blk_set hh, hlen, hcm, by rw [Array.size_setIfInBounds]; exact hcs, ?_⟩⟩, hr.imp_ (fun p q hp => d.M_move (fun k hk => Below.heap_setCell W _ u k (fun e => hk.2 (by rw [← hgo, e]))) hp)⟩
  rw [← htake]
  apply List.ext_getElem?
  intro i
  rw [List.getElem?_take, List.getElem?_take]
  split
  · rw [hn] at hj
    rw [Array.getElem?_toList, Array.getElem?_toList, Array.getElem?_setIfInBounds_ne (by omega)]
  · rfl
theorem R_cell {e : Nat} {W : World} {base : Nat} {ok : Nat → Prop} {g n c j : Nat} {xs : List Int} (h : Kd.R (Kd.int .i64) e W base ok (.slice (some ⟨g, 0, none⟩) n c) xs) (hj : j < c) :
    (W.cell? ⟨g, j, none⟩).isSome = true ∧ W.frozen? ⟨g, j, none⟩ = false ∧ c ≤ maxLen := by
  obtain ⟨hok, inner, hown, hr⟩ := h
  rcases hown.2 with ⟨hv, _⟩ | ⟨g', cap', cur, hv, hb, hh, hlen, hcm, hcs, htake⟩
  · cases hv
  injection hv with ha _ hc
  injection ha with ha
  injection ha with hg
  subst hg; subst hc
  refine ⟨?_, blk_free hh, hcm⟩
  rw [cell_of_row W g _ cur e (0, 0) hh]
  have : c * (Kd.int .i64).sz = c := Nat.mul_one c
  simp; omega

set_option maxHeartbeats 4000000 in
set_option maxRecDepth 1000000 in
theorem slices_Delete {w : World} {base g n c i j : Nat} {ok : Nat → Prop} {xs : List Int} (h : Kd.R (Kd.int .i64) 3 w base ok (.slice (some ⟨g, 0, none⟩) n c) xs) (hi : i < n) (hj : j = i + 1) :
    Calls Try.prog 50 #[.slice (some ⟨g, 0, none⟩) n c, .int .i64 (i : Nat), .int .i64 (j : Nat)] w fun e w' => e = .returned (.slice (some ⟨g, 0, none⟩) (n - 1) c) ∧ Kd.R (Kd.int .i64) 3 w' base ok (.slice (some ⟨g, 0, none⟩) (n - 1) c) (xs.eraseIdx i) ∧ w.grownBy w' (some g) := by
  obtain ⟨hn, hnc, _⟩ := Kd.R_reads' h
  obtain ⟨_, _, hcm⟩ := R_cell (j := i) h (by omega)
  obtain ⟨A, hA⟩ : ∃ A : Option Addr, (if c = j then some (⟨g, 0, none⟩ : Addr) else some ⟨g, j, none⟩) = A := ⟨_, rfl⟩
  have HA : Aside0 (A = if c = i + 1 then some ⟨g, 0, none⟩ else (some (⟨g, 0, none⟩ : Addr)).map (·.add ((i + 1) * (Kd.int .i64).sz))) := ⟨by
    subst hj
    rw [← hA]
    split
    · rfl
    · rw [show (i + 1) * (Kd.int .i64).sz = i + 1 from Nat.mul_one _]; simp [Addr.add]⟩
  have HBS : Aside0 (base ≤ w.heap.size) := ⟨by have := Kd.R_base h (k := g) (by simp [Value.ownBlock]); have := Kd.R_lt h g (by simp [Value.ownBlock]); omega⟩
  have H := Aside0.mk h
  have HJ := Aside0.mk hj
  clear h
  subst hn
  have hic : i ≤ c := by omega
  have hjc : j ≤ c := by omega
  have hij : i ≤ j := by omega
  have hjn : j ≤ xs.length := by omega
  have hlt : i < j := by omega
  clear hj
  go_enter Try.func50, Try.ntmps50
  go_wp2_with fail
  go_region_law (refine Kd.R_delete_step (Kd.int .i64) (w0 := w.drew) base (by rfl) (.tmp 22) (.tmp 25) 22 3 rfl Try.underlying22 (by kernel_rfl) (g := g) (n := xs.length) (c := c) (k := i) (m := xs.length - j) (c2 := c - j) (A := A) (by simp [Act.eval, Act.put]) (by simp [Act.eval, Act.put]) HA.out (by rw [HJ.out]) (Kd.R_drew H.out) hi (Below.refl _ _) HBS.out ?_; intro w1 hr1 _ hg1)
  obtain ⟨x1, x2, _⟩ := R_cell (j := xs.length - 1) hr1 (by omega)
  have hcl : ∀ ty, (Builtin.clear_ #[22] ty #[.slice (some ⟨g, xs.length - 1, none⟩) (xs.length - (xs.length - 1)) (c - (xs.length - 1))]).run Try.prog w1 = .ok (.tuple #[]) (w1.setCells g (xs.length - 1) (List.replicate (xs.length - (xs.length - 1)) (.int .i64 0))) :=
    fun ty => Lib.run_clear_slice w1 22 3 ty (.int .i64 0) Try.underlying22 zero3 rfl rfl g (xs.length - 1) _ _ (by omega) (fun t ht => by rw [show xs.length - 1 + t = xs.length - 1 by omega]; exact x1) (fun t ht => by rw [show xs.length - 1 + t = xs.length - 1 by omega]; exact x2)
  have H1 := Aside0.mk hr1
  have HG1 := Aside0.mk hg1
  clear hr1 hg1 x1 x2
  have hm1 : xs.length - 1 ≤ c := by omega
  go_wp2
  go_ret
  have hn1 : xs.length - (xs.length - 1) = 1 := by omega
  rw [hn1]
  have hr2 := R_spare (j := xs.length - 1) (u := .int .i64 0) H1.out (by rw [show (Kd.int .i64).sz = 1 from rfl]; omega)
  refine ⟨rfl, hr2, ?_⟩
  have hg2 := grown_setCell w1 g (xs.length - 1) (.int .i64 0)
  have hg0 := HG1.out
  exact ⟨hg2.os.trans hg0.os, hg2.tape.trans hg0.tape, hg2.output.trans hg0.output, Nat.le_trans hg0.size hg2.size, fun k hk hne => (hg2.block k (Nat.lt_of_lt_of_le hk hg0.size) hne).trans (hg0.block k hk hne)⟩
end Go.Proofs.Ytbchpnhlaknhjaa.Q
