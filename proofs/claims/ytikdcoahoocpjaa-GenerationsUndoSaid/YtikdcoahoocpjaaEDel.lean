/-
  The contract of slices.Delete at []int, for one element of a row of one's own.
-/
import Derived.Test.YtikdcoahoocpjaaECheck
import Derived.Deep.RegionLaw
import Derived.Lib.SliceRun
namespace Go.Proofs.Ytikdcoahoocpjaa.Q
open Go.Proofs.Ytikdcoahoocpjaa.Sd
open Go.RowKit Go.Proofs.YtikdcoahoocpjaaW.PrintWords Go.Proofs.YtikdcoahoocpjaaW.PrintLast Go.Proofs.YtikdcoahoocpjaaW.PrintMore
set_option linter.unusedVariables false
set_option linter.unusedSimpArgs false

theorem blk_cell {w : World} {g j t : Nat} {cs : Array Value} {v : Value} (h : w.heap[g]? = some (.cells cs t (0, 0))) (hj : cs[j]? = some v) : w.cell? ⟨g, j, none⟩ = some v := by simp [World.cell?, h, hj]
theorem blk_free {w : World} {g j t : Nat} {cs : Array Value} (h : w.heap[g]? = some (.cells cs t (0, 0))) : w.frozen? ⟨g, j, none⟩ = false := by simp [World.frozen?, h]
theorem blk_set {w : World} {g j t : Nat} {cs : Array Value} {u : Value} (h : w.heap[g]? = some (.cells cs t (0, 0))) : (w.setCell ⟨g, j, none⟩ u).heap[g]? = some (.cells (cs.setIfInBounds j u) t (0, 0)) := by
  have hlt := lt_of_block h
  have h' : w.heap[g] = .cells cs t (0, 0) := by simpa [Array.getElem?_eq_getElem hlt] using h
  show (w.heap.modify g _)[g]? = _
  rw [Array.getElem?_eq_getElem (by simpa using hlt), Array.getElem_modify_self, h']
  rfl
theorem grown_setCell (w : World) (g j : Nat) (u : Value) : w.grownBy (w.setCell ⟨g, j, none⟩ u) (some g) :=
  ⟨rfl, rfl, rfl, by simp [World.setCell], fun k hk hne => Below.heap_setCell w _ u k (fun e => hne (by rw [e]))⟩
/-- A cell behind a row's end may be written. -/
theorem R_spare {α : Type} {d : Kd α} {e : Nat} {W : World} {base : Nat} {ok : Nat → Prop} {g n c j : Nat} {xs : List α} {u : Value} (h : Kd.R d e W base ok (.slice (some ⟨g, 0, none⟩) n c) xs) (hj : n * d.sz ≤ j) :
    Kd.R d e (W.setCell ⟨g, j, none⟩ u) base ok (.slice (some ⟨g, 0, none⟩) n c) xs := by
  obtain ⟨hn, hnc, _⟩ := Kd.R_reads' h
  obtain ⟨hok, inner, hown, hr⟩ := h
  rcases hown.2 with ⟨hv, _⟩ | ⟨g', cap', cur, hv, hb, hh, hlen, hcm, hcs, htake⟩
  · cases hv
  injection hv with ha _ hc
  injection ha with ha
  injection ha with hg
  subst hg; subst hc
  have hgo : some g = (Value.slice (some ⟨g, 0, none⟩) n c).ownBlock := by simp [Value.ownBlock]
  refine ⟨hok, inner, ⟨hown.1, .inr ⟨g, c, cur.setIfInBounds j u, by rw [hn], hb, blk_set hh, hlen, hcm, by rw [Array.size_setIfInBounds]; exact hcs, ?_⟩⟩, hr.imp_ (fun p q hp => d.M_move (fun k hk => Below.heap_setCell W _ u k (fun e => hk.2 (by rw [← hgo, e]))) hp)⟩
  rw [← htake]
  apply List.ext_getElem?
  intro i
  rw [List.getElem?_take, List.getElem?_take]
  split
  · rw [hn] at hj
    rw [Array.getElem?_toList, Array.getElem?_toList, Array.getElem?_setIfInBounds_ne (by omega)]
  · rfl
theorem R_cell {e : Nat} {W : World} {base : Nat} {ok : Nat → Prop} {g n c j : Nat} {xs : List Int} (h : Kd.R (Kd.int .i64) e W base ok (.slice (some ⟨g, 0, none⟩) n c) xs) (hj : j < c) :
    (W.cell? ⟨g, j, none⟩).isSome = true ∧ W.frozen? ⟨g, j, none⟩ = false ∧ c ≤ maxLen := by
  obtain ⟨hok, inner, hown, hr⟩ := h
  rcases hown.2 with ⟨hv, _⟩ | ⟨g', cap', cur, hv, hb, hh, hlen, hcm, hcs, htake⟩
  · cases hv
  injection hv with ha _ hc
  injection ha with ha
  injection ha with hg
  subst hg; subst hc
  refine ⟨?_, blk_free hh, hcm⟩
  rw [cell_of_row W g _ cur e (0, 0) hh]
  have : c * (Kd.int .i64).sz = c := Nat.mul_one c
  simp; omega

set_option maxHeartbeats 4000000 in
set_option maxRecDepth 1000000 in
theorem slices_Delete {w : World} {base g n c i j : Nat} {ok : Nat → Prop} {xs : List Int} (h : Kd.R (Kd.int .i64) 3 w base ok (.slice (some ⟨g, 0, none⟩) n c) xs) (hi : i < n) (hj : j = i + 1) :
    Calls Try.prog 38 #[.slice (some ⟨g, 0, none⟩) n c, .int .i64 (i : Nat), .int .i64 (j : Nat)] w fun e w' => e = .returned (.slice (some ⟨g, 0, none⟩) (n - 1) c) ∧ Kd.R (Kd.int .i64) 3 w' base ok (.slice (some ⟨g, 0, none⟩) (n - 1) c) (xs.eraseIdx i) ∧ w.grownBy w' (some g) := by
  obtain ⟨hn, hnc, _⟩ := Kd.R_reads' h
  obtain ⟨_, _, hcm⟩ := R_cell (j := i) h (by omega)
  obtain ⟨A, hA⟩ : ∃ A : Option Addr, (if c = j then some (⟨g, 0, none⟩ : Addr) else some ⟨g, j, none⟩) = A := ⟨_, rfl⟩
  have HA : Aside0 (A = if c = i + 1 then some ⟨g, 0, none⟩ else (some (⟨g, 0, none⟩ : Addr)).map (·.add ((i + 1) * (Kd.int .i64).sz))) := ⟨by
    subst hj
    rw [← hA]
    split
    · rfl
    · rw [show (i + 1) * (Kd.int .i64).sz = i + 1 from Nat.mul_one _]; simp [Addr.add]⟩
  have HBS : Aside0 (base ≤ w.heap.size) := ⟨by have := Kd.R_base h (k := g) (by simp [Value.ownBlock]); have := Kd.R_lt h g (by simp [Value.ownBlock]); omega⟩
  have H := Aside0.mk h
  have HJ := Aside0.mk hj
  clear h
  subst hn
  have hic : i ≤ c := by omega
  have hjc : j ≤ c := by omega
  have hij : i ≤ j := by omega
  have hjn : j ≤ xs.length := by omega
  have hlt : i < j := by omega
  clear hj
  go_enter Try.func38, Try.ntmps38
  go_wp2_with fail
  go_region_law (refine Kd.R_delete_step (Kd.int .i64) (w0 := w.drew) base (by rfl) (.tmp 22) (.tmp 25) 25 3 rfl Try.underlying25 (by kernel_rfl) (g := g) (n := xs.length) (c := c) (k := i) (m := xs.length - j) (c2 := c - j) (A := A) (by simp [Act.eval, Act.put]) (by simp [Act.eval, Act.put]) HA.out (by rw [HJ.out]) (Kd.R_drew H.out) hi (Below.refl _ _) HBS.out ?_; intro w1 hr1 _ hg1)
  obtain ⟨x1, x2, _⟩ := R_cell (j := xs.length - 1) hr1 (by omega)
  have hcl : ∀ ty, (Builtin.clear_ #[25] ty #[.slice (some ⟨g, xs.length - 1, none⟩) (xs.length - (xs.length - 1)) (c - (xs.length - 1))]).run Try.prog w1 = .ok (.tuple #[]) (w1.setCells g (xs.length - 1) (List.replicate (xs.length - (xs.length - 1)) (.int .i64 0))) :=
    fun ty => Lib.run_clear_slice w1 25 3 ty (.int .i64 0) Try.underlying25 zero3 rfl rfl g (xs.length - 1) _ _ (by omega) (fun t ht => by rw [show xs.length - 1 + t = xs.length - 1 by omega]; exact x1) (fun t ht => by rw [show xs.length - 1 + t = xs.length - 1 by omega]; exact x2)
  have H1 := Aside0.mk hr1
  have HG1 := Aside0.mk hg1
  clear hr1 hg1 x1 x2
  have hm1 : xs.length - 1 ≤ c := by omega
  go_wp2
  go_ret
  have hn1 : xs.length - (xs.length - 1) = 1 := by omega
  rw [hn1]
  have hr2 := R_spare (j := xs.length - 1) (u := .int .i64 0) H1.out (by rw [show (Kd.int .i64).sz = 1 from rfl]; omega)
  refine ⟨rfl, hr2, ?_⟩
  have hg2 := grown_setCell w1 g (xs.length - 1) (.int .i64 0)
  have hg0 := HG1.out
  exact ⟨hg2.os.trans hg0.os, hg2.tape.trans hg0.tape, hg2.output.trans hg0.output, Nat.le_trans hg0.size hg2.size, fun k hk hne => (hg2.block k (Nat.lt_of_lt_of_le hk hg0.size) hne).trans (hg0.block k hk hne)⟩

theorem delete_row {w0 W : World} {base c : Nat} {A : Option Addr} {ok : Nat → Prop} {xs : List Int} {t : Int} (HB : Below base w0 W) (h : Kd.R (Kd.int .i64) 3 W base ok (.slice A xs.length c) xs) (hlt : 0 ≤ t ∧ t < (xs.length : Int)) :
    Calls Try.prog 38 #[.slice A xs.length c, .int .i64 t, .int .i64 (wrap64 (t + 1))] W fun e w' => ∃ v : Value, e = .returned v ∧ Kd.R (Kd.int .i64) 3 w' base ok v (xs.eraseIdx t.toNat) ∧ Below base w0 w' ∧ W.grownBy w' (Value.slice A xs.length c).ownBlock := by
  obtain ⟨h0, h1⟩ := hlt
  obtain ⟨_, hnc, _⟩ := Kd.R_reads' h
  obtain ⟨i, rfl⟩ : ∃ i : Nat, t = i := ⟨t.toNat, by omega⟩
  have hA : (∃ g, A = some ⟨g, 0, none⟩) ∧ xs.length ≤ maxLen := by
    obtain ⟨hok, inner, hown, hr⟩ := h
    rcases hown.2 with ⟨hv, hi⟩ | ⟨g', cap', cur, hv, hb, hh, hlen, hcm, hcs, htake⟩
    · have e2 := congrArg (fun v => match v with | Value.slice _ n _ => n | _ => 0) hv
      simp only at e2
      omega
    · have e1 := congrArg (fun v => match v with | Value.slice a _ _ => a | _ => none) hv
      have e3 := congrArg (fun v => match v with | Value.slice _ _ c => c | _ => 0) hv
      simp only at e1 e3
      exact ⟨⟨g', e1⟩, by omega⟩
  obtain ⟨hA, hsz⟩ := hA
  obtain ⟨g, rfl⟩ := hA
  have hw : wrap64 ((i : Int) + 1) = ((i + 1 : Nat) : Int) := by unfold wrap64; unfold maxLen at hsz; omega
  rw [hw]
  refine (slices_Delete h (by omega) rfl).mono ?_
  rintro e w' ⟨rfl, hr, hg⟩
  refine ⟨_, rfl, hr, HB.grown hg (by have h1 := Kd.R_base h (k := g) (by simp [Value.ownBlock]); have h2 := Kd.R_lt h g (by simp [Value.ownBlock]); omega) (fun k e => ?_), hg⟩
  have hk : (⟨g, 0, none⟩ : Addr).block = k := by simpa [Value.ownBlock] using e
  exact Kd.R_base h k (by simpa [Value.ownBlock] using hk)
end Go.Proofs.Ytikdcoahoocpjaa.Q
