/-
  An int appended tt an element of an own row of rows, and stored back: what it comes tt, told ahead of the walk.
-/
import Derived.Test.YtikdcoahoocpjaaQ0
namespace Go.Proofs.Ytikdcoahoocpjaa.Q
open Go.RowKit Go.Proofs.YtikdcoahoocpjaaW.PrintWords Go.Proofs.YtikdcoahoocpjaaW.PrintLast Go.Proofs.YtikdcoahoocpjaaW.PrintMore
set_option linter.unusedVariables false
set_option linter.unusedSimpArgs false
theorem row_put {W : World} {base g n co : Nat} {r : List (List Int)} (HO : Kd.S (Kd.slice 3 (Kd.int .i64)) 25 W base (fun _ => True) (.slice (some ⟨g, 0, none⟩) n co) r) (tt : Nat) (hto : tt < n) (f : Int) (hl : (r.getD tt []).length ≤ 1000000) :
    ∃ A c A2 c2 w1, W.cell? ⟨g, tt, none⟩ = some (.slice A (r.getD tt []).length c) ∧
      (Builtin.append_ #[25, 25] 25 #[.slice A (r.getD tt []).length c, .slice (some ⟨W.heap.size, 0, none⟩) 1 1]).run Try.prog (W.alloc (.cells #[.int .i64 f] 3)) = .ok (.slice A2 ((r.getD tt []).length + 1) c2) w1 ∧
      (w1.cell? ⟨g, tt, none⟩) = some (.slice A (r.getD tt []).length c) ∧ w1.frozen? ⟨g, tt, none⟩ = false ∧
      Kd.S (Kd.slice 3 (Kd.int .i64)) 25 (w1.setCell ⟨g, tt, none⟩ (.slice A2 ((r.getD tt []).length + 1) c2)) base (fun _ => True) (.slice (some ⟨g, 0, none⟩) n co) (r.set tt (r.getD tt [] ++ [f])) ∧
      (∀ w0, Below base w0 W → Below base w0 (w1.setCell ⟨g, tt, none⟩ (.slice A2 ((r.getD tt []).length + 1) c2))) ∧ W.heap.size ≤ (w1.setCell ⟨g, tt, none⟩ (.slice A2 ((r.getD tt []).length + 1) c2)).heap.size ∧
      (∀ (k : Nat) (o : Obj), W.heap[k]? = some o → (∀ cells, o ≠ .cells cells 3 (0, 0)) → w1.heap[k]? = some o) ∧
      (∀ (k : Nat) (o : Obj), W.heap[k]? = some o → (∀ cells, o ≠ .cells cells 3 (0, 0)) → (∀ cells, o ≠ .cells cells 25 (0, 0)) → (w1.setCell ⟨g, tt, none⟩ (.slice A2 ((r.getD tt []).length + 1) c2)).heap[k]? = some o) := by
  obtain ⟨oki, ce, hcl, hM, hcc, hfr, hoki, hH⟩ := Kd.S_elem HO [] (tt : Int) (by omega) (by omega)
  have hn := (Kd.S_reads' HO).1
  obtain ⟨ve, rfl, ge⟩ := hM
  rw [Int.toNat_natCast] at ge hcc
  replace ge : Kd.R (Kd.int .i64) 3 W base oki ve (r.getD tt []) := ge
  obtain ⟨A, c, rfl⟩ := Kd.R_slice ge
  have hcell : W.cell? ⟨g, tt, none⟩ = some (.slice A (r.getD tt []).length c) := by
    have := hcc 0 _ rfl
    rwa [Nat.add_zero, show ((Kd.slice 3 (Kd.int .i64))).sz = 1 from rfl, Nat.mul_one] at this
  have hH2 := Kd.H_widen hH
  have ge2 := Kd.R_mono (ok' := fun k => oki k ∨ (fun _ => True) k ∧ W.heap.size ≤ k) ge (fun _ h => Or.inl h)
  have hbs : base ≤ W.heap.size := by
    have h1 := Kd.S_base HO g (by simp [Value.ownBlock])
    have h2 := Kd.S_lt HO g (by simp [Value.ownBlock])
    omega
  have hlt := Kd.S_base HO g (by simp [Value.ownBlock])
  have hty := Kd.R_typed ge
  have htg := Kd.S_typed HO g (by simp [Value.ownBlock])
  have hrb := Kd.R_base ge
  obtain ⟨h0, inner, hown, hr⟩ := ge2
  obtain ⟨i0, hi, hzz⟩ := Option.map_eq_some_iff.1 info3
  simp only [Prod.mk.injEq] at hzz
  obtain ⟨hz0, hz1, hz2⟩ := hzz
  obtain ⟨v1, w1, hrun, hown1, hg, _, hat⟩ := run_append_own_at (P := Try.prog) (w := W.alloc (.cells #[.int .i64 f] 3)) base 25 25 3 i0 (.int .i64 0) 1 8 Try.underlying25 hi hz0 hz1 hz2 rfl (by decide) _ _ inner (hown.alloc _) ⟨W.heap.size, 0, none⟩ 1 1 [.int .i64 f] rfl
    (by simpa using World.news_of_block (cs := #[.int .i64 f]) (t := 3) (fr := (0, 0)) (heap_alloc_new W (.cells #[.int .i64 f] 3))) (by simp [Value.oneCell']) (by simp only [maxLen]; omega) (by omega) (by simp; omega)
  have hg' := World.grownBy.trans (World.grownBy_alloc W (.cells #[.int .i64 f] 3) _) hg
  have hat' : v1.ownBlock = (Value.slice A (r.getD tt []).length c).ownBlock ∨ ∃ b, v1.ownBlock = some b ∧ W.heap.size ≤ b := by
    rcases hat with hat | hat
    · exact .inl hat
    · exact .inr ⟨_, hat, by simp⟩
  have hR1 : Kd.R (Kd.int .i64) 3 w1 base _ v1 (r.getD tt [] ++ [f]) := Kd.R_appended (d := Kd.int .i64) (p := f) (cs := [.int .i64 f]) (okp := fun _ => False) h0 hr rfl (fun _ hk => hk.elim) (fun k hk => .inr ⟨trivial, hk⟩) hown1 hg' hat'
  have hH3 := Kd.H_grown hH2 hg' (fun k e => .inl (ge.1 k e))
  obtain ⟨A2, c2, rfl⟩ := Kd.R_slice hR1
  rw [show (r.getD tt [] ++ [f]).length = (r.getD tt []).length + 1 by simp] at hrun hR1 hat'
  obtain ⟨hx, hf⟩ := Kd.H_at hH3 (by omega) (by omega)
  have hx0 := hx 0 _ rfl
  have hf0 := hf 0
  rw [Nat.add_zero, show ((Kd.slice 3 (Kd.int .i64))).sz = 1 from rfl, Nat.mul_one, Int.toNat_natCast] at hx0 hf0
  have HP := Kd.S_seg0 hH3 (by omega) (by omega) (seg := [.slice A2 ((r.getD tt []).length + 1) c2]) (j := 0) (show 1 ≤ 1 from by decide) (x' := r.getD tt [] ++ [f]) (Kd.M_row hR1) (fun _ hk => hk)
  simp only [show ((Kd.slice 3 (Kd.int .i64))).sz = 1 from rfl, Nat.mul_one, Nat.add_zero, Int.toNat_natCast] at HP
  have hsz : W.heap.size ≤ (w1.setCell ⟨g, tt, none⟩ (.slice A2 ((r.getD tt []).length + 1) c2)).heap.size := Nat.le_trans hg'.size HP.2.size
  refine ⟨A, c, A2, c2, w1, hcell, hrun, hx0, hf0, HP.1, ?_, hsz, ?_, ?_⟩
  · intro w0 HB
    refine (HB.grown hg' hbs (fun k e => hrb k e)).grown HP.2 (Nat.le_trans hbs hg'.size) (fun k e => ?_)
    injection e with e
    rw [← e]; exact hlt
  · intro k o hk h3
    have hkl : k < W.heap.size := (Array.getElem?_eq_some_iff.1 hk).1
    exact (hg'.block k hkl (fun e => by
      obtain ⟨cells, hc⟩ := hty k e.symm
      rw [hk] at hc
      exact h3 _ (Option.some.inj hc))).trans hk
  · intro k o hk h3 h25
    have hkl : k < W.heap.size := (Array.getElem?_eq_some_iff.1 hk).1
    have e1 : w1.heap[k]? = some o := (hg'.block k hkl (fun e => by
      obtain ⟨cells, hc⟩ := hty k e.symm
      rw [hk] at hc
      exact h3 _ (Option.some.inj hc))).trans hk
    refine (HP.2.block k (Nat.lt_of_lt_of_le hkl hg'.size) (fun e => ?_)).trans e1
    injection e with e
    obtain ⟨cells, hc⟩ := htg
    rw [← e, hk] at hc
    exact h25 _ (Option.some.inj hc)
end Go.Proofs.Ytikdcoahoocpjaa.Q
