/-
  The contract of workingset.Refaults: what Sd.rf says. Condition: the numbers are of the kind int.
-/
import Derived.Test.YtbchpnhlaknhjaaQ100
import Derived.Test.YtbchpnhlaknhjaaQ105
import Derived.Test.YtbchpnhlaknhjaaEHist
namespace Go.Proofs.Ytbchpnhlaknhjaa.Q
open Go.Proofs.Ytbchpnhlaknhjaa.Sd
open Go.RowKit Go.Proofs.YtbchpnhlaknhjaaW.PrintWords Go.Proofs.YtbchpnhlaknhjaaW.PrintLast Go.Proofs.YtbchpnhlaknhjaaW.PrintMore
set_option linter.unusedVariables false
set_option linter.unusedSimpArgs false

theorem zero4 (w : World) : (zeroValue 4).run Try.prog w = .ok (.bool false) w := by kernel_rfl
/-- Where the cache stands in memory: its history, its set, its queue, what is told so far; nothing old has changed. -/
structure St (w W : World) (g b bh n : Nat) (c : Cache) (v9 v10 : Value) : Prop where
  hs : Hs W g b n c.whn c.count
  ob : OB Try.prog 3 4 W bh n c.held
  q : Kd.Q (Kd.int .i64) 3 W w.heap.size (fun k => some k ≠ v10.ownBlock) v9 c.queue
  r : Kd.R (Kd.int .i64) 3 W w.heap.size (fun k => some k ≠ v9.ownBlock) v10 c.out
  bel : Below w.heap.size w W
  gg : w.heap.size ≤ g
  gb : w.heap.size ≤ b
  gh : w.heap.size ≤ bh
  ne : b ≠ bh
section
variable {w W W1 : World} {g b bh n n' : Nat} {c : Cache} {v9 v10 v : Value}
theorem St.mono (h : St w W g b bh n c v9 v10) (hn : n ≤ n') : St w W g b bh n' c v9 v10 := ⟨h.hs.mono hn, h.ob.mono hn, h.q, h.r, h.bel, h.gg, h.gb, h.gh, h.ne⟩
theorem St.below (h : St w W g b bh n c v9 v10) (hb : Below W.heap.size W W1) : St w W1 g b bh n c v9 v10 :=
  ⟨h.hs.below hb, h.ob.below hb, Kd.Q_below h.q hb, Kd.R_below h.r hb, below_step h.bel hb, h.gg, h.gb, h.gh, h.ne⟩
theorem St.g_ne_b (h : St w W g b bh n c v9 v10) : g ≠ b := by
  rintro rfl
  obtain ⟨es, cl, hm⟩ := h.hs.2.1.at_map
  rw [h.hs.1] at hm
  cases hm
theorem St.g_ne_bh (h : St w W g b bh n c v9 v10) : g ≠ bh := by
  rintro rfl
  obtain ⟨es, cl, hm⟩ := h.ob.at_map
  rw [h.hs.1] at hm
  cases hm
theorem St.outApp (h : St w W g b bh n c v9 v10) {x : Int} (hr : Kd.R (Kd.int .i64) 3 W1 w.heap.size (fun k => some k ≠ v9.ownBlock) v (c.out ++ [x])) (hb : Below w.heap.size w W1) (hg : W.grownBy W1 v10.ownBlock)
    (hat : v.ownBlock = v10.ownBlock ∨ ∃ b, v.ownBlock = some b ∧ W.heap.size ≤ b) : St w W1 g b bh n { c with out := c.out ++ [x] } v9 v := by
  obtain ⟨es, cl, hm⟩ := h.hs.2.1.at_map
  obtain ⟨es2, cl2, hm2⟩ := h.ob.at_map
  exact ⟨h.hs.grown hg (Kd.R_ne h.r h.hs.1 (by decide)) (Kd.R_apart_map h.r hm), h.ob.kept hg (Kd.R_apart_map h.r hm2),
    Kd.Q_mono (Kd.Q_after (ok := fun _ => True) (Kd.Q_mono h.q (fun _ hk => ⟨trivial, hk⟩)) hg hat) (fun _ hk => hk.2), hr, hb, h.gg, h.gb, h.gh, h.ne⟩
theorem St.qApp (h : St w W g b bh n c v9 v10) {x : Int} (hr : Kd.Q (Kd.int .i64) 3 W1 w.heap.size (fun k => some k ≠ v10.ownBlock) v (c.queue ++ [x])) (hb : Below w.heap.size w W1) (hg : W.grownBy W1 v9.ownBlock)
    (hat : v.ownBlock = v9.ownBlock ∨ ∃ b, v.ownBlock = some b ∧ W.heap.size ≤ b) : St w W1 g b bh n { c with queue := c.queue ++ [x] } v v10 := by
  obtain ⟨es, cl, hm⟩ := h.hs.2.1.at_map
  obtain ⟨es2, cl2, hm2⟩ := h.ob.at_map
  exact ⟨h.hs.grown hg (Kd.Q_ne h.q h.hs.1 (by decide)) (Kd.Q_apart_map h.q hm), h.ob.kept hg (Kd.Q_apart_map h.q hm2), hr,
    Kd.R_mono (Kd.R_after (ok := fun _ => True) (Kd.R_mono h.r (fun _ hk => ⟨trivial, hk⟩)) hg hat) (fun _ hk => hk.2), hb, h.gg, h.gb, h.gh, h.ne⟩
theorem St.qSame (h : St w W g b bh n c v9 v10) {q' : List Int} (hr : Kd.Q (Kd.int .i64) 3 W w.heap.size (fun k => some k ≠ v10.ownBlock) v q') (hv : v.ownBlock = v9.ownBlock) : St w W g b bh n { c with queue := q' } v v10 :=
  ⟨h.hs, h.ob, hr, Kd.R_mono h.r (fun _ hk => by rw [hv]; exact hk), h.bel, h.gg, h.gb, h.gh, h.ne⟩
theorem St.heldW (h : St w W g b bh n c v9 v10) {m' : List (Int × Bool)} (ho : OB Try.prog 3 4 W1 bh (n + 1) m') (hg : W.grownBy W1 (some bh)) : St w W1 g b bh (n + 1) { c with held := m' } v9 v10 := by
  obtain ⟨es2, cl2, hm2⟩ := h.ob.at_map
  exact ⟨(h.hs.grown hg (fun e => h.g_ne_bh (by injection e)) (fun e => h.ne (by injection e))).mono (Nat.le_succ _), ho, Kd.Q_mapped h.q hm2 hg, Kd.R_mapped h.r hm2 hg, below_map h.bel h.gh h.bel.size hg, h.gg, h.gb, h.gh, h.ne⟩
theorem St.evicted (h : St w W g b bh n c v9 v10) {W2 : World} {m' : List (Int × Int)} {k : Int} (hh : Hs W2 g b (n + 1) m' k) (hg1 : W.grownBy W1 (some g)) (hg2 : W1.grownBy W2 (some b)) : St w W2 g b bh (n + 1) { c with whn := m', count := k } v9 v10 := by
  obtain ⟨es, cl, hm⟩ := h.hs.2.1.at_map
  have hm1 : W1.heap[b]? = some (.map es cl) := (hg1.block b (lt_of_map hm) (fun e => h.g_ne_b (by injection e with e; exact e.symm))).trans hm
  have hk : ∀ cells q, q ≠ 53 → W.heap[g]? ≠ some (.cells cells q (0, 0)) := fun cells q hq hc => by
    rw [h.hs.1] at hc
    injection hc with hc
    injection hc with _ hc
    exact hq hc.symm
  have hq1 : Kd.Q (Kd.int .i64) 3 W1 w.heap.size (fun k => some k ≠ v10.ownBlock) v9 c.queue := Kd.Q_mono (Kd.Q_grown (Kd.Q_types h.q h.hs.1 (by decide)) hg1 (fun k hk e => hk.2 (by injection e))) (fun _ hk => hk.1)
  have hr1 : Kd.R (Kd.int .i64) 3 W1 w.heap.size (fun k => some k ≠ v9.ownBlock) v10 c.out := Kd.R_mono (Kd.R_grown (Kd.R_types h.r h.hs.1 (by decide)) hg1 (fun k hk e => hk.2 (by injection e))) (fun _ hk => hk.1)
  have hb1 := h.bel.grown hg1 h.bel.size (fun j hj => by cases hj; exact h.gg)
  exact ⟨hh, ((h.ob.kept hg1 (fun e => h.g_ne_bh (by injection e with e; exact e.symm))).kept hg2 (fun e => h.ne (by injection e with e; exact e.symm))).mono (Nat.le_succ _), Kd.Q_mapped hq1 hm1 hg2, Kd.R_mapped hr1 hm1 hg2, below_map hb1 h.gb hb1.size hg2, h.gg, h.gb, h.gh, h.ne⟩
end

theorem add_0 (ad : Addr) : ad.add 0 = ad := by
  obtain ⟨b, o, s⟩ := ad
  cases s <;> simp [Addr.add]
theorem q_head {W : World} {base : Nat} {ok : Nat → Prop} {A : Option Addr} {n c : Nat} {xs : List Int} (h : Kd.Q (Kd.int .i64) 3 W base ok (.slice A n c) xs) (hp : (0 : Int) < ((xs.length : Nat) : Int)) :
    ∃ ad, A = some ad ∧ W.cell? ad = some (.int .i64 (rd xs 0)) := by
  obtain ⟨ad, e, hc⟩ := Kd.at_int (Kd.Q_reads' h).2.2 0 (by omega) hp
  refine ⟨ad, e, ?_⟩
  rw [← hc, show (0 : Int).toNat = 0 from rfl, add_0]

theorem check_ok {n a1 : Int} (h : workingset_check.f n a1 = some 0) : n ≤ 10000 ∧ 1 ≤ a1 ∧ a1 ≤ 10000 := by
  unfold workingset_check.f at h
  split at h
  · simp at h
  · split at h
    · simp at h
    · split at h
      · simp at h
      · omega

theorem St.start (w : World) (nd : Nat) : St w ((((w.drewN nd).alloc (.map #[] 0)).alloc (.cells #[.int .i64 0, .map (some w.heap.size)] 53)).alloc (.map #[] 0)) (w.heap.size + 1) w.heap.size (w.heap.size + 1 + 1) 0 ⟨[], [], 0, [], []⟩ (.slice none 0 0) (.slice none 0 0) := by
  have e0 : (w.drewN nd).heap.size = w.heap.size := rfl
  generalize hW : w.drewN nd = W at *
  have e1 : (W.alloc (.map #[] 0)).heap.size = w.heap.size + 1 := by rw [World.size_alloc, e0]
  have e2 : ((W.alloc (.map #[] 0)).alloc (.cells #[.int .i64 0, .map (some w.heap.size)] 53)).heap.size = w.heap.size + 1 + 1 := by rw [World.size_alloc, e1]
  have hm := OM.made Try.prog 3 3 W
  rw [e0] at hm
  have hc := heap_alloc_new (W.alloc (.map #[] 0)) (.cells #[.int .i64 0, .map (some w.heap.size)] 53)
  rw [e1] at hc
  have hb := OB.made Try.prog 3 4 ((W.alloc (.map #[] 0)).alloc (.cells #[.int .i64 0, .map (some w.heap.size)] 53))
  rw [e2] at hb
  have hB : Below w.heap.size w W := by rw [← hW]; exact pw_below_drewN (Below.refl _ _) _
  exact ⟨⟨blk_below hc (below_alloc (Below.refl _ _) _), (hm.alloc _).alloc _, fun p hp => by simp at hp⟩, hb, Kd.Q_nil _ _ _ _ _, Kd.R_nil _ _ _ _ _,
    below_alloc (below_alloc (below_alloc hB _) _) _, by omega, Nat.le_refl _, by omega, by omega⟩
theorem rf_next {l0 : List Int} {a1 i : Int} {c : Cache} {R : List Int} (h0 : 0 ≤ i) (hi : i < l0.length) (h : ((l0.drop i.toNat).foldl (rfStep a1) c).out = R) :
    ((l0.drop (i + 1).toNat).foldl (rfStep a1) (rfStep a1 c (rd l0 i))).out = R := by
  rw [List.drop_eq_getElem_cons (show i.toNat < l0.length by omega), List.foldl_cons] at h
  rw [toNat_succ h0]
  have e : l0[i.toNat]'(by omega) = rd l0 i := by simp only [rd, List.getD_eq_getElem?_getD]; rw [List.getElem?_eq_getElem (by omega)]; rfl
  rw [e] at h
  exact h

def workingset_Refaults.f (l0 : List Int) (a1 : Int) : Option (List Int × Int) := if wfs l0 then (workingset_check.f (l0.length : Int) a1).bind fun t => if t = 0 then some (rf l0 a1, 0) else some ([], t) else none
set_option maxHeartbeats 8000000 in
set_option maxRecDepth 100000 in
theorem workingset_Refaults.calls (A0 : Option Addr) (c0 : Nat) (l0 : List Int) (a1 : Int) (r1 : List Int) (r2 : Int) (w : World) (hr0 : Kd.C (Kd.int .i64) w A0 l0.length l0) (hc0 : l0.length ≤ c0) (h : workingset_Refaults.f l0 a1 = some (r1, r2)) :
    Calls Try.prog 33 #[.slice A0 l0.length c0, .int .i64 a1] w fun e w' => ∃ v0_ : Value, e = .returned (.tuple #[v0_, .int .i64 r2]) ∧ Kd.R (Kd.int .i64) 3 w' w.heap.size (fun _ => True) v0_ r1 ∧ Below w.heap.size w w' := by
  unfold workingset_Refaults.f at h
  split at h
  case isFalse => cases h
  rename_i hwf
  obtain ⟨t, ht, h⟩ := Option.bind_eq_some_iff.mp h
  have HWF := Aside0.mk hwf
  have A3 := Aside0.mk ht
  have HR0 := Aside0.mk hr0
  have HC0 := Aside0.mk hc0
  clear hr0 hc0 hwf
  have HB := Aside0.mk (Below.refl w.heap.size w)
  by_cases c4 : t = 0
  · subst c4
    rw [if_pos rfl] at h
    simp only [Option.some.injEq, Prod.mk.injEq] at h
    obtain ⟨rfl, rfl⟩ := h
    obtain ⟨hlen, ha0, ha1⟩ := check_ok ht
    clear ht
    (try clear h)
    have hmm := @run_makeMap Try.prog
    go_enter Try.func33, Try.ntmps33
    go_wp2_with (first | ((with_reducible refine gate_callee (f := 47) rfl ?_); refine goesL_ (some 16) rfl rfl Try.func47 (by kernel_rfl) rfl #[.int .i64 (l0.length : Int), .int .i64 a1] rfl (by (try simp only [List.map_toArray, List.map_cons, List.map_nil]); first | done | rfl) ?_; (with_reducible refine (workingset_check.calls (l0.length : Int) a1 0 _ A3.out).mono ?_); rintro e w' ⟨rfl, ⟨nd, rfl⟩⟩; refine ⟨_, rfl, ?_⟩))
    have HS := Aside0.mk (St.start w nd)
    go_loopg [9, 10, 25] l0.length (fun kq v9 v10 v25 w' => ∃ (i : Int) (c : Cache), v25 = .int .i64 i ∧ 0 ≤ i ∧ i ≤ l0.length ∧ 0 ≤ c.count ∧ c.count ≤ i ∧ Aside0 (i = l0.length - kq) ∧ Aside0 (c.out.length = i.toNat) ∧ Aside0 (wfs c.queue) ∧ Aside0 (c.queue.length ≤ i.toNat) ∧
        Aside0 (((l0.drop i.toNat).foldl (rfStep a1) c).out = rf l0 a1) ∧ Aside0 (St w w' (w.heap.size + 1) w.heap.size (w.heap.size + 1 + 1) (3 * i.toNat) c v9 v10))
    case atStart => exact ⟨0, ⟨[], [], 0, [], []⟩, rfl, by omega, by omega, by simp, by simp, ⟨by omega⟩, ⟨rfl⟩, ⟨fun x hx => by simp at hx⟩, ⟨by simp⟩, ⟨rfl⟩, ⟨HS.out⟩⟩
    case round =>
      clear HS HB
      obtain ⟨i, c, rfl, hi0, hil, hk0, hki, HI, HOL, HQW, HQL, HF, HS⟩ := hrel
      by_cases hlt : i < l0.length
      · have cc0 : decide (i < (l0.length : Int)) = true := decide_eq_true hlt
        obtain ⟨ad, e, hx⟩ := Kd.at_int HR0.out i hi0 hlt
        cases e
        replace hx := (HS.out.bel.cell (World.block_lt_of_cell? w _ hx)).trans hx
        have HF2 := Aside0.mk (rf_next hi0 hlt HF.out)
        obtain ⟨Ao, co, eo, _⟩ := Kd.Q_slice HS.out.q
        subst eo
        obtain ⟨hv, hhv⟩ : ∃ hv, hv = (lku c.held (rd l0 i)).getD false := ⟨_, rfl⟩
        have HHV := Aside0.mk hhv
        clear hhv
        cases hv with
        | true =>
          go_wp2_with (first | ((with_reducible refine gate_dst (N := 31) rfl ?_); at_lookup; refine wp_lookB rfl _ _ 41 rfl 3 4 Try.underlying41 Try.underlying3 Try.underlying4 (zero4 _) (w.heap.size + 1 + 1) _ c.held rfl HS.out.ob (rd l0 i) rfl (wf_rd HWF.out i) ?_; rw [← HHV.out]) | ((with_reducible refine gate_builtin (b := .append) (xs := #[.tmp 32, .tmp 33]) rfl ?_); at_builtin; refine Kd.R_append (Kd.int .i64) (w0 := w) w.heap.size rfl (.tmp 32) (.tmp 33) 22 3 (.int .i64 0) 8 rfl Try.underlying22 info3 rfl (by decide) (by omega) u10 c.out (-1) [.int .i64 (-1)] (fun k => some k ≠ (Value.slice Ao c.queue.length co).ownBlock) (fun _ => False) rfl rfl ?aP (fun _ hk => hk.elim) ?aF ?aO ?aB ?aS ?aL ?_; (case aP => exact rfl); (case aF => exact (fun k hk => Kd.fresh' (Kd.Q_lt HS.out.q) k hk)); (case aO => exact HS.out.r); (case aB => exact HS.out.bel); (case aS => exact HS.out.bel.size); (case aL => have := HOL.out; omega); intro v5 w5 ho hb hg hat; have n0_ := Aside0.mk (HS.out.outApp ho hb hg hat); clear HS ho hb hg hat; (try clear hx); have HS := n0_; clear n0_))
          go_roundg (gk - 1)
          case measure => have := HI.out; omega
          case rel => exact ⟨i + 1, { c with out := c.out ++ [-1] }, rfl, by omega, by omega, hk0, by simp only; omega, ⟨by have := HI.out; omega⟩, ⟨by rw [List.length_append, HOL.out, toNat_succ hi0]; rfl⟩, ⟨HQW.out⟩, ⟨by have := HQL.out; simp only; omega⟩, ⟨by have h := HF2.out; simp only [rfStep] at h; rw [if_pos HHV.out.symm] at h; exact h⟩, ⟨HS.out.mono (by omega)⟩⟩
        | false =>
          by_cases hsz : (c.queue.length : Int) = a1
          · have c13 : ((c.queue.length : Int) == a1) = true := beq_iff_eq.mpr hsz
            have HSZ := Aside0.mk hsz
            have hql : (0 : Int) < ((c.queue.length : Nat) : Int) := by omega
            clear hsz
            obtain ⟨adq, eq_, hq0⟩ := q_head HS.out.q hql
            cases eq_
            obtain ⟨qd, hqd⟩ : ∃ qd : List Int, qd = c.queue.drop 1 := ⟨_, rfl⟩
            have HQD := Aside0.mk hqd
            have HQDL : Aside0 (qd.length ≤ c.queue.length) := ⟨by rw [hqd, List.length_drop]; omega⟩
            clear hqd
            go_wp2_with (first | ((with_reducible refine gate_dst (N := 31) rfl ?_); at_lookup; refine wp_lookB rfl _ _ 41 rfl 3 4 Try.underlying41 Try.underlying3 Try.underlying4 (zero4 _) (w.heap.size + 1 + 1) _ c.held rfl HS.out.ob (rd l0 i) rfl (wf_rd HWF.out i) ?_; rw [← HHV.out]) | ((with_reducible refine gate_callee (f := 48) rfl ?_); refine goesL_ (some 37) rfl rfl Try.func48 (by kernel_rfl) rfl #[.pointer (some ⟨w.heap.size + 1, 0, none⟩), .int .i64 (rd l0 i)] rfl (by (try simp only [List.map_toArray, List.map_cons, List.map_nil]); first | done | rfl) ?_; refine (history_distance HS.out.hs hk0 (by omega) (wf_rd HWF.out i)).mono ?_; rintro e w' ⟨rfl, rfl⟩; refine ⟨_, rfl, ?_⟩) | ((with_reducible refine gate_builtin (b := .append) (xs := #[.tmp 35, .tmp 38]) rfl ?_); at_builtin; refine Kd.R_append (Kd.int .i64) (w0 := w) w.heap.size rfl (.tmp 35) (.tmp 38) 22 3 (.int .i64 0) 8 rfl Try.underlying22 info3 rfl (by decide) (by omega) u10 c.out (dist c.whn c.count (rd l0 i)) [.int .i64 (dist c.whn c.count (rd l0 i))] (fun k => some k ≠ (Value.slice (some adq) c.queue.length co).ownBlock) (fun _ => False) rfl rfl ?aP (fun _ hk => hk.elim) ?aF ?aO ?aB ?aS ?aL ?_; (case aP => exact rfl); (case aF => exact (fun k hk => Kd.fresh' (Kd.Q_lt HS.out.q) k hk)); (case aO => exact HS.out.r); (case aB => exact HS.out.bel); (case aS => exact HS.out.bel.size); (case aL => have := HOL.out; omega); intro v5 w5 ho hb hg hat; have n0_ := Aside0.mk (HS.out.outApp ho hb hg hat); clear HS ho hb hg hat; (try clear hx); (try clear hq0); have HS := n0_; clear n0_; (try (obtain ⟨adq, eq_, hq0⟩ := q_head HS.out.q hql; injection eq_ with eq_; subst eq_))) | (at_delete; refine wp_rmvB rfl _ _ 41 3 rfl 4 Try.underlying41 Try.underlying3 (w.heap.size + 1 + 1) _ _ rfl HS.out.ob (rd c.queue 0) rfl (wf_rd HQW.out 0) ?_; intro w7 hm7 hg7; have n0_ := Aside0.mk (HS.out.heldW (by obtain ⟨D, h1, h2⟩ := hm7; exact ⟨D, h1.mono (Nat.le_succ _), h2⟩) hg7); clear HS hm7 hg7 hq0; have HS := n0_; clear n0_; obtain ⟨adq, eq_, hq0⟩ := q_head HS.out.q hql; injection eq_ with eq_; subst eq_) | ((with_reducible refine gate_callee (f := 49) rfl ?_); refine goesL_ (some 51) rfl rfl Try.func49 (by kernel_rfl) rfl #[.pointer (some ⟨w.heap.size + 1, 0, none⟩), .int .i64 (rd c.queue 0)] rfl (by (try simp only [List.map_toArray, List.map_cons, List.map_nil]); first | done | rfl) ?_; refine (history_evict (c := c.count) (m := c.whn) (n := 3 * i.toNat + 1) HS.out.hs hk0 (by omega) (by omega) (wf_rd HQW.out 0)).mono ?_; rintro e w8 ⟨rfl, hh8, w81, hg81, hg82⟩; refine ⟨_, rfl, ?_⟩; have n0_ := Aside0.mk (HS.out.evicted hh8 hg81 hg82); clear HS hh8 hg81 hg82 hq0; have HS := n0_; clear n0_; obtain ⟨i0, hi0_, _, hsz0, _⟩ := info_parts info3; have hcut := cut_from (P := Try.prog) 22 3 .i64 Try.underlying22 hi0_ 1 hsz0 (some adq) c.queue.length co 1 (by omega) (by omega); have hq8 : Kd.Q (Kd.int .i64) 3 w8 w.heap.size (fun k => some k ≠ v5.ownBlock) (.slice (some adq) c.queue.length co) c.queue := HS.out.q; have hr17 := Kd.Q_drop (k := (1 : Int).toNat) hq8 (by omega); clear hq8; obtain ⟨A17, hA17⟩ : ∃ A1, A1 = (if co = (1 : Int).toNat then some adq else (some adq : Option Addr).map (·.add ((1 : Int).toNat * 1))) := ⟨_, rfl⟩; obtain ⟨c17, hc17⟩ : ∃ c1, c1 = co - (1 : Int).toNat := ⟨_, rfl⟩; have hy17 : qd.length = c.queue.length - (1 : Int).toNat := (by rw [HQD.out, List.length_drop]; rfl); rw [← hy17, ← hA17, ← hc17] at hcut; replace hr17 : Kd.Q (Kd.int .i64) 3 w8 w.heap.size (fun k => some k ≠ v5.ownBlock) (.slice A17 qd.length c17) qd := (by rw [hA17, hc17, hy17, HQD.out]; exact hr17); have hE17 : (Value.slice A17 qd.length c17).ownBlock = (.slice (some adq) c.queue.length co : Value).ownBlock := (by rw [hA17]; split <;> rfl); have n1_ := Aside0.mk (HS.out.qSame hr17 hE17); clear HS hr17 hE17 hy17 hA17 hc17 hi0_ hsz0; have HS := n1_; clear n1_) | ((with_reducible refine gate_builtin (b := .append) (xs := #[.tmp 54, .tmp 56]) rfl ?_); at_builtin; refine Kd.Q_append (Kd.int .i64) (w0 := w) w.heap.size rfl (.tmp 54) (.tmp 56) 22 3 (.int .i64 0) 8 rfl Try.underlying22 info3 rfl (by decide) (by omega) (.slice A17 qd.length c17) (qd) (rd l0 i) [.int .i64 (rd l0 i)] (fun k => some k ≠ v5.ownBlock) (fun _ => False) rfl rfl ?aP (fun _ hk => hk.elim) ?aF ?aO ?aB ?aS ?aL ?_; (case aP => exact rfl); (case aF => exact (fun k hk => Kd.fresh' (Kd.R_lt HS.out.r) k hk)); (case aO => exact HS.out.q); (case aB => exact HS.out.bel); (case aS => exact HS.out.bel.size); (case aL => have hl7 := HQL.out; (try have hl8 := HQDL.out); omega); intro v6 w6 ho hb hg hat; have n0_ := Aside0.mk (HS.out.qApp ho hb hg hat); clear HS ho hb hg hat; have HS := n0_; clear n0_) | (at_mapUpdate; refine wp_insB rfl _ _ _ 41 rfl 3 4 Try.underlying41 Try.underlying3 Try.underlying4 (w.heap.size + 1 + 1) _ _ rfl HS.out.ob (by omega) (rd l0 i) true rfl rfl (wf_rd HWF.out i) ?_; intro w7 hm7 hg7; have n0_ := Aside0.mk (HS.out.heldW hm7 hg7); clear HS hm7 hg7; have HS := n0_; clear n0_))
            go_roundg (gk - 1)
            case measure => have := HI.out; omega
            case rel => exact ⟨i + 1, { held := ins (rmv c.held (rd c.queue 0)) (rd l0 i) true, whn := ins c.whn (rd c.queue 0) (c.count + 1), count := c.count + 1, queue := qd ++ [rd l0 i], out := c.out ++ [dist c.whn c.count (rd l0 i)] }, rfl, by omega, by omega, by simp only; omega, by simp only; omega, ⟨by have := HI.out; omega⟩, ⟨by simp only; rw [List.length_append, HOL.out, toNat_succ hi0]; rfl⟩, ⟨by simp only; intro x hx; rcases List.mem_append.1 hx with hx | hx; (rw [HQD.out] at hx; exact HQW.out x (List.mem_of_mem_drop hx)); (simp only [List.mem_singleton] at hx; subst hx; exact wfs_getD HWF.out _)⟩, ⟨by have := HQL.out; have := HQDL.out; simp only [List.length_append, List.length_singleton]; omega⟩, ⟨by have h := HF2.out; simp only [rfStep] at h; rw [if_neg (by rw [← HHV.out]; decide), if_pos HSZ.out, ← HQD.out] at h; exact h⟩, ⟨HS.out.mono (by omega)⟩⟩
          · have c13 : ((c.queue.length : Int) == a1) = false := beq_eq_false_iff_ne.mpr hsz
            have HSZ := Aside0.mk hsz
            have hql : True := trivial
            clear hsz
            go_wp2_with (first | ((with_reducible refine gate_dst (N := 31) rfl ?_); at_lookup; refine wp_lookB rfl _ _ 41 rfl 3 4 Try.underlying41 Try.underlying3 Try.underlying4 (zero4 _) (w.heap.size + 1 + 1) _ c.held rfl HS.out.ob (rd l0 i) rfl (wf_rd HWF.out i) ?_; rw [← HHV.out]) | ((with_reducible refine gate_callee (f := 48) rfl ?_); refine goesL_ (some 37) rfl rfl Try.func48 (by kernel_rfl) rfl #[.pointer (some ⟨w.heap.size + 1, 0, none⟩), .int .i64 (rd l0 i)] rfl (by (try simp only [List.map_toArray, List.map_cons, List.map_nil]); first | done | rfl) ?_; refine (history_distance HS.out.hs hk0 (by omega) (wf_rd HWF.out i)).mono ?_; rintro e w' ⟨rfl, rfl⟩; refine ⟨_, rfl, ?_⟩) | ((with_reducible refine gate_builtin (b := .append) (xs := #[.tmp 35, .tmp 38]) rfl ?_); at_builtin; refine Kd.R_append (Kd.int .i64) (w0 := w) w.heap.size rfl (.tmp 35) (.tmp 38) 22 3 (.int .i64 0) 8 rfl Try.underlying22 info3 rfl (by decide) (by omega) u10 c.out (dist c.whn c.count (rd l0 i)) [.int .i64 (dist c.whn c.count (rd l0 i))] (fun k => some k ≠ (Value.slice (Ao) c.queue.length co).ownBlock) (fun _ => False) rfl rfl ?aP (fun _ hk => hk.elim) ?aF ?aO ?aB ?aS ?aL ?_; (case aP => exact rfl); (case aF => exact (fun k hk => Kd.fresh' (Kd.Q_lt HS.out.q) k hk)); (case aO => exact HS.out.r); (case aB => exact HS.out.bel); (case aS => exact HS.out.bel.size); (case aL => have := HOL.out; omega); intro v5 w5 ho hb hg hat; have n0_ := Aside0.mk (HS.out.outApp ho hb hg hat); clear HS ho hb hg hat; (try clear hx); (try clear hq0); have HS := n0_; clear n0_; (try (obtain ⟨adq, eq_, hq0⟩ := q_head HS.out.q hql; injection eq_ with eq_; subst eq_))) | ((with_reducible refine gate_builtin (b := .append) (xs := #[.tmp 54, .tmp 56]) rfl ?_); at_builtin; refine Kd.Q_append (Kd.int .i64) (w0 := w) w.heap.size rfl (.tmp 54) (.tmp 56) 22 3 (.int .i64 0) 8 rfl Try.underlying22 info3 rfl (by decide) (by omega) (.slice Ao c.queue.length co) (c.queue) (rd l0 i) [.int .i64 (rd l0 i)] (fun k => some k ≠ v5.ownBlock) (fun _ => False) rfl rfl ?aP (fun _ hk => hk.elim) ?aF ?aO ?aB ?aS ?aL ?_; (case aP => exact rfl); (case aF => exact (fun k hk => Kd.fresh' (Kd.R_lt HS.out.r) k hk)); (case aO => exact HS.out.q); (case aB => exact HS.out.bel); (case aS => exact HS.out.bel.size); (case aL => have hl7 := HQL.out; (try have hl8 := HQDL.out); omega); intro v6 w6 ho hb hg hat; have n0_ := Aside0.mk (HS.out.qApp ho hb hg hat); clear HS ho hb hg hat; have HS := n0_; clear n0_) | (at_mapUpdate; refine wp_insB rfl _ _ _ 41 rfl 3 4 Try.underlying41 Try.underlying3 Try.underlying4 (w.heap.size + 1 + 1) _ _ rfl HS.out.ob (by omega) (rd l0 i) true rfl rfl (wf_rd HWF.out i) ?_; intro w7 hm7 hg7; have n0_ := Aside0.mk (HS.out.heldW hm7 hg7); clear HS hm7 hg7; have HS := n0_; clear n0_))
            go_roundg (gk - 1)
            case measure => have := HI.out; omega
            case rel => exact ⟨i + 1, { c with held := ins c.held (rd l0 i) true, queue := c.queue ++ [rd l0 i], out := c.out ++ [dist c.whn c.count (rd l0 i)] }, rfl, by omega, by omega, by simp only; omega, by simp only; omega, ⟨by have := HI.out; omega⟩, ⟨by simp only; rw [List.length_append, HOL.out, toNat_succ hi0]; rfl⟩, ⟨by simp only; intro x hx; rcases List.mem_append.1 hx with hx | hx; exact HQW.out x hx; simp only [List.mem_singleton] at hx; subst hx; exact wfs_getD HWF.out _⟩, ⟨by have := HQL.out; simp only [List.length_append, List.length_singleton]; omega⟩, ⟨by have h := HF2.out; simp only [rfStep] at h; rw [if_neg (by rw [← HHV.out]; decide), if_neg HSZ.out] at h; exact h⟩, ⟨HS.out.mono (by omega)⟩⟩
      · have cc0 : decide (i < (l0.length : Int)) = false := decide_eq_false hlt
        go_wp2
        go_ret2
        have h := HF.out
        rw [List.drop_eq_nil_of_le (by omega)] at h
        simp only [List.foldl_nil] at h
        rw [← h]
        exact ⟨_, rfl, Kd.R_mono HS.out.r (fun _ _ => trivial), HS.out.bel⟩
  · rw [if_neg c4] at h
    have c4b0 : (t == 0) = false := beq_eq_false_iff_ne.mpr c4
    have c4b1 : (t != 0) = true := bne_iff_ne.mpr c4
    simp only [Option.some.injEq, Prod.mk.injEq] at h
    obtain ⟨rfl, rfl⟩ := h
    go_enter Try.func33, Try.ntmps33
    go_wp2_with (first | ((with_reducible refine gate_callee (f := 47) rfl ?_); refine goesL_ (some 16) rfl rfl Try.func47 (by kernel_rfl) rfl #[.int .i64 (l0.length : Int), .int .i64 a1] rfl (by (try simp only [List.map_toArray, List.map_cons, List.map_nil]); first | done | rfl) ?_; (with_reducible refine (workingset_check.calls (l0.length : Int) a1 t _ A3.out).mono ?_); rintro e w' ⟨rfl, ⟨nd, rfl⟩⟩; refine ⟨_, rfl, ?_⟩))
    go_ret2
    exact ⟨_, rfl, Kd.R_nil _ _ _ _ _, by repeat (first | (with_reducible first | exact HB.out | apply below_alloc | apply pw_below_drewN | apply below_drew1) | exact HB.out)⟩
end Go.Proofs.Ytbchpnhlaknhjaa.Q
