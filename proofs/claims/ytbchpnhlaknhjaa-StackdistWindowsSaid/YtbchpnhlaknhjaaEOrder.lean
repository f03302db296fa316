/-
  StackdistOrder, walked: it answers true. Condition: the numbers are of their kinds.
-/
import Derived.Test.YtbchpnhlaknhjaaQ201
import Derived.Test.YtbchpnhlaknhjaaVi
import Derived.Test.YtbchpnhlaknhjaaVwake
namespace Go.Proofs.Ytbchpnhlaknhjaa.Q
open Go.Proofs.Ytbchpnhlaknhjaa.Sd Go.Proofs.Ytbchpnhlaknhjaa.V
open Go.RowKit Go.Proofs.YtbchpnhlaknhjaaW.PrintWords Go.Proofs.YtbchpnhlaknhjaaW.PrintLast Go.Proofs.YtbchpnhlaknhjaaW.PrintMore
set_option linter.unusedVariables false
set_option linter.unusedSimpArgs false
theorem ev_some {α : Type} {g : Nat → Option α} {r : α} (h : Ev g r) : ∃ k, g k = some r := by
  obtain ⟨k, hk⟩ := h
  exact ⟨k, hk k (Nat.le_refl _)⟩
set_option maxHeartbeats 16000000 in
set_option maxRecDepth 100000 in
theorem order_calls (A0 : Option Addr) (c0 : Nat) (l0 : List Int) (a1 : Int) (w : World) (hr0 : Kd.C (Kd.int .i64) w A0 l0.length l0) (hc0 : l0.length ≤ c0) (hw : wfs l0) (ha : 0 ≤ a1 ∧ a1 ≤ 255) :
    Calls Try.prog 10 #[.slice A0 l0.length c0, .int .u8 a1] w fun e w' => e = .returned (.bool true) ∧ Below w.heap.size w w' := by
  have HR0 := Aside0.mk hr0
  have HC0 := Aside0.mk hc0
  have HWF := Aside0.mk hw
  have HB := Aside0.mk (Below.refl w.heap.size w)
  clear hr0 hc0 hw
  obtain ⟨ka, hka⟩ := ev_some awake_ev
  have HAW := Aside0.mk hka
  clear hka
  by_cases hlen : (l0.length : Int) > 100
  · have cl : decide ((l0.length : Int) > 100) = true := decide_eq_true hlen
    go_enter Try.func10, Try.ntmps10
    go_wp2_with (first | (go_at_call 14; refine (estoverslaw37_awake.calls ka true _ HAW.out).mono ?_; rintro e w6 ⟨rfl, hb⟩; have n0_ := Aside0.mk (below_step (by repeat (first | (with_reducible first | exact HB.out | apply below_alloc | apply pw_below_drewN | apply below_drew1) | exact HB.out)) hb); clear HB; have HB := n0_; clear n0_; (try clear hb)))
    go_ret
    exact ⟨rfl, HB.out⟩
  · have cl : decide ((l0.length : Int) > 100) = false := decide_eq_false hlen
    obtain ⟨f, hf, hf2⟩ : ∃ f : Nat, Int.tmod a1 24 = f ∧ f < 24 := ⟨(Int.tmod a1 24).toNat, by rw [Int.tmod_eq_emod_of_nonneg ha.1]; omega, by rw [Int.tmod_eq_emod_of_nonneg ha.1]; omega⟩
    have hl : l0.length ≤ 100 := by omega
    have r1 : req l0.length f = 0 := by unfold req; rw [if_neg (by omega), if_neg (by omega), if_neg (by omega)]
    obtain ⟨kl, hkl⟩ := ev_some (lru_ev l0 f)
    obtain ⟨kf, hkf⟩ := ev_some (fifo_ev l0 f)
    have hko := opt_f l0 f HWF.out
    unfold lruR at hkl
    unfold fifoR at hkf
    unfold optR at hko
    rw [if_pos r1] at hkl hkf hko
    have law := order_law l0 f
    generalize cntF f (dists [] l0) = a at hkl law
    generalize (stk [] l0).take (f : Int).toNat = S0 at hkl
    generalize fifo l0 f = b at hkf law
    generalize opt l0 f = o at hko law
    have HL := Aside0.mk hkl
    have HF := Aside0.mk hkf
    have HO := Aside0.mk hko
    have LAW := Aside0.mk law
    clear hkl hkf hko r1 law
    have hfr : IntKind.i64.wrap a1 = a1 := by rw [i64_w]; exact w64 (by omega)
    have hfm : Go.RowKit.wrap64 a1 = a1 := w64 (by omega)
    have hmm := @run_makeMap Try.prog
    go_enter Try.func10, Try.ntmps10
    go_upto_region 10 with (first | (go_at_call 14; refine (estoverslaw37_awake.calls ka true _ HAW.out).mono ?_; rintro e w6 ⟨rfl, hb⟩; have n0_ := Aside0.mk (below_step (by repeat (first | (with_reducible first | exact HB.out | apply below_alloc | apply pw_below_drewN | apply below_drew1) | exact HB.out)) hb); clear HB; have HB := n0_; clear n0_; (try clear hb)) | (go_at_call 20; refine (stackdist_Lru.calls kl A0 c0 l0 f a S0 0 _ (Kd.C_below HR0.out (by repeat (first | (with_reducible first | exact HB.out | apply below_alloc | apply pw_below_drewN | apply below_drew1) | exact HB.out))) HC0.out HL.out).mono ?_; rintro e w7 ⟨v7, rfl, _, hb⟩; have n0_ := Aside0.mk (below_step (by repeat (first | (with_reducible first | exact HB.out | apply below_alloc | apply pw_below_drewN | apply below_drew1) | exact HB.out)) hb); clear HB; have HB := n0_; clear n0_; (try clear hb)) | (go_at_call 22; refine (stackdist_Fifo.calls kf A0 c0 l0 f b 0 _ (Kd.C_below HR0.out (by repeat (first | (with_reducible first | exact HB.out | apply below_alloc | apply pw_below_drewN | apply below_drew1) | exact HB.out))) HC0.out HF.out).mono ?_; rintro e w8 ⟨rfl, hb⟩; have n0_ := Aside0.mk (below_step (by repeat (first | (with_reducible first | exact HB.out | apply below_alloc | apply pw_below_drewN | apply below_drew1) | exact HB.out)) hb); clear HB; have HB := n0_; clear n0_; (try clear hb)) | (go_at_call 24; refine (stackdist_Optimal.calls A0 c0 l0 f o 0 _ (Kd.C_below HR0.out (by repeat (first | (with_reducible first | exact HB.out | apply below_alloc | apply pw_below_drewN | apply below_drew1) | exact HB.out))) HC0.out HO.out).mono ?_; rintro e w9 ⟨rfl, hb⟩; have n0_ := Aside0.mk (below_step (by repeat (first | (with_reducible first | exact HB.out | apply below_alloc | apply pw_below_drewN | apply below_drew1) | exact HB.out)) hb); clear HB; have HB := n0_; clear n0_; (try clear hb)))
    have hm0 := OB.made Try.prog 3 4 w9
    have n0_ := Aside0.mk (below_alloc HB.out (.map #[] 0))
    have HBM := Aside0.mk HB.out.size
    clear HB
    have HB := n0_
    clear n0_
    have HM := Aside0.mk hm0
    clear hm0
    generalize w9.alloc (.map #[] 0) = W1 at *
    generalize w9.heap.size = bm at *
    go_wp2_with fail
    go_loopg [59] l0.length (fun kq v59 w' => ∃ (i : Int) (m : List (Int × Bool)), v59 = .int .i64 i ∧ 0 ≤ i ∧ i ≤ l0.length ∧ Aside0 (i = l0.length - kq) ∧ Aside0 (seenF (l0.drop i.toNat) m = seenF l0 []) ∧ Aside0 (OB Try.prog 3 4 w' bm i.toNat m) ∧ Aside0 (Below w.heap.size w w'))
    case atStart => exact ⟨0, [], rfl, by omega, by omega, ⟨by omega⟩, ⟨rfl⟩, HM, HB⟩
    case round =>
      clear HM HB
      obtain ⟨i, m, rfl, hi0, hil, HI, HS, HM, HB⟩ := hrel
      by_cases hlt : i < l0.length
      · have cc0 : decide (i < (l0.length : Int)) = true := decide_eq_true hlt
        obtain ⟨ad, e, hx⟩ := Kd.at_int HR0.out i hi0 hlt
        cases e
        replace hx := (HB.out.cell (World.block_lt_of_cell? w _ hx)).trans hx
        go_wp2_with (first | (at_mapUpdate; refine wp_insB rfl _ _ _ 41 rfl 3 4 Try.underlying41 Try.underlying3 Try.underlying4 bm _ m rfl HM.out (by omega) (rd l0 i) true rfl rfl (wf_rd HWF.out i) ?_; intro w7 hm7 hg7; have n0_ := Aside0.mk hm7; have n1_ := Aside0.mk (below_map HB.out HBM.out HB.out.size hg7); clear HM HB hm7 hg7 hx; have HM := n0_; have HB := n1_; clear n0_ n1_))
        go_roundg (gk - 1)
        case measure => have := HI.out; omega
        case rel => exact ⟨i + 1, ins m (rd l0 i) true, rfl, by omega, by omega, ⟨by have := HI.out; omega⟩, ⟨by have h := HS.out; rw [drop_rd hi0 hlt] at h; exact h⟩, ⟨HM.out.mono (by omega)⟩, HB⟩
      · have cc0 : decide (i < (l0.length : Int)) = false := decide_eq_false hlt
        have h := HS.out
        rw [drop_end (by omega)] at h
        have hml : m.length = nd l0 := by
          have h2 : m = seenF l0 [] := h
          have h3 := HM.out.nodup
          rw [h2] at h3 ⊢
          exact seen_len l0 h3
        clear h
        obtain ⟨law0, law1, law2, law3, law4⟩ := LAW.out
        by_cases hf0 : f = 0
        · obtain ⟨q1, q2, q3⟩ := law0 hf0
          have t1 : ((f : Int) == 0) = true := beq_iff_eq.mpr (by omega)
          have t2 : (a == (l0.length : Int)) = true := beq_iff_eq.mpr q1
          have t3 : (b == (l0.length : Int)) = true := beq_iff_eq.mpr q2
          have t4 : (o == (l0.length : Int)) = true := beq_iff_eq.mpr q3
          clear law1 law2 law3 law4
          go_wp2_with (first | ((with_reducible refine gate_dst (N := 86) rfl ?_); (try (refine gate_guard (by rfl) ?_; dsimp only)); at_len; refine wp_lenB rfl _ 41 rfl 3 4 Try.underlying41 bm _ m rfl HM.out ?_) | ((with_reducible refine gate_dst (N := 90) rfl ?_); (try (refine gate_guard (by rfl) ?_; dsimp only)); at_len; refine wp_lenB rfl _ 41 rfl 3 4 Try.underlying41 bm _ m rfl HM.out ?_) | ((with_reducible refine gate_dst (N := 95) rfl ?_); (try (refine gate_guard (by rfl) ?_; dsimp only)); at_len; refine wp_lenB rfl _ 41 rfl 3 4 Try.underlying41 bm _ m rfl HM.out ?_) | ((with_reducible refine gate_dst (N := 101) rfl ?_); (try (refine gate_guard (by rfl) ?_; dsimp only)); at_len; refine wp_lenB rfl _ 41 rfl 3 4 Try.underlying41 bm _ m rfl HM.out ?_) | ((with_reducible refine gate_dst (N := 115) rfl ?_); (try (refine gate_guard (by rfl) ?_; dsimp only)); at_len; refine wp_lenB rfl _ 41 rfl 3 4 Try.underlying41 bm _ m rfl HM.out ?_))
          go_ret
          exact ⟨rfl, HB.out⟩
        · have t1 : ((f : Int) == 0) = false := beq_eq_false_iff_ne.mpr (by omega)
          have hf1 : 1 ≤ f := by omega
          obtain ⟨u1, u2, u3⟩ := law2 hf1
          have law5 := law1 hf1
          rw [← hml] at law5 u3
          clear law0 law1 law2 hml
          by_cases hfN : (f : Int) ≥ (m.length : Int)
          · obtain ⟨q1, q2, q3⟩ := law5 (by omega)
            have t2 : decide ((f : Int) ≥ (m.length : Int)) = true := decide_eq_true hfN
            clear law3 law4 law5 u1 u2 u3 hfN LAW
            subst q1 q2 q3
            obtain ⟨N, hN⟩ : ∃ N : Int, (m.length : Int) = N := ⟨_, rfl⟩
            have t3 : (N == N) = true := beq_self_eq_true N
            rw [hN] at t2 HL HF HO
            go_wp2_with (first | ((with_reducible refine gate_dst (N := 86) rfl ?_); (try (refine gate_guard (by rfl) ?_; dsimp only)); at_len; refine wp_lenB rfl _ 41 rfl 3 4 Try.underlying41 bm _ m rfl HM.out ?_) | ((with_reducible refine gate_dst (N := 90) rfl ?_); (try (refine gate_guard (by rfl) ?_; dsimp only)); at_len; refine wp_lenB rfl _ 41 rfl 3 4 Try.underlying41 bm _ m rfl HM.out ?_) | ((with_reducible refine gate_dst (N := 95) rfl ?_); (try (refine gate_guard (by rfl) ?_; dsimp only)); at_len; refine wp_lenB rfl _ 41 rfl 3 4 Try.underlying41 bm _ m rfl HM.out ?_) | ((with_reducible refine gate_dst (N := 101) rfl ?_); (try (refine gate_guard (by rfl) ?_; dsimp only)); at_len; refine wp_lenB rfl _ 41 rfl 3 4 Try.underlying41 bm _ m rfl HM.out ?_) | ((with_reducible refine gate_dst (N := 115) rfl ?_); (try (refine gate_guard (by rfl) ?_; dsimp only)); at_len; refine wp_lenB rfl _ 41 rfl 3 4 Try.underlying41 bm _ m rfl HM.out ?_))
            go_ret
            exact ⟨rfl, HB.out⟩
          · have t2 : decide ((f : Int) ≥ (m.length : Int)) = false := decide_eq_false hfN
            have t3 : decide (o ≤ a) = true := decide_eq_true u1
            have t4 : decide (o ≤ b) = true := decide_eq_true u2
            have t5 : decide (o ≥ (m.length : Int)) = true := decide_eq_true u3
            have t6 : decide (a ≤ (l0.length : Int)) = true := decide_eq_true law3
            have t7 : decide (b ≤ (l0.length : Int)) = true := decide_eq_true law4
            clear law3 law4 law5 u1 u2 u3 hfN LAW
            obtain ⟨N, hN⟩ : ∃ N : Int, (m.length : Int) = N := ⟨_, rfl⟩
            rw [hN] at t2 t5
            go_wp2_with (first | ((with_reducible refine gate_dst (N := 86) rfl ?_); (try (refine gate_guard (by rfl) ?_; dsimp only)); at_len; refine wp_lenB rfl _ 41 rfl 3 4 Try.underlying41 bm _ m rfl HM.out ?_) | ((with_reducible refine gate_dst (N := 90) rfl ?_); (try (refine gate_guard (by rfl) ?_; dsimp only)); at_len; refine wp_lenB rfl _ 41 rfl 3 4 Try.underlying41 bm _ m rfl HM.out ?_) | ((with_reducible refine gate_dst (N := 95) rfl ?_); (try (refine gate_guard (by rfl) ?_; dsimp only)); at_len; refine wp_lenB rfl _ 41 rfl 3 4 Try.underlying41 bm _ m rfl HM.out ?_) | ((with_reducible refine gate_dst (N := 101) rfl ?_); (try (refine gate_guard (by rfl) ?_; dsimp only)); at_len; refine wp_lenB rfl _ 41 rfl 3 4 Try.underlying41 bm _ m rfl HM.out ?_) | ((with_reducible refine gate_dst (N := 115) rfl ?_); (try (refine gate_guard (by rfl) ?_; dsimp only)); at_len; refine wp_lenB rfl _ 41 rfl 3 4 Try.underlying41 bm _ m rfl HM.out ?_))
            go_ret
            exact ⟨rfl, HB.out⟩
theorem order_walk (a0 : Option Addr) (len0 cap0 : Nat) (z0 : List Int) (a1 : Int) (w : World) (w0 : (a0 = none ∧ len0 = 0 ∧ cap0 = 0 ∧ z0 = []) ∨ ∃ x, a0 = some x ∧ len0 ≤ cap0 ∧ cap0 ≤ maxLen ∧ z0.length = cap0 ∧ (∀ i, i < z0.length → w.cell? (x.add i) = some (.int .i64 (z0.getD i 0))) ∧ ∀ n ∈ z0, (Lit.int .i64 n).wf = true) (y0 : len0 * 8 ≤ 140737488351232) (w1 : (Lit.int .u8 a1).wf = true) :
    Calls Try.prog 10 #[.slice a0 len0 cap0, .int .u8 a1] w fun e w' => e = .returned (.bool true) ∧ Below w.heap.size w w' := by
  obtain ⟨l0, rfl, hr0, hm0, hw0, hc0⟩ := ReadsInt.ofRowC w0
  have ha : 0 ≤ a1 ∧ a1 ≤ 255 := by simpa [Lit.wf, IntKind.min, IntKind.max, IntKind.signed, IntKind.bits] using w1
  exact order_calls _ _ l0 a1 w (Kd.C_of_reads (d := (0 : Int)) (h1 := fun _ => rfl) hr0) hc0 (wfs_of l0 hw0) ha
end Go.Proofs.Ytbchpnhlaknhjaa.Q
