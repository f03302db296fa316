/-
  StackdistWindows, walked: it answers true. Condition: the numbers are of their kinds.
-/
import Derived.Test.YtbchpnhlaknhjaaEOrder
namespace Go.Proofs.Ytbchpnhlaknhjaa.Q
open Go.Proofs.Ytbchpnhlaknhjaa.Sd Go.Proofs.Ytbchpnhlaknhjaa.V
open Go.RowKit Go.Proofs.YtbchpnhlaknhjaaW.PrintWords Go.Proofs.YtbchpnhlaknhjaaW.PrintLast Go.Proofs.YtbchpnhlaknhjaaW.PrintMore
set_option linter.unusedVariables false
set_option linter.unusedSimpArgs false
attribute [local go_sem] max2_int
theorem work_rd (l : List Int) (w i : Int) (h0 : 0 ≤ i) (hi : i < l.length) : rd (work l w l.length) i = nd (win l w i) := by
  unfold work rd
  rw [List.getD_eq_getElem?_getD, List.getElem?_map, List.getElem?_range (by omega)]
  simp only [Option.map_some, Option.getD_some]
  rw [show ((i.toNat : Nat) : Int) = i by omega]
theorem work_length (l : List Int) (w : Int) (m : Nat) : (work l w m).length = m := by simp [work]
theorem nd_cons_le (x : Int) (l : List Int) : nd l ≤ nd (x :: l) ∧ nd (x :: l) ≤ nd l + 1 := by
  simp only [nd]; split <;> omega
theorem OB.len_run {P : Program} {k e t : TypeId} {w : World} {b n : Nat} {m : List (Int × Bool)} (h : OB P k e w b n m) (ht : P.underlying t = some (.map k e)) (ty : TypeId) :
    (Builtin.len_ #[t] ty #[.map (some b)]).run P w = .ok (.int .i64 (m.length : Int)) w := by
  obtain ⟨D, h1, h2⟩ := h
  have h3 := h1.len ht ty
  rw [h2.len] at h3
  exact h3
theorem nd_le : ∀ l : List Int, nd l ≤ l.length
  | [] => Nat.le_refl _
  | x :: l => Nat.le_trans (nd_cons_le x l).2 (Nat.succ_le_succ (nd_le l))
/-- A window that is longer by one has at most one page more. -/
theorem win_more (l : List Int) (n : Nat) (i : Int) (h0 : 0 ≤ i) (hi : i < l.length) : nd (win l n i) ≤ nd (win l (n + 1 : Int) i) ∧ nd (win l (n + 1 : Int) i) ≤ nd (win l n i) + 1 := by
  unfold win
  by_cases h : i - n + 1 ≤ 0
  · rw [show (i - (n : Int) + 1).toNat = 0 by omega, show (i - ((n : Int) + 1) + 1).toNat = 0 by omega]; omega
  · obtain ⟨k, hk⟩ : ∃ k : Nat, i - n = k := ⟨(i - n).toNat, by omega⟩
    rw [show (i - (n : Int) + 1).toNat = k + 1 by omega, show (i - ((n : Int) + 1) + 1).toNat = k by omega, drop_get (k := k) (by rw [List.length_take]; omega)]
    exact nd_cons_le _ _
set_option maxHeartbeats 16000000 in
set_option maxRecDepth 100000 in
theorem windows_calls (A0 : Option Addr) (c0 : Nat) (l0 : List Int) (a1 : Int) (w : World) (hr0 : Kd.C (Kd.int .i64) w A0 l0.length l0) (hc0 : l0.length ≤ c0) (hw : wfs l0) (ha : 0 ≤ a1 ∧ a1 ≤ 255) :
    Calls Try.prog 11 #[.slice A0 l0.length c0, .int .u8 a1] w fun e w' => e = .returned (.bool true) ∧ Below w.heap.size w w' := by
  have HR0 := Aside0.mk hr0
  have HC0 := Aside0.mk hc0
  have HWF := Aside0.mk hw
  have HB := Aside0.mk (Below.refl w.heap.size w)
  clear hr0 hc0 hw
  obtain ⟨ka, hka⟩ := ev_some awake_ev
  have HAW := Aside0.mk hka
  clear hka
  by_cases hlen : (l0.length : Int) > 100
  · have cl : decide ((l0.length : Int) > 100) = true := decide_eq_true hlen
    go_enter Try.func11, Try.ntmps11
    go_wp2_with (first | (go_at_call 14; refine (estoverslaw37_awake.calls ka true _ HAW.out).mono ?_; rintro e w6 ⟨rfl, hb⟩; have n0_ := Aside0.mk (below_step (by repeat (first | (with_reducible first | exact HB.out | apply below_alloc | apply pw_below_drewN | apply below_drew1) | exact HB.out)) hb); clear HB; have HB := n0_; clear n0_; (try clear hb)))
    go_ret
    exact ⟨rfl, HB.out⟩
  · have cl : decide ((l0.length : Int) > 100) = false := decide_eq_false hlen
    obtain ⟨n, rfl⟩ : ∃ n : Nat, a1 = n := ⟨a1.toNat, by omega⟩
    have hn : n ≤ 255 := by omega
    have hl : l0.length ≤ 100 := by omega
    have r1 : req l0.length n = 0 := by unfold req; rw [if_neg (by omega), if_neg (by omega), if_neg (by omega)]
    have r2 : req l0.length ((n : Int) + 1) = 0 := by unfold req; rw [if_neg (by omega), if_neg (by omega), if_neg (by omega)]
    have h1 := work_f l0 n HWF.out
    have h2 := work_f l0 ((n : Int) + 1) HWF.out
    unfold workR at h1 h2
    rw [if_pos r1] at h1
    rw [if_pos r2] at h2
    have hA : ∀ i : Int, 0 ≤ i → i < l0.length → rd (work l0 n l0.length) i = nd (win l0 n i) := fun i h0 hi => work_rd l0 n i h0 hi
    have hB : ∀ i : Int, 0 ≤ i → i < l0.length → rd (work l0 (n + 1) l0.length) i = nd (win l0 (n + 1) i) := fun i h0 hi => work_rd l0 _ i h0 hi
    have hAl := work_length l0 n l0.length
    have hBl := work_length l0 (n + 1) l0.length
    generalize work l0 (n : Int) l0.length = A at h1 hA hAl
    generalize work l0 ((n : Int) + 1) l0.length = B at h2 hB hBl
    have HA := Aside0.mk h1
    have HBB := Aside0.mk h2
    have HRDA := Aside0.mk hA
    have HRDB := Aside0.mk hB
    clear h1 h2 r1 r2 hA hB
    have hfr : IntKind.i64.wrap (n : Int) = n := by rw [i64_w]; exact w64 (by omega)
    have hfm : Go.RowKit.wrap64 (n : Int) = n := w64 (by omega)
    have hmm := @run_makeMap Try.prog
    have la : ((A.length : Int) != (l0.length : Int)) = false := by rw [hAl]; exact bne_self_eq_false _
    have lb : ((B.length : Int) != (l0.length : Int)) = false := by rw [hBl]; exact bne_self_eq_false _
    go_enter Try.func11, Try.ntmps11
    go_upto_region 4 with (first | (go_at_call 14; refine (estoverslaw37_awake.calls ka true _ HAW.out).mono ?_; rintro e w6 ⟨rfl, hb⟩; have n0_ := Aside0.mk (below_step (by repeat (first | (with_reducible first | exact HB.out | apply below_alloc | apply pw_below_drewN | apply below_drew1) | exact HB.out)) hb); clear HB; have HB := n0_; clear n0_; (try clear hb)))
    go_upto_region 5 with (first | (go_at_call 28; refine (stackdist_Working.calls A0 c0 l0 (n : Int) A 0 _ (Kd.C_below HR0.out (by repeat (first | (with_reducible first | exact HB.out | apply below_alloc | apply pw_below_drewN | apply below_drew1) | exact HB.out))) HC0.out HA.out).mono ?_; rintro e w7 ⟨v7, rfl, ho, hb⟩; have HRA := Aside0.mk ho; clear ho; have n0_ := Aside0.mk (below_step (by repeat (first | (with_reducible first | exact HB.out | apply below_alloc | apply pw_below_drewN | apply below_drew1) | exact HB.out)) hb); clear HB; have HB := n0_; clear n0_; (try clear hb)))
    go_upto_region 6 with (first | (go_at_call 28; refine (stackdist_Working.calls A0 c0 l0 ((n : Int) + 1) B 0 _ (Kd.C_below HR0.out (by repeat (first | (with_reducible first | exact HB.out | apply below_alloc | apply pw_below_drewN | apply below_drew1) | exact HB.out))) HC0.out HBB.out).mono ?_; rintro e w8 ⟨v8, rfl, ho, hb⟩; have HRB := Aside0.mk ho; clear ho; have n1_ := Aside0.mk (Kd.R_below HRA.out hb); clear HRA; have HRA := n1_; clear n1_; have n0_ := Aside0.mk (below_step (by repeat (first | (with_reducible first | exact HB.out | apply below_alloc | apply pw_below_drewN | apply below_drew1) | exact HB.out)) hb); clear HB; have HB := n0_; clear n0_; (try clear hb)))
    obtain ⟨Av, cv, e7⟩ := Kd.R_slice HRA.out
    subst e7
    obtain ⟨Bv, dv, e8⟩ := Kd.R_slice HRB.out
    subst e8
    have HCA := Aside0.mk (Kd.R_reads' HRA.out).2.2
    have HCB := Aside0.mk (Kd.R_reads' HRB.out).2.2
    clear HRA HRB
    have HX := Aside0.mk (Below.refl w8.heap.size w8)
    have HW8 := Aside0.mk HB.out
    clear HB
    go_wp2_with fail
    have HAl := Aside0.mk hAl
    have HBl := Aside0.mk hBl
    clear hAl hBl la lb
    go_loopg [58] l0.length (fun kq v58 w' => ∃ (i : Int), v58 = .int .i64 i ∧ 0 ≤ i ∧ i ≤ l0.length ∧ Aside0 (i = l0.length - kq) ∧ Aside0 (Below w8.heap.size w8 w'))
    case atStart => exact ⟨0, rfl, by omega, by omega, ⟨by omega⟩, HX⟩
    case round =>
      clear HX
      obtain ⟨i, rfl, hi0, hil, HI, HX⟩ := hrel
      generalize gk = gko at *
      by_cases hlt : i < l0.length
      · have cc0 : decide (i < (l0.length : Int)) = true := decide_eq_true hlt
        have hm0 := OB.made Try.prog 3 4 wr
        have HBG := Aside0.mk HX.out.size
        have n0_ := Aside0.mk (below_alloc HX.out (.map #[] 0))
        clear HX
        have HX := n0_
        clear n0_
        have HM := Aside0.mk hm0
        clear hm0
        go_upto_region 12 with fail
        generalize wr.alloc (.map #[] 0) = W1 at *
        generalize wr.heap.size = bm at *
        have hw1 : wrap64 (i - n) = i - n := w64 (by omega)
        have hw2 : wrap64 (i - n + 1) = i - n + 1 := w64 (by omega)
        have hs : 0 ≤ mx 0 (i - n + 1) ∧ mx 0 (i - n + 1) ≤ i + 1 ∧ (mx 0 (i - n + 1)).toNat = (i - n + 1).toNat ∧ i - n + 1 ≤ mx 0 (i - n + 1) := by unfold mx; split <;> omega
        go_wp2_with fail
        all_goals
          go_loopg [12] (l0.length + 1) (fun kq v12 w' => ∃ (j : Int) (m : List (Int × Bool)), v12 = .int .i64 j ∧ 0 ≤ j ∧ j ≤ i + 1 ∧ i - n + 1 ≤ j ∧ Aside0 ((l0.length : Int) + 1 - j ≤ kq) ∧ Aside0 (seenF ((l0.take (i + 1).toNat).drop j.toNat) m = seenF (win l0 n i) []) ∧ Aside0 (OB Try.prog 3 4 w' bm j.toNat m) ∧ Aside0 (Below w8.heap.size w8 w'))
          case atStart =>
            refine ⟨_, [], rfl, by omega, by omega, by omega, ⟨by omega⟩, ⟨?_⟩, ⟨HM.out.mono (by omega)⟩, HX⟩
            unfold win
            congr 2
            all_goals omega
          case round =>
            clear HM HX
            obtain ⟨j, m, rfl, hj0, hji, hjs, HJ, HS, HM, HX⟩ := hrel
            by_cases hjl : j ≤ i
            · have tj : decide (j ≤ i) = true := decide_eq_true hjl
              have tn : decide ((n : Int) > 0) = true := decide_eq_true (by omega)
              have hjl2 : j < l0.length := by omega
              obtain ⟨ad, e, hx⟩ := Kd.at_int HR0.out j hj0 hjl2
              cases e
              replace hx := ((below_step HW8.out HX.out).cell (World.block_lt_of_cell? w _ hx)).trans hx
              go_wp2_with (first | (at_mapUpdate; refine wp_insB rfl _ _ _ 41 rfl 3 4 Try.underlying41 Try.underlying3 Try.underlying4 bm _ m rfl HM.out (by omega) (rd l0 j) true rfl rfl (wf_rd HWF.out j) ?_; intro w9 hm9 hg9; have n0_ := Aside0.mk hm9; have n1_ := Aside0.mk (below_map HX.out HBG.out HX.out.size hg9); clear HM HX hm9 hg9 hx; have HM := n0_; have HX := n1_; clear n0_ n1_))
              go_roundg (gk - 1)
              case measure => have := HJ.out; omega
              case rel => exact ⟨j + 1, ins m (rd l0 j) true, rfl, by omega, by omega, by omega, ⟨by have := HJ.out; omega⟩, ⟨by have h := HS.out; rw [drop_get (by rw [List.length_take]; omega), show j.toNat + 1 = (j + 1).toNat by omega] at h; rw [← h]; show seenF _ (ins m _ true) = seenF _ (ins m _ true); congr 2; simp only [rd, List.getD_eq_getElem?_getD]; rw [List.getElem?_take_of_lt (by omega)]⟩, ⟨HM.out.mono (by omega)⟩, HX⟩
            · have tj : decide (j ≤ i) = false := decide_eq_false hjl
              have h := HS.out
              rw [List.drop_eq_nil_of_le (by rw [List.length_take]; omega)] at h
              have hml : m.length = nd (win l0 n i) := by
                have h2 : m = seenF (win l0 n i) [] := h
                have h3 := HM.out.nodup
                rw [h2] at h3 ⊢
                exact seen_len _ h3
              clear h
              have qa := HRDA.out i hi0 hlt
              have qb := HRDB.out i hi0 hlt
              have qw := win_more l0 n i hi0 hlt
              have hA1 : i < A.length := by have := HAl.out; omega
              have hB1 : i < B.length := by have := HBl.out; omega
              obtain ⟨ada, e, ya⟩ := Kd.at_int HCA.out i hi0 hA1
              cases e
              obtain ⟨adb, e, yb⟩ := Kd.at_int HCB.out i hi0 hB1
              cases e
              replace ya := (HX.out.cell (World.block_lt_of_cell? _ _ ya)).trans ya
              replace yb := (HX.out.cell (World.block_lt_of_cell? _ _ yb)).trans yb
              have hbnd : nd (win l0 n i) ≤ 100 := Nat.le_trans (nd_le _) (by unfold win; simp only [List.length_drop, List.length_take]; omega)
              clear HRDA HRDB
              obtain ⟨N, hN⟩ : ∃ N : Int, (m.length : Int) = N := ⟨_, rfl⟩
              generalize rd A i = ra at ya qa
              generalize rd B i = rb at yb qb
              have q1 : (ra != N) = false := bne_eq_false_iff_eq.mpr (by omega)
              have q2 : decide (rb < ra) = false := decide_eq_false (by omega)
              have q3 : decide (rb > ra + 1) = false := decide_eq_false (by omega)
              have q4 : wrap64 (ra + 1) = ra + 1 := w64 (by omega)
              clear qa qb qw hml hbnd
              have hlen : ∀ (k : Nat) (ty : TypeId), (Builtin.len_ #[41] ty #[.map (some bm)]).run Try.prog (wr.drewN k) = .ok (.int .i64 N) (wr.drewN k) := fun k ty => by rw [← hN]; exact OB.len_run (HM.out.below (pw_below_drewN (Below.refl _ _) k)) Try.underlying41 ty
              clear hN
              go_wp2_with fail
              go_quiet (fail)
              go_wp2_with fail
              go_roundg (gko - 1)
              case measure => have := HI.out; omega
              case rel => exact ⟨i + 1, rfl, by omega, by omega, ⟨by have := HI.out; omega⟩, ⟨pw_below_drewN HX.out _⟩⟩
      · have cc0 : decide (i < (l0.length : Int)) = false := decide_eq_false hlt
        go_wp2
        go_ret
        exact ⟨rfl, below_step HW8.out HX.out⟩
theorem windows_walk (a0 : Option Addr) (len0 cap0 : Nat) (z0 : List Int) (a1 : Int) (w : World) (w0 : (a0 = none ∧ len0 = 0 ∧ cap0 = 0 ∧ z0 = []) ∨ ∃ x, a0 = some x ∧ len0 ≤ cap0 ∧ cap0 ≤ maxLen ∧ z0.length = cap0 ∧ (∀ i, i < z0.length → w.cell? (x.add i) = some (.int .i64 (z0.getD i 0))) ∧ ∀ n ∈ z0, (Lit.int .i64 n).wf = true) (y0 : len0 * 8 ≤ 140737488351232) (w1 : (Lit.int .u8 a1).wf = true) :
    Calls Try.prog 11 #[.slice a0 len0 cap0, .int .u8 a1] w fun e w' => e = .returned (.bool true) ∧ Below w.heap.size w w' := by
  obtain ⟨l0, rfl, hr0, hm0, hw0, hc0⟩ := ReadsInt.ofRowC w0
  have ha : 0 ≤ a1 ∧ a1 ≤ 255 := by simpa [Lit.wf, IntKind.min, IntKind.max, IntKind.signed, IntKind.bits] using w1
  exact windows_calls _ _ l0 a1 w (Kd.C_of_reads (d := (0 : Int)) (h1 := fun _ => rfl) hr0) hc0 (wfs_of l0 hw0) ha
end Go.Proofs.Ytbchpnhlaknhjaa.Q
