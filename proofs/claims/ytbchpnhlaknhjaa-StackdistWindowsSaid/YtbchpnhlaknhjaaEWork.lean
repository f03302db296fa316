/-
  The contract of stackdist.Working: what Sd.wk says. Condition: the numbers are of the kind int.
-/
import Derived.Test.YtbchpnhlaknhjaaQ100
import Derived.Test.YtbchpnhlaknhjaaEOpt
namespace Go.Proofs.Ytbchpnhlaknhjaa.Q
open Go.Proofs.Ytbchpnhlaknhjaa.Sd
open Go.RowKit Go.Proofs.YtbchpnhlaknhjaaW.PrintWords Go.Proofs.YtbchpnhlaknhjaaW.PrintLast Go.Proofs.YtbchpnhlaknhjaaW.PrintMore
set_option linter.unusedVariables false
set_option linter.unusedSimpArgs false

/-- The counts lie between 0 and b; the keys are of the kind int. -/
def Cnts (b : Int) (S : List (Int × Int)) : Prop := Keys S ∧ ∀ p ∈ S, -b ≤ p.2 ∧ p.2 ≤ b
theorem Cnts.get {b : Int} {S : List (Int × Int)} (h : Cnts b S) (hb : 0 ≤ b) (k : Int) : -b ≤ (lku S k).getD 0 ∧ (lku S k).getD 0 ≤ b := by
  cases hq : lku S k with
  | none => simp; omega
  | some c => exact h.2 _ (get_some_mem hq)
theorem Cnts.ins {b k c : Int} {S : List (Int × Int)} (h : Cnts b S) (hk : -9223372036854775808 ≤ k ∧ k ≤ 9223372036854775807) (hc : -b ≤ c ∧ c ≤ b) : Cnts b (ins S k c) :=
  ⟨h.1.ins hk, fun p hp => by
    rcases List.mem_cons.1 hp with rfl | hp
    · exact hc
    · exact h.2 p (List.mem_filter.1 hp).1⟩
theorem Cnts.rmv {b k : Int} {S : List (Int × Int)} (h : Cnts b S) : Cnts b (rmv S k) := ⟨h.1.rmv, fun p hp => h.2 p (List.mem_filter.1 hp).1⟩
theorem Cnts.mono {b b' : Int} {S : List (Int × Int)} (h : Cnts b S) (hb : b ≤ b') : Cnts b' S := ⟨h.1, fun p hp => by have := h.2 p hp; omega⟩

theorem wk_next {l0 : List Int} {a1 i : Int} {S : List (Int × Int)} {out R : List Int} (h0 : 0 ≤ i) (hi : i < l0.length) (h : (((idx l0).drop i.toNat).foldl (wkStep l0 a1) (S, out)).2 = R) :
    (((idx l0).drop (i + 1).toNat).foldl (wkStep l0 a1) (wkStep l0 a1 (S, out) (i, rd l0 i))).2 = R := by
  rw [idx_drop (show i.toNat < l0.length by omega), List.foldl_cons] at h
  rw [toNat_succ h0]
  have e : ((i.toNat : Nat) : Int) = i := by omega
  rw [e] at h
  exact h

theorem row_set {out : List Int} {n i : Nat} {v : Int} (h : out.length = i) (hi : i < n) : (out ++ List.replicate (n - i) 0).set i v = (out ++ [v]) ++ List.replicate (n - (i + 1)) 0 := by
  obtain ⟨m, hm⟩ : ∃ m, n - i = m + 1 := ⟨n - i - 1, by omega⟩
  rw [hm, show n - (i + 1) = m by omega, List.replicate_succ, List.set_append, if_neg (by omega), show i - out.length = 0 by omega]
  simp
theorem gate_upd {P : Program} {ops : Array Oper} {rest : List Oper} {o : Oper} {a : Act} {Q : Exit → Act → World → Prop} {W : World} {t : TypeId} {x y z : Tmp} (_ho : o.op = .mapUpdate t (.tmp x) (.tmp y) (.tmp z)) (h : wpList P ops Q (o :: rest) a W) : wpList P ops Q (o :: rest) a W := h

def stackdist_Working.f (l0 : List Int) (a1 : Int) : Option (List Int × Int) := if wfs l0 then (stackdist_request.f l0 a1).bind fun t => if t = 0 then some (wk l0 a1, 0) else some ([], t) else none
set_option maxHeartbeats 4000000 in
set_option maxRecDepth 100000 in
theorem stackdist_Working.calls (A0 : Option Addr) (c0 : Nat) (l0 : List Int) (a1 : Int) (r1 : List Int) (r2 : Int) (w : World) (hr0 : Kd.C (Kd.int .i64) w A0 l0.length l0) (hc0 : l0.length ≤ c0) (h : stackdist_Working.f l0 a1 = some (r1, r2)) :
    Calls Try.prog 28 #[.slice A0 l0.length c0, .int .i64 a1] w fun e w' => ∃ v0_ : Value, e = .returned (.tuple #[v0_, .int .i64 r2]) ∧ Kd.R (Kd.int .i64) 3 w' w.heap.size (fun _ => True) v0_ r1 ∧ Below w.heap.size w w' := by
  unfold stackdist_Working.f at h
  split at h
  case isFalse => cases h
  rename_i hwf
  obtain ⟨t, ht, h⟩ := Option.bind_eq_some_iff.mp h
  have HWF := Aside0.mk hwf
  have A3 := Aside0.mk ht
  have HR0 := Aside0.mk hr0
  have HC0 := Aside0.mk hc0
  clear hr0 hc0 hwf
  have HB := Aside0.mk (Below.refl w.heap.size w)
  by_cases c4 : t = 0
  · subst c4
    rw [if_pos rfl] at h
    simp only [Option.some.injEq, Prod.mk.injEq] at h
    obtain ⟨rfl, rfl⟩ := h
    obtain ⟨hlen, ha0, ha1⟩ := request_ok ht
    clear ht
    (try clear h)
    have hmm := @run_makeMap Try.prog
    go_enter Try.func28, Try.ntmps28
    go_wp2_with (first | ((with_reducible refine gate_callee (f := 39) rfl ?_); refine goesL_ (some 14) rfl rfl Try.func39 (by kernel_rfl) rfl #[.slice A0 l0.length c0, .int .i64 a1] rfl (by (try simp only [List.map_toArray, List.map_cons, List.map_nil]); first | done | rfl) ?_; (with_reducible refine (stackdist_request.calls _ _ l0 a1 0 _ ?side1 ?side2 A3.out).mono ?_); (case side1 => repeat (first | exact HR0.out | (with_reducible refine Kd.C_alloc ?_ _) | (with_reducible refine Kd.C_drewN ?_ _) | (with_reducible refine Kd.C_drew ?_))); (case side2 => exact HC0.out); rintro e w' ⟨rfl, ⟨nd, rfl⟩⟩; refine ⟨_, rfl, ?_⟩) | ((with_reducible refine gate_dst (N := 20) rfl ?_); refine Kd.R_make (Kd.int .i64) _ 3 rfl (N := 20) rfl 22 _ _ rfl (l0.length : Int) rfl rfl Try.underlying22 (.int .i64 0) 8 info3 rfl (by decide) (by omega) 0 (ok := fun _ => True) (okp := fun _ => True) rfl (fun _ hk => hk) trivial (by omega) (by omega) (Below.refl _ _) (Nat.le_refl _) ?_; intro v1 w1 ho1 hb hg_ hnew_; clear hg_ hnew_; simp only [Int.toNat_natCast] at ho1; have n0_ := Aside0.mk (Kd.R_lower ho1 (below_size (by repeat (first | (with_reducible first | exact HB.out | apply below_alloc | apply pw_below_drewN | apply below_drew1) | exact HB.out)))); have n1_ := Aside0.mk (below_step (by repeat (first | (with_reducible first | exact HB.out | apply below_alloc | apply pw_below_drewN | apply below_drew1) | exact HB.out)) hb); clear HB; have HO := n0_; have HB := n1_; clear n0_ n1_ hb ho1))
    have HSZ1 := Aside0.mk HB.out.size
    go_loopg [24] l0.length (fun kq v24 w' => ∃ (i : Int) (S : List (Int × Int)) (out lv : List Int), v24 = .int .i64 i ∧ 0 ≤ i ∧ i ≤ l0.length ∧ Aside0 (i = l0.length - kq) ∧ Aside0 (out.length = i.toNat) ∧
        Aside0 ((((idx l0).drop i.toNat).foldl (wkStep l0 a1) (S, out)).2 = wk l0 a1) ∧ Aside0 (OM Try.prog 3 3 w' w1.heap.size (2 * i.toNat) S) ∧ Aside0 (Cnts (2 * i) S) ∧
        Aside0 (lv = (out ++ List.replicate (l0.length - out.length) 0)) ∧ Aside0 (Kd.R (Kd.int .i64) 3 w' w.heap.size (fun _ => True) v1 lv) ∧ Aside0 (Below w.heap.size w w'))
    case atStart => exact ⟨0, [], [], _, rfl, by omega, by omega, ⟨by omega⟩, ⟨rfl⟩, ⟨rfl⟩, ⟨OM.made _ _ _ _⟩, ⟨⟨fun p hp => by simp at hp, fun p hp => by simp at hp⟩⟩, ⟨rfl⟩, ⟨Kd.R_alloc HO.out _⟩, ⟨below_alloc HB.out _⟩⟩
    case round =>
      clear HO HB
      obtain ⟨i, S, out, lv, rfl, hi0, hil, HI, HOL, HF, HM, HN, HLV, HO, HB⟩ := hrel
      by_cases hlt : i < l0.length
      · have c0 : decide (i < (l0.length : Int)) = true := decide_eq_true hlt
        obtain ⟨ad, e, hx⟩ := Kd.at_int HR0.out i hi0 hlt
        cases e
        replace hx := (HB.out.cell (World.block_lt_of_cell? w _ hx)).trans hx
        have HRL : Aside0 (lv.length = l0.length) := ⟨by have := HOL.out; rw [HLV.out]; simp; omega⟩
        obtain ⟨g, cp, rfl, gb, gl, cl, hgc⟩ := Kd.R_form HO.out (by have := HRL.out; omega)
        have HGB := Aside0.mk gb
        clear gb gl hgc
        have HF2 := Aside0.mk (wk_next hi0 hlt HF.out)
        obtain ⟨cv, hcv⟩ : ∃ cv, cv = (lku S (rd l0 i)).getD 0 := ⟨_, rfl⟩
        have hcvb := HN.out.get (by omega) (rd l0 i)
        rw [← hcv] at hcvb
        have HCV := Aside0.mk hcv
        clear hcv
        obtain ⟨hcv1, hcv2⟩ := hcvb
        obtain ⟨S1, hS1⟩ : ∃ S1, S1 = ins S (rd l0 i) (cv + 1) := ⟨_, rfl⟩
        have HN1 : Aside0 (Cnts (2 * i + 1) S1) := ⟨by rw [hS1]; exact (HN.out.mono (by omega)).ins (wfs_getD HWF.out _) (by omega)⟩
        have HS1 := Aside0.mk hS1
        clear hS1
        have hiN : i < ((lv.length : Nat) : Int) := by have := HRL.out; omega
        by_cases hold : 0 ≤ i - a1
        · obtain ⟨od, hod⟩ : ∃ od, i - a1 = od := ⟨_, rfl⟩
          have HOD := Aside0.mk hod
          have hod0 : 0 ≤ od := by omega
          have hod1 : od < l0.length := by omega
          clear hold
          have cold : decide (0 ≤ od) = true := decide_eq_true hod0
          obtain ⟨ad2, e2, hx2⟩ := Kd.at_int HR0.out od hod0 hod1
          injection e2 with e2
          subst e2
          have HX2 := Aside0.mk hx2
          replace hx2 := (HB.out.cell (World.block_lt_of_cell? w _ hx2)).trans hx2
          obtain ⟨c2, hc2⟩ : ∃ c2, c2 = (lku S1 (rd l0 od)).getD 0 := ⟨_, rfl⟩
          have hcb2 := HN1.out.get (by omega) (rd l0 od)
          rw [← hc2] at hcb2
          have HC2 := Aside0.mk hc2
          clear hc2
          obtain ⟨hcb21, hcb22⟩ := hcb2
          obtain ⟨S2, hS2⟩ : ∃ S2, S2 = ins S1 (rd l0 od) (c2 - 1) := ⟨_, rfl⟩
          have HN2 : Aside0 (Cnts (2 * (i + 1)) S2) := ⟨by rw [hS2]; exact (HN1.out.mono (by omega)).ins (wfs_getD HWF.out _) (by omega)⟩
          have HS2 := Aside0.mk hS2
          clear hS2
          obtain ⟨c3, hc3⟩ : ∃ c3, c3 = (lku S2 (rd l0 od)).getD 0 := ⟨_, rfl⟩
          have HC3 := Aside0.mk hc3
          clear hc3
          by_cases h30 : c3 = 0
          · have c30 : (c3 == 0) = true := beq_iff_eq.mpr h30
            have H30 := Aside0.mk h30
            clear h30
            obtain ⟨S3, hS3⟩ : ∃ S3, S3 = rmv S2 (rd l0 od) := ⟨_, rfl⟩
            have HN3 : Aside0 (Cnts (2 * (i + 1)) S3) := ⟨by rw [hS3]; exact HN2.out.rmv⟩
            have HS3 := Aside0.mk hS3
            clear hS3
            go_wp2_with (first | ((with_reducible refine gate_dst (N := 31) rfl ?_); at_lookup; refine wp_look rfl _ _ 48 rfl 3 3 Try.underlying48 Try.underlying3 Try.underlying3 (zero3 _) w1.heap.size _ S rfl HM.out (rd l0 i) rfl (wf_rd HWF.out _) ?_; rw [← HCV.out]) | ((with_reducible refine gate_upd (x := 29) (y := 30) (z := 32) rfl ?_); refine wp_ins rfl _ _ _ 48 rfl 3 3 Try.underlying48 Try.underlying3 Try.underlying3 w1.heap.size _ S rfl HM.out (by omega) (rd l0 i) (cv + 1) rfl rfl (wf_rd HWF.out _) (wf_of _ (by omega)) ?_; intro w4 hm4 hg4; rw [← HS1.out] at hm4; obtain ⟨es4, cl4, hmm4⟩ := HM.out.at_map; have ho4 := Kd.R_mapped HO.out hmm4 hg4; have hb4 := below_map HB.out HSZ1.out HB.out.size hg4; clear HO HB HM; (try clear hx); (try clear hx2); have HO := Aside0.mk ho4; have HB := Aside0.mk hb4; have HM := Aside0.mk hm4; clear hm4 hg4 hmm4 ho4 hb4; have hx2 := (HB.out.cell (World.block_lt_of_cell? w _ HX2.out)).trans HX2.out) | ((with_reducible refine gate_dst (N := 43) rfl ?_); at_lookup; refine wp_look rfl _ _ 48 rfl 3 3 Try.underlying48 Try.underlying3 Try.underlying3 (zero3 _) w1.heap.size _ S1 rfl HM.out (rd l0 od) rfl (wf_rd HWF.out _) ?_; rw [← HC2.out]) | ((with_reducible refine gate_upd (x := 38) (y := 42) (z := 44) rfl ?_); refine wp_ins rfl _ _ _ 48 rfl 3 3 Try.underlying48 Try.underlying3 Try.underlying3 w1.heap.size _ S1 rfl HM.out (by omega) (rd l0 od) (c2 - 1) rfl rfl (wf_rd HWF.out _) (wf_of _ (by omega)) ?_; intro w4 hm4 hg4; rw [← HS2.out] at hm4; obtain ⟨es4, cl4, hmm4⟩ := HM.out.at_map; have ho4 := Kd.R_mapped HO.out hmm4 hg4; have hb4 := below_map HB.out HSZ1.out HB.out.size hg4; clear HO HB HM; (try clear hx); (try clear hx2); have HO := Aside0.mk ho4; have HB := Aside0.mk hb4; have HM := Aside0.mk hm4; clear hm4 hg4 hmm4 ho4 hb4; have hx2 := (HB.out.cell (World.block_lt_of_cell? w _ HX2.out)).trans HX2.out) | ((with_reducible refine gate_dst (N := 50) rfl ?_); at_lookup; refine wp_look rfl _ _ 48 rfl 3 3 Try.underlying48 Try.underlying3 Try.underlying3 (zero3 _) w1.heap.size _ S2 rfl HM.out (rd l0 od) rfl (wf_rd HWF.out _) ?_; rw [← HC3.out]) | (at_delete; refine wp_rmv rfl _ _ 48 3 rfl 3 Try.underlying48 Try.underlying3 w1.heap.size _ S2 rfl HM.out (rd l0 od) rfl (wf_rd HWF.out _) ?_; intro w4 hm4 hg4; rw [← HS3.out] at hm4; obtain ⟨es4, cl4, hmm4⟩ := HM.out.at_map; have ho4 := Kd.R_mapped HO.out hmm4 hg4; have hb4 := below_map HB.out HSZ1.out HB.out.size hg4; clear HO HB HM; (try clear hx2); have HO := Aside0.mk ho4; have HB := Aside0.mk hb4; have HM := Aside0.mk hm4; clear hm4 hg4 hmm4 ho4 hb4) | ((with_reducible refine gate_dst (N := 60) rfl ?_); at_len; refine wp_len rfl _ 48 rfl 3 3 Try.underlying48 w1.heap.size _ S3 rfl HM.out ?_; obtain ⟨hc1, hf1⟩ := Kd.R_celln 0 HO.out i hi0 hiN) | ((with_reducible refine gate_store (t := 3) (p := 61) rfl ?_); have HP := Kd.R_putg HO.out i (S3.length : Int); refine store_event (t := 3) (p := 61) (v := ?vo) (w1 := (w4.setCell ⟨g, i.toNat, none⟩ (.int .i64 (S3.length : Int)))) ?hg ?ho ?hn ?hr ?_; (case ho => rfl); (case hg => rfl); (case hn => rfl); (case hr => first | (go_simp; done) | (go_simp; rfl)); intro w9 hw; have hg : w4.grownBy w9 (some g) := (by rw [hw]; exact HP.2); have ho9 : Kd.R (Kd.int .i64) 3 w9 w.heap.size (fun _ => True) (.slice (some ⟨g, 0, none⟩) lv.length cp) (lv.set i.toNat (S3.length : Int)) := (by rw [hw]; exact HP.1); have hb9 : Below w.heap.size w w9 := (by rw [hw]; exact below_set HB.out HGB.out); obtain ⟨es9, cl9, hmm9⟩ := HM.out.at_map; have hne9 := Kd.R_apart_map HO.out hmm9; have hm9 := HM.out.kept hg (fun h => hne9 h); clear HO HB HM HP hmm9 hne9 hw hg hc1 hf1; have HO := Aside0.mk ho9; have HB := Aside0.mk hb9; have HM := Aside0.mk hm9; clear ho9 hm9 hb9))
            go_roundg (gk - 1)
            case measure => have := HI.out; omega
            case rel =>
              refine ⟨i + 1, S3, out ++ [(S3.length : Int)], lv.set i.toNat (S3.length : Int), rfl, by omega, by omega, ⟨by have := HI.out; omega⟩, ⟨by rw [List.length_append, HOL.out, toNat_succ hi0]; rfl⟩, ⟨?_⟩, ⟨HM.out.mono (by omega)⟩, ⟨HN3.out⟩, ⟨?_⟩, ⟨HO.out⟩, ⟨HB.out⟩⟩
              · have h := HF2.out
                simp only [wkStep] at h
                rw [show l0.getD (i - a1).toNat 0 = rd l0 od from by rw [HOD.out]; rfl, ← HCV.out, ← HS1.out, if_pos (show 0 ≤ i - a1 by have := HOD.out; omega), ← HC2.out, ← HS2.out, ← HC3.out, if_pos H30.out, ← HS3.out] at h
                exact h
              · rw [HLV.out, HOL.out, row_set HOL.out (by omega), List.length_append, HOL.out]
                rfl
          · have c30 : (c3 == 0) = false := beq_eq_false_iff_ne.mpr h30
            have H30 := Aside0.mk h30
            clear h30
            go_wp2_with (first | ((with_reducible refine gate_dst (N := 31) rfl ?_); at_lookup; refine wp_look rfl _ _ 48 rfl 3 3 Try.underlying48 Try.underlying3 Try.underlying3 (zero3 _) w1.heap.size _ S rfl HM.out (rd l0 i) rfl (wf_rd HWF.out _) ?_; rw [← HCV.out]) | ((with_reducible refine gate_upd (x := 29) (y := 30) (z := 32) rfl ?_); refine wp_ins rfl _ _ _ 48 rfl 3 3 Try.underlying48 Try.underlying3 Try.underlying3 w1.heap.size _ S rfl HM.out (by omega) (rd l0 i) (cv + 1) rfl rfl (wf_rd HWF.out _) (wf_of _ (by omega)) ?_; intro w4 hm4 hg4; rw [← HS1.out] at hm4; obtain ⟨es4, cl4, hmm4⟩ := HM.out.at_map; have ho4 := Kd.R_mapped HO.out hmm4 hg4; have hb4 := below_map HB.out HSZ1.out HB.out.size hg4; clear HO HB HM; (try clear hx); (try clear hx2); have HO := Aside0.mk ho4; have HB := Aside0.mk hb4; have HM := Aside0.mk hm4; clear hm4 hg4 hmm4 ho4 hb4; have hx2 := (HB.out.cell (World.block_lt_of_cell? w _ HX2.out)).trans HX2.out) | ((with_reducible refine gate_dst (N := 43) rfl ?_); at_lookup; refine wp_look rfl _ _ 48 rfl 3 3 Try.underlying48 Try.underlying3 Try.underlying3 (zero3 _) w1.heap.size _ S1 rfl HM.out (rd l0 od) rfl (wf_rd HWF.out _) ?_; rw [← HC2.out]) | ((with_reducible refine gate_upd (x := 38) (y := 42) (z := 44) rfl ?_); refine wp_ins rfl _ _ _ 48 rfl 3 3 Try.underlying48 Try.underlying3 Try.underlying3 w1.heap.size _ S1 rfl HM.out (by omega) (rd l0 od) (c2 - 1) rfl rfl (wf_rd HWF.out _) (wf_of _ (by omega)) ?_; intro w4 hm4 hg4; rw [← HS2.out] at hm4; obtain ⟨es4, cl4, hmm4⟩ := HM.out.at_map; have ho4 := Kd.R_mapped HO.out hmm4 hg4; have hb4 := below_map HB.out HSZ1.out HB.out.size hg4; clear HO HB HM; (try clear hx); (try clear hx2); have HO := Aside0.mk ho4; have HB := Aside0.mk hb4; have HM := Aside0.mk hm4; clear hm4 hg4 hmm4 ho4 hb4; have hx2 := (HB.out.cell (World.block_lt_of_cell? w _ HX2.out)).trans HX2.out) | ((with_reducible refine gate_dst (N := 50) rfl ?_); at_lookup; refine wp_look rfl _ _ 48 rfl 3 3 Try.underlying48 Try.underlying3 Try.underlying3 (zero3 _) w1.heap.size _ S2 rfl HM.out (rd l0 od) rfl (wf_rd HWF.out _) ?_; rw [← HC3.out]) | ((with_reducible refine gate_dst (N := 60) rfl ?_); at_len; refine wp_len rfl _ 48 rfl 3 3 Try.underlying48 w1.heap.size _ S2 rfl HM.out ?_; obtain ⟨hc1, hf1⟩ := Kd.R_celln 0 HO.out i hi0 hiN) | ((with_reducible refine gate_store (t := 3) (p := 61) rfl ?_); have HP := Kd.R_putg HO.out i (S2.length : Int); refine store_event (t := 3) (p := 61) (v := ?vo) (w1 := (w4.setCell ⟨g, i.toNat, none⟩ (.int .i64 (S2.length : Int)))) ?hg ?ho ?hn ?hr ?_; (case ho => rfl); (case hg => rfl); (case hn => rfl); (case hr => first | (go_simp; done) | (go_simp; rfl)); intro w9 hw; have hg : w4.grownBy w9 (some g) := (by rw [hw]; exact HP.2); have ho9 : Kd.R (Kd.int .i64) 3 w9 w.heap.size (fun _ => True) (.slice (some ⟨g, 0, none⟩) lv.length cp) (lv.set i.toNat (S2.length : Int)) := (by rw [hw]; exact HP.1); have hb9 : Below w.heap.size w w9 := (by rw [hw]; exact below_set HB.out HGB.out); obtain ⟨es9, cl9, hmm9⟩ := HM.out.at_map; have hne9 := Kd.R_apart_map HO.out hmm9; have hm9 := HM.out.kept hg (fun h => hne9 h); clear HO HB HM HP hmm9 hne9 hw hg hc1 hf1; have HO := Aside0.mk ho9; have HB := Aside0.mk hb9; have HM := Aside0.mk hm9; clear ho9 hm9 hb9))
            go_roundg (gk - 1)
            case measure => have := HI.out; omega
            case rel =>
              refine ⟨i + 1, S2, out ++ [(S2.length : Int)], lv.set i.toNat (S2.length : Int), rfl, by omega, by omega, ⟨by have := HI.out; omega⟩, ⟨by rw [List.length_append, HOL.out, toNat_succ hi0]; rfl⟩, ⟨?_⟩, ⟨HM.out.mono (by omega)⟩, ⟨HN2.out⟩, ⟨?_⟩, ⟨HO.out⟩, ⟨HB.out⟩⟩
              · have h := HF2.out
                simp only [wkStep] at h
                rw [show l0.getD (i - a1).toNat 0 = rd l0 od from by rw [HOD.out]; rfl, ← HCV.out, ← HS1.out, if_pos (show 0 ≤ i - a1 by have := HOD.out; omega), ← HC2.out, ← HS2.out, ← HC3.out, if_neg H30.out] at h
                exact h
              · rw [HLV.out, HOL.out, row_set HOL.out (by omega), List.length_append, HOL.out]
                rfl
        · have cold : decide (0 ≤ i - a1) = false := decide_eq_false hold
          go_wp2_with (first | ((with_reducible refine gate_dst (N := 31) rfl ?_); at_lookup; refine wp_look rfl _ _ 48 rfl 3 3 Try.underlying48 Try.underlying3 Try.underlying3 (zero3 _) w1.heap.size _ S rfl HM.out (rd l0 i) rfl (wf_rd HWF.out _) ?_; rw [← HCV.out]) | ((with_reducible refine gate_upd (x := 29) (y := 30) (z := 32) rfl ?_); refine wp_ins rfl _ _ _ 48 rfl 3 3 Try.underlying48 Try.underlying3 Try.underlying3 w1.heap.size _ S rfl HM.out (by omega) (rd l0 i) (cv + 1) rfl rfl (wf_rd HWF.out _) (wf_of _ (by omega)) ?_; intro w4 hm4 hg4; rw [← HS1.out] at hm4; obtain ⟨es4, cl4, hmm4⟩ := HM.out.at_map; have ho4 := Kd.R_mapped HO.out hmm4 hg4; have hb4 := below_map HB.out HSZ1.out HB.out.size hg4; clear HO HB HM; (try clear hx); (try clear hx2); have HO := Aside0.mk ho4; have HB := Aside0.mk hb4; have HM := Aside0.mk hm4; clear hm4 hg4 hmm4 ho4 hb4; skip) | ((with_reducible refine gate_dst (N := 60) rfl ?_); at_len; refine wp_len rfl _ 48 rfl 3 3 Try.underlying48 w1.heap.size _ S1 rfl HM.out ?_; obtain ⟨hc1, hf1⟩ := Kd.R_celln 0 HO.out i hi0 hiN) | ((with_reducible refine gate_store (t := 3) (p := 61) rfl ?_); have HP := Kd.R_putg HO.out i (S1.length : Int); refine store_event (t := 3) (p := 61) (v := ?vo) (w1 := (w4.setCell ⟨g, i.toNat, none⟩ (.int .i64 (S1.length : Int)))) ?hg ?ho ?hn ?hr ?_; (case ho => rfl); (case hg => rfl); (case hn => rfl); (case hr => first | (go_simp; done) | (go_simp; rfl)); intro w9 hw; have hg : w4.grownBy w9 (some g) := (by rw [hw]; exact HP.2); have ho9 : Kd.R (Kd.int .i64) 3 w9 w.heap.size (fun _ => True) (.slice (some ⟨g, 0, none⟩) lv.length cp) (lv.set i.toNat (S1.length : Int)) := (by rw [hw]; exact HP.1); have hb9 : Below w.heap.size w w9 := (by rw [hw]; exact below_set HB.out HGB.out); obtain ⟨es9, cl9, hmm9⟩ := HM.out.at_map; have hne9 := Kd.R_apart_map HO.out hmm9; have hm9 := HM.out.kept hg (fun h => hne9 h); clear HO HB HM HP hmm9 hne9 hw hg hc1 hf1; have HO := Aside0.mk ho9; have HB := Aside0.mk hb9; have HM := Aside0.mk hm9; clear ho9 hm9 hb9))
          go_roundg (gk - 1)
          case measure => have := HI.out; omega
          case rel =>
            refine ⟨i + 1, S1, out ++ [(S1.length : Int)], lv.set i.toNat (S1.length : Int), rfl, by omega, by omega, ⟨by have := HI.out; omega⟩, ⟨by rw [List.length_append, HOL.out, toNat_succ hi0]; rfl⟩, ⟨?_⟩, ⟨HM.out.mono (by omega)⟩, ⟨HN1.out.mono (by omega)⟩, ⟨?_⟩, ⟨HO.out⟩, ⟨HB.out⟩⟩
            · have h := HF2.out
              simp only [wkStep] at h
              rw [← HCV.out, ← HS1.out, if_neg (show ¬ 0 ≤ i - a1 by omega)] at h
              exact h
            · rw [HLV.out, HOL.out, row_set HOL.out (by omega), List.length_append, HOL.out]
              rfl
      · have c0 : decide (i < (l0.length : Int)) = false := decide_eq_false hlt
        go_wp2
        go_ret2
        refine ⟨_, rfl, ?_, by repeat (first | (with_reducible first | exact HB.out | apply below_alloc | apply pw_below_drewN | apply below_drew1) | exact HB.out)⟩
        have h := HF.out
        rw [List.drop_eq_nil_of_le (by rw [idx_length]; omega)] at h
        simp only [List.foldl_nil] at h
        have h2 := HO.out
        rw [HLV.out, show l0.length - out.length = 0 by have := HOL.out; omega] at h2
        simp only [List.replicate_zero, List.append_nil] at h2
        rw [← h]
        exact h2
  · rw [if_neg c4] at h
    have c4b0 : (t == 0) = false := beq_eq_false_iff_ne.mpr c4
    have c4b1 : (t != 0) = true := bne_iff_ne.mpr c4
    simp only [Option.some.injEq, Prod.mk.injEq] at h
    obtain ⟨rfl, rfl⟩ := h
    go_enter Try.func28, Try.ntmps28
    go_wp2_with (first | ((with_reducible refine gate_callee (f := 39) rfl ?_); refine goesL_ (some 14) rfl rfl Try.func39 (by kernel_rfl) rfl #[.slice A0 l0.length c0, .int .i64 a1] rfl (by (try simp only [List.map_toArray, List.map_cons, List.map_nil]); first | done | rfl) ?_; (with_reducible refine (stackdist_request.calls _ _ l0 a1 t _ ?side1 ?side2 A3.out).mono ?_); (case side1 => repeat (first | exact HR0.out | (with_reducible refine Kd.C_alloc ?_ _) | (with_reducible refine Kd.C_drewN ?_ _) | (with_reducible refine Kd.C_drew ?_))); (case side2 => exact HC0.out); rintro e w' ⟨rfl, ⟨nd, rfl⟩⟩; refine ⟨_, rfl, ?_⟩))
    go_ret2
    exact ⟨_, rfl, Kd.R_nil _ _ _ _ _, by repeat (first | (with_reducible first | exact HB.out | apply below_alloc | apply pw_below_drewN | apply below_drew1) | exact HB.out)⟩
end Go.Proofs.Ytbchpnhlaknhjaa.Q
