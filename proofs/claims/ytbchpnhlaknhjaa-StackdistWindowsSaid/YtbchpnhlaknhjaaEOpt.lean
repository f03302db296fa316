/-
  The contracts of stackdist.following and stackdist.Optimal: what Sd.fol and Sd.opt say. Conditions: the numbers are of the kind int (following: fewer than 100000).
-/
import Derived.Test.YtbchpnhlaknhjaaQ100
import Derived.Test.YtbchpnhlaknhjaaEMapOps
namespace Go.Proofs.Ytbchpnhlaknhjaa.Q
open Go.Proofs.Ytbchpnhlaknhjaa.Sd
open Go.RowKit Go.Proofs.YtbchpnhlaknhjaaW.PrintWords Go.Proofs.YtbchpnhlaknhjaaW.PrintLast Go.Proofs.YtbchpnhlaknhjaaW.PrintMore
set_option linter.unusedVariables false
set_option linter.unusedSimpArgs false

theorem zero3 (w : World) : (zeroValue 3).run Try.prog w = .ok (.int .i64 0) w := by kernel_rfl
theorem wf_rd {l : List Int} (h : wfs l) (i : Int) : (Lit.int .i64 (rd l i)).wf = true := wf_of _ (wfs_getD h _)

theorem fol_next {l0 : List Int} {m : List (Int × Int)} {lst R : List Int} {k1 : Nat} {i : Int} (hi : i = (k1 : Int)) (hk : k1 < l0.length)
    (h : (((idx l0).take (k1 + 1)).reverse.foldl (folStep l0.length) (m, lst)).2 = R) :
    (((idx l0).take k1).reverse.foldl (folStep l0.length) (ins m (rd l0 i) i, lst.set i.toNat ((lku m (rd l0 i)).getD l0.length))).2 = R := by
  subst hi
  rw [idx_take hk, List.foldl_cons] at h
  exact h

def stackdist_following.f (l0 : List Int) : Option (List Int) := if wfs l0 ∧ l0.length < 100000 then some (fol l0) else none
set_option maxHeartbeats 4000000 in
set_option maxRecDepth 100000 in
theorem stackdist_following.calls (A0 : Option Addr) (c0 : Nat) (l0 : List Int) (r : List Int) (w : World) (hr0 : Kd.C (Kd.int .i64) w A0 l0.length l0) (hc0 : l0.length ≤ c0) (h : stackdist_following.f l0 = some r) :
    Calls Try.prog 45 #[.slice A0 l0.length c0] w fun e w' => ∃ v0_ : Value, e = .returned (v0_) ∧ Kd.R (Kd.int .i64) 3 w' w.heap.size (fun _ => True) v0_ r ∧ Below w.heap.size w w' := by
  unfold stackdist_following.f at h
  split at h
  · rename_i hh
    obtain rfl := Option.some.inj h
    have HWF := Aside0.mk hh.1
    have hlen : l0.length ≤ 100000 := Nat.le_of_lt hh.2
    have HR0 := Aside0.mk hr0
    have HC0 := Aside0.mk hc0
    clear hr0 hc0 h hh
    have HB := Aside0.mk (Below.refl w.heap.size w)
    have hmm := @run_makeMap Try.prog
    go_enter Try.func45, Try.ntmps45
    go_wp2_with (first | ((with_reducible refine gate_dst (N := 10) rfl ?_); refine Kd.R_make (Kd.int .i64) _ 3 rfl (N := 10) rfl 22 _ _ rfl (l0.length : Int) rfl rfl Try.underlying22 (.int .i64 0) 8 info3 rfl (by decide) (by omega) 0 (ok := fun _ => True) (okp := fun _ => True) rfl (fun _ hk => hk) trivial (by omega) (by omega) (Below.refl _ _) (Nat.le_refl _) ?_; intro v1 w1 ho1 hb hg_ hnew_; clear hg_ hnew_; simp only [Int.toNat_natCast] at ho1; have HO := Aside0.mk (Kd.R_lower ho1 (Nat.le_refl _)); clear HB; have HB := Aside0.mk hb; clear hb ho1))
    have HSZ := Aside0.mk HB.out.size
    go_loopg [5, 6, 7] l0.length (fun kq v5 v6 v7 w' => ∃ (i : Int) (m : List (Int × Int)) (lst : List Int), v5 = .int .i64 i ∧ Aside0 (i = (kq : Int) - 1) ∧ Aside0 (kq ≤ l0.length) ∧
        Aside0 ((((idx l0).take kq).reverse.foldl (folStep l0.length) (m, lst)).2 = fol l0) ∧ Aside0 (lst.length = l0.length) ∧ Aside0 (OM Try.prog 3 3 w' w1.heap.size (l0.length - kq) m) ∧
        Aside0 (Kd.R (Kd.int .i64) 3 w' w.heap.size (fun _ => True) v1 lst) ∧ Aside0 (Below w.heap.size w w'))
    case atStart => exact ⟨_, [], _, rfl, ⟨rfl⟩, ⟨Nat.le_refl _⟩, ⟨by rw [List.take_of_length_le (by rw [idx_length]; exact Nat.le_refl _)]; rfl⟩, ⟨by simp⟩, ⟨(OM.made _ _ _ _).mono (Nat.zero_le _)⟩, ⟨Kd.R_alloc HO.out _⟩, ⟨below_alloc HB.out _⟩⟩
    case round =>
      clear HO HB
      obtain ⟨i, m, lst, rfl, HI, HK, HF, HLn, HM, HO, HB⟩ := hrel
      cases gk with
      | zero =>
        have c0 : decide (0 ≤ i) = false := decide_eq_false (by have := HI.out; omega)
        go_wp2
        go_ret
        exact ⟨_, rfl, by have := HF.out; simp at this; rw [← this]; exact HO.out, HB.out⟩
      | succ k1 =>
        have hi0 : 0 ≤ i := by have := HI.out; omega
        have hi1 : i < l0.length := by have := HI.out; have := HK.out; omega
        have HIK : Aside0 (i.toNat = k1) := ⟨by have := HI.out; omega⟩
        have c0 : decide (0 ≤ i) = true := decide_eq_true hi0
        obtain ⟨ad, e, hx⟩ := Kd.at_int HR0.out i hi0 hi1
        cases e
        have HX := Aside0.mk hx
        replace hx := (HB.out.cell (World.block_lt_of_cell? w _ hx)).trans hx
        obtain ⟨g, cp, rfl, gb, gl, cl, hgc⟩ := Kd.R_form HO.out (by have := HLn.out; omega)
        have HGB := Aside0.mk gb
        have hiN : i < ((lst.length : Nat) : Int) := by have := HLn.out; omega
        obtain ⟨hc1, hf1⟩ := Kd.R_celln 0 HO.out i hi0 hiN
        cases hq : lku m (rd l0 i) with
        | none =>
          have HP := Kd.R_putg HO.out i ((l0.length : Int))
          go_wp2_with (first | ((with_reducible refine gate_dst (N := 25) rfl ?_); at_lookup; refine wp_look_ok rfl _ _ 48 rfl 3 3 Try.underlying48 Try.underlying3 Try.underlying3 (zero3 _) w1.heap.size _ m rfl HM.out (rd l0 i) rfl (wf_rd HWF.out i) ?_) | ((with_reducible refine gate_store (t := 3) (p := 35) rfl ?_); refine store_event (t := 3) (p := 35) (v := ?vo) (w1 := (wr.setCell ⟨g, i.toNat, none⟩ (.int .i64 ((l0.length : Int))))) ?hg ?ho ?hn ?hr ?_; (case ho => rfl); (case hg => rfl); (case hn => rfl); (case hr => first | (go_simp; done) | (go_simp; rfl)); intro w3 hw; have hg : wr.grownBy w3 (some g) := (by rw [hw]; exact HP.2); have hp_ : Kd.R (Kd.int .i64) 3 w3 w.heap.size (fun _ => True) (.slice (some ⟨g, 0, none⟩) lst.length cp) (lst.set i.toNat ((l0.length : Int))) := (by rw [hw]; exact HP.1); have hb_ : Below w.heap.size w w3 := (by rw [hw]; exact below_set HB.out HGB.out); obtain ⟨es, cl2, hmm2⟩ := HM.out.at_map; have hne : some w1.heap.size ≠ some g := (fun h => by have h2 := Kd.R_apart_map HO.out hmm2; exact h2 h); have hm_ := HM.out.kept hg hne; clear HP; have n0_ := Aside0.mk hp_; have n1_ := Aside0.mk hb_; have n2_ := Aside0.mk hm_; clear HO HB HM; have HO := n0_; have HB := n1_; have HM := n2_; clear n0_ n1_ n2_ hg hw hp_ hb_ hm_ hne hmm2 hx hc1 hf1; have hx := (HB.out.cell (World.block_lt_of_cell? w _ HX.out)).trans HX.out) | (at_mapUpdate; refine wp_ins rfl _ _ _ 48 rfl 3 3 Try.underlying48 Try.underlying3 Try.underlying3 w1.heap.size _ m rfl HM.out (by omega) (rd l0 i) i rfl rfl (wf_rd HWF.out i) (wf_of _ (by omega)) ?_; intro w4 hm4 hg4; obtain ⟨es4, cl4, hmm4⟩ := HM.out.at_map; have ho4 := Kd.R_mapped HO.out hmm4 hg4; have hb4 := below_map HB.out HSZ.out HB.out.size hg4; clear HO HB HM hx; have HO := Aside0.mk ho4; have HB := Aside0.mk hb4; have HM := Aside0.mk hm4; clear hm4 hg4 hmm4 ho4 hb4))
          go_roundg k1
          case measure => omega
          case rel => exact ⟨i - 1, ins m (rd l0 i) i, lst.set i.toNat ((l0.length : Int)), rfl, ⟨by have := HI.out; omega⟩, ⟨by have := HK.out; omega⟩, ⟨by have h := fol_next (k1 := k1) (i := i) (by have := HI.out; omega) (by have := HK.out; omega) HF.out; rw [hq] at h; exact h⟩, ⟨by rw [List.length_set]; exact HLn.out⟩, ⟨HM.out.mono (by have := HK.out; omega)⟩, ⟨HO.out⟩, ⟨HB.out⟩⟩
        | some at_ =>
          have HP := Kd.R_putg HO.out i (at_)
          go_wp2_with (first | ((with_reducible refine gate_dst (N := 25) rfl ?_); at_lookup; refine wp_look_ok rfl _ _ 48 rfl 3 3 Try.underlying48 Try.underlying3 Try.underlying3 (zero3 _) w1.heap.size _ m rfl HM.out (rd l0 i) rfl (wf_rd HWF.out i) ?_) | ((with_reducible refine gate_store (t := 3) (p := 35) rfl ?_); refine store_event (t := 3) (p := 35) (v := ?vo) (w1 := (wr.setCell ⟨g, i.toNat, none⟩ (.int .i64 (at_)))) ?hg ?ho ?hn ?hr ?_; (case ho => rfl); (case hg => rfl); (case hn => rfl); (case hr => first | (go_simp; done) | (go_simp; rfl)); intro w3 hw; have hg : wr.grownBy w3 (some g) := (by rw [hw]; exact HP.2); have hp_ : Kd.R (Kd.int .i64) 3 w3 w.heap.size (fun _ => True) (.slice (some ⟨g, 0, none⟩) lst.length cp) (lst.set i.toNat (at_)) := (by rw [hw]; exact HP.1); have hb_ : Below w.heap.size w w3 := (by rw [hw]; exact below_set HB.out HGB.out); obtain ⟨es, cl2, hmm2⟩ := HM.out.at_map; have hne : some w1.heap.size ≠ some g := (fun h => by have h2 := Kd.R_apart_map HO.out hmm2; exact h2 h); have hm_ := HM.out.kept hg hne; clear HP; have n0_ := Aside0.mk hp_; have n1_ := Aside0.mk hb_; have n2_ := Aside0.mk hm_; clear HO HB HM; have HO := n0_; have HB := n1_; have HM := n2_; clear n0_ n1_ n2_ hg hw hp_ hb_ hm_ hne hmm2 hx hc1 hf1; have hx := (HB.out.cell (World.block_lt_of_cell? w _ HX.out)).trans HX.out) | (at_mapUpdate; refine wp_ins rfl _ _ _ 48 rfl 3 3 Try.underlying48 Try.underlying3 Try.underlying3 w1.heap.size _ m rfl HM.out (by omega) (rd l0 i) i rfl rfl (wf_rd HWF.out i) (wf_of _ (by omega)) ?_; intro w4 hm4 hg4; obtain ⟨es4, cl4, hmm4⟩ := HM.out.at_map; have ho4 := Kd.R_mapped HO.out hmm4 hg4; have hb4 := below_map HB.out HSZ.out HB.out.size hg4; clear HO HB HM hx; have HO := Aside0.mk ho4; have HB := Aside0.mk hb4; have HM := Aside0.mk hm4; clear hm4 hg4 hmm4 ho4 hb4))
          go_roundg k1
          case measure => omega
          case rel => exact ⟨i - 1, ins m (rd l0 i) i, lst.set i.toNat (at_), rfl, ⟨by have := HI.out; omega⟩, ⟨by have := HK.out; omega⟩, ⟨by have h := fol_next (k1 := k1) (i := i) (by have := HI.out; omega) (by have := HK.out; omega) HF.out; rw [hq] at h; exact h⟩, ⟨by rw [List.length_set]; exact HLn.out⟩, ⟨HM.out.mono (by have := HK.out; omega)⟩, ⟨HO.out⟩, ⟨HB.out⟩⟩
  · cases h

/-! ### the victim, in whatever order the map is ranged over -/
theorem better_comm (r : Int) (cur p q : Int × Int) : better r (better r cur p) q = better r (better r cur q) p := by
  obtain ⟨a, b⟩ := cur
  obtain ⟨p1, p2⟩ := p
  obtain ⟨q1, q2⟩ := q
  simp only [better]
  grind
theorem victim_perm {r : Int} {S T : List (Int × Int)} (h : S.Perm T) (z : Int × Int) : S.foldl (better r) z = T.foldl (better r) z :=
  h.foldl_eq' (fun x _ y _ z => better_comm r z x y) z
def Vis (r : Int) (S : List (Int × Int)) (left : Lit → Bool) (done : List (Int × Int)) (far vic : Int) : Prop :=
  (far, vic) = done.foldl (better r) (-1, r) ∧ done.Nodup ∧ ∀ q, q ∈ done ↔ (q ∈ S ∧ left (ky q.1) = false)
theorem Vis.start {r : Int} {S : List (Int × Int)} {left : Lit → Bool} (h : ∀ q ∈ S, left (ky q.1) = true) : Vis r S left [] (-1) r :=
  ⟨rfl, List.nodup_nil, fun q => ⟨fun hq => by simp at hq, fun hq => by have h1 := h q hq.1; rw [hq.2] at h1; cases h1⟩⟩
theorem Vis.step {r x c far vic : Int} {S done : List (Int × Int)} {left : Lit → Bool} (h : Vis r S left done far vic) (hn : (S.map (·.1)).Nodup) (hx : (x, c) ∈ S) (hl : left (ky x) = true) :
    Vis r S (fun z => left z && !z.sameKey (ky x)) (done ++ [(x, c)]) (better r (far, vic) (x, c)).1 (better r (far, vic) (x, c)).2 := by
  obtain ⟨h1, h2, h3⟩ := h
  refine ⟨by rw [List.foldl_append, ← h1]; rfl, ?_, fun q => ?_⟩
  · rw [List.nodup_append]
    refine ⟨h2, by simp, fun a ha b hb => ?_⟩
    rintro rfl
    simp only [List.mem_singleton] at hb
    subst hb
    have := ((h3 _).1 ha).2
    rw [hl] at this; cases this
  · rw [List.mem_append, List.mem_singleton, h3]
    simp only [ky_same, Bool.and_eq_false_iff, Bool.not_eq_false', beq_iff_eq]
    constructor
    · rintro (⟨a, b⟩ | rfl)
      · exact ⟨a, .inl b⟩
      · exact ⟨hx, .inr rfl⟩
    · rintro ⟨a, b | b⟩
      · exact .inl ⟨a, b⟩
      · refine .inr ?_
        have e1 := mem_get hn hx
        have e2 := mem_get hn (show (q.1, q.2) ∈ S from a)
        rw [b, e1] at e2
        injection e2 with e2
        rw [e2, ← b]
theorem Vis.stop {r far vic : Int} {S done : List (Int × Int)} {left : Lit → Bool} (h : Vis r S left done far vic) (hn : (S.map (·.1)).Nodup) (hl : ∀ kl, left kl = false) : vic = victim r S := by
  obtain ⟨h1, h2, h3⟩ := h
  have hS : S.Nodup := (List.pairwise_map.1 hn).imp (fun {a b} hab e => hab (by rw [e]))
  have hp : done.Perm S := (List.perm_ext_iff_of_nodup h2 hS).2 (fun q => by rw [h3, hl]; simp)
  unfold victim
  rw [← victim_perm hp, ← h1]

def Keys (S : List (Int × Int)) : Prop := ∀ p ∈ S, -9223372036854775808 ≤ p.1 ∧ p.1 ≤ 9223372036854775807
theorem Keys.rmv {S : List (Int × Int)} {k : Int} (h : Keys S) : Keys (rmv S k) := fun p hp => h p (List.mem_filter.1 hp).1
theorem Keys.ins {S : List (Int × Int)} {k c : Int} (h : Keys S) (hk : -9223372036854775808 ≤ k ∧ k ≤ 9223372036854775807) : Keys (ins S k c) := fun p hp => by
  rcases List.mem_cons.1 hp with rfl | hp
  · exact hk
  · exact h.rmv p hp
theorem better_cases (r : Int) (cur p : Int × Int) : (better r cur p).2 = cur.2 ∨ (better r cur p).2 = p.1 := by
  unfold better
  split <;> simp
theorem fold_cases (r : Int) : ∀ (l : List (Int × Int)) (z : Int × Int), (l.foldl (better r) z).2 = z.2 ∨ ∃ p ∈ l, (l.foldl (better r) z).2 = p.1
  | [], z => .inl rfl
  | a :: l, z => by
    rw [List.foldl_cons]
    rcases fold_cases r l (better r z a) with h | ⟨p, hp, h⟩
    · rcases better_cases r z a with h2 | h2
      · exact .inl (h.trans h2)
      · exact .inr ⟨a, List.mem_cons_self, h.trans h2⟩
    · exact .inr ⟨p, List.mem_cons_of_mem _ hp, h⟩
theorem Vis.wf {r far vic : Int} {S done : List (Int × Int)} {left : Lit → Bool} (h : Vis r S left done far vic) (hk : Keys S) (hr : -9223372036854775808 ≤ r ∧ r ≤ 9223372036854775807) : -9223372036854775808 ≤ vic ∧ vic ≤ 9223372036854775807 := by
  obtain ⟨h1, h2, h3⟩ := h
  have e : vic = (done.foldl (better r) (-1, r)).2 := by rw [← h1]
  rw [e]
  rcases fold_cases r done (-1, r) with h | ⟨p, hp, h⟩
  · rw [h]; exact hr
  · rw [h]; exact hk p ((h3 p).1 hp).1

def stackdist_Optimal.f (l0 : List Int) (a1 : Int) : Option (Int × Int) := if wfs l0 then (stackdist_request.f l0 a1).bind fun t => if t = 0 then some (opt l0 a1, 0) else some (0, t) else none
theorem toNat_succ {i : Int} (h : 0 ≤ i) : (i + 1).toNat = i.toNat + 1 := by omega
theorem opt_next {l0 : List Int} {a1 n i R : Int} {S : List (Int × Int)} (h0 : 0 ≤ i) (hi : i < l0.length) (h : (((l0.zip (fol l0)).drop i.toNat).foldl (optStep a1) (S, n)).2 = R) :
    (((l0.zip (fol l0)).drop (i + 1).toNat).foldl (optStep a1) (if ((ins S (rd l0 i) (rd (fol l0) i)).length : Int) ≤ a1 then (ins S (rd l0 i) (rd (fol l0) i), if (lku S (rd l0 i)).isSome then n else n + 1) else (rmv (ins S (rd l0 i) (rd (fol l0) i)) (victim (rd l0 i) (ins S (rd l0 i) (rd (fol l0) i))), if (lku S (rd l0 i)).isSome then n else n + 1))).2 = R := by
  have hl : i.toNat < (l0.zip (fol l0)).length := by rw [List.length_zip, (fol_ok l0).1]; omega
  rw [List.drop_eq_getElem_cons hl, List.foldl_cons] at h
  rw [toNat_succ h0]
  have h1 : (l0.zip (fol l0))[i.toNat] = (rd l0 i, rd (fol l0) i) := by
    rw [List.getElem_zip]
    have := (fol_ok l0).1
    simp only [rd, List.getD_eq_getElem?_getD, Prod.mk.injEq]
    rw [List.getElem?_eq_getElem (by omega), List.getElem?_eq_getElem (by omega)]
    exact ⟨rfl, rfl⟩
  rw [h1] at h
  exact h
theorem request_ok {l0 : List Int} {a1 : Int} (h : stackdist_request.f l0 a1 = some 0) : l0.length ≤ 4096 ∧ 0 ≤ a1 ∧ a1 ≤ 4096 := by
  unfold stackdist_request.f at h
  split at h
  · simp at h
  · split at h
    · simp at h
    · split at h
      · simp at h
      · omega
set_option maxHeartbeats 4000000 in
set_option maxRecDepth 100000 in
theorem stackdist_Optimal.calls (A0 : Option Addr) (c0 : Nat) (l0 : List Int) (a1 : Int) (r1 : Int) (r2 : Int) (w : World) (hr0 : Kd.C (Kd.int .i64) w A0 l0.length l0) (hc0 : l0.length ≤ c0) (h : stackdist_Optimal.f l0 a1 = some (r1, r2)) :
    Calls Try.prog 24 #[.slice A0 l0.length c0, .int .i64 a1] w fun e w' => e = .returned (.tuple #[.int .i64 r1, .int .i64 r2]) ∧ Below w.heap.size w w' := by
  unfold stackdist_Optimal.f at h
  split at h
  case isFalse => cases h
  rename_i hwf
  obtain ⟨t, ht, h⟩ := Option.bind_eq_some_iff.mp h
  have HWF := Aside0.mk hwf
  have A3 := Aside0.mk ht
  have HR0 := Aside0.mk hr0
  have HC0 := Aside0.mk hc0
  clear hr0 hc0 hwf
  have HB := Aside0.mk (Below.refl w.heap.size w)
  by_cases c4 : t = 0
  · subst c4
    rw [if_pos rfl] at h
    simp only [Option.some.injEq, Prod.mk.injEq] at h
    obtain ⟨rfl, rfl⟩ := h
    obtain ⟨hlen, ha0, ha1⟩ := request_ok ht
    clear ht
    (try clear h)
    have AF : Aside0 (stackdist_following.f l0 = some (fol l0)) := ⟨by unfold stackdist_following.f; rw [if_pos ⟨HWF.out, by omega⟩]⟩
    have HFL := Aside0.mk (fol_ok l0).1
    have HFW := Aside0.mk (fol_wfs (refs := l0) (by omega))
    have hmm := @run_makeMap Try.prog
    go_enter Try.func24, Try.ntmps24
    go_wp2_with (first | ((with_reducible refine gate_callee (f := 39) rfl ?_); refine goesL_ (some 20) rfl rfl Try.func39 (by kernel_rfl) rfl #[.slice A0 l0.length c0, .int .i64 a1] rfl (by (try simp only [List.map_toArray, List.map_cons, List.map_nil]); first | done | rfl) ?_; (with_reducible refine (stackdist_request.calls _ _ l0 a1 0 _ ?side1 ?side2 A3.out).mono ?_); (case side1 => repeat (first | exact HR0.out | (with_reducible refine Kd.C_alloc ?_ _) | (with_reducible refine Kd.C_drewN ?_ _) | (with_reducible refine Kd.C_drew ?_))); (case side2 => exact HC0.out); rintro e w' ⟨rfl, ⟨nd, rfl⟩⟩; refine ⟨_, rfl, ?_⟩) | ((with_reducible refine gate_callee (f := 45) rfl ?_); refine goesL_ (some 25) rfl rfl Try.func45 (by kernel_rfl) rfl #[.slice A0 l0.length c0] rfl (by (try simp only [List.map_toArray, List.map_cons, List.map_nil]); first | done | rfl) ?_; (with_reducible refine (stackdist_following.calls _ _ l0 (fol l0) _ ?side1 ?side2 AF.out).mono ?_); (case side1 => repeat (first | exact HR0.out | (with_reducible refine Kd.C_alloc ?_ _) | (with_reducible refine Kd.C_drewN ?_ _) | (with_reducible refine Kd.C_drew ?_))); (case side2 => exact HC0.out); rintro e w1 ⟨v1, rfl, ho0, hb⟩; refine ⟨_, rfl, ?_⟩; have n0_ := Aside0.mk (Kd.R_lower ho0 (below_size (by repeat (first | (with_reducible first | exact HB.out | apply below_alloc | apply pw_below_drewN | apply below_drew1) | exact HB.out)))); have n1_ := Aside0.mk (below_step (by repeat (first | (with_reducible first | exact HB.out | apply below_alloc | apply pw_below_drewN | apply below_drew1) | exact HB.out)) hb); clear HB; have HO := n0_; have HB := n1_; clear n0_ n1_ ho0 hb))
    have HSZ1 := Aside0.mk HB.out.size
    go_loopg [9, 29] l0.length (fun kq v9 v29 w' => ∃ (n i : Int) (S : List (Int × Int)), v9 = .int .i64 n ∧ v29 = .int .i64 i ∧ 0 ≤ n ∧ n ≤ i ∧ 0 ≤ i ∧ i ≤ l0.length ∧ Aside0 (i = l0.length - kq) ∧
        Aside0 ((((l0.zip (fol l0)).drop i.toNat).foldl (optStep a1) (S, n)).2 = opt l0 a1) ∧ Aside0 (OM Try.prog 3 3 w' w1.heap.size i.toNat S) ∧ Aside0 (Keys S) ∧
        Aside0 (Kd.R (Kd.int .i64) 3 w' w.heap.size (fun _ => True) v1 (fol l0)) ∧ Aside0 (Below w.heap.size w w'))
    case atStart => exact ⟨0, 0, [], rfl, rfl, by omega, by omega, by omega, by omega, ⟨by omega⟩, ⟨rfl⟩, ⟨OM.made _ _ _ _⟩, ⟨fun p hp => by cases hp⟩, ⟨Kd.R_alloc HO.out _⟩, ⟨below_alloc HB.out _⟩⟩
    case round =>
      clear HO HB
      obtain ⟨kO, rfl⟩ : ∃ kO : Nat, kO = gk := ⟨_, rfl⟩
      obtain ⟨wO, rfl⟩ : ∃ wO : World, wO = wr := ⟨_, rfl⟩
      obtain ⟨n, i, S, rfl, rfl, hn0, hni, hi0, hil, HI, HF, HM, HK, HO, HB⟩ := hrel
      obtain ⟨Ao, co, eo⟩ := Kd.R_slice HO.out
      subst eo
      by_cases hlt : i < l0.length
      · have c0 : decide (i < (l0.length : Int)) = true := decide_eq_true hlt
        obtain ⟨ad, e, hx⟩ := Kd.at_int HR0.out i hi0 hlt
        cases e
        replace hx := (HB.out.cell (World.block_lt_of_cell? w _ hx)).trans hx
        have hlt2 : i < ((fol l0).length : Int) := by rw [HFL.out]; exact hlt
        have c1 : decide (i < ((fol l0).length : Int)) = true := decide_eq_true hlt2
        obtain ⟨ad2, e2, hx2⟩ := Kd.at_int (Kd.R_reads' HO.out).2.2 i hi0 hlt2
        cases e2
        have HF2 := Aside0.mk (opt_next hi0 hlt HF.out)
        obtain ⟨S1, hS1⟩ : ∃ S1, S1 = ins S (rd l0 i) (rd (fol l0) i) := ⟨_, rfl⟩
        have HS1 := Aside0.mk hS1
        have HK1 := Aside0.mk (HK.out.ins (k := rd l0 i) (c := rd (fol l0) i) (wfs_getD HWF.out _))
        rw [← hS1] at HK1
        clear hS1
        by_cases hle : (S1.length : Int) ≤ a1
        · have cle : decide ((S1.length : Int) ≤ a1) = true := decide_eq_true hle
          cases hq : lku S (rd l0 i) with
          | none =>
            go_wp2_with (first | ((with_reducible refine gate_dst (N := 37) rfl ?_); at_lookup; refine wp_look_ok rfl _ _ 48 rfl 3 3 Try.underlying48 Try.underlying3 Try.underlying3 (zero3 _) w1.heap.size _ S rfl HM.out (rd l0 i) rfl (wf_rd HWF.out i) ?_) | (at_mapUpdate; refine wp_ins rfl _ _ _ 48 rfl 3 3 Try.underlying48 Try.underlying3 Try.underlying3 w1.heap.size _ S rfl HM.out (by omega) (rd l0 i) (rd (fol l0) i) rfl rfl (wf_rd HWF.out i) (wf_rd HFW.out i) ?_; intro w4 hm4 hg4; rw [← HS1.out] at hm4; obtain ⟨es4, cl4, hmm4⟩ := HM.out.at_map; have ho4 := Kd.R_mapped HO.out hmm4 hg4; have hb4 := below_map HB.out HSZ1.out HB.out.size hg4; clear HO HB HM hx hx2; have HO := Aside0.mk ho4; have HB := Aside0.mk hb4; have HM := Aside0.mk hm4; clear hm4 hg4 hmm4 ho4 hb4) | ((with_reducible refine gate_dst (N := 51) rfl ?_); at_len; refine wp_len rfl _ 48 rfl 3 3 Try.underlying48 w1.heap.size _ S1 rfl HM.out ?_))
            go_roundg (kO - 1)
            case measure => have := HI.out; omega
            case rel => exact ⟨n + 1, i + 1, S1, rfl, rfl, by omega, by omega, by omega, by omega, ⟨by have := HI.out; omega⟩, ⟨by have h := HF2.out; rw [hq, ← HS1.out, if_pos hle] at h; exact h⟩, ⟨by rw [toNat_succ hi0]; exact HM.out⟩, ⟨HK1.out⟩, ⟨HO.out⟩, ⟨HB.out⟩⟩
          | some at_ =>
            go_wp2_with (first | ((with_reducible refine gate_dst (N := 37) rfl ?_); at_lookup; refine wp_look_ok rfl _ _ 48 rfl 3 3 Try.underlying48 Try.underlying3 Try.underlying3 (zero3 _) w1.heap.size _ S rfl HM.out (rd l0 i) rfl (wf_rd HWF.out i) ?_) | (at_mapUpdate; refine wp_ins rfl _ _ _ 48 rfl 3 3 Try.underlying48 Try.underlying3 Try.underlying3 w1.heap.size _ S rfl HM.out (by omega) (rd l0 i) (rd (fol l0) i) rfl rfl (wf_rd HWF.out i) (wf_rd HFW.out i) ?_; intro w4 hm4 hg4; rw [← HS1.out] at hm4; obtain ⟨es4, cl4, hmm4⟩ := HM.out.at_map; have ho4 := Kd.R_mapped HO.out hmm4 hg4; have hb4 := below_map HB.out HSZ1.out HB.out.size hg4; clear HO HB HM hx hx2; have HO := Aside0.mk ho4; have HB := Aside0.mk hb4; have HM := Aside0.mk hm4; clear hm4 hg4 hmm4 ho4 hb4) | ((with_reducible refine gate_dst (N := 51) rfl ?_); at_len; refine wp_len rfl _ 48 rfl 3 3 Try.underlying48 w1.heap.size _ S1 rfl HM.out ?_))
            go_roundg (kO - 1)
            case measure => have := HI.out; omega
            case rel => exact ⟨n, i + 1, S1, rfl, rfl, by omega, by omega, by omega, by omega, ⟨by have := HI.out; omega⟩, ⟨by have h := HF2.out; rw [hq, ← HS1.out, if_pos hle] at h; exact h⟩, ⟨by rw [toNat_succ hi0]; exact HM.out⟩, ⟨HK1.out⟩, ⟨HO.out⟩, ⟨HB.out⟩⟩
        · have cle : decide ((S1.length : Int) ≤ a1) = false := decide_eq_false hle
          cases hq : lku S (rd l0 i) with
          | none =>
            go_wp2_with (first | ((with_reducible refine gate_dst (N := 37) rfl ?_); at_lookup; refine wp_look_ok rfl _ _ 48 rfl 3 3 Try.underlying48 Try.underlying3 Try.underlying3 (zero3 _) w1.heap.size _ S rfl HM.out (rd l0 i) rfl (wf_rd HWF.out i) ?_) | (at_mapUpdate; refine wp_ins rfl _ _ _ 48 rfl 3 3 Try.underlying48 Try.underlying3 Try.underlying3 w1.heap.size _ S rfl HM.out (by omega) (rd l0 i) (rd (fol l0) i) rfl rfl (wf_rd HWF.out i) (wf_rd HFW.out i) ?_; intro w4 hm4 hg4; rw [← HS1.out] at hm4; obtain ⟨es4, cl4, hmm4⟩ := HM.out.at_map; have ho4 := Kd.R_mapped HO.out hmm4 hg4; have hb4 := below_map HB.out HSZ1.out HB.out.size hg4; clear HO HB HM hx hx2; have HO := Aside0.mk ho4; have HB := Aside0.mk hb4; have HM := Aside0.mk hm4; clear hm4 hg4 hmm4 ho4 hb4) | ((with_reducible refine gate_dst (N := 51) rfl ?_); at_len; refine wp_len rfl _ 48 rfl 3 3 Try.underlying48 w1.heap.size _ S1 rfl HM.out ?_) | ((with_reducible refine gate_dst (N := 56) rfl ?_); at_range; refine wp_range rfl _ 48 rfl 3 3 Try.underlying48 Try.underlying3 w1.heap.size _ S1 rfl HM.out ?_; intro w5 left hrg hl0 hg5 hs5; have ho5 := Kd.R_grown HO.out hg5 (fun k _ h => by cases h); have hb5 := HB.out.grown hg5 HB.out.size (fun k hk => by cases hk); have HND := Aside0.mk HM.out.nodup; have HS4 := Aside0.mk HB.out.size; clear HO HB HM; have HO := Aside0.mk ho5; have HB := Aside0.mk hb5; have HG := Aside0.mk hrg; have HL := Aside0.mk hl0; clear ho5 hb5 hrg hl0 hg5 hs5))
            (try go_frame)
            go_loopg [14, 15] S1.length (fun kq v14 v15 w' => ∃ (far vic : Int) (left : Lit → Bool) (done : List (Int × Int)) (cnt : Nat), v14 = .int .i64 far ∧ v15 = .int .i64 vic ∧ Aside0 (cnt ≤ kq) ∧ Aside0 (Vis (rd l0 i) S1 left done far vic) ∧
                Aside0 (RG Try.prog 3 3 w' w1.heap.size w4.heap.size (i.toNat + 1) S1 left cnt) ∧ Aside0 (Kd.R (Kd.int .i64) 3 w' w.heap.size (fun _ => True) (.slice (some ad2) (fol l0).length co) (fol l0)) ∧ Aside0 (Below w.heap.size w w'))
            case atStart => exact ⟨-1, rd l0 i, left, [], _, rfl, rfl, ⟨Nat.le_refl _⟩, ⟨Vis.start HL.out⟩, ⟨HG.out⟩, ⟨HO.out⟩, ⟨HB.out⟩⟩
            case round =>
              clear HO HB HG HL
              clear left
              obtain ⟨far, vic, left, done, cnt, rfl, rfl, HC, HV, HG, HO, HB⟩ := hrel
              go_wp2_with (first | ((with_reducible refine gate_dst (N := 57) rfl ?_); at_next; refine wp_next rfl _ rfl 3 3 Try.underlying3 Try.underlying3 w1.heap.size w4.heap.size _ S1 left cnt rfl HG.out ?_ ?_))
              · intro hl0
                have HVV := Aside0.mk (HV.out.stop HND.out hl0)
                have HWV := Aside0.mk (HV.out.wf (fun p hp => HK1.out p hp) (wfs_getD HWF.out _))
                clear hl0
                go_wp2_with (first | (at_delete; refine wp_rmv rfl _ _ 48 3 rfl 3 Try.underlying48 Try.underlying3 w1.heap.size _ S1 rfl HG.out.owns vic rfl (wf_of _ HWV.out) ?_; intro w7 hm7 hg7; obtain ⟨es7, cl7, hmm7⟩ := HG.out.owns.at_map; have ho7 := Kd.R_mapped HO.out hmm7 hg7; have hb7 := below_map HB.out HSZ1.out HB.out.size hg7; clear HO HB HG; have HO := Aside0.mk ho7; have HB := Aside0.mk hb7; have HM := Aside0.mk hm7; clear hm7 hg7 hmm7 ho7 hb7))
                go_roundg (kO - 1)
                case measure => have := HI.out; omega
                case rel => exact ⟨n + 1, i + 1, rmv S1 vic, rfl, rfl, by omega, by omega, by omega, by omega, ⟨by have := HI.out; omega⟩, ⟨by have h := HF2.out; rw [hq, ← HS1.out, if_neg (by omega)] at h; rw [HVV.out]; exact h⟩, ⟨by rw [toNat_succ hi0]; exact HM.out⟩, ⟨HK1.out.rmv⟩, ⟨HO.out⟩, ⟨HB.out⟩⟩
              · intro x c w6 cnt6 hxc hlx hrg hcl hgr hsz hen
                have ho6 := Kd.R_besides HO.out HG.out.at_iter hgr
                have hb6 := HB.out.grown hgr HB.out.size (fun j hj => by cases hj; exact HS4.out)
                have HVS := Aside0.mk (HV.out.step HND.out hxc hlx)
                have HCL := Aside0.mk hcl
                clear HO HB HG HV hxc hlx hcl hgr hsz
                have HO := Aside0.mk ho6
                have HB := Aside0.mk hb6
                have HG := Aside0.mk hrg
                clear ho6 hb6 hrg
                by_cases hxr : x = rd l0 i
                · have cx0 : (x == rd l0 i) = true := beq_iff_eq.mpr hxr
                  have cx1 : (x != rd l0 i) = false := bne_eq_false_iff_eq.mpr hxr
                  have HBT : Aside0 (better (rd l0 i) (far, vic) (x, c) = (far, vic)) := ⟨by unfold better; rw [if_neg (fun h => h.1 hxr)]⟩
                  clear hxr
                  go_wp2
                  go_roundg cnt6
                  case measure => have := HC.out; have := HCL.out; omega
                  case rel => exact ⟨far, vic, _, _, cnt6, rfl, rfl, ⟨Nat.le_refl _⟩, ⟨by have h := HVS.out; rw [HBT.out] at h; exact h⟩, ⟨HG.out⟩, ⟨HO.out⟩, ⟨HB.out⟩⟩
                · have cx0 : (x == rd l0 i) = false := beq_eq_false_iff_ne.mpr hxr
                  have cx1 : (x != rd l0 i) = true := bne_iff_ne.mpr hxr
                  by_cases h1 : far < c
                  · have c1 : decide (far < c) = true := decide_eq_true h1
                    have HBT : Aside0 (better (rd l0 i) (far, vic) (x, c) = (c, x)) := ⟨by unfold better; rw [if_pos ⟨hxr, .inl h1⟩]⟩
                    clear hxr h1
                    go_wp2
                    go_roundg cnt6
                    case measure => have := HC.out; have := HCL.out; omega
                    case rel => exact ⟨c, x, _, _, cnt6, rfl, rfl, ⟨Nat.le_refl _⟩, ⟨by have h := HVS.out; rw [HBT.out] at h; exact h⟩, ⟨HG.out⟩, ⟨HO.out⟩, ⟨HB.out⟩⟩
                  · have c1 : decide (far < c) = false := decide_eq_false h1
                    by_cases h2 : c = far
                    · have c2 : (c == far) = true := beq_iff_eq.mpr h2
                      by_cases h3 : x < vic
                      · have c3 : decide (x < vic) = true := decide_eq_true h3
                        have HBT : Aside0 (better (rd l0 i) (far, vic) (x, c) = (c, x)) := ⟨by unfold better; rw [if_pos ⟨hxr, .inr ⟨h2, h3⟩⟩]⟩
                        clear hxr h1 h2 h3
                        go_wp2
                        go_roundg cnt6
                        case measure => have := HC.out; have := HCL.out; omega
                        case rel => exact ⟨c, x, _, _, cnt6, rfl, rfl, ⟨Nat.le_refl _⟩, ⟨by have h := HVS.out; rw [HBT.out] at h; exact h⟩, ⟨HG.out⟩, ⟨HO.out⟩, ⟨HB.out⟩⟩
                      · have c3 : decide (x < vic) = false := decide_eq_false h3
                        have HBT : Aside0 (better (rd l0 i) (far, vic) (x, c) = (far, vic)) := ⟨by unfold better; rw [if_neg (fun h => by rcases h.2 with h | h <;> simp at h <;> omega)]⟩
                        clear hxr h1 h2 h3
                        go_wp2
                        go_roundg cnt6
                        case measure => have := HC.out; have := HCL.out; omega
                        case rel => exact ⟨far, vic, _, _, cnt6, rfl, rfl, ⟨Nat.le_refl _⟩, ⟨by have h := HVS.out; rw [HBT.out] at h; exact h⟩, ⟨HG.out⟩, ⟨HO.out⟩, ⟨HB.out⟩⟩
                    · have c2 : (c == far) = false := beq_eq_false_iff_ne.mpr h2
                      have HBT : Aside0 (better (rd l0 i) (far, vic) (x, c) = (far, vic)) := ⟨by unfold better; rw [if_neg (fun h => by rcases h.2 with h | h <;> simp at h <;> omega)]⟩
                      clear hxr h1 h2
                      go_wp2
                      go_roundg cnt6
                      case measure => have := HC.out; have := HCL.out; omega
                      case rel => exact ⟨far, vic, _, _, cnt6, rfl, rfl, ⟨Nat.le_refl _⟩, ⟨by have h := HVS.out; rw [HBT.out] at h; exact h⟩, ⟨HG.out⟩, ⟨HO.out⟩, ⟨HB.out⟩⟩
          | some at_ =>
            go_wp2_with (first | ((with_reducible refine gate_dst (N := 37) rfl ?_); at_lookup; refine wp_look_ok rfl _ _ 48 rfl 3 3 Try.underlying48 Try.underlying3 Try.underlying3 (zero3 _) w1.heap.size _ S rfl HM.out (rd l0 i) rfl (wf_rd HWF.out i) ?_) | (at_mapUpdate; refine wp_ins rfl _ _ _ 48 rfl 3 3 Try.underlying48 Try.underlying3 Try.underlying3 w1.heap.size _ S rfl HM.out (by omega) (rd l0 i) (rd (fol l0) i) rfl rfl (wf_rd HWF.out i) (wf_rd HFW.out i) ?_; intro w4 hm4 hg4; rw [← HS1.out] at hm4; obtain ⟨es4, cl4, hmm4⟩ := HM.out.at_map; have ho4 := Kd.R_mapped HO.out hmm4 hg4; have hb4 := below_map HB.out HSZ1.out HB.out.size hg4; clear HO HB HM hx hx2; have HO := Aside0.mk ho4; have HB := Aside0.mk hb4; have HM := Aside0.mk hm4; clear hm4 hg4 hmm4 ho4 hb4) | ((with_reducible refine gate_dst (N := 51) rfl ?_); at_len; refine wp_len rfl _ 48 rfl 3 3 Try.underlying48 w1.heap.size _ S1 rfl HM.out ?_) | ((with_reducible refine gate_dst (N := 56) rfl ?_); at_range; refine wp_range rfl _ 48 rfl 3 3 Try.underlying48 Try.underlying3 w1.heap.size _ S1 rfl HM.out ?_; intro w5 left hrg hl0 hg5 hs5; have ho5 := Kd.R_grown HO.out hg5 (fun k _ h => by cases h); have hb5 := HB.out.grown hg5 HB.out.size (fun k hk => by cases hk); have HND := Aside0.mk HM.out.nodup; have HS4 := Aside0.mk HB.out.size; clear HO HB HM; have HO := Aside0.mk ho5; have HB := Aside0.mk hb5; have HG := Aside0.mk hrg; have HL := Aside0.mk hl0; clear ho5 hb5 hrg hl0 hg5 hs5))
            (try go_frame)
            go_loopg [14, 15] S1.length (fun kq v14 v15 w' => ∃ (far vic : Int) (left : Lit → Bool) (done : List (Int × Int)) (cnt : Nat), v14 = .int .i64 far ∧ v15 = .int .i64 vic ∧ Aside0 (cnt ≤ kq) ∧ Aside0 (Vis (rd l0 i) S1 left done far vic) ∧
                Aside0 (RG Try.prog 3 3 w' w1.heap.size w4.heap.size (i.toNat + 1) S1 left cnt) ∧ Aside0 (Kd.R (Kd.int .i64) 3 w' w.heap.size (fun _ => True) (.slice (some ad2) (fol l0).length co) (fol l0)) ∧ Aside0 (Below w.heap.size w w'))
            case atStart => exact ⟨-1, rd l0 i, left, [], _, rfl, rfl, ⟨Nat.le_refl _⟩, ⟨Vis.start HL.out⟩, ⟨HG.out⟩, ⟨HO.out⟩, ⟨HB.out⟩⟩
            case round =>
              clear HO HB HG HL
              clear left
              obtain ⟨far, vic, left, done, cnt, rfl, rfl, HC, HV, HG, HO, HB⟩ := hrel
              go_wp2_with (first | ((with_reducible refine gate_dst (N := 57) rfl ?_); at_next; refine wp_next rfl _ rfl 3 3 Try.underlying3 Try.underlying3 w1.heap.size w4.heap.size _ S1 left cnt rfl HG.out ?_ ?_))
              · intro hl0
                have HVV := Aside0.mk (HV.out.stop HND.out hl0)
                have HWV := Aside0.mk (HV.out.wf (fun p hp => HK1.out p hp) (wfs_getD HWF.out _))
                clear hl0
                go_wp2_with (first | (at_delete; refine wp_rmv rfl _ _ 48 3 rfl 3 Try.underlying48 Try.underlying3 w1.heap.size _ S1 rfl HG.out.owns vic rfl (wf_of _ HWV.out) ?_; intro w7 hm7 hg7; obtain ⟨es7, cl7, hmm7⟩ := HG.out.owns.at_map; have ho7 := Kd.R_mapped HO.out hmm7 hg7; have hb7 := below_map HB.out HSZ1.out HB.out.size hg7; clear HO HB HG; have HO := Aside0.mk ho7; have HB := Aside0.mk hb7; have HM := Aside0.mk hm7; clear hm7 hg7 hmm7 ho7 hb7))
                go_roundg (kO - 1)
                case measure => have := HI.out; omega
                case rel => exact ⟨n, i + 1, rmv S1 vic, rfl, rfl, by omega, by omega, by omega, by omega, ⟨by have := HI.out; omega⟩, ⟨by have h := HF2.out; rw [hq, ← HS1.out, if_neg (by omega)] at h; rw [HVV.out]; exact h⟩, ⟨by rw [toNat_succ hi0]; exact HM.out⟩, ⟨HK1.out.rmv⟩, ⟨HO.out⟩, ⟨HB.out⟩⟩
              · intro x c w6 cnt6 hxc hlx hrg hcl hgr hsz hen
                have ho6 := Kd.R_besides HO.out HG.out.at_iter hgr
                have hb6 := HB.out.grown hgr HB.out.size (fun j hj => by cases hj; exact HS4.out)
                have HVS := Aside0.mk (HV.out.step HND.out hxc hlx)
                have HCL := Aside0.mk hcl
                clear HO HB HG HV hxc hlx hcl hgr hsz
                have HO := Aside0.mk ho6
                have HB := Aside0.mk hb6
                have HG := Aside0.mk hrg
                clear ho6 hb6 hrg
                by_cases hxr : x = rd l0 i
                · have cx0 : (x == rd l0 i) = true := beq_iff_eq.mpr hxr
                  have cx1 : (x != rd l0 i) = false := bne_eq_false_iff_eq.mpr hxr
                  have HBT : Aside0 (better (rd l0 i) (far, vic) (x, c) = (far, vic)) := ⟨by unfold better; rw [if_neg (fun h => h.1 hxr)]⟩
                  clear hxr
                  go_wp2
                  go_roundg cnt6
                  case measure => have := HC.out; have := HCL.out; omega
                  case rel => exact ⟨far, vic, _, _, cnt6, rfl, rfl, ⟨Nat.le_refl _⟩, ⟨by have h := HVS.out; rw [HBT.out] at h; exact h⟩, ⟨HG.out⟩, ⟨HO.out⟩, ⟨HB.out⟩⟩
                · have cx0 : (x == rd l0 i) = false := beq_eq_false_iff_ne.mpr hxr
                  have cx1 : (x != rd l0 i) = true := bne_iff_ne.mpr hxr
                  by_cases h1 : far < c
                  · have c1 : decide (far < c) = true := decide_eq_true h1
                    have HBT : Aside0 (better (rd l0 i) (far, vic) (x, c) = (c, x)) := ⟨by unfold better; rw [if_pos ⟨hxr, .inl h1⟩]⟩
                    clear hxr h1
                    go_wp2
                    go_roundg cnt6
                    case measure => have := HC.out; have := HCL.out; omega
                    case rel => exact ⟨c, x, _, _, cnt6, rfl, rfl, ⟨Nat.le_refl _⟩, ⟨by have h := HVS.out; rw [HBT.out] at h; exact h⟩, ⟨HG.out⟩, ⟨HO.out⟩, ⟨HB.out⟩⟩
                  · have c1 : decide (far < c) = false := decide_eq_false h1
                    by_cases h2 : c = far
                    · have c2 : (c == far) = true := beq_iff_eq.mpr h2
                      by_cases h3 : x < vic
                      · have c3 : decide (x < vic) = true := decide_eq_true h3
                        have HBT : Aside0 (better (rd l0 i) (far, vic) (x, c) = (c, x)) := ⟨by unfold better; rw [if_pos ⟨hxr, .inr ⟨h2, h3⟩⟩]⟩
                        clear hxr h1 h2 h3
                        go_wp2
                        go_roundg cnt6
                        case measure => have := HC.out; have := HCL.out; omega
                        case rel => exact ⟨c, x, _, _, cnt6, rfl, rfl, ⟨Nat.le_refl _⟩, ⟨by have h := HVS.out; rw [HBT.out] at h; exact h⟩, ⟨HG.out⟩, ⟨HO.out⟩, ⟨HB.out⟩⟩
                      · have c3 : decide (x < vic) = false := decide_eq_false h3
                        have HBT : Aside0 (better (rd l0 i) (far, vic) (x, c) = (far, vic)) := ⟨by unfold better; rw [if_neg (fun h => by rcases h.2 with h | h <;> simp at h <;> omega)]⟩
                        clear hxr h1 h2 h3
                        go_wp2
                        go_roundg cnt6
                        case measure => have := HC.out; have := HCL.out; omega
                        case rel => exact ⟨far, vic, _, _, cnt6, rfl, rfl, ⟨Nat.le_refl _⟩, ⟨by have h := HVS.out; rw [HBT.out] at h; exact h⟩, ⟨HG.out⟩, ⟨HO.out⟩, ⟨HB.out⟩⟩
                    · have c2 : (c == far) = false := beq_eq_false_iff_ne.mpr h2
                      have HBT : Aside0 (better (rd l0 i) (far, vic) (x, c) = (far, vic)) := ⟨by unfold better; rw [if_neg (fun h => by rcases h.2 with h | h <;> simp at h <;> omega)]⟩
                      clear hxr h1 h2
                      go_wp2
                      go_roundg cnt6
                      case measure => have := HC.out; have := HCL.out; omega
                      case rel => exact ⟨far, vic, _, _, cnt6, rfl, rfl, ⟨Nat.le_refl _⟩, ⟨by have h := HVS.out; rw [HBT.out] at h; exact h⟩, ⟨HG.out⟩, ⟨HO.out⟩, ⟨HB.out⟩⟩
      · have c0 : decide (i < (l0.length : Int)) = false := decide_eq_false hlt
        go_wp2
        go_ret2
        exact ⟨by have h := HF.out; rw [List.drop_eq_nil_of_le (by rw [List.length_zip]; omega)] at h; simp only [List.foldl_nil] at h; rw [← h]; rfl, by repeat (first | (with_reducible first | exact HB.out | apply below_alloc | apply pw_below_drewN | apply below_drew1) | exact HB.out)⟩
  · rw [if_neg c4] at h
    have c4b0 : (t == 0) = false := beq_eq_false_iff_ne.mpr c4
    have c4b1 : (t != 0) = true := bne_iff_ne.mpr c4
    simp only [Option.some.injEq, Prod.mk.injEq] at h
    obtain ⟨rfl, rfl⟩ := h
    go_enter Try.func24, Try.ntmps24
    go_wp2_with (first | ((with_reducible refine gate_callee (f := 39) rfl ?_); refine goesL_ (some 20) rfl rfl Try.func39 (by kernel_rfl) rfl #[.slice A0 l0.length c0, .int .i64 a1] rfl (by (try simp only [List.map_toArray, List.map_cons, List.map_nil]); first | done | rfl) ?_; (with_reducible refine (stackdist_request.calls _ _ l0 a1 t _ ?side1 ?side2 A3.out).mono ?_); (case side1 => repeat (first | exact HR0.out | (with_reducible refine Kd.C_alloc ?_ _) | (with_reducible refine Kd.C_drewN ?_ _) | (with_reducible refine Kd.C_drew ?_))); (case side2 => exact HC0.out); rintro e w' ⟨rfl, ⟨nd, rfl⟩⟩; refine ⟨_, rfl, ?_⟩))
    go_ret2
    exact ⟨rfl, by repeat (first | (with_reducible first | exact HB.out | apply below_alloc | apply pw_below_drewN | apply below_drew1) | exact HB.out)⟩
end Go.Proofs.Ytbchpnhlaknhjaa.Q
