/-
  The contract of Check. Condition: the frames are ints of their kind.
-/
import Derived.Test.YtikdcoahoocpjaaEAges
import Derived.Stop.RegionWithIn
namespace Go.Proofs.Ytikdcoahoocpjaa.Q
open Go.Proofs.Ytikdcoahoocpjaa.Sd
open Go.RowKit Go.Shelf Go.Maps Go.Proofs.YtikdcoahoocpjaaW.PrintWords Go.Proofs.YtikdcoahoocpjaaW.PrintLast Go.Proofs.YtikdcoahoocpjaaW.PrintMore
set_option linter.unusedVariables false
set_option linter.unusedSimpArgs false
attribute [local go_sem] Oper.semAt_some
def isFr (f : Int) : Bool := decide (0 ≤ f) && decide (f < 256)
theorem isFrame_in (F : Fence) (n : Nat) (h32 : F.fn 32) (hro : F.round = none) (f : Int) (w : World) :
    CallsIn F n Try.prog 32 #[.int .i64 f] w fun e w' => e = .returned (.bool (isFr f)) ∧ w' = w := by
  refine callsIn_of_wp Try.func32 rfl h32 ?_ hro
  simp only [Try.ntmps32, List.size_toArray, List.length_cons, List.length_nil, Nat.reduceAdd, Nat.reduceSub, Array.replicate_succ, Array.replicate_zero, List.push_toArray, List.append_toArray, List.nil_append, List.cons_append]
  by_cases h : 0 ≤ f
  · have hb : decide (f ≥ 0) = true := decide_eq_true h
    gi_wp2
    go_ret
    exact ⟨by simp [isFr, h], rfl⟩
  · have hb : decide (f ≥ 0) = false := decide_eq_false h
    have hi : isFr f = false := by unfold isFr; rw [decide_eq_false h]; rfl
    gi_wp2
    go_ret
    exact ⟨by first | rfl | rw [hi], rfl⟩
theorem OM.len_run {P : Program} {k e t : TypeId} {w : World} {b n : Nat} {m : List (Int × Int)} (h : OM P k e w b n m) (ht : P.underlying t = some (.map k e)) (ty : TypeId) :
    (Builtin.len_ #[t] ty #[.map (some b)]).run P w = .ok (.int .i64 (m.length : Int)) w := by
  obtain ⟨D, h1, h2⟩ := h
  have h3 := h1.len ht ty
  rw [h2.len] at h3
  exact h3
/-- A box of one cell. -/
def Bx (B : Nat) (v : Value) (W : World) : Prop := W.cell? ⟨B, 0, none⟩ = some v ∧ W.frozen? ⟨B, 0, none⟩ = false
theorem Bx.kept {B : Nat} {v : Value} {W W' : World} {row : Option Nat} (h : Bx B v W) (hg : W.grownBy W' row) (hr : ∀ r, row = some r → ∃ o : Obj, W.heap[r]? = some o ∧ o.isCells = false) : Bx B v W' :=
  ⟨cell_kept h.1 hg hr, (frozen_kept h.1 hg hr).trans h.2⟩
theorem Bx.below {B : Nat} {v : Value} {W W' : World} (h : Bx B v W) (hb : Below W.heap.size W W') : Bx B v W' :=
  ⟨(hb.cell (p := ⟨B, 0, none⟩) (World.block_lt_of_cell? W _ h.1)).trans h.1, (hb.frozen (p := ⟨B, 0, none⟩) (World.block_lt_of_cell? W _ h.1)).trans h.2⟩
theorem Bx.new (W : World) (v : Value) (t : TypeId) : Bx W.heap.size v (W.alloc (.cells #[v] t)) := cell_new_c W v t
theorem Bx.alloc {B : Nat} {v : Value} {W : World} (h : Bx B v W) (o : Obj) : Bx B v (W.alloc o) := h.kept (World.grownBy_alloc W o none) (fun r e => by cases e)
theorem Bx.set {B : Nat} {v u : Value} {W : World} (h : Bx B v W) : Bx B u (W.setCell ⟨B, 0, none⟩ u) := ⟨World.cell?_setCell_same' W _ u (by rw [h.1]; rfl), by rw [World.frozen?_setCell]; exact h.2⟩
theorem Bx.other {B C : Nat} {v u : Value} {W : World} (h : Bx B v W) (hne : C ≠ B) : Bx B v (W.setCell ⟨C, 0, none⟩ u) :=
  ⟨(World.cell?_setCell_far W ⟨C, 0, none⟩ ⟨B, 0, none⟩ u hne).trans h.1, by rw [World.frozen?_setCell]; exact h.2⟩
def frOk (l : List (List Int)) (pre : List (Fin (prs l).length)) : Prop := ∀ x ∈ pre, isFr (prE l x).2 = true
/-- Check's answer. -/
def chk (l : List (List Int)) : Int := if l.length = 4 then (if (prs l).all (fun p => isFr p.2) = true then (if (agesL l).length = (prs l).length then 0 else 7) else 2) else 3
set_option maxRecDepth 100000 in
set_option maxHeartbeats 4000000 in
theorem check_in (F : Fence) (n : Nat) (h16 : F.fn 16) (h33 : F.fn 33) (h31 : F.fn 31) (h42 : F.fn 42) (h32 : F.fn 32) (hro : F.round = none) (hn : 5 ≤ n) (A0 : Option Addr) (c0 : Nat) (l : List (List Int)) (w : World) (hr0 : Kd.C (Kd.slice 3 (Kd.int .i64)) w A0 l.length l) (hl4 : l.length = 4) (hl2 : ∀ i : Nat, (l.getD i []).length ≤ 1000000) (hl3 : (prs l).length ≤ 1000000) (hwf : wfL l) :
    CallsIn F n Try.prog 16 #[.slice A0 l.length c0] w fun e W' => e = .returned (.int .i64 (chk l)) ∧ Below w.heap.size w W' := by
  have h1 : 1 ≤ n := by omega
  refine callsIn_of_wp_marks Try.func16 rfl h16 ?_ hro
  simp only [Try.ntmps16, List.size_toArray, List.length_cons, List.length_nil, Nat.reduceAdd, Nat.reduceSub, Array.replicate_succ, Array.replicate_zero, List.push_toArray, List.append_toArray, List.nil_append, List.cons_append]
  have hlb : ((l.length : Int) != 4) = false := bne_eq_false_iff_eq.mpr (by omega)
  have HL4 := Aside0.mk hl4
  clear hl4
  gi_wp2_with (gi_at_call 31; refine (all_in F (n - 1) h31 hro _ _ _ _).mono ?_; rintro e w' ⟨rfl, rfl⟩)
  have b0 := Bx.new w (.int .i64 0) 3
  have b1 := Bx.new (w.alloc (.cells #[.int .i64 0] 3)) (.int .i64 0) 3
  have bN := Bx.new ((w.alloc (.cells #[.int .i64 0] 3)).alloc (.cells #[.int .i64 0] 3)) (.slice A0 l.length c0) 22
  simp only [World.size_alloc] at b1 bN
  have hB0 : Below w.heap.size w (((w.alloc (.cells #[.int .i64 0] 3)).alloc (.cells #[.int .i64 0] 3)).alloc (.cells #[.slice A0 l.length c0] 22)) := (((Below.refl _ w).alloc (Nat.le_refl _) _).alloc (by simp) _).alloc (by simp; omega) _
  refine wpIn_rangeFunc_ownG hro h1 (gf := 42) (lb := #[.pointer (some ⟨w.heap.size + 1 + 1, 0, none⟩)]) rfl h42 (enters_of Try.func42 (by kernel_rfl) rfl)
    (all_stops F (n - 1) h42 hro (by omega) (w.heap.size + 1 + 1) w A0 c0 l hr0 (by have := HL4.out; omega) hl2 _ (by simp) hB0 bN.1) belowK_t (belowK_b (by simp; omega)) (Below.refl _ _) (fun _ => rfl)
    (fun pre W => (Bx w.heap.size (.int .i64 0) W ∧ Bx (w.heap.size + 1) (.int .i64 (pre.length : Int)) W ∧ frOk l pre) ∧ Below w.heap.size w W)
    (fun c pre W => (c = .ret ∧ Bx w.heap.size (.int .i64 2) W ∧ ∃ x ∈ pre, isFr (prE l x).2 = false) ∧ Below w.heap.size w W)
    (OwnFrom.and (fun s A B row hs hg hr => ⟨hs.1.kept hg (fun r e => (hr r e).2), hs.2.1.kept hg (fun r e => (hr r e).2), hs.2.2⟩) (ownFrom_below (Nat.le_refl _) (by simp; omega)))
    (fun c => OwnFrom.and (fun s A B row hs hg hr => ⟨hs.1, hs.2.1.kept hg (fun r e => (hr r e).2), hs.2.2⟩) (ownFrom_below (Nat.le_refl _) (by simp; omega)))
    ⟨⟨(b0.alloc _).alloc _, b1.alloc _, fun x hx => by cases hx⟩, hB0⟩
    (fun x => { tmps := #[.slice A0 l.length c0, undef, .pointer (some ⟨w.heap.size, 0, none⟩), .pointer (some ⟨w.heap.size + 1, 0, none⟩), undef, .int .i64 (prE l x).2, .slice A0 l.length c0, .int .i64 l.length, .bool false, .slice A0 l.length c0, .func (.func 42) #[] #[.pointer (some ⟨w.heap.size + 1 + 1, 0, none⟩)], .int .i64 ((prE l x).1 : Int), .int .i64 (prE l x).2, undef, undef, undef, undef, undef, undef, undef, undef, undef, undef], defers := [] }) ?assign ?body ?done ?stop
  case assign =>
    intro lp x W K hK
    unfold encP
    gi_wp2
    exact hK
  case body =>
    rintro lp pre x W ⟨⟨g0, g1, hok⟩, hB⟩ hlt
    have hq0 := g0.1
    have hf0 := g0.2
    have hq1 := g1.1
    have hf1 := g1.2
    have h2 : 1 ≤ n - 1 - 1 := by omega
    cases hfr : isFr (prE l x).2 with
    | true =>
      gi_wp2_with (gi_at_call 32; refine (CallsIn.inRound lp (isFrame_in F _ h32 hro _ _)).mono ?_; rintro e W ⟨rfl, rfl⟩)
      refine ⟨(KeepsOthers.setCell _ _ _).from _, (Below.refl w.heap.size W).setCell (p := ⟨w.heap.size + 1, 0, none⟩) (by simp) _, ⟨g0.other (by omega), ?_, ?_⟩, hB.setCell (p := ⟨w.heap.size + 1, 0, none⟩) (by simp) _⟩
      · rw [List.length_append]; exact g1.set
      · intro y hy
        rcases List.mem_append.mp hy with h | h
        · exact hok y h
        · obtain rfl := List.mem_singleton.mp h; exact hfr
    | false =>
      gi_wp2_with (gi_at_call 32; refine (CallsIn.inRound lp (isFrame_in F _ h32 hro _ _)).mono ?_; rintro e W ⟨rfl, rfl⟩)
      exact ⟨(KeepsOthers.setCell _ _ _).from _, ⟨rfl, g0.set, x, by simp, hfr⟩, hB.setCell (p := ⟨w.heap.size, 0, none⟩) (by simp) _⟩
  case done =>
    rintro D ys W hD rfl ⟨⟨g0, g1, hok⟩, hB⟩ hK
    rw [upK_length (Nat.le_refl _)] at g1
    have hq0 := g0.1
    have hf0 := g0.2
    have hq1 := g1.1
    have hf1 := g1.2
    gi_wp2
    gi_region_with (gi_at_call 33; refine (ages_in F (n - 1) h33 h31 h42 hro (by omega) A0 c0 l _ (Kd.C_below hr0 (by first | exact hB | exact below_drew1 hB)) (by have := HL4.out; omega) hl2 hl3 hwf).mono ?_; rintro e w5 ⟨rfl, hom, hb5⟩; have hlen : ∀ ty, (Builtin.len_ #[46] ty #[.map (some W.heap.size)]).run Try.prog w5 = .ok (.int .i64 ((agesL l).length : Int)) w5 := fun ty => OM.len_run hom Try.underlying46 ty; have hq1b : w5.cell? ⟨w.heap.size + 1, 0, none⟩ = some (.int .i64 ((prs l).length : Int)) := (hb5.cell (p := ⟨w.heap.size + 1, 0, none⟩) (World.block_lt_of_cell? W _ hq1)).trans hq1)
    all_goals
      have hb6 : Below W.heap.size W w5 := ⟨hb5.os, hb5.tape, hb5.output, hb5.size, hb5.block⟩
      have hK5 : w5.heap[D]? = some (.deferred (some [])) := (hb6.block D (Array.getElem?_eq_some_iff.1 hK).1).trans hK
      have hT : Below w.heap.size w w5 := hB.trans (hb6.mono hB.size)
      have g5 := g0.below hb6
      have hr0' := g5.1
      have hr1' := g5.2
      clear hlen
      by_cases hne : (agesL l).length = (prs l).length
      · have hbn : (((agesL l).length : Int) != ((prs l).length : Int)) = false := bne_eq_false_iff_eq.mpr (by omega)
        have hc : chk l = 0 := by
          unfold chk
          rw [if_pos HL4.out, if_pos, if_pos hne]
          rw [List.all_eq_true]
          intro p hp
          obtain ⟨i, hi, rfl⟩ := List.mem_iff_getElem.mp hp
          exact hok ⟨i, hi⟩ (by rw [upK_all]; exact List.mem_finRange _)
        clear hne
        gi_wp2
        have hK' := (KeepsOthers.setCell w5 ⟨w.heap.size, 0, none⟩ (.int .i64 0)).same D _ hK5 rfl
        refine ⟨by simp, .inl ⟨_, _, rfl, run_takeDeferred hK', ?_⟩⟩
        have hc5 := cell_kept (g5.set (u := .int .i64 0)).1 (grownBy_putObj' _ D (.deferred none)) (fun r e => by cases e; exact ⟨_, hK', rfl⟩)
        refine ⟨.int .i64 0, ?_, by rw [hc], (hT.setCell (p := ⟨w.heap.size, 0, none⟩) (Nat.le_refl _) _).trans (belowK_b (w := w) (Nat.le_refl _) _ D _ _ (by simp at hD; omega) hK' rfl rfl)⟩
        simp [results, Try.f16, go_sem, hc5]
      · have hbn : (((agesL l).length : Int) != ((prs l).length : Int)) = true := bne_iff_ne.mpr (by omega)
        have hc : chk l = 7 := by
          unfold chk
          rw [if_pos HL4.out, if_pos, if_neg hne]
          rw [List.all_eq_true]
          intro p hp
          obtain ⟨i, hi, rfl⟩ := List.mem_iff_getElem.mp hp
          exact hok ⟨i, hi⟩ (by rw [upK_all]; exact List.mem_finRange _)
        clear hne
        gi_wp2
        have hK' := (KeepsOthers.setCell w5 ⟨w.heap.size, 0, none⟩ (.int .i64 7)).same D _ hK5 rfl
        refine ⟨by simp, .inl ⟨_, _, rfl, run_takeDeferred hK', ?_⟩⟩
        have hc5 := cell_kept (g5.set (u := .int .i64 7)).1 (grownBy_putObj' _ D (.deferred none)) (fun r e => by cases e; exact ⟨_, hK', rfl⟩)
        refine ⟨.int .i64 7, ?_, by rw [hc], (hT.setCell (p := ⟨w.heap.size, 0, none⟩) (Nat.le_refl _) _).trans (belowK_b (w := w) (Nat.le_refl _) _ D _ _ (by simp at hD; omega) hK' rfl rfl)⟩
        simp [results, Try.f16, go_sem, hc5]
  case stop =>
    rintro D c pre W hD _ ⟨⟨rfl, g0, y, hy1, hy2⟩, hB⟩ hK
    have hq0 := g0.1
    have hc : chk l = 2 := by
      unfold chk
      rw [if_pos HL4.out, if_neg]
      intro ha
      have := List.all_eq_true.mp ha (prE l y) (List.getElem_mem _)
      rw [hy2] at this; cases this
    gi_wp2
    refine ⟨by simp, .inl ⟨_, _, rfl, run_takeDeferred hK, ?_⟩⟩
    have hc5 := cell_kept hq0 (grownBy_putObj' _ D (.deferred none)) (fun r e => by cases e; exact ⟨_, hK, rfl⟩)
    refine ⟨.int .i64 2, ?_, by rw [hc], hB.trans (belowK_b (w := w) (Nat.le_refl _) W D _ _ (by simp at hD; omega) hK rfl rfl)⟩
    simp [results, Try.f16, go_sem, hc5]
/-- The lists are short, their frames ints of their kind. -/
def okL (l : List (List Int)) : Bool := l.all fun x => decide (x.length ≤ 1000) && x.all fun f => decide (-9223372036854775808 ≤ f) && decide (f ≤ 9223372036854775807)
theorem okL_at {l : List (List Int)} (h : okL l = true) : (∀ i : Nat, (l.getD i []).length ≤ 1000) ∧ wfL l := by
  unfold okL at h
  rw [List.all_eq_true] at h
  have key : ∀ i : Nat, (l.getD i []).length ≤ 1000 ∧ ∀ x ∈ l.getD i [], (Lit.int .i64 x).wf = true := by
    intro i
    rw [List.getD_eq_getElem?_getD]
    cases e : l[i]? with
    | none => exact ⟨by simp, fun x hx => by simp at hx⟩
    | some y =>
      have := h y (List.mem_of_getElem? e)
      simp only [Bool.and_eq_true, decide_eq_true_eq, List.all_eq_true] at this
      exact ⟨this.1, fun x hx => WalkArith.wf_i64 (by have := this.2 x hx; omega)⟩
  exact ⟨fun i => (key i).1, fun i => (key i).2⟩
theorem flat_le : ∀ (l : List (List Int)) (m : Nat), (∀ x ∈ l, x.length ≤ m) → l.flatten.length ≤ l.length * m
  | [], m, h => by simp
  | x :: r, m, h => by
    have := flat_le r m (fun y hy => h y (List.mem_cons_of_mem _ hy))
    have := h x (List.mem_cons_self ..)
    simp only [List.flatten_cons, List.length_append, List.length_cons, Nat.succ_mul]
    omega
theorem prs_le {l : List (List Int)} (h : okL l = true) (hl : l.length = 4) : (prs l).length ≤ 1000000 := by
  unfold prs
  rw [prsF_length]
  have := flat_le l 1000 (fun x hx => by
    unfold okL at h
    rw [List.all_eq_true] at h
    have := h x hx
    simp only [Bool.and_eq_true, decide_eq_true_eq] at this
    exact this.1)
  omega
def generations_Check.f (l0 : List (List Int)) : Option Int := if l0.length = 4 then (if okL l0 = true then some (chk l0) else none) else some 3
set_option maxRecDepth 100000 in
set_option maxHeartbeats 4000000 in
theorem generations_Check.calls (A0 : Option Addr) (c0 : Nat) (l0 : List (List Int)) (r : Int) (w : World) (hr0 : Kd.C (Kd.slice 3 (Kd.int .i64)) w A0 l0.length l0) (hc0 : l0.length ≤ c0) (h : generations_Check.f l0 = some r) :
    Calls Try.prog 16 #[.slice A0 l0.length c0] w fun e w' => e = .returned (.int .i64 r) ∧ Below w.heap.size w w' := by
  unfold generations_Check.f at h
  by_cases h4 : l0.length = 4
  · rw [if_pos h4] at h
    split at h
    · rename_i hok
      obtain rfl := Option.some.inj h
      obtain ⟨k1, k2⟩ := okL_at hok
      exact callsIn_wide.1 (check_in Fence.wide 5 trivial trivial trivial trivial trivial rfl (by omega) A0 c0 l0 w hr0 h4 (fun i => by have := k1 i; omega) (prs_le hok h4) k2)
    · cases h
  · rw [if_neg h4] at h
    obtain rfl := Option.some.inj h
    have hb : ((l0.length : Int) != 4) = true := bne_iff_ne.mpr (by omega)
    have hB := Below.refl w.heap.size w
    clear h hr0 hc0
    go_enter Try.func16, Try.ntmps16
    go_wp2
    have hc := (cell_new_c w (.int .i64 3) 3).1
    refine bodyPost_ret (v := .int .i64 3) ?_ rfl ⟨rfl, (Below.refl _ _).alloc (Nat.le_refl _) _⟩
    simp [results, Try.f16, go_sem, hc]
theorem ages_calls (A0 : Option Addr) (c0 : Nat) (l : List (List Int)) (w : World) (hr0 : Kd.C (Kd.slice 3 (Kd.int .i64)) w A0 l.length l) (h4 : l.length = 4) (hok : okL l = true) :
    Calls Try.prog 33 #[.slice A0 l.length c0] w fun e W' => e = .returned (.map (some w.heap.size)) ∧ OM Try.prog 3 3 W' w.heap.size (prs l).length (agesL l) ∧ Below w.heap.size w W' := by
  obtain ⟨k1, k2⟩ := okL_at hok
  exact callsIn_wide.1 (ages_in Fence.wide 3 trivial trivial trivial rfl (by omega) A0 c0 l w hr0 (by omega) (fun i => by have := k1 i; omega) (prs_le hok h4) k2)
theorem zero3 (w : World) : (zeroValue 3).run Try.prog w = .ok (.int .i64 0) w := by kernel_rfl
/-- A word is an int of its kind. -/
def okI (x : Int) : Bool := decide (-9223372036854775808 ≤ x) && decide (x ≤ 9223372036854775807)
/-- The number of a frame's list, by the map that ages makes; whether there is one. -/
def agesAt.f (l : List (List Int)) (a : Int) : Option (Int × Bool) := if l.length = 4 ∧ okL l = true ∧ okI a = true then some ((lku (agesL l) a).getD 0, (lku (agesL l) a).isSome) else none
theorem agesAt.ok {l : List (List Int)} {a t : Int} {b : Bool} (h : agesAt.f l a = some (t, b)) : l.length = 4 ∧ okL l = true ∧ okI a = true ∧ (lku (agesL l) a).getD 0 = t ∧ (lku (agesL l) a).isSome = b := by
  unfold agesAt.f at h
  split at h
  · rename_i h1
    simp only [Option.some.injEq, Prod.mk.injEq] at h
    exact ⟨h1.1, h1.2.1, h1.2.2, h.1, h.2⟩
  · cases h
theorem agesAt.made (A0 : Option Addr) (c0 : Nat) (l : List (List Int)) (a : Int) (r : Int × Bool) (w : World) (hr0 : Kd.C (Kd.slice 3 (Kd.int .i64)) w A0 l.length l) (h : agesAt.f l a = some r) :
    Calls Try.prog 33 #[.slice A0 l.length c0] w fun e W' => e = .returned (.map (some w.heap.size)) ∧ OM Try.prog 3 3 W' w.heap.size (prs l).length (agesL l) ∧ Below w.heap.size w W' := by
  obtain ⟨t, b⟩ := r
  exact ages_calls A0 c0 l w hr0 (agesAt.ok h).1 (agesAt.ok h).2.1
theorem agesAt.look {ops : Array Oper} {rest : List Oper} {o : Oper} {a : Act} {w : World} {Q : Exit → Act → World → Prop} (hg : o.guard = none) (mm x : Operand) (hop : o.op = Op.lookup 46 mm x true) {b n : Nat} {l : List (List Int)} (h : OM Try.prog 3 3 w b n (agesL l))
    {key t : Int} {ok : Bool} (hA : agesAt.f l key = some (t, ok)) (hm : a.eval mm = .map (some b)) (hx : a.eval x = .int .i64 key)
    (hK : wpList Try.prog ops Q rest (a.put o.dst (.tuple #[.int .i64 t, .bool ok])) w) : wpList Try.prog ops Q (o :: rest) a w := by
  obtain ⟨_, _, h3, h4, h5⟩ := agesAt.ok hA
  have hwf : (Lit.int .i64 key).wf = true := WalkArith.wf_i64 (by simp only [okI, Bool.and_eq_true, decide_eq_true_eq] at h3; omega)
  refine wp_look_ok hg mm x 46 hop 3 3 Try.underlying46 Try.underlying3 Try.underlying3 (zero3 _) b n _ hm h key hx hwf ?_
  rw [h4, h5]
  exact hK
end Go.Proofs.Ytikdcoahoocpjaa.Q
