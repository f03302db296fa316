/-
  The contract of ages: a new map with the number of the list of each frame. Condition: the frames are ints of their kind.
-/
import Derived.Test.YtikdcoahoocpjaaEAll
import Derived.Test.YtikdcoahoocpjaaEMapOps
namespace Go.Proofs.Ytikdcoahoocpjaa.Q
open Go.Proofs.Ytikdcoahoocpjaa.Sd
open Go.RowKit Go.Shelf Go.Maps Go.Proofs.YtikdcoahoocpjaaW.PrintWords Go.Proofs.YtikdcoahoocpjaaW.PrintLast Go.Proofs.YtikdcoahoocpjaaW.PrintMore
set_option linter.unusedVariables false
set_option linter.unusedSimpArgs false
attribute [local go_sem] Oper.semAt_some
/-- The number of each frame's list. -/
def agesF (l : List (List Int)) (pre : List (Fin (prs l).length)) : List (Int × Int) := pre.foldl (fun m x => ins m (prE l x).2 ((prE l x).1 : Int)) []
def agesL (l : List (List Int)) : List (Int × Int) := (prs l).foldl (fun m p => ins m p.2 (p.1 : Int)) []
theorem agesF_snoc (l : List (List Int)) (pre : List (Fin (prs l).length)) (x : Fin (prs l).length) : agesF l (pre ++ [x]) = ins (agesF l pre) (prE l x).2 ((prE l x).1 : Int) := by simp [agesF]
theorem agesF_all (l : List (List Int)) : agesF l (upK (prs l).length (prs l).length) = agesL l := by
  rw [upK_all]
  unfold agesF agesL prE
  have : prs l = (List.finRange (prs l).length).map (fun x => (prs l)[x]) := by
    apply List.ext_getElem
    · simp
    · intro i h1 h2; simp
  conv => rhs; rw [this]
  rw [List.foldl_map]
theorem prsF_mem : ∀ (l : List (List Int)) (s : Nat) (p : Nat × Int), p ∈ prsF s l → s ≤ p.1 ∧ p.1 < s + l.length ∧ p.2 ∈ l.getD (p.1 - s) []
  | [], s, p, h => by simp [prsF] at h
  | xs :: r, s, p, h => by
    simp only [prsF, List.mem_append, List.mem_map] at h
    rcases h with ⟨f, hf, rfl⟩ | h
    · simp; exact hf
    · obtain ⟨h1, h2, h3⟩ := prsF_mem r (s + 1) p h
      refine ⟨by omega, by simp; omega, ?_⟩
      rw [show p.1 - s = (p.1 - (s + 1)) + 1 by omega, List.getD_cons_succ]
      exact h3
theorem prE_mem (l : List (List Int)) (x : Fin (prs l).length) : (prE l x).1 < l.length ∧ (prE l x).2 ∈ l.getD (prE l x).1 [] := by
  obtain ⟨h1, h2, h3⟩ := prsF_mem l 0 (prE l x) (List.getElem_mem _)
  rw [Nat.zero_add] at h2
  rw [Nat.sub_zero] at h3
  exact ⟨h2, h3⟩
/-- All frames are ints of their kind. -/
def wfL (l : List (List Int)) : Prop := ∀ i : Nat, ∀ x ∈ l.getD i [], (Lit.int .i64 x).wf = true
theorem cell_of_box_c {W : World} {B : Nat} {v : Value} {t : TypeId} (h : W.heap[B]? = some (.cells #[v] t (0, 0))) : W.cell? ⟨B, 0, none⟩ = some v ∧ W.frozen? ⟨B, 0, none⟩ = false := by
  constructor <;> simp [World.cell?, World.frozen?, h]
theorem cell_new_c (W : World) (v : Value) (t : TypeId) : (W.alloc (.cells #[v] t)).cell? ⟨W.heap.size, 0, none⟩ = some v ∧ (W.alloc (.cells #[v] t)).frozen? ⟨W.heap.size, 0, none⟩ = false :=
  cell_of_box_c (World.alloc_heap_new W _)
theorem cell_alloc_c {W : World} {a : Addr} {v : Value} (o : Obj) (h : W.cell? a = some v) : (W.alloc o).cell? a = some v := cell_kept h (World.grownBy_alloc W o none) (fun r e => by cases e)
set_option maxRecDepth 100000 in
set_option maxHeartbeats 4000000 in
theorem ages_in (F : Fence) (n : Nat) (h33 : F.fn 33) (h31 : F.fn 31) (h42 : F.fn 42) (hro : F.round = none) (hn : 3 ≤ n) (A0 : Option Addr) (c0 : Nat) (l : List (List Int)) (w : World) (hr0 : Kd.C (Kd.slice 3 (Kd.int .i64)) w A0 l.length l) (hl : l.length ≤ 1000000) (hl2 : ∀ i : Nat, (l.getD i []).length ≤ 1000000) (hl3 : (prs l).length ≤ 1000000) (hwf : wfL l) :
    CallsIn F n Try.prog 33 #[.slice A0 l.length c0] w fun e W' => e = .returned (.map (some w.heap.size)) ∧ OM Try.prog 3 3 W' w.heap.size (prs l).length (agesL l) ∧ Below w.heap.size w W' := by
  have h1 : 1 ≤ n := by omega
  have hmm := @run_makeMap Try.prog
  refine callsIn_of_wp_marks Try.func33 rfl h33 ?_ hro
  simp only [Try.ntmps33, List.size_toArray, List.length_cons, List.length_nil, Nat.reduceAdd, Nat.reduceSub, Array.replicate_succ, Array.replicate_zero, List.push_toArray, List.append_toArray, List.nil_append, List.cons_append]
  gi_wp2_with (gi_at_call 31; refine (all_in F (n - 1) h31 hro _ _ _ _).mono ?_; rintro e w' ⟨rfl, rfl⟩)
  have hm0 := OM.made Try.prog 3 3 w
  have cS := cell_new_c (w.alloc (.map #[] 0)) (.map (some w.heap.size)) 46
  have cN := cell_new_c ((w.alloc (.map #[] 0)).alloc (.cells #[.map (some w.heap.size)] 46)) (.slice A0 l.length c0) 22
  simp only [World.size_alloc] at cS cN
  have hB0 : Below w.heap.size w (((w.alloc (.map #[] 0)).alloc (.cells #[.map (some w.heap.size)] 46)).alloc (.cells #[.slice A0 l.length c0] 22)) := (((Below.refl _ w).alloc (Nat.le_refl _) _).alloc (by simp) _).alloc (by simp; omega) _
  refine wpIn_rangeFunc_ownG hro h1 (gf := 42) (lb := #[.pointer (some ⟨w.heap.size + 1 + 1, 0, none⟩)]) rfl h42 (enters_of Try.func42 (by kernel_rfl) rfl)
    (all_stops F (n - 1) h42 hro (by omega) (w.heap.size + 1 + 1) w A0 c0 l hr0 hl hl2 _ (by simp) hB0 cN.1) belowK_t (belowK_b (by simp; omega)) (Below.refl _ _) (fun _ => rfl)
    (fun pre W => (W.cell? ⟨w.heap.size + 1, 0, none⟩ = some (.map (some w.heap.size)) ∧ OM Try.prog 3 3 W w.heap.size pre.length (agesF l pre)) ∧ Below w.heap.size w W)
    (fun _ _ _ => False)
    (OwnFrom.and (fun s A B row hs hg hr => ⟨cell_kept hs.1 hg (fun r e => (hr r e).2), hs.2.kept hg (fun e => by have := (hr _ e.symm).1; simp at this; omega)⟩) (ownFrom_below (Nat.le_refl _) (by simp; omega)))
    (fun _ _ _ _ _ hs _ _ => hs)
    ⟨⟨cell_alloc_c _ cS.1, (hm0.alloc _).alloc _⟩, hB0⟩
    (fun x => { tmps := #[.slice A0 l.length c0, undef, .map none, .pointer (some ⟨w.heap.size + 1, 0, none⟩), .int .i64 ((prE l x).1 : Int), .int .i64 (prE l x).2, .map (some w.heap.size), .slice A0 l.length c0, .func (.func 42) #[] #[.pointer (some ⟨w.heap.size + 1 + 1, 0, none⟩)], .int .i64 ((prE l x).1 : Int), .int .i64 (prE l x).2, undef, undef, undef, undef], defers := [] }) ?assign ?body ?done ?stop
  case assign =>
    intro lp x W K hK
    unfold encP
    gi_wp2
    exact hK
  case body =>
    rintro lp pre x W ⟨⟨hc, hown⟩, hB⟩ hlt
    obtain ⟨hx1, hx2⟩ := prE_mem l x
    have hxw := hwf _ _ hx2
    have hyw : (Lit.int .i64 ((prE l x).1 : Int)).wf = true := WalkArith.wf_i64 (by omega)
    obtain ⟨D, hD1, hD2⟩ := hown
    gi_wp2_with (gi_at_mapUpdate; refine wpListIn_mapUpdate_own _ rfl _ _ _ 46 rfl 3 3 (Maps.int_keyed Try.underlying3) Try.underlying46 _ w.heap.size pre.length _ rfl hD1 (by unfold maxLen; omega) _ _ _ rfl rfl (Maps.keyOf_int_mk Try.underlying3 hxw) _ [] (plainElem_int Try.underlying3 hyw) ?_; intro w1 hown1 hgrow1)
    obtain ⟨es, ck, hh, _⟩ := hD1
    exact ⟨KeepsFrom.of_grownBy hgrow1 (fun j e => by cases e; simp; omega), (Below.refl _ W).grown hgrow1 hB.size (fun k e => by cases e; exact Nat.le_refl _),
      ⟨cell_kept hc hgrow1 (fun r e => by cases e; exact ⟨_, hh, rfl⟩), by rw [agesF_snoc, List.length_append]; exact ⟨_, hown1, hD2.put _ _⟩⟩, hB.grown hgrow1 hB.size (fun k e => by cases e; exact Nat.le_refl _)⟩
  case done =>
    rintro D ys W hD rfl ⟨⟨hc, hown⟩, hB⟩ hK
    gi_wp2
    refine ⟨by simp, .inl ⟨_, _, rfl, run_takeDeferred hK, ?_⟩⟩
    refine ⟨_, results_tmp rfl _ _ _, rfl, ?_, hB.trans (belowK_b (w := w) (Nat.le_refl _) W D _ _ (by simp at hD; omega) hK rfl rfl)⟩
    have := hown.kept (grownBy_putObj' W D (.deferred none)) (fun e => by cases e; simp at hD; omega)
    rw [agesF_all, upK_length (Nat.le_refl _)] at this
    exact this
  case stop =>
    rintro D c pre W _ _ h _
    exact h.elim
end Go.Proofs.Ytikdcoahoocpjaa.Q
