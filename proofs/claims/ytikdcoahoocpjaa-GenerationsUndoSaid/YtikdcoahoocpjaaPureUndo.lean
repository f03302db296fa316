/-
  GenerationsUndo comes to true. Condition: the frames are ints of their kind.
-/
import Derived.Test.YtikdcoahoocpjaaVe
import Derived.Test.YtikdcoahoocpjaaQ304
namespace Go.Proofs.Ytikdcoahoocpjaa.V
open Go.RowKit Go.Proofs.Ytikdcoahoocpjaa.Q Go.Proofs.Ytikdcoahoocpjaa.Sd Go.Proofs.YtikdcoahoocpjaaW.PrintWords Go.Proofs.YtikdcoahoocpjaaW.PrintLast
set_option linter.unusedVariables false
theorem whF_uniq : ∀ (l : List (List Int)) (s : Int) (i : Nat) (f : Int), l.flatten.Nodup → i < l.length → f ∈ l.getD i [] → whF s l f = s + i
  | [], _, _, _, _, h, _ => by simp at h
  | x :: r, s, i, f, hn, hi, hm => by
    rw [show whF s (x :: r) f = if f ∈ x then s else whF (s + 1) r f from rfl]
    rw [List.flatten_cons] at hn
    obtain ⟨n1, n2, n3⟩ := List.nodup_append.1 hn
    cases i with
    | zero =>
      rw [List.getD_cons_zero] at hm
      rw [if_pos hm]; simp
    | succ i =>
      rw [List.getD_cons_succ] at hm
      have hi2 : i < r.length := by simpa using hi
      have hfr : f ∈ r.flatten := by
        refine List.mem_flatten.2 ⟨_, ?_, hm⟩
        rw [List.getD_eq_getElem?_getD, List.getElem?_eq_getElem hi2]
        exact List.getElem_mem hi2
      rw [if_neg (fun h => n3 f h f hfr rfl), whF_uniq r (s + 1) i f n2 hi2 hm]
      omega
/-- List i ends in g, too. -/
def addAt (l : List (List Int)) (i : Int) (g : Int) : List (List Int) := l.set i.toNat (rd_L1 l i ++ [g])
theorem set_split (l : List (List Int)) (i : Nat) (h : i < l.length) (r : List Int) : (l.set i r).flatten = (l.take i).flatten ++ (r ++ (l.drop (i + 1)).flatten) := by
  rw [List.set_eq_take_append_cons_drop, if_pos h, List.flatten_append, List.flatten_cons]
theorem rd_set {l : List (List Int)} {i : Int} (h0 : 0 ≤ i) (h1 : i < l.length) (r : List Int) : rd_L1 (l.set i.toNat r) i = r := by
  unfold rd_L1
  rw [List.getD_eq_getElem?_getD, List.getElem?_set, if_pos rfl, if_pos (by omega)]
  rfl
theorem set_self {l : List (List Int)} {i : Int} (h0 : 0 ≤ i) (h1 : i < l.length) : l.set i.toNat (rd_L1 l i) = l := by
  unfold rd_L1
  rw [List.getD_eq_getElem?_getD, List.getElem?_eq_getElem (by omega)]
  simp
theorem addAt_perm {l : List (List Int)} {i : Int} (h0 : 0 ≤ i) (h1 : i < l.length) (g : Int) : (addAt l i g).flatten.Perm (g :: l.flatten) := by
  have e : l.flatten = (l.take i.toNat).flatten ++ (rd_L1 l i ++ (l.drop (i.toNat + 1)).flatten) := by
    have := set_split l i.toNat (by omega) (rd_L1 l i)
    rw [set_self h0 h1] at this
    exact this
  unfold addAt
  rw [set_split l i.toNat (by omega), e]
  have e2 : (l.take i.toNat).flatten ++ (rd_L1 l i ++ [g] ++ (l.drop (i.toNat + 1)).flatten) = ((l.take i.toNat).flatten ++ rd_L1 l i) ++ g :: (l.drop (i.toNat + 1)).flatten := by simp
  rw [e2, ← List.append_assoc]
  exact List.perm_middle
theorem addAt_chk {l : List (List Int)} (h : chkS l = 0) {i : Int} (h0 : 0 ≤ i) (h1 : i < 4) {g : Int} (hg : isFr g = true) (hn : g ∉ l.flatten) : chkS (addAt l i g) = 0 := by
  obtain ⟨h4, h5, h6⟩ := nodup_of h
  have hp := addAt_perm h0 (by omega : i < l.length) g
  refine chk_of (by unfold addAt; rw [List.length_set]; exact h4) (fun f hf => ?_) (hp.nodup_iff.2 (List.nodup_cons.2 ⟨hn, h6⟩))
  rcases List.mem_cons.1 (hp.mem_iff.1 hf) with rfl | h
  · exact hg
  · exact h5 f h
theorem addAt_wh {l : List (List Int)} (h : chkS l = 0) {i : Int} (h0 : 0 ≤ i) (h1 : i < 4) {g : Int} (hg : isFr g = true) (hn : g ∉ l.flatten) : whF 0 (addAt l i g) g = i := by
  have h4 := (nodup_of h).1
  have hc := addAt_chk h h0 h1 hg hn
  have hl : (addAt l i g).length = 4 := (nodup_of hc).1
  have := whF_uniq (addAt l i g) 0 i.toNat g (nodup_of hc).2.2 (by omega) (by
    have := rd_set h0 (by omega : i < l.length) (rd_L1 l i ++ [g])
    unfold rd_L1 at this
    unfold addAt rd_L1
    rw [this]; simp)
  omega
theorem addAt_rd {l : List (List Int)} (h : chkS l = 0) {i : Int} (h0 : 0 ≤ i) (h1 : i < 4) (g : Int) : rd_L1 (addAt l i g) i = rd_L1 l i ++ [g] := rd_set h0 (by have := (nodup_of h).1; omega) _
theorem addAt_mem {l : List (List Int)} (h : chkS l = 0) {i : Int} (h0 : 0 ≤ i) (h1 : i < 4) (g x : Int) : x ∈ (addAt l i g).flatten ↔ x = g ∨ x ∈ l.flatten := by
  rw [(addAt_perm h0 (by have := (nodup_of h).1; omega : i < l.length) g).mem_iff, List.mem_cons]
theorem row_in {l : List (List Int)} {i : Int} (h0 : 0 ≤ i) (h1 : i < l.length) {f : Int} (h : f ∈ rd_L1 l i) : f ∈ l.flatten := List.mem_flatten.2 ⟨_, rd_L1_mem h0 h1, h⟩
/-- What a replacement in the list that ends in f comes to. -/
theorem rep_addAt {l : List (List Int)} (h : chkS l = 0) {i : Int} (h0 : 0 ≤ i) (h1 : i < 4) {f : Int} (hf : isFr f = true) (hn : f ∉ l.flatten) (o : Int) (hs : (repS (addAt l i f) f o).2 = 0) :
    isFr o = true ∧ o ∉ l.flatten ∧ o ≠ f ∧ repS (addAt l i f) f o = (addAt l i o, 0) := by
  have h4 := (nodup_of h).1
  have hc := addAt_chk h h0 h1 hf hn
  unfold repS at hs ⊢
  rw [if_pos hc] at hs ⊢
  have hm : f ∈ (addAt l i f).flatten := (addAt_mem h h0 h1 f f).2 (.inl rfl)
  by_cases ho : isFr o = true
  · rw [if_pos ho, if_pos hm] at hs ⊢
    by_cases h5 : o ∈ (addAt l i f).flatten
    · rw [if_pos h5] at hs; exact absurd hs (by simp)
    · rw [if_neg h5]
      have h6 : ¬ (o = f ∨ o ∈ l.flatten) := fun hx => h5 ((addAt_mem h h0 h1 f o).2 hx)
      have h6' := h6
      rw [not_or] at h6
      refine ⟨ho, h6.2, h6.1, ?_⟩
      rw [addAt_wh h h0 h1 hf hn, addAt_rd h h0 h1 f]
      have e1 : (rd_L1 l i).map (swp f o) = rd_L1 l i := by
        rw [List.map_congr_left (g := id), List.map_id]
        intro y hy
        unfold swp
        rw [if_neg (fun e : y = f => hn (e ▸ row_in h0 (by omega) hy))]
        rfl
      have e2 : (rd_L1 l i ++ [f]).map (swp f o) = rd_L1 l i ++ [o] := by
        rw [List.map_append, e1, List.map_singleton, show swp f o f = o by unfold swp; rw [if_pos rfl]]
      rw [e2]
      unfold addAt
      rw [List.set_set]
  · rw [if_neg ho] at hs; exact absurd hs (by simp)
theorem undo_step (l : List (List Int)) (h : chkS l = 0) (i : Int) (h0 : 0 ≤ i) (h1 : i < 4) (f : Int) (hf : isFr f = true) (hn : f ∉ l.flatten) (o : Int) (ho : 0 ≤ o ∧ o < 3)
    (hR : Ev (fun k => estoverslaw36_GenerationsUndo.l0 k i f (addAt l i f) (o + 1)) true) : Ev (fun k => estoverslaw36_GenerationsUndo.l0 k i f (addAt l i f) o) true := by
  have hc := addAt_chk h h0 h1 hf hn
  have hok := okL_chk hc
  have hbd := bd_chk hc
  have hoI : okI o = true := by unfold okI; rw [decide_eq_true (by omega), decide_eq_true (by omega)]; rfl
  have hfI := fr_okI hf
  refine Ev.step (f := fun k => _) (fun k => by simp only [estoverslaw36_GenerationsUndo.l0]; rw [if_pos ho.2, w64 (by omega)]) ?_
  refine Ev.bind (replace_ev _ f o hok hfI hoI hbd.bd) ?_
  by_cases hs : (repS (addAt l i f) f o).2 = 0
  · obtain ⟨q1, q2, q3, q4⟩ := rep_addAt h h0 h1 hf hn o hs
    refine Ev.ite_pos hs ?_
    rw [q4]
    have hc2 := addAt_chk h h0 h1 q1 q2
    have hs2 : (repS (addAt l i o) o f).2 = 0 ∧ repS (addAt l i o) o f = (addAt l i f, 0) := by
      have key : (repS (addAt l i o) o f).2 = 0 := by
        unfold repS
        rw [if_pos hc2, if_pos hf, if_pos ((addAt_mem h h0 h1 o o).2 (.inl rfl)), if_neg (fun e => by
          rcases (addAt_mem h h0 h1 o f).1 e with e | e
          · exact q3 e.symm
          · exact hn e)]
      exact ⟨key, (rep_addAt h h0 h1 q1 q2 f key).2.2.2⟩
    refine Ev.bind (replace_ev _ o f (okL_chk hc2) hoI hfI (bd_chk hc2).bd) ?_
    refine Ev.ite_pos hs2.1 ?_
    rw [hs2.2]
    refine Ev.bind (evTo (same_ev _ _ hbd.bd) (decide_eq_true rfl)) ?_
    refine Ev.ite_pos rfl ?_
    refine Ev.val (where_of hc2 hoI) ?_
    exact Ev.ite_pos (addAt_wh h h0 h1 q1 q2) hR
  · exact Ev.ite_neg hs hR
theorem undo_ev (l : List (List Int)) (a f : Int) (hw : ∀ x ∈ l, ∀ g ∈ x, okI g = true) (ha : okI a = true) (hfI : okI f = true) : ∃ k, estoverslaw36_GenerationsUndo.f k l a f = some true := by
  refine Ev.rounds (g := fun k => estoverslaw36_GenerationsUndo.f k l a f) ?_
  unfold estoverslaw36_GenerationsUndo.f
  refine Ev.bind (few_ev l) ?_
  cases hfew : fewB l with
  | false => exact Ev.now _
  | true =>
    have hok := few_ok hw hfew
    have hl := few_bd hfew
    refine Ev.ite_pos rfl ?_
    refine Ev.bind (add_ev l a f hok hfI hl) ?_
    by_cases hs : (addS l a f).2 = 0
    · refine Ev.ite_pos hs ?_
      obtain ⟨hc0, h0, h1, hf, hn, he⟩ : chkS l = 0 ∧ 0 ≤ a ∧ a < 4 ∧ isFr f = true ∧ f ∉ l.flatten ∧ addS l a f = (addAt l a f, 0) := by
        unfold addS at hs ⊢
        by_cases hc0 : chkS l = 0
        · rw [if_pos hc0] at hs ⊢
          by_cases h2 : a < 0 ∨ a ≥ 4 ∨ isFr f = false
          · rw [if_pos h2] at hs; exact absurd hs (by simp)
          · rw [if_neg h2] at hs ⊢
            rw [not_or, not_or] at h2
            by_cases h3 : f ∈ l.flatten
            · rw [if_pos h3] at hs; exact absurd hs (by simp)
            · rw [if_neg h3]
              exact ⟨hc0, by omega, by omega, by simpa using h2.2.2, h3, rfl⟩
        · rw [if_neg hc0] at hs; exact absurd hs hc0
      rw [he]
      have hc := addAt_chk hc0 h0 h1 hf hn
      have h4 := (nodup_of hc).1
      have hrd := addAt_rd hc0 h0 h1 f
      have hsm := hl.at h0 (by have := (nodup_of hc0).1; omega : a < l.length)
      have hlen : ((rd_L1 (addAt l a f) a).length : Int) = (rd_L1 l a).length + 1 := by rw [hrd]; simp
      have hlast : rd (rd_L1 (addAt l a f) a) (wrap64 (((rd_L1 (addAt l a f) a).length : Int) - 1)) = f := by
        rw [w64 (by omega), hlen, hrd, show ((rd_L1 l a).length : Int) + 1 - 1 = (rd_L1 l a).length by omega]
        unfold rd
        rw [Int.toNat_natCast, List.getD_eq_getElem?_getD, List.getElem?_append_right (Nat.le_refl _), Nat.sub_self]
        rfl
      refine Ev.ite_neg (by omega) (Ev.ite_neg (by simp only; omega) (Ev.ite_pos h0 (Ev.ite_pos (by simp only; omega) (Ev.ite_neg (by simp only; omega) (Ev.ite_pos (by simp only; rw [w64 (by omega)]; omega) (Ev.ite_pos (by simp only; rw [w64 (by omega)]; omega) (Ev.ite_pos hlast ?_)))))))
      refine Ev.val (where_of hc hfI) ?_
      rw [show (whF 0 (addAt l a f) f != a) = false by rw [addAt_wh hc0 h0 h1 hf hn]; simp]
      refine Ev.step (f := fun k => _) (fun k => by simp only [estoverslaw36_GenerationsUndo.j0]; rw [if_neg (by decide)]) ?_
      refine Ev.bind (remove_ev _ f (okL_chk hc) hfI (bd_chk hc).bd) ?_
      have hrem : remS (addAt l a f) f = (l, 0) := by
        unfold remS
        rw [if_pos hc, if_pos ((addAt_mem hc0 h0 h1 f f).2 (.inl rfl)), addAt_wh hc0 h0 h1 hf hn, hrd]
        have e : (rd_L1 l a ++ [f]).filter (fun x => decide (x ∉ [f])) = rd_L1 l a := by
          rw [List.filter_append, List.filter_cons, if_neg (by simp), List.filter_nil, List.append_nil, List.filter_eq_self]
          intro y hy
          simp only [List.mem_singleton, decide_eq_true_eq]
          exact fun e => hn (e ▸ row_in h0 (by have := (nodup_of hc0).1; omega) hy)
        rw [e]
        unfold addAt
        rw [List.set_set, set_self h0 (by have := (nodup_of hc0).1; omega)]
      rw [hrem]
      refine Ev.ite_pos rfl (Ev.bind (evTo (same_ev _ _ hl) (decide_eq_true rfl)) ?_)
      refine Ev.step (f := fun k => _) (fun k => by simp only [estoverslaw36_GenerationsUndo.j1]; rw [if_neg (by decide)]) ?_
      refine undo_step l hc0 a h0 h1 f hf hn 0 (by omega) (undo_step l hc0 a h0 h1 f hf hn (0 + 1) (by omega) (undo_step l hc0 a h0 h1 f hf hn (0 + 1 + 1) (by omega) ?_))
      exact Ev.step (f := fun k => some true) (fun k => by simp only [estoverslaw36_GenerationsUndo.l0]; rw [if_neg (by decide)]; rfl) (Ev.now _)
    · exact Ev.ite_neg hs (Ev.now _)
end Go.Proofs.Ytikdcoahoocpjaa.V
