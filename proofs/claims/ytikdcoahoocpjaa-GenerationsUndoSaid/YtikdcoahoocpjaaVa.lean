/-
  What the printed functions come to, in plain lists: Few, Same, Equal, Index, Contains, Has, without, where, Check of the reference, Order of the reference, the copies.
-/
import Derived.Test.YtikdcoahoocpjaaQ100
import Derived.Test.YtikdcoahoocpjaaQ101
import Derived.Test.YtikdcoahoocpjaaQ103
import Derived.Test.YtikdcoahoocpjaaQ107
import Derived.Test.YtikdcoahoocpjaaQ201
namespace Go.Proofs.Ytikdcoahoocpjaa.V
open Go.RowKit Go.Proofs.Ytikdcoahoocpjaa.Q Go.Proofs.YtikdcoahoocpjaaW.PrintWords Go.Proofs.YtikdcoahoocpjaaW.PrintLast
set_option linter.unusedVariables false

theorem w64 {i : Int} (h : -9223372036854775808 ≤ i ∧ i ≤ 9223372036854775807) : wrap64 i = i := by unfold wrap64; omega
theorem drop_rd {l : List Int} {i : Int} (h0 : 0 ≤ i) (h : i < l.length) : l.drop i.toNat = rd l i :: l.drop (i + 1).toNat := by
  rw [List.drop_eq_getElem_cons (show i.toNat < l.length by omega), show (i + 1).toNat = i.toNat + 1 by omega]
  congr 1
  simp only [rd, List.getD_eq_getElem?_getD]
  rw [List.getElem?_eq_getElem (by omega)]
  rfl
theorem drop_L {l : List (List Int)} {i : Int} (h0 : 0 ≤ i) (h : i < l.length) : l.drop i.toNat = rd_L1 l i :: l.drop (i + 1).toNat := by
  rw [List.drop_eq_getElem_cons (show i.toNat < l.length by omega), show (i + 1).toNat = i.toNat + 1 by omega]
  congr 1
  simp only [rd_L1, List.getD_eq_getElem?_getD]
  rw [List.getElem?_eq_getElem (by omega)]
  rfl
theorem drop_end {α : Type} {l : List α} {i : Int} (h : (l.length : Int) ≤ i) : l.drop i.toNat = [] := List.drop_eq_nil_of_le (by omega)
theorem rd_mem {l : List Int} {i : Int} (h0 : 0 ≤ i) (h : i < l.length) : rd l i ∈ l := by
  have := drop_rd h0 h
  have h2 : rd l i ∈ l.drop i.toNat := by rw [this]; exact List.mem_cons_self ..
  exact List.mem_of_mem_drop h2
theorem rd_L1_mem {l : List (List Int)} {i : Int} (h0 : 0 ≤ i) (h : i < l.length) : rd_L1 l i ∈ l := by
  have := drop_L h0 h
  have h2 : rd_L1 l i ∈ l.drop i.toNat := by rw [this]; exact List.mem_cons_self ..
  exact List.mem_of_mem_drop h2
theorem Ev.none_k {α : Type} {g : Nat → Option α} {r : α} (h : ∀ k, g k = some r) : Ev g r := ⟨0, fun k _ => h k⟩
theorem evTo {α : Type} {g : Nat → Option α} {r r' : α} (h : Ev g r) (e : r = r') : Ev g r' := e ▸ h

/-- Short lists. -/
def Bd (l : List (List Int)) : Prop := l.length ≤ 1000 ∧ ∀ x ∈ l, x.length ≤ 100000
theorem Bd.at {l : List (List Int)} (h : Bd l) {i : Int} (h0 : 0 ≤ i) (h1 : i < l.length) : (rd_L1 l i).length ≤ 100000 := h.2 _ (rd_L1_mem h0 h1)

/-! Few -/
def fewB (l : List (List Int)) : Bool := decide (l.length ≤ 20) && l.all fun x => decide (x.length ≤ 300)
theorem few_l0 (l : List (List Int)) (hl : l.length ≤ 1000000) (d : Nat) : ∀ i : Int, 0 ≤ i → (l.length : Int) - i = d → Ev (fun k => estoversref36_Few.l0 k l (l.length : Int) i) ((l.drop i.toNat).all fun x => decide (x.length ≤ 300)) := by
  induction d with
  | zero =>
    intro i h0 hd
    rw [drop_end (by omega)]
    exact Ev.step (fun k => by simp only [estoversref36_Few.l0]; rw [if_neg (by omega)]; rfl) (Ev.now _)
  | succ d ih =>
    intro i h0 hd
    have hlt : i < l.length := by omega
    rw [drop_L h0 hlt, List.all_cons]
    by_cases e : ((rd_L1 l i).length : Int) > 300
    · rw [decide_eq_false (show ¬ (rd_L1 l i).length ≤ 300 by omega), Bool.false_and]
      exact Ev.step (fun k => by simp only [estoversref36_Few.l0]; rw [if_pos hlt, if_pos h0, if_pos hlt, if_pos e]) (Ev.now _)
    · rw [decide_eq_true (show (rd_L1 l i).length ≤ 300 by omega), Bool.true_and]
      exact Ev.step (fun k => by simp only [estoversref36_Few.l0]; rw [if_pos hlt, if_pos h0, if_pos hlt, if_neg e, w64 (by omega)]) (ih (i + 1) (by omega) (by omega))
theorem few_ev (l : List (List Int)) : Ev (fun k => estoversref36_Few.f k l) (fewB l) := by
  unfold estoversref36_Few.f fewB
  by_cases e : (l.length : Int) > 20
  · rw [decide_eq_false (show ¬ l.length ≤ 20 by omega), Bool.false_and]
    simp only [if_pos e]
    exact Ev.now _
  · rw [decide_eq_true (show l.length ≤ 20 by omega), Bool.true_and]
    simp only [if_neg e]
    exact few_l0 l (by omega) l.length 0 (by omega) (by omega)
theorem fewB_iff {l : List (List Int)} : fewB l = true ↔ l.length ≤ 20 ∧ ∀ x ∈ l, x.length ≤ 300 := by
  unfold fewB
  simp only [Bool.and_eq_true, decide_eq_true_eq, List.all_eq_true]

/-! Equal, Same -/
theorem equal_l0 (a b : List Int) (hab : a.length = b.length) (hl : a.length ≤ 1000000) (d : Nat) : ∀ i : Int, 0 ≤ i → (a.length : Int) - i = d → Ev (fun k => slices_Equal_int_int.l0 k a b (a.length : Int) i) (decide (a.drop i.toNat = b.drop i.toNat)) := by
  induction d with
  | zero =>
    intro i h0 hd
    rw [drop_end (by omega), drop_end (l := b) (by omega)]
    exact Ev.step (fun k => by simp only [slices_Equal_int_int.l0]; rw [if_neg (by omega)]; rfl) (Ev.now _)
  | succ d ih =>
    intro i h0 hd
    have hlt : i < a.length := by omega
    have hlt2 : i < b.length := by omega
    rw [drop_rd h0 hlt, drop_rd h0 hlt2]
    by_cases e : rd a i = rd b i
    · refine evTo (Ev.step (fun k => by simp only [slices_Equal_int_int.l0]; rw [if_pos hlt, if_pos h0, if_pos hlt, if_pos hlt2, if_pos e, w64 (by omega)]) (ih (i + 1) (by omega) (by omega))) ?_
      simp [e]
    · refine evTo (Ev.step (fun k => by simp only [slices_Equal_int_int.l0]; rw [if_pos hlt, if_pos h0, if_pos hlt, if_pos hlt2, if_neg e]) (Ev.now false)) ?_
      simp [e]
theorem equal_ev (a b : List Int) (hl : a.length ≤ 1000000) : Ev (fun k => slices_Equal_int_int.f k a b) (decide (a = b)) := by
  unfold slices_Equal_int_int.f
  by_cases e : (a.length : Int) = (b.length : Int)
  · simp only [if_pos e]
    exact equal_l0 a b (by omega) hl a.length 0 (by omega) (by omega)
  · simp only [if_neg e]
    refine evTo (Ev.now false) ?_
    exact (decide_eq_false (fun h => e (by rw [h]))).symm
theorem same_l1 (a b : List (List Int)) (n i : Int) (h0 : 0 ≤ i) (ha : i < a.length) (hb : i < b.length) (hab : (rd_L1 a i).length = (rd_L1 b i).length) (hl : (rd_L1 a i).length ≤ 1000000) {R : Bool} (hw : wrap64 (i + 1) = i + 1) (hR : Ev (fun k => estoversref36_Same.l0 k a b n (i + 1)) R) (d : Nat) :
    ∀ j : Int, 0 ≤ j → ((rd_L1 a i).length : Int) - j = d → Ev (fun k => estoversref36_Same.l1 k a b i n i ((rd_L1 a i).length : Int) j) (decide ((rd_L1 a i).drop j.toNat = (rd_L1 b i).drop j.toNat) && R) := by
  induction d with
  | zero =>
    intro j hj hd
    rw [drop_end (by omega), drop_end (l := rd_L1 b i) (by omega)]
    exact evTo (Ev.step (fun k => by simp only [estoversref36_Same.l1]; rw [if_neg (by omega), hw]) hR) (by simp)
  | succ d ih =>
    intro j hj hd
    have hlt : j < (rd_L1 a i).length := by omega
    have hlt2 : j < (rd_L1 b i).length := by omega
    rw [drop_rd hj hlt, drop_rd hj hlt2]
    by_cases e : rd (rd_L1 a i) j = rd (rd_L1 b i) j
    · refine evTo (Ev.step (fun k => by simp only [estoversref36_Same.l1]; rw [if_pos hlt, if_pos h0, if_pos ha, if_pos hj, if_pos hlt, if_pos hb, if_pos hlt2, if_pos e, w64 (by omega)]) (ih (j + 1) (by omega) (by omega))) ?_
      simp [e]
    · refine evTo (Ev.step (fun k => by simp only [estoversref36_Same.l1]; rw [if_pos hlt, if_pos h0, if_pos ha, if_pos hj, if_pos hlt, if_pos hb, if_pos hlt2, if_neg e]) (Ev.now false)) ?_
      simp [e]
theorem same_l0 (a b : List (List Int)) (hab : a.length = b.length) (ha : Bd a) (d : Nat) : ∀ i : Int, 0 ≤ i → (a.length : Int) - i = d → Ev (fun k => estoversref36_Same.l0 k a b (a.length : Int) i) (decide (a.drop i.toNat = b.drop i.toNat)) := by
  have hl := ha.1
  induction d with
  | zero =>
    intro i h0 hd
    rw [drop_end (by omega), drop_end (l := b) (by omega)]
    exact Ev.step (fun k => by simp only [estoversref36_Same.l0]; rw [if_neg (by omega)]; rfl) (Ev.now _)
  | succ d ih =>
    intro i h0 hd
    have hlt : i < a.length := by omega
    have hlt2 : i < b.length := by omega
    rw [drop_L h0 hlt, drop_L h0 hlt2]
    by_cases e : ((rd_L1 a i).length : Int) = ((rd_L1 b i).length : Int)
    · have h1 := same_l1 a b (a.length : Int) i h0 hlt hlt2 (by omega) (by have := ha.at h0 hlt; omega) (w64 (by omega)) (ih (i + 1) (by omega) (by omega)) (rd_L1 a i).length 0 (by omega) (by omega)
      refine evTo (Ev.step (fun k => by simp only [estoversref36_Same.l0]; rw [if_pos hlt, if_pos h0, if_pos hlt, if_pos hlt2, if_pos e]) h1) ?_
      simp
    · refine evTo (Ev.step (fun k => by simp only [estoversref36_Same.l0]; rw [if_pos hlt, if_pos h0, if_pos hlt, if_pos hlt2, if_neg e]) (Ev.now false)) ?_
      refine (decide_eq_false (fun h => e ?_)).symm
      injection h with h1 _
      rw [h1]
theorem same_ev (a b : List (List Int)) (ha : Bd a) : Ev (fun k => estoversref36_Same.f k a b) (decide (a = b)) := by
  unfold estoversref36_Same.f
  by_cases e : (a.length : Int) = (b.length : Int)
  · simp only [if_pos e]
    exact same_l0 a b (by omega) ha a.length 0 (by omega) (by omega)
  · simp only [if_neg e]
    refine evTo (Ev.now false) ?_
    exact (decide_eq_false (fun h => e (by rw [h]))).symm

/-! Index, Contains, Has -/
def posF : Int → List Int → Int → Int
  | _, [], _ => -1
  | i, x :: xs, p => if p = x then i else posF (i + 1) xs p
theorem posF_mem : ∀ (l : List Int) (i p : Int), 0 ≤ i → (p ∈ l → i ≤ posF i l p ∧ posF i l p < i + l.length ∧ rd l (posF i l p - i) = p) ∧ (p ∉ l → posF i l p = -1)
  | [], _, _, _ => ⟨fun h => (List.not_mem_nil h).elim, fun _ => rfl⟩
  | x :: xs, i, p, h => by
    unfold posF
    by_cases e : p = x
    · rw [if_pos e]
      refine ⟨fun _ => ⟨by omega, by simp; omega, by simp [rd, e]⟩, fun hn => absurd (e ▸ List.mem_cons_self ..) hn⟩
    · rw [if_neg e]
      obtain ⟨h1, h2⟩ := posF_mem xs (i + 1) p (by omega)
      refine ⟨fun hm => ?_, fun hn => h2 (fun hm => hn (List.mem_cons_of_mem _ hm))⟩
      rcases List.mem_cons.1 hm with rfl | hm
      · exact absurd rfl e
      · obtain ⟨q1, q2, q3⟩ := h1 hm
        refine ⟨by omega, by simp only [List.length_cons]; omega, ?_⟩
        unfold rd at q3 ⊢
        rw [show (posF (i + 1) xs p - i).toNat = (posF (i + 1) xs p - (i + 1)).toNat + 1 by omega, List.getD_cons_succ]
        exact q3
theorem index_l0 (l : List Int) (p : Int) (hl : l.length ≤ 1000000) (d : Nat) : ∀ i : Int, 0 ≤ i → (l.length : Int) - i = d → Ev (fun k => slices_Index_int_int.l0 k l p (l.length : Int) i) (posF i (l.drop i.toNat) p) := by
  induction d with
  | zero =>
    intro i h0 hd
    rw [drop_end (by omega)]
    exact Ev.step (fun k => by simp only [slices_Index_int_int.l0]; rw [if_neg (by omega)]; rfl) (Ev.now _)
  | succ d ih =>
    intro i h0 hd
    have hlt : i < l.length := by omega
    rw [drop_rd h0 hlt]
    unfold posF
    by_cases e : p = rd l i
    · rw [if_pos e]
      exact Ev.step (fun k => by simp only [slices_Index_int_int.l0]; rw [if_pos hlt, if_pos h0, if_pos hlt, if_pos e]) (Ev.now _)
    · rw [if_neg e]
      exact Ev.step (fun k => by simp only [slices_Index_int_int.l0]; rw [if_pos hlt, if_pos h0, if_pos hlt, if_neg e, w64 (by omega)]) (ih (i + 1) (by omega) (by omega))
theorem index_ev (l : List Int) (p : Int) (hl : l.length ≤ 1000000) : Ev (fun k => slices_Index_int_int.f k l p) (posF 0 l p) := index_l0 l p hl l.length 0 (by omega) (by omega)
theorem contains_ev (l : List Int) (p : Int) (hl : l.length ≤ 1000000) : Ev (fun k => slices_Contains_int_int.f k l p) (decide (p ∈ l)) := by
  refine evTo (Ev.bind (index_ev l p hl) (Ev.now (decide (posF 0 l p ≥ 0)))) ?_
  obtain ⟨h1, h2⟩ := posF_mem l 0 p (by omega)
  by_cases e : p ∈ l
  · rw [decide_eq_true e]; exact decide_eq_true (h1 e).1
  · rw [decide_eq_false e]; exact decide_eq_false (by rw [h2 e]; omega)
theorem has_l0 (l : List Int) (p : Int) (hl : l.length ≤ 1000000) (d : Nat) : ∀ i : Int, 0 ≤ i → (l.length : Int) - i = d → Ev (fun k => estoversref36_Has.l0 k p l (l.length : Int) i) (decide (p ∈ l.drop i.toNat)) := by
  induction d with
  | zero =>
    intro i h0 hd
    rw [drop_end (by omega)]
    exact Ev.step (fun k => by simp only [estoversref36_Has.l0]; rw [if_neg (by omega)]; rfl) (Ev.now _)
  | succ d ih =>
    intro i h0 hd
    have hlt : i < l.length := by omega
    rw [drop_rd h0 hlt]
    by_cases e : rd l i = p
    · exact evTo (Ev.step (fun k => by simp only [estoversref36_Has.l0]; rw [if_pos hlt, if_pos h0, if_pos hlt, if_pos e]) (Ev.now true)) (by simp [e])
    · exact evTo (Ev.step (fun k => by simp only [estoversref36_Has.l0]; rw [if_pos hlt, if_pos h0, if_pos hlt, if_neg e, w64 (by omega)]) (ih (i + 1) (by omega) (by omega))) (by
        have e2 : p ≠ rd l i := fun h => e h.symm
        simp [e2])
theorem has_ev (l : List Int) (p : Int) (hl : l.length ≤ 1000000) : Ev (fun k => estoversref36_Has.f k l p) (decide (p ∈ l)) := has_l0 l p hl l.length 0 (by omega) (by omega)
theorem without_l0 (l out : List Int) (hl : l.length ≤ 1000000) (ho : out.length ≤ 1000000) (d : Nat) : ∀ (i : Int) (acc : List Int), 0 ≤ i → (l.length : Int) - i = d → acc.length ≤ i.toNat → Ev (fun k => estoversref36_without.l0 k out acc l (l.length : Int) i) (acc ++ (l.drop i.toNat).filter (fun f => decide (f ∉ out))) := by
  induction d with
  | zero =>
    intro i acc h0 hd _
    rw [drop_end (by omega)]
    exact evTo (Ev.step (fun k => by simp only [estoversref36_without.l0]; rw [if_neg (by omega)]) (Ev.now acc)) (by simp)
  | succ d ih =>
    intro i acc h0 hd ha
    have hlt : i < l.length := by omega
    rw [drop_rd h0 hlt]
    by_cases e : rd l i ∈ out
    · refine evTo (Ev.step (fun k => by simp only [estoversref36_without.l0]; rw [if_pos hlt, if_pos h0, if_pos hlt]) (Ev.bind (has_ev out (rd l i) ho) (f := fun k t230 => if t230 = true then (estoversref36_without.l0 k out acc l (l.length : Int) (wrap64 (i + 1))) else (if acc.length < 17592186044416 then (estoversref36_without.l0 k out (acc ++ [rd l i]) l (l.length : Int) (wrap64 (i + 1))) else (none))) (Ev.congr (fun k => by rw [decide_eq_true e, if_pos rfl, w64 (by omega)]) (ih (i + 1) acc (by omega) (by omega) (by omega))))) ?_
      simp [e]
    · refine evTo (Ev.step (fun k => by simp only [estoversref36_without.l0]; rw [if_pos hlt, if_pos h0, if_pos hlt]) (Ev.bind (has_ev out (rd l i) ho) (f := fun k t230 => if t230 = true then (estoversref36_without.l0 k out acc l (l.length : Int) (wrap64 (i + 1))) else (if acc.length < 17592186044416 then (estoversref36_without.l0 k out (acc ++ [rd l i]) l (l.length : Int) (wrap64 (i + 1))) else (none))) (Ev.congr (fun k => by rw [decide_eq_false e, if_neg (by decide), if_pos (by omega), w64 (by omega)]) (ih (i + 1) (acc ++ [rd l i]) (by omega) (by omega) (by simp; omega))))) ?_
      simp [e]
theorem without_ev (l out : List Int) (hl : l.length ≤ 1000000) (ho : out.length ≤ 1000000) : Ev (fun k => estoversref36_without.f k l out) (l.filter (fun f => decide (f ∉ out))) := by
  exact without_l0 l out hl ho l.length 0 [] (by omega) (by omega) (by simp)

/-! where -/
def whF : Int → List (List Int) → Int → Int
  | _, [], _ => -1
  | i, x :: xs, p => if p ∈ x then i else whF (i + 1) xs p
theorem where_l1 (l : List (List Int)) (p i : Int) (row : List Int) (hl : row.length ≤ 1000000) {R : Int} (hw : wrap64 (i + 1) = i + 1) (hR : Ev (fun k => estoversref36_where.l0 k p l (l.length : Int) (i + 1)) R) (d : Nat) :
    ∀ j : Int, 0 ≤ j → (row.length : Int) - j = d → Ev (fun k => estoversref36_where.l1 k p i l (l.length : Int) i row (row.length : Int) j) (if p ∈ row.drop j.toNat then i else R) := by
  induction d with
  | zero =>
    intro j hj hd
    rw [drop_end (by omega)]
    exact evTo (Ev.step (fun k => by simp only [estoversref36_where.l1]; rw [if_neg (by omega), hw]) hR) (by simp)
  | succ d ih =>
    intro j hj hd
    have hlt : j < row.length := by omega
    rw [drop_rd hj hlt]
    by_cases e : rd row j = p
    · exact evTo (Ev.step (fun k => by simp only [estoversref36_where.l1]; rw [if_pos hlt, if_pos hj, if_pos hlt, if_pos e]) (Ev.now i)) (by simp [e])
    · exact evTo (Ev.step (fun k => by simp only [estoversref36_where.l1]; rw [if_pos hlt, if_pos hj, if_pos hlt, if_neg e, w64 (by omega)]) (ih (j + 1) (by omega) (by omega))) (by
        have e2 : p ≠ rd row j := fun h => e h.symm
        simp [e2])
theorem where_l0 (l : List (List Int)) (p : Int) (hl : Bd l) (d : Nat) : ∀ i : Int, 0 ≤ i → (l.length : Int) - i = d → Ev (fun k => estoversref36_where.l0 k p l (l.length : Int) i) (whF i (l.drop i.toNat) p) := by
  have hl1 := hl.1
  induction d with
  | zero =>
    intro i h0 hd
    rw [drop_end (by omega)]
    exact Ev.step (fun k => by simp only [estoversref36_where.l0]; rw [if_neg (by omega)]; rfl) (Ev.now _)
  | succ d ih =>
    intro i h0 hd
    have hlt : i < l.length := by omega
    rw [drop_L h0 hlt]
    unfold whF
    exact Ev.step (fun k => by simp only [estoversref36_where.l0]; rw [if_pos hlt, if_pos h0, if_pos hlt]) (where_l1 l p i (rd_L1 l i) (by have := hl.at h0 hlt; omega) (w64 (by omega)) (ih (i + 1) (by omega) (by omega)) (rd_L1 l i).length 0 (by omega) (by omega))
theorem where_ev (l : List (List Int)) (p : Int) (hl : Bd l) : Ev (fun k => estoversref36_where.f k l p) (whF 0 l p) := where_l0 l p hl l.length 0 (by omega) (by omega)

/-! the copies -/
theorem rclone_l0 (l : List (List Int)) (hl : Bd l) (d : Nat) : ∀ (i : Int) (acc : List (List Int)), 0 ≤ i → (l.length : Int) - i = d → acc.length ≤ i.toNat → Ev (fun k => estoversref36_Clone.l0 k acc l (l.length : Int) i) (acc ++ l.drop i.toNat) := by
  have hl1 := hl.1
  induction d with
  | zero =>
    intro i acc h0 hd _
    rw [drop_end (by omega), List.append_nil]
    exact Ev.step (fun k => by simp only [estoversref36_Clone.l0]; rw [if_neg (by omega)]) (Ev.now _)
  | succ d ih =>
    intro i acc h0 hd ha
    have hlt : i < l.length := by omega
    have hb := hl.at h0 hlt
    have h := ih (i + 1) (acc ++ [rd_L1 l i]) (by omega) (by omega) (by simp; omega)
    rw [List.append_assoc, List.singleton_append, ← drop_L h0 hlt] at h
    exact Ev.step (fun k => by simp only [estoversref36_Clone.l0]; rw [if_pos hlt, if_pos h0, if_pos hlt, if_pos (by simp; omega), if_pos (by omega), List.nil_append, w64 (by omega)]) h
theorem rclone_ev (l : List (List Int)) (hl : Bd l) : Ev (fun k => estoversref36_Clone.f k l) l := by
  exact rclone_l0 l hl l.length 0 [] (by omega) (by omega) (by simp)
theorem clone_l0 (l : List (List Int)) (hl : Bd l) (d : Nat) : ∀ (i : Int), 0 ≤ i → (l.length : Int) - i = d → Ev (fun k => generations_clone.l0 k l (l.take i.toNat ++ List.replicate d []) (l.length : Int) i) l := by
  have hl1 := hl.1
  induction d with
  | zero =>
    intro i h0 hd
    refine evTo (Ev.step (fun k => by simp only [generations_clone.l0]; rw [if_neg (by omega)]) (Ev.now _)) ?_
    rw [List.take_of_length_le (by omega)]; simp
  | succ d ih =>
    intro i h0 hd
    have hlt : i < l.length := by omega
    have hb := hl.at h0 hlt
    refine Ev.step (fun k => by simp only [generations_clone.l0, slices_Clone_int_int.f]; rw [if_pos hlt, if_pos h0, if_pos hlt, if_pos (by omega), Option.bind_some, if_pos (by simp; omega), w64 (by omega)]) ?_
    have h := ih (i + 1) (by omega) (by omega)
    have e : (l.take i.toNat ++ List.replicate (d + 1) []).set i.toNat (rd_L1 l i) = l.take (i + 1).toNat ++ List.replicate d [] := by
      have hlen : (l.take i.toNat).length = i.toNat := by simp; omega
      have hr : rd_L1 l i = l[i.toNat]'(by omega) := by
        simp only [rd_L1, List.getD_eq_getElem?_getD]
        rw [List.getElem?_eq_getElem (by omega)]
        rfl
      rw [List.set_append_right _ _ (by omega), hlen, Nat.sub_self, List.replicate_succ, List.set_cons_zero, show (i + 1).toNat = i.toNat + 1 by omega, List.take_add_one, List.getElem?_eq_getElem (by omega), hr]
      simp only [Option.toList_some, List.append_assoc, List.singleton_append]
    rw [e]
    exact h
theorem clone_ev (l : List (List Int)) (hl : Bd l) : Ev (fun k => generations_clone.f k l) l := by
  have hl1 := hl.1
  have h := clone_l0 l hl l.length 0 (by omega) (by omega)
  refine Ev.congr (fun k => ?_) h
  unfold generations_clone.f
  rw [if_pos (by omega), if_pos (by omega)]
  simp
end Go.Proofs.Ytikdcoahoocpjaa.V
