/-
  Age, of the program and of the reference, in plain lists.
-/
import Derived.Test.YtikdcoahoocpjaaVc
import Derived.Test.YtikdcoahoocpjaaQ106
import Derived.Test.YtikdcoahoocpjaaEAge
namespace Go.Proofs.Ytikdcoahoocpjaa.V
open Go.RowKit Go.Proofs.Ytikdcoahoocpjaa.Q Go.Proofs.Ytikdcoahoocpjaa.Sd Go.Proofs.YtikdcoahoocpjaaW.PrintWords Go.Proofs.YtikdcoahoocpjaaW.PrintLast
set_option linter.unusedVariables false
/-- The first error of the accessed frames. -/
def accS (flat : List Int) : List Int → List Int → Int
  | _, [] => 0
  | pre, f :: r => if f ∈ flat then (if f ∈ pre then 7 else accS flat (pre ++ [f]) r) else 6
def cold (acc x : List Int) : List Int := x.filter (fun f => decide (f ∉ acc))
def hot (acc x : List Int) : List Int := x.filter (fun f => decide (f ∈ acc))
def ageR (l : List (List Int)) (acc : List Int) : List (List Int) := [cold acc (rd_L1 l 0) ++ cold acc (rd_L1 l 1), cold acc (rd_L1 l 2), cold acc (rd_L1 l 3), hot acc l.flatten]
def ageS (l : List (List Int)) (acc : List Int) : List (List Int) × Int := if chkS l = 0 then (if accS l.flatten [] acc = 0 then (ageR l acc, 0) else ([], accS l.flatten [] acc)) else ([], chkS l)
/-! the program -/
def HotOf (h : List (Int × Bool)) (pre : List Int) : Prop := ∀ f, (lku h f).getD false = decide (f ∈ pre)
theorem lku_insB (m : List (Int × Bool)) (k k' : Int) (v : Bool) : lku (ins m k v) k' = if k' = k then some v else lku m k' := by
  unfold lku ins
  by_cases h : k' = k
  · subst h; simp
  · rw [if_neg h, List.find?_cons]
    have h2 : (k == k') = false := by simpa using fun e => h e.symm
    rw [h2]
    simp only [rmv]
    congr 1
    induction m with
    | nil => rfl
    | cons a r ih =>
      rw [List.filter_cons]
      by_cases h3 : a.1 = k
      · have h4 : (a.1 != k) = false := by simp [h3]
        have h5 : (a.1 == k') = false := by rw [h3]; exact h2
        rw [h4, List.find?_cons, h5]
        simpa using ih
      · have h4 : (a.1 != k) = true := by simpa using h3
        rw [h4, if_pos rfl, List.find?_cons, List.find?_cons, ih]
theorem allhot : ∀ l : List Int, ∃ h, HotOf h l
  | [] => ⟨[], fun f => by simp [lku]⟩
  | x :: r => by
    obtain ⟨h, hh⟩ := allhot r
    refine ⟨ins h x true, fun f => ?_⟩
    rw [lku_insB]
    by_cases e : f = x
    · subst e; simp
    · rw [if_neg e, hh f]; simp [e]
theorem scan_eq (l : List (List Int)) (hn : l.flatten.Nodup) : ∀ (acc pre : List Int) (h : List (Int × Bool)), HotOf h pre → ∃ h', HotOf h' (pre ++ acc) ∧ scanA (agesL l) acc h = (if accS l.flatten pre acc = 0 then .ok h' else .error (accS l.flatten pre acc))
  | [], pre, h, hh => ⟨h, by rw [List.append_nil]; exact hh, by simp [scanA, accS]⟩
  | f :: r, pre, h, hh => by
    unfold scanA accS
    rw [lku_ages l f hn]
    by_cases h1 : f ∈ l.flatten
    · rw [if_pos h1, if_pos h1]
      rw [if_pos (show (some (whF 0 l f)).isSome = true from rfl), hh f]
      by_cases h2 : f ∈ pre
      · rw [decide_eq_true h2, if_pos rfl, if_pos h2]
        obtain ⟨h', q1⟩ := allhot (pre ++ f :: r)
        exact ⟨h', q1, by rw [if_neg (by decide)]⟩
      · rw [decide_eq_false h2, if_neg (by decide), if_neg h2]
        obtain ⟨h', q1, q2⟩ := scan_eq l hn r (pre ++ [f]) (ins h f true) (fun g => by
          rw [lku_insB]
          by_cases hg : g = f
          · subst hg; simp
          · rw [if_neg hg, hh g]
            simp [hg])
        refine ⟨h', ?_, q2⟩
        rw [List.append_assoc] at q1
        exact q1
    · rw [if_neg h1, if_neg h1, if_neg (show ¬ (none : Option Int).isSome = true by decide)]
      obtain ⟨h', q1⟩ := allhot (pre ++ f :: r)
      exact ⟨h', q1, by rw [if_neg (by decide)]⟩
theorem fold_row (h : List (Int × Bool)) (acc : List Int) (hh : HotOf h acc) (s t : Nat) (ht : t = s - 1) (ht3 : t < 3) : ∀ (x : List Int) (R : List (List Int)), R.length = 4 →
    (x.map (fun f => (s, f))).foldl (putA h) R = (R.set t (R.getD t [] ++ cold acc x)).set 3 (R.getD 3 [] ++ hot acc x)
  | [], R, hR => by
    simp only [List.map_nil, List.foldl_nil, cold, hot, List.filter_nil, List.append_nil]
    have e : ∀ (R : List (List Int)) (k : Nat), k < R.length → R.set k (R.getD k []) = R := fun R k hk => by
      rw [List.getD_eq_getElem?_getD, List.getElem?_eq_getElem hk]; simp
    have e2 : (R.set t (R.getD t [])) = R := e R t (by omega)
    rw [e2, e R 3 (by omega)]
  | f :: r, R, hR => by
    rw [List.map_cons, List.foldl_cons]
    have ih := fold_row h acc hh s t ht ht3 r (putA h R (s, f)) (by unfold putA; rw [List.length_set]; exact hR)
    rw [ih]
    have hf := hh f
    have g1 : ∀ (R : List (List Int)) (k j : Nat) (v : List Int), k < R.length → (R.set k v).getD j [] = if k = j then v else R.getD j [] := fun R k j v hk => by
      rw [List.getD_eq_getElem?_getD, List.getElem?_set]
      split
      · rename_i e; subst e; first | rfl | (rw [if_pos hk]; rfl)
      · rw [← List.getD_eq_getElem?_getD]
    by_cases e : f ∈ acc
    · rw [decide_eq_true e] at hf
      have ht2 : toA h (s, f) = 3 := by unfold toA; rw [hf]; rfl
      unfold putA
      rw [ht2, g1 _ _ _ _ (by omega), g1 _ _ _ _ (by omega), if_neg (by omega), if_pos rfl]
      have c1 : cold acc (f :: r) = cold acc r := by unfold cold; rw [List.filter_cons, if_neg (by simpa using e)]
      have c2 : hot acc (f :: r) = f :: hot acc r := by unfold hot; rw [List.filter_cons, if_pos (by simpa using e)]
      rw [c1, c2, List.set_comm _ _ (by omega), List.set_set, List.append_assoc]
      rw [List.set_comm _ _ (by omega)]
      rfl
    · rw [decide_eq_false e] at hf
      have ht2 : toA h (s, f) = t := by unfold toA; rw [hf, ht]; rfl
      unfold putA
      rw [ht2, g1 _ _ _ _ (by omega), g1 _ _ _ _ (by omega), if_pos rfl, if_neg (by omega)]
      have c1 : cold acc (f :: r) = f :: cold acc r := by unfold cold; rw [List.filter_cons, if_pos (by simpa using e)]
      have c2 : hot acc (f :: r) = hot acc r := by unfold hot; rw [List.filter_cons, if_neg (by simpa using e)]
      rw [c1, c2, List.set_set, List.append_assoc]
      rfl
theorem four {l : List (List Int)} (h : l.length = 4) : l = [rd_L1 l 0, rd_L1 l 1, rd_L1 l 2, rd_L1 l 3] := by
  match l, h with
  | [a, b, c, d], _ => rfl
theorem rows_eq (h : List (Int × Bool)) (acc : List Int) (hh : HotOf h acc) (l : List (List Int)) (h4 : l.length = 4) : rowsA h (prs l) = ageR l acc := by
  match l, h4 with
  | [a, b, c, d], _ =>
    have e : prs [a, b, c, d] = a.map (fun f => (0, f)) ++ (b.map (fun f => (1, f)) ++ (c.map (fun f => (2, f)) ++ d.map (fun f => (3, f)))) := by simp [prs, prsF]
    unfold rowsA
    rw [e, List.foldl_append, List.foldl_append, List.foldl_append]
    rw [fold_row h acc hh 0 0 rfl (by omega) a _ (by simp), fold_row h acc hh 1 0 rfl (by omega) b _ (by simp), fold_row h acc hh 2 1 rfl (by omega) c _ (by simp), fold_row h acc hh 3 2 rfl (by omega) d _ (by simp)]
    simp [ageR, rd_L1, hot, List.filter_append, List.replicate_succ]
theorem age_f (l : List (List Int)) (acc : List Int) (hok : okL l = true) (ha : okA acc = true) : generations_Age.f l acc = some (ageS l acc) := by
  unfold generations_Age.f ageS
  rw [check_f hok, Option.bind_some]
  by_cases h0 : chkS l = 0
  · rw [if_pos h0, if_pos h0, if_pos ha]
    obtain ⟨h', q1, q2⟩ := scan_eq l (nodup_of h0).2.2 acc [] [] (fun f => by simp [lku])
    rw [q2]
    by_cases h1 : accS l.flatten [] acc = 0
    · rw [if_pos h1, if_pos h1]
      have := rows_eq h' acc (by rw [List.nil_append] at q1; exact q1) l (nodup_of h0).1
      simp only
      rw [this]
    · rw [if_neg h1, if_neg h1]
  · rw [if_neg h0, if_neg h0]
/-! the reference -/
def SB (R : List (List Int)) (Y : List Int) (b : Int) : Prop := R.length = 4 ∧ (Y.length : Int) ≤ b ∧ ∀ x ∈ R, (x.length : Int) ≤ b
def finR (acc : List Int) : Nat → List (List Int) → List (List Int) → List Int → List (List Int)
  | _, [], R, Y => R.set 3 Y
  | i, x :: r, R, Y => finR acc (i + 1) r (R.set (i - 1) (R.getD (i - 1) [] ++ cold acc x)) (Y ++ hot acc x)
theorem rage_l2 (l : List (List Int)) (acc : List Int) (hacc : acc.length ≤ 1000000) (i : Int) (row : List Int) (hrow : row.length ≤ 100000) (t : Nat) (ht : t < 4) (hw : wrap64 (i + 1) = i + 1) (b : Int) (hb : 0 ≤ b ∧ b ≤ 100000000000)
    (G : List (List Int) → List Int → List (List Int) × Int) (hG : ∀ R Y, SB R Y (b + row.length) → Ev (fun k => estoversref36_Age.l1 k acc R Y l (l.length : Int) (i + 1)) (G R Y)) (d : Nat) :
    ∀ (j : Int) (R : List (List Int)) (Y : List Int), 0 ≤ j → (row.length : Int) - j = d → SB R Y (b + j) →
      Ev (fun k => estoversref36_Age.l2 k acc R Y (t : Int) l (l.length : Int) i row (row.length : Int) j) (G (R.set t (R.getD t [] ++ cold acc (row.drop j.toNat))) (Y ++ hot acc (row.drop j.toNat))) := by
  induction d with
  | zero =>
    intro j R Y hj hd hS
    rw [drop_end (by omega)]
    refine evTo (Ev.step (fun k => by simp only [estoversref36_Age.l2]; rw [if_neg (by omega), hw]) (hG R Y ⟨hS.1, by have := hS.2.1; omega, fun x hx => by have := hS.2.2 x hx; omega⟩)) ?_
    have e : R.set t (R.getD t []) = R := by rw [List.getD_eq_getElem?_getD, List.getElem?_eq_getElem (by have := hS.1; omega)]; simp
    simp only [cold, hot, List.filter_nil, List.append_nil]
    rw [e]
  | succ d ih =>
    intro j R Y hj hd hS
    have hlt : j < row.length := by omega
    have hR4 := hS.1
    have hY := hS.2.1
    have hRt : ((rd_L1 R (t : Int)).length : Int) ≤ b + j := hS.2.2 _ (rd_L1_mem (by omega) (by omega))
    rw [drop_rd hj hlt]
    by_cases e : rd row j ∈ acc
    · refine evTo (r := G (R.set t (R.getD t [] ++ cold acc (row.drop (j + 1).toNat))) (Y ++ [rd row j] ++ hot acc (row.drop (j + 1).toNat))) ?_ ?_
      · refine Ev.step (f := fun k => _) (fun k => by simp only [estoversref36_Age.l2]; rw [if_pos hlt, if_pos hj, if_pos hlt]) ?_
        refine Ev.bind (has_ev acc (rd row j) hacc) ?_
        refine Ev.ite_pos (decide_eq_true e) ?_
        refine Ev.ite_pos (by omega) ?_
        exact Ev.congr (fun k => by rw [w64 (by omega)]) (ih (j + 1) R (Y ++ [rd row j]) (by omega) (by omega) ⟨hR4, by rw [List.length_append]; simp; omega, fun x hx => by have := hS.2.2 x hx; omega⟩)
      have c1 : cold acc (rd row j :: row.drop (j + 1).toNat) = cold acc (row.drop (j + 1).toNat) := by unfold cold; rw [List.filter_cons, if_neg (by simpa using e)]
      have c2 : hot acc (rd row j :: row.drop (j + 1).toNat) = rd row j :: hot acc (row.drop (j + 1).toNat) := by unfold hot; rw [List.filter_cons, if_pos (by simpa using e)]
      rw [c1, c2, List.append_assoc]; rfl
    · have hset : ∀ x ∈ R.set t (rd_L1 R (t : Int) ++ [rd row j]), (x.length : Int) ≤ b + (j + 1) := by
        intro x hx
        rcases List.mem_or_eq_of_mem_set hx with h | h
        · have := hS.2.2 x h; omega
        · rw [h, List.length_append]; simp; omega
      have hge : (R.set t (rd_L1 R (t : Int) ++ [rd row j])).getD t [] = rd_L1 R (t : Int) ++ [rd row j] := by
        rw [List.getD_eq_getElem?_getD, List.getElem?_set, if_pos rfl, if_pos (by omega)]; rfl
      refine evTo (r := G ((R.set t (rd_L1 R (t : Int) ++ [rd row j])).set t ((R.set t (rd_L1 R (t : Int) ++ [rd row j])).getD t [] ++ cold acc (row.drop (j + 1).toNat))) (Y ++ hot acc (row.drop (j + 1).toNat))) ?_ ?_
      · refine Ev.step (f := fun k => _) (fun k => by simp only [estoversref36_Age.l2]; rw [if_pos hlt, if_pos hj, if_pos hlt]) ?_
        refine Ev.bind (has_ev acc (rd row j) hacc) ?_
        refine Ev.ite_neg (by rw [decide_eq_false e]; decide) ?_
        refine Ev.ite_pos (by omega) ?_
        refine Ev.ite_pos (by omega) ?_
        refine Ev.ite_pos (by omega) ?_
        exact Ev.congr (fun k => by rw [w64 (by omega), Int.toNat_natCast]) (ih (j + 1) (R.set t (rd_L1 R (t : Int) ++ [rd row j])) Y (by omega) (by omega) ⟨by rw [List.length_set]; exact hR4, by omega, hset⟩)
      have c1 : cold acc (rd row j :: row.drop (j + 1).toNat) = rd row j :: cold acc (row.drop (j + 1).toNat) := by unfold cold; rw [List.filter_cons, if_pos (by simpa using e)]
      have c2 : hot acc (rd row j :: row.drop (j + 1).toNat) = hot acc (row.drop (j + 1).toNat) := by unfold hot; rw [List.filter_cons, if_neg (by simpa using e)]
      rw [c1, c2, hge, List.set_set, List.append_assoc]
      rfl
theorem rage_l1 (l : List (List Int)) (acc : List Int) (hacc : acc.length ≤ 1000000) (hl : Bd l) (hl4 : l.length ≤ 4) (d : Nat) :
    ∀ (i : Int) (R : List (List Int)) (Y : List Int), 0 ≤ i → (l.length : Int) - i = d → SB R Y (i * 100000) →
      Ev (fun k => estoversref36_Age.l1 k acc R Y l (l.length : Int) i) (finR acc i.toNat (l.drop i.toNat) R Y, 0) := by
  induction d with
  | zero =>
    intro i R Y h0 hd hS
    rw [drop_end (by omega)]
    exact Ev.step (fun k => by simp only [estoversref36_Age.l1]; rw [if_neg (by omega), if_pos (by have := hS.1; omega)]; rfl) (Ev.now _)
  | succ d ih =>
    intro i R Y h0 hd hS
    have hlt : i < l.length := by omega
    have hb := hl.at h0 hlt
    rw [drop_L h0 hlt]
    have hG : ∀ R Y, SB R Y (i * 100000 + (rd_L1 l i).length) → Ev (fun k => estoversref36_Age.l1 k acc R Y l (l.length : Int) (i + 1)) (finR acc (i + 1).toNat (l.drop (i + 1).toNat) R Y, 0) := fun R Y hS2 =>
      ih (i + 1) R Y (by omega) (by omega) ⟨hS2.1, by have := hS2.2.1; omega, fun x hx => by have := hS2.2.2 x hx; omega⟩
    have h2 := fun t ht => rage_l2 l acc hacc i (rd_L1 l i) hb t ht (w64 (by omega)) (i * 100000) (by omega) (fun R Y => (finR acc (i + 1).toNat (l.drop (i + 1).toNat) R Y, 0)) hG (rd_L1 l i).length 0 R Y (by omega) (by omega) (by rw [Int.add_zero]; exact hS)
    have e : finR acc i.toNat (rd_L1 l i :: l.drop (i + 1).toNat) R Y = finR acc (i + 1).toNat (l.drop (i + 1).toNat) (R.set (i.toNat - 1) (R.getD (i.toNat - 1) [] ++ cold acc (rd_L1 l i))) (Y ++ hot acc (rd_L1 l i)) := by
      rw [show (i + 1).toNat = i.toNat + 1 by omega]; rfl
    rw [e]
    have h3 := h2 (i.toNat - 1) (by omega)
    simp only [Int.toNat_zero, List.drop_zero] at h3
    by_cases hi : i = 0
    · subst hi
      refine Ev.step (fun k => by simp only [estoversref36_Age.l1]; rw [if_pos hlt, if_pos h0, if_pos hlt, if_pos (by rw [w64 (by omega)]; omega)]) ?_
      exact Ev.step (fun k => by simp only [estoversref36_Age.j2]; rfl) h3
    · refine Ev.step (fun k => by simp only [estoversref36_Age.l1]; rw [if_pos hlt, if_pos h0, if_pos hlt, if_neg (by rw [w64 (by omega)]; omega)]) ?_
      refine Ev.step (fun k => by simp only [estoversref36_Age.j2]; rw [w64 (by omega), show i - 1 = ((i.toNat - 1 : Nat) : Int) by omega]) h3
theorem fin_eq (l : List (List Int)) (acc : List Int) (h4 : l.length = 4) : finR acc 0 l (List.replicate 4 []) [] = ageR l acc := by
  match l, h4 with
  | [a, b, c, d], _ => simp [finR, ageR, rd_L1, hot, List.filter_append, List.replicate_succ]
theorem rage_l0 (l : List (List Int)) (acc : List Int) (hacc : acc.length ≤ 100000) (hl : Bd l) (h4 : l.length = 4) (d : Nat) :
    ∀ i : Int, 0 ≤ i → (acc.length : Int) - i = d → Ev (fun k => estoversref36_Age.l0 k l acc acc (acc.length : Int) i) (if accS l.flatten (acc.take i.toNat) (acc.drop i.toNat) = 0 then (ageR l acc, 0) else ([], accS l.flatten (acc.take i.toNat) (acc.drop i.toNat))) := by
  induction d with
  | zero =>
    intro i h0 hd
    rw [drop_end (by omega)]
    refine Ev.step (f := fun k => _) (fun k => by simp only [estoversref36_Age.l0]; rw [if_neg (by omega)]) ?_
    refine Ev.val (o := estoversref36_New.f) (a := List.replicate 4 []) rfl ?_
    have h := rage_l1 l acc (by omega) hl (by omega) l.length 0 (List.replicate 4 []) [] (by omega) (by omega) ⟨rfl, by simp, fun x hx => by rw [List.eq_of_mem_replicate hx]; simp⟩
    simp only [Int.toNat_zero, List.drop_zero] at h
    rw [fin_eq l acc h4] at h
    exact evTo h (by simp [accS])
  | succ d ih =>
    intro i h0 hd
    have hlt : i < acc.length := by omega
    rw [drop_rd h0 hlt]
    have ha : accS l.flatten (acc.take i.toNat) (rd acc i :: acc.drop (i + 1).toNat) = if rd acc i ∈ l.flatten then (if rd acc i ∈ acc.take i.toNat then 7 else accS l.flatten (acc.take (i + 1).toNat) (acc.drop (i + 1).toNat)) else 6 := by
      have hr : acc[i.toNat]? = some (rd acc i) := by
        unfold rd
        rw [List.getD_eq_getElem?_getD, List.getElem?_eq_getElem (by omega)]
        rfl
      rw [show (i + 1).toNat = i.toNat + 1 by omega, List.take_add_one, hr]
      rfl
    rw [ha]
    refine Ev.step (f := fun k => _) (fun k => by simp only [estoversref36_Age.l0]; rw [if_pos hlt, if_pos h0, if_pos hlt]) (Ev.bind (where_ev l (rd acc i) hl) ?_)
    by_cases h1 : rd acc i ∈ l.flatten
    · rw [if_pos h1]
      refine Ev.ite_neg (by have := wh_ge.2 h1; omega) (Ev.ite_pos (by omega) (Ev.bind (has_ev (acc.take i.toNat) (rd acc i) (by rw [List.length_take]; omega)) ?_))
      by_cases h2 : rd acc i ∈ acc.take i.toNat
      · rw [if_pos h2]
        exact evTo (Ev.ite_pos (by rw [decide_eq_true h2]) (Ev.now _)) (by simp)
      · rw [if_neg h2]
        exact Ev.ite_neg (by rw [decide_eq_false h2]; decide) (Ev.congr (fun k => by rw [w64 (by omega)]) (ih (i + 1) (by omega) (by omega)))
    · rw [if_neg h1]
      exact evTo (Ev.ite_pos (by have := mt wh_ge.1 h1; omega) (Ev.now _)) (by simp)
theorem rage_ev (l : List (List Int)) (acc : List Int) (hacc : acc.length ≤ 100000) (hl : Bd l) : Ev (fun k => estoversref36_Age.f k l acc) (ageS l acc) := by
  unfold estoversref36_Age.f ageS
  refine Ev.bind (rchk_ev l hl) ?_
  by_cases h0 : chkS l = 0
  · rw [if_pos h0]
    exact Ev.ite_pos h0 (rage_l0 l acc hacc hl (nodup_of h0).1 acc.length 0 (by omega) (by omega))
  · rw [if_neg h0]
    exact Ev.ite_neg h0 (Ev.now _)
theorem okA_of {acc : List Int} (h : acc.length ≤ 300) (ha : ∀ g ∈ acc, okI g = true) : okA acc = true := by
  unfold okA
  rw [decide_eq_true (show acc.length ≤ 100000 by omega), Bool.true_and]
  exact List.all_eq_true.2 ha
theorem okL_row {l : List (List Int)} (h : okL l = true) (i : Int) : (rd_L1 l i).length ≤ 1000 := (okL_at h).1 i.toNat
theorem bd_age {l : List (List Int)} {acc : List Int} (h : okL l = true) : Bd (ageS l acc).1 := by
  unfold ageS
  split
  · rename_i h0
    split
    · have hf := okL_flat h (nodup_of h0).1
      refine ⟨by simp [ageR], fun x hx => ?_⟩
      have h1 := okL_row h 0
      have h2 := okL_row h 1
      have h3 := okL_row h 2
      have h4 := okL_row h 3
      have c : ∀ y : List Int, (cold acc y).length ≤ y.length := fun y => List.length_filter_le _ _
      have d : (hot acc l.flatten).length ≤ l.flatten.length := List.length_filter_le _ _
      have c1 := c (rd_L1 l 0)
      have c2 := c (rd_L1 l 1)
      have c3 := c (rd_L1 l 2)
      have c4 := c (rd_L1 l 3)
      simp only [ageR, List.mem_cons, List.not_mem_nil, or_false] at hx
      rcases hx with rfl | rfl | rfl | rfl
      · rw [List.length_append]; omega
      · omega
      · omega
      · omega
    · exact bd_nil
  · exact bd_nil
end Go.Proofs.Ytikdcoahoocpjaa.V
