/-
  Order and Where of the reference; Add, Remove and Replace, of the program and of the reference, in plain lists.
-/
import Derived.Test.YtikdcoahoocpjaaVb
import Derived.Test.YtikdcoahoocpjaaQ102
import Derived.Test.YtikdcoahoocpjaaQ104
import Derived.Test.YtikdcoahoocpjaaQ105
import Derived.Test.YtikdcoahoocpjaaQ202
import Derived.Test.YtikdcoahoocpjaaQ203
import Derived.Test.YtikdcoahoocpjaaQ204
namespace Go.Proofs.Ytikdcoahoocpjaa.V
open Go.RowKit Go.Proofs.Ytikdcoahoocpjaa.Q Go.Proofs.Ytikdcoahoocpjaa.Sd Go.Proofs.YtikdcoahoocpjaaW.PrintWords Go.Proofs.YtikdcoahoocpjaaW.PrintLast
set_option linter.unusedVariables false
theorem Ev.ite_pos {α : Type} {c : Prop} [Decidable c] {g g' : Nat → Option α} {r : α} (h : c) (k : Ev g r) : Ev (fun n => if c then g n else g' n) r := Ev.congr (fun n => if_pos h) k
theorem Ev.ite_neg {α : Type} {c : Prop} [Decidable c] {g g' : Nat → Option α} {r : α} (h : ¬ c) (k : Ev g' r) : Ev (fun n => if c then g n else g' n) r := Ev.congr (fun n => if_neg h) k
theorem Ev.val {α β : Type} {o : Option α} {a : α} {f : Nat → α → Option β} {r : β} (h : o = some a) (k : Ev (fun n => f n a) r) : Ev (fun n => o.bind (f n)) r := Ev.congr (fun n => by rw [h]; rfl) k
/-! Order, Where of the reference -/
theorem rorder_l0 (l : List (List Int)) (hl : Bd l) (d : Nat) : ∀ (i : Int) (acc : List Int), 0 ≤ i → (l.length : Int) - i = d → (acc.length : Int) ≤ i * 100000 → Ev (fun k => estoversref36_Order.l0 k acc l (l.length : Int) i) (acc ++ (l.drop i.toNat).flatten, 0) := by
  have hl1 := hl.1
  induction d with
  | zero =>
    intro i acc h0 hd _
    rw [drop_end (by omega)]
    exact evTo (Ev.step (fun k => by simp only [estoversref36_Order.l0]; rw [if_neg (by omega)]) (Ev.now (acc, 0))) (by simp)
  | succ d ih =>
    intro i acc h0 hd ha
    have hlt : i < l.length := by omega
    have hb := hl.at h0 hlt
    have h := ih (i + 1) (acc ++ rd_L1 l i) (by omega) (by omega) (by rw [List.length_append]; omega)
    rw [List.append_assoc] at h
    rw [drop_L h0 hlt, List.flatten_cons]
    exact Ev.step (fun k => by simp only [estoversref36_Order.l0]; rw [if_pos hlt, if_pos h0, if_pos hlt, if_pos (by omega), w64 (by omega)]) h
theorem rorder_ev (l : List (List Int)) (hl : Bd l) : Ev (fun k => estoversref36_Order.f k l) (ordS l) := by
  unfold estoversref36_Order.f ordS
  refine Ev.bind (rchk_ev l hl) ?_
  by_cases h0 : chkS l = 0
  · rw [if_pos h0]
    exact Ev.ite_pos h0 (rorder_l0 l hl l.length 0 [] (by omega) (by omega) (by simp))
  · rw [if_neg h0]
    exact Ev.ite_neg h0 (Ev.now _)
theorem rwhere_ev (l : List (List Int)) (hl : Bd l) (f : Int) : Ev (fun k => estoversref36_Where.f k l f) (whS l f) := by
  unfold estoversref36_Where.f whS
  refine Ev.bind (rchk_ev l hl) ?_
  by_cases h0 : chkS l = 0
  · rw [if_pos h0]
    exact Ev.ite_pos h0 (Ev.bind (where_ev l f hl) (Ev.now _))
  · rw [if_neg h0]
    exact Ev.ite_neg h0 (Ev.now _)
theorem wh_ge {l : List (List Int)} {f : Int} : (whF 0 l f ≥ 0) ↔ f ∈ l.flatten := by
  obtain ⟨h1, h2⟩ := whF_mem l 0 f (by omega)
  constructor
  · intro h
    apply Decidable.byContradiction
    intro hn
    have := h2 hn
    omega
  · intro h; exact (h1 h).1
/-! Add -/
def addS (l : List (List Int)) (a f : Int) : List (List Int) × Int :=
  if chkS l = 0 then (if a < 0 ∨ a ≥ 4 ∨ isFr f = false then ([], 2) else if f ∈ l.flatten then ([], 7) else (l.set a.toNat (rd_L1 l a ++ [f]), 0)) else ([], chkS l)
theorem isFrame_f (f : Int) : generations_isFrame.f f = some (isFr f) := by
  unfold generations_isFrame.f isFr
  by_cases h : f ≥ 0
  · rw [if_pos h, decide_eq_true (show 0 ≤ f from h), Bool.true_and]
  · rw [if_neg h, decide_eq_false (show ¬ 0 ≤ f from h), Bool.false_and]
theorem add_bad (l : List (List Int)) (a f : Int) : Ev (fun k => generations_Add.j0 k l a f true) ([], 2) := Ev.step (fun k => by simp only [generations_Add.j0]; rw [if_pos trivial]) (Ev.now _)
theorem radd_bad (l : List (List Int)) (a f : Int) : Ev (fun k => estoversref36_Add.j0 k l a f true) ([], 2) := Ev.step (fun k => by simp only [estoversref36_Add.j0]; rw [if_pos trivial]) (Ev.now _)
theorem add_ev (l : List (List Int)) (a f : Int) (hok : okL l = true) (hf : okI f = true) (hl : Bd l) : Ev (fun k => generations_Add.f k l a f) (addS l a f) := by
  unfold generations_Add.f addS
  refine Ev.val (check_f hok) ?_
  by_cases h0 : chkS l = 0
  · rw [if_pos h0]
    refine Ev.ite_pos h0 ?_
    by_cases h1 : a < 0
    · rw [if_pos (.inl h1)]; exact Ev.ite_pos h1 (add_bad l a f)
    · refine Ev.ite_neg h1 ?_
      by_cases h2 : a ≥ 4
      · rw [if_pos (.inr (.inl h2))]; exact Ev.ite_pos h2 (add_bad l a f)
      · refine Ev.ite_neg h2 (Ev.val (isFrame_f f) ?_)
        cases h3 : isFr f with
        | false => rw [if_pos (.inr (.inr rfl))]; exact add_bad l a f
        | true =>
          rw [if_neg (by rintro (h | h | h) <;> first | omega | cases h)]
          refine Ev.step (f := fun k => _) (fun k => by simp only [generations_Add.j0]; rw [if_neg (by decide)]) ?_
          refine Ev.val (agesAt_f hok h0 hf) ?_
          by_cases h4 : f ∈ l.flatten
          · simp only [if_pos h4]; exact Ev.now _
          · simp only [if_neg h4]
            refine Ev.bind (clone_ev l hl) (Ev.none_k fun k => ?_)
            have h5 := (nodup_of h0).1
            have h6 := hl.at (i := a) (by omega) (by omega)
            rw [if_pos (by omega), if_pos (by omega), if_pos (by omega)]
  · rw [if_neg h0]
    exact Ev.ite_neg h0 (Ev.now _)
theorem radd_ev (l : List (List Int)) (a f : Int) (hl : Bd l) : Ev (fun k => estoversref36_Add.f k l a f) (addS l a f) := by
  unfold estoversref36_Add.f addS
  refine Ev.bind (rchk_ev l hl) ?_
  by_cases h0 : chkS l = 0
  · rw [if_pos h0]
    refine Ev.ite_pos h0 ?_
    by_cases h1 : a < 0
    · rw [if_pos (.inl h1)]; exact Ev.ite_pos h1 (radd_bad l a f)
    · refine Ev.ite_neg h1 ?_
      by_cases h2 : a ≥ 4
      · rw [if_pos (.inr (.inl h2))]; exact Ev.ite_pos h2 (radd_bad l a f)
      · refine Ev.ite_neg h2 ?_
        by_cases h3 : f < 0
        · rw [if_pos (.inr (.inr (by unfold isFr; rw [decide_eq_false (by omega)]; rfl)))]; exact Ev.ite_pos h3 (radd_bad l a f)
        · refine Ev.ite_neg h3 ?_
          by_cases h4 : f ≥ 256
          · rw [if_pos (.inr (.inr (by unfold isFr; rw [decide_eq_false (show ¬ f < 256 by omega), Bool.and_false]))), decide_eq_true h4]; exact radd_bad l a f
          · have h5 : isFr f = true := by unfold isFr; rw [decide_eq_true (show f < 256 by omega), decide_eq_true (by omega)]; rfl
            rw [decide_eq_false h4, h5, if_neg (by rintro (h | h | h) <;> first | omega | cases h)]
            refine Ev.step (f := fun k => _) (fun k => by simp only [estoversref36_Add.j0]; rw [if_neg (by decide)]) ?_
            refine Ev.bind (where_ev l f hl) ?_
            by_cases h6 : f ∈ l.flatten
            · rw [if_pos h6]; exact Ev.ite_pos (wh_ge.2 h6) (Ev.now _)
            · rw [if_neg h6]
              refine Ev.ite_neg (fun h => h6 (wh_ge.1 h)) (Ev.bind (rclone_ev l hl) (Ev.none_k fun k => ?_))
              have h7 := (nodup_of h0).1
              have h8 := hl.at (i := a) (by omega) (by omega)
              rw [if_pos (by omega), if_pos (by omega), if_pos (by omega)]
  · rw [if_neg h0]
    exact Ev.ite_neg h0 (Ev.now _)
/-! Remove -/
def remS (l : List (List Int)) (f : Int) : List (List Int) × Int :=
  if chkS l = 0 then (if f ∈ l.flatten then (l.set (whF 0 l f).toNat ((rd_L1 l (whF 0 l f)).filter (fun x => decide (x ∉ [f]))), 0) else ([], 6)) else ([], chkS l)
theorem erase_pos : ∀ (l : List Int) (i f : Int), 0 ≤ i → l.Nodup → f ∈ l → l.eraseIdx (posF i l f - i).toNat = l.filter (fun x => decide (x ∉ [f]))
  | [], _, _, _, _, h => (List.not_mem_nil h).elim
  | x :: xs, i, f, h0, hn, hm => by
    rw [List.nodup_cons] at hn
    rw [show posF i (x :: xs) f = if f = x then i else posF (i + 1) xs f from rfl]
    by_cases e : f = x
    · subst e
      rw [if_pos rfl, Int.sub_self]
      have h2 : xs.filter (fun x => decide (x ∉ [f])) = xs := by
        rw [List.filter_eq_self]
        intro y hy
        simp only [List.mem_singleton, decide_eq_true_eq]
        intro h3; exact hn.1 (h3 ▸ hy)
      rw [List.filter_cons, if_neg (by simp), h2]
      rfl
    · rw [if_neg e]
      rcases List.mem_cons.1 hm with h3 | h3
      · exact absurd h3 e
      · have h4 := (posF_mem xs (i + 1) f (by omega)).1 h3
        rw [show (posF (i + 1) xs f - i).toNat = (posF (i + 1) xs f - (i + 1)).toNat + 1 by omega, List.eraseIdx_cons_succ, erase_pos xs (i + 1) f (by omega) hn.2 h3, List.filter_cons, if_pos (by simpa using fun h => e h.symm)]
theorem row_of {l : List (List Int)} {f : Int} (h : f ∈ l.flatten) : 0 ≤ whF 0 l f ∧ whF 0 l f < l.length ∧ f ∈ rd_L1 l (whF 0 l f) := by
  obtain ⟨h1, h2, h3⟩ := (whF_mem l 0 f (by omega)).1 h
  refine ⟨h1, by omega, ?_⟩
  rw [Int.sub_zero] at h3
  exact h3
theorem nodup_mem : ∀ (l : List (List Int)), l.flatten.Nodup → ∀ x ∈ l, x.Nodup
  | [], _, x, h => (List.not_mem_nil h).elim
  | y :: r, hn, x, h => by
    rw [List.flatten_cons] at hn
    obtain ⟨n1, n2, _⟩ := List.nodup_append.1 hn
    rcases List.mem_cons.1 h with rfl | h
    · exact n1
    · exact nodup_mem r n2 x h
theorem row_nodup {l : List (List Int)} (hn : l.flatten.Nodup) {i : Int} (h0 : 0 ≤ i) (h1 : i < l.length) : (rd_L1 l i).Nodup := by
  exact nodup_mem l hn _ (rd_L1_mem h0 h1)
theorem remove_ev (l : List (List Int)) (f : Int) (hok : okL l = true) (hf : okI f = true) (hl : Bd l) : Ev (fun k => generations_Remove.f k l f) (remS l f) := by
  unfold generations_Remove.f remS
  refine Ev.val (check_f hok) ?_
  by_cases h0 : chkS l = 0
  · rw [if_pos h0]
    refine Ev.ite_pos h0 (Ev.val (agesAt_f hok h0 hf) ?_)
    by_cases h4 : f ∈ l.flatten
    · simp only [if_pos h4]
      obtain ⟨r1, r2, r3⟩ := row_of h4
      have hb := hl.at r1 r2
      refine Ev.ite_pos trivial (Ev.bind (clone_ev l hl) (Ev.ite_pos r1 (Ev.ite_pos r2 (Ev.bind (index_ev _ f (by omega)) (Ev.none_k fun k => ?_)))))
      obtain ⟨q1, q2, _⟩ := (posF_mem _ 0 f (by omega)).1 r3
      rw [if_pos ⟨q1, by omega⟩]
      have := erase_pos _ 0 f (by omega) (row_nodup (nodup_of h0).2.2 r1 r2) r3
      rw [Int.sub_zero] at this
      rw [this]
    · simp only [if_neg h4]; exact Ev.ite_neg (by decide) (Ev.now _)
  · rw [if_neg h0]
    exact Ev.ite_neg h0 (Ev.now _)
theorem rremove_ev (l : List (List Int)) (f : Int) (hl : Bd l) : Ev (fun k => estoversref36_Remove.f k l f) (remS l f) := by
  unfold estoversref36_Remove.f remS
  refine Ev.bind (rchk_ev l hl) ?_
  by_cases h0 : chkS l = 0
  · rw [if_pos h0]
    refine Ev.ite_pos h0 (Ev.bind (where_ev l f hl) ?_)
    by_cases h4 : f ∈ l.flatten
    · rw [if_pos h4]
      obtain ⟨r1, r2, r3⟩ := row_of h4
      have hb := hl.at r1 r2
      exact Ev.ite_neg (by omega) (Ev.bind (rclone_ev l hl) (Ev.ite_pos r1 (Ev.ite_pos r2 (Ev.bind (without_ev _ [f] (by omega) (by simp)) (Ev.now _)))))
    · rw [if_neg h4]
      exact Ev.ite_pos (by have := mt wh_ge.1 h4; omega) (Ev.now _)
  · rw [if_neg h0]
    exact Ev.ite_neg h0 (Ev.now _)
/-! Replace -/
def swp (f o x : Int) : Int := if x = f then o else x
def repS (l : List (List Int)) (f o : Int) : List (List Int) × Int :=
  if chkS l = 0 then (if isFr o = true then (if f ∈ l.flatten then (if o ∈ l.flatten then ([], 7) else (l.set (whF 0 l f).toNat ((rd_L1 l (whF 0 l f)).map (swp f o)), 0)) else ([], 6)) else ([], 2)) else ([], chkS l)
theorem set_pos : ∀ (l : List Int) (i f o : Int), 0 ≤ i → l.Nodup → f ∈ l → l.set (posF i l f - i).toNat o = l.map (swp f o)
  | [], _, _, _, _, _, h => (List.not_mem_nil h).elim
  | x :: xs, i, f, o, h0, hn, hm => by
    rw [List.nodup_cons] at hn
    rw [show posF i (x :: xs) f = if f = x then i else posF (i + 1) xs f from rfl]
    by_cases e : f = x
    · subst e
      rw [if_pos rfl, Int.sub_self]
      have h2 : xs.map (swp f o) = xs := by
        rw [List.map_congr_left (g := id), List.map_id]
        intro y hy
        unfold swp
        rw [if_neg (fun h3 : y = f => hn.1 (h3 ▸ hy))]
        rfl
      rw [List.map_cons, h2, show swp f o f = o by unfold swp; rw [if_pos rfl]]
      rfl
    · rw [if_neg e]
      rcases List.mem_cons.1 hm with h3 | h3
      · exact absurd h3 e
      · have h4 := (posF_mem xs (i + 1) f (by omega)).1 h3
        rw [show (posF (i + 1) xs f - i).toNat = (posF (i + 1) xs f - (i + 1)).toNat + 1 by omega, List.set_cons_succ, set_pos xs (i + 1) f o (by omega) hn.2 h3, List.map_cons, show swp f o x = x by unfold swp; rw [if_neg (fun h => e h.symm)]]
theorem replace_ev (l : List (List Int)) (f o : Int) (hok : okL l = true) (hf : okI f = true) (ho : okI o = true) (hl : Bd l) : Ev (fun k => generations_Replace.f k l f o) (repS l f o) := by
  unfold generations_Replace.f repS
  refine Ev.val (check_f hok) ?_
  by_cases h0 : chkS l = 0
  · rw [if_pos h0]
    refine Ev.ite_pos h0 (Ev.val (isFrame_f o) ?_)
    by_cases h1 : isFr o = true
    · rw [if_pos h1]
      refine Ev.ite_pos h1 (Ev.val (agesAt_f hok h0 hf) ?_)
      by_cases h4 : f ∈ l.flatten
      · rw [if_pos h4]
        simp only [if_pos h4]
        refine Ev.ite_pos trivial (Ev.val (agesAt_f hok h0 ho) ?_)
        by_cases h5 : o ∈ l.flatten
        · rw [if_pos h5]; simp only [if_pos h5]; exact Ev.ite_pos trivial (Ev.now _)
        · rw [if_neg h5]; simp only [if_neg h5]
          obtain ⟨r1, r2, r3⟩ := row_of h4
          have hb := hl.at r1 r2
          refine Ev.ite_neg (by decide) (Ev.bind (clone_ev l hl) (Ev.ite_pos r1 (Ev.ite_pos r2 (Ev.bind (index_ev _ f (by omega)) (Ev.none_k fun k => ?_)))))
          obtain ⟨q1, q2, _⟩ := (posF_mem _ 0 f (by omega)).1 r3
          rw [if_pos q1, if_pos (by omega)]
          have := set_pos _ 0 f o (by omega) (row_nodup (nodup_of h0).2.2 r1 r2) r3
          rw [Int.sub_zero] at this
          rw [this]
      · rw [if_neg h4]; simp only [if_neg h4]; exact Ev.ite_neg (by decide) (Ev.now _)
    · rw [if_neg h1]; exact Ev.ite_neg h1 (Ev.now _)
  · rw [if_neg h0]
    exact Ev.ite_neg h0 (Ev.now _)
theorem rrep_l0 (l : List (List Int)) (f o t : Int) (h0 : 0 ≤ t) (h1 : t < l.length) (hb : (rd_L1 l t).length ≤ 100000) (d : Nat) : ∀ j : Int, 0 ≤ j → ((rd_L1 l t).length : Int) - j = d →
    Ev (fun k => estoversref36_Replace.l0 k f o t (l.set t.toNat (((rd_L1 l t).take j.toNat).map (swp f o) ++ (rd_L1 l t).drop j.toNat)) ((rd_L1 l t).length : Int) j) (l.set t.toNat ((rd_L1 l t).map (swp f o)), 0) := by
  obtain ⟨row, hrow⟩ : ∃ row, row = rd_L1 l t := ⟨_, rfl⟩
  rw [← hrow] at hb ⊢
  have hget : ∀ r : List Int, rd_L1 (l.set t.toNat r) t = r := fun r => by
    unfold rd_L1
    rw [List.getD_eq_getElem?_getD, List.getElem?_set, if_pos rfl, if_pos (by omega)]
    rfl
  induction d with
  | zero =>
    intro j hj hd
    refine evTo (Ev.step (fun k => by simp only [estoversref36_Replace.l0]; rw [if_neg (by omega)]) (Ev.now _)) ?_
    rw [drop_end (by omega), List.append_nil, List.take_of_length_le (by omega)]
  | succ d ih =>
    intro j hj hd
    have hlt : j < row.length := by omega
    have hlen : ((row.take j.toNat).map (swp f o)).length = j.toNat := by simp; omega
    have hrd : rd ((row.take j.toNat).map (swp f o) ++ row.drop j.toNat) j = rd row j := by
      rw [drop_rd hj hlt]
      show List.getD _ j.toNat 0 = _
      rw [List.getD_eq_getElem?_getD, List.getElem?_append_right (by omega), hlen, Nat.sub_self]
      rfl
    have hstep : ∀ x, x = swp f o (rd row j) → (row.take j.toNat).map (swp f o) ++ x :: row.drop (j + 1).toNat = (row.take (j + 1).toNat).map (swp f o) ++ row.drop (j + 1).toNat := by
      intro x hx
      have hr : row[j.toNat]? = some (rd row j) := by
        unfold rd
        rw [List.getD_eq_getElem?_getD, List.getElem?_eq_getElem (by omega)]
        rfl
      rw [hx, show (j + 1).toNat = j.toNat + 1 by omega, List.take_add_one, hr]
      simp
    have h := ih (j + 1) (by omega) (by omega)
    by_cases e : rd row j = f
    · refine Ev.step (fun k => by simp only [estoversref36_Replace.l0, hget, hrd]; rw [if_pos hlt, if_pos h0, if_pos (by rw [List.length_set]; exact h1), if_pos hj, if_pos (by rw [List.length_append, hlen, List.length_drop]; omega), if_pos e, w64 (by omega), List.set_set]) ?_
      have h2 : ((row.take j.toNat).map (swp f o) ++ row.drop j.toNat).set j.toNat o = (row.take (j + 1).toNat).map (swp f o) ++ row.drop (j + 1).toNat := by
        rw [List.set_append_right _ _ (by omega), hlen, Nat.sub_self, drop_rd hj hlt, List.set_cons_zero]
        exact hstep o (by unfold swp; rw [if_pos e])
      rw [h2]
      exact h
    · refine Ev.step (fun k => by simp only [estoversref36_Replace.l0, hget, hrd]; rw [if_pos hlt, if_pos h0, if_pos (by rw [List.length_set]; exact h1), if_pos hj, if_pos (by rw [List.length_append, hlen, List.length_drop]; omega), if_neg e, w64 (by omega)]) ?_
      rw [drop_rd hj hlt, hstep (rd row j) (by unfold swp; rw [if_neg e])]
      exact h
theorem rrep_bad (l : List (List Int)) (f o : Int) : Ev (fun k => estoversref36_Replace.j0 k l f o true) ([], 2) := Ev.step (fun k => by simp only [estoversref36_Replace.j0]; rw [if_pos trivial]) (Ev.now _)
theorem rreplace_ev (l : List (List Int)) (f o : Int) (hl : Bd l) : Ev (fun k => estoversref36_Replace.f k l f o) (repS l f o) := by
  unfold estoversref36_Replace.f repS
  refine Ev.bind (rchk_ev l hl) ?_
  by_cases h0 : chkS l = 0
  · rw [if_pos h0]
    refine Ev.ite_pos h0 ?_
    by_cases h3 : o < 0
    · rw [if_neg (by unfold isFr; rw [decide_eq_false (show ¬ 0 ≤ o by omega), Bool.false_and]; decide)]; exact Ev.ite_pos h3 (rrep_bad l f o)
    · refine Ev.ite_neg h3 ?_
      by_cases h4 : o ≥ 256
      · rw [if_neg (by unfold isFr; rw [decide_eq_false (show ¬ o < 256 by omega), Bool.and_false]; decide), decide_eq_true h4]; exact rrep_bad l f o
      · have h5 : isFr o = true := by unfold isFr; rw [decide_eq_true (show o < 256 by omega), decide_eq_true (by omega)]; rfl
        rw [decide_eq_false h4, if_pos h5]
        refine Ev.step (f := fun k => _) (fun k => by simp only [estoversref36_Replace.j0]; rw [if_neg (by decide)]) ?_
        refine Ev.bind (where_ev l f hl) ?_
        by_cases h6 : f ∈ l.flatten
        · rw [if_pos h6]
          obtain ⟨r1, r2, r3⟩ := row_of h6
          have hb := hl.at r1 r2
          refine Ev.ite_neg (by omega) (Ev.bind (where_ev l o hl) ?_)
          by_cases h7 : o ∈ l.flatten
          · rw [if_pos h7]; exact Ev.ite_pos (wh_ge.2 h7) (Ev.now _)
          · rw [if_neg h7]
            refine Ev.ite_neg (fun h => h7 (wh_ge.1 h)) (Ev.bind (rclone_ev l hl) (Ev.ite_pos r1 (Ev.ite_pos r2 ?_)))
            have h := rrep_l0 l f o (whF 0 l f) r1 r2 hb (rd_L1 l (whF 0 l f)).length 0 (by omega) (by omega)
            have e : l.set (whF 0 l f).toNat (rd_L1 l (whF 0 l f)) = l := by
              unfold rd_L1
              rw [List.getD_eq_getElem?_getD, List.getElem?_eq_getElem (by omega)]
              simp
            simp only [Int.toNat_zero, List.take_zero, List.map_nil, List.nil_append, List.drop_zero] at h
            rw [e] at h
            exact h
        · rw [if_neg h6]
          exact Ev.ite_pos (by have := mt wh_ge.1 h6; omega) (Ev.now _)
  · rw [if_neg h0]
    exact Ev.ite_neg h0 (Ev.now _)
/-! short lists -/
theorem few_ok {l : List (List Int)} (hw : ∀ x ∈ l, ∀ g ∈ x, okI g = true) (h : fewB l = true) : okL l = true := by
  unfold okL
  rw [List.all_eq_true]
  intro x hx
  have h1 := (fewB_iff.1 h).2 x hx
  rw [Bool.and_eq_true]
  refine ⟨decide_eq_true (by omega), List.all_eq_true.2 fun g hg => ?_⟩
  exact hw x hx g hg
theorem few_bd {l : List (List Int)} (h : fewB l = true) : Bd l := ⟨by have := (fewB_iff.1 h).1; omega, fun x hx => by have := (fewB_iff.1 h).2 x hx; omega⟩
/-- Shorter lists. -/
def Bd2 (l : List (List Int)) : Prop := l.length ≤ 1000 ∧ ∀ x ∈ l, x.length ≤ 99999
theorem few_bd2 {l : List (List Int)} (h : fewB l = true) : Bd2 l := ⟨by have := (fewB_iff.1 h).1; omega, fun x hx => by have := (fewB_iff.1 h).2 x hx; omega⟩
theorem bd_new : Bd (List.replicate 4 []) := ⟨by simp, fun x hx => by rw [List.eq_of_mem_replicate hx]; simp⟩
theorem bd_nil : Bd [] := ⟨by simp, fun x hx => (List.not_mem_nil hx).elim⟩
theorem bd_set {l : List (List Int)} (h : Bd2 l) {i : Nat} {r : List Int} (hr : r.length ≤ 100000) : Bd (l.set i r) := by
  refine ⟨by rw [List.length_set]; exact h.1, fun x hx => ?_⟩
  rcases List.mem_or_eq_of_mem_set hx with h1 | h1
  · have := h.2 x h1; omega
  · rw [h1]; exact hr
theorem Bd2.row {l : List (List Int)} (h : Bd2 l) (i : Int) : (rd_L1 l i).length ≤ 99999 := by
  unfold rd_L1
  rw [List.getD_eq_getElem?_getD]
  cases e : l[i.toNat]? with
  | none => simp
  | some y => exact h.2 y (List.mem_of_getElem? e)
theorem bd_add {l : List (List Int)} {a f : Int} (h : Bd2 l) : Bd (addS l a f).1 := by
  unfold addS
  have := h.row a
  split
  · split
    · exact bd_nil
    · split
      · exact bd_nil
      · exact bd_set h (by simp; omega)
  · exact bd_nil
theorem bd_rem {l : List (List Int)} {f : Int} (h : Bd2 l) : Bd (remS l f).1 := by
  unfold remS
  have := h.row (whF 0 l f)
  split
  · split
    · exact bd_set h (by have := List.length_filter_le (fun x => decide (x ∉ [f])) (rd_L1 l (whF 0 l f)); omega)
    · exact bd_nil
  · exact bd_nil
theorem bd_rep {l : List (List Int)} {f o : Int} (h : Bd2 l) : Bd (repS l f o).1 := by
  unfold repS
  have := h.row (whF 0 l f)
  split
  · split
    · split
      · split
        · exact bd_nil
        · exact bd_set h (by rw [List.length_map]; omega)
      · exact bd_nil
    · exact bd_nil
  · exact bd_nil
end Go.Proofs.Ytikdcoahoocpjaa.V
