/-
  Check, Order and Where, of the program and of the reference, in plain lists.
-/
import Derived.Test.YtikdcoahoocpjaaVa
import Derived.Test.YtikdcoahoocpjaaEWhere
import Derived.Test.YtikdcoahoocpjaaQ200
namespace Go.Proofs.Ytikdcoahoocpjaa.V
open Go.RowKit Go.Proofs.Ytikdcoahoocpjaa.Q Go.Proofs.Ytikdcoahoocpjaa.Sd Go.Proofs.YtikdcoahoocpjaaW.PrintWords Go.Proofs.YtikdcoahoocpjaaW.PrintLast
set_option linter.unusedVariables false
/-- Check's answer. -/
def chkS (l : List (List Int)) : Int := if l.length = 4 then (if l.flatten.all isFr = true then (if l.flatten.Nodup then 0 else 7) else 2) else 3
/-! the map of the lists' numbers -/
theorem prsF_snd : ∀ (l : List (List Int)) s, (prsF s l).map (fun p => p.2) = l.flatten
  | [], s => rfl
  | xs :: r, s => by simp [prsF, prsF_snd r, Function.comp_def]
def foldM (m : List (Int × Int)) (ps : List (Nat × Int)) : List (Int × Int) := ps.foldl (fun m p => ins m p.2 (p.1 : Int)) m
theorem lku_ins (m : List (Int × Int)) (k k' v : Int) : lku (ins m k v) k' = if k' = k then some v else lku m k' := by
  unfold lku ins
  by_cases h : k' = k
  · subst h; simp
  · rw [if_neg h, List.find?_cons]
    have h2 : (k == k') = false := by simpa using fun e => h e.symm
    rw [h2]
    simp only [rmv]
    congr 1
    induction m with
    | nil => rfl
    | cons a r ih =>
      rw [List.filter_cons]
      by_cases h3 : a.1 = k
      · have h4 : (a.1 != k) = false := by simp [h3]
        have h5 : (a.1 == k') = false := by
          rw [h3]; exact h2
        rw [h4, List.find?_cons, h5]
        simpa using ih
      · have h4 : (a.1 != k) = true := by simpa using h3
        rw [h4, if_pos rfl, List.find?_cons, List.find?_cons, ih]
theorem ins_len_le (m : List (Int × Int)) (k v : Int) : (ins m k v).length ≤ m.length + 1 := by
  unfold ins rmv
  have := List.length_filter_le (fun p : Int × Int => p.1 != k) m
  simp only [List.length_cons]; omega
theorem ins_len (m : List (Int × Int)) (k v : Int) : (ins m k v).length = m.length + 1 ↔ ∀ p ∈ m, p.1 ≠ k := by
  unfold ins rmv
  rw [List.length_cons]
  constructor
  · intro h p hp
    have h2 : (m.filter (fun p => p.1 != k)).length = m.length := by omega
    have h3 := List.length_filter_eq_length_iff.1 h2 p hp
    simpa using h3
  · intro h
    rw [List.length_filter_eq_length_iff.2 (fun p hp => by simpa using h p hp)]
theorem fold_len_le : ∀ (ps : List (Nat × Int)) (m : List (Int × Int)), (foldM m ps).length ≤ m.length + ps.length
  | [], m => by simp [foldM]
  | p :: ps, m => by
    have h1 := fold_len_le ps (ins m p.2 (p.1 : Int))
    have h2 := ins_len_le m p.2 (p.1 : Int)
    have e : foldM m (p :: ps) = foldM (ins m p.2 (p.1 : Int)) ps := rfl
    rw [e, List.length_cons]; omega
theorem mem_ins {m : List (Int × Int)} {k v : Int} {q : Int × Int} (h : q ∈ ins m k v) : q.1 = k ∨ q ∈ m := by
  unfold ins rmv at h
  rcases List.mem_cons.1 h with rfl | h
  · exact .inl rfl
  · exact .inr (List.mem_filter.1 h).1
theorem fold_len : ∀ (ps : List (Nat × Int)) (m : List (Int × Int)), (foldM m ps).length = m.length + ps.length ↔ (ps.map (fun p => p.2)).Nodup ∧ ∀ p ∈ ps, ∀ q ∈ m, q.1 ≠ p.2
  | [], m => by simp [foldM]
  | p :: ps, m => by
    have e : foldM m (p :: ps) = foldM (ins m p.2 (p.1 : Int)) ps := rfl
    have ih := fold_len ps (ins m p.2 (p.1 : Int))
    have h1 := fold_len_le ps (ins m p.2 (p.1 : Int))
    have h2 := ins_len_le m p.2 (p.1 : Int)
    have h3 := ins_len m p.2 (p.1 : Int)
    rw [e, List.length_cons, List.map_cons, List.nodup_cons]
    constructor
    · intro h
      have h4 : (ins m p.2 (p.1 : Int)).length = m.length + 1 := by omega
      have h5 := h3.1 h4
      obtain ⟨h6, h7⟩ := ih.1 (by omega)
      refine ⟨⟨fun hm => ?_, h6⟩, fun q hq => ?_⟩
      · obtain ⟨q, hq, hq2⟩ := List.mem_map.1 hm
        exact h7 q hq (p.2, (p.1 : Int)) (List.mem_cons_self ..) hq2.symm
      · rcases List.mem_cons.1 hq with rfl | hq
        · exact h5
        · intro x hx hx2
          by_cases e2 : x.1 = p.2
          · exact h5 x hx e2
          · refine h7 q hq x ?_ hx2
            unfold ins rmv
            exact List.mem_cons_of_mem _ (List.mem_filter.2 ⟨hx, by simpa using e2⟩)
    · rintro ⟨⟨h4, h5⟩, h6⟩
      have h7 := h3.2 (h6 p (List.mem_cons_self ..))
      have h8 := ih.2 ⟨h5, fun q hq x hx hx2 => ?_⟩
      · omega
      · rcases mem_ins hx with e2 | hx
        · exact h4 (List.mem_map.2 ⟨q, hq, by rw [← hx2, e2]⟩)
        · exact h6 q (List.mem_cons_of_mem _ hq) x hx hx2
theorem agesL_eq (l : List (List Int)) : agesL l = foldM [] (prs l) := rfl
theorem ages_len (l : List (List Int)) : (agesL l).length = (prs l).length ↔ l.flatten.Nodup := by
  rw [agesL_eq]
  have h := fold_len (prs l) []
  rw [List.length_nil, Nat.zero_add] at h
  rw [h]
  unfold prs
  rw [prsF_snd]
  simp
theorem chk_eq (l : List (List Int)) : chk l = chkS l := by
  unfold chk chkS
  have h1 : (prs l).all (fun p => isFr p.2) = l.flatten.all isFr := by
    unfold prs
    rw [← prsF_snd l 0, List.all_map]
    rfl
  rw [h1]
  by_cases h : l.length = 4
  · rw [if_pos h, if_pos h]
    by_cases h2 : l.flatten.all isFr = true
    · rw [if_pos h2, if_pos h2]
      by_cases h3 : l.flatten.Nodup
      · rw [if_pos h3, if_pos ((ages_len l).2 h3)]
      · rw [if_neg h3, if_neg (fun h4 => h3 ((ages_len l).1 h4))]
    · rw [if_neg h2, if_neg h2]
  · rw [if_neg h, if_neg h]
theorem foldM_row (x : List Int) (s : Nat) (f : Int) : ∀ m : List (Int × Int), lku (foldM m (x.map (fun f => (s, f)))) f = if f ∈ x then some (s : Int) else lku m f := by
  induction x with
  | nil => intro m; simp [foldM]
  | cons a r ih =>
    intro m
    have e : foldM m ((a :: r).map (fun f => (s, f))) = foldM (ins m a (s : Int)) (r.map (fun f => (s, f))) := rfl
    rw [e, ih, lku_ins]
    by_cases h : f ∈ r
    · rw [if_pos h, if_pos (List.mem_cons_of_mem _ h)]
    · rw [if_neg h]
      by_cases h2 : f = a
      · rw [if_pos h2, if_pos (by rw [h2]; exact List.mem_cons_self ..)]
      · rw [if_neg h2, if_neg (fun h3 => by rcases List.mem_cons.1 h3 with h3 | h3 <;> contradiction)]
theorem foldM_lku : ∀ (l : List (List Int)) (s : Nat) (f : Int) (m : List (Int × Int)), l.flatten.Nodup → lku (foldM m (prsF s l)) f = if f ∈ l.flatten then some (whF (s : Int) l f) else lku m f
  | [], s, f, m, _ => by simp [foldM, prsF]
  | x :: r, s, f, m, hn => by
    have e : foldM m (prsF s (x :: r)) = foldM (foldM m (x.map (fun f => (s, f)))) (prsF (s + 1) r) := by
      simp only [foldM, prsF, List.foldl_append]
    rw [List.flatten_cons] at hn
    obtain ⟨n1, n2, n3⟩ := List.nodup_append.1 hn
    rw [e, foldM_lku r (s + 1) f _ n2, foldM_row, List.flatten_cons, show whF (s : Int) (x :: r) f = if f ∈ x then (s : Int) else whF ((s : Int) + 1) r f from rfl]
    by_cases h : f ∈ x
    · have h2 : f ∉ r.flatten := fun h2 => n3 f h f h2 rfl
      rw [if_neg h2, if_pos h, if_pos (List.mem_append_left _ h), if_pos h]
    · rw [if_neg h, if_neg h]
      by_cases h2 : f ∈ r.flatten
      · rw [if_pos h2, if_pos (List.mem_append_right _ h2)]
        congr 1
      · rw [if_neg h2, if_neg (fun h3 => by rcases List.mem_append.1 h3 with h3 | h3 <;> contradiction)]
theorem lku_ages (l : List (List Int)) (f : Int) (hn : l.flatten.Nodup) : lku (agesL l) f = if f ∈ l.flatten then some (whF 0 l f) else none := by
  have := foldM_lku l 0 f [] hn
  rw [agesL_eq]
  exact this
theorem whF_mem : ∀ (l : List (List Int)) (i f : Int), 0 ≤ i → (f ∈ l.flatten → i ≤ whF i l f ∧ whF i l f < i + l.length ∧ f ∈ l.getD (whF i l f - i).toNat []) ∧ (f ∉ l.flatten → whF i l f = -1)
  | [], _, _, _ => ⟨fun h => (List.not_mem_nil h).elim, fun _ => rfl⟩
  | x :: r, i, f, h => by
    unfold whF
    rw [List.flatten_cons, List.mem_append]
    by_cases e : f ∈ x
    · rw [if_pos e]
      refine ⟨fun _ => ⟨by omega, by simp only [List.length_cons]; omega, by rw [Int.sub_self]; exact e⟩, fun hn => absurd (.inl e) hn⟩
    · rw [if_neg e]
      obtain ⟨h1, h2⟩ := whF_mem r (i + 1) f (by omega)
      refine ⟨fun hm => ?_, fun hn => h2 (fun hm => hn (.inr hm))⟩
      rcases hm with hm | hm
      · exact absurd hm e
      · obtain ⟨q1, q2, q3⟩ := h1 hm
        refine ⟨by omega, by simp only [List.length_cons]; omega, ?_⟩
        rw [show (whF (i + 1) r f - i).toNat = (whF (i + 1) r f - (i + 1)).toNat + 1 by omega, List.getD_cons_succ]
        exact q3
/-! the program's answers -/
theorem check_f {l : List (List Int)} (h : okL l = true) : generations_Check.f l = some (chkS l) := by
  unfold generations_Check.f
  by_cases h4 : l.length = 4
  · rw [if_pos h4, if_pos h, chk_eq]
  · rw [if_neg h4]
    unfold chkS
    rw [if_neg h4]
theorem nodup_of {l : List (List Int)} (h : chkS l = 0) : l.length = 4 ∧ (∀ f ∈ l.flatten, isFr f = true) ∧ l.flatten.Nodup := by
  unfold chkS at h
  split at h
  · rename_i h4
    split at h
    · rename_i h5
      split at h
      · rename_i h6; exact ⟨h4, List.all_eq_true.1 h5, h6⟩
      · cases h
    · cases h
  · cases h
theorem chk_of {l : List (List Int)} (h4 : l.length = 4) (h5 : ∀ f ∈ l.flatten, isFr f = true) (h6 : l.flatten.Nodup) : chkS l = 0 := by
  unfold chkS
  rw [if_pos h4, if_pos (List.all_eq_true.2 h5), if_pos h6]
def whS (l : List (List Int)) (f : Int) : Int := if chkS l = 0 then whF 0 l f else -1
theorem where_f {l : List (List Int)} (h : okL l = true) {f : Int} (hf : okI f = true) : generations_Where.f l f = some (whS l f) := by
  unfold generations_Where.f whS
  rw [check_f h, Option.bind_some]
  by_cases h0 : chkS l = 0
  · rw [if_pos h0, if_pos hf, if_pos h0, lku_ages l f (nodup_of h0).2.2]
    by_cases hm : f ∈ l.flatten
    · rw [if_pos hm]; rfl
    · rw [if_neg hm, ((whF_mem l 0 f (by omega)).2 hm)]; rfl
  · rw [if_neg h0, if_neg h0]
def ordS (l : List (List Int)) : List Int × Int := if chkS l = 0 then (l.flatten, 0) else ([], chkS l)
theorem okL_flat {l : List (List Int)} (h : okL l = true) (h4 : l.length = 4) : l.flatten.length ≤ 4000 := by
  have := flat_le l 1000 (fun x hx => by
    unfold okL at h
    rw [List.all_eq_true] at h
    have := h x hx
    simp only [Bool.and_eq_true, decide_eq_true_eq] at this
    exact this.1)
  omega
theorem order_f {l : List (List Int)} (h : okL l = true) : generations_Order.f l = some (ordS l) := by
  unfold generations_Order.f ordS
  rw [check_f h, Option.bind_some]
  by_cases h0 : chkS l = 0
  · have h4 := (nodup_of h0).1
    have := okL_flat h h4
    rw [if_pos h0, if_pos h0]
    unfold slices_Concat_int_int.f
    rw [if_pos ⟨by omega, by omega⟩]
    rfl
  · rw [if_neg h0, if_neg h0]
theorem agesAt_f {l : List (List Int)} (h : okL l = true) (h0 : chkS l = 0) {f : Int} (hf : okI f = true) : agesAt.f l f = some (if f ∈ l.flatten then (whF 0 l f, true) else (0, false)) := by
  unfold agesAt.f
  rw [if_pos ⟨(nodup_of h0).1, h, hf⟩, lku_ages l f (nodup_of h0).2.2]
  by_cases hm : f ∈ l.flatten
  · rw [if_pos hm, if_pos hm]; rfl
  · rw [if_neg hm, if_neg hm]; rfl
/-! the reference's Check -/
theorem rchk_l1 (l : List (List Int)) (i : Int) (row : List Int) (hl : row.length ≤ 1000000) {R : Int} (hw : wrap64 (i + 1) = i + 1) (hR : Ev (fun k => estoversref36_Check.l0 k l l (l.length : Int) (i + 1)) R) (d : Nat) :
    ∀ j : Int, 0 ≤ j → (row.length : Int) - j = d → Ev (fun k => estoversref36_Check.l1 k l l (l.length : Int) i row (row.length : Int) j) (if (row.drop j.toNat).all isFr = true then R else 2) := by
  induction d with
  | zero =>
    intro j hj hd
    rw [drop_end (by omega)]
    exact evTo (Ev.step (fun k => by simp only [estoversref36_Check.l1]; rw [if_neg (by omega), hw]) hR) (by simp)
  | succ d ih =>
    intro j hj hd
    have hlt : j < row.length := by omega
    rw [drop_rd hj hlt, List.all_cons]
    by_cases e : rd row j < 0
    · refine evTo (Ev.step (fun k => by simp only [estoversref36_Check.l1]; rw [if_pos hlt, if_pos hj, if_pos hlt, if_pos e]) (Ev.now 2)) ?_
      rw [show isFr (rd row j) = false by unfold isFr; rw [decide_eq_false (by omega)]; rfl]; rfl
    · by_cases e2 : rd row j ≥ 256
      · refine evTo (Ev.step (fun k => by simp only [estoversref36_Check.l1]; rw [if_pos hlt, if_pos hj, if_pos hlt, if_neg e, if_pos e2]) (Ev.now 2)) ?_
        rw [show isFr (rd row j) = false by unfold isFr; rw [decide_eq_false (show ¬ rd row j < 256 by omega), Bool.and_false]]; rfl
      · refine evTo (Ev.step (fun k => by simp only [estoversref36_Check.l1]; rw [if_pos hlt, if_pos hj, if_pos hlt, if_neg e, if_neg e2, w64 (by omega)]) (ih (j + 1) (by omega) (by omega))) ?_
        rw [show isFr (rd row j) = true by unfold isFr; rw [decide_eq_true (show rd row j < 256 by omega), decide_eq_true (by omega)]; rfl, Bool.true_and]
theorem rchk_l0 (l : List (List Int)) (hl : Bd l) {R : Int} (hR : Ev (fun k => estoversref36_Check.l2 k (List.replicate 256 false) l (l.length : Int) 0) R) (d : Nat) :
    ∀ i : Int, 0 ≤ i → (l.length : Int) - i = d → Ev (fun k => estoversref36_Check.l0 k l l (l.length : Int) i) (if (l.drop i.toNat).flatten.all isFr = true then R else 2) := by
  have hl1 := hl.1
  induction d with
  | zero =>
    intro i h0 hd
    rw [drop_end (by omega)]
    exact evTo (Ev.step (fun k => by simp only [estoversref36_Check.l0]; rw [if_neg (by omega), if_pos (by decide)]) hR) (by simp)
  | succ d ih =>
    intro i h0 hd
    have hlt : i < l.length := by omega
    rw [drop_L h0 hlt, List.flatten_cons, List.all_append]
    refine evTo (Ev.step (fun k => by simp only [estoversref36_Check.l0]; rw [if_pos hlt, if_pos h0, if_pos hlt]) (rchk_l1 l i (rd_L1 l i) (by have := hl.at h0 hlt; omega) (w64 (by omega)) (ih (i + 1) (by omega) (by omega)) (rd_L1 l i).length 0 (by omega) (by omega))) ?_
    simp only [Int.toNat_zero, List.drop_zero]
    cases (rd_L1 l i).all isFr <;> simp
theorem rowbad1 (l : List (List Int)) (i : Int) (row : List Int) (hl : row.length ≤ 1000000) (d : Nat) :
    ∀ j : Int, 0 ≤ j → (row.length : Int) - j = d → (row.drop j.toNat).all isFr = false → Ev (fun k => estoversref36_Check.l1 k l l (l.length : Int) i row (row.length : Int) j) 2 := by
  induction d with
  | zero =>
    intro j hj hd hb
    rw [drop_end (by omega)] at hb; simp at hb
  | succ d ih =>
    intro j hj hd hb
    have hlt : j < row.length := by omega
    rw [drop_rd hj hlt, List.all_cons] at hb
    by_cases e : rd row j < 0
    · exact Ev.step (fun k => by simp only [estoversref36_Check.l1]; rw [if_pos hlt, if_pos hj, if_pos hlt, if_pos e]) (Ev.now 2)
    · by_cases e2 : rd row j ≥ 256
      · exact Ev.step (fun k => by simp only [estoversref36_Check.l1]; rw [if_pos hlt, if_pos hj, if_pos hlt, if_neg e, if_pos e2]) (Ev.now 2)
      · rw [show isFr (rd row j) = true by unfold isFr; rw [decide_eq_true (show rd row j < 256 by omega), decide_eq_true (by omega)]; rfl, Bool.true_and] at hb
        exact Ev.step (fun k => by simp only [estoversref36_Check.l1]; rw [if_pos hlt, if_pos hj, if_pos hlt, if_neg e, if_neg e2, w64 (by omega)]) (ih (j + 1) (by omega) (by omega) hb)
theorem rowbad (l : List (List Int)) (i : Int) (row : List Int) (h0 : 0 ≤ i) (hlt : i < l.length) (hrow : rd_L1 l i = row) (hl : row.length ≤ 1000000) (hb : row.all isFr = false) : Ev (fun k => estoversref36_Check.l0 k l l (l.length : Int) i) 2 := by
  subst hrow
  exact Ev.step (fun k => by simp only [estoversref36_Check.l0]; rw [if_pos hlt, if_pos h0, if_pos hlt]) (rowbad1 l i (rd_L1 l i) hl (rd_L1 l i).length 0 (by omega) (by omega) (by simpa using hb))
def freshF : List Int → List Int → Bool
  | _, [] => true
  | pre, f :: r => if f ∈ pre then false else freshF (f :: pre) r
theorem freshF_iff : ∀ (r pre : List Int), freshF pre r = true ↔ r.Nodup ∧ ∀ f ∈ r, f ∉ pre
  | [], pre => by simp [freshF]
  | f :: r, pre => by
    unfold freshF
    by_cases h : f ∈ pre
    · rw [if_pos h]
      constructor
      · intro h2; cases h2
      · intro h2; exact absurd h (h2.2 f (List.mem_cons_self ..))
    · rw [if_neg h, freshF_iff r (f :: pre), List.nodup_cons]
      constructor
      · rintro ⟨h1, h2⟩
        refine ⟨⟨fun h3 => h2 f h3 (List.mem_cons_self ..), h1⟩, fun g hg => ?_⟩
        rcases List.mem_cons.1 hg with rfl | hg
        · exact h
        · exact fun h3 => h2 g hg (List.mem_cons_of_mem _ h3)
      · rintro ⟨⟨h1, h2⟩, h3⟩
        refine ⟨h2, fun g hg h4 => ?_⟩
        rcases List.mem_cons.1 h4 with rfl | h4
        · exact h1 hg
        · exact h3 g (List.mem_cons_of_mem _ hg) h4
def SeenOf (seen : List Bool) (pre : List Int) : Prop := seen.length = 256 ∧ ∀ f : Int, 0 ≤ f → f < 256 → rdOf false seen f = decide (f ∈ pre)
theorem SeenOf.put {seen : List Bool} {pre : List Int} (h : SeenOf seen pre) {f : Int} (h0 : 0 ≤ f) (h1 : f < 256) : SeenOf (seen.set f.toNat true) (f :: pre) := by
  refine ⟨by rw [List.length_set]; exact h.1, fun g hg hg2 => ?_⟩
  have h2 := h.2 g hg hg2
  unfold rdOf at h2 ⊢
  rw [List.getD_eq_getElem?_getD] at h2 ⊢
  rw [List.getElem?_set]
  by_cases e : f = g
  · subst e
    rw [if_pos rfl, if_pos (by have := h.1; omega)]
    simp
  · rw [if_neg (by omega), h2]
    have e2 : g ≠ f := fun h => e h.symm
    simp [e2]
theorem rchk_l3 (l : List (List Int)) (i : Int) (row : List Int) (hl : row.length ≤ 1000000) (rest : List Int) (hw : wrap64 (i + 1) = i + 1) (hr : ∀ f ∈ row, isFr f = true)
    (hR : ∀ seen pre, SeenOf seen pre → Ev (fun k => estoversref36_Check.l2 k seen l (l.length : Int) (i + 1)) (if freshF pre rest = true then 0 else 7)) (d : Nat) :
    ∀ (j : Int) (seen : List Bool) (pre : List Int), 0 ≤ j → (row.length : Int) - j = d → SeenOf seen pre → Ev (fun k => estoversref36_Check.l3 k seen l (l.length : Int) i row (row.length : Int) j) (if freshF pre (row.drop j.toNat ++ rest) = true then 0 else 7) := by
  induction d with
  | zero =>
    intro j seen pre hj hd hs
    rw [drop_end (by omega)]
    exact Ev.step (fun k => by simp only [estoversref36_Check.l3]; rw [if_neg (by omega), hw]) (hR seen pre hs)
  | succ d ih =>
    intro j seen pre hj hd hs
    have hlt : j < row.length := by omega
    have hfr := hr _ (rd_mem hj hlt)
    unfold isFr at hfr
    simp only [Bool.and_eq_true, decide_eq_true_eq] at hfr
    rw [drop_rd hj hlt, List.cons_append]
    have hsl : rd row j < (seen.length : Int) := by rw [hs.1]; exact hfr.2
    have hsv := hs.2 _ hfr.1 hfr.2
    unfold freshF
    by_cases e : rd row j ∈ pre
    · rw [decide_eq_true e] at hsv
      refine evTo (Ev.step (fun k => by simp only [estoversref36_Check.l3]; rw [if_pos hlt, if_pos hj, if_pos hlt, if_pos hfr.1, if_pos hsl, if_pos hsv]) (Ev.now 7)) ?_
      rw [if_pos e]; rfl
    · rw [decide_eq_false e] at hsv
      refine evTo (Ev.step (fun k => by simp only [estoversref36_Check.l3]; rw [if_pos hlt, if_pos hj, if_pos hlt, if_pos hfr.1, if_pos hsl, if_neg (by rw [hsv]; decide), w64 (by omega)]) (ih (j + 1) _ _ (by omega) (by omega) (hs.put hfr.1 hfr.2))) ?_
      rw [if_neg e]
theorem rchk_l2 (l : List (List Int)) (hl : Bd l) (hf : ∀ f ∈ l.flatten, isFr f = true) (d : Nat) :
    ∀ (i : Int) (seen : List Bool) (pre : List Int), 0 ≤ i → (l.length : Int) - i = d → SeenOf seen pre → Ev (fun k => estoversref36_Check.l2 k seen l (l.length : Int) i) (if freshF pre (l.drop i.toNat).flatten = true then 0 else 7) := by
  have hl1 := hl.1
  induction d with
  | zero =>
    intro i seen pre h0 hd _
    rw [drop_end (by omega)]
    exact evTo (Ev.step (fun k => by simp only [estoversref36_Check.l2]; rw [if_neg (by omega)]) (Ev.now 0)) (by simp [freshF])
  | succ d ih =>
    intro i seen pre h0 hd hs
    have hlt : i < l.length := by omega
    rw [drop_L h0 hlt, List.flatten_cons]
    have h := rchk_l3 l i (rd_L1 l i) (by have := hl.at h0 hlt; omega) (l.drop (i + 1).toNat).flatten (w64 (by omega)) (fun f hm => hf f (List.mem_flatten.2 ⟨_, rd_L1_mem h0 hlt, hm⟩)) (fun s p hs => ih (i + 1) s p (by omega) (by omega) hs) (rd_L1 l i).length 0 seen pre (by omega) (by omega) hs
    exact Ev.step (fun k => by simp only [estoversref36_Check.l2]; rw [if_pos hlt, if_pos h0, if_pos hlt]) h
theorem rchk_ev (l : List (List Int)) (hl : Bd l) : Ev (fun k => estoversref36_Check.f k l) (chkS l) := by
  unfold estoversref36_Check.f chkS
  by_cases h4 : l.length = 4
  · simp only [if_pos h4]
    simp only [if_pos (show (l.length : Int) = 4 by omega)]
    by_cases h5 : l.flatten.all isFr = true
    · have h2 := rchk_l2 l hl (List.all_eq_true.1 h5) l.length 0 (List.replicate 256 false) [] (by omega) (by omega) ⟨List.length_replicate, fun f h0 h1 => by
        unfold rdOf
        rw [List.getD_eq_getElem?_getD, List.getElem?_replicate]
        split <;> rfl⟩
      have h := rchk_l0 l hl h2 l.length 0 (by omega) (by omega)
      refine evTo h ?_
      simp only [Int.toNat_zero, List.drop_zero]
      rw [if_pos h5, if_pos h5]
      by_cases h6 : l.flatten.Nodup
      · rw [if_pos h6, if_pos ((freshF_iff _ _).2 ⟨h6, fun _ _ => List.not_mem_nil⟩)]
      · rw [if_neg h6, if_neg (fun h7 => h6 ((freshF_iff _ _).1 h7).1)]
    · rw [if_neg h5]
      have key : ∀ (d : Nat) (i : Int), 0 ≤ i → (l.length : Int) - i = d → (l.drop i.toNat).flatten.all isFr = false → Ev (fun k => estoversref36_Check.l0 k l l (l.length : Int) i) 2 := by
        intro d
        induction d with
        | zero =>
          intro i h0 hd hb
          rw [drop_end (by omega)] at hb; simp at hb
        | succ d ih =>
          intro i h0 hd hb
          have hlt : i < l.length := by omega
          rw [drop_L h0 hlt, List.flatten_cons, List.all_append] at hb
          by_cases hrow : (rd_L1 l i).all isFr = true
          · rw [hrow, Bool.true_and] at hb
            refine evTo (Ev.step (fun k => by simp only [estoversref36_Check.l0]; rw [if_pos hlt, if_pos h0, if_pos hlt]) (rchk_l1 l i (rd_L1 l i) (by have := hl.at h0 hlt; omega) (w64 (by omega)) (ih (i + 1) (by omega) (by omega) hb) (rd_L1 l i).length 0 (by omega) (by omega))) ?_
            split <;> rfl
          · have hl2 := hl.at h0 hlt
            exact rowbad l i (rd_L1 l i) h0 hlt rfl (by omega) (by simpa using hrow)
      exact key l.length 0 (by omega) (by omega) (by simpa using h5)
  · simp only [if_neg (show ¬ (l.length : Int) = 4 by omega)]
    rw [if_neg h4]
    exact Ev.now 3
end Go.Proofs.Ytikdcoahoocpjaa.V
