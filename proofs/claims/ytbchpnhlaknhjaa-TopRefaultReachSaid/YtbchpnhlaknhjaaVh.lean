/-
  The cache with two lists and the bound 0 keeps what LRU keeps; what it tells of each reference, beside the stack distances.
-/
import Derived.Test.YtbchpnhlaknhjaaVg
import Derived.Test.YtbchpnhlaknhjaaELists
namespace Go.Proofs.Ytbchpnhlaknhjaa.V
open Go.RowKit Go.Proofs.Ytbchpnhlaknhjaa.Q Go.Proofs.Ytbchpnhlaknhjaa.Sd Go.Proofs.Ytbchpnhlaknhjaa.Bel Go.Proofs.YtbchpnhlaknhjaaW.PrintWords Go.Proofs.YtbchpnhlaknhjaaW.PrintLast Go.Proofs.YtbchpnhlaknhjaaW.PrintMore
set_option linter.unusedVariables false
set_option linter.unusedSimpArgs false

/-- All but r. -/
def no (r : Int) (S : List Int) : List Int := S.filter (fun x => decide (x ≠ r))
theorem no_cons (r x : Int) (S : List Int) : no r (x :: S) = if x = r then no r S else x :: no r S := by
  unfold no
  by_cases h : x = r
  · rw [if_pos h, List.filter_cons_of_neg (by simpa using h)]
  · rw [if_neg h, List.filter_cons_of_pos (by simpa using h)]
theorem no_of (r : Int) : ∀ (S : List Int), r ∉ S → no r S = S
  | [], _ => rfl
  | x :: xs, h => by
    rw [no_cons, if_neg (fun e => h (by rw [e]; exact List.mem_cons_self)), no_of r xs (fun hh => h (List.mem_cons_of_mem _ hh))]
theorem mem_no {r p : Int} {S : List Int} : p ∈ no r S ↔ p ∈ S ∧ p ≠ r := by simp [no]
theorem erase_pos (r : Int) : ∀ (S : List Int) (i : Int), 0 ≤ i → S.Nodup → r ∈ S → S.eraseIdx (posF i S r - i).toNat = no r S
  | [], _, _, _, h => by simp at h
  | x :: xs, i, hi, hn, hm => by
    rw [List.nodup_cons] at hn
    unfold posF
    rw [no_cons]
    by_cases e : r = x
    · rw [if_pos e, if_pos e.symm, no_of r xs (e ▸ hn.1)]
      simp
    · rw [if_neg e, if_neg (fun h => e h.symm)]
      have hm2 : r ∈ xs := (List.mem_cons.1 hm).resolve_left e
      have h := erase_pos r xs (i + 1) (by omega) hn.2 hm2
      have hp := (posF_mem xs (i + 1) r (by omega)).2 hm2
      have hr := posF_range xs (i + 1) r (by omega)
      rw [show (posF (i + 1) xs r - i).toNat = (posF (i + 1) xs r - (i + 1)).toNat + 1 by omega, List.eraseIdx_cons_succ, h]
theorem wo_no (S : List Int) (r : Int) (hn : S.Nodup) : wo S (posF 0 S r) = no r S := by
  by_cases h : r ∈ S
  · have hp := (posF_mem S 0 r (by omega)).2 h
    rw [wo_erase S _ hp]
    have := erase_pos r S 0 (by omega) hn h
    rw [Int.sub_zero] at this
    exact this
  · have hp := (posF_neg_iff S r).2 h
    unfold wo
    rw [if_pos hp, no_of r S h]
theorem touch_no (S : List Int) (r : Int) (hn : S.Nodup) : (touch S r).1 = r :: no r S := by simp only [touch]; rw [wo_no S r hn]
theorem posF_shift (p : Int) : ∀ (S : List Int) (i : Int), 0 ≤ i → p ∈ S → posF (i + 1) S p = posF i S p + 1
  | [], _, _, h => by simp at h
  | x :: xs, i, hi, h => by
    unfold posF
    by_cases e : p = x
    · rw [if_pos e, if_pos e]
    · rw [if_neg e, if_neg e, posF_shift p xs (i + 1) (by omega) ((List.mem_cons.1 h).resolve_left e)]
theorem posF_no {p r : Int} (hne : p ≠ r) : ∀ (S : List Int) (i : Int), 0 ≤ i → p ∈ S → posF i (no r S) p ≤ posF i S p ∧ (r ∈ S → posF i S r < posF i S p → posF i (no r S) p ≤ posF i S p - 1)
  | [], _, _, h => by simp at h
  | x :: xs, i, hi, h => by
    rw [no_cons]
    by_cases e : x = r
    · rw [if_pos e]
      have hm : p ∈ xs := (List.mem_cons.1 h).resolve_left (fun e' => hne (e'.trans e))
      have hs := posF_shift p xs i hi hm
      obtain ⟨h1, _⟩ := posF_no hne xs i hi hm
      have : posF i (x :: xs) p = posF (i + 1) xs p := by rw [posF, if_neg (fun e' => hne (e'.trans e))]
      rw [this]
      exact ⟨by omega, fun _ _ => by omega⟩
    · rw [if_neg e]
      by_cases e2 : p = x
      · subst e2
        have h1 : posF i (p :: no r xs) p = i := by rw [posF, if_pos rfl]
        have h2 : posF i (p :: xs) p = i := by rw [posF, if_pos rfl]
        rw [h1, h2]
        refine ⟨Int.le_refl _, fun hr hlt => ?_⟩
        have h3 := (posF_mem (p :: xs) i r hi).2 hr
        have h4 := posF_range (p :: xs) i r hi
        omega
      · have hm : p ∈ xs := (List.mem_cons.1 h).resolve_left e2
        obtain ⟨h1, h2⟩ := posF_no hne xs (i + 1) (by omega) hm
        have a1 : posF i (x :: no r xs) p = posF (i + 1) (no r xs) p := by rw [posF, if_neg e2]
        have a2 : posF i (x :: xs) p = posF (i + 1) xs p := by rw [posF, if_neg e2]
        have a3 : posF i (x :: xs) r = posF (i + 1) xs r := by rw [posF, if_neg (fun e' => e e'.symm)]
        rw [a1, a2, a3]
        refine ⟨h1, fun hr => h2 ((List.mem_cons.1 hr).resolve_left (fun e' => e e'.symm))⟩
theorem posF_get : ∀ (S : List Int) (i : Int) (k : Nat), 0 ≤ i → k < S.length → posF i S (S.getD k 0) ≤ i + k
  | [], _, _, _, h => by simp at h
  | x :: xs, i, k, hi, hk => by
    unfold posF
    split
    · omega
    · rename_i hne
      cases k with
      | zero => exact absurd rfl hne
      | succ k =>
        have := posF_get xs (i + 1) k (by omega) (by simpa using hk)
        simp only [List.getD_cons_succ]
        omega
theorem mem_take_pos (S : List Int) (r : Int) (n : Nat) : r ∈ S.take n ↔ 0 ≤ posF 0 S r ∧ posF 0 S r < n := by
  have h1 := posF_mem (S.take n) 0 r (by omega)
  rw [← h1, posF_take S 0 r n (by omega)]
  split <;> omega

/-- What is told of a reference beside its stack distance. -/
structure Rel (n : Nat) (d x : Int) : Prop where
  hit : x = -1 ↔ 0 ≤ d ∧ d < n
  fresh : x = -2 ↔ d = -1
  reach : 0 ≤ x → n ≤ d ∧ d < n + x + 1
structure LI (n : Nat) (S : List Int) (c : Lst) : Prop where
  nod : S.Nodup
  ina : c.inact = (S.take n).reverse
  seen : ∀ p a, lku c.whn p = some a → p ∈ S ∧ a ≤ c.count ∧ 0 ≤ a
  cnt : 0 ≤ c.count
  out : ∀ p ∈ S, p ∉ S.take n → ∃ a, lku c.whn p = some a ∧ posF 0 S p ≤ n + (c.count - a)
theorem no_reverse (r : Int) (S : List Int) : no r S.reverse = (no r S).reverse := by simp [no, List.filter_reverse]
theorem LI.step {n : Nat} (hn : 1 ≤ n) {S : List Int} {c : Lst} (h : LI n S c) (r : Int) :
    LI n (touch S r).1 (lsStep n c r) ∧ ∃ x, (lsStep n c r).out = c.out ++ [x] ∧ Rel n (touch S r).2 x ∧ x ≤ c.count ∧ (lsStep n c r).count ≤ c.count + 1 := by
  obtain ⟨h1, h2, h3, hc0, h4⟩ := h
  have ht := touch_no S r h1
  have hnod := touch_nodup S r h1
  obtain ⟨e1, e2⟩ := touch_take S r n
  have htk := touch_no (S.take n) r (h1.sublist (List.take_sublist _ _))
  have hnt := h1.sublist (List.take_sublist n S)
  have hp2 : (touch S r).2 = posF 0 S r := rfl
  have hmt := mem_take_pos S r n
  have hmi : 0 ≤ posF 0 c.inact r ↔ r ∈ S.take n := by
    have h5 := posF_mem c.inact 0 r (by omega)
    rw [h2, List.mem_reverse] at h5
    rw [h2]; exact h5
  have hSr : ∀ p ∈ S, p ∈ (touch S r).1 := by
    intro p hp
    rw [ht, List.mem_cons, mem_no]
    by_cases e : p = r
    · exact .inl e
    · exact .inr ⟨hp, e⟩
  have hrS : ∀ p ∈ (touch S r).1, p ≠ r → p ∈ S := fun p hp hne => (touch_mem S r p hp).resolve_right hne
  have hup : ∀ p ∈ S, p ≠ r → posF 0 (touch S r).1 p ≤ posF 0 S p + 1 := by
    intro p hp hne
    rw [ht, posF, if_neg hne, posF_shift p (no r S) 0 (by omega) (mem_no.2 ⟨hp, hne⟩)]
    have := (posF_no hne S 0 (by omega) hp).1
    omega
  by_cases hm : r ∈ S.take n
  · have hpi := hmi.2 hm
    have e : lsStep n c r = { c with inact := no r c.inact ++ [r], out := c.out ++ [-1] } := by
      unfold lsStep
      rw [if_pos hpi]
      have h5 := erase_pos r c.inact 0 (by omega) (by rw [h2]; rw [List.Nodup, List.pairwise_reverse]; exact hnt.imp (fun h e => h e.symm)) (by rw [h2, List.mem_reverse]; exact hm)
      rw [Int.sub_zero] at h5
      rw [h5]
    have hk : (touch S r).1.take n = r :: no r (S.take n) := by
      rw [← e2, htk]
      unfold cutT
      rw [if_neg]
      have h6 : (no r (S.take n)).length + 1 ≤ (S.take n).length := by
        have := le_of_sub (X := r :: no r (S.take n)) (Y := S.take n) (by rw [← htk]; exact touch_nodup _ _ hnt) (fun p hp => by
          rcases List.mem_cons.1 hp with rfl | hp
          · exact hm
          · exact (mem_no.1 hp).1)
        simpa using this
      have h7 : (S.take n).length ≤ n := by rw [List.length_take]; omega
      simp only [List.length_cons]; omega
    rw [e]
    refine ⟨⟨hnod, ?_, fun p a ha => ⟨hSr p (h3 p a ha).1, (h3 p a ha).2⟩, hc0, fun p hp hnp => ?_⟩, -1, rfl, ⟨⟨fun _ => by rw [hp2]; exact hmt.1 hm, fun _ => rfl⟩, ⟨fun h => by omega, fun h => by have := hmt.1 hm; rw [hp2] at h; omega⟩, fun h => by omega⟩, by omega, by simp only; omega⟩
    · simp only
      rw [hk, h2, no_reverse, List.reverse_cons]
    · rw [hk, List.mem_cons, mem_no] at hnp
      have hne : p ≠ r := fun e => hnp (.inl e)
      have hpS := hrS p hp hne
      have hpt : p ∉ S.take n := fun h => hnp (.inr ⟨h, hne⟩)
      obtain ⟨a, ha, hle⟩ := h4 p hpS hpt
      refine ⟨a, ha, ?_⟩
      have h5 := (posF_no hne S 0 (by omega) hpS).2 (List.mem_of_mem_take hm) (by
        have a1 := hmt.1 hm
        have a2 := mem_take_pos S p n
        have a3 := (posF_mem S 0 p (by omega)).2 hpS
        have a4 : ¬ (posF 0 S p < n) := fun h => hpt (a2.2 ⟨a3, h⟩)
        omega)
      rw [ht, posF, if_neg hne, posF_shift p (no r S) 0 (by omega) (mem_no.2 ⟨hpS, hne⟩)]
      simp only
      omega
  · have hpi : ¬ 0 ≤ posF 0 c.inact r := fun h => hm (hmi.1 h)
    have hk : (touch S r).1.take n = r :: S.take (n - 1) := by
      rw [← e2, htk, no_of r _ hm, cutT_eq _ _ (by simp; omega)]
      obtain ⟨g, rfl⟩ : ∃ g, n = g + 1 := ⟨n - 1, by omega⟩
      rw [List.take_succ_cons, List.take_take]
      congr 2
      omega
    have hrel : Rel n (touch S r).2 (dist c.whn c.count r) := by
      rw [hp2]
      have hr := posF_range S 0 r (by omega)
      have hneg := posF_neg_iff S r
      have hnot : ¬ (0 ≤ posF 0 S r ∧ posF 0 S r < n) := fun h => hm (hmt.2 h)
      unfold dist
      cases hl : lku c.whn r with
      | none =>
        have hrn : r ∉ S := fun h => by obtain ⟨a, ha, _⟩ := h4 r h hm; rw [hl] at ha; cases ha
        have := hneg.2 hrn
        exact ⟨⟨fun h => by simp at h, fun h => absurd h hnot⟩, ⟨fun _ => by omega, fun _ => rfl⟩, fun h => by simp at h⟩
      | some a =>
        obtain ⟨hrs, hac, _⟩ := h3 r a hl
        obtain ⟨a', ha', hle⟩ := h4 r hrs hm
        rw [hl] at ha'
        cases ha'
        have hpos := (posF_mem S 0 r (by omega)).2 hrs
        exact ⟨⟨fun h => by simp only at h; omega, fun h => absurd h hnot⟩, ⟨fun h => by simp only at h; omega, fun h => by omega⟩, fun _ => by simp only; omega⟩
    have hxc : dist c.whn c.count r ≤ c.count := by
      unfold dist
      cases hl : lku c.whn r with
      | none => simp only; omega
      | some a => have := h3 r a hl; simp only; omega
    by_cases hc : (c.inact.length : Int) = n
    · have hlen : (S.take n).length = n := by rw [h2, List.length_reverse] at hc; omega
      have hSn : n ≤ S.length := by rw [List.length_take] at hlen; omega
      have e : lsStep n c r = { whn := ins c.whn (rd c.inact 0) (c.count + 1), count := c.count + 1, inact := c.inact.drop 1 ++ [r], out := c.out ++ [dist c.whn c.count r] } := by
        unfold lsStep
        rw [if_neg hpi, if_pos hc]
      have hq : rd c.inact 0 = S.getD (n - 1) 0 := by
        rw [h2]
        simp only [rd, List.getD_eq_getElem?_getD]
        rw [show (0 : Int).toNat = 0 from rfl, List.getElem?_reverse (by rw [hlen]; omega), hlen, List.getElem?_take_of_lt (by omega), show n - 1 - 0 = n - 1 by omega]
      have hqS : S.getD (n - 1) 0 ∈ S.take n := by
        rw [mem_take_pos]
        have a1 := posF_get S 0 (n - 1) (by omega) (by omega)
        have a2 := (posF_mem S 0 (S.getD (n - 1) 0) (by omega)).2 (by
          rw [List.getD_eq_getElem?_getD, List.getElem?_eq_getElem (by omega)]; exact List.getElem_mem _)
        omega
      rw [e]
      refine ⟨⟨hnod, ?_, fun p a ha => ?_, by simp only; omega, fun p hp hnp => ?_⟩, _, rfl, hrel, hxc, by simp only; omega⟩
      · simp only
        rw [hk, h2, List.drop_reverse, hlen, List.take_take, List.reverse_cons]
        congr 2
        congr 1
        omega
      · simp only at ha ⊢
        rw [lku_ins] at ha
        split at ha
        · rename_i e3
          simp only [Option.some.injEq] at ha
          rw [← e3, hq]
          exact ⟨hSr _ (List.mem_of_mem_take hqS), by omega, by omega⟩
        · have := h3 p a ha
          exact ⟨hSr p this.1, by omega, by omega⟩
      · rw [hk, List.mem_cons] at hnp
        have hne : p ≠ r := fun e => hnp (.inl e)
        have hpS := hrS p hp hne
        have hu := hup p hpS hne
        simp only
        rw [lku_ins, hq]
        by_cases e3 : S.getD (n - 1) 0 = p
        · rw [if_pos e3]
          refine ⟨c.count + 1, rfl, ?_⟩
          have := posF_get S 0 (n - 1) (by omega) (by omega)
          rw [e3] at this
          omega
        · rw [if_neg e3]
          have hpt : p ∉ S.take n := by
            intro h
            rw [show n = (n - 1) + 1 by omega, List.take_add_one, List.mem_append] at h
            rcases h with h | h
            · exact hnp (.inr h)
            · rw [List.getElem?_eq_getElem (show n - 1 < S.length by omega)] at h
              simp only [Option.toList_some, List.mem_singleton] at h
              apply e3
              rw [List.getD_eq_getElem?_getD, List.getElem?_eq_getElem (show n - 1 < S.length by omega)]
              exact h.symm
          obtain ⟨a, ha, hle⟩ := h4 p hpS hpt
          exact ⟨a, ha, by omega⟩
    · have hlt : S.length < n := by rw [h2, List.length_reverse, List.length_take] at hc; omega
      have e : lsStep n c r = { c with inact := c.inact ++ [r], out := c.out ++ [dist c.whn c.count r] } := by
        unfold lsStep
        rw [if_neg hpi, if_neg hc]
      have hl2 := touch_length S r
      have hfull : (touch S r).1.take n = (touch S r).1 := List.take_of_length_le (by omega)
      have hSt : S.take n = S := List.take_of_length_le (by omega)
      rw [e]
      refine ⟨⟨hnod, ?_, fun p a ha => ⟨hSr p (h3 p a ha).1, (h3 p a ha).2⟩, hc0, fun p hp hnp => absurd (by rw [hfull]; exact hp) hnp⟩, _, rfl, hrel, hxc, by simp only; omega⟩
      simp only
      rw [hk, h2, hSt, List.take_of_length_le (by omega), List.reverse_cons]
theorem li_fold {n : Nat} (hn : 1 ≤ n) : ∀ (rs S : List Int) (c : Lst), LI n S c → ∃ xs, (rs.foldl (lsStep n) c).out = c.out ++ xs ∧ xs.length = rs.length ∧ mis xs = cntF n (dists S rs) ∧ ∀ j : Nat, j < rs.length → Rel n ((dists S rs).getD j 0) (xs.getD j 0) ∧ xs.getD j 0 ≤ c.count + rs.length
  | [], S, c, h => ⟨[], by simp, rfl, rfl, fun j hj => by simp at hj⟩
  | r :: rs, S, c, h => by
    obtain ⟨h1, x, h2, h3, h5, h6⟩ := h.step hn r
    obtain ⟨xs, a1, a2, a3, a4⟩ := li_fold hn rs _ _ h1
    refine ⟨x :: xs, by rw [List.foldl_cons, a1, h2, List.append_assoc]; rfl, by simp [a2], ?_, fun j hj => ?_⟩
    · simp only [dists]
      rw [mis_cons, cntF_cons, a3]
      have := h3.hit
      by_cases e : x = -1
      · rw [if_pos e, if_neg (by have := this.1 e; omega)]
      · rw [if_neg e, if_pos (by
          apply Decidable.byContradiction
          intro hh
          exact e (this.2 (by omega)))]
    · simp only [dists]
      cases j with
      | zero => exact ⟨h3, by simp only [List.getD_cons_zero, List.length_cons]; omega⟩
      | succ j =>
        have h7 := a4 j (by simpa using hj)
        simp only [List.getD_cons_succ, List.length_cons]
        exact ⟨h7.1, by have := h7.2; omega⟩
theorem ls_rel {n : Nat} (hn : 1 ≤ n) (l : List Int) : (ls l n).length = l.length ∧ mis (ls l n) = cntF n (dists [] l) ∧ ∀ j : Int, 0 ≤ j → j < l.length → Rel n (rd (dists [] l) j) (rd (ls l n) j) ∧ rd (ls l n) j ≤ l.length := by
  obtain ⟨xs, a1, a2, a3, a4⟩ := li_fold hn l [] ⟨[], 0, [], []⟩ ⟨by simp, by simp, fun p a h => by simp [lku] at h, by simp, fun p h => by simp at h⟩
  have e : ls l n = xs := a1
  rw [e]
  refine ⟨a2, a3, fun j h0 hj => ?_⟩
  have := a4 j.toNat (by omega)
  simp only [Int.zero_add] at this
  exact this
theorem lists_ev (l : List Int) (n : Nat) (hn : 1 ≤ n ∧ n ≤ 10000) (hl : l.length ≤ 10000) (hw : wfs l) : workingset_Lists.f l n 0 = some (ls l n, 0) := by
  unfold workingset_Lists.f workingset_check.f
  rw [if_pos ⟨hw, rfl⟩, if_neg (by omega), if_neg (by omega), if_neg (by omega)]
  rfl
end Go.Proofs.Ytbchpnhlaknhjaa.V
