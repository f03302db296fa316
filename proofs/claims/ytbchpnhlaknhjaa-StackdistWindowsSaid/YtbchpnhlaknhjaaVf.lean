/-
  What Working comes to, in the program and in its reference: the numbers of different pages in the windows.
-/
import Derived.Test.YtbchpnhlaknhjaaVe
import Derived.Test.YtbchpnhlaknhjaaQ103
namespace Go.Proofs.Ytbchpnhlaknhjaa.V
open Go.RowKit Go.Proofs.Ytbchpnhlaknhjaa.Q Go.Proofs.Ytbchpnhlaknhjaa.Sd Go.Proofs.Ytbchpnhlaknhjaa.Bel Go.Proofs.YtbchpnhlaknhjaaW.PrintWords Go.Proofs.YtbchpnhlaknhjaaW.PrintLast Go.Proofs.YtbchpnhlaknhjaaW.PrintMore
set_option linter.unusedVariables false
set_option linter.unusedSimpArgs false

/-- The different elements, and their number. -/
def dd : List Int → List Int
  | [] => []
  | x :: xs => if x ∈ xs then dd xs else x :: dd xs
def nd : List Int → Nat
  | [] => 0
  | x :: xs => (if x ∈ xs then 0 else 1) + nd xs
theorem nd_dd : ∀ l, nd l = (dd l).length
  | [] => rfl
  | x :: xs => by
    simp only [nd, dd]
    split
    · rw [Nat.zero_add, nd_dd xs]
    · rw [List.length_cons, nd_dd xs, Nat.add_comm]
theorem mem_dd : ∀ (l : List Int) (p : Int), p ∈ dd l ↔ p ∈ l
  | [], p => Iff.rfl
  | x :: xs, p => by
    simp only [dd]
    split
    · rename_i h
      rw [mem_dd xs p, List.mem_cons]
      exact ⟨.inr, fun h' => h'.elim (fun e => e ▸ h) id⟩
    · rw [List.mem_cons, List.mem_cons, mem_dd xs p]
theorem dd_nodup : ∀ (l : List Int), (dd l).Nodup
  | [] => by simp [dd]
  | x :: xs => by
    simp only [dd]
    split
    · exact dd_nodup xs
    · rename_i h
      rw [List.nodup_cons]
      exact ⟨fun h' => h ((mem_dd xs x).1 h'), dd_nodup xs⟩
theorem nd_of {K L : List Int} (hK : K.Nodup) (h : ∀ p, p ∈ K ↔ p ∈ L) : K.length = nd L := by
  rw [nd_dd]
  apply Nat.le_antisymm
  · exact le_of_sub hK (fun p hp => (mem_dd L p).2 ((h p).1 hp))
  · exact le_of_sub (dd_nodup L) (fun p hp => (h p).2 ((mem_dd L p).1 hp))
theorem nd_le (l : List Int) : nd l ≤ l.length := by
  rw [nd_dd]
  exact le_of_sub (dd_nodup l) (fun p hp => (mem_dd l p).1 hp)

/-- The pages in the window that ends with position i. -/
def win (l : List Int) (w i : Int) : List Int := (l.take (i + 1).toNat).drop (i - w + 1).toNat
theorem nx_take : ∀ (rs : List Int) (p : Int) (m : Nat), m ≤ rs.length → (p ∈ rs.take m ↔ nx rs p < m)
  | rs, p, 0, _ => by simp
  | [], p, m + 1, h => by simp at h
  | x :: xs, p, m + 1, h => by
    simp only [List.take_succ_cons, List.mem_cons, nx]
    by_cases e : x = p
    · simp [e]
    · rw [if_neg e, nx_take xs p m (by simpa using h)]
      constructor
      · rintro (h' | h')
        · exact absurd h'.symm e
        · omega
      · intro h'; exact .inr (by omega)
theorem refWork_l1 (l : List Int) (w i : Int) (hl : l.length ≤ 5000) (hi : 0 ≤ i) (hil : i < l.length) (acc : List Int) (hacc : acc.length ≤ 5000) (d : Nat) : ∀ (c j : Int), 0 ≤ j → i + 1 - j = d → 0 ≤ c → c ≤ j →
    ∀ X, Ev (fun k => estoversref37_Working.l0 k l w (acc ++ [c + nd ((l.take (i + 1).toNat).drop j.toNat)]) (i + 1)) X → Ev (fun k => estoversref37_Working.l1 k l w acc i c j) X := by
  induction d with
  | zero =>
    intro c j hj hd hc hcj X hX
    rw [List.drop_eq_nil_of_le (by rw [List.length_take]; omega)] at hX
    simp only [nd, Int.natCast_zero, Int.add_zero] at hX
    exact Ev.step (fun k => by simp only [estoversref37_Working.l1]; rw [if_neg (by omega), if_pos (by omega), w64 (by omega)]) hX
  | succ d ih =>
    intro c j hj hd hc hcj X hX
    have hlt : j < l.length := by omega
    have hd1 : (l.take (i + 1).toNat).drop j.toNat = rd l j :: (l.take (i + 1).toNat).drop (j + 1).toNat := by
      rw [drop_get (by rw [List.length_take]; omega), show (j + 1).toNat = j.toNat + 1 by omega]
      congr 1
      simp only [rd, List.getD_eq_getElem?_getD]
      rw [List.getElem?_take_of_lt (by omega)]
    have hmem : rd l j ∈ (l.take (i + 1).toNat).drop (j + 1).toNat ↔ ¬ (j + 1 + (nx (l.drop (j + 1).toNat) (rd l j) : Int) > i) := by
      rw [List.drop_take, nx_take _ _ _ (by rw [List.length_drop]; omega)]
      omega
    rw [hd1] at hX
    simp only [nd] at hX
    refine Ev.step (f := fun k => (estoversref37_next.f k l (j + 1) (rd l j)).bind fun t355 => (if t355 > i then (estoversref37_Working.l1 k l w acc i (wrap64 (c + 1)) (wrap64 (j + 1))) else (estoversref37_Working.l1 k l w acc i c (wrap64 (j + 1)))))
      (fun k => by simp only [estoversref37_Working.l1]; rw [if_pos (by omega), if_pos hj, if_pos hlt, w64 (i := j + 1) (by omega)]) ?_
    refine Ev.bind (next_ev l _ (j + 1) hl (by omega) (by omega)) ?_
    by_cases e : j + 1 + (nx (l.drop (j + 1).toNat) (rd l j) : Int) > i
    · rw [if_neg (fun h => (hmem.1 h) e)] at hX
      refine Ev.congr (fun k => ?_) (ih (c + 1) (j + 1) (by omega) (by omega) (by omega) (by omega) X (by
        rw [show c + ((1 + nd ((l.take (i + 1).toNat).drop (j + 1).toNat) : Nat) : Int) = c + 1 + (nd ((l.take (i + 1).toNat).drop (j + 1).toNat) : Int) by omega] at hX
        exact hX))
      rw [if_pos e, w64 (i := c + 1) (by omega), w64 (by omega)]
    · rw [if_pos (hmem.2 e)] at hX
      refine Ev.congr (fun k => ?_) (ih c (j + 1) (by omega) (by omega) (by omega) (by omega) X (by
        rw [show c + ((0 + nd ((l.take (i + 1).toNat).drop (j + 1).toNat) : Nat) : Int) = c + (nd ((l.take (i + 1).toNat).drop (j + 1).toNat) : Int) by omega] at hX
        exact hX))
      rw [if_neg e, w64 (by omega)]
/-- The sizes of the windows. -/
def work (l : List Int) (w : Int) (m : Nat) : List Int := (List.range m).map fun (i : Nat) => (nd (win l w i) : Int)
theorem refWork_l0 (l : List Int) (w : Int) (hw : 0 ≤ w ∧ w ≤ 5000) (hl : l.length ≤ 5000) (d : Nat) : ∀ i : Nat, i + d = l.length →
    Ev (fun k => estoversref37_Working.l0 k l w (work l w i) (i : Int)) (work l w l.length, 0) := by
  induction d with
  | zero =>
    intro i hi
    refine Ev.step (fun k => ?_) (Ev.now _)
    simp only [estoversref37_Working.l0]
    rw [if_neg (by omega), show i = l.length by omega]
  | succ d ih =>
    intro i hi
    have h := ih (i + 1) (by omega)
    unfold work at h ⊢
    rw [range_snoc] at h
    refine Ev.step (f := fun k => estoversref37_Working.l1 k l w ((List.range i).map fun (i : Nat) => (nd (win l w i) : Int)) (i : Int) 0 (mx 0 (wrap64 ((wrap64 ((i : Int) - w)) + 1)))) (fun k => by simp only [estoversref37_Working.l0]; rw [if_pos (by omega)]) ?_
    rw [w64 (i := (i : Int) - w) (by omega), w64 (i := (i : Int) - w + 1) (by omega)]
    have hmx : 0 ≤ mx 0 ((i : Int) - w + 1) ∧ mx 0 ((i : Int) - w + 1) ≤ i + 1 ∧ (mx 0 ((i : Int) - w + 1)).toNat = ((i : Int) - w + 1).toNat := by unfold mx; split <;> omega
    refine refWork_l1 l w i hl (by omega) (by omega) _ (by simp; omega) ((i : Int) + 1 - mx 0 ((i : Int) - w + 1)).toNat 0 _ hmx.1 (by omega) (by omega) (by omega) _ ?_
    rw [hmx.2.2, Int.zero_add]
    exact h
def workR (l : List Int) (f : Int) : List Int × Int := if req l.length f = 0 then (work l f l.length, 0) else ([], req l.length f)
theorem refWork_ev (l : List Int) (f : Int) : Ev (fun k => estoversref37_Working.f k l f) (workR l f) := by
  unfold estoversref37_Working.f workR
  refine Ev.congr (fun k => by rw [check_f, Option.bind_some]) ?_
  by_cases h : req l.length f = 0
  · obtain ⟨h1, h2, h3⟩ := req_zero h
    rw [if_pos h]
    exact Ev.congr (fun k => by rw [if_pos h]; rfl) (refWork_l0 l f (by omega) (by omega) l.length 0 (by omega))
  · rw [if_neg h]
    exact Ev.none_k fun k => by rw [if_neg h]

/-- A map that counts the elements of a list. -/
structure Cnt (m : List (Int × Int)) (L : List Int) : Prop where
  nodup : (m.map (·.1)).Nodup
  at_ : ∀ p, lku m p = if p ∈ L then some (L.count p : Int) else none
theorem Cnt.getD {m : List (Int × Int)} {L : List Int} (h : Cnt m L) (p : Int) : (lku m p).getD 0 = L.count p := by
  rw [h.at_]
  split
  · rfl
  · rename_i hp; rw [List.count_eq_zero.2 hp]; rfl
theorem Cnt.len {m : List (Int × Int)} {L : List Int} (h : Cnt m L) : m.length = nd L := by
  rw [← nd_of h.nodup (L := L), List.length_map]
  intro p
  rw [← lku_keys, h.at_]
  split <;> simp_all
theorem Cnt.add {m : List (Int × Int)} {L : List Int} (h : Cnt m L) (p : Int) : Cnt (ins m p ((lku m p).getD 0 + 1)) (L ++ [p]) := by
  refine ⟨ins_nodup p _ h.nodup, fun q => ?_⟩
  rw [lku_ins, h.getD, h.at_]
  by_cases e : p = q
  · subst e; simp [List.count_append]
  · have e' : q ≠ p := fun h => e h.symm
    simp [e, e', List.count_append, List.count_singleton]
theorem Cnt.sub {m : List (Int × Int)} {L : List Int} {x : Int} (h : Cnt m (x :: L)) :
    Cnt (if (lku (ins m x ((lku m x).getD 0 - 1)) x).getD 0 = 0 then rmv (ins m x ((lku m x).getD 0 - 1)) x else ins m x ((lku m x).getD 0 - 1)) L := by
  have hx : (lku m x).getD 0 - 1 = L.count x := by rw [h.getD]; simp
  rw [hx, lku_ins, if_pos rfl, Option.getD_some]
  have hn := ins_nodup x (L.count x : Int) h.nodup
  by_cases e : (L.count x : Int) = 0
  · rw [if_pos e]
    have hL : x ∉ L := List.count_eq_zero.1 (by omega)
    refine ⟨rmv_nodup x hn, fun q => ?_⟩
    rw [lku_rmv, lku_ins]
    by_cases eq : x = q
    · subst eq; simp [hL]
    · have e' : q ≠ x := fun h => eq h.symm
      rw [if_neg eq, if_neg eq, h.at_]
      simp [e', List.count_cons, eq]
  · rw [if_neg e]
    refine ⟨hn, fun q => ?_⟩
    rw [lku_ins]
    by_cases eq : x = q
    · subst eq
      rw [if_pos rfl, if_pos (List.count_pos_iff.1 (by omega))]
    · have e' : q ≠ x := fun h => eq h.symm
      rw [if_neg eq, h.at_]
      simp [e', List.count_cons, eq]
theorem wk_fold (l : List Int) (w : Int) (hw : 0 ≤ w) (d : Nat) : ∀ (i : Nat) (m : List (Int × Int)), i + d = l.length → Cnt m ((l.take i).drop ((i : Int) - w).toNat) →
    (((idx l).drop i).foldl (wkStep l w) (m, work l w i)).2 = work l w l.length := by
  induction d with
  | zero =>
    intro i m hi _
    rw [List.drop_eq_nil_of_le (by rw [idx_length]; omega), show i = l.length by omega]
    rfl
  | succ d ih =>
    intro i m hi hm
    have hlt : i < l.length := by omega
    rw [idx_drop hlt, List.foldl_cons]
    have hm1 := hm.add (l.getD i 0)
    have e1 : (l.take i).drop ((i : Int) - w).toNat ++ [l.getD i 0] = (l.take (i + 1)).drop ((i : Int) - w).toNat := by
      rw [List.take_add_one, List.drop_append_of_le_length (by rw [List.length_take]; omega)]
      congr 1
      simp [List.getD_eq_getElem?_getD, List.getElem?_eq_getElem hlt]
    rw [e1] at hm1
    have key : ∀ m2 : List (Int × Int), Cnt m2 ((l.take (i + 1)).drop ((i : Int) - w + 1).toNat) → wkStep l w (m, work l w i) ((i : Int), l.getD i 0) = (m2, work l w i ++ [(m2.length : Int)]) → (((idx l).drop (i + 1)).foldl (wkStep l w) (wkStep l w (m, work l w i) ((i : Int), l.getD i 0))).2 = work l w l.length := by
      intro m2 h2 e2
      rw [e2]
      have h3 := ih (i + 1) m2 (by omega) (by rw [show (((i + 1 : Nat) : Int) - w).toNat = ((i : Int) - w + 1).toNat by omega]; exact h2)
      have h4 : work l w (i + 1) = work l w i ++ [(m2.length : Int)] := by
        unfold work
        rw [range_snoc, h2.len]
        unfold win
        rw [show ((i : Int) + 1).toNat = i + 1 by omega]
      rw [← h4]; exact h3
    by_cases h0 : 0 ≤ (i : Int) - w
    · have e2 : (l.take (i + 1)).drop ((i : Int) - w).toNat = l.getD ((i : Int) - w).toNat 0 :: (l.take (i + 1)).drop ((i : Int) - w + 1).toNat := by
        rw [drop_get (by rw [List.length_take]; omega), show ((i : Int) - w + 1).toNat = ((i : Int) - w).toNat + 1 by omega]
        congr 1
        simp only [List.getD_eq_getElem?_getD]
        rw [List.getElem?_take_of_lt (by omega)]
      rw [e2] at hm1
      refine key _ hm1.sub ?_
      simp only [wkStep]
      rw [if_pos h0]
    · rw [show ((i : Int) - w).toNat = ((i : Int) - w + 1).toNat by omega] at hm1
      refine key _ hm1 ?_
      simp only [wkStep]
      rw [if_neg h0]
theorem wk_eq (l : List Int) (w : Int) (hw : 0 ≤ w) : wk l w = work l w l.length := by
  have h := wk_fold l w hw l.length 0 [] (by omega) ⟨by simp, fun p => by simp [lku]⟩
  rw [List.drop_zero] at h
  exact h
theorem work_f (l : List Int) (f : Int) (hw : wfs l) : stackdist_Working.f l f = some (workR l f) := by
  unfold stackdist_Working.f workR
  rw [if_pos hw, request_f, Option.bind_some]
  split
  · rename_i h; rw [wk_eq l f (req_zero h).2.1]
  · rfl
theorem work_ev (l : List Int) (f : Int) (hw : wfs l) : Ev (fun _ => stackdist_Working.f l f) (workR l f) := Ev.none_k fun _ => work_f l f hw
end Go.Proofs.Ytbchpnhlaknhjaa.V
