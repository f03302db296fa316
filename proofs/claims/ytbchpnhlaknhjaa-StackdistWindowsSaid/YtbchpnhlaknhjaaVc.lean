/-
  Optimal: the program's and the reference's evict a page whose next use is farthest, so they have the same number of faults; LRU's and FIFO's are no smaller.
-/
import Derived.Test.YtbchpnhlaknhjaaBel
import Derived.Test.YtbchpnhlaknhjaaEMap
import Derived.Test.YtbchpnhlaknhjaaVb
namespace Go.Proofs.Ytbchpnhlaknhjaa.V
open Go.RowKit Go.Proofs.Ytbchpnhlaknhjaa.Q Go.Proofs.Ytbchpnhlaknhjaa.Sd Go.Proofs.Ytbchpnhlaknhjaa.Bel Go.Proofs.YtbchpnhlaknhjaaW.PrintWords Go.Proofs.YtbchpnhlaknhjaaW.PrintLast Go.Proofs.YtbchpnhlaknhjaaW.PrintMore
set_option linter.unusedVariables false

theorem lku_rmv {β : Type} (m : List (Int × β)) (k p : Int) : lku (rmv m k) p = if k = p then none else lku m p := by
  unfold lku rmv
  rw [List.find?_filter]
  split
  · rename_i e
    subst e
    rw [List.find?_eq_none.2 (fun x _ => by simp)]
    rfl
  · rename_i e
    congr 2
    funext x
    by_cases h : x.1 = p
    · simp [h]; exact fun e' => e e'.symm
    · simp [h]
theorem lku_ins {β : Type} (m : List (Int × β)) (k p : Int) (v : β) : lku (ins m k v) p = if k = p then some v else lku m p := by
  have h := lku_rmv m k p
  unfold ins
  by_cases e : k = p
  · rw [if_pos e]; simp [lku, e]
  · rw [if_neg e] at h ⊢
    rw [← h]
    simp [lku, e]
theorem lku_keys {m : List (Int × Int)} {p : Int} : (lku m p).isSome = true ↔ p ∈ m.map (·.1) := by
  unfold lku
  simp only [Option.isSome_map, List.find?_isSome, List.mem_map, beq_iff_eq]

theorem drop_get {l : List Int} {k : Nat} (h : k < l.length) : l.drop k = l.getD k 0 :: l.drop (k + 1) := by
  rw [List.drop_eq_getElem_cons h]
  simp [List.getD_eq_getElem?_getD, List.getElem?_eq_getElem h]
theorem fol_at (refs : List Int) : ∀ (d k : Nat), k + d = refs.length →
    (∀ p, (lku (((idx refs).drop k).reverse.foldl (folStep refs.length) ([], List.replicate refs.length 0)).1 p).getD refs.length = (k : Int) + nx (refs.drop k) p) ∧
    (((idx refs).drop k).reverse.foldl (folStep refs.length) ([], List.replicate refs.length 0)).2.length = refs.length ∧
    ∀ j, k ≤ j → j < refs.length → (((idx refs).drop k).reverse.foldl (folStep refs.length) ([], List.replicate refs.length 0)).2.getD j 0 = (j : Int) + 1 + nx (refs.drop (j + 1)) (refs.getD j 0)
  | 0, k, h => by
    rw [List.drop_eq_nil_of_le (by rw [idx_length]; omega), List.drop_eq_nil_of_le (by omega)]
    refine ⟨fun p => ?_, by simp, fun j h1 h2 => by omega⟩
    simp [lku, nx]; omega
  | d + 1, k, h => by
    obtain ⟨i1, i2, i3⟩ := fol_at refs d (k + 1) (by omega)
    rw [idx_drop (by omega), List.reverse_cons, List.foldl_append]
    generalize ((idx refs).drop (k + 1)).reverse.foldl (folStep refs.length) ([], List.replicate refs.length 0) = st at i1 i2 i3 ⊢
    simp only [List.foldl_cons, List.foldl_nil, folStep]
    refine ⟨fun p => ?_, by simpa using i2, fun j h1 h2 => ?_⟩
    · rw [lku_ins, drop_get (by omega)]
      simp only [nx]
      split
      · simp
      · rw [i1]; omega
    · rw [show (k : Int).toNat = k by omega]
      by_cases e : j = k
      · subst e
        rw [List.getD_eq_getElem?_getD, List.getElem?_set_self (by omega), Option.getD_some, i1]
        omega
      · rw [List.getD_eq_getElem?_getD, List.getElem?_set_ne (fun e' => e e'.symm), ← List.getD_eq_getElem?_getD, i3 j (by omega) h2]
theorem fol_get (refs : List Int) {j : Nat} (h : j < refs.length) : (fol refs).getD j 0 = (j : Int) + 1 + nx (refs.drop (j + 1)) (refs.getD j 0) := by
  have := (fol_at refs refs.length 0 (by omega)).2.2 j (by omega) h
  rw [List.drop_zero] at this
  exact this
theorem zip_drop (refs : List Int) {i : Nat} (h : i < refs.length) : (refs.zip (fol refs)).drop i = (refs.getD i 0, (i : Int) + 1 + nx (refs.drop (i + 1)) (refs.getD i 0)) :: (refs.zip (fol refs)).drop (i + 1) := by
  have hl := (fol_ok refs).1
  rw [List.drop_eq_getElem_cons (by rw [List.length_zip]; omega), ← fol_get refs h]
  congr 1
  simp [List.getElem_zip, List.getD_eq_getElem?_getD, List.getElem?_eq_getElem h, List.getElem?_eq_getElem (show i < (fol refs).length by omega)]

theorem better_spec (r : Int) : ∀ (L : List (Int × Int)) (z : Int × Int), z.1 ≤ (L.foldl (better r) z).1 ∧ (∀ q ∈ L, q.1 ≠ r → q.2 ≤ (L.foldl (better r) z).1) ∧
    (L.foldl (better r) z = z ∨ ∃ q ∈ L, q.1 ≠ r ∧ L.foldl (better r) z = (q.2, q.1))
  | [], z => ⟨by simp, by simp, .inl rfl⟩
  | x :: xs, z => by
    obtain ⟨h1, h2, h3⟩ := better_spec r xs (better r z x)
    have hb : z.1 ≤ (better r z x).1 ∧ (x.1 ≠ r → x.2 ≤ (better r z x).1) ∧ (better r z x = z ∨ (x.1 ≠ r ∧ better r z x = (x.2, x.1))) := by
      unfold better
      split
      · rename_i h
        refine ⟨?_, fun _ => Int.le_refl _, .inr ⟨h.1, rfl⟩⟩
        rcases h.2 with h | h
        · exact Int.le_of_lt h
        · exact Int.le_of_eq h.1.symm
      · rename_i h
        refine ⟨Int.le_refl _, fun hx => ?_, .inl rfl⟩
        apply Int.not_lt.1
        exact fun hh => h ⟨hx, .inl hh⟩
    simp only [List.foldl_cons]
    refine ⟨Int.le_trans hb.1 h1, ?_, ?_⟩
    · intro q hq hr
      rcases List.mem_cons.1 hq with rfl | hq
      · exact Int.le_trans (hb.2.1 hr) h1
      · exact h2 q hq hr
    · rcases h3 with h3 | ⟨q, hq, hr, h3⟩
      · rcases hb.2.2 with hb2 | ⟨hb2, hb3⟩
        · exact .inl (h3.trans hb2)
        · exact .inr ⟨x, List.mem_cons_self, hb2, h3.trans hb3⟩
      · exact .inr ⟨q, List.mem_cons_of_mem _ hq, hr, h3⟩
theorem ins_keys (S : List (Int × Int)) (r c : Int) : ∀ p, p ∈ (ins S r c).map (·.1) ↔ p = r ∨ p ∈ S.map (·.1) := by
  intro p
  have h := lku_keys (m := ins S r c) (p := p)
  have h2 := lku_keys (m := S) (p := p)
  rw [← h, ← h2, lku_ins]
  by_cases e : r = p
  · simp [e]
  · simp [e]; exact fun e' => absurd e'.symm e
theorem rmv_nodup {S : List (Int × Int)} (r : Int) (h : (S.map (·.1)).Nodup) : ((rmv S r).map (·.1)).Nodup := h.sublist (List.filter_sublist.map _)
theorem ins_nodup {S : List (Int × Int)} (r c : Int) (h : (S.map (·.1)).Nodup) : ((ins S r c).map (·.1)).Nodup := by
  unfold ins
  rw [List.map_cons, List.nodup_cons]
  exact ⟨rmv_keys, rmv_nodup r h⟩
theorem rmv_mem (S : List (Int × Int)) (v : Int) : ∀ p, p ∈ (rmv S v).map (·.1) ↔ p ∈ S.map (·.1) ∧ p ≠ v := by
  intro p
  rw [← lku_keys, ← lku_keys, lku_rmv]
  by_cases e : v = p
  · simp [e]
  · simp [e]; exact fun _ e' => e e'.symm

theorem opt_run (refs : List Int) (f : Nat) (hf : 1 ≤ f) : ∀ (d i : Nat) (S : List (Int × Int)) (n : Int), i + d = refs.length → (S.map (·.1)).Nodup → S.length ≤ f →
    (∀ p ∈ S, p.2 = (i : Int) + nx (refs.drop i) p.1) → GRun f (refs.drop i) (S.map (·.1)) ((((refs.zip (fol refs)).drop i).foldl (optStep f) (S, n)).2 - n) := by
  intro d
  induction d with
  | zero =>
    intro i S n h _ _ _
    have hl := (fol_ok refs).1
    rw [List.drop_eq_nil_of_le (by omega), List.drop_eq_nil_of_le (by rw [List.length_zip]; omega)]
    simp only [List.foldl_nil, Int.sub_self]
    exact .nil _
  | succ d ih =>
    intro i S n h hn hl hS
    have hi : i < refs.length := by omega
    rw [zip_drop refs hi, List.foldl_cons, drop_get hi]
    rw [drop_get hi] at hS
    generalize refs.getD i 0 = r at hS ⊢
    obtain ⟨rs, hrs⟩ : ∃ rs, rs = refs.drop (i + 1) := ⟨_, rfl⟩
    have ihr := ih (i + 1)
    rw [← hrs] at hS ihr ⊢
    have hk := ins_keys S r ((i : Int) + 1 + nx rs r)
    have hn1 := ins_nodup r ((i : Int) + 1 + nx rs r) hn
    have hS1 : ∀ p ∈ ins S r ((i : Int) + 1 + nx rs r), p.2 = ((i + 1 : Nat) : Int) + nx rs p.1 := by
      intro p hp
      simp only [ins, List.mem_cons] at hp
      rcases hp with rfl | hp
      · simp
      · have h1 := List.mem_filter.1 hp
        have h2 := hS p h1.1
        simp only [nx] at h2
        have h3 : p.1 ≠ r := by simpa using h1.2
        rw [if_neg (fun e => h3 e.symm)] at h2
        omega
    have hcost : ∀ X : Int, X - n = (if r ∈ S.map (·.1) then 0 else 1) + (X - (if (lku S r).isSome then n else n + 1)) := by
      intro X
      by_cases e : r ∈ S.map (·.1)
      · rw [if_pos e, if_pos (lku_keys.2 e)]; omega
      · rw [if_neg e, if_neg (fun h => e (lku_keys.1 h))]; omega
    rw [hcost]
    simp only [optStep]
    generalize (if (lku S r).isSome then n else n + 1) = n'
    have hlen1 : (ins S r ((i : Int) + 1 + nx rs r)).length ≤ S.length + 1 := by
      have : (rmv S r).length ≤ S.length := List.length_filter_le _ _
      simp only [ins, List.length_cons]; omega
    have hlen2 : r ∈ S.map (·.1) → (ins S r ((i : Int) + 1 + nx rs r)).length ≤ S.length := by
      intro hr
      have := le_of_sub (Y := S.map (·.1)) hn1 (fun p hp => by
        rcases (hk p).1 hp with rfl | hp
        · exact hr
        · exact hp)
      simpa using this
    by_cases hc : ((ins S r ((i : Int) + 1 + nx rs r)).length : Int) ≤ f
    · rw [if_pos hc]
      refine .cons (T' := (ins S r ((i : Int) + 1 + nx rs r)).map (·.1)) ⟨⟨hn1, by simpa using hc, (hk r).2 (.inl rfl), fun p hp => ((hk p).1 hp).symm⟩, .inl fun p hp => (hk p).2 (.inr hp)⟩ ?_
      exact ihr _ n' (by omega) hn1 (by omega) hS1
    · rw [if_neg hc]
      have hr : r ∉ S.map (·.1) := fun hr => hc (by have := hlen2 hr; omega)
      have hlS : S.length = f := by omega
      obtain ⟨v1, v2, v3⟩ := better_spec r (ins S r ((i : Int) + 1 + nx rs r)) (-1, r)
      obtain ⟨q, hq⟩ : ∃ q, q ∈ S := List.exists_mem_of_length_pos (by omega)
      have hq1 : q.1 ≠ r := fun e => hr (e ▸ List.mem_map_of_mem hq)
      have hqi : q ∈ ins S r ((i : Int) + 1 + nx rs r) := by
        simp only [ins, List.mem_cons, rmv, List.mem_filter]
        exact .inr ⟨hq, by simpa using hq1⟩
      have hq2 := v2 q hqi hq1
      have hq3 := hS1 q hqi
      rcases v3 with v3 | ⟨u, hu, hur, v3⟩
      · rw [v3] at hq2; simp only at hq2; omega
      · have hv : victim r (ins S r ((i : Int) + 1 + nx rs r)) = u.1 := by unfold victim; rw [v3]
        rw [hv]
        rw [v3] at v2
        simp only at v2
        have huS : u.1 ∈ S.map (·.1) := ((hk u.1).1 (List.mem_map_of_mem hu)).resolve_left hur
        have hm := rmv_mem (ins S r ((i : Int) + 1 + nx rs r)) u.1
        have hn2 := rmv_nodup u.1 hn1
        have hlen3 : ((rmv (ins S r ((i : Int) + 1 + nx rs r)) u.1).map (·.1)).length ≤ f := by
          have h1 := le_of_sub (Y := ((ins S r ((i : Int) + 1 + nx rs r)).map (·.1)).erase u.1) hn2 (fun p hp => by
            have := (hm p).1 hp
            exact (List.mem_erase_of_ne this.2).2 this.1)
          have h2 := List.length_erase_of_mem (List.mem_map_of_mem (f := (·.1)) hu)
          simp only [List.length_map] at h1 h2 ⊢
          omega
        refine .cons (T' := (rmv (ins S r ((i : Int) + 1 + nx rs r)) u.1).map (·.1)) ⟨⟨hn2, hlen3, (hm r).2 ⟨(hk r).2 (.inl rfl), fun e => hur e.symm⟩, fun p hp => ((hk p).1 ((hm p).1 hp).1).symm⟩, .inr ⟨hr, by simpa using hlS, u.1, huS, ?_, fun p hp hne => (hm p).2 ⟨(hk p).2 (.inr hp), hne⟩⟩⟩ ?_
        · intro p hp
          obtain ⟨w, hw, rfl⟩ := List.mem_map.1 hp
          have hw1 : w.1 ≠ r := fun e => hr (e ▸ hp)
          have hwi : w ∈ ins S r ((i : Int) + 1 + nx rs r) := by
            simp only [ins, List.mem_cons, rmv, List.mem_filter]
            exact .inr ⟨hw, by simpa using hw1⟩
          have h1 := v2 w hwi hw1
          have h2 := hS1 w hwi
          have h3 := hS1 u hu
          omega
        · refine ihr _ n' (by omega) hn2 (by simpa using hlen3) (fun p hp => ?_)
          exact hS1 p (List.mem_filter.1 hp).1
theorem opt_grun (refs : List Int) (f : Nat) (hf : 1 ≤ f) : GRun f refs [] (opt refs f) := by
  have h := opt_run refs f hf refs.length 0 [] 0 (by omega) (by simp) (by simp) (by simp)
  rw [List.drop_zero, List.drop_zero, Int.sub_zero] at h
  exact h
theorem opt_zero_fold : ∀ (L : List (Int × Int)) (n : Int), ((L.foldl (optStep 0) ([], n)).1 = [] ∧ (L.foldl (optStep 0) ([], n)).2 = n + L.length)
  | [], n => by simp
  | x :: xs, n => by
    have e : optStep 0 ([], n) x = ([], n + 1) := by
      simp [optStep, lku, ins, rmv, victim, better]
    rw [List.foldl_cons, e]
    obtain ⟨h1, h2⟩ := opt_zero_fold xs (n + 1)
    refine ⟨h1, ?_⟩
    rw [h2]; simp; omega
theorem opt_zero (refs : List Int) : opt refs 0 = refs.length := by
  have h := (opt_zero_fold (refs.zip (fol refs)) 0).2
  unfold opt
  rw [h, List.length_zip, (fol_ok refs).1]
  simp
end Go.Proofs.Ytbchpnhlaknhjaa.V
