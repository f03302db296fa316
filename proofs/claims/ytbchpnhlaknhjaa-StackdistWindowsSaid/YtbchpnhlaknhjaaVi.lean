/-
  Plain laws for the orders: any replacement faults on each different page, FIFO and LRU with enough frames on no other reference.
-/
import Derived.Test.YtbchpnhlaknhjaaVf
import Derived.Test.YtbchpnhlaknhjaaVg
namespace Go.Proofs.Ytbchpnhlaknhjaa.V
open Go.RowKit Go.Proofs.Ytbchpnhlaknhjaa.Q Go.Proofs.Ytbchpnhlaknhjaa.Sd Go.Proofs.Ytbchpnhlaknhjaa.Bel Go.Proofs.YtbchpnhlaknhjaaW.PrintWords Go.Proofs.YtbchpnhlaknhjaaW.PrintLast Go.Proofs.YtbchpnhlaknhjaaW.PrintMore
set_option linter.unusedVariables false
set_option linter.unusedSimpArgs false
/-- The different references that are not in T. -/
def un (T rs : List Int) : Nat := (dd (rs.filter (fun p => decide (p ∉ T)))).length
theorem mem_un {T rs : List Int} {p : Int} : p ∈ dd (rs.filter (fun p => decide (p ∉ T))) ↔ p ∈ rs ∧ p ∉ T := by
  rw [mem_dd, List.mem_filter]; simp
theorem un_nil (l : List Int) : un [] l = nd l := by
  unfold un
  rw [nd_dd, List.filter_eq_self.2 (fun p _ => by simp)]
theorem un_run {f : Nat} : ∀ {rs T : List Int} {n : Int}, ARun f rs T n → (un T rs : Int) ≤ n := by
  intro rs T n h
  induction h with
  | nil T => simp [un, dd]
  | cons a _ ih =>
    rename_i r rs T T' n _
    by_cases hr : r ∈ T
    · rw [if_pos hr]
      have h1 : un T (r :: rs) ≤ un T' rs := by
        apply le_of_sub (dd_nodup _)
        intro p hp
        rw [mem_un] at hp ⊢
        obtain ⟨h1, h2⟩ := hp
        have hne : p ≠ r := fun e => h2 (e ▸ hr)
        refine ⟨(List.mem_cons.1 h1).resolve_left hne, fun h => ?_⟩
        rcases a.sub p h with h | h
        · exact h2 h
        · exact hne h
      omega
    · rw [if_neg hr]
      have h1 : un T (r :: rs) ≤ (r :: dd (rs.filter (fun p => decide (p ∉ T')))).length := by
        apply le_of_sub (dd_nodup _)
        intro p hp
        rw [mem_un] at hp
        rw [List.mem_cons, mem_un]
        obtain ⟨h1, h2⟩ := hp
        by_cases hne : p = r
        · exact .inl hne
        · refine .inr ⟨(List.mem_cons.1 h1).resolve_left hne, fun h => ?_⟩
          rcases a.sub p h with h | h
          · exact h2 h
          · exact hne h
      have h2 : (r :: dd (rs.filter (fun p => decide (p ∉ T')))).length = un T' rs + 1 := rfl
      omega
theorem un_hit {T T' rs : List Int} {r : Int} (hr : r ∈ T) (h : ∀ p, p ∈ T' ↔ p ∈ T) : un T' rs ≤ un T (r :: rs) := by
  apply le_of_sub (dd_nodup _)
  intro p hp
  rw [mem_un] at hp ⊢
  exact ⟨List.mem_cons_of_mem _ hp.1, fun h' => hp.2 ((h p).2 h')⟩
theorem un_miss {T T' rs : List Int} {r : Int} (hr : r ∉ T) (h : ∀ p, p ∈ T' ↔ p ∈ T ∨ p = r) : un T' rs + 1 ≤ un T (r :: rs) := by
  have h1 : (r :: dd (rs.filter (fun p => decide (p ∉ T')))).length ≤ un T (r :: rs) := by
    apply le_of_sub
    · rw [List.nodup_cons]
      refine ⟨fun h' => ?_, dd_nodup _⟩
      rw [mem_un] at h'
      exact h'.2 ((h r).2 (.inr rfl))
    · intro p hp
      rw [mem_un]
      rcases List.mem_cons.1 hp with rfl | hp
      · exact ⟨List.mem_cons_self, hr⟩
      · rw [mem_un] at hp
        exact ⟨List.mem_cons_of_mem _ hp.1, fun h' => hp.2 ((h p).2 (.inl h'))⟩
  exact h1
theorem fifo_room {f : Nat} (L : List Int) (hf : nd L ≤ f) : ∀ (rs q : List Int) (n : Int), q.Nodup → (∀ p ∈ q, p ∈ L) → (∀ p ∈ rs, p ∈ L) → (rs.foldl (fifoStep f) (n, q)).1 ≤ n + un q rs
  | [], q, n, _, _, _ => by simp only [List.foldl_nil]; omega
  | r :: rs, q, n, hq, hqL, hrs => by
    rw [List.foldl_cons]
    by_cases hm : r ∈ q
    · rw [show fifoStep f (n, q) r = (n, q) by simp [fifoStep, hm]]
      have := fifo_room L hf rs q n hq hqL (fun p hp => hrs p (List.mem_cons_of_mem _ hp))
      have := un_hit (rs := rs) hm (T' := q) (fun p => Iff.rfl)
      omega
    · have hn := snoc_nodup hq hm
      have hs : ∀ p ∈ q ++ [r], p ∈ L := fun p hp => by
        rcases List.mem_append.1 hp with h | h
        · exact hqL p h
        · rw [List.mem_singleton.1 h]; exact hrs r List.mem_cons_self
      have hle := le_of_sub (Y := dd L) hn (fun p hp => (mem_dd L p).2 (hs p hp))
      rw [← nd_dd] at hle
      have e : fifoStep f (n, q) r = (n + 1, q ++ [r]) := by
        simp only [fifoStep]
        rw [if_neg hm, if_neg (by omega)]
      rw [e]
      have := fifo_room L hf rs (q ++ [r]) (n + 1) hn hs (fun p hp => hrs p (List.mem_cons_of_mem _ hp))
      have := un_miss (rs := rs) hm (T' := q ++ [r]) (fun p => by simp)
      omega
theorem lru_room {f : Nat} (L : List Int) (hf : nd L ≤ f) : ∀ (rs S : List Int), S.Nodup → (∀ p ∈ S, p ∈ L) → (∀ p ∈ rs, p ∈ L) → cntF f (dists S rs) ≤ un S rs
  | [], S, _, _, _ => by simp [dists, cntF_nil]
  | r :: rs, S, hS, hSL, hrs => by
    simp only [dists]
    rw [cntF_cons]
    have hn := touch_nodup S r hS
    have hmem : ∀ p, p ∈ (touch S r).1 ↔ p ∈ S ∨ p = r := by
      intro p
      refine ⟨touch_mem S r p, ?_⟩
      rintro (h | h)
      · by_cases e : p = r
        · simp [touch, e]
        · simp only [touch, List.mem_cons]
          refine .inr ?_
          unfold wo
          split
          · exact h
          · rename_i hneg
            have hr := posF_range S 0 r (by omega)
            obtain ⟨w1, w2, w3, w4⟩ := wo_facts S (posF 0 S r) (by omega) (by omega) hS
            have := w4 p h (fun e' => by
              apply e
              have hp : r ∈ S := (posF_mem S 0 r (by omega)).1 (by omega)
              have : r ∉ wo S (posF 0 S r) := by
                have h9 := hn
                simp only [touch, List.nodup_cons] at h9
                exact h9.1
              apply Decidable.byContradiction
              intro hne
              exact this (w4 r hp (fun e2 => hne (e'.trans e2.symm))))
            unfold wo at this
            rw [if_neg hneg] at this
            exact this
      · simp [touch, h]
    have hsL : ∀ p ∈ (touch S r).1, p ∈ L := fun p hp => by
      rcases (hmem p).1 hp with h | h
      · exact hSL p h
      · rw [h]; exact hrs r List.mem_cons_self
    have hle := le_of_sub (Y := dd L) hS (fun p hp => (mem_dd L p).2 (hSL p hp))
    rw [← nd_dd] at hle
    have ih := lru_room L hf rs (touch S r).1 hn hsL (fun p hp => hrs p (List.mem_cons_of_mem _ hp))
    have hp2 : (touch S r).2 = posF 0 S r := rfl
    have hr := posF_range S 0 r (by omega)
    have hneg := posF_neg_iff S r
    by_cases hm : r ∈ S
    · rw [if_neg (by rw [hp2]; intro h; have : ¬ posF 0 S r < 0 := fun h' => (hneg.1 h') hm; omega)]
      have := un_hit (rs := rs) hm (T' := (touch S r).1) (fun p => by
        rw [hmem p]
        exact ⟨fun h => h.elim id (fun e => e ▸ hm), .inl⟩)
      omega
    · rw [if_pos (by rw [hp2]; exact .inl (hneg.2 hm))]
      have := un_miss (rs := rs) hm (T' := (touch S r).1) hmem
      omega
theorem fifo_le (f : Int) : ∀ (rs : List Int) (n : Int) (q : List Int), (rs.foldl (fifoStep f) (n, q)).1 ≤ n + rs.length
  | [], n, q => by simp
  | r :: rs, n, q => by
    rw [List.foldl_cons]
    have h1 := fifo_le f rs (fifoStep f (n, q) r).1 (fifoStep f (n, q) r).2
    have h2 : (fifoStep f (n, q) r).1 ≤ n + 1 := by unfold fifoStep; split <;> simp only <;> omega
    have h3 : ((fifoStep f (n, q) r).1, (fifoStep f (n, q) r).2) = fifoStep f (n, q) r := rfl
    rw [h3] at h1
    simp only [List.length_cons]
    omega
theorem fifo_zero : ∀ (rs : List Int) (n : Int), (rs.foldl (fifoStep 0) (n, [])).1 = n + rs.length
  | [], n => by simp
  | r :: rs, n => by
    rw [List.foldl_cons, show fifoStep 0 (n, []) r = (n + 1, []) by simp [fifoStep], fifo_zero rs (n + 1), List.length_cons]
    omega
/-- What the statement says of the three numbers of faults. -/
theorem order_law (l : List Int) (f : Nat) :
    (f = 0 → cntF f (dists [] l) = l.length ∧ fifo l f = l.length ∧ opt l f = l.length) ∧
    (1 ≤ f → nd l ≤ f → cntF f (dists [] l) = nd l ∧ fifo l f = nd l ∧ opt l f = nd l) ∧
    (1 ≤ f → opt l f ≤ cntF f (dists [] l) ∧ opt l f ≤ fifo l f ∧ (nd l : Int) ≤ opt l f) ∧ cntF f (dists [] l) ≤ l.length ∧ fifo l f ≤ l.length := by
  have hdl := dists_length l []
  have c1 := (cntF_le f (dists [] l)).2
  have c2 := fifo_le f l 0 []
  rw [Int.zero_add] at c2
  have core : 1 ≤ f → opt l f ≤ cntF f (dists [] l) ∧ opt l f ≤ fifo l f ∧ (nd l : Int) ≤ opt l f := by
    intro hf
    have hg := opt_grun l f hf
    refine ⟨least hg (lru_arun hf l) (by simp), least hg (fifo_arun hf l) (by simp), ?_⟩
    have := un_run hg.any
    rw [un_nil] at this
    exact this
  refine ⟨fun h => ?_, fun hf hN => ?_, core, by omega, c2⟩
  · subst h
    refine ⟨?_, ?_, opt_zero l⟩
    · have := cntF_zero (dists [] l); rw [hdl] at this; exact this
    · have := fifo_zero l 0; rw [Int.zero_add] at this; exact this
  · obtain ⟨h1, h2, h3⟩ := core hf
    have h4 := lru_room l hN l [] (by simp) (by simp) (fun p hp => hp)
    have h5 := fifo_room l hN l [] 0 (by simp) (by simp) (fun p hp => hp)
    rw [un_nil] at h4 h5
    rw [Int.zero_add] at h5
    have h6 : (l.foldl (fifoStep f) (0, [])).1 = fifo l f := rfl
    rw [h6] at h5
    omega
/-- A set of pages, as the statement's 'seen' is built. -/
def seenF (l : List Int) (m : List (Int × Bool)) : List (Int × Bool) := l.foldl (fun m p => ins m p true) m
theorem ins_keysB (S : List (Int × Bool)) (r : Int) (c : Bool) : ∀ p, p ∈ (ins S r c).map (·.1) ↔ p = r ∨ p ∈ S.map (·.1) := by
  intro p
  have key : ∀ (m : List (Int × Bool)) (p : Int), (lku m p).isSome = true ↔ p ∈ m.map (·.1) := fun m p => by
    unfold lku
    simp only [Option.isSome_map, List.find?_isSome, List.mem_map, beq_iff_eq]
  rw [← key, ← key, lku_ins]
  by_cases e : r = p
  · simp [e]
  · simp [e]; exact fun e' => absurd e'.symm e
theorem seen_keys : ∀ (l : List Int) (m : List (Int × Bool)) (p : Int), p ∈ (seenF l m).map (·.1) ↔ p ∈ l ∨ p ∈ m.map (·.1)
  | [], m, p => by simp [seenF]
  | x :: xs, m, p => by
    have h := seen_keys xs (ins m x true) p
    have h2 : seenF (x :: xs) m = seenF xs (ins m x true) := rfl
    rw [h2, h, ins_keysB, List.mem_cons]
    constructor
    · rintro (h | h | h)
      · exact .inl (.inr h)
      · exact .inl (.inl h)
      · exact .inr h
    · rintro ((h | h) | h)
      · exact .inr (.inl h)
      · exact .inl h
      · exact .inr (.inr h)
theorem seen_len (l : List Int) (hn : ((seenF l []).map (·.1)).Nodup) : (seenF l []).length = nd l := by
  rw [← nd_of hn (L := l), List.length_map]
  intro p
  rw [seen_keys]
  simp
end Go.Proofs.Ytbchpnhlaknhjaa.V
