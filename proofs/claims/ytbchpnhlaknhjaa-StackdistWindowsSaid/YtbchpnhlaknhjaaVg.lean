/-
  LRU and FIFO as replacements that keep at most f pages; the plain cache's misses are FIFO's faults.
-/
import Derived.Test.YtbchpnhlaknhjaaVd
import Derived.Test.YtbchpnhlaknhjaaERefaults
namespace Go.Proofs.Ytbchpnhlaknhjaa.V
open Go.RowKit Go.Proofs.Ytbchpnhlaknhjaa.Q Go.Proofs.Ytbchpnhlaknhjaa.Sd Go.Proofs.Ytbchpnhlaknhjaa.Bel Go.Proofs.YtbchpnhlaknhjaaW.PrintWords Go.Proofs.YtbchpnhlaknhjaaW.PrintLast Go.Proofs.YtbchpnhlaknhjaaW.PrintMore
set_option linter.unusedVariables false
set_option linter.unusedSimpArgs false

theorem snoc_nodup {q : List Int} {r : Int} (hq : q.Nodup) (hm : r ∉ q) : (q ++ [r]).Nodup := by
  rw [List.nodup_append]
  refine ⟨hq, by simp, fun a ha b hb => ?_⟩
  rw [List.mem_singleton] at hb
  rw [hb]; exact fun e => hm (e ▸ ha)
theorem fifoStep_step {f : Nat} (hf : 1 ≤ f) {q : List Int} {n : Int} (r : Int) (hq : q.Nodup) (hl : q.length ≤ f) :
    AStep f r q (fifoStep f (n, q) r).2 ∧ (fifoStep f (n, q) r).1 = n + (if r ∈ q then 0 else 1) := by
  unfold fifoStep
  by_cases hm : r ∈ q
  · rw [if_pos hm, if_pos hm]
    exact ⟨⟨hq, hl, hm, fun p hp => .inl hp⟩, by omega⟩
  · rw [if_neg hm, if_neg hm]
    refine ⟨?_, rfl⟩
    have hn := snoc_nodup hq hm
    by_cases hc : ((q ++ [r]).length : Int) > f
    · simp only
      rw [if_pos hc]
      have hpos : 0 < q.length := by simp at hc; omega
      refine ⟨hn.sublist (List.drop_sublist _ _), by simp; omega, ?_, fun p hp => ?_⟩
      · rw [List.drop_append_of_le_length (by omega)]; simp
      · have := List.mem_of_mem_drop hp
        rw [List.mem_append, List.mem_singleton] at this
        exact this
    · simp only
      rw [if_neg hc]
      refine ⟨hn, by omega, by simp, fun p hp => ?_⟩
      rw [List.mem_append, List.mem_singleton] at hp
      exact hp
theorem fifo_run {f : Nat} (hf : 1 ≤ f) : ∀ (rs : List Int) (q : List Int) (n : Int), q.Nodup → q.length ≤ f → ARun f rs q ((rs.foldl (fifoStep f) (n, q)).1 - n)
  | [], q, n, _, _ => by simp only [List.foldl_nil, Int.sub_self]; exact .nil q
  | r :: rs, q, n, hq, hl => by
    obtain ⟨h1, h2⟩ := fifoStep_step hf (n := n) r hq hl
    have h3 := fifo_run hf rs (fifoStep f (n, q) r).2 (fifoStep f (n, q) r).1 h1.nodup h1.len
    have h4 := ARun.cons h1 h3
    rw [List.foldl_cons]
    have e : ∀ x : Int, x - n = (if r ∈ q then 0 else 1) + (x - (fifoStep f (n, q) r).1) := fun x => by rw [h2]; omega
    rw [e]
    exact h4
theorem fifo_arun {f : Nat} (hf : 1 ≤ f) (l : List Int) : ARun f l [] (fifo l f) := by
  have h := fifo_run hf l [] 0 (by simp) (by simp)
  rw [Int.sub_zero] at h
  exact h
theorem touch_mem (S : List Int) (r : Int) : ∀ p ∈ (touch S r).1, p ∈ S ∨ p = r := by
  intro p hp
  simp only [touch, List.mem_cons] at hp
  rcases hp with hp | hp
  · exact .inr hp
  · refine .inl ?_
    unfold wo at hp
    split at hp
    · exact hp
    · rcases List.mem_append.1 hp with h | h
      · exact List.mem_of_mem_take h
      · exact List.mem_of_mem_drop h
theorem touch_nodup (S : List Int) (r : Int) (h : S.Nodup) : (touch S r).1.Nodup := by
  have hr := posF_range S 0 r (by omega)
  have hm := posF_mem S 0 r (by omega)
  simp only [touch]
  rw [List.nodup_cons]
  rcases hr with e | e
  · rw [e]
    have : r ∉ S := fun h' => by have := hm.2 h'; omega
    simp only [wo]
    rw [if_pos (by omega)]
    exact ⟨this, h⟩
  · obtain ⟨w1, w2, w3, w4⟩ := wo_facts S (posF 0 S r) (by omega) (by omega) h
    refine ⟨fun h' => ?_, w1⟩
    have hp : ∀ (l : List Int) (i p : Int), 0 ≤ i → posF i l p ≥ 0 → rd l (posF i l p - i) = p := by
      intro l
      induction l with
      | nil => intro i p h0 h; simp [posF] at h
      | cons x xs ih =>
        intro i p h0 h
        unfold posF at h ⊢
        split
        · rename_i e; simp [rd, e]
        · rename_i e
          rw [if_neg e] at h
          have h2 := ih (i + 1) p (by omega) h
          have h3 := posF_range xs (i + 1) p (by omega)
          obtain ⟨m, hm⟩ : ∃ m : Nat, posF (i + 1) xs p - (i + 1) = m := ⟨(posF (i + 1) xs p - (i + 1)).toNat, by omega⟩
          rw [hm] at h2
          rw [show posF (i + 1) xs p - i = ((m + 1 : Nat) : Int) by omega]
          refine Eq.trans ?_ h2
          simp only [rd]
          rw [show ((m + 1 : Nat) : Int).toNat = m + 1 by omega, show (m : Int).toNat = m by omega]
          simp [List.getD_eq_getElem?_getD]
    have hpr := hp S 0 r (by omega) (by omega)
    rw [Int.sub_zero] at hpr
    have h2 := le_of_sub (X := S) (Y := wo S (posF 0 S r)) h (fun p hpS => by
      by_cases ep : p = r
      · exact ep ▸ h'
      · exact w4 p hpS (by rw [hpr]; exact ep))
    omega
theorem posF_neg_iff (S : List Int) (r : Int) : posF 0 S r < 0 ↔ r ∉ S := by
  have := posF_mem S 0 r (by omega)
  constructor
  · intro h h'; have := this.2 h'; omega
  · intro h; apply Int.not_le.1; exact fun h' => h (this.1 h')
theorem lru_run {f : Nat} (hf : 1 ≤ f) : ∀ (rs : List Int) (S : List Int), S.Nodup → ARun f rs (S.take f) (cntF f (dists S rs))
  | [], S, _ => .nil _
  | r :: rs, S, hS => by
    obtain ⟨e1, e2⟩ := touch_take S r f
    have hn := touch_nodup S r hS
    have h := lru_run hf rs (touch S r).1 hn
    have hl := touch_length (S.take f) r
    have hs : AStep f r (S.take f) ((touch S r).1.take f) := by
      refine ⟨hn.sublist (List.take_sublist _ _), by rw [List.length_take]; omega, ?_, fun p hp => ?_⟩
      · obtain ⟨g, rfl⟩ : ∃ g, f = g + 1 := ⟨f - 1, by omega⟩
        simp [touch]
      · rw [← e2, cutT_eq _ _ (by rw [List.length_take] at hl; omega)] at hp
        exact touch_mem _ _ p (List.mem_of_mem_take hp)
    have h2 := ARun.cons hs h
    simp only [dists]
    rw [cntF_cons, Int.add_comm]
    have e : (if r ∈ S.take f then 0 else 1 : Int) = (if (touch S r).2 < 0 ∨ (touch S r).2 ≥ f then 1 else 0) := by
      have h3 : posF 0 (S.take f) r = (if (touch S r).2 < f then (touch S r).2 else -1) := e1
      have h4 := posF_neg_iff (S.take f) r
      rw [h3] at h4
      have h5 := posF_range S 0 r (by omega)
      have h6 : (touch S r).2 = posF 0 S r := rfl
      by_cases hm : r ∈ S.take f
      · rw [if_pos hm, if_neg]
        intro hc
        apply h4.1 ?_ hm
        split <;> omega
      · rw [if_neg hm, if_pos]
        have := h4.2 hm
        split at this <;> omega
    rw [← e]
    exact h2
theorem lru_arun {f : Nat} (hf : 1 ≤ f) (l : List Int) : ARun f l [] (cntF f (dists [] l)) := by
  have h := lru_run hf l [] (by simp)
  rw [List.take_nil] at h
  exact h

/-- The references that are no hits. -/
def mis (l : List Int) : Int := (l.countP (fun x => decide (x ≠ -1)) : Nat)
theorem mis_cons (x : Int) (l : List Int) : mis (x :: l) = mis l + (if x = -1 then 0 else 1) := by
  unfold mis
  rw [List.countP_cons]
  by_cases h : x = -1 <;> simp [h]
theorem mis_append (l m : List Int) : mis (l ++ m) = mis l + mis m := by unfold mis; rw [List.countP_append]; omega
theorem missed_l0 (l : List Int) (hl : l.length ≤ 100000) (d : Nat) : ∀ (n i : Int), 0 ≤ i → (l.length : Int) - i = d → 0 ≤ n → n ≤ i →
    Ev (fun k => estoverstop_missed.l0 k n l (l.length : Int) i) (n + mis (l.drop i.toNat)) := by
  induction d with
  | zero =>
    intro n i h0 hd _ _
    rw [drop_end (by omega)]
    exact Ev.step (fun k => by simp only [estoverstop_missed.l0]; rw [if_neg (by omega)]; simp [mis]) (Ev.now _)
  | succ d ih =>
    intro n i h0 hd hn hni
    have hlt : i < l.length := by omega
    rw [drop_rd h0 hlt, mis_cons]
    by_cases e : rd l i = -1
    · rw [if_pos e, Int.add_zero]
      exact Ev.step (fun k => by simp only [estoverstop_missed.l0]; rw [if_pos hlt, if_pos h0, if_pos hlt, if_pos e, w64 (by omega)]) (ih n (i + 1) (by omega) (by omega) (by omega) (by omega))
    · have h := ih (n + 1) (i + 1) (by omega) (by omega) (by omega) (by omega)
      rw [if_neg e, show n + (mis (l.drop (i + 1).toNat) + 1) = n + 1 + mis (l.drop (i + 1).toNat) by omega]
      exact Ev.step (fun k => by simp only [estoverstop_missed.l0]; rw [if_pos hlt, if_pos h0, if_pos hlt, if_neg e, w64 (by omega), w64 (by omega)]) h
theorem missed_ev (l : List Int) (hl : l.length ≤ 100000) : Ev (fun k => estoverstop_missed.f k l) (mis l) := by
  have h := missed_l0 l hl l.length 0 0 (by omega) (by omega) (by omega) (by omega)
  rw [Int.zero_add] at h
  exact h
def pages (l : List Int) : List Int := l.map fun x => Int.tmod x 12
theorem pages_l0 (l : List Int) (hl : l.length ≤ 100000) (hw : ∀ x ∈ l, 0 ≤ x ∧ x ≤ 255) (d : Nat) : ∀ (i : Int) (acc : List Int), 0 ≤ i → (l.length : Int) - i = d → acc.length ≤ i.toNat →
    Ev (fun k => estoverstop_pageRefs.l0 k acc l (l.length : Int) i) (acc ++ pages (l.drop i.toNat)) := by
  induction d with
  | zero =>
    intro i acc h0 hd _
    rw [drop_end (by omega)]
    exact Ev.step (fun k => by simp only [estoverstop_pageRefs.l0]; rw [if_neg (by omega)]; simp [pages]) (Ev.now _)
  | succ d ih =>
    intro i acc h0 hd ha
    have hlt : i < l.length := by omega
    have hx := hw _ (rd_mem h0 hlt)
    have h := ih (i + 1) (acc ++ [Int.tmod (rd l i) 12]) (by omega) (by omega) (by simp; omega)
    rw [List.append_assoc] at h
    rw [drop_rd h0 hlt]
    refine Ev.step (fun k => ?_) h
    simp only [estoverstop_pageRefs.l0]
    rw [if_pos hlt, if_pos h0, if_pos hlt, if_pos (by omega), w64 (i := i + 1) (by omega), w64 (by rw [Int.tmod_eq_emod_of_nonneg hx.1]; omega)]
theorem pages_ev (l : List Int) (hl : l.length ≤ 100000) (hw : ∀ x ∈ l, 0 ≤ x ∧ x ≤ 255) : Ev (fun k => estoverstop_pageRefs.f k l) (pages l) := pages_l0 l hl hw l.length 0 [] (by omega) (by omega) (by simp)
theorem pages_length (l : List Int) : (pages l).length = l.length := by simp [pages]
theorem pages_wfs (l : List Int) (hw : ∀ x ∈ l, 0 ≤ x ∧ x ≤ 255) : wfs (pages l) := by
  intro x hx
  simp only [pages, List.mem_map] at hx
  obtain ⟨y, hy, rfl⟩ := hx
  have h := hw y hy
  rw [Int.tmod_eq_emod_of_nonneg h.1]
  omega

/-- The plain cache and FIFO's frames, step by step. -/
structure RF (f : Nat) (c : Cache) (n : Int) (q : List Int) : Prop where
  queue : c.queue = q
  held : ∀ p, (lku c.held p).getD false = decide (p ∈ q)
  nodup : q.Nodup
  len : q.length ≤ f
  whn : ∀ p a, lku c.whn p = some a → a ≤ c.count
  mis : mis c.out = n
theorem RF.step {f : Nat} (hf : 1 ≤ f) {c : Cache} {n : Int} {q : List Int} (h : RF f c n q) (p : Int) : RF f (rfStep f c p) (fifoStep f (n, q) p).1 (fifoStep f (n, q) p).2 ∧ (rfStep f c p).out.length = c.out.length + 1 := by
  obtain ⟨h1, h2, h3, h4, h5, h6⟩ := h
  have hstep := fifoStep_step hf (n := n) p h3 h4
  unfold rfStep
  rw [h2 p]
  by_cases hm : p ∈ q
  · rw [if_pos (by simpa using hm), show fifoStep f (n, q) p = (n, q) by simp [fifoStep, hm]]
    refine ⟨⟨h1, h2, h3, h4, h5, ?_⟩, by simp⟩
    rw [mis_append, h6]; simp [V.mis]
  · rw [if_neg (by simpa using hm)]
    have hd : dist c.whn c.count p ≠ -1 := by
      unfold dist
      split
      · rename_i a ha; have := h5 p a ha; omega
      · omega
    have hout : V.mis (c.out ++ [dist c.whn c.count p]) = n + 1 := by
      rw [mis_append, h6, mis_cons, if_neg hd]; simp [V.mis]
    have e0 : fifoStep f (n, q) p = (n + 1, if ((q ++ [p]).length : Int) > f then (q ++ [p]).drop 1 else q ++ [p]) := by simp only [fifoStep]; rw [if_neg hm]
    rw [h1]
    by_cases hc : (q.length : Int) = f
    · rw [if_pos hc]
      have hpos : 0 < q.length := by omega
      have e : fifoStep f (n, q) p = (n + 1, q.drop 1 ++ [p]) := by
        rw [e0, if_pos (by simp; omega), List.drop_append_of_le_length (by omega)]
      rw [e] at hstep ⊢
      obtain ⟨q0, qs, rfl⟩ : ∃ q0 qs, q = q0 :: qs := by
        cases q with
        | nil => simp at hpos
        | cons a b => exact ⟨a, b, rfl⟩
      have hn0 := (List.nodup_cons.1 h3).1
      have hq0 : (q0 :: qs).getD 0 0 = q0 := rfl
      refine ⟨⟨rfl, fun x => ?_, hstep.1.nodup, hstep.1.len, fun x a ha => ?_, hout⟩, by simp⟩
      · simp only
        rw [hq0, lku_ins, lku_rmv]
        have h2x := h2 x
        by_cases e1 : p = x
        · simp [e1]
        · rw [if_neg e1]
          by_cases e2 : q0 = x
          · subst e2
            rw [if_pos rfl]
            have : q0 ≠ p := fun h => e1 h.symm
            simp [hn0, this]
          · rw [if_neg e2, h2x]
            have e1' : x ≠ p := fun h => e1 h.symm
            have e2' : x ≠ q0 := fun h => e2 h.symm
            simp [e1', e2']
      · simp only at ha ⊢
        rw [hq0, lku_ins] at ha
        split at ha
        · simp only [Option.some.injEq] at ha; omega
        · have := h5 x a ha; omega
    · rw [if_neg hc]
      have e : fifoStep f (n, q) p = (n + 1, q ++ [p]) := by
        rw [e0, if_neg (by simp; omega)]
      rw [e] at hstep ⊢
      refine ⟨⟨rfl, fun x => ?_, hstep.1.nodup, hstep.1.len, fun x a ha => h5 x a ha, hout⟩, by simp⟩
      simp only
      rw [lku_ins]
      by_cases e1 : p = x
      · simp [e1]
      · rw [if_neg e1, h2 x]
        have e1' : x ≠ p := fun h => e1 h.symm
        simp [e1']
theorem rf_fold {f : Nat} (hf : 1 ≤ f) : ∀ (rs : List Int) (c : Cache) (n : Int) (q : List Int), RF f c n q →
    mis (rs.foldl (rfStep f) c).out = (rs.foldl (fifoStep f) (n, q)).1 ∧ (rs.foldl (rfStep f) c).out.length = c.out.length + rs.length
  | [], c, n, q, h => ⟨h.mis, by simp⟩
  | r :: rs, c, n, q, h => by
    obtain ⟨h1, h2⟩ := h.step hf r
    obtain ⟨h3, h4⟩ := rf_fold hf rs _ _ _ h1
    simp only [List.foldl_cons]
    refine ⟨h3, ?_⟩
    rw [h4, h2, List.length_cons]; omega
theorem rf_fifo {f : Nat} (hf : 1 ≤ f) (l : List Int) : mis (rf l f) = fifo l f ∧ (rf l f).length = l.length := by
  obtain ⟨h1, h2⟩ := rf_fold hf l ⟨[], [], 0, [], []⟩ 0 [] ⟨rfl, fun p => by simp [lku], by simp, by simp, fun p a h => by simp [lku] at h, rfl⟩
  exact ⟨h1, by rw [rf, h2]; simp⟩
end Go.Proofs.Ytbchpnhlaknhjaa.V
