/-
  What Lru, Fifo and Curve come to, in the program and in its reference: the same plain lists.
-/
import Derived.Test.YtbchpnhlaknhjaaQ102
import Derived.Test.YtbchpnhlaknhjaaQ200
import Derived.Test.YtbchpnhlaknhjaaVa
namespace Go.Proofs.Ytbchpnhlaknhjaa.V
open Go.RowKit Go.Proofs.Ytbchpnhlaknhjaa.Q Go.Proofs.Ytbchpnhlaknhjaa.Sd Go.Proofs.YtbchpnhlaknhjaaW.PrintWords Go.Proofs.YtbchpnhlaknhjaaW.PrintLast Go.Proofs.YtbchpnhlaknhjaaW.PrintMore
set_option linter.unusedVariables false

/-- The references that miss with f frames: their distance is less than 0 or at least f. -/
def isF (f d : Int) : Bool := decide (d < 0 ∨ d ≥ f)
def cntF (f : Int) (ds : List Int) : Int := (ds.countP (isF f) : Nat)
theorem cntF_nil (f : Int) : cntF f [] = 0 := rfl
theorem cntF_cons (f d : Int) (ds : List Int) : cntF f (d :: ds) = cntF f ds + (if d < 0 ∨ d ≥ f then 1 else 0) := by
  unfold cntF
  rw [List.countP_cons]
  by_cases h : d < 0 ∨ d ≥ f
  · simp [isF, h]
  · simp [isF, h]
theorem cntF_le (f : Int) (ds : List Int) : 0 ≤ cntF f ds ∧ cntF f ds ≤ ds.length := by
  have := List.countP_le_length (p := isF f) (l := ds)
  unfold cntF; omega
theorem faults_l0 (f : Int) (l : List Int) (hl : l.length ≤ 5000) (d : Nat) : ∀ (n i : Int), 0 ≤ i → (l.length : Int) - i = d → 0 ≤ n → n ≤ i →
    Ev (fun k => stackdist_faults.l0 k f n l (l.length : Int) i) (n + cntF f (l.drop i.toNat)) := by
  induction d with
  | zero =>
    intro n i h0 hd _ _
    rw [drop_end (by omega), cntF_nil, Int.add_zero]
    exact Ev.step (fun k => by simp only [stackdist_faults.l0]; rw [if_neg (by omega)]) (Ev.now _)
  | succ d ih =>
    intro n i h0 hd hn hni
    have hlt : i < l.length := by omega
    rw [drop_rd h0 hlt, cntF_cons]
    by_cases e : rd l i < 0 ∨ rd l i ≥ f
    · have h := ih (n + 1) (i + 1) (by omega) (by omega) (by omega) (by omega)
      rw [if_pos e, show n + (cntF f (l.drop (i + 1).toNat) + 1) = n + 1 + cntF f (l.drop (i + 1).toNat) by omega]
      by_cases e1 : rd l i < 0
      · exact Ev.step (fun k => by simp only [stackdist_faults.l0]; rw [if_pos hlt, if_pos h0, if_pos hlt, if_pos e1, w64 (by omega), w64 (by omega)]) h
      · exact Ev.step (fun k => by simp only [stackdist_faults.l0]; rw [if_pos hlt, if_pos h0, if_pos hlt, if_neg e1, if_pos (by omega), w64 (by omega), w64 (by omega)]) h
    · have h := ih n (i + 1) (by omega) (by omega) (by omega) (by omega)
      rw [if_neg e, Int.add_zero]
      exact Ev.step (fun k => by simp only [stackdist_faults.l0]; rw [if_pos hlt, if_pos h0, if_pos hlt, if_neg (by omega), if_neg (by omega), w64 (by omega)]) h
theorem faults_ev (f : Int) (l : List Int) (hl : l.length ≤ 5000) : Ev (fun k => stackdist_faults.f k l f) (cntF f l) := by
  have h := faults_l0 f l hl l.length 0 0 (by omega) (by omega) (by omega) (by omega)
  rw [Int.zero_add] at h
  exact h

def lruR (l : List Int) (f : Int) : Int × List Int × Int := if req l.length f = 0 then (cntF f (dists [] l), (stk [] l).take f.toNat, 0) else (0, [], req l.length f)
theorem stk_length : ∀ (l s : List Int), (stk s l).length ≤ s.length + l.length
  | [], s => by simp [stk]
  | r :: rs, s => by
    have h1 := stk_length rs (touch s r).1
    have h2 := touch_length s r
    simp only [stk, List.length_cons]
    omega
theorem lru_ev (l : List Int) (f : Int) : Ev (fun k => stackdist_Lru.f k l f) (lruR l f) := by
  unfold stackdist_Lru.f lruR
  refine Ev.congr (fun k => by rw [request_f, Option.bind_some]) ?_
  by_cases h : req l.length f = 0
  · obtain ⟨h1, h2, h3⟩ := req_zero h
    rw [if_pos h]
    refine Ev.congr (fun k => by rw [if_pos h]) (Ev.bind (walk_ev l (by omega)) (Ev.bind (faults_ev f (dists [] l) (by rw [dists_length]; omega)) (Ev.none_k fun k => ?_)))
    have hs := stk_length l []
    simp only [List.length_nil] at hs
    show (if 0 ≤ (mn f ((stk [] l).length : Int)) then (if (mn f ((stk [] l).length : Int)) ≤ ((stk [] l).length : Int) then ((slices_Clone_int_int.f ((stk [] l).take ((mn f ((stk [] l).length : Int)) : Int).toNat)).bind fun t150 => (some (cntF f (dists [] l), t150, (0 : Int)))) else (none)) else (none)) = _
    rw [if_pos (by unfold mn; split <;> omega), if_pos (by unfold mn; split <;> omega)]
    unfold slices_Clone_int_int.f
    rw [if_pos (by rw [List.length_take]; omega), Option.bind_some]
    congr 3
    unfold mn
    split
    · rw [List.take_of_length_le (by omega), List.take_of_length_le (by omega)]
    · rfl
  · rw [if_neg h]
    exact Ev.none_k fun k => by rw [if_neg h]

theorem posF_take : ∀ (l : List Int) (i p : Int) (n : Nat), 0 ≤ i → posF i (l.take n) p = if posF i l p < i + n then posF i l p else -1
  | [], i, p, n, h => by simp only [List.take_nil, posF]; exact (ite_self _).symm
  | x :: xs, i, p, 0, h => by
    have := posF_range (x :: xs) i p h
    simp only [List.take_zero]
    rw [show posF i [] p = -1 from rfl]
    split <;> omega
  | x :: xs, i, p, n + 1, h => by
    simp only [List.take_succ_cons, posF]
    split
    · rw [if_pos (by omega)]
    · rw [posF_take xs (i + 1) p n (by omega)]
      split <;> split <;> omega
/-- The rest of a stack that is kept in f frames. -/
def cutT (t : List Int) (f : Nat) : List Int := if t.length > f then wo t ((t.length : Int) - 1) else t
theorem cutT_eq (t : List Int) (f : Nat) (h : t.length ≤ f + 1) : cutT t f = t.take f := by
  unfold cutT
  split
  · unfold wo
    rw [if_neg (by omega), show ((t.length : Int) - 1).toNat = f by omega, List.drop_eq_nil_of_le (by omega), List.append_nil]
  · rw [List.take_of_length_le (by omega)]
theorem touch_take (S : List Int) (p : Int) (f : Nat) :
    (touch (S.take f) p).2 = (if (touch S p).2 < f then (touch S p).2 else -1) ∧ cutT (touch (S.take f) p).1 f = (touch S p).1.take f := by
  have e := posF_take S 0 p f (by omega)
  rw [Int.zero_add] at e
  have hl := touch_length (S.take f) p
  have hr := posF_range S 0 p (by omega)
  refine ⟨e, ?_⟩
  rw [cutT_eq _ _ (by rw [List.length_take] at hl; omega)]
  unfold touch
  simp only
  rw [e]
  cases f with
  | zero => simp
  | succ g =>
    rw [List.take_succ_cons, List.take_succ_cons]
    congr 1
    split
    · rename_i hd
      rcases hr with h | h
      · simp only [wo, h]; rw [if_pos (by omega), if_pos (by omega), List.take_take]; congr 1; omega
      · obtain ⟨d, hd'⟩ : ∃ d : Nat, posF 0 S p = d := ⟨(posF 0 S p).toNat, by omega⟩
        rw [hd'] at hd h ⊢
        simp only [wo]
        rw [if_neg (by omega), if_neg (by omega), show (d : Int).toNat = d by omega, List.take_take, List.take_append, List.take_append, List.take_take, List.take_take, List.length_take, List.length_take, List.drop_take, List.take_take]
        rw [show min g (min d (g + 1)) = min g d by omega, show min (g - min (min d (g + 1)) S.length) (g + 1 - (d + 1)) = g - min d S.length by omega]
    · rename_i hd
      rcases hr with h | h
      · omega
      · obtain ⟨d, hd'⟩ : ∃ d : Nat, posF 0 S p = d := ⟨(posF 0 S p).toNat, by omega⟩
        rw [hd'] at hd h ⊢
        simp only [wo]
        rw [if_pos (by omega), if_neg (by omega), show (d : Int).toNat = d by omega, List.take_take, List.take_append, List.take_take, List.length_take, show g - min d S.length = 0 by omega, List.take_zero, List.append_nil]
        congr 1; omega
theorem refLru_l0 (l : List Int) (f : Nat) (hl : l.length ≤ 5000) (d : Nat) : ∀ (n i : Int) (S : List Int), 0 ≤ i → (l.length : Int) - i = d → 0 ≤ n → n ≤ i → S.length ≤ i.toNat →
    Ev (fun k => estoversref37_Lru.l0 k l (f : Int) n (S.take f) i) (n + cntF f (dists S (l.drop i.toNat)), (stk S (l.drop i.toNat)).take f, 0) := by
  induction d with
  | zero =>
    intro n i S h0 hd _ _ _
    rw [drop_end (by omega)]
    simp only [dists, stk, cntF_nil, Int.add_zero]
    exact Ev.step (fun k => by simp only [estoversref37_Lru.l0]; rw [if_neg (by omega)]) (Ev.now _)
  | succ d ih =>
    intro n i S h0 hd hn hni hS
    have hlt : i < l.length := by omega
    rw [drop_rd h0 hlt]
    simp only [dists, stk]
    obtain ⟨e1, e2⟩ := touch_take S (rd l i) f
    have hs2 := touch_length S (rd l i)
    have hs3 := touch_length (S.take f) (rd l i)
    have hs4 : (S.take f).length ≤ i.toNat := by rw [List.length_take]; omega
    have hr := posF_range S 0 (rd l i) (by omega)
    rw [cntF_cons]
    refine Ev.step (f := fun k => (estoversref37_Touch.f k (S.take f) (rd l i)).bind fun bt => (if bt.2 < 0 then (if (bt.1.length : Int) > (f : Int) then ((estoversref37_without.f k bt.1 (wrap64 ((bt.1.length : Int) - 1))).bind fun t287 => (estoversref37_Lru.l0 k l (f : Int) (wrap64 (n + 1)) t287 (wrap64 (i + 1)))) else (estoversref37_Lru.l0 k l (f : Int) (wrap64 (n + 1)) bt.1 (wrap64 (i + 1)))) else (if (bt.1.length : Int) > (f : Int) then ((estoversref37_without.f k bt.1 (wrap64 ((bt.1.length : Int) - 1))).bind fun t290 => (estoversref37_Lru.l0 k l (f : Int) n t290 (wrap64 (i + 1)))) else (estoversref37_Lru.l0 k l (f : Int) n bt.1 (wrap64 (i + 1))))))
      (fun k => by simp only [estoversref37_Lru.l0]; rw [if_pos hlt, if_pos h0]) ?_
    refine Ev.bind (refTouch_ev _ _ (by omega)) ?_
    have rest : ∀ m : Int, 0 ≤ m → m ≤ i + 1 → Ev (fun k => if ((touch (S.take f) (rd l i)).1.length : Int) > (f : Int) then ((estoversref37_without.f k (touch (S.take f) (rd l i)).1 (wrap64 (((touch (S.take f) (rd l i)).1.length : Int) - 1))).bind fun t287 => (estoversref37_Lru.l0 k l (f : Int) m t287 (wrap64 (i + 1)))) else (estoversref37_Lru.l0 k l (f : Int) m (touch (S.take f) (rd l i)).1 (wrap64 (i + 1))))
        (m + cntF f (dists (touch S (rd l i)).1 (l.drop (i + 1).toNat)), (stk (touch S (rd l i)).1 (l.drop (i + 1).toNat)).take f, 0) := by
      intro m hm hmi
      have h := ih m (i + 1) (touch S (rd l i)).1 (by omega) (by omega) hm hmi (by omega)
      rw [← e2] at h
      unfold cutT at h
      by_cases hc : (touch (S.take f) (rd l i)).1.length > f
      · rw [if_pos hc] at h
        refine Ev.congr (fun k => by rw [if_pos (by omega), w64 (i := ((touch (S.take f) (rd l i)).1.length : Int) - 1) (by omega), w64 (by omega)]) (Ev.bind (without_ev _ _ (by omega)) h)
      · rw [if_neg hc] at h
        exact Ev.congr (fun k => by rw [if_neg (by omega), w64 (by omega)]) h
    have hp : (touch S (rd l i)).2 = posF 0 S (rd l i) := rfl
    by_cases hc : (touch S (rd l i)).2 < 0 ∨ (touch S (rd l i)).2 ≥ f
    · rw [if_pos hc, show ∀ x : Int, n + (x + 1) = n + 1 + x from fun x => by omega]
      refine Ev.congr (fun k => ?_) (rest (n + 1) (by omega) (by omega))
      rw [if_pos (by rw [e1]; split <;> omega), w64 (i := n + 1) (by omega)]
    · rw [if_neg hc, Int.add_zero]
      refine Ev.congr (fun k => ?_) (rest n (by omega) (by omega))
      rw [if_neg (by rw [e1]; split <;> omega)]
theorem refLru_ev (l : List Int) (f : Int) : Ev (fun k => estoversref37_Lru.f k l f) (lruR l f) := by
  unfold estoversref37_Lru.f lruR
  refine Ev.congr (fun k => by rw [check_f, Option.bind_some]) ?_
  by_cases h : req l.length f = 0
  · obtain ⟨h1, h2, h3⟩ := req_zero h
    rw [if_pos h]
    obtain ⟨g, rfl⟩ : ∃ g : Nat, f = g := ⟨f.toNat, by omega⟩
    have := refLru_l0 l g (by omega) l.length 0 0 [] (by omega) (by omega) (by omega) (by omega) (by simp)
    simp only [Int.zero_add, List.take_nil] at this
    exact Ev.congr (fun k => by rw [if_pos h]) this
  · rw [if_neg h]
    exact Ev.none_k fun k => by rw [if_neg h]

/-- First in, first out. -/
def fifoStep (f : Int) (st : Int × List Int) (r : Int) : Int × List Int :=
  if r ∈ st.2 then st else (st.1 + 1, if ((st.2 ++ [r]).length : Int) > f then (st.2 ++ [r]).drop 1 else st.2 ++ [r])
def fifo (l : List Int) (f : Int) : Int := (l.foldl (fifoStep f) (0, [])).1
def fifoR (l : List Int) (f : Int) : Int × Int := if req l.length f = 0 then (fifo l f, 0) else (0, req l.length f)
theorem posF_mem : ∀ (l : List Int) (i p : Int), 0 ≤ i → (posF i l p ≥ 0 ↔ p ∈ l)
  | [], i, p, h => by simp [posF]
  | x :: xs, i, p, h => by
    unfold posF
    split
    · rename_i e; simp [e]; omega
    · rename_i e; rw [posF_mem xs (i + 1) p (by omega)]; simp [e]
theorem fifoStep_length (f : Int) (st : Int × List Int) (r : Int) : (fifoStep f st r).2.length ≤ st.2.length + 1 := by
  unfold fifoStep
  split
  · omega
  · simp only; split <;> simp
theorem contains_ev (l : List Int) (p : Int) (hl : l.length ≤ 1000000) : Ev (fun k => slices_Contains_int_int.f k l p) (decide (p ∈ l)) := by
  unfold slices_Contains_int_int.f
  refine Ev.bind (index_ev l p hl) (Ev.none_k fun k => ?_)
  congr 1
  exact decide_eq_decide.2 (posF_mem l 0 p (by omega))
theorem fifo_l0 (l : List Int) (f : Int) (hl : l.length ≤ 5000) (d : Nat) : ∀ (n i : Int) (q : List Int), 0 ≤ i → (l.length : Int) - i = d → 0 ≤ n → n ≤ i → q.length ≤ i.toNat →
    Ev (fun k => stackdist_Fifo.l0 k f n q l (l.length : Int) i) (((l.drop i.toNat).foldl (fifoStep f) (n, q)).1, 0) := by
  induction d with
  | zero =>
    intro n i q h0 hd _ _ _
    rw [drop_end (by omega)]
    exact Ev.step (fun k => by simp only [stackdist_Fifo.l0]; rw [if_neg (by omega)]; rfl) (Ev.now _)
  | succ d ih =>
    intro n i q h0 hd hn hni hq
    have hlt : i < l.length := by omega
    rw [drop_rd h0 hlt]
    have hq2 := fifoStep_length f (n, q) (rd l i)
    simp only [List.foldl_cons]
    refine Ev.step (f := fun k => (slices_Contains_int_int.f k q (rd l i)).bind fun t156 => (if t156 = true then (stackdist_Fifo.l0 k f n q l (l.length : Int) (wrap64 (i + 1))) else (if q.length < 17592186044416 then ((some (q ++ [rd l i] : List Int)).bind fun y157 => (if (y157.length : Int) > f then (if 1 ≤ (y157.length : Int) then (stackdist_Fifo.l0 k f (wrap64 (n + 1)) (y157.drop (1 : Int).toNat) l (l.length : Int) (wrap64 (i + 1))) else (none)) else (stackdist_Fifo.l0 k f (wrap64 (n + 1)) y157 l (l.length : Int) (wrap64 (i + 1))))) else (none))))
      (fun k => by simp only [stackdist_Fifo.l0]; rw [if_pos hlt, if_pos h0, if_pos hlt]) ?_
    refine Ev.bind (contains_ev q _ (by omega)) ?_
    by_cases hm : rd l i ∈ q
    · have h := ih n (i + 1) q (by omega) (by omega) (by omega) (by omega) (by omega)
      rw [show fifoStep f (n, q) (rd l i) = (n, q) by simp [fifoStep, hm]]
      exact Ev.congr (fun k => by rw [if_pos (decide_eq_true hm), w64 (by omega)]) h
    · have h := ih (n + 1) (i + 1) (if ((q ++ [rd l i]).length : Int) > f then (q ++ [rd l i]).drop 1 else q ++ [rd l i]) (by omega) (by omega) (by omega) (by omega) (by split <;> simp <;> omega)
      rw [show fifoStep f (n, q) (rd l i) = (n + 1, if ((q ++ [rd l i]).length : Int) > f then (q ++ [rd l i]).drop 1 else q ++ [rd l i]) by simp only [fifoStep]; rw [if_neg hm]]
      refine Ev.congr (fun k => ?_) h
      rw [if_neg (by simpa using hm), if_pos (by omega), Option.bind_some, w64 (i := n + 1) (by omega), w64 (i := i + 1) (by omega)]
      by_cases hc : ((q ++ [rd l i]).length : Int) > f
      · rw [if_pos hc, if_pos hc, if_pos (by simp; omega)]; rfl
      · rw [if_neg hc, if_neg hc]
theorem fifo_ev (l : List Int) (f : Int) : Ev (fun k => stackdist_Fifo.f k l f) (fifoR l f) := by
  unfold stackdist_Fifo.f fifoR
  refine Ev.congr (fun k => by rw [request_f, Option.bind_some]) ?_
  by_cases h : req l.length f = 0
  · obtain ⟨h1, h2, h3⟩ := req_zero h
    rw [if_pos h]
    exact Ev.congr (fun k => by rw [if_pos h]) (fifo_l0 l f (by omega) l.length 0 0 [] (by omega) (by omega) (by omega) (by omega) (by simp))
  · rw [if_neg h]
    exact Ev.none_k fun k => by rw [if_neg h]
theorem wo_zero (l : List Int) : wo l 0 = l.drop 1 := by simp [wo]
theorem refFifo_l0 (l : List Int) (f : Int) (hl : l.length ≤ 5000) (d : Nat) : ∀ (n i : Int) (q : List Int), 0 ≤ i → (l.length : Int) - i = d → 0 ≤ n → n ≤ i → q.length ≤ i.toNat →
    Ev (fun k => estoversref37_Fifo.l0 k l f n q i) (((l.drop i.toNat).foldl (fifoStep f) (n, q)).1, 0) := by
  induction d with
  | zero =>
    intro n i q h0 hd _ _ _
    rw [drop_end (by omega)]
    exact Ev.step (fun k => by simp only [estoversref37_Fifo.l0]; rw [if_neg (by omega)]; rfl) (Ev.now _)
  | succ d ih =>
    intro n i q h0 hd hn hni hq
    have hlt : i < l.length := by omega
    rw [drop_rd h0 hlt]
    have hq2 := fifoStep_length f (n, q) (rd l i)
    simp only [List.foldl_cons]
    refine Ev.step (f := fun k => (estoversref37_At.f k q (rd l i)).bind fun t295 => (if t295 ≥ 0 then (estoversref37_Fifo.l0 k l f n q (wrap64 (i + 1))) else (if q.length < 17592186044416 then ((some (q ++ [rd l i] : List Int)).bind fun y297 => (if (y297.length : Int) > f then ((estoversref37_without.f k y297 0).bind fun t300 => (estoversref37_Fifo.l0 k l f (wrap64 (n + 1)) t300 (wrap64 (i + 1)))) else (estoversref37_Fifo.l0 k l f (wrap64 (n + 1)) y297 (wrap64 (i + 1))))) else (none))))
      (fun k => by simp only [estoversref37_Fifo.l0]; rw [if_pos hlt, if_pos h0]) ?_
    refine Ev.bind (at_ev q _ (by omega)) ?_
    by_cases hm : rd l i ∈ q
    · have h := ih n (i + 1) q (by omega) (by omega) (by omega) (by omega) (by omega)
      rw [show fifoStep f (n, q) (rd l i) = (n, q) by simp [fifoStep, hm]]
      exact Ev.congr (fun k => by rw [if_pos ((posF_mem q 0 _ (by omega)).2 hm), w64 (by omega)]) h
    · have h := ih (n + 1) (i + 1) (if ((q ++ [rd l i]).length : Int) > f then (q ++ [rd l i]).drop 1 else q ++ [rd l i]) (by omega) (by omega) (by omega) (by omega) (by split <;> simp <;> omega)
      rw [show fifoStep f (n, q) (rd l i) = (n + 1, if ((q ++ [rd l i]).length : Int) > f then (q ++ [rd l i]).drop 1 else q ++ [rd l i]) by simp only [fifoStep]; rw [if_neg hm]]
      refine Ev.congr (r := (((l.drop (i + 1).toNat).foldl (fifoStep f) (n + 1, if ((q ++ [rd l i]).length : Int) > f then (q ++ [rd l i]).drop 1 else q ++ [rd l i])).1, 0)) (fun k => by rw [if_neg (fun h => hm ((posF_mem q 0 _ (by omega)).1 h)), if_pos (by omega), Option.bind_some, w64 (i := n + 1) (by omega), w64 (i := i + 1) (by omega)]) ?_
      by_cases hc : ((q ++ [rd l i]).length : Int) > f
      · rw [if_pos hc, ← wo_zero] at h ⊢
        exact Ev.congr (fun k => by rw [if_pos hc]) (Ev.bind (without_ev (q ++ [rd l i]) 0 (by simp; omega)) h)
      · rw [if_neg hc] at h ⊢
        exact Ev.congr (fun k => by rw [if_neg hc]) h
theorem refFifo_ev (l : List Int) (f : Int) : Ev (fun k => estoversref37_Fifo.f k l f) (fifoR l f) := by
  unfold estoversref37_Fifo.f fifoR
  refine Ev.congr (fun k => by rw [check_f, Option.bind_some]) ?_
  by_cases h : req l.length f = 0
  · obtain ⟨h1, h2, h3⟩ := req_zero h
    rw [if_pos h]
    exact Ev.congr (fun k => by rw [if_pos h]) (refFifo_l0 l f (by omega) l.length 0 0 [] (by omega) (by omega) (by omega) (by omega) (by simp))
  · rw [if_neg h]
    exact Ev.none_k fun k => by rw [if_neg h]
end Go.Proofs.Ytbchpnhlaknhjaa.V
