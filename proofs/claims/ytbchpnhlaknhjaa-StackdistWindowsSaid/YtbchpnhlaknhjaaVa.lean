/-
  What the printed functions of stackdist and of its reference come to, in plain lists: Index, At, without, Touch, walk, Distances, Same.
-/
import Derived.Test.YtbchpnhlaknhjaaQ100
import Derived.Test.YtbchpnhlaknhjaaQ101
import Derived.Test.YtbchpnhlaknhjaaSpec
namespace Go.Proofs.Ytbchpnhlaknhjaa.V
open Go.RowKit Go.Proofs.Ytbchpnhlaknhjaa.Q Go.Proofs.Ytbchpnhlaknhjaa.Sd Go.Proofs.YtbchpnhlaknhjaaW.PrintWords Go.Proofs.YtbchpnhlaknhjaaW.PrintLast
set_option linter.unusedVariables false

theorem w64 {i : Int} (h : -9223372036854775808 ≤ i ∧ i ≤ 9223372036854775807) : wrap64 i = i := by unfold wrap64; omega
theorem drop_rd {l : List Int} {i : Int} (h0 : 0 ≤ i) (h : i < l.length) : l.drop i.toNat = rd l i :: l.drop (i + 1).toNat := by
  rw [List.drop_eq_getElem_cons (show i.toNat < l.length by omega), show (i + 1).toNat = i.toNat + 1 by omega]
  congr 1
  simp only [rd, List.getD_eq_getElem?_getD]
  rw [List.getElem?_eq_getElem (by omega)]
  rfl
theorem drop_end {l : List Int} {i : Int} (h : (l.length : Int) ≤ i) : l.drop i.toNat = [] := List.drop_eq_nil_of_le (by omega)
theorem Ev.none_k {α : Type} {g : Nat → Option α} {r : α} (h : ∀ k, g k = some r) : Ev g r := ⟨0, fun k _ => h k⟩

/-- The first place of p, counted from i; -1 if there is none. -/
def posF : Int → List Int → Int → Int
  | _, [], _ => -1
  | i, x :: xs, p => if p = x then i else posF (i + 1) xs p
theorem posF_range : ∀ (l : List Int) (i p : Int), 0 ≤ i → posF i l p = -1 ∨ (i ≤ posF i l p ∧ posF i l p < i + l.length)
  | [], _, _, _ => .inl rfl
  | x :: xs, i, p, h => by
    unfold posF
    split
    · right; simp; omega
    · rcases posF_range xs (i + 1) p (by omega) with h1 | h1
      · exact .inl h1
      · right; simp only [List.length_cons]; omega
theorem index_l0 (l : List Int) (p : Int) (hl : l.length ≤ 1000000) (d : Nat) : ∀ i : Int, 0 ≤ i → (l.length : Int) - i = d → Ev (fun k => slices_Index_int_int.l0 k l p (l.length : Int) i) (posF i (l.drop i.toNat) p) := by
  induction d with
  | zero =>
    intro i h0 hd
    rw [drop_end (by omega)]
    exact Ev.step (fun k => by simp only [slices_Index_int_int.l0]; rw [if_neg (by omega)]; rfl) (Ev.now _)
  | succ d ih =>
    intro i h0 hd
    have hlt : i < l.length := by omega
    rw [drop_rd h0 hlt]
    unfold posF
    by_cases e : p = rd l i
    · rw [if_pos e]
      exact Ev.step (fun k => by simp only [slices_Index_int_int.l0]; rw [if_pos hlt, if_pos h0, if_pos hlt, if_pos e]) (Ev.now _)
    · rw [if_neg e]
      exact Ev.step (fun k => by simp only [slices_Index_int_int.l0]; rw [if_pos hlt, if_pos h0, if_pos hlt, if_neg e, w64 (by omega)]) (ih (i + 1) (by omega) (by omega))
theorem index_ev (l : List Int) (p : Int) (hl : l.length ≤ 1000000) : Ev (fun k => slices_Index_int_int.f k l p) (posF 0 l p) := index_l0 l p hl l.length 0 (by omega) (by omega)
theorem at_l0 (l : List Int) (p : Int) (hl : l.length ≤ 1000000) (d : Nat) : ∀ i : Int, 0 ≤ i → (l.length : Int) - i = d → Ev (fun k => estoversref37_At.l0 k l p i) (posF i (l.drop i.toNat) p) := by
  induction d with
  | zero =>
    intro i h0 hd
    rw [drop_end (by omega)]
    exact Ev.step (fun k => by simp only [estoversref37_At.l0]; rw [if_neg (by omega)]; rfl) (Ev.now _)
  | succ d ih =>
    intro i h0 hd
    have hlt : i < l.length := by omega
    rw [drop_rd h0 hlt]
    unfold posF
    by_cases e : p = rd l i
    · rw [if_pos e]
      exact Ev.step (fun k => by simp only [estoversref37_At.l0]; rw [if_pos hlt, if_pos h0, if_pos e.symm]) (Ev.now _)
    · rw [if_neg e]
      exact Ev.step (fun k => by simp only [estoversref37_At.l0]; rw [if_pos hlt, if_pos h0, if_neg (fun h => e h.symm), w64 (by omega)]) (ih (i + 1) (by omega) (by omega))
theorem at_ev (l : List Int) (p : Int) (hl : l.length ≤ 1000000) : Ev (fun k => estoversref37_At.f k l p) (posF 0 l p) := at_l0 l p hl l.length 0 (by omega) (by omega)

/-- A list without its element at a place (if that is one). -/
def wo (l : List Int) (t : Int) : List Int := if t < 0 then l else l.take t.toNat ++ l.drop (t.toNat + 1)
/-- .. from place i on. -/
def woF : Int → List Int → Int → List Int
  | _, [], _ => []
  | i, x :: xs, t => if i = t then woF (i + 1) xs t else x :: woF (i + 1) xs t
theorem woF_all : ∀ (l : List Int) (i t : Int), t < i → woF i l t = l
  | [], _, _, _ => rfl
  | x :: xs, i, t, h => by unfold woF; rw [if_neg (by omega), woF_all xs (i + 1) t (by omega)]
theorem woF_eq : ∀ (l : List Int) (i t : Int), i ≤ t → woF i l t = l.take (t - i).toNat ++ l.drop ((t - i).toNat + 1)
  | [], _, _, _ => by simp [woF]
  | x :: xs, i, t, h => by
    unfold woF
    by_cases e : i = t
    · subst e
      rw [if_pos rfl, woF_all xs _ _ (by omega)]
      simp
    · rw [if_neg e, woF_eq xs (i + 1) t (by omega)]
      obtain ⟨m, hm⟩ : ∃ m : Nat, t - i = m + 1 := ⟨(t - i - 1).toNat, by omega⟩
      rw [show (t - (i + 1)).toNat = m by omega, hm, show ((m : Int) + 1).toNat = m + 1 by omega]
      simp
theorem wo_eq (l : List Int) (t : Int) : woF 0 l t = wo l t := by
  unfold wo
  split
  · exact woF_all l 0 t (by omega)
  · rw [woF_eq l 0 t (by omega)]; simp
theorem without_l0 (l : List Int) (t : Int) (hl : l.length ≤ 1000000) (d : Nat) : ∀ (i : Int) (acc : List Int), 0 ≤ i → (l.length : Int) - i = d → acc.length ≤ i.toNat → Ev (fun k => estoversref37_without.l0 k l t acc i) (acc ++ woF i (l.drop i.toNat) t) := by
  induction d with
  | zero =>
    intro i acc h0 hd _
    rw [drop_end (by omega), show woF i [] t = [] from rfl, List.append_nil]
    exact Ev.step (fun k => by simp only [estoversref37_without.l0]; rw [if_neg (by omega)]) (Ev.now _)
  | succ d ih =>
    intro i acc h0 hd ha
    have hlt : i < l.length := by omega
    rw [drop_rd h0 hlt]
    unfold woF
    by_cases e : i = t
    · rw [if_pos e]
      exact Ev.step (fun k => by simp only [estoversref37_without.l0]; rw [if_pos hlt, if_pos e, w64 (by omega)]) (ih (i + 1) acc (by omega) (by omega) (by omega))
    · rw [if_neg e]
      have h := ih (i + 1) (acc ++ [rd l i]) (by omega) (by omega) (by simp; omega)
      rw [List.append_assoc] at h
      exact Ev.step (fun k => by simp only [estoversref37_without.l0]; rw [if_pos hlt, if_neg e, if_pos h0, if_pos (by omega), w64 (by omega)]) h
theorem without_ev (l : List Int) (t : Int) (hl : l.length ≤ 1000000) : Ev (fun k => estoversref37_without.f k l t) (wo l t) := by
  rw [← wo_eq]
  exact without_l0 l t hl l.length 0 [] (by omega) (by omega) (by simp)

def touch (l : List Int) (p : Int) : List Int × Int := (p :: wo l (posF 0 l p), posF 0 l p)
theorem wo_length (l : List Int) (t : Int) : (wo l t).length ≤ l.length := by
  unfold wo
  split
  · exact Nat.le_refl _
  · simp; omega
theorem refTouch_l0 (t : Int) (l : List Int) (hl : l.length ≤ 1000000) (d : Nat) : ∀ (i : Int) (acc : List Int), 0 ≤ i → (l.length : Int) - i = d → acc.length ≤ i.toNat + 1 → Ev (fun k => estoversref37_Touch.l0 k t l acc i) (acc ++ l.drop i.toNat, t) := by
  induction d with
  | zero =>
    intro i acc h0 hd _
    rw [drop_end (by omega), List.append_nil]
    exact Ev.step (fun k => by simp only [estoversref37_Touch.l0]; rw [if_neg (by omega)]) (Ev.now _)
  | succ d ih =>
    intro i acc h0 hd ha
    have hlt : i < l.length := by omega
    rw [drop_rd h0 hlt]
    have h := ih (i + 1) (acc ++ [rd l i]) (by omega) (by omega) (by simp; omega)
    rw [List.append_assoc] at h
    exact Ev.step (fun k => by simp only [estoversref37_Touch.l0]; rw [if_pos hlt, if_pos h0, if_pos (by omega), w64 (by omega)]) h
theorem refTouch_ev (l : List Int) (p : Int) (hl : l.length ≤ 100000) : Ev (fun k => estoversref37_Touch.f k l p) (touch l p) := by
  unfold estoversref37_Touch.f
  refine Ev.bind (at_ev l p (by omega)) (Ev.bind (without_ev l _ (by omega)) ?_)
  have := wo_length l (posF 0 l p)
  exact refTouch_l0 _ _ (by omega) (wo l (posF 0 l p)).length 0 [p] (by omega) (by omega) (by simp)
theorem touch_ev (l : List Int) (p : Int) (hl : l.length ≤ 100000) : Ev (fun k => stackdist_Touch.f k l p) (touch l p) := by
  unfold stackdist_Touch.f
  refine Ev.bind (index_ev l p (by omega)) (Ev.none_k fun k => ?_)
  have hr := posF_range l 0 p (by omega)
  rw [w64 (by omega), if_pos (by omega), if_pos (by omega)]
  simp only [Option.bind_some]
  rw [if_pos (by simp)]
  rcases hr with h | h
  · rw [if_pos (by omega), if_pos (by simp; omega)]
    simp [touch, wo, h]
  · rw [if_neg (by omega), if_pos (by omega), if_pos (by omega), if_pos (by simp; omega), w64 (by omega), if_pos (by omega), if_pos (by omega), if_pos (by simp; omega)]
    simp only [touch, wo]
    rw [if_neg (by omega), show (posF 0 l p + 1).toNat = (posF 0 l p).toNat + 1 by omega]
    simp

/-- The stack distances, and the stack behind them. -/
def dists : List Int → List Int → List Int
  | _, [] => []
  | s, r :: rs => (touch s r).2 :: dists (touch s r).1 rs
def stk : List Int → List Int → List Int
  | s, [] => s
  | s, r :: rs => stk (touch s r).1 rs
theorem dists_length : ∀ (l s : List Int), (dists s l).length = l.length
  | [], _ => rfl
  | r :: rs, s => by simp [dists, dists_length rs]
theorem touch_length (l : List Int) (p : Int) : (touch l p).1.length ≤ l.length + 1 := by
  have := wo_length l (posF 0 l p)
  simp only [touch, List.length_cons]
  omega
theorem walk_l0 (l : List Int) (hl : l.length ≤ 5000) (d : Nat) : ∀ (i : Int) (acc s : List Int), 0 ≤ i → (l.length : Int) - i = d → acc.length ≤ i.toNat → s.length ≤ i.toNat →
    Ev (fun k => stackdist_walk.l0 k acc s l (l.length : Int) i) (acc ++ dists s (l.drop i.toNat), stk s (l.drop i.toNat)) := by
  induction d with
  | zero =>
    intro i acc s h0 hd _ _
    rw [drop_end (by omega)]
    simp only [dists, stk, List.append_nil]
    exact Ev.step (fun k => by simp only [stackdist_walk.l0]; rw [if_neg (by omega)]) (Ev.now _)
  | succ d ih =>
    intro i acc s h0 hd ha hs
    have hlt : i < l.length := by omega
    rw [drop_rd h0 hlt]
    have hs2 := touch_length s (rd l i)
    have h := ih (i + 1) (acc ++ [(touch s (rd l i)).2]) (touch s (rd l i)).1 (by omega) (by omega) (by simp; omega) (by omega)
    rw [List.append_assoc] at h
    refine Ev.step (f := fun k => (stackdist_Touch.f k s (rd l i)).bind fun bt121 => (if acc.length < 17592186044416 then (stackdist_walk.l0 k (acc ++ [bt121.2]) bt121.1 l (l.length : Int) (wrap64 (i + 1))) else (none))) (fun k => by simp only [stackdist_walk.l0]; rw [if_pos hlt, if_pos h0, if_pos hlt]) ?_
    refine Ev.bind (touch_ev s _ (by omega)) (Ev.congr (fun k => ?_) h)
    rw [if_pos (by omega), w64 (by omega)]
theorem walk_ev (l : List Int) (hl : l.length ≤ 5000) : Ev (fun k => stackdist_walk.f k l) (dists [] l, stk [] l) := walk_l0 l hl l.length 0 [] [] (by omega) (by omega) (by simp) (by simp)
theorem refDist_l0 (l : List Int) (hl : l.length ≤ 5000) (d : Nat) : ∀ (i : Int) (acc s : List Int), 0 ≤ i → (l.length : Int) - i = d → acc.length ≤ i.toNat → s.length ≤ i.toNat →
    Ev (fun k => estoversref37_Distances.l0 k l acc s i) (acc ++ dists s (l.drop i.toNat), 0) := by
  induction d with
  | zero =>
    intro i acc s h0 hd _ _
    rw [drop_end (by omega)]
    simp only [dists, List.append_nil]
    exact Ev.step (fun k => by simp only [estoversref37_Distances.l0]; rw [if_neg (by omega)]) (Ev.now _)
  | succ d ih =>
    intro i acc s h0 hd ha hs
    have hlt : i < l.length := by omega
    rw [drop_rd h0 hlt]
    have hs2 := touch_length s (rd l i)
    have h := ih (i + 1) (acc ++ [(touch s (rd l i)).2]) (touch s (rd l i)).1 (by omega) (by omega) (by simp; omega) (by omega)
    rw [List.append_assoc] at h
    refine Ev.step (f := fun k => (estoversref37_Touch.f k s (rd l i)).bind fun bt => (if acc.length < 17592186044416 then (estoversref37_Distances.l0 k l (acc ++ [bt.2]) bt.1 (wrap64 (i + 1))) else (none))) (fun k => by simp only [estoversref37_Distances.l0]; rw [if_pos hlt, if_pos h0]) ?_
    refine Ev.bind (refTouch_ev s _ (by omega)) (Ev.congr (fun k => ?_) h)
    rw [if_pos (by omega), w64 (by omega)]

/-- The error of a reference string and a number. -/
def req (n a : Int) : Int := if n > 4096 then 9 else if a < 0 then 2 else if a > 4096 then 2 else 0
theorem request_f (l : List Int) (a : Int) : stackdist_request.f l a = some (req l.length a) := by
  unfold stackdist_request.f req
  split <;> (try rfl)
  split <;> (try rfl)
  split <;> rfl
theorem check_f (l : List Int) (a : Int) : estoversref37_check.f l a = some (req l.length a) := by
  unfold estoversref37_check.f req
  split <;> (try rfl)
  split <;> (try rfl)
  split <;> rfl
theorem req_zero {n a : Int} (h : req n a = 0) : n ≤ 4096 ∧ 0 ≤ a ∧ a ≤ 4096 := by
  unfold req at h
  split at h
  · simp at h
  · split at h
    · simp at h
    · split at h
      · simp at h
      · omega
def distR (l : List Int) : List Int × Int := if req l.length 0 = 0 then (dists [] l, 0) else ([], req l.length 0)
theorem distances_ev (l : List Int) : Ev (fun k => stackdist_Distances.f k l) (distR l) := by
  unfold stackdist_Distances.f distR
  refine Ev.congr (fun k => by rw [request_f, Option.bind_some]) ?_
  by_cases h : req l.length 0 = 0
  · obtain ⟨h1, _⟩ := req_zero h
    rw [if_pos h]
    refine Ev.congr (fun k => by rw [if_pos h]) (Ev.bind (walk_ev l (by omega)) (Ev.now _))
  · rw [if_neg h]
    exact Ev.none_k fun k => by rw [if_neg h]
theorem refDistances_ev (l : List Int) : Ev (fun k => estoversref37_Distances.f k l) (distR l) := by
  unfold estoversref37_Distances.f distR
  refine Ev.congr (fun k => by rw [check_f, Option.bind_some]) ?_
  by_cases h : req l.length 0 = 0
  · obtain ⟨h1, _⟩ := req_zero h
    rw [if_pos h]
    exact Ev.congr (fun k => by rw [if_pos h]) (refDist_l0 l (by omega) l.length 0 [] [] (by omega) (by omega) (by simp) (by simp))
  · rw [if_neg h]
    exact Ev.none_k fun k => by rw [if_neg h]
theorem same_l0 (l m : List Int) (he : l.length = m.length) (hl : l.length ≤ 1000000) (d : Nat) : ∀ i : Int, 0 ≤ i → (l.length : Int) - i = d → Ev (fun k => estoversref37_Same.l0 k l m i) (decide (l.drop i.toNat = m.drop i.toNat)) := by
  induction d with
  | zero =>
    intro i h0 hd
    rw [drop_end (by omega), drop_end (l := m) (by omega)]
    exact Ev.step (fun k => by simp only [estoversref37_Same.l0]; rw [if_neg (by omega)]; simp) (Ev.now _)
  | succ d ih =>
    intro i h0 hd
    have hlt : i < l.length := by omega
    have hlt2 : i < m.length := by omega
    rw [drop_rd h0 hlt, drop_rd h0 hlt2]
    by_cases e : rd l i = rd m i
    · rw [show decide (rd l i :: l.drop (i + 1).toNat = rd m i :: m.drop (i + 1).toNat) = decide (l.drop (i + 1).toNat = m.drop (i + 1).toNat) by simp [e]]
      exact Ev.step (fun k => by simp only [estoversref37_Same.l0]; rw [if_pos hlt, if_pos h0, if_pos hlt2, if_pos e, w64 (by omega)]) (ih (i + 1) (by omega) (by omega))
    · rw [show decide (rd l i :: l.drop (i + 1).toNat = rd m i :: m.drop (i + 1).toNat) = false by simp [e]]
      exact Ev.step (fun k => by simp only [estoversref37_Same.l0]; rw [if_pos hlt, if_pos h0, if_pos hlt2, if_neg e]) (Ev.now _)
theorem same_ev (l m : List Int) (hl : l.length ≤ 1000000) : Ev (fun k => estoversref37_Same.f k l m) (decide (l = m)) := by
  unfold estoversref37_Same.f
  by_cases he : (l.length : Int) = m.length
  · exact Ev.congr (fun k => by rw [if_pos he]) (same_l0 l m (by omega) hl l.length 0 (by omega) (by omega))
  · rw [show decide (l = m) = false by rw [decide_eq_false_iff_not]; rintro rfl; exact he rfl]
    exact Ev.none_k fun k => by rw [if_neg he]
end Go.Proofs.Ytbchpnhlaknhjaa.V
