/-
  Plain Lean: the maps of these laws as association lists, and what the functions that use maps compute, step by step as the code does. No program, no memory.
-/
namespace Go.Proofs.Ytbchpnhlaknhjaa.Sd

section
variable {β : Type}
def lku (m : List (Int × β)) (k : Int) : Option β := (m.find? (fun p => p.1 == k)).map (·.2)
def rmv (m : List (Int × β)) (k : Int) : List (Int × β) := m.filter (fun p => p.1 != k)
def ins (m : List (Int × β)) (k : Int) (v : β) : List (Int × β) := (k, v) :: rmv m k
end

/-- Each is a whole number of the kind int. -/
def wfs (l : List Int) : Prop := ∀ x ∈ l, -9223372036854775808 ≤ x ∧ x ≤ 9223372036854775807
instance (l : List Int) : Decidable (wfs l) := by unfold wfs; infer_instance

/-- stackdist.following: from the last position down. -/
def folStep (n : Int) (st : List (Int × Int) × List Int) (ir : Int × Int) : List (Int × Int) × List Int :=
  (ins st.1 ir.2 ir.1, st.2.set ir.1.toNat ((lku st.1 ir.2).getD n))
def idx (refs : List Int) : List (Int × Int) := (List.range refs.length).map fun (i : Nat) => ((i : Int), refs.getD i 0)
def fol (refs : List Int) : List Int := ((idx refs).reverse.foldl (folStep refs.length) ([], List.replicate refs.length 0)).2

/-- stackdist.Optimal. -/
def better (r : Int) (cur : Int × Int) (p : Int × Int) : Int × Int :=
  if p.1 ≠ r ∧ (p.2 > cur.1 ∨ p.2 = cur.1 ∧ p.1 < cur.2) then (p.2, p.1) else cur
def victim (r : Int) (S : List (Int × Int)) : Int := (S.foldl (better r) (-1, r)).2
def optStep (f : Int) (st : List (Int × Int) × Int) (rn : Int × Int) : List (Int × Int) × Int :=
  let n := if (lku st.1 rn.1).isSome then st.2 else st.2 + 1
  let S := ins st.1 rn.1 rn.2
  if (S.length : Int) ≤ f then (S, n) else (rmv S (victim rn.1 S), n)
def opt (refs : List Int) (f : Int) : Int := ((refs.zip (fol refs)).foldl (optStep f) ([], 0)).2

/-- stackdist.Working. -/
def wkStep (refs : List Int) (window : Int) (st : List (Int × Int) × List Int) (ir : Int × Int) : List (Int × Int) × List Int :=
  let m1 := ins st.1 ir.2 ((lku st.1 ir.2).getD 0 + 1)
  let old := ir.1 - window
  let m2 :=
    if 0 ≤ old then
      let x := refs.getD old.toNat 0
      let m := ins m1 x ((lku m1 x).getD 0 - 1)
      if (lku m x).getD 0 = 0 then rmv m x else m
    else m1
  (m2, st.2 ++ [(m2.length : Int)])
def wk (refs : List Int) (window : Int) : List Int := ((idx refs).foldl (wkStep refs window) ([], [])).2

/-- workingset.Refaults: held, when, count, queue, out. -/
structure Cache where
  held : List (Int × Bool)
  whn : List (Int × Int)
  count : Int
  queue : List Int
  out : List Int
def dist (whn : List (Int × Int)) (count p : Int) : Int := match lku whn p with | some at_ => count - at_ | none => -2
def rfStep (size : Int) (c : Cache) (p : Int) : Cache :=
  if (lku c.held p).getD false then { c with out := c.out ++ [-1] }
  else
    let out := c.out ++ [dist c.whn c.count p]
    if (c.queue.length : Int) = size then
      let q := c.queue.getD 0 0
      { held := ins (rmv c.held q) p true, whn := ins c.whn q (c.count + 1), count := c.count + 1, queue := c.queue.drop 1 ++ [p], out := out }
    else { c with held := ins c.held p true, queue := c.queue ++ [p], out := out }
def rf (refs : List Int) (size : Int) : List Int := (refs.foldl (rfStep size) ⟨[], [], 0, [], []⟩).out

/-- workingset.Lists with the bound 0 of the active list: when, count, the inactive list, out. -/
structure Lst where
  whn : List (Int × Int)
  count : Int
  inact : List Int
  out : List Int
def liStep (size : Int) (c : Lst) (p : Int) : Lst :=
  match c.inact.idxOf? p with
  | some i => { c with inact := (c.inact.take i ++ c.inact.drop (i + 1)) ++ [p], out := c.out ++ [-1] }
  | none =>
    let d := dist c.whn c.count p
    let out := c.out ++ [d]
    if (c.inact.length : Int) = size then
      { whn := ins c.whn (c.inact.getD 0 0) (c.count + 1), count := c.count + 1, inact := c.inact.drop 1 ++ [p], out := out }
    else { c with inact := c.inact ++ [p], out := out }
def li (refs : List Int) (size : Int) : List Int := (refs.foldl (liStep size) ⟨[], 0, [], []⟩).out

theorem idx_take {l : List Int} {k : Nat} (h : k < l.length) : ((idx l).take (k + 1)).reverse = ((k : Int), l.getD k 0) :: ((idx l).take k).reverse := by
  have h1 : (idx l).take (k + 1) = (idx l).take k ++ [((k : Int), l.getD k 0)] := by
    rw [List.take_add_one]
    congr 1
    simp [idx, List.getElem?_map, List.getElem?_range h]
  rw [h1, List.reverse_append]
  rfl
theorem idx_length (l : List Int) : (idx l).length = l.length := by simp [idx]
theorem idx_drop {l : List Int} {k : Nat} (h : k < l.length) : (idx l).drop k = ((k : Int), l.getD k 0) :: (idx l).drop (k + 1) := by
  rw [List.drop_eq_getElem_cons (by rw [idx_length]; exact h)]
  congr 1
  simp [idx]
theorem wfs_getD {l : List Int} (h : wfs l) (i : Nat) : -9223372036854775808 ≤ l.getD i 0 ∧ l.getD i 0 ≤ 9223372036854775807 := by
  rw [List.getD_eq_getElem?_getD]
  cases hi : l[i]? with
  | none => simp
  | some x => exact h x (List.mem_of_getElem? hi)

theorem folStep_ok {n : Nat} {st : List (Int × Int) × List Int} {ir : Int × Int} (hi : 0 ≤ ir.1 ∧ ir.1 ≤ n)
    (h : (∀ p ∈ st.1, 0 ≤ p.2 ∧ p.2 ≤ (n : Int)) ∧ (∀ x ∈ st.2, 0 ≤ x ∧ x ≤ (n : Int)) ∧ st.2.length = n) :
    (∀ p ∈ (folStep n st ir).1, 0 ≤ p.2 ∧ p.2 ≤ (n : Int)) ∧ (∀ x ∈ (folStep n st ir).2, 0 ≤ x ∧ x ≤ (n : Int)) ∧ (folStep n st ir).2.length = n := by
  obtain ⟨h1, h2, h3⟩ := h
  refine ⟨fun p hp => ?_, fun x hx => ?_, by simp [folStep, h3]⟩
  · simp only [folStep, ins, List.mem_cons] at hp
    rcases hp with rfl | hp
    · exact hi
    · exact h1 p (List.mem_filter.1 hp).1
  · simp only [folStep] at hx
    rcases List.mem_or_eq_of_mem_set hx with hx | rfl
    · exact h2 x hx
    · unfold lku
      cases hf : st.1.find? (fun p => p.1 == ir.2) with
      | none => simp
      | some p => simpa using h1 p (List.mem_of_find?_eq_some hf)
theorem fol_ok (refs : List Int) : (fol refs).length = refs.length ∧ ∀ x ∈ fol refs, 0 ≤ x ∧ x ≤ (refs.length : Int) := by
  have key : ∀ (l : List (Int × Int)) (st : List (Int × Int) × List Int), (∀ ir ∈ l, 0 ≤ ir.1 ∧ ir.1 ≤ (refs.length : Int)) →
      ((∀ p ∈ st.1, 0 ≤ p.2 ∧ p.2 ≤ (refs.length : Int)) ∧ (∀ x ∈ st.2, 0 ≤ x ∧ x ≤ (refs.length : Int)) ∧ st.2.length = refs.length) →
      ((∀ x ∈ (l.foldl (folStep refs.length) st).2, 0 ≤ x ∧ x ≤ (refs.length : Int)) ∧ (l.foldl (folStep refs.length) st).2.length = refs.length) := by
    intro l
    induction l with
    | nil => intro st _ h; exact ⟨h.2.1, h.2.2⟩
    | cons a r ih => intro st hl h; exact ih _ (fun ir hir => hl ir (List.mem_cons_of_mem _ hir)) (folStep_ok (hl a List.mem_cons_self) h)
  have h := key (idx refs).reverse ([], List.replicate refs.length 0) (fun ir hir => by
    rw [List.mem_reverse] at hir
    simp only [idx, List.mem_map, List.mem_range] at hir
    obtain ⟨i, hi, rfl⟩ := hir
    exact ⟨by simp, by simp; omega⟩) ⟨fun p hp => by simp at hp, fun x hx => by rw [List.mem_replicate] at hx; omega, by simp⟩
  exact ⟨h.2, h.1⟩
theorem fol_wfs {refs : List Int} (h : refs.length ≤ 100000) : wfs (fol refs) := fun x hx => by have := (fol_ok refs).2 x hx; omega

end Go.Proofs.Ytbchpnhlaknhjaa.Sd
