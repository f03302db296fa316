/-
  Plain Lean, no program: a replacement that evicts the page whose next use is farthest has no more faults than any other one.
-/
import Derived.Test.YtbchpnhlaknhjaaSpec
namespace Go.Proofs.Ytbchpnhlaknhjaa.Bel
set_option linter.unusedVariables false

theorem le_of_sub : ∀ {X Y : List Int}, X.Nodup → (∀ p ∈ X, p ∈ Y) → X.length ≤ Y.length
  | [], Y, _, _ => Nat.zero_le _
  | x :: xs, Y, hX, h => by
    rw [List.nodup_cons] at hX
    have hx := h x List.mem_cons_self
    have h1 := le_of_sub (X := xs) (Y := Y.erase x) hX.2 (fun p hp => by
      have hne : p ≠ x := fun e => hX.1 (e ▸ hp)
      exact (List.mem_erase_of_ne hne).2 (h p (List.mem_cons_of_mem _ hp)))
    have h2 := List.length_erase_of_mem hx
    have h3 := List.length_pos_of_mem hx
    simp only [List.length_cons]
    omega

/-- How many references are read before the next use of p; all of them, if there is none. -/
def nx : List Int → Int → Nat
  | [], _ => 0
  | x :: xs, p => if x = p then 0 else nx xs p + 1
theorem nx_le : ∀ (l : List Int) (p : Int), nx l p ≤ l.length
  | [], _ => Nat.le_refl _
  | x :: xs, p => by
    have := nx_le xs p
    simp only [nx, List.length_cons]
    split <;> omega

theorem ifc {P Q : Prop} [Decidable P] [Decidable Q] (h : P ↔ Q) : (if P then 1 else 0 : Nat) = if Q then 1 else 0 := by
  by_cases hq : Q
  · rw [if_pos (h.2 hq), if_pos hq]
  · rw [if_neg (fun hp => hq (h.1 hp)), if_neg hq]
/-- Those of X that are used next within t references. -/
def cn (rs : List Int) (t : Nat) (X : List Int) : Nat := (X.filter (fun p => decide (nx rs p < t))).length
/-- .. besides r. -/
def dn (rs : List Int) (t : Nat) (r : Int) (X : List Int) : Nat := (X.filter (fun p => decide (nx rs p < t ∧ p ≠ r))).length
theorem split_one (P : Int → Prop) [DecidablePred P] (r : Int) : ∀ (X : List Int), X.Nodup →
    (X.filter (fun p => decide (P p))).length = (X.filter (fun p => decide (P p ∧ p ≠ r))).length + (if r ∈ X ∧ P r then 1 else 0)
  | [], _ => by simp
  | x :: xs, h => by
    rw [List.nodup_cons] at h
    have ih := split_one P r xs h.2
    by_cases e : x = r
    · subst e
      rw [if_neg (fun hh => h.1 hh.1)] at ih
      by_cases hp : P x
      · rw [List.filter_cons_of_pos (by simpa using hp), List.filter_cons_of_neg (by simp), if_pos ⟨List.mem_cons_self, hp⟩, List.length_cons, ih]
      · rw [List.filter_cons_of_neg (by simpa using hp), List.filter_cons_of_neg (by simp), if_neg (fun hh => hp hh.2), ih]
    · have hm : (r ∈ x :: xs ∧ P r) ↔ (r ∈ xs ∧ P r) := by
        rw [List.mem_cons]
        constructor
        · rintro ⟨h1 | h1, h2⟩
          · exact absurd h1.symm e
          · exact ⟨h1, h2⟩
        · rintro ⟨h1, h2⟩; exact ⟨.inr h1, h2⟩
      rw [ifc hm]
      by_cases hp : P x
      · rw [List.filter_cons_of_pos (by simpa using hp), List.filter_cons_of_pos (by simpa using ⟨hp, e⟩), List.length_cons, List.length_cons, ih]; omega
      · rw [List.filter_cons_of_neg (by simpa using hp), List.filter_cons_of_neg (by simpa using fun hh => absurd hh hp), ih]
theorem cn_old {r : Int} {rs X : List Int} (hX : X.Nodup) (t : Nat) : cn (r :: rs) (t + 1) X = dn rs t r X + (if r ∈ X then 1 else 0) := by
  unfold cn dn
  rw [split_one (fun p => nx (r :: rs) p < t + 1) r X hX]
  congr 1
  · congr 1
    apply List.filter_congr
    intro p _
    apply decide_eq_decide.2
    constructor
    · rintro ⟨h1, h2⟩
      simp only [nx] at h1
      rw [if_neg (fun e => h2 e.symm)] at h1
      exact ⟨by omega, h2⟩
    · rintro ⟨h1, h2⟩
      refine ⟨?_, h2⟩
      simp only [nx]
      rw [if_neg (fun e => h2 e.symm)]
      omega
  · apply ifc
    simp [nx]
theorem cn_new {r : Int} {rs X : List Int} (hX : X.Nodup) (t : Nat) (hr : r ∈ X) : cn rs t X = dn rs t r X + (if nx rs r < t then 1 else 0) := by
  unfold cn dn
  rw [split_one (fun p => nx rs p < t) r X hX]
  congr 1
  apply ifc
  simp [hr]
theorem cn_zero (rs X : List Int) : cn rs 0 X = 0 := by simp [cn]
theorem dn_mono {rs X Y : List Int} {t : Nat} {r : Int} (hX : X.Nodup) (h : ∀ p ∈ X, p ≠ r → nx rs p < t → p ∈ Y) : dn rs t r X ≤ dn rs t r Y := by
  apply le_of_sub (hX.filter _)
  intro p hp
  rw [List.mem_filter] at hp ⊢
  have h2 := of_decide_eq_true hp.2
  exact ⟨h p hp.1 h2.2 h2.1, hp.2⟩
theorem dn_le {rs X : List Int} {t f : Nat} {r : Int} (hX : X.Nodup) (hr : r ∈ X) (hl : X.length ≤ f) : dn rs t r X + 1 ≤ f := by
  have h1 : dn rs t r X ≤ (X.erase r).length := by
    apply le_of_sub (hX.filter _)
    intro p hp
    rw [List.mem_filter] at hp
    have h2 := of_decide_eq_true hp.2
    exact (List.mem_erase_of_ne h2.2).2 hp.1
  have h2 := List.length_erase_of_mem hr
  have h3 := List.length_pos_of_mem hr
  omega

/-- One reference served by any replacement that keeps at most f pages, r among them. -/
structure AStep (f : Nat) (r : Int) (T T' : List Int) : Prop where
  nodup : T'.Nodup
  len : T'.length ≤ f
  has : r ∈ T'
  sub : ∀ p ∈ T', p ∈ T ∨ p = r
/-- .. by one that evicts a page whose next use is farthest. -/
structure GStep (f : Nat) (r : Int) (rs G G' : List Int) : Prop where
  any : AStep f r G G'
  how : (∀ p ∈ G, p ∈ G') ∨ (r ∉ G ∧ G.length = f ∧ ∃ v ∈ G, (∀ p ∈ G, nx rs p ≤ nx rs v) ∧ ∀ p ∈ G, p ≠ v → p ∈ G')

theorem step {f : Nat} {r : Int} {rs G G' T T' : List Int} {F E : Int} (hG : G.Nodup) (hT : T.Nodup) (g : GStep f r rs G G') (a : AStep f r T T')
    (h : ∀ t, F + (cn (r :: rs) t T : Int) ≤ E + (cn (r :: rs) t G : Int)) :
    ∀ t, F + (if r ∈ G then 0 else 1) + (cn rs t T' : Int) ≤ E + (if r ∈ T then 0 else 1) + (cn rs t G' : Int) := by
  intro t
  have A := h (t + 1)
  have A0 := h 1
  have Z := h 0
  rw [cn_zero, cn_zero] at Z
  rw [cn_old hT, cn_old hG] at A A0
  have d0 : ∀ X, dn rs 0 r X = 0 := fun X => by simp [dn]
  rw [d0, d0] at A0
  rw [cn_new a.nodup t a.has, cn_new g.any.nodup t g.any.has]
  have hT' : dn rs t r T' ≤ dn rs t r T := dn_mono a.nodup (fun p hp hne _ => (a.sub p hp).resolve_right hne)
  have hT1 := dn_le (rs := rs) (t := t) a.nodup a.has a.len
  have key : dn rs t r G ≤ dn rs t r G' ∨ (r ∉ G ∧ f ≤ dn rs t r G' + 1) := by
    rcases g.how with hs | ⟨hr, hl, v, hv, hfar, hs⟩
    · exact .inl (dn_mono hG (fun p hp _ _ => hs p hp))
    · by_cases hvt : nx rs v < t
      · refine .inr ⟨hr, ?_⟩
        have h1 : (G.erase v).length ≤ dn rs t r G' := by
          apply le_of_sub (hG.erase v)
          intro p hp
          have hpG := List.mem_of_mem_erase hp
          have hpv : p ≠ v := fun e => by rw [e] at hp; exact (List.Nodup.not_mem_erase hG) hp
          rw [List.mem_filter]
          refine ⟨hs p hpG hpv, decide_eq_true ⟨?_, fun e => hr (e ▸ hpG)⟩⟩
          have := hfar p hpG
          omega
        have h2 := List.length_erase_of_mem hv
        have h3 := List.length_pos_of_mem hv
        omega
      · exact .inl (dn_mono hG (fun p hp _ hpt => hs p hp (fun e => hvt (e ▸ hpt))))
  rcases key with k | ⟨hr, k⟩
  · by_cases hrG : r ∈ G <;> by_cases hrT : r ∈ T <;> by_cases he : nx rs r < t <;> simp only [hrG, hrT, he, if_true, if_false] at A A0 ⊢ <;> omega
  · by_cases hrT : r ∈ T <;> by_cases he : nx rs r < t <;> simp only [hr, hrT, he, if_true, if_false] at A A0 ⊢ <;> omega

inductive ARun (f : Nat) : List Int → List Int → Int → Prop
  | nil (T) : ARun f [] T 0
  | cons {r rs T T' n} (a : AStep f r T T') (h : ARun f rs T' n) : ARun f (r :: rs) T ((if r ∈ T then 0 else 1) + n)
inductive GRun (f : Nat) : List Int → List Int → Int → Prop
  | nil (T) : GRun f [] T 0
  | cons {r rs T T' n} (a : GStep f r rs T T') (h : GRun f rs T' n) : GRun f (r :: rs) T ((if r ∈ T then 0 else 1) + n)
theorem GRun.any {f : Nat} {rs G : List Int} {a : Int} (h : GRun f rs G a) : ARun f rs G a := by
  induction h with
  | nil T => exact .nil T
  | cons s _ ih => exact .cons s.any ih
theorem best {f : Nat} : ∀ {rs G T : List Int} {a b F E : Int}, GRun f rs G a → ARun f rs T b → G.Nodup → T.Nodup → (∀ t, F + (cn rs t T : Int) ≤ E + (cn rs t G : Int)) → F + a ≤ E + b := by
  intro rs
  induction rs with
  | nil =>
    intro G T a b F E hg ha _ _ h
    cases hg
    cases ha
    have := h 0
    rw [cn_zero, cn_zero] at this
    omega
  | cons r rs ih =>
    intro G T a b F E hg ha hG hT h
    cases hg with
    | cons s hs =>
      cases ha with
      | cons s' hs' =>
        have := ih hs hs' s.any.nodup s'.nodup (step hG hT s s' h)
        omega
theorem least {f : Nat} {rs G : List Int} {a b : Int} (hg : GRun f rs G a) (ha : ARun f rs G b) (hG : G.Nodup) : a ≤ b := by
  have := best (F := 0) (E := 0) hg ha hG hG (fun t => by omega)
  omega
theorem same {f : Nat} {rs G : List Int} {a b : Int} (hg : GRun f rs G a) (ha : GRun f rs G b) (hG : G.Nodup) : a = b := by
  have h1 := least hg ha.any hG
  have h2 := least ha hg.any hG
  omega
end Go.Proofs.Ytbchpnhlaknhjaa.Bel
