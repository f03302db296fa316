/-
  bitset.FindRun and its reference return the lowest aligned run. Conditions: the words are from 0 to 2^64 - 1.
-/
import Derived.Test.YtinhjcoikhpblaaDoorVb
import Derived.Test.YtinhjcoikhpblaaDoorQ101
import Derived.Test.YtinhjcoikhpblaaDoorQ108
import Derived.Test.YtinhjcoikhpblaaDoorQ109
namespace Go.Proofs.YtinhjcoikhpblaaDoor.V
open Go.Proofs.YtinhjcoikhpblaaDoor.Q
open Go.RowKit Go.Proofs.YtinhjcoikhpblaaDoorW.PrintWords Go.Proofs.YtinhjcoikhpblaaDoorW.PrintLast Go.Proofs.YtinhjcoikhpblaaDoorW.PrintMore
set_option linter.unusedVariables false

/-- A run of c alike bits from p on. -/
def Run (b : Nat → Bool) (c : Nat) (on : Bool) (p : Nat) : Prop := ∀ i, p ≤ i → i < p + c → b i = on
/-- The lowest aligned run from p on. -/
def First (b : Nat → Bool) (n c al : Nat) (on : Bool) (p : Nat) (v : Int) : Prop :=
  (v = -1 ∧ ∀ q, p ≤ q → q + c ≤ n → q % al = 0 → ¬ Run b c on q) ∨ ∃ q : Nat, v = q ∧ p ≤ q ∧ q + c ≤ n ∧ q % al = 0 ∧ Run b c on q ∧ ∀ r, p ≤ r → r < q → r % al = 0 → ¬ Run b c on r
theorem first_some (b : Nat → Bool) (n c al : Nat) (on : Bool) : ∀ d p, n < p + c + d → ∃ v, First b n c al on p v
  | 0, p, h => ⟨-1, .inl ⟨rfl, fun q h1 h2 => by omega⟩⟩
  | d + 1, p, h => by
    by_cases hp : p % al = 0 ∧ Run b c on p ∧ p + c ≤ n
    · exact ⟨p, .inr ⟨p, rfl, Nat.le_refl _, hp.2.2, hp.1, hp.2.1, fun r h1 h2 => by omega⟩⟩
    · obtain ⟨v, hv⟩ := first_some b n c al on d (p + 1) (by omega)
      refine ⟨v, ?_⟩
      rcases hv with ⟨e, h1⟩ | ⟨q, e, h1, h2, h3, h4, h5⟩
      · refine .inl ⟨e, fun q a1 a2 a3 a4 => ?_⟩
        by_cases e2 : q = p
        · subst e2; exact hp ⟨a3, a4, a2⟩
        · exact h1 q (by omega) a2 a3 a4
      · refine .inr ⟨q, e, by omega, h2, h3, h4, fun r a1 a2 a3 a4 => ?_⟩
        by_cases e2 : r = p
        · subst e2; exact hp ⟨a3, a4, by omega⟩
        · exact h5 r (by omega) a2 a3 a4
theorem First.here {b : Nat → Bool} {n c al : Nat} {on : Bool} {p : Nat} {v : Int} (h : First b n c al on p v) (h1 : p % al = 0) (h2 : Run b c on p) (h3 : p + c ≤ n) : v = p := by
  rcases h with ⟨e, h4⟩ | ⟨q, e, h4, h5, h6, h7, h8⟩
  · exact absurd h2 (h4 p (Nat.le_refl _) h3 h1)
  · by_cases e2 : q = p
    · rw [e, e2]
    · exact absurd h2 (h8 p (Nat.le_refl _) (by omega) h1)
theorem First.next {b : Nat → Bool} {n c al : Nat} {on : Bool} {p p' : Nat} {v : Int} (h : First b n c al on p v) (hp : p ≤ p') (hno : ∀ r, p ≤ r → r < p' → r % al = 0 → ¬ Run b c on r) : First b n c al on p' v := by
  rcases h with ⟨e, h4⟩ | ⟨q, e, h4, h5, h6, h7, h8⟩
  · exact .inl ⟨e, fun q a1 => h4 q (by omega)⟩
  · refine .inr ⟨q, e, ?_, h5, h6, h7, fun r a1 a2 => h8 r (by omega) a2⟩
    apply Classical.byContradiction
    intro hn
    exact hno q h4 (by omega) h6 h7
theorem First.none {b : Nat → Bool} {n c al : Nat} {on : Bool} {p : Nat} {v : Int} (h : First b n c al on p v) (hno : ∀ r, p ≤ r → r + c ≤ n → r % al = 0 → ¬ Run b c on r) : v = -1 := by
  rcases h with ⟨e, h4⟩ | ⟨q, e, h4, h5, h6, h7, h8⟩
  · exact e
  · exact absurd h7 (hno q h4 h5 h6)
/-- Between two aligned places there is none. -/
theorem between {al p r : Nat} (h0 : 0 < al) (hp : p % al = 0) (hr : r % al = 0) (h1 : p < r) : p + al ≤ r := by
  obtain ⟨x, rfl⟩ := Nat.dvd_of_mod_eq_zero hp
  obtain ⟨y, rfl⟩ := Nat.dvd_of_mod_eq_zero hr
  have : x < y := Nat.lt_of_mul_lt_mul_left h1
  calc al * x + al = al * (x + 1) := by rw [Nat.mul_succ]
    _ ≤ al * y := Nat.mul_le_mul_left al this
theorem less_c {n c : Nat} (hc : 1 ≤ c) (hcn : c ≤ n) (h : n ≤ 1000000) : wrap64 ((n : Int) - c) = ((n - c : Nat) : Int) := by rw [w64 (by omega)]; omega
theorem tm_al (p al : Nat) : Int.tmod (p : Int) (al : Int) = ((p % al : Nat) : Int) := by rw [Int.tmod_eq_emod_of_nonneg (by omega)]; rfl
section
variable (n : Nat) (c al : Nat) (on : Bool) {l : List Int} (hw : wfs l) (hm : l.length ≤ 64) (hn : n ≤ 64 * l.length) (hc : 1 ≤ c) (hcn : c ≤ n) (ha : 1 ≤ al) (ha2 : (al : Int) < 9223372036854775808)
include hw hm hn
/-- The reference's look at one place. -/
theorem run_l (p : Nat) (hp : p + c ≤ n) : ∀ (d i : Nat), p + c = i + d → p ≤ i → (∀ j, p ≤ j → j < i → bt l j = on) → ∃ r, Ev (fun k => estoversref01_run.l0 k p c on i n l) r ∧ (r = true ↔ Run (bt l) c on p)
  | 0, i, hd, hi, h => ⟨true, Ev.step (f := fun _ => some true) (fun k => by simp only [estoversref01_run.l0]; rw [w64 (by omega), if_neg (by omega)]) (Ev.now _), fun _ j a b => h j a (by omega), fun _ => rfl⟩
  | d + 1, i, hd, hi, h => by
    have g : ∀ k, estoversref01_run.l0 (k + 1) p c on i n l = if (bt l i != on) = true then some false else estoversref01_run.l0 k p c on (i + 1 : Nat) n l := by
      intro k
      simp only [estoversref01_run.l0]
      rw [w64 (n := (p : Int) + c) (by omega), if_pos (by omega), bit_some (n : Int) hw (by omega) i (by omega), Option.bind_some, w64 (by omega)]
      rfl
    by_cases e : bt l i = on
    · obtain ⟨r, f1, f2⟩ := run_l p hp d (i + 1) (by omega) (by omega) (fun j a b => by
        by_cases e2 : j = i
        · subst e2; exact e
        · exact h j a (by omega))
      exact ⟨r, Ev.step (fun k => (g k).trans (if_neg (by simpa using e))) f1, f2⟩
    · exact ⟨false, Ev.step (fun k => (g k).trans (if_pos (by simpa using e))) (Ev.now _), (fun h => by cases h), fun h => absurd (h i hi (by omega)) e⟩
include hc hcn ha
theorem rfind_l : ∀ (d p : Nat) (v : Int), n < p + c + d → First (bt l) n c al on p v → Ev (fun k => estoversref01_FindRun.l0 k c al on p n l) v
  | d, p, v, hd, h => by
    by_cases hp : p + c ≤ n
    · obtain ⟨d, rfl⟩ : ∃ e, d = e + 1 := ⟨d - 1, by omega⟩
      have g : ∀ k, estoversref01_FindRun.l0 (k + 1) c al on p n l = if ((p % al : Nat) : Int) = 0 then ((estoversref01_run.f k n l p c on).bind fun t271 => (if t271 = true then (some (p : Int)) else (estoversref01_FindRun.l0 k c al on (p + 1 : Nat) n l))) else (estoversref01_FindRun.l0 k c al on (p + 1 : Nat) n l) := by
        intro k
        have q1 : (p : Int) ≤ ((n - c : Nat) : Int) := by omega
        have q2 : ¬ (al : Int) = 0 := by omega
        have e3 : wrap64 ((p : Int) + 1) = ((p + 1 : Nat) : Int) := by rw [w64 (by omega)]; rfl
        simp only [estoversref01_FindRun.l0]
        rw [less_c hc hcn (by omega), if_pos q1, if_neg q2, tm_al, e3]
      by_cases h1 : p % al = 0
      · obtain ⟨r, f1, f2⟩ := run_l n c on hw hm hn p hp c p rfl (Nat.le_refl _) (fun j a b => by omega)
        cases r with
        | true =>
          rw [h.here h1 (f2.mp rfl) hp]
          refine Ev.step (fun k => (g k).trans (if_pos (by omega))) ?_
          exact Ev.bind f1 (Ev.congr (fun k => if_pos rfl) (Ev.now _))
        | false =>
          have hr : ¬ Run (bt l) c on p := fun hr => by have := f2.mpr hr; cases this
          refine Ev.step (fun k => (g k).trans (if_pos (by omega))) ?_
          refine Ev.bind f1 (Ev.congr (fun k => if_neg (by decide)) ?_)
          exact rfind_l d (p + 1) v (by omega) (h.next (by omega) fun r a b _ => by rw [show r = p by omega]; exact hr)
      · refine Ev.step (fun k => (g k).trans (if_neg (by omega))) ?_
        exact rfind_l d (p + 1) v (by omega) (h.next (by omega) fun r a b e => absurd (by rw [← show r = p by omega]; exact e) h1)
    · rw [h.none fun r a b => by omega]
      have q1 : ¬ (p : Int) ≤ ((n - c : Nat) : Int) := by omega
      exact Ev.step (f := fun _ => some (-1)) (fun k => by simp only [estoversref01_FindRun.l0]; rw [less_c hc hcn (by omega), if_neg q1]) (Ev.now _)
include ha2
theorem brun_l : ∀ (m d p : Nat) (i : Nat) (v : Int), n < p + m → p + c = i + d → p + c ≤ n → p ≤ i → p % al = 0 → (∀ j, p ≤ j → j < i → bt l j = on) → First (bt l) n c al on p v →
    (∀ p' v', p < p' → p' % al = 0 → First (bt l) n c al on p' v' → Ev (fun k => bitset_FindRun.l0 k c al on p' n l) v') → Ev (fun k => bitset_FindRun.l1 k c al on p i n l) v
  | m, d, p, i, v, hmm, hd, hp, hi, h1, hon, h, ih => by
    by_cases hic : i < p + c
    · obtain ⟨d, rfl⟩ : ∃ e, d = e + 1 := ⟨d - 1, by omega⟩
      have g : ∀ k, bitset_FindRun.l1 (k + 1) c al on p i n l = if (bt l i == on) = true then (bitset_FindRun.l1 k c al on p (i + 1 : Nat) n l) else (if (al : Int) > ((n - p : Nat) : Int) then (some (-1)) else (bitset_FindRun.l0 k c al on (wrap64 ((p : Int) + al)) n l)) := by
        intro k
        simp only [bitset_FindRun.l1]
        rw [w64 (n := (p : Int) + c) (by omega), if_pos (by omega), get_some (n : Int) hw (by omega) i (by omega), Option.bind_some, w64 (n := (i : Int) + 1) (by omega), w64 (n := (n : Int) - p) (by omega), show (n : Int) - p = ((n - p : Nat) : Int) by omega]
        rfl
      by_cases e : bt l i = on
      · refine Ev.step (fun k => (g k).trans (if_pos (by simpa using e))) ?_
        exact brun_l m d p (i + 1) v hmm (by omega) hp (by omega) h1 (fun j a b => by
          by_cases e2 : j = i
          · subst e2; exact e
          · exact hon j a (by omega)) h ih
      · have hr : ¬ Run (bt l) c on p := fun hr => e (hr i hi hic)
        by_cases h2 : al > n - p
        · refine Ev.step (fun k => (g k).trans ((if_neg (by simpa using e)).trans (if_pos (by omega)))) ?_
          rw [h.none fun r a b e2 e3 => by
            by_cases e4 : r = p
            · subst e4; exact hr e3
            · have := between ha h1 e2 (by omega : p < r); omega]
          exact Ev.now _
        · refine Ev.step (f := fun k => bitset_FindRun.l0 k c al on (p + al : Nat) n l) (fun k => (g k).trans ((if_neg (by simpa using e)).trans ((if_neg (by omega)).trans (by rw [w64 (by omega)]; rfl)))) ?_
          refine ih (p + al) v (by omega) (by rw [Nat.add_mod_right]; exact h1) (h.next (by omega) fun r a b e2 e3 => ?_)
          by_cases e4 : r = p
          · subst e4; exact hr e3
          · have := between ha h1 e2 (by omega : p < r); omega
    · rw [h.here h1 (fun j a b => hon j a (by omega)) hp]
      refine Ev.step (f := fun _ => some (p : Int)) (fun k => ?_) (Ev.now _)
      simp only [bitset_FindRun.l1]
      rw [w64 (n := (p : Int) + c) (by omega), if_neg (by omega)]
theorem bfind_l : ∀ (m p : Nat) (v : Int), n < p + m → p % al = 0 → First (bt l) n c al on p v → Ev (fun k => bitset_FindRun.l0 k c al on p n l) v
  | m, p, v, hmm, h1, h => by
    by_cases hp : p + c ≤ n
    · obtain ⟨m, rfl⟩ : ∃ e, m = e + 1 := ⟨m - 1, by omega⟩
      have q1 : (p : Int) ≤ ((n - c : Nat) : Int) := by omega
      refine Ev.step (f := fun k => bitset_FindRun.l1 k c al on p p n l) (fun k => by simp only [bitset_FindRun.l0]; rw [less_c hc hcn (by omega), if_pos q1]) ?_
      exact brun_l n c al on hw hm hn hc hcn ha ha2 (m + 1) c p p v hmm rfl hp (Nat.le_refl _) h1 (fun j a b => by omega) h (fun p' v' q1 q2 q3 => bfind_l m p' v' (by omega) q2 q3)
    · rw [h.none fun r a b => by omega]
      have q1 : ¬ (p : Int) ≤ ((n - c : Nat) : Int) := by omega
      exact Ev.step (f := fun _ => some (-1)) (fun k => by simp only [bitset_FindRun.l0]; rw [less_c hc hcn (by omega), if_neg q1]) (Ev.now _)
end
theorem findRun_ev (n : Int) {l : List Int} (hw : wfs l) (c al : Int) (hal : al < 9223372036854775808) (on : Bool) : ∃ v, Ev (fun k => bitset_FindRun.f k n l c al on) v ∧ Ev (fun k => estoversref01_FindRun.f k n l c al on) v := by
  obtain ⟨e, c1, c2, c3⟩ := check_ev n hw
  have b1 : ∀ d : Bool, d = true → Ev (fun k => bitset_FindRun.j0 k c al on d n l) (-1) := fun d hd => Ev.step (f := fun _ => some (-1)) (fun k => by simp [bitset_FindRun.j0, hd]) (Ev.now _)
  have b2 : ∀ d : Bool, d = true → Ev (fun k => estoversref01_FindRun.j0 k c al on d n l) (-1) := fun d hd => Ev.step (f := fun _ => some (-1)) (fun k => by simp [estoversref01_FindRun.j0, hd]) (Ev.now _)
  unfold bitset_FindRun.f estoversref01_FindRun.f
  by_cases he : e = 0
  · subst he
    have hg := c3.mp rfl
    by_cases h1 : c < 1
    · exact ⟨-1, Ev.bind c1 (Ev.congr (fun k => (if_pos rfl).trans (if_pos h1)) (b1 true rfl)), Ev.bind c2 (Ev.congr (fun k => (if_pos rfl).trans (if_pos h1)) (b2 true rfl))⟩
    by_cases h2 : al < 1
    · exact ⟨-1, Ev.bind c1 (Ev.congr (fun k => (if_pos rfl).trans ((if_neg h1).trans (if_pos h2))) (b1 true rfl)), Ev.bind c2 (Ev.congr (fun k => (if_pos rfl).trans ((if_neg h1).trans (if_pos h2))) (b2 true rfl))⟩
    by_cases h3 : c > n
    · exact ⟨-1, Ev.bind c1 (Ev.congr (fun k => (if_pos rfl).trans ((if_neg h1).trans (if_neg h2))) (b1 _ (decide_eq_true h3))), Ev.bind c2 (Ev.congr (fun k => (if_pos rfl).trans ((if_neg h1).trans (if_neg h2))) (b2 _ (decide_eq_true h3)))⟩
    obtain ⟨c, rfl⟩ : ∃ m : Nat, c = m := ⟨c.toNat, by omega⟩
    obtain ⟨al, rfl⟩ : ∃ m : Nat, al = m := ⟨al.toNat, by omega⟩
    obtain ⟨n, rfl⟩ : ∃ m : Nat, n = m := ⟨n.toNat, by omega⟩
    have hs := hg.small
    have hl := hg.len
    obtain ⟨v, hv⟩ := first_some (bt l) n c al on (n + 1) 0 (by omega)
    have p1 := bfind_l n c al on hw hs (by omega) (by omega) (by omega) (by omega) hal (n + 1) 0 v (by omega) (Nat.zero_mod _) hv
    have p2 := rfind_l n c al on hw hs (by omega) (by omega) (by omega) (by omega) (n + 1) 0 v (by omega) hv
    refine ⟨v, Ev.bind c1 (Ev.congr (fun k => (if_pos rfl).trans ((if_neg h1).trans (if_neg h2))) (Ev.step (fun k => ?_) p1)), Ev.bind c2 (Ev.congr (fun k => (if_pos rfl).trans ((if_neg h1).trans (if_neg h2))) (Ev.step (fun k => ?_) p2))⟩
    · simp only [bitset_FindRun.j0, decide_eq_false h3, Bool.false_eq_true, if_false]
      rfl
    · simp only [estoversref01_FindRun.j0, decide_eq_false h3, Bool.false_eq_true, if_false]
      rfl
  · exact ⟨-1, Ev.bind c1 (Ev.congr (fun k => if_neg he) (b1 true rfl)), Ev.bind c2 (Ev.congr (fun k => if_neg he) (b2 true rfl))⟩
end Go.Proofs.YtinhjcoikhpblaaDoor.V
