/-
  BitsetMorgan, over lists: it answers true. Condition: the words are from 0 to 2^64 - 1.
-/
import Derived.Test.YtinhjcoikhpblaaDoorVj
import Derived.Test.YtinhjcoikhpblaaDoorVawake
import Derived.Test.YtinhjcoikhpblaaDoorQ213
namespace Go.Proofs.YtinhjcoikhpblaaDoor.V
open Go.Proofs.YtinhjcoikhpblaaDoor.Q
open Go.RowKit Go.Proofs.YtinhjcoikhpblaaDoorW.PrintWords Go.Proofs.YtinhjcoikhpblaaDoorW.PrintLast Go.Proofs.YtinhjcoikhpblaaDoorW.PrintMore
theorem bitsetMorgan_ev (n : Int) {la : List Int} (ha : wfs la) (n' : Int) {lb : List Int} (hb : wfs lb) : Ev (fun k => estoverslaw01_BitsetMorgan.f k n la n' lb) true := by
  unfold estoverslaw01_BitsetMorgan.f bitset_And.f bitset_Or.f
  by_cases hn : n ≠ n'
  · obtain ⟨m1, r1, e1, c1, h1⟩ := and_err true n n' ha hb hn
    refine Ev.bind awake_ev ?_
    refine Ev.congr (fun k => if_pos rfl) ?_
    refine Ev.bind (Ev.bind c1 (Ev.now _)) ?_
    exact Ev.congr (fun k => if_neg h1) (Ev.now _)
  obtain rfl := Decidable.of_not_not hn
  obtain ⟨m1, r1, e1, c1, g1, h1⟩ := and_b true n ha hb
  refine Ev.bind awake_ev ?_
  refine Ev.congr (fun k => if_pos rfl) ?_
  refine Ev.bind (Ev.bind c1 (Ev.now _)) ?_
  by_cases he : e1 = 0
  · subst he
    obtain ⟨ga, gb⟩ := g1.mp rfl
    obtain ⟨rfl, i1⟩ := h1 rfl
    have la1 := ga.len
    have lb1 := gb.len
    have lo := ga.lo
    have q1 : Good m1 r1 := ga.of_isL i1 fun j a b => by rw [ga.clean j a b]; rfl
    obtain ⟨m2, r2, e2, c2, g2, h2⟩ := not_b m1 i1.2.1
    obtain rfl := g2.mpr q1
    obtain ⟨rfl, i2⟩ := h2 rfl
    obtain ⟨m3, r3, e3, c3, g3, h3⟩ := not_b m2 ha
    obtain rfl := g3.mpr ga
    obtain ⟨rfl, i3⟩ := h3 rfl
    obtain ⟨m4, r4, e4, c4, g4, h4⟩ := not_b m3 hb
    obtain rfl := g4.mpr gb
    obtain ⟨rfl, i4⟩ := h4 rfl
    have q3 : Good m4 r3 := ga.of_isL i3 fun j a b => by rw [if_neg (by omega)]
    have q4 : Good m4 r4 := gb.of_isL i4 fun j a b => by rw [if_neg (by omega)]
    obtain ⟨m5, r5, e5, c5, g5, h5⟩ := and_b false m4 i3.2.1 i4.2.1
    obtain rfl := g5.mpr ⟨q3, q4⟩
    obtain ⟨rfl, i5⟩ := h5 rfl
    obtain ⟨m6, r6, e6, c6, g6, h6⟩ := not_b m5 i3.2.1
    obtain rfl := g6.mpr q3
    obtain ⟨rfl, i6⟩ := h6 rfl
    have ea : r2 = r5 := by
      have k2 : IsL la.length (fun j => if j < m6.toNat then !(op true (bt la j) (bt lb j)) else false) r2 := by
        have := i2
        rw [i1.1] at this
        exact this.congr fun j hj => by
          by_cases c : j < m6.toNat
          · rw [if_pos c, if_pos c, i1.2.2 j hj]
          · rw [if_neg c, if_neg c]
      have k5 : IsL la.length (fun j => if j < m6.toNat then !(op true (bt la j) (bt lb j)) else false) r5 := by
        have := i5
        rw [i3.1] at this
        exact this.congr fun j hj => by
          rw [i3.2.2 j hj, i4.2.2 j (by omega)]
          dsimp only
          by_cases c : j < m6.toNat
          · rw [if_pos c, if_pos c, if_pos c]
            unfold op
            cases bt la j <;> cases bt lb j <;> rfl
          · rw [if_neg c, if_neg c, if_neg c]; rfl
      exact k2.uniq k5
    subst ea
    have eb : r6 = la := by
      have k6 : IsL la.length (bt la) r6 := by
        have := i6
        rw [i3.1] at this
        exact this.congr fun j hj => by
          by_cases c : j < m6.toNat
          · rw [if_pos c, i3.2.2 j hj]; dsimp only; rw [if_pos c, Bool.not_not]
          · rw [if_neg c, ga.clean j (by omega) hj]
      exact k6.uniq (IsL.of ha)
    subst eb
    have q2 : Good m6 r2 := q1.of_isL i2 fun j a b => by rw [if_neg (by omega)]
    obtain ⟨e7, c7, _, g7⟩ := check_ev m6 i2.2.1
    obtain rfl := g7.mpr q2
    refine Ev.congr (fun k => if_pos rfl) ?_
    refine Ev.bind c2 ?_
    refine Ev.bind c3 ?_
    refine Ev.bind c4 ?_
    refine Ev.bind (Ev.bind c5 (Ev.now _)) ?_
    refine Ev.congr (fun k => (if_pos rfl).trans ((if_pos rfl).trans ((if_pos rfl).trans (if_pos rfl)))) ?_
    refine Ev.bind (same_ev m6 r2 (by have := q2.small; omega)) ?_
    refine Ev.congr (fun k => if_pos rfl) ?_
    refine Ev.bind c7 ?_
    refine Ev.step (f := fun k => (bitset_Not.f k m6 r3).bind fun bt440 => (if bt440.2.2 = 0 then ((estoversref01_Same.f k bt440.1 bt440.2.1 m6 r6).bind fun t446 => (some t446)) else (some false))) (fun k => by simp [estoverslaw01_BitsetMorgan.j0]) ?_
    refine Ev.bind c6 ?_
    refine Ev.congr (fun k => if_pos rfl) ?_
    exact Ev.bind (same_ev m6 r6 (by have := ga.small; omega)) (Ev.now _)
  · exact Ev.congr (fun k => if_neg he) (Ev.now _)
end Go.Proofs.YtinhjcoikhpblaaDoor.V
