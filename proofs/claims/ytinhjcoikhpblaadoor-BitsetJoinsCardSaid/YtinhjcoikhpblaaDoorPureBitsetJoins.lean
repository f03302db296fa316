/-
  BitsetJoins, over lists: it answers true. Condition: the words are from 0 to 2^64 - 1.
-/
import Derived.Test.YtinhjcoikhpblaaDoorVj2
import Derived.Test.YtinhjcoikhpblaaDoorVawake
import Derived.Test.YtinhjcoikhpblaaDoorQ212
namespace Go.Proofs.YtinhjcoikhpblaaDoor.V
open Go.Proofs.YtinhjcoikhpblaaDoor.Q
open Go.RowKit Go.Proofs.YtinhjcoikhpblaaDoorW.PrintWords Go.Proofs.YtinhjcoikhpblaaDoorW.PrintLast Go.Proofs.YtinhjcoikhpblaaDoorW.PrintMore
theorem bitsetJoins_ev (n : Int) {la : List Int} (ha : wfs la) (n' : Int) {lb : List Int} (hb : wfs lb) : Ev (fun k => estoverslaw01_BitsetJoins.f k n la n' lb) true := by
  obtain ⟨m1, r1, e1, c1, d1, _, _, b1⟩ := and_ev n n' ha hb
  obtain ⟨m2, r2, e2, c2, d2, _, _, b2⟩ := or_ev n n' ha hb
  obtain ⟨m3, r3, e3, c3, d3, _, _, b3⟩ := not_ev n ha
  unfold estoverslaw01_BitsetJoins.f
  refine Ev.bind awake_ev ?_
  refine Ev.congr (fun k => if_pos rfl) ?_
  refine Ev.bind c1 ?_
  refine Ev.bind d1 ?_
  refine Ev.congr (fun k => if_pos rfl) ?_
  refine Ev.bind (same_ev m1 r1 (by omega)) ?_
  refine Ev.step (f := fun k => (bitset_Or.f k n la n' lb).bind fun bt384 => ((estoversref01_Or.f k n la n' lb).bind fun bt389 => (if bt384.2.2 = bt389.2.2 then ((estoversref01_Same.f k bt384.1 bt384.2.1 bt389.1 bt389.2.1).bind fun t394 => (estoverslaw01_BitsetJoins.j1 k (!t394) n la)) else (estoverslaw01_BitsetJoins.j1 k true n la)))) (fun k => by simp only [estoverslaw01_BitsetJoins.j0, Bool.not_true, Bool.false_eq_true, if_false]) ?_
  refine Ev.bind c2 ?_
  refine Ev.bind d2 ?_
  refine Ev.congr (fun k => if_pos rfl) ?_
  refine Ev.bind (same_ev m2 r2 (by omega)) ?_
  refine Ev.step (f := fun k => (bitset_Not.f k n la).bind fun bt395 => ((estoversref01_Not.f k n la).bind fun bt400 => (if bt395.2.2 = bt400.2.2 then ((estoversref01_Same.f k bt395.1 bt395.2.1 bt400.1 bt400.2.1).bind fun t405 => (some t405)) else (some false)))) (fun k => by simp only [estoverslaw01_BitsetJoins.j1, Bool.not_true, Bool.false_eq_true, if_false]) ?_
  refine Ev.bind c3 ?_
  refine Ev.bind d3 ?_
  refine Ev.congr (fun k => if_pos rfl) ?_
  exact Ev.bind (same_ev m3 r3 (by omega)) (Ev.now _)
end Go.Proofs.YtinhjcoikhpblaaDoor.V
