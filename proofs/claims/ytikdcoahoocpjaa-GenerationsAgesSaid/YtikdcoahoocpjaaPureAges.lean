/-
  GenerationsAges comes to true. Condition: the frames are ints of their kind.
-/
import Derived.Test.YtikdcoahoocpjaaVd
import Derived.Test.YtikdcoahoocpjaaQ302
namespace Go.Proofs.Ytikdcoahoocpjaa.V
open Go.RowKit Go.Proofs.Ytikdcoahoocpjaa.Q Go.Proofs.Ytikdcoahoocpjaa.Sd Go.Proofs.YtikdcoahoocpjaaW.PrintWords Go.Proofs.YtikdcoahoocpjaaW.PrintLast
set_option linter.unusedVariables false
theorem ages_ev (l : List (List Int)) (acc : List Int) (hw : ∀ x ∈ l, ∀ g ∈ x, okI g = true) (ha : ∀ g ∈ acc, okI g = true) : ∃ k, estoverslaw36_GenerationsAges.f k l acc = some true := by
  refine Ev.rounds (g := fun k => estoverslaw36_GenerationsAges.f k l acc) ?_
  unfold estoverslaw36_GenerationsAges.f
  refine Ev.bind (few_ev l) ?_
  have hT : Ev (fun k => estoverslaw36_GenerationsAges.j0 k l acc true) true := Ev.step (f := fun k => some true) (fun k => by simp only [estoverslaw36_GenerationsAges.j0]; rw [if_pos trivial]; rfl) (Ev.now _)
  cases hfew : fewB l with
  | false => exact hT
  | true =>
    refine Ev.ite_pos rfl ?_
    by_cases h3 : (acc.length : Int) > 300
    · rw [decide_eq_true h3]; exact hT
    · rw [decide_eq_false h3]
      have hok := few_ok hw hfew
      have hl := few_bd hfew
      refine Ev.step (f := fun k => _) (fun k => by simp only [estoverslaw36_GenerationsAges.j0]; rw [if_neg (by decide)]) ?_
      refine Ev.val (age_f l acc hok (okA_of (by omega) ha)) ?_
      refine Ev.bind (rage_ev l acc (by omega) hl) ?_
      refine Ev.bind (evTo (same_ev _ _ (bd_age hok)) (decide_eq_true rfl)) ?_
      exact Ev.ite_pos rfl (Ev.ite_pos rfl (Ev.now _))
end Go.Proofs.Ytikdcoahoocpjaa.V
