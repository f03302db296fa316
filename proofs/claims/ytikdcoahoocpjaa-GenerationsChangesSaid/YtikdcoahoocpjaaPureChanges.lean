/-
  GenerationsChanges comes to true. Condition: the frames are ints of their kind.
-/
import Derived.Test.YtikdcoahoocpjaaVc
import Derived.Test.YtikdcoahoocpjaaQ301
namespace Go.Proofs.Ytikdcoahoocpjaa.V
open Go.RowKit Go.Proofs.Ytikdcoahoocpjaa.Q Go.Proofs.Ytikdcoahoocpjaa.Sd Go.Proofs.YtikdcoahoocpjaaW.PrintWords Go.Proofs.YtikdcoahoocpjaaW.PrintLast
set_option linter.unusedVariables false
theorem changes_ev (l : List (List Int)) (x y : Int) (hw : ∀ x ∈ l, ∀ g ∈ x, okI g = true) (hx : okI x = true) (hy : okI y = true) : ∃ k, estoverslaw36_GenerationsChanges.f k l x y = some true := by
  refine Ev.rounds (g := fun k => estoverslaw36_GenerationsChanges.f k l x y) ?_
  unfold estoverslaw36_GenerationsChanges.f
  refine Ev.bind (few_ev l) ?_
  cases hfew : fewB l with
  | false => exact Ev.now _
  | true =>
    have hok := few_ok hw hfew
    have hl := few_bd hfew
    have hl2 := few_bd2 hfew
    refine Ev.ite_pos rfl ?_
    refine Ev.bind (add_ev l x y hok hy hl) ?_
    refine Ev.bind (radd_ev l x y hl) ?_
    refine Ev.bind (remove_ev l x hok hx hl) ?_
    refine Ev.bind (rremove_ev l x hl) ?_
    refine Ev.bind (replace_ev l x y hok hx hy hl) ?_
    refine Ev.bind (rreplace_ev l x y hl) ?_
    refine Ev.bind (evTo (same_ev _ _ (bd_add hl2)) (decide_eq_true rfl)) ?_
    refine Ev.ite_pos rfl (Ev.ite_pos rfl ?_)
    refine Ev.bind (evTo (same_ev _ _ (bd_rem hl2)) (decide_eq_true rfl)) ?_
    refine Ev.ite_pos rfl (Ev.ite_pos rfl ?_)
    refine Ev.bind (evTo (same_ev _ _ (bd_rep hl2)) (decide_eq_true rfl)) ?_
    exact Ev.ite_pos rfl (Ev.ite_pos rfl (Ev.now _))
end Go.Proofs.Ytikdcoahoocpjaa.V
