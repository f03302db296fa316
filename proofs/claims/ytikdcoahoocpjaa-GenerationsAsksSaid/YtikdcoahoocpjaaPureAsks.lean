/-
  GenerationsAsks comes to true. Condition: the frames are ints of their kind.
-/
import Derived.Test.YtikdcoahoocpjaaVc
import Derived.Test.YtikdcoahoocpjaaQ300
namespace Go.Proofs.Ytikdcoahoocpjaa.V
open Go.RowKit Go.Proofs.Ytikdcoahoocpjaa.Q Go.Proofs.Ytikdcoahoocpjaa.Sd Go.Proofs.YtikdcoahoocpjaaW.PrintWords Go.Proofs.YtikdcoahoocpjaaW.PrintLast
set_option linter.unusedVariables false
theorem asks_ev (l : List (List Int)) (f : Int) (hw : ∀ x ∈ l, ∀ g ∈ x, okI g = true) (hf : okI f = true) : ∃ k, estoverslaw36_GenerationsAsks.f k l f = some true := by
  refine Ev.rounds (g := fun k => estoverslaw36_GenerationsAsks.f k l f) ?_
  unfold estoverslaw36_GenerationsAsks.f
  refine Ev.bind (few_ev l) ?_
  cases hfew : fewB l with
  | false => exact Ev.now _
  | true =>
    have hok := few_ok hw hfew
    have hl := few_bd hfew
    refine Ev.ite_pos rfl ?_
    refine Ev.val (order_f hok) ?_
    refine Ev.bind (rorder_ev l hl) ?_
    refine Ev.val (o := generations_New.f) (a := List.replicate 4 []) rfl ?_
    refine Ev.val (o := estoversref36_New.f) (a := List.replicate 4 []) rfl ?_
    refine Ev.bind (evTo (same_ev _ _ bd_new) (decide_eq_true rfl)) ?_
    refine Ev.ite_pos rfl ?_
    refine Ev.val (check_f hok) ?_
    refine Ev.bind (rchk_ev l hl) ?_
    refine Ev.ite_pos rfl ?_
    have h1 : (ordS l).1.length ≤ 1000000 := by
      unfold ordS
      split
      · rename_i h0; have := okL_flat hok (nodup_of h0).1; simp only; omega
      · simp
    refine Ev.bind (evTo (equal_ev _ _ h1) (decide_eq_true rfl)) ?_
    refine Ev.ite_pos rfl ?_
    refine Ev.ite_pos rfl ?_
    refine Ev.val (where_f hok hf) ?_
    refine Ev.bind (rwhere_ev l hl f) ?_
    exact Ev.ite_pos rfl (Ev.now _)
end Go.Proofs.Ytikdcoahoocpjaa.V
