/-
  GenerationsSettle comes to true. Condition: the frames are ints of their kind.
-/
import Derived.Test.YtikdcoahoocpjaaVe
import Derived.Test.YtikdcoahoocpjaaVd
import Derived.Test.YtikdcoahoocpjaaQ303
namespace Go.Proofs.Ytikdcoahoocpjaa.V
open Go.RowKit Go.Proofs.Ytikdcoahoocpjaa.Q Go.Proofs.Ytikdcoahoocpjaa.Sd Go.Proofs.YtikdcoahoocpjaaW.PrintWords Go.Proofs.YtikdcoahoocpjaaW.PrintLast
set_option linter.unusedVariables false
/-- An argument that is only read. -/
theorem V_arg {w : World} {A : Option Addr} {c : Nat} {l : List (List Int)} (h : Kd.C (Kd.slice 3 (Kd.int .i64)) w A l.length l) (hc : l.length ≤ c) : Kd.V (Kd.slice 3 (Kd.int .i64)) 25 w w.heap.size (fun k => k < w.heap.size) (.slice A l.length c) l :=
  Kd.V_mk hc (Kd.C_F (Kd.heap_slice 3 (Kd.heap_int .i64)) h)
theorem cold_nil (x : List Int) : cold [] x = x := by
  unfold cold
  rw [List.filter_eq_self]
  intro a _; simp
theorem hot_nil (x : List Int) : hot [] x = [] := by
  unfold hot
  rw [List.filter_eq_nil_iff]
  intro a _; simp
theorem age_nil {l : List (List Int)} (h : chkS l = 0) : generations_Age.f l [] = some (ageR l [], 0) := by
  rw [age_f l [] (okL_chk h) (by decide)]
  unfold ageS
  rw [if_pos h, if_pos (show accS l.flatten [] [] = 0 from rfl)]
theorem ageR_nil (a b c d : List Int) : ageR [a, b, c, d] [] = [a ++ b, c, d, []] := by
  simp [ageR, rd_L1, cold_nil, hot_nil]
theorem settle_l1 (l : List (List Int)) (b : List Int) (hb : b.length ≤ 1000) (h : ∀ f ∈ b, generations_Where.f l f = some 0) (d : Nat) : ∀ i : Int, 0 ≤ i → (b.length : Int) - i = d → Ev (fun k => estoverslaw36_GenerationsSettle.l1 k l b (b.length : Int) i) true := by
  induction d with
  | zero =>
    intro i h0 hd
    exact Ev.step (f := fun k => some true) (fun k => by simp only [estoverslaw36_GenerationsSettle.l1]; rw [if_neg (by omega)]; rfl) (Ev.now _)
  | succ d ih =>
    intro i h0 hd
    have hlt : i < b.length := by omega
    refine Ev.step (f := fun k => _) (fun k => by simp only [estoverslaw36_GenerationsSettle.l1]; rw [if_pos hlt, if_pos h0, if_pos hlt]) ?_
    refine Ev.val (h _ (rd_mem h0 hlt)) ?_
    exact Ev.ite_pos rfl (Ev.congr (fun k => by rw [w64 (by omega)]) (ih (i + 1) (by omega) (by omega)))
theorem settle_ev (l : List (List Int)) (hw : ∀ x ∈ l, ∀ g ∈ x, okI g = true) : ∃ k, estoverslaw36_GenerationsSettle.f k l = some true := by
  refine Ev.rounds (g := fun k => estoverslaw36_GenerationsSettle.f k l) ?_
  unfold estoverslaw36_GenerationsSettle.f
  refine Ev.bind (few_ev l) ?_
  cases hfew : fewB l with
  | false => exact Ev.now _
  | true =>
    have hok := few_ok hw hfew
    refine Ev.ite_pos rfl ?_
    refine Ev.val (order_f hok) ?_
    unfold ordS
    by_cases h0 : chkS l = 0
    · rw [if_pos h0]
      refine Ev.ite_pos rfl ?_
      have h4 := (nodup_of h0).1
      match l, h4 with
      | [a, b, c, d], _ =>
        have e1 : [a ++ b, c, d, []].flatten = [a, b, c, d].flatten := by simp
        have e2 : [(a ++ b) ++ c, d, [], []].flatten = [a, b, c, d].flatten := by simp
        have e3 : [((a ++ b) ++ c) ++ d, [], [], []].flatten = [a, b, c, d].flatten := by simp
        have k1 := chk_flat (l' := [a ++ b, c, d, []]) h0 rfl e1
        have k2 := chk_flat (l' := [(a ++ b) ++ c, d, [], []]) h0 rfl e2
        have k3 := chk_flat (l' := [((a ++ b) ++ c) ++ d, [], [], []]) h0 rfl e3
        have hs := chk_small h0
        refine Ev.step (f := fun k => _) (fun k => by simp only [estoverslaw36_GenerationsSettle.l0]; rw [if_pos (by first | decide | (unfold wrap64; omega))]) ?_
        refine Ev.val (age_nil h0) (Ev.ite_pos rfl ?_)
        rw [ageR_nil]
        refine Ev.step (f := fun k => _) (fun k => by simp only [estoverslaw36_GenerationsSettle.l0]; rw [if_pos (by unfold wrap64; omega)]) ?_
        refine Ev.val (age_nil k1) (Ev.ite_pos rfl ?_)
        rw [ageR_nil]
        refine Ev.step (f := fun k => _) (fun k => by simp only [estoverslaw36_GenerationsSettle.l0]; rw [if_pos (by unfold wrap64; omega)]) ?_
        refine Ev.val (age_nil k2) (Ev.ite_pos rfl ?_)
        rw [ageR_nil]
        refine Ev.step (f := fun k => _) (fun k => by simp only [estoverslaw36_GenerationsSettle.l0]; rw [if_neg (by unfold wrap64; omega)]) ?_
        refine Ev.val (order_of k3) (Ev.ite_pos rfl ?_)
        refine Ev.bind (evTo (equal_ev _ _ (by omega)) (decide_eq_true e3.symm)) ?_
        refine Ev.step (f := fun k => _) (fun k => by simp only [estoverslaw36_GenerationsSettle.j1]; rw [if_neg (by decide)]) ?_
        refine settle_l1 _ _ (by omega) (fun f hf => ?_) [a, b, c, d].flatten.length 0 (by omega) (by omega)
        rw [where_of k3 (fr_okI ((nodup_of h0).2.1 f hf))]
        rw [← e3] at hf
        have : f ∈ ((a ++ b) ++ c) ++ d := by simpa using hf
        rw [show whF 0 [((a ++ b) ++ c) ++ d, [], [], []] f = if f ∈ ((a ++ b) ++ c) ++ d then 0 else whF (0 + 1) [[], [], []] f from rfl, if_pos this]
    · rw [if_neg h0]
      exact Ev.ite_neg h0 (Ev.now _)
end Go.Proofs.Ytikdcoahoocpjaa.V
