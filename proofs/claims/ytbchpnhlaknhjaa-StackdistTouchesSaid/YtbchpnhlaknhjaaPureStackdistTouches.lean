/-
  StackdistTouches: Touch returns the specified stack and position, and Distances the specified distances. No condition.
-/
import Derived.Test.YtbchpnhlaknhjaaQ202
import Derived.Test.YtbchpnhlaknhjaaVa
import Derived.Test.YtbchpnhlaknhjaaVwake
namespace Go.Proofs.Ytbchpnhlaknhjaa.Pure
open Go.RowKit Go.Proofs.Ytbchpnhlaknhjaa.Q Go.Proofs.Ytbchpnhlaknhjaa.V Go.Proofs.YtbchpnhlaknhjaaW.PrintWords Go.Proofs.YtbchpnhlaknhjaaW.PrintLast
theorem touches_yes (l0 : List Int) (a1 : Int) (l2 : List Int) : Ev (fun k => estoverslaw37_StackdistTouches.j0 k l0 a1 l2 true) true :=
  Ev.step (fun k => by simp only [estoverslaw37_StackdistTouches.j0]; rw [if_pos trivial]) (Ev.bind awake_ev (Ev.now _))
theorem touches_no (l0 : List Int) (a1 : Int) (l2 : List Int) (h : l0.length ≤ 100) (h2 : l2.length ≤ 1000000) : Ev (fun k => estoverslaw37_StackdistTouches.j0 k l0 a1 l2 false) true := by
  refine Ev.step (f := fun k => (stackdist_Touch.f k l0 a1).bind fun bt263 => ((estoversref37_Touch.f k l0 a1).bind fun bt267 => ((stackdist_Distances.f k l2).bind fun bt271 => ((estoversref37_Distances.f k l2).bind fun bt275 => (if bt263.2 = bt267.2 then (if bt271.2 = bt275.2 then ((estoversref37_Same.f k bt263.1 bt267.1).bind fun t279 => (if t279 = true then ((estoversref37_Same.f k bt271.1 bt275.1).bind fun t280 => (some t280)) else (some false))) else (some false)) else (some false)))))) (fun k => by simp only [estoverslaw37_StackdistTouches.j0]; rw [if_neg (by decide)]) ?_
  refine Ev.bind (touch_ev l0 a1 (by omega)) (Ev.bind (refTouch_ev l0 a1 (by omega)) (Ev.bind (distances_ev l2) (Ev.bind (refDistances_ev l2) ?_)))
  have h3 := touch_length l0 a1
  refine Ev.congr (fun k => by rw [if_pos rfl, if_pos rfl]) (Ev.bind (same_ev _ _ (by omega)) ?_)
  refine Ev.congr (fun k => by rw [if_pos (by simp)]) (Ev.bind (same_ev (distR l2).1 (distR l2).1 ?_) ?_)
  · unfold distR
    split
    · rename_i h
      have := req_zero h
      simp only [dists_length]; omega
    · simp
  · exact Ev.none_k fun k => by simp
theorem touches_any (l0 : List Int) (a1 : Int) (l2 : List Int) (b : Bool) (h : b = false → l0.length ≤ 100 ∧ l2.length ≤ 1000000) : Ev (fun k => estoverslaw37_StackdistTouches.j0 k l0 a1 l2 b) true := by
  cases b with
  | true => exact touches_yes l0 a1 l2
  | false => exact touches_no l0 a1 l2 (h rfl).1 (h rfl).2
theorem StackdistTouches : estoverslaw37_StackdistTouches.Pure := by
  intro l0 a1 l2 _ _ _ _ _ _ _
  refine Ev.rounds ?_
  unfold estoverslaw37_StackdistTouches.f
  refine Ev.bind awake_ev (Ev.congr (fun k => by rw [if_pos rfl]) ?_)
  by_cases h0 : (l0.length : Int) > 100
  · exact Ev.congr (fun k => by rw [if_pos h0]) (touches_yes l0 a1 l2)
  refine Ev.congr (fun k => by rw [if_neg h0]) ?_
  by_cases h1 : (l2.length : Int) > 100
  · refine Ev.congr (fun k => by rw [if_pos h1]) ?_
    by_cases h2 : (l2.length : Int) ≤ 4096
    · exact Ev.congr (fun k => by rw [if_pos h2]) (touches_yes l0 a1 l2)
    · exact Ev.congr (fun k => by rw [if_neg h2]) (touches_any _ _ _ _ (fun h => by have := of_decide_eq_false h; omega))
  · exact Ev.congr (fun k => by rw [if_neg h1]) (touches_any _ _ _ _ (fun h => by have := of_decide_eq_false h; omega))
end Go.Proofs.Ytbchpnhlaknhjaa.Pure
