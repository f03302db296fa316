/-
  StackdistCurves: Curve and Working return the reference's lists. No condition.
-/
import Derived.Test.YtbchpnhlaknhjaaQ204
import Derived.Test.YtbchpnhlaknhjaaVf
import Derived.Test.YtbchpnhlaknhjaaVwake
namespace Go.Proofs.Ytbchpnhlaknhjaa.Pure
open Go.RowKit Go.Proofs.Ytbchpnhlaknhjaa.Q Go.Proofs.Ytbchpnhlaknhjaa.V Go.Proofs.Ytbchpnhlaknhjaa.Sd Go.Proofs.YtbchpnhlaknhjaaW.PrintWords Go.Proofs.YtbchpnhlaknhjaaW.PrintLast
theorem curves_yes (l0 : List Int) (a1 a2 : Int) : Ev (fun k => estoverslaw37_StackdistCurves.j0 k l0 a1 a2 true) true :=
  Ev.step (fun k => by simp only [estoverslaw37_StackdistCurves.j0]; rw [if_pos trivial]) (Ev.bind awake_ev (Ev.now _))
theorem curves_no (l0 : List Int) (a1 a2 : Int) (hw : wfs l0) : Ev (fun k => estoverslaw37_StackdistCurves.j0 k l0 a1 a2 false) true := by
  refine Ev.step (f := fun k => (stackdist_Curve.f k l0 a1).bind fun bt361 => ((estoversref37_Curve.f k l0 a1).bind fun bt365 => ((stackdist_Working.f l0 a2).bind fun bt369 => ((estoversref37_Working.f k l0 a2).bind fun bt373 => (if bt361.2 = bt365.2 then (if bt369.2 = bt373.2 then ((estoversref37_Same.f k bt361.1 bt365.1).bind fun t377 => (if t377 = true then ((estoversref37_Same.f k bt369.1 bt373.1).bind fun t378 => (some t378)) else (some false))) else (some false)) else (some false))))))
    (fun k => by simp only [estoverslaw37_StackdistCurves.j0]; rw [if_neg (by decide)]) ?_
  refine Ev.bind (curve_ev l0 a1) (Ev.bind (refCurve_ev l0 a1) (Ev.bind (work_ev l0 a2 hw) (Ev.bind (refWork_ev l0 a2) ?_)))
  refine Ev.congr (fun k => by rw [if_pos rfl, if_pos rfl]) (Ev.bind (same_ev _ _ ?_) ?_)
  · unfold curveR
    split
    · rename_i h; have := req_zero h; simp [curve]; omega
    · simp
  · refine Ev.congr (fun k => by rw [if_pos (by simp)]) (Ev.bind (same_ev (workR l0 a2).1 (workR l0 a2).1 ?_) ?_)
    · unfold workR
      split
      · rename_i h; have := req_zero h; simp [work]; omega
      · simp
    · exact Ev.none_k fun k => by simp
theorem curves_any (l0 : List Int) (a1 a2 : Int) (b : Bool) (hw : wfs l0) : Ev (fun k => estoverslaw37_StackdistCurves.j0 k l0 a1 a2 b) true := by
  cases b with
  | true => exact curves_yes l0 a1 a2
  | false => exact curves_no l0 a1 a2 hw
theorem StackdistCurves : estoverslaw37_StackdistCurves.Pure := by
  intro l0 a1 a2 _ _ hw _ _
  refine Ev.rounds ?_
  have hw := wfs_of l0 hw
  unfold estoverslaw37_StackdistCurves.f
  refine Ev.bind awake_ev (Ev.congr (fun k => by rw [if_pos rfl]) ?_)
  have key := fun b => curves_any l0 a1 a2 b hw
  by_cases h1 : (l0.length : Int) > 100
  · by_cases h2 : (l0.length : Int) ≤ 4096
    · exact Ev.congr (fun k => by rw [if_pos h1, if_pos h2]) (key _)
    · by_cases h3 : (l0.length : Int) > 5000
      · exact Ev.congr (fun k => by rw [if_pos h1, if_neg h2, if_pos h3]) (key _)
      · by_cases h4 : a1 > 200
        · exact Ev.congr (fun k => by rw [if_pos h1, if_neg h2, if_neg h3, if_pos h4]) (key _)
        · exact Ev.congr (fun k => by rw [if_pos h1, if_neg h2, if_neg h3, if_neg h4]) (key _)
  · by_cases h3 : (l0.length : Int) > 5000
    · exact Ev.congr (fun k => by rw [if_neg h1, if_pos h3]) (key _)
    · by_cases h4 : a1 > 200
      · exact Ev.congr (fun k => by rw [if_neg h1, if_neg h3, if_pos h4]) (key _)
      · exact Ev.congr (fun k => by rw [if_neg h1, if_neg h3, if_neg h4]) (key _)
end Go.Proofs.Ytbchpnhlaknhjaa.Pure
