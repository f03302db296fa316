/-
  StackdistFaults: LRU, FIFO and optimal replacement have the reference's numbers of faults. No condition.
-/
import Derived.Test.YtbchpnhlaknhjaaQ203
import Derived.Test.YtbchpnhlaknhjaaVd
import Derived.Test.YtbchpnhlaknhjaaVwake
namespace Go.Proofs.Ytbchpnhlaknhjaa.Pure
open Go.RowKit Go.Proofs.Ytbchpnhlaknhjaa.Q Go.Proofs.Ytbchpnhlaknhjaa.V Go.Proofs.Ytbchpnhlaknhjaa.Sd Go.Proofs.YtbchpnhlaknhjaaW.PrintWords Go.Proofs.YtbchpnhlaknhjaaW.PrintLast
theorem faults_yes (l0 : List Int) (a1 : Int) : Ev (fun k => estoverslaw37_StackdistFaults.j0 k l0 a1 true) true :=
  Ev.step (fun k => by simp only [estoverslaw37_StackdistFaults.j0]; rw [if_pos trivial]) (Ev.bind awake_ev (Ev.now _))
theorem faults_no (l0 : List Int) (a1 : Int) (hw : wfs l0) (hl : l0.length ≤ 1000000) : Ev (fun k => estoverslaw37_StackdistFaults.j0 k l0 a1 false) true := by
  refine Ev.step (f := fun k => (stackdist_Lru.f k l0 a1).bind fun bt324 => ((estoversref37_Lru.f k l0 a1).bind fun bt329 => ((stackdist_Fifo.f k l0 a1).bind fun bt334 => ((estoversref37_Fifo.f k l0 a1).bind fun bt336 => ((stackdist_Optimal.f l0 a1).bind fun bt338 => ((estoversref37_Optimal.f k l0 a1).bind fun bt340 => (if bt324.1 = bt329.1 then (if bt324.2.2 = bt329.2.2 then ((estoversref37_Same.f k bt324.2.1 bt329.2.1).bind fun t342 => (if t342 = true then (if bt334.1 = bt336.1 then (if bt334.2 = bt336.2 then (if bt338.1 = bt340.1 then (some (bt338.2 == bt340.2)) else (some false)) else (some false)) else (some false)) else (some false))) else (some false)) else (some false))))))))
    (fun k => by simp only [estoverslaw37_StackdistFaults.j0]; rw [if_neg (by decide)]) ?_
  refine Ev.bind (lru_ev l0 a1) (Ev.bind (refLru_ev l0 a1) (Ev.bind (fifo_ev l0 a1) (Ev.bind (refFifo_ev l0 a1) (Ev.bind (opt_ev l0 a1 hw) (Ev.bind (refOpt_ev l0 a1) ?_)))))
  refine Ev.congr (fun k => by rw [if_pos rfl, if_pos rfl]) (Ev.bind (same_ev _ _ ?_) ?_)
  · unfold lruR
    have := stk_length l0 []
    split
    · simp only [List.length_take, List.length_nil] at this ⊢; omega
    · simp
  · exact Ev.none_k fun k => by simp
theorem faults_any (l0 : List Int) (a1 : Int) (b : Bool) (hw : wfs l0) (h : b = false → l0.length ≤ 1000000) : Ev (fun k => estoverslaw37_StackdistFaults.j0 k l0 a1 b) true := by
  cases b with
  | true => exact faults_yes l0 a1
  | false => exact faults_no l0 a1 hw (h rfl)
theorem StackdistFaults : estoverslaw37_StackdistFaults.Pure := by
  intro l0 a1 _ _ hw _
  refine Ev.rounds ?_
  have hw := wfs_of l0 hw
  unfold estoverslaw37_StackdistFaults.f
  refine Ev.bind awake_ev (Ev.congr (fun k => by rw [if_pos rfl]) ?_)
  by_cases h1 : (l0.length : Int) > 100
  · refine Ev.congr (fun k => by rw [if_pos h1]) ?_
    by_cases h2 : (l0.length : Int) ≤ 4096
    · exact Ev.congr (fun k => by rw [if_pos h2]) (faults_yes l0 a1)
    · exact Ev.congr (fun k => by rw [if_neg h2]) (faults_any _ _ _ hw (fun h => by have := of_decide_eq_false h; omega))
  · exact Ev.congr (fun k => by rw [if_neg h1]) (faults_any _ _ _ hw (fun h => by have := of_decide_eq_false h; omega))
end Go.Proofs.Ytbchpnhlaknhjaa.Pure
