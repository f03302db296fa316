/-
  BitsetSets, over lists: it answers true. Condition: the words are from 0 to 2^64 - 1.
-/
import Derived.Test.YtinhjcoikhpblaaDoorVd
import Derived.Test.YtinhjcoikhpblaaDoorVawake
import Derived.Test.YtinhjcoikhpblaaDoorQ204
namespace Go.Proofs.YtinhjcoikhpblaaDoor.V
open Go.Proofs.YtinhjcoikhpblaaDoor.Q
open Go.RowKit Go.Proofs.YtinhjcoikhpblaaDoorW.PrintWords Go.Proofs.YtinhjcoikhpblaaDoorW.PrintLast Go.Proofs.YtinhjcoikhpblaaDoorW.PrintMore
theorem bitsetSets_ev (n : Int) {l : List Int} (hw : wfs l) (i : Int) (on : Bool) : Ev (fun k => estoverslaw01_BitsetSets.f k n l i on) true := by
  obtain ⟨m, r, e, c1, c2, c3, c4⟩ := set_ev n hw i on
  obtain ⟨g, d1, d2, _⟩ := get_ev n hw i
  unfold estoverslaw01_BitsetSets.f
  refine Ev.bind awake_ev ?_
  refine Ev.congr (fun k => if_pos rfl) ?_
  refine Ev.bind c1 ?_
  refine Ev.bind c2 ?_
  refine Ev.congr (fun k => if_pos rfl) ?_
  refine Ev.bind (same_ev m r (by omega)) ?_
  refine Ev.congr (fun k => if_pos rfl) ?_
  refine Ev.bind d1 ?_
  refine Ev.bind d2 ?_
  refine Ev.congr (fun k => if_neg (by simp)) ?_
  by_cases he : e = 0
  · subst he
    obtain ⟨h1, h2, h3, rfl, h4⟩ := c3 rfl
    have hl := h1.len
    have hg : Good m r := h1.of_isL h4 fun j a b => by rw [if_neg (by omega)]; exact h1.clean j a b
    obtain ⟨g', f1, _, f2⟩ := get_ev m h4.2.1 i
    have : g' = on := by
      rw [f2 hg h2 h3, h4.2.2 _ (by omega)]; exact if_pos rfl
    subst this
    refine Ev.congr (fun k => if_pos rfl) ?_
    exact Ev.bind f1 (Ev.none_k fun k => by simp)
  · exact Ev.congr (fun k => if_neg he) (Ev.now _)
end Go.Proofs.YtinhjcoikhpblaaDoor.V
