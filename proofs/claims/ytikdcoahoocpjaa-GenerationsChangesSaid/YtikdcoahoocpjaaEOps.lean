/-
  What single operations come to, and a law for a region whose operations may come up in any order, within a round: by an invariant over what is listed.
-/
import Derived.Test.YtikdcoahoocpjaaEAll
namespace Go.Proofs.Ytikdcoahoocpjaa.Q
open Go.RowKit Go.Shelf Go.Proofs.YtikdcoahoocpjaaW.PrintWords Go.Proofs.YtikdcoahoocpjaaW.PrintLast Go.Proofs.YtikdcoahoocpjaaW.PrintMore
set_option linter.unusedVariables false
set_option linter.unusedSimpArgs false
section
variable {F : Fence} {n : Nat} {P : Program} {ops : Array Oper} {Q : Exit → Act → World → Prop} {md : Region.Mode}
def openN (listed : Array Bool) : Nat := (listed.toList.filter (fun b => !b)).length
theorem filt_set : ∀ (l : List Bool) (i : Nat), l[i]?.getD true = false → (l.filter (fun b => !b)).length = ((l.set i true).filter (fun b => !b)).length + 1
  | [], i, h => by simp at h
  | x :: xs, 0, h => by simp at h; subst h; simp
  | x :: xs, i + 1, h => by
    rw [List.getElem?_cons_succ] at h
    have := filt_set xs i h
    rw [List.set_cons_succ, List.filter_cons, List.filter_cons]
    cases x
    · simp only [Bool.not_false, if_true, List.length_cons]; omega
    · simp only [Bool.not_true, Bool.false_eq_true, if_false]; omega
theorem openN_set (listed : Array Bool) (i : Nat) (h : listed.getD i true = false) : openN listed = openN (listed.setIfInBounds i true) + 1 := by
  unfold openN
  rw [Array.toList_setIfInBounds]
  exact filt_set _ _ (by rw [Array.getElem?_toList, ← Array.getD_eq_getD_getElem?]; exact h)
theorem openN_zero (listed : Array Bool) (h : openN listed = 0) (i : Nat) : listed.getD i true = true := by
  unfold openN at h
  rw [List.length_eq_zero_iff, List.filter_eq_nil_iff] at h
  rw [Array.getD_eq_getD_getElem?]
  cases e : listed[i]? with
  | none => rfl
  | some b =>
    have := h b (by
      have := Array.mem_of_getElem? e
      simpa using this)
    simpa using this
theorem wpAnyIn_inv (I : Array Bool → Act → World → Prop)
    (hstep : ∀ listed a w i, I listed a w → i ∈ Region.ready md ops listed → wpOpIn F n P ops Q i (I (listed.setIfInBounds i true)) a w)
    (hdone : ∀ listed a w, I listed a w → Region.ready md ops listed = [] → Q .normal a w) :
    ∀ (fuel : Nat) (listed : Array Bool) (a : Act) (w : World), openN listed = fuel → I listed a w → wpAnyIn F n P md ops Q fuel listed a w
  | 0, listed, a, w, hm, hI => by
    have hr : Region.ready md ops listed = [] := by
      unfold Region.ready
      rw [List.filter_eq_nil_iff]
      intro i hi
      rw [openN_zero listed hm i]
      simp
    exact ⟨hr, hdone _ _ _ hI hr⟩
  | fuel + 1, listed, a, w, hm, hI => by
    refine ⟨hdone _ _ _ hI, fun i hi => wpOpIn_mono (fun a' w' hI' => ?_) (hstep _ _ _ _ hI hi)⟩
    refine wpAnyIn_inv I hstep hdone fuel _ a' w' ?_ hI'
    have h1 : listed.getD i true = false := by
      unfold Region.ready at hi
      have := (List.mem_filter.1 hi).2
      simp only [Bool.and_eq_true, Bool.not_eq_true'] at this
      exact this.1
    have := openN_set listed i h1
    omega
/-- One operation that yields a value. -/
theorem wpOpIn_val {i : Nat} {o : Oper} {a : Act} {w w' : World} {v : Value} {K : Act → World → Prop} (hF : ∀ f, F.fn f) (hi : ops[i]? = some o) (hg : o.guard = none) (hnd : ∀ c, o.op ≠ .defer c)
    (hrun : (execOp a.eval o).run P w = .ok (.value v) w') (hK : K (a.put o.dst v) w') : wpOpIn F n P ops Q i K a w := by
  unfold wpOpIn
  simp only [hi, Region.wanted, hg, if_true]
  refine ⟨fun f _ => hF f, ?_⟩
  rw [Oper.semAt_eq _ _ _ hnd, hrun]
  exact hK
theorem wpOpIn_skip {i : Nat} {o : Oper} {a : Act} {w w' : World} {K : Act → World → Prop} (hF : ∀ f, F.fn f) (hi : ops[i]? = some o) (hg : o.guard = none) (hnd : ∀ c, o.op ≠ .defer c)
    (hrun : (execOp a.eval o).run P w = .ok .skip w') (hK : K (a.put o.dst undef) w') : wpOpIn F n P ops Q i K a w := by
  unfold wpOpIn
  simp only [hi, Region.wanted, hg, if_true]
  refine ⟨fun f _ => hF f, ?_⟩
  rw [Oper.semAt_eq _ _ _ hnd, hrun]
  exact hK
theorem ev_same {a : Act} {d : Nat} {v : Value} (h : d < a.tmps.size) : (a.put (some d) v).eval (.tmp d) = v := by simp [Act.put, Act.eval, h]
theorem ev_ne {a : Act} {d k : Nat} {v : Value} (h : d ≠ k) : (a.put (some d) v).eval (.tmp k) = a.eval (.tmp k) := by
  simp [Act.put, Act.eval, h]
theorem sz_put {a : Act} {d : Option Nat} {v : Value} : (a.put d v).tmps.size = a.tmps.size := by cases d <;> simp [Act.put]
end
section
variable {P : Program} {ρ : Operand → Value} {o : Oper} {w w' : World}
theorem ex_load22 {x : Operand} {ad : Addr} {v : Value} (h : o.op = .load 22 x) (hx : ρ x = .pointer (some ad)) (hc : w.cell? ad = some v) : (execOp ρ o).run Try.prog w = .ok (.value v) w := by
  have hu := Try.underlying22
  simp [go_sem, h, hx, hc, hu]
theorem ex_load25 {x : Operand} {ad : Addr} {v : Value} (h : o.op = .load 25 x) (hx : ρ x = .pointer (some ad)) (hc : w.cell? ad = some v) : (execOp ρ o).run Try.prog w = .ok (.value v) w := by
  have hu := Try.underlying25
  simp [go_sem, h, hx, hc, hu]
theorem ex_move {x : Operand} (h : o.op = .move x) : (execOp ρ o).run P w = .ok (.value (ρ x)) w := by
  simp [go_sem, h]
theorem ex_index {x y : Operand} {g n c i : Nat} (h : o.op = .indexAddr 22 x y) (hx : ρ x = .slice (some ⟨g, 0, none⟩) n c) (hy : ρ y = .int .i64 (i : Int)) (hi : i < n) : (execOp ρ o).run Try.prog w = .ok (.value (.pointer (some ⟨g, i, none⟩))) w := by
  have hu := Try.underlying22
  have h1 : (0 : Int) ≤ (i : Int) := by omega
  have h2 : (i : Int) < (n : Int) := by omega
  simp [go_sem, h, hx, hy, hu, hi, h1, h2]
theorem ex_build {x : Operand} {f : Int} (h : o.op = .buildSlice 25 1 #[(0, x)]) (hx : ρ x = .int .i64 f) : (execOp ρ o).run Try.prog w = .ok (.value (.slice (some ⟨w.heap.size, 0, none⟩) 1 1)) (w.alloc (.cells #[.int .i64 f] 3)) := by
  have hu := Try.underlying25
  simp [go_sem, h, hx, hu]
theorem ex_append {x y : Operand} {s t v : Value} (h : o.op = .call { callee := .builtin .append, args := #[x, y], argTypes := #[25, 25] }) (ht : o.type = 25) (hx : ρ x = s) (hy : ρ y = t) (hr : (Builtin.append_ #[25, 25] 25 #[s, t]).run P w = .ok v w') : (execOp ρ o).run P w = .ok (.value v) w' := by
  simp [execOp, resolve, invoke, builtin, h, ht, hx, hy, hr]
theorem ex_store {x y : Operand} {ad : Addr} {u : Value} {A : Option Addr} {m c : Nat} (h : o.op = .store 25 x y) (hx : ρ x = .pointer (some ad)) (hy : ρ y = .slice A m c) (hc : w.cell? ad = some u) (hf : w.frozen? ad = false) : (execOp ρ o).run Try.prog w = .ok .skip (w.setCell ad (.slice A m c)) := by
  have hu := Try.underlying25
  simp [go_sem, h, hx, hy, hc, hf, hu]
end
end Go.Proofs.Ytikdcoahoocpjaa.Q
