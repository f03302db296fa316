/-
  The contract of slices.Clone at []uint64: the result is a row of the call's own with the same elements (nil of nil); and of the two functions that And and Or hand on. Condition: fewer than 1000000 elements.
-/
import Derived.Test.YtinhjcoikhpblaaDoorQ0
import Derived.Lib.SliceRun
namespace Go.Proofs.YtinhjcoikhpblaaDoor.Q
open Go.RowKit Go.Proofs.YtinhjcoikhpblaaDoorW.PrintWords Go.Proofs.YtinhjcoikhpblaaDoorW.PrintLast Go.Proofs.YtinhjcoikhpblaaDoorW.PrintMore
set_option linter.unusedVariables false
set_option linter.unusedSimpArgs false

def slices_Clone_uint64_uint64.f (l0 : List Int) : Option (List Int) := if l0.length < 1000000 then some l0 else none
set_option maxHeartbeats 800000 in
set_option maxRecDepth 100000 in
theorem slices_Clone_uint64_uint64.calls (A0 : Option Addr) (c0 : Nat) (l0 : List Int) (r : List Int) (w : World) (hr0 : Kd.C (Kd.int .u64) w A0 l0.length l0) (hc0 : l0.length ≤ c0) (h : slices_Clone_uint64_uint64.f l0 = some r) :
    Calls Tryd.prog 38 #[.slice A0 l0.length c0] w fun e w' => ∃ v0_ : Value, e = .returned (v0_) ∧ Kd.R (Kd.int .u64) 42 w' w.heap.size (fun _ => True) v0_ r ∧ Below w.heap.size w w' := by
  unfold slices_Clone_uint64_uint64.f at h
  split at h
  · rename_i hl
    obtain rfl := Option.some.inj h
    have LM := Aside0.mk hl
    have HR0 := Aside0.mk hr0
    have HC0 := Aside0.mk hc0
    clear hr0 hc0 hl h
    have HB := Aside0.mk (Below.refl w.heap.size w)
    cases A0 with
    | none =>
      have h0 : l0 = [] := by
        cases l0 with
        | nil => rfl
        | cons x xs =>
          obtain ⟨ad, e, _⟩ := HR0.out.2.2 (by simp)
          cases e
      subst h0
      have hnil := fun (W : World) => Lib.run_eql_slice_nil (P := Tryd.prog) W 22 42 none 0 c0 0 0 Tryd.underlying22
      go_enter Tryd.func38, Tryd.ntmps38
      go_wp2
      go_ret
      exact ⟨_, rfl, Kd.R_nil _ _ _ _ _, HB.out⟩
    | some ad =>
      have hnil := fun (W : World) => Lib.run_eql_slice_nil (P := Tryd.prog) W 22 42 (some ad) l0.length c0 0 0 Tryd.underlying22
      go_enter Tryd.func38, Tryd.ntmps38
      go_wp2_with (first | ((with_reducible refine gate_dst (N := 5) rfl ?_); refine Kd.R_lit (Kd.int .u64) _ 42 ?hg (N := 5) ?hd (xs := ([] : List Int)) (inner := []) (ok := fun _ => True) (okp := fun _ => True) ?hr ?hp (fun _ hk => hk) trivial (Below.refl _ _) (Nat.le_refl _) (by simp) ?_; (case hd => rfl); (case hg => rfl); (case hr => first | (go_simp; done) | (go_simp; rfl)); (case hp => exact (Reps.none _ _)); intro v1 w1 ho1 hb hg_ hnew_; clear hg_ hnew_; have HO1 := Aside0.mk ho1; clear HB; have HB := Aside0.mk hb; clear ho1 hb) | ((with_reducible refine gate_builtin (b := .append) (xs := #[.tmp 5, .tmp 6]) rfl ?_); at_builtin; refine Kd.R_append_rows (Kd.int .u64) (w0 := w) w.heap.size rfl (.tmp 5) (.tmp 6) 22 42 (.int .u64 0) 8 rfl Tryd.underlying22 info42 rfl (by decide) (by omega) v1 [] l0 _ _ _ (fun _ => True) (fun _ => False) rfl rfl ?aO ?aR (fun _ _ h => h) (fun _ h => h.elim) ?aF ?aB ?aS ?aL ?_; (case aR => repeat (first | exact (Kd.C_below HR0.out HB.out) | (with_reducible refine Kd.C_alloc ?_ _) | (with_reducible refine Kd.C_drewN ?_ _) | (with_reducible refine Kd.C_drew ?_))); (case aB => exact HB.out); (case aF => exact (fun _ _ => trivial)); (case aO => exact HO1.out); (case aS => exact HB.out.size); (case aL => have := LM.out; simp; omega); intro v2 w2 ho hb hg hat; have HO2 := Aside0.mk ho; clear HB; have HB := Aside0.mk hb; clear ho hb hg hat))
      go_ret
      exact ⟨_, rfl, HO2.out, HB.out⟩
  · cases h
/-- A call of a function value that a temporary holds (after the print's 'goes_'). -/
theorem goesV_ {P : Program} {ops : Array Oper} {Q : Exit → Act → World → Prop} {oi : Oper} {N : Option Tmp} {a : Act} {w : World} {K : Act → World → Prop} (x : Operand) {f : FuncId} {fn : Func} {xs : Array Operand} {ts : Array TypeId} (hf : P.funcs[f]? = some fn) (hname : (fn.name == "runtime.NumGoroutine") = false) (hb : fn.body.isSome = true) (args : Array Value)
    (hw : Region.wanted oi (yielded ops a.tmps) = true) (hN : oi.dst = N) (hop : oi.op = .call { callee := .value x, args := xs, argTypes := ts }) (hx : a.eval x = .func (.func f) #[] #[]) (hargs : xs.map a.eval = args)
    (h : Calls P f args w fun e w' => ∃ v, e = .returned v ∧ K (a.put N v) w') : if Region.wanted oi (yielded ops a.tmps) = true then Oper.wp P oi a w K Q else K (a.put N undef) w := by
  refine call_ f args hw hN ?_ h
  have he := enters_ hf hname hb args w
  unfold execOp
  simp [hop, resolve, Deferred.ofValue, invoke, hx, hargs, he]
/-- The two functions that combine words: at true the conjunction, at false the disjunction. -/
def comb.f (b : Bool) (x y : Int) : Option Int := some (if b = true then Go.bits .and .u64 x y else Go.bits .or .u64 x y)
theorem comb.calls44 (x y r : Int) (w : World) (h : comb.f true x y = some r) :
    Calls Tryd.prog 44 #[.int .u64 x, .int .u64 y] w fun e w' => e = .returned (.int .u64 r) ∧ ∃ nd, w' = w.drewN nd := by
  obtain rfl := Option.some.inj h
  go_enter Tryd.func44, Tryd.ntmps44
  go_wp2
  go_ret
  exact ⟨rfl, 0, rfl⟩
theorem comb.calls46 (x y r : Int) (w : World) (h : comb.f false x y = some r) :
    Calls Tryd.prog 46 #[.int .u64 x, .int .u64 y] w fun e w' => e = .returned (.int .u64 r) ∧ ∃ nd, w' = w.drewN nd := by
  obtain rfl := Option.some.inj h
  go_enter Tryd.func46, Tryd.ntmps46
  go_wp2
  go_ret
  exact ⟨rfl, 0, rfl⟩
/-- A function that combines words as comb.f does. -/
structure CombFn (b : Bool) (g : Nat) : Prop where
  out : ∃ fn, Tryd.prog.funcs[g]? = some fn ∧ (fn.name == "runtime.NumGoroutine") = false ∧ fn.body.isSome = true
  calls : ∀ (x y r : Int) (w : World), comb.f b x y = some r → Calls Tryd.prog g #[.int .u64 x, .int .u64 y] w fun e w' => e = .returned (.int .u64 r) ∧ ∃ nd, w' = w.drewN nd
theorem comb44 : CombFn true 44 := ⟨⟨_, Tryd.func44, by kernel_rfl, rfl⟩, comb.calls44⟩
theorem comb46 : CombFn false 46 := ⟨⟨_, Tryd.func46, by kernel_rfl, rfl⟩, comb.calls46⟩
theorem goesF_ {ops : Array Oper} {Q : Exit → Act → World → Prop} {oi : Oper} {N : Option Tmp} {a : Act} {w : World} {K : Act → World → Prop} (x : Operand) {b : Bool} {g : Nat} {xs : Array Operand} {ts : Array TypeId} (HG : CombFn b g) (args : Array Value)
    (hw : Region.wanted oi (yielded ops a.tmps) = true) (hN : oi.dst = N) (hop : oi.op = .call { callee := .value x, args := xs, argTypes := ts }) (hx : a.eval x = .func (.func g) #[] #[]) (hargs : xs.map a.eval = args)
    (h : Calls Tryd.prog g args w fun e w' => ∃ v, e = .returned v ∧ K (a.put N v) w') : if Region.wanted oi (yielded ops a.tmps) = true then Oper.wp Tryd.prog oi a w K Q else K (a.put N undef) w := by
  obtain ⟨fn, h1, h2, h3⟩ := HG.out
  exact goesV_ x h1 h2 h3 args hw hN hop hx hargs h
end Go.Proofs.YtinhjcoikhpblaaDoor.Q
