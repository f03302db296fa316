/-
  What single operations come to; a law for a region whose operations may come up in any order, within a round, by an invariant over what is listed; the drawn region of Age's loop ('r[to] = append(r[to], f)', r in a box); an int appended to an element of an own row of rows.
-/
import Derived.Test.YtikdcoahoocpjaaEAll
import Derived.Test.YtikdcoahoocpjaaQ0
namespace Go.Proofs.Ytikdcoahoocpjaa.Q
open Go.RowKit Go.Shelf Go.Proofs.YtikdcoahoocpjaaW.PrintWords Go.Proofs.YtikdcoahoocpjaaW.PrintLast Go.Proofs.YtikdcoahoocpjaaW.PrintMore
set_option linter.unusedVariables false
set_option linter.unusedSimpArgs false
section
variable {F : Fence} {n : Nat} {P : Program} {ops : Array Oper} {Q : Exit → Act → World → Prop} {md : Region.Mode}
def openN (listed : Array Bool) : Nat := (listed.toList.filter (fun b => !b)).length
theorem filt_set : ∀ (l : List Bool) (i : Nat), l[i]?.getD true = false → (l.filter (fun b => !b)).length = ((l.set i true).filter (fun b => !b)).length + 1
  | [], i, h => by simp at h
  | x :: xs, 0, h => by simp at h; subst h; simp
  | x :: xs, i + 1, h => by
    rw [List.getElem?_cons_succ] at h
    have := filt_set xs i h
    rw [List.set_cons_succ, List.filter_cons, List.filter_cons]
    cases x
    · simp only [Bool.not_false, if_true, List.length_cons]; omega
    · simp only [Bool.not_true, Bool.false_eq_true, if_false]; omega
theorem openN_set (listed : Array Bool) (i : Nat) (h : listed.getD i true = false) : openN listed = openN (listed.setIfInBounds i true) + 1 := by
  unfold openN
  rw [Array.toList_setIfInBounds]
  exact filt_set _ _ (by rw [Array.getElem?_toList, ← Array.getD_eq_getD_getElem?]; exact h)
theorem openN_zero (listed : Array Bool) (h : openN listed = 0) (i : Nat) : listed.getD i true = true := by
  unfold openN at h
  rw [List.length_eq_zero_iff, List.filter_eq_nil_iff] at h
  rw [Array.getD_eq_getD_getElem?]
  cases e : listed[i]? with
  | none => rfl
  | some b =>
    have := h b (by
      have := Array.mem_of_getElem? e
      simpa using this)
    simpa using this
theorem wpAnyIn_inv (I : Array Bool → Act → World → Prop)
    (hstep : ∀ listed a w i, I listed a w → i ∈ Region.ready md ops listed → wpOpIn F n P ops Q i (I (listed.setIfInBounds i true)) a w)
    (hdone : ∀ listed a w, I listed a w → Region.ready md ops listed = [] → Q .normal a w) :
    ∀ (fuel : Nat) (listed : Array Bool) (a : Act) (w : World), openN listed = fuel → I listed a w → wpAnyIn F n P md ops Q fuel listed a w
  | 0, listed, a, w, hm, hI => by
    have hr : Region.ready md ops listed = [] := by
      unfold Region.ready
      rw [List.filter_eq_nil_iff]
      intro i hi
      rw [openN_zero listed hm i]
      simp
    exact ⟨hr, hdone _ _ _ hI hr⟩
  | fuel + 1, listed, a, w, hm, hI => by
    refine ⟨hdone _ _ _ hI, fun i hi => wpOpIn_mono (fun a' w' hI' => ?_) (hstep _ _ _ _ hI hi)⟩
    refine wpAnyIn_inv I hstep hdone fuel _ a' w' ?_ hI'
    have h1 : listed.getD i true = false := by
      unfold Region.ready at hi
      have := (List.mem_filter.1 hi).2
      simp only [Bool.and_eq_true, Bool.not_eq_true'] at this
      exact this.1
    have := openN_set listed i h1
    omega
/-- One operation that yields a value. -/
theorem wpOpIn_val {i : Nat} {o : Oper} {a : Act} {w w' : World} {v : Value} {K : Act → World → Prop} (hF : ∀ f, F.fn f) (hi : ops[i]? = some o) (hg : o.guard = none) (hnd : ∀ c, o.op ≠ .defer c)
    (hrun : (execOp a.eval o).run P w = .ok (.value v) w') (hK : K (a.put o.dst v) w') : wpOpIn F n P ops Q i K a w := by
  unfold wpOpIn
  simp only [hi, Region.wanted, hg, if_true]
  refine ⟨fun f _ => hF f, ?_⟩
  rw [Oper.semAt_eq _ _ _ hnd, hrun]
  exact hK
theorem wpOpIn_skip {i : Nat} {o : Oper} {a : Act} {w w' : World} {K : Act → World → Prop} (hF : ∀ f, F.fn f) (hi : ops[i]? = some o) (hg : o.guard = none) (hnd : ∀ c, o.op ≠ .defer c)
    (hrun : (execOp a.eval o).run P w = .ok .skip w') (hK : K (a.put o.dst undef) w') : wpOpIn F n P ops Q i K a w := by
  unfold wpOpIn
  simp only [hi, Region.wanted, hg, if_true]
  refine ⟨fun f _ => hF f, ?_⟩
  rw [Oper.semAt_eq _ _ _ hnd, hrun]
  exact hK
theorem ev_same {a : Act} {d : Nat} {v : Value} (h : d < a.tmps.size) : (a.put (some d) v).eval (.tmp d) = v := by simp [Act.put, Act.eval, h]
theorem ev_ne {a : Act} {d k : Nat} {v : Value} (h : d ≠ k) : (a.put (some d) v).eval (.tmp k) = a.eval (.tmp k) := by
  simp [Act.put, Act.eval, h]
theorem sz_put {a : Act} {d : Option Nat} {v : Value} : (a.put d v).tmps.size = a.tmps.size := by cases d <;> simp [Act.put]
end
section
variable {P : Program} {ρ : Operand → Value} {o : Oper} {w w' : World}
theorem ex_load22 {x : Operand} {ad : Addr} {v : Value} (h : o.op = .load 22 x) (hx : ρ x = .pointer (some ad)) (hc : w.cell? ad = some v) : (execOp ρ o).run Try.prog w = .ok (.value v) w := by
  have hu := Try.underlying22
  simp [go_sem, h, hx, hc, hu]
theorem ex_load25 {x : Operand} {ad : Addr} {v : Value} (h : o.op = .load 25 x) (hx : ρ x = .pointer (some ad)) (hc : w.cell? ad = some v) : (execOp ρ o).run Try.prog w = .ok (.value v) w := by
  have hu := Try.underlying25
  simp [go_sem, h, hx, hc, hu]
theorem ex_move {x : Operand} (h : o.op = .move x) : (execOp ρ o).run P w = .ok (.value (ρ x)) w := by
  simp [go_sem, h]
theorem ex_index {x y : Operand} {g n c i : Nat} (h : o.op = .indexAddr 22 x y) (hx : ρ x = .slice (some ⟨g, 0, none⟩) n c) (hy : ρ y = .int .i64 (i : Int)) (hi : i < n) : (execOp ρ o).run Try.prog w = .ok (.value (.pointer (some ⟨g, i, none⟩))) w := by
  have hu := Try.underlying22
  have h1 : (0 : Int) ≤ (i : Int) := by omega
  have h2 : (i : Int) < (n : Int) := by omega
  simp [go_sem, h, hx, hy, hu, hi, h1, h2]
theorem ex_build {x : Operand} {f : Int} (h : o.op = .buildSlice 25 1 #[(0, x)]) (hx : ρ x = .int .i64 f) : (execOp ρ o).run Try.prog w = .ok (.value (.slice (some ⟨w.heap.size, 0, none⟩) 1 1)) (w.alloc (.cells #[.int .i64 f] 3)) := by
  have hu := Try.underlying25
  simp [go_sem, h, hx, hu]
theorem ex_append {x y : Operand} {s t v : Value} (h : o.op = .call { callee := .builtin .append, args := #[x, y], argTypes := #[25, 25] }) (ht : o.type = 25) (hx : ρ x = s) (hy : ρ y = t) (hr : (Builtin.append_ #[25, 25] 25 #[s, t]).run P w = .ok v w') : (execOp ρ o).run P w = .ok (.value v) w' := by
  simp [execOp, resolve, invoke, builtin, h, ht, hx, hy, hr]
theorem ex_store {x y : Operand} {ad : Addr} {u : Value} {A : Option Addr} {m c : Nat} (h : o.op = .store 25 x y) (hx : ρ x = .pointer (some ad)) (hy : ρ y = .slice A m c) (hc : w.cell? ad = some u) (hf : w.frozen? ad = false) : (execOp ρ o).run Try.prog w = .ok .skip (w.setCell ad (.slice A m c)) := by
  have hu := Try.underlying25
  simp [go_sem, h, hx, hy, hc, hf, hu]
end
end Go.Proofs.Ytikdcoahoocpjaa.Q
namespace Go.Proofs.Ytikdcoahoocpjaa.Q
open Go.RowKit Go.Shelf Go.Proofs.YtikdcoahoocpjaaW.PrintWords Go.Proofs.YtikdcoahoocpjaaW.PrintLast Go.Proofs.YtikdcoahoocpjaaW.PrintMore
set_option linter.unusedVariables false
set_option linter.unusedSimpArgs false
theorem gd_ne {L : Array Bool} {i j : Nat} (h : i ≠ j) : (L.setIfInBounds i true).getD j false = L.getD j false := by
  simp [Array.getD_eq_getD_getElem?, Array.getElem?_setIfInBounds, h]
theorem gd_same {L : Array Bool} {i : Nat} (h : i < L.size) : (L.setIfInBounds i true).getD i false = true := by
  simp [Array.getD_eq_getD_getElem?, Array.getElem?_setIfInBounds, h]
theorem ready_mem {md : Region.Mode} {ops : Array Oper} {L : Array Bool} {i : Nat} (h : i ∈ Region.ready md ops L) : ∃ o, ops[i]? = some o ∧ L.getD i true = false ∧ ∀ e ∈ o.after, Region.binds md e = true → L.getD e.on false = true := by
  unfold Region.ready at h
  obtain ⟨h1, h2⟩ := List.mem_filter.1 h
  simp only [Bool.and_eq_true, Bool.not_eq_true'] at h2
  obtain ⟨h2, h3⟩ := h2
  cases ho : ops[i]? with
  | none => rw [ho] at h3; simp at h3
  | some o =>
    rw [ho] at h3
    refine ⟨o, rfl, h2, fun e he hb => ?_⟩
    simp only [Option.map_some, Option.getD_some, Array.all_eq_true'] at h3
    have := h3 e he
    simp only [hb, Bool.not_true, Bool.false_or] at this
    exact this
theorem gd_open {L : Array Bool} {i : Nat} (h : L.getD i true = false) : L.getD i false = false := by
  rw [Array.getD_eq_getD_getElem?] at h ⊢
  cases e : L[i]? with
  | none => rfl
  | some b => rw [e] at h; exact h

/-- What stands when the operations L have come up. -/
structure RP (bx : Addr) (go co tt nn len c c2 : Nat) (f : Int) (A A2 : Option Addr) (W w1 wf : World) (L : Array Bool) (a : Act) (w : World) : Prop where
  sz : L.size = 11
  tz : 66 ≤ a.tmps.size
  k13 : a.eval (.tmp 13) = .pointer (some bx)
  k15 : a.eval (.tmp 15) = .int .i64 f
  k16 : a.eval (.tmp 16) = .int .i64 (tt : Int)
  v0 : L.getD 0 false = true → a.eval (.tmp 56) = .slice (some ⟨go, 0, none⟩) nn co
  v1 : L.getD 1 false = true → a.eval (.tmp 57) = .int .i64 (tt : Int)
  v2 : L.getD 2 false = true → a.eval (.tmp 58) = .slice (some ⟨go, 0, none⟩) nn co
  v3 : L.getD 3 false = true → a.eval (.tmp 59) = .int .i64 (tt : Int)
  v4 : L.getD 4 false = true → a.eval (.tmp 60) = .pointer (some ⟨go, tt, none⟩)
  v5 : L.getD 5 false = true → a.eval (.tmp 61) = .slice A len c
  v6 : L.getD 6 false = true → a.eval (.tmp 62) = .int .i64 f
  v7 : L.getD 7 false = true → a.eval (.tmp 63) = .slice (some ⟨W.heap.size, 0, none⟩) 1 1
  v8 : L.getD 8 false = true → a.eval (.tmp 64) = .slice A2 (len + 1) c2
  v9 : L.getD 9 false = true → a.eval (.tmp 65) = .pointer (some ⟨go, tt, none⟩)
  c8 : L.getD 8 false = true → L.getD 5 false = true ∧ L.getD 7 false = true
  c10 : L.getD 10 false = true → ∀ j, j < 10 → L.getD j false = true
  ww : w = if L.getD 10 false = true then wf else if L.getD 8 false = true then w1 else if L.getD 7 false = true then W.alloc (.cells #[.int .i64 f] 3) else W
theorem RP.world {bx : Addr} {go co tt nn len c c2 : Nat} {f : Int} {A A2 : Option Addr} {W w1 wf : World} {L : Array Bool} {a : Act} {w : World} (H : RP bx go co tt nn len c c2 f A A2 W w1 wf L a w) {j : Nat} (hj : j < 10) (h : L.getD j false = false) : L.getD 10 false = false := by
  cases e : L.getD 10 false with
  | false => rfl
  | true => have := H.c10 e j hj; rw [h] at this; cases this
theorem RP.put0 {bx : Addr} {go co tt nn len c c2 : Nat} {f : Int} {A A2 : Option Addr} {W w1 wf : World} {L : Array Bool} {a : Act} {w w' : World} (H : RP bx go co tt nn len c c2 f A A2 W w1 wf L a w) (ho : L.getD 0 false = false) (hw : w' = w) : RP bx go co tt nn len c c2 f A A2 W w1 wf (L.setIfInBounds 0 true) (a.put (some 56) (.slice (some ⟨go, 0, none⟩) nn co)) w' := by
  have h10 := H.world (j := 0) (by omega) ho
  have hz := H.sz
  have ht := H.tz
  refine ⟨by simp [hz], by rw [sz_put]; exact ht, (ev_ne (by decide)).trans H.k13, (ev_ne (by decide)).trans H.k15, (ev_ne (by decide)).trans H.k16, fun _ => ev_same (by omega), fun h => (ev_ne (by decide)).trans (H.v1 (by rw [gd_ne (by decide)] at h; exact h)), fun h => (ev_ne (by decide)).trans (H.v2 (by rw [gd_ne (by decide)] at h; exact h)), fun h => (ev_ne (by decide)).trans (H.v3 (by rw [gd_ne (by decide)] at h; exact h)), fun h => (ev_ne (by decide)).trans (H.v4 (by rw [gd_ne (by decide)] at h; exact h)), fun h => (ev_ne (by decide)).trans (H.v5 (by rw [gd_ne (by decide)] at h; exact h)), fun h => (ev_ne (by decide)).trans (H.v6 (by rw [gd_ne (by decide)] at h; exact h)), fun h => (ev_ne (by decide)).trans (H.v7 (by rw [gd_ne (by decide)] at h; exact h)), fun h => (ev_ne (by decide)).trans (H.v8 (by rw [gd_ne (by decide)] at h; exact h)), fun h => (ev_ne (by decide)).trans (H.v9 (by rw [gd_ne (by decide)] at h; exact h)), ?_, ?_, ?_⟩
  · intro h; rw [gd_ne (by decide)] at h; obtain ⟨e1, e2⟩ := H.c8 h
    refine ⟨?_, ?_⟩ <;> first | exact gd_same (by omega) | (rw [gd_ne (by decide)]; assumption)
  · intro h; rw [gd_ne (by decide), h10] at h; cases h
  · rw [gd_ne (by decide), gd_ne (by decide), gd_ne (by decide), hw]; exact H.ww
theorem RP.put1 {bx : Addr} {go co tt nn len c c2 : Nat} {f : Int} {A A2 : Option Addr} {W w1 wf : World} {L : Array Bool} {a : Act} {w w' : World} (H : RP bx go co tt nn len c c2 f A A2 W w1 wf L a w) (ho : L.getD 1 false = false) (hw : w' = w) : RP bx go co tt nn len c c2 f A A2 W w1 wf (L.setIfInBounds 1 true) (a.put (some 57) (.int .i64 (tt : Int))) w' := by
  have h10 := H.world (j := 1) (by omega) ho
  have hz := H.sz
  have ht := H.tz
  refine ⟨by simp [hz], by rw [sz_put]; exact ht, (ev_ne (by decide)).trans H.k13, (ev_ne (by decide)).trans H.k15, (ev_ne (by decide)).trans H.k16, fun h => (ev_ne (by decide)).trans (H.v0 (by rw [gd_ne (by decide)] at h; exact h)), fun _ => ev_same (by omega), fun h => (ev_ne (by decide)).trans (H.v2 (by rw [gd_ne (by decide)] at h; exact h)), fun h => (ev_ne (by decide)).trans (H.v3 (by rw [gd_ne (by decide)] at h; exact h)), fun h => (ev_ne (by decide)).trans (H.v4 (by rw [gd_ne (by decide)] at h; exact h)), fun h => (ev_ne (by decide)).trans (H.v5 (by rw [gd_ne (by decide)] at h; exact h)), fun h => (ev_ne (by decide)).trans (H.v6 (by rw [gd_ne (by decide)] at h; exact h)), fun h => (ev_ne (by decide)).trans (H.v7 (by rw [gd_ne (by decide)] at h; exact h)), fun h => (ev_ne (by decide)).trans (H.v8 (by rw [gd_ne (by decide)] at h; exact h)), fun h => (ev_ne (by decide)).trans (H.v9 (by rw [gd_ne (by decide)] at h; exact h)), ?_, ?_, ?_⟩
  · intro h; rw [gd_ne (by decide)] at h; obtain ⟨e1, e2⟩ := H.c8 h
    refine ⟨?_, ?_⟩ <;> first | exact gd_same (by omega) | (rw [gd_ne (by decide)]; assumption)
  · intro h; rw [gd_ne (by decide), h10] at h; cases h
  · rw [gd_ne (by decide), gd_ne (by decide), gd_ne (by decide), hw]; exact H.ww
theorem RP.put2 {bx : Addr} {go co tt nn len c c2 : Nat} {f : Int} {A A2 : Option Addr} {W w1 wf : World} {L : Array Bool} {a : Act} {w w' : World} (H : RP bx go co tt nn len c c2 f A A2 W w1 wf L a w) (ho : L.getD 2 false = false) (hw : w' = w) : RP bx go co tt nn len c c2 f A A2 W w1 wf (L.setIfInBounds 2 true) (a.put (some 58) (.slice (some ⟨go, 0, none⟩) nn co)) w' := by
  have h10 := H.world (j := 2) (by omega) ho
  have hz := H.sz
  have ht := H.tz
  refine ⟨by simp [hz], by rw [sz_put]; exact ht, (ev_ne (by decide)).trans H.k13, (ev_ne (by decide)).trans H.k15, (ev_ne (by decide)).trans H.k16, fun h => (ev_ne (by decide)).trans (H.v0 (by rw [gd_ne (by decide)] at h; exact h)), fun h => (ev_ne (by decide)).trans (H.v1 (by rw [gd_ne (by decide)] at h; exact h)), fun _ => ev_same (by omega), fun h => (ev_ne (by decide)).trans (H.v3 (by rw [gd_ne (by decide)] at h; exact h)), fun h => (ev_ne (by decide)).trans (H.v4 (by rw [gd_ne (by decide)] at h; exact h)), fun h => (ev_ne (by decide)).trans (H.v5 (by rw [gd_ne (by decide)] at h; exact h)), fun h => (ev_ne (by decide)).trans (H.v6 (by rw [gd_ne (by decide)] at h; exact h)), fun h => (ev_ne (by decide)).trans (H.v7 (by rw [gd_ne (by decide)] at h; exact h)), fun h => (ev_ne (by decide)).trans (H.v8 (by rw [gd_ne (by decide)] at h; exact h)), fun h => (ev_ne (by decide)).trans (H.v9 (by rw [gd_ne (by decide)] at h; exact h)), ?_, ?_, ?_⟩
  · intro h; rw [gd_ne (by decide)] at h; obtain ⟨e1, e2⟩ := H.c8 h
    refine ⟨?_, ?_⟩ <;> first | exact gd_same (by omega) | (rw [gd_ne (by decide)]; assumption)
  · intro h; rw [gd_ne (by decide), h10] at h; cases h
  · rw [gd_ne (by decide), gd_ne (by decide), gd_ne (by decide), hw]; exact H.ww
theorem RP.put3 {bx : Addr} {go co tt nn len c c2 : Nat} {f : Int} {A A2 : Option Addr} {W w1 wf : World} {L : Array Bool} {a : Act} {w w' : World} (H : RP bx go co tt nn len c c2 f A A2 W w1 wf L a w) (ho : L.getD 3 false = false) (hw : w' = w) : RP bx go co tt nn len c c2 f A A2 W w1 wf (L.setIfInBounds 3 true) (a.put (some 59) (.int .i64 (tt : Int))) w' := by
  have h10 := H.world (j := 3) (by omega) ho
  have hz := H.sz
  have ht := H.tz
  refine ⟨by simp [hz], by rw [sz_put]; exact ht, (ev_ne (by decide)).trans H.k13, (ev_ne (by decide)).trans H.k15, (ev_ne (by decide)).trans H.k16, fun h => (ev_ne (by decide)).trans (H.v0 (by rw [gd_ne (by decide)] at h; exact h)), fun h => (ev_ne (by decide)).trans (H.v1 (by rw [gd_ne (by decide)] at h; exact h)), fun h => (ev_ne (by decide)).trans (H.v2 (by rw [gd_ne (by decide)] at h; exact h)), fun _ => ev_same (by omega), fun h => (ev_ne (by decide)).trans (H.v4 (by rw [gd_ne (by decide)] at h; exact h)), fun h => (ev_ne (by decide)).trans (H.v5 (by rw [gd_ne (by decide)] at h; exact h)), fun h => (ev_ne (by decide)).trans (H.v6 (by rw [gd_ne (by decide)] at h; exact h)), fun h => (ev_ne (by decide)).trans (H.v7 (by rw [gd_ne (by decide)] at h; exact h)), fun h => (ev_ne (by decide)).trans (H.v8 (by rw [gd_ne (by decide)] at h; exact h)), fun h => (ev_ne (by decide)).trans (H.v9 (by rw [gd_ne (by decide)] at h; exact h)), ?_, ?_, ?_⟩
  · intro h; rw [gd_ne (by decide)] at h; obtain ⟨e1, e2⟩ := H.c8 h
    refine ⟨?_, ?_⟩ <;> first | exact gd_same (by omega) | (rw [gd_ne (by decide)]; assumption)
  · intro h; rw [gd_ne (by decide), h10] at h; cases h
  · rw [gd_ne (by decide), gd_ne (by decide), gd_ne (by decide), hw]; exact H.ww
theorem RP.put4 {bx : Addr} {go co tt nn len c c2 : Nat} {f : Int} {A A2 : Option Addr} {W w1 wf : World} {L : Array Bool} {a : Act} {w w' : World} (H : RP bx go co tt nn len c c2 f A A2 W w1 wf L a w) (ho : L.getD 4 false = false) (hw : w' = w) : RP bx go co tt nn len c c2 f A A2 W w1 wf (L.setIfInBounds 4 true) (a.put (some 60) (.pointer (some ⟨go, tt, none⟩))) w' := by
  have h10 := H.world (j := 4) (by omega) ho
  have hz := H.sz
  have ht := H.tz
  refine ⟨by simp [hz], by rw [sz_put]; exact ht, (ev_ne (by decide)).trans H.k13, (ev_ne (by decide)).trans H.k15, (ev_ne (by decide)).trans H.k16, fun h => (ev_ne (by decide)).trans (H.v0 (by rw [gd_ne (by decide)] at h; exact h)), fun h => (ev_ne (by decide)).trans (H.v1 (by rw [gd_ne (by decide)] at h; exact h)), fun h => (ev_ne (by decide)).trans (H.v2 (by rw [gd_ne (by decide)] at h; exact h)), fun h => (ev_ne (by decide)).trans (H.v3 (by rw [gd_ne (by decide)] at h; exact h)), fun _ => ev_same (by omega), fun h => (ev_ne (by decide)).trans (H.v5 (by rw [gd_ne (by decide)] at h; exact h)), fun h => (ev_ne (by decide)).trans (H.v6 (by rw [gd_ne (by decide)] at h; exact h)), fun h => (ev_ne (by decide)).trans (H.v7 (by rw [gd_ne (by decide)] at h; exact h)), fun h => (ev_ne (by decide)).trans (H.v8 (by rw [gd_ne (by decide)] at h; exact h)), fun h => (ev_ne (by decide)).trans (H.v9 (by rw [gd_ne (by decide)] at h; exact h)), ?_, ?_, ?_⟩
  · intro h; rw [gd_ne (by decide)] at h; obtain ⟨e1, e2⟩ := H.c8 h
    refine ⟨?_, ?_⟩ <;> first | exact gd_same (by omega) | (rw [gd_ne (by decide)]; assumption)
  · intro h; rw [gd_ne (by decide), h10] at h; cases h
  · rw [gd_ne (by decide), gd_ne (by decide), gd_ne (by decide), hw]; exact H.ww
theorem RP.put5 {bx : Addr} {go co tt nn len c c2 : Nat} {f : Int} {A A2 : Option Addr} {W w1 wf : World} {L : Array Bool} {a : Act} {w w' : World} (H : RP bx go co tt nn len c c2 f A A2 W w1 wf L a w) (ho : L.getD 5 false = false) (hw : w' = w) : RP bx go co tt nn len c c2 f A A2 W w1 wf (L.setIfInBounds 5 true) (a.put (some 61) (.slice A len c)) w' := by
  have h10 := H.world (j := 5) (by omega) ho
  have hz := H.sz
  have ht := H.tz
  refine ⟨by simp [hz], by rw [sz_put]; exact ht, (ev_ne (by decide)).trans H.k13, (ev_ne (by decide)).trans H.k15, (ev_ne (by decide)).trans H.k16, fun h => (ev_ne (by decide)).trans (H.v0 (by rw [gd_ne (by decide)] at h; exact h)), fun h => (ev_ne (by decide)).trans (H.v1 (by rw [gd_ne (by decide)] at h; exact h)), fun h => (ev_ne (by decide)).trans (H.v2 (by rw [gd_ne (by decide)] at h; exact h)), fun h => (ev_ne (by decide)).trans (H.v3 (by rw [gd_ne (by decide)] at h; exact h)), fun h => (ev_ne (by decide)).trans (H.v4 (by rw [gd_ne (by decide)] at h; exact h)), fun _ => ev_same (by omega), fun h => (ev_ne (by decide)).trans (H.v6 (by rw [gd_ne (by decide)] at h; exact h)), fun h => (ev_ne (by decide)).trans (H.v7 (by rw [gd_ne (by decide)] at h; exact h)), fun h => (ev_ne (by decide)).trans (H.v8 (by rw [gd_ne (by decide)] at h; exact h)), fun h => (ev_ne (by decide)).trans (H.v9 (by rw [gd_ne (by decide)] at h; exact h)), ?_, ?_, ?_⟩
  · intro h; rw [gd_ne (by decide)] at h; obtain ⟨e1, e2⟩ := H.c8 h
    refine ⟨?_, ?_⟩ <;> first | exact gd_same (by omega) | (rw [gd_ne (by decide)]; assumption)
  · intro h; rw [gd_ne (by decide), h10] at h; cases h
  · rw [gd_ne (by decide), gd_ne (by decide), gd_ne (by decide), hw]; exact H.ww
theorem RP.put6 {bx : Addr} {go co tt nn len c c2 : Nat} {f : Int} {A A2 : Option Addr} {W w1 wf : World} {L : Array Bool} {a : Act} {w w' : World} (H : RP bx go co tt nn len c c2 f A A2 W w1 wf L a w) (ho : L.getD 6 false = false) (hw : w' = w) : RP bx go co tt nn len c c2 f A A2 W w1 wf (L.setIfInBounds 6 true) (a.put (some 62) (.int .i64 f)) w' := by
  have h10 := H.world (j := 6) (by omega) ho
  have hz := H.sz
  have ht := H.tz
  refine ⟨by simp [hz], by rw [sz_put]; exact ht, (ev_ne (by decide)).trans H.k13, (ev_ne (by decide)).trans H.k15, (ev_ne (by decide)).trans H.k16, fun h => (ev_ne (by decide)).trans (H.v0 (by rw [gd_ne (by decide)] at h; exact h)), fun h => (ev_ne (by decide)).trans (H.v1 (by rw [gd_ne (by decide)] at h; exact h)), fun h => (ev_ne (by decide)).trans (H.v2 (by rw [gd_ne (by decide)] at h; exact h)), fun h => (ev_ne (by decide)).trans (H.v3 (by rw [gd_ne (by decide)] at h; exact h)), fun h => (ev_ne (by decide)).trans (H.v4 (by rw [gd_ne (by decide)] at h; exact h)), fun h => (ev_ne (by decide)).trans (H.v5 (by rw [gd_ne (by decide)] at h; exact h)), fun _ => ev_same (by omega), fun h => (ev_ne (by decide)).trans (H.v7 (by rw [gd_ne (by decide)] at h; exact h)), fun h => (ev_ne (by decide)).trans (H.v8 (by rw [gd_ne (by decide)] at h; exact h)), fun h => (ev_ne (by decide)).trans (H.v9 (by rw [gd_ne (by decide)] at h; exact h)), ?_, ?_, ?_⟩
  · intro h; rw [gd_ne (by decide)] at h; obtain ⟨e1, e2⟩ := H.c8 h
    refine ⟨?_, ?_⟩ <;> first | exact gd_same (by omega) | (rw [gd_ne (by decide)]; assumption)
  · intro h; rw [gd_ne (by decide), h10] at h; cases h
  · rw [gd_ne (by decide), gd_ne (by decide), gd_ne (by decide), hw]; exact H.ww
theorem RP.put7 {bx : Addr} {go co tt nn len c c2 : Nat} {f : Int} {A A2 : Option Addr} {W w1 wf : World} {L : Array Bool} {a : Act} {w w' : World} (H : RP bx go co tt nn len c c2 f A A2 W w1 wf L a w) (ho : L.getD 7 false = false) (hw : w' = W.alloc (.cells #[.int .i64 f] 3)) : RP bx go co tt nn len c c2 f A A2 W w1 wf (L.setIfInBounds 7 true) (a.put (some 63) (.slice (some ⟨W.heap.size, 0, none⟩) 1 1)) w' := by
  have h10 := H.world (j := 7) (by omega) ho
  have h8 : L.getD 8 false = false := by
    cases e : L.getD 8 false with
    | false => rfl
    | true => have := (H.c8 e).2; rw [ho] at this; cases this
  have hz := H.sz
  have ht := H.tz
  refine ⟨by simp [hz], by rw [sz_put]; exact ht, (ev_ne (by decide)).trans H.k13, (ev_ne (by decide)).trans H.k15, (ev_ne (by decide)).trans H.k16, fun h => (ev_ne (by decide)).trans (H.v0 (by rw [gd_ne (by decide)] at h; exact h)), fun h => (ev_ne (by decide)).trans (H.v1 (by rw [gd_ne (by decide)] at h; exact h)), fun h => (ev_ne (by decide)).trans (H.v2 (by rw [gd_ne (by decide)] at h; exact h)), fun h => (ev_ne (by decide)).trans (H.v3 (by rw [gd_ne (by decide)] at h; exact h)), fun h => (ev_ne (by decide)).trans (H.v4 (by rw [gd_ne (by decide)] at h; exact h)), fun h => (ev_ne (by decide)).trans (H.v5 (by rw [gd_ne (by decide)] at h; exact h)), fun h => (ev_ne (by decide)).trans (H.v6 (by rw [gd_ne (by decide)] at h; exact h)), fun _ => ev_same (by omega), fun h => (ev_ne (by decide)).trans (H.v8 (by rw [gd_ne (by decide)] at h; exact h)), fun h => (ev_ne (by decide)).trans (H.v9 (by rw [gd_ne (by decide)] at h; exact h)), ?_, ?_, ?_⟩
  · intro h; rw [gd_ne (by decide)] at h; obtain ⟨e1, e2⟩ := H.c8 h
    refine ⟨?_, ?_⟩ <;> first | exact gd_same (by omega) | (rw [gd_ne (by decide)]; assumption)
  · intro h; rw [gd_ne (by decide), h10] at h; cases h
  · rw [gd_ne (by decide), gd_ne (by decide), gd_same (by omega), h10, h8]; simp; exact hw
theorem RP.put8 {bx : Addr} {go co tt nn len c c2 : Nat} {f : Int} {A A2 : Option Addr} {W w1 wf : World} {L : Array Bool} {a : Act} {w w' : World} (H : RP bx go co tt nn len c c2 f A A2 W w1 wf L a w) (ho : L.getD 8 false = false) (h5 : L.getD 5 false = true) (h7 : L.getD 7 false = true) (hw : w' = w1) : RP bx go co tt nn len c c2 f A A2 W w1 wf (L.setIfInBounds 8 true) (a.put (some 64) (.slice A2 (len + 1) c2)) w' := by
  have h10 := H.world (j := 8) (by omega) ho
  have hz := H.sz
  have ht := H.tz
  refine ⟨by simp [hz], by rw [sz_put]; exact ht, (ev_ne (by decide)).trans H.k13, (ev_ne (by decide)).trans H.k15, (ev_ne (by decide)).trans H.k16, fun h => (ev_ne (by decide)).trans (H.v0 (by rw [gd_ne (by decide)] at h; exact h)), fun h => (ev_ne (by decide)).trans (H.v1 (by rw [gd_ne (by decide)] at h; exact h)), fun h => (ev_ne (by decide)).trans (H.v2 (by rw [gd_ne (by decide)] at h; exact h)), fun h => (ev_ne (by decide)).trans (H.v3 (by rw [gd_ne (by decide)] at h; exact h)), fun h => (ev_ne (by decide)).trans (H.v4 (by rw [gd_ne (by decide)] at h; exact h)), fun h => (ev_ne (by decide)).trans (H.v5 (by rw [gd_ne (by decide)] at h; exact h)), fun h => (ev_ne (by decide)).trans (H.v6 (by rw [gd_ne (by decide)] at h; exact h)), fun h => (ev_ne (by decide)).trans (H.v7 (by rw [gd_ne (by decide)] at h; exact h)), fun _ => ev_same (by omega), fun h => (ev_ne (by decide)).trans (H.v9 (by rw [gd_ne (by decide)] at h; exact h)), ?_, ?_, ?_⟩
  · intro _; rw [gd_ne (by decide), gd_ne (by decide)]; exact ⟨h5, h7⟩
  · intro h; rw [gd_ne (by decide), h10] at h; cases h
  · rw [gd_ne (by decide), gd_same (by omega), h10]; simp; exact hw
theorem RP.put9 {bx : Addr} {go co tt nn len c c2 : Nat} {f : Int} {A A2 : Option Addr} {W w1 wf : World} {L : Array Bool} {a : Act} {w w' : World} (H : RP bx go co tt nn len c c2 f A A2 W w1 wf L a w) (ho : L.getD 9 false = false) (hw : w' = w) : RP bx go co tt nn len c c2 f A A2 W w1 wf (L.setIfInBounds 9 true) (a.put (some 65) (.pointer (some ⟨go, tt, none⟩))) w' := by
  have h10 := H.world (j := 9) (by omega) ho
  have hz := H.sz
  have ht := H.tz
  refine ⟨by simp [hz], by rw [sz_put]; exact ht, (ev_ne (by decide)).trans H.k13, (ev_ne (by decide)).trans H.k15, (ev_ne (by decide)).trans H.k16, fun h => (ev_ne (by decide)).trans (H.v0 (by rw [gd_ne (by decide)] at h; exact h)), fun h => (ev_ne (by decide)).trans (H.v1 (by rw [gd_ne (by decide)] at h; exact h)), fun h => (ev_ne (by decide)).trans (H.v2 (by rw [gd_ne (by decide)] at h; exact h)), fun h => (ev_ne (by decide)).trans (H.v3 (by rw [gd_ne (by decide)] at h; exact h)), fun h => (ev_ne (by decide)).trans (H.v4 (by rw [gd_ne (by decide)] at h; exact h)), fun h => (ev_ne (by decide)).trans (H.v5 (by rw [gd_ne (by decide)] at h; exact h)), fun h => (ev_ne (by decide)).trans (H.v6 (by rw [gd_ne (by decide)] at h; exact h)), fun h => (ev_ne (by decide)).trans (H.v7 (by rw [gd_ne (by decide)] at h; exact h)), fun h => (ev_ne (by decide)).trans (H.v8 (by rw [gd_ne (by decide)] at h; exact h)), fun _ => ev_same (by omega), ?_, ?_, ?_⟩
  · intro h; rw [gd_ne (by decide)] at h; obtain ⟨e1, e2⟩ := H.c8 h
    refine ⟨?_, ?_⟩ <;> first | exact gd_same (by omega) | (rw [gd_ne (by decide)]; assumption)
  · intro h; rw [gd_ne (by decide), h10] at h; cases h
  · rw [gd_ne (by decide), gd_ne (by decide), gd_ne (by decide), hw]; exact H.ww
theorem RP.put10 {bx : Addr} {go co tt nn len c c2 : Nat} {f : Int} {A A2 : Option Addr} {W w1 wf : World} {L : Array Bool} {a : Act} {w w' : World} {v : Value} (H : RP bx go co tt nn len c c2 f A A2 W w1 wf L a w) (hall : ∀ j, j < 10 → L.getD j false = true) (hw : w' = wf) : RP bx go co tt nn len c c2 f A A2 W w1 wf (L.setIfInBounds 10 true) (a.put none v) w' := by
  have hz := H.sz
  refine ⟨by simp [hz], H.tz, H.k13, H.k15, H.k16, fun h => H.v0 (by rw [gd_ne (by decide)] at h; exact h), fun h => H.v1 (by rw [gd_ne (by decide)] at h; exact h), fun h => H.v2 (by rw [gd_ne (by decide)] at h; exact h), fun h => H.v3 (by rw [gd_ne (by decide)] at h; exact h), fun h => H.v4 (by rw [gd_ne (by decide)] at h; exact h), fun h => H.v5 (by rw [gd_ne (by decide)] at h; exact h), fun h => H.v6 (by rw [gd_ne (by decide)] at h; exact h), fun h => H.v7 (by rw [gd_ne (by decide)] at h; exact h), fun h => H.v8 (by rw [gd_ne (by decide)] at h; exact h), fun h => H.v9 (by rw [gd_ne (by decide)] at h; exact h), ?_, ?_, ?_⟩
  · intro _; rw [gd_ne (by decide), gd_ne (by decide)]; exact ⟨hall 5 (by omega), hall 7 (by omega)⟩
  · intro _ j hj; rw [gd_ne (by omega)]; exact hall j hj
  · rw [gd_same (by omega)]; simp; exact hw
def needs (o : Oper) : List Nat := (o.after.toList.filter (fun e => Region.binds .any e)).map (fun e => e.on)
theorem needs_of {o : Oper} {L : Array Bool} (h : ∀ e ∈ o.after, Region.binds .any e = true → L.getD e.on false = true) {j : Nat} (hj : j ∈ needs o) : L.getD j false = true := by
  unfold needs at hj
  obtain ⟨e, he, rfl⟩ := List.mem_map.1 hj
  obtain ⟨h1, h2⟩ := List.mem_filter.1 he
  exact h e (by simpa using h1) h2
theorem listed_of {ops : Array Oper} {L : Array Bool} (hr : Region.ready .any ops L = []) {i : Nat} {o : Oper} (ho : ops[i]? = some o) (hL : i < L.size) (hn : ∀ j ∈ needs o, L.getD j false = true) : L.getD i false = true := by
  cases hc : L.getD i false with
  | true => rfl
  | false =>
    exfalso
    have hc2 : L.getD i true = false := by
      rw [Array.getD_eq_getD_getElem?] at hc ⊢
      rw [Array.getElem?_eq_getElem hL] at hc ⊢
      exact hc
    unfold Region.ready at hr
    have := List.filter_eq_nil_iff.1 hr i (by simpa using (Array.getElem?_eq_some_iff.1 ho).1)
    apply this
    rw [hc2, ho]
    simp only [Bool.not_false, Bool.true_and, Option.map_some, Option.getD_some, Array.all_eq_true']
    intro e he
    cases hb : Region.binds .any e with
    | false => rfl
    | true =>
      have := hn e.on (List.mem_map.2 ⟨e, List.mem_filter.2 ⟨by simpa using he, hb⟩, rfl⟩)
      rw [this]; rfl
structure IsPut (ops : Array Oper) : Prop where
  sz : ops.size = 11
  o0 : ∃ o, ops[0]? = some o ∧ o.op = .load 22 (.tmp 13) ∧ o.dst = some 56 ∧ o.guard = none ∧ o.type = o.type ∧ (∀ j ∈ needs o, j ∈ []) ∧ (∀ j ∈ [], j ∈ needs o)
  o1 : ∃ o, ops[1]? = some o ∧ o.op = .move (.tmp 16) ∧ o.dst = some 57 ∧ o.guard = none ∧ o.type = o.type ∧ (∀ j ∈ needs o, j ∈ []) ∧ (∀ j ∈ [], j ∈ needs o)
  o2 : ∃ o, ops[2]? = some o ∧ o.op = .load 22 (.tmp 13) ∧ o.dst = some 58 ∧ o.guard = none ∧ o.type = o.type ∧ (∀ j ∈ needs o, j ∈ []) ∧ (∀ j ∈ [], j ∈ needs o)
  o3 : ∃ o, ops[3]? = some o ∧ o.op = .move (.tmp 16) ∧ o.dst = some 59 ∧ o.guard = none ∧ o.type = o.type ∧ (∀ j ∈ needs o, j ∈ []) ∧ (∀ j ∈ [], j ∈ needs o)
  o4 : ∃ o, ops[4]? = some o ∧ o.op = .indexAddr 22 (.tmp 58) (.tmp 59) ∧ o.dst = some 60 ∧ o.guard = none ∧ o.type = o.type ∧ (∀ j ∈ needs o, j ∈ [2, 3]) ∧ (∀ j ∈ [2, 3], j ∈ needs o)
  o5 : ∃ o, ops[5]? = some o ∧ o.op = .load 25 (.tmp 60) ∧ o.dst = some 61 ∧ o.guard = none ∧ o.type = o.type ∧ (∀ j ∈ needs o, j ∈ [4]) ∧ (∀ j ∈ [4], j ∈ needs o)
  o6 : ∃ o, ops[6]? = some o ∧ o.op = .move (.tmp 15) ∧ o.dst = some 62 ∧ o.guard = none ∧ o.type = o.type ∧ (∀ j ∈ needs o, j ∈ []) ∧ (∀ j ∈ [], j ∈ needs o)
  o7 : ∃ o, ops[7]? = some o ∧ o.op = .buildSlice 25 1 #[(0, .tmp 62)] ∧ o.dst = some 63 ∧ o.guard = none ∧ o.type = o.type ∧ (∀ j ∈ needs o, j ∈ [6]) ∧ (∀ j ∈ [6], j ∈ needs o)
  o8 : ∃ o, ops[8]? = some o ∧ o.op = .call { callee := .builtin .append, args := #[.tmp 61, .tmp 63], argTypes := #[25, 25] } ∧ o.dst = some 64 ∧ o.guard = none ∧ o.type = o.type ∧ (∀ j ∈ needs o, j ∈ [5, 7]) ∧ (∀ j ∈ [5, 7], j ∈ needs o) ∧ o.type = 25
  o9 : ∃ o, ops[9]? = some o ∧ o.op = .indexAddr 22 (.tmp 56) (.tmp 57) ∧ o.dst = some 65 ∧ o.guard = none ∧ o.type = o.type ∧ (∀ j ∈ needs o, j ∈ [0, 1, 2, 3, 4, 5, 6, 7, 8]) ∧ (∀ j ∈ [0, 1], j ∈ needs o)
  o10 : ∃ o, ops[10]? = some o ∧ o.op = .store 25 (.tmp 65) (.tmp 64) ∧ o.dst = none ∧ o.guard = none ∧ (∀ j ∈ needs o, j < 10) ∧ (∀ j, j < 10 → j ∈ needs o)
set_option maxRecDepth 100000 in
set_option maxHeartbeats 4000000 in
theorem region_put {ops : Array Oper} (hs : IsPut ops) {lp m id : Nat} {Q : Exit → Act → World → Prop} {a : Act} {W w1 wf : World} {bx : Addr} {go co tt nn len c c2 : Nat} {f : Int} {A A2 : Option Addr}
    (hm : Try.prog.follows .mixedOrders = true) (htz : 66 ≤ a.tmps.size) (k13 : a.eval (.tmp 13) = .pointer (some bx)) (k15 : a.eval (.tmp 15) = .int .i64 f) (k16 : a.eval (.tmp 16) = .int .i64 (tt : Int)) (htt : tt < nn)
    (hb0 : W.drew.cell? bx = some (.slice (some ⟨go, 0, none⟩) nn co)) (hb1 : (W.drew.alloc (.cells #[.int .i64 f] 3)).cell? bx = some (.slice (some ⟨go, 0, none⟩) nn co)) (hb2 : w1.cell? bx = some (.slice (some ⟨go, 0, none⟩) nn co))
    (he0 : W.drew.cell? ⟨go, tt, none⟩ = some (.slice A len c)) (he1 : (W.drew.alloc (.cells #[.int .i64 f] 3)).cell? ⟨go, tt, none⟩ = some (.slice A len c))
    (hap : (Builtin.append_ #[25, 25] 25 #[.slice A len c, .slice (some ⟨W.drew.heap.size, 0, none⟩) 1 1]).run Try.prog (W.drew.alloc (.cells #[.int .i64 f] 3)) = .ok (.slice A2 (len + 1) c2) w1)
    (hst : w1.cell? ⟨go, tt, none⟩ = some (.slice A len c)) (hfr : w1.frozen? ⟨go, tt, none⟩ = false) (hwf : wf = w1.setCell ⟨go, tt, none⟩ (.slice A2 (len + 1) c2))
    (hQ : ∀ a', Q .normal a' wf) : (Code.region id ops true).wpIn (Fence.wide.inRound lp) m Try.prog Q a W := by
  refine wpIn_region_any hm ?_
  change wpAnyIn _ _ _ _ _ _ _ _ _ W.drew
  obtain ⟨V, hV⟩ : ∃ V, V = W.drew := ⟨_, rfl⟩
  rw [← hV] at hb0 hb1 he0 he1 hap ⊢
  have hrep : ∀ j, (Array.replicate ops.size false).getD j false = false := fun j => by
    rw [Array.getD_eq_getD_getElem?, Array.getElem?_replicate]; split <;> rfl
  refine wpAnyIn_inv (RP bx go co tt nn len c c2 f A A2 V w1 wf) ?step ?done _ _ _ _ ?meas ?init
  case meas => rw [hs.sz]; rfl
  case init =>
    refine ⟨by simp [hs.sz], htz, k13, k15, k16, ?_, ?_, ?_, ?_, ?_, ?_, ?_, ?_, ?_, ?_, ?_, ?_, ?_⟩
    all_goals first | (intro h; rw [hrep] at h; cases h) | (rw [hrep, hrep, hrep]; rfl)
  case done =>
    intro L a' w' H hr
    have hz := H.sz
    have l0 : L.getD 0 false = true := by obtain ⟨o, ho, _, _, _, _, hn, _⟩ := hs.o0; exact listed_of hr ho (by omega) (fun j hj => by have := hn j hj; simp at this)
    have l1 : L.getD 1 false = true := by obtain ⟨o, ho, _, _, _, _, hn, _⟩ := hs.o1; exact listed_of hr ho (by omega) (fun j hj => by have := hn j hj; simp at this)
    have l2 : L.getD 2 false = true := by obtain ⟨o, ho, _, _, _, _, hn, _⟩ := hs.o2; exact listed_of hr ho (by omega) (fun j hj => by have := hn j hj; simp at this)
    have l3 : L.getD 3 false = true := by obtain ⟨o, ho, _, _, _, _, hn, _⟩ := hs.o3; exact listed_of hr ho (by omega) (fun j hj => by have := hn j hj; simp at this)
    have l4 : L.getD 4 false = true := by obtain ⟨o, ho, _, _, _, _, hn, _⟩ := hs.o4; exact listed_of hr ho (by omega) (fun j hj => by have := hn j hj; simp at this; rcases this with rfl | rfl <;> assumption)
    have l5 : L.getD 5 false = true := by obtain ⟨o, ho, _, _, _, _, hn, _⟩ := hs.o5; exact listed_of hr ho (by omega) (fun j hj => by have := hn j hj; simp at this; rcases this with rfl <;> assumption)
    have l6 : L.getD 6 false = true := by obtain ⟨o, ho, _, _, _, _, hn, _⟩ := hs.o6; exact listed_of hr ho (by omega) (fun j hj => by have := hn j hj; simp at this)
    have l7 : L.getD 7 false = true := by obtain ⟨o, ho, _, _, _, _, hn, _⟩ := hs.o7; exact listed_of hr ho (by omega) (fun j hj => by have := hn j hj; simp at this; rcases this with rfl <;> assumption)
    have l8 : L.getD 8 false = true := by obtain ⟨o, ho, _, _, _, _, hn, _⟩ := hs.o8; exact listed_of hr ho (by omega) (fun j hj => by have := hn j hj; simp at this; rcases this with rfl | rfl <;> assumption)
    have l9 : L.getD 9 false = true := by obtain ⟨o, ho, _, _, _, _, hn, _⟩ := hs.o9; exact listed_of hr ho (by omega) (fun j hj => by have := hn j hj; simp at this; rcases this with rfl | rfl | rfl | rfl | rfl | rfl | rfl | rfl | rfl <;> assumption)
    have l10 : L.getD 10 false = true := by
      obtain ⟨o, ho, _, _, _, hn, _⟩ := hs.o10
      exact listed_of hr ho (by omega) (fun j hj => by
        have := hn j hj
        rcases (by omega : j = 0 ∨ j = 1 ∨ j = 2 ∨ j = 3 ∨ j = 4 ∨ j = 5 ∨ j = 6 ∨ j = 7 ∨ j = 8 ∨ j = 9) with rfl | rfl | rfl | rfl | rfl | rfl | rfl | rfl | rfl | rfl <;> assumption)
    have := H.ww
    rw [if_pos l10] at this
    rw [this]
    exact hQ a'
  case step =>
    intro L a' w' i H hi
    obtain ⟨o, ho, hop, hdep⟩ := ready_mem hi
    have hop2 := gd_open hop
    have hi11 : i < 11 := by have := (Array.getElem?_eq_some_iff.1 ho).1; have := hs.sz; omega
    have hbox : L.getD 10 false = false → w'.cell? bx = some (.slice (some ⟨go, 0, none⟩) nn co) := by
      intro h10
      rw [H.ww, h10, if_neg (by decide)]
      split
      · exact hb2
      · split
        · exact hb1
        · exact hb0
    rcases (by omega : i = 0 ∨ i = 1 ∨ i = 2 ∨ i = 3 ∨ i = 4 ∨ i = 5 ∨ i = 6 ∨ i = 7 ∨ i = 8 ∨ i = 9 ∨ i = 10) with rfl | rfl | rfl | rfl | rfl | rfl | rfl | rfl | rfl | rfl | rfl
    · obtain ⟨o2, ho2, h1, h2, h3, _, h5, h6⟩ := hs.o0
      obtain rfl := Option.some.inj (ho.symm.trans ho2)
      refine wpOpIn_val (fun _ => trivial) ho h3 (by intro c h; rw [h1] at h; cases h) (ex_load22 h1 H.k13 (hbox (H.world (by omega) hop2))) ?_
      rw [h2]
      exact H.put0 hop2 rfl
    · obtain ⟨o2, ho2, h1, h2, h3, _, h5, h6⟩ := hs.o1
      obtain rfl := Option.some.inj (ho.symm.trans ho2)
      refine wpOpIn_val (fun _ => trivial) ho h3 (by intro c h; rw [h1] at h; cases h) ((ex_move h1).trans (by rw [H.k16])) ?_
      rw [h2]
      exact H.put1 hop2 rfl
    · obtain ⟨o2, ho2, h1, h2, h3, _, h5, h6⟩ := hs.o2
      obtain rfl := Option.some.inj (ho.symm.trans ho2)
      refine wpOpIn_val (fun _ => trivial) ho h3 (by intro c h; rw [h1] at h; cases h) (ex_load22 h1 H.k13 (hbox (H.world (by omega) hop2))) ?_
      rw [h2]
      exact H.put2 hop2 rfl
    · obtain ⟨o2, ho2, h1, h2, h3, _, h5, h6⟩ := hs.o3
      obtain rfl := Option.some.inj (ho.symm.trans ho2)
      refine wpOpIn_val (fun _ => trivial) ho h3 (by intro c h; rw [h1] at h; cases h) ((ex_move h1).trans (by rw [H.k16])) ?_
      rw [h2]
      exact H.put3 hop2 rfl
    · obtain ⟨o2, ho2, h1, h2, h3, _, h5, h6⟩ := hs.o4
      obtain rfl := Option.some.inj (ho.symm.trans ho2)
      refine wpOpIn_val (fun _ => trivial) ho h3 (by intro c h; rw [h1] at h; cases h) (ex_index h1 (H.v2 (needs_of hdep (h6 2 (by simp)))) (H.v3 (needs_of hdep (h6 3 (by simp)))) htt) ?_
      rw [h2]
      exact H.put4 hop2 rfl
    · obtain ⟨o2, ho2, h1, h2, h3, _, h5, h6⟩ := hs.o5
      obtain rfl := Option.some.inj (ho.symm.trans ho2)
      have h8 : L.getD 8 false = false := by
        cases e : L.getD 8 false with
        | false => rfl
        | true => have := (H.c8 e).1; rw [hop2] at this; cases this
      have hce : w'.cell? ⟨go, tt, none⟩ = some (.slice A len c) := by
        rw [H.ww, H.world (j := 5) (by omega) hop2, h8, if_neg (by decide), if_neg (by decide)]
        split
        · exact he1
        · exact he0
      refine wpOpIn_val (fun _ => trivial) ho h3 (by intro c h; rw [h1] at h; cases h) (ex_load25 h1 (H.v4 (needs_of hdep (h6 4 (by simp)))) hce) ?_
      rw [h2]
      exact H.put5 hop2 rfl
    · obtain ⟨o2, ho2, h1, h2, h3, _, h5, h6⟩ := hs.o6
      obtain rfl := Option.some.inj (ho.symm.trans ho2)
      refine wpOpIn_val (fun _ => trivial) ho h3 (by intro c h; rw [h1] at h; cases h) ((ex_move h1).trans (by rw [H.k15])) ?_
      rw [h2]
      exact H.put6 hop2 rfl
    · obtain ⟨o2, ho2, h1, h2, h3, _, h5, h6⟩ := hs.o7
      obtain rfl := Option.some.inj (ho.symm.trans ho2)
      have h8 : L.getD 8 false = false := by
        cases e : L.getD 8 false with
        | false => rfl
        | true => have := (H.c8 e).2; rw [hop2] at this; cases this
      have hw : w' = V := by rw [H.ww, H.world (j := 7) (by omega) hop2, h8, hop2]; rfl
      subst hw
      refine wpOpIn_val (fun _ => trivial) ho h3 (by intro c h; rw [h1] at h; cases h) (ex_build h1 (H.v6 (needs_of hdep (h6 6 (by simp))))) ?_
      rw [h2]
      exact H.put7 hop2 rfl
    · obtain ⟨o2, ho2, h1, h2, h3, _, h5, h6, h7⟩ := hs.o8
      obtain rfl := Option.some.inj (ho.symm.trans ho2)
      have l5 := (needs_of hdep (h6 5 (by simp)))
      have l7 := (needs_of hdep (h6 7 (by simp)))
      have hw : w' = V.alloc (.cells #[.int .i64 f] 3) := by rw [H.ww, H.world (j := 8) (by omega) hop2, hop2, l7]; rfl
      subst hw
      refine wpOpIn_val (fun _ => trivial) ho h3 (by intro c h; rw [h1] at h; cases h) (ex_append h1 h7 (H.v5 l5) (H.v7 l7) hap) ?_
      rw [h2]
      exact H.put8 hop2 l5 l7 rfl
    · obtain ⟨o2, ho2, h1, h2, h3, _, h5, h6⟩ := hs.o9
      obtain rfl := Option.some.inj (ho.symm.trans ho2)
      refine wpOpIn_val (fun _ => trivial) ho h3 (by intro c h; rw [h1] at h; cases h) (ex_index h1 (H.v0 (needs_of hdep (h6 0 (by simp)))) (H.v1 (needs_of hdep (h6 1 (by simp)))) htt) ?_
      rw [h2]
      exact H.put9 hop2 rfl
    · obtain ⟨o2, ho2, h1, h2, h3, h5, h6⟩ := hs.o10
      obtain rfl := Option.some.inj (ho.symm.trans ho2)
      have hall : ∀ j, j < 10 → L.getD j false = true := fun j hj => needs_of hdep (h6 j hj)
      have hw : w' = w1 := by rw [H.ww, hop2, hall 8 (by omega)]; rfl
      subst hw
      refine wpOpIn_skip (fun _ => trivial) ho h3 (by intro c h; rw [h1] at h; cases h) (ex_store h1 (H.v9 (hall 9 (by omega))) (H.v8 (hall 8 (by omega))) hst hfr) ?_
      rw [h2]
      exact H.put10 hall hwf.symm
end Go.Proofs.Ytikdcoahoocpjaa.Q
namespace Go.Proofs.Ytikdcoahoocpjaa.Q
open Go.RowKit Go.Proofs.YtikdcoahoocpjaaW.PrintWords Go.Proofs.YtikdcoahoocpjaaW.PrintLast Go.Proofs.YtikdcoahoocpjaaW.PrintMore
set_option linter.unusedVariables false
set_option linter.unusedSimpArgs false
theorem row_put {W : World} {base g n co : Nat} {r : List (List Int)} (HO : Kd.S (Kd.slice 3 (Kd.int .i64)) 25 W base (fun _ => True) (.slice (some ⟨g, 0, none⟩) n co) r) (tt : Nat) (hto : tt < n) (f : Int) (hl : (r.getD tt []).length ≤ 1000000) :
    ∃ A c A2 c2 w1, W.cell? ⟨g, tt, none⟩ = some (.slice A (r.getD tt []).length c) ∧
      (Builtin.append_ #[25, 25] 25 #[.slice A (r.getD tt []).length c, .slice (some ⟨W.heap.size, 0, none⟩) 1 1]).run Try.prog (W.alloc (.cells #[.int .i64 f] 3)) = .ok (.slice A2 ((r.getD tt []).length + 1) c2) w1 ∧
      (w1.cell? ⟨g, tt, none⟩) = some (.slice A (r.getD tt []).length c) ∧ w1.frozen? ⟨g, tt, none⟩ = false ∧
      Kd.S (Kd.slice 3 (Kd.int .i64)) 25 (w1.setCell ⟨g, tt, none⟩ (.slice A2 ((r.getD tt []).length + 1) c2)) base (fun _ => True) (.slice (some ⟨g, 0, none⟩) n co) (r.set tt (r.getD tt [] ++ [f])) ∧
      (∀ w0, Below base w0 W → Below base w0 (w1.setCell ⟨g, tt, none⟩ (.slice A2 ((r.getD tt []).length + 1) c2))) ∧ W.heap.size ≤ (w1.setCell ⟨g, tt, none⟩ (.slice A2 ((r.getD tt []).length + 1) c2)).heap.size ∧
      (∀ (k : Nat) (o : Obj), W.heap[k]? = some o → (∀ cells, o ≠ .cells cells 3 (0, 0)) → w1.heap[k]? = some o) ∧
      (∀ (k : Nat) (o : Obj), W.heap[k]? = some o → (∀ cells, o ≠ .cells cells 3 (0, 0)) → (∀ cells, o ≠ .cells cells 25 (0, 0)) → (w1.setCell ⟨g, tt, none⟩ (.slice A2 ((r.getD tt []).length + 1) c2)).heap[k]? = some o) := by
  obtain ⟨oki, ce, hcl, hM, hcc, hfr, hoki, hH⟩ := Kd.S_elem HO [] (tt : Int) (by omega) (by omega)
  have hn := (Kd.S_reads' HO).1
  obtain ⟨ve, rfl, ge⟩ := hM
  rw [Int.toNat_natCast] at ge hcc
  replace ge : Kd.R (Kd.int .i64) 3 W base oki ve (r.getD tt []) := ge
  obtain ⟨A, c, rfl⟩ := Kd.R_slice ge
  have hcell : W.cell? ⟨g, tt, none⟩ = some (.slice A (r.getD tt []).length c) := by
    have := hcc 0 _ rfl
    rwa [Nat.add_zero, show ((Kd.slice 3 (Kd.int .i64))).sz = 1 from rfl, Nat.mul_one] at this
  have hH2 := Kd.H_widen hH
  have ge2 := Kd.R_mono (ok' := fun k => oki k ∨ (fun _ => True) k ∧ W.heap.size ≤ k) ge (fun _ h => Or.inl h)
  have hbs : base ≤ W.heap.size := by
    have h1 := Kd.S_base HO g (by simp [Value.ownBlock])
    have h2 := Kd.S_lt HO g (by simp [Value.ownBlock])
    omega
  have hlt := Kd.S_base HO g (by simp [Value.ownBlock])
  have hty := Kd.R_typed ge
  have htg := Kd.S_typed HO g (by simp [Value.ownBlock])
  have hrb := Kd.R_base ge
  obtain ⟨h0, inner, hown, hr⟩ := ge2
  obtain ⟨i0, hi, hzz⟩ := Option.map_eq_some_iff.1 info3
  simp only [Prod.mk.injEq] at hzz
  obtain ⟨hz0, hz1, hz2⟩ := hzz
  obtain ⟨v1, w1, hrun, hown1, hg, _, hat⟩ := run_append_own_at (P := Try.prog) (w := W.alloc (.cells #[.int .i64 f] 3)) base 25 25 3 i0 (.int .i64 0) 1 8 Try.underlying25 hi hz0 hz1 hz2 rfl (by decide) _ _ inner (hown.alloc _) ⟨W.heap.size, 0, none⟩ 1 1 [.int .i64 f] rfl
    (by simpa using World.news_of_block (cs := #[.int .i64 f]) (t := 3) (fr := (0, 0)) (heap_alloc_new W (.cells #[.int .i64 f] 3))) (by simp [Value.oneCell']) (by simp only [maxLen]; omega) (by omega) (by simp; omega)
  have hg' := World.grownBy.trans (World.grownBy_alloc W (.cells #[.int .i64 f] 3) _) hg
  have hat' : v1.ownBlock = (Value.slice A (r.getD tt []).length c).ownBlock ∨ ∃ b, v1.ownBlock = some b ∧ W.heap.size ≤ b := by
    rcases hat with hat | hat
    · exact .inl hat
    · exact .inr ⟨_, hat, by simp⟩
  have hR1 : Kd.R (Kd.int .i64) 3 w1 base _ v1 (r.getD tt [] ++ [f]) := Kd.R_appended (d := Kd.int .i64) (p := f) (cs := [.int .i64 f]) (okp := fun _ => False) h0 hr rfl (fun _ hk => hk.elim) (fun k hk => .inr ⟨trivial, hk⟩) hown1 hg' hat'
  have hH3 := Kd.H_grown hH2 hg' (fun k e => .inl (ge.1 k e))
  obtain ⟨A2, c2, rfl⟩ := Kd.R_slice hR1
  rw [show (r.getD tt [] ++ [f]).length = (r.getD tt []).length + 1 by simp] at hrun hR1 hat'
  obtain ⟨hx, hf⟩ := Kd.H_at hH3 (by omega) (by omega)
  have hx0 := hx 0 _ rfl
  have hf0 := hf 0
  rw [Nat.add_zero, show ((Kd.slice 3 (Kd.int .i64))).sz = 1 from rfl, Nat.mul_one, Int.toNat_natCast] at hx0 hf0
  have HP := Kd.S_seg0 hH3 (by omega) (by omega) (seg := [.slice A2 ((r.getD tt []).length + 1) c2]) (j := 0) (show 1 ≤ 1 from by decide) (x' := r.getD tt [] ++ [f]) (Kd.M_row hR1) (fun _ hk => hk)
  simp only [show ((Kd.slice 3 (Kd.int .i64))).sz = 1 from rfl, Nat.mul_one, Nat.add_zero, Int.toNat_natCast] at HP
  have hsz : W.heap.size ≤ (w1.setCell ⟨g, tt, none⟩ (.slice A2 ((r.getD tt []).length + 1) c2)).heap.size := Nat.le_trans hg'.size HP.2.size
  refine ⟨A, c, A2, c2, w1, hcell, hrun, hx0, hf0, HP.1, ?_, hsz, ?_, ?_⟩
  · intro w0 HB
    refine (HB.grown hg' hbs (fun k e => hrb k e)).grown HP.2 (Nat.le_trans hbs hg'.size) (fun k e => ?_)
    injection e with e
    rw [← e]; exact hlt
  · intro k o hk h3
    have hkl : k < W.heap.size := (Array.getElem?_eq_some_iff.1 hk).1
    exact (hg'.block k hkl (fun e => by
      obtain ⟨cells, hc⟩ := hty k e.symm
      rw [hk] at hc
      exact h3 _ (Option.some.inj hc))).trans hk
  · intro k o hk h3 h25
    have hkl : k < W.heap.size := (Array.getElem?_eq_some_iff.1 hk).1
    have e1 : w1.heap[k]? = some o := (hg'.block k hkl (fun e => by
      obtain ⟨cells, hc⟩ := hty k e.symm
      rw [hk] at hc
      exact h3 _ (Option.some.inj hc))).trans hk
    refine (HP.2.block k (Nat.lt_of_lt_of_le hkl hg'.size) (fun e => ?_)).trans e1
    injection e with e
    obtain ⟨cells, hc⟩ := htg
    rw [← e, hk] at hc
    exact h25 _ (Option.some.inj hc)
end Go.Proofs.Ytikdcoahoocpjaa.Q
