/-
  The drawn region of Age's loop ('r[to] = append(r[to], f)', r in a box), in whatever order its operations come up: by an invariant.
-/
import Derived.Test.YtikdcoahoocpjaaEOps
namespace Go.Proofs.Ytikdcoahoocpjaa.Q
open Go.RowKit Go.Shelf Go.Proofs.YtikdcoahoocpjaaW.PrintWords Go.Proofs.YtikdcoahoocpjaaW.PrintLast Go.Proofs.YtikdcoahoocpjaaW.PrintMore
set_option linter.unusedVariables false
set_option linter.unusedSimpArgs false
theorem gd_ne {L : Array Bool} {i j : Nat} (h : i ≠ j) : (L.setIfInBounds i true).getD j false = L.getD j false := by
  simp [Array.getD_eq_getD_getElem?, Array.getElem?_setIfInBounds, h]
theorem gd_same {L : Array Bool} {i : Nat} (h : i < L.size) : (L.setIfInBounds i true).getD i false = true := by
  simp [Array.getD_eq_getD_getElem?, Array.getElem?_setIfInBounds, h]
theorem ready_mem {md : Region.Mode} {ops : Array Oper} {L : Array Bool} {i : Nat} (h : i ∈ Region.ready md ops L) : ∃ o, ops[i]? = some o ∧ L.getD i true = false ∧ ∀ e ∈ o.after, Region.binds md e = true → L.getD e.on false = true := by
  unfold Region.ready at h
  obtain ⟨h1, h2⟩ := List.mem_filter.1 h
  simp only [Bool.and_eq_true, Bool.not_eq_true'] at h2
  obtain ⟨h2, h3⟩ := h2
  cases ho : ops[i]? with
  | none => rw [ho] at h3; simp at h3
  | some o =>
    rw [ho] at h3
    refine ⟨o, rfl, h2, fun e he hb => ?_⟩
    simp only [Option.map_some, Option.getD_some, Array.all_eq_true'] at h3
    have := h3 e he
    simp only [hb, Bool.not_true, Bool.false_or] at this
    exact this
theorem gd_open {L : Array Bool} {i : Nat} (h : L.getD i true = false) : L.getD i false = false := by
  rw [Array.getD_eq_getD_getElem?] at h ⊢
  cases e : L[i]? with
  | none => rfl
  | some b => rw [e] at h; exact h

/-- What stands when the operations L have come up. -/
structure RP (bx : Addr) (go co tt nn len c c2 : Nat) (f : Int) (A A2 : Option Addr) (W w1 wf : World) (L : Array Bool) (a : Act) (w : World) : Prop where
  sz : L.size = 11
  tz : 66 ≤ a.tmps.size
  k13 : a.eval (.tmp 13) = .pointer (some bx)
  k15 : a.eval (.tmp 15) = .int .i64 f
  k16 : a.eval (.tmp 16) = .int .i64 (tt : Int)
  v0 : L.getD 0 false = true → a.eval (.tmp 56) = .slice (some ⟨go, 0, none⟩) nn co
  v1 : L.getD 1 false = true → a.eval (.tmp 57) = .int .i64 (tt : Int)
  v2 : L.getD 2 false = true → a.eval (.tmp 58) = .slice (some ⟨go, 0, none⟩) nn co
  v3 : L.getD 3 false = true → a.eval (.tmp 59) = .int .i64 (tt : Int)
  v4 : L.getD 4 false = true → a.eval (.tmp 60) = .pointer (some ⟨go, tt, none⟩)
  v5 : L.getD 5 false = true → a.eval (.tmp 61) = .slice A len c
  v6 : L.getD 6 false = true → a.eval (.tmp 62) = .int .i64 f
  v7 : L.getD 7 false = true → a.eval (.tmp 63) = .slice (some ⟨W.heap.size, 0, none⟩) 1 1
  v8 : L.getD 8 false = true → a.eval (.tmp 64) = .slice A2 (len + 1) c2
  v9 : L.getD 9 false = true → a.eval (.tmp 65) = .pointer (some ⟨go, tt, none⟩)
  c8 : L.getD 8 false = true → L.getD 5 false = true ∧ L.getD 7 false = true
  c10 : L.getD 10 false = true → ∀ j, j < 10 → L.getD j false = true
  ww : w = if L.getD 10 false = true then wf else if L.getD 8 false = true then w1 else if L.getD 7 false = true then W.alloc (.cells #[.int .i64 f] 3) else W
theorem RP.world {bx : Addr} {go co tt nn len c c2 : Nat} {f : Int} {A A2 : Option Addr} {W w1 wf : World} {L : Array Bool} {a : Act} {w : World} (H : RP bx go co tt nn len c c2 f A A2 W w1 wf L a w) {j : Nat} (hj : j < 10) (h : L.getD j false = false) : L.getD 10 false = false := by
  cases e : L.getD 10 false with
  | false => rfl
  | true => have := H.c10 e j hj; rw [h] at this; cases this
theorem RP.put0 {bx : Addr} {go co tt nn len c c2 : Nat} {f : Int} {A A2 : Option Addr} {W w1 wf : World} {L : Array Bool} {a : Act} {w w' : World} (H : RP bx go co tt nn len c c2 f A A2 W w1 wf L a w) (ho : L.getD 0 false = false) (hw : w' = w) : RP bx go co tt nn len c c2 f A A2 W w1 wf (L.setIfInBounds 0 true) (a.put (some 56) (.slice (some ⟨go, 0, none⟩) nn co)) w' := by
  have h10 := H.world (j := 0) (by omega) ho
  have hz := H.sz
  have ht := H.tz
  refine ⟨by simp [hz], by rw [sz_put]; exact ht, (ev_ne (by decide)).trans H.k13, (ev_ne (by decide)).trans H.k15, (ev_ne (by decide)).trans H.k16, fun _ => ev_same (by omega), fun h => (ev_ne (by decide)).trans (H.v1 (by rw [gd_ne (by decide)] at h; exact h)), fun h => (ev_ne (by decide)).trans (H.v2 (by rw [gd_ne (by decide)] at h; exact h)), fun h => (ev_ne (by decide)).trans (H.v3 (by rw [gd_ne (by decide)] at h; exact h)), fun h => (ev_ne (by decide)).trans (H.v4 (by rw [gd_ne (by decide)] at h; exact h)), fun h => (ev_ne (by decide)).trans (H.v5 (by rw [gd_ne (by decide)] at h; exact h)), fun h => (ev_ne (by decide)).trans (H.v6 (by rw [gd_ne (by decide)] at h; exact h)), fun h => (ev_ne (by decide)).trans (H.v7 (by rw [gd_ne (by decide)] at h; exact h)), fun h => (ev_ne (by decide)).trans (H.v8 (by rw [gd_ne (by decide)] at h; exact h)), fun h => (ev_ne (by decide)).trans (H.v9 (by rw [gd_ne (by decide)] at h; exact h)), ?_, ?_, ?_⟩
  · intro h; rw [gd_ne (by decide)] at h; obtain ⟨e1, e2⟩ := H.c8 h
    refine ⟨?_, ?_⟩ <;> first | exact gd_same (by omega) | (rw [gd_ne (by decide)]; assumption)
  · intro h; rw [gd_ne (by decide), h10] at h; cases h
  · rw [gd_ne (by decide), gd_ne (by decide), gd_ne (by decide), hw]; exact H.ww
theorem RP.put1 {bx : Addr} {go co tt nn len c c2 : Nat} {f : Int} {A A2 : Option Addr} {W w1 wf : World} {L : Array Bool} {a : Act} {w w' : World} (H : RP bx go co tt nn len c c2 f A A2 W w1 wf L a w) (ho : L.getD 1 false = false) (hw : w' = w) : RP bx go co tt nn len c c2 f A A2 W w1 wf (L.setIfInBounds 1 true) (a.put (some 57) (.int .i64 (tt : Int))) w' := by
  have h10 := H.world (j := 1) (by omega) ho
  have hz := H.sz
  have ht := H.tz
  refine ⟨by simp [hz], by rw [sz_put]; exact ht, (ev_ne (by decide)).trans H.k13, (ev_ne (by decide)).trans H.k15, (ev_ne (by decide)).trans H.k16, fun h => (ev_ne (by decide)).trans (H.v0 (by rw [gd_ne (by decide)] at h; exact h)), fun _ => ev_same (by omega), fun h => (ev_ne (by decide)).trans (H.v2 (by rw [gd_ne (by decide)] at h; exact h)), fun h => (ev_ne (by decide)).trans (H.v3 (by rw [gd_ne (by decide)] at h; exact h)), fun h => (ev_ne (by decide)).trans (H.v4 (by rw [gd_ne (by decide)] at h; exact h)), fun h => (ev_ne (by decide)).trans (H.v5 (by rw [gd_ne (by decide)] at h; exact h)), fun h => (ev_ne (by decide)).trans (H.v6 (by rw [gd_ne (by decide)] at h; exact h)), fun h => (ev_ne (by decide)).trans (H.v7 (by rw [gd_ne (by decide)] at h; exact h)), fun h => (ev_ne (by decide)).trans (H.v8 (by rw [gd_ne (by decide)] at h; exact h)), fun h => (ev_ne (by decide)).trans (H.v9 (by rw [gd_ne (by decide)] at h; exact h)), ?_, ?_, ?_⟩
  · intro h; rw [gd_ne (by decide)] at h; obtain ⟨e1, e2⟩ := H.c8 h
    refine ⟨?_, ?_⟩ <;> first | exact gd_same (by omega) | (rw [gd_ne (by decide)]; assumption)
  · intro h; rw [gd_ne (by decide), h10] at h; cases h
  · rw [gd_ne (by decide), gd_ne (by decide), gd_ne (by decide), hw]; exact H.ww
theorem RP.put2 {bx : Addr} {go co tt nn len c c2 : Nat} {f : Int} {A A2 : Option Addr} {W w1 wf : World} {L : Array Bool} {a : Act} {w w' : World} (H : RP bx go co tt nn len c c2 f A A2 W w1 wf L a w) (ho : L.getD 2 false = false) (hw : w' = w) : RP bx go co tt nn len c c2 f A A2 W w1 wf (L.setIfInBounds 2 true) (a.put (some 58) (.slice (some ⟨go, 0, none⟩) nn co)) w' := by
  have h10 := H.world (j := 2) (by omega) ho
  have hz := H.sz
  have ht := H.tz
  refine ⟨by simp [hz], by rw [sz_put]; exact ht, (ev_ne (by decide)).trans H.k13, (ev_ne (by decide)).trans H.k15, (ev_ne (by decide)).trans H.k16, fun h => (ev_ne (by decide)).trans (H.v0 (by rw [gd_ne (by decide)] at h; exact h)), fun h => (ev_ne (by decide)).trans (H.v1 (by rw [gd_ne (by decide)] at h; exact h)), fun _ => ev_same (by omega), fun h => (ev_ne (by decide)).trans (H.v3 (by rw [gd_ne (by decide)] at h; exact h)), fun h => (ev_ne (by decide)).trans (H.v4 (by rw [gd_ne (by decide)] at h; exact h)), fun h => (ev_ne (by decide)).trans (H.v5 (by rw [gd_ne (by decide)] at h; exact h)), fun h => (ev_ne (by decide)).trans (H.v6 (by rw [gd_ne (by decide)] at h; exact h)), fun h => (ev_ne (by decide)).trans (H.v7 (by rw [gd_ne (by decide)] at h; exact h)), fun h => (ev_ne (by decide)).trans (H.v8 (by rw [gd_ne (by decide)] at h; exact h)), fun h => (ev_ne (by decide)).trans (H.v9 (by rw [gd_ne (by decide)] at h; exact h)), ?_, ?_, ?_⟩
  · intro h; rw [gd_ne (by decide)] at h; obtain ⟨e1, e2⟩ := H.c8 h
    refine ⟨?_, ?_⟩ <;> first | exact gd_same (by omega) | (rw [gd_ne (by decide)]; assumption)
  · intro h; rw [gd_ne (by decide), h10] at h; cases h
  · rw [gd_ne (by decide), gd_ne (by decide), gd_ne (by decide), hw]; exact H.ww
theorem RP.put3 {bx : Addr} {go co tt nn len c c2 : Nat} {f : Int} {A A2 : Option Addr} {W w1 wf : World} {L : Array Bool} {a : Act} {w w' : World} (H : RP bx go co tt nn len c c2 f A A2 W w1 wf L a w) (ho : L.getD 3 false = false) (hw : w' = w) : RP bx go co tt nn len c c2 f A A2 W w1 wf (L.setIfInBounds 3 true) (a.put (some 59) (.int .i64 (tt : Int))) w' := by
  have h10 := H.world (j := 3) (by omega) ho
  have hz := H.sz
  have ht := H.tz
  refine ⟨by simp [hz], by rw [sz_put]; exact ht, (ev_ne (by decide)).trans H.k13, (ev_ne (by decide)).trans H.k15, (ev_ne (by decide)).trans H.k16, fun h => (ev_ne (by decide)).trans (H.v0 (by rw [gd_ne (by decide)] at h; exact h)), fun h => (ev_ne (by decide)).trans (H.v1 (by rw [gd_ne (by decide)] at h; exact h)), fun h => (ev_ne (by decide)).trans (H.v2 (by rw [gd_ne (by decide)] at h; exact h)), fun _ => ev_same (by omega), fun h => (ev_ne (by decide)).trans (H.v4 (by rw [gd_ne (by decide)] at h; exact h)), fun h => (ev_ne (by decide)).trans (H.v5 (by rw [gd_ne (by decide)] at h; exact h)), fun h => (ev_ne (by decide)).trans (H.v6 (by rw [gd_ne (by decide)] at h; exact h)), fun h => (ev_ne (by decide)).trans (H.v7 (by rw [gd_ne (by decide)] at h; exact h)), fun h => (ev_ne (by decide)).trans (H.v8 (by rw [gd_ne (by decide)] at h; exact h)), fun h => (ev_ne (by decide)).trans (H.v9 (by rw [gd_ne (by decide)] at h; exact h)), ?_, ?_, ?_⟩
  · intro h; rw [gd_ne (by decide)] at h; obtain ⟨e1, e2⟩ := H.c8 h
    refine ⟨?_, ?_⟩ <;> first | exact gd_same (by omega) | (rw [gd_ne (by decide)]; assumption)
  · intro h; rw [gd_ne (by decide), h10] at h; cases h
  · rw [gd_ne (by decide), gd_ne (by decide), gd_ne (by decide), hw]; exact H.ww
theorem RP.put4 {bx : Addr} {go co tt nn len c c2 : Nat} {f : Int} {A A2 : Option Addr} {W w1 wf : World} {L : Array Bool} {a : Act} {w w' : World} (H : RP bx go co tt nn len c c2 f A A2 W w1 wf L a w) (ho : L.getD 4 false = false) (hw : w' = w) : RP bx go co tt nn len c c2 f A A2 W w1 wf (L.setIfInBounds 4 true) (a.put (some 60) (.pointer (some ⟨go, tt, none⟩))) w' := by
  have h10 := H.world (j := 4) (by omega) ho
  have hz := H.sz
  have ht := H.tz
  refine ⟨by simp [hz], by rw [sz_put]; exact ht, (ev_ne (by decide)).trans H.k13, (ev_ne (by decide)).trans H.k15, (ev_ne (by decide)).trans H.k16, fun h => (ev_ne (by decide)).trans (H.v0 (by rw [gd_ne (by decide)] at h; exact h)), fun h => (ev_ne (by decide)).trans (H.v1 (by rw [gd_ne (by decide)] at h; exact h)), fun h => (ev_ne (by decide)).trans (H.v2 (by rw [gd_ne (by decide)] at h; exact h)), fun h => (ev_ne (by decide)).trans (H.v3 (by rw [gd_ne (by decide)] at h; exact h)), fun _ => ev_same (by omega), fun h => (ev_ne (by decide)).trans (H.v5 (by rw [gd_ne (by decide)] at h; exact h)), fun h => (ev_ne (by decide)).trans (H.v6 (by rw [gd_ne (by decide)] at h; exact h)), fun h => (ev_ne (by decide)).trans (H.v7 (by rw [gd_ne (by decide)] at h; exact h)), fun h => (ev_ne (by decide)).trans (H.v8 (by rw [gd_ne (by decide)] at h; exact h)), fun h => (ev_ne (by decide)).trans (H.v9 (by rw [gd_ne (by decide)] at h; exact h)), ?_, ?_, ?_⟩
  · intro h; rw [gd_ne (by decide)] at h; obtain ⟨e1, e2⟩ := H.c8 h
    refine ⟨?_, ?_⟩ <;> first | exact gd_same (by omega) | (rw [gd_ne (by decide)]; assumption)
  · intro h; rw [gd_ne (by decide), h10] at h; cases h
  · rw [gd_ne (by decide), gd_ne (by decide), gd_ne (by decide), hw]; exact H.ww
theorem RP.put5 {bx : Addr} {go co tt nn len c c2 : Nat} {f : Int} {A A2 : Option Addr} {W w1 wf : World} {L : Array Bool} {a : Act} {w w' : World} (H : RP bx go co tt nn len c c2 f A A2 W w1 wf L a w) (ho : L.getD 5 false = false) (hw : w' = w) : RP bx go co tt nn len c c2 f A A2 W w1 wf (L.setIfInBounds 5 true) (a.put (some 61) (.slice A len c)) w' := by
  have h10 := H.world (j := 5) (by omega) ho
  have hz := H.sz
  have ht := H.tz
  refine ⟨by simp [hz], by rw [sz_put]; exact ht, (ev_ne (by decide)).trans H.k13, (ev_ne (by decide)).trans H.k15, (ev_ne (by decide)).trans H.k16, fun h => (ev_ne (by decide)).trans (H.v0 (by rw [gd_ne (by decide)] at h; exact h)), fun h => (ev_ne (by decide)).trans (H.v1 (by rw [gd_ne (by decide)] at h; exact h)), fun h => (ev_ne (by decide)).trans (H.v2 (by rw [gd_ne (by decide)] at h; exact h)), fun h => (ev_ne (by decide)).trans (H.v3 (by rw [gd_ne (by decide)] at h; exact h)), fun h => (ev_ne (by decide)).trans (H.v4 (by rw [gd_ne (by decide)] at h; exact h)), fun _ => ev_same (by omega), fun h => (ev_ne (by decide)).trans (H.v6 (by rw [gd_ne (by decide)] at h; exact h)), fun h => (ev_ne (by decide)).trans (H.v7 (by rw [gd_ne (by decide)] at h; exact h)), fun h => (ev_ne (by decide)).trans (H.v8 (by rw [gd_ne (by decide)] at h; exact h)), fun h => (ev_ne (by decide)).trans (H.v9 (by rw [gd_ne (by decide)] at h; exact h)), ?_, ?_, ?_⟩
  · intro h; rw [gd_ne (by decide)] at h; obtain ⟨e1, e2⟩ := H.c8 h
    refine ⟨?_, ?_⟩ <;> first | exact gd_same (by omega) | (rw [gd_ne (by decide)]; assumption)
  · intro h; rw [gd_ne (by decide), h10] at h; cases h
  · rw [gd_ne (by decide), gd_ne (by decide), gd_ne (by decide), hw]; exact H.ww
theorem RP.put6 {bx : Addr} {go co tt nn len c c2 : Nat} {f : Int} {A A2 : Option Addr} {W w1 wf : World} {L : Array Bool} {a : Act} {w w' : World} (H : RP bx go co tt nn len c c2 f A A2 W w1 wf L a w) (ho : L.getD 6 false = false) (hw : w' = w) : RP bx go co tt nn len c c2 f A A2 W w1 wf (L.setIfInBounds 6 true) (a.put (some 62) (.int .i64 f)) w' := by
  have h10 := H.world (j := 6) (by omega) ho
  have hz := H.sz
  have ht := H.tz
  refine ⟨by simp [hz], by rw [sz_put]; exact ht, (ev_ne (by decide)).trans H.k13, (ev_ne (by decide)).trans H.k15, (ev_ne (by decide)).trans H.k16, fun h => (ev_ne (by decide)).trans (H.v0 (by rw [gd_ne (by decide)] at h; exact h)), fun h => (ev_ne (by decide)).trans (H.v1 (by rw [gd_ne (by decide)] at h; exact h)), fun h => (ev_ne (by decide)).trans (H.v2 (by rw [gd_ne (by decide)] at h; exact h)), fun h => (ev_ne (by decide)).trans (H.v3 (by rw [gd_ne (by decide)] at h; exact h)), fun h => (ev_ne (by decide)).trans (H.v4 (by rw [gd_ne (by decide)] at h; exact h)), fun h => (ev_ne (by decide)).trans (H.v5 (by rw [gd_ne (by decide)] at h; exact h)), fun _ => ev_same (by omega), fun h => (ev_ne (by decide)).trans (H.v7 (by rw [gd_ne (by decide)] at h; exact h)), fun h => (ev_ne (by decide)).trans (H.v8 (by rw [gd_ne (by decide)] at h; exact h)), fun h => (ev_ne (by decide)).trans (H.v9 (by rw [gd_ne (by decide)] at h; exact h)), ?_, ?_, ?_⟩
  · intro h; rw [gd_ne (by decide)] at h; obtain ⟨e1, e2⟩ := H.c8 h
    refine ⟨?_, ?_⟩ <;> first | exact gd_same (by omega) | (rw [gd_ne (by decide)]; assumption)
  · intro h; rw [gd_ne (by decide), h10] at h; cases h
  · rw [gd_ne (by decide), gd_ne (by decide), gd_ne (by decide), hw]; exact H.ww
theorem RP.put7 {bx : Addr} {go co tt nn len c c2 : Nat} {f : Int} {A A2 : Option Addr} {W w1 wf : World} {L : Array Bool} {a : Act} {w w' : World} (H : RP bx go co tt nn len c c2 f A A2 W w1 wf L a w) (ho : L.getD 7 false = false) (hw : w' = W.alloc (.cells #[.int .i64 f] 3)) : RP bx go co tt nn len c c2 f A A2 W w1 wf (L.setIfInBounds 7 true) (a.put (some 63) (.slice (some ⟨W.heap.size, 0, none⟩) 1 1)) w' := by
  have h10 := H.world (j := 7) (by omega) ho
  have h8 : L.getD 8 false = false := by
    cases e : L.getD 8 false with
    | false => rfl
    | true => have := (H.c8 e).2; rw [ho] at this; cases this
  have hz := H.sz
  have ht := H.tz
  refine ⟨by simp [hz], by rw [sz_put]; exact ht, (ev_ne (by decide)).trans H.k13, (ev_ne (by decide)).trans H.k15, (ev_ne (by decide)).trans H.k16, fun h => (ev_ne (by decide)).trans (H.v0 (by rw [gd_ne (by decide)] at h; exact h)), fun h => (ev_ne (by decide)).trans (H.v1 (by rw [gd_ne (by decide)] at h; exact h)), fun h => (ev_ne (by decide)).trans (H.v2 (by rw [gd_ne (by decide)] at h; exact h)), fun h => (ev_ne (by decide)).trans (H.v3 (by rw [gd_ne (by decide)] at h; exact h)), fun h => (ev_ne (by decide)).trans (H.v4 (by rw [gd_ne (by decide)] at h; exact h)), fun h => (ev_ne (by decide)).trans (H.v5 (by rw [gd_ne (by decide)] at h; exact h)), fun h => (ev_ne (by decide)).trans (H.v6 (by rw [gd_ne (by decide)] at h; exact h)), fun _ => ev_same (by omega), fun h => (ev_ne (by decide)).trans (H.v8 (by rw [gd_ne (by decide)] at h; exact h)), fun h => (ev_ne (by decide)).trans (H.v9 (by rw [gd_ne (by decide)] at h; exact h)), ?_, ?_, ?_⟩
  · intro h; rw [gd_ne (by decide)] at h; obtain ⟨e1, e2⟩ := H.c8 h
    refine ⟨?_, ?_⟩ <;> first | exact gd_same (by omega) | (rw [gd_ne (by decide)]; assumption)
  · intro h; rw [gd_ne (by decide), h10] at h; cases h
  · rw [gd_ne (by decide), gd_ne (by decide), gd_same (by omega), h10, h8]; simp; exact hw
theorem RP.put8 {bx : Addr} {go co tt nn len c c2 : Nat} {f : Int} {A A2 : Option Addr} {W w1 wf : World} {L : Array Bool} {a : Act} {w w' : World} (H : RP bx go co tt nn len c c2 f A A2 W w1 wf L a w) (ho : L.getD 8 false = false) (h5 : L.getD 5 false = true) (h7 : L.getD 7 false = true) (hw : w' = w1) : RP bx go co tt nn len c c2 f A A2 W w1 wf (L.setIfInBounds 8 true) (a.put (some 64) (.slice A2 (len + 1) c2)) w' := by
  have h10 := H.world (j := 8) (by omega) ho
  have hz := H.sz
  have ht := H.tz
  refine ⟨by simp [hz], by rw [sz_put]; exact ht, (ev_ne (by decide)).trans H.k13, (ev_ne (by decide)).trans H.k15, (ev_ne (by decide)).trans H.k16, fun h => (ev_ne (by decide)).trans (H.v0 (by rw [gd_ne (by decide)] at h; exact h)), fun h => (ev_ne (by decide)).trans (H.v1 (by rw [gd_ne (by decide)] at h; exact h)), fun h => (ev_ne (by decide)).trans (H.v2 (by rw [gd_ne (by decide)] at h; exact h)), fun h => (ev_ne (by decide)).trans (H.v3 (by rw [gd_ne (by decide)] at h; exact h)), fun h => (ev_ne (by decide)).trans (H.v4 (by rw [gd_ne (by decide)] at h; exact h)), fun h => (ev_ne (by decide)).trans (H.v5 (by rw [gd_ne (by decide)] at h; exact h)), fun h => (ev_ne (by decide)).trans (H.v6 (by rw [gd_ne (by decide)] at h; exact h)), fun h => (ev_ne (by decide)).trans (H.v7 (by rw [gd_ne (by decide)] at h; exact h)), fun _ => ev_same (by omega), fun h => (ev_ne (by decide)).trans (H.v9 (by rw [gd_ne (by decide)] at h; exact h)), ?_, ?_, ?_⟩
  · intro _; rw [gd_ne (by decide), gd_ne (by decide)]; exact ⟨h5, h7⟩
  · intro h; rw [gd_ne (by decide), h10] at h; cases h
  · rw [gd_ne (by decide), gd_same (by omega), h10]; simp; exact hw
theorem RP.put9 {bx : Addr} {go co tt nn len c c2 : Nat} {f : Int} {A A2 : Option Addr} {W w1 wf : World} {L : Array Bool} {a : Act} {w w' : World} (H : RP bx go co tt nn len c c2 f A A2 W w1 wf L a w) (ho : L.getD 9 false = false) (hw : w' = w) : RP bx go co tt nn len c c2 f A A2 W w1 wf (L.setIfInBounds 9 true) (a.put (some 65) (.pointer (some ⟨go, tt, none⟩))) w' := by
  have h10 := H.world (j := 9) (by omega) ho
  have hz := H.sz
  have ht := H.tz
  refine ⟨by simp [hz], by rw [sz_put]; exact ht, (ev_ne (by decide)).trans H.k13, (ev_ne (by decide)).trans H.k15, (ev_ne (by decide)).trans H.k16, fun h => (ev_ne (by decide)).trans (H.v0 (by rw [gd_ne (by decide)] at h; exact h)), fun h => (ev_ne (by decide)).trans (H.v1 (by rw [gd_ne (by decide)] at h; exact h)), fun h => (ev_ne (by decide)).trans (H.v2 (by rw [gd_ne (by decide)] at h; exact h)), fun h => (ev_ne (by decide)).trans (H.v3 (by rw [gd_ne (by decide)] at h; exact h)), fun h => (ev_ne (by decide)).trans (H.v4 (by rw [gd_ne (by decide)] at h; exact h)), fun h => (ev_ne (by decide)).trans (H.v5 (by rw [gd_ne (by decide)] at h; exact h)), fun h => (ev_ne (by decide)).trans (H.v6 (by rw [gd_ne (by decide)] at h; exact h)), fun h => (ev_ne (by decide)).trans (H.v7 (by rw [gd_ne (by decide)] at h; exact h)), fun h => (ev_ne (by decide)).trans (H.v8 (by rw [gd_ne (by decide)] at h; exact h)), fun _ => ev_same (by omega), ?_, ?_, ?_⟩
  · intro h; rw [gd_ne (by decide)] at h; obtain ⟨e1, e2⟩ := H.c8 h
    refine ⟨?_, ?_⟩ <;> first | exact gd_same (by omega) | (rw [gd_ne (by decide)]; assumption)
  · intro h; rw [gd_ne (by decide), h10] at h; cases h
  · rw [gd_ne (by decide), gd_ne (by decide), gd_ne (by decide), hw]; exact H.ww
theorem RP.put10 {bx : Addr} {go co tt nn len c c2 : Nat} {f : Int} {A A2 : Option Addr} {W w1 wf : World} {L : Array Bool} {a : Act} {w w' : World} {v : Value} (H : RP bx go co tt nn len c c2 f A A2 W w1 wf L a w) (hall : ∀ j, j < 10 → L.getD j false = true) (hw : w' = wf) : RP bx go co tt nn len c c2 f A A2 W w1 wf (L.setIfInBounds 10 true) (a.put none v) w' := by
  have hz := H.sz
  refine ⟨by simp [hz], H.tz, H.k13, H.k15, H.k16, fun h => H.v0 (by rw [gd_ne (by decide)] at h; exact h), fun h => H.v1 (by rw [gd_ne (by decide)] at h; exact h), fun h => H.v2 (by rw [gd_ne (by decide)] at h; exact h), fun h => H.v3 (by rw [gd_ne (by decide)] at h; exact h), fun h => H.v4 (by rw [gd_ne (by decide)] at h; exact h), fun h => H.v5 (by rw [gd_ne (by decide)] at h; exact h), fun h => H.v6 (by rw [gd_ne (by decide)] at h; exact h), fun h => H.v7 (by rw [gd_ne (by decide)] at h; exact h), fun h => H.v8 (by rw [gd_ne (by decide)] at h; exact h), fun h => H.v9 (by rw [gd_ne (by decide)] at h; exact h), ?_, ?_, ?_⟩
  · intro _; rw [gd_ne (by decide), gd_ne (by decide)]; exact ⟨hall 5 (by omega), hall 7 (by omega)⟩
  · intro _ j hj; rw [gd_ne (by omega)]; exact hall j hj
  · rw [gd_same (by omega)]; simp; exact hw
def needs (o : Oper) : List Nat := (o.after.toList.filter (fun e => Region.binds .any e)).map (fun e => e.on)
theorem needs_of {o : Oper} {L : Array Bool} (h : ∀ e ∈ o.after, Region.binds .any e = true → L.getD e.on false = true) {j : Nat} (hj : j ∈ needs o) : L.getD j false = true := by
  unfold needs at hj
  obtain ⟨e, he, rfl⟩ := List.mem_map.1 hj
  obtain ⟨h1, h2⟩ := List.mem_filter.1 he
  exact h e (by simpa using h1) h2
theorem listed_of {ops : Array Oper} {L : Array Bool} (hr : Region.ready .any ops L = []) {i : Nat} {o : Oper} (ho : ops[i]? = some o) (hL : i < L.size) (hn : ∀ j ∈ needs o, L.getD j false = true) : L.getD i false = true := by
  cases hc : L.getD i false with
  | true => rfl
  | false =>
    exfalso
    have hc2 : L.getD i true = false := by
      rw [Array.getD_eq_getD_getElem?] at hc ⊢
      rw [Array.getElem?_eq_getElem hL] at hc ⊢
      exact hc
    unfold Region.ready at hr
    have := List.filter_eq_nil_iff.1 hr i (by simpa using (Array.getElem?_eq_some_iff.1 ho).1)
    apply this
    rw [hc2, ho]
    simp only [Bool.not_false, Bool.true_and, Option.map_some, Option.getD_some, Array.all_eq_true']
    intro e he
    cases hb : Region.binds .any e with
    | false => rfl
    | true =>
      have := hn e.on (List.mem_map.2 ⟨e, List.mem_filter.2 ⟨by simpa using he, hb⟩, rfl⟩)
      rw [this]; rfl
structure IsPut (ops : Array Oper) : Prop where
  sz : ops.size = 11
  o0 : ∃ o, ops[0]? = some o ∧ o.op = .load 22 (.tmp 13) ∧ o.dst = some 56 ∧ o.guard = none ∧ o.type = o.type ∧ (∀ j ∈ needs o, j ∈ []) ∧ (∀ j ∈ [], j ∈ needs o)
  o1 : ∃ o, ops[1]? = some o ∧ o.op = .move (.tmp 16) ∧ o.dst = some 57 ∧ o.guard = none ∧ o.type = o.type ∧ (∀ j ∈ needs o, j ∈ []) ∧ (∀ j ∈ [], j ∈ needs o)
  o2 : ∃ o, ops[2]? = some o ∧ o.op = .load 22 (.tmp 13) ∧ o.dst = some 58 ∧ o.guard = none ∧ o.type = o.type ∧ (∀ j ∈ needs o, j ∈ []) ∧ (∀ j ∈ [], j ∈ needs o)
  o3 : ∃ o, ops[3]? = some o ∧ o.op = .move (.tmp 16) ∧ o.dst = some 59 ∧ o.guard = none ∧ o.type = o.type ∧ (∀ j ∈ needs o, j ∈ []) ∧ (∀ j ∈ [], j ∈ needs o)
  o4 : ∃ o, ops[4]? = some o ∧ o.op = .indexAddr 22 (.tmp 58) (.tmp 59) ∧ o.dst = some 60 ∧ o.guard = none ∧ o.type = o.type ∧ (∀ j ∈ needs o, j ∈ [2, 3]) ∧ (∀ j ∈ [2, 3], j ∈ needs o)
  o5 : ∃ o, ops[5]? = some o ∧ o.op = .load 25 (.tmp 60) ∧ o.dst = some 61 ∧ o.guard = none ∧ o.type = o.type ∧ (∀ j ∈ needs o, j ∈ [4]) ∧ (∀ j ∈ [4], j ∈ needs o)
  o6 : ∃ o, ops[6]? = some o ∧ o.op = .move (.tmp 15) ∧ o.dst = some 62 ∧ o.guard = none ∧ o.type = o.type ∧ (∀ j ∈ needs o, j ∈ []) ∧ (∀ j ∈ [], j ∈ needs o)
  o7 : ∃ o, ops[7]? = some o ∧ o.op = .buildSlice 25 1 #[(0, .tmp 62)] ∧ o.dst = some 63 ∧ o.guard = none ∧ o.type = o.type ∧ (∀ j ∈ needs o, j ∈ [6]) ∧ (∀ j ∈ [6], j ∈ needs o)
  o8 : ∃ o, ops[8]? = some o ∧ o.op = .call { callee := .builtin .append, args := #[.tmp 61, .tmp 63], argTypes := #[25, 25] } ∧ o.dst = some 64 ∧ o.guard = none ∧ o.type = o.type ∧ (∀ j ∈ needs o, j ∈ [5, 7]) ∧ (∀ j ∈ [5, 7], j ∈ needs o) ∧ o.type = 25
  o9 : ∃ o, ops[9]? = some o ∧ o.op = .indexAddr 22 (.tmp 56) (.tmp 57) ∧ o.dst = some 65 ∧ o.guard = none ∧ o.type = o.type ∧ (∀ j ∈ needs o, j ∈ [0, 1, 2, 3, 4, 5, 6, 7, 8]) ∧ (∀ j ∈ [0, 1], j ∈ needs o)
  o10 : ∃ o, ops[10]? = some o ∧ o.op = .store 25 (.tmp 65) (.tmp 64) ∧ o.dst = none ∧ o.guard = none ∧ (∀ j ∈ needs o, j < 10) ∧ (∀ j, j < 10 → j ∈ needs o)
set_option maxRecDepth 100000 in
set_option maxHeartbeats 4000000 in
theorem region_put {ops : Array Oper} (hs : IsPut ops) {lp m id : Nat} {Q : Exit → Act → World → Prop} {a : Act} {W w1 wf : World} {bx : Addr} {go co tt nn len c c2 : Nat} {f : Int} {A A2 : Option Addr}
    (hm : Try.prog.follows .mixedOrders = true) (htz : 66 ≤ a.tmps.size) (k13 : a.eval (.tmp 13) = .pointer (some bx)) (k15 : a.eval (.tmp 15) = .int .i64 f) (k16 : a.eval (.tmp 16) = .int .i64 (tt : Int)) (htt : tt < nn)
    (hb0 : W.drew.cell? bx = some (.slice (some ⟨go, 0, none⟩) nn co)) (hb1 : (W.drew.alloc (.cells #[.int .i64 f] 3)).cell? bx = some (.slice (some ⟨go, 0, none⟩) nn co)) (hb2 : w1.cell? bx = some (.slice (some ⟨go, 0, none⟩) nn co))
    (he0 : W.drew.cell? ⟨go, tt, none⟩ = some (.slice A len c)) (he1 : (W.drew.alloc (.cells #[.int .i64 f] 3)).cell? ⟨go, tt, none⟩ = some (.slice A len c))
    (hap : (Builtin.append_ #[25, 25] 25 #[.slice A len c, .slice (some ⟨W.drew.heap.size, 0, none⟩) 1 1]).run Try.prog (W.drew.alloc (.cells #[.int .i64 f] 3)) = .ok (.slice A2 (len + 1) c2) w1)
    (hst : w1.cell? ⟨go, tt, none⟩ = some (.slice A len c)) (hfr : w1.frozen? ⟨go, tt, none⟩ = false) (hwf : wf = w1.setCell ⟨go, tt, none⟩ (.slice A2 (len + 1) c2))
    (hQ : ∀ a', Q .normal a' wf) : (Code.region id ops true).wpIn (Fence.wide.inRound lp) m Try.prog Q a W := by
  refine wpIn_region_any hm ?_
  change wpAnyIn _ _ _ _ _ _ _ _ _ W.drew
  obtain ⟨V, hV⟩ : ∃ V, V = W.drew := ⟨_, rfl⟩
  rw [← hV] at hb0 hb1 he0 he1 hap ⊢
  have hrep : ∀ j, (Array.replicate ops.size false).getD j false = false := fun j => by
    rw [Array.getD_eq_getD_getElem?, Array.getElem?_replicate]; split <;> rfl
  refine wpAnyIn_inv (RP bx go co tt nn len c c2 f A A2 V w1 wf) ?step ?done _ _ _ _ ?meas ?init
  case meas => rw [hs.sz]; rfl
  case init =>
    refine ⟨by simp [hs.sz], htz, k13, k15, k16, ?_, ?_, ?_, ?_, ?_, ?_, ?_, ?_, ?_, ?_, ?_, ?_, ?_⟩
    all_goals first | (intro h; rw [hrep] at h; cases h) | (rw [hrep, hrep, hrep]; rfl)
  case done =>
    intro L a' w' H hr
    have hz := H.sz
    have l0 : L.getD 0 false = true := by obtain ⟨o, ho, _, _, _, _, hn, _⟩ := hs.o0; exact listed_of hr ho (by omega) (fun j hj => by have := hn j hj; simp at this)
    have l1 : L.getD 1 false = true := by obtain ⟨o, ho, _, _, _, _, hn, _⟩ := hs.o1; exact listed_of hr ho (by omega) (fun j hj => by have := hn j hj; simp at this)
    have l2 : L.getD 2 false = true := by obtain ⟨o, ho, _, _, _, _, hn, _⟩ := hs.o2; exact listed_of hr ho (by omega) (fun j hj => by have := hn j hj; simp at this)
    have l3 : L.getD 3 false = true := by obtain ⟨o, ho, _, _, _, _, hn, _⟩ := hs.o3; exact listed_of hr ho (by omega) (fun j hj => by have := hn j hj; simp at this)
    have l4 : L.getD 4 false = true := by obtain ⟨o, ho, _, _, _, _, hn, _⟩ := hs.o4; exact listed_of hr ho (by omega) (fun j hj => by have := hn j hj; simp at this; rcases this with rfl | rfl <;> assumption)
    have l5 : L.getD 5 false = true := by obtain ⟨o, ho, _, _, _, _, hn, _⟩ := hs.o5; exact listed_of hr ho (by omega) (fun j hj => by have := hn j hj; simp at this; rcases this with rfl <;> assumption)
    have l6 : L.getD 6 false = true := by obtain ⟨o, ho, _, _, _, _, hn, _⟩ := hs.o6; exact listed_of hr ho (by omega) (fun j hj => by have := hn j hj; simp at this)
    have l7 : L.getD 7 false = true := by obtain ⟨o, ho, _, _, _, _, hn, _⟩ := hs.o7; exact listed_of hr ho (by omega) (fun j hj => by have := hn j hj; simp at this; rcases this with rfl <;> assumption)
    have l8 : L.getD 8 false = true := by obtain ⟨o, ho, _, _, _, _, hn, _⟩ := hs.o8; exact listed_of hr ho (by omega) (fun j hj => by have := hn j hj; simp at this; rcases this with rfl | rfl <;> assumption)
    have l9 : L.getD 9 false = true := by obtain ⟨o, ho, _, _, _, _, hn, _⟩ := hs.o9; exact listed_of hr ho (by omega) (fun j hj => by have := hn j hj; simp at this; rcases this with rfl | rfl | rfl | rfl | rfl | rfl | rfl | rfl | rfl <;> assumption)
    have l10 : L.getD 10 false = true := by
      obtain ⟨o, ho, _, _, _, hn, _⟩ := hs.o10
      exact listed_of hr ho (by omega) (fun j hj => by
        have := hn j hj
        rcases (by omega : j = 0 ∨ j = 1 ∨ j = 2 ∨ j = 3 ∨ j = 4 ∨ j = 5 ∨ j = 6 ∨ j = 7 ∨ j = 8 ∨ j = 9) with rfl | rfl | rfl | rfl | rfl | rfl | rfl | rfl | rfl | rfl <;> assumption)
    have := H.ww
    rw [if_pos l10] at this
    rw [this]
    exact hQ a'
  case step =>
    intro L a' w' i H hi
    obtain ⟨o, ho, hop, hdep⟩ := ready_mem hi
    have hop2 := gd_open hop
    have hi11 : i < 11 := by have := (Array.getElem?_eq_some_iff.1 ho).1; have := hs.sz; omega
    have hbox : L.getD 10 false = false → w'.cell? bx = some (.slice (some ⟨go, 0, none⟩) nn co) := by
      intro h10
      rw [H.ww, h10, if_neg (by decide)]
      split
      · exact hb2
      · split
        · exact hb1
        · exact hb0
    rcases (by omega : i = 0 ∨ i = 1 ∨ i = 2 ∨ i = 3 ∨ i = 4 ∨ i = 5 ∨ i = 6 ∨ i = 7 ∨ i = 8 ∨ i = 9 ∨ i = 10) with rfl | rfl | rfl | rfl | rfl | rfl | rfl | rfl | rfl | rfl | rfl
    · obtain ⟨o2, ho2, h1, h2, h3, _, h5, h6⟩ := hs.o0
      obtain rfl := Option.some.inj (ho.symm.trans ho2)
      refine wpOpIn_val (fun _ => trivial) ho h3 (by intro c h; rw [h1] at h; cases h) (ex_load22 h1 H.k13 (hbox (H.world (by omega) hop2))) ?_
      rw [h2]
      exact H.put0 hop2 rfl
    · obtain ⟨o2, ho2, h1, h2, h3, _, h5, h6⟩ := hs.o1
      obtain rfl := Option.some.inj (ho.symm.trans ho2)
      refine wpOpIn_val (fun _ => trivial) ho h3 (by intro c h; rw [h1] at h; cases h) ((ex_move h1).trans (by rw [H.k16])) ?_
      rw [h2]
      exact H.put1 hop2 rfl
    · obtain ⟨o2, ho2, h1, h2, h3, _, h5, h6⟩ := hs.o2
      obtain rfl := Option.some.inj (ho.symm.trans ho2)
      refine wpOpIn_val (fun _ => trivial) ho h3 (by intro c h; rw [h1] at h; cases h) (ex_load22 h1 H.k13 (hbox (H.world (by omega) hop2))) ?_
      rw [h2]
      exact H.put2 hop2 rfl
    · obtain ⟨o2, ho2, h1, h2, h3, _, h5, h6⟩ := hs.o3
      obtain rfl := Option.some.inj (ho.symm.trans ho2)
      refine wpOpIn_val (fun _ => trivial) ho h3 (by intro c h; rw [h1] at h; cases h) ((ex_move h1).trans (by rw [H.k16])) ?_
      rw [h2]
      exact H.put3 hop2 rfl
    · obtain ⟨o2, ho2, h1, h2, h3, _, h5, h6⟩ := hs.o4
      obtain rfl := Option.some.inj (ho.symm.trans ho2)
      refine wpOpIn_val (fun _ => trivial) ho h3 (by intro c h; rw [h1] at h; cases h) (ex_index h1 (H.v2 (needs_of hdep (h6 2 (by simp)))) (H.v3 (needs_of hdep (h6 3 (by simp)))) htt) ?_
      rw [h2]
      exact H.put4 hop2 rfl
    · obtain ⟨o2, ho2, h1, h2, h3, _, h5, h6⟩ := hs.o5
      obtain rfl := Option.some.inj (ho.symm.trans ho2)
      have h8 : L.getD 8 false = false := by
        cases e : L.getD 8 false with
        | false => rfl
        | true => have := (H.c8 e).1; rw [hop2] at this; cases this
      have hce : w'.cell? ⟨go, tt, none⟩ = some (.slice A len c) := by
        rw [H.ww, H.world (j := 5) (by omega) hop2, h8, if_neg (by decide), if_neg (by decide)]
        split
        · exact he1
        · exact he0
      refine wpOpIn_val (fun _ => trivial) ho h3 (by intro c h; rw [h1] at h; cases h) (ex_load25 h1 (H.v4 (needs_of hdep (h6 4 (by simp)))) hce) ?_
      rw [h2]
      exact H.put5 hop2 rfl
    · obtain ⟨o2, ho2, h1, h2, h3, _, h5, h6⟩ := hs.o6
      obtain rfl := Option.some.inj (ho.symm.trans ho2)
      refine wpOpIn_val (fun _ => trivial) ho h3 (by intro c h; rw [h1] at h; cases h) ((ex_move h1).trans (by rw [H.k15])) ?_
      rw [h2]
      exact H.put6 hop2 rfl
    · obtain ⟨o2, ho2, h1, h2, h3, _, h5, h6⟩ := hs.o7
      obtain rfl := Option.some.inj (ho.symm.trans ho2)
      have h8 : L.getD 8 false = false := by
        cases e : L.getD 8 false with
        | false => rfl
        | true => have := (H.c8 e).2; rw [hop2] at this; cases this
      have hw : w' = V := by rw [H.ww, H.world (j := 7) (by omega) hop2, h8, hop2]; rfl
      subst hw
      refine wpOpIn_val (fun _ => trivial) ho h3 (by intro c h; rw [h1] at h; cases h) (ex_build h1 (H.v6 (needs_of hdep (h6 6 (by simp))))) ?_
      rw [h2]
      exact H.put7 hop2 rfl
    · obtain ⟨o2, ho2, h1, h2, h3, _, h5, h6, h7⟩ := hs.o8
      obtain rfl := Option.some.inj (ho.symm.trans ho2)
      have l5 := (needs_of hdep (h6 5 (by simp)))
      have l7 := (needs_of hdep (h6 7 (by simp)))
      have hw : w' = V.alloc (.cells #[.int .i64 f] 3) := by rw [H.ww, H.world (j := 8) (by omega) hop2, hop2, l7]; rfl
      subst hw
      refine wpOpIn_val (fun _ => trivial) ho h3 (by intro c h; rw [h1] at h; cases h) (ex_append h1 h7 (H.v5 l5) (H.v7 l7) hap) ?_
      rw [h2]
      exact H.put8 hop2 l5 l7 rfl
    · obtain ⟨o2, ho2, h1, h2, h3, _, h5, h6⟩ := hs.o9
      obtain rfl := Option.some.inj (ho.symm.trans ho2)
      refine wpOpIn_val (fun _ => trivial) ho h3 (by intro c h; rw [h1] at h; cases h) (ex_index h1 (H.v0 (needs_of hdep (h6 0 (by simp)))) (H.v1 (needs_of hdep (h6 1 (by simp)))) htt) ?_
      rw [h2]
      exact H.put9 hop2 rfl
    · obtain ⟨o2, ho2, h1, h2, h3, h5, h6⟩ := hs.o10
      obtain rfl := Option.some.inj (ho.symm.trans ho2)
      have hall : ∀ j, j < 10 → L.getD j false = true := fun j hj => needs_of hdep (h6 j hj)
      have hw : w' = w1 := by rw [H.ww, hop2, hall 8 (by omega)]; rfl
      subst hw
      refine wpOpIn_skip (fun _ => trivial) ho h3 (by intro c h; rw [h1] at h; cases h) (ex_store h1 (H.v9 (hall 9 (by omega))) (H.v8 (hall 8 (by omega))) hst hfr) ?_
      rw [h2]
      exact H.put10 hall hwf.symm
end Go.Proofs.Ytikdcoahoocpjaa.Q
