/-
  A slice of slices of ints, and a slice of ints, as they come in: told as rows that are read. No condition.
-/
import Derived.Test.YtikdcoahoocpjaaECheck
import Derived.Deep.Matrix
import Derived.ChangeSlices
namespace Go.Proofs.Ytikdcoahoocpjaa.V
open Go.RowKit Go.ChangeShapes Go.Proofs.Ytikdcoahoocpjaa.Q Go.Proofs.YtikdcoahoocpjaaW.PrintWords
set_option linter.unusedVariables false
theorem okI_wf {x : Int} (h : (Lit.int .i64 x).wf = true) : okI x = true := by
  unfold Lit.wf at h
  simp only [Bool.and_eq_true, decide_eq_true_eq] at h
  unfold okI
  have h1 : IntKind.i64.min = -9223372036854775808 := by decide
  have h2 : IntKind.i64.max = 9223372036854775807 := by decide
  rw [h1, h2] at h
  rw [decide_eq_true h.1, decide_eq_true h.2]; rfl
theorem row_I {W : World} {A : Option Addr} {len cap : Nat} {zs : List Int} (hl : len ≤ cap) (hm : cap ≤ maxLen) (hz : zs.length = cap) (hn : A = none → cap = 0) (hc : ∀ a', A = some a' → ∀ c, c < cap → W.cell? (a'.add c) = some (.int .i64 (zs.getD c 0))) :
    Kd.C (Kd.int .i64) W A (zs.take len).length (zs.take len) := by
  have hlen : (zs.take len).length = len := by simp; omega
  have hmx : maxLen = 9223372036854775807 := by decide
  refine ⟨rfl, by omega, fun hp => ?_⟩
  cases A with
  | none => have := hn rfl; omega
  | some a' =>
    refine ⟨a', rfl, fun j p hj => ⟨[.int .i64 p], rfl, rfl, fun i u hu => ?_⟩⟩
    cases i with
    | succ i => simp at hu
    | zero =>
      have hu' : Value.int .i64 p = u := by simpa using hu
      subst hu'
      have hjl := (List.getElem?_eq_some_iff.1 hj).1
      have := hc a' rfl j (by omega)
      rw [show (Kd.int .i64).sz = 1 from rfl, Nat.mul_one, Nat.add_zero, this]
      rw [List.getElem?_take] at hj
      split at hj
      · rw [List.getD_eq_getElem?_getD, hj]; rfl
      · cases hj
section
variable {H : Type} {enc : TypeId × Value → H} {W : World} {base : Nat} {held : Bool}
theorem open_I {fuel : Nat} {a0 : Option Addr} {len0 cap0 : Nat} {x : DataW H × List MemPlace} (h : DataW.trod enc Try.prog W base (fun _ => true) held fuel 25 (Value.slice a0 len0 cap0).cells.toList = some x) :
    ∃ l : List Int, l.length = len0 ∧ Kd.C (Kd.int .i64) W a0 l.length l ∧ l.length ≤ cap0 ∧ ∀ g ∈ l, okI g = true := by
  rcases open_ints Try.underlying25 Try.underlying3 (by kernel_rfl) h with ⟨hcs, _⟩ | ⟨a, l, c, zs, hcs, _, hl, hm, hz, _, hcell, hwz⟩
  · simp [Value.cells] at hcs
    obtain ⟨rfl, rfl, rfl⟩ := hcs
    exact ⟨[], rfl, Kd.C_nil _ _, Nat.le_refl _, fun g hg => (List.not_mem_nil hg).elim⟩
  · simp [Value.cells] at hcs
    obtain ⟨rfl, rfl, rfl⟩ := hcs
    simp only [if_true] at hz
    refine ⟨zs.take len0, by simp; omega, row_I hl hm hz (fun e => by cases e) (fun a' e k hk => by cases e; exact hcell k (by omega)), by simp; omega, fun g hg => okI_wf (hwz g (List.mem_of_mem_take hg))⟩
theorem open_L {fuel : Nat} {a0 : Option Addr} {len0 cap0 : Nat} {x : DataW H × List MemPlace} (h : DataW.trod enc Try.prog W base (fun _ => true) held fuel 22 (Value.slice a0 len0 cap0).cells.toList = some x) :
    ∃ l : List (List Int), l.length = len0 ∧ Kd.C (Kd.slice 3 (Kd.int .i64)) W a0 l.length l ∧ l.length ≤ cap0 ∧ ∀ y ∈ l, ∀ g ∈ y, okI g = true := by
  rcases Go.Deep.open_int_rows Try.underlying22 Try.underlying25 Try.underlying3 (by kernel_rfl) (by kernel_rfl) h with ⟨hcs, _⟩ | ⟨a, len, cap, A, L, C, Z, hcs, _, hl, hm, _, hrow⟩
  · simp [Value.cells] at hcs
    obtain ⟨rfl, rfl, rfl⟩ := hcs
    exact ⟨[], rfl, Kd.C_nil _ _, Nat.le_refl _, fun g hg => (List.not_mem_nil hg).elim⟩
  · simp [Value.cells] at hcs
    obtain ⟨rfl, rfl, rfl⟩ := hcs
    have hmx : maxLen = 9223372036854775807 := by decide
    refine ⟨(List.range len0).map (fun r => (Z r).take (L r)), by simp, ⟨rfl, by simp; omega, fun _ => ⟨a, rfl, fun j p hj => ?_⟩⟩, by simp; omega, fun y hy g hg => ?_⟩
    · rw [List.getElem?_map] at hj
      obtain ⟨r, hr, rfl⟩ := Option.map_eq_some_iff.1 hj
      have hr2 := (List.getElem?_eq_some_iff.1 hr).1
      rw [List.length_range] at hr2
      rw [List.getElem?_range hr2] at hr
      obtain rfl := Option.some.inj hr
      obtain ⟨r1, r2, r3, r4, r5, r6, r7⟩ := hrow j (by omega)
      have hlen : ((Z j).take (L j)).length = L j := by simp; omega
      refine ⟨[.slice (A j) (L j) (C j)], rfl, ⟨A j, C j, by rw [hlen], by omega, row_I r2 r3 r4 r6 (fun a' e c hc => (r7 a' e).2 c hc)⟩, fun i u hu => ?_⟩
      cases i with
      | succ i => simp at hu
      | zero =>
        have hu' : Value.slice (A j) (L j) (C j) = u := by simpa using hu
        subst hu'
        rw [show (Kd.slice 3 (Kd.int .i64)).sz = 1 from rfl, Nat.mul_one, Nat.add_zero]
        exact r1
    · obtain ⟨r, hr, rfl⟩ := List.mem_map.1 hy
      obtain ⟨r1, r2, r3, r4, r5, r6, r7⟩ := hrow r (by have := List.mem_range.1 hr; omega)
      exact okI_wf (r5 g (List.mem_of_mem_take hg))
end
end Go.Proofs.Ytikdcoahoocpjaa.V
