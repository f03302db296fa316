/-
  A map with int keys, told by an association list (Mp): what a look-up, a store, a delete and len come to. Words for this seat's walks over maps.
-/
import Derived.Test.YtikdcoahoocpjaaQ0
import Derived.Maps.RangeWalk
import Derived.Maps.Ext
namespace Go.Proofs.Ytikdcoahoocpjaa.Sd
variable {β : Type}
def lku (m : List (Int × β)) (k : Int) : Option β := (m.find? (fun p => p.1 == k)).map (·.2)
def rmv (m : List (Int × β)) (k : Int) : List (Int × β) := m.filter (fun p => p.1 != k)
def ins (m : List (Int × β)) (k : Int) (v : β) : List (Int × β) := (k, v) :: rmv m k
end Go.Proofs.Ytikdcoahoocpjaa.Sd
namespace Go.Proofs.Ytikdcoahoocpjaa.Q
open Go.Proofs.Ytikdcoahoocpjaa.Sd
open Go.WideShapes
set_option linter.unusedVariables false
section
variable {H β : Type} {enc : β → DataW H} {m : List (Int × β)} {D : DataW H} {k : Int} {c : β}

def ky (k : Int) : Lit := .int .i64 k
/-- The datum D is the map whose entries are those of m, in some order. -/
def Mp (enc : β → DataW H) (m : List (Int × β)) (D : DataW H) : Prop :=
  (m.map (·.1)).Nodup ∧ ∃ es, D = .map es ∧ es.Perm (m.map fun p => (ky p.1, enc p.2))

theorem ky_same (a b : Int) : (ky a).sameKey (ky b) = (a == b) := by
  simp only [ky, Lit.sameKey, true_and]
  by_cases h : a = b <;> simp [h]
theorem ky_inj {a b : Int} (h : ky a = ky b) : a = b := by simpa [ky] using h
theorem keyLit_ky (k : Int) : WideAt.IsKeyLit (ky k) := trivial
theorem Mp.empty (enc : β → DataW H) : Mp enc [] (.map []) := ⟨by simp, [], rfl, by simp⟩

theorem get_none_iff : lku m k = none ↔ ∀ p ∈ m, p.1 ≠ k := by
  simp [lku, List.find?_eq_none]
theorem get_some_mem (h : lku m k = some c) : (k, c) ∈ m := by
  unfold lku at h
  cases hf : m.find? (fun p => p.1 == k) with
  | none => rw [hf] at h; cases h
  | some p =>
    rw [hf] at h
    have h1 := List.mem_of_find?_eq_some hf
    have h2 := List.find?_some hf
    simp only [Option.map_some, Option.some.injEq] at h
    have : p.1 = k := by simpa using h2
    rw [← this, ← h]; exact h1
theorem mem_get : ∀ {m : List (Int × β)}, (m.map (·.1)).Nodup → (k, c) ∈ m → lku m k = some c
  | [], _, h => by cases h
  | a :: r, hn, h => by
    simp only [List.map_cons, List.nodup_cons] at hn
    rcases List.mem_cons.1 h with e | h1
    · subst e; simp [lku]
    · have h2 : a.1 ≠ k := fun e => hn.1 (List.mem_map.2 ⟨_, h1, e.symm⟩)
      have h3 := mem_get hn.2 h1
      simp only [lku, List.find?_cons] at h3 ⊢
      rw [show (a.1 == k) = false from by simpa using h2]
      exact h3
theorem get_isSome : (lku m k).isSome = m.any (fun p => p.1 == k) := by
  induction m with
  | nil => rfl
  | cons a r ih =>
    simp only [lku, List.find?_cons, List.any_cons] at ih ⊢
    cases a.1 == k <;> simp_all

theorem Mp.apart (h : Mp enc m D) : ∃ es, D = .map es ∧ es.Perm (m.map fun p => (ky p.1, enc p.2)) ∧ es.Pairwise (fun p q => p.1 ≠ q.1) := by
  obtain ⟨hn, es, rfl, hp⟩ := h
  refine ⟨es, rfl, hp, (hp.pairwise_iff (fun {a b} (h : a.1 ≠ b.1) => h.symm)).2 ?_⟩
  rw [List.pairwise_map]
  rw [List.Nodup, List.pairwise_map] at hn
  exact hn.imp (fun {a b} h e => h (ky_inj e))
theorem Mp.has (h : Mp enc m D) (k : Int) : Maps.has D (ky k) = (lku m k).isSome := by
  obtain ⟨hn, es, rfl, hp⟩ := h
  rw [Maps.has_eq, hp.any_eq, get_isSome, List.any_map]
  congr 1
  funext p
  exact ky_same _ _
theorem Mp.at_ (h : Mp enc m D) (hg : lku m k = some c) (z : DataW H) : D.atKey (ky k) z = enc c := by
  obtain ⟨es, rfl, hp, ha⟩ := h.apart
  exact WideAt.atKey_mem z (keyLit_ky k) ha (hp.mem_iff.2 (List.mem_map.2 ⟨(k, c), get_some_mem hg, rfl⟩))
theorem Mp.at_none (h : Mp enc m D) (hg : lku m k = none) (z : DataW H) : D.atKey (ky k) z = z :=
  Maps.atKey_of_not_has (by rw [h.has, hg]; rfl) z
theorem Mp.atD (h : Mp enc m D) (k : Int) (d : β) : D.atKey (ky k) (enc d) = enc ((lku m k).getD d) := by
  cases hg : lku m k with
  | none => rw [h.at_none hg]; rfl
  | some c => rw [h.at_ hg]; rfl
theorem Mp.len (h : Mp enc m D) : Maps.size D = m.length := by
  obtain ⟨hn, es, rfl, hp⟩ := h
  rw [Maps.size_eq, hp.length_eq, List.length_map]
theorem rmv_map : ((rmv m k).map fun p => (ky p.1, enc p.2)) = (m.map fun p => (ky p.1, enc p.2)).filter (fun p => !p.1.sameKey (ky k)) := by
  rw [List.filter_map]
  congr 1
  unfold rmv
  congr 1
  funext p
  simp [ky_same, bne]
theorem Mp.dele (h : Mp enc m D) (k : Int) : Mp enc (rmv m k) (D.del (ky k)) := by
  obtain ⟨hn, es, rfl, hp⟩ := h
  refine ⟨?_, _, rfl, ?_⟩
  · exact (List.filter_sublist.map _).nodup hn
  · rw [rmv_map]; exact hp.filter _
theorem rmv_keys : k ∉ (rmv m k).map (·.1) := by
  intro h
  obtain ⟨p, hp, e⟩ := List.mem_map.1 h
  have := (List.mem_filter.1 hp).2
  simp [e] at this
theorem Mp.put (h : Mp enc m D) (k : Int) (c : β) : Mp enc (ins m k c) (D.put (ky k) (enc c)) := by
  have hd := h.dele k
  obtain ⟨hn, es, rfl, hp⟩ := h
  refine ⟨?_, _, rfl, ?_⟩
  · simp only [Sd.ins, List.map_cons, List.nodup_cons]
    exact ⟨rmv_keys, hd.1⟩
  · refine (insert_perm _ _).trans ?_
    simp only [Sd.ins, List.map_cons]
    refine List.Perm.cons _ ?_
    rw [rmv_map]; exact hp.filter _
/-- An entry that a range has shown. -/
theorem Mp.entry {m : List (Int × Int)} {D : DataW H} {x c : Int} (h : Mp (fun c => .lit (.int .i64 c)) m D) (hat : ∀ zd, D.atKey (.int .i64 x) zd = .lit (.int .i64 c)) : (x, c) ∈ m := by
  have h1 := Maps.has_true_of_atKey hat
  have h2 := h.has x
  rw [show ky x = .int .i64 x from rfl, h1] at h2
  cases hg : lku m x with
  | none => rw [hg] at h2; cases h2
  | some c' =>
    have h3 := h.at_ hg .nil
    rw [show ky x = .int .i64 x from rfl, hat] at h3
    simp only [DataW.lit.injEq, Lit.int.injEq, true_and] at h3
    rw [h3]
    exact get_some_mem hg
end
end Go.Proofs.Ytikdcoahoocpjaa.Q
