/-
  A map with int keys, told by an association list (Mp): what a look-up, a store, a delete and len come to; the same at a walk's operations.
-/
import Derived.Test.YtikdcoahoocpjaaQ0
import Derived.Maps.RangeWalk
import Derived.Maps.Ext
import Derived.Test.YtikdcoahoocpjaaWMore
namespace Go.Proofs.Ytikdcoahoocpjaa.Sd
variable {β : Type}
def lku (m : List (Int × β)) (k : Int) : Option β := (m.find? (fun p => p.1 == k)).map (·.2)
def rmv (m : List (Int × β)) (k : Int) : List (Int × β) := m.filter (fun p => p.1 != k)
def ins (m : List (Int × β)) (k : Int) (v : β) : List (Int × β) := (k, v) :: rmv m k
end Go.Proofs.Ytikdcoahoocpjaa.Sd
namespace Go.Proofs.Ytikdcoahoocpjaa.Q
open Go.Proofs.Ytikdcoahoocpjaa.Sd
open Go.WideShapes
set_option linter.unusedVariables false
section
variable {H β : Type} {enc : β → DataW H} {m : List (Int × β)} {D : DataW H} {k : Int} {c : β}

def ky (k : Int) : Lit := .int .i64 k
/-- The datum D is the map whose entries are those of m, in some order. -/
def Mp (enc : β → DataW H) (m : List (Int × β)) (D : DataW H) : Prop :=
  (m.map (·.1)).Nodup ∧ ∃ es, D = .map es ∧ es.Perm (m.map fun p => (ky p.1, enc p.2))

theorem ky_same (a b : Int) : (ky a).sameKey (ky b) = (a == b) := by
  simp only [ky, Lit.sameKey, true_and]
  by_cases h : a = b <;> simp [h]
theorem ky_inj {a b : Int} (h : ky a = ky b) : a = b := by simpa [ky] using h
theorem keyLit_ky (k : Int) : WideAt.IsKeyLit (ky k) := trivial
theorem Mp.empty (enc : β → DataW H) : Mp enc [] (.map []) := ⟨by simp, [], rfl, by simp⟩

theorem get_none_iff : lku m k = none ↔ ∀ p ∈ m, p.1 ≠ k := by
  simp [lku, List.find?_eq_none]
theorem get_some_mem (h : lku m k = some c) : (k, c) ∈ m := by
  unfold lku at h
  cases hf : m.find? (fun p => p.1 == k) with
  | none => rw [hf] at h; cases h
  | some p =>
    rw [hf] at h
    have h1 := List.mem_of_find?_eq_some hf
    have h2 := List.find?_some hf
    simp only [Option.map_some, Option.some.injEq] at h
    have : p.1 = k := by simpa using h2
    rw [← this, ← h]; exact h1
theorem mem_get : ∀ {m : List (Int × β)}, (m.map (·.1)).Nodup → (k, c) ∈ m → lku m k = some c
  | [], _, h => by cases h
  | a :: r, hn, h => by
    simp only [List.map_cons, List.nodup_cons] at hn
    rcases List.mem_cons.1 h with e | h1
    · subst e; simp [lku]
    · have h2 : a.1 ≠ k := fun e => hn.1 (List.mem_map.2 ⟨_, h1, e.symm⟩)
      have h3 := mem_get hn.2 h1
      simp only [lku, List.find?_cons] at h3 ⊢
      rw [show (a.1 == k) = false from by simpa using h2]
      exact h3
theorem get_isSome : (lku m k).isSome = m.any (fun p => p.1 == k) := by
  induction m with
  | nil => rfl
  | cons a r ih =>
    simp only [lku, List.find?_cons, List.any_cons] at ih ⊢
    cases a.1 == k <;> simp_all

theorem Mp.apart (h : Mp enc m D) : ∃ es, D = .map es ∧ es.Perm (m.map fun p => (ky p.1, enc p.2)) ∧ es.Pairwise (fun p q => p.1 ≠ q.1) := by
  obtain ⟨hn, es, rfl, hp⟩ := h
  refine ⟨es, rfl, hp, (hp.pairwise_iff (fun {a b} (h : a.1 ≠ b.1) => h.symm)).2 ?_⟩
  rw [List.pairwise_map]
  rw [List.Nodup, List.pairwise_map] at hn
  exact hn.imp (fun {a b} h e => h (ky_inj e))
theorem Mp.has (h : Mp enc m D) (k : Int) : Maps.has D (ky k) = (lku m k).isSome := by
  obtain ⟨hn, es, rfl, hp⟩ := h
  rw [Maps.has_eq, hp.any_eq, get_isSome, List.any_map]
  congr 1
  funext p
  exact ky_same _ _
theorem Mp.at_ (h : Mp enc m D) (hg : lku m k = some c) (z : DataW H) : D.atKey (ky k) z = enc c := by
  obtain ⟨es, rfl, hp, ha⟩ := h.apart
  exact WideAt.atKey_mem z (keyLit_ky k) ha (hp.mem_iff.2 (List.mem_map.2 ⟨(k, c), get_some_mem hg, rfl⟩))
theorem Mp.at_none (h : Mp enc m D) (hg : lku m k = none) (z : DataW H) : D.atKey (ky k) z = z :=
  Maps.atKey_of_not_has (by rw [h.has, hg]; rfl) z
theorem Mp.atD (h : Mp enc m D) (k : Int) (d : β) : D.atKey (ky k) (enc d) = enc ((lku m k).getD d) := by
  cases hg : lku m k with
  | none => rw [h.at_none hg]; rfl
  | some c => rw [h.at_ hg]; rfl
theorem Mp.len (h : Mp enc m D) : Maps.size D = m.length := by
  obtain ⟨hn, es, rfl, hp⟩ := h
  rw [Maps.size_eq, hp.length_eq, List.length_map]
theorem rmv_map : ((rmv m k).map fun p => (ky p.1, enc p.2)) = (m.map fun p => (ky p.1, enc p.2)).filter (fun p => !p.1.sameKey (ky k)) := by
  rw [List.filter_map]
  congr 1
  unfold rmv
  congr 1
  funext p
  simp [ky_same, bne]
theorem Mp.dele (h : Mp enc m D) (k : Int) : Mp enc (rmv m k) (D.del (ky k)) := by
  obtain ⟨hn, es, rfl, hp⟩ := h
  refine ⟨?_, _, rfl, ?_⟩
  · exact (List.filter_sublist.map _).nodup hn
  · rw [rmv_map]; exact hp.filter _
theorem rmv_keys : k ∉ (rmv m k).map (·.1) := by
  intro h
  obtain ⟨p, hp, e⟩ := List.mem_map.1 h
  have := (List.mem_filter.1 hp).2
  simp [e] at this
theorem Mp.put (h : Mp enc m D) (k : Int) (c : β) : Mp enc (ins m k c) (D.put (ky k) (enc c)) := by
  have hd := h.dele k
  obtain ⟨hn, es, rfl, hp⟩ := h
  refine ⟨?_, _, rfl, ?_⟩
  · simp only [Sd.ins, List.map_cons, List.nodup_cons]
    exact ⟨rmv_keys, hd.1⟩
  · refine (insert_perm _ _).trans ?_
    simp only [Sd.ins, List.map_cons]
    refine List.Perm.cons _ ?_
    rw [rmv_map]; exact hp.filter _
/-- An entry that a range has shown. -/
theorem Mp.entry {m : List (Int × Int)} {D : DataW H} {x c : Int} (h : Mp (fun c => .lit (.int .i64 c)) m D) (hat : ∀ zd, D.atKey (.int .i64 x) zd = .lit (.int .i64 c)) : (x, c) ∈ m := by
  have h1 := Maps.has_true_of_atKey hat
  have h2 := h.has x
  rw [show ky x = .int .i64 x from rfl, h1] at h2
  cases hg : lku m x with
  | none => rw [hg] at h2; cases h2
  | some c' =>
    have h3 := h.at_ hg .nil
    rw [show ky x = .int .i64 x from rfl, hat] at h3
    simp only [DataW.lit.injEq, Lit.int.injEq, true_and] at h3
    rw [h3]
    exact get_some_mem hg
end
end Go.Proofs.Ytikdcoahoocpjaa.Q
namespace Go.Proofs.Ytikdcoahoocpjaa.Q
open Go.Proofs.Ytikdcoahoocpjaa.Sd
open Go.RowKit Go.Maps Go.Proofs.YtikdcoahoocpjaaW.PrintWords Go.Proofs.YtikdcoahoocpjaaW.PrintLast Go.Proofs.YtikdcoahoocpjaaW.PrintMore
set_option linter.unusedVariables false

def encI (c : Int) : DataW Unit := .lit (.int .i64 c)
def encB (c : Bool) : DataW Unit := .lit (.bool c)
/-- Block b is a map[int]int (key type k, element type e) of at most n entries: those of m. -/
def OM (P : Program) (k e : TypeId) (w : World) (b n : Nat) (m : List (Int × Int)) : Prop := ∃ D, w.ownsMap P k (plainElem (H := Unit) P e) b n D ∧ Mp encI m D
/-- Block b is a map[int]bool. -/
def OB (P : Program) (k e : TypeId) (w : World) (b n : Nat) (m : List (Int × Bool)) : Prop := ∃ D, w.ownsMap P k (plainElem (H := Unit) P e) b n D ∧ Mp encB m D

section
variable {P : Program} {k e : TypeId} {w w1 : World} {b n : Nat} {m : List (Int × Int)} {mb : List (Int × Bool)}
theorem OM.kept {row : Option Nat} (h : OM P k e w b n m) (hg : w.grownBy w1 row) (hne : some b ≠ row) : OM P k e w1 b n m := by
  obtain ⟨D, h1, h2⟩ := h
  exact ⟨D, h1.kept hg hne, h2⟩
theorem OB.kept {row : Option Nat} (h : OB P k e w b n mb) (hg : w.grownBy w1 row) (hne : some b ≠ row) : OB P k e w1 b n mb := by
  obtain ⟨D, h1, h2⟩ := h
  exact ⟨D, h1.kept hg hne, h2⟩
theorem OM.mono {n' : Nat} (h : OM P k e w b n m) (hn : n ≤ n') : OM P k e w b n' m := by
  obtain ⟨D, h1, h2⟩ := h
  exact ⟨D, h1.mono hn, h2⟩
theorem OB.mono {n' : Nat} (h : OB P k e w b n mb) (hn : n ≤ n') : OB P k e w b n' mb := by
  obtain ⟨D, h1, h2⟩ := h
  exact ⟨D, h1.mono hn, h2⟩
theorem OM.below (h : OM P k e w b n m) (hb : Below w.heap.size w w1) : OM P k e w1 b n m := h.kept (grown_of_below hb none) (by simp)
theorem OB.below (h : OB P k e w b n mb) (hb : Below w.heap.size w w1) : OB P k e w1 b n mb := h.kept (grown_of_below hb none) (by simp)
theorem OM.alloc (h : OM P k e w b n m) (o : Obj) : OM P k e (w.alloc o) b n m := h.kept (World.grownBy_alloc w o none) (by simp)
theorem OB.alloc (h : OB P k e w b n mb) (o : Obj) : OB P k e (w.alloc o) b n mb := h.kept (World.grownBy_alloc w o none) (by simp)
theorem OM.setCell (h : OM P k e w b n m) {a : Addr} (ha : b ≠ a.block) (u : Value) : OM P k e (w.setCell a u) b n m := by
  obtain ⟨D, h1, h2⟩ := h
  exact ⟨D, h1.setCell ha u, h2⟩
theorem OB.setCell (h : OB P k e w b n mb) {a : Addr} (ha : b ≠ a.block) (u : Value) : OB P k e (w.setCell a u) b n mb := by
  obtain ⟨D, h1, h2⟩ := h
  exact ⟨D, h1.setCell ha u, h2⟩
theorem OM.at_map (h : OM P k e w b n m) : ∃ es c, w.heap[b]? = some (.map es c) := by
  obtain ⟨D, ⟨es, c, hb, _⟩, _⟩ := h
  exact ⟨es, c, hb⟩
theorem OB.at_map (h : OB P k e w b n mb) : ∃ es c, w.heap[b]? = some (.map es c) := by
  obtain ⟨D, ⟨es, c, hb, _⟩, _⟩ := h
  exact ⟨es, c, hb⟩
theorem lt_of_map {es : Array MapEntry} {c : Nat} (h : w.heap[b]? = some (.map es c)) : b < w.heap.size := (Array.getElem?_eq_some_iff.1 h).1
theorem OM.made (P : Program) (k e : TypeId) (w : World) : OM P k e (w.alloc (.map #[] 0)) w.heap.size 0 [] := ⟨_, World.ownsMap_made _ _ _ _, Mp.empty _⟩
theorem OB.made (P : Program) (k e : TypeId) (w : World) : OB P k e (w.alloc (.map #[] 0)) w.heap.size 0 [] := ⟨_, World.ownsMap_made _ _ _ _, Mp.empty _⟩
theorem OM.nodup (h : OM P k e w b n m) : (m.map (·.1)).Nodup := by obtain ⟨D, _, h2⟩ := h; exact h2.1
theorem OB.nodup (h : OB P k e w b n mb) : (mb.map (·.1)).Nodup := by obtain ⟨D, _, h2⟩ := h; exact h2.1
theorem OM.len_le (h : OM P k e w b n m) : m.length ≤ n := by obtain ⟨D, h1, h2⟩ := h; rw [← h2.len]; exact h1.size_le
end

/-! ### at the operation -/
section
variable {P : Program} {w : World} {ops : Array Oper} {rest : List Oper} {o : Oper} {a : Act} {Q : Exit → Act → World → Prop}
theorem wp_look_ok (hg : o.guard = none) (mm x : Operand) (t : TypeId) (hop : o.op = Op.lookup t mm x true)
    (k e : TypeId) (ht : P.underlying t = some (.map k e)) (hk : P.underlying k = some (.int .i64)) (he : P.underlying e = some (.int .i64)) (hz : (zeroValue e).run P w = .ok (.int .i64 0) w) (b n : Nat) (m : List (Int × Int))
    (hm : a.eval mm = .map (some b)) (h : OM P k e w b n m) (key : Int) (hx : a.eval x = .int .i64 key) (hwf : (Lit.int .i64 key).wf = true)
    (hK : wpList P ops Q rest (a.put o.dst (.tuple #[.int .i64 ((lku m key).getD 0), .bool (lku m key).isSome])) w) :
    wpList P ops Q (o :: rest) a w := by
  obtain ⟨D, h1, h2⟩ := h
  refine wpList_lookup_own_ok_int w hg mm x t hop k e .i64 (int_keyed hk) ht he hz b n D hm h1 _ (ky key) hx (keyOf_int_mk hk hwf) fun c hat _ => ?_
  have := h2.atD key 0
  rw [show encI 0 = .lit (.int .i64 0) from rfl, hat] at this
  simp only [encI, DataW.lit.injEq, Lit.int.injEq, true_and] at this
  rw [this, h2.has]
  exact hK
theorem wp_look (hg : o.guard = none) (mm x : Operand) (t : TypeId) (hop : o.op = Op.lookup t mm x false)
    (k e : TypeId) (ht : P.underlying t = some (.map k e)) (hk : P.underlying k = some (.int .i64)) (he : P.underlying e = some (.int .i64)) (hz : (zeroValue e).run P w = .ok (.int .i64 0) w) (b n : Nat) (m : List (Int × Int))
    (hm : a.eval mm = .map (some b)) (h : OM P k e w b n m) (key : Int) (hx : a.eval x = .int .i64 key) (hwf : (Lit.int .i64 key).wf = true)
    (hK : wpList P ops Q rest (a.put o.dst (.int .i64 ((lku m key).getD 0))) w) :
    wpList P ops Q (o :: rest) a w := by
  obtain ⟨D, h1, h2⟩ := h
  refine wpList_lookup_own_int w hg mm x t hop k e .i64 (int_keyed hk) ht he hz b n D hm h1 _ (ky key) hx (keyOf_int_mk hk hwf) fun c hat _ => ?_
  have := h2.atD key 0
  rw [show encI 0 = .lit (.int .i64 0) from rfl, hat] at this
  simp only [encI, DataW.lit.injEq, Lit.int.injEq, true_and] at this
  rw [this]
  exact hK
theorem wp_lookB (hg : o.guard = none) (mm x : Operand) (t : TypeId) (hop : o.op = Op.lookup t mm x false)
    (k e : TypeId) (ht : P.underlying t = some (.map k e)) (hk : P.underlying k = some (.int .i64)) (he : P.underlying e = some .bool) (hz : (zeroValue e).run P w = .ok (.bool false) w) (b n : Nat) (m : List (Int × Bool))
    (hm : a.eval mm = .map (some b)) (h : OB P k e w b n m) (key : Int) (hx : a.eval x = .int .i64 key) (hwf : (Lit.int .i64 key).wf = true)
    (hK : wpList P ops Q rest (a.put o.dst (.bool ((lku m key).getD false))) w) :
    wpList P ops Q (o :: rest) a w := by
  obtain ⟨D, h1, h2⟩ := h
  refine wpList_plain hg fun K' hK' => ?_
  obtain ⟨v, ps, hrun, hv⟩ := h1.lookup (int_keyed hk) ht hz (plainElem_bool he false) (keyOf_int_mk hk hwf)
  have hat := h2.atD key false
  simp only [encB, ky] at hat
  rw [hat] at hv
  have hvv : v = .bool ((lku m key).getD false) := by
    unfold plainElem at hv
    rw [he] at hv
    cases v <;> simp at hv
    rw [hv.1]
  subst hvv
  unfold Oper.wp
  simp [execOp, hop, hm, hx, hrun, Result.andThen]
  exact hK' _ _ hK
theorem wp_ins (hg : o.guard = none) (mm x v : Operand) (t : TypeId) (hop : o.op = Op.mapUpdate t mm x v)
    (k e : TypeId) (ht : P.underlying t = some (.map k e)) (hk : P.underlying k = some (.int .i64)) (he : P.underlying e = some (.int .i64)) (b n : Nat) (m : List (Int × Int))
    (hm : a.eval mm = .map (some b)) (h : OM P k e w b n m) (hn : n < 1000000) (key val : Int) (hx : a.eval x = .int .i64 key) (hv : a.eval v = .int .i64 val) (hwf : (Lit.int .i64 key).wf = true) (hwv : (Lit.int .i64 val).wf = true)
    (hK : ∀ w1, OM P k e w1 b (n + 1) (ins m key val) → w.grownBy w1 (some b) → wpList P ops Q rest (a.put o.dst undef) w1) :
    wpList P ops Q (o :: rest) a w := by
  obtain ⟨D, h1, h2⟩ := h
  exact wpList_mapUpdate_own w hg mm x v t hop k e (int_keyed hk) ht _ b n D hm h1 (by unfold maxLen; omega) _ _ (ky key) hx hv (keyOf_int_mk hk hwf) (encI val) [] (plainElem_int he hwv) fun w1 h3 h4 => hK w1 ⟨_, h3, h2.put key val⟩ h4
theorem wp_insB (hg : o.guard = none) (mm x v : Operand) (t : TypeId) (hop : o.op = Op.mapUpdate t mm x v)
    (k e : TypeId) (ht : P.underlying t = some (.map k e)) (hk : P.underlying k = some (.int .i64)) (he : P.underlying e = some .bool) (b n : Nat) (m : List (Int × Bool))
    (hm : a.eval mm = .map (some b)) (h : OB P k e w b n m) (hn : n < 1000000) (key : Int) (val : Bool) (hx : a.eval x = .int .i64 key) (hv : a.eval v = .bool val) (hwf : (Lit.int .i64 key).wf = true)
    (hK : ∀ w1, OB P k e w1 b (n + 1) (ins m key val) → w.grownBy w1 (some b) → wpList P ops Q rest (a.put o.dst undef) w1) :
    wpList P ops Q (o :: rest) a w := by
  obtain ⟨D, h1, h2⟩ := h
  exact wpList_mapUpdate_own w hg mm x v t hop k e (int_keyed hk) ht _ b n D hm h1 (by unfold maxLen; omega) _ _ (ky key) hx hv (keyOf_int_mk hk hwf) (encB val) [] (plainElem_bool he val) fun w1 h3 h4 => hK w1 ⟨_, h3, h2.put key val⟩ h4
theorem wp_rmv (hg : o.guard = none) (mm x : Operand) (t k : TypeId) (hop : o.op = Op.call { callee := Callee.builtin Builtin.delete, args := #[mm, x], argTypes := #[t, k] })
    (e : TypeId) (ht : P.underlying t = some (.map k e)) (hk : P.underlying k = some (.int .i64)) (b n : Nat) (m : List (Int × Int))
    (hm : a.eval mm = .map (some b)) (h : OM P k e w b n m) (key : Int) (hx : a.eval x = .int .i64 key) (hwf : (Lit.int .i64 key).wf = true)
    (hK : ∀ w1, OM P k e w1 b n (rmv m key) → w.grownBy w1 (some b) → wpList P ops Q rest (a.put o.dst (.tuple #[])) w1) :
    wpList P ops Q (o :: rest) a w := by
  obtain ⟨D, h1, h2⟩ := h
  exact wpList_delete_own w hg mm x t k hop e (int_keyed hk) ht _ b n D hm h1 _ (ky key) hx (keyOf_int_mk hk hwf) fun w1 h3 h4 => hK w1 ⟨_, h3, h2.dele key⟩ h4.grown
theorem wp_rmvB (hg : o.guard = none) (mm x : Operand) (t k : TypeId) (hop : o.op = Op.call { callee := Callee.builtin Builtin.delete, args := #[mm, x], argTypes := #[t, k] })
    (e : TypeId) (ht : P.underlying t = some (.map k e)) (hk : P.underlying k = some (.int .i64)) (b n : Nat) (m : List (Int × Bool))
    (hm : a.eval mm = .map (some b)) (h : OB P k e w b n m) (key : Int) (hx : a.eval x = .int .i64 key) (hwf : (Lit.int .i64 key).wf = true)
    (hK : ∀ w1, OB P k e w1 b n (rmv m key) → w.grownBy w1 (some b) → wpList P ops Q rest (a.put o.dst (.tuple #[])) w1) :
    wpList P ops Q (o :: rest) a w := by
  obtain ⟨D, h1, h2⟩ := h
  exact wpList_delete_own w hg mm x t k hop e (int_keyed hk) ht _ b n D hm h1 _ (ky key) hx (keyOf_int_mk hk hwf) fun w1 h3 h4 => hK w1 ⟨_, h3, h2.dele key⟩ h4.grown
theorem wp_len (hg : o.guard = none) (mm : Operand) (t : TypeId) (hop : o.op = Op.call { callee := Callee.builtin Builtin.len, args := #[mm], argTypes := #[t] })
    (k e : TypeId) (ht : P.underlying t = some (.map k e)) (b n : Nat) (m : List (Int × Int)) (hm : a.eval mm = .map (some b)) (h : OM P k e w b n m)
    (hK : wpList P ops Q rest (a.put o.dst (.int .i64 (m.length : Int))) w) : wpList P ops Q (o :: rest) a w := by
  obtain ⟨D, h1, h2⟩ := h
  refine wpList_len_own w hg mm t hop k e ht _ b n D hm h1 ?_
  rw [h2.len]
  exact hK
theorem wp_lenB (hg : o.guard = none) (mm : Operand) (t : TypeId) (hop : o.op = Op.call { callee := Callee.builtin Builtin.len, args := #[mm], argTypes := #[t] })
    (k e : TypeId) (ht : P.underlying t = some (.map k e)) (b n : Nat) (m : List (Int × Bool)) (hm : a.eval mm = .map (some b)) (h : OB P k e w b n m)
    (hK : wpList P ops Q rest (a.put o.dst (.int .i64 (m.length : Int))) w) : wpList P ops Q (o :: rest) a w := by
  obtain ⟨D, h1, h2⟩ := h
  refine wpList_len_own w hg mm t hop k e ht _ b n D hm h1 ?_
  rw [h2.len]
  exact hK
end

/-! ### ranging over such a map -/
def RG (P : Program) (k e : TypeId) (w : World) (b r n : Nat) (m : List (Int × Int)) (left : Lit → Bool) (cnt : Nat) : Prop := ∃ D, w.ranges P k (plainElem (H := Unit) P e) b r n D left cnt ∧ Mp encI m D
section
variable {P : Program} {k e : TypeId} {w w1 : World} {b r n cnt : Nat} {m : List (Int × Int)} {left : Lit → Bool}
theorem RG.owns (h : RG P k e w b r n m left cnt) : OM P k e w b n m := by
  obtain ⟨D, h1, h2⟩ := h
  exact ⟨D, h1.owns, h2⟩
theorem RG.at_iter (h : RG P k e w b r n m left cnt) : ∀ cells q, w.heap[r]? ≠ some (.cells cells q (0, 0)) := by
  obtain ⟨D, ⟨es, clock, since, seen, c0, _, _, _, _, h5, _⟩, _⟩ := h
  intro cells q hc
  rw [h5] at hc
  cases hc
theorem RG.lt (h : RG P k e w b r n m left cnt) : r < w.heap.size := by
  obtain ⟨D, h1, _⟩ := h
  exact h1.lt
end
section
variable {P : Program} {w : World} {ops : Array Oper} {rest : List Oper} {o : Oper} {a : Act} {Q : Exit → Act → World → Prop}
theorem wp_range (hg : o.guard = none) (mm : Operand) (t : TypeId) (hop : o.op = Op.range t mm) (k e : TypeId) (ht : P.underlying t = some (.map k e)) (hk : P.underlying k = some (.int .i64)) (b n : Nat) (m : List (Int × Int))
    (hm : a.eval mm = .map (some b)) (h : OM P k e w b n m)
    (hK : ∀ w1 left, RG P k e w1 b w.heap.size n m left m.length → (∀ q ∈ m, left (ky q.1) = true) → w.grownBy w1 none → w1.heap.size = w.heap.size + 1 → wpList P ops Q rest (a.put o.dst (.pointer (some ⟨w.heap.size, 0, none⟩))) w1) :
    wpList P ops Q (o :: rest) a w := by
  obtain ⟨D, h1, h2⟩ := h
  refine wpList_range_own w hg mm t hop k e (int_keyed hk) ht _ b n D hm h1 fun w1 h3 h4 h5 => ?_
  refine hK w1 _ ⟨D, by rw [← h2.len]; exact h3, h2⟩ (fun q hq => ?_) h4 h5
  rw [h2.has, mem_get h2.1 (show (q.1, q.2) ∈ m from hq)]
  rfl
theorem wp_next (hg : o.guard = none) (it : Operand) (hop : o.op = Op.next it false) (k e : TypeId) (hk : P.underlying k = some (.int .i64)) (he : P.underlying e = some (.int .i64)) (b r n : Nat) (m : List (Int × Int)) (left : Lit → Bool) (cnt : Nat)
    (hit : a.eval it = .pointer (some ⟨r, 0, none⟩)) (h : RG P k e w b r n m left cnt)
    (hDone : (∀ kl, left kl = false) → wpList P ops Q rest (a.put o.dst (.tuple #[.bool false])) w)
    (hMore : ∀ (x c : Int) (w1 : World) (cnt1 : Nat), (x, c) ∈ m → left (ky x) = true → RG P k e w1 b r n m (fun z => left z && !z.sameKey (ky x)) cnt1 → cnt1 < cnt → w.grownBy w1 (some r) → w1.heap.size = w.heap.size →
      (Instr.entry (.pointer (some ⟨r, 0, none⟩))).run P w1 = .ok (.tuple #[.int .i64 x, .int .i64 c]) w1 → wpList P ops Q rest (a.put o.dst (.tuple #[.bool true, .int .i64 x, .int .i64 c])) w1) :
    wpList P ops Q (o :: rest) a w := by
  obtain ⟨D, h1, h2⟩ := h
  refine wpList_next_ranges_ii w hg it hop k e .i64 .i64 (int_keyed hk) hk he b r n D left cnt hit h1 (fun _ hl => hDone hl) ?_
  intro x c w1 cnt1 _ _ hl hat hrg hlt hgr hsz hen
  exact hMore x c w1 cnt1 (h2.entry hat) hl ⟨D, hrg, h2⟩ hlt hgr hsz hen
end

/-! ### rows of cells beside a map -/
namespace Kd
section
variable {α : Type} {d : Kd α} {e base b c : Nat} {es : Array MapEntry} {w w1 : World} {ok : Nat → Prop} {v : Value} {xs : List α}
theorem R_mapped (h : d.R e w base ok v xs) (hm : w.heap[b]? = some (.map es c)) (hg : w.grownBy w1 (some b)) : d.R e w1 base ok v xs := by
  refine Kd.R_mono (Kd.R_step (Kd.R_bound h) (fun k hk hlt => hg.block k hlt ?_)) (fun _ hk => hk.1)
  obtain ⟨_, _, _, q, _, cells, hc⟩ := hk
  rintro h2
  injection h2 with h2
  rw [h2, hm] at hc
  cases hc
theorem Q_mapped (h : d.Q e w base ok v xs) (hm : w.heap[b]? = some (.map es c)) (hg : w.grownBy w1 (some b)) : d.Q e w1 base ok v xs := by
  refine Kd.Q_mono (Kd.Q_step (Kd.Q_bound h) (fun k hk hlt => hg.block k hlt ?_)) (fun _ hk => hk.1)
  obtain ⟨_, _, _, q, _, cells, hc⟩ := hk
  rintro h2
  injection h2 with h2
  rw [h2, hm] at hc
  cases hc
theorem R_besides (h : d.R e w base ok v xs) (hm : ∀ cells q, w.heap[b]? ≠ some (.cells cells q (0, 0))) (hg : w.grownBy w1 (some b)) : d.R e w1 base ok v xs := by
  refine Kd.R_mono (Kd.R_step (Kd.R_bound h) (fun k hk hlt => hg.block k hlt ?_)) (fun _ hk => hk.1)
  obtain ⟨_, _, _, q, _, cells, hc⟩ := hk
  rintro h2
  injection h2 with h2
  rw [h2] at hc
  exact hm _ _ hc
theorem R_apart_map (h : d.R e w base ok v xs) (hm : w.heap[b]? = some (.map es c)) : some b ≠ v.ownBlock := by
  intro h2
  obtain ⟨_, _, _, q, _, cells, hc⟩ := (Kd.R_bound h).1 b h2.symm
  rw [hm] at hc
  cases hc
theorem Q_apart_map (h : d.Q e w base ok v xs) (hm : w.heap[b]? = some (.map es c)) : some b ≠ v.ownBlock := by
  intro h2
  obtain ⟨_, _, _, q, _, cells, hc⟩ := (Kd.Q_bound h).1 b h2.symm
  rw [hm] at hc
  cases hc
end
end Kd
theorem below_map {B b : Nat} {w W w1 : World} (h : Below B w W) (hB : B ≤ b) (hsz : B ≤ W.heap.size) (hg : W.grownBy w1 (some b)) : Below B w w1 := h.grown hg hsz (fun j hj => by cases hj; exact hB)

/-- The numbers are whole numbers of the kind int. -/
theorem wf_of (x : Int) (h : -9223372036854775808 ≤ x ∧ x ≤ 9223372036854775807) : (Lit.int .i64 x).wf = true := WalkArith.wf_i64 h
theorem of_wf (x : Int) (h : (Lit.int .i64 x).wf = true) : -9223372036854775808 ≤ x ∧ x ≤ 9223372036854775807 := by
  simpa [Lit.wf, IntKind.min, IntKind.max, IntKind.signed, IntKind.bits] using h
end Go.Proofs.Ytikdcoahoocpjaa.Q
