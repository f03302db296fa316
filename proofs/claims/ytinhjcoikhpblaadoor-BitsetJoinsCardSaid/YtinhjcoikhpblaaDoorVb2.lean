/-
  What the reference's Copy and put come to. Conditions: the words are from 0 to 2^64 - 1; the row is short.
-/
import Derived.Test.YtinhjcoikhpblaaDoorVb
import Derived.Test.YtinhjcoikhpblaaDoorQ103
import Derived.Test.YtinhjcoikhpblaaDoorQ104
namespace Go.Proofs.YtinhjcoikhpblaaDoor.V
open Go.Proofs.YtinhjcoikhpblaaDoor.Q
open Go.RowKit Go.Proofs.YtinhjcoikhpblaaDoorW.PrintWords Go.Proofs.YtinhjcoikhpblaaDoorW.PrintLast Go.Proofs.YtinhjcoikhpblaaDoorW.PrintMore
set_option linter.unusedVariables false
theorem copy_l (n m : Int) (l : List Int) (hl : l.length ≤ 1000000) : ∀ (d i : Nat), l.length = i + d → Ev (fun k => estoversref01_Copy.l0 k i n l m (l.take i)) (m, l)
  | 0, i, hd => by
    refine Ev.step (f := fun k => some (m, l)) (fun k => ?_) (Ev.now _)
    simp only [estoversref01_Copy.l0, if_neg (show ¬ (i : Int) < (l.length : Int) by omega)]
    rw [List.take_of_length_le (by omega)]
  | d + 1, i, hd => by
    refine Ev.step (f := fun k => estoversref01_Copy.l0 k ((i + 1 : Nat) : Int) n l m (l.take (i + 1))) (fun k => ?_) (copy_l n m l hl d (i + 1) (by omega))
    simp only [estoversref01_Copy.l0, if_pos (show (i : Int) < (l.length : Int) by omega), if_pos (show (0 : Int) ≤ i by omega)]
    rw [if_pos (by rw [List.length_take]; omega), w64 (by omega), rd_nat]
    congr 1
    rw [List.take_add_one, List.getD_eq_getElem?_getD, List.getElem?_eq_getElem (by omega)]
    rfl
theorem copy_ev (n : Int) (l : List Int) (hl : l.length ≤ 1000000) : Ev (fun k => estoversref01_Copy.f k n l) (n, l) := by
  have := copy_l n n l hl l.length 0 (by omega)
  exact this
theorem put_some (n : Int) {m : Nat} {p : Nat → Bool} {l : List Int} (h : IsL m p l) (hl : m ≤ 1000000) (i : Nat) (hi : i < 64 * m) (on : Bool) :
    ∃ r, estoversref01_put.f n l i on = some r ∧ IsL m (fun j => if j = i then on else p j) r := by
  obtain ⟨hlen, hw, hp⟩ := h
  have hx := wfs_at hw (i / 64)
  have h1 : u64 1 := ⟨by omega, by omega⟩
  have t1 : ∀ j, tb 1 j = decide (j = 0) := fun j => by
    unfold tb
    rw [show (1 : Int).toNat = 2 ^ 0 by rfl, Nat.testBit_two_pow]
    simp [eq_comm]
  obtain ⟨s1, s2⟩ := shl_tb h1 (i % 64) (by omega)
  have s3 : ∀ j, j < 64 → tb (shl .u64 1 ((i % 64 : Nat) : Int)) j = decide (j = i % 64) := by
    intro j hj
    rw [s2 j hj, t1]
    by_cases e : j = i % 64
    · subst e; simp
    · rw [decide_eq_false e]
      by_cases e2 : i % 64 ≤ j
      · rw [decide_eq_true e2, decide_eq_false (by omega)]; rfl
      · rw [decide_eq_false e2]; rfl
  have hb : ∀ j, j < 64 → p (64 * (i / 64) + j) = tb (l.getD (i / 64) 0) j := by
    intro j hj
    rw [← hp _ (by omega)]
    unfold bt
    rw [show (64 * (i / 64) + j) / 64 = i / 64 by omega, show (64 * (i / 64) + j) % 64 = j by omega]
  have fin : ∀ x, u64 x → (∀ j, j < 64 → tb x j = if j = i % 64 then on else tb (l.getD (i / 64) 0) j) → IsL m (fun j => if j = i then on else p j) (l.set (i / 64) x) := by
    intro x hu hx
    refine IsL.put ⟨hlen, hw, hp⟩ (i / 64) (by omega) hu (fun j hj => ?_) (fun j hj hne => ?_)
    · rw [hx j hj]
      by_cases e : j = i % 64
      · rw [if_pos e, if_pos (by omega)]
      · rw [if_neg e, if_neg (by omega), hb j hj]
    · rw [if_neg (fun e => hne (by rw [e]))]
  unfold estoversref01_put.f
  rw [td, tm, w64 (by omega), show IntKind.u64.wrap ((i % 64 : Nat) : Int) = ((i % 64 : Nat) : Int) by rw [IntKind.wrap_u64]; omega, if_pos (by omega), rd_nat, Int.toNat_natCast]
  cases on with
  | true =>
    rw [if_pos rfl, if_pos (by omega), if_pos (by omega)]
    obtain ⟨a1, a2⟩ := or_tb hx s1
    refine ⟨_, rfl, fin _ a1 (fun j hj => ?_)⟩
    rw [a2 j hj, s3 j hj]
    by_cases e : j = i % 64
    · rw [if_pos e, decide_eq_true e, Bool.or_true]
    · rw [if_neg e, decide_eq_false e, Bool.or_false]
  | false =>
    rw [if_neg (by decide), if_pos (by omega), if_pos (by omega)]
    obtain ⟨a1, a2⟩ := andNot_tb hx s1
    refine ⟨_, rfl, fin _ a1 (fun j hj => ?_)⟩
    rw [a2 j hj, s3 j hj]
    by_cases e : j = i % 64
    · rw [if_pos e, decide_eq_true e]; simp
    · rw [if_neg e, decide_eq_false e]; simp
end Go.Proofs.YtinhjcoikhpblaaDoor.V
