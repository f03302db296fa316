/-
  What the printed functions of bitset and of its reference come to, bit by bit: bit, get, Check, New, Same. Conditions: the words are from 0 to 2^64 - 1; the row is short.
-/
import Derived.Test.YtinhjcoikhpblaaDoorVa
import Derived.Test.YtinhjcoikhpblaaDoorQ100
import Derived.Test.YtinhjcoikhpblaaDoorQ102
namespace Go.Proofs.YtinhjcoikhpblaaDoor.V
open Go.Proofs.YtinhjcoikhpblaaDoor.Q
open Go.RowKit Go.Proofs.YtinhjcoikhpblaaDoorW.PrintWords Go.Proofs.YtinhjcoikhpblaaDoorW.PrintLast Go.Proofs.YtinhjcoikhpblaaDoorW.PrintMore
set_option linter.unusedVariables false
theorem td (i : Nat) : Int.tdiv (i : Int) 64 = ((i / 64 : Nat) : Int) := by rw [Int.tdiv_eq_ediv_of_nonneg (by omega)]; omega
theorem tm (i : Nat) : Int.tmod (i : Int) 64 = ((i % 64 : Nat) : Int) := by rw [Int.tmod_eq_emod_of_nonneg (by omega)]; omega
theorem get_some (n : Int) {l : List Int} (hw : wfs l) (hl : l.length ≤ 1000000) (i : Nat) (hi : i < 64 * l.length) : bitset_get.f n l i = some (bt l i) := by
  unfold bitset_get.f
  rw [td, tm, w64 (by omega), if_pos (by omega), if_pos (by omega), if_pos (by omega)]
  rw [rd_nat]
  obtain ⟨h1, h2⟩ := shr_tb (wfs_at hw (i / 64)) (i % 64) (by omega)
  rw [one_tb h1, h2, Nat.zero_add]
  rfl
theorem bit_some (n : Int) {l : List Int} (hw : wfs l) (hl : l.length ≤ 1000000) (i : Nat) (hi : i < 64 * l.length) : estoversref01_bit.f n l i = some (bt l i) := by
  unfold estoversref01_bit.f
  rw [td, tm, w64 (by omega), if_pos (by omega), if_pos (by omega), show IntKind.u64.wrap ((i % 64 : Nat) : Int) = ((i % 64 : Nat) : Int) by rw [IntKind.wrap_u64]; omega, if_pos (by omega)]
  rw [rd_nat]
  obtain ⟨h1, h2⟩ := shr_tb (wfs_at hw (i / 64)) (i % 64) (by omega)
  rw [one_tb h1, h2, Nat.zero_add]
  rfl
/-- A valid set. -/
structure Good (n : Int) (l : List Int) : Prop where
  lo : 0 ≤ n
  hi : n ≤ 4096
  len : (l.length : Int) = (n + 63) / 64
  clean : ∀ i : Nat, n ≤ i → i < 64 * l.length → bt l i = false
theorem check_clean (n : Int) {l : List Int} (hw : wfs l) (hl : l.length ≤ 1000000) : ∀ (d i : Nat), 64 * l.length ≤ i + d → (∀ j, i ≤ j → j < 64 * l.length → bt l j = false) → Ev (fun k => estoversref01_Check.l0 k i n l) 0
  | d, i, hd, h => by
    refine Ev.step (f := fun k => if (i : Int) < wrap64 (64 * (l.length : Int)) then ((estoversref01_bit.f n l i).bind fun t => if t = true then some 3 else estoversref01_Check.l0 k (wrap64 ((i : Int) + 1)) n l) else some 0) (fun k => by simp only [estoversref01_Check.l0]) ?_
    rw [w64 (by omega)]
    by_cases hi : i < 64 * l.length
    · obtain ⟨d, rfl⟩ : ∃ e, d = e + 1 := ⟨d - 1, by omega⟩
      simp only [if_pos (show (i : Int) < 64 * (l.length : Int) by omega), bit_some n hw hl i hi, Option.bind_some, h i (Nat.le_refl _) hi, Bool.false_eq_true, if_false]
      rw [w64 (by omega)]
      exact check_clean n hw hl d (i + 1) (by omega) (fun j h1 h2 => h j (by omega) h2)
    · simp only [if_neg (show ¬ (i : Int) < 64 * (l.length : Int) by omega)]
      exact Ev.now _
theorem check_dirty (n : Int) {l : List Int} (hw : wfs l) (hl : l.length ≤ 1000000) : ∀ (d i j : Nat), j = i + d → j < 64 * l.length → bt l j = true → Ev (fun k => estoversref01_Check.l0 k i n l) 3
  | d, i, j, hd, hj, hb => by
    refine Ev.step (f := fun k => if (i : Int) < wrap64 (64 * (l.length : Int)) then ((estoversref01_bit.f n l i).bind fun t => if t = true then some 3 else estoversref01_Check.l0 k (wrap64 ((i : Int) + 1)) n l) else some 0) (fun k => by simp only [estoversref01_Check.l0]) ?_
    rw [w64 (by omega)]
    simp only [if_pos (show (i : Int) < 64 * (l.length : Int) by omega), bit_some n hw hl i (by omega), Option.bind_some]
    cases e : bt l i with
    | true => simp only [if_true]; exact Ev.now _
    | false =>
      simp only [Bool.false_eq_true, if_false]
      obtain ⟨d, rfl⟩ : ∃ e, d = e + 1 := ⟨d - 1, by
        have : d ≠ 0 := fun h => by subst h; rw [show j = i by omega] at hb; rw [hb] at e; cases e
        omega⟩
      rw [w64 (by omega)]
      exact check_dirty n hw hl d (i + 1) j (by omega) hj hb
theorem shr_zero {x : Int} (hx : u64 x) (y : Nat) (hy : y < 64) : shr .u64 x y = 0 ↔ ∀ i, y ≤ i → i < 64 → tb x i = false := by
  obtain ⟨h1, h2⟩ := shr_tb hx y hy
  constructor
  · intro h i h3 h4
    have := h2 (i - y)
    rw [h, tb_zero, show i - y + y = i by omega] at this
    exact this.symm
  · intro h
    apply tb_ext h1 ⟨by omega, by omega⟩
    intro i hi
    rw [h2, tb_zero]
    by_cases h3 : i + y < 64
    · exact h _ (by omega) h3
    · unfold tb
      exact Nat.testBit_lt_two_pow (Nat.lt_of_lt_of_le (by have := hx.1; have := hx.2; omega : x.toNat < 2 ^ 64) (Nat.pow_le_pow_right (by omega) (by omega)))
theorem words_some (n : Int) (h0 : 0 ≤ n) (h1 : n ≤ 4096) : wrap64 (Int.tdiv (wrap64 (n + 63)) 64) = (n + 63) / 64 := by
  rw [w64 (n := n + 63) (by omega), Int.tdiv_eq_ediv_of_nonneg (by omega), w64 (by omega)]
theorem check_ev (n : Int) {l : List Int} (hw : wfs l) : ∃ e, Ev (fun k => bitset_Check.f k n l) e ∧ Ev (fun k => estoversref01_Check.f k n l) e ∧ (e = 0 ↔ Good n l) := by
  by_cases h1 : n < 0
  · refine ⟨2, ?_, ?_, ⟨fun h => absurd h (by omega), fun h => absurd h.lo (by omega)⟩⟩
    · exact Ev.congr (fun k => by unfold bitset_Check.f; rw [if_pos h1]) (Ev.step (f := fun _ => some 2) (fun k => by simp [bitset_Check.j0]) (Ev.now _))
    · exact Ev.congr (fun k => by unfold estoversref01_Check.f; rw [if_pos h1]) (Ev.step (f := fun _ => some 2) (fun k => by simp [estoversref01_Check.j0]) (Ev.now _))
  by_cases h2 : n > 4096
  · refine ⟨2, ?_, ?_, ⟨fun h => absurd h (by omega), fun h => absurd h.hi (by omega)⟩⟩
    · exact Ev.congr (fun k => by unfold bitset_Check.f; rw [if_neg h1, decide_eq_true h2]) (Ev.step (f := fun _ => some 2) (fun k => by simp [bitset_Check.j0]) (Ev.now _))
    · exact Ev.congr (fun k => by unfold estoversref01_Check.f; rw [if_neg h1, decide_eq_true h2]) (Ev.step (f := fun _ => some 2) (fun k => by simp [estoversref01_Check.j0]) (Ev.now _))
  have ew := words_some n (by omega) (by omega)
  have g1 : ∀ e, Ev (fun k => bitset_Check.j0 k false n l) e → Ev (fun k => bitset_Check.f k n l) e := fun e h => Ev.congr (fun k => by unfold bitset_Check.f; rw [if_neg h1, decide_eq_false h2]) h
  have g2 : ∀ e, Ev (fun k => estoversref01_Check.j0 k false n l) e → Ev (fun k => estoversref01_Check.f k n l) e := fun e h => Ev.congr (fun k => by unfold estoversref01_Check.f; rw [if_neg h1, decide_eq_false h2]) h
  by_cases h3 : (l.length : Int) = (n + 63) / 64
  · obtain ⟨m, rfl⟩ : ∃ m : Nat, n = m := ⟨n.toNat, by omega⟩
    have hl : l.length ≤ 1000000 := by omega
    have r1 : ∀ k, bitset_Check.j0 (k + 1) false m l = if (Int.tmod (m : Int) 64) > 0 then (if 0 ≤ (wrap64 ((l.length : Int) - 1)) then (if (wrap64 ((l.length : Int) - 1)) < (l.length : Int) then (if 0 ≤ (Int.tmod (m : Int) 64) then (if (shr .u64 (rd l (wrap64 ((l.length : Int) - 1))) (Int.tmod (m : Int) 64)) = 0 then (some 0) else (some 3)) else (none)) else (none)) else (none)) else (some 0) := by
      intro k
      simp only [bitset_Check.j0, Bool.false_eq_true, if_false, bitset_words.f, Option.bind_some, ew, if_pos h3]
    have r2 : ∀ k, estoversref01_Check.j0 (k + 1) false m l = estoversref01_Check.l0 k m m l := by
      intro k
      simp only [estoversref01_Check.j0, Bool.false_eq_true, if_false, ew, if_pos h3]
    rw [tm] at r1
    by_cases h4 : m % 64 = 0
    · have hc : ∀ j, m ≤ j → j < 64 * l.length → bt l j = false := fun j a b => by omega
      refine ⟨0, g1 _ (Ev.step (f := fun _ => some 0) (fun k => by rw [r1, if_neg (by omega)]) (Ev.now _)), g2 _ (Ev.step r2 (check_clean m hw hl (64 * l.length) m (by omega) hc)), ⟨fun _ => ⟨by omega, by omega, h3, fun i a b => hc i (by omega) b⟩, fun _ => rfl⟩⟩
    · have hlen : l.length = m / 64 + 1 := by omega
      have e1 : wrap64 ((l.length : Int) - 1) = ((m / 64 : Nat) : Int) := by rw [w64 (by omega)]; omega
      have r3 : ∀ k, bitset_Check.j0 (k + 1) false m l = if shr .u64 (rd l ((m / 64 : Nat) : Int)) ((m % 64 : Nat) : Int) = 0 then some 0 else some 3 := by
        intro k
        rw [r1, e1, if_pos (by omega), if_pos (by omega), if_pos (by omega), if_pos (by omega)]
      have hz := shr_zero (wfs_at hw (m / 64)) (m % 64) (by omega)
      rw [← rd_nat] at hz
      by_cases h5 : shr .u64 (rd l ((m / 64 : Nat) : Int)) ((m % 64 : Nat) : Int) = 0
      · have hc : ∀ j, m ≤ j → j < 64 * l.length → bt l j = false := by
          intro j a b
          have := hz.mp h5 (j % 64) (by omega) (by omega)
          rw [rd_nat] at this
          unfold bt
          rw [show j / 64 = m / 64 by omega]
          exact this
        exact ⟨0, g1 _ (Ev.step (f := fun _ => some 0) (fun k => by rw [r3, if_pos h5]) (Ev.now _)), g2 _ (Ev.step r2 (check_clean m hw hl (64 * l.length) m (by omega) hc)), ⟨fun _ => ⟨by omega, by omega, h3, fun i a b => hc i (by omega) b⟩, fun _ => rfl⟩⟩
      · obtain ⟨j, h6, h7, h8⟩ : ∃ j, m ≤ j ∧ j < 64 * l.length ∧ bt l j = true := by
          apply Classical.byContradiction
          intro hn
          apply h5
          apply hz.mpr
          intro i a b
          cases e : tb (rd l ((m / 64 : Nat) : Int)) i with
          | false => rfl
          | true =>
            exfalso
            refine hn ⟨64 * (m / 64) + i, by omega, by omega, ?_⟩
            unfold bt
            rw [show (64 * (m / 64) + i) / 64 = m / 64 by omega, show (64 * (m / 64) + i) % 64 = i by omega, ← rd_nat]
            exact e
        refine ⟨3, g1 _ (Ev.step (f := fun _ => some 3) (fun k => by rw [r3, if_neg h5]) (Ev.now _)), g2 _ (Ev.step r2 (check_dirty m hw hl (j - m) m j (by omega) h7 h8)), ⟨fun h => absurd h (by omega), fun h => ?_⟩⟩
        have := h.clean j (by omega) h7
        rw [h8] at this; cases this
  · refine ⟨3, g1 _ (Ev.step (f := fun _ => some 3) (fun k => ?_) (Ev.now _)), g2 _ (Ev.step (f := fun _ => some 3) (fun k => ?_) (Ev.now _)), ⟨fun h => absurd h (by omega), fun h => absurd h.len h3⟩⟩
    · simp only [bitset_Check.j0, Bool.false_eq_true, if_false, bitset_words.f, Option.bind_some, ew, if_neg h3]
    · simp only [estoversref01_Check.j0, Bool.false_eq_true, if_false, ew, if_neg h3]
theorem Good.small {n : Int} {l : List Int} (h : Good n l) : l.length ≤ 64 := by have := h.lo; have := h.hi; have := h.len; omega
theorem new_ev (n : Int) : ∃ a r e, Ev (fun k => bitset_New.f n) (a, r, e) ∧ Ev (fun k => estoversref01_New.f n) (a, r, e) ∧ r.length ≤ 1000000 := by
  unfold bitset_New.f estoversref01_New.f
  by_cases h1 : n < 0
  · rw [if_pos h1, if_pos h1]; exact ⟨_, _, _, Ev.now _, Ev.now _, Nat.zero_le _⟩
  rw [if_neg h1, if_neg h1]
  by_cases h2 : n > 4096
  · rw [if_pos h2, if_pos h2]; exact ⟨_, _, _, Ev.now _, Ev.now _, Nat.zero_le _⟩
  rw [if_neg h2, if_neg h2]
  unfold bitset_words.f
  rw [Option.bind_some, words_some n (by omega) (by omega), if_pos (by omega), if_pos (by omega)]
  exact ⟨_, _, _, Ev.now _, Ev.now _, by rw [List.length_replicate]; omega⟩
theorem same_l (n m : Int) (l : List Int) (hl : l.length ≤ 1000000) : ∀ (d i : Nat), l.length = i + d → Ev (fun k => estoversref01_Same.l0 k i n l m l) true
  | 0, i, hd => Ev.step (f := fun k => some true) (fun k => by simp only [estoversref01_Same.l0, if_neg (show ¬ (i : Int) < (l.length : Int) by omega)]) (Ev.now _)
  | d + 1, i, hd => by
    refine Ev.step (f := fun k => estoversref01_Same.l0 k ((i + 1 : Nat) : Int) n l m l) (fun k => ?_) (same_l n m l hl d (i + 1) (by omega))
    simp only [estoversref01_Same.l0, if_pos (show (i : Int) < (l.length : Int) by omega), if_pos (show (0 : Int) ≤ i by omega), if_true]
    rw [w64 (by omega)]
    rfl
theorem same_ev (n : Int) (l : List Int) (hl : l.length ≤ 1000000) : Ev (fun k => estoversref01_Same.f k n l n l) true := by
  refine Ev.congr (f := fun k => estoversref01_Same.j0 k false n l n l) (fun k => by unfold estoversref01_Same.f; rw [if_pos rfl]; simp) ?_
  exact Ev.step (f := fun k => estoversref01_Same.l0 k ((0 : Nat) : Int) n l n l) (fun k => by simp [estoversref01_Same.j0]) (same_l n n l hl l.length 0 (by omega))
end Go.Proofs.YtinhjcoikhpblaaDoor.V
