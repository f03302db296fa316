/-
  What bitset.And, Or and Not come to, bit by bit. Condition: the words are from 0 to 2^64 - 1.
-/
import Derived.Test.YtinhjcoikhpblaaDoorVc
import Derived.Test.YtinhjcoikhpblaaDoorQ209
import Derived.Test.YtinhjcoikhpblaaDoorQ210
import Derived.Test.YtinhjcoikhpblaaDoorQ211
namespace Go.Proofs.YtinhjcoikhpblaaDoor.V
open Go.Proofs.YtinhjcoikhpblaaDoor.Q
open Go.RowKit Go.Proofs.YtinhjcoikhpblaaDoorW.PrintWords Go.Proofs.YtinhjcoikhpblaaDoorW.PrintLast Go.Proofs.YtinhjcoikhpblaaDoorW.PrintMore
set_option linter.unusedVariables false
def op (b x y : Bool) : Bool := if b = true then x && y else x || y
theorem comb_l (b : Bool) (n : Int) (m : Nat) (hm : m ≤ 64) (lb : List Int) (pa pb : Nat → Bool) (hb : IsL m pb lb) : ∀ (d i : Nat) (r : List Int), m = i + d → IsL m (fun j => if j < 64 * i then op b (pa j) (pb j) else pa j) r →
    ∃ r', Ev (fun k => bitset_combine.l0 k b lb (lb.length : Int) i n r) (n, r', 0) ∧ IsL m (fun j => op b (pa j) (pb j)) r'
  | 0, i, r, hd, h => by
    have := hb.1
    refine ⟨r, Ev.step (f := fun _ => some (n, r, 0)) (fun k => by simp only [bitset_combine.l0, if_neg (show ¬ (i : Int) < (lb.length : Int) by omega)]) (Ev.now _), h.congr fun j hj => by rw [if_pos (by omega)]⟩
  | d + 1, i, r, hd, h => by
    have h1 := hb.1
    have h2 := h.1
    obtain ⟨a1, a2⟩ := h.word i (by omega)
    obtain ⟨b1, b2⟩ := hb.word i (by omega)
    have key : ∃ x, comb.f b (rd r i) (rd lb i) = some x ∧ u64 x ∧ ∀ j, j < 64 → tb x j = op b (pa (64 * i + j)) (pb (64 * i + j)) := by
      cases b with
      | true =>
        obtain ⟨c1, c2⟩ := and_tb a1 b1
        refine ⟨_, rfl, c1, fun j hj => ?_⟩
        show tb (Go.bits .and .u64 _ _) j = _
        rw [c2 j hj, a2 j hj, b2 j hj, if_neg (by omega)]
        rfl
      | false =>
        obtain ⟨c1, c2⟩ := or_tb a1 b1
        refine ⟨_, rfl, c1, fun j hj => ?_⟩
        show tb (Go.bits .or .u64 _ _) j = _
        rw [c2 j hj, a2 j hj, b2 j hj, if_neg (by omega)]
        rfl
    obtain ⟨x, k1, k2, k3⟩ := key
    obtain ⟨r', e1, e2⟩ := comb_l b n m hm lb pa pb hb d (i + 1) (r.set i x) (by omega) (h.put i (by omega) k2 (fun j hj => by rw [k3 j hj, if_pos (by omega)]) (fun j hj hne => by
      by_cases c : j < 64 * i
      · rw [if_pos c, if_pos (by omega)]
      · rw [if_neg c, if_neg (by omega)]))
    refine ⟨r', Ev.step (fun k => ?_) e1, e2⟩
    simp only [bitset_combine.l0, if_pos (show (i : Int) < (lb.length : Int) by omega), if_pos (show (0 : Int) ≤ i by omega), if_pos (show (i : Int) < (r.length : Int) by omega), k1, Option.bind_some, Int.toNat_natCast]
    rw [w64 (by omega)]
    rfl
theorem low_tb (hi : Nat) (h : hi < 64) : u64 (IntKind.u64.wrap (shl .u64 1 (hi : Int) - 1)) ∧ ∀ i, tb (IntKind.u64.wrap (shl .u64 1 (hi : Int) - 1)) i = decide (i < hi) := by
  have hp : 2 ^ hi < 2 ^ 64 := Nat.pow_lt_pow_right (by omega) (by omega)
  have hq : 1 ≤ 2 ^ hi := Nat.one_le_two_pow
  have e : IntKind.u64.wrap (shl .u64 1 (hi : Int) - 1) = ((2 ^ hi - 1 : Nat) : Int) := by
    have : shl .u64 1 (hi : Int) = ((2 ^ hi : Nat) : Int) := by
      unfold shl
      rw [Int.toNat_natCast, Nat.min_eq_left (show hi ≤ IntKind.u64.bits by show hi ≤ 64; omega), IntKind.wrap_u64]
      have : (1 : Int) * 2 ^ hi = ((2 ^ hi : Nat) : Int) := by simp
      rw [this]; omega
    rw [this, IntKind.wrap_u64]; omega
  rw [e]
  exact ⟨⟨by omega, by omega⟩, fun i => Nat.testBit_two_pow_sub_one _ _⟩
theorem not_l (s : Nat) (l0 : List Int) (p : Nat → Bool) (m : Nat) (hm : m ≤ 64) (hlen : m = (s + 63) / 64) : ∀ (d i : Nat) (r : List Int), m = i + d → IsL m (fun j => if j < 64 * i then !p j else p j) r →
    ∃ r', Ev (fun k => bitset_Not.l0 k (m : Int) i s l0 s r) (s, r', 0) ∧ IsL m (fun j => if j < s then !p j else false) r'
  | 0, i, r, hd, h => by
    have hl := h.1
    have hz : ∀ k, bitset_Not.l0 (k + 1) (m : Int) i s l0 s r = if (Int.tmod (s : Int) 64) > 0 then (if 0 ≤ (wrap64 ((r.length : Int) - 1)) then (if (wrap64 ((r.length : Int) - 1)) < (r.length : Int) then (if 0 ≤ (Int.tmod (s : Int) 64) then (some ((s : Int), (r.set ((wrap64 ((r.length : Int) - 1)) : Int).toNat (Go.bits .and .u64 (rd r (wrap64 ((r.length : Int) - 1))) (IntKind.u64.wrap ((shl .u64 1 (Int.tmod (s : Int) 64)) - 1)))), 0)) else (none)) else (none)) else (none)) else (some ((s : Int), r, 0)) := by
      intro k
      simp only [bitset_Not.l0, if_neg (show ¬ (i : Int) < (m : Int) by omega)]
    rw [tm] at hz
    by_cases hr : s % 64 = 0
    · refine ⟨r, Ev.step (f := fun _ => some ((s : Int), r, 0)) (fun k => by rw [hz, if_neg (by omega)]) (Ev.now _), h.congr fun j hj => by rw [if_pos (by omega), if_pos (by omega)]⟩
    · have e1 : wrap64 ((r.length : Int) - 1) = ((m - 1 : Nat) : Int) := by rw [w64 (by omega)]; omega
      obtain ⟨b1, b2⟩ := low_tb (s % 64) (by omega)
      obtain ⟨a1, a2⟩ := h.word (m - 1) (by omega)
      obtain ⟨c1, c2⟩ := and_tb a1 b1
      refine ⟨r.set (m - 1) (Go.bits .and .u64 (rd r ((m - 1 : Nat) : Int)) (IntKind.u64.wrap (shl .u64 1 ((s % 64 : Nat) : Int) - 1))), Ev.step (f := fun _ => some ((s : Int), _, 0)) (fun k => ?_) (Ev.now _), ?_⟩
      · rw [hz, e1, if_pos (by omega), if_pos (by omega), if_pos (by omega), if_pos (by omega), Int.toNat_natCast]
      · refine h.put (m - 1) (by omega) c1 (fun j hj => ?_) (fun j hj hne => ?_)
        · rw [c2 j hj, a2 j hj, b2 j, if_pos (by omega)]
          by_cases c : j < s % 64
          · rw [decide_eq_true c, if_pos (by omega), Bool.and_true]
          · rw [decide_eq_false c, if_neg (by omega), Bool.and_false]
        · rw [if_pos (by omega), if_pos (by omega)]
  | d + 1, i, r, hd, h => by
    have hl := h.1
    obtain ⟨a1, a2⟩ := h.word i (by omega)
    obtain ⟨b1, b2⟩ := not_tb a1
    obtain ⟨r', e1, e2⟩ := not_l s l0 p m hm hlen d (i + 1) (r.set i (Go.bits .xor .u64 18446744073709551615 (rd r i))) (by omega) (h.put i (by omega) b1 (fun j hj => by rw [b2 j hj, a2 j hj, if_neg (by omega), if_pos (by omega)]) (fun j hj hne => by
      by_cases c : j < 64 * i
      · rw [if_pos c, if_pos (by omega)]
      · rw [if_neg c, if_neg (by omega)]))
    refine ⟨r', Ev.step (fun k => ?_) e1, e2⟩
    simp only [bitset_Not.l0, if_pos (show (i : Int) < (m : Int) by omega), if_pos (show (0 : Int) ≤ i by omega), if_pos (show (i : Int) < (r.length : Int) by omega), Int.toNat_natCast]
    rw [w64 (by omega)]
    rfl
theorem and_b (b : Bool) (n : Int) {la lb : List Int} (ha : wfs la) (hb : wfs lb) : ∃ m r e, Ev (fun k => bitset_combine.f k n la n lb b) (m, r, e) ∧ (e = 0 ↔ Good n la ∧ Good n lb) ∧ (e = 0 → m = n ∧ IsL la.length (fun j => op b (bt la j) (bt lb j)) r) := by
  obtain ⟨e, c1, _, c3⟩ := check_ev n ha
  obtain ⟨e', d1, _, d3⟩ := check_ev n hb
  unfold bitset_combine.f
  by_cases he : e = 0
  · subst he
    have hg := c3.mp rfl
    have hs := hg.small
    have e1 := hg.len
    by_cases he' : e' = 0
    · subst he'
      have hg' := d3.mp rfl
      have e2 := hg'.len
      obtain ⟨r, f1, f2⟩ := comb_l b n la.length hs lb (bt la) (bt lb) ⟨by omega, hb, fun _ _ => rfl⟩ la.length 0 la (by omega) ⟨rfl, ha, fun j hj => by dsimp only; rw [if_neg (by omega)]⟩
      exact ⟨n, r, 0, Ev.bind c1 (Ev.congr (fun k => by rw [if_pos rfl]) (Ev.bind d1 (Ev.congr (fun k => by rw [if_pos rfl, if_pos rfl, clone_some hs, Option.bind_some]; rfl) f1))), ⟨fun _ => ⟨hg, hg'⟩, fun _ => rfl⟩, fun _ => ⟨rfl, f2⟩⟩
    · exact ⟨0, [], e', Ev.bind c1 (Ev.congr (fun k => by rw [if_pos rfl]) (Ev.bind d1 (Ev.none_k fun k => by rw [if_neg he']))), ⟨fun h => absurd h he', fun h => absurd (d3.mpr h.2) he'⟩, fun h => absurd h he'⟩
  · exact ⟨0, [], e, Ev.bind c1 (Ev.none_k fun k => by rw [if_neg he]), ⟨fun h => absurd h he, fun h => absurd (c3.mpr h.1) he⟩, fun h => absurd h he⟩
theorem and_err (b : Bool) (n n' : Int) {la lb : List Int} (ha : wfs la) (hb : wfs lb) (hn : n ≠ n') : ∃ m r e, Ev (fun k => bitset_combine.f k n la n' lb b) (m, r, e) ∧ e ≠ 0 := by
  obtain ⟨e, c1, _, c3⟩ := check_ev n ha
  obtain ⟨e', d1, _, d3⟩ := check_ev n' hb
  unfold bitset_combine.f
  by_cases he : e = 0
  · subst he
    by_cases he' : e' = 0
    · subst he'
      exact ⟨0, [], 1, Ev.bind c1 (Ev.congr (fun k => by rw [if_pos rfl]) (Ev.bind d1 (Ev.none_k fun k => by rw [if_pos rfl, if_neg hn]))), by decide⟩
    · exact ⟨0, [], e', Ev.bind c1 (Ev.congr (fun k => by rw [if_pos rfl]) (Ev.bind d1 (Ev.none_k fun k => by rw [if_neg he']))), he'⟩
  · exact ⟨0, [], e, Ev.bind c1 (Ev.none_k fun k => by rw [if_neg he]), he⟩
theorem not_b (n : Int) {l : List Int} (hw : wfs l) : ∃ m r e, Ev (fun k => bitset_Not.f k n l) (m, r, e) ∧ (e = 0 ↔ Good n l) ∧ (e = 0 → m = n ∧ IsL l.length (fun j => if j < n.toNat then !bt l j else false) r) := by
  obtain ⟨e, c1, _, c3⟩ := check_ev n hw
  unfold bitset_Not.f
  by_cases he : e = 0
  · subst he
    have hg := c3.mp rfl
    have hs := hg.small
    have hl := hg.len
    obtain ⟨s, rfl⟩ : ∃ s : Nat, n = s := ⟨n.toNat, by have := hg.lo; omega⟩
    obtain ⟨r, f1, f2⟩ := not_l s l (bt l) l.length hs (by omega) l.length 0 l (by omega) ⟨rfl, hw, fun j hj => by dsimp only; rw [if_neg (by omega)]⟩
    exact ⟨s, r, 0, Ev.bind c1 (Ev.congr (fun k => by rw [if_pos rfl, clone_some hs, Option.bind_some]; rfl) f1), c3, fun _ => ⟨rfl, f2⟩⟩
  · exact ⟨0, [], e, Ev.bind c1 (Ev.none_k fun k => by rw [if_neg he]), c3, fun h => absurd h he⟩
end Go.Proofs.YtinhjcoikhpblaaDoor.V
