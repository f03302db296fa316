/-
  And, Or and Not and their references are alike. Condition: the words are from 0 to 2^64 - 1.
-/
import Derived.Test.YtinhjcoikhpblaaDoorVj
import Derived.Test.YtinhjcoikhpblaaDoorVb2
import Derived.Test.YtinhjcoikhpblaaDoorQ110
import Derived.Test.YtinhjcoikhpblaaDoorQ111
import Derived.Test.YtinhjcoikhpblaaDoorQ112
import Derived.Test.YtinhjcoikhpblaaDoorQ113
namespace Go.Proofs.YtinhjcoikhpblaaDoor.V
open Go.Proofs.YtinhjcoikhpblaaDoor.Q
open Go.RowKit Go.Proofs.YtinhjcoikhpblaaDoorW.PrintWords Go.Proofs.YtinhjcoikhpblaaDoorW.PrintLast Go.Proofs.YtinhjcoikhpblaaDoorW.PrintMore
set_option linter.unusedVariables false
theorem rand_l (n n' : Int) (m : Nat) (hm : m ≤ 64) (la lb : List Int) (ha : wfs la) (hb : wfs lb) (q1 : la.length = m) (q2 : lb.length = m) (s : Nat) (hs : s ≤ 64 * m) : ∀ (d i : Nat) (r : List Int), s = i + d → IsL m (fun j => if j < i then op true (bt la j) (bt lb j) else bt la j) r →
    ∃ r', Ev (fun k => estoversref01_And.l0 k i s la n' lb n r) (n, r', 0) ∧ IsL m (fun j => if j < s then op true (bt la j) (bt lb j) else bt la j) r'
  | 0, i, r, hd, h => by
    refine ⟨r, Ev.step (f := fun _ => some (n, r, 0)) (fun k => by simp only [estoversref01_And.l0, if_neg (show ¬ (i : Int) < (s : Int) by omega)]) (Ev.now _), ?_⟩
    rw [show s = i by omega]; exact h
  | d + 1, i, r, hd, h => by
    obtain ⟨t, g1, g2⟩ := put_some n h (by omega) i (by omega) (op true (bt la i) (bt lb i))
    obtain ⟨r', e1, e2⟩ := rand_l n n' m hm la lb ha hb q1 q2 s hs d (i + 1) t (by omega) (g2.congr fun j hj => by
      by_cases c : j = i
      · subst c; rw [if_pos rfl, if_pos (by omega)]
      · by_cases c2 : j < i
        · rw [if_neg c, if_pos c2, if_pos (by omega)]
        · rw [if_neg c, if_neg c2, if_neg (by omega)])
    refine ⟨r', Ev.step (fun k => ?_) e1, e2⟩
    simp only [estoversref01_And.l0, if_pos (show (i : Int) < (s : Int) by omega), bit_some (s : Int) ha (by omega) i (by omega), bit_some n' hb (by omega) i (by omega), Option.bind_some]
    rw [w64 (by omega)]
    cases e : bt la i with
    | true =>
      rw [e] at g1
      simp only [if_true, show estoversref01_put.f n r i (bt lb i) = some t from g1, Option.bind_some]
      rfl
    | false =>
      rw [e] at g1
      simp only [Bool.false_eq_true, if_false, show estoversref01_put.f n r i false = some t from g1, Option.bind_some]
      rfl
theorem ror_l (n n' : Int) (m : Nat) (hm : m ≤ 64) (la lb : List Int) (ha : wfs la) (hb : wfs lb) (q1 : la.length = m) (q2 : lb.length = m) (s : Nat) (hs : s ≤ 64 * m) : ∀ (d i : Nat) (r : List Int), s = i + d → IsL m (fun j => if j < i then op false (bt la j) (bt lb j) else bt la j) r →
    ∃ r', Ev (fun k => estoversref01_Or.l0 k i s la n' lb n r) (n, r', 0) ∧ IsL m (fun j => if j < s then op false (bt la j) (bt lb j) else bt la j) r'
  | 0, i, r, hd, h => by
    refine ⟨r, Ev.step (f := fun _ => some (n, r, 0)) (fun k => by simp only [estoversref01_Or.l0, if_neg (show ¬ (i : Int) < (s : Int) by omega)]) (Ev.now _), ?_⟩
    rw [show s = i by omega]; exact h
  | d + 1, i, r, hd, h => by
    obtain ⟨t, g1, g2⟩ := put_some n h (by omega) i (by omega) (op false (bt la i) (bt lb i))
    obtain ⟨r', e1, e2⟩ := ror_l n n' m hm la lb ha hb q1 q2 s hs d (i + 1) t (by omega) (g2.congr fun j hj => by
      by_cases c : j = i
      · subst c; rw [if_pos rfl, if_pos (by omega)]
      · by_cases c2 : j < i
        · rw [if_neg c, if_pos c2, if_pos (by omega)]
        · rw [if_neg c, if_neg c2, if_neg (by omega)])
    refine ⟨r', Ev.step (fun k => ?_) e1, e2⟩
    simp only [estoversref01_Or.l0, if_pos (show (i : Int) < (s : Int) by omega), bit_some (s : Int) ha (by omega) i (by omega), bit_some n' hb (by omega) i (by omega), Option.bind_some]
    rw [w64 (by omega)]
    cases e : bt la i with
    | true =>
      rw [e] at g1
      simp only [if_true, show estoversref01_put.f n r i true = some t from g1, Option.bind_some]
      rfl
    | false =>
      rw [e] at g1
      simp only [Bool.false_eq_true, if_false, show estoversref01_put.f n r i (bt lb i) = some t from g1, Option.bind_some]
      rfl
theorem both_ev (n n' : Int) {la lb : List Int} (ha : wfs la) (hb : wfs lb) : ∃ e, Ev (fun k => estoversref01_both.f k n la n' lb) e ∧ (e = 0 ↔ Good n la ∧ Good n' lb ∧ n = n') ∧
    (∀ b, e ≠ 0 → Ev (fun k => bitset_combine.f k n la n' lb b) (0, [], e)) ∧
    (e = 0 → ∀ b m r, Ev (fun k => bitset_combine.l0 k b lb (lb.length : Int) 0 n la) (m, r, 0) → Ev (fun k => bitset_combine.f k n la n' lb b) (m, r, 0)) := by
  obtain ⟨e, c1, c2, c3⟩ := check_ev n ha
  obtain ⟨e', d1, d2, d3⟩ := check_ev n' hb
  unfold estoversref01_both.f bitset_combine.f
  by_cases he : e = 0
  · subst he
    have hg := c3.mp rfl
    by_cases he' : e' = 0
    · subst he'
      have hg' := d3.mp rfl
      by_cases hn : n = n'
      · refine ⟨0, Ev.bind c2 (Ev.congr (fun k => by rw [if_pos rfl]) (Ev.bind d2 (Ev.none_k fun k => by rw [if_pos rfl, if_pos hn]))), ⟨fun _ => ⟨hg, hg', hn⟩, fun _ => rfl⟩, fun b h => absurd rfl h, fun _ b m r h => ?_⟩
        exact Ev.bind c1 (Ev.congr (fun k => by rw [if_pos rfl]) (Ev.bind d1 (Ev.congr (fun k => by rw [if_pos rfl, if_pos hn, clone_some hg.small, Option.bind_some]) h)))
      · refine ⟨1, Ev.bind c2 (Ev.congr (fun k => by rw [if_pos rfl]) (Ev.bind d2 (Ev.none_k fun k => by rw [if_pos rfl, if_neg hn]))), ⟨fun h => absurd h (by omega), fun h => absurd h.2.2 hn⟩, fun b _ => ?_, fun h => absurd h (by omega)⟩
        exact Ev.bind c1 (Ev.congr (fun k => by rw [if_pos rfl]) (Ev.bind d1 (Ev.none_k fun k => by rw [if_pos rfl, if_neg hn])))
    · refine ⟨e', Ev.bind c2 (Ev.congr (fun k => by rw [if_pos rfl]) (Ev.bind d2 (Ev.congr (fun k => by rw [if_neg he']) (Ev.bind d2 (Ev.now _))))), ⟨fun h => absurd h he', fun h => absurd (d3.mpr h.2.1) he'⟩, fun b _ => ?_, fun h => absurd h he'⟩
      exact Ev.bind c1 (Ev.congr (fun k => by rw [if_pos rfl]) (Ev.bind d1 (Ev.none_k fun k => by rw [if_neg he'])))
  · refine ⟨e, Ev.bind c2 (Ev.congr (fun k => by rw [if_neg he]) (Ev.bind c2 (Ev.now _))), ⟨fun h => absurd h he, fun h => absurd (c3.mpr h.1) he⟩, fun b _ => ?_, fun h => absurd h he⟩
    exact Ev.bind c1 (Ev.none_k fun k => by rw [if_neg he])
theorem and_ev (n n' : Int) {la lb : List Int} (ha : wfs la) (hb : wfs lb) : ∃ m r e, Ev (fun k => bitset_And.f k n la n' lb) (m, r, e) ∧ Ev (fun k => estoversref01_And.f k n la n' lb) (m, r, e) ∧ (e = 0 ↔ Good n la ∧ Good n' lb ∧ n = n') ∧
    (e = 0 → m = n ∧ IsL la.length (fun j => op true (bt la j) (bt lb j)) r) ∧ r.length ≤ 64 := by
  obtain ⟨e, c1, c2, c3, c4⟩ := both_ev n n' ha hb
  unfold bitset_And.f estoversref01_And.f
  by_cases he : e = 0
  · subst he
    obtain ⟨hg, hg', rfl⟩ := c2.mp rfl
    have hs := hg.small
    have e1 := hg.len
    have e2 := hg'.len
    obtain ⟨s, rfl⟩ : ∃ s : Nat, n = s := ⟨n.toNat, by have := hg.lo; omega⟩
    obtain ⟨r, f1, f2⟩ := comb_l true s la.length hs lb (bt la) (bt lb) ⟨by omega, hb, fun _ _ => rfl⟩ la.length 0 la (by omega) ⟨rfl, ha, fun j hj => by dsimp only; rw [if_neg (by omega)]⟩
    obtain ⟨r', g1, g2⟩ := rand_l s s la.length hs la lb ha hb rfl (by omega) s (by omega) s 0 la (by omega) ⟨rfl, ha, fun j hj => by dsimp only; rw [if_neg (by omega)]⟩
    have g3 : IsL la.length (fun j => op true (bt la j) (bt lb j)) r' := g2.congr fun j hj => by
      by_cases c : j < s
      · rw [if_pos c]
      · rw [if_neg c, hg.clean j (by omega) hj]; rfl
    obtain rfl := f2.uniq g3
    refine ⟨s, r, 0, Ev.bind (c4 rfl true s r f1) (Ev.now _), Ev.bind c1 (Ev.congr (fun k => by rw [if_pos rfl]) (Ev.bind (copy_ev _ la (by omega)) g1)), c2, fun _ => ⟨rfl, f2⟩, by rw [f2.1]; exact hs⟩
  · exact ⟨0, [], e, Ev.bind (c3 true he) (Ev.now _), Ev.bind c1 (Ev.none_k fun k => by rw [if_neg he]), c2, (fun h => absurd h he), Nat.zero_le _⟩
theorem or_ev (n n' : Int) {la lb : List Int} (ha : wfs la) (hb : wfs lb) : ∃ m r e, Ev (fun k => bitset_Or.f k n la n' lb) (m, r, e) ∧ Ev (fun k => estoversref01_Or.f k n la n' lb) (m, r, e) ∧ (e = 0 ↔ Good n la ∧ Good n' lb ∧ n = n') ∧
    (e = 0 → m = n ∧ IsL la.length (fun j => op false (bt la j) (bt lb j)) r) ∧ r.length ≤ 64 := by
  obtain ⟨e, c1, c2, c3, c4⟩ := both_ev n n' ha hb
  unfold bitset_Or.f estoversref01_Or.f
  by_cases he : e = 0
  · subst he
    obtain ⟨hg, hg', rfl⟩ := c2.mp rfl
    have hs := hg.small
    have e1 := hg.len
    have e2 := hg'.len
    obtain ⟨s, rfl⟩ : ∃ s : Nat, n = s := ⟨n.toNat, by have := hg.lo; omega⟩
    obtain ⟨r, f1, f2⟩ := comb_l false s la.length hs lb (bt la) (bt lb) ⟨by omega, hb, fun _ _ => rfl⟩ la.length 0 la (by omega) ⟨rfl, ha, fun j hj => by dsimp only; rw [if_neg (by omega)]⟩
    obtain ⟨r', g1, g2⟩ := ror_l s s la.length hs la lb ha hb rfl (by omega) s (by omega) s 0 la (by omega) ⟨rfl, ha, fun j hj => by dsimp only; rw [if_neg (by omega)]⟩
    have g3 : IsL la.length (fun j => op false (bt la j) (bt lb j)) r' := g2.congr fun j hj => by
      by_cases c : j < s
      · rw [if_pos c]
      · rw [if_neg c, hg.clean j (by omega) hj, hg'.clean j (by omega) (by omega)]; rfl
    obtain rfl := f2.uniq g3
    refine ⟨s, r, 0, Ev.bind (c4 rfl false s r f1) (Ev.now _), Ev.bind c1 (Ev.congr (fun k => by rw [if_pos rfl]) (Ev.bind (copy_ev _ la (by omega)) g1)), c2, fun _ => ⟨rfl, f2⟩, by rw [f2.1]; exact hs⟩
  · exact ⟨0, [], e, Ev.bind (c3 false he) (Ev.now _), Ev.bind c1 (Ev.none_k fun k => by rw [if_neg he]), c2, (fun h => absurd h he), Nat.zero_le _⟩

theorem rnot_l (s m : Nat) (hm : m ≤ 64) (l0 : List Int) (hw : wfs l0) (q : l0.length = m) (hs : s ≤ 64 * m) (z : Int) : ∀ (d i : Nat) (r : List Int), s = i + d → IsL m (fun j => if j < i then !bt l0 j else bt l0 j) r →
    ∃ r', Ev (fun k => estoversref01_Not.l0 k i s l0 z r) (z, r', 0) ∧ IsL m (fun j => if j < s then !bt l0 j else bt l0 j) r'
  | 0, i, r, hd, h => by
    refine ⟨r, Ev.step (f := fun _ => some (z, r, 0)) (fun k => by simp only [estoversref01_Not.l0, if_neg (show ¬ (i : Int) < (s : Int) by omega)]) (Ev.now _), ?_⟩
    rw [show s = i by omega]; exact h
  | d + 1, i, r, hd, h => by
    obtain ⟨t, g1, g2⟩ := put_some z h (by omega) i (by omega) (!bt l0 i)
    obtain ⟨r', e1, e2⟩ := rnot_l s m hm l0 hw q hs z d (i + 1) t (by omega) (g2.congr fun j hj => by
      by_cases c : j = i
      · subst c; rw [if_pos rfl, if_pos (by omega)]
      · by_cases c2 : j < i
        · rw [if_neg c, if_pos c2, if_pos (by omega)]
        · rw [if_neg c, if_neg c2, if_neg (by omega)])
    refine ⟨r', Ev.step (fun k => ?_) e1, e2⟩
    simp only [estoversref01_Not.l0, if_pos (show (i : Int) < (s : Int) by omega), bit_some (s : Int) hw (by omega) i (by omega), Option.bind_some, g1]
    rw [w64 (by omega)]
    rfl
theorem not_ev (n : Int) {l : List Int} (hw : wfs l) : ∃ m r e, Ev (fun k => bitset_Not.f k n l) (m, r, e) ∧ Ev (fun k => estoversref01_Not.f k n l) (m, r, e) ∧ (e = 0 ↔ Good n l) ∧
    (e = 0 → m = n ∧ IsL l.length (fun j => if j < n.toNat then !bt l j else false) r) ∧ r.length ≤ 64 := by
  obtain ⟨e, c1, c2, c3⟩ := check_ev n hw
  unfold bitset_Not.f estoversref01_Not.f
  by_cases he : e = 0
  · subst he
    have hg := c3.mp rfl
    have hs := hg.small
    have hl := hg.len
    obtain ⟨s, rfl⟩ : ∃ s : Nat, n = s := ⟨n.toNat, by have := hg.lo; omega⟩
    obtain ⟨r, f1, f2⟩ := not_l s l (bt l) l.length hs (by omega) l.length 0 l (by omega) ⟨rfl, hw, fun j hj => by dsimp only; rw [if_neg (by omega)]⟩
    obtain ⟨r', g1, g2⟩ := rnot_l s l.length hs l hw rfl (by omega) s s 0 l (by omega) ⟨rfl, hw, fun j hj => by dsimp only; rw [if_neg (by omega)]⟩
    have g3 : IsL l.length (fun j => if j < s then !bt l j else false) r' := g2.congr fun j hj => by
      by_cases c : j < s
      · rw [if_pos c, if_pos c]
      · rw [if_neg c, if_neg c]; exact hg.clean j (by omega) hj
    obtain rfl := f2.uniq g3
    refine ⟨s, r, 0, Ev.bind c1 (Ev.congr (fun k => by rw [if_pos rfl, clone_some hs, Option.bind_some]; rfl) f1), Ev.bind c2 (Ev.congr (fun k => by rw [if_pos rfl]) (Ev.bind (copy_ev _ l (by omega)) g1)), c3, fun _ => ⟨rfl, f2⟩, by rw [f2.1]; exact hs⟩
  · exact ⟨0, [], e, Ev.bind c1 (Ev.none_k fun k => by rw [if_neg he]), Ev.bind c2 (Ev.none_k fun k => by rw [if_neg he]), c3, (fun h => absurd h he), Nat.zero_le _⟩
end Go.Proofs.YtinhjcoikhpblaaDoor.V
