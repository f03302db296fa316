/-
  StackdistOptimal: no replacement has fewer faults than Optimal, as trying all choices shows. No condition.
-/
import Derived.Test.YtbchpnhlaknhjaaQ207
import Derived.Test.YtbchpnhlaknhjaaVd
import Derived.Test.YtbchpnhlaknhjaaVwake
namespace Go.Proofs.Ytbchpnhlaknhjaa.Pure
open Go.RowKit Go.Proofs.Ytbchpnhlaknhjaa.Q Go.Proofs.Ytbchpnhlaknhjaa.V Go.Proofs.Ytbchpnhlaknhjaa.Sd Go.Proofs.Ytbchpnhlaknhjaa.Bel Go.Proofs.YtbchpnhlaknhjaaW.PrintWords Go.Proofs.YtbchpnhlaknhjaaW.PrintLast Go.Proofs.YtbchpnhlaknhjaaW.PrintMore
set_option linter.unusedVariables false
/-- A number that some replacement reaches from T on, and that no farthest-next-use replacement undercuts from the same pages on. -/
structure Good (f : Nat) (rs T : List Int) (b : Int) : Prop where
  low : 0 ≤ b
  high : b ≤ rs.length
  run : ARun f rs T b
  min : ∀ G a, G.Nodup → (∀ p, p ∈ G ↔ p ∈ T) → GRun f rs G a → b ≤ a
theorem best_hit (l T : List Int) (f i : Int) (hT : T.length ≤ 5000) (hi : 0 ≤ i) (hil : i < l.length) (hl : l.length ≤ 100) (b : Int) (h : Ev (fun k => estoverslaw37_best.f k l (i + 1) T f) b) (d : Nat) : ∀ j : Int, 0 ≤ j → (T.length : Int) - j = d → rd l i ∈ T.drop j.toNat →
    Ev (fun k => estoverslaw37_best.l0 k l i T f T (T.length : Int) j) b := by
  induction d with
  | zero => intro j h0 hd hm; rw [drop_end (by omega)] at hm; simp at hm
  | succ d ih =>
    intro j h0 hd hm
    have hlt : j < T.length := by omega
    by_cases e : rd T j = rd l i
    · refine Ev.step (f := fun k => (estoverslaw37_best.f k l (i + 1) T f).bind fun t411 => (some t411)) (fun k => ?_) (Ev.bind h (Ev.now _))
      simp only [estoverslaw37_best.l0]
      rw [if_pos hlt, if_pos h0, if_pos hlt, if_pos hi, if_pos hil, if_pos e, w64 (by omega)]
    · rw [drop_rd h0 hlt, List.mem_cons] at hm
      refine Ev.step (fun k => ?_) (ih (j + 1) (by omega) (by omega) (hm.resolve_left (fun h => e h.symm)))
      simp only [estoverslaw37_best.l0]
      rw [if_pos hlt, if_pos h0, if_pos hlt, if_pos hi, if_pos hil, if_neg e, w64 (by omega)]
theorem best_miss (l T : List Int) (f i : Int) (hT : T.length ≤ 5000) (hi : 0 ≤ i) (hil : i < l.length) (hl : l.length ≤ 100) (X : Int) (hm : rd l i ∉ T)
    (h : Ev (fun k => if (T.length : Int) < f then ((estoverslaw37_best.f k l (i + 1) (T ++ [rd l i]) f).bind fun t425 => (some (wrap64 (1 + t425)))) else (estoverslaw37_best.l1 k l i T f (l.length : Int) (T.length : Int) 0)) X) (d : Nat) : ∀ j : Int, 0 ≤ j → (T.length : Int) - j = d →
    Ev (fun k => estoverslaw37_best.l0 k l i T f T (T.length : Int) j) X := by
  induction d with
  | zero =>
    intro j h0 hd
    refine Ev.step (fun k => ?_) h
    simp only [estoverslaw37_best.l0]
    rw [if_neg (by omega)]
    by_cases e : (T.length : Int) < f
    · rw [if_pos e, if_pos e, Option.bind_some, if_pos (by simp; omega), Option.bind_some, if_pos hi, if_pos hil, Option.bind_some, if_pos (by simp; omega), w64 (i := i + 1) (by omega), List.nil_append]
    · rw [if_neg e, if_neg e]
  | succ d ih =>
    intro j h0 hd
    have hlt : j < T.length := by omega
    have e : rd T j ≠ rd l i := fun e => hm (e ▸ rd_mem h0 hlt)
    refine Ev.step (fun k => ?_) (ih (j + 1) (by omega) (by omega))
    simp only [estoverslaw37_best.l0]
    rw [if_pos hlt, if_pos h0, if_pos hlt, if_pos hi, if_pos hil, if_neg e, w64 (by omega)]
theorem best_l1 (l T : List Int) (f : Nat) (i : Int) (hT : T.length ≤ 5000) (hi : 0 ≤ i) (hil : i < l.length) (hl : l.length ≤ 100) (rs : List Int) (hrs : rs.length ≤ 100)
    (ih : ∀ v : Int, 0 ≤ v → v < T.length → ∃ c, Ev (fun k => estoverslaw37_best.f k l (i + 1) (wo T v ++ [rd l i]) (f : Int)) c ∧ Good f rs (wo T v ++ [rd l i]) c) (d : Nat) : ∀ (m j : Int), 0 ≤ j → (T.length : Int) - j = d → 0 ≤ m → m ≤ 200 →
    ∃ b, Ev (fun k => estoverslaw37_best.l1 k l i T (f : Int) m (T.length : Int) j) b ∧ 0 ≤ b ∧ b ≤ m ∧ (∀ v : Int, j ≤ v → v < T.length → ∃ c, Good f rs (wo T v ++ [rd l i]) c ∧ b ≤ 1 + c) ∧ (b = m ∨ ∃ v c, j ≤ v ∧ v < T.length ∧ Good f rs (wo T v ++ [rd l i]) c ∧ b = 1 + c) := by
  induction d with
  | zero =>
    intro m j h0 hd hm hm2
    refine ⟨m, Ev.step (fun k => ?_) (Ev.now _), hm, Int.le_refl _, fun v h1 h2 => by omega, .inl rfl⟩
    simp only [estoverslaw37_best.l1]
    rw [if_neg (by omega)]
  | succ d ihd =>
    intro m j h0 hd hm hm2
    have hlt : j < T.length := by omega
    obtain ⟨c, hc, hg⟩ := ih j h0 hlt
    have hlow := hg.low
    have hhigh := hg.high
    have hmn : mn m (1 + c) ≤ m ∧ mn m (1 + c) ≤ 1 + c ∧ 0 ≤ mn m (1 + c) ∧ (mn m (1 + c) = m ∨ mn m (1 + c) = 1 + c) := by unfold mn; split <;> omega
    obtain ⟨b, b1, b2, b3, b4, b5⟩ := ihd (mn m (1 + c)) (j + 1) (by omega) (by omega) (by omega) (by omega)
    refine ⟨b, ?_, b2, by omega, fun v h1 h2 => ?_, ?_⟩
    · refine Ev.step (f := fun k => (estoverslaw37_best.f k l (i + 1) (wo T j ++ [rd l i]) (f : Int)).bind fun t444 => (estoverslaw37_best.l1 k l i T (f : Int) (mn m (wrap64 (1 + t444))) (T.length : Int) (wrap64 (j + 1)))) (fun k => ?_) (Ev.bind hc (Ev.congr (fun k => ?_) b1))
      · simp only [estoverslaw37_best.l1]
        rw [if_pos hlt, Option.bind_some, if_pos h0, if_pos (by omega), if_pos (by simp; omega), Option.bind_some, w64 (i := j + 1) (by omega), if_pos (by omega), if_pos (by omega), if_pos (by simp; omega), Option.bind_some, if_pos hi, if_pos hil, Option.bind_some, if_pos (by simp; omega), w64 (i := i + 1) (by omega), List.nil_append]
        rw [show T.take j.toNat ++ T.drop (j + 1).toNat = wo T j from by unfold wo; rw [if_neg (by omega), show (j + 1).toNat = j.toNat + 1 by omega]]
      · rw [w64 (i := 1 + c) (by omega), w64 (i := j + 1) (by omega)]
    · by_cases e : v = j
      · subst e; exact ⟨c, hg, by omega⟩
      · exact b4 v (by omega) h2
    · rcases b5 with b5 | ⟨v, c', h1, h2, h3, h4⟩
      · rcases hmn.2.2.2 with e | e
        · exact .inl (b5.trans e)
        · exact .inr ⟨j, c, Int.le_refl _, hlt, hg, b5.trans e⟩
      · exact .inr ⟨v, c', by omega, h2, h3, h4⟩
theorem best_ev (l : List Int) (f : Nat) (hf : 1 ≤ f ∧ f ≤ 5000) (hl : l.length ≤ 100) (d : Nat) : ∀ (i : Int) (T : List Int), 0 ≤ i → (l.length : Int) - i = d → T.Nodup → T.length ≤ f →
    ∃ b, Ev (fun k => estoverslaw37_best.f k l i T (f : Int)) b ∧ Good f (l.drop i.toNat) T b := by
  induction d with
  | zero =>
    intro i T h0 hd _ _
    refine ⟨0, Ev.step (fun k => ?_) (Ev.now _), ?_⟩
    · simp only [estoverslaw37_best.f]; rw [if_pos (by omega)]
    · rw [drop_end (by omega)]
      refine ⟨by omega, by simp, .nil _, fun G a _ _ h => ?_⟩
      cases h
      exact Int.le_refl _
  | succ d ih =>
    intro i T h0 hd hn hTf
    have hlt : i < l.length := by omega
    have hrl : (l.drop (i + 1).toNat).length = d := by rw [List.length_drop]; omega
    have start : ∀ X, Ev (fun k => estoverslaw37_best.l0 k l i T (f : Int) T (T.length : Int) 0) X → Ev (fun k => estoverslaw37_best.f k l i T (f : Int)) X :=
      fun X h => Ev.step (fun k => by simp only [estoverslaw37_best.f]; rw [if_neg (by omega)]) h
    have hlenG : ∀ G : List Int, G.Nodup → (∀ p, p ∈ G ↔ p ∈ T) → G.length = T.length := fun G hG h => Nat.le_antisymm (le_of_sub hG (fun p hp => (h p).1 hp)) (le_of_sub hn (fun p hp => (h p).2 hp))
    rw [drop_rd h0 hlt]
    by_cases hm : rd l i ∈ T
    · obtain ⟨b, hb, hg⟩ := ih (i + 1) T (by omega) (by omega) hn hTf
      refine ⟨b, start b (best_hit l T f i (by omega) h0 hlt hl b hb T.length 0 (by omega) (by omega) (by simpa using hm)), hg.low, ?_, ?_, ?_⟩
      · have := hg.high; simp only [List.length_cons]; omega
      · have h := ARun.cons (T := T) ⟨hn, hTf, hm, fun p hp => .inl hp⟩ hg.run
        rw [if_pos hm, Int.zero_add] at h
        exact h
      · intro G a hG hGT h
        cases h with
        | cons s hs =>
          rename_i T' n
          have hmG := (hGT _).2 hm
          rw [if_pos hmG, Int.zero_add]
          refine hg.min T' n s.any.nodup (fun p => ?_) hs
          rw [← hGT]
          constructor
          · intro hp
            rcases s.any.sub p hp with h1 | h1
            · exact h1
            · exact h1 ▸ hmG
          · intro hp
            rcases s.how with h1 | ⟨h1, _⟩
            · exact h1 p hp
            · exact absurd hmG h1
    · have hnod : ∀ S : List Int, S.Nodup → (∀ p ∈ S, p ∈ T) → (S ++ [rd l i]).Nodup := fun S hS hST => by
        rw [List.nodup_append]
        refine ⟨hS, by simp, fun a ha b hb => ?_⟩
        rw [List.mem_singleton] at hb
        rw [hb]; exact fun e => hm (e ▸ hST a ha)
      by_cases hc : (T.length : Int) < f
      · have hn2 := hnod T hn (fun p hp => hp)
        obtain ⟨b, hb, hg⟩ := ih (i + 1) (T ++ [rd l i]) (by omega) (by omega) hn2 (by simp; omega)
        have hlow := hg.low
        have hhigh := hg.high
        refine ⟨1 + b, start _ (best_miss l T f i (by omega) h0 hlt hl _ hm (Ev.congr (fun k => by rw [if_pos hc]) (Ev.bind hb (Ev.none_k fun k => by rw [w64 (by omega)]))) T.length 0 (by omega) (by omega)), by omega, by simp only [List.length_cons]; omega, ?_, ?_⟩
        · have h := ARun.cons (T := T) ⟨hn2, by simp; omega, by simp, fun p hp => (List.mem_append.1 hp).imp id List.mem_singleton.1⟩ hg.run
          rw [if_neg hm] at h
          exact h
        · intro G a hG hGT h
          have hGl := hlenG G hG hGT
          cases h with
          | cons s hs =>
            rename_i T' n
            have hmG : rd l i ∉ G := fun h => hm ((hGT _).1 h)
            rw [if_neg hmG]
            have := hg.min T' n s.any.nodup (fun p => by
              rw [List.mem_append, List.mem_singleton, ← hGT]
              constructor
              · exact s.any.sub p
              · rintro (hp | hp)
                · rcases s.how with h1 | ⟨_, h1, _⟩
                  · exact h1 p hp
                  · omega
                · exact hp ▸ s.any.has) hs
            omega
      · obtain ⟨b, b1, b2, b3, b4, b5⟩ := best_l1 l T f i (by omega) h0 hlt hl (l.drop (i + 1).toNat) (by omega) (fun v hv0 hv1 => by
          obtain ⟨w1, w2, w3, w4⟩ := wo_facts T v hv0 hv1 hn
          exact ih (i + 1) (wo T v ++ [rd l i]) (by omega) (by omega) (hnod _ w1 w3) (by simp; omega)) T.length (l.length : Int) 0 (by omega) (by omega) (by omega) (by omega)
        have hlow := b2
        have att : ∃ (v : Int) (c : Int), 0 ≤ v ∧ v < T.length ∧ Good f (l.drop (i + 1).toNat) (wo T v ++ [rd l i]) c ∧ b = 1 + c := by
          rcases b5 with b5 | b5
          · obtain ⟨c, hg, hbc⟩ := b4 0 (by omega) (by omega)
            have := hg.high
            exact ⟨0, c, by omega, by omega, hg, by omega⟩
          · exact b5
        obtain ⟨v, c, hv0, hv1, hg, hbc⟩ := att
        obtain ⟨w1, w2, w3, w4⟩ := wo_facts T v hv0 hv1 hn
        have hhigh := hg.high
        refine ⟨b, start _ (best_miss l T f i (by omega) h0 hlt hl _ hm (Ev.congr (fun k => by rw [if_neg hc]) b1) T.length 0 (by omega) (by omega)), hlow, by simp only [List.length_cons]; omega, ?_, ?_⟩
        · have h := ARun.cons (T := T) ⟨hnod _ w1 w3, by simp; omega, by simp, fun p hp => (List.mem_append.1 hp).imp (w3 p) List.mem_singleton.1⟩ hg.run
          rw [if_neg hm, ← hbc] at h
          exact h
        · intro G a hG hGT h
          have hGl := hlenG G hG hGT
          cases h with
          | cons s hs =>
            rename_i T' n
            have hmG : rd l i ∉ G := fun h => hm ((hGT _).1 h)
            rw [if_neg hmG]
            rcases s.how with h1 | ⟨_, h1, u, hu, _, h2⟩
            · exfalso
              have h3 := le_of_sub (X := rd l i :: G) (Y := T') (List.nodup_cons.2 ⟨hmG, hG⟩) (fun p hp => by
                rcases List.mem_cons.1 hp with rfl | hp
                · exact s.any.has
                · exact h1 p hp)
              have h4 := s.any.len
              simp only [List.length_cons] at h3
              omega
            · obtain ⟨j, hj, hju⟩ := List.getElem_of_mem ((hGT u).1 hu)
              have hrd : rd T (j : Int) = u := by simp [rd, List.getD_eq_getElem?_getD, hj, hju]
              obtain ⟨c', hg', hbc'⟩ := b4 (j : Int) (by omega) (by omega)
              obtain ⟨x1, x2, x3, x4⟩ := wo_facts T (j : Int) (by omega) (by omega) hn
              have huT' : u ∉ T' := fun hu' => by
                have h3 := le_of_sub (X := rd l i :: G) (Y := T') (List.nodup_cons.2 ⟨hmG, hG⟩) (fun p hp => by
                  rcases List.mem_cons.1 hp with rfl | hp
                  · exact s.any.has
                  · by_cases e : p = u
                    · exact e ▸ hu'
                    · exact h2 p hp e)
                have h4 := s.any.len
                simp only [List.length_cons] at h3
                omega
              have huw : u ∉ wo T (j : Int) := fun hu' => by
                have h3 := le_of_sub (X := T) (Y := wo T (j : Int)) hn (fun p hp => by
                  by_cases e : p = u
                  · exact e ▸ hu'
                  · exact x4 p hp (hrd ▸ e))
                omega
              have := hg'.min T' n s.any.nodup (fun p => by
                rw [List.mem_append, List.mem_singleton]
                constructor
                · intro hp
                  rcases s.any.sub p hp with h5 | h5
                  · exact .inl (x4 p ((hGT p).1 h5) (fun e => huT' (by rw [hrd] at e; exact e ▸ hp)))
                  · exact .inr h5
                · rintro (hp | hp)
                  · exact h2 p ((hGT p).2 (x3 p hp)) (fun e => huw (e ▸ hp))
                  · exact hp ▸ s.any.has) hs
              omega
theorem optimal_yes (l0 : List Int) (a1 : Int) : Ev (fun k => estoverslaw37_StackdistOptimal.j0 k l0 a1 true) true :=
  Ev.step (fun k => by simp only [estoverslaw37_StackdistOptimal.j0]; rw [if_pos trivial]) (Ev.bind awake_ev (Ev.now _))
theorem optimal_no (l0 : List Int) (a1 : Int) (ha : 0 ≤ a1 ∧ a1 ≤ 255) (hl : l0.length ≤ 9) (hw : wfs l0) : Ev (fun k => estoverslaw37_StackdistOptimal.j0 k l0 a1 false) true := by
  obtain ⟨f, hf, hf1, hf2⟩ : ∃ f : Nat, 1 + Int.tmod a1 3 = f ∧ 1 ≤ f ∧ f ≤ 3 := ⟨(1 + Int.tmod a1 3).toNat, by rw [Int.tmod_eq_emod_of_nonneg ha.1]; omega, by rw [Int.tmod_eq_emod_of_nonneg ha.1]; omega, by rw [Int.tmod_eq_emod_of_nonneg ha.1]; omega⟩
  obtain ⟨b, hb, hg⟩ := best_ev l0 f (by omega) (by omega) l0.length 0 [] (by omega) (by omega) (by simp) (by simp)
  have hr := opt_grun l0 f hf1
  have e : opt l0 f = b := Int.le_antisymm (least hr hg.run (by simp)) (hg.min [] _ (by simp) (fun p => Iff.rfl) hr)
  have r1 : req l0.length f = 0 := by unfold req; rw [if_neg (by omega), if_neg (by omega), if_neg (by omega)]
  refine Ev.step (f := fun k => (stackdist_Optimal.f l0 (f : Int)).bind fun bt447 => (if bt447.2 = 0 then ((estoverslaw37_best.f k l0 0 ([] : List Int) (f : Int)).bind fun t449 => (some (bt447.1 == t449))) else (some false)))
    (fun k => by simp only [estoverslaw37_StackdistOptimal.j0]; rw [if_neg (by decide), w64 (i := a1) (by omega), hf, w64 (i := (f : Int)) (by omega)]) ?_
  refine Ev.bind (opt_ev l0 f hw) ?_
  unfold optR
  rw [if_pos r1]
  exact Ev.congr (fun k => by rw [if_pos rfl]) (Ev.bind hb (Ev.none_k fun k => by simp [e]))
theorem StackdistOptimal : estoverslaw37_StackdistOptimal.Pure := by
  intro l0 a1 _ _ hw0 hw
  refine Ev.rounds ?_
  have ha : 0 ≤ a1 ∧ a1 ≤ 255 := by simpa [Lit.wf, IntKind.min, IntKind.max, IntKind.signed, IntKind.bits] using hw
  unfold estoverslaw37_StackdistOptimal.f
  refine Ev.bind awake_ev (Ev.congr (fun k => by rw [if_pos rfl]) ?_)
  by_cases h1 : (l0.length : Int) > 9
  · exact Ev.congr (fun k => by rw [decide_eq_true h1]) (optimal_yes l0 a1)
  · exact Ev.congr (fun k => by rw [decide_eq_false h1]) (optimal_no l0 a1 ha (by omega) (wfs_of l0 hw0))
end Go.Proofs.Ytbchpnhlaknhjaa.Pure
