/-
  Optimal's reference has the program's number of faults; LRU and FIFO are replacements, so they have no fewer.
-/
import Derived.Test.YtbchpnhlaknhjaaVc
import Derived.Test.YtbchpnhlaknhjaaEOpt
namespace Go.Proofs.Ytbchpnhlaknhjaa.V
open Go.RowKit Go.Proofs.Ytbchpnhlaknhjaa.Q Go.Proofs.Ytbchpnhlaknhjaa.Sd Go.Proofs.Ytbchpnhlaknhjaa.Bel Go.Proofs.YtbchpnhlaknhjaaW.PrintWords Go.Proofs.YtbchpnhlaknhjaaW.PrintLast Go.Proofs.YtbchpnhlaknhjaaW.PrintMore
set_option linter.unusedVariables false

theorem next_l0 (l : List Int) (p : Int) (hl : l.length ≤ 5000) (d : Nat) : ∀ i : Int, 0 ≤ i → (l.length : Int) - i = d → Ev (fun k => estoversref37_next.l0 k l p i) (i + nx (l.drop i.toNat) p) := by
  induction d with
  | zero =>
    intro i h0 hd
    rw [drop_end (by omega)]
    exact Ev.step (fun k => by simp only [estoversref37_next.l0]; rw [if_neg (by omega)]; simp [nx]; omega) (Ev.now _)
  | succ d ih =>
    intro i h0 hd
    have hlt : i < l.length := by omega
    rw [drop_rd h0 hlt]
    by_cases e : rd l i = p
    · exact Ev.step (fun k => by simp only [estoversref37_next.l0]; rw [if_pos hlt, if_pos h0, if_pos e]; simp [nx, e]) (Ev.now _)
    · have h := ih (i + 1) (by omega) (by omega)
      simp only [nx]
      rw [if_neg e, show i + ((nx (l.drop (i + 1).toNat) p + 1 : Nat) : Int) = i + 1 + nx (l.drop (i + 1).toNat) p by omega]
      exact Ev.step (fun k => by simp only [estoversref37_next.l0]; rw [if_pos hlt, if_pos h0, if_neg e, w64 (by omega)]) h
theorem next_ev (l : List Int) (p i : Int) (hl : l.length ≤ 5000) (h0 : 0 ≤ i) (hi : i ≤ l.length) : Ev (fun k => estoversref37_next.f k l i p) (i + nx (l.drop i.toNat) p) := next_l0 l p hl ((l.length : Int) - i).toNat i h0 (by omega)

theorem wo_erase (q : List Int) (v : Int) (h0 : 0 ≤ v) : wo q v = q.eraseIdx v.toNat := by
  unfold wo
  rw [if_neg (by omega), List.eraseIdx_eq_take_drop_succ]
theorem rd_mem {q : List Int} {v : Int} (h0 : 0 ≤ v) (h : v < q.length) : rd q v ∈ q := by
  have hv : v.toNat < q.length := by omega
  simp only [rd, List.getD_eq_getElem?_getD, List.getElem?_eq_getElem hv, Option.getD_some]
  exact List.getElem_mem hv
theorem wo_facts (q : List Int) (v : Int) (h0 : 0 ≤ v) (h : v < q.length) (hn : q.Nodup) :
    (wo q v).Nodup ∧ (wo q v).length + 1 = q.length ∧ (∀ p ∈ wo q v, p ∈ q) ∧ ∀ p ∈ q, p ≠ rd q v → p ∈ wo q v := by
  rw [wo_erase q v h0]
  have hv : v.toNat < q.length := by omega
  have hs := List.eraseIdx_sublist q v.toNat
  refine ⟨hn.sublist hs, ?_, fun p hp => hs.subset hp, fun p hp hne => ?_⟩
  · rw [List.length_eraseIdx_of_lt hv]; omega
  · rw [List.mem_eraseIdx_iff_getElem?]
    obtain ⟨j, hj, rfl⟩ := List.getElem_of_mem hp
    refine ⟨j, fun e => hne ?_, List.getElem?_eq_getElem hj⟩
    subst e
    simp [rd, List.getD_eq_getElem?_getD, hj]
theorem max_l1 (l : List Int) (f : Int) (hl : l.length ≤ 5000) (n : Int) (q : List Int) (i : Int) (h0 : 0 ≤ i) (hi : i < l.length) (hq : q.length ≤ 5000) (X : Int × Int) (Y : Int → Nat → Option (Int × Int))
    (hY : ∀ b k, Y b k = (estoversref37_without.f k q b).bind fun t307 => (if 0 ≤ i then (if i < (l.length : Int) then (if t307.length < 17592186044416 then (estoversref37_Optimal.l0 k l f n (t307 ++ [rd l i]) (wrap64 (i + 1))) else (none)) else (none)) else (none))) (d : Nat) :
    ∀ b j : Int, 0 ≤ b → b < j → (q.length : Int) - j = d → (∀ m : Int, 0 ≤ m → m < j → nx (l.drop i.toNat) (rd q m) ≤ nx (l.drop i.toNat) (rd q b)) →
    ∃ v : Int, 0 ≤ v ∧ v < q.length ∧ (∀ m : Int, 0 ≤ m → m < q.length → nx (l.drop i.toNat) (rd q m) ≤ nx (l.drop i.toNat) (rd q v)) ∧ ∀ X, Ev (Y v) X → Ev (fun k => estoversref37_Optimal.l1 k l f n q i b j) X := by
  induction d with
  | zero =>
    intro b j hb hbj hd hm
    refine ⟨b, hb, by omega, fun m h1 h2 => hm m h1 (by omega), fun X hX => ?_⟩
    exact Ev.step (fun k => by simp only [estoversref37_Optimal.l1]; rw [if_neg (by omega), hY]) hX
  | succ d ih =>
    intro b j hb hbj hd hm
    have hlt : j < q.length := by omega
    by_cases e : nx (l.drop i.toNat) (rd q j) > nx (l.drop i.toNat) (rd q b)
    · obtain ⟨v, h1, h2, h3, h4⟩ := ih j (j + 1) (by omega) (by omega) (by omega) (fun m hm0 hmj => by
        by_cases ej : m = j
        · rw [ej]; exact Nat.le_refl _
        · have := hm m hm0 (by omega); omega)
      refine ⟨v, h1, h2, h3, fun X hX => ?_⟩
      refine Ev.step (f := fun k => (estoversref37_next.f k l i (rd q j)).bind fun t315 => (if 0 ≤ b then (if b < (q.length : Int) then ((estoversref37_next.f k l i (rd q b)).bind fun t317 => (if t315 > t317 then (estoversref37_Optimal.l1 k l f n q i j (wrap64 (j + 1))) else (estoversref37_Optimal.l1 k l f n q i b (wrap64 (j + 1))))) else (none)) else (none)))
        (fun k => by simp only [estoversref37_Optimal.l1]; rw [if_pos hlt, if_pos (by omega)]) ?_
      refine Ev.bind (next_ev l _ i hl h0 (by omega)) (Ev.congr (fun k => by rw [if_pos hb, if_pos (by omega)]) (Ev.bind (next_ev l _ i hl h0 (by omega)) (Ev.congr (fun k => ?_) (h4 X hX))))
      rw [if_pos (by omega), w64 (by omega)]
    · obtain ⟨v, h1, h2, h3, h4⟩ := ih b (j + 1) (by omega) (by omega) (by omega) (fun m hm0 hmj => by
        by_cases ej : m = j
        · rw [ej]; omega
        · exact hm m hm0 (by omega))
      refine ⟨v, h1, h2, h3, fun X hX => ?_⟩
      refine Ev.step (f := fun k => (estoversref37_next.f k l i (rd q j)).bind fun t315 => (if 0 ≤ b then (if b < (q.length : Int) then ((estoversref37_next.f k l i (rd q b)).bind fun t317 => (if t315 > t317 then (estoversref37_Optimal.l1 k l f n q i j (wrap64 (j + 1))) else (estoversref37_Optimal.l1 k l f n q i b (wrap64 (j + 1))))) else (none)) else (none)))
        (fun k => by simp only [estoversref37_Optimal.l1]; rw [if_pos hlt, if_pos (by omega)]) ?_
      refine Ev.bind (next_ev l _ i hl h0 (by omega)) (Ev.congr (fun k => by rw [if_pos hb, if_pos (by omega)]) (Ev.bind (next_ev l _ i hl h0 (by omega)) (Ev.congr (fun k => ?_) (h4 X hX))))
      rw [if_neg (by omega), w64 (by omega)]
theorem ref_run (l : List Int) (f : Nat) (hf : 1 ≤ f) (hl : l.length ≤ 5000) (d : Nat) : ∀ (n i : Int) (q : List Int), 0 ≤ i → (l.length : Int) - i = d → 0 ≤ n → n ≤ i → q.Nodup → q.length ≤ f → q.length ≤ i.toNat →
    ∃ a, GRun f (l.drop i.toNat) q a ∧ Ev (fun k => estoversref37_Optimal.l0 k l (f : Int) n q i) (n + a, 0) := by
  induction d with
  | zero =>
    intro n i q h0 hd _ _ _ _ _
    rw [drop_end (by omega)]
    refine ⟨0, .nil _, ?_⟩
    exact Ev.step (fun k => by simp only [estoversref37_Optimal.l0]; rw [if_neg (by omega), Int.add_zero]) (Ev.now _)
  | succ d ih =>
    intro n i q h0 hd hn hni hq hqf hqi
    have hlt : i < l.length := by omega
    rw [drop_rd h0 hlt]
    by_cases hm : rd l i ∈ q
    · obtain ⟨a, ha, he⟩ := ih n (i + 1) q (by omega) (by omega) (by omega) (by omega) hq hqf (by omega)
      refine ⟨_, .cons (T' := q) ⟨⟨hq, hqf, hm, fun p hp => .inl hp⟩, .inl fun p hp => hp⟩ ha, ?_⟩
      rw [if_pos hm, Int.zero_add]
      refine Ev.step (f := fun k => (estoversref37_At.f k q (rd l i)).bind fun t306 => (if t306 ≥ 0 then (estoversref37_Optimal.l0 k l (f : Int) n q (wrap64 (i + 1))) else (if (f : Int) = 0 then (estoversref37_Optimal.l0 k l (f : Int) (wrap64 (n + 1)) q (wrap64 (i + 1))) else (if (q.length : Int) = (f : Int) then (estoversref37_Optimal.l1 k l (f : Int) (wrap64 (n + 1)) q i 0 1) else (if q.length < 17592186044416 then (estoversref37_Optimal.l0 k l (f : Int) (wrap64 (n + 1)) (q ++ [rd l i]) (wrap64 (i + 1))) else (none))))))
        (fun k => by simp only [estoversref37_Optimal.l0]; rw [if_pos hlt, if_pos h0]) ?_
      refine Ev.bind (at_ev q _ (by omega)) (Ev.congr (fun k => ?_) he)
      rw [if_pos ((posF_mem q 0 _ (by omega)).2 hm), w64 (by omega)]
    · have hnp : ¬ posF 0 q (rd l i) ≥ 0 := fun h => hm ((posF_mem q 0 _ (by omega)).1 h)
      by_cases hc : (q.length : Int) = f
      · obtain ⟨v, hv0, hv1, hv2, hv3⟩ := max_l1 l f hl (n + 1) q i h0 hlt (by omega) (0, 0) (fun b k => (estoversref37_without.f k q b).bind fun t307 => (if 0 ≤ i then (if i < (l.length : Int) then (if t307.length < 17592186044416 then (estoversref37_Optimal.l0 k l (f : Int) (n + 1) (t307 ++ [rd l i]) (wrap64 (i + 1))) else (none)) else (none)) else (none))) (fun b k => rfl) (q.length - 1) 0 1 (by omega) (by omega) (by omega) (fun m h1 h2 => by rw [show m = 0 by omega]; exact Nat.le_refl _)
        obtain ⟨w1, w2, w3, w4⟩ := wo_facts q v hv0 hv1 hq
        have hnr : rd l i ∉ wo q v := fun h => hm (w3 _ h)
        have hnod : (wo q v ++ [rd l i]).Nodup := by
          rw [List.nodup_append]
          refine ⟨w1, by simp, fun a ha b hb => ?_⟩
          rw [List.mem_singleton] at hb
          rw [hb]; exact fun e => hnr (e ▸ ha)
        obtain ⟨a, ha, he⟩ := ih (n + 1) (i + 1) (wo q v ++ [rd l i]) (by omega) (by omega) (by omega) (by omega) hnod (by simp; omega) (by simp; omega)
        refine ⟨_, .cons (T' := wo q v ++ [rd l i]) ⟨⟨hnod, by simp; omega, by simp, fun p hp => ?_⟩, .inr ⟨hm, by omega, rd q v, rd_mem hv0 hv1, fun p hp => ?_, fun p hp hne => List.mem_append_left _ (w4 p hp hne)⟩⟩ ha, ?_⟩
        · rcases List.mem_append.1 hp with hp | hp
          · exact .inl (w3 p hp)
          · exact .inr (List.mem_singleton.1 hp)
        · obtain ⟨j, hj, rfl⟩ := List.getElem_of_mem hp
          have h1 := hv2 j (by omega) (by omega)
          have h2 : rd q (j : Int) = q[j] := by simp [rd, List.getD_eq_getElem?_getD, hj]
          have h3 : rd l i ≠ q[j] := fun e => hm (e ▸ List.getElem_mem hj)
          have h4 : rd l i ≠ rd q v := fun e => hm (e ▸ rd_mem hv0 hv1)
          rw [h2, drop_rd h0 hlt] at h1
          simp only [nx] at h1
          rw [if_neg h3, if_neg h4] at h1
          omega
        · rw [if_neg hm, ← Int.add_assoc]
          refine Ev.step (f := fun k => (estoversref37_At.f k q (rd l i)).bind fun t306 => (if t306 ≥ 0 then (estoversref37_Optimal.l0 k l (f : Int) n q (wrap64 (i + 1))) else (if (f : Int) = 0 then (estoversref37_Optimal.l0 k l (f : Int) (wrap64 (n + 1)) q (wrap64 (i + 1))) else (if (q.length : Int) = (f : Int) then (estoversref37_Optimal.l1 k l (f : Int) (wrap64 (n + 1)) q i 0 1) else (if q.length < 17592186044416 then (estoversref37_Optimal.l0 k l (f : Int) (wrap64 (n + 1)) (q ++ [rd l i]) (wrap64 (i + 1))) else (none))))))
            (fun k => by simp only [estoversref37_Optimal.l0]; rw [if_pos hlt, if_pos h0]) ?_
          refine Ev.bind (at_ev q _ (by omega)) (Ev.congr (fun k => ?_) (hv3 (n + 1 + a, 0) (Ev.bind (without_ev q v (by omega)) (Ev.congr (fun k => ?_) he))))
          · rw [if_neg hnp, if_neg (by omega), if_pos hc, w64 (by omega)]
          · rw [if_pos h0, if_pos hlt, if_pos (by omega), w64 (by omega)]
      · have hnod : (q ++ [rd l i]).Nodup := by
          rw [List.nodup_append]
          refine ⟨hq, by simp, fun a ha b hb => ?_⟩
          rw [List.mem_singleton] at hb
          rw [hb]; exact fun e => hm (e ▸ ha)
        obtain ⟨a, ha, he⟩ := ih (n + 1) (i + 1) (q ++ [rd l i]) (by omega) (by omega) (by omega) (by omega) hnod (by simp; omega) (by simp; omega)
        refine ⟨_, .cons (T' := q ++ [rd l i]) ⟨⟨hnod, by simp; omega, by simp, fun p hp => ?_⟩, .inl fun p hp => List.mem_append_left _ hp⟩ ha, ?_⟩
        · rcases List.mem_append.1 hp with hp | hp
          · exact .inl hp
          · exact .inr (List.mem_singleton.1 hp)
        · rw [if_neg hm, ← Int.add_assoc]
          refine Ev.step (f := fun k => (estoversref37_At.f k q (rd l i)).bind fun t306 => (if t306 ≥ 0 then (estoversref37_Optimal.l0 k l (f : Int) n q (wrap64 (i + 1))) else (if (f : Int) = 0 then (estoversref37_Optimal.l0 k l (f : Int) (wrap64 (n + 1)) q (wrap64 (i + 1))) else (if (q.length : Int) = (f : Int) then (estoversref37_Optimal.l1 k l (f : Int) (wrap64 (n + 1)) q i 0 1) else (if q.length < 17592186044416 then (estoversref37_Optimal.l0 k l (f : Int) (wrap64 (n + 1)) (q ++ [rd l i]) (wrap64 (i + 1))) else (none))))))
            (fun k => by simp only [estoversref37_Optimal.l0]; rw [if_pos hlt, if_pos h0]) ?_
          refine Ev.bind (at_ev q _ (by omega)) (Ev.congr (fun k => ?_) he)
          rw [if_neg hnp, if_neg (by omega), if_neg hc, if_pos (by omega), w64 (i := n + 1) (by omega), w64 (by omega)]
theorem ref_zero (l : List Int) (hl : l.length ≤ 5000) (d : Nat) : ∀ (n i : Int), 0 ≤ i → (l.length : Int) - i = d → 0 ≤ n → n ≤ i → Ev (fun k => estoversref37_Optimal.l0 k l 0 n [] i) (n + d, 0) := by
  induction d with
  | zero =>
    intro n i h0 hd _ _
    exact Ev.step (fun k => by simp only [estoversref37_Optimal.l0]; rw [if_neg (by omega)]; simp) (Ev.now _)
  | succ d ih =>
    intro n i h0 hd hn hni
    have hlt : i < l.length := by omega
    have h := ih (n + 1) (i + 1) (by omega) (by omega) (by omega) (by omega)
    rw [show n + 1 + (d : Int) = n + ((d + 1 : Nat) : Int) by omega] at h
    refine Ev.step (f := fun k => (estoversref37_At.f k [] (rd l i)).bind fun t306 => (if t306 ≥ 0 then (estoversref37_Optimal.l0 k l 0 n [] (wrap64 (i + 1))) else (estoversref37_Optimal.l0 k l 0 (wrap64 (n + 1)) [] (wrap64 (i + 1)))))
      (fun k => by simp only [estoversref37_Optimal.l0]; rw [if_pos hlt, if_pos h0]; simp) ?_
    refine Ev.bind (at_ev [] _ (by simp)) (Ev.congr (fun k => ?_) h)
    rw [if_neg (by simp [posF]), w64 (i := n + 1) (by omega), w64 (by omega)]
def optR (l : List Int) (f : Int) : Int × Int := if req l.length f = 0 then (opt l f, 0) else (0, req l.length f)
theorem refOpt_ev (l : List Int) (f : Int) : Ev (fun k => estoversref37_Optimal.f k l f) (optR l f) := by
  unfold estoversref37_Optimal.f optR
  refine Ev.congr (fun k => by rw [check_f, Option.bind_some]) ?_
  by_cases h : req l.length f = 0
  · obtain ⟨h1, h2, h3⟩ := req_zero h
    rw [if_pos h]
    obtain ⟨g, rfl⟩ : ∃ g : Nat, f = g := ⟨f.toNat, by omega⟩
    by_cases hg : g = 0
    · subst hg
      have e := ref_zero l (by omega) l.length 0 0 (by omega) (by omega) (by omega) (by omega)
      rw [Int.zero_add] at e
      rw [show ((0 : Nat) : Int) = 0 from rfl] at h ⊢
      rw [opt_zero]
      exact Ev.congr (fun k => by rw [if_pos h]) e
    · obtain ⟨a, ha, e⟩ := ref_run l g (by omega) (by omega) l.length 0 0 [] (by omega) (by omega) (by omega) (by omega) (by simp) (by simp) (by simp)
      rw [Int.zero_add] at e
      have e2 := same (opt_grun l g (by omega)) ha (by simp)
      rw [e2]
      exact Ev.congr (fun k => by rw [if_pos h]) e
  · rw [if_neg h]
    exact Ev.none_k fun k => by rw [if_neg h]
theorem opt_f (l : List Int) (f : Int) (hw : wfs l) : stackdist_Optimal.f l f = some (optR l f) := by
  unfold stackdist_Optimal.f optR
  rw [if_pos hw, request_f, Option.bind_some]
  split <;> rfl
theorem opt_ev (l : List Int) (f : Int) (hw : wfs l) : Ev (fun _ => stackdist_Optimal.f l f) (optR l f) := Ev.none_k fun _ => opt_f l f hw
theorem wfs_of (l : List Int) (h : ∀ x ∈ l, (Lit.int .i64 x).wf = true) : wfs l := fun x hx => of_wf x (h x hx)
end Go.Proofs.Ytbchpnhlaknhjaa.V
