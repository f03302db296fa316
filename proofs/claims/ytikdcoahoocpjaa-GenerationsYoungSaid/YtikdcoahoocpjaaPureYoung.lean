/-
  GenerationsYoung comes to true. Condition: the frames are ints of their kind.
-/
import Derived.Test.YtikdcoahoocpjaaVe
import Derived.Test.YtikdcoahoocpjaaVd
import Derived.Test.YtikdcoahoocpjaaQ305
namespace Go.Proofs.Ytikdcoahoocpjaa.V
open Go.RowKit Go.Proofs.Ytikdcoahoocpjaa.Q Go.Proofs.Ytikdcoahoocpjaa.Sd Go.Proofs.YtikdcoahoocpjaaW.PrintWords Go.Proofs.YtikdcoahoocpjaaW.PrintLast
set_option linter.unusedVariables false
theorem acc_of (flat : List Int) : ∀ (acc pre : List Int), accS flat pre acc = 0 → acc.Nodup ∧ ∀ f ∈ acc, f ∈ flat ∧ f ∉ pre
  | [], pre, _ => ⟨List.nodup_nil, fun f hf => (List.not_mem_nil hf).elim⟩
  | a :: r, pre, h => by
    unfold accS at h
    by_cases h1 : a ∈ flat
    · rw [if_pos h1] at h
      by_cases h2 : a ∈ pre
      · rw [if_pos h2] at h; cases h
      · rw [if_neg h2] at h
        obtain ⟨q1, q2⟩ := acc_of flat r (pre ++ [a]) h
        refine ⟨List.nodup_cons.2 ⟨fun h3 => (q2 a h3).2 (by simp), q1⟩, fun f hf => ?_⟩
        rcases List.mem_cons.1 hf with rfl | hf
        · exact ⟨h1, h2⟩
        · have := q2 f hf
          exact ⟨this.1, fun h3 => this.2 (List.mem_append_left _ h3)⟩
    · rw [if_neg h1] at h; cases h
theorem ageR_flat {l : List (List Int)} (acc : List Int) (h4 : l.length = 4) : (ageR l acc).flatten = cold acc l.flatten ++ hot acc l.flatten := by
  match l, h4 with
  | [a, b, c, d], _ => simp [ageR, rd_L1, cold, hot, List.filter_append]
theorem cold_hot_perm (acc x : List Int) : (cold acc x ++ hot acc x).Perm x := by
  have h := List.filter_append_perm (fun f => decide (f ∈ acc)) x
  have e : x.filter (fun f => !decide (f ∈ acc)) = cold acc x := by
    unfold cold
    apply List.filter_congr
    intro y _
    simp
  rw [e] at h
  exact List.perm_append_comm.trans h
theorem ageR_chk {l : List (List Int)} (h : chkS l = 0) (acc : List Int) : chkS (ageR l acc) = 0 :=
  chk_perm h rfl (by rw [ageR_flat acc (nodup_of h).1]; exact cold_hot_perm acc _)
theorem hot_len {l : List (List Int)} (h : chkS l = 0) {acc : List Int} (ha : accS l.flatten [] acc = 0) : (hot acc l.flatten).length = acc.length := by
  obtain ⟨q1, q2⟩ := acc_of _ acc [] ha
  refine ((List.perm_ext_iff_of_nodup ((nodup_of h).2.2.filter _) q1).2 fun x => ?_).length_eq
  constructor
  · intro hx; simpa using (List.mem_filter.1 hx).2
  · intro hx; exact List.mem_filter.2 ⟨(q2 x hx).1, by simpa using hx⟩
theorem young_wh {l : List (List Int)} (h : chkS l = 0) {acc : List Int} (ha : accS l.flatten [] acc = 0) {x : Int} (hx : x ∈ acc) : whF 0 (ageR l acc) x = 3 := by
  obtain ⟨q1, q2⟩ := acc_of _ acc [] ha
  have hr : x ∈ hot acc l.flatten := List.mem_filter.2 ⟨(q2 x hx).1, by simpa using hx⟩
  have hn := (nodup_of (ageR_chk h acc)).2.2
  have key : ∀ (a b c d : List Int), [a, b, c, d].flatten.Nodup → x ∈ d → whF 0 [a, b, c, d] x = 3 := by
    intro a b c d hn hd
    have e : [a, b, c, d].flatten = (a ++ (b ++ c)) ++ d := by simp
    rw [e] at hn
    have h3 := (List.nodup_append.1 hn).2.2
    have h4 : ∀ y, y ∈ a ++ (b ++ c) → y ≠ x := fun y hy => h3 y hy x hd
    rw [show whF 0 [a, b, c, d] x = if x ∈ a then 0 else if x ∈ b then 0 + 1 else if x ∈ c then 0 + 1 + 1 else if x ∈ d then 0 + 1 + 1 + 1 else -1 from rfl]
    rw [if_neg (fun hm => h4 x (List.mem_append_left _ hm) rfl), if_neg (fun hm => h4 x (List.mem_append_right _ (List.mem_append_left _ hm)) rfl), if_neg (fun hm => h4 x (List.mem_append_right _ (List.mem_append_right _ hm)) rfl), if_pos hd]
    rfl
  exact key _ _ _ _ hn hr
theorem young_l2 (x7 : List (List Int)) (x9 x11 : List Int) (acc : List Int) (hacc : acc.length ≤ 1000) (h9 : x9.length ≤ 1000) (he : x9 = x11) (h : ∀ f ∈ acc, generations_Where.f x7 f = some 3) (d : Nat) :
    ∀ i : Int, 0 ≤ i → (acc.length : Int) - i = d → Ev (fun k => estoverslaw36_GenerationsYoung.l2 k x7 x9 x11 acc (acc.length : Int) i) true := by
  induction d with
  | zero =>
    intro i h0 hd
    refine Ev.step (f := fun k => _) (fun k => by simp only [estoverslaw36_GenerationsYoung.l2]; rw [if_neg (by omega)]) ?_
    refine Ev.bind (evTo (equal_ev _ _ (by omega)) (decide_eq_true he)) ?_
    exact Ev.ite_pos rfl (Ev.now _)
  | succ d ih =>
    intro i h0 hd
    have hlt : i < acc.length := by omega
    refine Ev.step (f := fun k => _) (fun k => by simp only [estoverslaw36_GenerationsYoung.l2]; rw [if_pos hlt, if_pos h0, if_pos hlt]) ?_
    refine Ev.val (h _ (rd_mem h0 hlt)) ?_
    exact Ev.ite_pos rfl (Ev.congr (fun k => by rw [w64 (by omega)]) (ih (i + 1) (by omega) (by omega)))
theorem young_l1 (x7 : List (List Int)) (x9 acc b : List Int) (hacc : acc.length ≤ 1000) (hb : b.length ≤ 1000) (h9 : x9.length ≤ 1000) (h : ∀ f ∈ acc, generations_Where.f x7 f = some 3) (d : Nat) :
    ∀ (i : Int) (x11 : List Int), 0 ≤ i → (b.length : Int) - i = d → (x11.length : Int) ≤ 1000 + i → x9 = x11 ++ hot acc (b.drop i.toNat) → Ev (fun k => estoverslaw36_GenerationsYoung.l1 k acc x7 x9 x11 b (b.length : Int) i) true := by
  induction d with
  | zero =>
    intro i x11 h0 hd hx he
    refine Ev.step (f := fun k => _) (fun k => by simp only [estoverslaw36_GenerationsYoung.l1]; rw [if_neg (by omega)]) ?_
    rw [drop_end (by omega), show hot acc [] = [] from rfl, List.append_nil] at he
    exact young_l2 x7 x9 x11 acc hacc h9 he h acc.length 0 (by omega) (by omega)
  | succ d ih =>
    intro i x11 h0 hd hx he
    have hlt : i < b.length := by omega
    refine Ev.step (f := fun k => _) (fun k => by simp only [estoverslaw36_GenerationsYoung.l1]; rw [if_pos hlt, if_pos h0, if_pos hlt]) ?_
    rw [drop_rd h0 hlt] at he
    refine Ev.bind (contains_ev acc (rd b i) (by omega)) ?_
    by_cases e : rd b i ∈ acc
    · refine Ev.ite_pos (decide_eq_true e) (Ev.ite_pos (by omega) ?_)
      refine Ev.congr (fun k => by rw [w64 (by omega)]) (ih (i + 1) (x11 ++ [rd b i]) (by omega) (by omega) (by simp; omega) ?_)
      rw [he]
      unfold hot
      rw [List.filter_cons, if_pos (by simpa using e), List.append_assoc]
      rfl
    · refine Ev.ite_neg (by rw [decide_eq_false e]; decide) ?_
      refine Ev.congr (fun k => by rw [w64 (by omega)]) (ih (i + 1) x11 (by omega) (by omega) (by omega) ?_)
      rw [he]
      unfold hot
      rw [List.filter_cons, if_neg (by simpa using e)]
theorem young_l0 (x7 : List (List Int)) (x9 acc b : List Int) (hacc : acc.length ≤ 1000) (hb : b.length ≤ 1000) (h9 : x9.length ≤ 1000) (h : ∀ f ∈ acc, generations_Where.f x7 f = some 3) (d : Nat) :
    ∀ (i : Int) (x11 : List Int), 0 ≤ i → (b.length : Int) - i = d → (x11.length : Int) ≤ i → x9 = x11 ++ cold acc (b.drop i.toNat) ++ hot acc b → Ev (fun k => estoverslaw36_GenerationsYoung.l0 k acc b x7 x9 x11 b (b.length : Int) i) true := by
  induction d with
  | zero =>
    intro i x11 h0 hd hx he
    refine Ev.step (f := fun k => _) (fun k => by simp only [estoverslaw36_GenerationsYoung.l0]; rw [if_neg (by omega)]) ?_
    rw [drop_end (by omega), show cold acc [] = [] from rfl, List.append_nil] at he
    exact young_l1 x7 x9 acc b hacc hb h9 h b.length 0 x11 (by omega) (by omega) (by omega) he
  | succ d ih =>
    intro i x11 h0 hd hx he
    have hlt : i < b.length := by omega
    refine Ev.step (f := fun k => _) (fun k => by simp only [estoverslaw36_GenerationsYoung.l0]; rw [if_pos hlt, if_pos h0, if_pos hlt]) ?_
    rw [drop_rd h0 hlt] at he
    refine Ev.bind (contains_ev acc (rd b i) (by omega)) ?_
    by_cases e : rd b i ∈ acc
    · refine Ev.ite_pos (decide_eq_true e) ?_
      refine Ev.congr (fun k => by rw [w64 (by omega)]) (ih (i + 1) x11 (by omega) (by omega) (by omega) ?_)
      rw [he]
      unfold cold
      rw [List.filter_cons, if_neg (by simpa using e)]
    · refine Ev.ite_neg (by rw [decide_eq_false e]; decide) (Ev.ite_pos (by omega) ?_)
      refine Ev.congr (fun k => by rw [w64 (by omega)]) (ih (i + 1) (x11 ++ [rd b i]) (by omega) (by omega) (by simp; omega) ?_)
      rw [he]
      unfold cold
      rw [List.filter_cons, if_pos (by simpa using e)]
      simp
theorem young_ev (l : List (List Int)) (acc : List Int) (hw : ∀ x ∈ l, ∀ g ∈ x, okI g = true) (ha : ∀ g ∈ acc, okI g = true) : ∃ k, estoverslaw36_GenerationsYoung.f k l acc = some true := by
  refine Ev.rounds (g := fun k => estoverslaw36_GenerationsYoung.f k l acc) ?_
  unfold estoverslaw36_GenerationsYoung.f
  refine Ev.bind (few_ev l) ?_
  have hT : Ev (fun k => estoverslaw36_GenerationsYoung.j0 k l acc true) true := Ev.step (f := fun k => some true) (fun k => by simp only [estoverslaw36_GenerationsYoung.j0]; rw [if_pos trivial]; rfl) (Ev.now _)
  have hT1 : ∀ b a, Ev (fun k => estoverslaw36_GenerationsYoung.j1 k acc b a true) true := fun b a => Ev.step (f := fun k => some true) (fun k => by simp only [estoverslaw36_GenerationsYoung.j1]; rw [if_pos trivial]; rfl) (Ev.now _)
  cases hfew : fewB l with
  | false => exact hT
  | true =>
    refine Ev.ite_pos rfl ?_
    by_cases h3 : (acc.length : Int) > 300
    · rw [decide_eq_true h3]; exact hT
    · rw [decide_eq_false h3]
      have hok := few_ok hw hfew
      refine Ev.step (f := fun k => _) (fun k => by simp only [estoverslaw36_GenerationsYoung.j0]; rw [if_neg (by decide)]) ?_
      refine Ev.val (order_f hok) (Ev.val (age_f l acc hok (okA_of (by omega) ha)) ?_)
      unfold ordS ageS
      by_cases h0 : chkS l = 0
      · rw [if_pos h0, if_pos h0]
        refine Ev.ite_pos rfl ?_
        by_cases h1 : accS l.flatten [] acc = 0
        · rw [if_pos h1]
          have hc := ageR_chk h0 acc
          have h4 := (nodup_of h0).1
          have hsm := chk_small h0
          have hfl := ageR_flat acc h4
          have hlen : (ageR l acc).flatten.length = l.flatten.length := by rw [hfl]; exact (cold_hot_perm acc _).length_eq
          have hhot := hot_len h0 h1
          refine Ev.step (f := fun k => _) (fun k => by simp only [estoverslaw36_GenerationsYoung.j1]; rw [if_neg (by decide)]) ?_
          refine Ev.val (order_of hc) ?_
          have hr3 : rd_L1 (ageR l acc) 3 = hot acc l.flatten := rfl
          refine Ev.ite_pos rfl (Ev.ite_pos rfl (Ev.ite_pos (by simp only; omega) (Ev.ite_pos (show (3 : Int) < ((ageR l acc).length : Int) from (by decide : (3 : Int) < ((4 : Nat) : Int))) (Ev.ite_pos (by rw [hr3]; omega) ?_))))
          refine Ev.val (check_f (okL_chk hc)) ?_
          rw [hc]
          refine Ev.step (f := fun k => _) (fun k => by simp only [estoverslaw36_GenerationsYoung.j2]; rw [if_neg (by decide)]) ?_
          refine young_l0 (ageR l acc) (ageR l acc).flatten acc l.flatten (by omega) (by omega) (by omega) (fun f hf => ?_) l.flatten.length 0 [] (by omega) (by omega) (by simp) (by rw [hfl]; rfl)
          rw [where_of hc (ha f hf), young_wh h0 h1 hf]
        · rw [if_neg h1]
          rw [show (accS l.flatten [] acc != 0) = true from bne_iff_ne.2 h1]
          exact hT1 _ _
      · rw [if_neg h0, if_neg h0]
        exact Ev.ite_neg h0 (hT1 _ _)
end Go.Proofs.Ytikdcoahoocpjaa.V
