/-
  Lists that Check lets through: they are short; what keeps the frames keeps Check's answer.
-/
import Derived.Test.YtikdcoahoocpjaaVc
namespace Go.Proofs.Ytikdcoahoocpjaa.V
open Go.RowKit Go.Proofs.Ytikdcoahoocpjaa.Q Go.Proofs.Ytikdcoahoocpjaa.Sd Go.Proofs.YtikdcoahoocpjaaW.PrintWords Go.Proofs.YtikdcoahoocpjaaW.PrintLast
set_option linter.unusedVariables false
theorem nodup_small : ∀ (n : Nat) (l : List Int), l.Nodup → (∀ f ∈ l, 0 ≤ f ∧ f < (n : Int)) → l.length ≤ n
  | 0, l, hn, h => by
    cases l with
    | nil => simp
    | cons a r => have := h a (List.mem_cons_self ..); omega
  | n + 1, l, hn, h => by
    have h1 := nodup_small n (l.filter (fun x => decide (x ≠ (n : Int)))) (hn.filter _) (fun f hf => by
      obtain ⟨h2, h3⟩ := List.mem_filter.1 hf
      have := h f h2
      simp only [decide_eq_true_eq] at h3
      omega)
    have h2 : ∀ l : List Int, l.Nodup → l.length ≤ (l.filter (fun x => decide (x ≠ (n : Int)))).length + 1 := by
      intro l
      induction l with
      | nil => intro _; simp
      | cons a r ih =>
        intro hn
        rw [List.nodup_cons] at hn
        rw [List.filter_cons]
        by_cases e : a = (n : Int)
        · subst e
          have : r.filter (fun x => decide (x ≠ (n : Int))) = r := by
            rw [List.filter_eq_self]
            intro y hy
            exact decide_eq_true (fun h => hn.1 (h ▸ hy))
          rw [if_neg (by simp), this]; simp
        · have := ih hn.2
          rw [if_pos (by simpa using e), List.length_cons, List.length_cons]
          omega
    have := h2 l hn
    omega
theorem fr_bounds {f : Int} (h : isFr f = true) : 0 ≤ f ∧ f < 256 := by
  unfold isFr at h
  simpa using h
theorem fr_okI {f : Int} (h : isFr f = true) : okI f = true := by
  have := fr_bounds h
  unfold okI
  rw [decide_eq_true (by omega), decide_eq_true (by omega)]; rfl
theorem chk_small {l : List (List Int)} (h : chkS l = 0) : l.flatten.length ≤ 256 := nodup_small 256 _ (nodup_of h).2.2 (fun f hf => fr_bounds ((nodup_of h).2.1 f hf))
theorem row_small {l : List (List Int)} {x : List Int} (hx : x ∈ l) : x.length ≤ l.flatten.length := by
  induction l with
  | nil => exact (List.not_mem_nil hx).elim
  | cons a r ih =>
    rw [List.flatten_cons, List.length_append]
    rcases List.mem_cons.1 hx with rfl | hx
    · omega
    · have := ih hx; omega
theorem okL_chk {l : List (List Int)} (h : chkS l = 0) : okL l = true := by
  unfold okL
  rw [List.all_eq_true]
  intro x hx
  have h1 := chk_small h
  have h2 := row_small hx
  rw [Bool.and_eq_true]
  exact ⟨decide_eq_true (by omega), List.all_eq_true.2 fun g hg => fr_okI ((nodup_of h).2.1 g (List.mem_flatten.2 ⟨x, hx, hg⟩))⟩
theorem bd_chk {l : List (List Int)} (h : chkS l = 0) : Bd2 l := ⟨by have := (nodup_of h).1; omega, fun x hx => by have := chk_small h; have := row_small hx; omega⟩
theorem Bd2.bd {l : List (List Int)} (h : Bd2 l) : Bd l := ⟨h.1, fun x hx => by have := h.2 x hx; omega⟩
theorem chk_flat {l l' : List (List Int)} (h : chkS l = 0) (h4 : l'.length = 4) (hf : l'.flatten = l.flatten) : chkS l' = 0 := by
  obtain ⟨_, h2, h3⟩ := nodup_of h
  exact chk_of h4 (by rw [hf]; exact h2) (by rw [hf]; exact h3)
theorem chk_perm {l l' : List (List Int)} (h : chkS l = 0) (h4 : l'.length = 4) (hf : l'.flatten.Perm l.flatten) : chkS l' = 0 := by
  obtain ⟨_, h2, h3⟩ := nodup_of h
  exact chk_of h4 (fun f hm => h2 f (hf.mem_iff.1 hm)) (hf.nodup_iff.2 h3)
theorem order_of {l : List (List Int)} (h : chkS l = 0) : generations_Order.f l = some (l.flatten, 0) := by
  rw [order_f (okL_chk h)]
  unfold ordS
  rw [if_pos h]
theorem where_of {l : List (List Int)} (h : chkS l = 0) {f : Int} (hf : okI f = true) : generations_Where.f l f = some (whF 0 l f) := by
  rw [where_f (okL_chk h) hf]
  unfold whS
  rw [if_pos h]
end Go.Proofs.Ytikdcoahoocpjaa.V
