/-
  The contract of Where. Conditions: the lists are short, their frames ints of their kind.
-/
import Derived.Test.YtikdcoahoocpjaaECheck
namespace Go.Proofs.Ytikdcoahoocpjaa.Q
open Go.Proofs.Ytikdcoahoocpjaa.Sd
open Go.RowKit Go.Maps Go.Proofs.YtikdcoahoocpjaaW.PrintWords Go.Proofs.YtikdcoahoocpjaaW.PrintLast Go.Proofs.YtikdcoahoocpjaaW.PrintMore
set_option linter.unusedVariables false
set_option linter.unusedSimpArgs false
def generations_Where.f (l0 : List (List Int)) (a1 : Int) : Option Int := (generations_Check.f l0).bind fun t => if t = 0 then (if okI a1 = true then some ((lku (agesL l0) a1).getD (-1)) else none) else some (-1)
set_option maxRecDepth 100000 in
set_option maxHeartbeats 4000000 in
theorem generations_Where.calls (A0 : Option Addr) (c0 : Nat) (l0 : List (List Int)) (a1 : Int) (r : Int) (w : World) (hr0 : Kd.C (Kd.slice 3 (Kd.int .i64)) w A0 l0.length l0) (hc0 : l0.length ≤ c0) (h : generations_Where.f l0 a1 = some r) :
    Calls Try.prog 19 #[.slice A0 l0.length c0, .int .i64 a1] w fun e w' => e = .returned (.int .i64 r) ∧ Below w.heap.size w w' := by
  unfold generations_Where.f at h
  obtain ⟨t, ht, h⟩ := Option.bind_eq_some_iff.mp h
  have HR0 := Aside0.mk hr0
  have HC0 := Aside0.mk hc0
  have HT := Aside0.mk ht
  have HB := Aside0.mk (Below.refl w.heap.size w)
  by_cases h0 : t = 0
  · subst h0
    rw [if_pos rfl] at h
    split at h
    · rename_i hok
      obtain rfl := Option.some.inj h
      have hwf : (Lit.int .i64 a1).wf = true := WalkArith.wf_i64 (by simp only [okI, Bool.and_eq_true, decide_eq_true_eq] at hok; omega)
      have h4 : l0.length = 4 ∧ okL l0 = true := by
        unfold generations_Check.f at ht
        split at ht
        · rename_i h4
          split at ht
          · rename_i h5; exact ⟨h4, h5⟩
          · cases ht
        · cases ht
      have H4 := Aside0.mk h4
      clear h hr0 hc0 ht h4 hok
      obtain ⟨m, hm⟩ : ∃ m, m = agesL l0 := ⟨_, rfl⟩
      rw [← hm]
      cases hlk : lku m a1 with
      | none =>
        go_enter Try.func19, Try.ntmps19
        go_wp2_with (first | (go_at_call 16; refine (generations_Check.calls A0 c0 l0 0 _ HR0.out HC0.out HT.out).mono ?_; rintro e w1 ⟨rfl, hb⟩; have n0_ := Aside0.mk (below_step HB.out hb); clear HB; have HB := n0_; clear n0_ hb) | (go_at_call 33; refine (ages_calls A0 c0 l0 _ (Kd.C_below HR0.out HB.out) H4.out.1 H4.out.2).mono ?_; rintro e w2 ⟨rfl, hom, hb⟩; rw [← hm] at hom; have HM := Aside0.mk hom; have n0_ := Aside0.mk (below_step HB.out hb); clear HB; have HB := n0_; clear n0_ hb hom) | (at_lookup; refine wp_look_ok rfl _ _ 46 rfl 3 3 Try.underlying46 Try.underlying3 Try.underlying3 (zero3 _) _ _ m rfl HM.out a1 rfl hwf ?_; rw [hlk]))
        go_ret
        exact ⟨rfl, HB.out⟩
      | some v =>
        go_enter Try.func19, Try.ntmps19
        go_wp2_with (first | (go_at_call 16; refine (generations_Check.calls A0 c0 l0 0 _ HR0.out HC0.out HT.out).mono ?_; rintro e w1 ⟨rfl, hb⟩; have n0_ := Aside0.mk (below_step HB.out hb); clear HB; have HB := n0_; clear n0_ hb) | (go_at_call 33; refine (ages_calls A0 c0 l0 _ (Kd.C_below HR0.out HB.out) H4.out.1 H4.out.2).mono ?_; rintro e w2 ⟨rfl, hom, hb⟩; rw [← hm] at hom; have HM := Aside0.mk hom; have n0_ := Aside0.mk (below_step HB.out hb); clear HB; have HB := n0_; clear n0_ hb hom) | (at_lookup; refine wp_look_ok rfl _ _ 46 rfl 3 3 Try.underlying46 Try.underlying3 Try.underlying3 (zero3 _) _ _ m rfl HM.out a1 rfl hwf ?_; rw [hlk]))
        go_ret
        exact ⟨rfl, HB.out⟩
    · cases h
  · rw [if_neg h0] at h
    obtain rfl := Option.some.inj h
    have hb0 : (t != 0) = true := bne_iff_ne.mpr h0
    clear h hr0 hc0 ht
    go_enter Try.func19, Try.ntmps19
    go_wp2_with (first | (go_at_call 16; refine (generations_Check.calls A0 c0 l0 t _ HR0.out HC0.out HT.out).mono ?_; rintro e w1 ⟨rfl, hb⟩; have n0_ := Aside0.mk (below_step HB.out hb); clear HB; have HB := n0_; clear n0_ hb))
    go_ret
    exact ⟨rfl, HB.out⟩
end Go.Proofs.Ytikdcoahoocpjaa.Q
