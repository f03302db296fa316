-- Written by wip/stubprint.py for this claim. Lean checks it.
import Derived.Test.YtikdcoahoocpjaaQ0
import Derived.Test.YtikdcoahoocpjaaQ100
import Derived.Test.YtikdcoahoocpjaaQ107
import Derived.Test.YtikdcoahoocpjaaQ200
import Derived.Test.YtikdcoahoocpjaaEAge
import Derived.Test.YtikdcoahoocpjaaEAwake
import Derived.Test.YtikdcoahoocpjaaECheck
import Derived.Test.YtikdcoahoocpjaaEWhere
namespace Go.Proofs.Ytikdcoahoocpjaa.Q
open Go.RowKit Go.Proofs.YtikdcoahoocpjaaW.PrintWords Go.Proofs.YtikdcoahoocpjaaW.PrintLast Go.Proofs.YtikdcoahoocpjaaW.PrintMore
attribute [local go_sem] max2_int min2_int max_two min_two max_three min_three max_four min_four
set_option linter.unusedVariables false
set_option linter.unusedSimpArgs false

/-! ### estoverslaw36_GenerationsYoung: function 8 -/
mutual
def estoverslaw36_GenerationsYoung.j0 : Nat → List (List Int) → List Int → Bool → Option (Bool)
  | 0, _, _, _ => none
  | k + 1, x0, x1, x25 => if x25 = true then ((estoverslaw36_awake.f).bind fun t372 => (some t372)) else ((generations_Order.f x0).bind fun bt373 => ((generations_Age.f x0 x1).bind fun bt377 => (if bt373.2 = 0 then (estoverslaw36_GenerationsYoung.j1 k x1 bt373.1 bt377.1 (bt377.2 != 0)) else (estoverslaw36_GenerationsYoung.j1 k x1 bt373.1 bt377.1 true))))
def estoverslaw36_GenerationsYoung.j1 : Nat → List Int → List Int → List (List Int) → Bool → Option (Bool)
  | 0, _, _, _, _ => none
  | k + 1, x1, x5, x7, x43 => if x43 = true then ((estoverslaw36_awake.f).bind fun t381 => (some t381)) else ((generations_Order.f x7).bind fun bt382 => (if bt382.2 = 0 then (if (x7.length : Int) = 4 then (if (bt382.1.length : Int) = (x5.length : Int) then (if 3 < (x7.length : Int) then (if ((rd_L1 x7 3).length : Int) = (x1.length : Int) then ((generations_Check.f x7).bind fun t387 => (estoverslaw36_GenerationsYoung.j2 k x1 x5 x7 bt382.1 (t387 != 0))) else (estoverslaw36_GenerationsYoung.j2 k x1 x5 x7 bt382.1 true)) else (none)) else (estoverslaw36_GenerationsYoung.j2 k x1 x5 x7 bt382.1 true)) else (estoverslaw36_GenerationsYoung.j2 k x1 x5 x7 bt382.1 true)) else (estoverslaw36_GenerationsYoung.j2 k x1 x5 x7 bt382.1 true)))
def estoverslaw36_GenerationsYoung.j2 : Nat → List Int → List Int → List (List Int) → List Int → Bool → Option (Bool)
  | 0, _, _, _, _, _ => none
  | k + 1, x1, x5, x7, x9, x77 => if x77 = true then (some false) else (estoverslaw36_GenerationsYoung.l0 k x1 x5 x7 x9 ([] : List Int) x5 (x5.length : Int) 0)
def estoverslaw36_GenerationsYoung.l0 : Nat → List Int → List Int → List (List Int) → List Int → List Int → List Int → Int → Int → Option (Bool)
  | 0, _, _, _, _, _, _, _, _ => none
  | k + 1, x1, x5, x7, x9, x11, x78, x79, x80 => if x80 < x79 then (if 0 ≤ x80 then (if x80 < (x78.length : Int) then ((slices_Contains_int_int.f k x1 (rd x78 x80)).bind fun t389 => (if t389 = true then (estoverslaw36_GenerationsYoung.l0 k x1 x5 x7 x9 x11 x78 x79 (wrap64 (x80 + 1))) else (if x11.length < 17592186044416 then (estoverslaw36_GenerationsYoung.l0 k x1 x5 x7 x9 (x11 ++ [rd x78 x80]) x78 x79 (wrap64 (x80 + 1))) else (none)))) else (none)) else (none)) else (estoverslaw36_GenerationsYoung.l1 k x1 x7 x9 x11 x5 (x5.length : Int) 0)
def estoverslaw36_GenerationsYoung.l1 : Nat → List Int → List (List Int) → List Int → List Int → List Int → Int → Int → Option (Bool)
  | 0, _, _, _, _, _, _, _ => none
  | k + 1, x1, x7, x9, x11, x93, x94, x95 => if x95 < x94 then (if 0 ≤ x95 then (if x95 < (x93.length : Int) then ((slices_Contains_int_int.f k x1 (rd x93 x95)).bind fun t394 => (if t394 = true then (if x11.length < 17592186044416 then (estoverslaw36_GenerationsYoung.l1 k x1 x7 x9 (x11 ++ [rd x93 x95]) x93 x94 (wrap64 (x95 + 1))) else (none)) else (estoverslaw36_GenerationsYoung.l1 k x1 x7 x9 x11 x93 x94 (wrap64 (x95 + 1))))) else (none)) else (none)) else (estoverslaw36_GenerationsYoung.l2 k x7 x9 x11 x1 (x1.length : Int) 0)
def estoverslaw36_GenerationsYoung.l2 : Nat → List (List Int) → List Int → List Int → List Int → Int → Int → Option (Bool)
  | 0, _, _, _, _, _, _ => none
  | k + 1, x7, x9, x11, x107, x108, x109 => if x109 < x108 then (if 0 ≤ x109 then (if x109 < (x107.length : Int) then ((generations_Where.f x7 (rd x107 x109)).bind fun t399 => (if t399 = 3 then (estoverslaw36_GenerationsYoung.l2 k x7 x9 x11 x107 x108 (wrap64 (x109 + 1))) else (some false))) else (none)) else (none)) else ((slices_Equal_int_int.f k x9 x11).bind fun t400 => (if t400 = true then ((estoverslaw36_awake.f).bind fun t401 => (some t401)) else (some false)))
end
def estoverslaw36_GenerationsYoung.f (k : Nat) (l0 : List (List Int)) (l1 : List Int) : Option (Bool) := (estoversref36_Few.f k l0).bind fun t371 => (if t371 = true then (estoverslaw36_GenerationsYoung.j0 k l0 l1 (decide ((l1.length : Int) > 300))) else (estoverslaw36_GenerationsYoung.j0 k l0 l1 true))
theorem estoverslaw36_GenerationsYoung.mono_l : ∀ k, (∀ y0 y1 y2, LeO (estoverslaw36_GenerationsYoung.j0 k y0 y1 y2) (estoverslaw36_GenerationsYoung.j0 (k + 1) y0 y1 y2)) ∧ (∀ y0 y1 y2 y3, LeO (estoverslaw36_GenerationsYoung.j1 k y0 y1 y2 y3) (estoverslaw36_GenerationsYoung.j1 (k + 1) y0 y1 y2 y3)) ∧ (∀ y0 y1 y2 y3 y4, LeO (estoverslaw36_GenerationsYoung.j2 k y0 y1 y2 y3 y4) (estoverslaw36_GenerationsYoung.j2 (k + 1) y0 y1 y2 y3 y4)) ∧ (∀ y0 y1 y2 y3 y4 y5 y6 y7, LeO (estoverslaw36_GenerationsYoung.l0 k y0 y1 y2 y3 y4 y5 y6 y7) (estoverslaw36_GenerationsYoung.l0 (k + 1) y0 y1 y2 y3 y4 y5 y6 y7)) ∧ (∀ y0 y1 y2 y3 y4 y5 y6, LeO (estoverslaw36_GenerationsYoung.l1 k y0 y1 y2 y3 y4 y5 y6) (estoverslaw36_GenerationsYoung.l1 (k + 1) y0 y1 y2 y3 y4 y5 y6)) ∧ (∀ y0 y1 y2 y3 y4 y5, LeO (estoverslaw36_GenerationsYoung.l2 k y0 y1 y2 y3 y4 y5) (estoverslaw36_GenerationsYoung.l2 (k + 1) y0 y1 y2 y3 y4 y5))
  | 0 => ⟨fun _ _ _ r h => by simp [estoverslaw36_GenerationsYoung.j0] at h, fun _ _ _ _ r h => by simp [estoverslaw36_GenerationsYoung.j1] at h, fun _ _ _ _ _ r h => by simp [estoverslaw36_GenerationsYoung.j2] at h, fun _ _ _ _ _ _ _ _ r h => by simp [estoverslaw36_GenerationsYoung.l0] at h, fun _ _ _ _ _ _ _ r h => by simp [estoverslaw36_GenerationsYoung.l1] at h, fun _ _ _ _ _ _ r h => by simp [estoverslaw36_GenerationsYoung.l2] at h⟩
  | k + 1 => by
    obtain ⟨ih0, ih1, ih2, ih3, ih4, ih5⟩ := estoverslaw36_GenerationsYoung.mono_l k
    refine ⟨?_, ?_, ?_, ?_, ?_, ?_⟩
    · intro y0 y1 y2
      unfold estoverslaw36_GenerationsYoung.j0
      repeat' first
      | (with_reducible exact ih0 _ _ _)
      | (with_reducible exact ih1 _ _ _ _)
      | (with_reducible exact ih2 _ _ _ _ _)
      | (with_reducible exact ih3 _ _ _ _ _ _ _ _)
      | (with_reducible exact ih4 _ _ _ _ _ _ _)
      | (with_reducible exact ih5 _ _ _ _ _ _)
      | (with_reducible exact estoversref36_Few.mono _ _)
      | (with_reducible exact slices_Contains_int_int.mono _ _ _)
      | (with_reducible exact slices_Equal_int_int.mono _ _ _)
      | (with_reducible exact LeO.refl _)
      | (with_reducible exact LeO.none _)
      | (with_reducible refine LeO.ite ?_ ?_)
      | (with_reducible refine LeO.bind ?_ (fun _ => ?_))
      | exact ih0 _ _ _
      | exact ih1 _ _ _ _
      | exact ih2 _ _ _ _ _
      | exact ih3 _ _ _ _ _ _ _ _
      | exact ih4 _ _ _ _ _ _ _
      | exact ih5 _ _ _ _ _ _
      | exact estoversref36_Few.mono _ _
      | exact slices_Contains_int_int.mono _ _ _
      | exact slices_Equal_int_int.mono _ _ _
      | exact LeO.none _
      | refine LeO.ite ?_ ?_
      | refine LeO.bind ?_ (fun _ => ?_)
    · intro y0 y1 y2 y3
      unfold estoverslaw36_GenerationsYoung.j1
      repeat' first
      | (with_reducible exact ih0 _ _ _)
      | (with_reducible exact ih1 _ _ _ _)
      | (with_reducible exact ih2 _ _ _ _ _)
      | (with_reducible exact ih3 _ _ _ _ _ _ _ _)
      | (with_reducible exact ih4 _ _ _ _ _ _ _)
      | (with_reducible exact ih5 _ _ _ _ _ _)
      | (with_reducible exact estoversref36_Few.mono _ _)
      | (with_reducible exact slices_Contains_int_int.mono _ _ _)
      | (with_reducible exact slices_Equal_int_int.mono _ _ _)
      | (with_reducible exact LeO.refl _)
      | (with_reducible exact LeO.none _)
      | (with_reducible refine LeO.ite ?_ ?_)
      | (with_reducible refine LeO.bind ?_ (fun _ => ?_))
      | exact ih0 _ _ _
      | exact ih1 _ _ _ _
      | exact ih2 _ _ _ _ _
      | exact ih3 _ _ _ _ _ _ _ _
      | exact ih4 _ _ _ _ _ _ _
      | exact ih5 _ _ _ _ _ _
      | exact estoversref36_Few.mono _ _
      | exact slices_Contains_int_int.mono _ _ _
      | exact slices_Equal_int_int.mono _ _ _
      | exact LeO.none _
      | refine LeO.ite ?_ ?_
      | refine LeO.bind ?_ (fun _ => ?_)
    · intro y0 y1 y2 y3 y4
      unfold estoverslaw36_GenerationsYoung.j2
      repeat' first
      | (with_reducible exact ih0 _ _ _)
      | (with_reducible exact ih1 _ _ _ _)
      | (with_reducible exact ih2 _ _ _ _ _)
      | (with_reducible exact ih3 _ _ _ _ _ _ _ _)
      | (with_reducible exact ih4 _ _ _ _ _ _ _)
      | (with_reducible exact ih5 _ _ _ _ _ _)
      | (with_reducible exact estoversref36_Few.mono _ _)
      | (with_reducible exact slices_Contains_int_int.mono _ _ _)
      | (with_reducible exact slices_Equal_int_int.mono _ _ _)
      | (with_reducible exact LeO.refl _)
      | (with_reducible exact LeO.none _)
      | (with_reducible refine LeO.ite ?_ ?_)
      | (with_reducible refine LeO.bind ?_ (fun _ => ?_))
      | exact ih0 _ _ _
      | exact ih1 _ _ _ _
      | exact ih2 _ _ _ _ _
      | exact ih3 _ _ _ _ _ _ _ _
      | exact ih4 _ _ _ _ _ _ _
      | exact ih5 _ _ _ _ _ _
      | exact estoversref36_Few.mono _ _
      | exact slices_Contains_int_int.mono _ _ _
      | exact slices_Equal_int_int.mono _ _ _
      | exact LeO.none _
      | refine LeO.ite ?_ ?_
      | refine LeO.bind ?_ (fun _ => ?_)
    · intro y0 y1 y2 y3 y4 y5 y6 y7
      unfold estoverslaw36_GenerationsYoung.l0
      repeat' first
      | (with_reducible exact ih0 _ _ _)
      | (with_reducible exact ih1 _ _ _ _)
      | (with_reducible exact ih2 _ _ _ _ _)
      | (with_reducible exact ih3 _ _ _ _ _ _ _ _)
      | (with_reducible exact ih4 _ _ _ _ _ _ _)
      | (with_reducible exact ih5 _ _ _ _ _ _)
      | (with_reducible exact estoversref36_Few.mono _ _)
      | (with_reducible exact slices_Contains_int_int.mono _ _ _)
      | (with_reducible exact slices_Equal_int_int.mono _ _ _)
      | (with_reducible exact LeO.refl _)
      | (with_reducible exact LeO.none _)
      | (with_reducible refine LeO.ite ?_ ?_)
      | (with_reducible refine LeO.bind ?_ (fun _ => ?_))
      | exact ih0 _ _ _
      | exact ih1 _ _ _ _
      | exact ih2 _ _ _ _ _
      | exact ih3 _ _ _ _ _ _ _ _
      | exact ih4 _ _ _ _ _ _ _
      | exact ih5 _ _ _ _ _ _
      | exact estoversref36_Few.mono _ _
      | exact slices_Contains_int_int.mono _ _ _
      | exact slices_Equal_int_int.mono _ _ _
      | exact LeO.none _
      | refine LeO.ite ?_ ?_
      | refine LeO.bind ?_ (fun _ => ?_)
    · intro y0 y1 y2 y3 y4 y5 y6
      unfold estoverslaw36_GenerationsYoung.l1
      repeat' first
      | (with_reducible exact ih0 _ _ _)
      | (with_reducible exact ih1 _ _ _ _)
      | (with_reducible exact ih2 _ _ _ _ _)
      | (with_reducible exact ih3 _ _ _ _ _ _ _ _)
      | (with_reducible exact ih4 _ _ _ _ _ _ _)
      | (with_reducible exact ih5 _ _ _ _ _ _)
      | (with_reducible exact estoversref36_Few.mono _ _)
      | (with_reducible exact slices_Contains_int_int.mono _ _ _)
      | (with_reducible exact slices_Equal_int_int.mono _ _ _)
      | (with_reducible exact LeO.refl _)
      | (with_reducible exact LeO.none _)
      | (with_reducible refine LeO.ite ?_ ?_)
      | (with_reducible refine LeO.bind ?_ (fun _ => ?_))
      | exact ih0 _ _ _
      | exact ih1 _ _ _ _
      | exact ih2 _ _ _ _ _
      | exact ih3 _ _ _ _ _ _ _ _
      | exact ih4 _ _ _ _ _ _ _
      | exact ih5 _ _ _ _ _ _
      | exact estoversref36_Few.mono _ _
      | exact slices_Contains_int_int.mono _ _ _
      | exact slices_Equal_int_int.mono _ _ _
      | exact LeO.none _
      | refine LeO.ite ?_ ?_
      | refine LeO.bind ?_ (fun _ => ?_)
    · intro y0 y1 y2 y3 y4 y5
      unfold estoverslaw36_GenerationsYoung.l2
      repeat' first
      | (with_reducible exact ih0 _ _ _)
      | (with_reducible exact ih1 _ _ _ _)
      | (with_reducible exact ih2 _ _ _ _ _)
      | (with_reducible exact ih3 _ _ _ _ _ _ _ _)
      | (with_reducible exact ih4 _ _ _ _ _ _ _)
      | (with_reducible exact ih5 _ _ _ _ _ _)
      | (with_reducible exact estoversref36_Few.mono _ _)
      | (with_reducible exact slices_Contains_int_int.mono _ _ _)
      | (with_reducible exact slices_Equal_int_int.mono _ _ _)
      | (with_reducible exact LeO.refl _)
      | (with_reducible exact LeO.none _)
      | (with_reducible refine LeO.ite ?_ ?_)
      | (with_reducible refine LeO.bind ?_ (fun _ => ?_))
      | exact ih0 _ _ _
      | exact ih1 _ _ _ _
      | exact ih2 _ _ _ _ _
      | exact ih3 _ _ _ _ _ _ _ _
      | exact ih4 _ _ _ _ _ _ _
      | exact ih5 _ _ _ _ _ _
      | exact estoversref36_Few.mono _ _
      | exact slices_Contains_int_int.mono _ _ _
      | exact slices_Equal_int_int.mono _ _ _
      | exact LeO.none _
      | refine LeO.ite ?_ ?_
      | refine LeO.bind ?_ (fun _ => ?_)
theorem estoverslaw36_GenerationsYoung.mono : ∀ a0 a1 k, LeO (estoverslaw36_GenerationsYoung.f k a0 a1) (estoverslaw36_GenerationsYoung.f (k + 1) a0 a1) := by
  intro a0 a1 k
  obtain ⟨ih0, ih1, ih2, ih3, ih4, ih5⟩ := estoverslaw36_GenerationsYoung.mono_l k
  unfold estoverslaw36_GenerationsYoung.f
  repeat' first
      | (with_reducible exact ih0 _ _ _)
      | (with_reducible exact ih1 _ _ _ _)
      | (with_reducible exact ih2 _ _ _ _ _)
      | (with_reducible exact ih3 _ _ _ _ _ _ _ _)
      | (with_reducible exact ih4 _ _ _ _ _ _ _)
      | (with_reducible exact ih5 _ _ _ _ _ _)
      | (with_reducible exact estoversref36_Few.mono _ _)
      | (with_reducible exact slices_Contains_int_int.mono _ _ _)
      | (with_reducible exact slices_Equal_int_int.mono _ _ _)
      | (with_reducible exact LeO.refl _)
      | (with_reducible exact LeO.none _)
      | (with_reducible refine LeO.ite ?_ ?_)
      | (with_reducible refine LeO.bind ?_ (fun _ => ?_))
      | exact ih0 _ _ _
      | exact ih1 _ _ _ _
      | exact ih2 _ _ _ _ _
      | exact ih3 _ _ _ _ _ _ _ _
      | exact ih4 _ _ _ _ _ _ _
      | exact ih5 _ _ _ _ _ _
      | exact estoversref36_Few.mono _ _
      | exact slices_Contains_int_int.mono _ _ _
      | exact slices_Equal_int_int.mono _ _ _
      | exact LeO.none _
      | refine LeO.ite ?_ ?_
      | refine LeO.bind ?_ (fun _ => ?_)
set_option maxHeartbeats 8000000 in
set_option maxRecDepth 100000 in
theorem estoverslaw36_GenerationsYoung.calls (k : Nat) (A0 : Option Addr) (c0 : Nat) (l0 : List (List Int)) (A1 : Option Addr) (c1 : Nat) (l1 : List Int) (r : Bool) (w : World) (hr0 : Kd.C (Kd.slice 3 (Kd.int .i64)) w A0 l0.length l0) (hc0 : l0.length ≤ c0) (hr1 : Kd.C (Kd.int .i64) w A1 l1.length l1) (hc1 : l1.length ≤ c1) (h : estoverslaw36_GenerationsYoung.f k l0 l1 = some r) :
    Calls Try.prog 8 #[.slice A0 l0.length c0, .slice A1 l1.length c1] w fun e w' => e = .returned (.bool r) ∧ Below w.heap.size w w' := by
  have HR0 := Aside0.mk hr0
  have HC0 := Aside0.mk hc0
  clear hr0 hc0
  have HR1 := Aside0.mk hr1
  have HC1 := Aside0.mk hc1
  clear hr1 hc1
  have HB := Aside0.mk (Below.refl w.heap.size w)
  have H : ((estoversref36_Few.f k l0).bind fun t371 => (if t371 = true then (estoverslaw36_GenerationsYoung.j0 k l0 l1 (decide ((l1.length : Int) > 300))) else (estoverslaw36_GenerationsYoung.j0 k l0 l1 true))) = some r := h
  clear h
  have HC3 := Aside0.mk H
  clear H
  go_enter Try.func8, Try.ntmps8
  go_upto_region 1 with (fail)
  go_cut [25] (fun v25 wc => ∃ (kq : Nat) (x25_2 : Bool), v25 = .bool x25_2 ∧ Aside0 (estoverslaw36_GenerationsYoung.j0 kq l0 l1 x25_2 = some r) ∧ Aside0 (kq ≤ k) ∧ Aside0 (Below w.heap.size w wc))
  case first =>
    have H := HC3.out
    clear HC3
    replace H := Option.bind_eq_some_iff.mp H
    obtain ⟨t371, A40, H⟩ := H
    replace H : (if t371 = true then (estoverslaw36_GenerationsYoung.j0 k l0 l1 (decide ((l1.length : Int) > 300))) else (estoverslaw36_GenerationsYoung.j0 k l0 l1 true)) = some r := H
    have A4 := Aside0.mk A40
    clear A40
    by_cases c5 : t371 = true
    · subst c5
      have H1 : (estoverslaw36_GenerationsYoung.j0 k l0 l1 (decide ((l1.length : Int) > 300))) = some r := by rw [if_pos rfl] at H; exact H
      clear H
      have H := H1
      clear H1
      have H' := Aside0.mk H
      clear H
      go_wp2_with (first | ((with_reducible refine gate_callee (f := 9) rfl ?_); refine goesL_ (some 19) rfl rfl Try.func9 (by kernel_rfl) rfl #[.slice A0 l0.length c0] rfl (by (try simp only [List.map_toArray, List.map_cons, List.map_nil]); first | done | rfl | (simp only [List.length_drop, List.length_take]; rfl)) ?_; (with_reducible refine (estoversref36_Few.calls k _ _ l0 true _ ?side1 ?side2 A4.out).mono ?_); (case side1 => repeat (first | exact (Kd.C_below HR0.out HB.out) | (with_reducible refine Kd.C_alloc ?_ _) | (with_reducible refine Kd.C_drewN ?_ _) | (with_reducible refine Kd.C_drew ?_))); (case side2 => exact HC0.out); rintro e w' ⟨rfl, ⟨nd, rfl⟩⟩; refine ⟨_, rfl, ?_⟩))
      go_meet
      case rel => exact ⟨_, (decide ((l1.length : Int) > 300)), (by first | rfl | (simp; done) | (simp [*]; done)), H', ⟨by first | omega | exact Nat.le_refl _⟩, ⟨by repeat (first | (with_reducible first | exact HB.out | apply below_alloc | apply pw_below_drewN | apply below_drew1) | exact HB.out)⟩⟩
    · replace c5 := Bool.eq_false_iff.mpr c5
      subst c5
      have H1 : (estoverslaw36_GenerationsYoung.j0 k l0 l1 true) = some r := by rw [if_neg (show ¬ (false = true) by decide)] at H; exact H
      clear H
      have H := H1
      clear H1
      have H' := Aside0.mk H
      clear H
      go_wp2_with (first | ((with_reducible refine gate_callee (f := 9) rfl ?_); refine goesL_ (some 19) rfl rfl Try.func9 (by kernel_rfl) rfl #[.slice A0 l0.length c0] rfl (by (try simp only [List.map_toArray, List.map_cons, List.map_nil]); first | done | rfl | (simp only [List.length_drop, List.length_take]; rfl)) ?_; (with_reducible refine (estoversref36_Few.calls k _ _ l0 false _ ?side1 ?side2 A4.out).mono ?_); (case side1 => repeat (first | exact (Kd.C_below HR0.out HB.out) | (with_reducible refine Kd.C_alloc ?_ _) | (with_reducible refine Kd.C_drewN ?_ _) | (with_reducible refine Kd.C_drew ?_))); (case side2 => exact HC0.out); rintro e w' ⟨rfl, ⟨nd, rfl⟩⟩; refine ⟨_, rfl, ?_⟩))
      go_meet
      case rel => exact ⟨_, (true), (by first | rfl | (simp; done) | (simp [*]; done)), H', ⟨by first | omega | exact Nat.le_refl _⟩, ⟨by repeat (first | (with_reducible first | exact HB.out | apply below_alloc | apply pw_below_drewN | apply below_drew1) | exact HB.out)⟩⟩
  case rest =>
    clear HC3
    try clear c1
    try clear p2
    try clear c5
    obtain ⟨kq, x25_2, rfl, HA, HJ2, HB⟩ := hcut
    cases kq with
    | zero => exact absurd HA.out (by simp [estoverslaw36_GenerationsYoung.j0])
    | succ kj2 =>
      have H := HA.out
      clear HA
      simp only [estoverslaw36_GenerationsYoung.j0] at H
      by_cases c6 : x25_2 = true
      · subst c6
        have H1 : ((estoverslaw36_awake.f).bind fun t372 => (some t372)) = some r := by rw [if_pos rfl] at H; exact H
        clear H
        have H := H1
        clear H1
        replace H := Option.bind_eq_some_iff.mp H
        obtain ⟨t372, A70, H⟩ := H
        replace H : (some t372) = some r := H
        have A7 := Aside0.mk A70
        clear A70
        obtain rfl := Option.some.inj H
        go_wp2_with (first | ((with_reducible refine gate_callee (f := 10) rfl ?_); refine goesL_ (some 26) rfl rfl Try.func10 (by kernel_rfl) rfl #[] rfl (by (try simp only [List.map_toArray, List.map_cons, List.map_nil]); first | done | rfl | (simp only [List.length_drop, List.length_take]; rfl)) ?_; (with_reducible refine (estoverslaw36_awake.calls  t372 _ A7.out).mono ?_); rintro e w8 ⟨rfl, hb⟩; refine ⟨_, rfl, ?_⟩; have n0_ := Aside0.mk (below_step (by repeat (first | (with_reducible first | exact HB.out | apply below_alloc | apply pw_below_drewN | apply below_drew1) | exact HB.out)) hb); clear HB; have HB := n0_; clear n0_; (try clear hb); (try clear hb2); (try clear hk); (try clear hi)))
        go_ret
        exact ⟨by first | rfl | (simp [errW_none, errW_some] <;> rfl) | (simp [*, errW_none, errW_some] <;> rfl), by repeat (first | (with_reducible first | exact HB.out | apply below_alloc | apply pw_below_drewN | apply below_drew1) | exact HB.out)⟩
      · replace c6 := Bool.eq_false_iff.mpr c6
        subst c6
        have H1 : ((generations_Order.f l0).bind fun bt373 => ((generations_Age.f l0 l1).bind fun bt377 => (if bt373.2 = 0 then (estoverslaw36_GenerationsYoung.j1 kj2 l1 bt373.1 bt377.1 (bt377.2 != 0)) else (estoverslaw36_GenerationsYoung.j1 kj2 l1 bt373.1 bt377.1 true)))) = some r := by rw [if_neg (show ¬ (false = true) by decide)] at H; exact H
        clear H
        have H := H1
        clear H1
        replace H := Option.bind_eq_some_iff.mp H
        obtain ⟨⟨t373, t374⟩, A90, H⟩ := H
        replace H : ((generations_Age.f l0 l1).bind fun bt377 => (if t374 = 0 then (estoverslaw36_GenerationsYoung.j1 kj2 l1 t373 bt377.1 (bt377.2 != 0)) else (estoverslaw36_GenerationsYoung.j1 kj2 l1 t373 bt377.1 true))) = some r := H
        have A9 := Aside0.mk A90
        clear A90
        replace H := Option.bind_eq_some_iff.mp H
        obtain ⟨⟨t377, t378⟩, A100, H⟩ := H
        replace H : (if t374 = 0 then (estoverslaw36_GenerationsYoung.j1 kj2 l1 t373 t377 (t378 != 0)) else (estoverslaw36_GenerationsYoung.j1 kj2 l1 t373 t377 true)) = some r := H
        have A10 := Aside0.mk A100
        clear A100
        have HC11 := Aside0.mk H
        clear H
        go_upto_region 5 with (first | ((with_reducible refine gate_callee (f := 11) rfl ?_); refine goesL_ (some 29) rfl rfl Try.func11 (by kernel_rfl) rfl #[.slice A0 l0.length c0] rfl (by (try simp only [List.map_toArray, List.map_cons, List.map_nil]); first | done | rfl | (simp only [List.length_drop, List.length_take]; rfl)) ?_; (with_reducible refine (generations_Order.calls _ _ l0 t373 t374 _ ?side1 ?side2 A9.out).mono ?_); (case side1 => repeat (first | exact (Kd.C_below HR0.out HB.out) | (with_reducible refine Kd.C_alloc ?_ _) | (with_reducible refine Kd.C_drewN ?_ _) | (with_reducible refine Kd.C_drew ?_))); (case side2 => exact HC0.out); rintro e w12 ⟨v375, rfl, ho0, hb⟩; refine ⟨_, rfl, ?_⟩; have n0_ := Aside0.mk (Kd.R_lower ho0 (below_size (by repeat (first | (with_reducible first | exact HB.out | apply below_alloc | apply pw_below_drewN | apply below_drew1) | exact HB.out)))); have n1_ := Aside0.mk (below_step (by repeat (first | (with_reducible first | exact HB.out | apply below_alloc | apply pw_below_drewN | apply below_drew1) | exact HB.out)) hb); clear HB; have HO376 := n0_; have HB := n1_; clear n0_ n1_; (try clear hb); (try clear hb2); (try clear hk); (try clear hi); (try clear ho0)) | ((with_reducible refine gate_callee (f := 27) rfl ?_); refine goesL_ (some 35) rfl rfl Try.func27 (by kernel_rfl) rfl #[.slice A0 l0.length c0, .slice A1 l1.length c1] rfl (by (try simp only [List.map_toArray, List.map_cons, List.map_nil]); first | done | rfl | (simp only [List.length_drop, List.length_take]; rfl)) ?_; (with_reducible refine (generations_Age.calls _ _ l0 _ _ l1 t377 t378 _ ?side1 ?side2 ?side3 ?side4 A10.out).mono ?_); (case side1 => repeat (first | exact (Kd.C_below HR0.out HB.out) | (with_reducible refine Kd.C_alloc ?_ _) | (with_reducible refine Kd.C_drewN ?_ _) | (with_reducible refine Kd.C_drew ?_))); (case side2 => exact HC0.out); (case side3 => repeat (first | exact (Kd.C_below HR1.out HB.out) | (with_reducible refine Kd.C_alloc ?_ _) | (with_reducible refine Kd.C_drewN ?_ _) | (with_reducible refine Kd.C_drew ?_))); (case side4 => exact HC1.out); rintro e w13 ⟨v379, rfl, ho0, hb⟩; refine ⟨_, rfl, ?_⟩; have n0_ := Aside0.mk (Kd.R_below (by (with_reducible repeat (first | apply Kd.R_alloc | apply Kd.R_drewN | apply Kd.R_drew)); exact HO376.out) hb); have n1_ := Aside0.mk (Kd.S_lower (Kd.S_new' ho0 (Kd.R_lt (by (with_reducible repeat (first | apply Kd.R_alloc | apply Kd.R_drewN | apply Kd.R_drew)); exact HO376.out))) (below_size (by repeat (first | (with_reducible first | exact HB.out | apply below_alloc | apply pw_below_drewN | apply below_drew1) | exact HB.out)))); have n2_ := Aside0.mk (below_step (by repeat (first | (with_reducible first | exact HB.out | apply below_alloc | apply pw_below_drewN | apply below_drew1) | exact HB.out)) hb); clear HO376; clear HB; have HO376 := n0_; have HO380 := n1_; have HB := n2_; clear n0_ n1_ n2_; (try clear hb); (try clear hb2); (try clear hk); (try clear hi); (try clear ho0)))
        (try simp only [Act.put, List.setIfInBounds_toArray, List.set_cons_zero, List.set_cons_succ])
        go_cut [43] (fun v43 wc => ∃ (kq : Nat) (x43_10 : Bool), v43 = .bool x43_10 ∧ Aside0 (estoverslaw36_GenerationsYoung.j1 kq l1 t373 t377 x43_10 = some r) ∧ Aside0 (kq ≤ kj2) ∧ Aside0 (Kd.R (Kd.int .i64) 3 wc w.heap.size (fun _ => True) v375 t373) ∧ Aside0 (Kd.S (Kd.slice 3 (Kd.int .i64)) 25 wc w.heap.size (fun k_ => some k_ ≠ (v375 : Value).ownBlock) v379 t377) ∧ Aside0 (Below w.heap.size w wc))
        case first =>
          have H := HC11.out
          clear HC11
          by_cases c14 : t374 = 0
          · rw [if_pos c14] at H
            have c14b0 : (t374 == 0) = true := beq_iff_eq.mpr c14
            have c14b1 : (t374 != 0) = false := bne_eq_false_iff_eq.mpr c14
            clear c14
            (first | rw [c14b0] | (simp only [i64_w, i32_w]; rw [c14b0]) | skip)
            have H' := Aside0.mk H
            clear H
            go_wp2
            go_meet
            case rel => exact ⟨_, ((t378 != 0)), (by first | rfl | (simp; done) | (simp [*]; done)), H', ⟨by have := HJ2.out; first | omega | exact Nat.le_refl _⟩, ⟨by (with_reducible repeat (first | apply Kd.R_alloc | apply Kd.R_drewN | apply Kd.R_drew)); exact HO376.out⟩, ⟨by (with_reducible repeat (first | apply Kd.S_alloc | apply Kd.S_drewN | apply Kd.S_drew)); exact Kd.S_mono HO380.out (fun _ hk => hk.2)⟩, ⟨by repeat (first | (with_reducible first | exact HB.out | apply below_alloc | apply pw_below_drewN | apply below_drew1) | exact HB.out)⟩⟩
          · rw [if_neg c14] at H
            have c14b0 : (t374 == 0) = false := beq_eq_false_iff_ne.mpr c14
            have c14b1 : (t374 != 0) = true := bne_iff_ne.mpr c14
            (first | rw [c14b0] | (simp only [i64_w, i32_w]; rw [c14b0]) | skip)
            have H' := Aside0.mk H
            clear H
            go_wp2
            go_meet
            case rel => exact ⟨_, (true), (by first | rfl | (simp; done) | (simp [*]; done)), H', ⟨by have := HJ2.out; first | omega | exact Nat.le_refl _⟩, ⟨by (with_reducible repeat (first | apply Kd.R_alloc | apply Kd.R_drewN | apply Kd.R_drew)); exact HO376.out⟩, ⟨by (with_reducible repeat (first | apply Kd.S_alloc | apply Kd.S_drewN | apply Kd.S_drew)); exact Kd.S_mono HO380.out (fun _ hk => hk.2)⟩, ⟨by repeat (first | (with_reducible first | exact HB.out | apply below_alloc | apply pw_below_drewN | apply below_drew1) | exact HB.out)⟩⟩
        case rest =>
          clear HC11
          try clear c1
          try clear c2
          try clear p2
          try clear c5
          try clear c6
          try clear c8
          try clear c9
          try clear c10
          try clear c11
          try clear c14
          try clear c14b0
          try clear c14b1
          try clear p2
          obtain ⟨kq, x43_10, rfl, HA, HJ10, HO_5, HO_7, HB⟩ := hcut
          cases kq with
          | zero => exact absurd HA.out (by simp [estoverslaw36_GenerationsYoung.j1])
          | succ kj10 =>
            have H := HA.out
            clear HA
            simp only [estoverslaw36_GenerationsYoung.j1] at H
            by_cases c15 : x43_10 = true
            · subst c15
              have H1 : ((estoverslaw36_awake.f).bind fun t381 => (some t381)) = some r := by rw [if_pos rfl] at H; exact H
              clear H
              have H := H1
              clear H1
              replace H := Option.bind_eq_some_iff.mp H
              obtain ⟨t381, A160, H⟩ := H
              replace H : (some t381) = some r := H
              have A16 := Aside0.mk A160
              clear A160
              obtain rfl := Option.some.inj H
              go_wp2_with (first | ((with_reducible refine gate_callee (f := 10) rfl ?_); refine goesL_ (some 44) rfl rfl Try.func10 (by kernel_rfl) rfl #[] rfl (by (try simp only [List.map_toArray, List.map_cons, List.map_nil]); first | done | rfl | (simp only [List.length_drop, List.length_take]; rfl)) ?_; (with_reducible refine (estoverslaw36_awake.calls  t381 _ A16.out).mono ?_); rintro e w17 ⟨rfl, hb⟩; refine ⟨_, rfl, ?_⟩; have n0_ := Aside0.mk (Kd.R_below (by (with_reducible repeat (first | apply Kd.R_alloc | apply Kd.R_drewN | apply Kd.R_drew)); exact HO_5.out) hb); have n1_ := Aside0.mk (Kd.S_below (by (with_reducible repeat (first | apply Kd.S_alloc | apply Kd.S_drewN | apply Kd.S_drew)); exact HO_7.out) hb); have n2_ := Aside0.mk (below_step (by repeat (first | (with_reducible first | exact HB.out | apply below_alloc | apply pw_below_drewN | apply below_drew1) | exact HB.out)) hb); clear HO_5; clear HO_7; clear HB; have HO_5 := n0_; have HO_7 := n1_; have HB := n2_; clear n0_ n1_ n2_; (try clear hb); (try clear hb2); (try clear hk); (try clear hi)))
              go_ret
              exact ⟨by first | rfl | (simp [errW_none, errW_some] <;> rfl) | (simp [*, errW_none, errW_some] <;> rfl), by repeat (first | (with_reducible first | exact HB.out | apply below_alloc | apply pw_below_drewN | apply below_drew1) | exact HB.out)⟩
            · replace c15 := Bool.eq_false_iff.mpr c15
              subst c15
              have H1 : ((generations_Order.f t377).bind fun bt382 => (if bt382.2 = 0 then (if (t377.length : Int) = 4 then (if (bt382.1.length : Int) = (t373.length : Int) then (if 3 < (t377.length : Int) then (if ((rd_L1 t377 3).length : Int) = (l1.length : Int) then ((generations_Check.f t377).bind fun t387 => (estoverslaw36_GenerationsYoung.j2 kj10 l1 t373 t377 bt382.1 (t387 != 0))) else (estoverslaw36_GenerationsYoung.j2 kj10 l1 t373 t377 bt382.1 true)) else (none)) else (estoverslaw36_GenerationsYoung.j2 kj10 l1 t373 t377 bt382.1 true)) else (estoverslaw36_GenerationsYoung.j2 kj10 l1 t373 t377 bt382.1 true)) else (estoverslaw36_GenerationsYoung.j2 kj10 l1 t373 t377 bt382.1 true))) = some r := by rw [if_neg (show ¬ (false = true) by decide)] at H; exact H
              clear H
              have H := H1
              clear H1
              replace H := Option.bind_eq_some_iff.mp H
              obtain ⟨⟨t382, t383⟩, A180, H⟩ := H
              replace H : (if t383 = 0 then (if (t377.length : Int) = 4 then (if (t382.length : Int) = (t373.length : Int) then (if 3 < (t377.length : Int) then (if ((rd_L1 t377 3).length : Int) = (l1.length : Int) then ((generations_Check.f t377).bind fun t387 => (estoverslaw36_GenerationsYoung.j2 kj10 l1 t373 t377 t382 (t387 != 0))) else (estoverslaw36_GenerationsYoung.j2 kj10 l1 t373 t377 t382 true)) else (none)) else (estoverslaw36_GenerationsYoung.j2 kj10 l1 t373 t377 t382 true)) else (estoverslaw36_GenerationsYoung.j2 kj10 l1 t373 t377 t382 true)) else (estoverslaw36_GenerationsYoung.j2 kj10 l1 t373 t377 t382 true)) = some r := H
              have A18 := Aside0.mk A180
              clear A180
              have HC19 := Aside0.mk H
              clear H
              obtain ⟨Ao20, co20, eo20⟩ := Kd.S_slice HO_7.out
              subst eo20
              go_upto_region 8 with (first | ((with_reducible refine gate_callee (f := 11) rfl ?_); refine goesL_ (some 47) rfl rfl Try.func11 (by kernel_rfl) rfl #[.slice Ao20 t377.length co20] rfl (by (try simp only [List.map_toArray, List.map_cons, List.map_nil]); first | done | rfl | (simp only [List.length_drop, List.length_take]; rfl)) ?_; (with_reducible refine (generations_Order.calls _ _ t377 t382 t383 _ ?side1 ?side2 A18.out).mono ?_); (case side1 => repeat (first | exact (Kd.S_reads' HO_7.out).2.2 | (with_reducible refine Kd.C_alloc ?_ _) | (with_reducible refine Kd.C_drewN ?_ _) | (with_reducible refine Kd.C_drew ?_))); (case side2 => exact (Kd.S_reads' HO_7.out).2.1); rintro e w21 ⟨v384, rfl, ho0, hb⟩; refine ⟨_, rfl, ?_⟩; have n0_ := Aside0.mk (Kd.R_elder' (by (with_reducible repeat (first | apply Kd.R_alloc | apply Kd.R_drewN | apply Kd.R_drew)); exact HO_5.out) (Kd.R_base ho0) hb); have n1_ := Aside0.mk (Kd.S_elder' (by (with_reducible repeat (first | apply Kd.S_alloc | apply Kd.S_drewN | apply Kd.S_drew)); exact HO_7.out) (Kd.R_base ho0) hb); have n2_ := Aside0.mk (Kd.R_lower (Kd.R_new' ho0 (Kd.R_lt (by (with_reducible repeat (first | apply Kd.R_alloc | apply Kd.R_drewN | apply Kd.R_drew)); exact HO_5.out))) (below_size (by repeat (first | (with_reducible first | exact HB.out | apply below_alloc | apply pw_below_drewN | apply below_drew1) | exact HB.out)))); have n3_ := Aside0.mk (below_step (by repeat (first | (with_reducible first | exact HB.out | apply below_alloc | apply pw_below_drewN | apply below_drew1) | exact HB.out)) hb); clear HO_5; clear HO_7; clear HB; have HO_5 := n0_; have HO_7 := n1_; have HO385 := n2_; have HB := n3_; clear n0_ n1_ n2_ n3_; (try clear hb); (try clear hb2); (try clear hk); (try clear hi); (try clear ho0)))
              (try simp only [Act.put, List.setIfInBounds_toArray, List.set_cons_zero, List.set_cons_succ])
              go_cut [77] (fun v77 wc => ∃ (kq : Nat) (x77_18 : Bool), v77 = .bool x77_18 ∧ Aside0 (estoverslaw36_GenerationsYoung.j2 kq l1 t373 t377 t382 x77_18 = some r) ∧ Aside0 (kq ≤ kj10) ∧ Aside0 (Kd.R (Kd.int .i64) 3 wc w.heap.size (fun k_ => some k_ ≠ (v384 : Value).ownBlock) v375 t373) ∧ Aside0 (Kd.S (Kd.slice 3 (Kd.int .i64)) 25 wc w.heap.size (fun k_ => some k_ ≠ (v375 : Value).ownBlock ∧ some k_ ≠ (v384 : Value).ownBlock) (.slice Ao20 t377.length co20) t377) ∧ Aside0 (Kd.R (Kd.int .i64) 3 wc w.heap.size (fun k_ => some k_ ≠ (v375 : Value).ownBlock) v384 t382) ∧ Aside0 (Below w.heap.size w wc))
              case first =>
                have H := HC19.out
                clear HC19
                by_cases c22 : t383 = 0
                · rw [if_pos c22] at H
                  have c22b0 : (t383 == 0) = true := beq_iff_eq.mpr c22
                  have c22b1 : (t383 != 0) = false := bne_eq_false_iff_eq.mpr c22
                  clear c22
                  (first | rw [c22b0] | (simp only [i64_w, i32_w]; rw [c22b0]) | skip)
                  by_cases c23 : (t377.length : Int) = 4
                  · rw [if_pos c23] at H
                    have c23b0 : ((t377.length : Int) == 4) = true := beq_iff_eq.mpr c23
                    have c23b1 : ((t377.length : Int) != 4) = false := bne_eq_false_iff_eq.mpr c23
                    clear c23
                    by_cases c24 : (t382.length : Int) = (t373.length : Int)
                    · rw [if_pos c24] at H
                      have c24b0 : ((t382.length : Int) == (t373.length : Int)) = true := beq_iff_eq.mpr c24
                      have c24b1 : ((t382.length : Int) != (t373.length : Int)) = false := bne_eq_false_iff_eq.mpr c24
                      have c24b2 : (t382.length == t373.length) = true := by first | simpa using c24 | (simp at c24 ⊢; omega)
                      clear c24
                      by_cases c25 : 3 < (t377.length : Int)
                      · rw [if_pos c25] at H
                        have c25b0 : decide (3 < (t377.length : Int)) = true := decide_eq_true c25
                        have c25b1 : decide (3 < t377.length) = true := decide_eq_true (by omega)
                        clear c25
                        by_cases c26 : ((rd_L1 t377 3).length : Int) = (l1.length : Int)
                        · rw [if_pos c26] at H
                          have c26b0 : (((rd_L1 t377 3).length : Int) == (l1.length : Int)) = true := beq_iff_eq.mpr c26
                          have c26b1 : (((rd_L1 t377 3).length : Int) != (l1.length : Int)) = false := bne_eq_false_iff_eq.mpr c26
                          have c26b2 : ((rd_L1 t377 3).length == l1.length) = true := by first | simpa using c26 | (simp at c26 ⊢; omega)
                          clear c26
                          replace H := Option.bind_eq_some_iff.mp H
                          obtain ⟨t387, A270, H⟩ := H
                          replace H : (estoverslaw36_GenerationsYoung.j2 kj10 l1 t373 t377 t382 (t387 != 0)) = some r := H
                          have A27 := Aside0.mk A270
                          clear A270
                          have H' := Aside0.mk H
                          clear H
                          obtain ⟨Ao28, co28, eo28⟩ := Kd.R_slice HO385.out
                          subst eo28
                          obtain ⟨Ao29, co29, eo29⟩ := Kd.R_slice HO_5.out
                          subst eo29
                          have p386 : 0 ≤ (3 : Int) := (by omega)
                          have q386 : 3 < (t377.length : Int) := of_decide_eq_true (by first | (with_reducible assumption) | assumption)
                          obtain ⟨ad386, A386_0, c386_0, e386, hx386_0, hl386_0, hi386_0⟩ := at_L1 (Kd.S_reads' HO_7.out).2.2 3 p386 q386
                          cases e386
                          obtain ⟨ce386, hce386, hMe386, hcc386⟩ := Kd.S_get HO_7.out [] 3 p386 (by first | exact q386 | exact of_decide_eq_true (by first | (with_reducible assumption) | assumption) | (have e_ := (Kd.S_reads' HO_7.out).1; omega))
                          obtain ⟨ve386_0, rfl, ge386_0⟩ := hMe386
                          have hv386_0 := hcc386 0 _ rfl
                          rw [Nat.add_zero, show ((Kd.slice 3 (Kd.int .i64))).sz = 1 from rfl, Nat.mul_one] at hv386_0
                          replace hv386_0 := Option.some.inj (hv386_0.symm.trans hx386_0)
                          rw [hv386_0] at ge386_0
                          have HL386_0 := Aside0.mk (show Kd.R (Kd.int .i64) 3 _ _ _ _ (rd_L1 t377 3) from ge386_0)
                          clear hv386_0 ge386_0
                          clear hcc386 hce386
                          (try simp only [show (3 : Int).toNat = 3 from rfl, Nat.reduceMul, Nat.reduceEqDiff, Go.Addr.add, ↓reduceIte] at hx386_0)
                          have qi386 : (3 < t377.length) = True := eq_true (by omega)
                          (try rw [show ((3 : Int)).toNat = 3 from rfl] at hx386_0)
                          have HR386_0 := Aside0.mk hi386_0
                          have HC386_0 := Aside0.mk hl386_0
                          clear hi386_0 hl386_0
                          replace p386 := eq_true p386
                          replace q386 := eq_true q386
                          go_wp2_with (first | (go_at_call 16; (with_reducible refine (generations_Check.calls _ _ t377 t387 _ ?side1 ?side2 A27.out).mono ?_); (case side1 => repeat (first | exact (Kd.S_reads' HO_7.out).2.2 | (with_reducible refine Kd.C_alloc ?_ _) | (with_reducible refine Kd.C_drewN ?_ _) | (with_reducible refine Kd.C_drew ?_))); (case side2 => exact (Kd.S_reads' HO_7.out).2.1); rintro e w30 ⟨rfl, hb⟩; have n0_ := Aside0.mk (Kd.R_below (by (with_reducible repeat (first | apply Kd.R_alloc | apply Kd.R_drewN | apply Kd.R_drew)); exact HO_5.out) hb); have n1_ := Aside0.mk (Kd.S_below (by (with_reducible repeat (first | apply Kd.S_alloc | apply Kd.S_drewN | apply Kd.S_drew)); exact HO_7.out) hb); have n2_ := Aside0.mk (Kd.R_below (by (with_reducible repeat (first | apply Kd.R_alloc | apply Kd.R_drewN | apply Kd.R_drew)); exact HO385.out) hb); have n3_ := Aside0.mk (Kd.R_below (by (with_reducible repeat (first | apply Kd.R_alloc | apply Kd.R_drewN | apply Kd.R_drew)); exact HL386_0.out) hb); have n4_ := Aside0.mk (Kd.C_below (by repeat (first | (with_reducible exact HR386_0.out) | (with_reducible refine Kd.C_alloc ?_ _) | (with_reducible refine Kd.C_drewN ?_ _) | (with_reducible refine Kd.C_drew ?_) | exact HR386_0.out)) hb); have n5_ := Aside0.mk (below_step (by repeat (first | (with_reducible first | exact HB.out | apply below_alloc | apply pw_below_drewN | apply below_drew1) | exact HB.out)) hb); clear HO_5; clear HO_7; clear HO385; clear HL386_0; clear HR386_0; clear HB; have HO_5 := n0_; have HO_7 := n1_; have HO385 := n2_; have HL386_0 := n3_; have HR386_0 := n4_; have HB := n5_; clear n0_ n1_ n2_ n3_ n4_ n5_; (try clear hb); (try clear hb2); (try clear hk); (try clear hi)))
                          go_meet
                          case rel => exact ⟨_, ((t387 != 0)), (by first | rfl | (simp; done) | (simp [*]; done)), H', ⟨by have := HJ2.out; have := HJ10.out; first | omega | exact Nat.le_refl _⟩, ⟨by (with_reducible repeat (first | apply Kd.R_alloc | apply Kd.R_drewN | apply Kd.R_drew)); exact Kd.R_mono HO_5.out (fun _ hk => hk.2)⟩, ⟨by (with_reducible repeat (first | apply Kd.S_alloc | apply Kd.S_drewN | apply Kd.S_drew)); exact HO_7.out⟩, ⟨by (with_reducible repeat (first | apply Kd.R_alloc | apply Kd.R_drewN | apply Kd.R_drew)); exact Kd.R_mono HO385.out (fun _ hk => hk.2)⟩, ⟨by repeat (first | (with_reducible first | exact HB.out | apply below_alloc | apply pw_below_drewN | apply below_drew1) | exact HB.out)⟩⟩
                        · rw [if_neg c26] at H
                          have c26b0 : (((rd_L1 t377 3).length : Int) == (l1.length : Int)) = false := beq_eq_false_iff_ne.mpr c26
                          have c26b1 : (((rd_L1 t377 3).length : Int) != (l1.length : Int)) = true := bne_iff_ne.mpr c26
                          have c26b2 : ((rd_L1 t377 3).length == l1.length) = false := by first | simpa using c26 | (simp at c26 ⊢; omega)
                          have H' := Aside0.mk H
                          clear H
                          obtain ⟨Ao31, co31, eo31⟩ := Kd.R_slice HO385.out
                          subst eo31
                          obtain ⟨Ao32, co32, eo32⟩ := Kd.R_slice HO_5.out
                          subst eo32
                          have p386 : 0 ≤ (3 : Int) := (by omega)
                          have q386 : 3 < (t377.length : Int) := of_decide_eq_true (by first | (with_reducible assumption) | assumption)
                          obtain ⟨ad386, A386_0, c386_0, e386, hx386_0, hl386_0, hi386_0⟩ := at_L1 (Kd.S_reads' HO_7.out).2.2 3 p386 q386
                          cases e386
                          obtain ⟨ce386, hce386, hMe386, hcc386⟩ := Kd.S_get HO_7.out [] 3 p386 (by first | exact q386 | exact of_decide_eq_true (by first | (with_reducible assumption) | assumption) | (have e_ := (Kd.S_reads' HO_7.out).1; omega))
                          obtain ⟨ve386_0, rfl, ge386_0⟩ := hMe386
                          have hv386_0 := hcc386 0 _ rfl
                          rw [Nat.add_zero, show ((Kd.slice 3 (Kd.int .i64))).sz = 1 from rfl, Nat.mul_one] at hv386_0
                          replace hv386_0 := Option.some.inj (hv386_0.symm.trans hx386_0)
                          rw [hv386_0] at ge386_0
                          have HL386_0 := Aside0.mk (show Kd.R (Kd.int .i64) 3 _ _ _ _ (rd_L1 t377 3) from ge386_0)
                          clear hv386_0 ge386_0
                          clear hcc386 hce386
                          (try simp only [show (3 : Int).toNat = 3 from rfl, Nat.reduceMul, Nat.reduceEqDiff, Go.Addr.add, ↓reduceIte] at hx386_0)
                          have qi386 : (3 < t377.length) = True := eq_true (by omega)
                          (try rw [show ((3 : Int)).toNat = 3 from rfl] at hx386_0)
                          have HR386_0 := Aside0.mk hi386_0
                          have HC386_0 := Aside0.mk hl386_0
                          clear hi386_0 hl386_0
                          replace p386 := eq_true p386
                          replace q386 := eq_true q386
                          go_wp2
                          go_meet
                          case rel => exact ⟨_, (true), (by first | rfl | (simp; done) | (simp [*]; done)), H', ⟨by have := HJ2.out; have := HJ10.out; first | omega | exact Nat.le_refl _⟩, ⟨by (with_reducible repeat (first | apply Kd.R_alloc | apply Kd.R_drewN | apply Kd.R_drew)); exact Kd.R_mono HO_5.out (fun _ hk => hk.2)⟩, ⟨by (with_reducible repeat (first | apply Kd.S_alloc | apply Kd.S_drewN | apply Kd.S_drew)); exact HO_7.out⟩, ⟨by (with_reducible repeat (first | apply Kd.R_alloc | apply Kd.R_drewN | apply Kd.R_drew)); exact Kd.R_mono HO385.out (fun _ hk => hk.2)⟩, ⟨by repeat (first | (with_reducible first | exact HB.out | apply below_alloc | apply pw_below_drewN | apply below_drew1) | exact HB.out)⟩⟩
                      · rw [if_neg c25] at H
                        exact absurd H (by simp)
                    · rw [if_neg c24] at H
                      have c24b0 : ((t382.length : Int) == (t373.length : Int)) = false := beq_eq_false_iff_ne.mpr c24
                      have c24b1 : ((t382.length : Int) != (t373.length : Int)) = true := bne_iff_ne.mpr c24
                      have c24b2 : (t382.length == t373.length) = false := by first | simpa using c24 | (simp at c24 ⊢; omega)
                      have H' := Aside0.mk H
                      clear H
                      obtain ⟨Ao33, co33, eo33⟩ := Kd.R_slice HO385.out
                      subst eo33
                      obtain ⟨Ao34, co34, eo34⟩ := Kd.R_slice HO_5.out
                      subst eo34
                      go_wp2
                      go_meet
                      case rel => exact ⟨_, (true), (by first | rfl | (simp; done) | (simp [*]; done)), H', ⟨by have := HJ2.out; have := HJ10.out; first | omega | exact Nat.le_refl _⟩, ⟨by (with_reducible repeat (first | apply Kd.R_alloc | apply Kd.R_drewN | apply Kd.R_drew)); exact Kd.R_mono HO_5.out (fun _ hk => hk.2)⟩, ⟨by (with_reducible repeat (first | apply Kd.S_alloc | apply Kd.S_drewN | apply Kd.S_drew)); exact HO_7.out⟩, ⟨by (with_reducible repeat (first | apply Kd.R_alloc | apply Kd.R_drewN | apply Kd.R_drew)); exact Kd.R_mono HO385.out (fun _ hk => hk.2)⟩, ⟨by repeat (first | (with_reducible first | exact HB.out | apply below_alloc | apply pw_below_drewN | apply below_drew1) | exact HB.out)⟩⟩
                  · rw [if_neg c23] at H
                    have c23b0 : ((t377.length : Int) == 4) = false := beq_eq_false_iff_ne.mpr c23
                    have c23b1 : ((t377.length : Int) != 4) = true := bne_iff_ne.mpr c23
                    have H' := Aside0.mk H
                    clear H
                    go_wp2
                    go_meet
                    case rel => exact ⟨_, (true), (by first | rfl | (simp; done) | (simp [*]; done)), H', ⟨by have := HJ2.out; have := HJ10.out; first | omega | exact Nat.le_refl _⟩, ⟨by (with_reducible repeat (first | apply Kd.R_alloc | apply Kd.R_drewN | apply Kd.R_drew)); exact Kd.R_mono HO_5.out (fun _ hk => hk.2)⟩, ⟨by (with_reducible repeat (first | apply Kd.S_alloc | apply Kd.S_drewN | apply Kd.S_drew)); exact HO_7.out⟩, ⟨by (with_reducible repeat (first | apply Kd.R_alloc | apply Kd.R_drewN | apply Kd.R_drew)); exact Kd.R_mono HO385.out (fun _ hk => hk.2)⟩, ⟨by repeat (first | (with_reducible first | exact HB.out | apply below_alloc | apply pw_below_drewN | apply below_drew1) | exact HB.out)⟩⟩
                · rw [if_neg c22] at H
                  have c22b0 : (t383 == 0) = false := beq_eq_false_iff_ne.mpr c22
                  have c22b1 : (t383 != 0) = true := bne_iff_ne.mpr c22
                  (first | rw [c22b0] | (simp only [i64_w, i32_w]; rw [c22b0]) | skip)
                  have H' := Aside0.mk H
                  clear H
                  go_wp2
                  go_meet
                  case rel => exact ⟨_, (true), (by first | rfl | (simp; done) | (simp [*]; done)), H', ⟨by have := HJ2.out; have := HJ10.out; first | omega | exact Nat.le_refl _⟩, ⟨by (with_reducible repeat (first | apply Kd.R_alloc | apply Kd.R_drewN | apply Kd.R_drew)); exact Kd.R_mono HO_5.out (fun _ hk => hk.2)⟩, ⟨by (with_reducible repeat (first | apply Kd.S_alloc | apply Kd.S_drewN | apply Kd.S_drew)); exact HO_7.out⟩, ⟨by (with_reducible repeat (first | apply Kd.R_alloc | apply Kd.R_drewN | apply Kd.R_drew)); exact Kd.R_mono HO385.out (fun _ hk => hk.2)⟩, ⟨by repeat (first | (with_reducible first | exact HB.out | apply below_alloc | apply pw_below_drewN | apply below_drew1) | exact HB.out)⟩⟩
              case rest =>
                clear HC19
                try clear c1
                try clear c2
                try clear p2
                try clear c3
                try clear p3
                try clear q3
                try clear hx3
                try clear qi3
                try clear c5
                try clear c6
                try clear c8
                try clear c9
                try clear c10
                try clear c11
                try clear c14
                try clear c14b0
                try clear c14b1
                try clear c15
                try clear c22
                try clear c22b0
                try clear c22b1
                try clear c23
                try clear c23b0
                try clear c23b1
                try clear c24
                try clear c24b0
                try clear c24b1
                try clear c24b2
                try clear c25
                try clear c25b0
                try clear c25b1
                try clear c26
                try clear c26b0
                try clear c26b1
                try clear c26b2
                try clear c27
                try clear hx386_0
                try clear p2
                try clear p386
                try clear q386
                obtain ⟨kq, x77_18, rfl, HA, HJ18, HO_5, HO_7, HO_9, HB⟩ := hcut
                cases kq with
                | zero => exact absurd HA.out (by simp [estoverslaw36_GenerationsYoung.j2])
                | succ kj18 =>
                  have H := HA.out
                  clear HA
                  simp only [estoverslaw36_GenerationsYoung.j2] at H
                  by_cases c35 : x77_18 = true
                  · subst c35
                    have H1 : (some false) = some r := by rw [if_pos rfl] at H; exact H
                    clear H
                    have H := H1
                    clear H1
                    obtain rfl := Option.some.inj H
                    go_wp2
                    go_ret
                    exact ⟨by first | rfl | (simp [errW_none, errW_some] <;> rfl) | (simp [*, errW_none, errW_some] <;> rfl), by repeat (first | (with_reducible first | exact HB.out | apply below_alloc | apply pw_below_drewN | apply below_drew1) | exact HB.out)⟩
                  · replace c35 := Bool.eq_false_iff.mpr c35
                    subst c35
                    have H1 : (estoverslaw36_GenerationsYoung.l0 kj18 l1 t373 t377 t382 ([] : List Int) t373 (t373.length : Int) 0) = some r := by rw [if_neg (show ¬ (false = true) by decide)] at H; exact H
                    clear H
                    have H := H1
                    clear H1
                    have H' := Aside0.mk H
                    clear H
                    obtain ⟨Ao36, co36, eo36⟩ := Kd.R_slice HO_5.out
                    subst eo36
                    go_wp2
                    go_loopg [11, 80] kj18 (fun kq v11 v80 w' => ∃ (x11_4 : List Int) (x80_4 : Int), v80 = .int .i64 x80_4 ∧ Aside0 (estoverslaw36_GenerationsYoung.l0 kq l1 t373 t377 t382 x11_4 t373 (t373.length : Int) x80_4 = some r) ∧ Aside0 (kq ≤ kj18) ∧ Aside0 (Kd.R (Kd.int .i64) 3 w' w.heap.size (fun k_ => some k_ ≠ (v384 : Value).ownBlock ∧ some k_ ≠ (v11 : Value).ownBlock) (.slice Ao36 t373.length co36) t373) ∧ Aside0 (Kd.S (Kd.slice 3 (Kd.int .i64)) 25 w' w.heap.size (fun k_ => some k_ ≠ ((.slice Ao36 t373.length co36) : Value).ownBlock ∧ some k_ ≠ (v384 : Value).ownBlock ∧ some k_ ≠ (v11 : Value).ownBlock ∧ some k_ ≠ ((.slice Ao36 t373.length co36) : Value).ownBlock) (.slice Ao20 t377.length co20) t377) ∧ Aside0 (Kd.R (Kd.int .i64) 3 w' w.heap.size (fun k_ => some k_ ≠ ((.slice Ao36 t373.length co36) : Value).ownBlock ∧ some k_ ≠ (v11 : Value).ownBlock ∧ some k_ ≠ ((.slice Ao36 t373.length co36) : Value).ownBlock) v384 t382) ∧ Aside0 (Kd.R (Kd.int .i64) 3 w' w.heap.size (fun k_ => some k_ ≠ ((.slice Ao36 t373.length co36) : Value).ownBlock ∧ some k_ ≠ (v384 : Value).ownBlock ∧ some k_ ≠ ((.slice Ao36 t373.length co36) : Value).ownBlock) v11 x11_4) ∧ Aside0 (Kd.R (Kd.int .i64) 3 w' w.heap.size (fun k_ => some k_ ≠ (v384 : Value).ownBlock ∧ some k_ ≠ (v11 : Value).ownBlock) (.slice Ao36 t373.length co36) t373) ∧ Aside0 (Below w.heap.size w w'))
                    case atStart => exact ⟨(([] : List Int)), (0), (by first | rfl | (simp; done) | (simp [*]; done)), H', ⟨Nat.le_refl _⟩, ⟨by (with_reducible repeat (first | apply Kd.R_alloc | apply Kd.R_drewN | apply Kd.R_drew)); exact Kd.R_mono HO_5.out (fun _ hk => ⟨hk, (by simp [Value.ownBlock])⟩)⟩, ⟨by (with_reducible repeat (first | apply Kd.S_alloc | apply Kd.S_drewN | apply Kd.S_drew)); exact Kd.S_mono HO_7.out (fun _ hk => ⟨hk.1, ⟨hk.2, ⟨(by simp [Value.ownBlock]), hk.1⟩⟩⟩)⟩, ⟨by (with_reducible repeat (first | apply Kd.R_alloc | apply Kd.R_drewN | apply Kd.R_drew)); exact Kd.R_mono HO_9.out (fun _ hk => ⟨hk, ⟨(by simp [Value.ownBlock]), hk⟩⟩)⟩, ⟨by first | exact Kd.R_nil _ _ _ _ _ | exact Kd.N_nil _ _ _ _ _ | exact Kd.V_nil _ _ _ _ _ | exact Kd.Q_nil _ _ _ _ _ | exact Kd.S_nil _ _ _ _ _⟩, ⟨by (with_reducible repeat (first | apply Kd.R_alloc | apply Kd.R_drewN | apply Kd.R_drew)); exact Kd.R_mono HO_5.out (fun _ hk => ⟨hk, (by simp [Value.ownBlock])⟩)⟩, ⟨by repeat (first | (with_reducible first | exact HB.out | apply below_alloc | apply pw_below_drewN | apply below_drew1) | exact HB.out)⟩⟩
                    case round =>
                      clear H'
                      try clear c1
                      try clear c2
                      try clear p2
                      try clear c3
                      try clear p3
                      try clear q3
                      try clear hx3
                      try clear qi3
                      try clear c5
                      try clear c6
                      try clear c8
                      try clear c9
                      try clear c10
                      try clear c11
                      try clear c14
                      try clear c14b0
                      try clear c14b1
                      try clear c15
                      try clear c22
                      try clear c22b0
                      try clear c22b1
                      try clear c23
                      try clear c23b0
                      try clear c23b1
                      try clear c24
                      try clear c24b0
                      try clear c24b1
                      try clear c24b2
                      try clear c25
                      try clear c25b0
                      try clear c25b1
                      try clear c26
                      try clear c26b0
                      try clear c26b1
                      try clear c26b2
                      try clear c27
                      try clear c35
                      try clear hx386_0
                      try clear p2
                      try clear p3
                      try clear p386
                      try clear q3
                      try clear q386
                      obtain ⟨x11_4, x80_4, rfl, HA, HK4, HO_5, HO_7, HO_9, HO_11, HO_78, HB⟩ := hrel
                      cases gk with
                      | zero => exact absurd HA.out (by simp [estoverslaw36_GenerationsYoung.l0])
                      | succ k4 =>
                        have H := HA.out
                        clear HA
                        simp only [estoverslaw36_GenerationsYoung.l0] at H
                        by_cases c37 : x80_4 < (t373.length : Int)
                        · rw [if_pos c37] at H
                          have c37b0 : decide (x80_4 < (t373.length : Int)) = true := decide_eq_true c37
                          clear c37
                          by_cases c38 : 0 ≤ x80_4
                          · rw [if_pos c38] at H
                            have c38b0 : decide (0 ≤ x80_4) = true := decide_eq_true c38
                            clear c38
                            by_cases c39 : x80_4 < (t373.length : Int)
                            · rw [if_pos c39] at H
                              have c39b0 : decide (x80_4 < (t373.length : Int)) = true := decide_eq_true c39
                              clear c39
                              replace H := Option.bind_eq_some_iff.mp H
                              obtain ⟨t389, A400, H⟩ := H
                              replace H : (if t389 = true then (estoverslaw36_GenerationsYoung.l0 k4 l1 t373 t377 t382 x11_4 t373 (t373.length : Int) (wrap64 (x80_4 + 1))) else (if x11_4.length < 17592186044416 then (estoverslaw36_GenerationsYoung.l0 k4 l1 t373 t377 t382 (x11_4 ++ [rd t373 x80_4]) t373 (t373.length : Int) (wrap64 (x80_4 + 1))) else (none))) = some r := H
                              have A40 := Aside0.mk A400
                              clear A400
                              by_cases c41 : t389 = true
                              · subst c41
                                have H1 : (estoverslaw36_GenerationsYoung.l0 k4 l1 t373 t377 t382 x11_4 t373 (t373.length : Int) (wrap64 (x80_4 + 1))) = some r := by rw [if_pos rfl] at H; exact H
                                clear H
                                have H := H1
                                clear H1
                                have H' := Aside0.mk H
                                clear H
                                have p388 : 0 ≤ (x80_4 : Int) := of_decide_eq_true (by first | (with_reducible assumption) | assumption)
                                have q388 : x80_4 < (t373.length : Int) := of_decide_eq_true (by first | (with_reducible assumption) | assumption)
                                obtain ⟨ad388, e388, hx388_0⟩ := Kd.at_int (Kd.R_reads' HO_78.out).2.2 x80_4 p388 q388
                                cases e388
                                replace p388 := eq_true p388
                                replace q388 := eq_true q388
                                go_wp2_with (first | ((with_reducible refine gate_callee (f := 29) rfl ?_); refine goesL_ (some 86) rfl rfl Try.func29 (by kernel_rfl) rfl #[.slice A1 l1.length c1, .int .i64 (rd t373 x80_4)] rfl (by (try simp only [List.map_toArray, List.map_cons, List.map_nil]); first | done | rfl | (simp only [List.length_drop, List.length_take]; rfl)) ?_; (with_reducible refine (slices_Contains_int_int.calls k4 _ _ l1 (rd t373 x80_4) true _ ?side1 ?side2 A40.out).mono ?_); (case side1 => repeat (first | exact (Kd.C_below HR1.out HB.out) | (with_reducible refine Kd.C_alloc ?_ _) | (with_reducible refine Kd.C_drewN ?_ _) | (with_reducible refine Kd.C_drew ?_))); (case side2 => exact HC1.out); rintro e w' ⟨rfl, ⟨nd, rfl⟩⟩; refine ⟨_, rfl, ?_⟩))
                                go_roundg k4
                                case measure => have := HJ2.out; have := HJ10.out; have := HJ18.out; have := HK4.out; omega
                                case rel => exact ⟨(x11_4), (wrap64 (x80_4 + 1)), (by first | rfl | (simp; done) | (simp [*]; done)), H', ⟨by have := HJ2.out; have := HJ10.out; have := HJ18.out; have := HK4.out; omega⟩, ⟨by (with_reducible repeat (first | apply Kd.R_alloc | apply Kd.R_drewN | apply Kd.R_drew)); exact HO_5.out⟩, ⟨by (with_reducible repeat (first | apply Kd.S_alloc | apply Kd.S_drewN | apply Kd.S_drew)); exact HO_7.out⟩, ⟨by (with_reducible repeat (first | apply Kd.R_alloc | apply Kd.R_drewN | apply Kd.R_drew)); exact HO_9.out⟩, ⟨by (with_reducible repeat (first | apply Kd.R_alloc | apply Kd.R_drewN | apply Kd.R_drew)); exact HO_11.out⟩, ⟨by (with_reducible repeat (first | apply Kd.R_alloc | apply Kd.R_drewN | apply Kd.R_drew)); exact HO_78.out⟩, ⟨by repeat (first | (with_reducible first | exact HB.out | apply below_alloc | apply pw_below_drewN | apply below_drew1) | exact HB.out)⟩⟩
                              · replace c41 := Bool.eq_false_iff.mpr c41
                                subst c41
                                have H1 : (if x11_4.length < 17592186044416 then (estoverslaw36_GenerationsYoung.l0 k4 l1 t373 t377 t382 (x11_4 ++ [rd t373 x80_4]) t373 (t373.length : Int) (wrap64 (x80_4 + 1))) else (none)) = some r := by rw [if_neg (show ¬ (false = true) by decide)] at H; exact H
                                clear H
                                have H := H1
                                clear H1
                                by_cases c42 : x11_4.length < 17592186044416
                                · rw [if_pos c42] at H
                                  have LMc42 := Aside0.mk c42
                                  clear c42
                                  obtain ⟨y390, hy390⟩ : ∃ y_ : List Int, y_ = (x11_4 ++ [rd t373 x80_4]) := ⟨_, rfl⟩
                                  replace H : (estoverslaw36_GenerationsYoung.l0 k4 l1 t373 t377 t382 y390 t373 (t373.length : Int) (wrap64 (x80_4 + 1))) = some r := by first | (rw [hy390]; with_reducible exact H) | (have H2_ := (Option.bind_some _ _).symm.trans H; rw [hy390]; with_reducible exact H2_) | (have H2_ := (Option.bind_some _ _).symm.trans H; with_reducible exact H2_) | with_reducible exact H | (rw [hy390]; exact H) | exact H
                                  have Ny390 := Aside0.mk hy390
                                  clear hy390
                                  have H' := Aside0.mk H
                                  clear H
                                  have p388 : 0 ≤ (x80_4 : Int) := of_decide_eq_true (by first | (with_reducible assumption) | assumption)
                                  have q388 : x80_4 < (t373.length : Int) := of_decide_eq_true (by first | (with_reducible assumption) | assumption)
                                  obtain ⟨ad388, e388, hx388_0⟩ := Kd.at_int (Kd.R_reads' HO_78.out).2.2 x80_4 p388 q388
                                  cases e388
                                  replace p388 := eq_true p388
                                  replace q388 := eq_true q388
                                  go_wp2_with (first | ((with_reducible refine gate_callee (f := 29) rfl ?_); refine goesL_ (some 86) rfl rfl Try.func29 (by kernel_rfl) rfl #[.slice A1 l1.length c1, .int .i64 (rd t373 x80_4)] rfl (by (try simp only [List.map_toArray, List.map_cons, List.map_nil]); first | done | rfl | (simp only [List.length_drop, List.length_take]; rfl)) ?_; (with_reducible refine (slices_Contains_int_int.calls k4 _ _ l1 (rd t373 x80_4) false _ ?side1 ?side2 A40.out).mono ?_); (case side1 => repeat (first | exact (Kd.C_below HR1.out HB.out) | (with_reducible refine Kd.C_alloc ?_ _) | (with_reducible refine Kd.C_drewN ?_ _) | (with_reducible refine Kd.C_drew ?_))); (case side2 => exact HC1.out); rintro e w' ⟨rfl, ⟨nd, rfl⟩⟩; refine ⟨_, rfl, ?_⟩) | ((with_reducible refine gate_builtin (b := .append) (xs := #[.tmp 88, .tmp 90]) rfl ?_); (try (refine gate_guard (by rfl) ?_; dsimp only)); at_builtin; refine Kd.R_append (Kd.int .i64) (w0 := w) w.heap.size rfl (.tmp 88) (.tmp 90) 25 3 (.int .i64 0) 8 rfl Try.underlying25 info3 rfl (by decide) (by omega) u11 x11_4 (rd t373 x80_4) [.int .i64 (rd t373 x80_4)] (fun k_ => some k_ ≠ (.slice (some ad388) t373.length co36 : Value).ownBlock ∧ some k_ ≠ (v384 : Value).ownBlock ∧ some k_ ≠ (.slice (some ad388) t373.length co36 : Value).ownBlock) (fun _ => False) rfl rfl ?aP (fun _ hk => hk.elim) ?aF ?aO ?aB ?aS ?aL ?_; (case aP => exact rfl); (case aB => exact (by repeat (first | (with_reducible first | exact HB.out | apply below_alloc | apply pw_below_drewN | apply below_drew1) | exact HB.out))); (case aF => exact (fun k_ hk => ⟨Kd.fresh' (Kd.R_lt (by (with_reducible repeat (first | apply Kd.R_alloc | apply Kd.R_drewN | apply Kd.R_drew)); exact HO_5.out)) k_ hk, Kd.fresh' (Kd.R_lt (by (with_reducible repeat (first | apply Kd.R_alloc | apply Kd.R_drewN | apply Kd.R_drew)); exact HO_9.out)) k_ hk, Kd.fresh' (Kd.R_lt (by (with_reducible repeat (first | apply Kd.R_alloc | apply Kd.R_drewN | apply Kd.R_drew)); exact HO_78.out)) k_ hk⟩)); (case aO => exact (by (with_reducible repeat (first | apply Kd.R_alloc | apply Kd.R_drewN | apply Kd.R_drew)); exact HO_11.out)); (case aS => exact (below_size (by repeat (first | (with_reducible first | exact HB.out | apply below_alloc | apply pw_below_drewN | apply below_drew1) | exact HB.out)))); (case aL => have := LMc42.out; omega); intro v391 w43 ho hb hg hat; rw [← Ny390.out] at ho; have n0_ := Aside0.mk (Kd.R_after (ok := (fun k_ => some k_ ≠ (v384 : Value).ownBlock)) (by (with_reducible repeat (first | apply Kd.R_alloc | apply Kd.R_drewN | apply Kd.R_drew)); exact HO_5.out) hg hat); have n1_ := Aside0.mk (Kd.S_after (ok := (fun k_ => some k_ ≠ (.slice (some ad388) t373.length co36 : Value).ownBlock ∧ some k_ ≠ (v384 : Value).ownBlock ∧ some k_ ≠ (.slice (some ad388) t373.length co36 : Value).ownBlock)) (by (with_reducible repeat (first | apply Kd.S_alloc | apply Kd.S_drewN | apply Kd.S_drew)); exact Kd.S_mono HO_7.out (fun _ hk => ⟨⟨hk.1, ⟨hk.2.1, hk.2.2.2⟩⟩, hk.2.2.1⟩)) hg hat); have n2_ := Aside0.mk (Kd.R_after (ok := (fun k_ => some k_ ≠ (.slice (some ad388) t373.length co36 : Value).ownBlock ∧ some k_ ≠ (.slice (some ad388) t373.length co36 : Value).ownBlock)) (by (with_reducible repeat (first | apply Kd.R_alloc | apply Kd.R_drewN | apply Kd.R_drew)); exact Kd.R_mono HO_9.out (fun _ hk => ⟨⟨hk.1, hk.2.2⟩, hk.2.1⟩)) hg hat); have n3_ := Aside0.mk (Kd.R_after (ok := (fun k_ => some k_ ≠ (v384 : Value).ownBlock)) (by (with_reducible repeat (first | apply Kd.R_alloc | apply Kd.R_drewN | apply Kd.R_drew)); exact HO_78.out) hg hat); have n4_ := Aside0.mk (hb); have n5_ := Aside0.mk (ho); clear HO_5; clear HO_7; clear HO_9; clear HO_78; clear HB; clear HO_11; have HO_5 := n0_; have HO_7 := n1_; have HO_9 := n2_; have HO_78 := n3_; have HB := n4_; have HO392 := n5_; clear n0_ n1_ n2_ n3_ n4_ n5_; clear ho hb hg hat))
                                  go_roundg k4
                                  case measure => have := HJ2.out; have := HJ10.out; have := HJ18.out; have := HK4.out; omega
                                  case rel => exact ⟨(y390), (wrap64 (x80_4 + 1)), (by first | rfl | (simp; done) | (simp [*]; done)), H', ⟨by have := HJ2.out; have := HJ10.out; have := HJ18.out; have := HK4.out; omega⟩, ⟨by (with_reducible repeat (first | apply Kd.R_alloc | apply Kd.R_drewN | apply Kd.R_drew)); exact HO_5.out⟩, ⟨by (with_reducible repeat (first | apply Kd.S_alloc | apply Kd.S_drewN | apply Kd.S_drew)); exact Kd.S_mono HO_7.out (fun _ hk => ⟨hk.1.1, ⟨hk.1.2.1, ⟨hk.2, hk.1.2.2⟩⟩⟩)⟩, ⟨by (with_reducible repeat (first | apply Kd.R_alloc | apply Kd.R_drewN | apply Kd.R_drew)); exact Kd.R_mono HO_9.out (fun _ hk => ⟨hk.1.1, ⟨hk.2, hk.1.2⟩⟩)⟩, ⟨by (with_reducible repeat (first | apply Kd.R_alloc | apply Kd.R_drewN | apply Kd.R_drew)); exact HO392.out⟩, ⟨by (with_reducible repeat (first | apply Kd.R_alloc | apply Kd.R_drewN | apply Kd.R_drew)); exact HO_78.out⟩, ⟨by repeat (first | (with_reducible first | exact HB.out | apply below_alloc | apply pw_below_drewN | apply below_drew1) | exact HB.out)⟩⟩
                                · rw [if_neg c42] at H
                                  exact absurd H (by simp)
                            · rw [if_neg c39] at H
                              exact absurd H (by simp)
                          · rw [if_neg c38] at H
                            exact absurd H (by simp)
                        · rw [if_neg c37] at H
                          have c37b0 : decide (x80_4 < (t373.length : Int)) = false := decide_eq_false c37
                          clear c37
                          have H' := Aside0.mk H
                          clear H
                          go_wp2
                          go_loopg [11, 95] k4 (fun kq v11 v95 w' => ∃ (x11_5 : List Int) (x95_5 : Int), v95 = .int .i64 x95_5 ∧ Aside0 (estoverslaw36_GenerationsYoung.l1 kq l1 t377 t382 x11_5 t373 (t373.length : Int) x95_5 = some r) ∧ Aside0 (kq ≤ k4) ∧ Aside0 (Kd.S (Kd.slice 3 (Kd.int .i64)) 25 w' w.heap.size (fun k_ => some k_ ≠ (v384 : Value).ownBlock ∧ some k_ ≠ (v11 : Value).ownBlock ∧ some k_ ≠ ((.slice Ao36 t373.length co36) : Value).ownBlock) (.slice Ao20 t377.length co20) t377) ∧ Aside0 (Kd.R (Kd.int .i64) 3 w' w.heap.size (fun k_ => some k_ ≠ (v11 : Value).ownBlock ∧ some k_ ≠ ((.slice Ao36 t373.length co36) : Value).ownBlock) v384 t382) ∧ Aside0 (Kd.R (Kd.int .i64) 3 w' w.heap.size (fun k_ => some k_ ≠ (v384 : Value).ownBlock ∧ some k_ ≠ ((.slice Ao36 t373.length co36) : Value).ownBlock) v11 x11_5) ∧ Aside0 (Kd.R (Kd.int .i64) 3 w' w.heap.size (fun k_ => some k_ ≠ (v384 : Value).ownBlock ∧ some k_ ≠ (v11 : Value).ownBlock) (.slice Ao36 t373.length co36) t373) ∧ Aside0 (Below w.heap.size w w'))
                          case atStart => exact ⟨(x11_4), (0), (by first | rfl | (simp; done) | (simp [*]; done)), H', ⟨Nat.le_refl _⟩, ⟨by (with_reducible repeat (first | apply Kd.S_alloc | apply Kd.S_drewN | apply Kd.S_drew)); exact Kd.S_mono HO_7.out (fun _ hk => ⟨hk.2.1, ⟨hk.2.2.1, hk.1⟩⟩)⟩, ⟨by (with_reducible repeat (first | apply Kd.R_alloc | apply Kd.R_drewN | apply Kd.R_drew)); exact Kd.R_mono HO_9.out (fun _ hk => ⟨hk.2.1, hk.1⟩)⟩, ⟨by (with_reducible repeat (first | apply Kd.R_alloc | apply Kd.R_drewN | apply Kd.R_drew)); exact Kd.R_mono HO_11.out (fun _ hk => ⟨hk.2.1, hk.1⟩)⟩, ⟨by (with_reducible repeat (first | apply Kd.R_alloc | apply Kd.R_drewN | apply Kd.R_drew)); exact HO_5.out⟩, ⟨by repeat (first | (with_reducible first | exact HB.out | apply below_alloc | apply pw_below_drewN | apply below_drew1) | exact HB.out)⟩⟩
                          case round =>
                            clear H'
                            try clear c1
                            try clear c2
                            try clear p2
                            try clear c3
                            try clear p3
                            try clear q3
                            try clear hx3
                            try clear qi3
                            try clear c4
                            try clear c5
                            try clear c6
                            try clear p6
                            try clear c8
                            try clear c9
                            try clear c10
                            try clear c11
                            try clear c14
                            try clear c14b0
                            try clear c14b1
                            try clear c15
                            try clear c22
                            try clear c22b0
                            try clear c22b1
                            try clear c23
                            try clear c23b0
                            try clear c23b1
                            try clear c24
                            try clear c24b0
                            try clear c24b1
                            try clear c24b2
                            try clear c25
                            try clear c25b0
                            try clear c25b1
                            try clear c26
                            try clear c26b0
                            try clear c26b1
                            try clear c26b2
                            try clear c27
                            try clear c29
                            try clear c35
                            try clear c37
                            try clear c37b0
                            try clear c38
                            try clear c38b0
                            try clear p38
                            try clear q38
                            try clear hx38
                            try clear qi38
                            try clear c39
                            try clear c39b0
                            try clear c41
                            try clear c42
                            try clear hx386_0
                            try clear hx388_0
                            try clear p2
                            try clear p3
                            try clear p386
                            try clear p388
                            try clear q3
                            try clear q386
                            try clear q388
                            obtain ⟨x11_5, x95_5, rfl, HA, HK5, HO_7, HO_9, HO_11, HO_93, HB⟩ := hrel
                            cases gk with
                            | zero => exact absurd HA.out (by simp [estoverslaw36_GenerationsYoung.l1])
                            | succ k5 =>
                              have H := HA.out
                              clear HA
                              simp only [estoverslaw36_GenerationsYoung.l1] at H
                              by_cases c44 : x95_5 < (t373.length : Int)
                              · rw [if_pos c44] at H
                                have c44b0 : decide (x95_5 < (t373.length : Int)) = true := decide_eq_true c44
                                clear c44
                                by_cases c45 : 0 ≤ x95_5
                                · rw [if_pos c45] at H
                                  have c45b0 : decide (0 ≤ x95_5) = true := decide_eq_true c45
                                  clear c45
                                  by_cases c46 : x95_5 < (t373.length : Int)
                                  · rw [if_pos c46] at H
                                    have c46b0 : decide (x95_5 < (t373.length : Int)) = true := decide_eq_true c46
                                    clear c46
                                    replace H := Option.bind_eq_some_iff.mp H
                                    obtain ⟨t394, A470, H⟩ := H
                                    replace H : (if t394 = true then (if x11_5.length < 17592186044416 then (estoverslaw36_GenerationsYoung.l1 k5 l1 t377 t382 (x11_5 ++ [rd t373 x95_5]) t373 (t373.length : Int) (wrap64 (x95_5 + 1))) else (none)) else (estoverslaw36_GenerationsYoung.l1 k5 l1 t377 t382 x11_5 t373 (t373.length : Int) (wrap64 (x95_5 + 1)))) = some r := H
                                    have A47 := Aside0.mk A470
                                    clear A470
                                    by_cases c48 : t394 = true
                                    · subst c48
                                      have H1 : (if x11_5.length < 17592186044416 then (estoverslaw36_GenerationsYoung.l1 k5 l1 t377 t382 (x11_5 ++ [rd t373 x95_5]) t373 (t373.length : Int) (wrap64 (x95_5 + 1))) else (none)) = some r := by rw [if_pos rfl] at H; exact H
                                      clear H
                                      have H := H1
                                      clear H1
                                      by_cases c49 : x11_5.length < 17592186044416
                                      · rw [if_pos c49] at H
                                        have LMc49 := Aside0.mk c49
                                        clear c49
                                        obtain ⟨y395, hy395⟩ : ∃ y_ : List Int, y_ = (x11_5 ++ [rd t373 x95_5]) := ⟨_, rfl⟩
                                        replace H : (estoverslaw36_GenerationsYoung.l1 k5 l1 t377 t382 y395 t373 (t373.length : Int) (wrap64 (x95_5 + 1))) = some r := by first | (rw [hy395]; with_reducible exact H) | (have H2_ := (Option.bind_some _ _).symm.trans H; rw [hy395]; with_reducible exact H2_) | (have H2_ := (Option.bind_some _ _).symm.trans H; with_reducible exact H2_) | with_reducible exact H | (rw [hy395]; exact H) | exact H
                                        have Ny395 := Aside0.mk hy395
                                        clear hy395
                                        have H' := Aside0.mk H
                                        clear H
                                        have p393 : 0 ≤ (x95_5 : Int) := of_decide_eq_true (by first | (with_reducible assumption) | assumption)
                                        have q393 : x95_5 < (t373.length : Int) := of_decide_eq_true (by first | (with_reducible assumption) | assumption)
                                        obtain ⟨ad393, e393, hx393_0⟩ := Kd.at_int (Kd.R_reads' HO_93.out).2.2 x95_5 p393 q393
                                        cases e393
                                        replace p393 := eq_true p393
                                        replace q393 := eq_true q393
                                        go_wp2_with (first | ((with_reducible refine gate_callee (f := 29) rfl ?_); refine goesL_ (some 101) rfl rfl Try.func29 (by kernel_rfl) rfl #[.slice A1 l1.length c1, .int .i64 (rd t373 x95_5)] rfl (by (try simp only [List.map_toArray, List.map_cons, List.map_nil]); first | done | rfl | (simp only [List.length_drop, List.length_take]; rfl)) ?_; (with_reducible refine (slices_Contains_int_int.calls k5 _ _ l1 (rd t373 x95_5) true _ ?side1 ?side2 A47.out).mono ?_); (case side1 => repeat (first | exact (Kd.C_below HR1.out HB.out) | (with_reducible refine Kd.C_alloc ?_ _) | (with_reducible refine Kd.C_drewN ?_ _) | (with_reducible refine Kd.C_drew ?_))); (case side2 => exact HC1.out); rintro e w' ⟨rfl, ⟨nd, rfl⟩⟩; refine ⟨_, rfl, ?_⟩) | ((with_reducible refine gate_builtin (b := .append) (xs := #[.tmp 102, .tmp 104]) rfl ?_); (try (refine gate_guard (by rfl) ?_; dsimp only)); at_builtin; refine Kd.R_append (Kd.int .i64) (w0 := w) w.heap.size rfl (.tmp 102) (.tmp 104) 25 3 (.int .i64 0) 8 rfl Try.underlying25 info3 rfl (by decide) (by omega) u11 x11_5 (rd t373 x95_5) [.int .i64 (rd t373 x95_5)] (fun k_ => some k_ ≠ (v384 : Value).ownBlock ∧ some k_ ≠ (.slice (some ad393) t373.length co36 : Value).ownBlock) (fun _ => False) rfl rfl ?aP (fun _ hk => hk.elim) ?aF ?aO ?aB ?aS ?aL ?_; (case aP => exact rfl); (case aB => exact (by repeat (first | (with_reducible first | exact HB.out | apply below_alloc | apply pw_below_drewN | apply below_drew1) | exact HB.out))); (case aF => exact (fun k_ hk => ⟨Kd.fresh' (Kd.R_lt (by (with_reducible repeat (first | apply Kd.R_alloc | apply Kd.R_drewN | apply Kd.R_drew)); exact HO_9.out)) k_ hk, Kd.fresh' (Kd.R_lt (by (with_reducible repeat (first | apply Kd.R_alloc | apply Kd.R_drewN | apply Kd.R_drew)); exact HO_93.out)) k_ hk⟩)); (case aO => exact (by (with_reducible repeat (first | apply Kd.R_alloc | apply Kd.R_drewN | apply Kd.R_drew)); exact HO_11.out)); (case aS => exact (below_size (by repeat (first | (with_reducible first | exact HB.out | apply below_alloc | apply pw_below_drewN | apply below_drew1) | exact HB.out)))); (case aL => have := LMc49.out; omega); intro v396 w50 ho hb hg hat; rw [← Ny395.out] at ho; have n0_ := Aside0.mk (Kd.S_after (ok := (fun k_ => some k_ ≠ (v384 : Value).ownBlock ∧ some k_ ≠ (.slice (some ad393) t373.length co36 : Value).ownBlock)) (by (with_reducible repeat (first | apply Kd.S_alloc | apply Kd.S_drewN | apply Kd.S_drew)); exact Kd.S_mono HO_7.out (fun _ hk => ⟨⟨hk.1, hk.2.2⟩, hk.2.1⟩)) hg hat); have n1_ := Aside0.mk (Kd.R_after (ok := (fun k_ => some k_ ≠ (.slice (some ad393) t373.length co36 : Value).ownBlock)) (by (with_reducible repeat (first | apply Kd.R_alloc | apply Kd.R_drewN | apply Kd.R_drew)); exact Kd.R_mono HO_9.out (fun _ hk => ⟨hk.2, hk.1⟩)) hg hat); have n2_ := Aside0.mk (Kd.R_after (ok := (fun k_ => some k_ ≠ (v384 : Value).ownBlock)) (by (with_reducible repeat (first | apply Kd.R_alloc | apply Kd.R_drewN | apply Kd.R_drew)); exact HO_93.out) hg hat); have n3_ := Aside0.mk (hb); have n4_ := Aside0.mk (ho); clear HO_7; clear HO_9; clear HO_93; clear HB; clear HO_11; have HO_7 := n0_; have HO_9 := n1_; have HO_93 := n2_; have HB := n3_; have HO397 := n4_; clear n0_ n1_ n2_ n3_ n4_; clear ho hb hg hat))
                                        go_roundg k5
                                        case measure => have := HJ2.out; have := HJ10.out; have := HJ18.out; have := HK4.out; have := HK5.out; omega
                                        case rel => exact ⟨(y395), (wrap64 (x95_5 + 1)), (by first | rfl | (simp; done) | (simp [*]; done)), H', ⟨by have := HJ2.out; have := HJ10.out; have := HJ18.out; have := HK4.out; have := HK5.out; omega⟩, ⟨by (with_reducible repeat (first | apply Kd.S_alloc | apply Kd.S_drewN | apply Kd.S_drew)); exact Kd.S_mono HO_7.out (fun _ hk => ⟨hk.1.1, ⟨hk.2, hk.1.2⟩⟩)⟩, ⟨by (with_reducible repeat (first | apply Kd.R_alloc | apply Kd.R_drewN | apply Kd.R_drew)); exact Kd.R_mono HO_9.out (fun _ hk => ⟨hk.2, hk.1⟩)⟩, ⟨by (with_reducible repeat (first | apply Kd.R_alloc | apply Kd.R_drewN | apply Kd.R_drew)); exact HO397.out⟩, ⟨by (with_reducible repeat (first | apply Kd.R_alloc | apply Kd.R_drewN | apply Kd.R_drew)); exact HO_93.out⟩, ⟨by repeat (first | (with_reducible first | exact HB.out | apply below_alloc | apply pw_below_drewN | apply below_drew1) | exact HB.out)⟩⟩
                                      · rw [if_neg c49] at H
                                        exact absurd H (by simp)
                                    · replace c48 := Bool.eq_false_iff.mpr c48
                                      subst c48
                                      have H1 : (estoverslaw36_GenerationsYoung.l1 k5 l1 t377 t382 x11_5 t373 (t373.length : Int) (wrap64 (x95_5 + 1))) = some r := by rw [if_neg (show ¬ (false = true) by decide)] at H; exact H
                                      clear H
                                      have H := H1
                                      clear H1
                                      have H' := Aside0.mk H
                                      clear H
                                      have p393 : 0 ≤ (x95_5 : Int) := of_decide_eq_true (by first | (with_reducible assumption) | assumption)
                                      have q393 : x95_5 < (t373.length : Int) := of_decide_eq_true (by first | (with_reducible assumption) | assumption)
                                      obtain ⟨ad393, e393, hx393_0⟩ := Kd.at_int (Kd.R_reads' HO_93.out).2.2 x95_5 p393 q393
                                      cases e393
                                      replace p393 := eq_true p393
                                      replace q393 := eq_true q393
                                      go_wp2_with (first | ((with_reducible refine gate_callee (f := 29) rfl ?_); refine goesL_ (some 101) rfl rfl Try.func29 (by kernel_rfl) rfl #[.slice A1 l1.length c1, .int .i64 (rd t373 x95_5)] rfl (by (try simp only [List.map_toArray, List.map_cons, List.map_nil]); first | done | rfl | (simp only [List.length_drop, List.length_take]; rfl)) ?_; (with_reducible refine (slices_Contains_int_int.calls k5 _ _ l1 (rd t373 x95_5) false _ ?side1 ?side2 A47.out).mono ?_); (case side1 => repeat (first | exact (Kd.C_below HR1.out HB.out) | (with_reducible refine Kd.C_alloc ?_ _) | (with_reducible refine Kd.C_drewN ?_ _) | (with_reducible refine Kd.C_drew ?_))); (case side2 => exact HC1.out); rintro e w' ⟨rfl, ⟨nd, rfl⟩⟩; refine ⟨_, rfl, ?_⟩))
                                      go_roundg k5
                                      case measure => have := HJ2.out; have := HJ10.out; have := HJ18.out; have := HK4.out; have := HK5.out; omega
                                      case rel => exact ⟨(x11_5), (wrap64 (x95_5 + 1)), (by first | rfl | (simp; done) | (simp [*]; done)), H', ⟨by have := HJ2.out; have := HJ10.out; have := HJ18.out; have := HK4.out; have := HK5.out; omega⟩, ⟨by (with_reducible repeat (first | apply Kd.S_alloc | apply Kd.S_drewN | apply Kd.S_drew)); exact HO_7.out⟩, ⟨by (with_reducible repeat (first | apply Kd.R_alloc | apply Kd.R_drewN | apply Kd.R_drew)); exact HO_9.out⟩, ⟨by (with_reducible repeat (first | apply Kd.R_alloc | apply Kd.R_drewN | apply Kd.R_drew)); exact HO_11.out⟩, ⟨by (with_reducible repeat (first | apply Kd.R_alloc | apply Kd.R_drewN | apply Kd.R_drew)); exact HO_93.out⟩, ⟨by repeat (first | (with_reducible first | exact HB.out | apply below_alloc | apply pw_below_drewN | apply below_drew1) | exact HB.out)⟩⟩
                                  · rw [if_neg c46] at H
                                    exact absurd H (by simp)
                                · rw [if_neg c45] at H
                                  exact absurd H (by simp)
                              · rw [if_neg c44] at H
                                have c44b0 : decide (x95_5 < (t373.length : Int)) = false := decide_eq_false c44
                                clear c44
                                have H' := Aside0.mk H
                                clear H
                                go_wp2
                                go_loopg [109] k5 (fun kq v109 w' => ∃ (x109_6 : Int), v109 = .int .i64 x109_6 ∧ Aside0 (estoverslaw36_GenerationsYoung.l2 kq t377 t382 x11_5 l1 (l1.length : Int) x109_6 = some r) ∧ Aside0 (kq ≤ k5) ∧ Aside0 (Kd.S (Kd.slice 3 (Kd.int .i64)) 25 w' w.heap.size (fun k_ => some k_ ≠ (v384 : Value).ownBlock ∧ some k_ ≠ (u11 : Value).ownBlock) (.slice Ao20 t377.length co20) t377) ∧ Aside0 (Kd.R (Kd.int .i64) 3 w' w.heap.size (fun k_ => some k_ ≠ (u11 : Value).ownBlock) v384 t382) ∧ Aside0 (Kd.R (Kd.int .i64) 3 w' w.heap.size (fun k_ => some k_ ≠ (v384 : Value).ownBlock) u11 x11_5) ∧ Aside0 (Below w.heap.size w w'))
                                case atStart => exact ⟨(0), (by first | rfl | (simp; done) | (simp [*]; done)), H', ⟨Nat.le_refl _⟩, ⟨by (with_reducible repeat (first | apply Kd.S_alloc | apply Kd.S_drewN | apply Kd.S_drew)); exact Kd.S_mono HO_7.out (fun _ hk => ⟨hk.1, hk.2.1⟩)⟩, ⟨by (with_reducible repeat (first | apply Kd.R_alloc | apply Kd.R_drewN | apply Kd.R_drew)); exact Kd.R_mono HO_9.out (fun _ hk => hk.1)⟩, ⟨by (with_reducible repeat (first | apply Kd.R_alloc | apply Kd.R_drewN | apply Kd.R_drew)); exact Kd.R_mono HO_11.out (fun _ hk => hk.1)⟩, ⟨by repeat (first | (with_reducible first | exact HB.out | apply below_alloc | apply pw_below_drewN | apply below_drew1) | exact HB.out)⟩⟩
                                case round =>
                                  clear H'
                                  try clear c1
                                  try clear c2
                                  try clear p2
                                  try clear c3
                                  try clear p3
                                  try clear q3
                                  try clear hx3
                                  try clear qi3
                                  try clear c4
                                  try clear c5
                                  try clear c6
                                  try clear p6
                                  try clear c8
                                  try clear c9
                                  try clear c10
                                  try clear c11
                                  try clear c14
                                  try clear c14b0
                                  try clear c14b1
                                  try clear c15
                                  try clear c22
                                  try clear c22b0
                                  try clear c22b1
                                  try clear c23
                                  try clear c23b0
                                  try clear c23b1
                                  try clear c24
                                  try clear c24b0
                                  try clear c24b1
                                  try clear c24b2
                                  try clear c25
                                  try clear c25b0
                                  try clear c25b1
                                  try clear c26
                                  try clear c26b0
                                  try clear c26b1
                                  try clear c26b2
                                  try clear c27
                                  try clear c29
                                  try clear c35
                                  try clear c37
                                  try clear c37b0
                                  try clear c38
                                  try clear c38b0
                                  try clear p38
                                  try clear q38
                                  try clear hx38
                                  try clear qi38
                                  try clear c39
                                  try clear c39b0
                                  try clear p39
                                  try clear q39
                                  try clear hx39
                                  try clear c41
                                  try clear c42
                                  try clear c44
                                  try clear c44b0
                                  try clear c45
                                  try clear c45b0
                                  try clear c46
                                  try clear c46b0
                                  try clear c48
                                  try clear c49
                                  try clear hx386_0
                                  try clear hx388_0
                                  try clear hx393_0
                                  try clear p2
                                  try clear p3
                                  try clear p38
                                  try clear p386
                                  try clear p388
                                  try clear p393
                                  try clear p6
                                  try clear q3
                                  try clear q38
                                  try clear q386
                                  try clear q388
                                  try clear q393
                                  obtain ⟨x109_6, rfl, HA, HK6, HO_7, HO_9, HO_11, HB⟩ := hrel
                                  cases gk with
                                  | zero => exact absurd HA.out (by simp [estoverslaw36_GenerationsYoung.l2])
                                  | succ k6 =>
                                    have H := HA.out
                                    clear HA
                                    simp only [estoverslaw36_GenerationsYoung.l2] at H
                                    by_cases c51 : x109_6 < (l1.length : Int)
                                    · rw [if_pos c51] at H
                                      have c51b0 : decide (x109_6 < (l1.length : Int)) = true := decide_eq_true c51
                                      clear c51
                                      by_cases c52 : 0 ≤ x109_6
                                      · rw [if_pos c52] at H
                                        have c52b0 : decide (0 ≤ x109_6) = true := decide_eq_true c52
                                        clear c52
                                        by_cases c53 : x109_6 < (l1.length : Int)
                                        · rw [if_pos c53] at H
                                          have c53b0 : decide (x109_6 < (l1.length : Int)) = true := decide_eq_true c53
                                          clear c53
                                          replace H := Option.bind_eq_some_iff.mp H
                                          obtain ⟨t399, A540, H⟩ := H
                                          replace H : (if t399 = 3 then (estoverslaw36_GenerationsYoung.l2 k6 t377 t382 x11_5 l1 (l1.length : Int) (wrap64 (x109_6 + 1))) else (some false)) = some r := H
                                          have A54 := Aside0.mk A540
                                          clear A540
                                          by_cases c55 : t399 = 3
                                          · rw [if_pos c55] at H
                                            have c55b0 : (t399 == 3) = true := beq_iff_eq.mpr c55
                                            have c55b1 : (t399 != 3) = false := bne_eq_false_iff_eq.mpr c55
                                            clear c55
                                            have H' := Aside0.mk H
                                            clear H
                                            have p398 : 0 ≤ (x109_6 : Int) := of_decide_eq_true (by first | (with_reducible assumption) | assumption)
                                            have q398 : x109_6 < (l1.length : Int) := of_decide_eq_true (by first | (with_reducible assumption) | assumption)
                                            obtain ⟨ad398, e398, hx398_0⟩ := Kd.at_int HR1.out x109_6 p398 q398
                                            cases e398
                                            replace hx398_0 := (HB.out.cell (World.block_lt_of_cell? w _ hx398_0)).trans hx398_0
                                            replace p398 := eq_true p398
                                            replace q398 := eq_true q398
                                            go_wp2_with (first | ((with_reducible refine gate_callee (f := 19) rfl ?_); refine goesL_ (some 115) rfl rfl Try.func19 (by kernel_rfl) rfl #[.slice Ao20 t377.length co20, .int .i64 (rd l1 x109_6)] rfl (by (try simp only [List.map_toArray, List.map_cons, List.map_nil]); first | done | rfl | (simp only [List.length_drop, List.length_take]; rfl)) ?_; (with_reducible refine (generations_Where.calls _ _ t377 (rd l1 x109_6) t399 _ ?side1 ?side2 A54.out).mono ?_); (case side1 => repeat (first | exact (Kd.S_reads' HO_7.out).2.2 | (with_reducible refine Kd.C_alloc ?_ _) | (with_reducible refine Kd.C_drewN ?_ _) | (with_reducible refine Kd.C_drew ?_))); (case side2 => exact (Kd.S_reads' HO_7.out).2.1); rintro e w56 ⟨rfl, hb⟩; refine ⟨_, rfl, ?_⟩; have n0_ := Aside0.mk (Kd.S_below (by (with_reducible repeat (first | apply Kd.S_alloc | apply Kd.S_drewN | apply Kd.S_drew)); exact HO_7.out) hb); have n1_ := Aside0.mk (Kd.R_below (by (with_reducible repeat (first | apply Kd.R_alloc | apply Kd.R_drewN | apply Kd.R_drew)); exact HO_9.out) hb); have n2_ := Aside0.mk (Kd.R_below (by (with_reducible repeat (first | apply Kd.R_alloc | apply Kd.R_drewN | apply Kd.R_drew)); exact HO_11.out) hb); have n3_ := Aside0.mk (below_step (by repeat (first | (with_reducible first | exact HB.out | apply below_alloc | apply pw_below_drewN | apply below_drew1) | exact HB.out)) hb); clear HO_7; clear HO_9; clear HO_11; clear HB; have HO_7 := n0_; have HO_9 := n1_; have HO_11 := n2_; have HB := n3_; clear n0_ n1_ n2_ n3_; (try clear hb); (try clear hb2); (try clear hk); (try clear hi)))
                                            go_roundg k6
                                            case measure => have := HJ2.out; have := HJ10.out; have := HJ18.out; have := HK4.out; have := HK5.out; have := HK6.out; omega
                                            case rel => exact ⟨(wrap64 (x109_6 + 1)), (by first | rfl | (simp; done) | (simp [*]; done)), H', ⟨by have := HJ2.out; have := HJ10.out; have := HJ18.out; have := HK4.out; have := HK5.out; have := HK6.out; omega⟩, ⟨by (with_reducible repeat (first | apply Kd.S_alloc | apply Kd.S_drewN | apply Kd.S_drew)); exact HO_7.out⟩, ⟨by (with_reducible repeat (first | apply Kd.R_alloc | apply Kd.R_drewN | apply Kd.R_drew)); exact HO_9.out⟩, ⟨by (with_reducible repeat (first | apply Kd.R_alloc | apply Kd.R_drewN | apply Kd.R_drew)); exact HO_11.out⟩, ⟨by repeat (first | (with_reducible first | exact HB.out | apply below_alloc | apply pw_below_drewN | apply below_drew1) | exact HB.out)⟩⟩
                                          · rw [if_neg c55] at H
                                            have c55b0 : (t399 == 3) = false := beq_eq_false_iff_ne.mpr c55
                                            have c55b1 : (t399 != 3) = true := bne_iff_ne.mpr c55
                                            obtain rfl := Option.some.inj H
                                            have p398 : 0 ≤ (x109_6 : Int) := of_decide_eq_true (by first | (with_reducible assumption) | assumption)
                                            have q398 : x109_6 < (l1.length : Int) := of_decide_eq_true (by first | (with_reducible assumption) | assumption)
                                            obtain ⟨ad398, e398, hx398_0⟩ := Kd.at_int HR1.out x109_6 p398 q398
                                            cases e398
                                            replace hx398_0 := (HB.out.cell (World.block_lt_of_cell? w _ hx398_0)).trans hx398_0
                                            replace p398 := eq_true p398
                                            replace q398 := eq_true q398
                                            go_wp2_with (first | ((with_reducible refine gate_callee (f := 19) rfl ?_); refine goesL_ (some 115) rfl rfl Try.func19 (by kernel_rfl) rfl #[.slice Ao20 t377.length co20, .int .i64 (rd l1 x109_6)] rfl (by (try simp only [List.map_toArray, List.map_cons, List.map_nil]); first | done | rfl | (simp only [List.length_drop, List.length_take]; rfl)) ?_; (with_reducible refine (generations_Where.calls _ _ t377 (rd l1 x109_6) t399 _ ?side1 ?side2 A54.out).mono ?_); (case side1 => repeat (first | exact (Kd.S_reads' HO_7.out).2.2 | (with_reducible refine Kd.C_alloc ?_ _) | (with_reducible refine Kd.C_drewN ?_ _) | (with_reducible refine Kd.C_drew ?_))); (case side2 => exact (Kd.S_reads' HO_7.out).2.1); rintro e w57 ⟨rfl, hb⟩; refine ⟨_, rfl, ?_⟩; have n0_ := Aside0.mk (Kd.S_below (by (with_reducible repeat (first | apply Kd.S_alloc | apply Kd.S_drewN | apply Kd.S_drew)); exact HO_7.out) hb); have n1_ := Aside0.mk (Kd.R_below (by (with_reducible repeat (first | apply Kd.R_alloc | apply Kd.R_drewN | apply Kd.R_drew)); exact HO_9.out) hb); have n2_ := Aside0.mk (Kd.R_below (by (with_reducible repeat (first | apply Kd.R_alloc | apply Kd.R_drewN | apply Kd.R_drew)); exact HO_11.out) hb); have n3_ := Aside0.mk (below_step (by repeat (first | (with_reducible first | exact HB.out | apply below_alloc | apply pw_below_drewN | apply below_drew1) | exact HB.out)) hb); clear HO_7; clear HO_9; clear HO_11; clear HB; have HO_7 := n0_; have HO_9 := n1_; have HO_11 := n2_; have HB := n3_; clear n0_ n1_ n2_ n3_; (try clear hb); (try clear hb2); (try clear hk); (try clear hi)))
                                            go_ret
                                            exact ⟨by first | rfl | (simp [errW_none, errW_some] <;> rfl) | (simp [*, errW_none, errW_some] <;> rfl), by repeat (first | (with_reducible first | exact HB.out | apply below_alloc | apply pw_below_drewN | apply below_drew1) | exact HB.out)⟩
                                        · rw [if_neg c53] at H
                                          exact absurd H (by simp)
                                      · rw [if_neg c52] at H
                                        exact absurd H (by simp)
                                    · rw [if_neg c51] at H
                                      have c51b0 : decide (x109_6 < (l1.length : Int)) = false := decide_eq_false c51
                                      clear c51
                                      replace H := Option.bind_eq_some_iff.mp H
                                      obtain ⟨t400, A580, H⟩ := H
                                      replace H : (if t400 = true then ((estoverslaw36_awake.f).bind fun t401 => (some t401)) else (some false)) = some r := H
                                      have A58 := Aside0.mk A580
                                      clear A580
                                      by_cases c59 : t400 = true
                                      · subst c59
                                        have H1 : ((estoverslaw36_awake.f).bind fun t401 => (some t401)) = some r := by rw [if_pos rfl] at H; exact H
                                        clear H
                                        have H := H1
                                        clear H1
                                        replace H := Option.bind_eq_some_iff.mp H
                                        obtain ⟨t401, A600, H⟩ := H
                                        replace H : (some t401) = some r := H
                                        have A60 := Aside0.mk A600
                                        clear A600
                                        obtain rfl := Option.some.inj H
                                        obtain ⟨Ao61, co61, eo61⟩ := Kd.R_slice HO_9.out
                                        subst eo61
                                        obtain ⟨Ao62, co62, eo62⟩ := Kd.R_slice HO_11.out
                                        subst eo62
                                        go_wp2_with (first | ((with_reducible refine gate_callee (f := 18) rfl ?_); refine goesL_ (some 120) rfl rfl Try.func18 (by kernel_rfl) rfl #[.slice Ao61 t382.length co61, .slice Ao62 x11_5.length co62] rfl (by (try simp only [List.map_toArray, List.map_cons, List.map_nil]); first | done | rfl | (simp only [List.length_drop, List.length_take]; rfl)) ?_; (with_reducible refine (slices_Equal_int_int.calls k6 _ _ t382 _ _ x11_5 true _ ?side1 ?side2 ?side3 ?side4 A58.out).mono ?_); (case side1 => repeat (first | exact (Kd.R_reads' HO_9.out).2.2 | (with_reducible refine Kd.C_alloc ?_ _) | (with_reducible refine Kd.C_drewN ?_ _) | (with_reducible refine Kd.C_drew ?_))); (case side2 => exact (Kd.R_reads' HO_9.out).2.1); (case side3 => repeat (first | exact (Kd.R_reads' HO_11.out).2.2 | (with_reducible refine Kd.C_alloc ?_ _) | (with_reducible refine Kd.C_drewN ?_ _) | (with_reducible refine Kd.C_drew ?_))); (case side4 => exact (Kd.R_reads' HO_11.out).2.1); rintro e w' ⟨rfl, ⟨nd, rfl⟩⟩; refine ⟨_, rfl, ?_⟩) | (go_at_call 10; (with_reducible refine (estoverslaw36_awake.calls  t401 _ A60.out).mono ?_); rintro e w63 ⟨rfl, hb⟩; have n0_ := Aside0.mk (Kd.S_below (by (with_reducible repeat (first | apply Kd.S_alloc | apply Kd.S_drewN | apply Kd.S_drew)); exact HO_7.out) hb); have n1_ := Aside0.mk (Kd.R_below (by (with_reducible repeat (first | apply Kd.R_alloc | apply Kd.R_drewN | apply Kd.R_drew)); exact HO_9.out) hb); have n2_ := Aside0.mk (Kd.R_below (by (with_reducible repeat (first | apply Kd.R_alloc | apply Kd.R_drewN | apply Kd.R_drew)); exact HO_11.out) hb); have n3_ := Aside0.mk (below_step (by repeat (first | (with_reducible first | exact HB.out | apply below_alloc | apply pw_below_drewN | apply below_drew1) | exact HB.out)) hb); clear HO_7; clear HO_9; clear HO_11; clear HB; have HO_7 := n0_; have HO_9 := n1_; have HO_11 := n2_; have HB := n3_; clear n0_ n1_ n2_ n3_; (try clear hb); (try clear hb2); (try clear hk); (try clear hi)))
                                        go_ret
                                        exact ⟨by first | rfl | (simp [errW_none, errW_some] <;> rfl) | (simp [*, errW_none, errW_some] <;> rfl), by repeat (first | (with_reducible first | exact HB.out | apply below_alloc | apply pw_below_drewN | apply below_drew1) | exact HB.out)⟩
                                      · replace c59 := Bool.eq_false_iff.mpr c59
                                        subst c59
                                        have H1 : (some false) = some r := by rw [if_neg (show ¬ (false = true) by decide)] at H; exact H
                                        clear H
                                        have H := H1
                                        clear H1
                                        obtain rfl := Option.some.inj H
                                        obtain ⟨Ao64, co64, eo64⟩ := Kd.R_slice HO_9.out
                                        subst eo64
                                        obtain ⟨Ao65, co65, eo65⟩ := Kd.R_slice HO_11.out
                                        subst eo65
                                        go_wp2_with (first | ((with_reducible refine gate_callee (f := 18) rfl ?_); refine goesL_ (some 120) rfl rfl Try.func18 (by kernel_rfl) rfl #[.slice Ao64 t382.length co64, .slice Ao65 x11_5.length co65] rfl (by (try simp only [List.map_toArray, List.map_cons, List.map_nil]); first | done | rfl | (simp only [List.length_drop, List.length_take]; rfl)) ?_; (with_reducible refine (slices_Equal_int_int.calls k6 _ _ t382 _ _ x11_5 false _ ?side1 ?side2 ?side3 ?side4 A58.out).mono ?_); (case side1 => repeat (first | exact (Kd.R_reads' HO_9.out).2.2 | (with_reducible refine Kd.C_alloc ?_ _) | (with_reducible refine Kd.C_drewN ?_ _) | (with_reducible refine Kd.C_drew ?_))); (case side2 => exact (Kd.R_reads' HO_9.out).2.1); (case side3 => repeat (first | exact (Kd.R_reads' HO_11.out).2.2 | (with_reducible refine Kd.C_alloc ?_ _) | (with_reducible refine Kd.C_drewN ?_ _) | (with_reducible refine Kd.C_drew ?_))); (case side4 => exact (Kd.R_reads' HO_11.out).2.1); rintro e w' ⟨rfl, ⟨nd, rfl⟩⟩; refine ⟨_, rfl, ?_⟩))
                                        go_ret
                                        exact ⟨by first | rfl | (simp [errW_none, errW_some] <;> rfl) | (simp [*, errW_none, errW_some] <;> rfl), by repeat (first | (with_reducible first | exact HB.out | apply below_alloc | apply pw_below_drewN | apply below_drew1) | exact HB.out)⟩

end Go.Proofs.Ytikdcoahoocpjaa.Q
