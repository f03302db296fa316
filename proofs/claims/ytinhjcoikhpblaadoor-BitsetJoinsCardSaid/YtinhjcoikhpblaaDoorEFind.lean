/-
  The contract of math/bits.TrailingZeros64: the number of zeros below the lowest one (64 of 0). Conditions: the number is a uint64; the world's table deBruijn64tab holds its numbers.
-/
import Derived.Test.YtinhjcoikhpblaaDoorQ0
import Derived.Lib.TrailingZeros
import Derived.Laws.Bits64b
namespace Go.Proofs.YtinhjcoikhpblaaDoor.Q
open Go.RowKit Go.Proofs.YtinhjcoikhpblaaDoorW.PrintWords Go.Proofs.YtinhjcoikhpblaaDoorW.PrintLast Go.Proofs.YtinhjcoikhpblaaDoorW.PrintMore
set_option linter.unusedVariables false
set_option linter.unusedSimpArgs false

/-- The table of math/bits lies in block 0. -/
structure TabW (w : World) : Prop where
  out : ∀ j, j < 64 → w.cell? ⟨0, j, none⟩ = some (.int .u8 (Lib.deBruijn64tab.getD j 0))
theorem TabW.below {w w' : World} (h : TabW w) (hb : Below w.heap.size w w') : TabW w' :=
  ⟨fun j hj => (hb.cell (World.block_lt_of_cell? w _ (h.out j hj))).trans (h.out j hj)⟩

def bits_TrailingZeros64.f (x : Int) : Option Int := if 0 ≤ x ∧ x < 18446744073709551616 then some (Lib.ctz 64 x.toNat : Nat) else none

theorem tz_key (x a : Nat) (hx : x < 18446744073709551616) (hx0 : x ≠ 0) (hlow : x &&& (18446744073709551616 - x) = a) :
    IntKind.u64.wrap (bits BinOp.and IntKind.u64 (x : Int) (IntKind.u64.wrap (-(x : Int))) * 285870213051353865) / 288230376151711744 = ((a * 285870213051353865 % 18446744073709551616 / 288230376151711744 : Nat) : Int) := by
  have e1 : IntKind.u64.wrap (-(x : Int)) = ((18446744073709551616 - x : Nat) : Int) := by rw [IntKind.wrap_u64]; omega
  rw [e1, bits_and_u64_nat x _ hx (by omega), hlow, IntKind.wrap_u64]
  omega
theorem tz_core (x k idx : Nat) (w : World) (hx0 : ((x : Int) == 0) = false)
    (key : IntKind.u64.wrap (bits BinOp.and IntKind.u64 (x : Int) (IntKind.u64.wrap (-(x : Int))) * 285870213051353865) / 288230376151711744 = (idx : Int))
    (hi : idx < 64) (hk : k < 64) (hcell : w.cell? ⟨0, idx, none⟩ = some (.int .u8 k)) :
    Calls Tryd.prog 40 #[.int .u64 x] w fun e w' => e = .returned (.int .i64 k) ∧ w' = w := by
  have hu54 := Tryd.underlying54
  go_enter Tryd.func40, Tryd.ntmps40
  go_wp2_with (simp only [key])
  go_ret
  exact ⟨rfl, rfl⟩
theorem tz_zero (w : World) : Calls Tryd.prog 40 #[.int .u64 0] w fun e w' => e = .returned (.int .i64 64) ∧ w' = w := by
  go_enter Tryd.func40, Tryd.ntmps40
  go_wp2
  go_ret
  exact ⟨rfl, rfl⟩
theorem bits_TrailingZeros64.calls (x : Int) (r : Int) (w : World) (h : bits_TrailingZeros64.f x = some r) (HT : TabW w) :
    Calls Tryd.prog 40 #[.int .u64 x] w fun e w' => e = .returned (.int .i64 r) ∧ ∃ nd, w' = w.drewN nd := by
  unfold bits_TrailingZeros64.f at h
  split at h
  · rename_i hx
    obtain rfl := Option.some.inj h
    obtain ⟨x, rfl⟩ : ∃ n : Nat, x = n := ⟨x.toNat, by omega⟩
    have hx1 : x < 18446744073709551616 := by omega
    rw [Int.toNat_natCast]
    by_cases hx0 : x = 0
    · subst hx0
      exact (tz_zero w).mono fun e w' ⟨he, hw⟩ => ⟨he, 0, hw⟩
    · obtain ⟨hlow, hk⟩ := Lib.lowest_bit 64 x hx0 hx1
      obtain ⟨hi, htab⟩ := Lib.deBruijn64_at _ hk
      have hcell := HT.out _ hi
      rw [htab] at hcell
      exact (tz_core x _ _ w (by simp; omega) (tz_key x _ hx1 hx0 hlow) hi hk hcell).mono fun e w' ⟨he, hw⟩ => ⟨he, 0, hw⟩
  · cases h
end Go.Proofs.YtinhjcoikhpblaaDoor.Q
