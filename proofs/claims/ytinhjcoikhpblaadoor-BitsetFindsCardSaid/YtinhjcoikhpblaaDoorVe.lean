/-
  math/bits.OnesCount64 counts the ones of a word; bitset.Count counts those of a range. Conditions: the words are from 0 to 2^64 - 1.
-/
import Derived.Test.YtinhjcoikhpblaaDoorVb
namespace Go.Proofs.YtinhjcoikhpblaaDoor.V
open Go.Proofs.YtinhjcoikhpblaaDoor.Q
open Go.RowKit Go.Proofs.YtinhjcoikhpblaaDoorW.PrintWords Go.Proofs.YtinhjcoikhpblaaDoorW.PrintLast Go.Proofs.YtinhjcoikhpblaaDoorW.PrintMore
set_option linter.unusedVariables false

/-- The ones among the n lowest bits. -/
def popF : Nat → Nat → Nat
  | 0, _ => 0
  | n + 1, x => x % 2 + popF n (x / 2)
theorem popF_add (n : Nat) : ∀ m x, popF (m + n) x = popF m (x % 2 ^ m) + popF n (x / 2 ^ m)
  | 0, x => by simp [popF]
  | m + 1, x => by
    rw [show m + 1 + n = (m + n) + 1 by omega]
    simp only [popF]
    have h1 : x % 2 ^ (m + 1) % 2 = x % 2 := Nat.mod_mod_of_dvd _ ⟨2 ^ m, by rw [Nat.pow_succ]; omega⟩
    have h2 : x % 2 ^ (m + 1) / 2 = x / 2 % 2 ^ m := by rw [Nat.pow_succ, Nat.mul_comm, Nat.mod_mul_right_div_self]
    have h3 : x / 2 ^ (m + 1) = x / 2 / 2 ^ m := by rw [Nat.div_div_eq_div_mul, Nat.pow_succ, Nat.mul_comm]
    rw [popF_add n m (x / 2), h1, h2, h3]
    omega
theorem popF_byte (n x : Nat) : popF (n + 8) x = popF 8 (x % 256) + popF n (x / 256) := by
  rw [Nat.add_comm n 8]
  exact popF_add n 8 x
theorem and_byte (x y : Nat) : x &&& y = (x % 256 &&& y % 256) + 256 * (x / 256 &&& y / 256) := by
  have h1 := Nat.and_mod_two_pow (a := x) (b := y) (n := 8)
  have h2 := Nat.and_div_two_pow (a := x) (b := y) (n := 8)
  simp only [Nat.reducePow] at h1 h2
  omega
def rep (b : Nat) : Nat → Nat
  | 0 => 0
  | n + 1 => b + 256 * rep b n
def s1 (n x : Nat) : Nat := (x / 2 &&& rep 0x55 n) + (x &&& rep 0x55 n)
def s2 (n x : Nat) : Nat := (x / 4 &&& rep 0x33 n) + (x &&& rep 0x33 n)
def s3 (n x : Nat) : Nat := (x / 16 + x) &&& rep 0x0f n
theorem d1 : ∀ b, b < 256 → ∀ t, t < 2 → (b / 2 + 128 * t) &&& 0x55 = b / 2 &&& 0x55 := by decide +kernel
theorem d2 : ∀ b, b < 256 → ∀ t, t < 4 → (b / 4 + 64 * t) &&& 0x33 = b / 4 &&& 0x33 := by decide +kernel
theorem d1b : ∀ b, b < 256 → (b / 2 &&& 0x55) + (b &&& 0x55) < 256 := by decide +kernel
theorem d2b : ∀ b, b < 256 → (fun c => ((c / 4 &&& 0x33) + (c &&& 0x33)) % 16 ≤ 4 ∧ ((c / 4 &&& 0x33) + (c &&& 0x33)) / 16 ≤ 4) ((b / 2 &&& 0x55) + (b &&& 0x55)) := by decide +kernel
theorem d3 : ∀ h, h ≤ 4 → ∀ l, l ≤ 4 → ∀ t, t ≤ 4 → (h + (l + 16 * h) + 16 * t) &&& 0x0f = (h + (l + 16 * h)) &&& 0x0f := by decide +kernel
theorem d3b : ∀ b, b < 256 → (fun c => (fun d => (d / 16 + d) &&& 0x0f) ((c / 4 &&& 0x33) + (c &&& 0x33))) ((b / 2 &&& 0x55) + (b &&& 0x55)) = popF 8 b := by decide +kernel
theorem popF8_le : ∀ b, b < 256 → popF 8 b ≤ 8 := by decide +kernel
theorem s1_step (n x : Nat) : s1 (n + 1) x = ((x % 256 / 2 &&& 0x55) + (x % 256 &&& 0x55)) + 256 * s1 n (x / 256) := by
  unfold s1
  rw [and_byte (x / 2), and_byte x]
  simp only [rep]
  rw [show (0x55 + 256 * rep 0x55 n) % 256 = 0x55 by omega, show (0x55 + 256 * rep 0x55 n) / 256 = rep 0x55 n by omega, show x / 2 % 256 = x % 256 / 2 + 128 * (x / 256 % 2) by omega, d1 _ (by omega) _ (by omega), show x / 2 / 256 = x / 256 / 2 by omega]
  omega
theorem s2_step (n x : Nat) : s2 (n + 1) x = ((x % 256 / 4 &&& 0x33) + (x % 256 &&& 0x33)) + 256 * s2 n (x / 256) := by
  unfold s2
  rw [and_byte (x / 4), and_byte x]
  simp only [rep]
  rw [show (0x33 + 256 * rep 0x33 n) % 256 = 0x33 by omega, show (0x33 + 256 * rep 0x33 n) / 256 = rep 0x33 n by omega, show x / 4 % 256 = x % 256 / 4 + 64 * (x / 256 % 4) by omega, d2 _ (by omega) _ (by omega), show x / 4 / 256 = x / 256 / 4 by omega]
  omega
/-- The value of bytes, the lowest first. -/
def bytes : List Nat → Nat
  | [] => 0
  | b :: l => b + 256 * bytes l
/-- The ones of each byte. -/
def pops : Nat → Nat → List Nat
  | 0, _ => []
  | n + 1, x => popF 8 (x % 256) :: pops n (x / 256)
theorem nib : ∀ n x, (s2 n (s1 n x)) % 16 ≤ 4
  | 0, x => by simp [s2, rep]
  | n + 1, x => by
    have h1 := d1b (x % 256) (by omega)
    have h2 := (d2b (x % 256) (by omega)).1
    rw [s1_step]
    generalize hb : (x % 256 / 2 &&& 0x55) + (x % 256 &&& 0x55) = b at *
    rw [s2_step, show (b + 256 * s1 n (x / 256)) % 256 = b by omega, show (b + 256 * s1 n (x / 256)) / 256 = s1 n (x / 256) by omega]
    try dsimp only at h2
    generalize (b / 4 &&& 0x33) + (b &&& 0x33) = c at *
    omega
theorem s3_pops : ∀ n x, s3 n (s2 n (s1 n x)) = bytes (pops n x)
  | 0, x => by simp [s3, rep, bytes, pops]
  | n + 1, x => by
    have h1 := d1b (x % 256) (by omega)
    have h2 := d2b (x % 256) (by omega)
    have h3 := d3b (x % 256) (by omega)
    have h4 := nib n (x / 256)
    have ih := s3_pops n (x / 256)
    rw [s1_step]
    generalize hb : (x % 256 / 2 &&& 0x55) + (x % 256 &&& 0x55) = b at *
    rw [s2_step, show (b + 256 * s1 n (x / 256)) % 256 = b by omega, show (b + 256 * s1 n (x / 256)) / 256 = s1 n (x / 256) by omega]
    try dsimp only at h2 h3
    obtain ⟨h5, h6⟩ := h2
    generalize (b / 4 &&& 0x33) + (b &&& 0x33) = c at *
    generalize s2 n (s1 n (x / 256)) = z at *
    unfold s3 at ih ⊢
    rw [and_byte]
    simp only [rep, pops, bytes]
    rw [show (0x0f + 256 * rep 0x0f n) % 256 = 0x0f by omega, show (0x0f + 256 * rep 0x0f n) / 256 = rep 0x0f n by omega,
      show ((c + 256 * z) / 16 + (c + 256 * z)) % 256 = c / 16 + (c % 16 + 16 * (c / 16)) + 16 * (z % 16) by omega,
      show ((c + 256 * z) / 16 + (c + 256 * z)) / 256 = z / 16 + z by omega, d3 _ h6 _ h5 _ h4, ih, ← h3]
    rw [show c / 16 + (c % 16 + 16 * (c / 16)) = c / 16 + c by omega]
theorem popF64 (x : Nat) : popF 64 x = (pops 8 x).sum := by
  have a0 : popF 64 x = _ := popF_byte 56 x
  have a1 : popF 56 (x / 256) = _ := popF_byte 48 _
  have a2 : popF 48 (x / 256 / 256) = _ := popF_byte 40 _
  have a3 : popF 40 (x / 256 / 256 / 256) = _ := popF_byte 32 _
  have a4 : popF 32 (x / 256 / 256 / 256 / 256) = _ := popF_byte 24 _
  have a5 : popF 24 (x / 256 / 256 / 256 / 256 / 256) = _ := popF_byte 16 _
  have a6 : popF 16 (x / 256 / 256 / 256 / 256 / 256 / 256) = _ := popF_byte 8 _
  have a7 : popF 8 (x / 256 / 256 / 256 / 256 / 256 / 256 / 256) = _ := popF_byte 0 _
  rw [a0, a1, a2, a3, a4, a5, a6, a7]
  simp only [pops, List.sum_cons, List.sum_nil, popF]
theorem dv {p R : Nat} (h : p < 256) : (p + 256 * R) / 256 = R := by omega
theorem fold (p0 p1 p2 p3 p4 p5 p6 p7 : Nat) (h0 : p0 ≤ 8) (h1 : p1 ≤ 8) (h2 : p2 ≤ 8) (h3 : p3 ≤ 8) (h4 : p4 ≤ 8) (h5 : p5 ≤ 8) (h6 : p6 ≤ 8) (h7 : p7 ≤ 8) (v a b c : Nat)
    (hv : v = bytes [p0, p1, p2, p3, p4, p5, p6, p7]) (ha : a = v + v / 256) (hb : b = a + a / 65536) (hc : c = b + b / 4294967296) : c % 128 = p0 + p1 + p2 + p3 + p4 + p5 + p6 + p7 ∧ c < 9223372036854775808 ∧ b < 18446744073709551616 ∧ a < 18446744073709551616 ∧ v < 18446744073709551616 := by
  have e1 : v / 256 = bytes [p1, p2, p3, p4, p5, p6, p7] := by rw [hv]; exact dv (by omega)
  have a1 : a = bytes [p0 + p1, p1 + p2, p2 + p3, p3 + p4, p4 + p5, p5 + p6, p6 + p7, p7] := by
    rw [ha, e1, hv]; simp only [bytes]; omega
  have e2 : a / 65536 = bytes [p2 + p3, p3 + p4, p4 + p5, p5 + p6, p6 + p7, p7] := by
    rw [show a / 65536 = a / 256 / 256 by rw [Nat.div_div_eq_div_mul], a1]
    rw [show bytes [p0 + p1, p1 + p2, p2 + p3, p3 + p4, p4 + p5, p5 + p6, p6 + p7, p7] / 256 = bytes [p1 + p2, p2 + p3, p3 + p4, p4 + p5, p5 + p6, p6 + p7, p7] from dv (by omega)]
    exact dv (by omega)
  have b1 : b = bytes [p0 + p1 + p2 + p3, p1 + p2 + p3 + p4, p2 + p3 + p4 + p5, p3 + p4 + p5 + p6, p4 + p5 + p6 + p7, p5 + p6 + p7, p6 + p7, p7] := by
    rw [hb, e2, a1]; simp only [bytes]; omega
  have e3 : b / 4294967296 = bytes [p4 + p5 + p6 + p7, p5 + p6 + p7, p6 + p7, p7] := by
    rw [show b / 4294967296 = b / 256 / 256 / 256 / 256 by rw [Nat.div_div_eq_div_mul, Nat.div_div_eq_div_mul, Nat.div_div_eq_div_mul], b1]
    rw [show bytes [p0 + p1 + p2 + p3, p1 + p2 + p3 + p4, p2 + p3 + p4 + p5, p3 + p4 + p5 + p6, p4 + p5 + p6 + p7, p5 + p6 + p7, p6 + p7, p7] / 256 = bytes [p1 + p2 + p3 + p4, p2 + p3 + p4 + p5, p3 + p4 + p5 + p6, p4 + p5 + p6 + p7, p5 + p6 + p7, p6 + p7, p7] from dv (by omega)]
    rw [show bytes [p1 + p2 + p3 + p4, p2 + p3 + p4 + p5, p3 + p4 + p5 + p6, p4 + p5 + p6 + p7, p5 + p6 + p7, p6 + p7, p7] / 256 = bytes [p2 + p3 + p4 + p5, p3 + p4 + p5 + p6, p4 + p5 + p6 + p7, p5 + p6 + p7, p6 + p7, p7] from dv (by omega)]
    rw [show bytes [p2 + p3 + p4 + p5, p3 + p4 + p5 + p6, p4 + p5 + p6 + p7, p5 + p6 + p7, p6 + p7, p7] / 256 = bytes [p3 + p4 + p5 + p6, p4 + p5 + p6 + p7, p5 + p6 + p7, p6 + p7, p7] from dv (by omega)]
    exact dv (by omega)
  have c1 : c = (p0 + p1 + p2 + p3 + p4 + p5 + p6 + p7) + 256 * bytes [p1 + p2 + p3 + p4 + p5 + p6 + p7, p2 + p3 + p4 + p5 + p6 + p7, p3 + p4 + p5 + p6 + p7, p4 + p5 + p6 + p7, p5 + p6 + p7, p6 + p7, p7] := by
    rw [hc, e3, b1]; simp only [bytes]; omega
  have c2 : bytes [p1 + p2 + p3 + p4 + p5 + p6 + p7, p2 + p3 + p4 + p5 + p6 + p7, p3 + p4 + p5 + p6 + p7, p4 + p5 + p6 + p7, p5 + p6 + p7, p6 + p7, p7] < 36028797018963968 := by simp only [bytes]; omega
  have hbc : b ≤ c := by rw [hc]; exact Nat.le_add_right _ _
  have hab : a ≤ b := by rw [hb]; exact Nat.le_add_right _ _
  have hva : v ≤ a := by rw [ha]; exact Nat.le_add_right _ _
  clear e1 e2 e3 a1 b1 hv ha hb hc
  refine ⟨by omega, by omega, by omega, by omega, by omega⟩
theorem u64_nat (n : Nat) (h : n < 18446744073709551616) : IntKind.u64.wrap (n : Int) = n := by rw [IntKind.wrap_u64]; omega
theorem ones_some {x : Int} (hx : u64 x) : bits_OnesCount64.f x = some ((popF 64 x.toNat : Nat) : Int) := by
  obtain ⟨n, rfl⟩ : ∃ n : Nat, x = n := ⟨x.toNat, by have := hx.1; omega⟩
  have hn : n < 18446744073709551616 := by have := hx.2; omega
  rw [Int.toNat_natCast, popF64]
  have m0 : rep 0x55 8 = 6148914691236517205 := by decide
  have m1 : rep 0x33 8 = 3689348814741910323 := by decide
  have m2 : rep 0x0f 8 = 1085102592571150095 := by decide
  have k1 : s1 8 n ≤ 12297829382473034410 := by
    unfold s1; rw [m0]
    have := @Nat.and_le_right (n / 2) 6148914691236517205
    have := @Nat.and_le_right n 6148914691236517205
    omega
  have f1 : IntKind.u64.wrap ((Go.bits .and .u64 ((n : Int) / 2) 6148914691236517205) + (Go.bits .and .u64 (n : Int) 6148914691236517205)) = ((s1 8 n : Nat) : Int) := by
    have e1 := bits_and_u64_nat (n / 2) 6148914691236517205 (by omega) (by omega)
    have e2 := bits_and_u64_nat n 6148914691236517205 (by omega) (by omega)
    rw [show ((n / 2 : Nat) : Int) = (n : Int) / 2 by omega, show ((6148914691236517205 : Nat) : Int) = 6148914691236517205 from rfl] at e1
    rw [show ((6148914691236517205 : Nat) : Int) = 6148914691236517205 from rfl] at e2
    rw [e1, e2, ← u64_nat (s1 8 n) (by omega)]
    unfold s1
    rw [m0]
    rfl
  have hs := s3_pops 8 n
  unfold bits_OnesCount64.f
  rw [f1]
  clear f1
  generalize s1 8 n = y at *
  have k2 : s2 8 y ≤ 7378697629483820646 := by
    unfold s2; rw [m1]
    have := @Nat.and_le_right (y / 4) 3689348814741910323
    have := @Nat.and_le_right y 3689348814741910323
    omega
  have f2 : IntKind.u64.wrap ((Go.bits .and .u64 ((y : Int) / 4) 3689348814741910323) + (Go.bits .and .u64 (y : Int) 3689348814741910323)) = ((s2 8 y : Nat) : Int) := by
    have e1 := bits_and_u64_nat (y / 4) 3689348814741910323 (by omega) (by omega)
    have e2 := bits_and_u64_nat y 3689348814741910323 (by omega) (by omega)
    rw [show ((y / 4 : Nat) : Int) = (y : Int) / 4 by omega, show ((3689348814741910323 : Nat) : Int) = 3689348814741910323 from rfl] at e1
    rw [show ((3689348814741910323 : Nat) : Int) = 3689348814741910323 from rfl] at e2
    rw [e1, e2, ← u64_nat (s2 8 y) (by omega)]
    unfold s2
    rw [m1]
    rfl
  rw [f2]
  clear f2
  generalize s2 8 y = z at *
  have f3 : IntKind.u64.wrap ((z : Int) / 16 + (z : Int)) = ((z / 16 + z : Nat) : Int) := by rw [← u64_nat (z / 16 + z) (by omega)]; congr 1
  have f4 : Go.bits .and .u64 ((z / 16 + z : Nat) : Int) 1085102592571150095 = ((s3 8 z : Nat) : Int) := by
    have := bits_and_u64_nat (z / 16 + z) 1085102592571150095 (by omega) (by omega)
    unfold s3
    rw [m2]
    exact this
  rw [f3, f4, hs]
  clear f3 f4 hs m0 m1 m2
  have hp : ∀ x, popF 8 (x % 256) ≤ 8 := fun x => popF8_le _ (Nat.mod_lt _ (by omega))
  simp only [pops, List.sum_cons, List.sum_nil]
  have p0 := hp n
  have p1 := hp (n / 256)
  have p2 := hp (n / 256 / 256)
  have p3 := hp (n / 256 / 256 / 256)
  have p4 := hp (n / 256 / 256 / 256 / 256)
  have p5 := hp (n / 256 / 256 / 256 / 256 / 256)
  have p6 := hp (n / 256 / 256 / 256 / 256 / 256 / 256)
  have p7 := hp (n / 256 / 256 / 256 / 256 / 256 / 256 / 256)
  generalize popF 8 (n % 256) = q0 at *
  generalize popF 8 (n / 256 % 256) = q1 at *
  generalize popF 8 (n / 256 / 256 % 256) = q2 at *
  generalize popF 8 (n / 256 / 256 / 256 % 256) = q3 at *
  generalize popF 8 (n / 256 / 256 / 256 / 256 % 256) = q4 at *
  generalize popF 8 (n / 256 / 256 / 256 / 256 / 256 % 256) = q5 at *
  generalize popF 8 (n / 256 / 256 / 256 / 256 / 256 / 256 % 256) = q6 at *
  generalize popF 8 (n / 256 / 256 / 256 / 256 / 256 / 256 / 256 % 256) = q7 at *
  generalize hv : bytes [q0, q1, q2, q3, q4, q5, q6, q7] = v
  obtain ⟨g1, g2, g3, g4, g5⟩ := fold q0 q1 q2 q3 q4 q5 q6 q7 p0 p1 p2 p3 p4 p5 p6 p7 v _ _ _ hv.symm rfl rfl rfl
  clear hp hv
  have e1 : IntKind.u64.wrap ((v : Int) + (v : Int) / 256) = ((v + v / 256 : Nat) : Int) := by rw [← u64_nat (v + v / 256) g4]; congr 1
  rw [e1]
  generalize v + v / 256 = a at *
  have e2 : IntKind.u64.wrap ((a : Int) + (a : Int) / 65536) = ((a + a / 65536 : Nat) : Int) := by rw [← u64_nat (a + a / 65536) g3]; congr 1
  rw [e2]
  generalize a + a / 65536 = b at *
  have e3 : IntKind.u64.wrap ((b : Int) + (b : Int) / 4294967296) = ((b + b / 4294967296 : Nat) : Int) := by rw [← u64_nat (b + b / 4294967296) (by omega)]; congr 1
  rw [e3]
  generalize b + b / 4294967296 = c at *
  rw [w64 (by omega)]
  have e4 := bits_mask .i64 63 (by decide) (fun n h0 h1 => by rw [i64_w]; exact w64 (by omega)) 7 (by decide) (c : Int) (by omega) (by omega)
  rw [show (2 : Int) ^ 7 - 1 = 127 by decide] at e4
  rw [e4]
  congr 1
  omega
end Go.Proofs.YtinhjcoikhpblaaDoor.V
