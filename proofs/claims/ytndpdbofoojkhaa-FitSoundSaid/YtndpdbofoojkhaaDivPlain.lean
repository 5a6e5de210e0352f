/- Two digits over a number, digit by digit: plain arithmetic. -/
import Derived.Lib.BitFns
import Derived.Lib.ItoaNum
namespace Go.Proofs.Ytndpdbofoojkhaa.Div

theorem norm (y : Nat) (h0 : 0 < y) (hy : y < 9223372036854775808) :
    ∃ s, Lib.bitLen y + s = 64 ∧ 1 ≤ s ∧ s ≤ 63 ∧ 9223372036854775808 ≤ y * 2 ^ s ∧ y * 2 ^ s < 18446744073709551616 := by
  obtain ⟨h1, h2, h3⟩ := Lib.bitLenAux_bounds 64 y (by omega) (by omega)
  have h4 : Lib.bitLen y ≤ 63 := Lib.bitLen_le y 63 (by omega) (by omega)
  change 1 ≤ Lib.bitLen y at h1
  change 2 ^ (Lib.bitLen y - 1) ≤ y at h2
  change y < 2 ^ Lib.bitLen y at h3
  refine ⟨64 - Lib.bitLen y, by omega, by omega, by omega, ?_, ?_⟩
  · have := Nat.mul_le_mul_right (2 ^ (64 - Lib.bitLen y)) h2
    rw [← Nat.pow_add, show Lib.bitLen y - 1 + (64 - Lib.bitLen y) = 63 from by omega] at this
    exact this
  · have := Nat.mul_lt_mul_of_pos_right h3 (show 0 < 2 ^ (64 - Lib.bitLen y) from Nat.pow_pos (by omega))
    rw [← Nat.pow_add, show Lib.bitLen y + (64 - Lib.bitLen y) = 64 from by omega] at this
    exact this

theorem pow_split {s : Nat} (h : s ≤ 63) : 2 ^ (64 - s) * 2 ^ s = 18446744073709551616 := by
  rw [← Nat.pow_add, show 64 - s + s = 64 from by omega]
/-- The dividend, as much moved as the divisor. -/
theorem moved (h l P R : Nat) (hR : R * P = 18446744073709551616) :
    (h * 18446744073709551616 + l) * P = (h * P + l / R) * 18446744073709551616 + l * P % 18446744073709551616 ∧ l * P % 18446744073709551616 = l % R * P := by
  have hRp : 0 < R := Nat.pos_of_ne_zero fun e => by rw [e, Nat.zero_mul] at hR; omega
  have hP : 0 < P := Nat.pos_of_ne_zero fun e => by rw [e, Nat.mul_zero] at hR; omega
  have e1 : l * P = (l / R) * 18446744073709551616 + l % R * P := by
    rw [← hR, ← Nat.mul_assoc, ← Nat.add_mul, Nat.mul_comm (l / R) R, Nat.div_add_mod]
  have h2 : l % R * P < 18446744073709551616 := by
    rw [← hR]; exact Nat.mul_lt_mul_of_pos_right (Nat.mod_lt _ hRp) hP
  have e2 : l * P % 18446744073709551616 = l % R * P := by omega
  refine ⟨?_, e2⟩
  rw [e2, Nat.add_mul, e1, Nat.add_mul, Nat.mul_right_comm]
  omega
theorem moved_lt (h l y P R : Nat) (hR : R * P = 18446744073709551616) (hh : h < y) (hl : l < 18446744073709551616) : h * P + l / R < y * P ∧ l / R < P := by
  have hRp : 0 < R := Nat.pos_of_ne_zero fun e => by rw [e, Nat.zero_mul] at hR; omega
  have h1 : l / R < P := by rw [Nat.div_lt_iff_lt_mul hRp, Nat.mul_comm, hR]; exact hl
  have h2 : (h + 1) * P ≤ y * P := Nat.mul_le_mul_right _ hh
  rw [Nat.add_mul] at h2
  omega
theorem or_add (a b s : Nat) (h : b < 2 ^ s) : a * 2 ^ s ||| b = a * 2 ^ s + b := by
  rw [← Nat.shiftLeft_eq, Nat.shiftLeft_add_eq_or_of_lt h]

/-- One digit: q is its guess from above. -/
theorem guess_test {q r U D1 D0 u : Nat} (hr : q * D1 + r = U) : (4294967296 * r + u < q * D0) ↔ (U * 4294967296 + u < q * (D1 * 4294967296 + D0)) := by
  have e : q * (D1 * 4294967296 + D0) = q * D1 * 4294967296 + q * D0 := by rw [Nat.mul_add, Nat.mul_assoc]
  rw [e, ← hr, Nat.add_mul]
  omega
theorem guess_stop {q r U D1 D0 u : Nat} (hr : q * D1 + r = U) (h1 : 4294967296 ≤ r) (hq : q ≤ 4294967296) (h0 : D0 < 4294967296) : ¬ (U * 4294967296 + u < q * (D1 * 4294967296 + D0)) := by
  rw [← guess_test hr]
  have := Nat.mul_le_mul hq (show D0 ≤ 4294967295 by omega)
  omega
theorem above_of {q X D : Nat} (hD : 0 < D) : X < q * D ↔ X / D < q := (Nat.div_lt_iff_lt_mul hD).symm
theorem guess_hi {U D1 D0 : Nat} (hD : 2147483648 ≤ D1) (h0 : D0 < 4294967296) (hU : U < D1 * 4294967296 + D0) : U / D1 ≤ 4294967297 := by
  have : U / D1 < 4294967298 := by
    rw [Nat.div_lt_iff_lt_mul (by omega)]
    omega
  omega
/-- The guess is not below the digit. -/
theorem guess_ge {U D1 D0 u : Nat} (hD : 0 < D1) (hu : u < 4294967296) : (U * 4294967296 + u) / (D1 * 4294967296 + D0) ≤ U / D1 := by
  have h1 : (U * 4294967296 + u) / (D1 * 4294967296 + D0) ≤ (U * 4294967296 + u) / (4294967296 * D1) := Nat.div_le_div_left (by omega) (by omega)
  rw [← Nat.div_div_eq_div_mul] at h1
  rwa [show (U * 4294967296 + u) / 4294967296 = U by omega] at h1
theorem digit_lt {U D u : Nat} (h : U < D) (hu : u < 4294967296) : (U * 4294967296 + u) / D < 4294967296 := by
  rw [Nat.div_lt_iff_lt_mul (by omega)]
  have : (U + 1) * 4294967296 ≤ 4294967296 * D := by rw [Nat.mul_comm]; exact Nat.mul_le_mul_left _ h
  omega
/-- Two digits make the quotient. -/
theorem two_digits {U D u1 u0 : Nat} (hD : 0 < D) :
    (U * 18446744073709551616 + (u1 * 4294967296 + u0)) / D = (U * 4294967296 + u1) / D * 4294967296 + ((U * 4294967296 + u1) % D * 4294967296 + u0) / D
    ∧ (U * 18446744073709551616 + (u1 * 4294967296 + u0)) % D = ((U * 4294967296 + u1) % D * 4294967296 + u0) % D := by
  have h := Nat.div_add_mod (U * 4294967296 + u1) D
  have e : U * 18446744073709551616 + (u1 * 4294967296 + u0) = ((U * 4294967296 + u1) % D * 4294967296 + u0) + D * ((U * 4294967296 + u1) / D * 4294967296) := by
    rw [← Nat.mul_assoc]
    omega
  rw [e, Nat.add_mul_div_left _ _ hD, Nat.add_mul_mod_self_left]
  exact ⟨Nat.add_comm _ _, rfl⟩
theorem back {N y P : Nat} (hP : 0 < P) : N * P / (y * P) = N / y ∧ N * P % (y * P) / P = N % y := by
  refine ⟨Nat.mul_div_mul_right _ _ hP, ?_⟩
  rw [Nat.mul_mod_mul_right, Nat.mul_div_cancel _ hP]
/-- What is left of a digit goes in a word. -/
theorem left_wrap {U D u q : Nat} (hq : q = (U * 4294967296 + u) / D) (hD : D ≤ 18446744073709551616) (hD0 : 0 < D) :
    ((((U : Int) * 4294967296) % 18446744073709551616 + u) % 18446744073709551616 - ((q : Int) * D) % 18446744073709551616) % 18446744073709551616 = (((U * 4294967296 + u) % D : Nat) : Int) := by
  have h := Nat.div_add_mod (U * 4294967296 + u) D
  have hl := Nat.mod_lt (U * 4294967296 + u) hD0
  rw [← hq] at h
  generalize (U * 4294967296 + u) % D = r at *
  have e : (q : Int) * D = ((D * q : Nat) : Int) := by rw [Int.natCast_mul, Int.mul_comm]
  rw [e]
  generalize D * q = m at *
  omega

end Go.Proofs.Ytndpdbofoojkhaa.Div
