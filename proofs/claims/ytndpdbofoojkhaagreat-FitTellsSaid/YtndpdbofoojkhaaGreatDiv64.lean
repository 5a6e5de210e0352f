/- joined for a claim: DivPlain, Div64 -/
import Derived.Lib.BitFns
import Derived.Lib.ItoaNum
import Derived.Test.YtndpdbofoojkhaaGreatShelf
import Derived.Test.YtndpdbofoojkhaaGreatKit
import Derived.Shelf.Bits.Mul64
import Derived.Shelf.Spec.BitsCarry
import Derived.Deep.DeepCutAuto
import Derived.Deep.CutBlock
import Derived.Deep.QuietTactic
import Derived.BigQuiet
import Derived.Laws.BitsAllLaws
import Derived.Laws.BitsLemmas
/- Two digits over a number, digit by digit: plain arithmetic. -/
namespace Go.Proofs.YtndpdbofoojkhaaGreat.Div

theorem norm (y : Nat) (h0 : 0 < y) (hy : y < 9223372036854775808) :
    ∃ s, Lib.bitLen y + s = 64 ∧ 1 ≤ s ∧ s ≤ 63 ∧ 9223372036854775808 ≤ y * 2 ^ s ∧ y * 2 ^ s < 18446744073709551616 := by
  obtain ⟨h1, h2, h3⟩ := Lib.bitLenAux_bounds 64 y (by omega) (by omega)
  have h4 : Lib.bitLen y ≤ 63 := Lib.bitLen_le y 63 (by omega) (by omega)
  change 1 ≤ Lib.bitLen y at h1
  change 2 ^ (Lib.bitLen y - 1) ≤ y at h2
  change y < 2 ^ Lib.bitLen y at h3
  refine ⟨64 - Lib.bitLen y, by omega, by omega, by omega, ?_, ?_⟩
  · have := Nat.mul_le_mul_right (2 ^ (64 - Lib.bitLen y)) h2
    rw [← Nat.pow_add, show Lib.bitLen y - 1 + (64 - Lib.bitLen y) = 63 from by omega] at this
    exact this
  · have := Nat.mul_lt_mul_of_pos_right h3 (show 0 < 2 ^ (64 - Lib.bitLen y) from Nat.pow_pos (by omega))
    rw [← Nat.pow_add, show Lib.bitLen y + (64 - Lib.bitLen y) = 64 from by omega] at this
    exact this

theorem pow_split {s : Nat} (h : s ≤ 63) : 2 ^ (64 - s) * 2 ^ s = 18446744073709551616 := by
  rw [← Nat.pow_add, show 64 - s + s = 64 from by omega]
/-- The dividend, as much moved as the divisor. -/
theorem moved (h l P R : Nat) (hR : R * P = 18446744073709551616) :
    (h * 18446744073709551616 + l) * P = (h * P + l / R) * 18446744073709551616 + l * P % 18446744073709551616 ∧ l * P % 18446744073709551616 = l % R * P := by
  have hRp : 0 < R := Nat.pos_of_ne_zero fun e => by rw [e, Nat.zero_mul] at hR; omega
  have hP : 0 < P := Nat.pos_of_ne_zero fun e => by rw [e, Nat.mul_zero] at hR; omega
  have e1 : l * P = (l / R) * 18446744073709551616 + l % R * P := by
    rw [← hR, ← Nat.mul_assoc, ← Nat.add_mul, Nat.mul_comm (l / R) R, Nat.div_add_mod]
  have h2 : l % R * P < 18446744073709551616 := by
    rw [← hR]; exact Nat.mul_lt_mul_of_pos_right (Nat.mod_lt _ hRp) hP
  have e2 : l * P % 18446744073709551616 = l % R * P := by omega
  refine ⟨?_, e2⟩
  rw [e2, Nat.add_mul, e1, Nat.add_mul, Nat.mul_right_comm]
  omega
theorem moved_lt (h l y P R : Nat) (hR : R * P = 18446744073709551616) (hh : h < y) (hl : l < 18446744073709551616) : h * P + l / R < y * P ∧ l / R < P := by
  have hRp : 0 < R := Nat.pos_of_ne_zero fun e => by rw [e, Nat.zero_mul] at hR; omega
  have h1 : l / R < P := by rw [Nat.div_lt_iff_lt_mul hRp, Nat.mul_comm, hR]; exact hl
  have h2 : (h + 1) * P ≤ y * P := Nat.mul_le_mul_right _ hh
  rw [Nat.add_mul] at h2
  omega
theorem or_add (a b s : Nat) (h : b < 2 ^ s) : a * 2 ^ s ||| b = a * 2 ^ s + b := by
  rw [← Nat.shiftLeft_eq, Nat.shiftLeft_add_eq_or_of_lt h]

/-- One digit: q is its guess from above. -/
theorem guess_test {q r U D1 D0 u : Nat} (hr : q * D1 + r = U) : (4294967296 * r + u < q * D0) ↔ (U * 4294967296 + u < q * (D1 * 4294967296 + D0)) := by
  have e : q * (D1 * 4294967296 + D0) = q * D1 * 4294967296 + q * D0 := by rw [Nat.mul_add, Nat.mul_assoc]
  rw [e, ← hr, Nat.add_mul]
  omega
theorem guess_stop {q r U D1 D0 u : Nat} (hr : q * D1 + r = U) (h1 : 4294967296 ≤ r) (hq : q ≤ 4294967296) (h0 : D0 < 4294967296) : ¬ (U * 4294967296 + u < q * (D1 * 4294967296 + D0)) := by
  rw [← guess_test hr]
  have := Nat.mul_le_mul hq (show D0 ≤ 4294967295 by omega)
  omega
theorem above_of {q X D : Nat} (hD : 0 < D) : X < q * D ↔ X / D < q := (Nat.div_lt_iff_lt_mul hD).symm
theorem guess_hi {U D1 D0 : Nat} (hD : 2147483648 ≤ D1) (h0 : D0 < 4294967296) (hU : U < D1 * 4294967296 + D0) : U / D1 ≤ 4294967297 := by
  have : U / D1 < 4294967298 := by
    rw [Nat.div_lt_iff_lt_mul (by omega)]
    omega
  omega
/-- The guess is not below the digit. -/
theorem guess_ge {U D1 D0 u : Nat} (hD : 0 < D1) (hu : u < 4294967296) : (U * 4294967296 + u) / (D1 * 4294967296 + D0) ≤ U / D1 := by
  have h1 : (U * 4294967296 + u) / (D1 * 4294967296 + D0) ≤ (U * 4294967296 + u) / (4294967296 * D1) := Nat.div_le_div_left (by omega) (by omega)
  rw [← Nat.div_div_eq_div_mul] at h1
  rwa [show (U * 4294967296 + u) / 4294967296 = U by omega] at h1
theorem digit_lt {U D u : Nat} (h : U < D) (hu : u < 4294967296) : (U * 4294967296 + u) / D < 4294967296 := by
  rw [Nat.div_lt_iff_lt_mul (by omega)]
  have : (U + 1) * 4294967296 ≤ 4294967296 * D := by rw [Nat.mul_comm]; exact Nat.mul_le_mul_left _ h
  omega
/-- Two digits make the quotient. -/
theorem two_digits {U D u1 u0 : Nat} (hD : 0 < D) :
    (U * 18446744073709551616 + (u1 * 4294967296 + u0)) / D = (U * 4294967296 + u1) / D * 4294967296 + ((U * 4294967296 + u1) % D * 4294967296 + u0) / D
    ∧ (U * 18446744073709551616 + (u1 * 4294967296 + u0)) % D = ((U * 4294967296 + u1) % D * 4294967296 + u0) % D := by
  have h := Nat.div_add_mod (U * 4294967296 + u1) D
  have e : U * 18446744073709551616 + (u1 * 4294967296 + u0) = ((U * 4294967296 + u1) % D * 4294967296 + u0) + D * ((U * 4294967296 + u1) / D * 4294967296) := by
    rw [← Nat.mul_assoc]
    omega
  rw [e, Nat.add_mul_div_left _ _ hD, Nat.add_mul_mod_self_left]
  exact ⟨Nat.add_comm _ _, rfl⟩
theorem back {N y P : Nat} (hP : 0 < P) : N * P / (y * P) = N / y ∧ N * P % (y * P) / P = N % y := by
  refine ⟨Nat.mul_div_mul_right _ _ hP, ?_⟩
  rw [Nat.mul_mod_mul_right, Nat.mul_div_cancel _ hP]
/-- What is left of a digit goes in a word. -/
theorem left_wrap {U D u q : Nat} (hq : q = (U * 4294967296 + u) / D) (hD : D ≤ 18446744073709551616) (hD0 : 0 < D) :
    ((((U : Int) * 4294967296) % 18446744073709551616 + u) % 18446744073709551616 - ((q : Int) * D) % 18446744073709551616) % 18446744073709551616 = (((U * 4294967296 + u) % D : Nat) : Int) := by
  have h := Nat.div_add_mod (U * 4294967296 + u) D
  have hl := Nat.mod_lt (U * 4294967296 + u) hD0
  rw [← hq] at h
  generalize (U * 4294967296 + u) % D = r at *
  have e : (q : Int) * D = ((D * q : Nat) : Int) := by rw [Int.natCast_mul, Int.mul_comm]
  rw [e]
  generalize D * q = m at *
  omega

end Go.Proofs.YtndpdbofoojkhaaGreat.Div
/- bits.Div64: what it answers for a divisor below 2^63. -/
namespace Go.Proofs.YtndpdbofoojkhaaGreat.Div
open Go.RowKit Go.Proofs.YtndpdbofoojkhaaGreat.Kit
set_option linter.unusedVariables false
set_option linter.unusedSimpArgs false

set_option maxRecDepth 100000 in
set_option maxHeartbeats 2000000 in
theorem div64_any (h l y : Nat) (hy : y < 9223372036854775808) (hh : h < y) (h0 : 0 < h) (hl : l < 18446744073709551616) (w : World) :
    Calls Tryz.prog 124 #[.int .u64 h, .int .u64 l, .int .u64 y] w fun e w' => e = .returned (.tuple #[.int .u64 (((h * 18446744073709551616 + l) / y : Nat) : Int), .int .u64 (((h * 18446744073709551616 + l) % y : Nat) : Int)]) ∧ w = w' := by
  obtain ⟨s, s0, s1, s2, hD1, hD2⟩ := norm y (by omega) hy
  have hPR := pow_split s2
  have hy0 : ((y : Int) == 0) = false := by simp; omega
  have hh0 : ((h : Int) == 0) = false := by simp; omega
  have E8 : Hid (IntKind.u64.wrap (64 - (Lib.bitLen y : Int)) = (s : Int)) := Lib.hid (by rw [IntKind.wrap_u64]; omega)
  have EN : Hid (min s 64 = s) := Lib.hid (by omega)
  obtain ⟨D, hD⟩ : ∃ D, y * 2 ^ s = D := ⟨_, rfl⟩
  obtain ⟨hU1, hU2⟩ := moved_lt h l y (2 ^ s) (2 ^ (64 - s)) hPR hh hl
  obtain ⟨hM, hM2⟩ := moved h l (2 ^ s) (2 ^ (64 - s)) hPR
  obtain ⟨U, hU⟩ : ∃ U, h * 2 ^ s + l / 2 ^ (64 - s) = U := ⟨_, rfl⟩
  obtain ⟨L, hL⟩ : ∃ L, l * 2 ^ s % 18446744073709551616 = L := ⟨_, rfl⟩
  have hb := back (N := h * 18446744073709551616 + l) (y := y) (P := 2 ^ s) (Nat.pow_pos (by omega))
  rw [hD] at hb hD1 hD2 hU1
  rw [hU] at hU1 hM
  rw [hM, hL] at hb
  have hL2 : L < 18446744073709551616 := by rw [← hL]; exact Nat.mod_lt _ (by omega)
  have hP0 : 0 < 2 ^ s := Nat.pow_pos (by omega)
  have hhs : h * 2 ^ s ≤ U := by rw [← hU]; exact Nat.le_add_right _ _
  have ED : Hid (IntKind.u64.wrap ((y : Int) * 2 ^ s) = (D : Int)) := Lib.hid (by
    rw [show (y : Int) * 2 ^ s = ((y * 2 ^ s : Nat) : Int) from by rw [Int.natCast_mul, Int.natCast_pow]; rfl, hD, IntKind.wrap_u64]; omega)
  have EH : Hid (IntKind.u64.wrap ((h : Int) * 2 ^ s) = ((h * 2 ^ s : Nat) : Int)) := Lib.hid (by
    rw [show (h : Int) * 2 ^ s = ((h * 2 ^ s : Nat) : Int) from by rw [Int.natCast_mul, Int.natCast_pow]; rfl, IntKind.wrap_u64]; omega)
  have EU : Hid (bits BinOp.or IntKind.u64 ((h * 2 ^ s : Nat) : Int) ((l : Int) / 2 ^ (64 - s)) = (U : Int)) := Lib.hid (by
    rw [show (l : Int) / 2 ^ (64 - s) = ((l / 2 ^ (64 - s) : Nat) : Int) from by rw [Int.natCast_ediv, Int.natCast_pow]; rfl]
    rw [u64_or_nat _ _ (by omega) (by omega), or_add h _ s hU2, hU])
  have EL : Hid (IntKind.u64.wrap ((l : Int) * 2 ^ s) = (L : Int)) := Lib.hid (by
    rw [show (l : Int) * 2 ^ s = ((l * 2 ^ s : Nat) : Int) from by rw [Int.natCast_mul, Int.natCast_pow]; rfl, ← hL, IntKind.wrap_u64]; omega)
  obtain ⟨D1, hd1⟩ : ∃ D1, D / 4294967296 = D1 := ⟨_, rfl⟩
  obtain ⟨D0, hd0⟩ : ∃ D0, D % 4294967296 = D0 := ⟨_, rfl⟩
  obtain ⟨u1, hu1⟩ : ∃ u1, L / 4294967296 = u1 := ⟨_, rfl⟩
  obtain ⟨u0, hu0⟩ : ∃ u0, L % 4294967296 = u0 := ⟨_, rfl⟩
  have EA : Hid (bits BinOp.and IntKind.u64 (D : Int) 4294967295 = (D0 : Int)) := Lib.hid (by rw [← hd0]; exact Mul64.maskN D hD2)
  have EB : Hid (bits BinOp.and IntKind.u64 (L : Int) 4294967295 = (u0 : Int)) := Lib.hid (by rw [← hu0]; exact Mul64.maskN L hL2)
  have E1 : Hid ((D : Int) / 4294967296 = (D1 : Int)) := Lib.hid (by omega)
  have E2 : Hid ((L : Int) / 4294967296 = (u1 : Int)) := Lib.hid (by omega)
  have hDD : D1 * 4294967296 + D0 = D := by rw [← hd1, ← hd0, Nat.mul_comm]; exact Nat.div_add_mod _ _
  have hLL : u1 * 4294967296 + u0 = L := by rw [← hu1, ← hu0, Nat.mul_comm]; exact Nat.div_add_mod _ _
  clear hM hM2 hL
  have k1 : 2147483648 ≤ D1 := by omega
  have k2 : D1 < 4294967296 := by omega
  have k3 : D0 < 4294967296 := by omega
  have k4 : u1 < 4294967296 := by omega
  have k5 : u0 < 4294967296 := by omega
  have HDD := Lib.hid hDD
  have HLL := Lib.hid hLL
  clear s0 hPR hU hD hd1 hd0 hu1 hu0 hU2 hDD hLL hhs
  have hUD : U < D1 * 4294967296 + D0 := by have := HDD.out; omega
  have g1 := guess_hi k1 k3 hUD
  have g2 := guess_ge (U := U) (D0 := D0) (u := u1) (show 0 < D1 by omega) k4
  have g3 := digit_lt hUD k4
  have hq : U / D1 * D1 + U % D1 = U := by rw [Nat.mul_comm]; exact Nat.div_add_mod _ _
  have hr : U % D1 < D1 := Nat.mod_lt _ (by omega)
  obtain ⟨d1, hdig⟩ : ∃ d, (U * 4294967296 + u1) / (D1 * 4294967296 + D0) = d := ⟨_, rfl⟩
  rw [hdig] at g2 g3
  have HT : Hid (∀ a b : Nat, a * D1 + b = U → ((4294967296 * b + u1 < a * D0) ↔ d1 < a)) := Lib.hid fun a b h => by
    rw [guess_test h, above_of (by omega), hdig]
  have HS : Hid (∀ a b : Nat, a * D1 + b = U → 4294967296 ≤ b → a ≤ 4294967296 → a ≤ d1) := Lib.hid fun a b h h1 h2 => by
    have := guess_stop (u := u1) h h1 h2 k3
    rw [above_of (by omega), hdig] at this
    omega
  have E3 : Hid (IntKind.u64.wrap ((U : Int) / D1) = ((U / D1 : Nat) : Int)) := Lib.hid (by
    rw [show (U : Int) / D1 = ((U / D1 : Nat) : Int) from (Int.natCast_ediv _ _).symm, IntKind.wrap_u64]
    omega)
  have E4 : Hid (IntKind.u64.wrap ((U : Int) - IntKind.u64.wrap (((U / D1 : Nat) : Int) * D1)) = ((U % D1 : Nat) : Int)) := Lib.hid (by
    rw [show ((U / D1 : Nat) : Int) * D1 = ((U / D1 * D1 : Nat) : Int) from (Int.natCast_mul _ _).symm, IntKind.wrap_u64, IntKind.wrap_u64]
    omega)
  obtain ⟨q, hqq⟩ : ∃ q, U / D1 = q := ⟨_, rfl⟩
  obtain ⟨r, hrr⟩ : ∃ r, U % D1 = r := ⟨_, rfl⟩
  rw [hqq] at E3 E4 hq g1 g2
  rw [hrr] at E4 hq hr
  have HQ := Lib.hid hq
  have HDIG := Lib.hid hdig
  clear hq hdig hqq hrr hUD
  have hD0' : 0 < D := by omega
  have EV : Hid (IntKind.u64.wrap (IntKind.u64.wrap (IntKind.u64.wrap ((U : Int) * 4294967296) + u1) - IntKind.u64.wrap ((d1 : Int) * D)) = (((U * 4294967296 + u1) % D : Nat) : Int)) := Lib.hid (by
    have := left_wrap (U := U) (D := D) (u := u1) (q := d1) (by rw [← HDD.out]; exact HDIG.out.symm) (by omega) hD0'
    rw [IntKind.wrap_u64, IntKind.wrap_u64, IntKind.wrap_u64, IntKind.wrap_u64]
    exact this)
  have hV := Nat.mod_lt (U * 4294967296 + u1) hD0'
  have H2 := two_digits (U := U) (u1 := u1) (u0 := u0) hD0'
  rw [HLL.out] at H2
  obtain ⟨V, hVe⟩ : ∃ V, (U * 4294967296 + u1) % D = V := ⟨_, rfl⟩
  rw [hVe] at EV hV H2
  rw [← HDD.out] at hV
  clear hVe
  have hUDx : V < D1 * 4294967296 + D0 := by have := HDD.out; omega
  have g1x := guess_hi k1 k3 hUDx
  have g2x := guess_ge (U := V) (D0 := D0) (u := u0) (show 0 < D1 by omega) k5
  have g3x := digit_lt hUDx k5
  have hqx : V / D1 * D1 + V % D1 = V := by rw [Nat.mul_comm]; exact Nat.div_add_mod _ _
  have hrx : V % D1 < D1 := Nat.mod_lt _ (by omega)
  obtain ⟨d0, hdigx⟩ : ∃ d, (V * 4294967296 + u0) / (D1 * 4294967296 + D0) = d := ⟨_, rfl⟩
  rw [hdigx] at g2x g3x
  have HTx : Hid (∀ a b : Nat, a * D1 + b = V → ((4294967296 * b + u0 < a * D0) ↔ d0 < a)) := Lib.hid fun a b h => by
    rw [guess_test h, above_of (by omega), hdigx]
  have HSx : Hid (∀ a b : Nat, a * D1 + b = V → 4294967296 ≤ b → a ≤ 4294967296 → a ≤ d0) := Lib.hid fun a b h h1 h2 => by
    have := guess_stop (u := u0) h h1 h2 k3
    rw [above_of (by omega), hdigx] at this
    omega
  have E3x : Hid (IntKind.u64.wrap ((V : Int) / D1) = ((V / D1 : Nat) : Int)) := Lib.hid (by
    rw [show (V : Int) / D1 = ((V / D1 : Nat) : Int) from (Int.natCast_ediv _ _).symm, IntKind.wrap_u64]
    omega)
  have E4x : Hid (IntKind.u64.wrap ((V : Int) - IntKind.u64.wrap (((V / D1 : Nat) : Int) * D1)) = ((V % D1 : Nat) : Int)) := Lib.hid (by
    rw [show ((V / D1 : Nat) : Int) * D1 = ((V / D1 * D1 : Nat) : Int) from (Int.natCast_mul _ _).symm, IntKind.wrap_u64, IntKind.wrap_u64]
    omega)
  obtain ⟨q2, hqqx⟩ : ∃ q, V / D1 = q := ⟨_, rfl⟩
  obtain ⟨r2, hrrx⟩ : ∃ r, V % D1 = r := ⟨_, rfl⟩
  rw [hqqx] at E3x E4x hqx g1x g2x
  rw [hrrx] at E4x hqx hrx
  have HQx := Lib.hid hqx
  have HDIGx := Lib.hid hdigx
  clear hqx hdigx hqqx hrrx hUDx
  have EW : Hid (IntKind.u64.wrap (IntKind.u64.wrap (IntKind.u64.wrap ((V : Int) * 4294967296) + u0) - IntKind.u64.wrap ((d0 : Int) * D)) = (((V * 4294967296 + u0) % D : Nat) : Int)) := Lib.hid (by
    have := left_wrap (U := V) (D := D) (u := u0) (q := d0) (by rw [← HDD.out]; exact HDIGx.out.symm) (by omega) hD0'
    rw [IntKind.wrap_u64, IntKind.wrap_u64, IntKind.wrap_u64, IntKind.wrap_u64]
    exact this)
  have HF1 : Hid ((h * 18446744073709551616 + l) / y = d1 * 4294967296 + d0) := Lib.hid (by
    have e1 := HDIG.out; have e2 := HDIGx.out
    rw [HDD.out] at e1 e2
    rw [← hb.1, H2.1, e1, e2])
  have HF2 : Hid ((h * 18446744073709551616 + l) % y = (V * 4294967296 + u0) % D / 2 ^ s) := Lib.hid (by rw [← hb.2, H2.2])
  clear H2 hb hV HDD HLL HDIG HDIGx
  obtain ⟨Z, hZ⟩ : ∃ Z, (V * 4294967296 + u0) % D = Z := ⟨_, rfl⟩
  rw [hZ] at EW HF2
  clear hZ
  rw [HF1.out, HF2.out, show ((d1 * 4294967296 + d0 : Nat) : Int) = (d1 : Int) * 4294967296 + d0 from by omega, show ((Z / 2 ^ s : Nat) : Int) = (Z : Int) / 2 ^ s from by rw [Int.natCast_ediv, Int.natCast_pow]; rfl]
  clear HF1 HF2
  go_enter Tryz.func124, Tryz.ntmps124
  go_wp2_with fail
  refine (Tryz.bits_LeadingZeros64 _ _ (by omega) (by omega)).mono ?_; rintro e w1 ⟨rfl, rfl⟩
  rw [Int.toNat_natCast]
  go_upto_region 8 with fail
  rw [E8.out]
  go_upto_region 9 with fail
  rw [ED.out]
  go_upto_region 10 with fail
  rw [E1.out]
  go_upto_region 11 with fail
  rw [EA.out]
  go_upto_region 12 with fail
  rw [EH.out, EU.out]
  go_upto_region 13 with fail
  rw [EL.out]
  go_upto_region 14 with fail
  rw [E2.out]
  go_upto_region 15 with fail
  rw [EB.out]
  go_upto_region 16 with fail
  rw [E3.out]
  go_upto_block 0 with fail
  rw [E4.out]
  go_cut [15] (fun v wx => v = .int .u64 d1 ∧ w1 = wx)
  case first =>
    go_wp2
    go_loop [15, 16] (fun x y => ∃ a b : Nat, x = .int .u64 a ∧ y = .int .u64 b ∧ Hid (a * D1 + b = U) ∧ d1 ≤ a ∧ a ≤ 4294967297 ∧ b < 4294967296) (fun x _ => (intOf x).toNat)
    case atStart => exact ⟨q, r, rfl, rfl, HQ, g2, g1, by omega⟩
    case round =>
      obtain ⟨a, b, rfl, rfl, HAB, ha, ha2, hb⟩ := hrel
      have ht := HT.out a b HAB.out
      clear g1 g2 hr HQ E3 E4 hy hl hD1 hD2 hL2 hh h0 hU1 hP0 hy0 hh0 E8 ED EH EU EL EA EB E1 E2 HTx HSx E3x E4x EV EW g1x g2x hrx HQx g3x
      by_cases hd : d1 < a
      · have hmul : 4294967296 ≤ a ∨ (4294967296 * (b : Int) + u1 < IntKind.u64.wrap ((a : Int) * D0)) = True := by
          rcases Nat.lt_or_ge a 4294967296 with h | h
          · refine .inr (eq_true ?_)
            have h1 := Nat.mul_le_mul (show a ≤ 4294967295 by omega) (show D0 ≤ 4294967295 by omega)
            rw [show (a : Int) * D0 = ((a * D0 : Nat) : Int) from (Int.natCast_mul _ _).symm, IntKind.wrap_u64]
            have := ht.2 hd
            generalize a * D0 = m at *
            omega
          · exact .inl h
        have HN1 : Hid ((a - 1) * D1 + (b + D1) = U) := Lib.hid (by
          have := HAB.out
          obtain ⟨c, rfl⟩ : ∃ c, a = c + 1 := ⟨a - 1, by omega⟩
          rw [Nat.add_mul, Nat.one_mul] at this
          rw [Nat.add_sub_cancel]; omega)
        have hs := Lib.hid (HS.out (a - 1) (b + D1) HN1.out)
        clear ht HAB
        rcases hmul with hmul | hmul
        · have hx : (4294967296 ≤ (a : Int)) = True := eq_true (by omega)
          by_cases hstop : 4294967296 ≤ b + D1
          · have hy2 : (4294967296 ≤ (b : Int) + D1) = True := eq_true (by omega)
            have e : ((a : Int) - 1) = (d1 : Int) := by have := hs.out hstop (by omega); omega
            have HE := Lib.hid e
            clear e hmul
            go_wp2
            rw [HE.out]
            go_meet
            exact ⟨rfl, rfl⟩
          · have hy2 : (4294967296 ≤ (b : Int) + D1) = False := eq_false (by omega)
            clear hs hmul
            go_wp2
            go_round
            case rel => exact ⟨a - 1, b + D1, by go_num, by go_num, HN1, by omega, by omega, by omega⟩
            case measure => simp [intOf]; omega
        · by_cases hx' : 4294967296 ≤ a
          · have hx : (4294967296 ≤ (a : Int)) = True := eq_true (by omega)
            clear hmul
            by_cases hstop : 4294967296 ≤ b + D1
            · have hy2 : (4294967296 ≤ (b : Int) + D1) = True := eq_true (by omega)
              have e : ((a : Int) - 1) = (d1 : Int) := by have := hs.out hstop (by omega); omega
              have HE := Lib.hid e
              clear e hx'
              go_wp2
              rw [HE.out]
              go_meet
              exact ⟨rfl, rfl⟩
            · have hy2 : (4294967296 ≤ (b : Int) + D1) = False := eq_false (by omega)
              clear hs hx'
              go_wp2
              go_round
              case rel => exact ⟨a - 1, b + D1, by go_num, by go_num, HN1, by omega, by omega, by omega⟩
              case measure => simp [intOf]; omega
          · have hx : (4294967296 ≤ (a : Int)) = False := eq_false (by omega)
            by_cases hstop : 4294967296 ≤ b + D1
            · have hy2 : (4294967296 ≤ (b : Int) + D1) = True := eq_true (by omega)
              have e : ((a : Int) - 1) = (d1 : Int) := by have := hs.out hstop (by omega); omega
              have HE := Lib.hid e
              clear e hx'
              go_wp2
              rw [HE.out]
              go_meet
              exact ⟨rfl, rfl⟩
            · have hy2 : (4294967296 ≤ (b : Int) + D1) = False := eq_false (by omega)
              clear hs hx'
              go_wp2
              go_round
              case rel => exact ⟨a - 1, b + D1, by go_num, by go_num, HN1, by omega, by omega, by omega⟩
              case measure => simp [intOf]; omega
      · have hda : a = d1 := by omega
        have hx : (4294967296 ≤ (a : Int)) = False := eq_false (by omega)
        have hmul : (4294967296 * (b : Int) + u1 < IntKind.u64.wrap ((a : Int) * D0)) = False := eq_false (by
          have h1 := Nat.mul_le_mul (show a ≤ 4294967295 by omega) (show D0 ≤ 4294967295 by omega)
          rw [show (a : Int) * D0 = ((a * D0 : Nat) : Int) from (Int.natCast_mul _ _).symm, IntKind.wrap_u64]
          have := fun h => hd (ht.1 h)
          generalize a * D0 = m at *
          omega)
        clear ht hd
        subst hda
        go_wp2
        go_meet
        exact ⟨rfl, rfl⟩
  case rest =>
    obtain ⟨rfl, rfl⟩ := hcut
    clear E4 E3 HQ HT HS g1 g2 hr
    go_upto_region 22 with fail
    rw [EV.out]
    go_upto_region 23 with fail
    rw [E3x.out]
    go_upto_block 2 with fail
    rw [E4x.out]
    go_cut [18] (fun v wx => v = .int .u64 d0 ∧ w1 = wx)
    case first =>
      go_wp2
      go_loop [18, 16] (fun x y => ∃ a b : Nat, x = .int .u64 a ∧ y = .int .u64 b ∧ Hid (a * D1 + b = V) ∧ d0 ≤ a ∧ a ≤ 4294967297 ∧ b < 4294967296) (fun x _ => (intOf x).toNat)
      case atStart => exact ⟨q2, r2, rfl, rfl, HQx, g2x, g1x, by omega⟩
      case round =>
        obtain ⟨a, b, rfl, rfl, HAB, ha, ha2, hb⟩ := hrel
        have ht := HTx.out a b HAB.out
        clear g1x g2x hrx HQx E3x E4x hy hl hD1 hD2 hL2 hh h0 hU1 hP0 hy0 hh0 E8 ED EH EU EL EA EB E1 E2 EV EW g3
        by_cases hd : d0 < a
        · have hmul : 4294967296 ≤ a ∨ (4294967296 * (b : Int) + u0 < IntKind.u64.wrap ((a : Int) * D0)) = True := by
            rcases Nat.lt_or_ge a 4294967296 with h | h
            · refine .inr (eq_true ?_)
              have h1 := Nat.mul_le_mul (show a ≤ 4294967295 by omega) (show D0 ≤ 4294967295 by omega)
              rw [show (a : Int) * D0 = ((a * D0 : Nat) : Int) from (Int.natCast_mul _ _).symm, IntKind.wrap_u64]
              have := ht.2 hd
              generalize a * D0 = m at *
              omega
            · exact .inl h
          have HN1 : Hid ((a - 1) * D1 + (b + D1) = V) := Lib.hid (by
            have := HAB.out
            obtain ⟨c, rfl⟩ : ∃ c, a = c + 1 := ⟨a - 1, by omega⟩
            rw [Nat.add_mul, Nat.one_mul] at this
            rw [Nat.add_sub_cancel]; omega)
          have hs := Lib.hid (HSx.out (a - 1) (b + D1) HN1.out)
          clear ht HAB
          rcases hmul with hmul | hmul
          · have hx : (4294967296 ≤ (a : Int)) = True := eq_true (by omega)
            by_cases hstop : 4294967296 ≤ b + D1
            · have hy2 : (4294967296 ≤ (b : Int) + D1) = True := eq_true (by omega)
              have e : ((a : Int) - 1) = (d0 : Int) := by have := hs.out hstop (by omega); omega
              have HE := Lib.hid e
              clear e hmul
              go_wp2
              rw [HE.out]
              go_meet
              exact ⟨rfl, rfl⟩
            · have hy2 : (4294967296 ≤ (b : Int) + D1) = False := eq_false (by omega)
              clear hs hmul
              go_wp2
              go_round
              case rel => exact ⟨a - 1, b + D1, by go_num, by go_num, HN1, by omega, by omega, by omega⟩
              case measure => simp [intOf]; omega
          · by_cases hx' : 4294967296 ≤ a
            · have hx : (4294967296 ≤ (a : Int)) = True := eq_true (by omega)
              clear hmul
              by_cases hstop : 4294967296 ≤ b + D1
              · have hy2 : (4294967296 ≤ (b : Int) + D1) = True := eq_true (by omega)
                have e : ((a : Int) - 1) = (d0 : Int) := by have := hs.out hstop (by omega); omega
                have HE := Lib.hid e
                clear e hx'
                go_wp2
                rw [HE.out]
                go_meet
                exact ⟨rfl, rfl⟩
              · have hy2 : (4294967296 ≤ (b : Int) + D1) = False := eq_false (by omega)
                clear hs hx'
                go_wp2
                go_round
                case rel => exact ⟨a - 1, b + D1, by go_num, by go_num, HN1, by omega, by omega, by omega⟩
                case measure => simp [intOf]; omega
            · have hx : (4294967296 ≤ (a : Int)) = False := eq_false (by omega)
              by_cases hstop : 4294967296 ≤ b + D1
              · have hy2 : (4294967296 ≤ (b : Int) + D1) = True := eq_true (by omega)
                have e : ((a : Int) - 1) = (d0 : Int) := by have := hs.out hstop (by omega); omega
                have HE := Lib.hid e
                clear e hx'
                go_wp2
                rw [HE.out]
                go_meet
                exact ⟨rfl, rfl⟩
              · have hy2 : (4294967296 ≤ (b : Int) + D1) = False := eq_false (by omega)
                clear hs hx'
                go_wp2
                go_round
                case rel => exact ⟨a - 1, b + D1, by go_num, by go_num, HN1, by omega, by omega, by omega⟩
                case measure => simp [intOf]; omega
        · have hda : a = d0 := by omega
          have hx : (4294967296 ≤ (a : Int)) = False := eq_false (by omega)
          have hmul : (4294967296 * (b : Int) + u0 < IntKind.u64.wrap ((a : Int) * D0)) = False := eq_false (by
            have h1 := Nat.mul_le_mul (show a ≤ 4294967295 by omega) (show D0 ≤ 4294967295 by omega)
            rw [show (a : Int) * D0 = ((a * D0 : Nat) : Int) from (Int.natCast_mul _ _).symm, IntKind.wrap_u64]
            have := fun h => hd (ht.1 h)
            generalize a * D0 = m at *
            omega)
          clear ht hd
          subst hda
          go_wp2
          go_meet
          exact ⟨rfl, rfl⟩
    case rest =>
      obtain ⟨rfl, rfl⟩ := hcut
      clear E4x E3x HQx HTx HSx g1x g2x hrx
      go_wp2
      rw [EW.out]
      go_ret2
      exact ⟨rfl, rfl⟩

set_option maxHeartbeats 1000000 in
theorem div64_zero (l y : Nat) (hy : y < 9223372036854775808) (hh : 0 < y) (hl : l < 18446744073709551616) (w : World) :
    Calls Tryz.prog 124 #[.int .u64 0, .int .u64 l, .int .u64 y] w fun e w' => e = .returned (.tuple #[.int .u64 ((l / y : Nat) : Int), .int .u64 ((l % y : Nat) : Int)]) ∧ Below w.heap.size w w' := by
  have hy0 : ((y : Int) == 0) = false := by simp; omega
  have e1 : Hid (IntKind.u64.wrap ((l : Int) / y) = ((l / y : Nat) : Int)) := Lib.hid (by
    rw [show (l : Int) / y = ((l / y : Nat) : Int) from (Int.natCast_ediv _ _).symm, IntKind.wrap_u64]
    have := Nat.div_le_self l y
    generalize l / y = q at *
    omega)
  have e2 : Hid ((l : Int) % y = ((l % y : Nat) : Int)) := Lib.hid (Int.natCast_emod _ _).symm
  go_enter Tryz.func124, Tryz.ntmps124
  go_wp2
  go_quiet (fail)
  go_wp2
  rw [e1.out, e2.out]
  go_ret2
  exact ⟨rfl, ⟨rfl, rfl, rfl, Nat.le_refl _, fun _ _ => rfl⟩⟩

end Go.Proofs.YtndpdbofoojkhaaGreat.Div
