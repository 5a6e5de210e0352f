/- Products over a number: the calls at the statements' head. -/
import Derived.Test.YtnipipbpinpfmaaMulFns
namespace Go.Proofs.Ytnipipbpinpfmaa.Mul
open Go.RowKit Go.Proofs.Ytnipipbpinpfmaa.Kit
set_option linter.unusedVariables false
set_option linter.unusedSimpArgs false

theorem floorc (a b c : Int) {q e : Int} (h : Hid (floorP a b c = (q, e))) (w : World) :
    Calls Try.prog 11 #[.int .i64 a, .int .i64 b, .int .i64 c] w fun x w' => x = .returned (.tuple #[.int .i64 q, .int .i64 e]) ∧ Below w.heap.size w w' := by
  have := floor_any a b c w; rw [h.out] at this; exact this
theorem restc (a b c : Int) {q e : Int} (h : Hid (restP a b c = (q, e))) (w : World) :
    Calls Try.prog 15 #[.int .i64 a, .int .i64 b, .int .i64 c] w fun x w' => x = .returned (.tuple #[.int .i64 q, .int .i64 e]) ∧ Below w.heap.size w w' := by
  have := rest_any a b c w; rw [h.out] at this; exact this
theorem nearc (a b c : Int) {q e : Int} (h : Hid (nearP a b c = (q, e))) (w : World) :
    Calls Try.prog 13 #[.int .i64 a, .int .i64 b, .int .i64 c] w fun x w' => x = .returned (.tuple #[.int .i64 q, .int .i64 e]) ∧ Below w.heap.size w w' := by
  have := near_any a b c w; rw [h.out] at this; exact this

set_option maxHeartbeats 1000000 in
theorem awake_any (w : World) : Calls Try.prog 10 #[] w fun e w' => e = .returned (.bool true) ∧ Below w.heap.size w w' := by
  go_enter Try.func10, Try.ntmps10
  go_wp2_with fail
  refine (floorc (-7) 1 2 (q := -4) (e := 0) (Lib.hid (by decide)) _).mono ?_; rintro e w1 ⟨rfl, h1⟩
  go_wp2_with fail
  refine (nearc (-7) 1 2 (q := -3) (e := 0) (Lib.hid (by decide)) _).mono ?_; rintro e w2 ⟨rfl, h2⟩
  go_wp2_with fail
  refine (restc (-7) 1 2 (q := 1) (e := 0) (Lib.hid (by decide)) _).mono ?_; rintro e w3 ⟨rfl, h3⟩
  go_wp2_with fail
  refine (floorc 4611686018427387903 4611686018427387903 4611686018427387903 (q := 4611686018427387903) (e := 0) (Lib.hid (by decide)) _).mono ?_; rintro e w4 ⟨rfl, h4⟩
  go_wp2_with fail
  refine (floorc 4611686018427387903 2 1 (q := 0) (e := 20) (Lib.hid (by decide)) _).mono ?_; rintro e w5 ⟨rfl, h5⟩
  go_wp2_with fail
  refine (floorc 1 1 0 (q := 0) (e := 1) (Lib.hid (by decide)) _).mono ?_; rintro e w6 ⟨rfl, h6⟩
  go_wp2
  go_ret
  exact ⟨rfl, by repeat (first | exact Below.refl _ _ | (refine below_join ?_ (by assumption)))⟩

theorem floor_in {a b c : Int} (hm : mayP a b c = true) (h1 : -4611686018427387903 ≤ a * b / c) (h2 : a * b / c ≤ 4611686018427387903) : floorP a b c = (a * b / c, 0) := by
  unfold floorP keptP; rw [if_pos hm, if_pos ⟨h1, h2⟩]
theorem rest_in {a b c : Int} (hm : mayP a b c = true) : restP a b c = (a * b % c, 0) := by
  unfold restP; rw [if_pos hm]

theorem div_bound {p d M : Int} (hd : 1 ≤ d) (hM : 0 ≤ M) (h1 : -M ≤ p) (h2 : p ≤ M) : -M ≤ p / d ∧ p / d ≤ M := by
  constructor
  · rw [Int.le_ediv_iff_mul_le (by omega)]
    have := Int.mul_le_mul_of_nonneg_left hd hM
    rw [Int.mul_one] at this
    rw [Int.neg_mul]; omega
  · have : p / d < M + 1 := by
      rw [Int.ediv_lt_iff_lt_mul (by omega)]
      have := Int.mul_le_mul_of_nonneg_left hd (show 0 ≤ M + 1 by omega)
      rw [Int.mul_one] at this
      omega
    omega
theorem mul_bound {x y A B : Int} (hA : 0 ≤ A) (hx1 : -A ≤ x) (hx2 : x ≤ A) (hy1 : -B ≤ y) (hy2 : y ≤ B) (hB : 0 ≤ B) : -(A * B) ≤ x * y ∧ x * y ≤ A * B := by
  have h : (x * y).natAbs ≤ (A * B).natAbs := by
    rw [Int.natAbs_mul, Int.natAbs_mul]
    exact Nat.mul_le_mul (by omega) (by omega)
  have h2 : 0 ≤ A * B := Int.mul_nonneg hA hB
  omega
end Go.Proofs.Ytnipipbpinpfmaa.Mul
