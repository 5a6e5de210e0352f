/- Products over a number: the floor, by the plain law (for the layers above). -/
import Derived.Test.YtndpdbofoojkhaaMulTold
namespace Go.Proofs.Ytndpdbofoojkhaa.Mul
open Go.RowKit Go.Proofs.Ytndpdbofoojkhaa.Kit
set_option linter.unusedVariables false
set_option linter.unusedSimpArgs false

theorem parts_plain {a b c : Int} (h : mayP a b c = true) : ∃ (x y d : Nat) (m : Bool), max a (-a) = (x : Int) ∧ max b (-b) = (y : Int) ∧ c = d ∧ 0 < d ∧ d < 4611686018427387904 ∧ minusB a b = m ∧ signed m (qOf m (x * y) d) = a * b / c ∧ ((rOf m (x * y) d : Nat) : Int) = a * b % c := by
  obtain ⟨h1, h2, h3, h4, h5, h6⟩ := may_iff h
  obtain ⟨x, hx⟩ : ∃ x : Nat, max a (-a) = x := ⟨(max a (-a)).toNat, by omega⟩
  obtain ⟨y, hy⟩ : ∃ y : Nat, max b (-b) = y := ⟨(max b (-b)).toNat, by omega⟩
  obtain ⟨d, rfl⟩ : ∃ d : Nat, c = d := ⟨c.toNat, by omega⟩
  have hd : 0 < d := by omega
  refine ⟨x, y, d, minusB a b, hx, hy, rfl, hd, by omega, rfl, ?_⟩
  rcases by_signs (a := a) (b := b) (x := x) (y := y) (d := d) (by omega) hx.symm hy.symm hd with ⟨hm, hp⟩ | ⟨hm, hp⟩
  · rw [hm, hp]
    obtain ⟨e1, e2⟩ := neg_div (n := x * y) hd
    rw [e1, e2]
    generalize x * y = N at *
    by_cases h0 : N % d = 0
    · have q0 : qOf true N d = N / d := if_neg (by simp [h0])
      have r0 : rOf true N d = N % d := if_neg (by simp [h0])
      rw [q0, r0, if_pos h0, if_pos h0, h0]
      exact ⟨rfl, rfl⟩
    · have q0 : qOf true N d = N / d + 1 := if_pos ⟨rfl, by omega⟩
      have r0 : rOf true N d = d - N % d := if_pos ⟨rfl, by omega⟩
      rw [q0, r0, if_neg h0, if_neg h0]
      exact ⟨rfl, rfl⟩
  · rw [hm, hp]
    unfold qOf rOf signed
    simp
theorem parts_any {a b c : Int} (h : mayP a b c = true) : ∃ (Q : Nat) (m : Bool), signed m Q = a * b / c ∧ ∀ w,
    Calls Try.prog 83 #[.int .i64 a, .int .i64 b, .int .i64 c] w fun e w' => e = .returned (.tuple #[.agg #[.int .u64 ((Q / 18446744073709551616 : Nat) : Int), .int .u64 ((Q % 18446744073709551616 : Nat) : Int)], .int .u64 (a * b % c), .bool m]) ∧ Below w.heap.size w w' := by
  obtain ⟨x, y, d, m, hx, hy, hd, hd0, hd1, hm, hq, hr⟩ := parts_plain h
  obtain ⟨h1, h2, h3, h4, h5, h6⟩ := may_iff h
  refine ⟨_, m, hq, fun w => ?_⟩
  rw [← hr]
  exact parts_core a b c x y d m (by omega) (by omega) (by omega) (by omega) hx hy hd hd0 hd1 hm w

set_option maxHeartbeats 1000000 in
theorem floor_any (a b c : Int) (w : World) :
    Calls Try.prog 69 #[.int .i64 a, .int .i64 b, .int .i64 c] w fun e w' => e = .returned (.tuple #[.int .i64 (floorP a b c).1, .int .i64 (floorP a b c).2]) ∧ Below w.heap.size w w' := by
  unfold floorP
  have HM : Hid (∀ w, _) := Lib.hid (may_any a b c)
  cases hm : mayP a b c with
  | false =>
    rw [if_neg (by simp)]
    rw [hm] at HM
    clear hm
    go_enter Try.func69, Try.ntmps69
    go_wp2_with fail
    refine (HM.out _).mono ?_; rintro e w1 ⟨rfl, rfl⟩
    go_wp2
    go_ret2
    exact ⟨rfl, Below.refl _ _⟩
  | true =>
    rw [if_pos rfl]
    rw [hm] at HM
    obtain ⟨Q, m, hq, hp⟩ := parts_any hm
    have HP := Lib.hid hp
    have HT : Hid (∀ w, _) := Lib.hid (told_any Q m false)
    obtain ⟨g1, hg1⟩ : ∃ g, Q / 18446744073709551616 = g := ⟨_, rfl⟩
    obtain ⟨g2, hg2⟩ : ∃ g, Q % 18446744073709551616 = g := ⟨_, rfl⟩
    rw [hg1, hg2] at HT HP
    clear hg1 hg2
    rw [show signed m Q + plusOne false = a * b / c from by rw [hq]; unfold plusOne; simp] at HT
    generalize keptP (a * b / c) = k at *
    clear hm hp hq
    go_enter Try.func69, Try.ntmps69
    go_wp2_with fail
    refine (HM.out _).mono ?_; rintro e w1 ⟨rfl, rfl⟩
    go_wp2_with fail
    refine (HP.out _).mono ?_; rintro e w1 ⟨rfl, hb1⟩
    go_wp2_with fail
    refine (HT.out _).mono ?_; rintro e w2 ⟨rfl, hb2⟩
    go_wp2
    go_ret2
    exact ⟨rfl, below_join (below_alloc hb1 _) hb2⟩

theorem floorc (a b c : Int) {q e : Int} (h : Hid (floorP a b c = (q, e))) (w : World) :
    Calls Try.prog 69 #[.int .i64 a, .int .i64 b, .int .i64 c] w fun x w' => x = .returned (.tuple #[.int .i64 q, .int .i64 e]) ∧ Below w.heap.size w w' := by
  have := floor_any a b c w; rw [h.out] at this; exact this
theorem floor_in {a b c : Int} (hm : mayP a b c = true) (h1 : -4611686018427387903 ≤ a * b / c) (h2 : a * b / c ≤ 4611686018427387903) : floorP a b c = (a * b / c, 0) := by
  unfold floorP keptP; rw [if_pos hm, if_pos ⟨h1, h2⟩]
theorem rest_in {a b c : Int} (hm : mayP a b c = true) : restP a b c = (a * b % c, 0) := by
  unfold restP; rw [if_pos hm]

theorem div_bound {p d M : Int} (hd : 1 ≤ d) (hM : 0 ≤ M) (h1 : -M ≤ p) (h2 : p ≤ M) : -M ≤ p / d ∧ p / d ≤ M := by
  constructor
  · rw [Int.le_ediv_iff_mul_le (by omega)]
    have := Int.mul_le_mul_of_nonneg_left hd hM
    rw [Int.mul_one] at this
    rw [Int.neg_mul]; omega
  · have : p / d < M + 1 := by
      rw [Int.ediv_lt_iff_lt_mul (by omega)]
      have := Int.mul_le_mul_of_nonneg_left hd (show 0 ≤ M + 1 by omega)
      rw [Int.mul_one] at this
      omega
    omega
theorem mul_bound {x y A B : Int} (hA : 0 ≤ A) (hx1 : -A ≤ x) (hx2 : x ≤ A) (hy1 : -B ≤ y) (hy2 : y ≤ B) (hB : 0 ≤ B) : -(A * B) ≤ x * y ∧ x * y ≤ A * B := by
  have h : (x * y).natAbs ≤ (A * B).natAbs := by
    rw [Int.natAbs_mul, Int.natAbs_mul]
    exact Nat.mul_le_mul (by omega) (by omega)
  have h2 : 0 ≤ A * B := Int.mul_nonneg hA hB
  omega

end Go.Proofs.Ytndpdbofoojkhaa.Mul
