/- The statements MuldivParts, MuldivOrder. -/
import Derived.Test.YtnipipbpinpfmaaMulLaws2
namespace Go.Proofs.Ytnipipbpinpfmaa.Mul
open Go.RowKit Go.Proofs.Ytnipipbpinpfmaa.Kit
set_option linter.unusedVariables false
set_option linter.unusedSimpArgs false

set_option maxHeartbeats 1000000 in
theorem parts_walk (a b c k : Int) (w : World) (ha : (Lit.int .u32 a).wf = true) (hb : (Lit.int .u32 b).wf = true) (hc : (Lit.int .u32 c).wf = true) (hk : (Lit.int .u16 k).wf = true) :
    Calls Try.prog 7 #[.int .u32 a, .int .u32 b, .int .u32 c, .int .u16 k] w fun e w' => e = .returned (.bool true) ∧ Below w.heap.size w w' := by
  obtain ⟨a1, a2⟩ := u32_of ha
  obtain ⟨b1, b2⟩ := u32_of hb
  obtain ⟨c1, c2⟩ := u32_of hc
  obtain ⟨k1, k2⟩ := u16_of hk
  clear ha hb hc hk
  obtain ⟨x, hx⟩ : ∃ x : Nat, a % 1048576 = x := ⟨(a % 1048576).toNat, by omega⟩
  obtain ⟨y, hy⟩ : ∃ x : Nat, b % 1048576 = x := ⟨(b % 1048576).toNat, by omega⟩
  obtain ⟨z, hz⟩ : ∃ x : Nat, c % 1048576 + 1 = x := ⟨(c % 1048576 + 1).toNat, by omega⟩
  obtain ⟨n, hn⟩ : ∃ x : Nat, k + 1 = x := ⟨(k + 1).toNat, by omega⟩
  have x2 : x ≤ 1048575 := by omega
  have y2 : y ≤ 1048575 := by omega
  have z1 : 1 ≤ z := by omega
  have z2 : z ≤ 1048576 := by omega
  have n1 : 1 ≤ n := by omega
  have n2 : n ≤ 65536 := by omega
  have HX := Lib.hid hx; have HY := Lib.hid hy; have HZ := Lib.hid hz; have HN := Lib.hid hn
  clear hx hy hz hn
  have p1 := Nat.mul_le_mul x2 n2
  have p2 := Nat.mul_le_mul z2 n2
  have p3 := Nat.mul_le_mul x2 y2
  have p4 := Nat.mul_le_mul p1 y2
  have p5 : 1 ≤ z * n := Nat.mul_le_mul z1 n1
  have W1 : Hid (wrap64 ((x : Int) * n) = ((x * n : Nat) : Int)) := Lib.hid (by rw [← Int.natCast_mul]; unfold wrap64; omega)
  have W2 : Hid (wrap64 ((z : Int) * n) = ((z * n : Nat) : Int)) := Lib.hid (by rw [← Int.natCast_mul]; unfold wrap64; omega)
  have q1 : x * y / z ≤ 1048575 * 1048575 := Nat.le_trans (Nat.div_le_self _ _) p3
  have m1 : x * y % z < z := Nat.mod_lt _ (by omega)
  have e1 : x * n * y / (z * n) = x * y / z := by rw [Nat.mul_right_comm, Nat.mul_div_mul_right _ _ (by omega)]
  have e2 : x * n * y % (z * n) = x * y % z * n := by rw [Nat.mul_right_comm, Nat.mul_mod_mul_right]
  have i1 : (x : Int) * y / z = ((x * y / z : Nat) : Int) := by rw [← Int.natCast_mul, ← Int.natCast_ediv]
  have i2 : ((x * n : Nat) : Int) * y / ((z * n : Nat) : Int) = ((x * y / z : Nat) : Int) := by rw [← Int.natCast_mul, ← Int.natCast_ediv, e1]
  have i3 : (x : Int) * y % z = ((x * y % z : Nat) : Int) := by rw [← Int.natCast_mul, ← Int.natCast_emod]
  have i4 : ((x * n : Nat) : Int) * y % ((z * n : Nat) : Int) = ((x * y % z * n : Nat) : Int) := by rw [← Int.natCast_mul, ← Int.natCast_emod, e2]
  clear e1 e2
  generalize x * y / z = q at *
  generalize x * y % z = r at *
  generalize x * n = xn at *
  generalize z * n = zn at *
  have p6 := Nat.mul_le_mul (show r ≤ 1048576 by omega) n2
  have hm1 : mayP x y z = true := decide_eq_true (by omega)
  have hm2 : mayP (xn : Int) y (zn : Int) = true := decide_eq_true (by omega)
  have F1 : Hid (floorP x y z = ((q : Int), 0)) := Lib.hid (by rw [floor_in hm1 (by rw [i1]; omega) (by rw [i1]; omega), i1])
  have R1 : Hid (restP x y z = ((r : Int), 0)) := Lib.hid (by rw [rest_in hm1, i3])
  have F2 : Hid (floorP (xn : Int) y (zn : Int) = ((q : Int), 0)) := Lib.hid (by rw [floor_in hm2 (by rw [i2]; omega) (by rw [i2]; omega), i2])
  have R2 : Hid (restP (xn : Int) y (zn : Int) = (((r * n : Nat) : Int), 0)) := Lib.hid (by rw [rest_in hm2, i4])
  clear i1 i2 i3 i4
  have E : Hid (wrap64 ((r : Int) * n) = ((r * n : Nat) : Int)) := Lib.hid (by rw [← Int.natCast_mul]; unfold wrap64; omega)
  generalize r * n = rn at *
  clear hm1 hm2 p3 p4 p6
  go_enter Try.func7, Try.ntmps7
  go_wp2_with fail
  refine (awake_any _).mono ?_; rintro w1 w1 ⟨rfl, h1⟩
  go_wp2_with fail
  rw [HX.out, HY.out, HZ.out]
  refine (floorc _ _ _ F1 _).mono ?_; rintro w2 w2 ⟨rfl, h2⟩
  go_wp2_with fail
  rw [HN.out, W1.out, W2.out]
  refine (floorc _ _ _ F2 _).mono ?_; rintro w3 w3 ⟨rfl, h3⟩
  go_wp2_with fail
  refine (restc _ _ _ R1 _).mono ?_; rintro w4 w4 ⟨rfl, h4⟩
  go_wp2_with fail
  rw [W1.out, W2.out]
  refine (restc _ _ _ R2 _).mono ?_; rintro w5 w5 ⟨rfl, h5⟩
  have K : ((rn : Int) == wrap64 ((r : Int) * n)) = true := by rw [E.out]; simp
  clear E
  go_wp2
  go_ret
  exact ⟨rfl, by repeat (first | exact Below.refl _ _ | (refine below_join ?_ (by assumption)))⟩

/-! ### Order -/
theorem le_floor {a d b c : Int} (h : a ≤ d) (hb : 0 ≤ b) (hc : 1 ≤ c) : a * b / c ≤ d * b / c := Int.ediv_le_ediv (by omega) (Int.mul_le_mul_of_nonneg_right h hb)
theorem over_floor {p c d : Int} (hp : 0 ≤ p) (h : c ≤ d) (hc : 1 ≤ c) : p / d ≤ p / c := by
  rw [Int.le_ediv_iff_mul_le (by omega)]
  have h1 := Int.mul_ediv_add_emod p d
  have h2 := Int.emod_nonneg p (show d ≠ 0 by omega)
  have h3 : 0 ≤ p / d := Int.ediv_nonneg hp (by omega)
  have h4 := Int.mul_le_mul_of_nonneg_left h h3
  rw [Int.mul_comm d] at h1
  omega
theorem floor_cases (a b c : Int) : (floorP a b c = (a * b / c, 0)) ∨ ∃ q e, floorP a b c = (q, e) ∧ (e = 1 ∨ e = 20) := by
  cases h : mayP a b c with
  | false => exact .inr ⟨0, 1, by unfold floorP; rw [h]; rfl, .inl rfl⟩
  | true =>
    rcases kept_cases (a * b / c) with ⟨k, _, _⟩ | k
    · exact .inl (by unfold floorP; rw [if_pos h, k])
    · exact .inr ⟨0, 20, by unfold floorP; rw [if_pos h, k], .inr rfl⟩

set_option maxHeartbeats 1000000 in
theorem order_walk (a b c d : Int) (w : World) (ha : (Lit.int .i64 a).wf = true) (hb : (Lit.int .i64 b).wf = true) (hc : (Lit.int .i64 c).wf = true) (hd : (Lit.int .i64 d).wf = true) :
    Calls Try.prog 9 #[.int .i64 a, .int .i64 b, .int .i64 c, .int .i64 d] w fun e w' => e = .returned (.bool true) ∧ Below w.heap.size w w' := by
  clear ha hb hc hd
  by_cases hx : b < 0 ∨ c < 1 ∨ d < 1
  · have hx2 : b < 0 ∨ (¬ b < 0 ∧ c < 1) ∨ (¬ b < 0 ∧ ¬ c < 1 ∧ d < 1) := by omega
    clear hx
    rcases hx2 with h | ⟨h, h'⟩ | ⟨h, h', h''⟩
    all_goals
      go_enter Try.func9, Try.ntmps9
      go_wp2_with fail
      refine (awake_any _).mono ?_; rintro w1 w1 ⟨rfl, h1⟩
      go_wp2
      go_ret
      exact ⟨rfl, by repeat (first | exact Below.refl _ _ | (refine below_join ?_ (by assumption)))⟩
  · have x1 : ¬ b < 0 := by omega
    have x2 : ¬ c < 1 := by omega
    have x3 : ¬ d < 1 := by omega
    have o1 := le_floor (a := min a d) (d := max a d) (b := b) (c := c) (by omega) (by omega) (by omega)
    have o2 := over_floor (p := max a 0 * b) (c := min c d) (d := max c d) (Int.mul_nonneg (by omega) (by omega)) (by omega) (by omega)
    have H : ∃ x e y f p g q h : Int, floorP (min a d) b c = (x, e) ∧ floorP (max a d) b c = (y, f) ∧ floorP (max a 0) b (min c d) = (p, g) ∧ floorP (max a 0) b (max c d) = (q, h) ∧
        ((e = 1 ∨ e = 20) ∨ (e = 0 ∧ (f = 1 ∨ f = 20)) ∨ (e = 0 ∧ f = 0 ∧ x ≤ y)) ∧ ((g = 1 ∨ g = 20) ∨ (g = 0 ∧ (h = 1 ∨ h = 20)) ∨ (g = 0 ∧ h = 0 ∧ q ≤ p)) := by
      rcases floor_cases (min a d) b c with e1 | ⟨x, e, e1, k1⟩ <;> rcases floor_cases (max a d) b c with e2 | ⟨y, f, e2, k2⟩ <;> rcases floor_cases (max a 0) b (min c d) with e3 | ⟨p, g, e3, k3⟩ <;> rcases floor_cases (max a 0) b (max c d) with e4 | ⟨q, h, e4, k4⟩
      all_goals exact ⟨_, _, _, _, _, _, _, _, e1, e2, e3, e4, by first | exact .inl k1 | exact .inr (.inl ⟨rfl, k2⟩) | exact .inr (.inr ⟨rfl, rfl, o1⟩), by first | exact .inl k3 | exact .inr (.inl ⟨rfl, k4⟩) | exact .inr (.inr ⟨rfl, rfl, o2⟩)⟩
    obtain ⟨x, e, y, f, p, g, q, h, e1, e2, e3, e4, k1, k2⟩ := H
    have E1 := Lib.hid e1; have E2 := Lib.hid e2; have E3 := Lib.hid e3; have E4 := Lib.hid e4
    clear e1 e2 e3 e4 o1 o2 hx
    rcases k1 with (rfl | rfl) | ⟨rfl, (rfl | rfl)⟩ | ⟨rfl, rfl, k1⟩ <;> rcases k2 with (rfl | rfl) | ⟨rfl, (rfl | rfl)⟩ | ⟨rfl, rfl, k2⟩
    all_goals
      go_enter Try.func9, Try.ntmps9
      go_wp2_with fail
      refine (awake_any _).mono ?_; rintro w1 w1 ⟨rfl, h1⟩
      go_wp2_with fail
      refine (floorc _ _ _ E1 _).mono ?_; rintro w2 w2 ⟨rfl, h2⟩
      go_wp2_with fail
      refine (floorc _ _ _ E2 _).mono ?_; rintro w3 w3 ⟨rfl, h3⟩
      go_wp2_with fail
      refine (floorc _ _ _ E3 _).mono ?_; rintro w4 w4 ⟨rfl, h4⟩
      go_wp2_with fail
      refine (floorc _ _ _ E4 _).mono ?_; rintro w5 w5 ⟨rfl, h5⟩
      go_wp2
      go_ret
      exact ⟨rfl, by repeat (first | exact Below.refl _ _ | (refine below_join ?_ (by assumption)))⟩

end Go.Proofs.Ytnipipbpinpfmaa.Mul
