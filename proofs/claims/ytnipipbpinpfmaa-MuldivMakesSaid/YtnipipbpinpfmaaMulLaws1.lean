/- The statement MuldivMakes. -/
import Derived.Test.YtnipipbpinpfmaaMulAwake
namespace Go.Proofs.Ytnipipbpinpfmaa.Mul
open Go.RowKit Go.Proofs.Ytnipipbpinpfmaa.Kit
set_option linter.unusedVariables false
set_option linter.unusedSimpArgs false

theorem half_of (a : Int) (h1 : -2147483648 ≤ a) (h2 : a ≤ 2147483647) : -1073741824 ≤ wrap64 ((wrap64 a).tdiv 2) ∧ wrap64 ((wrap64 a).tdiv 2) ≤ 1073741824 := by
  have e : wrap64 a = a := by unfold wrap64; omega
  rw [e]
  rcases Int.le_total 0 a with h | h
  · rw [Int.tdiv_eq_ediv_of_nonneg h]; unfold wrap64; omega
  · have e2 : a.tdiv 2 = -((-a) / 2) := by
      have h1 := Int.neg_tdiv a 2
      rw [Int.tdiv_eq_ediv_of_nonneg (by omega)] at h1
      omega
    rw [e2]; unfold wrap64; omega

set_option maxHeartbeats 1000000 in
theorem makes_walk (a b c : Int) (w : World) (ha : (Lit.int .i32 a).wf = true) (hb : (Lit.int .i32 b).wf = true) (hc : (Lit.int .u32 c).wf = true) :
    Calls Try.prog 4 #[.int .i32 a, .int .i32 b, .int .u32 c] w fun e w' => e = .returned (.bool true) ∧ Below w.heap.size w w' := by
  obtain ⟨ha1, ha2⟩ := i32_of ha
  obtain ⟨hb1, hb2⟩ := i32_of hb
  obtain ⟨hc1, hc2⟩ := u32_of hc
  clear ha hb hc
  obtain ⟨x, hx⟩ : ∃ x, wrap64 ((wrap64 a).tdiv 2) = x := ⟨_, rfl⟩
  obtain ⟨y, hy⟩ : ∃ y, wrap64 ((wrap64 b).tdiv 2) = y := ⟨_, rfl⟩
  obtain ⟨d, hd⟩ : ∃ d, c % 1073741824 + 1 = d := ⟨_, rfl⟩
  have hx1 : -1073741824 ≤ x ∧ x ≤ 1073741824 := by rw [← hx]; exact half_of a ha1 ha2
  have hy1 : -1073741824 ≤ y ∧ y ≤ 1073741824 := by rw [← hy]; exact half_of b hb1 hb2
  have hd1 : 1 ≤ d ∧ d ≤ 1073741824 := by omega
  have HX := Lib.hid hx; have HY := Lib.hid hy; have HD := Lib.hid hd
  clear hx hy hd ha1 ha2 hb1 hb2 
  obtain ⟨x1, x2⟩ := hx1; obtain ⟨y1, y2⟩ := hy1; obtain ⟨d1, d2⟩ := hd1
  have hp := mul_bound (A := 1073741824) (B := 1073741824) (by omega) (by omega) x2 (by omega) y2 (by omega)
  have hm : mayP x y d = true := decide_eq_true (by omega)
  have hq := div_bound (p := x * y) d1 (show 0 ≤ 1152921504606846976 by omega) (by omega) (by omega)
  have hF := floor_in hm (by omega) (by omega)
  have hR := rest_in hm
  have hs : d * (x * y / d) + x * y % d = x * y := Int.mul_ediv_add_emod ..
  have hr1 := Int.emod_nonneg (x * y) (show d ≠ 0 by omega)
  have hr2 := Int.emod_lt_of_pos (x * y) (show 0 < d by omega)
  have hN : nearP x y d = (x * y / d + if d ≤ 2 * (x * y % d) then 1 else 0, 0) := by
    unfold nearP keptP
    rw [if_pos hm, if_pos (by split <;> omega)]
  rw [Int.mul_comm d] at hs
  generalize x * y / d = q at *
  generalize x * y % d = r at *
  have E1 : Hid (wrap64 (wrap64 (q * d) + r) = wrap64 (x * y)) := Lib.hid (by
    rw [← hs]; generalize q * d = m at *; unfold wrap64; omega)
  obtain ⟨n, hn⟩ : ∃ n, (q + if d ≤ 2 * r then 1 else 0) = n := ⟨_, rfl⟩
  rw [hn] at hN
  obtain ⟨q1, q2⟩ := hq
  have HF := Lib.hid hF; have HR := Lib.hid hR; have HN := Lib.hid hN
  have h7 : (d ≤ 2 * r ∧ n = q + 1) ∨ (¬ d ≤ 2 * r ∧ n = q) := by
    rw [← hn]; by_cases h : d ≤ 2 * r <;> simp [h]
  clear hF hR hN hn hp hm hs
  rcases h7 with ⟨k1, rfl⟩ | ⟨k1, rfl⟩
  all_goals
    go_enter Try.func4, Try.ntmps4
    go_wp2_with fail
    refine (awake_any _).mono ?_; rintro e w1 ⟨rfl, h1⟩
    go_wp2_with fail
    rw [HX.out, HY.out, HD.out]
    refine (floorc _ _ _ HF _).mono ?_; rintro e w2 ⟨rfl, h2⟩
    go_wp2_with fail
    refine (restc _ _ _ HR _).mono ?_; rintro e w3 ⟨rfl, h3⟩
    go_wp2_with fail
    refine (nearc _ _ _ HN _).mono ?_; rintro e w4 ⟨rfl, h4⟩
    go_wp2
    go_ret
    exact ⟨rfl, by repeat (first | exact Below.refl _ _ | (refine below_join ?_ (by assumption)))⟩

end Go.Proofs.Ytnipipbpinpfmaa.Mul
