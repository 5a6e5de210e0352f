/- The statements MuldivTurns, MuldivSigns, MuldivNear. -/
import Derived.Test.YtnipipbpinpfmaaMulAwake
namespace Go.Proofs.Ytnipipbpinpfmaa.Mul
open Go.RowKit Go.Proofs.Ytnipipbpinpfmaa.Kit
set_option linter.unusedVariables false
set_option linter.unusedSimpArgs false

theorem may_comm (a b c : Int) : mayP b a c = mayP a b c := by unfold mayP; rw [decide_eq_decide]; omega
theorem floor_comm (a b c : Int) : floorP b a c = floorP a b c := by unfold floorP; rw [may_comm, Int.mul_comm]
theorem near_comm (a b c : Int) : nearP b a c = nearP a b c := by unfold nearP; rw [may_comm, Int.mul_comm]
theorem floor_self (a c : Int) : (floorP a c c = (0, 1) ∧ restP a c c = (0, 1)) ∨ (floorP a c c = (a, 0) ∧ restP a c c = (0, 0)) := by
  cases h : mayP a c c with
  | false => exact .inl ⟨by unfold floorP; rw [h]; rfl, by unfold restP; rw [h]; rfl⟩
  | true =>
    have hm := may_iff h
    refine .inr ⟨?_, ?_⟩
    · have e : a * c / c = a := Int.mul_ediv_cancel _ (by omega)
      rw [floor_in h (by omega) (by omega), e]
    · rw [rest_in h, Int.mul_emod_left]

set_option maxHeartbeats 1000000 in
theorem turns_walk (a b c : Int) (w : World) (ha : (Lit.int .i64 a).wf = true) (hb : (Lit.int .i64 b).wf = true) (hc : (Lit.int .i64 c).wf = true) :
    Calls Try.prog 5 #[.int .i64 a, .int .i64 b, .int .i64 c] w fun e w' => e = .returned (.bool true) ∧ Below w.heap.size w w' := by
  clear ha hb hc
  obtain ⟨⟨m, e⟩, hF⟩ : ∃ v, floorP a b c = v := ⟨_, rfl⟩
  obtain ⟨⟨p, g⟩, hN⟩ : ∃ v, nearP a b c = v := ⟨_, rfl⟩
  have HF := Lib.hid hF; have HN := Lib.hid hN
  have HF2 : Hid (floorP b a c = (m, e)) := Lib.hid (by rw [floor_comm]; exact hF)
  have HN2 : Hid (nearP b a c = (p, g)) := Lib.hid (by rw [near_comm]; exact hN)
  clear hF hN
  rcases floor_self a c with ⟨h5, h6⟩ | ⟨h5, h6⟩
  all_goals
    have H5 := Lib.hid h5
    have H6 := Lib.hid h6
    clear h5 h6
    go_enter Try.func5, Try.ntmps5
    go_wp2_with fail
    refine (awake_any _).mono ?_; rintro x w1 ⟨rfl, h1⟩
    go_wp2_with fail
    refine (floorc _ _ _ HF _).mono ?_; rintro x w2 ⟨rfl, h2⟩
    go_wp2_with fail
    refine (floorc _ _ _ HF2 _).mono ?_; rintro x w3 ⟨rfl, h3⟩
    go_wp2_with fail
    refine (nearc _ _ _ HN _).mono ?_; rintro x w4 ⟨rfl, h4⟩
    go_wp2_with fail
    refine (nearc _ _ _ HN2 _).mono ?_; rintro x w5 ⟨rfl, h5⟩
    go_wp2_with fail
    refine (floorc _ _ _ H5 _).mono ?_; rintro x w6 ⟨rfl, h6⟩
    go_wp2_with fail
    refine (restc _ _ _ H6 _).mono ?_; rintro x w7 ⟨rfl, h7⟩
    go_wp2
    go_ret
    exact ⟨rfl, by repeat (first | exact Below.refl _ _ | (refine below_join ?_ (by assumption)))⟩

/-! ### Signs -/
theorem may_neg {a b c : Int} (h1 : -9223372036854775808 ≤ a) (h2 : a ≤ 9223372036854775807) : mayP (wrap64 (-a)) b c = mayP a b c := by
  unfold mayP; rw [decide_eq_decide]; unfold wrap64; omega
theorem may_neg2 {a b c : Int} (h1 : -9223372036854775808 ≤ b) (h2 : b ≤ 9223372036854775807) : mayP a (wrap64 (-b)) c = mayP a b c := by
  rw [← may_comm, may_neg h1 h2, may_comm]
theorem wrap_neg {a : Int} (h1 : -4611686018427387903 ≤ a) (h2 : a ≤ 4611686018427387903) : wrap64 (-a) = -a := by unfold wrap64; omega
theorem neg_floor {p c : Int} (hc : 0 < c) : (-p) / c = -(p / c) - (if 0 < p % c then 1 else 0) := by
  have h := Int.mul_ediv_add_emod p c
  have h0 := Int.emod_nonneg p (show c ≠ 0 by omega)
  have h1 := Int.emod_lt_of_pos p hc
  by_cases hr : 0 < p % c
  · rw [if_pos hr]
    have e : -p = (c - p % c) + c * (-(p / c) - 1) := by rw [Int.mul_sub, Int.mul_neg]; omega
    rw [e, Int.add_mul_ediv_left _ _ (by omega), Int.ediv_eq_zero_of_lt (by omega) (by omega)]
    omega
  · rw [if_neg hr]
    have e : -p = c * (-(p / c)) := by rw [Int.mul_neg]; omega
    rw [e, Int.mul_ediv_cancel_left _ (by omega)]
    omega
theorem kept_cases (F : Int) : (keptP F = (F, 0) ∧ -4611686018427387903 ≤ F ∧ F ≤ 4611686018427387903) ∨ keptP F = (0, 20) := by
  unfold keptP
  by_cases h : -4611686018427387903 ≤ F ∧ F ≤ 4611686018427387903
  · rw [if_pos h]; exact .inl ⟨rfl, h⟩
  · rw [if_neg h]; exact .inr rfl

set_option maxHeartbeats 1000000 in
theorem signs_walk (a b c : Int) (w : World) (ha : (Lit.int .i64 a).wf = true) (hb : (Lit.int .i64 b).wf = true) (hc : (Lit.int .i64 c).wf = true) :
    Calls Try.prog 6 #[.int .i64 a, .int .i64 b, .int .i64 c] w fun e w' => e = .returned (.bool true) ∧ Below w.heap.size w w' := by
  obtain ⟨a1, a2⟩ := i64_of ha
  obtain ⟨b1, b2⟩ := i64_of hb
  clear ha hb hc
  have hcases : (floorP a b c = (0, 1) ∧ restP a b c = (0, 1) ∧ floorP (wrap64 (-a)) b c = (0, 1) ∧ floorP (wrap64 (-a)) (wrap64 (-b)) c = (0, 1))
      ∨ ∃ F r k : Int, 0 ≤ r ∧ ((0 < r ∧ k = 1) ∨ (¬ 0 < r ∧ k = 0)) ∧ floorP a b c = keptP F ∧ restP a b c = (r, 0) ∧ floorP (wrap64 (-a)) b c = keptP (-F - k) ∧ floorP (wrap64 (-a)) (wrap64 (-b)) c = keptP F := by
    cases h : mayP a b c with
    | false =>
      have h' : mayP (wrap64 (-a)) b c = false := by rw [may_neg a1 a2]; exact h
      have h'' : mayP (wrap64 (-a)) (wrap64 (-b)) c = false := by rw [may_neg2 b1 b2]; exact h'
      exact .inl ⟨by unfold floorP; rw [h]; rfl, by unfold restP; rw [h]; rfl, by unfold floorP; rw [h']; rfl, by unfold floorP; rw [h'']; rfl⟩
    | true =>
      have hm := may_iff h
      have e1 := wrap_neg (a := a) (by omega) (by omega)
      have e2 := wrap_neg (a := b) (by omega) (by omega)
      have h' : mayP (-a) b c = true := by rw [← e1, may_neg a1 a2]; exact h
      have h'' : mayP (-a) (-b) c = true := by rw [← e2, may_neg2 b1 b2]; exact h'
      rw [e1, e2]
      refine .inr ⟨a * b / c, a * b % c, if 0 < a * b % c then 1 else 0, Int.emod_nonneg _ (by omega), ?_, by unfold floorP; rw [if_pos h], rest_in h, ?_, ?_⟩
      · by_cases hr : 0 < a * b % c <;> simp [hr]
      · unfold floorP; rw [if_pos h', Int.neg_mul, neg_floor (by omega)]
      · unfold floorP; rw [if_pos h'', Int.neg_mul_neg]
  clear a1 a2 b1 b2
  rcases hcases with ⟨hF, hR, hG, hH⟩ | ⟨F, r, k, hr0, hk, hF, hR, hG, hH⟩
  · have HF := Lib.hid hF; have HR := Lib.hid hR; have HG := Lib.hid hG; have HH := Lib.hid hH
    clear hF hR hG hH
    go_enter Try.func6, Try.ntmps6
    go_wp2_with fail
    refine (awake_any _).mono ?_; rintro x w1 ⟨rfl, h1⟩
    go_wp2_with fail
    refine (floorc _ _ _ HF _).mono ?_; rintro x w2 ⟨rfl, h2⟩
    go_wp2_with fail
    refine (restc _ _ _ HR _).mono ?_; rintro x w3 ⟨rfl, h3⟩
    go_wp2_with fail
    refine (floorc _ _ _ HG _).mono ?_; rintro x w4 ⟨rfl, h4⟩
    go_wp2_with fail
    refine (floorc _ _ _ HH _).mono ?_; rintro x w5 ⟨rfl, h5⟩
    go_wp2
    go_ret
    exact ⟨rfl, by repeat (first | exact Below.refl _ _ | (refine below_join ?_ (by assumption)))⟩
  · rcases kept_cases F with ⟨kF, f1, f2⟩ | kF <;> rcases kept_cases (-F - k) with ⟨kG, g1, g2⟩ | kG <;> rw [kF] at hF hH <;> rw [kG] at hG <;> rcases hk with ⟨hr, rfl⟩ | ⟨hr, rfl⟩
    all_goals
      have HF := Lib.hid hF; have HR := Lib.hid hR; have HG := Lib.hid hG; have HH := Lib.hid hH
      clear hF hR hG hH kF kG
      go_enter Try.func6, Try.ntmps6
      go_wp2_with fail
      refine (awake_any _).mono ?_; rintro x w1 ⟨rfl, h1⟩
      go_wp2_with fail
      refine (floorc _ _ _ HF _).mono ?_; rintro x w2 ⟨rfl, h2⟩
      go_wp2_with fail
      refine (restc _ _ _ HR _).mono ?_; rintro x w3 ⟨rfl, h3⟩
      go_wp2_with fail
      refine (floorc _ _ _ HG _).mono ?_; rintro x w4 ⟨rfl, h4⟩
      go_wp2_with fail
      refine (floorc _ _ _ HH _).mono ?_; rintro x w5 ⟨rfl, h5⟩
      go_wp2
      go_ret
      exact ⟨rfl, by repeat (first | exact Below.refl _ _ | (refine below_join ?_ (by assumption)))⟩

/-! ### Near -/
set_option maxHeartbeats 1000000 in
theorem near_walk (a b c : Int) (w : World) (ha : (Lit.int .i64 a).wf = true) (hb : (Lit.int .i64 b).wf = true) (hc : (Lit.int .i64 c).wf = true) :
    Calls Try.prog 8 #[.int .i64 a, .int .i64 b, .int .i64 c] w fun e w' => e = .returned (.bool true) ∧ Below w.heap.size w w' := by
  clear ha hb hc
  have hcases : (nearP a b c = (0, 1) ∧ floorP a b c = (0, 1) ∧ restP a b c = (0, 1))
      ∨ ∃ F r k : Int, 0 ≤ r ∧ r < c ∧ c ≤ 4611686018427387903 ∧ ((c ≤ 2 * r ∧ k = 1) ∨ (¬ c ≤ 2 * r ∧ k = 0)) ∧ nearP a b c = keptP (F + k) ∧ floorP a b c = keptP F ∧ restP a b c = (r, 0) := by
    cases h : mayP a b c with
    | false =>
      exact .inl ⟨by unfold nearP; rw [h]; rfl, by unfold floorP; rw [h]; rfl, by unfold restP; rw [h]; rfl⟩
    | true =>
      have hm := may_iff h
      refine .inr ⟨a * b / c, a * b % c, if c ≤ 2 * (a * b % c) then 1 else 0, Int.emod_nonneg _ (by omega), Int.emod_lt_of_pos _ (by omega), by omega, ?_, by unfold nearP; rw [if_pos h], by unfold floorP; rw [if_pos h], rest_in h⟩
      by_cases hr : c ≤ 2 * (a * b % c) <;> simp [hr]
  rcases hcases with ⟨hN, hF, hR⟩ | ⟨F, r, k, hr0, hr1, hr2, hk, hN, hF, hR⟩
  · have HF := Lib.hid hF; have HR := Lib.hid hR; have HN := Lib.hid hN
    clear hF hR hN
    go_enter Try.func8, Try.ntmps8
    go_wp2_with fail
    refine (awake_any _).mono ?_; rintro x w1 ⟨rfl, h1⟩
    go_wp2_with fail
    refine (nearc _ _ _ HN _).mono ?_; rintro x w2 ⟨rfl, h2⟩
    go_wp2_with fail
    refine (floorc _ _ _ HF _).mono ?_; rintro x w3 ⟨rfl, h3⟩
    go_wp2_with fail
    refine (restc _ _ _ HR _).mono ?_; rintro x w4 ⟨rfl, h4⟩
    go_wp2
    go_ret
    exact ⟨rfl, by repeat (first | exact Below.refl _ _ | (refine below_join ?_ (by assumption)))⟩
  · rcases kept_cases F with ⟨kF, f1, f2⟩ | kF <;> rcases kept_cases (F + k) with ⟨kG, g1, g2⟩ | kG <;> rw [kF] at hF <;> rw [kG] at hN <;> rcases hk with ⟨hr, rfl⟩ | ⟨hr, rfl⟩
    all_goals
      have HF := Lib.hid hF; have HR := Lib.hid hR; have HN := Lib.hid hN
      clear hF hR hN kF kG
      go_enter Try.func8, Try.ntmps8
      go_wp2_with fail
      refine (awake_any _).mono ?_; rintro x w1 ⟨rfl, h1⟩
      go_wp2_with fail
      refine (nearc _ _ _ HN _).mono ?_; rintro x w2 ⟨rfl, h2⟩
      go_wp2_with fail
      refine (floorc _ _ _ HF _).mono ?_; rintro x w3 ⟨rfl, h3⟩
      go_wp2_with fail
      refine (restc _ _ _ HR _).mono ?_; rintro x w4 ⟨rfl, h4⟩
      go_wp2
      go_ret
      exact ⟨rfl, by repeat (first | exact Below.refl _ _ | (refine below_join ?_ (by assumption)))⟩

end Go.Proofs.Ytnipipbpinpfmaa.Mul
