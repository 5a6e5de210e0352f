/- The statement MuldivTells. -/
import Derived.Test.YtnipipbpinpfmaaMulAwake
import Derived.Test.YtnipipbpinpfmaaMulRef4
namespace Go.Proofs.Ytnipipbpinpfmaa.Mul
open Go.RowKit Go.Proofs.Ytnipipbpinpfmaa.Kit
set_option linter.unusedVariables false
set_option linter.unusedSimpArgs false

theorem keep_one (F k : Int) (hk : k = 0 ∨ k = 1) : (if okS F then keptP (valS F + k) else (0, 20)) = keptP (F + k) := by
  by_cases h : -4611686018427387904 ≤ F ∧ F ≤ 4611686018427387904
  · obtain ⟨e1, e2⟩ := okS_in h.1 h.2
    rw [e1, e2]; rfl
  · obtain ⟨e1, e2⟩ := okS_far (F := F) (by omega)
    rw [e2, if_neg (by simp)]
    unfold keptP
    rw [if_neg (by omega)]

set_option maxHeartbeats 1000000 in
theorem rfloor_any (a b c : Int) (w : World) :
    Calls Try.prog 12 #[.int .i64 a, .int .i64 b, .int .i64 c] w fun e w' => e = .returned (.tuple #[.int .i64 (floorP a b c).1, .int .i64 (floorP a b c).2]) ∧ Below w.heap.size w w' := by
  unfold floorP
  have HM : Hid (∀ w, _) := Lib.hid (rmay_any a b c)
  cases hm : mayP a b c with
  | false =>
    rw [if_neg (by simp)]
    rw [hm] at HM
    clear hm
    go_enter Try.func12, Try.ntmps12
    go_wp2_with fail
    refine (HM.out _).mono ?_; rintro e w1 ⟨rfl, rfl⟩
    go_wp2
    go_ret2
    exact ⟨rfl, Below.refl _ _⟩
  | true =>
    rw [if_pos rfl]
    rw [hm] at HM
    have HP : Hid (∀ w, _) := Lib.hid (both_any a b c hm)
    have HK : Hid (∀ w, _) := Lib.hid (kept_any (valS (a * b / c)) (okS (a * b / c)))
    have e := keep_one (a * b / c) 0 (.inl rfl)
    rw [Int.add_zero, Int.add_zero] at e
    rw [e] at HK
    generalize valS (a * b / c) = v at *
    generalize okS (a * b / c) = o at *
    generalize keptP (a * b / c) = k at *
    generalize a * b % c = r at *
    clear hm e
    go_enter Try.func12, Try.ntmps12
    go_wp2_with fail
    refine (HM.out _).mono ?_; rintro e w1 ⟨rfl, rfl⟩
    go_wp2_with fail
    refine (HP.out _).mono ?_; rintro e w1 ⟨rfl, hb1⟩
    go_wp2_with fail
    refine (HK.out _).mono ?_; rintro e w1 ⟨rfl, rfl⟩
    go_wp2
    go_ret2
    exact ⟨rfl, hb1⟩

set_option maxHeartbeats 1000000 in
theorem rrest_any (a b c : Int) (w : World) :
    Calls Try.prog 16 #[.int .i64 a, .int .i64 b, .int .i64 c] w fun e w' => e = .returned (.tuple #[.int .i64 (restP a b c).1, .int .i64 (restP a b c).2]) ∧ Below w.heap.size w w' := by
  unfold restP
  have HM : Hid (∀ w, _) := Lib.hid (rmay_any a b c)
  cases hm : mayP a b c with
  | false =>
    rw [if_neg (by simp)]
    rw [hm] at HM
    clear hm
    go_enter Try.func16, Try.ntmps16
    go_wp2_with fail
    refine (HM.out _).mono ?_; rintro e w1 ⟨rfl, rfl⟩
    go_wp2
    go_ret2
    exact ⟨rfl, Below.refl _ _⟩
  | true =>
    rw [if_pos rfl]
    rw [hm] at HM
    have HP : Hid (∀ w, _) := Lib.hid (both_any a b c hm)
    generalize valS (a * b / c) = v at *
    generalize okS (a * b / c) = o at *
    generalize a * b % c = r at *
    clear hm
    go_enter Try.func16, Try.ntmps16
    go_wp2_with fail
    refine (HM.out _).mono ?_; rintro e w1 ⟨rfl, rfl⟩
    go_wp2_with fail
    refine (HP.out _).mono ?_; rintro e w1 ⟨rfl, hb1⟩
    go_wp2
    go_ret2
    exact ⟨rfl, hb1⟩

set_option maxHeartbeats 1000000 in
theorem rnear_any (a b c : Int) (w : World) :
    Calls Try.prog 14 #[.int .i64 a, .int .i64 b, .int .i64 c] w fun e w' => e = .returned (.tuple #[.int .i64 (nearP a b c).1, .int .i64 (nearP a b c).2]) ∧ Below w.heap.size w w' := by
  unfold nearP
  have HM : Hid (∀ w, _) := Lib.hid (rmay_any a b c)
  cases hm : mayP a b c with
  | false =>
    rw [if_neg (by simp)]
    rw [hm] at HM
    clear hm
    go_enter Try.func14, Try.ntmps14
    go_wp2_with fail
    refine (HM.out _).mono ?_; rintro e w1 ⟨rfl, rfl⟩
    go_wp2
    go_ret2
    exact ⟨rfl, Below.refl _ _⟩
  | true =>
    rw [if_pos rfl]
    rw [hm] at HM
    obtain ⟨m1, m2, m3, m4, m5, m6⟩ := may_iff hm
    have hr1 := Int.emod_nonneg (a * b) (show c ≠ 0 by omega)
    have hr2 := Int.emod_lt_of_pos (a * b) (show 0 < c by omega)
    have HP : Hid (∀ w, _) := Lib.hid (both_any a b c hm)
    have HV : Hid (-4611686018427387904 ≤ valS (a * b / c) ∧ valS (a * b / c) ≤ 4611686018427387904) := Lib.hid (by
      by_cases h : -4611686018427387904 ≤ a * b / c ∧ a * b / c ≤ 4611686018427387904
      · rw [(okS_in h.1 h.2).1]; exact h
      · rw [(okS_far (F := a * b / c) (by omega)).1]; omega)
    clear m1 m2 m3 m4
    by_cases hc : c ≤ 2 * (a * b % c)
    · rw [if_pos hc]
      have HK : Hid (∀ w, _) := Lib.hid (kept_any (valS (a * b / c) + 1) (okS (a * b / c)))
      rw [keep_one (a * b / c) 1 (.inr rfl)] at HK
      generalize valS (a * b / c) = v at *
      generalize okS (a * b / c) = o at *
      generalize keptP (a * b / c + 1) = k at *
      generalize a * b % c = r at *
      have h1 : c - r ≤ r := by omega
      have v1 := HV.out.1
      have v2 := HV.out.2
      clear hm hc HV
      go_enter Try.func14, Try.ntmps14
      go_wp2_with fail
      refine (HM.out _).mono ?_; rintro e w1 ⟨rfl, rfl⟩
      go_wp2_with fail
      refine (HP.out _).mono ?_; rintro e w1 ⟨rfl, hb1⟩
      go_wp2_with fail
      refine (HK.out _).mono ?_; rintro e w1 ⟨rfl, rfl⟩
      go_wp2
      go_ret2
      exact ⟨rfl, hb1⟩
    · rw [if_neg hc]
      have HK : Hid (∀ w, _) := Lib.hid (kept_any (valS (a * b / c)) (okS (a * b / c)))
      have e := keep_one (a * b / c) 0 (.inl rfl)
      rw [Int.add_zero] at e
      rw [e] at HK
      generalize valS (a * b / c) = v at *
      generalize okS (a * b / c) = o at *
      generalize keptP (a * b / c + 0) = k at *
      generalize a * b % c = r at *
      have h1 : ¬ c - r ≤ r := by omega
      clear hm hc HV e
      go_enter Try.func14, Try.ntmps14
      go_wp2_with fail
      refine (HM.out _).mono ?_; rintro e w1 ⟨rfl, rfl⟩
      go_wp2_with fail
      refine (HP.out _).mono ?_; rintro e w1 ⟨rfl, hb1⟩
      go_wp2_with fail
      refine (HK.out _).mono ?_; rintro e w1 ⟨rfl, rfl⟩
      go_wp2
      go_ret2
      exact ⟨rfl, hb1⟩

set_option maxHeartbeats 1000000 in
theorem tells_walk (a b c : Int) (w : World) (ha : (Lit.int .i64 a).wf = true) (hb : (Lit.int .i64 b).wf = true) (hc : (Lit.int .i64 c).wf = true) :
    Calls Try.prog 3 #[.int .i64 a, .int .i64 b, .int .i64 c] w fun e w' => e = .returned (.bool true) ∧ Below w.heap.size w w' := by
  clear ha hb hc
  have H1 : Hid (∀ w, _) := Lib.hid (floor_any a b c)
  have H2 : Hid (∀ w, _) := Lib.hid (rfloor_any a b c)
  have H3 : Hid (∀ w, _) := Lib.hid (near_any a b c)
  have H4 : Hid (∀ w, _) := Lib.hid (rnear_any a b c)
  have H5 : Hid (∀ w, _) := Lib.hid (rest_any a b c)
  have H6 : Hid (∀ w, _) := Lib.hid (rrest_any a b c)
  generalize floorP a b c = p at *
  generalize nearP a b c = q at *
  generalize restP a b c = r at *
  go_enter Try.func3, Try.ntmps3
  go_wp2_with fail
  refine (awake_any _).mono ?_; rintro e w1 ⟨rfl, h1⟩
  go_wp2_with fail
  refine (H1.out _).mono ?_; rintro e w2 ⟨rfl, h2⟩
  go_wp2_with fail
  refine (H2.out _).mono ?_; rintro e w3 ⟨rfl, h3⟩
  go_wp2_with fail
  refine (H3.out _).mono ?_; rintro e w4 ⟨rfl, h4⟩
  go_wp2_with fail
  refine (H4.out _).mono ?_; rintro e w5 ⟨rfl, h5⟩
  go_wp2_with fail
  refine (H5.out _).mono ?_; rintro e w6 ⟨rfl, h6⟩
  go_wp2_with fail
  refine (H6.out _).mono ?_; rintro e w7 ⟨rfl, h7⟩
  go_wp2
  go_ret
  exact ⟨rfl, by repeat (first | exact Below.refl _ _ | (refine below_join ?_ (by assumption)))⟩

end Go.Proofs.Ytnipipbpinpfmaa.Mul
