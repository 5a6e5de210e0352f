/- The statements BadClasses, BadEnds, BadRises. -/
import Derived.Test.YtegmkabhmhbjpaaBadPlain
namespace Go.Proofs.Ytegmkabhmhbjpaa.Bad
open Go.RowKit Go.Proofs.Ytegmkabhmhbjpaa.Kit
set_option linter.unusedVariables false
set_option linter.unusedSimpArgs false

theorem fit_key (a b : Int) (h : a ≤ b) : fitP a false ≤ fitP b false ∧ fitP b true ≤ fitP a true ∧ 1 ≤ fitP a false ∧ fitP b false ≤ 3 ∧ 0 ≤ fitP b true ∧ fitP a true ≤ 1 ∧ ((fitP a false == 1) = (fitP a true == 1)) ∧ ((fitP b false == 1) = (fitP b true == 1)) := by
  by_cases a1 : a ≤ 12 <;> by_cases a2 : a ≤ 99 <;> by_cases b1 : b ≤ 12 <;> by_cases b2 : b ≤ 99 <;> simp [fitP, a1, a2, b1, b2] <;> omega

set_option maxHeartbeats 1000000 in
theorem classes_walk (a b : Int) (w : World) (ha : (Lit.int .i64 a).wf = true) (hb : (Lit.int .i64 b).wf = true) :
    Calls Try.prog 8 #[.int .i64 a, .int .i64 b] w fun e w' => e = .returned (.bool true) ∧ Below w.heap.size w w' := by
  clear ha hb
  rcases Int.lt_trichotomy a b with hab | hab | hab
  · skip
    have k := fit_key a b (by omega)
    obtain ⟨x, HX⟩ : ∃ x, Hid (fitP a false = x) := ⟨_, Lib.hid rfl⟩
    obtain ⟨y, HY⟩ : ∃ x, Hid (fitP b false = x) := ⟨_, Lib.hid rfl⟩
    obtain ⟨p, HP⟩ : ∃ x, Hid (fitP a true = x) := ⟨_, Lib.hid rfl⟩
    obtain ⟨q, HQ⟩ : ∃ x, Hid (fitP b true = x) := ⟨_, Lib.hid rfl⟩
    rw [HX.out, HY.out, HP.out, HQ.out] at k
    obtain ⟨k1, k2, k3, k4, k5, k6, k7, k8⟩ := k
    go_enter Try.func8, Try.ntmps8
    go_wp2_with (first
      | (go_at_call 9; refine (awake_any _).mono ?_; rintro e w1 ⟨rfl, h1⟩)
      | (go_at_call 12; with_reducible refine (fitc a false x HX _).mono ?_; rintro e w2 ⟨rfl, rfl⟩)
      | (go_at_call 12; with_reducible refine (fitc b false y HY _).mono ?_; rintro e w2 ⟨rfl, rfl⟩)
      | (go_at_call 12; with_reducible refine (fitc a true p HP _).mono ?_; rintro e w2 ⟨rfl, rfl⟩)
      | (go_at_call 12; with_reducible refine (fitc b true q HQ _).mono ?_; rintro e w2 ⟨rfl, rfl⟩))
    all_goals
      go_ret
      exact ⟨rfl, by repeat (first | exact Below.refl _ _ | (refine below_join ?_ (by assumption)))⟩
  · subst hab
    have k := fit_key a a (by omega)
    obtain ⟨x, HX⟩ : ∃ x, Hid (fitP a false = x) := ⟨_, Lib.hid rfl⟩
    obtain ⟨p, HP⟩ : ∃ x, Hid (fitP a true = x) := ⟨_, Lib.hid rfl⟩
    rw [HX.out, HP.out] at k
    obtain ⟨k1, k2, k3, k4, k5, k6, k7, k8⟩ := k
    go_enter Try.func8, Try.ntmps8
    go_wp2_with (first
      | (go_at_call 9; refine (awake_any _).mono ?_; rintro e w1 ⟨rfl, h1⟩)
      | (go_at_call 12; with_reducible refine (fitc a false x HX _).mono ?_; rintro e w2 ⟨rfl, rfl⟩)
      | (go_at_call 12; with_reducible refine (fitc a true p HP _).mono ?_; rintro e w2 ⟨rfl, rfl⟩))
    all_goals
      go_ret
      exact ⟨rfl, by repeat (first | exact Below.refl _ _ | (refine below_join ?_ (by assumption)))⟩
  · skip
    have k := fit_key b a (by omega)
    obtain ⟨x, HX⟩ : ∃ x, Hid (fitP b false = x) := ⟨_, Lib.hid rfl⟩
    obtain ⟨y, HY⟩ : ∃ x, Hid (fitP a false = x) := ⟨_, Lib.hid rfl⟩
    obtain ⟨p, HP⟩ : ∃ x, Hid (fitP b true = x) := ⟨_, Lib.hid rfl⟩
    obtain ⟨q, HQ⟩ : ∃ x, Hid (fitP a true = x) := ⟨_, Lib.hid rfl⟩
    rw [HX.out, HY.out, HP.out, HQ.out] at k
    obtain ⟨k1, k2, k3, k4, k5, k6, k7, k8⟩ := k
    go_enter Try.func8, Try.ntmps8
    go_wp2_with (first
      | (go_at_call 9; refine (awake_any _).mono ?_; rintro e w1 ⟨rfl, h1⟩)
      | (go_at_call 12; with_reducible refine (fitc b false x HX _).mono ?_; rintro e w2 ⟨rfl, rfl⟩)
      | (go_at_call 12; with_reducible refine (fitc a false y HY _).mono ?_; rintro e w2 ⟨rfl, rfl⟩)
      | (go_at_call 12; with_reducible refine (fitc b true p HP _).mono ?_; rintro e w2 ⟨rfl, rfl⟩)
      | (go_at_call 12; with_reducible refine (fitc a true q HQ _).mono ?_; rintro e w2 ⟨rfl, rfl⟩))
    all_goals
      go_ret
      exact ⟨rfl, by repeat (first | exact Below.refl _ _ | (refine below_join ?_ (by assumption)))⟩

set_option maxHeartbeats 1000000 in
theorem ends_walk (t s : Int) (w : World) (ha : (Lit.int .i64 t).wf = true) (hb : (Lit.int .i64 s).wf = true) :
    Calls Try.prog 7 #[.int .i64 t, .int .i64 s] w fun e w' => e = .returned (.bool true) ∧ Below w.heap.size w w' := by
  clear ha hb
  by_cases hs : s ≤ 0
  · have e0 := cl_zero.2 hs
    have H2 : Hid (badP (cl s) (cl s) = 0) := Lib.hid (by rw [e0]; exact badP_zero 0)
    by_cases ht : t ≤ 0
    · have H1 : Hid (badP (cl t) (cl s) = 0) := Lib.hid (by rw [cl_zero.2 ht]; exact badP_zero _)
      clear e0
      go_enter Try.func7, Try.ntmps7
      go_wp2_with (first
        | (go_at_call 9; refine (awake_any _).mono ?_; rintro e w1 ⟨rfl, h1⟩)
        | (go_at_call 10; with_reducible refine (badc t s H1 _).mono ?_; rintro e w1 ⟨rfl, h1⟩)
        | (go_at_call 10; with_reducible refine (badc s s H2 _).mono ?_; rintro e w1 ⟨rfl, h1⟩))
      go_ret
      exact ⟨rfl, by repeat (first | exact Below.refl _ _ | (refine below_join ?_ (by assumption)))⟩
    · have H1 : Hid (badP (cl t) (cl s) = 10000) := Lib.hid (by rw [e0]; exact badP_none (fun h => ht (cl_zero.1 h)))
      have ht' : 0 < t := by omega
      clear e0
      go_enter Try.func7, Try.ntmps7
      go_wp2_with (first
        | (go_at_call 9; refine (awake_any _).mono ?_; rintro e w1 ⟨rfl, h1⟩)
        | (go_at_call 10; with_reducible refine (badc t s H1 _).mono ?_; rintro e w1 ⟨rfl, h1⟩)
        | (go_at_call 10; with_reducible refine (badc s s H2 _).mono ?_; rintro e w1 ⟨rfl, h1⟩))
      go_ret
      exact ⟨rfl, by repeat (first | exact Below.refl _ _ | (refine below_join ?_ (by assumption)))⟩
  · have hs0 : cl s ≠ 0 := fun h => hs (cl_zero.1 h)
    have H2 : Hid (badP (cl s) (cl s) = 100) := Lib.hid (badP_same hs0)
    obtain ⟨n, H1⟩ : ∃ n, Hid (badP (cl t) (cl s) = n) := ⟨_, Lib.hid rfl⟩
    have k1 : t ≤ s → (n : Int) ≤ 100 := fun h => by
      have := badP_mono (cl_mono h) (Nat.le_refl (cl s)); rw [H1.out, H2.out] at this; omega
    have k2 : s ≤ t → (100 : Int) ≤ n := fun h => by
      have := badP_mono (cl_mono h) (Nat.le_refl (cl s)); rw [H1.out, H2.out] at this; omega
    have k3 : t ≤ 0 → (n : Int) = 0 := fun h => by
      have H := H1.out; rw [cl_zero.2 h, badP_zero] at H; omega
    have k4 : (n : Int) ≤ 10000 := by have := badP_le (cl t) (cl s); rw [H1.out] at this; omega
    have k5 : (0 : Int) ≤ n := by omega
    have m1 : (decide (t > s) || decide ((n : Int) ≤ 100)) = true := by by_cases h : t > s <;> simp [h]; exact k1 (by omega)
    have m2 : (decide (t < s) || decide ((n : Int) ≥ 100)) = true := by by_cases h : t < s <;> simp [h]; exact k2 (by omega)
    have m3 : (decide (t > 0) || ((n : Int) == 0)) = true := by by_cases h : t > 0 <;> simp [h]; have := k3 (by omega); omega
    clear hs0
    rcases Int.lt_trichotomy t s with hc | hc | hc
    · have hc1 := k1 (by omega)
      clear k1 k2
      by_cases h0 : 0 < t
      · clear m1 m2 m3 k3
        go_enter Try.func7, Try.ntmps7
        go_wp2_with (first
          | (go_at_call 9; refine (awake_any _).mono ?_; rintro e w1 ⟨rfl, h1⟩)
          | (go_at_call 10; with_reducible refine (badc t s H1 _).mono ?_; rintro e w1 ⟨rfl, h1⟩)
          | (go_at_call 10; with_reducible refine (badc s s H2 _).mono ?_; rintro e w1 ⟨rfl, h1⟩))
        go_ret
        exact ⟨rfl, by repeat (first | exact Below.refl _ _ | (refine below_join ?_ (by assumption)))⟩
      · have hn : n = 0 := by have := k3 (by omega); omega
        subst hn
        clear m1 m2 m3 k3
        go_enter Try.func7, Try.ntmps7
        go_wp2_with (first
          | (go_at_call 9; refine (awake_any _).mono ?_; rintro e w1 ⟨rfl, h1⟩)
          | (go_at_call 10; with_reducible refine (badc t s H1 _).mono ?_; rintro e w1 ⟨rfl, h1⟩)
          | (go_at_call 10; with_reducible refine (badc s s H2 _).mono ?_; rintro e w1 ⟨rfl, h1⟩))
        go_ret
        exact ⟨rfl, by repeat (first | exact Below.refl _ _ | (refine below_join ?_ (by assumption)))⟩
    · subst hc
      have hn : n = 100 := by have := k1 (by omega); have := k2 (by omega); omega
      have h0 : 0 < t := by omega
      subst hn
      clear m1 m2 m3 k1 k2 k3
      go_enter Try.func7, Try.ntmps7
      go_wp2_with (first
        | (go_at_call 9; refine (awake_any _).mono ?_; rintro e w1 ⟨rfl, h1⟩)
        | (go_at_call 10; with_reducible refine (badc t t H1 _).mono ?_; rintro e w1 ⟨rfl, h1⟩))
      go_ret
      exact ⟨rfl, by repeat (first | exact Below.refl _ _ | (refine below_join ?_ (by assumption)))⟩
    · have hc2 := k2 (by omega)
      have h0 : 0 < t := by omega
      clear k1 k2 m1 m2 m3 k3
      go_enter Try.func7, Try.ntmps7
      go_wp2_with (first
        | (go_at_call 9; refine (awake_any _).mono ?_; rintro e w1 ⟨rfl, h1⟩)
        | (go_at_call 10; with_reducible refine (badc t s H1 _).mono ?_; rintro e w1 ⟨rfl, h1⟩)
        | (go_at_call 10; with_reducible refine (badc s s H2 _).mono ?_; rintro e w1 ⟨rfl, h1⟩))
      go_ret
      exact ⟨rfl, by repeat (first | exact Below.refl _ _ | (refine below_join ?_ (by assumption)))⟩

end Go.Proofs.Ytegmkabhmhbjpaa.Bad
