/- The statements BadRises, BadScales. -/
import Derived.Test.YtegmkabhmhbjpaaBadPlain
namespace Go.Proofs.Ytegmkabhmhbjpaa.Bad
open Go.RowKit Go.Proofs.Ytegmkabhmhbjpaa.Kit
set_option linter.unusedVariables false
set_option linter.unusedSimpArgs false

set_option maxHeartbeats 1000000 in
theorem rises_walk (t m s : Int) (w : World) (ht : (Lit.int .i64 t).wf = true) (hm : (Lit.int .u32 m).wf = true) (hs : (Lit.int .i64 s).wf = true) :
    Calls Try.prog 4 #[.int .i64 t, .int .u32 m, .int .i64 s] w fun e w' => e = .returned (.bool true) ∧ Below w.heap.size w w' := by
  obtain ⟨t1, t2⟩ := i64_of ht
  obtain ⟨m1, m2⟩ := u32_of hm
  obtain ⟨s1, s2⟩ := i64_of hs
  clear ht hm hs
  obtain ⟨n, HN⟩ : ∃ n, Hid (badP (cl t) (cl s) = n) := ⟨_, Lib.hid rfl⟩
  have k4 : (n : Int) ≤ 10000 := by have := badP_le (cl t) (cl s); rw [HN.out] at this; omega
  have k5 : (0 : Int) ≤ n := by omega
  by_cases f1 : 1099511627776 < t
  · go_enter Try.func4, Try.ntmps4
    go_wp2_with (first
      | (go_at_call 9; refine (awake_any _).mono ?_; rintro e w1 ⟨rfl, h1⟩)
      | (go_at_call 10; with_reducible refine (badc t s HN _).mono ?_; rintro e w1 ⟨rfl, h1⟩))
    go_ret
    exact ⟨rfl, by repeat (first | exact Below.refl _ _ | (refine below_join ?_ (by assumption)))⟩
  by_cases f2 : 1099511627776 < s
  · go_enter Try.func4, Try.ntmps4
    go_wp2_with (first
      | (go_at_call 9; refine (awake_any _).mono ?_; rintro e w1 ⟨rfl, h1⟩)
      | (go_at_call 10; with_reducible refine (badc t s HN _).mono ?_; rintro e w1 ⟨rfl, h1⟩))
    go_ret
    exact ⟨rfl, by repeat (first | exact Below.refl _ _ | (refine below_join ?_ (by assumption)))⟩
  obtain ⟨p, HP⟩ : ∃ n, Hid (badP (cl (t + m)) (cl s) = n) := ⟨_, Lib.hid rfl⟩
  obtain ⟨q, HQ⟩ : ∃ n, Hid (badP (cl t) (cl (s + m)) = n) := ⟨_, Lib.hid rfl⟩
  have k1 : (n : Int) ≤ p := by have := badP_mono (cl_mono (show t ≤ t + m by omega)) (Nat.le_refl (cl s)); rw [HN.out, HP.out] at this; omega
  have k2 : (q : Int) ≤ n := by have := badP_mono (Nat.le_refl (cl t)) (cl_mono (show s ≤ s + m by omega)); rw [HN.out, HQ.out] at this; omega
  by_cases hs : s ≤ 0
  · go_enter Try.func4, Try.ntmps4
    go_wp2_with (first
      | (go_at_call 9; refine (awake_any _).mono ?_; rintro e w1 ⟨rfl, h1⟩)
      | (go_at_call 10; with_reducible refine (badc t s HN _).mono ?_; rintro e w1 ⟨rfl, h1⟩)
      | (go_at_call 10; with_reducible refine (badc (t + m) s HP _).mono ?_; rintro e w1 ⟨rfl, h1⟩)
      | (go_at_call 10; with_reducible refine (badc t (s + m) HQ _).mono ?_; rintro e w1 ⟨rfl, h1⟩))
    go_ret
    exact ⟨rfl, by repeat (first | exact Below.refl _ _ | (refine below_join ?_ (by assumption)))⟩
  · have HS : Hid (badP (cl s) (cl s) = 100) := Lib.hid (badP_same (fun h => hs (cl_zero.1 h)))
    go_enter Try.func4, Try.ntmps4
    go_wp2_with (first
      | (go_at_call 9; refine (awake_any _).mono ?_; rintro e w1 ⟨rfl, h1⟩)
      | (go_at_call 10; with_reducible refine (badc t s HN _).mono ?_; rintro e w1 ⟨rfl, h1⟩)
      | (go_at_call 10; with_reducible refine (badc s s HS _).mono ?_; rintro e w1 ⟨rfl, h1⟩)
      | (go_at_call 10; with_reducible refine (badc (t + m) s HP _).mono ?_; rintro e w1 ⟨rfl, h1⟩)
      | (go_at_call 10; with_reducible refine (badc t (s + m) HQ _).mono ?_; rintro e w1 ⟨rfl, h1⟩))
    go_ret
    exact ⟨rfl, by repeat (first | exact Below.refl _ _ | (refine below_join ?_ (by assumption)))⟩

theorem badn (X Y : Nat) (hX : Hid (X ≤ 1073741823)) (hY : Hid (Y ≤ 1073741823)) {x y : Int} (hx : Hid (x = X)) (hy : Hid (y = Y)) {v : Nat} (hv : Hid (badP X Y = v)) (w : World) :
    Calls Try.prog 10 #[.int .i64 x, .int .i64 y] w fun e w' => e = .returned (.int .i64 v) ∧ Below w.heap.size w w' := by
  have e1 := hx.out; have e2 := hy.out
  subst e1; subst e2
  refine badc _ _ (Lib.hid ?_) w
  rw [cl_nat hX.out, cl_nat hY.out]
  exact hv.out

set_option maxHeartbeats 1000000 in
theorem scales_walk (t s : Int) (w : World) (ht : (Lit.int .u32 t).wf = true) (hs : (Lit.int .u32 s).wf = true) :
    Calls Try.prog 5 #[.int .u32 t, .int .u32 s] w fun e w' => e = .returned (.bool true) ∧ Below w.heap.size w w' := by
  obtain ⟨t1, t2⟩ := u32_of ht
  obtain ⟨s1, s2⟩ := u32_of hs
  clear ht hs
  obtain ⟨x, hx⟩ : ∃ x : Nat, t % 268435456 = x := ⟨(t % 268435456).toNat, by omega⟩
  obtain ⟨y, hy⟩ : ∃ y : Nat, s % 268435456 = y := ⟨(s % 268435456).toNat, by omega⟩
  have x2 : x < 268435456 := by omega
  have y2 : y < 268435456 := by omega
  have HX := Lib.hid hx
  have HY := Lib.hid hy
  clear hx hy
  obtain ⟨n, HN⟩ : ∃ n, Hid (badP x y = n) := ⟨_, Lib.hid rfl⟩
  obtain ⟨p, HP⟩ : ∃ n, Hid (badP (2 * x) y = n) := ⟨_, Lib.hid rfl⟩
  have H2 : Hid (badP (2 * x) (2 * y) = n) := Lib.hid (by rw [badP_twice]; exact HN.out)
  have H4 : Hid (badP (4 * x) (4 * y) = n) := Lib.hid (by rw [show 4 * x = 2 * (2 * x) by omega, show 4 * y = 2 * (2 * y) by omega, badP_twice, badP_twice]; exact HN.out)
  have hn : (n : Int) ≤ 10000 := by have := badP_le x y; rw [HN.out] at this; omega
  have hp : (p : Int) ≤ 10000 := by have := badP_le (2 * x) y; rw [HP.out] at this; omega
  have k : p = 10000 ∨ 8 * n ≤ p + 4 ∧ p ≤ 8 * n + 4 := by have := badP_eight x y; rwa [HP.out, HN.out] at this
  have L1 : Hid (x ≤ 1073741823) := Lib.hid (by omega)
  have L2 : Hid (y ≤ 1073741823) := Lib.hid (by omega)
  have L3 : Hid (2 * x ≤ 1073741823) := Lib.hid (by omega)
  have L4 : Hid (2 * y ≤ 1073741823) := Lib.hid (by omega)
  have L5 : Hid (4 * x ≤ 1073741823) := Lib.hid (by omega)
  have L6 : Hid (4 * y ≤ 1073741823) := Lib.hid (by omega)
  by_cases hp1 : p = 10000
  · subst hp1
    clear k
    go_enter Try.func5, Try.ntmps5
    go_wp2_with fail
    refine (awake_any _).mono ?_; rintro e w1 ⟨rfl, h1⟩
    go_wp2_with fail
    rw [HX.out, HY.out]
    refine (badn x y L1 L2 (Lib.hid rfl) (Lib.hid rfl) HN _).mono ?_; rintro e w2 ⟨rfl, h2⟩
    go_wp2_with fail
    refine (badn (2 * x) (2 * y) L3 L4 (Lib.hid (by omega)) (Lib.hid (by omega)) H2 _).mono ?_; rintro e w3 ⟨rfl, h3⟩
    go_wp2_with fail
    refine (badn (4 * x) (4 * y) L5 L6 (Lib.hid (by omega)) (Lib.hid (by omega)) H4 _).mono ?_; rintro e w4 ⟨rfl, h4⟩
    go_wp2_with fail
    refine (badn (2 * x) y L3 L2 (Lib.hid (by omega)) (Lib.hid rfl) HP _).mono ?_; rintro e w5 ⟨rfl, h5⟩
    go_wp2
    go_ret
    exact ⟨rfl, by repeat (first | exact Below.refl _ _ | (refine below_join ?_ (by assumption)))⟩
  · have k1 : 8 * (n : Int) - 4 ≤ p := by omega
    have k2 : (p : Int) ≤ 8 * n + 4 := by omega
    have k3 : ((p : Int) == 10000) = false := by simpa using (show ¬ (p : Int) = 10000 by omega)
    clear k hp1
    go_enter Try.func5, Try.ntmps5
    go_wp2_with fail
    refine (awake_any _).mono ?_; rintro e w1 ⟨rfl, h1⟩
    go_wp2_with fail
    rw [HX.out, HY.out]
    refine (badn x y L1 L2 (Lib.hid rfl) (Lib.hid rfl) HN _).mono ?_; rintro e w2 ⟨rfl, h2⟩
    go_wp2_with fail
    refine (badn (2 * x) (2 * y) L3 L4 (Lib.hid (by omega)) (Lib.hid (by omega)) H2 _).mono ?_; rintro e w3 ⟨rfl, h3⟩
    go_wp2_with fail
    refine (badn (4 * x) (4 * y) L5 L6 (Lib.hid (by omega)) (Lib.hid (by omega)) H4 _).mono ?_; rintro e w4 ⟨rfl, h4⟩
    go_wp2_with fail
    refine (badn (2 * x) y L3 L2 (Lib.hid (by omega)) (Lib.hid rfl) HP _).mono ?_; rintro e w5 ⟨rfl, h5⟩
    go_wp2
    go_ret
    exact ⟨rfl, by repeat (first | exact Below.refl _ _ | (refine below_join ?_ (by assumption)))⟩

end Go.Proofs.Ytegmkabhmhbjpaa.Bad
