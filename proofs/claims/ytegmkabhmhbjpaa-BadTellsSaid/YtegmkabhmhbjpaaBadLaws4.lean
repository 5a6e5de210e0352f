/- The statement BadTells. -/
import Derived.Test.YtegmkabhmhbjpaaBadPlain
import Derived.Test.YtegmkabhmhbjpaaBadRef3
namespace Go.Proofs.Ytegmkabhmhbjpaa.Bad
open Go.RowKit Go.Proofs.Ytegmkabhmhbjpaa.Kit
set_option linter.unusedVariables false
set_option linter.unusedSimpArgs false

theorem reffit_any (b : Int) (s : Bool) (w : World) :
    Calls Try.prog 13 #[.int .i64 b, .bool s] w fun e w' => e = .returned (.int .i64 (fitP b s)) ∧ w = w' := by
  by_cases h1 : b ≤ 12
  · rw [show fitP b s = 1 by simp [fitP, h1]]
    go_enter Try.func13, Try.ntmps13
    go_wp2
    go_ret
    exact ⟨rfl, rfl⟩
  cases s with
  | true =>
    rw [show fitP b true = 0 by simp [fitP, h1]]
    go_enter Try.func13, Try.ntmps13
    go_wp2
    go_ret
    exact ⟨rfl, rfl⟩
  | false =>
    by_cases h2 : b ≤ 99
    · rw [show fitP b false = 2 by simp [fitP, h1, h2]]
      go_enter Try.func13, Try.ntmps13
      go_wp2
      go_ret
      exact ⟨rfl, rfl⟩
    · rw [show fitP b false = 3 by simp [fitP, h1, h2]]
      go_enter Try.func13, Try.ntmps13
      go_wp2
      go_ret
      exact ⟨rfl, rfl⟩
theorem reffitc (b : Int) (s : Bool) (v : Int) (hv : Hid (fitP b s = v)) (w : World) :
    Calls Try.prog 13 #[.int .i64 b, .bool s] w fun e w' => e = .returned (.int .i64 v) ∧ w = w' := by
  rw [← hv.out]; exact reffit_any b s w
theorem refbadc (t s : Int) {v : Nat} (hv : Hid (badP (cl t) (cl s) = v)) (w : World) :
    Calls Try.prog 11 #[.int .i64 t, .int .i64 s] w fun e w' => e = .returned (.int .i64 v) ∧ Below w.heap.size w w' := by
  rw [← hv.out]; exact refbad_any t s w

set_option maxHeartbeats 4000000 in
theorem tells_walk (t s : Int) (h : Bool) (w : World) (ht : (Lit.int .i64 t).wf = true) (hs : (Lit.int .i64 s).wf = true) :
    Calls Try.prog 3 #[.int .i64 t, .int .i64 s, .bool h] w fun e w' => e = .returned (.bool true) ∧ Below w.heap.size w w' := by
  clear ht hs
  obtain ⟨n, HN⟩ : ∃ n, Hid (badP (cl t) (cl s) = n) := ⟨_, Lib.hid rfl⟩
  obtain ⟨p, HP⟩ : ∃ p, Hid (fitP (n : Int) h = p) := ⟨_, Lib.hid rfl⟩
  obtain ⟨q, HQ⟩ : ∃ q, Hid (fitP t h = q) := ⟨_, Lib.hid rfl⟩
  go_enter Try.func3, Try.ntmps3
  go_wp2_with fail
  refine (awake_any _).mono ?_; rintro e w1 ⟨rfl, h1⟩
  go_wp2_with fail
  refine (badc t s HN _).mono ?_; rintro e w2 ⟨rfl, h2⟩
  go_wp2_with fail
  refine (refbadc t s HN _).mono ?_; rintro e w3 ⟨rfl, h3⟩
  go_wp2_with fail
  refine (fitc _ _ p HP _).mono ?_; rintro e w4 ⟨rfl, rfl⟩
  go_wp2_with fail
  refine (reffitc _ _ p HP _).mono ?_; rintro e w4 ⟨rfl, rfl⟩
  go_wp2_with fail
  refine (fitc _ _ q HQ _).mono ?_; rintro e w4 ⟨rfl, rfl⟩
  go_wp2_with fail
  refine (reffitc _ _ q HQ _).mono ?_; rintro e w4 ⟨rfl, rfl⟩
  go_wp2
  go_ret
  exact ⟨rfl, by repeat (first | exact Below.refl _ _ | (refine below_join ?_ (by assumption)))⟩

end Go.Proofs.Ytegmkabhmhbjpaa.Bad
