/- Layer 3: the classes, and the calls at the head of all statements. -/
import Derived.Test.YtegmkabhmhbjpaaBadFull
namespace Go.Proofs.Ytegmkabhmhbjpaa.Bad
open Go.RowKit Go.Proofs.Ytegmkabhmhbjpaa.Kit
set_option linter.unusedVariables false
set_option linter.unusedSimpArgs false

def fitP (b : Int) (s : Bool) : Int := if b ≤ 12 then 1 else if s then 0 else if b ≤ 99 then 2 else 3

theorem fit_any (b : Int) (s : Bool) (w : World) :
    Calls Try.prog 12 #[.int .i64 b, .bool s] w fun e w' => e = .returned (.int .i64 (fitP b s)) ∧ w = w' := by
  by_cases h1 : b ≤ 12
  · rw [show fitP b s = 1 by simp [fitP, h1]]
    go_enter Try.func12, Try.ntmps12
    go_wp2
    go_ret
    exact ⟨rfl, rfl⟩
  cases s with
  | true =>
    rw [show fitP b true = 0 by simp [fitP, h1]]
    go_enter Try.func12, Try.ntmps12
    go_wp2
    go_ret
    exact ⟨rfl, rfl⟩
  | false =>
    by_cases h2 : b ≤ 99
    · rw [show fitP b false = 2 by simp [fitP, h1, h2]]
      go_enter Try.func12, Try.ntmps12
      go_wp2
      go_ret
      exact ⟨rfl, rfl⟩
    · rw [show fitP b false = 3 by simp [fitP, h1, h2]]
      go_enter Try.func12, Try.ntmps12
      go_wp2
      go_ret
      exact ⟨rfl, rfl⟩

theorem badc (t s : Int) {v : Nat} (hv : Hid (badP (cl t) (cl s) = v)) (w : World) :
    Calls Try.prog 10 #[.int .i64 t, .int .i64 s] w fun e w' => e = .returned (.int .i64 v) ∧ Below w.heap.size w w' := by
  rw [← hv.out]; exact bad_any t s w
theorem badk (t s v : Int) (hv : ((badP (cl t) (cl s) : Nat) : Int) = v) (w : World) :
    Calls Try.prog 10 #[.int .i64 t, .int .i64 s] w fun e w' => e = .returned (.int .i64 v) ∧ Below w.heap.size w w' := by
  rw [← hv]; exact bad_any t s w
theorem fitc (b : Int) (s : Bool) (v : Int) (hv : Hid (fitP b s = v)) (w : World) :
    Calls Try.prog 12 #[.int .i64 b, .bool s] w fun e w' => e = .returned (.int .i64 v) ∧ w = w' := by
  rw [← hv.out]; exact fit_any b s w

set_option maxHeartbeats 1000000 in
theorem awake_any (w : World) : Calls Try.prog 9 #[] w fun e w' => e = .returned (.bool true) ∧ Below w.heap.size w w' := by
  go_enter Try.func9, Try.ntmps9
  go_wp2_with fail
  refine (badk 1 2 13 (by decide) _).mono ?_; rintro e w1 ⟨rfl, h1⟩
  go_wp2_with fail
  refine (badk 5 5 100 (by decide) _).mono ?_; rintro e w2 ⟨rfl, h2⟩
  go_wp2_with fail
  refine (badk 0 0 0 (by decide) _).mono ?_; rintro e w3 ⟨rfl, h3⟩
  go_wp2_with fail
  refine (badk 1 0 10000 (by decide) _).mono ?_; rintro e w4 ⟨rfl, h4⟩
  go_wp2_with fail
  refine (badk (-3) 1 0 (by decide) _).mono ?_; rintro e w5 ⟨rfl, h5⟩
  go_wp2_with fail
  refine (badk 1099511627776 2199023255552 100 (by decide) _).mono ?_; rintro e w6 ⟨rfl, h6⟩
  go_wp2_with fail
  refine (fitc 12 true 1 (Lib.hid (by decide)) _).mono ?_; rintro e w7 ⟨rfl, rfl⟩
  go_wp2_with fail
  refine (fitc 13 true 0 (Lib.hid (by decide)) _).mono ?_; rintro e w7 ⟨rfl, rfl⟩
  go_wp2_with fail
  refine (fitc 99 false 2 (Lib.hid (by decide)) _).mono ?_; rintro e w7 ⟨rfl, rfl⟩
  go_wp2_with fail
  refine (fitc 100 false 3 (Lib.hid (by decide)) _).mono ?_; rintro e w7 ⟨rfl, rfl⟩
  go_wp2_with fail
  go_ret
  exact ⟨rfl, by repeat (first | exact Below.refl _ _ | apply below_alloc | (refine below_join ?_ (by assumption)))⟩

end Go.Proofs.Ytegmkabhmhbjpaa.Bad
