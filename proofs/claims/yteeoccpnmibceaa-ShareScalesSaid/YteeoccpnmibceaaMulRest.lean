/- Products over a number: the rest, by the plain law (for the layers above). -/
import Derived.Test.YteeoccpnmibceaaMulFloor
namespace Go.Proofs.Yteeoccpnmibceaa.Mul
open Go.RowKit Go.Proofs.Yteeoccpnmibceaa.Kit
set_option linter.unusedVariables false
set_option linter.unusedSimpArgs false

set_option maxHeartbeats 1000000 in
theorem rest_any (a b c : Int) (w : World) :
    Calls Try.prog 16 #[.int .i64 a, .int .i64 b, .int .i64 c] w fun e w' => e = .returned (.tuple #[.int .i64 (restP a b c).1, .int .i64 (restP a b c).2]) ∧ Below w.heap.size w w' := by
  unfold restP
  have HM : Hid (∀ w, _) := Lib.hid (may_any a b c)
  cases hm : mayP a b c with
  | false =>
    rw [if_neg (by simp)]
    rw [hm] at HM
    clear hm
    go_enter Try.func16, Try.ntmps16
    go_wp2_with fail
    refine (HM.out _).mono ?_; rintro e w1 ⟨rfl, rfl⟩
    go_wp2
    go_ret2
    exact ⟨rfl, Below.refl _ _⟩
  | true =>
    rw [if_pos rfl]
    rw [hm] at HM
    obtain ⟨Q, m, hq, hp⟩ := parts_any hm
    have HP := Lib.hid hp
    have hr : 0 ≤ a * b % c ∧ a * b % c < c ∧ c ≤ 4611686018427387903 := by
      have := may_iff hm
      exact ⟨Int.emod_nonneg _ (by omega), Int.emod_lt_of_pos _ (by omega), by omega⟩
    obtain ⟨hr1, hr2, hr3⟩ := hr
    generalize a * b % c = r at *
    have hr4 : r ≤ 4611686018427387903 := by omega
    clear hm hp hq hr2 hr3
    go_enter Try.func16, Try.ntmps16
    go_wp2_with fail
    refine (HM.out _).mono ?_; rintro e w1 ⟨rfl, rfl⟩
    go_wp2_with fail
    refine (HP.out _).mono ?_; rintro e w1 ⟨rfl, hb1⟩
    go_wp2
    go_ret2
    exact ⟨rfl, below_alloc hb1 _⟩

theorem restc (a b c : Int) {q e : Int} (h : Hid (restP a b c = (q, e))) (w : World) :
    Calls Try.prog 16 #[.int .i64 a, .int .i64 b, .int .i64 c] w fun x w' => x = .returned (.tuple #[.int .i64 q, .int .i64 e]) ∧ Below w.heap.size w w' := by
  have := rest_any a b c w; rw [h.out] at this; exact this

end Go.Proofs.Yteeoccpnmibceaa.Mul
