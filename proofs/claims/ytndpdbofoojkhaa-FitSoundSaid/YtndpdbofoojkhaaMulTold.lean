/- Products over a number: the floor, the nearest number, the rest. -/
import Derived.Test.YtndpdbofoojkhaaMulParts
namespace Go.Proofs.Ytndpdbofoojkhaa.Mul
open Go.RowKit Go.Proofs.Ytndpdbofoojkhaa.Kit
set_option linter.unusedVariables false
set_option linter.unusedSimpArgs false

def plusOne (b : Bool) : Int := if b then 1 else 0
theorem kept_far {Q : Nat} (h : 4611686018427387904 < Q) (m b : Bool) : keptP (signed m Q + plusOne b) = (0, 20) := by
  unfold keptP signed plusOne
  rw [if_neg]
  cases m <;> cases b <;> simp <;> omega
set_option maxHeartbeats 1000000 in
theorem told_any (Q : Nat) (m b : Bool) (w : World) :
    Calls Try.prog 84 #[.agg #[.int .u64 ((Q / 18446744073709551616 : Nat) : Int), .int .u64 ((Q % 18446744073709551616 : Nat) : Int)], .bool m, .bool b] w fun e w' => e = .returned (.tuple #[.int .i64 (keptP (signed m Q + plusOne b)).1, .int .i64 (keptP (signed m Q + plusOne b)).2]) ∧ Below w.heap.size w w' := by
  obtain ⟨h, hh⟩ : ∃ h, Q / 18446744073709551616 = h := ⟨_, rfl⟩
  obtain ⟨l, hl⟩ : ∃ l, Q % 18446744073709551616 = l := ⟨_, rfl⟩
  rw [hh, hl]
  have hl2 : l < 18446744073709551616 := by omega
  by_cases hfar : 4611686018427387904 < Q
  · rw [kept_far hfar m b]
    have hc : 0 < h ∨ (¬ 0 < h ∧ 4611686018427387904 < l) := by omega
    clear hh hl hfar
    rcases hc with h1 | ⟨h1, h2⟩
    all_goals
      go_enter Try.func84, Try.ntmps84
      go_wp2
      go_ret2
      exact ⟨rfl, by repeat (first | exact Below.refl _ _ | apply below_alloc)⟩
  · have hh0 : h = 0 := by omega
    have hl3 : l = Q := by omega
    subst hh0; subst hl3
    have hl4 : l ≤ 4611686018427387904 := by omega
    clear hh hl hfar hl2
    obtain ⟨v, hv⟩ : ∃ v, signed m l + plusOne b = v := ⟨_, rfl⟩
    rw [hv]
    have hk : (v < -4611686018427387903 ∧ keptP v = (0, 20)) ∨ (¬ v < -4611686018427387903 ∧ 4611686018427387903 < v ∧ keptP v = (0, 20)) ∨ (¬ v < -4611686018427387903 ∧ ¬ 4611686018427387903 < v ∧ keptP v = (v, 0)) := by
      unfold keptP
      by_cases h1 : v < -4611686018427387903
      · exact .inl ⟨h1, if_neg (by omega)⟩
      · by_cases h2 : 4611686018427387903 < v
        · exact .inr (.inl ⟨h1, h2, if_neg (by omega)⟩)
        · exact .inr (.inr ⟨h1, h2, if_pos (by omega)⟩)
    rcases hk with ⟨k1, k3⟩ | ⟨k1, k2, k3⟩ | ⟨k1, k2, k3⟩
    all_goals
      rw [k3]
      clear k3
      subst hv
      unfold signed plusOne at *
      cases m <;> cases b <;> simp only [Bool.false_eq_true, if_true, if_false, Int.add_zero] at k1 ⊢ <;> (try simp only [Bool.false_eq_true, if_true, if_false, Int.add_zero] at k2)
    all_goals
      first
        | (exfalso; omega)
        | ((first | have F3 := eq_false (show ¬ (4611686018427387903 : Int) < (l : Int) by omega) | have F3 := eq_true (show (4611686018427387903 : Int) < (l : Int) by omega) | skip); have F1 := eq_true k1; clear k1
           go_enter Try.func84, Try.ntmps84
           go_wp2
           go_ret2
           exact ⟨rfl, by repeat (first | exact Below.refl _ _ | apply below_alloc)⟩)
        | ((first | have F3 := eq_false (show ¬ (4611686018427387903 : Int) < (l : Int) by omega) | have F3 := eq_true (show (4611686018427387903 : Int) < (l : Int) by omega) | skip); have F1 := eq_false k1; have F2 := eq_true k2; clear k1 k2
           go_enter Try.func84, Try.ntmps84
           go_wp2
           go_ret2
           exact ⟨rfl, by repeat (first | exact Below.refl _ _ | apply below_alloc)⟩)
        | ((first | have F3 := eq_false (show ¬ (4611686018427387903 : Int) < (l : Int) by omega) | have F3 := eq_true (show (4611686018427387903 : Int) < (l : Int) by omega) | skip); have F1 := eq_false k1; have F2 := eq_false k2; clear k1 k2
           go_enter Try.func84, Try.ntmps84
           go_wp2
           go_ret2
           exact ⟨rfl, by repeat (first | exact Below.refl _ _ | apply below_alloc)⟩)

end Go.Proofs.Ytndpdbofoojkhaa.Mul
