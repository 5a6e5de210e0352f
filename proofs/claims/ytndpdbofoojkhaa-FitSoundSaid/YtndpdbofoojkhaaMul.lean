/- Products over a number: what the program's calls answer. -/
import Derived.Test.YtndpdbofoojkhaaDiv64
import Derived.Test.YtndpdbofoojkhaaMulPlain
import Derived.Laws.Externs
namespace Go.Proofs.Ytndpdbofoojkhaa.Mul
open Go.RowKit Go.Proofs.Ytndpdbofoojkhaa.Kit
set_option linter.unusedVariables false
set_option linter.unusedSimpArgs false

theorem size_any (n : Int) (h1 : -4611686018427387904 ≤ n) (h2 : n ≤ 4611686018427387904) (w : World) :
    Calls Try.prog 90 #[.int .i64 n] w fun e w' => e = .returned (.int .u64 (max n (-n))) ∧ w = w' := by
  have E : Hid (IntKind.u64.wrap (max n (-n)) = max n (-n)) := Lib.hid (by rw [IntKind.wrap_u64]; omega)
  go_enter Try.func90, Try.ntmps90
  go_wp2
  go_ret
  exact ⟨rfl, rfl⟩

def inB (n : Int) : Bool := decide (-4611686018427387903 ≤ n ∧ n ≤ 4611686018427387903)
theorem may_out {a b : Int} (c : Int) (h : inB a = false ∨ inB b = false) : mayP a b c = false := by
  unfold mayP inB at *
  simp only [decide_eq_false_iff_not] at *
  omega
set_option maxHeartbeats 1000000 in
theorem may_any (a b c : Int) (w : World) :
    Calls Try.prog 82 #[.int .i64 a, .int .i64 b, .int .i64 c] w fun e w' => e = .returned (.bool (mayP a b c)) ∧ w = w' := by
  have i0 : ∀ w, (Instr.index 107 (.agg #[.int .i64 a, .int .i64 b]) (.int .i64 0)).run Try.prog w = .ok (.int .i64 a) w := fun _ => by kernel_rfl
  have i1 : ∀ w, (Instr.index 107 (.agg #[.int .i64 a, .int .i64 b]) (.int .i64 1)).run Try.prog w = .ok (.int .i64 b) w := fun _ => by kernel_rfl
  obtain ⟨r, hr⟩ : ∃ r, Hid (mayP a b c = r) := ⟨_, Lib.hid rfl⟩
  rw [hr.out]
  go_enter Try.func82, Try.ntmps82
  go_wp2
  go_loop [9] (fun i => ∃ k : Nat, i = .int .i64 k ∧ k ≤ 2 ∧ (1 ≤ k → Hid (inB a = true)) ∧ (2 ≤ k → Hid (inB b = true))) (fun i => 2 - (intOf i).toNat)
  case atStart => exact ⟨0, rfl, by omega, fun h => by omega, fun h => by omega⟩
  case round =>
    obtain ⟨k, rfl, hk, ha, hb⟩ := hrel
    rcases (by omega : k = 0 ∨ k = 1 ∨ k = 2) with rfl | rfl | rfl
    · clear ha hb
      cases hA : inB a with
      | false =>
        have HR : Hid (r = false) := Lib.hid (by rw [← hr.out]; exact may_out c (.inl hA))
        have hA' : a < -4611686018427387903 ∨ ¬ a < -4611686018427387903 ∧ 4611686018427387903 < a := by unfold inB at hA; simp only [decide_eq_false_iff_not] at hA; omega
        clear hA
        rcases hA' with h | ⟨h, h'⟩
        all_goals
          go_wp2
          go_ret
          exact ⟨ret_bool rfl HR.out.symm, rfl⟩
      | true =>
        have hA' : -4611686018427387903 ≤ a ∧ a ≤ 4611686018427387903 := by unfold inB at hA; exact of_decide_eq_true hA
        obtain ⟨h, h'⟩ := hA'
        have HA := Lib.hid hA
        clear hA
        go_wp2
        go_round
        case rel => exact ⟨1, by go_num, by omega, fun _ => by first | exact HA | exact Lib.hid trivial, fun h => by omega⟩
        case measure => simp [intOf]
    · have HA := ha (by omega)
      clear ha hb
      cases hA : inB b with
      | false =>
        have HR : Hid (r = false) := Lib.hid (by rw [← hr.out]; exact may_out c (.inr hA))
        have hA' : b < -4611686018427387903 ∨ ¬ b < -4611686018427387903 ∧ 4611686018427387903 < b := by unfold inB at hA; simp only [decide_eq_false_iff_not] at hA; omega
        clear hA
        rcases hA' with h | ⟨h, h'⟩
        all_goals
          go_wp2
          go_ret
          exact ⟨ret_bool rfl HR.out.symm, rfl⟩
      | true =>
        have hA' : -4611686018427387903 ≤ b ∧ b ≤ 4611686018427387903 := by unfold inB at hA; exact of_decide_eq_true hA
        obtain ⟨h, h'⟩ := hA'
        have HB := Lib.hid hA
        clear hA
        go_wp2
        go_round
        case rel => exact ⟨2, by go_num, by omega, fun _ => HA, fun _ => by first | exact HB | exact Lib.hid trivial⟩
        case measure => simp [intOf]
    · have HA := ha (by omega)
      have HB := hb (by omega)
      clear ha hb
      have HC : Hid (r = (decide (1 ≤ c) && decide (c ≤ 4611686018427387903))) := Lib.hid (by
        have h1 := HA.out; have h2 := HB.out
        rw [← hr.out]
        unfold mayP inB at *
        have h1 := of_decide_eq_true h1; have h2 := of_decide_eq_true h2
        rw [← Bool.decide_and, decide_eq_decide]
        omega)
      clear HA HB
      go_wp2
      all_goals
        go_ret
        exact ⟨ret_bool rfl (by rw [HC.out]; first | (simp; done) | (simp; omega) | (simp [*]; done)), rfl⟩

end Go.Proofs.Ytndpdbofoojkhaa.Mul
