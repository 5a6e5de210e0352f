/- Badness: what each call answers. -/
import Derived.Test.YtndpdbofoojkhaaBad
namespace Go.Proofs.Ytndpdbofoojkhaa.Bad
open Go.RowKit Go.Proofs.Ytndpdbofoojkhaa.Kit
set_option linter.unusedVariables false
set_option linter.unusedSimpArgs false

theorem times_at {N n : Nat} {m : Int} (hm : Hid (m = n)) (h : Hid (N * n < 340282366920938463463374607431768211456 ∧ n < 18446744073709551616)) (w : World) :
    Calls Try.prog 60 #[.agg #[.int .u64 (lo N), .int .u64 (hi N)], .int .u64 m] w fun e w' => e = .returned (.agg #[.int .u64 (lo (N * n)), .int .u64 (hi (N * n))]) ∧ Below w.heap.size w w' := by
  have e := hm.out
  subst e
  exact times_any N n h.out.1 h.out.2 w

theorem wrap_k {k : Nat} (hk : k ≤ 10000) : IntKind.u64.wrap (2 * IntKind.u64.wrap (IntKind.i64.wrap ((k : Int) + 1))) = ((2 * (k + 1) : Nat) : Int) := by
  rw [IntKind.wrap_i64, IntKind.wrap_u64, IntKind.wrap_u64]
  omega
/-- Is b the least one, or above it? -/
def over (C M k : Nat) : Bool := decide (M < C * (2 * (k + 1)))

set_option maxHeartbeats 1000000 in
theorem clo_any (C M k g5 g6 : Nat) (w : World) (hk : k ≤ 10000) (hC : C ≤ 1238294767935480979882082047) (B5 : Box w g5 #[.int .u64 (lo C), .int .u64 (hi C)] 129) (B6 : Box w g6 #[.int .u64 (lo M), .int .u64 (hi M)] 129) :
    Calls Try.prog 63 #[.int .i64 k, .pointer (some ⟨g5, 0, none⟩), .pointer (some ⟨g6, 0, none⟩)] w fun e w' => e = .returned (.bool (over C M k)) ∧ Below w.heap.size w w' := by
  have H : Hid (C * (2 * (k + 1)) < 340282366920938463463374607431768211456 ∧ 2 * (k + 1) < 18446744073709551616) := Lib.hid (by
    have := Nat.mul_le_mul hC (show 2 * (k + 1) ≤ 20002 by omega)
    omega)
  have HC : Hid (∀ w, Calls Try.prog 64 #[.agg #[.int .u64 (lo (C * (2 * (k + 1)))), .int .u64 (hi (C * (2 * (k + 1))))], .agg #[.int .u64 (lo M), .int .u64 (hi M)]] w fun e w' => e = .returned (.bool (over C M k)) ∧ Below w.heap.size w w') := Lib.hid (above_any _ _)
  have HM := Lib.hid (wrap_k hk)
  clear hC
  have e50 := B5.cell 0 rfl; have e51 := B5.cell 1 rfl; have e60 := B6.cell 0 rfl; have e61 := B6.cell 1 rfl
  have HK : Hid (∀ w', Below w.heap.size w w' → Below w.heap.size w w' ∧ w'.cell? ⟨g5, 0, none⟩ = some (.int .u64 (lo C)) ∧ w'.cell? ⟨g5, 1, none⟩ = some (.int .u64 (hi C)) ∧ w'.cell? ⟨g6, 0, none⟩ = some (.int .u64 (lo M)) ∧ w'.cell? ⟨g6, 1, none⟩ = some (.int .u64 (hi M))) :=
    Lib.hid fun w' hb => ⟨hb, later hb e50, later hb e51, later hb e60, later hb e61⟩
  go_enter Try.func63, Try.ntmps63
  go_wp2
  go_region_held3 (fun w' => Below w.heap.size w w' ∧ w'.cell? ⟨g5, 0, none⟩ = some (.int .u64 (lo C)) ∧ w'.cell? ⟨g5, 1, none⟩ = some (.int .u64 (hi C)) ∧ w'.cell? ⟨g6, 0, none⟩ = some (.int .u64 (lo M)) ∧ w'.cell? ⟨g6, 1, none⟩ = some (.int .u64 (hi M)))
    (first | exact HK.out _ (below_drew (Below.refl _ _)) | exact HK.out _ (below_join (below_drew (Below.refl _ _)) hbq) | exact HK.out _ (below_join ‹Below w.heap.size w _ ∧ _›.1 hbq))
    (first
      | (go_at_call 60; refine (times_at HM H _).mono ?_; rintro e wq ⟨rfl, hbq⟩)
      | (go_at_call 64; refine (HC.out _).mono ?_; rintro e wq ⟨rfl, hbq⟩))
  have HW := ‹Below w.heap.size w _ ∧ _›.1
  go_wp2
  go_ret
  exact ⟨rfl, HW⟩

/-! ### sort.Search, by the closure -/
theorem over_mono {C M k j : Nat} (h : over C M k = true) (hj : k ≤ j) : over C M j = true := by
  unfold over at *
  have h := of_decide_eq_true h
  have := Nat.mul_le_mul_left C (show 2 * (k + 1) ≤ 2 * (j + 1) by omega)
  exact decide_eq_true (by omega)

set_option maxHeartbeats 1000000 in
theorem search_any (C M g5 g6 : Nat) (w : World) (hC : C ≤ 1238294767935480979882082047) (B5 : Box w g5 #[.int .u64 (lo C), .int .u64 (hi C)] 129) (B6 : Box w g6 #[.int .u64 (lo M), .int .u64 (hi M)] 129)
    (q : Nat) (hq : q ≤ 10000) (hq1 : ∀ k, k < q → over C M k = false) (hq2 : ∀ k, q ≤ k → k < 10000 → over C M k = true) :
    Calls Try.prog 62 #[.int .i64 10000, .func (.func 63) #[] #[.pointer (some ⟨g5, 0, none⟩), .pointer (some ⟨g6, 0, none⟩)]] w fun e w' => e = .returned (.int .i64 q) ∧ Below w.heap.size w w' := by
  have H1 := Lib.hid hq1
  have H2 := Lib.hid hq2
  clear hq1 hq2
  go_enter Try.func62, Try.ntmps62
  go_wp2
  go_loopw [5, 6] (fun i j wr => ∃ a b : Nat, a ≤ q ∧ q ≤ b ∧ b ≤ 10000 ∧ i = .int .i64 a ∧ j = .int .i64 b ∧ Below w.heap.size w wr) (fun i j _ => (intOf j).toNat - (intOf i).toNat)
  case atStart => exact ⟨0, 10000, by omega, by omega, by omega, rfl, rfl, Below.refl _ _⟩
  case round =>
    obtain ⟨a, b, ha, hb, hb2, rfl, rfl, HB⟩ := hrel
    by_cases hlt : a < b
    · have hm : (((a + b) / 2 : Nat) : Int) = ((a : Int) + b) / 2 := by omega
      have HM := Lib.hid hm.symm
      clear hm
      go_wp2_with fail
      rw [HM.out]
      refine (clo_any C M ((a + b) / 2) g5 g6 _ (by omega) hC (B5.below ((HB.mono (Nat.le_refl _)))) (B6.below HB)).mono ?_
      rintro e w2 ⟨rfl, hb3⟩
      have HB2 := below_join HB hb3
      clear hb3
      have hlo : a ≤ (a + b) / 2 := by omega
      have hhi : (a + b) / 2 < b := by omega
      cases ho : over C M ((a + b) / 2) with
      | true =>
        have hqm : q ≤ (a + b) / 2 := by
          rcases Nat.lt_or_ge ((a + b) / 2) q with h | h
          · rw [H1.out _ h] at ho; cases ho
          · exact h
        generalize (a + b) / 2 = m at *
        clear ho HM
        go_wp2
        go_roundw
        case rel => exact ⟨a, m, by omega, by omega, by omega, rfl, rfl, HB2⟩
        case measure => simp [intOf]; omega
      | false =>
        have hqm : (a + b) / 2 < q := by
          rcases Nat.lt_or_ge ((a + b) / 2) q with h | h
          · exact h
          · rw [H2.out _ h (by omega)] at ho; cases ho
        generalize (a + b) / 2 = m at *
        clear ho HM
        go_wp2
        go_roundw
        case rel => exact ⟨m + 1, b, by omega, by omega, by omega, by go_num, rfl, HB2⟩
        case measure => simp [intOf]; omega
    · have e : a = q := by omega
      subst e
      go_wp2
      go_ret
      exact ⟨rfl, HB⟩

end Go.Proofs.Ytndpdbofoojkhaa.Bad
