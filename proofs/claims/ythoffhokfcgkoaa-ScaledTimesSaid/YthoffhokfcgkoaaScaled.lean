/- The functions of layer 1 (dimensions): what each call answers. -/
import Derived.Test.YthoffhokfcgkoaaKit

namespace Go.Proofs.Ythoffhokfcgkoaa.Scaled
open Go.RowKit Go.Proofs.Ythoffhokfcgkoaa.Kit
set_option linter.unusedVariables false

/-- A dimension. -/
def dim (n : Int) : Bool := decide (-1073741823 ≤ n ∧ n ≤ 1073741823)
theorem dim_t {n : Int} (h : dim n = true) : -1073741823 ≤ n ∧ n ≤ 1073741823 := of_decide_eq_true h
theorem dim_f {n : Int} (h : dim n = false) : ¬ (-1073741823 ≤ n ∧ n ≤ 1073741823) := of_decide_eq_false h

theorem check_any (n : Int) (w : World) :
    Calls Try.prog 15 #[.int .i64 n] w fun e w' => e = .returned (.bool (dim n)) ∧ w = w' := by
  by_cases h : -1073741823 ≤ n
  · have e : dim n = decide (n ≤ 1073741823) := by unfold dim; simp [h]
    rw [e]; clear e
    go_enter Try.func15, Try.ntmps15
    go_wp2
    go_ret
    exact ⟨rfl, rfl⟩
  · have e : dim n = false := by unfold dim; simp [h]
    rw [e]; clear e
    go_enter Try.func15, Try.ntmps15
    go_wp2
    go_ret
    exact ⟨rfl, rfl⟩

/-- What is told of two dimensions: the number, and the error. -/
def sV (a b n : Int) : Int := if (dim a && dim b && dim n) = true then n else 0
def sE (a b n : Int) : Int := if (dim a && dim b && dim n) = true then 0 else 10
theorem sV_t {a b n : Int} (h1 : dim a = true) (h2 : dim b = true) (h3 : dim n = true) : sV a b n = n := by simp [sV, h1, h2, h3]
theorem sE_t {a b n : Int} (h1 : dim a = true) (h2 : dim b = true) (h3 : dim n = true) : sE a b n = 0 := by simp [sE, h1, h2, h3]
theorem sV_f {a b n : Int} (h : dim a = false ∨ dim b = false ∨ dim n = false) : sV a b n = 0 := by
  rcases h with h | h | h <;> simp [sV, h]
theorem sE_f {a b n : Int} (h : dim a = false ∨ dim b = false ∨ dim n = false) : sE a b n = 10 := by
  rcases h with h | h | h <;> simp [sE, h]
theorem mul_bd {a b : Int} (ha : -1073741823 ≤ a ∧ a ≤ 1073741823) (hb : -1073741823 ≤ b ∧ b ≤ 1073741823) : -1152921504606846976 ≤ a * b ∧ a * b ≤ 1152921504606846976 := by
  obtain ⟨a1, a2⟩ := ha
  obtain ⟨b1, b2⟩ := hb
  have h1 : 0 ≤ (1073741823 - a) * (1073741823 - b) := Int.mul_nonneg (by omega) (by omega)
  have h2 : 0 ≤ (1073741823 + a) * (1073741823 + b) := Int.mul_nonneg (by omega) (by omega)
  have h3 : 0 ≤ (1073741823 - a) * (1073741823 + b) := Int.mul_nonneg (by omega) (by omega)
  have h4 : 0 ≤ (1073741823 + a) * (1073741823 - b) := Int.mul_nonneg (by omega) (by omega)
  simp only [Int.sub_mul, Int.mul_sub, Int.add_mul, Int.mul_add] at h1 h2 h3 h4
  omega

theorem add_clo (a b : Int) (w : World) (ha : -1073741823 ≤ a ∧ a ≤ 1073741823) (hb : -1073741823 ≤ b ∧ b ≤ 1073741823) :
    Calls Try.prog 20 #[.int .i64 a, .int .i64 b] w fun e w' => e = .returned (.int .i64 (a + b)) ∧ w = w' := by
  obtain ⟨a1, a2⟩ := ha
  obtain ⟨b1, b2⟩ := hb
  go_enter Try.func20, Try.ntmps20
  go_wp2
  go_ret
  exact ⟨rfl, rfl⟩

set_option maxHeartbeats 400000 in
theorem of_add (a b : Int) (w : World) :
    Calls Try.prog 19 #[.int .i64 a, .int .i64 b, .func (.func 20) #[] #[]] w fun e w' => e = .returned (.tuple #[.int .i64 (sV a b (a + b)), .int .i64 (sE a b (a + b))]) ∧ w = w' := by
  cases h1 : dim a with
  | false =>
    rw [sV_f (.inl h1), sE_f (.inl h1)]
    go_enter Try.func19, Try.ntmps19
    go_wp2_with (go_at_call 15; refine (check_any _ _).mono ?_; rintro e w' ⟨rfl, rfl⟩)
    go_ret2
    exact ⟨rfl, rfl⟩
  | true =>
    cases h2 : dim b with
    | false =>
      rw [sV_f (.inr (.inl h2)), sE_f (.inr (.inl h2))]
      go_enter Try.func19, Try.ntmps19
      go_wp2_with (go_at_call 15; refine (check_any _ _).mono ?_; rintro e w' ⟨rfl, rfl⟩)
      go_ret2
      exact ⟨rfl, rfl⟩
    | true =>
      have H1 := Lib.hid (dim_t h1)
      have H2 := Lib.hid (dim_t h2)
      cases h3 : dim (a + b) with
      | false =>
        rw [sV_f (.inr (.inr h3)), sE_f (.inr (.inr h3))]
        go_enter Try.func19, Try.ntmps19
        go_wp2_with (first | (go_at_call 15; refine (check_any _ _).mono ?_; rintro e w' ⟨rfl, rfl⟩) | (go_at_call 20; refine (add_clo _ _ _ H1.out H2.out).mono ?_; rintro e w' ⟨rfl, rfl⟩))
        go_ret2
        exact ⟨rfl, rfl⟩
      | true =>
        rw [sV_t h1 h2 h3, sE_t h1 h2 h3]
        go_enter Try.func19, Try.ntmps19
        go_wp2_with (first | (go_at_call 15; refine (check_any _ _).mono ?_; rintro e w' ⟨rfl, rfl⟩) | (go_at_call 20; refine (add_clo _ _ _ H1.out H2.out).mono ?_; rintro e w' ⟨rfl, rfl⟩))
        go_ret2
        exact ⟨rfl, rfl⟩

theorem add_any (a b : Int) (w : World) :
    Calls Try.prog 9 #[.int .i64 a, .int .i64 b] w fun e w' => e = .returned (.tuple #[.int .i64 (sV a b (a + b)), .int .i64 (sE a b (a + b))]) ∧ w = w' := by
  go_enter Try.func9, Try.ntmps9
  go_wp2_with (go_at_call 19; refine (of_add _ _ _).mono ?_; rintro e w' ⟨rfl, rfl⟩)
  go_ret2
  exact ⟨rfl, rfl⟩

theorem sub_clo (a b : Int) (w : World) (ha : -1073741823 ≤ a ∧ a ≤ 1073741823) (hb : -1073741823 ≤ b ∧ b ≤ 1073741823) :
    Calls Try.prog 23 #[.int .i64 a, .int .i64 b] w fun e w' => e = .returned (.int .i64 (a - b)) ∧ w = w' := by
  obtain ⟨a1, a2⟩ := ha
  obtain ⟨b1, b2⟩ := hb
  go_enter Try.func23, Try.ntmps23
  go_wp2
  go_ret
  exact ⟨rfl, rfl⟩

set_option maxHeartbeats 400000 in
theorem of_sub (a b : Int) (w : World) :
    Calls Try.prog 19 #[.int .i64 a, .int .i64 b, .func (.func 23) #[] #[]] w fun e w' => e = .returned (.tuple #[.int .i64 (sV a b (a - b)), .int .i64 (sE a b (a - b))]) ∧ w = w' := by
  cases h1 : dim a with
  | false =>
    rw [sV_f (.inl h1), sE_f (.inl h1)]
    go_enter Try.func19, Try.ntmps19
    go_wp2_with (go_at_call 15; refine (check_any _ _).mono ?_; rintro e w' ⟨rfl, rfl⟩)
    go_ret2
    exact ⟨rfl, rfl⟩
  | true =>
    cases h2 : dim b with
    | false =>
      rw [sV_f (.inr (.inl h2)), sE_f (.inr (.inl h2))]
      go_enter Try.func19, Try.ntmps19
      go_wp2_with (go_at_call 15; refine (check_any _ _).mono ?_; rintro e w' ⟨rfl, rfl⟩)
      go_ret2
      exact ⟨rfl, rfl⟩
    | true =>
      have H1 := Lib.hid (dim_t h1)
      have H2 := Lib.hid (dim_t h2)
      cases h3 : dim (a - b) with
      | false =>
        rw [sV_f (.inr (.inr h3)), sE_f (.inr (.inr h3))]
        go_enter Try.func19, Try.ntmps19
        go_wp2_with (first | (go_at_call 15; refine (check_any _ _).mono ?_; rintro e w' ⟨rfl, rfl⟩) | (go_at_call 23; refine (sub_clo _ _ _ H1.out H2.out).mono ?_; rintro e w' ⟨rfl, rfl⟩))
        go_ret2
        exact ⟨rfl, rfl⟩
      | true =>
        rw [sV_t h1 h2 h3, sE_t h1 h2 h3]
        go_enter Try.func19, Try.ntmps19
        go_wp2_with (first | (go_at_call 15; refine (check_any _ _).mono ?_; rintro e w' ⟨rfl, rfl⟩) | (go_at_call 23; refine (sub_clo _ _ _ H1.out H2.out).mono ?_; rintro e w' ⟨rfl, rfl⟩))
        go_ret2
        exact ⟨rfl, rfl⟩

theorem sub_any (a b : Int) (w : World) :
    Calls Try.prog 11 #[.int .i64 a, .int .i64 b] w fun e w' => e = .returned (.tuple #[.int .i64 (sV a b (a - b)), .int .i64 (sE a b (a - b))]) ∧ w = w' := by
  go_enter Try.func11, Try.ntmps11
  go_wp2_with (go_at_call 19; refine (of_sub _ _ _).mono ?_; rintro e w' ⟨rfl, rfl⟩)
  go_ret2
  exact ⟨rfl, rfl⟩

theorem times_clo (a b : Int) (w : World) (ha : -1073741823 ≤ a ∧ a ≤ 1073741823) (hb : -1073741823 ≤ b ∧ b ≤ 1073741823) :
    Calls Try.prog 24 #[.int .i64 a, .int .i64 b] w fun e w' => e = .returned (.int .i64 (a * b)) ∧ w = w' := by
  have hm := mul_bd ha hb
  have hw : wrap64 (a * b) = a * b := by unfold wrap64; omega
  have HW := Lib.hid hw
  clear hm hw
  obtain ⟨a1, a2⟩ := ha
  obtain ⟨b1, b2⟩ := hb
  go_enter Try.func24, Try.ntmps24
  go_wp2
  go_ret
  exact ⟨by first | rfl | (rw [HW.out]; rfl), rfl⟩

set_option maxHeartbeats 400000 in
theorem of_times (a b : Int) (w : World) :
    Calls Try.prog 19 #[.int .i64 a, .int .i64 b, .func (.func 24) #[] #[]] w fun e w' => e = .returned (.tuple #[.int .i64 (sV a b (a * b)), .int .i64 (sE a b (a * b))]) ∧ w = w' := by
  cases h1 : dim a with
  | false =>
    rw [sV_f (.inl h1), sE_f (.inl h1)]
    go_enter Try.func19, Try.ntmps19
    go_wp2_with (go_at_call 15; refine (check_any _ _).mono ?_; rintro e w' ⟨rfl, rfl⟩)
    go_ret2
    exact ⟨rfl, rfl⟩
  | true =>
    cases h2 : dim b with
    | false =>
      rw [sV_f (.inr (.inl h2)), sE_f (.inr (.inl h2))]
      go_enter Try.func19, Try.ntmps19
      go_wp2_with (go_at_call 15; refine (check_any _ _).mono ?_; rintro e w' ⟨rfl, rfl⟩)
      go_ret2
      exact ⟨rfl, rfl⟩
    | true =>
      have H1 := Lib.hid (dim_t h1)
      have H2 := Lib.hid (dim_t h2)
      cases h3 : dim (a * b) with
      | false =>
        rw [sV_f (.inr (.inr h3)), sE_f (.inr (.inr h3))]
        go_enter Try.func19, Try.ntmps19
        go_wp2_with (first | (go_at_call 15; refine (check_any _ _).mono ?_; rintro e w' ⟨rfl, rfl⟩) | (go_at_call 24; refine (times_clo _ _ _ H1.out H2.out).mono ?_; rintro e w' ⟨rfl, rfl⟩))
        go_ret2
        exact ⟨rfl, rfl⟩
      | true =>
        rw [sV_t h1 h2 h3, sE_t h1 h2 h3]
        go_enter Try.func19, Try.ntmps19
        go_wp2_with (first | (go_at_call 15; refine (check_any _ _).mono ?_; rintro e w' ⟨rfl, rfl⟩) | (go_at_call 24; refine (times_clo _ _ _ H1.out H2.out).mono ?_; rintro e w' ⟨rfl, rfl⟩))
        go_ret2
        exact ⟨rfl, rfl⟩

theorem times_any (a b : Int) (w : World) :
    Calls Try.prog 13 #[.int .i64 a, .int .i64 b] w fun e w' => e = .returned (.tuple #[.int .i64 (sV a b (a * b)), .int .i64 (sE a b (a * b))]) ∧ w = w' := by
  go_enter Try.func13, Try.ntmps13
  go_wp2_with (go_at_call 19; refine (of_times _ _ _).mono ?_; rintro e w' ⟨rfl, rfl⟩)
  go_ret2
  exact ⟨rfl, rfl⟩

end Go.Proofs.Ythoffhokfcgkoaa.Scaled
