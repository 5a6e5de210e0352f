/- The sum of many dimensions, and the document's answers for layer 1: what each call answers. -/
import Derived.Test.YthoffhokfcgkoaaScaled
namespace Go.Proofs.Ythoffhokfcgkoaa.Scaled
open Go.RowKit Go.Proofs.Ythoffhokfcgkoaa.Kit
set_option linter.unusedVariables false

/-- The sum of all, and the error. -/
def sums (acc : Int) : List Int → Int × Int
  | [] => (acc, 0)
  | x :: xs => if sE acc x (acc + x) = 0 then sums (sV acc x (acc + x)) xs else (0, 10)
theorem sums_ok {acc x : Int} {xs : List Int} (h : sE acc x (acc + x) = 0) : sums acc (x :: xs) = sums (sV acc x (acc + x)) xs := by simp [sums, h]
theorem sums_no {acc x : Int} {xs : List Int} (h : sE acc x (acc + x) ≠ 0) : sums acc (x :: xs) = (0, 10) := by simp [sums, h]
theorem sE_cases (a b n : Int) : sE a b n = 0 ∨ sE a b n = 10 := by unfold sE; split <;> simp
set_option maxHeartbeats 400000 in
theorem sum_any (A : Option Addr) (c : Nat) (xs : List Int) (w : World) {B : Nat} (hx : Row (Rep.int .i64) w B A xs) (hl : xs.length ≤ 9223372036854775807) :
    Calls Try.prog 17 #[.slice A xs.length c] w fun e w' => e = .returned (.tuple #[.int .i64 (sums 0 xs).1, .int .i64 (sums 0 xs).2]) ∧ w = w' := by
  go_enter Try.func17, Try.ntmps17
  go_wp2
  go_loop [2, 3, 8] (fun a e i => ∃ (k : Nat) (acc ee : Int), k ≤ xs.length ∧ i = .int .i64 k ∧ a = .int .i64 acc ∧ e = .int .i64 ee ∧ Hid (sums 0 xs = sums acc (xs.drop k))) (fun _ _ i => xs.length - (intOf i).toNat)
  case atStart => exact ⟨0, 0, 0, Nat.zero_le _, rfl, rfl, rfl, Lib.hid (by simp)⟩
  case round =>
    obtain ⟨k, acc, ee, hk, rfl, rfl, rfl, HS⟩ := hrel
    by_cases hlt : k < xs.length
    · obtain ⟨x, hxk⟩ := at_lt hlt
      obtain ⟨b, o, hA, _, hc, _⟩ := int_at hx hxk
      have HD := Lib.hid (drop_cons hxk)
      clear hxk
      subst hA
      rcases sE_cases acc x (acc + x) with h0 | h0
      · have H0 := Lib.hid h0
        have HV := Lib.hid (sums_ok (xs := xs.drop (k + 1)) h0)
        have hn : (sE acc x (acc + x) != 0) = false := by simp [h0]
        clear h0
        go_wp2_with (go_at_call 9; refine (add_any _ _ _).mono ?_; rintro e w' ⟨rfl, rfl⟩)
        go_round
        case rel => exact ⟨k + 1, _, _, by omega, by go_num, rfl, rfl, Lib.hid (by rw [HS.out, HD.out, HV.out])⟩
        case measure => simp [intOf]; omega
      · have H0 := Lib.hid h0
        have HV := Lib.hid (sums_no (xs := xs.drop (k + 1)) (by rw [h0]; decide : sE acc x (acc + x) ≠ 0))
        have hn : (sE acc x (acc + x) != 0) = true := by simp [h0]
        clear h0
        go_wp2_with (go_at_call 9; refine (add_any _ _ _).mono ?_; rintro e w' ⟨rfl, rfl⟩)
        go_ret2
        refine ⟨?_, rfl⟩
        rw [HS.out, HD.out, HV.out, H0.out]
        rfl
    · go_wp2
      go_ret2
      refine ⟨?_, rfl⟩
      have : xs.drop k = [] := List.drop_eq_nil_of_le (by omega)
      rw [HS.out, this]
      rfl

/-! ### The document's answers -/
def small (n : Int) : Int := if dim n = true then n else 0
theorem small_bd (n : Int) : -1073741823 ≤ small n ∧ small n ≤ 1073741823 := by
  unfold small
  split
  · exact dim_t ‹_›
  · omega
theorem refcheck_any (n : Int) (w : World) :
    Calls Try.prog 16 #[.int .i64 n] w fun e w' => e = .returned (.bool (dim n)) ∧ w = w' := by
  by_cases h : -1073741823 ≤ n
  · have e : dim n = decide (n ≤ 1073741823) := by unfold dim; simp [h]
    rw [e]; clear e
    go_enter Try.func16, Try.ntmps16
    go_wp2
    go_ret
    exact ⟨rfl, rfl⟩
  · have e : dim n = false := by unfold dim; simp [h]
    rw [e]; clear e
    go_enter Try.func16, Try.ntmps16
    go_wp2
    go_ret
    exact ⟨rfl, rfl⟩
theorem small_any (n : Int) (w : World) :
    Calls Try.prog 22 #[.int .i64 n] w fun e w' => e = .returned (.int .i64 (small n)) ∧ w = w' := by
  cases h : dim n with
  | true =>
    rw [show small n = n by simp [small, h]]
    go_enter Try.func22, Try.ntmps22
    go_wp2_with (go_at_call 16; refine (refcheck_any _ _).mono ?_; rintro e w' ⟨rfl, rfl⟩)
    go_ret
    exact ⟨rfl, rfl⟩
  | false =>
    rw [show small n = 0 by simp [small, h]]
    go_enter Try.func22, Try.ntmps22
    go_wp2_with (go_at_call 16; refine (refcheck_any _ _).mono ?_; rintro e w' ⟨rfl, rfl⟩)
    go_ret
    exact ⟨rfl, rfl⟩
theorem kept_any (a b n : Int) (w : World) :
    Calls Try.prog 21 #[.int .i64 a, .int .i64 b, .int .i64 n] w fun e w' => e = .returned (.tuple #[.int .i64 (sV a b n), .int .i64 (sE a b n)]) ∧ w = w' := by
  cases h1 : dim a with
  | false =>
    rw [sV_f (.inl h1), sE_f (.inl h1)]
    go_enter Try.func21, Try.ntmps21
    go_wp2_with (go_at_call 16; refine (refcheck_any _ _).mono ?_; rintro e w' ⟨rfl, rfl⟩)
    go_ret2
    exact ⟨rfl, rfl⟩
  | true =>
    cases h2 : dim b with
    | false =>
      rw [sV_f (.inr (.inl h2)), sE_f (.inr (.inl h2))]
      go_enter Try.func21, Try.ntmps21
      go_wp2_with (go_at_call 16; refine (refcheck_any _ _).mono ?_; rintro e w' ⟨rfl, rfl⟩)
      go_ret2
      exact ⟨rfl, rfl⟩
    | true =>
      cases h3 : dim n with
      | false =>
        rw [sV_f (.inr (.inr h3)), sE_f (.inr (.inr h3))]
        go_enter Try.func21, Try.ntmps21
        go_wp2_with (go_at_call 16; refine (refcheck_any _ _).mono ?_; rintro e w' ⟨rfl, rfl⟩)
        go_ret2
        exact ⟨rfl, rfl⟩
      | true =>
        rw [sV_t h1 h2 h3, sE_t h1 h2 h3]
        go_enter Try.func21, Try.ntmps21
        go_wp2_with (go_at_call 16; refine (refcheck_any _ _).mono ?_; rintro e w' ⟨rfl, rfl⟩)
        go_ret2
        exact ⟨rfl, rfl⟩
theorem small_t {n : Int} (h : dim n = true) : small n = n := by simp [small, h]

theorem refadd_any (a b : Int) (w : World) :
    Calls Try.prog 10 #[.int .i64 a, .int .i64 b] w fun e w' => e = .returned (.tuple #[.int .i64 (sV a b (a + b)), .int .i64 (sE a b (a + b))]) ∧ w = w' := by
  have hV : sV a b (small a + small b) = sV a b (a + b) := by
    cases h1 : dim a with
    | false => rw [sV_f (.inl h1), sV_f (.inl h1)]
    | true => cases h2 : dim b with
      | false => rw [sV_f (.inr (.inl h2)), sV_f (.inr (.inl h2))]
      | true => rw [small_t h1, small_t h2]
  have hE : sE a b (small a + small b) = sE a b (a + b) := by
    cases h1 : dim a with
    | false => rw [sE_f (.inl h1), sE_f (.inl h1)]
    | true => cases h2 : dim b with
      | false => rw [sE_f (.inr (.inl h2)), sE_f (.inr (.inl h2))]
      | true => rw [small_t h1, small_t h2]
  rw [← hV, ← hE]
  clear hV hE
  obtain ⟨s1, s2⟩ := small_bd a
  obtain ⟨s3, s4⟩ := small_bd b
  go_enter Try.func10, Try.ntmps10
  go_wp2_with (first | (go_at_call 22; refine (small_any _ _).mono ?_; rintro e w' ⟨rfl, rfl⟩) | (go_at_call 21; refine (kept_any _ _ _ _).mono ?_; rintro e w' ⟨rfl, rfl⟩))
  go_ret2
  exact ⟨rfl, rfl⟩

theorem refsub_any (a b : Int) (w : World) :
    Calls Try.prog 12 #[.int .i64 a, .int .i64 b] w fun e w' => e = .returned (.tuple #[.int .i64 (sV a b (a - b)), .int .i64 (sE a b (a - b))]) ∧ w = w' := by
  have hV : sV a b (small a - small b) = sV a b (a - b) := by
    cases h1 : dim a with
    | false => rw [sV_f (.inl h1), sV_f (.inl h1)]
    | true => cases h2 : dim b with
      | false => rw [sV_f (.inr (.inl h2)), sV_f (.inr (.inl h2))]
      | true => rw [small_t h1, small_t h2]
  have hE : sE a b (small a - small b) = sE a b (a - b) := by
    cases h1 : dim a with
    | false => rw [sE_f (.inl h1), sE_f (.inl h1)]
    | true => cases h2 : dim b with
      | false => rw [sE_f (.inr (.inl h2)), sE_f (.inr (.inl h2))]
      | true => rw [small_t h1, small_t h2]
  rw [← hV, ← hE]
  clear hV hE
  obtain ⟨s1, s2⟩ := small_bd a
  obtain ⟨s3, s4⟩ := small_bd b
  go_enter Try.func12, Try.ntmps12
  go_wp2_with (first | (go_at_call 22; refine (small_any _ _).mono ?_; rintro e w' ⟨rfl, rfl⟩) | (go_at_call 21; refine (kept_any _ _ _ _).mono ?_; rintro e w' ⟨rfl, rfl⟩))
  go_ret2
  exact ⟨rfl, rfl⟩

theorem reftimes_any (a b : Int) (w : World) :
    Calls Try.prog 14 #[.int .i64 a, .int .i64 b] w fun e w' => e = .returned (.tuple #[.int .i64 (sV a b (a * b)), .int .i64 (sE a b (a * b))]) ∧ w = w' := by
  have hV : sV a b (small a * small b) = sV a b (a * b) := by
    cases h1 : dim a with
    | false => rw [sV_f (.inl h1), sV_f (.inl h1)]
    | true => cases h2 : dim b with
      | false => rw [sV_f (.inr (.inl h2)), sV_f (.inr (.inl h2))]
      | true => rw [small_t h1, small_t h2]
  have hE : sE a b (small a * small b) = sE a b (a * b) := by
    cases h1 : dim a with
    | false => rw [sE_f (.inl h1), sE_f (.inl h1)]
    | true => cases h2 : dim b with
      | false => rw [sE_f (.inr (.inl h2)), sE_f (.inr (.inl h2))]
      | true => rw [small_t h1, small_t h2]
  rw [← hV, ← hE]
  clear hV hE
  obtain ⟨s1, s2⟩ := small_bd a
  obtain ⟨s3, s4⟩ := small_bd b
  obtain ⟨m1, m2⟩ := mul_bd ⟨s1, s2⟩ ⟨s3, s4⟩
  go_enter Try.func14, Try.ntmps14
  go_wp2_with (first | (go_at_call 22; refine (small_any _ _).mono ?_; rintro e w' ⟨rfl, rfl⟩) | (go_at_call 21; refine (kept_any _ _ _ _).mono ?_; rintro e w' ⟨rfl, rfl⟩))
  go_ret2
  exact ⟨rfl, rfl⟩

set_option maxHeartbeats 400000 in
theorem refsum_any (A : Option Addr) (c : Nat) (xs : List Int) (w : World) {B : Nat} (hx : Row (Rep.int .i64) w B A xs) (hl : xs.length ≤ 9223372036854775807) :
    Calls Try.prog 18 #[.slice A xs.length c] w fun e w' => e = .returned (.tuple #[.int .i64 (sums 0 xs).1, .int .i64 (sums 0 xs).2]) ∧ w = w' := by
  go_enter Try.func18, Try.ntmps18
  go_wp2
  go_loop [4, 5] (fun a i => ∃ (k : Nat) (acc : Int), k ≤ xs.length ∧ i = .int .i64 k ∧ a = .int .i64 acc ∧ Hid (sums 0 xs = sums acc (xs.drop k))) (fun _ i => xs.length - (intOf i).toNat)
  case atStart => exact ⟨0, 0, Nat.zero_le _, rfl, rfl, Lib.hid (by simp)⟩
  case round =>
    obtain ⟨k, acc, hk, rfl, rfl, HS⟩ := hrel
    by_cases hlt : k < xs.length
    · obtain ⟨x, hxk⟩ := at_lt hlt
      obtain ⟨b, o, hA, _, hc, _⟩ := int_at hx hxk
      have HD := Lib.hid (drop_cons hxk)
      clear hxk
      subst hA
      rcases sE_cases acc x (acc + x) with h0 | h0
      · have H0 := Lib.hid h0
        have HV := Lib.hid (sums_ok (xs := xs.drop (k + 1)) h0)
        have hn : (sE acc x (acc + x) != 0) = false := by simp [h0]
        clear h0
        go_wp2_with (go_at_call 10; refine (refadd_any _ _ _).mono ?_; rintro e w' ⟨rfl, rfl⟩)
        go_round
        case rel => exact ⟨k + 1, _, by omega, by go_num, rfl, Lib.hid (by rw [HS.out, HD.out, HV.out])⟩
        case measure => simp [intOf]; omega
      · have H0 := Lib.hid h0
        have HV := Lib.hid (sums_no (xs := xs.drop (k + 1)) (by rw [h0]; decide : sE acc x (acc + x) ≠ 0))
        have hn : (sE acc x (acc + x) != 0) = true := by simp [h0]
        clear h0
        go_wp2_with (go_at_call 10; refine (refadd_any _ _ _).mono ?_; rintro e w' ⟨rfl, rfl⟩)
        go_ret2
        refine ⟨?_, rfl⟩
        rw [HS.out, HD.out, HV.out, H0.out]
        rfl
    · go_wp2
      go_ret2
      refine ⟨?_, rfl⟩
      have : xs.drop k = [] := List.drop_eq_nil_of_le (by omega)
      rw [HS.out, this]
      rfl

end Go.Proofs.Ythoffhokfcgkoaa.Scaled
