/- The statement ScaledTimes: what its calls answer. -/
import Derived.Test.YthoffhokfcgkoaaScaledLaws3
namespace Go.Proofs.Ythoffhokfcgkoaa.Scaled
open Go.RowKit Go.Proofs.Ythoffhokfcgkoaa.Kit
set_option linter.unusedVariables false

/-! ### The plain law: so many times a dimension is the sum of so many -/
theorem many (a : Int) (n : Nat) : ∀ i : Nat, (-1073741823 ≤ (i : Int) * a ∧ (i : Int) * a ≤ 1073741823) →
    sums ((i : Int) * a) (List.replicate n a) = if n = 0 ∨ ((-1073741823 ≤ a ∧ a ≤ 1073741823) ∧ (-1073741823 ≤ ((i + n : Nat) : Int) * a ∧ ((i + n : Nat) : Int) * a ≤ 1073741823)) then (((i + n : Nat) : Int) * a, 0) else (0, 10) := by
  induction n with
  | zero => intro i hi; simp [sums]
  | succ n ih =>
    intro i hi
    rw [List.replicate_succ]
    have e1 : (i : Int) * a + a = ((i + 1 : Nat) : Int) * a := by rw [Int.natCast_add, Int.add_mul]; simp
    have e2 : ((i + 1 + n : Nat) : Int) = ((i + (n + 1) : Nat) : Int) := by congr 1; omega
    rcases ok_or ((i : Int) * a) a ((i : Int) * a + a) with h | h
    · rw [step_ok h, e1, ih (i + 1) (by rw [← e1]; exact h.2.2), e2]
      have ha := h.2.1
      by_cases h0 : n = 0
      · subst h0
        have := h.2.2
        rw [e1] at this
        have e0 : ((i + (0 + 1) : Nat) : Int) = ((i + 1 : Nat) : Int) := rfl
        rw [if_pos (.inl rfl), if_pos (.inr ⟨ha, this⟩)]
      · simp [h0, ha]
    · rw [step_no h, if_neg]
      rintro (h0 | ⟨ha, hb⟩)
      · omega
      · refine h ⟨hi, ha, ?_⟩
        rw [e1]
        have hn : ((i + 1 : Nat) : Int) ≤ ((i + (n + 1) : Nat) : Int) := by omega
        have hz : (0 : Int) ≤ (i : Int) := by omega
        rcases Int.le_total 0 a with h0 | h0
        · have m1 := Int.mul_le_mul_of_nonneg_right hn h0
          have m2 : 0 ≤ ((i + 1 : Nat) : Int) * a := Int.mul_nonneg (by omega) h0
          omega
        · have m1 := Int.mul_le_mul_of_nonpos_right hn h0
          have m2 : ((i + 1 : Nat) : Int) * a ≤ 0 := Int.mul_nonpos_of_nonneg_of_nonpos (by omega) h0
          omega
theorem many0 (a : Int) (n : Nat) (hn : 0 < n) (hn' : n ≤ 100) : sums 0 (List.replicate n a) = (sV a n (a * n), sE a n (a * n)) := by
  have := many a n 0 (by simp)
  simp only [Int.natCast_zero, Int.zero_mul, Nat.zero_add] at this
  rw [this, Int.mul_comm a n]
  by_cases h : (-1073741823 ≤ a ∧ a ≤ 1073741823) ∧ (-1073741823 ≤ (n : Int) * a ∧ (n : Int) * a ≤ 1073741823)
  · have hk : Ok a n (n * a) := ⟨h.1, by omega, h.2⟩
    rw [if_pos (.inr h), hk.v.1, hk.v.2]
  · have hk : ¬ Ok a n (n * a) := fun hk => h ⟨hk.1, hk.2.2⟩
    rw [if_neg (by rintro (h0 | h0); omega; exact h h0), (Ok.n hk).1, (Ok.n hk).2]
theorem turned (a : Int) : ∃ p g, Hid (sV a (-1) (a * (-1)) = p ∧ sE a (-1) (a * (-1)) = g) ∧ Hid (sV 0 a (0 - a) = p ∧ sE 0 a (0 - a) = g) := by
  refine ⟨_, _, Lib.hid ⟨rfl, rfl⟩, Lib.hid ?_⟩
  have e : a * (-1) = 0 - a := by omega
  rw [e]
  rcases ok_or 0 a (0 - a) with h | h
  · have h2 : Ok a (-1) (0 - a) := by unfold Ok at *; omega
    exact ⟨by rw [h.v.1, h2.v.1], by rw [h.v.2, h2.v.2]⟩
  · have h2 : ¬ Ok a (-1) (0 - a) := by unfold Ok at *; omega
    exact ⟨by rw [(Ok.n h).1, (Ok.n h2).1], by rw [(Ok.n h).2, (Ok.n h2).2]⟩

set_option maxRecDepth 100000 in
set_option maxHeartbeats 400000 in
theorem times_walk (a k : Int) (w : World) (wa : (Lit.int .i64 a).wf = true) (wk : (Lit.int .u8 k).wf = true) :
    Calls Try.prog 6 #[.int .i64 a, .int .u8 k] w fun e w' => e = .returned (.bool true) ∧ Below w.heap.size w w' := by
  obtain ⟨hk0, hk1⟩ := u8_of wk
  obtain ⟨k, rfl⟩ := Int.eq_ofNat_of_zero_le hk0
  clear wk
  go_enter Try.func6, Try.ntmps6
  go_wp2_with (first
    | (go_at_call 8; refine (awake_any _).mono ?_; rintro e w1 ⟨rfl, HB⟩; have hsz := HB.size))
  go_loopw [6, 7] (fun l i wr => ∃ j : Nat, j ≤ k % 101 ∧ i = .int .i64 j ∧ wr.ownsRow w1.heap.size 3 1 l j ((List.replicate j a).map (Value.int .i64)) ∧ Below w.heap.size w wr ∧ w1.heap.size ≤ wr.heap.size) (fun _ i _ => k % 101 - (intOf i).toNat)
  case atStart => exact ⟨0, Nat.zero_le _, rfl, own_nil _ _ _ _, HB, Nat.le_refl _⟩
  case round =>
    obtain ⟨j, hj, rfl, hown, HB2, hs2⟩ := hrel
    by_cases hlt : j < k % 101
    · go_wp2_with (
        (at_builtin
         go_must (refine wpList_append_seen rfl (.tmp 25) (.tmp 27) _ rfl w1.heap.size 3 (.int .i64 0) 1 8 Try.underlying28 info_int rfl (by decide) _ _ _ rfl (hown.alloc _) (some ⟨wr.heap.size, 0, none⟩) 1 1 [.int .i64 a] rfl (by simp) (sees_new _ _ _) (one_ints .i64 [a]) (by omega) (by omega) (by simp; omega) (fun h => by cases h) ?_)
         intro v1 w2 hown1 hg1 _
         have HB3 := (HB2.alloc (by omega) (.cells #[.int .i64 a] 3)).grown hg1 (by simp; omega) (fun k hk => by have := own_base hown k hk; omega)
         have hs3 := hg1.size
         simp only [World.size_alloc] at hs3
         have HO := Lib.hid hown1
         clear hg1 hown1))
      go_roundw
      case rel => exact ⟨j + 1, by omega, by go_num, by have := HO.out; rw [List.replicate_succ']; simpa using this, HB3, by omega⟩
      case measure => simp [intOf]; omega
    · have hj' : j = k % 101 := by omega
      obtain ⟨A, c, hv, hn, hrow, hlen⟩ := own_row hown (fun x hx => by rw [(List.mem_replicate.1 hx).2]; exact wa)
      rw [List.length_replicate] at hv
      subst hv
      have HL : Hid ((List.replicate j a).length = j) := Lib.hid List.length_replicate
      obtain ⟨p, g, T1, T2⟩ := turned a
      have hj100 : j ≤ 100 := by omega
      clear hn hown hj hj' wa HB
      by_cases h0 : j = 0
      · subst h0
        have S1 : Hid (sums 0 (List.replicate 0 a) = (0, 0)) := Lib.hid rfl
        go_wp2_with (first
          | (go_at_call 13; (first | with_reducible refine (timesv T1 _).mono ?_ | refine (times_any _ _ _).mono ?_); rintro e w' ⟨rfl, rfl⟩)
          | (go_at_call 11; with_reducible refine (subv T2 _).mono ?_; rintro e w' ⟨rfl, rfl⟩)
          | (go_at_call 17; with_reducible refine (sum_is' S1 _ HL hrow hlen).mono ?_; rintro e w' ⟨rfl, rfl⟩))
        go_ret
        exact ⟨rfl, HB2⟩
      · have S1 := Lib.hid (many0 a j (by omega) hj100)
        have h0' : ((j : Int) == 0) = false := by simp; omega
        clear h0
        go_wp2_with (first
          | (go_at_call 13; (first | with_reducible refine (timesv T1 _).mono ?_ | refine (times_any _ _ _).mono ?_); rintro e w' ⟨rfl, rfl⟩)
          | (go_at_call 11; with_reducible refine (subv T2 _).mono ?_; rintro e w' ⟨rfl, rfl⟩)
          | (go_at_call 17; with_reducible refine (sum_is' S1 _ HL hrow hlen).mono ?_; rintro e w' ⟨rfl, rfl⟩))
        go_ret
        exact ⟨rfl, HB2⟩

end Go.Proofs.Ythoffhokfcgkoaa.Scaled
