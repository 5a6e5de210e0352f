/- Numbers of eight limbs: plain arithmetic. -/
namespace Go.Proofs.Ytckmpllbbebefaa.Mul
set_option linter.unusedVariables false

/-- Limb number i. -/
def dg (N i : Nat) : Nat := N / 65536 ^ i % 65536
theorem dg_lt (N i : Nat) : dg N i < 65536 := Nat.mod_lt _ (by omega)
theorem pw_pos (i : Nat) : 0 < 65536 ^ i := Nat.pow_pos (by omega)
theorem mod_next (N i : Nat) : N % 65536 ^ (i + 1) = N % 65536 ^ i + 65536 ^ i * dg N i := by
  unfold dg
  rw [Nat.pow_succ, Nat.mod_mul]
theorem div_next (N i : Nat) : N / 65536 ^ i / 65536 = N / 65536 ^ (i + 1) := by
  rw [Nat.div_div_eq_div_mul, ← Nat.pow_succ]
theorem div_split (N i : Nat) : N / 65536 ^ i = 65536 * (N / 65536 ^ (i + 1)) + dg N i := by
  rw [← div_next]; unfold dg; exact (Nat.div_add_mod _ _).symm
theorem dg_small {N i : Nat} (h : N < 65536 ^ i) : dg N i = 0 := by
  unfold dg; rw [Nat.div_eq_of_lt h]
theorem dg_add_mul (N M i j : Nat) (h : j < i) : dg (N + 65536 ^ i * M) j = dg N j := by
  unfold dg
  obtain ⟨d, rfl⟩ : ∃ d, i = j + (d + 1) := ⟨i - j - 1, by omega⟩
  rw [Nat.pow_add, Nat.mul_assoc, Nat.add_mul_div_left _ _ (pw_pos j), Nat.pow_succ, Nat.mul_comm (65536 ^ d), Nat.mul_assoc, Nat.add_mul_mod_self_left]

/-! ### A product, limb by limb: i limbs of a are done, and k of b -/
def tv (a b i k : Nat) : Nat := a % 65536 ^ i * b + 65536 ^ i * (dg a i * (b % 65536 ^ k))
def ov (a b i k : Nat) : Nat := tv a b i k / 65536 ^ (i + k) - a % 65536 ^ i * b / 65536 ^ (i + k)
theorem tv_zero (a b i : Nat) : tv a b i 0 = a % 65536 ^ i * b := by unfold tv; simp [Nat.mod_one]
theorem ov_zero (a b i : Nat) : ov a b i 0 = 0 := by unfold ov; rw [tv_zero]; omega
theorem tv_next (a b i k : Nat) : tv a b i (k + 1) = tv a b i k + 65536 ^ (i + k) * (dg a i * dg b k) := by
  unfold tv
  rw [mod_next, Nat.mul_add, Nat.mul_add, ← Nat.add_assoc, Nat.pow_add, Nat.mul_left_comm (dg a i), Nat.mul_assoc (65536 ^ i)]
theorem tv_ge (a b i k : Nat) : a % 65536 ^ i * b ≤ tv a b i k := Nat.le_add_right _ _
theorem ov_add (a b i k : Nat) : tv a b i k / 65536 ^ (i + k) = a % 65536 ^ i * b / 65536 ^ (i + k) + ov a b i k := by
  have := Nat.div_le_div_right (c := 65536 ^ (i + k)) (tv_ge a b i k)
  unfold ov; omega
theorem ov_le (a b i k : Nat) : ov a b i k ≤ 65535 := by
  have hd := dg_lt a i
  have h1 : 65536 ^ i * (dg a i * (b % 65536 ^ k)) ≤ 65536 ^ (i + k) * dg a i := by
    rw [Nat.pow_add, Nat.mul_assoc]
    refine Nat.mul_le_mul_left _ ?_
    rw [Nat.mul_comm]
    exact Nat.mul_le_mul_right _ (Nat.le_of_lt (Nat.mod_lt _ (pw_pos k)))
  have h2 : tv a b i k / 65536 ^ (i + k) ≤ a % 65536 ^ i * b / 65536 ^ (i + k) + dg a i := by
    rw [← Nat.add_mul_div_left _ _ (pw_pos (i + k))]
    exact Nat.div_le_div_right (Nat.add_le_add_left h1 _)
  unfold ov; omega
/-- What a step puts. -/
def sm (a b i k : Nat) : Nat := dg (a % 65536 ^ i * b) (i + k) + dg a i * dg b k + ov a b i k
theorem sm_lt (a b i k : Nat) : sm a b i k ≤ 4294967295 := by
  have h1 := dg_lt (a % 65536 ^ i * b) (i + k)
  have h2 := Nat.mul_le_mul (Nat.le_of_lt_succ (dg_lt a i)) (Nat.le_of_lt_succ (dg_lt b k))
  have h3 := ov_le a b i k
  unfold sm; omega
theorem sm_div (a b i k : Nat) : tv a b i (k + 1) / 65536 ^ (i + k) = 65536 * (a % 65536 ^ i * b / 65536 ^ (i + k + 1)) + sm a b i k := by
  rw [tv_next, Nat.add_mul_div_left _ _ (pw_pos _), ov_add, div_split]
  unfold sm; omega
theorem sm_dg (a b i k : Nat) : dg (tv a b i (k + 1)) (i + k) = sm a b i k % 65536 := by
  unfold dg; rw [sm_div, Nat.mul_add_mod]
theorem sm_ov (a b i k : Nat) : ov a b i (k + 1) = sm a b i k / 65536 := by
  have h := ov_add a b i (k + 1)
  rw [show i + (k + 1) = i + k + 1 from rfl, ← div_next, sm_div, Nat.mul_add_div (by omega)] at h
  omega
theorem tv_keep (a b i k j : Nat) (h : j < i + k) : dg (tv a b i (k + 1)) j = dg (tv a b i k) j := by
  rw [tv_next, dg_add_mul _ _ _ _ h]
theorem tv_done (a b i : Nat) (hb : b < 65536 ^ 4) : tv a b i 4 = a % 65536 ^ (i + 1) * b := by
  unfold tv
  rw [Nat.mod_eq_of_lt hb, mod_next, Nat.add_mul, Nat.mul_assoc]
theorem part_lt (a b i : Nat) (hb : b < 65536 ^ 4) : a % 65536 ^ i * b < 65536 ^ (i + 4) := by
  rw [Nat.pow_add]
  exact Nat.mul_lt_mul_of_lt_of_le (Nat.mod_lt _ (pw_pos i)) (Nat.le_of_lt hb) (Nat.lt_of_le_of_lt (Nat.zero_le _) (show 0 < 65536 ^ 4 by omega))
theorem ov_last (a b i : Nat) (hb : b < 65536 ^ 4) : ov a b i 4 = dg (a % 65536 ^ (i + 1) * b) (i + 4) := by
  have h1 := part_lt a b i hb
  have h2 := part_lt a b (i + 1) hb
  unfold ov
  rw [tv_done a b i hb, Nat.div_eq_of_lt h1, Nat.sub_zero]
  unfold dg
  refine (Nat.mod_eq_of_lt ?_).symm
  rw [Nat.div_lt_iff_lt_mul (pw_pos _), Nat.mul_comm 65536, ← Nat.pow_succ, show (i + 4).succ = i + 1 + 4 from by omega]
  exact h2
/-- What the cells hold within a round: the limbs up to here are done. -/
def mid (a b i k j : Nat) : Nat := if j < i + k then dg (tv a b i k) j else dg (a % 65536 ^ i * b) j
theorem mid_zero (a b i j : Nat) : mid a b i 0 j = dg (a % 65536 ^ i * b) j := by
  unfold mid; rw [tv_zero]; split <;> rfl
theorem mid_at (a b i k : Nat) : mid a b i k (i + k) = dg (a % 65536 ^ i * b) (i + k) := if_neg (by omega)
theorem mid_next (a b i k j : Nat) : mid a b i (k + 1) j = if j = i + k then sm a b i k % 65536 else mid a b i k j := by
  unfold mid
  by_cases h : j = i + k
  · subst h; rw [if_pos (by omega), if_pos rfl, sm_dg]
  · rw [if_neg h]
    by_cases h2 : j < i + k
    · rw [if_pos (by omega), if_pos h2, tv_keep _ _ _ _ _ h2]
    · rw [if_neg (by omega), if_neg h2]
theorem mid_last (a b i j : Nat) (hb : b < 65536 ^ 4) : dg (a % 65536 ^ (i + 1) * b) j = if j = i + 4 then ov a b i 4 else mid a b i 4 j := by
  by_cases h : j = i + 4
  · subst h; rw [if_pos rfl, ov_last a b i hb]
  · rw [if_neg h]
    unfold mid
    by_cases h2 : j < i + 4
    · rw [if_pos h2, tv_done a b i hb]
    · rw [if_neg h2]
      have h1 := part_lt a b i hb
      have h3 := part_lt a b (i + 1) hb
      have h4 : 65536 ^ (i + 4) ≤ 65536 ^ j := Nat.pow_le_pow_right (by omega) (by omega)
      have h5 : 65536 ^ (i + 1 + 4) ≤ 65536 ^ j := Nat.pow_le_pow_right (by omega) (by omega)
      rw [dg_small (Nat.lt_of_lt_of_le h1 h4), dg_small (Nat.lt_of_lt_of_le h3 h5)]

/-! ### Bit by bit -/
theorem bit_of (N k : Nat) : dg N (k / 16) / 2 ^ (k % 16) % 2 = N / 2 ^ k % 2 := by
  have ht : k % 16 < 16 := Nat.mod_lt _ (by omega)
  have hk : 2 ^ k = 65536 ^ (k / 16) * 2 ^ (k % 16) := by
    rw [show (65536 : Nat) = 2 ^ 16 from rfl, ← Nat.pow_mul, ← Nat.pow_add, Nat.div_add_mod]
  rw [hk, ← Nat.div_div_eq_div_mul]
  unfold dg
  generalize N / 65536 ^ (k / 16) = M
  generalize k % 16 = t at *
  have h16 : 65536 = 2 ^ t * (2 * 2 ^ (15 - t)) := by
    rw [Nat.mul_left_comm, ← Nat.pow_add, show t + (15 - t) = 15 from by omega]
  have h := Nat.div_add_mod M 65536
  have e : M / 2 ^ t = M % 65536 / 2 ^ t + 2 * (2 ^ (15 - t) * (M / 65536)) := by
    have e1 : M = M % 65536 + 2 ^ t * (2 * (2 ^ (15 - t) * (M / 65536))) := by
      rw [← Nat.mul_assoc 2, ← Nat.mul_assoc, ← h16]; omega
    have h2 : (M % 65536 + 2 ^ t * (2 * (2 ^ (15 - t) * (M / 65536)))) / 2 ^ t = M % 65536 / 2 ^ t + 2 * (2 ^ (15 - t) * (M / 65536)) := Nat.add_mul_div_left _ _ (Nat.pow_pos (by omega))
    rw [← e1] at h2
    exact h2
  rw [e, Nat.add_mul_mod_self_left]
theorem half_of_pow (N k : Nat) : N / 2 ^ k = 2 * (N / 2 ^ (k + 1)) + N / 2 ^ k % 2 := by
  have h := Nat.div_add_mod (N / 2 ^ k) 2
  rw [Nat.div_div_eq_div_mul, ← Nat.pow_succ] at h
  exact h.symm
/-- One bit more. -/
theorem bit_step {M c t : Nat} (hc : 0 < c) (ht : t ≤ 1) :
    (2 * M + t) / c = (if c ≤ 2 * (M % c) + t then 2 * (M / c) + 1 else 2 * (M / c)) ∧ (2 * M + t) % c = (if c ≤ 2 * (M % c) + t then 2 * (M % c) + t - c else 2 * (M % c) + t) := by
  have h := Nat.div_add_mod M c
  have hl := Nat.mod_lt M hc
  have e : 2 * M + t = 2 * (M % c) + t + c * (2 * (M / c)) := by
    rw [Nat.mul_left_comm]; omega
  rw [e, Nat.add_mul_div_left _ _ hc, Nat.add_mul_mod_self_left]
  generalize M % c = r at *
  generalize M / c = q at *
  by_cases hx : c ≤ 2 * r + t
  · rw [if_pos hx, if_pos hx]
    have e2 : 2 * r + t = (2 * r + t - c) + c * 1 := by omega
    rw [e2, Nat.add_mul_div_left _ _ hc, Nat.add_mul_mod_self_left, Nat.div_eq_of_lt (by omega), Nat.mod_eq_of_lt (by omega)]
    omega
  · rw [if_neg hx, if_neg hx, Nat.div_eq_of_lt (by omega), Nat.mod_eq_of_lt (by omega)]
    omega
theorem div_mono_pow (N k c : Nat) : N / 2 ^ (k + 1) / c ≤ N / 2 ^ k / c := by
  refine Nat.div_le_div_right ?_
  have := half_of_pow N k; omega

end Go.Proofs.Ytckmpllbbebefaa.Mul
