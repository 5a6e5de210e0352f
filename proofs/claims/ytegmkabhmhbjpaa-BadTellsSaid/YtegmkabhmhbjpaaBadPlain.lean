/- Badness: the plain laws. -/
import Derived.Test.YtegmkabhmhbjpaaBadAwake
namespace Go.Proofs.Ytegmkabhmhbjpaa.Bad
open Go.RowKit Go.Proofs.Ytegmkabhmhbjpaa.Kit
set_option linter.unusedVariables false
set_option linter.unusedSimpArgs false

theorem main_mono {a a' c c' : Nat} (hc : 0 < c) (hc' : 0 < c') (h : a ≤ a') (h2 : c' ≤ c) : (a * 200 + c) / (2 * c) ≤ (a' * 200 + c') / (2 * c') := by
  rw [Nat.le_div_iff_mul_le (by omega)]
  have hk := Nat.div_mul_le_self (a * 200 + c) (2 * c)
  generalize (a * 200 + c) / (2 * c) = k at *
  cases k with
  | zero => omega
  | succ k =>
    have e1 : (k + 1) * (2 * c) = 2 * (k * c) + 2 * c := by rw [Nat.add_mul, Nat.one_mul, Nat.mul_left_comm]
    have e2 : (k + 1) * (2 * c') = 2 * (k * c') + 2 * c' := by rw [Nat.add_mul, Nat.one_mul, Nat.mul_left_comm]
    have e3 : k * c' ≤ k * c := Nat.mul_le_mul_left k h2
    omega
theorem badP_mono {T T' S S' : Nat} (h : T ≤ T') (h2 : S' ≤ S) : badP T S ≤ badP T' S' := by
  by_cases hT : T = 0
  · simp [badP, hT]
  have hT' : T' ≠ 0 := by omega
  by_cases hS' : S' = 0
  · have := badP_le T S
    have e : badP T' S' = 10000 := by simp [badP, hT', hS']
    omega
  have hS : S ≠ 0 := by omega
  have := main_mono (cube_pos (Nat.pos_of_ne_zero hS)) (cube_pos (Nat.pos_of_ne_zero hS')) (cube_mono h) (cube_mono h2)
  simp only [badP, hT, hT', hS, hS', if_false]
  omega
theorem badP_same {T : Nat} (h : T ≠ 0) : badP T T = 100 := by
  have hc := cube_pos (Nat.pos_of_ne_zero h)
  simp only [badP, h, if_false]
  have : (cube T * 200 + cube T) / (2 * cube T) = 100 := by
    rw [Nat.div_eq_iff (by omega)]
    omega
  omega
theorem cl_mono {a b : Int} (h : a ≤ b) : cl a ≤ cl b := by
  unfold cl
  split <;> split <;> (try split) <;> (try split) <;> omega
theorem cl_zero {a : Int} : cl a = 0 ↔ a ≤ 0 := by
  unfold cl
  split <;> (try split) <;> omega
theorem cl_nat {n : Nat} (h : n ≤ 1073741823) : cl n = n := by
  unfold cl
  rw [if_neg (by omega), if_neg (by omega)]
  omega
theorem badP_zero (S : Nat) : badP 0 S = 0 := by simp [badP]
theorem badP_none {T : Nat} (h : T ≠ 0) : badP T 0 = 10000 := by simp [badP, h]
theorem cube_two (n : Nat) : cube (2 * n) = 8 * cube n := by
  unfold cube
  have a1 : 2 * n * (2 * n) = 4 * (n * n) := by rw [Nat.mul_mul_mul_comm]
  rw [a1, Nat.mul_mul_mul_comm]
theorem badP_twice (T S : Nat) : badP (2 * T) (2 * S) = badP T S := by
  unfold badP
  rw [cube_two, cube_two]
  have e : (8 * cube T * 200 + 8 * cube S) / (2 * (8 * cube S)) = (cube T * 200 + cube S) / (2 * cube S) := by
    have e1 : 8 * cube T * 200 + 8 * cube S = 8 * (cube T * 200 + cube S) := by omega
    have e2 : 2 * (8 * cube S) = 8 * (2 * cube S) := by omega
    rw [e1, e2, Nat.mul_div_mul_left _ _ (by omega)]
  rw [e]
  have t1 : (2 * T = 0) = (T = 0) := propext (by omega)
  have t2 : (2 * S = 0) = (S = 0) := propext (by omega)
  simp only [t1, t2]
theorem badP_eight (T S : Nat) : badP (2 * T) S = 10000 ∨ 8 * badP T S ≤ badP (2 * T) S + 4 ∧ badP (2 * T) S ≤ 8 * badP T S + 4 := by
  by_cases h1 : T = 0
  · subst h1; simp [badP]
  by_cases h2 : S = 0
  · subst h2; left; exact badP_none (by omega)
  have h3 : 2 * T ≠ 0 := by omega
  have hc := cube_pos (Nat.pos_of_ne_zero h2)
  simp only [badP, h1, h2, h3, if_false]
  rw [cube_two]
  generalize cube T = a at *
  generalize cube S = c at *
  have p1 := Nat.div_mul_le_self (a * 200 + c) (2 * c)
  have p2 := Nat.lt_div_mul_add (a := a * 200 + c) (b := 2 * c) (by omega)
  have q1 := Nat.div_mul_le_self (8 * a * 200 + c) (2 * c)
  have q2 := Nat.lt_div_mul_add (a := 8 * a * 200 + c) (b := 2 * c) (by omega)
  generalize (a * 200 + c) / (2 * c) = b at *
  generalize (8 * a * 200 + c) / (2 * c) = e at *
  have eb : b * (2 * c) = 2 * (b * c) := Nat.mul_left_comm _ _ _
  have ee : e * (2 * c) = 2 * (e * c) := Nat.mul_left_comm _ _ _
  rw [eb] at p1 p2
  rw [ee] at q1 q2
  have r1 : e ≤ 8 * b + 4 := by
    apply Nat.le_of_not_lt
    intro h
    have := Nat.mul_le_mul_right c (show 8 * b + 5 ≤ e by omega)
    rw [Nat.add_mul, Nat.mul_assoc] at this
    omega
  have r2 : 8 * b ≤ e + 4 := by
    apply Nat.le_of_not_lt
    intro h
    have := Nat.mul_le_mul_right c (show e + 5 ≤ 8 * b by omega)
    rw [Nat.add_mul, Nat.mul_assoc] at this
    omega
  omega
theorem badP_fits {T S : Nat} (hS : S ≠ 0) : badP T S * (2 * cube S) ≤ cube T * 200 + cube S ∧ (badP T S = 10000 ∨ cube T * 200 + cube S < (badP T S + 1) * (2 * cube S)) := by
  have hc := cube_pos (Nat.pos_of_ne_zero hS)
  by_cases hT : T = 0
  · subst hT
    simp [badP, cube] at *
    omega
  simp only [badP, hT, hS, if_false]
  have p1 := Nat.div_mul_le_self (cube T * 200 + cube S) (2 * cube S)
  have p2 := Nat.lt_div_mul_add (a := cube T * 200 + cube S) (b := 2 * cube S) (by omega)
  generalize (cube T * 200 + cube S) / (2 * cube S) = b at *
  have p3 := Nat.mul_le_mul_right (2 * cube S) (Nat.min_le_right 10000 b)
  refine ⟨Nat.le_trans p3 p1, ?_⟩
  by_cases h : b < 10000
  · right
    rw [Nat.min_eq_right (by omega), Nat.add_mul]
    omega
  · left; omega

end Go.Proofs.Ytegmkabhmhbjpaa.Bad
