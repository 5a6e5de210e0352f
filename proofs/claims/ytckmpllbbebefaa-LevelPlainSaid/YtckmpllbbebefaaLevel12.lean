/- Plain laws about widths and kerns: closed forms, bounds. -/
import Derived.Test.YtckmpllbbebefaaLevel11
namespace Go.Proofs.Ytckmpllbbebefaa.Lv
open Go.RowKit Go.Proofs.Ytckmpllbbebefaa.Kit Go.Proofs.Ytckmpllbbebefaa.Fo
set_option linter.unusedVariables false
set_option linter.unusedSimpArgs false

theorem mul_abs {a b : Int} {A B : Nat} (ha : a.natAbs ≤ A) (hb : b.natAbs ≤ B) : (a * b).natAbs ≤ A * B := by
  rw [Int.natAbs_mul]
  exact Nat.mul_le_mul ha hb
theorem div_abs {x c : Int} {N : Nat} (hc : 1 ≤ c) (h : x.natAbs ≤ N) : (x / c).natAbs ≤ N := by
  have h1 : x ≤ N := by omega
  have h2 : -(N : Int) ≤ x := by omega
  have hN : (N : Int) ≤ (N : Int) * c := by
    have := Int.mul_le_mul_of_nonneg_left hc (show (0 : Int) ≤ (N : Int) by omega)
    omega
  have h3 : x / c ≤ N := Int.ediv_le_of_le_mul (by omega) (by omega)
  have h4 : -(N : Int) ≤ x / c := Int.le_ediv_of_mul_le (by omega) (by rw [Int.neg_mul]; omega)
  omega
theorem fl_div {a b c : Int} (ha : a.natAbs ≤ 1073741824) (hb : b.natAbs ≤ 1073741824) (hc : 1 ≤ c ∧ c ≤ 2000000) : fl a b c = a * b / c := by
  have h1 := div_abs hc.1 (mul_abs ha hb)
  unfold fl Mul.floorP
  rw [if_pos (show Mul.mayP a b c = true by unfold Mul.mayP; exact decide_eq_true (by omega))]
  unfold Mul.keptP
  rw [if_pos (by omega)]
theorem wrap_at {x : Int} (h : x.natAbs ≤ 4611686018427387904) : IntKind.i64.wrap x = x := by rw [IntKind.wrap_i64]; omega
theorem wrap64_at {x : Int} (h : x.natAbs ≤ 4611686018427387904) : wrap64 x = x := by unfold wrap64; omega
theorem fixOf_ok {d : FontD} {code : Int} (ht : tfmB d = true) (hq : hasB d code = true) : (fixOf d code).natAbs ≤ 16777216 := by
  unfold hasB at hq
  simp only [Bool.and_eq_true, decide_eq_true_eq] at hq
  obtain ⟨⟨q1, q2⟩, q3⟩ := hq
  obtain ⟨k, hk⟩ : ∃ k : Nat, code - d.first = k := ⟨(code - d.first).toNat, by omega⟩
  obtain ⟨c, hc⟩ := at_lt (show k < d.chars.length by omega)
  obtain ⟨x1, x2⟩ := width_ok ht hc
  obtain ⟨j, hj⟩ : ∃ j : Nat, c.1 = j := ⟨c.1.toNat, by omega⟩
  obtain ⟨x, hx⟩ := at_lt (show j < d.widths.length by omega)
  have e : (code - d.first).toNat = k := by omega
  have hfix : fixOf d code = x := by simp [fixOf, widthOf, e, List.getD_eq_getElem?_getD, hc, hj, hx]
  have := fix_ok ht hx
  rw [hfix]
  omega
theorem trait_in {l : List StepT} (last : Int) (code : Int) (h : wrongT last l = false) : (0 ≤ (traitP l code).2.1 ∧ (traitP l code).2.1 ≤ 1000) ∧ (-1000 ≤ (traitP l code).2.2.1 ∧ (traitP l code).2.2.1 ≤ 1000) ∧ (-1000 ≤ (traitP l code).2.2.2 ∧ (traitP l code).2.2.2 ≤ 1000) := by
  induction l generalizing last with
  | nil => simp [traitP]
  | cons t ts ih =>
    simp only [wrongT, Bool.or_eq_false_iff] at h
    obtain ⟨h1, h2⟩ := h
    by_cases hc : t.1 = code
    · have e : traitP (t :: ts) code = t := by simp [traitP, hc]
      rw [e]
      simp [badT, toB] at h1
      omega
    · have e : traitP (t :: ts) code = traitP ts code := by simp [traitP, hc]
      rw [e]
      exact ih t.1 h2
/-- A width at the level 0; what a level adds. -/
def ptW (d : FaceD) (code : Int) : Int := fixOf d.font code * d.size / 1048576
def ptK (d : FaceD) (x : Int) : Int := x * d.size / 1048576
theorem pt_bound {d : FaceD} {x : Int} (hf : faceB d = true) (hx : x.natAbs ≤ 16777216) : (x * d.size / 1048576).natAbs ≤ 67108865 := by
  obtain ⟨_, hs, _⟩ := face_ok hf
  have h := mul_abs hx (show d.size.natAbs ≤ 4194304 by omega)
  generalize x * d.size = y at *
  omega
theorem wide_form {d : FaceD} {code : Int} (n : Int) (hf : faceB d = true) (hq : hasB d.font code = true) : wideP d code n = ptW d code + ptW d code * (clampP d n * d.step * (traitP d.traits code).2.1) / 1000000 := by
  obtain ⟨hl, hs, hst, hu, hd, hw⟩ := face_ok hf
  have hfx := fixOf_ok (lig_tfm hl) hq
  obtain ⟨t1, _, _⟩ := trait_in (-1) code hw
  obtain ⟨c1, c2⟩ := clamp_in hf n
  have b1 : (clampP d n * d.step).natAbs ≤ 8 * 50 := mul_abs (by omega) (by omega)
  have b2 : (clampP d n * d.step * (traitP d.traits code).2.1).natAbs ≤ 8 * 50 * 1000 := mul_abs b1 (by omega)
  have b3 := pt_bound hf hfx
  have e1 : fl (fixOf d.font code) d.size 1048576 = ptW d code := fl_div (by omega) (by omega) (by omega)
  unfold wideP
  rw [e1, wrap_at (x := clampP d n * d.step) (by omega), wrap_at (x := clampP d n * d.step * (traitP d.traits code).2.1) (by omega)]
  have b4 : (ptW d code).natAbs ≤ 67108865 := b3
  rw [fl_div (by omega) (by omega) (by omega)]
  have b5 := div_abs (c := 1000000) (by omega) (mul_abs b4 b2)
  exact wrap_at (by omega)
theorem kern_form {d : FaceD} {x : Int} (n : Int) (hf : faceB d = true) (hx : fixB x = true) : kernP d x n = ptK d x + ptK d x * (clampP d n * d.step) / 1000 := by
  obtain ⟨hl, hs, hst, hu, hd, hw⟩ := face_ok hf
  have hfx : x.natAbs ≤ 16777216 := by simp [fixB] at hx; omega
  obtain ⟨c1, c2⟩ := clamp_in hf n
  have b1 : (clampP d n * d.step).natAbs ≤ 8 * 50 := mul_abs (by omega) (by omega)
  have b4 : (ptK d x).natAbs ≤ 67108865 := pt_bound hf hfx
  have e1 : fl x d.size 1048576 = ptK d x := fl_div (by omega) (by omega) (by omega)
  unfold kernP
  rw [e1, wrap64_at (x := clampP d n * d.step) (by omega), fl_div (by omega) (by omega) (by omega)]
  have b5 := div_abs (c := 1000) (by omega) (mul_abs b4 b1)
  exact wrap64_at (by omega)
theorem clamp_zero {d : FaceD} (hf : faceB d = true) : clampP d 0 = 0 := by
  obtain ⟨hl, hs, hst, hu, hd, hw⟩ := face_ok hf
  unfold clampP
  omega
theorem wide_zero {d : FaceD} {code : Int} (hf : faceB d = true) (hq : hasB d.font code = true) : wideP d code 0 = ptW d code := by
  rw [wide_form 0 hf hq, clamp_zero hf]; simp
theorem kern_zero {d : FaceD} {x : Int} (hf : faceB d = true) (hx : fixB x = true) : kernP d x 0 = ptK d x := by
  rw [kern_form 0 hf hx, clamp_zero hf]; simp
theorem twice (x s : Int) : x * (2 * s) / 1048576 = 2 * (x * s / 1048576) ∨ x * (2 * s) / 1048576 = 2 * (x * s / 1048576) + 1 := by
  rw [Int.mul_left_comm]
  generalize x * s = y
  omega
end Go.Proofs.Ytckmpllbbebefaa.Lv
