/- Products over a number: the plain law. -/
namespace Go.Proofs.Ytndpdbofoojkhaa.Mul
set_option linter.unusedVariables false

def mayP (a b c : Int) : Bool := decide (-4611686018427387903 ≤ a ∧ a ≤ 4611686018427387903 ∧ -4611686018427387903 ≤ b ∧ b ≤ 4611686018427387903 ∧ 1 ≤ c ∧ c ≤ 4611686018427387903)
def keptP (q : Int) : Int × Int := if -4611686018427387903 ≤ q ∧ q ≤ 4611686018427387903 then (q, 0) else (0, 20)
def floorP (a b c : Int) : Int × Int := if mayP a b c then keptP (a * b / c) else (0, 1)
def restP (a b c : Int) : Int × Int := if mayP a b c then (a * b % c, 0) else (0, 1)
def nearP (a b c : Int) : Int × Int := if mayP a b c then keptP (a * b / c + if c ≤ 2 * (a * b % c) then 1 else 0) else (0, 1)
def minusB (a b : Int) : Bool := (decide (a < 0) && decide (0 < b)) || (decide (0 < a) && decide (b < 0))
def signed (m : Bool) (q : Int) : Int := if m then -q else q

theorem may_iff {a b c : Int} (h : mayP a b c = true) : -4611686018427387903 ≤ a ∧ a ≤ 4611686018427387903 ∧ -4611686018427387903 ≤ b ∧ b ≤ 4611686018427387903 ∧ 1 ≤ c ∧ c ≤ 4611686018427387903 := of_decide_eq_true h

/-- The floor and the rest, by sizes and signs. -/
theorem by_signs {a b : Int} {x y d : Nat} (ha : (x : Int) = a ∨ (x : Int) = -a) (hx : (x : Int) = max a (-a)) (hy : (y : Int) = max b (-b)) (hd : 0 < d) :
    (minusB a b = true ∧ a * b = -((x * y : Nat) : Int)) ∨ (minusB a b = false ∧ a * b = ((x * y : Nat) : Int)) := by
  have hm : ((x * y : Nat) : Int) = (x : Int) * y := Int.natCast_mul _ _
  rw [hm]
  rcases Int.le_total 0 a with h1 | h1 <;> rcases Int.le_total 0 b with h2 | h2
  · have e1 : (x : Int) = a := by omega
    have e2 : (y : Int) = b := by omega
    refine .inr ⟨?_, by rw [e1, e2]⟩
    unfold minusB; simp; omega
  · have e1 : (x : Int) = a := by omega
    have e2 : (y : Int) = -b := by omega
    rcases Int.lt_trichotomy a 0 with h | h | h
    · omega
    · refine .inr ⟨?_, by rw [e1, h]; simp⟩
      unfold minusB; simp; omega
    · rcases Int.lt_trichotomy b 0 with k | k | k
      · refine .inl ⟨?_, by rw [e1, e2, Int.mul_neg, Int.neg_neg]⟩
        unfold minusB; simp; omega
      · refine .inr ⟨?_, by rw [e1, e2, k]; simp⟩
        unfold minusB; simp; omega
      · omega
  · have e1 : (x : Int) = -a := by omega
    have e2 : (y : Int) = b := by omega
    rcases Int.lt_trichotomy b 0 with h | h | h
    · omega
    · refine .inr ⟨?_, by rw [e2, h]; simp⟩
      unfold minusB; simp; omega
    · rcases Int.lt_trichotomy a 0 with k | k | k
      · refine .inl ⟨?_, by rw [e1, e2, Int.neg_mul, Int.neg_neg]⟩
        unfold minusB; simp; omega
      · refine .inr ⟨?_, by rw [e1, e2, k]; simp⟩
        unfold minusB; simp; omega
      · omega
  · have e1 : (x : Int) = -a := by omega
    have e2 : (y : Int) = -b := by omega
    refine .inr ⟨?_, by rw [e1, e2, Int.neg_mul_neg]⟩
    unfold minusB; simp; omega
theorem neg_div {n d : Nat} (hd : 0 < d) :
    (-(n : Int)) / d = (if n % d = 0 then -((n / d : Nat) : Int) else -((n / d + 1 : Nat) : Int)) ∧ (-(n : Int)) % d = (if n % d = 0 then 0 else ((d - n % d : Nat) : Int)) := by
  have h := Nat.div_add_mod n d
  have hl := Nat.mod_lt n hd
  obtain ⟨q, hq⟩ : ∃ q, n / d = q := ⟨_, rfl⟩
  obtain ⟨r, hr⟩ : ∃ r, n % d = r := ⟨_, rfl⟩
  rw [hq, hr] at h
  rw [hr] at hl
  rw [hq, hr]
  have hn : (n : Int) = d * q + r := by rw [← h]; simp only [Int.natCast_add, Int.natCast_mul]
  by_cases h0 : r = 0
  · rw [if_pos h0, if_pos h0]
    subst h0
    have e : -(n : Int) = (d : Int) * (-(q : Int)) := by rw [hn, Int.mul_neg]; omega
    rw [e]
    exact ⟨Int.mul_ediv_cancel_left _ (by omega), Int.mul_emod_right _ _⟩
  · rw [if_neg h0, if_neg h0]
    have e : -(n : Int) = ((d - r : Nat) : Int) + (d : Int) * (-((q + 1 : Nat) : Int)) := by
      rw [hn, Int.mul_neg, Int.natCast_add, Int.mul_add]; simp; omega
    rw [e]
    constructor
    · rw [Int.add_mul_ediv_left _ _ (by omega), Int.ediv_eq_zero_of_lt (by omega) (by omega)]; omega
    · rw [Int.add_mul_emod_self_left, Int.emod_eq_of_lt (by omega) (by omega)]
/-- Two halves of a quotient. -/
theorem halves (hi lo d : Nat) (hd : 0 < d) :
    (hi * 18446744073709551616 + lo) / d = hi / d * 18446744073709551616 + (hi % d * 18446744073709551616 + lo) / d ∧ (hi * 18446744073709551616 + lo) % d = (hi % d * 18446744073709551616 + lo) % d := by
  have h := Nat.div_add_mod hi d
  have e : hi * 18446744073709551616 + lo = (hi % d * 18446744073709551616 + lo) + d * (hi / d * 18446744073709551616) := by
    rw [← Nat.mul_assoc]
    generalize d * (hi / d) = m at *
    omega
  rw [e, Nat.add_mul_div_left _ _ hd, Nat.add_mul_mod_self_left]
  exact ⟨Nat.add_comm _ _, rfl⟩

end Go.Proofs.Ytndpdbofoojkhaa.Mul
