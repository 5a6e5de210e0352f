/- joined for a claim: MulPlain, Mul, MulParts, MulTold, MulFloor -/
import Derived.Test.YtndpdbofoojkhaaGreatDiv64
import Derived.Laws.Externs
import Derived.RegionTactic
import Derived.ChangeAlike
/- Products over a number: the plain law. -/
namespace Go.Proofs.YtndpdbofoojkhaaGreat.Mul
set_option linter.unusedVariables false

def mayP (a b c : Int) : Bool := decide (-4611686018427387903 ≤ a ∧ a ≤ 4611686018427387903 ∧ -4611686018427387903 ≤ b ∧ b ≤ 4611686018427387903 ∧ 1 ≤ c ∧ c ≤ 4611686018427387903)
def keptP (q : Int) : Int × Int := if -4611686018427387903 ≤ q ∧ q ≤ 4611686018427387903 then (q, 0) else (0, 20)
def floorP (a b c : Int) : Int × Int := if mayP a b c then keptP (a * b / c) else (0, 1)
def restP (a b c : Int) : Int × Int := if mayP a b c then (a * b % c, 0) else (0, 1)
def nearP (a b c : Int) : Int × Int := if mayP a b c then keptP (a * b / c + if c ≤ 2 * (a * b % c) then 1 else 0) else (0, 1)
def minusB (a b : Int) : Bool := (decide (a < 0) && decide (0 < b)) || (decide (0 < a) && decide (b < 0))
def signed (m : Bool) (q : Int) : Int := if m then -q else q

theorem may_iff {a b c : Int} (h : mayP a b c = true) : -4611686018427387903 ≤ a ∧ a ≤ 4611686018427387903 ∧ -4611686018427387903 ≤ b ∧ b ≤ 4611686018427387903 ∧ 1 ≤ c ∧ c ≤ 4611686018427387903 := of_decide_eq_true h

/-- The floor and the rest, by sizes and signs. -/
theorem by_signs {a b : Int} {x y d : Nat} (ha : (x : Int) = a ∨ (x : Int) = -a) (hx : (x : Int) = max a (-a)) (hy : (y : Int) = max b (-b)) (hd : 0 < d) :
    (minusB a b = true ∧ a * b = -((x * y : Nat) : Int)) ∨ (minusB a b = false ∧ a * b = ((x * y : Nat) : Int)) := by
  have hm : ((x * y : Nat) : Int) = (x : Int) * y := Int.natCast_mul _ _
  rw [hm]
  rcases Int.le_total 0 a with h1 | h1 <;> rcases Int.le_total 0 b with h2 | h2
  · have e1 : (x : Int) = a := by omega
    have e2 : (y : Int) = b := by omega
    refine .inr ⟨?_, by rw [e1, e2]⟩
    unfold minusB; simp; omega
  · have e1 : (x : Int) = a := by omega
    have e2 : (y : Int) = -b := by omega
    rcases Int.lt_trichotomy a 0 with h | h | h
    · omega
    · refine .inr ⟨?_, by rw [e1, h]; simp⟩
      unfold minusB; simp; omega
    · rcases Int.lt_trichotomy b 0 with k | k | k
      · refine .inl ⟨?_, by rw [e1, e2, Int.mul_neg, Int.neg_neg]⟩
        unfold minusB; simp; omega
      · refine .inr ⟨?_, by rw [e1, e2, k]; simp⟩
        unfold minusB; simp; omega
      · omega
  · have e1 : (x : Int) = -a := by omega
    have e2 : (y : Int) = b := by omega
    rcases Int.lt_trichotomy b 0 with h | h | h
    · omega
    · refine .inr ⟨?_, by rw [e2, h]; simp⟩
      unfold minusB; simp; omega
    · rcases Int.lt_trichotomy a 0 with k | k | k
      · refine .inl ⟨?_, by rw [e1, e2, Int.neg_mul, Int.neg_neg]⟩
        unfold minusB; simp; omega
      · refine .inr ⟨?_, by rw [e1, e2, k]; simp⟩
        unfold minusB; simp; omega
      · omega
  · have e1 : (x : Int) = -a := by omega
    have e2 : (y : Int) = -b := by omega
    refine .inr ⟨?_, by rw [e1, e2, Int.neg_mul_neg]⟩
    unfold minusB; simp; omega
theorem neg_div {n d : Nat} (hd : 0 < d) :
    (-(n : Int)) / d = (if n % d = 0 then -((n / d : Nat) : Int) else -((n / d + 1 : Nat) : Int)) ∧ (-(n : Int)) % d = (if n % d = 0 then 0 else ((d - n % d : Nat) : Int)) := by
  have h := Nat.div_add_mod n d
  have hl := Nat.mod_lt n hd
  obtain ⟨q, hq⟩ : ∃ q, n / d = q := ⟨_, rfl⟩
  obtain ⟨r, hr⟩ : ∃ r, n % d = r := ⟨_, rfl⟩
  rw [hq, hr] at h
  rw [hr] at hl
  rw [hq, hr]
  have hn : (n : Int) = d * q + r := by rw [← h]; simp only [Int.natCast_add, Int.natCast_mul]
  by_cases h0 : r = 0
  · rw [if_pos h0, if_pos h0]
    subst h0
    have e : -(n : Int) = (d : Int) * (-(q : Int)) := by rw [hn, Int.mul_neg]; omega
    rw [e]
    exact ⟨Int.mul_ediv_cancel_left _ (by omega), Int.mul_emod_right _ _⟩
  · rw [if_neg h0, if_neg h0]
    have e : -(n : Int) = ((d - r : Nat) : Int) + (d : Int) * (-((q + 1 : Nat) : Int)) := by
      rw [hn, Int.mul_neg, Int.natCast_add, Int.mul_add]; simp; omega
    rw [e]
    constructor
    · rw [Int.add_mul_ediv_left _ _ (by omega), Int.ediv_eq_zero_of_lt (by omega) (by omega)]; omega
    · rw [Int.add_mul_emod_self_left, Int.emod_eq_of_lt (by omega) (by omega)]
/-- Two halves of a quotient. -/
theorem halves (hi lo d : Nat) (hd : 0 < d) :
    (hi * 18446744073709551616 + lo) / d = hi / d * 18446744073709551616 + (hi % d * 18446744073709551616 + lo) / d ∧ (hi * 18446744073709551616 + lo) % d = (hi % d * 18446744073709551616 + lo) % d := by
  have h := Nat.div_add_mod hi d
  have e : hi * 18446744073709551616 + lo = (hi % d * 18446744073709551616 + lo) + d * (hi / d * 18446744073709551616) := by
    rw [← Nat.mul_assoc]
    generalize d * (hi / d) = m at *
    omega
  rw [e, Nat.add_mul_div_left _ _ hd, Nat.add_mul_mod_self_left]
  exact ⟨Nat.add_comm _ _, rfl⟩

end Go.Proofs.YtndpdbofoojkhaaGreat.Mul
/- Products over a number: what the program's calls answer. -/
namespace Go.Proofs.YtndpdbofoojkhaaGreat.Mul
open Go.RowKit Go.Proofs.YtndpdbofoojkhaaGreat.Kit
set_option linter.unusedVariables false
set_option linter.unusedSimpArgs false

theorem size_any (n : Int) (h1 : -4611686018427387904 ≤ n) (h2 : n ≤ 4611686018427387904) (w : World) :
    Calls Tryz.prog 123 #[.int .i64 n] w fun e w' => e = .returned (.int .u64 (max n (-n))) ∧ w = w' := by
  have E : Hid (IntKind.u64.wrap (max n (-n)) = max n (-n)) := Lib.hid (by rw [IntKind.wrap_u64]; omega)
  go_enter Tryz.func123, Tryz.ntmps123
  go_wp2
  go_ret
  exact ⟨rfl, rfl⟩

def inB (n : Int) : Bool := decide (-4611686018427387903 ≤ n ∧ n ≤ 4611686018427387903)
theorem may_out {a b : Int} (c : Int) (h : inB a = false ∨ inB b = false) : mayP a b c = false := by
  unfold mayP inB at *
  simp only [decide_eq_false_iff_not] at *
  omega
set_option maxHeartbeats 1000000 in
theorem may_any (a b c : Int) (w : World) :
    Calls Tryz.prog 113 #[.int .i64 a, .int .i64 b, .int .i64 c] w fun e w' => e = .returned (.bool (mayP a b c)) ∧ w = w' := by
  have i0 : ∀ w, (Instr.index 126 (.agg #[.int .i64 a, .int .i64 b]) (.int .i64 0)).run Tryz.prog w = .ok (.int .i64 a) w := fun _ => by kernel_rfl
  have i1 : ∀ w, (Instr.index 126 (.agg #[.int .i64 a, .int .i64 b]) (.int .i64 1)).run Tryz.prog w = .ok (.int .i64 b) w := fun _ => by kernel_rfl
  obtain ⟨r, hr⟩ : ∃ r, Hid (mayP a b c = r) := ⟨_, Lib.hid rfl⟩
  rw [hr.out]
  go_enter Tryz.func113, Tryz.ntmps113
  go_wp2
  go_loop [9] (fun i => ∃ k : Nat, i = .int .i64 k ∧ k ≤ 2 ∧ (1 ≤ k → Hid (inB a = true)) ∧ (2 ≤ k → Hid (inB b = true))) (fun i => 2 - (intOf i).toNat)
  case atStart => exact ⟨0, rfl, by omega, fun h => by omega, fun h => by omega⟩
  case round =>
    obtain ⟨k, rfl, hk, ha, hb⟩ := hrel
    rcases (by omega : k = 0 ∨ k = 1 ∨ k = 2) with rfl | rfl | rfl
    · clear ha hb
      cases hA : inB a with
      | false =>
        have HR : Hid (r = false) := Lib.hid (by rw [← hr.out]; exact may_out c (.inl hA))
        have hA' : a < -4611686018427387903 ∨ ¬ a < -4611686018427387903 ∧ 4611686018427387903 < a := by unfold inB at hA; simp only [decide_eq_false_iff_not] at hA; omega
        clear hA
        rcases hA' with h | ⟨h, h'⟩
        all_goals
          go_wp2
          go_ret
          exact ⟨ret_bool rfl HR.out.symm, rfl⟩
      | true =>
        have hA' : -4611686018427387903 ≤ a ∧ a ≤ 4611686018427387903 := by unfold inB at hA; exact of_decide_eq_true hA
        obtain ⟨h, h'⟩ := hA'
        have HA := Lib.hid hA
        clear hA
        go_wp2
        go_round
        case rel => exact ⟨1, by go_num, by omega, fun _ => by first | exact HA | exact Lib.hid trivial, fun h => by omega⟩
        case measure => simp [intOf]
    · have HA := ha (by omega)
      clear ha hb
      cases hA : inB b with
      | false =>
        have HR : Hid (r = false) := Lib.hid (by rw [← hr.out]; exact may_out c (.inr hA))
        have hA' : b < -4611686018427387903 ∨ ¬ b < -4611686018427387903 ∧ 4611686018427387903 < b := by unfold inB at hA; simp only [decide_eq_false_iff_not] at hA; omega
        clear hA
        rcases hA' with h | ⟨h, h'⟩
        all_goals
          go_wp2
          go_ret
          exact ⟨ret_bool rfl HR.out.symm, rfl⟩
      | true =>
        have hA' : -4611686018427387903 ≤ b ∧ b ≤ 4611686018427387903 := by unfold inB at hA; exact of_decide_eq_true hA
        obtain ⟨h, h'⟩ := hA'
        have HB := Lib.hid hA
        clear hA
        go_wp2
        go_round
        case rel => exact ⟨2, by go_num, by omega, fun _ => HA, fun _ => by first | exact HB | exact Lib.hid trivial⟩
        case measure => simp [intOf]
    · have HA := ha (by omega)
      have HB := hb (by omega)
      clear ha hb
      have HC : Hid (r = (decide (1 ≤ c) && decide (c ≤ 4611686018427387903))) := Lib.hid (by
        have h1 := HA.out; have h2 := HB.out
        rw [← hr.out]
        unfold mayP inB at *
        have h1 := of_decide_eq_true h1; have h2 := of_decide_eq_true h2
        rw [← Bool.decide_and, decide_eq_decide]
        omega)
      clear HA HB
      go_wp2
      all_goals
        go_ret
        exact ⟨ret_bool rfl (by rw [HC.out]; first | (simp; done) | (simp; omega) | (simp [*]; done)), rfl⟩

end Go.Proofs.YtndpdbofoojkhaaGreat.Mul
/- Products over a number: the quotient's halves. -/
namespace Go.Proofs.YtndpdbofoojkhaaGreat.Mul
open Go.RowKit Go.Proofs.YtndpdbofoojkhaaGreat.Kit
set_option linter.unusedVariables false
set_option linter.unusedSimpArgs false

theorem mul64_nat (x y : Nat) (hx : x < 18446744073709551616) (hy : y < 18446744073709551616) (w : World) :
    Calls Tryz.prog 94 #[.int .u64 x, .int .u64 y] w fun e w' => e = .returned (.tuple #[.int .u64 ((x * y / 18446744073709551616 : Nat) : Int), .int .u64 ((x * y % 18446744073709551616 : Nat) : Int)]) ∧ w = w' :=
  (Tryz.bits_Mul64 x y hx hy w).mono fun e w' h => ⟨h.1, h.2.symm⟩
/-- The number that it is over, 62 bits; a dividend's upper word below it. -/
theorem div64_all (h l y : Nat) (hy : y < 9223372036854775808) (hh : h < y) (hl : l < 18446744073709551616) (w : World) :
    Calls Tryz.prog 124 #[.int .u64 h, .int .u64 l, .int .u64 y] w fun e w' => e = .returned (.tuple #[.int .u64 (((h * 18446744073709551616 + l) / y : Nat) : Int), .int .u64 (((h * 18446744073709551616 + l) % y : Nat) : Int)]) ∧ Below w.heap.size w w' := by
  rcases Nat.eq_zero_or_pos h with rfl | h0
  · have := Div.div64_zero l y hy hh hl w
    rw [Nat.zero_mul, Nat.zero_add]
    exact this
  · exact (Div.div64_any h l y hy hh h0 hl w).mono fun e w' ⟨h1, h2⟩ => ⟨h1, h2 ▸ Below.refl _ _⟩

theorem add64_one (q : Nat) (hq : q < 18446744073709551616) (w : World) : (callFunc 95 #[.int .u64 q, .int .u64 1, .int .u64 0]).run Tryz.prog w = .ok (.value (.tuple #[.int .u64 (((q + 1) % 18446744073709551616 : Nat) : Int), .int .u64 (((q + 1) / 18446744073709551616 : Nat) : Int)])) w := by
  have h := run_callFunc_extern Tryz.func95 (by kernel_rfl) (by kernel_rfl) (by kernel_rfl) (e := add64Entry) (by kernel_rfl) #[.int .u64 q, .int .u64 1, .int .u64 0] w
  rw [h]
  rw [show (0 : Int) = ((0 : Nat) : Int) from rfl, run_add64 (q : Int) 1 ((0 : Nat) : Int) (by omega) (by omega) (by omega) (by omega)]
  simp only [Result.andThen]
  have e1 : ((q : Int) + 1 + ((0 : Nat) : Int)) % 18446744073709551616 = (((q + 1) % 18446744073709551616 : Nat) : Int) := by omega
  have e2 : ((q : Int) + 1 + ((0 : Nat) : Int)) / 18446744073709551616 = (((q + 1) / 18446744073709551616 : Nat) : Int) := by omega
  rw [e1, e2]
/-- What is to be added, and what is left. -/
def qOf (m : Bool) (N d : Nat) : Nat := if m = true ∧ 0 < N % d then N / d + 1 else N / d
def rOf (m : Bool) (N d : Nat) : Nat := if m = true ∧ 0 < N % d then d - N % d else N % d
theorem minus_cases {a b : Int} {m : Bool} (h : minusB a b = m) : (m = true ∧ a < 0 ∧ 0 < b) ∨ (m = true ∧ ¬ a < 0 ∧ 0 < a ∧ b < 0) ∨ (m = false ∧ a < 0 ∧ ¬ 0 < b ∧ ¬ 0 < a) ∨ (m = false ∧ ¬ a < 0 ∧ 0 < a ∧ ¬ b < 0) ∨ (m = false ∧ ¬ a < 0 ∧ ¬ 0 < a) := by
  subst h
  unfold minusB
  simp only [Bool.or_eq_true, Bool.and_eq_true, decide_eq_true_eq, Bool.or_eq_false_iff, Bool.and_eq_false_iff, decide_eq_false_iff_not]
  omega

set_option maxRecDepth 100000 in
set_option maxHeartbeats 1000000 in
theorem parts_core (a b c : Int) (x y d : Nat) (m : Bool) (ha1 : -4611686018427387904 ≤ a) (ha2 : a ≤ 4611686018427387904) (hb1 : -4611686018427387904 ≤ b) (hb2 : b ≤ 4611686018427387904)
    (hx : max a (-a) = (x : Int)) (hy : max b (-b) = (y : Int)) (hd : c = d) (hd0 : 0 < d) (hd1 : d < 4611686018427387904) (hm : minusB a b = m) (w : World) :
    Calls Tryz.prog 114 #[.int .i64 a, .int .i64 b, .int .i64 c] w fun e w' => e = .returned (.tuple #[.agg #[.int .u64 ((qOf m (x * y) d / 18446744073709551616 : Nat) : Int), .int .u64 ((qOf m (x * y) d % 18446744073709551616 : Nat) : Int)], .int .u64 (rOf m (x * y) d), .bool m]) ∧ Below w.heap.size w w' := by
  subst hd
  have hN : x * y ≤ 4611686018427387904 * 4611686018427387904 := Nat.mul_le_mul (by omega) (by omega)
  have HX := Lib.hid hx
  have HY := Lib.hid hy
  clear hx hy
  have hx2 : x < 18446744073709551616 := by have := HX.out; omega
  have hy2 : y < 18446744073709551616 := by have := HY.out; omega
  have HL : Hid (∀ w, _) := Lib.hid (mul64_nat x y hx2 hy2)
  obtain ⟨h, hh⟩ : ∃ h, x * y / 18446744073709551616 = h := ⟨_, rfl⟩
  obtain ⟨l, hl⟩ : ∃ l, x * y % 18446744073709551616 = l := ⟨_, rfl⟩
  rw [hh, hl] at HL
  have hl2 : l < 18446744073709551616 := by omega
  have hh2 : h < 1152921504606846977 := by omega
  have hNN : x * y = h * 18446744073709551616 + l := by omega
  have hdh := Nat.mod_lt h hd0
  have LD : Hid (∀ w, _) := Lib.hid (div64_all (h % d) l d (by omega) hdh hl2)
  obtain ⟨hq, hr⟩ := halves h l d hd0
  rw [← hNN] at hq hr
  clear hN hh hl hNN
  obtain ⟨H, EHe⟩ : ∃ H, h / d = H := ⟨_, rfl⟩
  have hH : H ≤ h := by rw [← EHe]; exact Nat.div_le_self _ _
  obtain ⟨k, EKe⟩ : ∃ k, h % d = k := ⟨_, rfl⟩
  have EH : Hid (IntKind.u64.wrap ((h : Int) / d) = (H : Int)) := Lib.hid (by rw [← Int.natCast_ediv, EHe, IntKind.wrap_u64]; omega)
  have ER : Hid (((h : Int) % d) = (k : Int)) := Lib.hid (by rw [← Int.natCast_emod, EKe])
  rw [EHe, EKe] at hq
  rw [EKe] at hr LD hdh
  obtain ⟨q, hqe⟩ : ∃ q, (k * 18446744073709551616 + l) / d = q := ⟨_, rfl⟩
  obtain ⟨r, hre⟩ : ∃ r, (k * 18446744073709551616 + l) % d = r := ⟨_, rfl⟩
  have hq2 : q < 18446744073709551616 := by
    rw [← hqe, Nat.div_lt_iff_lt_mul hd0]
    have := Nat.mul_le_mul_right 18446744073709551616 (show k + 1 ≤ d by omega)
    rw [Nat.mul_comm d] at this
    omega
  have hr2 : r < d := by rw [← hre]; exact Nat.mod_lt _ hd0
  rw [hqe, hre] at LD
  rw [hqe] at hq
  rw [hre] at hr
  have hQR : (m = true ∧ 0 < r ∧ qOf m (x * y) d = H * 18446744073709551616 + q + 1 ∧ rOf m (x * y) d = d - r) ∨ ((m = false ∨ r = 0) ∧ qOf m (x * y) d = H * 18446744073709551616 + q ∧ rOf m (x * y) d = r) := by
    unfold qOf rOf
    rw [hq, hr]
    by_cases hc : m = true ∧ 0 < r
    · rw [if_pos hc, if_pos hc]; exact .inl ⟨hc.1, hc.2, rfl, rfl⟩
    · rw [if_neg hc, if_neg hc]
      refine .inr ⟨?_, rfl, rfl⟩
      cases m
      · exact .inl rfl
      · exact .inr (by simp at hc; exact hc)
  clear hq hr hqe hre EHe EKe hdh
  generalize qOf m (x * y) d = Q at *
  generalize rOf m (x * y) d = R at *
  have HQR := Lib.hid hQR
  have HM := Lib.hid (minus_cases hm)
  clear hQR hm
  go_enter Tryz.func114, Tryz.ntmps114
  go_wp2_with fail
  refine (size_any a ha1 ha2 _).mono ?_; rintro e w1 ⟨rfl, rfl⟩
  go_wp2_with fail
  refine (size_any b hb1 hb2 _).mono ?_; rintro e w1 ⟨rfl, rfl⟩
  rw [HX.out, HY.out]
  go_wp2_with fail
  refine (HL.out _).mono ?_; rintro e w1 ⟨rfl, rfl⟩
  clear hx2 hy2 ha1 ha2 hb1 hb2
  go_upto_region 3 with fail
  go_region
  go_wp2_with fail
  rw [EH.out, ER.out]
  refine (LD.out _).mono ?_; rintro e w1 ⟨rfl, hb1⟩
  have B1 : Box w1 w.heap.size #[.int .u64 (H : Int), .int .u64 0] 149 := (show Box (w.alloc (.cells #[.int .u64 (H : Int), .int .u64 0] 149)).drew w.heap.size _ _ from Box.new w _ _).below hb1
  have HB1 : Below w.heap.size w w1 := below_join (below_drew (below_alloc (Below.refl _ _) _)) hb1
  clear hb1
  have c0 := B1.cell 0 rfl; have c1 := B1.cell 1 rfl; have f0 := B1.free 0; have f1 := B1.free 1
  go_upto_region 5 with fail
  have B2 := B1.set 1 (.int .u64 (q : Int))
  have HB2 := below_set HB1 (p := ⟨w.heap.size, 1, none⟩) (Nat.le_refl _) (.int .u64 (q : Int))
  generalize w1.setCell ⟨w.heap.size, 1, none⟩ (.int .u64 (q : Int)) = w2 at *
  clear c0 c1 f0 f1 B1 HB1
  simp only [List.setIfInBounds_toArray, List.set_cons_succ, List.set_cons_zero] at B2
  go_cut [8] (fun v wx => v = .bool m ∧ w2 = wx)
  case first =>
    rcases HM.out with ⟨rfl, h1, h2⟩ | ⟨rfl, h1, h2, h3⟩ | ⟨rfl, h1, h2, h3⟩ | ⟨rfl, h1, h2, h3⟩ | ⟨rfl, h1, h2⟩
    all_goals
      go_wp2
      go_meet
      exact ⟨by first | rfl | (rw [decide_eq_false (by omega)]), rfl⟩
  case rest =>
    obtain ⟨rfl, rfl⟩ := hcut
    clear HM LD HL EH ER HX HY
    have c0 := B2.cell 0 rfl; have c1 := B2.cell 1 rfl; have f0 := B2.free 0; have f1 := B2.free 1
    rcases HQR.out with ⟨rfl, hr, h1, h2⟩ | ⟨hm, h1, h2⟩
    · have h3 := Lib.hid h1
      have h4 := Lib.hid h2
      clear HQR h1 h2
      obtain ⟨s1, E1⟩ : ∃ s1, (q + 1) % 18446744073709551616 = s1 := ⟨_, rfl⟩
      obtain ⟨s2, E2⟩ : ∃ s2, (q + 1) / 18446744073709551616 = s2 := ⟨_, rfl⟩
      have ha := add64_one q hq2
      rw [E1, E2] at ha
      have hs2 : s2 ≤ 1 := by omega
      have E1' := Lib.hid E1; have E2' := Lib.hid E2
      clear E1 E2
      go_wp2
      have B3 := (((B2.set 1 (.int .u64 (s1 : Int))).set 0 (.int .u64 ((H : Int) + s2))).set 0 (.int .u64 ((H : Int) + s2))).set 1 (.int .u64 (s1 : Int))
      have HB3 := below_set (below_set (below_set (below_set HB2 (p := ⟨w.heap.size, 1, none⟩) (Nat.le_refl _) (.int .u64 (s1 : Int))) (p := ⟨w.heap.size, 0, none⟩) (Nat.le_refl _) (.int .u64 ((H : Int) + s2))) (p := ⟨w.heap.size, 0, none⟩) (Nat.le_refl _) (.int .u64 ((H : Int) + s2))) (p := ⟨w.heap.size, 1, none⟩) (Nat.le_refl _) (.int .u64 (s1 : Int))
      generalize World.setCell (World.setCell (World.setCell (World.setCell _ _ _) _ _) _ _) _ _ = w3 at B3 HB3 ⊢
      simp only [List.setIfInBounds_toArray, List.set_cons_succ, List.set_cons_zero] at B3
      have d0 : _ = some (Value.int .u64 ((H : Int) + s2)) := B3.cell 0 rfl
      have d1 : _ = some (Value.int .u64 (s1 : Int)) := B3.cell 1 rfl
      have e1 : ((Q / 18446744073709551616 : Nat) : Int) = (H : Int) + s2 := by have := h3.out; have := E2'.out; have := E1'.out; omega
      have e2 : ((Q % 18446744073709551616 : Nat) : Int) = (s1 : Int) := by have := h3.out; have := E2'.out; have := E1'.out; omega
      have e3 : (R : Int) = (d : Int) - r := by have := h4.out; omega
      exact bodyPost_ret (v := .tuple #[.agg #[.int .u64 ((Q / 18446744073709551616 : Nat) : Int), .int .u64 ((Q % 18446744073709551616 : Nat) : Int)], .int .u64 R, .bool true]) (by rw [e1, e2, e3]; simp [results, Tryz.results114, go_sem, d0, d1]) rfl ⟨rfl, HB3⟩
    · have h3 := Lib.hid h1
      have h4 := Lib.hid h2
      clear HQR h1 h2
      have hm2 : m = false ∨ (m = true ∧ r = 0) := by cases m <;> simp_all
      clear hm
      rcases hm2 with rfl | ⟨rfl, rfl⟩
      all_goals
        go_wp2
        have B3 := ((B2.set 0 (.int .u64 (H : Int))).set 1 (.int .u64 (q : Int)))
        have HB3 := below_set (below_set HB2 (p := ⟨w.heap.size, 0, none⟩) (Nat.le_refl _) (.int .u64 (H : Int))) (p := ⟨w.heap.size, 1, none⟩) (Nat.le_refl _) (.int .u64 (q : Int))
        generalize World.setCell (World.setCell _ _ _) _ _ = w3 at B3 HB3 ⊢
        simp only [List.setIfInBounds_toArray, List.set_cons_succ, List.set_cons_zero] at B3
        have d0 : _ = some (Value.int .u64 (H : Int)) := B3.cell 0 rfl
        have d1 : _ = some (Value.int .u64 (q : Int)) := B3.cell 1 rfl
        have e1 : ((Q / 18446744073709551616 : Nat) : Int) = (H : Int) := by have := h3.out; omega
        have e2 : ((Q % 18446744073709551616 : Nat) : Int) = (q : Int) := by have := h3.out; omega
        have e3 := h4.out
        rw [e1, e2, e3]
        first
          | exact bodyPost_ret (v := .tuple #[.agg #[.int .u64 (H : Int), .int .u64 (q : Int)], .int .u64 (r : Int), .bool false]) (by simp [results, Tryz.results114, go_sem, d0, d1]) rfl ⟨rfl, HB3⟩
          | exact bodyPost_ret (v := .tuple #[.agg #[.int .u64 (H : Int), .int .u64 (q : Int)], .int .u64 ((0 : Nat) : Int), .bool true]) (by simp [results, Tryz.results114, go_sem, d0, d1]) rfl ⟨rfl, HB3⟩

end Go.Proofs.YtndpdbofoojkhaaGreat.Mul
/- Products over a number: the floor, the nearest number, the rest. -/
namespace Go.Proofs.YtndpdbofoojkhaaGreat.Mul
open Go.RowKit Go.Proofs.YtndpdbofoojkhaaGreat.Kit
set_option linter.unusedVariables false
set_option linter.unusedSimpArgs false

def plusOne (b : Bool) : Int := if b then 1 else 0
theorem kept_far {Q : Nat} (h : 4611686018427387904 < Q) (m b : Bool) : keptP (signed m Q + plusOne b) = (0, 20) := by
  unfold keptP signed plusOne
  rw [if_neg]
  cases m <;> cases b <;> simp <;> omega
set_option maxHeartbeats 1000000 in
theorem told_any (Q : Nat) (m b : Bool) (w : World) :
    Calls Tryz.prog 115 #[.agg #[.int .u64 ((Q / 18446744073709551616 : Nat) : Int), .int .u64 ((Q % 18446744073709551616 : Nat) : Int)], .bool m, .bool b] w fun e w' => e = .returned (.tuple #[.int .i64 (keptP (signed m Q + plusOne b)).1, .int .i64 (keptP (signed m Q + plusOne b)).2]) ∧ Below w.heap.size w w' := by
  obtain ⟨h, hh⟩ : ∃ h, Q / 18446744073709551616 = h := ⟨_, rfl⟩
  obtain ⟨l, hl⟩ : ∃ l, Q % 18446744073709551616 = l := ⟨_, rfl⟩
  rw [hh, hl]
  have hl2 : l < 18446744073709551616 := by omega
  by_cases hfar : 4611686018427387904 < Q
  · rw [kept_far hfar m b]
    have hc : 0 < h ∨ (¬ 0 < h ∧ 4611686018427387904 < l) := by omega
    clear hh hl hfar
    rcases hc with h1 | ⟨h1, h2⟩
    all_goals
      go_enter Tryz.func115, Tryz.ntmps115
      go_wp2
      go_ret2
      exact ⟨rfl, by repeat (first | exact Below.refl _ _ | apply below_alloc)⟩
  · have hh0 : h = 0 := by omega
    have hl3 : l = Q := by omega
    subst hh0; subst hl3
    have hl4 : l ≤ 4611686018427387904 := by omega
    clear hh hl hfar hl2
    obtain ⟨v, hv⟩ : ∃ v, signed m l + plusOne b = v := ⟨_, rfl⟩
    rw [hv]
    have hk : (v < -4611686018427387903 ∧ keptP v = (0, 20)) ∨ (¬ v < -4611686018427387903 ∧ 4611686018427387903 < v ∧ keptP v = (0, 20)) ∨ (¬ v < -4611686018427387903 ∧ ¬ 4611686018427387903 < v ∧ keptP v = (v, 0)) := by
      unfold keptP
      by_cases h1 : v < -4611686018427387903
      · exact .inl ⟨h1, if_neg (by omega)⟩
      · by_cases h2 : 4611686018427387903 < v
        · exact .inr (.inl ⟨h1, h2, if_neg (by omega)⟩)
        · exact .inr (.inr ⟨h1, h2, if_pos (by omega)⟩)
    rcases hk with ⟨k1, k3⟩ | ⟨k1, k2, k3⟩ | ⟨k1, k2, k3⟩
    all_goals
      rw [k3]
      clear k3
      subst hv
      unfold signed plusOne at *
      cases m <;> cases b <;> simp only [Bool.false_eq_true, if_true, if_false, Int.add_zero] at k1 ⊢ <;> (try simp only [Bool.false_eq_true, if_true, if_false, Int.add_zero] at k2)
    all_goals
      first
        | (exfalso; omega)
        | ((first | have F3 := eq_false (show ¬ (4611686018427387903 : Int) < (l : Int) by omega) | have F3 := eq_true (show (4611686018427387903 : Int) < (l : Int) by omega) | skip); have F1 := eq_true k1; clear k1
           go_enter Tryz.func115, Tryz.ntmps115
           go_wp2
           go_ret2
           exact ⟨rfl, by repeat (first | exact Below.refl _ _ | apply below_alloc)⟩)
        | ((first | have F3 := eq_false (show ¬ (4611686018427387903 : Int) < (l : Int) by omega) | have F3 := eq_true (show (4611686018427387903 : Int) < (l : Int) by omega) | skip); have F1 := eq_false k1; have F2 := eq_true k2; clear k1 k2
           go_enter Tryz.func115, Tryz.ntmps115
           go_wp2
           go_ret2
           exact ⟨rfl, by repeat (first | exact Below.refl _ _ | apply below_alloc)⟩)
        | ((first | have F3 := eq_false (show ¬ (4611686018427387903 : Int) < (l : Int) by omega) | have F3 := eq_true (show (4611686018427387903 : Int) < (l : Int) by omega) | skip); have F1 := eq_false k1; have F2 := eq_false k2; clear k1 k2
           go_enter Tryz.func115, Tryz.ntmps115
           go_wp2
           go_ret2
           exact ⟨rfl, by repeat (first | exact Below.refl _ _ | apply below_alloc)⟩)

end Go.Proofs.YtndpdbofoojkhaaGreat.Mul
/- Products over a number: the floor, by the plain law (for the layers above). -/
namespace Go.Proofs.YtndpdbofoojkhaaGreat.Mul
open Go.RowKit Go.Proofs.YtndpdbofoojkhaaGreat.Kit
set_option linter.unusedVariables false
set_option linter.unusedSimpArgs false

theorem parts_plain {a b c : Int} (h : mayP a b c = true) : ∃ (x y d : Nat) (m : Bool), max a (-a) = (x : Int) ∧ max b (-b) = (y : Int) ∧ c = d ∧ 0 < d ∧ d < 4611686018427387904 ∧ minusB a b = m ∧ signed m (qOf m (x * y) d) = a * b / c ∧ ((rOf m (x * y) d : Nat) : Int) = a * b % c := by
  obtain ⟨h1, h2, h3, h4, h5, h6⟩ := may_iff h
  obtain ⟨x, hx⟩ : ∃ x : Nat, max a (-a) = x := ⟨(max a (-a)).toNat, by omega⟩
  obtain ⟨y, hy⟩ : ∃ y : Nat, max b (-b) = y := ⟨(max b (-b)).toNat, by omega⟩
  obtain ⟨d, rfl⟩ : ∃ d : Nat, c = d := ⟨c.toNat, by omega⟩
  have hd : 0 < d := by omega
  refine ⟨x, y, d, minusB a b, hx, hy, rfl, hd, by omega, rfl, ?_⟩
  rcases by_signs (a := a) (b := b) (x := x) (y := y) (d := d) (by omega) hx.symm hy.symm hd with ⟨hm, hp⟩ | ⟨hm, hp⟩
  · rw [hm, hp]
    obtain ⟨e1, e2⟩ := neg_div (n := x * y) hd
    rw [e1, e2]
    generalize x * y = N at *
    by_cases h0 : N % d = 0
    · have q0 : qOf true N d = N / d := if_neg (by simp [h0])
      have r0 : rOf true N d = N % d := if_neg (by simp [h0])
      rw [q0, r0, if_pos h0, if_pos h0, h0]
      exact ⟨rfl, rfl⟩
    · have q0 : qOf true N d = N / d + 1 := if_pos ⟨rfl, by omega⟩
      have r0 : rOf true N d = d - N % d := if_pos ⟨rfl, by omega⟩
      rw [q0, r0, if_neg h0, if_neg h0]
      exact ⟨rfl, rfl⟩
  · rw [hm, hp]
    unfold qOf rOf signed
    simp
theorem parts_any {a b c : Int} (h : mayP a b c = true) : ∃ (Q : Nat) (m : Bool), signed m Q = a * b / c ∧ ∀ w,
    Calls Tryz.prog 114 #[.int .i64 a, .int .i64 b, .int .i64 c] w fun e w' => e = .returned (.tuple #[.agg #[.int .u64 ((Q / 18446744073709551616 : Nat) : Int), .int .u64 ((Q % 18446744073709551616 : Nat) : Int)], .int .u64 (a * b % c), .bool m]) ∧ Below w.heap.size w w' := by
  obtain ⟨x, y, d, m, hx, hy, hd, hd0, hd1, hm, hq, hr⟩ := parts_plain h
  obtain ⟨h1, h2, h3, h4, h5, h6⟩ := may_iff h
  refine ⟨_, m, hq, fun w => ?_⟩
  rw [← hr]
  exact parts_core a b c x y d m (by omega) (by omega) (by omega) (by omega) hx hy hd hd0 hd1 hm w

set_option maxHeartbeats 1000000 in
theorem floor_any (a b c : Int) (w : World) :
    Calls Tryz.prog 92 #[.int .i64 a, .int .i64 b, .int .i64 c] w fun e w' => e = .returned (.tuple #[.int .i64 (floorP a b c).1, .int .i64 (floorP a b c).2]) ∧ Below w.heap.size w w' := by
  unfold floorP
  have HM : Hid (∀ w, _) := Lib.hid (may_any a b c)
  cases hm : mayP a b c with
  | false =>
    rw [if_neg (by simp)]
    rw [hm] at HM
    clear hm
    go_enter Tryz.func92, Tryz.ntmps92
    go_wp2_with fail
    refine (HM.out _).mono ?_; rintro e w1 ⟨rfl, rfl⟩
    go_wp2
    go_ret2
    exact ⟨rfl, Below.refl _ _⟩
  | true =>
    rw [if_pos rfl]
    rw [hm] at HM
    obtain ⟨Q, m, hq, hp⟩ := parts_any hm
    have HP := Lib.hid hp
    have HT : Hid (∀ w, _) := Lib.hid (told_any Q m false)
    obtain ⟨g1, hg1⟩ : ∃ g, Q / 18446744073709551616 = g := ⟨_, rfl⟩
    obtain ⟨g2, hg2⟩ : ∃ g, Q % 18446744073709551616 = g := ⟨_, rfl⟩
    rw [hg1, hg2] at HT HP
    clear hg1 hg2
    rw [show signed m Q + plusOne false = a * b / c from by rw [hq]; unfold plusOne; simp] at HT
    generalize keptP (a * b / c) = k at *
    clear hm hp hq
    go_enter Tryz.func92, Tryz.ntmps92
    go_wp2_with fail
    refine (HM.out _).mono ?_; rintro e w1 ⟨rfl, rfl⟩
    go_wp2_with fail
    refine (HP.out _).mono ?_; rintro e w1 ⟨rfl, hb1⟩
    go_wp2_with fail
    refine (HT.out _).mono ?_; rintro e w2 ⟨rfl, hb2⟩
    go_wp2
    go_ret2
    exact ⟨rfl, below_join (below_alloc hb1 _) hb2⟩

theorem floorc (a b c : Int) {q e : Int} (h : Hid (floorP a b c = (q, e))) (w : World) :
    Calls Tryz.prog 92 #[.int .i64 a, .int .i64 b, .int .i64 c] w fun x w' => x = .returned (.tuple #[.int .i64 q, .int .i64 e]) ∧ Below w.heap.size w w' := by
  have := floor_any a b c w; rw [h.out] at this; exact this
theorem floor_in {a b c : Int} (hm : mayP a b c = true) (h1 : -4611686018427387903 ≤ a * b / c) (h2 : a * b / c ≤ 4611686018427387903) : floorP a b c = (a * b / c, 0) := by
  unfold floorP keptP; rw [if_pos hm, if_pos ⟨h1, h2⟩]
theorem rest_in {a b c : Int} (hm : mayP a b c = true) : restP a b c = (a * b % c, 0) := by
  unfold restP; rw [if_pos hm]

theorem div_bound {p d M : Int} (hd : 1 ≤ d) (hM : 0 ≤ M) (h1 : -M ≤ p) (h2 : p ≤ M) : -M ≤ p / d ∧ p / d ≤ M := by
  constructor
  · rw [Int.le_ediv_iff_mul_le (by omega)]
    have := Int.mul_le_mul_of_nonneg_left hd hM
    rw [Int.mul_one] at this
    rw [Int.neg_mul]; omega
  · have : p / d < M + 1 := by
      rw [Int.ediv_lt_iff_lt_mul (by omega)]
      have := Int.mul_le_mul_of_nonneg_left hd (show 0 ≤ M + 1 by omega)
      rw [Int.mul_one] at this
      omega
    omega
theorem mul_bound {x y A B : Int} (hA : 0 ≤ A) (hx1 : -A ≤ x) (hx2 : x ≤ A) (hy1 : -B ≤ y) (hy2 : y ≤ B) (hB : 0 ≤ B) : -(A * B) ≤ x * y ∧ x * y ≤ A * B := by
  have h : (x * y).natAbs ≤ (A * B).natAbs := by
    rw [Int.natAbs_mul, Int.natAbs_mul]
    exact Nat.mul_le_mul (by omega) (by omega)
  have h2 : 0 ≤ A * B := Int.mul_nonneg hA hB
  omega

end Go.Proofs.YtndpdbofoojkhaaGreat.Mul
