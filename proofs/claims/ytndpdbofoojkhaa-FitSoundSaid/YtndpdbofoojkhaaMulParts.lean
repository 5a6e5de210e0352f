/- Products over a number: the quotient's halves. -/
import Derived.Test.YtndpdbofoojkhaaMul
import Derived.RegionTactic
import Derived.ChangeAlike
namespace Go.Proofs.Ytndpdbofoojkhaa.Mul
open Go.RowKit Go.Proofs.Ytndpdbofoojkhaa.Kit
set_option linter.unusedVariables false
set_option linter.unusedSimpArgs false

theorem mul64_nat (x y : Nat) (hx : x < 18446744073709551616) (hy : y < 18446744073709551616) (w : World) :
    Calls Try.prog 71 #[.int .u64 x, .int .u64 y] w fun e w' => e = .returned (.tuple #[.int .u64 ((x * y / 18446744073709551616 : Nat) : Int), .int .u64 ((x * y % 18446744073709551616 : Nat) : Int)]) ∧ w = w' :=
  (Try.bits_Mul64 x y hx hy w).mono fun e w' h => ⟨h.1, h.2.symm⟩
/-- The number that it is over, 62 bits; a dividend's upper word below it. -/
theorem div64_all (h l y : Nat) (hy : y < 9223372036854775808) (hh : h < y) (hl : l < 18446744073709551616) (w : World) :
    Calls Try.prog 91 #[.int .u64 h, .int .u64 l, .int .u64 y] w fun e w' => e = .returned (.tuple #[.int .u64 (((h * 18446744073709551616 + l) / y : Nat) : Int), .int .u64 (((h * 18446744073709551616 + l) % y : Nat) : Int)]) ∧ Below w.heap.size w w' := by
  rcases Nat.eq_zero_or_pos h with rfl | h0
  · have := Div.div64_zero l y hy hh hl w
    rw [Nat.zero_mul, Nat.zero_add]
    exact this
  · exact (Div.div64_any h l y hy hh h0 hl w).mono fun e w' ⟨h1, h2⟩ => ⟨h1, h2 ▸ Below.refl _ _⟩

theorem add64_one (q : Nat) (hq : q < 18446744073709551616) (w : World) : (callFunc 72 #[.int .u64 q, .int .u64 1, .int .u64 0]).run Try.prog w = .ok (.value (.tuple #[.int .u64 (((q + 1) % 18446744073709551616 : Nat) : Int), .int .u64 (((q + 1) / 18446744073709551616 : Nat) : Int)])) w := by
  have h := run_callFunc_extern Try.func72 (by kernel_rfl) (by kernel_rfl) (by kernel_rfl) (e := add64Entry) (by kernel_rfl) #[.int .u64 q, .int .u64 1, .int .u64 0] w
  rw [h]
  rw [show (0 : Int) = ((0 : Nat) : Int) from rfl, run_add64 (q : Int) 1 ((0 : Nat) : Int) (by omega) (by omega) (by omega) (by omega)]
  simp only [Result.andThen]
  have e1 : ((q : Int) + 1 + ((0 : Nat) : Int)) % 18446744073709551616 = (((q + 1) % 18446744073709551616 : Nat) : Int) := by omega
  have e2 : ((q : Int) + 1 + ((0 : Nat) : Int)) / 18446744073709551616 = (((q + 1) / 18446744073709551616 : Nat) : Int) := by omega
  rw [e1, e2]
/-- What is to be added, and what is left. -/
def qOf (m : Bool) (N d : Nat) : Nat := if m = true ∧ 0 < N % d then N / d + 1 else N / d
def rOf (m : Bool) (N d : Nat) : Nat := if m = true ∧ 0 < N % d then d - N % d else N % d
theorem minus_cases {a b : Int} {m : Bool} (h : minusB a b = m) : (m = true ∧ a < 0 ∧ 0 < b) ∨ (m = true ∧ ¬ a < 0 ∧ 0 < a ∧ b < 0) ∨ (m = false ∧ a < 0 ∧ ¬ 0 < b ∧ ¬ 0 < a) ∨ (m = false ∧ ¬ a < 0 ∧ 0 < a ∧ ¬ b < 0) ∨ (m = false ∧ ¬ a < 0 ∧ ¬ 0 < a) := by
  subst h
  unfold minusB
  simp only [Bool.or_eq_true, Bool.and_eq_true, decide_eq_true_eq, Bool.or_eq_false_iff, Bool.and_eq_false_iff, decide_eq_false_iff_not]
  omega

set_option maxRecDepth 100000 in
set_option maxHeartbeats 1000000 in
theorem parts_core (a b c : Int) (x y d : Nat) (m : Bool) (ha1 : -4611686018427387904 ≤ a) (ha2 : a ≤ 4611686018427387904) (hb1 : -4611686018427387904 ≤ b) (hb2 : b ≤ 4611686018427387904)
    (hx : max a (-a) = (x : Int)) (hy : max b (-b) = (y : Int)) (hd : c = d) (hd0 : 0 < d) (hd1 : d < 4611686018427387904) (hm : minusB a b = m) (w : World) :
    Calls Try.prog 83 #[.int .i64 a, .int .i64 b, .int .i64 c] w fun e w' => e = .returned (.tuple #[.agg #[.int .u64 ((qOf m (x * y) d / 18446744073709551616 : Nat) : Int), .int .u64 ((qOf m (x * y) d % 18446744073709551616 : Nat) : Int)], .int .u64 (rOf m (x * y) d), .bool m]) ∧ Below w.heap.size w w' := by
  subst hd
  have hN : x * y ≤ 4611686018427387904 * 4611686018427387904 := Nat.mul_le_mul (by omega) (by omega)
  have HX := Lib.hid hx
  have HY := Lib.hid hy
  clear hx hy
  have hx2 : x < 18446744073709551616 := by have := HX.out; omega
  have hy2 : y < 18446744073709551616 := by have := HY.out; omega
  have HL : Hid (∀ w, _) := Lib.hid (mul64_nat x y hx2 hy2)
  obtain ⟨h, hh⟩ : ∃ h, x * y / 18446744073709551616 = h := ⟨_, rfl⟩
  obtain ⟨l, hl⟩ : ∃ l, x * y % 18446744073709551616 = l := ⟨_, rfl⟩
  rw [hh, hl] at HL
  have hl2 : l < 18446744073709551616 := by omega
  have hh2 : h < 1152921504606846977 := by omega
  have hNN : x * y = h * 18446744073709551616 + l := by omega
  have hdh := Nat.mod_lt h hd0
  have LD : Hid (∀ w, _) := Lib.hid (div64_all (h % d) l d (by omega) hdh hl2)
  obtain ⟨hq, hr⟩ := halves h l d hd0
  rw [← hNN] at hq hr
  clear hN hh hl hNN
  obtain ⟨H, EHe⟩ : ∃ H, h / d = H := ⟨_, rfl⟩
  have hH : H ≤ h := by rw [← EHe]; exact Nat.div_le_self _ _
  obtain ⟨k, EKe⟩ : ∃ k, h % d = k := ⟨_, rfl⟩
  have EH : Hid (IntKind.u64.wrap ((h : Int) / d) = (H : Int)) := Lib.hid (by rw [← Int.natCast_ediv, EHe, IntKind.wrap_u64]; omega)
  have ER : Hid (((h : Int) % d) = (k : Int)) := Lib.hid (by rw [← Int.natCast_emod, EKe])
  rw [EHe, EKe] at hq
  rw [EKe] at hr LD hdh
  obtain ⟨q, hqe⟩ : ∃ q, (k * 18446744073709551616 + l) / d = q := ⟨_, rfl⟩
  obtain ⟨r, hre⟩ : ∃ r, (k * 18446744073709551616 + l) % d = r := ⟨_, rfl⟩
  have hq2 : q < 18446744073709551616 := by
    rw [← hqe, Nat.div_lt_iff_lt_mul hd0]
    have := Nat.mul_le_mul_right 18446744073709551616 (show k + 1 ≤ d by omega)
    rw [Nat.mul_comm d] at this
    omega
  have hr2 : r < d := by rw [← hre]; exact Nat.mod_lt _ hd0
  rw [hqe, hre] at LD
  rw [hqe] at hq
  rw [hre] at hr
  have hQR : (m = true ∧ 0 < r ∧ qOf m (x * y) d = H * 18446744073709551616 + q + 1 ∧ rOf m (x * y) d = d - r) ∨ ((m = false ∨ r = 0) ∧ qOf m (x * y) d = H * 18446744073709551616 + q ∧ rOf m (x * y) d = r) := by
    unfold qOf rOf
    rw [hq, hr]
    by_cases hc : m = true ∧ 0 < r
    · rw [if_pos hc, if_pos hc]; exact .inl ⟨hc.1, hc.2, rfl, rfl⟩
    · rw [if_neg hc, if_neg hc]
      refine .inr ⟨?_, rfl, rfl⟩
      cases m
      · exact .inl rfl
      · exact .inr (by simp at hc; exact hc)
  clear hq hr hqe hre EHe EKe hdh
  generalize qOf m (x * y) d = Q at *
  generalize rOf m (x * y) d = R at *
  have HQR := Lib.hid hQR
  have HM := Lib.hid (minus_cases hm)
  clear hQR hm
  go_enter Try.func83, Try.ntmps83
  go_wp2_with fail
  refine (size_any a ha1 ha2 _).mono ?_; rintro e w1 ⟨rfl, rfl⟩
  go_wp2_with fail
  refine (size_any b hb1 hb2 _).mono ?_; rintro e w1 ⟨rfl, rfl⟩
  rw [HX.out, HY.out]
  go_wp2_with fail
  refine (HL.out _).mono ?_; rintro e w1 ⟨rfl, rfl⟩
  clear hx2 hy2 ha1 ha2 hb1 hb2
  go_upto_region 3 with fail
  go_region
  go_wp2_with fail
  rw [EH.out, ER.out]
  refine (LD.out _).mono ?_; rintro e w1 ⟨rfl, hb1⟩
  have B1 : Box w1 w.heap.size #[.int .u64 (H : Int), .int .u64 0] 128 := (show Box (w.alloc (.cells #[.int .u64 (H : Int), .int .u64 0] 128)).drew w.heap.size _ _ from Box.new w _ _).below hb1
  have HB1 : Below w.heap.size w w1 := below_join (below_drew (below_alloc (Below.refl _ _) _)) hb1
  clear hb1
  have c0 := B1.cell 0 rfl; have c1 := B1.cell 1 rfl; have f0 := B1.free 0; have f1 := B1.free 1
  go_upto_region 5 with fail
  have B2 := B1.set 1 (.int .u64 (q : Int))
  have HB2 := below_set HB1 (p := ⟨w.heap.size, 1, none⟩) (Nat.le_refl _) (.int .u64 (q : Int))
  generalize w1.setCell ⟨w.heap.size, 1, none⟩ (.int .u64 (q : Int)) = w2 at *
  clear c0 c1 f0 f1 B1 HB1
  simp only [List.setIfInBounds_toArray, List.set_cons_succ, List.set_cons_zero] at B2
  go_cut [8] (fun v wx => v = .bool m ∧ w2 = wx)
  case first =>
    rcases HM.out with ⟨rfl, h1, h2⟩ | ⟨rfl, h1, h2, h3⟩ | ⟨rfl, h1, h2, h3⟩ | ⟨rfl, h1, h2, h3⟩ | ⟨rfl, h1, h2⟩
    all_goals
      go_wp2
      go_meet
      exact ⟨by first | rfl | (rw [decide_eq_false (by omega)]), rfl⟩
  case rest =>
    obtain ⟨rfl, rfl⟩ := hcut
    clear HM LD HL EH ER HX HY
    have c0 := B2.cell 0 rfl; have c1 := B2.cell 1 rfl; have f0 := B2.free 0; have f1 := B2.free 1
    rcases HQR.out with ⟨rfl, hr, h1, h2⟩ | ⟨hm, h1, h2⟩
    · have h3 := Lib.hid h1
      have h4 := Lib.hid h2
      clear HQR h1 h2
      obtain ⟨s1, E1⟩ : ∃ s1, (q + 1) % 18446744073709551616 = s1 := ⟨_, rfl⟩
      obtain ⟨s2, E2⟩ : ∃ s2, (q + 1) / 18446744073709551616 = s2 := ⟨_, rfl⟩
      have ha := add64_one q hq2
      rw [E1, E2] at ha
      have hs2 : s2 ≤ 1 := by omega
      have E1' := Lib.hid E1; have E2' := Lib.hid E2
      clear E1 E2
      go_wp2
      have B3 := (((B2.set 1 (.int .u64 (s1 : Int))).set 0 (.int .u64 ((H : Int) + s2))).set 0 (.int .u64 ((H : Int) + s2))).set 1 (.int .u64 (s1 : Int))
      have HB3 := below_set (below_set (below_set (below_set HB2 (p := ⟨w.heap.size, 1, none⟩) (Nat.le_refl _) (.int .u64 (s1 : Int))) (p := ⟨w.heap.size, 0, none⟩) (Nat.le_refl _) (.int .u64 ((H : Int) + s2))) (p := ⟨w.heap.size, 0, none⟩) (Nat.le_refl _) (.int .u64 ((H : Int) + s2))) (p := ⟨w.heap.size, 1, none⟩) (Nat.le_refl _) (.int .u64 (s1 : Int))
      generalize World.setCell (World.setCell (World.setCell (World.setCell _ _ _) _ _) _ _) _ _ = w3 at B3 HB3 ⊢
      simp only [List.setIfInBounds_toArray, List.set_cons_succ, List.set_cons_zero] at B3
      have d0 : _ = some (Value.int .u64 ((H : Int) + s2)) := B3.cell 0 rfl
      have d1 : _ = some (Value.int .u64 (s1 : Int)) := B3.cell 1 rfl
      have e1 : ((Q / 18446744073709551616 : Nat) : Int) = (H : Int) + s2 := by have := h3.out; have := E2'.out; have := E1'.out; omega
      have e2 : ((Q % 18446744073709551616 : Nat) : Int) = (s1 : Int) := by have := h3.out; have := E2'.out; have := E1'.out; omega
      have e3 : (R : Int) = (d : Int) - r := by have := h4.out; omega
      exact bodyPost_ret (v := .tuple #[.agg #[.int .u64 ((Q / 18446744073709551616 : Nat) : Int), .int .u64 ((Q % 18446744073709551616 : Nat) : Int)], .int .u64 R, .bool true]) (by rw [e1, e2, e3]; simp [results, Try.results83, go_sem, d0, d1]) rfl ⟨rfl, HB3⟩
    · have h3 := Lib.hid h1
      have h4 := Lib.hid h2
      clear HQR h1 h2
      have hm2 : m = false ∨ (m = true ∧ r = 0) := by cases m <;> simp_all
      clear hm
      rcases hm2 with rfl | ⟨rfl, rfl⟩
      all_goals
        go_wp2
        have B3 := ((B2.set 0 (.int .u64 (H : Int))).set 1 (.int .u64 (q : Int)))
        have HB3 := below_set (below_set HB2 (p := ⟨w.heap.size, 0, none⟩) (Nat.le_refl _) (.int .u64 (H : Int))) (p := ⟨w.heap.size, 1, none⟩) (Nat.le_refl _) (.int .u64 (q : Int))
        generalize World.setCell (World.setCell _ _ _) _ _ = w3 at B3 HB3 ⊢
        simp only [List.setIfInBounds_toArray, List.set_cons_succ, List.set_cons_zero] at B3
        have d0 : _ = some (Value.int .u64 (H : Int)) := B3.cell 0 rfl
        have d1 : _ = some (Value.int .u64 (q : Int)) := B3.cell 1 rfl
        have e1 : ((Q / 18446744073709551616 : Nat) : Int) = (H : Int) := by have := h3.out; omega
        have e2 : ((Q % 18446744073709551616 : Nat) : Int) = (q : Int) := by have := h3.out; omega
        have e3 := h4.out
        rw [e1, e2, e3]
        first
          | exact bodyPost_ret (v := .tuple #[.agg #[.int .u64 (H : Int), .int .u64 (q : Int)], .int .u64 (r : Int), .bool false]) (by simp [results, Try.results83, go_sem, d0, d1]) rfl ⟨rfl, HB3⟩
          | exact bodyPost_ret (v := .tuple #[.agg #[.int .u64 (H : Int), .int .u64 (q : Int)], .int .u64 ((0 : Nat) : Int), .bool true]) (by simp [results, Try.results83, go_sem, d0, d1]) rfl ⟨rfl, HB3⟩

end Go.Proofs.Ytndpdbofoojkhaa.Mul
