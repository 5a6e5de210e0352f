/- joined for a claim: Bad, BadBad, BadFull -/
import Derived.Test.YtndpdbofoojkhaaGreatDraws
import Derived.Shelf.Bits.Mul64
import Derived.Shelf.Spec.BitsCarry
import Derived.Laws.Externs
import Derived.Deep.DeepCutAuto
/- The functions of layer 3 (badness): numbers of two words. -/
namespace Go.Proofs.YtndpdbofoojkhaaGreat.Bad
open Go.RowKit Go.Proofs.YtndpdbofoojkhaaGreat.Kit
set_option linter.unusedVariables false
set_option linter.unusedSimpArgs false

theorem mul64_nat (x y : Nat) (hx : x < 18446744073709551616) (hy : y < 18446744073709551616) (w : World) :
    Calls Tryz.prog 94 #[.int .u64 x, .int .u64 y] w fun e w' => e = .returned (.tuple #[.int .u64 ((x * y / 18446744073709551616 : Nat) : Int), .int .u64 ((x * y % 18446744073709551616 : Nat) : Int)]) ∧ w = w' := by
  obtain ⟨bd, bt, bw, hhi⟩ := Lib.mul64_hi x y hx hy
  have ba := Lib.half_mul_le (a := x / 4294967296) (b := y / 4294967296) (by omega) (by omega)
  have bb := Lib.half_mul_le (a := x / 4294967296) (b := y % 4294967296) (by omega) (by omega)
  have bc := Lib.half_mul_le (a := x % 4294967296) (b := y / 4294967296) (by omega) (by omega)
  have ba' : x / 4294967296 * (y / 4294967296) < 18446744073709551616 := by omega
  have bb' : x / 4294967296 * (y % 4294967296) < 18446744073709551616 := by omega
  have bc' : x % 4294967296 * (y / 4294967296) < 18446744073709551616 := by omega
  have bh1 : x / 4294967296 * (y / 4294967296) + (x / 4294967296 * (y % 4294967296) + x % 4294967296 * (y % 4294967296) / 4294967296) / 4294967296 < 18446744073709551616 := by omega
  have bh : x / 4294967296 * (y / 4294967296) + (x / 4294967296 * (y % 4294967296) + x % 4294967296 * (y % 4294967296) / 4294967296) / 4294967296 + ((x / 4294967296 * (y % 4294967296) + x % 4294967296 * (y % 4294967296) / 4294967296) % 4294967296 + x % 4294967296 * (y / 4294967296)) / 4294967296 < 18446744073709551616 := by omega
  go_enter Tryz.func94, Tryz.ntmps94
  go_wp2
  simp only [Mul64.maskN x hx, Mul64.maskN y hy, Mul64.divN, Mul64.mulN, Mul64.addN, Mul64.wrapN _ bd, Mul64.wrapN _ bb', Mul64.wrapN _ bt, Mul64.maskN _ bt, Mul64.wrapN _ bc', Mul64.wrapN _ bw, Mul64.wrapN _ ba', Mul64.wrapN _ bh1, Mul64.wrapN _ bh, Mul64.wrapM (x * y)]
  rw [hhi]
  go_ret2
  exact ⟨rfl, rfl⟩

/-! ### Numbers of two words -/
def lo (N : Nat) : Int := ((N % 18446744073709551616 : Nat) : Int)
def hi (N : Nat) : Int := ((N / 18446744073709551616 : Nat) : Int)
def mh (N n : Nat) : Int := ((N % 18446744073709551616 * n / 18446744073709551616 : Nat) : Int)
theorem mul64_lo (N n : Nat) (hn : n < 18446744073709551616) (w : World) :
    Calls Tryz.prog 94 #[.int .u64 (lo N), .int .u64 n] w fun e w' => e = .returned (.tuple #[.int .u64 (mh N n), .int .u64 (lo (N * n))]) ∧ w = w' := by
  have h := mul64_nat (N % 18446744073709551616) n (Nat.mod_lt _ (by omega)) hn w
  have e : N % 18446744073709551616 * n % 18446744073709551616 = N * n % 18446744073709551616 := by rw [Nat.mod_mul_mod]
  rw [e] at h
  exact h
theorem hi_times (N n : Nat) (h : N * n < 340282366920938463463374607431768211456) :
    IntKind.u64.wrap (mh N n + IntKind.u64.wrap (hi N * n)) = hi (N * n) := by
  have e1 : N * n = (N / 18446744073709551616) * n * 18446744073709551616 + N % 18446744073709551616 * n := by
    have := Nat.div_add_mod N 18446744073709551616
    have h2 : N * n = (18446744073709551616 * (N / 18446744073709551616) + N % 18446744073709551616) * n := by rw [this]
    rw [h2, Nat.add_mul, Nat.mul_comm 18446744073709551616 (N / 18446744073709551616), Nat.mul_assoc, Nat.mul_comm 18446744073709551616 n, ← Nat.mul_assoc]
  have e2 : N * n / 18446744073709551616 = (N / 18446744073709551616) * n + N % 18446744073709551616 * n / 18446744073709551616 := by
    rw [e1, Nat.add_comm, Nat.add_mul_div_right _ _ (by omega), Nat.add_comm]
  have e3 : N * n / 18446744073709551616 < 18446744073709551616 := by omega
  have e4 : hi N * (n : Int) = ((N / 18446744073709551616 * n : Nat) : Int) := (Int.natCast_mul _ _).symm
  rw [e4, IntKind.wrap_u64, IntKind.wrap_u64]
  unfold mh hi
  rw [e2] at e3 ⊢
  generalize N / 18446744073709551616 * n = a at *
  generalize N % 18446744073709551616 * n / 18446744073709551616 = b at *
  omega

set_option maxHeartbeats 400000 in
theorem times_any (N n : Nat) (h : N * n < 340282366920938463463374607431768211456) (hn : n < 18446744073709551616) (w : World) :
    Calls Tryz.prog 80 #[.agg #[.int .u64 (lo N), .int .u64 (hi N)], .int .u64 n] w fun e w' => e = .returned (.agg #[.int .u64 (lo (N * n)), .int .u64 (hi (N * n))]) ∧ Below w.heap.size w w' := by
  have HT := Lib.hid (hi_times N n h)
  have HN := Lib.hid hn
  clear h hn
  go_enter Tryz.func80, Tryz.ntmps80
  go_wp2_with (go_at_call 94; refine (mul64_lo N n HN.out _).mono ?_; rintro e w1 ⟨rfl, rfl⟩)
  rw [HT.out]
  exact bodyPost_ret (v := .agg #[.int .u64 (lo (N * n)), .int .u64 (hi (N * n))]) (by simp [results, Tryz.results80, go_sem]) rfl ⟨rfl, by repeat (first | exact Below.refl _ _ | apply below_alloc)⟩

def ca (N K : Nat) : Int := ((N % 18446744073709551616 + K % 18446744073709551616) / 18446744073709551616 : Nat)
theorem add64_lo (N K : Nat) (w : World) : (callFunc 95 #[.int .u64 (lo N), .int .u64 (lo K), .int .u64 0]).run Tryz.prog w = .ok (.value (.tuple #[.int .u64 (lo (N + K)), .int .u64 (ca N K)])) w := by
  have h := run_callFunc_extern Tryz.func95 (by kernel_rfl) (by kernel_rfl) (by kernel_rfl) (e := add64Entry) (by kernel_rfl) #[.int .u64 (lo N), .int .u64 (lo K), .int .u64 0] w
  rw [h]
  have hl : lo N = ((N % 18446744073709551616 : Nat) : Int) := rfl
  have hk : lo K = ((K % 18446744073709551616 : Nat) : Int) := rfl
  rw [hl, hk, show (0 : Int) = ((0 : Nat) : Int) from rfl, run_add64 ((N % 18446744073709551616 : Nat) : Int) ((K % 18446744073709551616 : Nat) : Int) ((0 : Nat) : Int) (by omega) (by omega) (by omega) (by omega)]
  simp only [Result.andThen]
  have e1 : (((N % 18446744073709551616 : Nat) : Int) + ((K % 18446744073709551616 : Nat) : Int) + ((0 : Nat) : Int)) % 18446744073709551616 = lo (N + K) := by unfold lo; omega
  have e2 : (((N % 18446744073709551616 : Nat) : Int) + ((K % 18446744073709551616 : Nat) : Int) + ((0 : Nat) : Int)) / 18446744073709551616 = ca N K := by unfold ca; omega
  rw [e1, e2]
theorem hi_plus (N K : Nat) (h : N + K < 340282366920938463463374607431768211456) :
    IntKind.u64.wrap (IntKind.u64.wrap (hi N + hi K) + ca N K) = hi (N + K) := by
  rw [IntKind.wrap_u64, IntKind.wrap_u64]
  unfold hi ca
  omega
set_option maxHeartbeats 400000 in
theorem plus_any (N K : Nat) (h : N + K < 340282366920938463463374607431768211456) (w : World) :
    Calls Tryz.prog 81 #[.agg #[.int .u64 (lo N), .int .u64 (hi N)], .agg #[.int .u64 (lo K), .int .u64 (hi K)]] w fun e w' => e = .returned (.agg #[.int .u64 (lo (N + K)), .int .u64 (hi (N + K))]) ∧ Below w.heap.size w w' := by
  have HT := Lib.hid (hi_plus N K h)
  have ha := add64_lo N K
  clear h
  go_enter Tryz.func81, Tryz.ntmps81
  go_wp2
  rw [HT.out]
  exact bodyPost_ret (v := .agg #[.int .u64 (lo (N + K)), .int .u64 (hi (N + K))]) (by simp [results, Tryz.results81, go_sem]) rfl ⟨rfl, by repeat (first | exact Below.refl _ _ | apply below_alloc)⟩
theorem above_iff (N K : Nat) : (decide (hi N > hi K) || (decide (hi N = hi K) && decide (lo N > lo K))) = decide (K < N) := by
  unfold hi lo
  rw [Bool.eq_iff_iff]
  simp only [Bool.or_eq_true, Bool.and_eq_true, decide_eq_true_eq]
  omega
set_option maxHeartbeats 400000 in
theorem above_any (N K : Nat) (w : World) :
    Calls Tryz.prog 84 #[.agg #[.int .u64 (lo N), .int .u64 (hi N)], .agg #[.int .u64 (lo K), .int .u64 (hi K)]] w fun e w' => e = .returned (.bool (decide (K < N))) ∧ Below w.heap.size w w' := by
  have HA := Lib.hid (above_iff N K)
  go_enter Tryz.func84, Tryz.ntmps84
  go_wp2
  all_goals
    go_ret
    exact ⟨ret_bool rfl (by rw [← HA.out]; simp_all), by repeat (first | exact Below.refl _ _ | apply below_alloc)⟩
set_option maxHeartbeats 400000 in
theorem cube_any (n : Nat) (hn : n ≤ 1073741823) (w : World) :
    Calls Tryz.prog 79 #[.int .u64 n] w fun e w' => e = .returned (.agg #[.int .u64 (lo (n * n * n)), .int .u64 (hi (n * n * n))]) ∧ Below w.heap.size w w' := by
  have h1 : n * n ≤ 1073741823 * 1073741823 := Nat.mul_le_mul hn hn
  have h2 : n * n * n ≤ 1073741823 * 1073741823 * 1073741823 := Nat.mul_le_mul h1 hn
  have e0 : IntKind.u64.wrap ((n : Int) * n) = lo (n * n) := by
    have : (n : Int) * n = ((n * n : Nat) : Int) := (Int.natCast_mul _ _).symm
    rw [this, IntKind.wrap_u64]; unfold lo; omega
  have e1 : hi (n * n) = 0 := by unfold hi; omega
  have HT : Hid (∀ w, _) := Lib.hid (times_any (n * n) n (by omega) (by omega))
  rw [e1] at HT
  have E0 := Lib.hid e0
  clear h1 h2 e0 e1
  go_enter Tryz.func79, Tryz.ntmps79
  go_wp2_with fail
  rw [E0.out]
  refine (HT.out _).mono ?_; rintro e w1 ⟨rfl, hb⟩
  obtain ⟨hc, hf⟩ := bcell hb
  have hz : w.heap.size < w1.heap.size := sz_lt hb (by simp)
  go_wp2
  refine bodyPost_ret (v := .agg #[.int .u64 (lo (n * n * n)), .int .u64 (hi (n * n * n))]) (by simp [results, Tryz.results79, go_sem, *]) rfl ⟨rfl, ?_⟩
  repeat (first | exact Below.refl _ _ | apply below_alloc | (refine below_set ?_ (by first | (simp; done) | (simp; omega) | omega) _) | (refine below_join ?_ (by assumption)))

end Go.Proofs.YtndpdbofoojkhaaGreat.Bad
/- Badness: what each call answers. -/
namespace Go.Proofs.YtndpdbofoojkhaaGreat.Bad
open Go.RowKit Go.Proofs.YtndpdbofoojkhaaGreat.Kit
set_option linter.unusedVariables false
set_option linter.unusedSimpArgs false

theorem times_at {N n : Nat} {m : Int} (hm : Hid (m = n)) (h : Hid (N * n < 340282366920938463463374607431768211456 ∧ n < 18446744073709551616)) (w : World) :
    Calls Tryz.prog 80 #[.agg #[.int .u64 (lo N), .int .u64 (hi N)], .int .u64 m] w fun e w' => e = .returned (.agg #[.int .u64 (lo (N * n)), .int .u64 (hi (N * n))]) ∧ Below w.heap.size w w' := by
  have e := hm.out
  subst e
  exact times_any N n h.out.1 h.out.2 w

theorem wrap_k {k : Nat} (hk : k ≤ 10000) : IntKind.u64.wrap (2 * IntKind.u64.wrap (IntKind.i64.wrap ((k : Int) + 1))) = ((2 * (k + 1) : Nat) : Int) := by
  rw [IntKind.wrap_i64, IntKind.wrap_u64, IntKind.wrap_u64]
  omega
/-- Is b the least one, or above it? -/
def over (C M k : Nat) : Bool := decide (M < C * (2 * (k + 1)))

set_option maxHeartbeats 1000000 in
theorem clo_any (C M k g5 g6 : Nat) (w : World) (hk : k ≤ 10000) (hC : C ≤ 1238294767935480979882082047) (B5 : Box w g5 #[.int .u64 (lo C), .int .u64 (hi C)] 150) (B6 : Box w g6 #[.int .u64 (lo M), .int .u64 (hi M)] 150) :
    Calls Tryz.prog 83 #[.int .i64 k, .pointer (some ⟨g5, 0, none⟩), .pointer (some ⟨g6, 0, none⟩)] w fun e w' => e = .returned (.bool (over C M k)) ∧ Below w.heap.size w w' := by
  have H : Hid (C * (2 * (k + 1)) < 340282366920938463463374607431768211456 ∧ 2 * (k + 1) < 18446744073709551616) := Lib.hid (by
    have := Nat.mul_le_mul hC (show 2 * (k + 1) ≤ 20002 by omega)
    omega)
  have HC : Hid (∀ w, Calls Tryz.prog 84 #[.agg #[.int .u64 (lo (C * (2 * (k + 1)))), .int .u64 (hi (C * (2 * (k + 1))))], .agg #[.int .u64 (lo M), .int .u64 (hi M)]] w fun e w' => e = .returned (.bool (over C M k)) ∧ Below w.heap.size w w') := Lib.hid (above_any _ _)
  have HM := Lib.hid (wrap_k hk)
  clear hC
  have e50 := B5.cell 0 rfl; have e51 := B5.cell 1 rfl; have e60 := B6.cell 0 rfl; have e61 := B6.cell 1 rfl
  have HK : Hid (∀ w', Below w.heap.size w w' → Below w.heap.size w w' ∧ w'.cell? ⟨g5, 0, none⟩ = some (.int .u64 (lo C)) ∧ w'.cell? ⟨g5, 1, none⟩ = some (.int .u64 (hi C)) ∧ w'.cell? ⟨g6, 0, none⟩ = some (.int .u64 (lo M)) ∧ w'.cell? ⟨g6, 1, none⟩ = some (.int .u64 (hi M))) :=
    Lib.hid fun w' hb => ⟨hb, later hb e50, later hb e51, later hb e60, later hb e61⟩
  go_enter Tryz.func83, Tryz.ntmps83
  go_wp2
  go_region_held3 (fun w' => Below w.heap.size w w' ∧ w'.cell? ⟨g5, 0, none⟩ = some (.int .u64 (lo C)) ∧ w'.cell? ⟨g5, 1, none⟩ = some (.int .u64 (hi C)) ∧ w'.cell? ⟨g6, 0, none⟩ = some (.int .u64 (lo M)) ∧ w'.cell? ⟨g6, 1, none⟩ = some (.int .u64 (hi M)))
    (first | exact HK.out _ (below_drew (Below.refl _ _)) | exact HK.out _ (below_join (below_drew (Below.refl _ _)) hbq) | exact HK.out _ (below_join ‹Below w.heap.size w _ ∧ _›.1 hbq))
    (first
      | (go_at_call 80; refine (times_at HM H _).mono ?_; rintro e wq ⟨rfl, hbq⟩)
      | (go_at_call 84; refine (HC.out _).mono ?_; rintro e wq ⟨rfl, hbq⟩))
  have HW := ‹Below w.heap.size w _ ∧ _›.1
  go_wp2
  go_ret
  exact ⟨rfl, HW⟩

/-! ### sort.Search, by the closure -/
theorem over_mono {C M k j : Nat} (h : over C M k = true) (hj : k ≤ j) : over C M j = true := by
  unfold over at *
  have h := of_decide_eq_true h
  have := Nat.mul_le_mul_left C (show 2 * (k + 1) ≤ 2 * (j + 1) by omega)
  exact decide_eq_true (by omega)

set_option maxHeartbeats 1000000 in
theorem search_any (C M g5 g6 : Nat) (w : World) (hC : C ≤ 1238294767935480979882082047) (B5 : Box w g5 #[.int .u64 (lo C), .int .u64 (hi C)] 150) (B6 : Box w g6 #[.int .u64 (lo M), .int .u64 (hi M)] 150)
    (q : Nat) (hq : q ≤ 10000) (hq1 : ∀ k, k < q → over C M k = false) (hq2 : ∀ k, q ≤ k → k < 10000 → over C M k = true) :
    Calls Tryz.prog 82 #[.int .i64 10000, .func (.func 83) #[] #[.pointer (some ⟨g5, 0, none⟩), .pointer (some ⟨g6, 0, none⟩)]] w fun e w' => e = .returned (.int .i64 q) ∧ Below w.heap.size w w' := by
  have H1 := Lib.hid hq1
  have H2 := Lib.hid hq2
  clear hq1 hq2
  go_enter Tryz.func82, Tryz.ntmps82
  go_wp2
  go_loopw [5, 6] (fun i j wr => ∃ a b : Nat, a ≤ q ∧ q ≤ b ∧ b ≤ 10000 ∧ i = .int .i64 a ∧ j = .int .i64 b ∧ Below w.heap.size w wr) (fun i j _ => (intOf j).toNat - (intOf i).toNat)
  case atStart => exact ⟨0, 10000, by omega, by omega, by omega, rfl, rfl, Below.refl _ _⟩
  case round =>
    obtain ⟨a, b, ha, hb, hb2, rfl, rfl, HB⟩ := hrel
    by_cases hlt : a < b
    · have hm : (((a + b) / 2 : Nat) : Int) = ((a : Int) + b) / 2 := by omega
      have HM := Lib.hid hm.symm
      clear hm
      go_wp2_with fail
      rw [HM.out]
      refine (clo_any C M ((a + b) / 2) g5 g6 _ (by omega) hC (B5.below ((HB.mono (Nat.le_refl _)))) (B6.below HB)).mono ?_
      rintro e w2 ⟨rfl, hb3⟩
      have HB2 := below_join HB hb3
      clear hb3
      have hlo : a ≤ (a + b) / 2 := by omega
      have hhi : (a + b) / 2 < b := by omega
      cases ho : over C M ((a + b) / 2) with
      | true =>
        have hqm : q ≤ (a + b) / 2 := by
          rcases Nat.lt_or_ge ((a + b) / 2) q with h | h
          · rw [H1.out _ h] at ho; cases ho
          · exact h
        generalize (a + b) / 2 = m at *
        clear ho HM
        go_wp2
        go_roundw
        case rel => exact ⟨a, m, by omega, by omega, by omega, rfl, rfl, HB2⟩
        case measure => simp [intOf]; omega
      | false =>
        have hqm : (a + b) / 2 < q := by
          rcases Nat.lt_or_ge ((a + b) / 2) q with h | h
          · exact h
          · rw [H2.out _ h (by omega)] at ho; cases ho
        generalize (a + b) / 2 = m at *
        clear ho HM
        go_wp2
        go_roundw
        case rel => exact ⟨m + 1, b, by omega, by omega, by omega, by go_num, rfl, HB2⟩
        case measure => simp [intOf]; omega
    · have e : a = q := by omega
      subst e
      go_wp2
      go_ret
      exact ⟨rfl, HB⟩

end Go.Proofs.YtndpdbofoojkhaaGreat.Bad
/- Badness of any two numbers: what the call answers. -/
namespace Go.Proofs.YtndpdbofoojkhaaGreat.Bad
open Go.RowKit Go.Proofs.YtndpdbofoojkhaaGreat.Kit
set_option linter.unusedVariables false
set_option linter.unusedSimpArgs false

theorem drew_size (w : World) : w.drew.heap.size = w.heap.size := rfl
/-- What is below 0 counts as 0, what is above the greatest dimension as that. -/
def cl (n : Int) : Nat := if n < 0 then 0 else if 1073741823 < n then 1073741823 else n.toNat
theorem cl_bd (n : Int) : cl n ≤ 1073741823 := by unfold cl; split <;> (try split) <;> omega
def cube (n : Nat) : Nat := n * n * n
theorem cube_le {n : Nat} (h : n ≤ 1073741823) : cube n ≤ 1237940035827951479904665600 := by
  have h1 : n * n ≤ 1073741823 * 1073741823 := Nat.mul_le_mul h h
  have h2 : n * n * n ≤ 1073741823 * 1073741823 * 1073741823 := Nat.mul_le_mul h1 h
  unfold cube
  omega
theorem cube_mono {m n : Nat} (h : m ≤ n) : cube m ≤ cube n := Nat.mul_le_mul (Nat.mul_le_mul h h) h
theorem cube_pos {n : Nat} (h : 0 < n) : 0 < cube n := Nat.mul_pos (Nat.mul_pos h h) h
/-- How bad it is. -/
def badP (T S : Nat) : Nat := if T = 0 then 0 else if S = 0 then 10000 else min 10000 ((cube T * 200 + cube S) / (2 * cube S))
theorem badP_le (T S : Nat) : badP T S ≤ 10000 := by unfold badP; split <;> (try split) <;> omega
theorem over_iff (C M k : Nat) (hC : 0 < C) : over C M k = decide (M / (2 * C) ≤ k) := by
  unfold over
  rw [decide_eq_decide]
  have e : C * (2 * (k + 1)) = (k + 1) * (2 * C) := by rw [← Nat.mul_assoc, Nat.mul_comm]; rw [Nat.mul_comm C 2]
  rw [e, ← Nat.div_lt_iff_lt_mul (by omega)]
  omega

theorem cube_at {n : Nat} {m : Int} (hm : Hid (m = n)) (hn : Hid (n ≤ 1073741823)) (w : World) :
    Calls Tryz.prog 79 #[.int .u64 m] w fun e w' => e = .returned (.agg #[.int .u64 (lo (cube n)), .int .u64 (hi (cube n))]) ∧ Below w.heap.size w w' := by
  have e := hm.out
  subst e
  exact cube_any n hn.out w
theorem times_c {N n : Nat} {m : Int} (hm : Hid (m = n)) (h : Hid (N * n < 340282366920938463463374607431768211456 ∧ n < 18446744073709551616)) (w : World) :
    Calls Tryz.prog 80 #[.agg #[.int .u64 (lo N), .int .u64 (hi N)], .int .u64 m] w fun e w' => e = .returned (.agg #[.int .u64 (lo (N * n)), .int .u64 (hi (N * n))]) ∧ Below w.heap.size w w' := times_at hm h w
theorem plus_c {N K : Nat} (h : Hid (N + K < 340282366920938463463374607431768211456)) (w : World) :
    Calls Tryz.prog 81 #[.agg #[.int .u64 (lo N), .int .u64 (hi N)], .agg #[.int .u64 (lo K), .int .u64 (hi K)]] w fun e w' => e = .returned (.agg #[.int .u64 (lo (N + K)), .int .u64 (hi (N + K))]) ∧ Below w.heap.size w w' := plus_any N K h.out w
theorem cl_if (t : Int) : (if 1073741823 < (if t < 0 then 0 else t) then 1073741823 else if t < 0 then 0 else t) = ((cl t : Nat) : Int) := by
  unfold cl
  split <;> split <;> (try split) <;> omega
theorem badP_far {T S : Nat} (h : S ≤ T / 8) (hT : T ≠ 0) : badP T S = 10000 := by
  unfold badP
  rw [if_neg hT]
  split
  · rfl
  · rename_i hS
    have h8 : cube (8 * S) ≤ cube T := cube_mono (by omega)
    have e8 : cube (8 * S) = 512 * cube S := by
      unfold cube
      have a1 : 8 * S * (8 * S) = 64 * (S * S) := by rw [Nat.mul_mul_mul_comm]
      rw [a1, Nat.mul_mul_mul_comm]
    have hp := cube_pos (Nat.pos_of_ne_zero hS)
    have : 10000 ≤ (cube T * 200 + cube S) / (2 * cube S) := by
      rw [Nat.le_div_iff_mul_le (by omega)]
      omega
    omega

set_option maxRecDepth 100000 in
set_option maxHeartbeats 1000000 in
theorem bad_any (t s : Int) (w : World) :
    Calls Tryz.prog 57 #[.int .i64 t, .int .i64 s] w fun e w' => e = .returned (.int .i64 (badP (cl t) (cl s))) ∧ Below w.heap.size w w' := by
  have hT := cl_bd t
  have hS := cl_bd s
  obtain ⟨T, ET⟩ : ∃ T, Hid (cl t = T) := ⟨_, Lib.hid rfl⟩
  obtain ⟨S, ES⟩ : ∃ S, Hid (cl s = S) := ⟨_, Lib.hid rfl⟩
  rw [ET.out] at hT
  rw [ES.out] at hS
  rw [ET.out, ES.out]
  by_cases h0 : T = 0
  · subst h0
    rw [show badP 0 S = 0 by simp [badP]]
    go_enter Tryz.func57, Tryz.ntmps57
    go_upto_region 2 with fail
    rw [cl_if t, cl_if s, ET.out, ES.out]
    generalize (if t < 0 then (0 : Int) else t) = vt
    generalize (if s < 0 then (0 : Int) else s) = vs
    go_wp2
    go_ret
    exact ⟨rfl, Below.refl _ _⟩
  have h0' : ((T : Int) == 0) = false := by simpa using h0
  by_cases h1 : S = 0
  · subst h1
    rw [show badP T 0 = 10000 by simp [badP, h0]]
    clear h0
    go_enter Tryz.func57, Tryz.ntmps57
    go_upto_region 2 with fail
    rw [cl_if t, cl_if s, ET.out, ES.out]
    generalize (if t < 0 then (0 : Int) else t) = vt
    generalize (if s < 0 then (0 : Int) else s) = vs
    go_wp2
    go_ret
    exact ⟨rfl, Below.refl _ _⟩
  have h1' : ((S : Int) == 0) = false := by simpa using h1
  by_cases h8 : S ≤ T / 8
  · rw [badP_far h8 h0]
    have h8' : (S : Int) ≤ (T : Int) / 8 := by omega
    clear h0 h1 h8
    go_enter Tryz.func57, Tryz.ntmps57
    go_upto_region 2 with fail
    rw [cl_if t, cl_if s, ET.out, ES.out]
    generalize (if t < 0 then (0 : Int) else t) = vt
    generalize (if s < 0 then (0 : Int) else s) = vs
    go_wp2
    go_ret
    exact ⟨rfl, Below.refl _ _⟩
  have h8' : ¬ (S : Int) ≤ (T : Int) / 8 := by omega
  have hC := cube_le hS
  have hD := cube_le hT
  have hCp := cube_pos (Nat.pos_of_ne_zero h1)
  obtain ⟨q, hq, hq1, hq2, HP⟩ : ∃ q, q ≤ 10000 ∧ (∀ k, k < q → over (cube S) (cube T * 200 + cube S) k = false) ∧ (∀ k, q ≤ k → k < 10000 → over (cube S) (cube T * 200 + cube S) k = true) ∧ badP T S = q := by
    refine ⟨_, by unfold badP; rw [if_neg h0, if_neg h1]; omega, fun k hk => ?_, fun k hk hk2 => ?_, rfl⟩
    · rw [over_iff _ _ _ hCp]; unfold badP at hk; rw [if_neg h0, if_neg h1] at hk; exact decide_eq_false (by omega)
    · rw [over_iff _ _ _ hCp]; unfold badP at hk; rw [if_neg h0, if_neg h1] at hk; exact decide_eq_true (by omega)
  rw [HP]
  have H1 : Hid (cube T * 200 < 340282366920938463463374607431768211456 ∧ 200 < 18446744073709551616) := Lib.hid (by omega)
  have H2 : Hid (cube T * 200 + cube S < 340282366920938463463374607431768211456) := Lib.hid (by omega)
  have H3 : Hid (cube S ≤ 1238294767935480979882082047) := Lib.hid (by omega)
  have HS := Lib.hid hS; have HT := Lib.hid hT; have HQ1 := Lib.hid hq1; have HQ2 := Lib.hid hq2
  have HSE : ∀ w g5 g6, Hid _ := fun w g5 g6 => Lib.hid (search_any (cube S) (cube T * 200 + cube S) g5 g6 w)
  have EU : ∀ n : Nat, n ≤ 1073741823 → IntKind.u64.wrap (n : Int) = n := fun n hn => by rw [IntKind.wrap_u64]; omega
  have EUS := Lib.hid (EU S hS); have EUT := Lib.hid (EU T hT)
  clear h0 h1 h8 hC hD hCp HP hq1 hq2 EU
  go_enter Tryz.func57, Tryz.ntmps57
  go_upto_region 2 with fail
  rw [cl_if t, cl_if s, ET.out, ES.out]
  generalize (if t < 0 then (0 : Int) else t) = vt
  generalize (if s < 0 then (0 : Int) else s) = vs
  go_wp2_with fail
  refine (cube_at (n := S) (by first | exact Lib.hid rfl | exact Lib.hid (EUS.out)) HS _).mono ?_; rintro e w1 ⟨rfl, hb1⟩
  obtain ⟨g5, hg5⟩ : ∃ g5, g5 = w1.heap.size := ⟨_, rfl⟩
  have B5 : Box (w1.alloc (.cells #[.int .u64 (lo (cube S)), .int .u64 (hi (cube S))] 150)) g5 #[.int .u64 (lo (cube S)), .int .u64 (hi (cube S))] 150 := by rw [hg5]; exact Box.new _ _ _
  have HW2 : Below w.heap.size w (w1.alloc (.cells #[.int .u64 (lo (cube S)), .int .u64 (hi (cube S))] 150)) := below_alloc hb1 _
  go_upto_region 7 with fail
  rw [← hg5]
  clear hb1 hg5
  generalize (w1.alloc (.cells #[.int .u64 (lo (cube S)), .int .u64 (hi (cube S))] 150)) = W at *
  go_cut [6] (fun v wx => ∃ g6, v = .pointer (some ⟨g6, 0, none⟩) ∧ Box wx g6 #[.int .u64 (lo (cube T * 200 + cube S)), .int .u64 (hi (cube T * 200 + cube S))] 150 ∧ Below W.heap.size W wx)
  case first =>
    have e50 := B5.cell 0 rfl
    have e51 := B5.cell 1 rfl
    have HK : Hid (∀ w', Below W.heap.size W w' → Below W.heap.size W w' ∧ w'.cell? ⟨g5, 0, none⟩ = some (.int .u64 (lo (cube S))) ∧ w'.cell? ⟨g5, 1, none⟩ = some (.int .u64 (hi (cube S)))) := Lib.hid fun w' hb => ⟨hb, later hb e50, later hb e51⟩
    go_region_held3 (fun w' => Below W.heap.size W w' ∧ w'.cell? ⟨g5, 0, none⟩ = some (.int .u64 (lo (cube S))) ∧ w'.cell? ⟨g5, 1, none⟩ = some (.int .u64 (hi (cube S))))
      (first | exact HK.out _ (by repeat (first | exact Below.refl _ _ | apply below_drew | apply below_alloc | (refine below_set ?_ (by first | (simp; done) | exact (show Below W.heap.size W _ from by repeat (first | exact Below.refl _ _ | apply below_drew | apply below_alloc | (refine below_join ?_ (by assumption)))).size) _) | (refine below_join ?_ (by assumption)))))
      (first
        | (go_at_call 79; refine (cube_at (n := T) (by exact EUT) HT _).mono ?_; rintro e wq ⟨rfl, hbq⟩; (first | (have B6 := (Box.new _ _ _).below hbq; have z0 := B6.cell 0 rfl; have z1 := B6.cell 1 rfl; have z2 := B6.free 0; have z3 := B6.free 1) | (have B6 := (Box.new _ _ _).drew.below hbq; have z0 := B6.cell 0 rfl; have z1 := B6.cell 1 rfl; have z2 := B6.free 0; have z3 := B6.free 1) | (have B6 := B6.below hbq; have z0 := B6.cell 0 rfl; have z1 := B6.cell 1 rfl; have z2 := B6.free 0; have z3 := B6.free 1) | skip))
        | (go_at_call 80; refine (times_c (m := 200) (Lib.hid rfl) H1 _).mono ?_; rintro e wq ⟨rfl, hbq⟩; (first | (have B6 := (Box.new _ _ _).below hbq; have z0 := B6.cell 0 rfl; have z1 := B6.cell 1 rfl; have z2 := B6.free 0; have z3 := B6.free 1) | (have B6 := (Box.new _ _ _).drew.below hbq; have z0 := B6.cell 0 rfl; have z1 := B6.cell 1 rfl; have z2 := B6.free 0; have z3 := B6.free 1) | (have B6 := B6.below hbq; have z0 := B6.cell 0 rfl; have z1 := B6.cell 1 rfl; have z2 := B6.free 0; have z3 := B6.free 1) | skip))
        | (go_at_call 81; refine (plus_c H2 _).mono ?_; rintro e wq ⟨rfl, hbq⟩; (first | (have B6 := (Box.new _ _ _).below hbq; have z0 := B6.cell 0 rfl; have z1 := B6.cell 1 rfl; have z2 := B6.free 0; have z3 := B6.free 1) | (have B6 := (Box.new _ _ _).drew.below hbq; have z0 := B6.cell 0 rfl; have z1 := B6.cell 1 rfl; have z2 := B6.free 0; have z3 := B6.free 1) | (have B6 := B6.below hbq; have z0 := B6.cell 0 rfl; have z1 := B6.cell 1 rfl; have z2 := B6.free 0; have z3 := B6.free 1) | skip)))
    all_goals (go_wp2_with fail; go_meet)
    all_goals
      refine ⟨_, rfl, ?_, ?_⟩
      · repeat (first | exact Box.new _ _ _ | exact Box.set2 B6 | apply Box.drew)
      · first | exact (‹Below W.heap.size W _ ∧ _›).1
  case rest =>
    obtain ⟨g6, rfl, B6, HB⟩ := hcut
    have hmf : ∀ fn first cap w, (Instr.makeFunc fn first cap).run Tryz.prog w = .ok (.func fn first cap) w := fun _ _ _ _ => rfl
    go_wp2_with fail
    refine ((HSE _ g5 g6).out H3.out (B5.below HB) B6 q hq HQ1.out HQ2.out).mono ?_
    rintro e w3 ⟨rfl, hb3⟩
    go_wp2
    go_ret
    exact ⟨rfl, below_then HW2 HW2.size (below_join HB hb3)⟩

end Go.Proofs.YtndpdbofoojkhaaGreat.Bad
