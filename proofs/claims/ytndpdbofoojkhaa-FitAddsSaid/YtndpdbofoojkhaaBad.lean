/- The functions of layer 3 (badness): numbers of two words. -/
import Derived.Test.YtndpdbofoojkhaaDraws
import Derived.Shelf.Bits.Mul64
import Derived.Shelf.Spec.BitsCarry
import Derived.Laws.Externs
import Derived.Deep.DeepCutAuto
namespace Go.Proofs.Ytndpdbofoojkhaa.Bad
open Go.RowKit Go.Proofs.Ytndpdbofoojkhaa.Kit
set_option linter.unusedVariables false
set_option linter.unusedSimpArgs false

theorem mul64_nat (x y : Nat) (hx : x < 18446744073709551616) (hy : y < 18446744073709551616) (w : World) :
    Calls Try.prog 71 #[.int .u64 x, .int .u64 y] w fun e w' => e = .returned (.tuple #[.int .u64 ((x * y / 18446744073709551616 : Nat) : Int), .int .u64 ((x * y % 18446744073709551616 : Nat) : Int)]) ∧ w = w' := by
  obtain ⟨bd, bt, bw, hhi⟩ := Lib.mul64_hi x y hx hy
  have ba := Lib.half_mul_le (a := x / 4294967296) (b := y / 4294967296) (by omega) (by omega)
  have bb := Lib.half_mul_le (a := x / 4294967296) (b := y % 4294967296) (by omega) (by omega)
  have bc := Lib.half_mul_le (a := x % 4294967296) (b := y / 4294967296) (by omega) (by omega)
  have ba' : x / 4294967296 * (y / 4294967296) < 18446744073709551616 := by omega
  have bb' : x / 4294967296 * (y % 4294967296) < 18446744073709551616 := by omega
  have bc' : x % 4294967296 * (y / 4294967296) < 18446744073709551616 := by omega
  have bh1 : x / 4294967296 * (y / 4294967296) + (x / 4294967296 * (y % 4294967296) + x % 4294967296 * (y % 4294967296) / 4294967296) / 4294967296 < 18446744073709551616 := by omega
  have bh : x / 4294967296 * (y / 4294967296) + (x / 4294967296 * (y % 4294967296) + x % 4294967296 * (y % 4294967296) / 4294967296) / 4294967296 + ((x / 4294967296 * (y % 4294967296) + x % 4294967296 * (y % 4294967296) / 4294967296) % 4294967296 + x % 4294967296 * (y / 4294967296)) / 4294967296 < 18446744073709551616 := by omega
  go_enter Try.func71, Try.ntmps71
  go_wp2
  simp only [Mul64.maskN x hx, Mul64.maskN y hy, Mul64.divN, Mul64.mulN, Mul64.addN, Mul64.wrapN _ bd, Mul64.wrapN _ bb', Mul64.wrapN _ bt, Mul64.maskN _ bt, Mul64.wrapN _ bc', Mul64.wrapN _ bw, Mul64.wrapN _ ba', Mul64.wrapN _ bh1, Mul64.wrapN _ bh, Mul64.wrapM (x * y)]
  rw [hhi]
  go_ret2
  exact ⟨rfl, rfl⟩

/-! ### Numbers of two words -/
def lo (N : Nat) : Int := ((N % 18446744073709551616 : Nat) : Int)
def hi (N : Nat) : Int := ((N / 18446744073709551616 : Nat) : Int)
def mh (N n : Nat) : Int := ((N % 18446744073709551616 * n / 18446744073709551616 : Nat) : Int)
theorem mul64_lo (N n : Nat) (hn : n < 18446744073709551616) (w : World) :
    Calls Try.prog 71 #[.int .u64 (lo N), .int .u64 n] w fun e w' => e = .returned (.tuple #[.int .u64 (mh N n), .int .u64 (lo (N * n))]) ∧ w = w' := by
  have h := mul64_nat (N % 18446744073709551616) n (Nat.mod_lt _ (by omega)) hn w
  have e : N % 18446744073709551616 * n % 18446744073709551616 = N * n % 18446744073709551616 := by rw [Nat.mod_mul_mod]
  rw [e] at h
  exact h
theorem hi_times (N n : Nat) (h : N * n < 340282366920938463463374607431768211456) :
    IntKind.u64.wrap (mh N n + IntKind.u64.wrap (hi N * n)) = hi (N * n) := by
  have e1 : N * n = (N / 18446744073709551616) * n * 18446744073709551616 + N % 18446744073709551616 * n := by
    have := Nat.div_add_mod N 18446744073709551616
    have h2 : N * n = (18446744073709551616 * (N / 18446744073709551616) + N % 18446744073709551616) * n := by rw [this]
    rw [h2, Nat.add_mul, Nat.mul_comm 18446744073709551616 (N / 18446744073709551616), Nat.mul_assoc, Nat.mul_comm 18446744073709551616 n, ← Nat.mul_assoc]
  have e2 : N * n / 18446744073709551616 = (N / 18446744073709551616) * n + N % 18446744073709551616 * n / 18446744073709551616 := by
    rw [e1, Nat.add_comm, Nat.add_mul_div_right _ _ (by omega), Nat.add_comm]
  have e3 : N * n / 18446744073709551616 < 18446744073709551616 := by omega
  have e4 : hi N * (n : Int) = ((N / 18446744073709551616 * n : Nat) : Int) := (Int.natCast_mul _ _).symm
  rw [e4, IntKind.wrap_u64, IntKind.wrap_u64]
  unfold mh hi
  rw [e2] at e3 ⊢
  generalize N / 18446744073709551616 * n = a at *
  generalize N % 18446744073709551616 * n / 18446744073709551616 = b at *
  omega

set_option maxHeartbeats 400000 in
theorem times_any (N n : Nat) (h : N * n < 340282366920938463463374607431768211456) (hn : n < 18446744073709551616) (w : World) :
    Calls Try.prog 60 #[.agg #[.int .u64 (lo N), .int .u64 (hi N)], .int .u64 n] w fun e w' => e = .returned (.agg #[.int .u64 (lo (N * n)), .int .u64 (hi (N * n))]) ∧ Below w.heap.size w w' := by
  have HT := Lib.hid (hi_times N n h)
  have HN := Lib.hid hn
  clear h hn
  go_enter Try.func60, Try.ntmps60
  go_wp2_with (go_at_call 71; refine (mul64_lo N n HN.out _).mono ?_; rintro e w1 ⟨rfl, rfl⟩)
  rw [HT.out]
  exact bodyPost_ret (v := .agg #[.int .u64 (lo (N * n)), .int .u64 (hi (N * n))]) (by simp [results, Try.results60, go_sem]) rfl ⟨rfl, by repeat (first | exact Below.refl _ _ | apply below_alloc)⟩

def ca (N K : Nat) : Int := ((N % 18446744073709551616 + K % 18446744073709551616) / 18446744073709551616 : Nat)
theorem add64_lo (N K : Nat) (w : World) : (callFunc 72 #[.int .u64 (lo N), .int .u64 (lo K), .int .u64 0]).run Try.prog w = .ok (.value (.tuple #[.int .u64 (lo (N + K)), .int .u64 (ca N K)])) w := by
  have h := run_callFunc_extern Try.func72 (by kernel_rfl) (by kernel_rfl) (by kernel_rfl) (e := add64Entry) (by kernel_rfl) #[.int .u64 (lo N), .int .u64 (lo K), .int .u64 0] w
  rw [h]
  have hl : lo N = ((N % 18446744073709551616 : Nat) : Int) := rfl
  have hk : lo K = ((K % 18446744073709551616 : Nat) : Int) := rfl
  rw [hl, hk, show (0 : Int) = ((0 : Nat) : Int) from rfl, run_add64 ((N % 18446744073709551616 : Nat) : Int) ((K % 18446744073709551616 : Nat) : Int) ((0 : Nat) : Int) (by omega) (by omega) (by omega) (by omega)]
  simp only [Result.andThen]
  have e1 : (((N % 18446744073709551616 : Nat) : Int) + ((K % 18446744073709551616 : Nat) : Int) + ((0 : Nat) : Int)) % 18446744073709551616 = lo (N + K) := by unfold lo; omega
  have e2 : (((N % 18446744073709551616 : Nat) : Int) + ((K % 18446744073709551616 : Nat) : Int) + ((0 : Nat) : Int)) / 18446744073709551616 = ca N K := by unfold ca; omega
  rw [e1, e2]
theorem hi_plus (N K : Nat) (h : N + K < 340282366920938463463374607431768211456) :
    IntKind.u64.wrap (IntKind.u64.wrap (hi N + hi K) + ca N K) = hi (N + K) := by
  rw [IntKind.wrap_u64, IntKind.wrap_u64]
  unfold hi ca
  omega
set_option maxHeartbeats 400000 in
theorem plus_any (N K : Nat) (h : N + K < 340282366920938463463374607431768211456) (w : World) :
    Calls Try.prog 61 #[.agg #[.int .u64 (lo N), .int .u64 (hi N)], .agg #[.int .u64 (lo K), .int .u64 (hi K)]] w fun e w' => e = .returned (.agg #[.int .u64 (lo (N + K)), .int .u64 (hi (N + K))]) ∧ Below w.heap.size w w' := by
  have HT := Lib.hid (hi_plus N K h)
  have ha := add64_lo N K
  clear h
  go_enter Try.func61, Try.ntmps61
  go_wp2
  rw [HT.out]
  exact bodyPost_ret (v := .agg #[.int .u64 (lo (N + K)), .int .u64 (hi (N + K))]) (by simp [results, Try.results61, go_sem]) rfl ⟨rfl, by repeat (first | exact Below.refl _ _ | apply below_alloc)⟩
theorem above_iff (N K : Nat) : (decide (hi N > hi K) || (decide (hi N = hi K) && decide (lo N > lo K))) = decide (K < N) := by
  unfold hi lo
  rw [Bool.eq_iff_iff]
  simp only [Bool.or_eq_true, Bool.and_eq_true, decide_eq_true_eq]
  omega
set_option maxHeartbeats 400000 in
theorem above_any (N K : Nat) (w : World) :
    Calls Try.prog 64 #[.agg #[.int .u64 (lo N), .int .u64 (hi N)], .agg #[.int .u64 (lo K), .int .u64 (hi K)]] w fun e w' => e = .returned (.bool (decide (K < N))) ∧ Below w.heap.size w w' := by
  have HA := Lib.hid (above_iff N K)
  go_enter Try.func64, Try.ntmps64
  go_wp2
  all_goals
    go_ret
    exact ⟨ret_bool rfl (by rw [← HA.out]; simp_all), by repeat (first | exact Below.refl _ _ | apply below_alloc)⟩
set_option maxHeartbeats 400000 in
theorem cube_any (n : Nat) (hn : n ≤ 1073741823) (w : World) :
    Calls Try.prog 59 #[.int .u64 n] w fun e w' => e = .returned (.agg #[.int .u64 (lo (n * n * n)), .int .u64 (hi (n * n * n))]) ∧ Below w.heap.size w w' := by
  have h1 : n * n ≤ 1073741823 * 1073741823 := Nat.mul_le_mul hn hn
  have h2 : n * n * n ≤ 1073741823 * 1073741823 * 1073741823 := Nat.mul_le_mul h1 hn
  have e0 : IntKind.u64.wrap ((n : Int) * n) = lo (n * n) := by
    have : (n : Int) * n = ((n * n : Nat) : Int) := (Int.natCast_mul _ _).symm
    rw [this, IntKind.wrap_u64]; unfold lo; omega
  have e1 : hi (n * n) = 0 := by unfold hi; omega
  have HT : Hid (∀ w, _) := Lib.hid (times_any (n * n) n (by omega) (by omega))
  rw [e1] at HT
  have E0 := Lib.hid e0
  clear h1 h2 e0 e1
  go_enter Try.func59, Try.ntmps59
  go_wp2_with fail
  rw [E0.out]
  refine (HT.out _).mono ?_; rintro e w1 ⟨rfl, hb⟩
  obtain ⟨hc, hf⟩ := bcell hb
  have hz : w.heap.size < w1.heap.size := sz_lt hb (by simp)
  go_wp2
  refine bodyPost_ret (v := .agg #[.int .u64 (lo (n * n * n)), .int .u64 (hi (n * n * n))]) (by simp [results, Try.results59, go_sem, *]) rfl ⟨rfl, ?_⟩
  repeat (first | exact Below.refl _ _ | apply below_alloc | (refine below_set ?_ (by first | (simp; done) | (simp; omega) | omega) _) | (refine below_join ?_ (by assumption)))

end Go.Proofs.Ytndpdbofoojkhaa.Bad
