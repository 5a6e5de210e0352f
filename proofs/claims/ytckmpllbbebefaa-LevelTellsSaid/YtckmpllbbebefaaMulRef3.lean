/- The reference of layer 2: a quotient, bit by bit. -/
import Derived.Test.YtckmpllbbebefaaMulRef
namespace Go.Proofs.Ytckmpllbbebefaa.Mul
open Go.RowKit Go.Proofs.Ytckmpllbbebefaa.Kit
set_option linter.unusedVariables false
set_option linter.unusedSimpArgs false

def okB (N c k : Nat) : Bool := decide (N / 2 ^ (k + 1) / c < 4611686018427387904)
theorem okB_next {N c k : Nat} (h : okB N c k = true → N / 2 ^ (k + 1) / c < 4611686018427387904) : True := trivial
theorem okB_iff (N c j : Nat) : okB N c j = decide (N / 2 ^ (j + 1) / c < 4611686018427387904) := rfl
theorem okB_mono {N c j : Nat} (h : okB N c (j + 1) = false) : okB N c j = false := by
  unfold okB at *
  have := div_mono_pow N (j + 1) c
  simp only [decide_eq_false_iff_not] at *
  omega
theorem okB_last (N c : Nat) : okB N c 0 = decide (N / c < 9223372036854775808) := by
  unfold okB
  rw [Nat.div_div_eq_div_mul, Nat.mul_comm, ← Nat.div_div_eq_div_mul, decide_eq_decide]
  omega
/-- What a quotient says of itself. -/
def Told (N c : Nat) (w : World) (e : Ending) (w' : World) : Prop := ∃ q : Int, (okB N c 0 = true → q = ((N / c : Nat) : Int)) ∧ e = .returned (.tuple #[.int .i64 q, .int .i64 ((N % c : Nat) : Int), .bool (okB N c 0)]) ∧ Below w.heap.size w w'
theorem rem_lt {N c : Nat} (hc : 0 < c) : N % c < c := Nat.mod_lt _ hc

set_option maxRecDepth 100000 in
set_option maxHeartbeats 2000000 in
theorem divide_any (N c : Nat) (hN : N < 340282366920938463463374607431768211456) (hc0 : 0 < c) (hc : c ≤ 4611686018427387903) (w : World) :
    Calls Try.prog 79 #[.agg (arr8 (dg N)), .int .i64 c] w fun e w' => Told N c w e w' := by
  have h128 : Hid (N / 2 ^ 128 = 0) := Lib.hid (Nat.div_eq_of_lt hN)
  clear hN
  unfold arr8
  go_enter Try.func79, Try.ntmps79
  go_wp2
  have B2 : Box (w.alloc (.cells (arr8 (dg N)) 114)) w.heap.size (arr8 (dg N)) 114 := Box.new w _ _
  have HB := below_alloc (Below.refl w.heap.size w) (.cells (arr8 (dg N)) 114)
  unfold arr8 at B2 HB
  generalize World.alloc w _ = W at B2 HB ⊢
  go_loopw [7, 8, 9, 10] (fun qs rs oks i wr => ∃ (k : Nat) (q : Int), k ≤ 128 ∧ i = .int .i64 ((k : Int) - 1) ∧ rs = .int .i64 ((N / 2 ^ k % c : Nat) : Int) ∧ 0 ≤ q ∧ q ≤ 9223372036854775807 ∧ qs = .int .i64 q ∧ oks = .bool (okB N c k) ∧ Hid (okB N c k = true → q = ((N / 2 ^ k / c : Nat) : Int)) ∧ Box wr w.heap.size (arr8 (dg N)) 114 ∧ Below w.heap.size w wr) (fun _ _ _ i _ => (intOf i + 1).toNat)
  case atStart =>
    have e1 : N / 2 ^ 128 = 0 := h128.out
    have e2 : N / 2 ^ (128 + 1) = 0 := by
      have := half_of_pow N 128; omega
    refine ⟨128, 0, by omega, rfl, by rw [e1]; simp, by omega, by omega, rfl, ?_, Lib.hid fun _ => by rw [e1]; simp, B2, HB⟩
    rw [okB_iff, e2]; simp
  case round =>
    obtain ⟨k, q, hk, rfl, rfl, hq0, hq1, rfl, rfl, HQ, C2, HC⟩ := hrel
    clear B2 HB
    cases k with
    | zero =>
      have HR : Hid (N / 2 ^ 0 % c = N % c) := Lib.hid (by simp)
      have HQ2 : Hid (okB N c 0 = true → q = ((N / c : Nat) : Int)) := Lib.hid fun h => by have := HQ.out h; simpa using this
      clear HQ
      rw [HR.out]
      go_wp2
      go_ret3
      exact ⟨q, HQ2.out, rfl, HC⟩
    | succ j =>
      have ej : ((j + 1 : Nat) : Int) - 1 = j := by omega
      rw [ej]
      clear ej
      have hj : j < 128 := by omega
      have e2 : _ = some (Value.int .i64 ((dg N (j / 16) : Nat) : Int)) := C2.cell (j / 16) (arr8_at _ _ (by omega))
      have hd := dg_lt N (j / 16)
      obtain ⟨t, ht⟩ : ∃ t, N / 2 ^ j % 2 = t := ⟨_, rfl⟩
      have ht1 : t ≤ 1 := by omega
      have EB : Hid (((((dg N (j / 16) : Nat) : Int) / 2 ^ (j % 16)).tmod 2) = (t : Int)) := Lib.hid (by
        have h1 : ((dg N (j / 16) : Nat) : Int) / 2 ^ (j % 16) = ((dg N (j / 16) / 2 ^ (j % 16) : Nat) : Int) := by rw [Int.natCast_ediv, Int.natCast_pow]; rfl
        rw [h1, Int.tmod_eq_emod_of_nonneg (Int.natCast_nonneg _), ← ht, ← bit_of N j]
        exact (Int.natCast_emod _ _).symm)
      have hM : N / 2 ^ j = 2 * (N / 2 ^ (j + 1)) + t := by rw [← ht]; exact half_of_pow N j
      obtain ⟨hs1, hs2⟩ := bit_step (M := N / 2 ^ (j + 1)) hc0 ht1
      rw [← hM] at hs1 hs2
      have hr := rem_lt (N := N / 2 ^ (j + 1)) hc0
      have hok : okB N c j = decide (N / 2 ^ (j + 1) / c < 4611686018427387904) := rfl
      have hmono := fun h => okB_mono (N := N) (c := c) (j := j) h
      have HQ' := HQ.out
      clear HQ ht hM
      go_upto_region 8 with fail
      rw [EB.out]
      generalize N / 2 ^ (j + 1) / c = Q at *
      generalize N / 2 ^ (j + 1) % c = r at *
      obtain ⟨ok, hoke⟩ : ∃ ok, okB N c (j + 1) = ok := ⟨_, rfl⟩
      rw [hoke] at HQ' hmono ⊢
      have hr2 : r ≤ 4611686018427387902 := by omega
      by_cases hbig : 4611686018427387904 ≤ q
      · have F1 := eq_true hbig
        have HOK : Hid (false = okB N c j) := Lib.hid (by
          cases ok with
          | false => exact (hmono rfl).symm
          | true => rw [hok]; have := HQ' rfl; symm; apply decide_eq_false; omega)
        by_cases hge : c ≤ 2 * r + t
        · have F2 : ((c : Int) ≤ 2 * (r : Int) + t) = True := eq_true (by omega)
          have HRn : Hid (((N / 2 ^ j % c : Nat) : Int) = 2 * (r : Int) + t - c) := Lib.hid (by rw [hs2, if_pos hge]; omega)
          have HQn : Hid (okB N c j = true → (1 : Int) = ((N / 2 ^ j / c : Nat) : Int)) := Lib.hid fun h => by rw [← HOK.out] at h; cases h
          clear hs1 hs2 hok hmono HQ' hbig hoke hge
          go_wp2
          go_roundw
          case rel => exact ⟨j, 1, by omega, rfl, by rw [HRn.out], by omega, by omega, rfl, by rw [← HOK.out], HQn, C2, HC⟩
          case measure => simp [intOf]
        · have F2 : ((c : Int) ≤ 2 * (r : Int) + t) = False := eq_false (by omega)
          have HRn : Hid (((N / 2 ^ j % c : Nat) : Int) = 2 * (r : Int) + t) := Lib.hid (by rw [hs2, if_neg hge]; omega)
          have HQn : Hid (okB N c j = true → (0 : Int) = ((N / 2 ^ j / c : Nat) : Int)) := Lib.hid fun h => by rw [← HOK.out] at h; cases h
          clear hs1 hs2 hok hmono HQ' hbig hoke hge
          go_wp2
          go_roundw
          case rel => exact ⟨j, 0, by omega, rfl, by rw [HRn.out], by omega, by omega, rfl, by rw [← HOK.out], HQn, C2, HC⟩
          case measure => simp [intOf]
      · have F1 := eq_false hbig
        have HOK : Hid (ok = okB N c j) := Lib.hid (by
          cases ok with
          | false => exact (hmono rfl).symm
          | true => rw [hok]; have := HQ' rfl; symm; apply decide_eq_true; omega)
        have HOQ : okB N c j = true → q = (Q : Int) := fun h => HQ' (by rw [HOK.out]; exact h)
        have hq2 : q ≤ 4611686018427387903 := by omega
        by_cases hge : c ≤ 2 * r + t
        · have F2 : ((c : Int) ≤ 2 * (r : Int) + t) = True := eq_true (by omega)
          have HRn : Hid (((N / 2 ^ j % c : Nat) : Int) = 2 * (r : Int) + t - c) := Lib.hid (by rw [hs2, if_pos hge]; omega)
          have HQn : Hid (okB N c j = true → 2 * q + 1 = ((N / 2 ^ j / c : Nat) : Int)) := Lib.hid fun h => by rw [hs1, if_pos hge, HOQ h]; omega
          clear hs1 hs2 hok hmono HQ' hbig hoke hge HOQ
          go_wp2
          go_roundw
          case rel => exact ⟨j, 2 * q + 1, by omega, rfl, by rw [HRn.out], by omega, by omega, rfl, by rw [← HOK.out], HQn, C2, HC⟩
          case measure => simp [intOf]
        · have F2 : ((c : Int) ≤ 2 * (r : Int) + t) = False := eq_false (by omega)
          have HRn : Hid (((N / 2 ^ j % c : Nat) : Int) = 2 * (r : Int) + t) := Lib.hid (by rw [hs2, if_neg hge]; omega)
          have HQn : Hid (okB N c j = true → 2 * q = ((N / 2 ^ j / c : Nat) : Int)) := Lib.hid fun h => by rw [hs1, if_neg hge, HOQ h]; omega
          clear hs1 hs2 hok hmono HQ' hbig hoke hge HOQ
          go_wp2
          go_roundw
          case rel => exact ⟨j, 2 * q, by omega, rfl, by rw [HRn.out], by omega, by omega, rfl, by rw [← HOK.out], HQn, C2, HC⟩
          case measure => simp [intOf]

end Go.Proofs.Ytckmpllbbebefaa.Mul
