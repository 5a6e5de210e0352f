/- joined for a claim: MulRef2, MulRef3, MulRFloor -/
import Derived.Test.YtndpdbofoojkhaaGreatMulRef
import Derived.Test.YtndpdbofoojkhaaGreatMulFloor
/- The reference of layer 2: a product, limb by limb. -/
namespace Go.Proofs.YtndpdbofoojkhaaGreat.Mul
open Go.RowKit Go.Proofs.YtndpdbofoojkhaaGreat.Kit
set_option linter.unusedVariables false
set_option linter.unusedSimpArgs false

theorem limbs_c (N : Nat) (hN : Hid (N ≤ 4611686018427387904)) (w : World) :
    Calls Tryz.prog 133 #[.int .i64 N] w fun e w' => e = .returned (.agg #[.int .i64 ((dg N 0 : Nat) : Int), .int .i64 ((dg N 1 : Nat) : Int), .int .i64 ((dg N 2 : Nat) : Int), .int .i64 ((dg N 3 : Nat) : Int), .int .i64 ((dg N 4 : Nat) : Int), .int .i64 ((dg N 5 : Nat) : Int), .int .i64 ((dg N 6 : Nat) : Int), .int .i64 ((dg N 7 : Nat) : Int)]) ∧ Below w.heap.size w w' := limbs_any N (by have := hN.out; omega) w
theorem sum_step {A X Y V S : Nat} (h : S ≤ 4294967295) (hS : S = A + X * Y + V) : wrap64 (wrap64 ((A : Int) + wrap64 ((X : Int) * (Y : Int))) + (V : Int)) = (S : Int) := by
  rw [← Int.natCast_mul]
  generalize X * Y = m at *
  unfold wrap64; omega
theorem zero8 (a b : Nat) : #[.int .i64 0, .int .i64 0, .int .i64 0, .int .i64 0, .int .i64 0, .int .i64 0, .int .i64 0, .int .i64 0] = arr8 (dg (a % 65536 ^ 0 * b)) := by
  have : arr8 (dg (a % 65536 ^ 0 * b)) = arr8 (fun _ => 0) := arr8_congr fun j _ => by unfold dg; simp [Nat.mod_one]
  rw [this]; rfl

set_option maxRecDepth 100000 in
set_option maxHeartbeats 2000000 in
theorem product_any (a b : Nat) (ha : a ≤ 4611686018427387904) (hb : b ≤ 4611686018427387904) (w : World) :
    Calls Tryz.prog 130 #[.int .i64 a, .int .i64 b] w fun e w' => e = .returned (.agg (arr8 (dg (a * b)))) ∧ Below w.heap.size w w' := by
  obtain ⟨r, hr⟩ : ∃ r, Hid (arr8 (dg (a * b)) = r) := ⟨_, Lib.hid rfl⟩
  rw [hr.out]
  have HA := Lib.hid ha
  have HBB := Lib.hid hb
  clear ha hb
  have hb4 : Hid (b < 65536 ^ 4) := Lib.hid (by have := HBB.out; omega)
  have ha4 : Hid (a < 65536 ^ 4) := Lib.hid (by have := HA.out; omega)
  go_enter Tryz.func130, Tryz.ntmps130
  go_wp2_with fail
  refine (limbs_c a HA _).mono ?_; rintro e w1 ⟨rfl, hb1⟩
  go_wp2_with fail
  refine (limbs_c b HBB _).mono ?_; rintro e w2 ⟨rfl, hb2⟩
  have B0 : Box w1 w.heap.size #[.int .i64 0, .int .i64 0, .int .i64 0, .int .i64 0, .int .i64 0, .int .i64 0, .int .i64 0, .int .i64 0] 195 := (Box.new w _ _).below hb1
  have Bx : Box w2 w1.heap.size (arr8 (dg a)) 195 := (Box.new w1 _ _).below hb2
  have B0' := (B0.alloc (.cells (arr8 (dg a)) 195)).below hb2
  have h1 : w.heap.size < w1.heap.size := by have := hb1.size; simp at this; omega
  have h2 : w1.heap.size < w2.heap.size := by have := hb2.size; simp at this; omega
  have HB : Below w.heap.size w w2 := below_join (below_alloc (below_join (below_alloc (Below.refl _ w) _) hb1) _) hb2
  clear hb1 hb2 B0
  go_wp2
  have B2 : Box ((w2.alloc (.cells (arr8 (dg b)) 195)).alloc (.cells #[.int .i64 0, .int .i64 0, .int .i64 0, .int .i64 0, .int .i64 0, .int .i64 0, .int .i64 0, .int .i64 0] 195)) w.heap.size #[.int .i64 0, .int .i64 0, .int .i64 0, .int .i64 0, .int .i64 0, .int .i64 0, .int .i64 0, .int .i64 0] 195 := (B0'.alloc _).alloc _
  have B3 : Box ((w2.alloc (.cells (arr8 (dg b)) 195)).alloc (.cells #[.int .i64 0, .int .i64 0, .int .i64 0, .int .i64 0, .int .i64 0, .int .i64 0, .int .i64 0, .int .i64 0] 195)) w1.heap.size (arr8 (dg a)) 195 := (Bx.alloc _).alloc _
  have B4 : Box ((w2.alloc (.cells (arr8 (dg b)) 195)).alloc (.cells #[.int .i64 0, .int .i64 0, .int .i64 0, .int .i64 0, .int .i64 0, .int .i64 0, .int .i64 0, .int .i64 0] 195)) w2.heap.size (arr8 (dg b)) 195 := (Box.new w2 _ _).alloc _
  have B5 : Box ((w2.alloc (.cells (arr8 (dg b)) 195)).alloc (.cells #[.int .i64 0, .int .i64 0, .int .i64 0, .int .i64 0, .int .i64 0, .int .i64 0, .int .i64 0, .int .i64 0] 195)) (w2.heap.size + 1) (arr8 (dg (a % 65536 ^ 0 * b))) 195 := by
    rw [← zero8]
    have := Box.new (w2.alloc (.cells (arr8 (dg b)) 195)) #[.int .i64 0, .int .i64 0, .int .i64 0, .int .i64 0, .int .i64 0, .int .i64 0, .int .i64 0, .int .i64 0] 195
    simpa using this
  have HB2 : Below w.heap.size w ((w2.alloc (.cells (arr8 (dg b)) 195)).alloc (.cells #[.int .i64 0, .int .i64 0, .int .i64 0, .int .i64 0, .int .i64 0, .int .i64 0, .int .i64 0, .int .i64 0] 195)) := below_alloc (below_alloc HB _) _
  clear Bx B0' HB
  unfold arr8 at B2 B3 B4 B5 HB2
  generalize World.alloc (World.alloc w2 _) _ = W at B2 B3 B4 B5 HB2 ⊢
  generalize w1.heap.size = gx at *
  obtain ⟨gy, hgy⟩ : ∃ g, w2.heap.size = g := ⟨_, rfl⟩
  rw [hgy] at h2 B4 B5 ⊢
  obtain ⟨go, hgo⟩ : ∃ g, gy + 1 = g := ⟨_, rfl⟩
  rw [hgo] at B5 ⊢
  have h3 : gy < go := by omega
  clear hgy hgo
  go_loopw [8] (fun is wr => ∃ i : Nat, i ≤ 4 ∧ is = .int .i64 i ∧ Box wr w.heap.size #[.int .i64 0, .int .i64 0, .int .i64 0, .int .i64 0, .int .i64 0, .int .i64 0, .int .i64 0, .int .i64 0] 195 ∧ Box wr gx (arr8 (dg a)) 195 ∧ Box wr gy (arr8 (dg b)) 195 ∧ Box wr go (arr8 (dg (a % 65536 ^ i * b))) 195 ∧ Below w.heap.size w wr) (fun is _ => 4 - (intOf is).toNat)
  case atStart => exact ⟨0, by omega, rfl, B2, B3, B4, B5, HB2⟩
  case round =>
    obtain ⟨i, hi, rfl, C0, Cx, Cy, Co, HC⟩ := hrel
    clear B2 B3 B4 B5 HB2
    by_cases hi2 : i < 4
    · go_wp2
      rename World => wo
      go_loopw [9, 10, 11] (fun os ks ss wr => ∃ k : Nat, k ≤ 4 ∧ ks = .int .i64 k ∧ os = .int .i64 ((ov a b i k : Nat) : Int) ∧ Box wr w.heap.size #[.int .i64 0, .int .i64 0, .int .i64 0, .int .i64 0, .int .i64 0, .int .i64 0, .int .i64 0, .int .i64 0] 195 ∧ Box wr gx (arr8 (dg a)) 195 ∧ Box wr gy (arr8 (dg b)) 195 ∧ Box wr go (arr8 (mid a b i k)) 195 ∧ Below w.heap.size w wr) (fun _ ks _ _ => 4 - (intOf ks).toNat)
      case atStart =>
        refine ⟨0, by omega, rfl, by rw [ov_zero]; rfl, C0, Cx, Cy, ?_, HC⟩
        rw [arr8_congr (fun j _ => mid_zero a b i j)]
        exact Co
      case round =>
        obtain ⟨k, hk, rfl, rfl, D0, Dx, Dy, Do, HD⟩ := hrel
        clear C0 Cx Cy Co HC
        by_cases hk2 : k < 4
        · have EI : IntKind.i64.wrap ((i : Int) + k) = ((i + k : Nat) : Int) := by rw [IntKind.wrap_i64]; omega
          have e3 : _ = some (Value.int .i64 ((mid a b i k (i + k) : Nat) : Int)) := Do.cell (i + k) (arr8_at _ _ (by omega))
          have f3 := Do.free (i + k)
          have ex : _ = some (Value.int .i64 ((dg a i : Nat) : Int)) := Dx.cell i (arr8_at _ _ (by omega))
          have ey : _ = some (Value.int .i64 ((dg b k : Nat) : Int)) := Dy.cell k (arr8_at _ _ (by omega))
          have hS : Hid ((arr8 (mid a b i k)).setIfInBounds (i + k) (.int .i64 ((sm a b i k % 65536 : Nat) : Int)) = arr8 (mid a b i (k + 1))) := Lib.hid (by
            rw [arr8_set _ _ _ (by omega)]; exact arr8_congr fun j _ => (mid_next a b i k j).symm)
          have hsm := sm_lt a b i k
          have hov := sm_ov a b i k
          have hma := mid_at a b i k
          have ES : Hid (wrap64 (wrap64 (((mid a b i k (i + k) : Nat) : Int) + wrap64 (((dg a i : Nat) : Int) * ((dg b k : Nat) : Int))) + ((ov a b i k : Nat) : Int)) = ((sm a b i k : Nat) : Int)) := Lib.hid (by
            rw [hma]; exact sum_step hsm rfl)
          have EO : Hid (((sm a b i k : Nat) : Int) / 65536 = ((ov a b i (k + 1) : Nat) : Int)) := Lib.hid (by rw [hov]; omega)
          have EM : Hid (((sm a b i k : Nat) : Int) % 65536 = ((sm a b i k % 65536 : Nat) : Int)) := Lib.hid (by omega)
          generalize sm a b i k % 65536 = sr at *
          generalize sm a b i k = S at *
          have hx0 := dg_lt a i
          have hy0 := dg_lt b k
          have hi0 : (0 : Int) ≤ ((i + k : Nat) : Int) := by omega
          have hi1 : ((i + k : Nat) : Int) < 8 := by omega
          clear hov hma
          go_upto_region 11 with fail
          go_quiet (fail)
          go_upto_region 12 with fail
          rw [ES.out]
          go_wp2
          rw [EM.out, EO.out]
          go_roundw
          case rel =>
            refine ⟨k + 1, by omega, by go_num, rfl, (box_drewN D0 _).far (by first | (simp; done) | (simp; omega)) _, (box_drewN Dx _).far (by first | (simp; done) | (simp; omega)) _, (box_drewN Dy _).far (by first | (simp; done) | (simp; omega)) _, ?_, below_set (below_drewN HD _) (by first | (simp; done) | (simp; omega)) _⟩
            rw [← hS.out]
            exact (box_drewN Do _).set (i + k) _
          case measure => simp [intOf]; omega
        · obtain rfl : k = 4 := by omega
          have e3 : _ = some (Value.int .i64 ((mid a b i 4 (i + 4) : Nat) : Int)) := Do.cell (i + 4) (arr8_at _ _ (by omega))
          have hz : mid a b i 4 (i + 4) = 0 := by rw [mid_at]; exact dg_small (part_lt a b i hb4.out)
          rw [hz] at e3
          have f3 := Do.free (i + 4)
          have hS : Hid ((arr8 (mid a b i 4)).setIfInBounds (i + 4) (.int .i64 ((ov a b i 4 : Nat) : Int)) = arr8 (dg (a % 65536 ^ (i + 1) * b))) := Lib.hid (by
            rw [arr8_set _ _ _ (by omega)]; exact arr8_congr fun j _ => (mid_last a b i j hb4.out).symm)
          have ho := ov_le a b i 4
          generalize ov a b i 4 = V at *
          clear hz
          go_wp2
          go_roundw
          case rel =>
            refine ⟨i + 1, by omega, by go_num, D0.far (by first | (simp; done) | (simp; omega)) _, Dx.far (by first | (simp; done) | (simp; omega)) _, Dy.far (by first | (simp; done) | (simp; omega)) _, ?_, below_set HD (by first | (simp; done) | (simp; omega)) _⟩
            rw [← hS.out]
            exact Do.set (i + 4) _
          case measure => simp [intOf]; omega
    · obtain rfl : i = 4 := by omega
      have hE : a % 65536 ^ 4 * b = a * b := by rw [Nat.mod_eq_of_lt ha4.out]
      rw [hE] at Co
      clear hE Cx Cy
      have C2 := C0
      clear C0
      have cox0 : _ = some (Value.int .i64 ((dg (a * b) 0 : Nat))) := Co.cell 0 rfl
      have cox1 : _ = some (Value.int .i64 ((dg (a * b) 1 : Nat))) := Co.cell 1 rfl
      have cox2 : _ = some (Value.int .i64 ((dg (a * b) 2 : Nat))) := Co.cell 2 rfl
      have cox3 : _ = some (Value.int .i64 ((dg (a * b) 3 : Nat))) := Co.cell 3 rfl
      have cox4 : _ = some (Value.int .i64 ((dg (a * b) 4 : Nat))) := Co.cell 4 rfl
      have cox5 : _ = some (Value.int .i64 ((dg (a * b) 5 : Nat))) := Co.cell 5 rfl
      have cox6 : _ = some (Value.int .i64 ((dg (a * b) 6 : Nat))) := Co.cell 6 rfl
      have cox7 : _ = some (Value.int .i64 ((dg (a * b) 7 : Nat))) := Co.cell 7 rfl
      have c2x0 : _ = some (Value.int .i64 (0)) := C2.cell 0 rfl
      have c2x1 : _ = some (Value.int .i64 (0)) := C2.cell 1 rfl
      have c2x2 : _ = some (Value.int .i64 (0)) := C2.cell 2 rfl
      have c2x3 : _ = some (Value.int .i64 (0)) := C2.cell 3 rfl
      have c2x4 : _ = some (Value.int .i64 (0)) := C2.cell 4 rfl
      have c2x5 : _ = some (Value.int .i64 (0)) := C2.cell 5 rfl
      have c2x6 : _ = some (Value.int .i64 (0)) := C2.cell 6 rfl
      have c2x7 : _ = some (Value.int .i64 (0)) := C2.cell 7 rfl
      have c2f0 := C2.free 0
      have c2f1 := C2.free 1
      have c2f2 := C2.free 2
      have c2f3 := C2.free 3
      have c2f4 := C2.free 4
      have c2f5 := C2.free 5
      have c2f6 := C2.free 6
      have c2f7 := C2.free 7
      go_wp2
      obtain ⟨C6, HC6⟩ := set_eight (v0 := .int .i64 ((dg (a * b) 0 : Nat) : Int)) (v1 := .int .i64 ((dg (a * b) 1 : Nat) : Int)) (v2 := .int .i64 ((dg (a * b) 2 : Nat) : Int)) (v3 := .int .i64 ((dg (a * b) 3 : Nat) : Int)) (v4 := .int .i64 ((dg (a * b) 4 : Nat) : Int)) (v5 := .int .i64 ((dg (a * b) 5 : Nat) : Int)) (v6 := .int .i64 ((dg (a * b) 6 : Nat) : Int)) (v7 := .int .i64 ((dg (a * b) 7 : Nat) : Int)) C2 HC (by omega)
      generalize World.setCell _ ⟨w.heap.size, 7, none⟩ _ = W' at C6 HC6 ⊢
      have c6x0 : _ = some (Value.int .i64 ((dg (a * b) 0 : Nat))) := C6.cell 0 rfl
      have c6x1 : _ = some (Value.int .i64 ((dg (a * b) 1 : Nat))) := C6.cell 1 rfl
      have c6x2 : _ = some (Value.int .i64 ((dg (a * b) 2 : Nat))) := C6.cell 2 rfl
      have c6x3 : _ = some (Value.int .i64 ((dg (a * b) 3 : Nat))) := C6.cell 3 rfl
      have c6x4 : _ = some (Value.int .i64 ((dg (a * b) 4 : Nat))) := C6.cell 4 rfl
      have c6x5 : _ = some (Value.int .i64 ((dg (a * b) 5 : Nat))) := C6.cell 5 rfl
      have c6x6 : _ = some (Value.int .i64 ((dg (a * b) 6 : Nat))) := C6.cell 6 rfl
      have c6x7 : _ = some (Value.int .i64 ((dg (a * b) 7 : Nat))) := C6.cell 7 rfl
      exact bodyPost_ret (v := .agg r) (by rw [← hr.out]; unfold arr8; simp [results, Tryz.results130, go_sem, c6x0, c6x1, c6x2, c6x3, c6x4, c6x5, c6x6, c6x7]) rfl ⟨rfl, HC6⟩


end Go.Proofs.YtndpdbofoojkhaaGreat.Mul
/- The reference of layer 2: a quotient, bit by bit. -/
namespace Go.Proofs.YtndpdbofoojkhaaGreat.Mul
open Go.RowKit Go.Proofs.YtndpdbofoojkhaaGreat.Kit
set_option linter.unusedVariables false
set_option linter.unusedSimpArgs false

def okB (N c k : Nat) : Bool := decide (N / 2 ^ (k + 1) / c < 4611686018427387904)
theorem okB_next {N c k : Nat} (h : okB N c k = true → N / 2 ^ (k + 1) / c < 4611686018427387904) : True := trivial
theorem okB_iff (N c j : Nat) : okB N c j = decide (N / 2 ^ (j + 1) / c < 4611686018427387904) := rfl
theorem okB_mono {N c j : Nat} (h : okB N c (j + 1) = false) : okB N c j = false := by
  unfold okB at *
  have := div_mono_pow N (j + 1) c
  simp only [decide_eq_false_iff_not] at *
  omega
theorem okB_last (N c : Nat) : okB N c 0 = decide (N / c < 9223372036854775808) := by
  unfold okB
  rw [Nat.div_div_eq_div_mul, Nat.mul_comm, ← Nat.div_div_eq_div_mul, decide_eq_decide]
  omega
/-- What a quotient says of itself. -/
def Told (N c : Nat) (w : World) (e : Ending) (w' : World) : Prop := ∃ q : Int, (okB N c 0 = true → q = ((N / c : Nat) : Int)) ∧ e = .returned (.tuple #[.int .i64 q, .int .i64 ((N % c : Nat) : Int), .bool (okB N c 0)]) ∧ Below w.heap.size w w'
theorem rem_lt {N c : Nat} (hc : 0 < c) : N % c < c := Nat.mod_lt _ hc

set_option maxRecDepth 100000 in
set_option maxHeartbeats 2000000 in
theorem divide_any (N c : Nat) (hN : N < 340282366920938463463374607431768211456) (hc0 : 0 < c) (hc : c ≤ 4611686018427387903) (w : World) :
    Calls Tryz.prog 129 #[.agg (arr8 (dg N)), .int .i64 c] w fun e w' => Told N c w e w' := by
  have h128 : Hid (N / 2 ^ 128 = 0) := Lib.hid (Nat.div_eq_of_lt hN)
  clear hN
  unfold arr8
  go_enter Tryz.func129, Tryz.ntmps129
  go_wp2
  have B2 : Box (w.alloc (.cells (arr8 (dg N)) 195)) w.heap.size (arr8 (dg N)) 195 := Box.new w _ _
  have HB := below_alloc (Below.refl w.heap.size w) (.cells (arr8 (dg N)) 195)
  unfold arr8 at B2 HB
  generalize World.alloc w _ = W at B2 HB ⊢
  go_loopw [7, 8, 9, 10] (fun qs rs oks i wr => ∃ (k : Nat) (q : Int), k ≤ 128 ∧ i = .int .i64 ((k : Int) - 1) ∧ rs = .int .i64 ((N / 2 ^ k % c : Nat) : Int) ∧ 0 ≤ q ∧ q ≤ 9223372036854775807 ∧ qs = .int .i64 q ∧ oks = .bool (okB N c k) ∧ Hid (okB N c k = true → q = ((N / 2 ^ k / c : Nat) : Int)) ∧ Box wr w.heap.size (arr8 (dg N)) 195 ∧ Below w.heap.size w wr) (fun _ _ _ i _ => (intOf i + 1).toNat)
  case atStart =>
    have e1 : N / 2 ^ 128 = 0 := h128.out
    have e2 : N / 2 ^ (128 + 1) = 0 := by
      have := half_of_pow N 128; omega
    refine ⟨128, 0, by omega, rfl, by rw [e1]; simp, by omega, by omega, rfl, ?_, Lib.hid fun _ => by rw [e1]; simp, B2, HB⟩
    rw [okB_iff, e2]; simp
  case round =>
    obtain ⟨k, q, hk, rfl, rfl, hq0, hq1, rfl, rfl, HQ, C2, HC⟩ := hrel
    clear B2 HB
    cases k with
    | zero =>
      have HR : Hid (N / 2 ^ 0 % c = N % c) := Lib.hid (by simp)
      have HQ2 : Hid (okB N c 0 = true → q = ((N / c : Nat) : Int)) := Lib.hid fun h => by have := HQ.out h; simpa using this
      clear HQ
      rw [HR.out]
      go_wp2
      go_ret3
      exact ⟨q, HQ2.out, rfl, HC⟩
    | succ j =>
      have ej : ((j + 1 : Nat) : Int) - 1 = j := by omega
      rw [ej]
      clear ej
      have hj : j < 128 := by omega
      have e2 : _ = some (Value.int .i64 ((dg N (j / 16) : Nat) : Int)) := C2.cell (j / 16) (arr8_at _ _ (by omega))
      have hd := dg_lt N (j / 16)
      obtain ⟨t, ht⟩ : ∃ t, N / 2 ^ j % 2 = t := ⟨_, rfl⟩
      have ht1 : t ≤ 1 := by omega
      have EB : Hid (((((dg N (j / 16) : Nat) : Int) / 2 ^ (j % 16)).tmod 2) = (t : Int)) := Lib.hid (by
        have h1 : ((dg N (j / 16) : Nat) : Int) / 2 ^ (j % 16) = ((dg N (j / 16) / 2 ^ (j % 16) : Nat) : Int) := by rw [Int.natCast_ediv, Int.natCast_pow]; rfl
        rw [h1, Int.tmod_eq_emod_of_nonneg (Int.natCast_nonneg _), ← ht, ← bit_of N j]
        exact (Int.natCast_emod _ _).symm)
      have hM : N / 2 ^ j = 2 * (N / 2 ^ (j + 1)) + t := by rw [← ht]; exact half_of_pow N j
      obtain ⟨hs1, hs2⟩ := bit_step (M := N / 2 ^ (j + 1)) hc0 ht1
      rw [← hM] at hs1 hs2
      have hr := rem_lt (N := N / 2 ^ (j + 1)) hc0
      have hok : okB N c j = decide (N / 2 ^ (j + 1) / c < 4611686018427387904) := rfl
      have hmono := fun h => okB_mono (N := N) (c := c) (j := j) h
      have HQ' := HQ.out
      clear HQ ht hM
      go_upto_region 8 with fail
      rw [EB.out]
      generalize N / 2 ^ (j + 1) / c = Q at *
      generalize N / 2 ^ (j + 1) % c = r at *
      obtain ⟨ok, hoke⟩ : ∃ ok, okB N c (j + 1) = ok := ⟨_, rfl⟩
      rw [hoke] at HQ' hmono ⊢
      have hr2 : r ≤ 4611686018427387902 := by omega
      by_cases hbig : 4611686018427387904 ≤ q
      · have F1 := eq_true hbig
        have HOK : Hid (false = okB N c j) := Lib.hid (by
          cases ok with
          | false => exact (hmono rfl).symm
          | true => rw [hok]; have := HQ' rfl; symm; apply decide_eq_false; omega)
        by_cases hge : c ≤ 2 * r + t
        · have F2 : ((c : Int) ≤ 2 * (r : Int) + t) = True := eq_true (by omega)
          have HRn : Hid (((N / 2 ^ j % c : Nat) : Int) = 2 * (r : Int) + t - c) := Lib.hid (by rw [hs2, if_pos hge]; omega)
          have HQn : Hid (okB N c j = true → (1 : Int) = ((N / 2 ^ j / c : Nat) : Int)) := Lib.hid fun h => by rw [← HOK.out] at h; cases h
          clear hs1 hs2 hok hmono HQ' hbig hoke hge
          go_wp2
          go_roundw
          case rel => exact ⟨j, 1, by omega, rfl, by rw [HRn.out], by omega, by omega, rfl, by rw [← HOK.out], HQn, C2, HC⟩
          case measure => simp [intOf]
        · have F2 : ((c : Int) ≤ 2 * (r : Int) + t) = False := eq_false (by omega)
          have HRn : Hid (((N / 2 ^ j % c : Nat) : Int) = 2 * (r : Int) + t) := Lib.hid (by rw [hs2, if_neg hge]; omega)
          have HQn : Hid (okB N c j = true → (0 : Int) = ((N / 2 ^ j / c : Nat) : Int)) := Lib.hid fun h => by rw [← HOK.out] at h; cases h
          clear hs1 hs2 hok hmono HQ' hbig hoke hge
          go_wp2
          go_roundw
          case rel => exact ⟨j, 0, by omega, rfl, by rw [HRn.out], by omega, by omega, rfl, by rw [← HOK.out], HQn, C2, HC⟩
          case measure => simp [intOf]
      · have F1 := eq_false hbig
        have HOK : Hid (ok = okB N c j) := Lib.hid (by
          cases ok with
          | false => exact (hmono rfl).symm
          | true => rw [hok]; have := HQ' rfl; symm; apply decide_eq_true; omega)
        have HOQ : okB N c j = true → q = (Q : Int) := fun h => HQ' (by rw [HOK.out]; exact h)
        have hq2 : q ≤ 4611686018427387903 := by omega
        by_cases hge : c ≤ 2 * r + t
        · have F2 : ((c : Int) ≤ 2 * (r : Int) + t) = True := eq_true (by omega)
          have HRn : Hid (((N / 2 ^ j % c : Nat) : Int) = 2 * (r : Int) + t - c) := Lib.hid (by rw [hs2, if_pos hge]; omega)
          have HQn : Hid (okB N c j = true → 2 * q + 1 = ((N / 2 ^ j / c : Nat) : Int)) := Lib.hid fun h => by rw [hs1, if_pos hge, HOQ h]; omega
          clear hs1 hs2 hok hmono HQ' hbig hoke hge HOQ
          go_wp2
          go_roundw
          case rel => exact ⟨j, 2 * q + 1, by omega, rfl, by rw [HRn.out], by omega, by omega, rfl, by rw [← HOK.out], HQn, C2, HC⟩
          case measure => simp [intOf]
        · have F2 : ((c : Int) ≤ 2 * (r : Int) + t) = False := eq_false (by omega)
          have HRn : Hid (((N / 2 ^ j % c : Nat) : Int) = 2 * (r : Int) + t) := Lib.hid (by rw [hs2, if_neg hge]; omega)
          have HQn : Hid (okB N c j = true → 2 * q = ((N / 2 ^ j / c : Nat) : Int)) := Lib.hid fun h => by rw [hs1, if_neg hge, HOQ h]; omega
          clear hs1 hs2 hok hmono HQ' hbig hoke hge HOQ
          go_wp2
          go_roundw
          case rel => exact ⟨j, 2 * q, by omega, rfl, by rw [HRn.out], by omega, by omega, rfl, by rw [← HOK.out], HQn, C2, HC⟩
          case measure => simp [intOf]

end Go.Proofs.YtndpdbofoojkhaaGreat.Mul
/- The reference of layer 2: its three calls. -/
namespace Go.Proofs.YtndpdbofoojkhaaGreat.Mul
open Go.RowKit Go.Proofs.YtndpdbofoojkhaaGreat.Kit
set_option linter.unusedVariables false
set_option linter.unusedSimpArgs false

theorem rmay_any (a b c : Int) (w : World) :
    Calls Tryz.prog 125 #[.int .i64 a, .int .i64 b, .int .i64 c] w fun e w' => e = .returned (.bool (mayP a b c)) ∧ w = w' := by
  have H : Hid (mayP a b c = (decide (-4611686018427387903 ≤ a) && decide (a ≤ 4611686018427387903) && decide (-4611686018427387903 ≤ b) && decide (b ≤ 4611686018427387903) && decide (1 ≤ c) && decide (c ≤ 4611686018427387903))) := Lib.hid (by
    unfold mayP; rw [Bool.eq_iff_iff]; simp only [decide_eq_true_eq, Bool.and_eq_true]; omega)
  rw [H.out]
  go_enter Tryz.func125, Tryz.ntmps125
  go_wp2
  all_goals
    go_ret
    exact ⟨ret_bool rfl (by simp_all <;> omega), rfl⟩
theorem rsize_any (n : Int) (x : Nat) (hx : Hid (max n (-n) = (x : Int))) (h : Hid (-4611686018427387904 ≤ n ∧ n ≤ 4611686018427387904)) (w : World) :
    Calls Tryz.prog 131 #[.int .i64 n] w fun e w' => e = .returned (.int .i64 x) ∧ w = w' := by
  by_cases h0 : n < 0
  · have E : Hid (-n = (x : Int)) := Lib.hid (by have := hx.out; omega)
    have h1 := h.out.1
    clear hx h
    go_enter Tryz.func131, Tryz.ntmps131
    go_wp2
    rw [E.out]
    go_ret
    exact ⟨rfl, rfl⟩
  · have E : Hid (n = (x : Int)) := Lib.hid (by have := hx.out; omega)
    clear hx h
    go_enter Tryz.func131, Tryz.ntmps131
    go_wp2
    rw [E.out]
    go_ret
    exact ⟨rfl, rfl⟩

def okS (F : Int) : Bool := decide (-4611686018427387904 ≤ F ∧ F ≤ 4611686018427387904)
def valS (F : Int) : Int := if okS F then F else 0
theorem kept_any (q : Int) (ok : Bool) (w : World) :
    Calls Tryz.prog 127 #[.int .i64 q, .bool ok] w fun e w' => e = .returned (.tuple #[.int .i64 (if ok then keptP q else (0, 20)).1, .int .i64 (if ok then keptP q else (0, 20)).2]) ∧ w = w' := by
  cases ok with
  | false =>
    go_enter Tryz.func127, Tryz.ntmps127
    go_wp2
    go_ret2
    exact ⟨rfl, rfl⟩
  | true =>
    have hk : (4611686018427387903 < q ∧ keptP q = (0, 20)) ∨ (¬ 4611686018427387903 < q ∧ q < -4611686018427387903 ∧ keptP q = (0, 20)) ∨ (¬ 4611686018427387903 < q ∧ ¬ q < -4611686018427387903 ∧ keptP q = (q, 0)) := by
      unfold keptP
      by_cases h2 : 4611686018427387903 < q
      · exact .inl ⟨h2, if_neg (by omega)⟩
      · by_cases h1 : q < -4611686018427387903
        · exact .inr (.inl ⟨h2, h1, if_neg (by omega)⟩)
        · exact .inr (.inr ⟨h2, h1, if_pos (by omega)⟩)
    rcases hk with ⟨k1, k3⟩ | ⟨k1, k2, k3⟩ | ⟨k1, k2, k3⟩
    all_goals
      rw [if_pos rfl, k3]
      clear k3
      go_enter Tryz.func127, Tryz.ntmps127
      go_wp2
      go_ret2
      exact ⟨rfl, rfl⟩

theorem divide_c (x y d : Nat) (hx : x ≤ 4611686018427387904) (hy : y ≤ 4611686018427387904) (hd0 : 0 < d) (hd : d ≤ 4611686018427387903) (w : World) :
    Calls Tryz.prog 129 #[.agg (arr8 (dg (x * y))), .int .i64 d] w fun e w' => Told (x * y) d w e w' := by
  have := Nat.mul_le_mul hx hy
  exact divide_any (x * y) d (by omega) hd0 hd w
theorem okS_far {F : Int} (h : F < -4611686018427387904 ∨ 4611686018427387904 < F) : valS F = 0 ∧ okS F = false := by
  have e : okS F = false := decide_eq_false (by omega)
  exact ⟨by unfold valS; rw [e]; rfl, e⟩
theorem okS_in {F : Int} (h1 : -4611686018427387904 ≤ F) (h2 : F ≤ 4611686018427387904) : valS F = F ∧ okS F = true := by
  have e : okS F = true := decide_eq_true ⟨h1, h2⟩
  exact ⟨by unfold valS; rw [e]; rfl, e⟩

set_option maxRecDepth 100000 in
set_option maxHeartbeats 4000000 in
theorem both_any (a b c : Int) (h : mayP a b c = true) (w : World) :
    Calls Tryz.prog 126 #[.int .i64 a, .int .i64 b, .int .i64 c] w fun e w' => e = .returned (.tuple #[.int .i64 (valS (a * b / c)), .bool (okS (a * b / c)), .int .i64 (a * b % c)]) ∧ Below w.heap.size w w' := by
  obtain ⟨x, y, d, m, hx, hy, hd, hd0, hd1, hm, hq, hr⟩ := parts_plain h
  obtain ⟨h1, h2, h3, h4, h5, h6⟩ := may_iff h
  subst hd
  rw [← hr]
  generalize a * b / (d : Int) = F at *
  obtain ⟨vF, hvF⟩ : ∃ v, valS F = v := ⟨_, rfl⟩
  obtain ⟨oF, hoF⟩ : ∃ v, okS F = v := ⟨_, rfl⟩
  rw [hvF, hoF]
  have HVF := Lib.hid hvF; have HOF := Lib.hid hoF
  clear hvF hoF
  have HX := Lib.hid hx; have HY := Lib.hid hy
  have HLA : Hid (-4611686018427387904 ≤ a ∧ a ≤ 4611686018427387904) := Lib.hid (by omega)
  have HLB : Hid (-4611686018427387904 ≤ b ∧ b ≤ 4611686018427387904) := Lib.hid (by omega)
  have hx3 : x ≤ 4611686018427387904 := by omega
  have hy3 : y ≤ 4611686018427387904 := by omega
  have HP : Hid (∀ w, _) := Lib.hid (product_any x y hx3 hy3)
  have HD : Hid (∀ w, _) := Lib.hid (divide_c x y d hx3 hy3 hd0 (by omega))
  clear hx hy h hr h1 h2 h3 h4 h5 h6 hx3 hy3
  generalize x * y = N at *
  have HM := Lib.hid (minus_cases hm)
  clear hm
  -- the answer, by the quotient's size
  obtain ⟨Q, hQ⟩ : ∃ Q, N / d = Q := ⟨_, rfl⟩
  obtain ⟨R, hR⟩ : ∃ R, N % d = R := ⟨_, rfl⟩
  have hRd : R < d := by rw [← hR]; exact Nat.mod_lt _ hd0
  have hcase : (m = false ∧ F = (Q : Int) ∧ rOf m N d = R) ∨ (m = true ∧ R = 0 ∧ F = -(Q : Int) ∧ rOf m N d = R) ∨ (m = true ∧ 0 < R ∧ F = -(Q : Int) - 1 ∧ rOf m N d = d - R) := by
    unfold qOf signed at hq
    unfold rOf
    rw [hQ, hR] at hq
    rw [hR]
    cases m with
    | false => simp at hq; simp; omega
    | true =>
      rcases Nat.eq_zero_or_pos R with hz | hz
      · simp [hz] at hq; simp [hz]; omega
      · simp [hz] at hq; simp [hz]; omega
  have hok : okB N d 0 = decide (Q < 9223372036854775808) := by rw [okB_last, hQ]
  obtain ⟨ok, hoke⟩ : ∃ ok, okB N d 0 = ok := ⟨_, rfl⟩
  have HCASE := Lib.hid hcase
  generalize rOf m N d = r' at *
  rw [hoke] at hok
  have HOK := Lib.hid hok
  have HQ := Lib.hid hQ; have HR := Lib.hid hR; have HE := Lib.hid hoke
  clear hq hcase hok hoke hQ hR
  go_enter Tryz.func126, Tryz.ntmps126
  go_wp2_with fail
  refine (rsize_any a x HX HLA _).mono ?_; rintro e w1 ⟨rfl, rfl⟩
  go_wp2_with fail
  refine (rsize_any b y HY HLB _).mono ?_; rintro e w1 ⟨rfl, rfl⟩
  go_wp2_with fail
  refine (HP.out _).mono ?_; rintro e w1 ⟨rfl, hb1⟩
  go_wp2_with fail
  refine (HD.out _).mono ?_; rintro e w2 ⟨q, hqq, rfl, hb2⟩
  rw [HE.out] at hqq
  rw [HE.out, HR.out]
  rw [HQ.out] at hqq
  have HB := below_join hb1 hb2
  have HQQ := Lib.hid hqq
  clear hqq hb1 hb2 HP HD HX HY HLA HLB HQ HR HE
  go_upto_region 2 with fail
  go_cut [12] (fun v wx => v = .bool m ∧ w2 = wx)
  case first =>
    rcases HM.out with ⟨rfl, h1, h2⟩ | ⟨rfl, h1, h2, h3⟩ | ⟨rfl, h1, h2, h3⟩ | ⟨rfl, h1, h2, h3⟩ | ⟨rfl, h1, h2⟩
    all_goals
      go_wp2
      go_meet
      exact ⟨by first | rfl | (rw [decide_eq_false (by omega)]), rfl⟩
  case rest =>
    obtain ⟨rfl, rfl⟩ := hcut
    clear HM
    cases ok with
    | false =>
      have hbig : 9223372036854775808 ≤ Q := by have := HOK.out; simp at this; omega
      obtain ⟨e1, e2⟩ := okS_far (F := F) (by rcases HCASE.out with ⟨_, h, _⟩ | ⟨_, _, h, _⟩ | ⟨_, _, h, _⟩ <;> omega)
      have e3 : vF = 0 := by rw [← HVF.out, e1]
      have e4 : oF = false := by rw [← HOF.out, e2]
      clear hbig HQQ HOK e1 e2 HVF HOF
      subst e3; subst e4
      rcases HCASE.out with ⟨rfl, hF, rfl⟩ | ⟨rfl, rfl, hF, rfl⟩ | ⟨rfl, hR, hF, hr⟩
      · clear HCASE hF
        go_wp2
        go_ret3
        exact ⟨rfl, HB⟩
      · clear HCASE hF
        go_wp2
        go_ret3
        exact ⟨rfl, HB⟩
      · have Hr : Hid ((d : Int) - R = (r' : Int)) := Lib.hid (by omega)
        clear HCASE hF hr
        go_wp2
        rw [Hr.out]
        go_ret3
        exact ⟨rfl, HB⟩
    | true =>
      have hq := HQQ.out rfl
      subst hq
      have hbd : Q < 9223372036854775808 := by have := HOK.out; simpa using this
      clear HQQ HOK
      by_cases hbig : 4611686018427387904 < Q
      · obtain ⟨e1, e2⟩ := okS_far (F := F) (by rcases HCASE.out with ⟨_, h, _⟩ | ⟨_, _, h, _⟩ | ⟨_, _, h, _⟩ <;> omega)
        have e3 : vF = 0 := by rw [← HVF.out, e1]
        have e4 : oF = false := by rw [← HOF.out, e2]
        have F1 : (4611686018427387904 < (Q : Int)) = True := eq_true (by omega)
        clear hbig e1 e2 HVF HOF hbd
        subst e3; subst e4
        rcases HCASE.out with ⟨rfl, hF, rfl⟩ | ⟨rfl, rfl, hF, rfl⟩ | ⟨rfl, hR, hF, hr⟩
        · clear HCASE hF
          go_wp2
          go_ret3
          exact ⟨rfl, HB⟩
        · clear HCASE hF
          go_wp2
          go_ret3
          exact ⟨rfl, HB⟩
        · have Hr : Hid ((d : Int) - R = (r' : Int)) := Lib.hid (by omega)
          clear HCASE hF hr
          go_wp2
          rw [Hr.out]
          go_ret3
          exact ⟨rfl, HB⟩
      · have F1 : (4611686018427387904 < (Q : Int)) = False := eq_false (by omega)
        have hb2 : (Q : Int) ≤ 4611686018427387904 := by omega
        rcases HCASE.out with ⟨rfl, hF, rfl⟩ | ⟨rfl, rfl, hF, rfl⟩ | ⟨rfl, hR, hF, hr⟩
        · obtain ⟨e1, e2⟩ := okS_in (F := F) (by omega) (by omega)
          have e3 : vF = (Q : Int) := by rw [← HVF.out, e1, hF]
          have e4 : oF = true := by rw [← HOF.out, e2]
          clear hbig e1 e2 HVF HOF hbd HCASE hF
          subst e3; subst e4
          go_wp2
          go_ret3
          exact ⟨rfl, HB⟩
        · obtain ⟨e1, e2⟩ := okS_in (F := F) (by omega) (by omega)
          have e3 : vF = -(Q : Int) := by rw [← HVF.out, e1, hF]
          have e4 : oF = true := by rw [← HOF.out, e2]
          clear hbig e1 e2 HVF HOF hbd HCASE hF
          subst e3; subst e4
          go_wp2
          go_ret3
          exact ⟨rfl, HB⟩
        · have Hr : Hid ((d : Int) - R = (r' : Int)) := Lib.hid (by omega)
          by_cases htop : Q = 4611686018427387904
          · obtain ⟨e1, e2⟩ := okS_far (F := F) (by omega)
            have e3 : vF = 0 := by rw [← HVF.out, e1]
            have e4 : oF = false := by rw [← HOF.out, e2]
            have F2 : ((Q : Int) == 4611686018427387904) = true := by rw [beq_iff_eq]; omega
            clear hbig e1 e2 HVF HOF hbd HCASE hF hr htop hb2
            subst e3; subst e4
            go_wp2
            rw [Hr.out]
            go_ret3
            exact ⟨rfl, HB⟩
          · obtain ⟨e1, e2⟩ := okS_in (F := F) (by omega) (by omega)
            have e3 : vF = -((Q : Int) + 1) := by rw [← HVF.out, e1, hF]; omega
            have e4 : oF = true := by rw [← HOF.out, e2]
            have F2 : ((Q : Int) == 4611686018427387904) = false := by rw [beq_eq_false_iff_ne]; omega
            have hb3 : (Q : Int) ≤ 4611686018427387903 := by omega
            clear hbig e1 e2 HVF HOF hbd HCASE hF hr htop hb2
            have E3 := Lib.hid e3
            clear e3
            subst e4
            go_wp2
            rw [Hr.out, ← E3.out]
            go_ret3
            exact ⟨rfl, HB⟩


theorem keep_one (F k : Int) (hk : k = 0 ∨ k = 1) : (if okS F then keptP (valS F + k) else (0, 20)) = keptP (F + k) := by
  by_cases h : -4611686018427387904 ≤ F ∧ F ≤ 4611686018427387904
  · obtain ⟨e1, e2⟩ := okS_in h.1 h.2
    rw [e1, e2]; rfl
  · obtain ⟨e1, e2⟩ := okS_far (F := F) (by omega)
    rw [e2, if_neg (by simp)]
    unfold keptP
    rw [if_neg (by omega)]

set_option maxHeartbeats 1000000 in
theorem rfloor_any (a b c : Int) (w : World) :
    Calls Tryz.prog 117 #[.int .i64 a, .int .i64 b, .int .i64 c] w fun e w' => e = .returned (.tuple #[.int .i64 (floorP a b c).1, .int .i64 (floorP a b c).2]) ∧ Below w.heap.size w w' := by
  unfold floorP
  have HM : Hid (∀ w, _) := Lib.hid (rmay_any a b c)
  cases hm : mayP a b c with
  | false =>
    rw [if_neg (by simp)]
    rw [hm] at HM
    clear hm
    go_enter Tryz.func117, Tryz.ntmps117
    go_wp2_with fail
    refine (HM.out _).mono ?_; rintro e w1 ⟨rfl, rfl⟩
    go_wp2
    go_ret2
    exact ⟨rfl, Below.refl _ _⟩
  | true =>
    rw [if_pos rfl]
    rw [hm] at HM
    have HP : Hid (∀ w, _) := Lib.hid (both_any a b c hm)
    have HK : Hid (∀ w, _) := Lib.hid (kept_any (valS (a * b / c)) (okS (a * b / c)))
    have e := keep_one (a * b / c) 0 (.inl rfl)
    rw [Int.add_zero, Int.add_zero] at e
    rw [e] at HK
    generalize valS (a * b / c) = v at *
    generalize okS (a * b / c) = o at *
    generalize keptP (a * b / c) = k at *
    generalize a * b % c = r at *
    clear hm e
    go_enter Tryz.func117, Tryz.ntmps117
    go_wp2_with fail
    refine (HM.out _).mono ?_; rintro e w1 ⟨rfl, rfl⟩
    go_wp2_with fail
    refine (HP.out _).mono ?_; rintro e w1 ⟨rfl, hb1⟩
    go_wp2_with fail
    refine (HK.out _).mono ?_; rintro e w1 ⟨rfl, rfl⟩
    go_wp2
    go_ret2
    exact ⟨rfl, hb1⟩
end Go.Proofs.YtndpdbofoojkhaaGreat.Mul
