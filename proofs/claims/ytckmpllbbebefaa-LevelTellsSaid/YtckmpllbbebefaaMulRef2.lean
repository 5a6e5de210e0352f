/- The reference of layer 2: a product, limb by limb. -/
import Derived.Test.YtckmpllbbebefaaMulRef
namespace Go.Proofs.Ytckmpllbbebefaa.Mul
open Go.RowKit Go.Proofs.Ytckmpllbbebefaa.Kit
set_option linter.unusedVariables false
set_option linter.unusedSimpArgs false

theorem limbs_c (N : Nat) (hN : Hid (N ≤ 4611686018427387904)) (w : World) :
    Calls Try.prog 83 #[.int .i64 N] w fun e w' => e = .returned (.agg #[.int .i64 ((dg N 0 : Nat) : Int), .int .i64 ((dg N 1 : Nat) : Int), .int .i64 ((dg N 2 : Nat) : Int), .int .i64 ((dg N 3 : Nat) : Int), .int .i64 ((dg N 4 : Nat) : Int), .int .i64 ((dg N 5 : Nat) : Int), .int .i64 ((dg N 6 : Nat) : Int), .int .i64 ((dg N 7 : Nat) : Int)]) ∧ Below w.heap.size w w' := limbs_any N (by have := hN.out; omega) w
theorem sum_step {A X Y V S : Nat} (h : S ≤ 4294967295) (hS : S = A + X * Y + V) : wrap64 (wrap64 ((A : Int) + wrap64 ((X : Int) * (Y : Int))) + (V : Int)) = (S : Int) := by
  rw [← Int.natCast_mul]
  generalize X * Y = m at *
  unfold wrap64; omega
theorem zero8 (a b : Nat) : #[.int .i64 0, .int .i64 0, .int .i64 0, .int .i64 0, .int .i64 0, .int .i64 0, .int .i64 0, .int .i64 0] = arr8 (dg (a % 65536 ^ 0 * b)) := by
  have : arr8 (dg (a % 65536 ^ 0 * b)) = arr8 (fun _ => 0) := arr8_congr fun j _ => by unfold dg; simp [Nat.mod_one]
  rw [this]; rfl

set_option maxRecDepth 100000 in
set_option maxHeartbeats 2000000 in
theorem product_any (a b : Nat) (ha : a ≤ 4611686018427387904) (hb : b ≤ 4611686018427387904) (w : World) :
    Calls Try.prog 80 #[.int .i64 a, .int .i64 b] w fun e w' => e = .returned (.agg (arr8 (dg (a * b)))) ∧ Below w.heap.size w w' := by
  obtain ⟨r, hr⟩ : ∃ r, Hid (arr8 (dg (a * b)) = r) := ⟨_, Lib.hid rfl⟩
  rw [hr.out]
  have HA := Lib.hid ha
  have HBB := Lib.hid hb
  clear ha hb
  have hb4 : Hid (b < 65536 ^ 4) := Lib.hid (by have := HBB.out; omega)
  have ha4 : Hid (a < 65536 ^ 4) := Lib.hid (by have := HA.out; omega)
  go_enter Try.func80, Try.ntmps80
  go_wp2_with fail
  refine (limbs_c a HA _).mono ?_; rintro e w1 ⟨rfl, hb1⟩
  go_wp2_with fail
  refine (limbs_c b HBB _).mono ?_; rintro e w2 ⟨rfl, hb2⟩
  have B0 : Box w1 w.heap.size #[.int .i64 0, .int .i64 0, .int .i64 0, .int .i64 0, .int .i64 0, .int .i64 0, .int .i64 0, .int .i64 0] 114 := (Box.new w _ _).below hb1
  have Bx : Box w2 w1.heap.size (arr8 (dg a)) 114 := (Box.new w1 _ _).below hb2
  have B0' := (B0.alloc (.cells (arr8 (dg a)) 114)).below hb2
  have h1 : w.heap.size < w1.heap.size := by have := hb1.size; simp at this; omega
  have h2 : w1.heap.size < w2.heap.size := by have := hb2.size; simp at this; omega
  have HB : Below w.heap.size w w2 := below_join (below_alloc (below_join (below_alloc (Below.refl _ w) _) hb1) _) hb2
  clear hb1 hb2 B0
  go_wp2
  have B2 : Box ((w2.alloc (.cells (arr8 (dg b)) 114)).alloc (.cells #[.int .i64 0, .int .i64 0, .int .i64 0, .int .i64 0, .int .i64 0, .int .i64 0, .int .i64 0, .int .i64 0] 114)) w.heap.size #[.int .i64 0, .int .i64 0, .int .i64 0, .int .i64 0, .int .i64 0, .int .i64 0, .int .i64 0, .int .i64 0] 114 := (B0'.alloc _).alloc _
  have B3 : Box ((w2.alloc (.cells (arr8 (dg b)) 114)).alloc (.cells #[.int .i64 0, .int .i64 0, .int .i64 0, .int .i64 0, .int .i64 0, .int .i64 0, .int .i64 0, .int .i64 0] 114)) w1.heap.size (arr8 (dg a)) 114 := (Bx.alloc _).alloc _
  have B4 : Box ((w2.alloc (.cells (arr8 (dg b)) 114)).alloc (.cells #[.int .i64 0, .int .i64 0, .int .i64 0, .int .i64 0, .int .i64 0, .int .i64 0, .int .i64 0, .int .i64 0] 114)) w2.heap.size (arr8 (dg b)) 114 := (Box.new w2 _ _).alloc _
  have B5 : Box ((w2.alloc (.cells (arr8 (dg b)) 114)).alloc (.cells #[.int .i64 0, .int .i64 0, .int .i64 0, .int .i64 0, .int .i64 0, .int .i64 0, .int .i64 0, .int .i64 0] 114)) (w2.heap.size + 1) (arr8 (dg (a % 65536 ^ 0 * b))) 114 := by
    rw [← zero8]
    have := Box.new (w2.alloc (.cells (arr8 (dg b)) 114)) #[.int .i64 0, .int .i64 0, .int .i64 0, .int .i64 0, .int .i64 0, .int .i64 0, .int .i64 0, .int .i64 0] 114
    simpa using this
  have HB2 : Below w.heap.size w ((w2.alloc (.cells (arr8 (dg b)) 114)).alloc (.cells #[.int .i64 0, .int .i64 0, .int .i64 0, .int .i64 0, .int .i64 0, .int .i64 0, .int .i64 0, .int .i64 0] 114)) := below_alloc (below_alloc HB _) _
  clear Bx B0' HB
  unfold arr8 at B2 B3 B4 B5 HB2
  generalize World.alloc (World.alloc w2 _) _ = W at B2 B3 B4 B5 HB2 ⊢
  generalize w1.heap.size = gx at *
  obtain ⟨gy, hgy⟩ : ∃ g, w2.heap.size = g := ⟨_, rfl⟩
  rw [hgy] at h2 B4 B5 ⊢
  obtain ⟨go, hgo⟩ : ∃ g, gy + 1 = g := ⟨_, rfl⟩
  rw [hgo] at B5 ⊢
  have h3 : gy < go := by omega
  clear hgy hgo
  go_loopw [8] (fun is wr => ∃ i : Nat, i ≤ 4 ∧ is = .int .i64 i ∧ Box wr w.heap.size #[.int .i64 0, .int .i64 0, .int .i64 0, .int .i64 0, .int .i64 0, .int .i64 0, .int .i64 0, .int .i64 0] 114 ∧ Box wr gx (arr8 (dg a)) 114 ∧ Box wr gy (arr8 (dg b)) 114 ∧ Box wr go (arr8 (dg (a % 65536 ^ i * b))) 114 ∧ Below w.heap.size w wr) (fun is _ => 4 - (intOf is).toNat)
  case atStart => exact ⟨0, by omega, rfl, B2, B3, B4, B5, HB2⟩
  case round =>
    obtain ⟨i, hi, rfl, C0, Cx, Cy, Co, HC⟩ := hrel
    clear B2 B3 B4 B5 HB2
    by_cases hi2 : i < 4
    · go_wp2
      rename World => wo
      go_loopw [9, 10, 11] (fun os ks ss wr => ∃ k : Nat, k ≤ 4 ∧ ks = .int .i64 k ∧ os = .int .i64 ((ov a b i k : Nat) : Int) ∧ Box wr w.heap.size #[.int .i64 0, .int .i64 0, .int .i64 0, .int .i64 0, .int .i64 0, .int .i64 0, .int .i64 0, .int .i64 0] 114 ∧ Box wr gx (arr8 (dg a)) 114 ∧ Box wr gy (arr8 (dg b)) 114 ∧ Box wr go (arr8 (mid a b i k)) 114 ∧ Below w.heap.size w wr) (fun _ ks _ _ => 4 - (intOf ks).toNat)
      case atStart =>
        refine ⟨0, by omega, rfl, by rw [ov_zero]; rfl, C0, Cx, Cy, ?_, HC⟩
        rw [arr8_congr (fun j _ => mid_zero a b i j)]
        exact Co
      case round =>
        obtain ⟨k, hk, rfl, rfl, D0, Dx, Dy, Do, HD⟩ := hrel
        clear C0 Cx Cy Co HC
        by_cases hk2 : k < 4
        · have EI : IntKind.i64.wrap ((i : Int) + k) = ((i + k : Nat) : Int) := by rw [IntKind.wrap_i64]; omega
          have e3 : _ = some (Value.int .i64 ((mid a b i k (i + k) : Nat) : Int)) := Do.cell (i + k) (arr8_at _ _ (by omega))
          have f3 := Do.free (i + k)
          have ex : _ = some (Value.int .i64 ((dg a i : Nat) : Int)) := Dx.cell i (arr8_at _ _ (by omega))
          have ey : _ = some (Value.int .i64 ((dg b k : Nat) : Int)) := Dy.cell k (arr8_at _ _ (by omega))
          have hS : Hid ((arr8 (mid a b i k)).setIfInBounds (i + k) (.int .i64 ((sm a b i k % 65536 : Nat) : Int)) = arr8 (mid a b i (k + 1))) := Lib.hid (by
            rw [arr8_set _ _ _ (by omega)]; exact arr8_congr fun j _ => (mid_next a b i k j).symm)
          have hsm := sm_lt a b i k
          have hov := sm_ov a b i k
          have hma := mid_at a b i k
          have ES : Hid (wrap64 (wrap64 (((mid a b i k (i + k) : Nat) : Int) + wrap64 (((dg a i : Nat) : Int) * ((dg b k : Nat) : Int))) + ((ov a b i k : Nat) : Int)) = ((sm a b i k : Nat) : Int)) := Lib.hid (by
            rw [hma]; exact sum_step hsm rfl)
          have EO : Hid (((sm a b i k : Nat) : Int) / 65536 = ((ov a b i (k + 1) : Nat) : Int)) := Lib.hid (by rw [hov]; omega)
          have EM : Hid (((sm a b i k : Nat) : Int) % 65536 = ((sm a b i k % 65536 : Nat) : Int)) := Lib.hid (by omega)
          generalize sm a b i k % 65536 = sr at *
          generalize sm a b i k = S at *
          have hx0 := dg_lt a i
          have hy0 := dg_lt b k
          have hi0 : (0 : Int) ≤ ((i + k : Nat) : Int) := by omega
          have hi1 : ((i + k : Nat) : Int) < 8 := by omega
          clear hov hma
          go_upto_region 11 with fail
          go_quiet (fail)
          go_upto_region 12 with fail
          rw [ES.out]
          go_wp2
          rw [EM.out, EO.out]
          go_roundw
          case rel =>
            refine ⟨k + 1, by omega, by go_num, rfl, (box_drewN D0 _).far (by first | (simp; done) | (simp; omega)) _, (box_drewN Dx _).far (by first | (simp; done) | (simp; omega)) _, (box_drewN Dy _).far (by first | (simp; done) | (simp; omega)) _, ?_, below_set (below_drewN HD _) (by first | (simp; done) | (simp; omega)) _⟩
            rw [← hS.out]
            exact (box_drewN Do _).set (i + k) _
          case measure => simp [intOf]; omega
        · obtain rfl : k = 4 := by omega
          have e3 : _ = some (Value.int .i64 ((mid a b i 4 (i + 4) : Nat) : Int)) := Do.cell (i + 4) (arr8_at _ _ (by omega))
          have hz : mid a b i 4 (i + 4) = 0 := by rw [mid_at]; exact dg_small (part_lt a b i hb4.out)
          rw [hz] at e3
          have f3 := Do.free (i + 4)
          have hS : Hid ((arr8 (mid a b i 4)).setIfInBounds (i + 4) (.int .i64 ((ov a b i 4 : Nat) : Int)) = arr8 (dg (a % 65536 ^ (i + 1) * b))) := Lib.hid (by
            rw [arr8_set _ _ _ (by omega)]; exact arr8_congr fun j _ => (mid_last a b i j hb4.out).symm)
          have ho := ov_le a b i 4
          generalize ov a b i 4 = V at *
          clear hz
          go_wp2
          go_roundw
          case rel =>
            refine ⟨i + 1, by omega, by go_num, D0.far (by first | (simp; done) | (simp; omega)) _, Dx.far (by first | (simp; done) | (simp; omega)) _, Dy.far (by first | (simp; done) | (simp; omega)) _, ?_, below_set HD (by first | (simp; done) | (simp; omega)) _⟩
            rw [← hS.out]
            exact Do.set (i + 4) _
          case measure => simp [intOf]; omega
    · obtain rfl : i = 4 := by omega
      have hE : a % 65536 ^ 4 * b = a * b := by rw [Nat.mod_eq_of_lt ha4.out]
      rw [hE] at Co
      clear hE Cx Cy
      have C2 := C0
      clear C0
      have cox0 : _ = some (Value.int .i64 ((dg (a * b) 0 : Nat))) := Co.cell 0 rfl
      have cox1 : _ = some (Value.int .i64 ((dg (a * b) 1 : Nat))) := Co.cell 1 rfl
      have cox2 : _ = some (Value.int .i64 ((dg (a * b) 2 : Nat))) := Co.cell 2 rfl
      have cox3 : _ = some (Value.int .i64 ((dg (a * b) 3 : Nat))) := Co.cell 3 rfl
      have cox4 : _ = some (Value.int .i64 ((dg (a * b) 4 : Nat))) := Co.cell 4 rfl
      have cox5 : _ = some (Value.int .i64 ((dg (a * b) 5 : Nat))) := Co.cell 5 rfl
      have cox6 : _ = some (Value.int .i64 ((dg (a * b) 6 : Nat))) := Co.cell 6 rfl
      have cox7 : _ = some (Value.int .i64 ((dg (a * b) 7 : Nat))) := Co.cell 7 rfl
      have c2x0 : _ = some (Value.int .i64 (0)) := C2.cell 0 rfl
      have c2x1 : _ = some (Value.int .i64 (0)) := C2.cell 1 rfl
      have c2x2 : _ = some (Value.int .i64 (0)) := C2.cell 2 rfl
      have c2x3 : _ = some (Value.int .i64 (0)) := C2.cell 3 rfl
      have c2x4 : _ = some (Value.int .i64 (0)) := C2.cell 4 rfl
      have c2x5 : _ = some (Value.int .i64 (0)) := C2.cell 5 rfl
      have c2x6 : _ = some (Value.int .i64 (0)) := C2.cell 6 rfl
      have c2x7 : _ = some (Value.int .i64 (0)) := C2.cell 7 rfl
      have c2f0 := C2.free 0
      have c2f1 := C2.free 1
      have c2f2 := C2.free 2
      have c2f3 := C2.free 3
      have c2f4 := C2.free 4
      have c2f5 := C2.free 5
      have c2f6 := C2.free 6
      have c2f7 := C2.free 7
      go_wp2
      obtain ⟨C6, HC6⟩ := set_eight (v0 := .int .i64 ((dg (a * b) 0 : Nat) : Int)) (v1 := .int .i64 ((dg (a * b) 1 : Nat) : Int)) (v2 := .int .i64 ((dg (a * b) 2 : Nat) : Int)) (v3 := .int .i64 ((dg (a * b) 3 : Nat) : Int)) (v4 := .int .i64 ((dg (a * b) 4 : Nat) : Int)) (v5 := .int .i64 ((dg (a * b) 5 : Nat) : Int)) (v6 := .int .i64 ((dg (a * b) 6 : Nat) : Int)) (v7 := .int .i64 ((dg (a * b) 7 : Nat) : Int)) C2 HC (by omega)
      generalize World.setCell _ ⟨w.heap.size, 7, none⟩ _ = W' at C6 HC6 ⊢
      have c6x0 : _ = some (Value.int .i64 ((dg (a * b) 0 : Nat))) := C6.cell 0 rfl
      have c6x1 : _ = some (Value.int .i64 ((dg (a * b) 1 : Nat))) := C6.cell 1 rfl
      have c6x2 : _ = some (Value.int .i64 ((dg (a * b) 2 : Nat))) := C6.cell 2 rfl
      have c6x3 : _ = some (Value.int .i64 ((dg (a * b) 3 : Nat))) := C6.cell 3 rfl
      have c6x4 : _ = some (Value.int .i64 ((dg (a * b) 4 : Nat))) := C6.cell 4 rfl
      have c6x5 : _ = some (Value.int .i64 ((dg (a * b) 5 : Nat))) := C6.cell 5 rfl
      have c6x6 : _ = some (Value.int .i64 ((dg (a * b) 6 : Nat))) := C6.cell 6 rfl
      have c6x7 : _ = some (Value.int .i64 ((dg (a * b) 7 : Nat))) := C6.cell 7 rfl
      exact bodyPost_ret (v := .agg r) (by rw [← hr.out]; unfold arr8; simp [results, Try.results80, go_sem, c6x0, c6x1, c6x2, c6x3, c6x4, c6x5, c6x6, c6x7]) rfl ⟨rfl, HC6⟩


end Go.Proofs.Ytckmpllbbebefaa.Mul
