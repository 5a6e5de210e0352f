/- The reference of layer 3: sums and comparisons of ten limbs. -/
import Derived.Test.YtegmkabhmhbjpaaBadRef
import Derived.Deep.DeepCutAuto
namespace Go.Proofs.Ytegmkabhmhbjpaa.Bad
open Go.RowKit Go.Proofs.Ytegmkabhmhbjpaa.Kit
set_option linter.unusedVariables false
set_option linter.unusedSimpArgs false

theorem box_drewN {w : World} {g : Nat} {cs : Array Value} {t : TypeId} (h : Box w g cs t) (n : Nat) : Box (w.drewN n) g cs t := h
theorem four (w : World) (a b c d : Array Value) (t : TypeId) :
    Box ((((w.alloc (.cells a t)).alloc (.cells b t)).alloc (.cells c t)).alloc (.cells d t)) w.heap.size a t ∧ Box ((((w.alloc (.cells a t)).alloc (.cells b t)).alloc (.cells c t)).alloc (.cells d t)) (w.heap.size + 1) b t ∧ Box ((((w.alloc (.cells a t)).alloc (.cells b t)).alloc (.cells c t)).alloc (.cells d t)) (w.heap.size + 1 + 1) c t ∧ Box ((((w.alloc (.cells a t)).alloc (.cells b t)).alloc (.cells c t)).alloc (.cells d t)) (w.heap.size + 1 + 1 + 1) d t ∧ Below w.heap.size w ((((w.alloc (.cells a t)).alloc (.cells b t)).alloc (.cells c t)).alloc (.cells d t)) := by
  obtain ⟨h1, h2, h3, h4⟩ := three w a b c t
  refine ⟨h1.alloc _, h2.alloc _, h3.alloc _, ?_, below_alloc h4 _⟩
  have := Box.new (((w.alloc (.cells a t)).alloc (.cells b t)).alloc (.cells c t)) d t
  simpa using this

set_option maxHeartbeats 1000000 in
theorem rplus_any (N K : Nat) (w : World) :
    Calls Try.prog 23 #[.agg (lim N), .agg (lim K)] w fun e w' => e = .returned (.agg (lim (N + K))) ∧ Below w.heap.size w w' := by
  rw [show lim N = #[.int .i64 (dg N 0), .int .i64 (dg N 1), .int .i64 (dg N 2), .int .i64 (dg N 3), .int .i64 (dg N 4), .int .i64 (dg N 5), .int .i64 (dg N 6), .int .i64 (dg N 7), .int .i64 (dg N 8), .int .i64 (dg N 9)] from rfl, show lim K = #[.int .i64 (dg K 0), .int .i64 (dg K 1), .int .i64 (dg K 2), .int .i64 (dg K 3), .int .i64 (dg K 4), .int .i64 (dg K 5), .int .i64 (dg K 6), .int .i64 (dg K 7), .int .i64 (dg K 8), .int .i64 (dg K 9)] from rfl]
  obtain ⟨r, hr⟩ : ∃ r, Hid (lim (N + K) = r) := ⟨_, Lib.hid rfl⟩
  rw [hr.out]
  go_enter Try.func23, Try.ntmps23
  go_wp2
  obtain ⟨B2, B3, B4, B5, HB⟩ := four w #[.int .i64 (dg N 0), .int .i64 (dg N 1), .int .i64 (dg N 2), .int .i64 (dg N 3), .int .i64 (dg N 4), .int .i64 (dg N 5), .int .i64 (dg N 6), .int .i64 (dg N 7), .int .i64 (dg N 8), .int .i64 (dg N 9)] #[.int .i64 (dg K 0), .int .i64 (dg K 1), .int .i64 (dg K 2), .int .i64 (dg K 3), .int .i64 (dg K 4), .int .i64 (dg K 5), .int .i64 (dg K 6), .int .i64 (dg K 7), .int .i64 (dg K 8), .int .i64 (dg K 9)] #[.int .i64 0, .int .i64 0, .int .i64 0, .int .i64 0, .int .i64 0, .int .i64 0, .int .i64 0, .int .i64 0, .int .i64 0, .int .i64 0] #[.int .i64 0, .int .i64 0, .int .i64 0, .int .i64 0, .int .i64 0, .int .i64 0, .int .i64 0, .int .i64 0, .int .i64 0, .int .i64 0] 42
  generalize World.alloc (World.alloc (World.alloc (World.alloc w _) _) _) _ = W at B2 B3 B4 B5 HB ⊢
  go_loopw [6, 7] (fun o i wr => ∃ k : Nat, k ≤ 10 ∧ i = .int .i64 k ∧ o = .int .i64 (cp N K k) ∧ Box wr w.heap.size (lim N) 42 ∧ Box wr (w.heap.size + 1) (lim K) 42 ∧ Box wr (w.heap.size + 1 + 1) #[.int .i64 0, .int .i64 0, .int .i64 0, .int .i64 0, .int .i64 0, .int .i64 0, .int .i64 0, .int .i64 0, .int .i64 0, .int .i64 0] 42 ∧ Box wr (w.heap.size + 1 + 1 + 1) (part (N + K) k) 42 ∧ Below w.heap.size w wr) (fun _ i _ => 10 - (intOf i).toNat)
  case atStart => exact ⟨0, by omega, rfl, by rw [cp_zero]; rfl, B2, B3, B4, B5, HB⟩
  case round =>
    obtain ⟨k, hk, rfl, rfl, C2, C3, C4, C5, HC⟩ := hrel
    clear B2 B3 B4 B5 HB
    by_cases hk2 : k < 10
    · have e2 : _ = some (Value.int .i64 (dg N k)) := C2.cell k (lim_at N k hk2)
      have e3 : _ = some (Value.int .i64 (dg K k)) := C3.cell k (lim_at K k hk2)
      have e5 : _ = some (Value.int .i64 (pz (N + K) k k)) := C5.cell k (part_at _ k k hk2)
      have f5 := C5.free k
      obtain ⟨S, hS⟩ : ∃ S, dg N k + dg K k + cp N K k = S := ⟨_, rfl⟩
      have b1 := dg_lt N k
      have b3 := dg_lt K k
      have b2 := cp_le N K k
      have EM : Hid ((S : Int) % 65536 = (dg (N + K) k : Int)) := Lib.hid (by rw [cp_dg, hS]; omega)
      have ED : Hid ((S : Int) / 65536 = (cp N K (k + 1) : Int)) := Lib.hid (by rw [cp_next, hS]; omega)
      have ES : Hid (wrap64 (wrap64 ((dg N k : Int) + (dg K k : Int)) + (cp N K k : Int)) = (S : Int)) := Lib.hid (by unfold wrap64; omega)
      have hSb : S ≤ 9223372036854775807 := by omega
      clear b1 b2 b3 hS
      go_upto_region 6 with fail
      go_quiet (fail)
      go_upto_region 7 with fail
      rw [ES.out]
      go_wp2
      rw [EM.out, ED.out]
      go_roundw
      case rel =>
        refine ⟨k + 1, by omega, rfl, rfl, (box_drewN C2 _).far (by first | (simp; done) | (simp; omega)) _, (box_drewN C3 _).far (by first | (simp; done) | (simp; omega)) _, (box_drewN C4 _).far (by first | (simp; done) | (simp; omega)) _, ?_, below_set (below_drewN HC _) (by first | (simp; done) | (simp; omega)) _⟩
        rw [← part_set _ k hk2]
        exact (box_drewN C5 _).set k _
      case measure => simp [intOf]; omega
    · obtain rfl : k = 10 := by omega
      rw [part_all] at C5
      have c5x0 : _ = some (Value.int .i64 (dg (N + K) 0)) := C5.cell 0 rfl
      have c5x1 : _ = some (Value.int .i64 (dg (N + K) 1)) := C5.cell 1 rfl
      have c5x2 : _ = some (Value.int .i64 (dg (N + K) 2)) := C5.cell 2 rfl
      have c5x3 : _ = some (Value.int .i64 (dg (N + K) 3)) := C5.cell 3 rfl
      have c5x4 : _ = some (Value.int .i64 (dg (N + K) 4)) := C5.cell 4 rfl
      have c5x5 : _ = some (Value.int .i64 (dg (N + K) 5)) := C5.cell 5 rfl
      have c5x6 : _ = some (Value.int .i64 (dg (N + K) 6)) := C5.cell 6 rfl
      have c5x7 : _ = some (Value.int .i64 (dg (N + K) 7)) := C5.cell 7 rfl
      have c5x8 : _ = some (Value.int .i64 (dg (N + K) 8)) := C5.cell 8 rfl
      have c5x9 : _ = some (Value.int .i64 (dg (N + K) 9)) := C5.cell 9 rfl
      have c4x0 : _ = some (Value.int .i64 0) := C4.cell 0 rfl
      have c4f0 := C4.free 0
      have c4x1 : _ = some (Value.int .i64 0) := C4.cell 1 rfl
      have c4f1 := C4.free 1
      have c4x2 : _ = some (Value.int .i64 0) := C4.cell 2 rfl
      have c4f2 := C4.free 2
      have c4x3 : _ = some (Value.int .i64 0) := C4.cell 3 rfl
      have c4f3 := C4.free 3
      have c4x4 : _ = some (Value.int .i64 0) := C4.cell 4 rfl
      have c4f4 := C4.free 4
      have c4x5 : _ = some (Value.int .i64 0) := C4.cell 5 rfl
      have c4f5 := C4.free 5
      have c4x6 : _ = some (Value.int .i64 0) := C4.cell 6 rfl
      have c4f6 := C4.free 6
      have c4x7 : _ = some (Value.int .i64 0) := C4.cell 7 rfl
      have c4f7 := C4.free 7
      have c4x8 : _ = some (Value.int .i64 0) := C4.cell 8 rfl
      have c4f8 := C4.free 8
      have c4x9 : _ = some (Value.int .i64 0) := C4.cell 9 rfl
      have c4f9 := C4.free 9
      go_wp2
      obtain ⟨C6, HC6⟩ := set_ten (v0 := .int .i64 (dg (N + K) 0)) (v1 := .int .i64 (dg (N + K) 1)) (v2 := .int .i64 (dg (N + K) 2)) (v3 := .int .i64 (dg (N + K) 3)) (v4 := .int .i64 (dg (N + K) 4)) (v5 := .int .i64 (dg (N + K) 5)) (v6 := .int .i64 (dg (N + K) 6)) (v7 := .int .i64 (dg (N + K) 7)) (v8 := .int .i64 (dg (N + K) 8)) (v9 := .int .i64 (dg (N + K) 9)) C4 HC (by omega)
      generalize World.setCell _ ⟨w.heap.size + 1 + 1, 9, none⟩ _ = W' at C6 HC6 ⊢
      have d0 : _ = some (Value.int .i64 (dg (N + K) 0)) := C6.cell 0 rfl
      have d1 : _ = some (Value.int .i64 (dg (N + K) 1)) := C6.cell 1 rfl
      have d2 : _ = some (Value.int .i64 (dg (N + K) 2)) := C6.cell 2 rfl
      have d3 : _ = some (Value.int .i64 (dg (N + K) 3)) := C6.cell 3 rfl
      have d4 : _ = some (Value.int .i64 (dg (N + K) 4)) := C6.cell 4 rfl
      have d5 : _ = some (Value.int .i64 (dg (N + K) 5)) := C6.cell 5 rfl
      have d6 : _ = some (Value.int .i64 (dg (N + K) 6)) := C6.cell 6 rfl
      have d7 : _ = some (Value.int .i64 (dg (N + K) 7)) := C6.cell 7 rfl
      have d8 : _ = some (Value.int .i64 (dg (N + K) 8)) := C6.cell 8 rfl
      have d9 : _ = some (Value.int .i64 (dg (N + K) 9)) := C6.cell 9 rfl
      exact bodyPost_ret (v := .agg r) (by rw [← hr.out]; unfold lim; simp [results, Try.results23, go_sem, d0, d1, d2, d3, d4, d5, d6, d7, d8, d9]) rfl ⟨rfl, HC6⟩

theorem dv_next (N j : Nat) : N / 65536 ^ j = 65536 * (N / 65536 ^ (j + 1)) + dg N j := by
  unfold dg
  have h := Nat.div_add_mod (N / 65536 ^ j) 65536
  rw [Nat.div_div_eq_div_mul, ← Nat.pow_succ] at h
  exact h.symm
theorem dv_same {N K j : Nat} (h : N / 65536 ^ (j + 1) = K / 65536 ^ (j + 1)) (hd : dg N j = dg K j) : N / 65536 ^ j = K / 65536 ^ j := by
  rw [dv_next N j, dv_next K j, h, hd]
theorem dv_lt {N K j : Nat} (h : N / 65536 ^ (j + 1) = K / 65536 ^ (j + 1)) (hd : dg N j ≠ dg K j) : decide (dg N j > dg K j) = decide (K < N) := by
  rw [decide_eq_decide]
  have e1 := dv_next N j
  have e2 := dv_next K j
  rw [h] at e1
  constructor
  · intro hg
    apply Nat.lt_of_not_le
    intro hle
    have := Nat.div_le_div_right (c := 65536 ^ j) hle
    omega
  · intro hl
    have := Nat.div_le_div_right (c := 65536 ^ j) (Nat.le_of_lt hl)
    omega
theorem two_boxes (w : World) (a b : Array Value) (t : TypeId) :
    Box ((w.alloc (.cells a t)).alloc (.cells b t)) w.heap.size a t ∧ Box ((w.alloc (.cells a t)).alloc (.cells b t)) (w.heap.size + 1) b t ∧ Below w.heap.size w ((w.alloc (.cells a t)).alloc (.cells b t)) := by
  refine ⟨(Box.new w a t).alloc _, ?_, below_alloc (below_alloc (Below.refl _ w) _) _⟩
  have := Box.new (w.alloc (.cells a t)) b t
  simpa using this

set_option maxHeartbeats 1000000 in
theorem rabove_any (N K : Nat) (hN : N < 65536 ^ 10) (hK : K < 65536 ^ 10) (w : World) :
    Calls Try.prog 24 #[.agg (lim N), .agg (lim K)] w fun e w' => e = .returned (.bool (decide (K < N))) ∧ Below w.heap.size w w' := by
  have h0 : N / 65536 ^ 10 = K / 65536 ^ 10 := by rw [Nat.div_eq_of_lt hN, Nat.div_eq_of_lt hK]
  clear hN hK
  obtain ⟨r, hr⟩ : ∃ r, Hid (decide (K < N) = r) := ⟨_, Lib.hid rfl⟩
  rw [hr.out]
  have H0 := Lib.hid h0
  clear h0
  rw [show lim N = #[.int .i64 (dg N 0), .int .i64 (dg N 1), .int .i64 (dg N 2), .int .i64 (dg N 3), .int .i64 (dg N 4), .int .i64 (dg N 5), .int .i64 (dg N 6), .int .i64 (dg N 7), .int .i64 (dg N 8), .int .i64 (dg N 9)] from rfl, show lim K = #[.int .i64 (dg K 0), .int .i64 (dg K 1), .int .i64 (dg K 2), .int .i64 (dg K 3), .int .i64 (dg K 4), .int .i64 (dg K 5), .int .i64 (dg K 6), .int .i64 (dg K 7), .int .i64 (dg K 8), .int .i64 (dg K 9)] from rfl]
  go_enter Try.func24, Try.ntmps24
  go_wp2
  obtain ⟨B2, B3, HB⟩ := two_boxes w #[.int .i64 (dg N 0), .int .i64 (dg N 1), .int .i64 (dg N 2), .int .i64 (dg N 3), .int .i64 (dg N 4), .int .i64 (dg N 5), .int .i64 (dg N 6), .int .i64 (dg N 7), .int .i64 (dg N 8), .int .i64 (dg N 9)] #[.int .i64 (dg K 0), .int .i64 (dg K 1), .int .i64 (dg K 2), .int .i64 (dg K 3), .int .i64 (dg K 4), .int .i64 (dg K 5), .int .i64 (dg K 6), .int .i64 (dg K 7), .int .i64 (dg K 8), .int .i64 (dg K 9)] 42
  generalize World.alloc (World.alloc w _) _ = W at B2 B3 HB ⊢
  go_loopw [5] (fun i wr => ∃ k : Nat, k ≤ 10 ∧ i = .int .i64 ((k : Int) - 1) ∧ Hid (N / 65536 ^ k = K / 65536 ^ k) ∧ Box wr w.heap.size (lim N) 42 ∧ Box wr (w.heap.size + 1) (lim K) 42 ∧ Below w.heap.size w wr) (fun i _ => (intOf i + 1).toNat)
  case atStart => exact ⟨10, by omega, rfl, H0, B2, B3, HB⟩
  case round =>
    obtain ⟨k, hk, rfl, HE, C2, C3, HC⟩ := hrel
    clear B2 B3 HB H0
    cases k with
    | zero =>
      have e : N = K := by have := HE.out; simpa using this
      have hrf : r = false := by rw [← hr.out, e]; simp
      subst hrf
      clear e hr HE
      go_wp2
      go_ret
      exact ⟨rfl, HC⟩
    | succ j =>
      have ej : ((j + 1 : Nat) : Int) - 1 = j := by omega
      rw [ej]
      clear ej
      have e2 : _ = some (Value.int .i64 (dg N j)) := C2.cell j (lim_at N j (by omega))
      have e3 : _ = some (Value.int .i64 (dg K j)) := C3.cell j (lim_at K j (by omega))
      by_cases hd : dg N j = dg K j
      · have HE2 := Lib.hid (dv_same HE.out hd)
        have hb : ((dg N j : Int) == (dg K j : Int)) = true := by simp [hd]
        have hb2 : ((dg N j : Int) != (dg K j : Int)) = false := by simp [hd]
        clear hd
        go_upto_region 4 with fail
        go_quiet (fail)
        go_wp2
        go_roundw
        case rel => exact ⟨j, by omega, rfl, HE2, box_drewN C2 _, box_drewN C3 _, below_drewN HC _⟩
        case measure => simp [intOf]
      · have HE2 := Lib.hid (dv_lt HE.out hd)
        have hb : ((dg N j : Int) == (dg K j : Int)) = false := by simp; omega
        have hb2 : ((dg N j : Int) != (dg K j : Int)) = true := by simp; omega
        clear hd
        go_upto_region 4 with fail
        go_quiet (fail)
        go_upto_region 5 with fail
        go_quiet (fail)
        go_wp2
        all_goals
          go_ret
          refine ⟨ret_bool rfl ?_, below_drewN (below_drewN HC _) _⟩
          rw [← hr.out, ← HE2.out]

end Go.Proofs.Ytegmkabhmhbjpaa.Bad
