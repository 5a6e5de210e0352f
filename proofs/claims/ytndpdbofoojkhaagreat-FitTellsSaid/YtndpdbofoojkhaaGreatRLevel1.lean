/- The reference: a face's floor, nearest level, trait, and whether a face may be. -/
import Derived.Test.YtndpdbofoojkhaaGreatRLig3
import Derived.Test.YtndpdbofoojkhaaGreatLevel5
import Derived.Test.YtndpdbofoojkhaaGreatMulRFloor
namespace Go.Proofs.YtndpdbofoojkhaaGreat.RLv
open Go.RowKit Go.Proofs.YtndpdbofoojkhaaGreat.Kit Go.Proofs.YtndpdbofoojkhaaGreat.Fo Go.Proofs.YtndpdbofoojkhaaGreat.Lv Go.Proofs.YtndpdbofoojkhaaGreat.RFo
set_option linter.unusedVariables false
set_option linter.unusedSimpArgs false

theorem floor9_any (a b c : Int) (w : World) :
    Calls Tryz.prog 99 #[.int .i64 a, .int .i64 b, .int .i64 c] w fun e w' => e = .returned (.int .i64 (fl a b c)) ∧ Below w.heap.size w w' := by
  have H : Hid (∀ w, _) := Lib.hid (Mul.rfloor_any a b c)
  unfold fl
  generalize Mul.floorP a b c = r at *
  go_enter Tryz.func99, Tryz.ntmps99
  go_wp2_with fail
  with_reducible refine (H.out _).mono ?_; rintro e w1 ⟨rfl, hb⟩
  go_wp2_with fail
  go_ret
  exact ⟨rfl, hb⟩
theorem clamp9_any (d : FaceD) (a : FaceA) (n : Int) (w : World) (hu : 0 ≤ d.up ∧ d.up ≤ 8) (hd : 0 ≤ d.down ∧ d.down ≤ 8) :
    Calls Tryz.prog 116 #[faceV d a, .int .i64 n] w fun e w' => e = .returned (.int .i64 (clampP d n)) ∧ Below w.heap.size w w' := by
  have hbx := Box.new w (faceCells d a) 29
  have hbw := (Below.refl w.heap.size w).alloc (Nat.le_refl _) (.cells (faceCells d a) 29)
  obtain ⟨W1, hW⟩ : ∃ W1, w.alloc (.cells (faceCells d a) 29) = W1 := ⟨_, rfl⟩
  rw [hW] at hbx hbw
  obtain ⟨⟨c0, c1, c2, c3, c4, c5, c6, c7, c8, c9, c10⟩, c11, c12, c13, c14, c15⟩ := face_cells hbx
  obtain ⟨u1, u2⟩ := hu
  obtain ⟨v1, v2⟩ := hd
  unfold clampP
  generalize hvd : d.down = dn at *
  generalize hvu : d.up = du at *
  clear hvd hvu
  have E : ∀ r : Int, r = min (max n (-dn)) du → r = min (max n (-dn)) du := fun _ h => h
  by_cases h1 : n ≤ -dn
  · go_enter Tryz.func116, Tryz.ntmps116
    go_wp2
    go_ret
    exact ⟨ret_int rfl (by omega), hbw⟩
  · by_cases h2 : n ≤ du
    · go_enter Tryz.func116, Tryz.ntmps116
      go_wp2
      go_ret
      exact ⟨ret_int rfl (by omega), hbw⟩
    · go_enter Tryz.func116, Tryz.ntmps116
      go_wp2
      go_ret
      exact ⟨ret_int rfl (by omega), hbw⟩
def rtraitP (l : List StepT) (code : Int) : StepT := (l.find? fun t => t.1 == code).getD (code, 1000, 0, 0)
theorem rtrait_eq (l : List StepT) (code : Int) : (rtraitP l code).2 = (traitP l code).2 := by
  unfold rtraitP traitP
  cases l.find? (fun t => t.1 == code) <;> rfl
theorem find_drop {l : List StepT} {code : Int} {k : Nat} {x : StepT} (h : l[k]? = some x) (h0 : (l.take k).find? (fun t => t.1 == code) = none) (hx : (x.1 == code) = true) : rtraitP l code = x := by
  have e : l = l.take k ++ x :: l.drop (k + 1) := by rw [← drop_cons h, List.take_append_drop]
  unfold rtraitP
  rw [e, List.find?_append, h0]
  simp [hx]
theorem find_on {l : List StepT} {code : Int} {k : Nat} {x : StepT} (h : l[k]? = some x) (h0 : (l.take k).find? (fun t => t.1 == code) = none) (hx : (x.1 == code) = false) : (l.take (k + 1)).find? (fun t => t.1 == code) = none := by
  rw [take_at h, List.find?_append, h0]
  simpa using hx
set_option maxHeartbeats 1000000 in
theorem trait9_any (d : FaceD) (a : FaceA) (code : Int) (w : World) {B : Nat} (hB : B ≤ w.heap.size) (hF : FaceIn w B d a) :
    Calls Tryz.prog 98 #[faceV d a, .int .i64 code] w fun e w' => e = .returned (stepV (rtraitP d.traits code)) ∧ Below w.heap.size w w' := by
  have hbx := (Box.new w (faceCells d a) 29).alloc (.cells #[.int .i64 0, .int .i64 0, .int .i64 0, .int .i64 0] 63)
  have hb2 := Box.new (w.alloc (.cells (faceCells d a) 29)) #[.int .i64 0, .int .i64 0, .int .i64 0, .int .i64 0] 63
  have hbw : Below w.heap.size w ((w.alloc (.cells (faceCells d a) 29)).alloc (.cells #[.int .i64 0, .int .i64 0, .int .i64 0, .int .i64 0] 63)) := below_alloc ((Below.refl w.heap.size w).alloc (Nat.le_refl _) _) _
  simp only [World.size_alloc] at hb2
  obtain ⟨W1, hW⟩ : ∃ W1, (w.alloc (.cells (faceCells d a) 29)).alloc (.cells #[.int .i64 0, .int .i64 0, .int .i64 0, .int .i64 0] 63) = W1 := ⟨_, rfl⟩
  rw [hW] at hbx hb2 hbw
  have HR := Lib.hid (hF.traits.mono (hbw.mono hB))
  have hn := hF.nt
  clear hF
  obtain ⟨⟨c0, c1, c2, c3, c4, c5, c6, c7, c8, c9, c10⟩, c11, c12, c13, c14, c15⟩ := face_cells hbx
  clear c0 c1 c2 c3 c4 c5 c6 c7 c8 c9 c10 c11 c12 c13 c14
  have k0 : W1.cell? ⟨w.heap.size + 1, 0, none⟩ = some (.int .i64 0) := hb2.cell 0 rfl
  have k1 : W1.cell? ⟨w.heap.size + 1, 1, none⟩ = some (.int .i64 0) := hb2.cell 1 rfl
  have k2 : W1.cell? ⟨w.heap.size + 1, 2, none⟩ = some (.int .i64 0) := hb2.cell 2 rfl
  have k3 : W1.cell? ⟨w.heap.size + 1, 3, none⟩ = some (.int .i64 0) := hb2.cell 3 rfl
  have g0 := hb2.free 0
  have g1 := hb2.free 1
  have g2 := hb2.free 2
  have g3 := hb2.free 3
  have HE : Hid (∀ S, rtraitP d.traits code = S → rtraitP d.traits code = S) := Lib.hid fun _ h => h
  obtain ⟨S, hS⟩ : ∃ S, Hid (rtraitP d.traits code = S) := ⟨_, Lib.hid rfl⟩
  rw [hS.out]
  go_enter Tryz.func98, Tryz.ntmps98
  go_wp2_with fail
  clear hW
  go_loop [5] (fun i => ∃ k : Nat, i = .int .i64 k ∧ k ≤ d.traits.length ∧ Hid ((d.traits.take k).find? (fun t => t.1 == code) = none)) (fun i => d.traits.length - (intOf i).toNat)
  case atStart => exact ⟨0, rfl, by omega, Lib.hid rfl⟩
  case round =>
    obtain ⟨k, rfl, hk, HN⟩ := hrel
    by_cases hlt : k < d.traits.length
    · obtain ⟨x, hx⟩ := at_lt hlt
      obtain ⟨b, o, hA, hbl, ⟨t0, t1, t2, t3⟩, _⟩ := step_at HR.out hx
      cases hq : x.1 == code with
      | true =>
        have HX : Hid (S = x) := Lib.hid (by rw [← hS.out]; exact find_drop hx HN.out hq)
        clear hx HN hS HE
        rw [hA] at c15
        clear hA
        go_wp2_with fail
        have b4 := Box.set4 hb2 (x := .int .i64 x.1) (y := .int .i64 x.2.1) (z := .int .i64 x.2.2.1) (u := .int .i64 x.2.2.2)
        have q0 := b4.cell 0 rfl
        have q1 := b4.cell 1 rfl
        have q2 := b4.cell 2 rfl
        have q3 := b4.cell 3 rfl
        have hbe := below_set (below_set (below_set (below_set hbw (p := ⟨w.heap.size + 1, 0, none⟩) (by show w.heap.size ≤ w.heap.size + 1; omega) (.int .i64 x.1)) (p := ⟨w.heap.size + 1, 1, none⟩) (by show w.heap.size ≤ w.heap.size + 1; omega) (.int .i64 x.2.1)) (p := ⟨w.heap.size + 1, 2, none⟩) (by show w.heap.size ≤ w.heap.size + 1; omega) (.int .i64 x.2.2.1)) (p := ⟨w.heap.size + 1, 3, none⟩) (by show w.heap.size ≤ w.heap.size + 1; omega) (.int .i64 x.2.2.2)
        refine bodyPost_ret (v := stepV x) ?_ rfl ⟨by rw [HX.out], hbe⟩
        simp [results, Tryz.f98, go_sem, q0, q1, q2, q3]
      | false =>
        have HX := Lib.hid (find_on hx HN.out hq)
        clear hx HN
        rw [hA] at c15
        clear hA
        go_wp2_with fail
        go_round
        case rel => exact ⟨k + 1, by go_num, by omega, HX⟩
        case measure => simp [intOf]; omega
    · have HX : Hid (S = (code, 1000, 0, 0)) := Lib.hid (by rw [← hS.out]; have := HN.out; rw [List.take_of_length_le (by omega)] at this; unfold rtraitP; rw [this]; rfl)
      clear HN hS HE
      go_wp2_with fail
      have b4 := Box.set4 hb2 (x := .int .i64 code) (y := .int .i64 1000) (z := .int .i64 0) (u := .int .i64 0)
      have q0 := b4.cell 0 rfl
      have q1 := b4.cell 1 rfl
      have q2 := b4.cell 2 rfl
      have q3 := b4.cell 3 rfl
      have hbe := below_set (below_set (below_set (below_set hbw (p := ⟨w.heap.size + 1, 0, none⟩) (by show w.heap.size ≤ w.heap.size + 1; omega) (.int .i64 code)) (p := ⟨w.heap.size + 1, 1, none⟩) (by show w.heap.size ≤ w.heap.size + 1; omega) (.int .i64 1000)) (p := ⟨w.heap.size + 1, 2, none⟩) (by show w.heap.size ≤ w.heap.size + 1; omega) (.int .i64 0)) (p := ⟨w.heap.size + 1, 3, none⟩) (by show w.heap.size ≤ w.heap.size + 1; omega) (.int .i64 0)
      refine bodyPost_ret (v := stepV (code, 1000, 0, 0)) ?_ rfl ⟨by rw [HX.out], hbe⟩
      simp [results, Tryz.f98, go_sem, q0, q1, q2, q3]
set_option maxRecDepth 10000 in
set_option maxHeartbeats 8000000 in
theorem face9_any (d : FaceD) (a : FaceA) (w : World) {B : Nat} (hB : B ≤ w.heap.size) (hF : FaceIn w B d a) :
    Calls Tryz.prog 8 #[faceV d a] w fun e w' => e = .returned (.bool (faceB d)) ∧ Below w.heap.size w w' := by
  have L1 : Hid (∀ W, Below w.heap.size w W → _) := Lib.hid fun W (hb : Below w.heap.size w W) => rlig_any d.font a.font W (lt_of_below hB hb) (hF.font.mono (hb.mono hB))
  have HRw : Hid (∀ W, Below w.heap.size w W → _) := Lib.hid fun W (hb : Below w.heap.size w W) => hF.traits.mono (hb.mono hB)
  have hn := hF.nt
  obtain ⟨res, hres⟩ : ∃ r, Hid (faceB d = r) := ⟨_, Lib.hid rfl⟩
  rw [hres.out]
  have hbx := Box.new w (faceCells d a) 29
  have hbw := (Below.refl w.heap.size w).alloc (Nat.le_refl _) (.cells (faceCells d a) 29)
  obtain ⟨W1, hW⟩ : ∃ W1, w.alloc (.cells (faceCells d a) 29) = W1 := ⟨_, rfl⟩
  rw [hW] at hbx hbw
  obtain ⟨⟨c0, c1, c2, c3, c4, c5, c6, c7, c8, c9, c10⟩, c11, c12, c13, c14, c15⟩ := face_cells hbx
  have H1 := L1.out W1 hbw
  rw [ref_lig] at H1
  obtain ⟨p1, hp1⟩ : ∃ p, Hid (ligB d.font = p) := ⟨_, Lib.hid rfl⟩
  rw [hp1.out] at H1
  clear hF L1
  go_enter Tryz.func8, Tryz.ntmps8
  go_wp2_with fail
  with_reducible refine H1.mono ?_; rintro e w1 ⟨rfl, hb⟩
  clear H1 hW c0 c1 c2 c3 c4 c5 c6 c7 c8 c9 c10 c11 c12 c13 c14 c15
  have HB1 := Lib.hid (hbw.trans (hb.mono hbw.size))
  have hbx1 := hbx.below hb
  have hsz1 : w.heap.size < w1.heap.size := hbx1.lt
  obtain ⟨_, c11, c12, c13, c14, c15⟩ := face_cells hbx1
  clear hb hbw hbx
  cases p1 with
  | false =>
    have HE : Hid (false = res) := Lib.hid (by rw [← hres.out]; simp [faceB, hp1.out])
    go_wp2_with fail
    go_ret
    exact ⟨ret_bool rfl HE.out, HB1.out⟩
  | true =>
    have HBad : Hid ((toB d.size 65536 4194304 && toB d.step 0 50 && toB d.up 0 8 && toB d.down 0 8) = false → false = res) := Lib.hid fun h => by
      rw [← hres.out]; unfold faceB; rw [hp1.out]; revert h
      cases toB d.size 65536 4194304 <;> cases toB d.step 0 50 <;> cases toB d.up 0 8 <;> cases toB d.down 0 8 <;> simp
    by_cases m1 : d.size < 65536
    · have HE : Hid (false = res) := Lib.hid (HBad.out (by simp [toB]; omega))
      clear HBad
      go_wp2_with fail
      go_ret
      exact ⟨ret_bool rfl HE.out, HB1.out⟩
    by_cases m2 : 4194304 < d.size
    · have HE : Hid (false = res) := Lib.hid (HBad.out (by simp [toB]; omega))
      clear HBad
      go_wp2_with fail
      go_ret
      exact ⟨ret_bool rfl HE.out, HB1.out⟩
    by_cases m3 : d.step < 0
    · have HE : Hid (false = res) := Lib.hid (HBad.out (by simp [toB]; omega))
      clear HBad
      go_wp2_with fail
      go_ret
      exact ⟨ret_bool rfl HE.out, HB1.out⟩
    by_cases m4 : 50 < d.step
    · have HE : Hid (false = res) := Lib.hid (HBad.out (by simp [toB]; omega))
      clear HBad
      go_wp2_with fail
      go_ret
      exact ⟨ret_bool rfl HE.out, HB1.out⟩
    by_cases m5 : d.up < 0
    · have HE : Hid (false = res) := Lib.hid (HBad.out (by simp [toB]; omega))
      clear HBad
      go_wp2_with fail
      go_ret
      exact ⟨ret_bool rfl HE.out, HB1.out⟩
    by_cases m6 : 8 < d.up
    · have HE : Hid (false = res) := Lib.hid (HBad.out (by simp [toB]; omega))
      clear HBad
      go_wp2_with fail
      go_ret
      exact ⟨ret_bool rfl HE.out, HB1.out⟩
    by_cases m7 : d.down < 0
    · have HE : Hid (false = res) := Lib.hid (HBad.out (by simp [toB]; omega))
      clear HBad
      go_wp2_with fail
      go_ret
      exact ⟨ret_bool rfl HE.out, HB1.out⟩
    by_cases m8 : 8 < d.down
    · have HE : Hid (false = res) := Lib.hid (HBad.out (by simp [toB]; omega))
      clear HBad
      go_wp2_with fail
      go_ret
      exact ⟨ret_bool rfl HE.out, HB1.out⟩
    have HG : Hid (faceB d = !wrongT (-1) d.traits) := Lib.hid (by
      have e1 : toB d.size 65536 4194304 = true := by simp [toB]; omega
      have e2 : toB d.step 0 50 = true := by simp [toB]; omega
      have e3 : toB d.up 0 8 = true := by simp [toB]; omega
      have e4 : toB d.down 0 8 = true := by simp [toB]; omega
      unfold faceB; rw [hp1.out, e1, e2, e3, e4]; rfl)
    have HK : Hid (∀ wr, Below w1.heap.size w1 wr → Box wr w.heap.size (faceCells d a) 29) := Lib.hid fun wr hb => hbx1.below hb
    clear HBad
    go_wp2_with fail
    clear c11 c12 c13 c14 c15 hbx1 m1 m2 m3 m4 m5 m6 m7 m8
    go_loopw [4] (fun i wr => ∃ k : Nat, i = .int .i64 k ∧ k ≤ d.traits.length ∧ Below w1.heap.size w1 wr ∧ Hid (wrongT (-1) d.traits = wrongT (lastOf d.traits k) (d.traits.drop k) ∧ -1 ≤ lastOf d.traits k ∧ (k = 0 ∨ 0 ≤ lastOf d.traits k))) (fun i _ => d.traits.length - (intOf i).toNat)
    case atStart => exact ⟨0, rfl, by omega, Below.refl _ _, Lib.hid ⟨by simp [lastOf], by simp [lastOf], .inl rfl⟩⟩
    case round =>
      obtain ⟨k, rfl, hk, HL, HS⟩ := hrel
      rename World => wr
      have hbr := HK.out wr HL
      have HBr : Hid (Below w.heap.size w wr) := Lib.hid (HB1.out.trans (HL.mono (Nat.le_of_lt hsz1)))
      have c15 := (face_cells hbr).2.2.2.2.2
      have hszr := HL.size
      by_cases hlt : k < d.traits.length
      · obtain ⟨x, hx⟩ := at_lt hlt
        obtain ⟨b, o, hA, hbl, ⟨z0, z1, z2, z3⟩, _⟩ := step_at (HRw.out wr HBr.out) hx
        have HS1 : Hid (wrongT (-1) d.traits = (badT (lastOf d.traits k) x || wrongT x.1 (d.traits.drop (k + 1)))) := Lib.hid (by rw [HS.out.1, drop_cons hx]; rfl)
        have HLa : Hid (lastOf d.traits (k + 1) = x.1) := Lib.hid (by simp [lastOf, List.getD_eq_getElem?_getD, hx])
        rw [hA] at c15
        obtain ⟨t0, t1, t2, t3⟩ := x
        dsimp only at z0 z1 z2 z3 HS1 HLa
        have HBad : Hid (badT (lastOf d.traits k) (t0, t1, t2, t3) = true → false = res) := Lib.hid fun h => by rw [← hres.out, HG.out, HS1.out, h]; rfl
        have hbn := Box.new wr #[.int .i64 t0, .int .i64 t1, .int .i64 t2, .int .i64 t3] 63
        have HBn : Hid (Below w1.heap.size w1 (wr.alloc (.cells #[.int .i64 t0, .int .i64 t1, .int .i64 t2, .int .i64 t3] 63))) := Lib.hid (HL.alloc hszr _)
        have HBe : Hid (Below w.heap.size w (wr.alloc (.cells #[.int .i64 t0, .int .i64 t1, .int .i64 t2, .int .i64 t3] 63))) := Lib.hid (below_alloc HBr.out _)
        have hbr2 := hbr.alloc (.cells #[.int .i64 t0, .int .i64 t1, .int .i64 t2, .int .i64 t3] 63)
        have hprev : k = 0 ∨ ∃ (j : Nat) (y : StepT), k = j + 1 ∧ d.traits[j]? = some y ∧ lastOf d.traits k = y.1 := by
          cases k with
          | zero => exact .inl rfl
          | succ j =>
            obtain ⟨y, hy⟩ := at_lt (l := d.traits) (i := j) (by omega)
            exact .inr ⟨j, y, rfl, hy, by simp [lastOf, List.getD_eq_getElem?_getD, hy]⟩
        go_upto_region 8 with fail
        generalize hWn : wr.alloc (.cells #[.int .i64 t0, .int .i64 t1, .int .i64 t2, .int .i64 t3] 63) = wn at *
        have s0 : wn.cell? ⟨wr.heap.size, 0, none⟩ = some (.int .i64 t0) := hbn.cell 0 rfl
        have s1 : wn.cell? ⟨wr.heap.size, 1, none⟩ = some (.int .i64 t1) := hbn.cell 1 rfl
        have s2 : wn.cell? ⟨wr.heap.size, 2, none⟩ = some (.int .i64 t2) := hbn.cell 2 rfl
        have s3 : wn.cell? ⟨wr.heap.size, 3, none⟩ = some (.int .i64 t3) := hbn.cell 3 rfl
        have c15 := (face_cells hbr2).2.2.2.2.2
        rw [hA] at c15
        clear z0 z1 z2 z3 hbr hbn hbr2 hWn
        rcases hprev with rfl | ⟨j, y, rfl, hy, hly⟩
        · have HS0 : Hid (lastOf d.traits 0 = -1) := Lib.hid rfl
          clear hx hA
          have F0 : ((0 : Int) < ((0 : Nat) : Int)) = False := eq_false (by omega)
          have F00 : ((0 : Nat) < 0) = False := eq_false (by omega)
          by_cases j1 : t0 < 0
          · have HE : Hid (false = res) := Lib.hid (HBad.out (by rw [HS0.out]; simp [badT, toB]; omega))
            have Fj1 := eq_true j1
            clear HBad HS1 HLa HS
            go_big_quiet (fail)
            go_wp2_with fail
            go_ret
            exact ⟨ret_bool rfl HE.out, below_drewN HBe.out _⟩
          have Fj1 := eq_false j1
          by_cases j2 : 255 < t0
          · have HE : Hid (false = res) := Lib.hid (HBad.out (by rw [HS0.out]; simp [badT, toB]; omega))
            have Fj2 := eq_true j2
            clear HBad HS1 HLa HS
            go_big_quiet (fail)
            go_wp2_with fail
            go_ret
            exact ⟨ret_bool rfl HE.out, below_drewN HBe.out _⟩
          have Fj2 := eq_false j2
          by_cases j4 : t1 < 0
          · have HE : Hid (false = res) := Lib.hid (HBad.out (by rw [HS0.out]; simp [badT, toB]; omega))
            have Fj4 := eq_true j4
            clear HBad HS1 HLa HS
            go_big_quiet (fail)
            go_wp2_with fail
            go_ret
            exact ⟨ret_bool rfl HE.out, below_drewN HBe.out _⟩
          have Fj4 := eq_false j4
          by_cases j5 : 1000 < t1
          · have HE : Hid (false = res) := Lib.hid (HBad.out (by rw [HS0.out]; simp [badT, toB]; omega))
            have Fj5 := eq_true j5
            clear HBad HS1 HLa HS
            go_big_quiet (fail)
            go_wp2_with fail
            go_ret
            exact ⟨ret_bool rfl HE.out, below_drewN HBe.out _⟩
          have Fj5 := eq_false j5
          by_cases j6 : t2 < -1000
          · have HE : Hid (false = res) := Lib.hid (HBad.out (by rw [HS0.out]; simp [badT, toB]; omega))
            have Fj6 := eq_true j6
            clear HBad HS1 HLa HS
            go_big_quiet (fail)
            go_wp2_with fail
            go_ret
            exact ⟨ret_bool rfl HE.out, below_drewN HBe.out _⟩
          have Fj6 := eq_false j6
          by_cases j7 : 1000 < t2
          · have HE : Hid (false = res) := Lib.hid (HBad.out (by rw [HS0.out]; simp [badT, toB]; omega))
            have Fj7 := eq_true j7
            clear HBad HS1 HLa HS
            go_big_quiet (fail)
            go_wp2_with fail
            go_ret
            exact ⟨ret_bool rfl HE.out, below_drewN HBe.out _⟩
          have Fj7 := eq_false j7
          by_cases j8 : t3 < -1000
          · have HE : Hid (false = res) := Lib.hid (HBad.out (by rw [HS0.out]; simp [badT, toB]; omega))
            have Fj8 := eq_true j8
            clear HBad HS1 HLa HS
            go_big_quiet (fail)
            go_wp2_with fail
            go_ret
            exact ⟨ret_bool rfl HE.out, below_drewN HBe.out _⟩
          have Fj8 := eq_false j8
          by_cases j9 : 1000 < t3
          · have HE : Hid (false = res) := Lib.hid (HBad.out (by rw [HS0.out]; simp [badT, toB]; omega))
            have Fj9 := eq_true j9
            clear HBad HS1 HLa HS
            go_big_quiet (fail)
            go_wp2_with fail
            go_ret
            exact ⟨ret_bool rfl HE.out, below_drewN HBe.out _⟩
          have Fj9 := eq_false j9
          have HN : Hid (wrongT (-1) d.traits = wrongT (lastOf d.traits (0 + 1)) (d.traits.drop (0 + 1)) ∧ -1 ≤ lastOf d.traits (0 + 1) ∧ (0 + 1 = 0 ∨ 0 ≤ lastOf d.traits (0 + 1))) := Lib.hid (by
            have hb : badT (lastOf d.traits 0) (t0, t1, t2, t3) = false := by rw [HS0.out]; simp [badT, toB]; omega
            refine ⟨by rw [HS1.out, hb, HLa.out]; rfl, by rw [HLa.out]; omega, .inr (by rw [HLa.out]; omega)⟩)
          clear HBad HS1 HLa HS
          go_big_quiet (fail)
          go_wp2_with fail
          go_roundw
          case rel => exact ⟨0 + 1, by go_num, by omega, below_drewN HBn.out _, HN⟩
          case measure => simp [intOf]; omega
        · obtain ⟨b', o', hA', hbl', ⟨y0, _⟩, _⟩ := step_at (HRw.out wn HBe.out) hy
          rw [hA] at hA'
          cases hA'
          have HS0 : Hid (lastOf d.traits (j + 1) = y.1 ∧ 0 ≤ y.1) := Lib.hid ⟨hly, by have := HS.out.2.2; rw [hly] at this; omega⟩
          obtain ⟨v, w1', w2', w3'⟩ := y
          dsimp only at y0 HS0
          have F0 : ((0 : Int) < ((j + 1 : Nat) : Int)) = True := eq_true (by omega)
          have F00 : ((0 : Nat) < j + 1) = True := eq_true (by omega)
          have F000 : ((0 : Int) < (j : Int) + 1) = True := eq_true (by omega)
          have G1 : IntKind.i64.wrap (((j + 1 : Nat) : Int) - 1) = (j : Int) := by rw [IntKind.wrap_i64]; omega
          have G2 : IntKind.i64.wrap ((j : Int) + 1 - 1) = (j : Int) := by rw [IntKind.wrap_i64]; omega
          have G3 : (0 : Int) ≤ (j : Int) := by omega
          have G4 : (j : Int) < (d.traits.length : Int) := by omega
          have G5 : ((j : Int).toNat) = j := by omega
          clear hx hA hy hly
          by_cases j1 : t0 < 0
          · have HE : Hid (false = res) := Lib.hid (HBad.out (by have h0 := HS0.out.2; rw [HS0.out.1]; simp [badT, toB]; omega))
            have Fj1 := eq_true j1
            clear HBad HS1 HLa HS
            go_big_quiet (fail)
            go_wp2_with fail
            go_ret
            exact ⟨ret_bool rfl HE.out, below_drewN HBe.out _⟩
          have Fj1 := eq_false j1
          by_cases j2 : 255 < t0
          · have HE : Hid (false = res) := Lib.hid (HBad.out (by have h0 := HS0.out.2; rw [HS0.out.1]; simp [badT, toB]; omega))
            have Fj2 := eq_true j2
            clear HBad HS1 HLa HS
            go_big_quiet (fail)
            go_wp2_with fail
            go_ret
            exact ⟨ret_bool rfl HE.out, below_drewN HBe.out _⟩
          have Fj2 := eq_false j2
          by_cases j3 : t0 ≤ v
          · have HE : Hid (false = res) := Lib.hid (HBad.out (by have h0 := HS0.out.2; rw [HS0.out.1]; simp [badT, toB]; omega))
            have Fj3 := eq_true j3
            clear HBad HS1 HLa HS
            go_big_quiet (fail)
            go_wp2_with fail
            go_ret
            exact ⟨ret_bool rfl HE.out, below_drewN HBe.out _⟩
          have Fj3 := eq_false j3
          by_cases j4 : t1 < 0
          · have HE : Hid (false = res) := Lib.hid (HBad.out (by have h0 := HS0.out.2; rw [HS0.out.1]; simp [badT, toB]; omega))
            have Fj4 := eq_true j4
            clear HBad HS1 HLa HS
            go_big_quiet (fail)
            go_wp2_with fail
            go_ret
            exact ⟨ret_bool rfl HE.out, below_drewN HBe.out _⟩
          have Fj4 := eq_false j4
          by_cases j5 : 1000 < t1
          · have HE : Hid (false = res) := Lib.hid (HBad.out (by have h0 := HS0.out.2; rw [HS0.out.1]; simp [badT, toB]; omega))
            have Fj5 := eq_true j5
            clear HBad HS1 HLa HS
            go_big_quiet (fail)
            go_wp2_with fail
            go_ret
            exact ⟨ret_bool rfl HE.out, below_drewN HBe.out _⟩
          have Fj5 := eq_false j5
          by_cases j6 : t2 < -1000
          · have HE : Hid (false = res) := Lib.hid (HBad.out (by have h0 := HS0.out.2; rw [HS0.out.1]; simp [badT, toB]; omega))
            have Fj6 := eq_true j6
            clear HBad HS1 HLa HS
            go_big_quiet (fail)
            go_wp2_with fail
            go_ret
            exact ⟨ret_bool rfl HE.out, below_drewN HBe.out _⟩
          have Fj6 := eq_false j6
          by_cases j7 : 1000 < t2
          · have HE : Hid (false = res) := Lib.hid (HBad.out (by have h0 := HS0.out.2; rw [HS0.out.1]; simp [badT, toB]; omega))
            have Fj7 := eq_true j7
            clear HBad HS1 HLa HS
            go_big_quiet (fail)
            go_wp2_with fail
            go_ret
            exact ⟨ret_bool rfl HE.out, below_drewN HBe.out _⟩
          have Fj7 := eq_false j7
          by_cases j8 : t3 < -1000
          · have HE : Hid (false = res) := Lib.hid (HBad.out (by have h0 := HS0.out.2; rw [HS0.out.1]; simp [badT, toB]; omega))
            have Fj8 := eq_true j8
            clear HBad HS1 HLa HS
            go_big_quiet (fail)
            go_wp2_with fail
            go_ret
            exact ⟨ret_bool rfl HE.out, below_drewN HBe.out _⟩
          have Fj8 := eq_false j8
          by_cases j9 : 1000 < t3
          · have HE : Hid (false = res) := Lib.hid (HBad.out (by have h0 := HS0.out.2; rw [HS0.out.1]; simp [badT, toB]; omega))
            have Fj9 := eq_true j9
            clear HBad HS1 HLa HS
            go_big_quiet (fail)
            go_wp2_with fail
            go_ret
            exact ⟨ret_bool rfl HE.out, below_drewN HBe.out _⟩
          have Fj9 := eq_false j9
          have HN : Hid (wrongT (-1) d.traits = wrongT (lastOf d.traits ((j + 1) + 1)) (d.traits.drop ((j + 1) + 1)) ∧ -1 ≤ lastOf d.traits ((j + 1) + 1) ∧ ((j + 1) + 1 = 0 ∨ 0 ≤ lastOf d.traits ((j + 1) + 1))) := Lib.hid (by
            have hb : badT (lastOf d.traits (j + 1)) (t0, t1, t2, t3) = false := by rw [HS0.out.1]; simp [badT, toB]; omega
            refine ⟨by rw [HS1.out, hb, HLa.out]; rfl, by rw [HLa.out]; omega, .inr (by rw [HLa.out]; omega)⟩)
          clear HBad HS1 HLa HS
          go_big_quiet (fail)
          go_wp2_with fail
          go_roundw
          case rel => exact ⟨(j + 1) + 1, by go_num, by omega, below_drewN HBn.out _, HN⟩
          case measure => simp [intOf]; omega
      · have HE : Hid (true = res) := Lib.hid (by rw [← hres.out, HG.out, HS.out.1, List.drop_eq_nil_of_le (by omega)]; rfl)
        clear HS hbr
        go_wp2_with fail
        go_ret
        exact ⟨ret_bool rfl HE.out, HBr.out⟩
end Go.Proofs.YtndpdbofoojkhaaGreat.RLv
