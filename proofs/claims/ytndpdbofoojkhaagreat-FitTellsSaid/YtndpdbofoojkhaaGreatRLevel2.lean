/- The reference: a face's widths, kerns, and what stands out. -/
import Derived.Test.YtndpdbofoojkhaaGreatRLevel1
import Derived.Test.YtndpdbofoojkhaaGreatLevel8
namespace Go.Proofs.YtndpdbofoojkhaaGreat.RLv
open Go.RowKit Go.Proofs.YtndpdbofoojkhaaGreat.Kit Go.Proofs.YtndpdbofoojkhaaGreat.Fo Go.Proofs.YtndpdbofoojkhaaGreat.Lv Go.Proofs.YtndpdbofoojkhaaGreat.RFo
set_option linter.unusedVariables false
set_option linter.unusedSimpArgs false

theorem Box.drewN {w : World} {g : Nat} {cs : Array Value} {t : TypeId} (h : Box w g cs t) : ∀ n, Box (w.drewN n) g cs t := fun n => h.below (below_drewN (Below.refl _ _) n)
set_option maxRecDepth 100000 in
set_option maxHeartbeats 8000000 in
theorem kerned9_any (d : FaceD) (a : FaceA) (x n : Int) (w : World) (hu : 0 ≤ d.up ∧ d.up ≤ 8) (hd : 0 ≤ d.down ∧ d.down ≤ 8) :
    Calls Tryz.prog 97 #[faceV d a, .int .i64 x, .int .i64 n] w fun e w' => e = .returned (.int .i64 (kernP d x n)) ∧ Below w.heap.size w w' := by
  have hbx := Box.new w (faceCells d a) 29
  have hbw := (Below.refl w.heap.size w).alloc (Nat.le_refl _) (.cells (faceCells d a) 29)
  obtain ⟨W1, hW⟩ : ∃ W1, w.alloc (.cells (faceCells d a) 29) = W1 := ⟨_, rfl⟩
  rw [hW] at hbx hbw
  obtain ⟨⟨c0, c1, c2, c3, c4, c5, c6, c7, c8, c9, c10⟩, c11, c12, c13, c14, c15⟩ := face_cells hbx
  have HCl : Hid (∀ w, _) := Lib.hid fun w => clamp9_any d a n w hu hd
  have HFp : Hid (∀ w, _) := Lib.hid (floor9_any x d.size 1048576)
  have HR : Hid (kernP d x n = IntKind.i64.wrap (fl x d.size 1048576 + fl (fl x d.size 1048576) (IntKind.i64.wrap (clampP d n * d.step)) 1000)) := Lib.hid (by simp only [kernP, wrap64, IntKind.wrap_i64])
  generalize fl x d.size 1048576 = p at *
  obtain ⟨m1, hm1⟩ : ∃ m, IntKind.i64.wrap (clampP d n * d.step) = m := ⟨_, rfl⟩
  rw [hm1] at HR
  have HFl : Hid (∀ w, _) := Lib.hid (floor9_any p m1 1000)
  generalize fl p m1 1000 = f at *
  obtain ⟨r, hr⟩ : ∃ m, IntKind.i64.wrap (p + f) = m := ⟨_, rfl⟩
  rw [hr] at HR
  rw [HR.out]
  clear hu hd HR
  unfold faceV faceCells at HCl
  go_enter Tryz.func97, Tryz.ntmps97
  go_wp2_with fail
  with_reducible refine (HFp.out _).mono ?_; rintro e w1 ⟨rfl, hb⟩
  have hw1 := hbw.trans (hb.mono hbw.size)
  have hbx1 := hbx.below hb
  clear hW HFp hb c0 c1 c2 c3 c4 c5 c6 c7 c8 c9 c10 c11 c12 c13 c14 c15 hbw hbx
  obtain ⟨⟨c0, c1, c2, c3, c4, c5, c6, c7, c8, c9, c10⟩, c11, c12, c13, c14, c15⟩ := face_cells hbx1
  have HK : Hid (∀ w', Below w1.heap.size w1 w' → Below w1.heap.size w1 w' ∧ w'.cell? ⟨w.heap.size, 0, none⟩ = some (.int .i64 d.font.sum) ∧ w'.cell? ⟨w.heap.size, 1, none⟩ = some (.int .i64 d.font.design) ∧ w'.cell? ⟨w.heap.size, 2, none⟩ = some (.int .i64 d.font.first) ∧ w'.cell? ⟨w.heap.size, 3, none⟩ = some (.slice a.font.c d.font.chars.length a.font.cc) ∧ w'.cell? ⟨w.heap.size, 4, none⟩ = some (.slice a.font.w d.font.widths.length a.font.cw) ∧ w'.cell? ⟨w.heap.size, 5, none⟩ = some (.slice a.font.h d.font.heights.length a.font.ch) ∧ w'.cell? ⟨w.heap.size, 6, none⟩ = some (.slice a.font.d d.font.depths.length a.font.cd) ∧ w'.cell? ⟨w.heap.size, 7, none⟩ = some (.slice a.font.i d.font.italics.length a.font.ci) ∧ w'.cell? ⟨w.heap.size, 8, none⟩ = some (.slice a.font.s d.font.steps.length a.font.cs) ∧ w'.cell? ⟨w.heap.size, 9, none⟩ = some (.slice a.font.k d.font.kerns.length a.font.ck) ∧ w'.cell? ⟨w.heap.size, 10, none⟩ = some (.slice a.font.p d.font.params.length a.font.cp) ∧ w'.cell? ⟨w.heap.size, 11, none⟩ = some (.int .i64 d.size) ∧ w'.cell? ⟨w.heap.size, 12, none⟩ = some (.int .i64 d.step) ∧ w'.cell? ⟨w.heap.size, 13, none⟩ = some (.int .i64 d.up) ∧ w'.cell? ⟨w.heap.size, 14, none⟩ = some (.int .i64 d.down) ∧ w'.cell? ⟨w.heap.size, 15, none⟩ = some (.slice a.t d.traits.length a.ct)) := Lib.hid fun w' hb => ⟨hb, later hb c0, later hb c1, later hb c2, later hb c3, later hb c4, later hb c5, later hb c6, later hb c7, later hb c8, later hb c9, later hb c10, later hb c11, later hb c12, later hb c13, later hb c14, later hb c15⟩
  clear hbx1 c0 c1 c2 c3 c4 c5 c6 c7 c8 c9 c10 c11 c12 c13 c14 c15
  go_upto_region 2 with fail
  go_region_held3 (fun w' => Below w1.heap.size w1 w' ∧ w'.cell? ⟨w.heap.size, 0, none⟩ = some (.int .i64 d.font.sum) ∧ w'.cell? ⟨w.heap.size, 1, none⟩ = some (.int .i64 d.font.design) ∧ w'.cell? ⟨w.heap.size, 2, none⟩ = some (.int .i64 d.font.first) ∧ w'.cell? ⟨w.heap.size, 3, none⟩ = some (.slice a.font.c d.font.chars.length a.font.cc) ∧ w'.cell? ⟨w.heap.size, 4, none⟩ = some (.slice a.font.w d.font.widths.length a.font.cw) ∧ w'.cell? ⟨w.heap.size, 5, none⟩ = some (.slice a.font.h d.font.heights.length a.font.ch) ∧ w'.cell? ⟨w.heap.size, 6, none⟩ = some (.slice a.font.d d.font.depths.length a.font.cd) ∧ w'.cell? ⟨w.heap.size, 7, none⟩ = some (.slice a.font.i d.font.italics.length a.font.ci) ∧ w'.cell? ⟨w.heap.size, 8, none⟩ = some (.slice a.font.s d.font.steps.length a.font.cs) ∧ w'.cell? ⟨w.heap.size, 9, none⟩ = some (.slice a.font.k d.font.kerns.length a.font.ck) ∧ w'.cell? ⟨w.heap.size, 10, none⟩ = some (.slice a.font.p d.font.params.length a.font.cp) ∧ w'.cell? ⟨w.heap.size, 11, none⟩ = some (.int .i64 d.size) ∧ w'.cell? ⟨w.heap.size, 12, none⟩ = some (.int .i64 d.step) ∧ w'.cell? ⟨w.heap.size, 13, none⟩ = some (.int .i64 d.up) ∧ w'.cell? ⟨w.heap.size, 14, none⟩ = some (.int .i64 d.down) ∧ w'.cell? ⟨w.heap.size, 15, none⟩ = some (.slice a.t d.traits.length a.ct))
    (first | exact HK.out _ (by repeat (first | (with_reducible exact Below.refl _ _) | (with_reducible apply below_drew) | (with_reducible refine below_join ?_ (by assumption)) | exact (‹Below w1.heap.size w1 _ ∧ _›.1))))
    (first
      | (go_at_call 116; with_reducible refine (HCl.out _).mono ?_; rintro e wq ⟨rfl, hbq⟩)
      | (go_at_call 99; with_reducible refine (HFl.out _).mono ?_; rintro e wq ⟨rfl, hbq⟩))
  have hend := below_join hw1 ‹Below w1.heap.size w1 _ ∧ _›.1
  go_wp2_with fail
  go_ret
  exact ⟨rfl, hend⟩
set_option maxRecDepth 100000 in
set_option maxHeartbeats 8000000 in
theorem wide9_any (d : FaceD) (a : FaceA) (code n : Int) (w : World) {B : Nat} (hB : B ≤ w.heap.size) (hF : FaceIn w B d a) (hc : (Lit.int .i64 code).wf = true) (hf : faceB d = true) (hq : hasB d.font code = true) :
    Calls Tryz.prog 96 #[faceV d a, .int .i64 code, .int .i64 n] w fun e w' => e = .returned (.int .i64 (wideP d code n)) ∧ Below w.heap.size w w' := by
  have hbx := Box.new w (faceCells d a) 29
  have hbw := (Below.refl w.heap.size w).alloc (Nat.le_refl _) (.cells (faceCells d a) 29)
  obtain ⟨W1, hW⟩ : ∃ W1, w.alloc (.cells (faceCells d a) 29) = W1 := ⟨_, rfl⟩
  rw [hW] at hbx hbw
  obtain ⟨⟨c0, c1, c2, c3, c4, c5, c6, c7, c8, c9, c10⟩, c11, c12, c13, c14, c15⟩ := face_cells hbx
  obtain ⟨hlig, hsz, hst, hu, hd, hwt⟩ := face_ok hf
  have htfm := lig_tfm hlig
  have HCl : Hid (∀ w, _) := Lib.hid fun w => clamp9_any d a n w hu hd
  have HFF : Hid (∀ W, Below w.heap.size w W → FaceIn W B d a) := Lib.hid fun W (hb : Below w.heap.size w W) => hF.mono (hb.mono hB)
  have HTr : Hid (∀ W, Below w.heap.size w W → _) := Lib.hid fun W (hb : Below w.heap.size w W) => trait9_any d a code W (lt_of_below hB hb) (HFF.out W hb)
  have hFc := HFF.out W1 hbw
  obtain ⟨s1, s2, s3, s4, s5, s6, s7⟩ := tfm_sizes htfm
  have hqq := hq
  unfold hasB at hqq
  simp only [Bool.and_eq_true, decide_eq_true_eq] at hqq
  obtain ⟨⟨q1, q2⟩, q3⟩ := hqq
  obtain ⟨k, hcode⟩ : ∃ k : Nat, code - d.font.first = k := ⟨(code - d.font.first).toNat, by omega⟩
  have hk : k < d.font.chars.length := by omega
  obtain ⟨c, hck⟩ := at_lt hk
  obtain ⟨x1, x2⟩ := width_ok htfm hck
  obtain ⟨j, hj⟩ : ∃ j : Nat, c.1 = j := ⟨c.1.toNat, by omega⟩
  have hjl : j < d.font.widths.length := by omega
  obtain ⟨x, hxj⟩ := at_lt hjl
  have HX : Hid (fixOf d.font code = x) := Lib.hid (by
    have e : (code - d.font.first).toNat = k := by omega
    simp [fixOf, widthOf, e, List.getD_eq_getElem?_getD, hck, hj, hxj])
  obtain ⟨b1, o1, hA1, hl1, ⟨e0, _⟩, _⟩ := char_at hFc.font.chars hck
  obtain ⟨b2, o2, hA2, hl2, e1, _⟩ := int_at hFc.font.widths hxj
  rw [hj] at e0
  have HA1 := Lib.hid hA1
  have HA2 := Lib.hid hA2
  rw [hA1] at c3
  rw [hA2] at c4
  obtain ⟨T, hT⟩ : ∃ T, rtraitP d.traits code = T := ⟨_, rfl⟩
  have hT2 : (traitP d.traits code).2 = T.2 := by rw [← rtrait_eq, hT]
  have HFp : Hid (∀ w, _) := Lib.hid (floor9_any x d.size 1048576)
  have HWD : Hid (wideP d code n = IntKind.i64.wrap (fl x d.size 1048576 + fl (fl x d.size 1048576) (IntKind.i64.wrap (IntKind.i64.wrap (clampP d n * d.step) * T.2.1)) 1000000)) := Lib.hid (by rw [wideP, HX.out, hT2])
  rw [hT] at HTr
  clear hT hT2
  generalize fl x d.size 1048576 = p at *
  obtain ⟨m1, hm1⟩ : ∃ m, IntKind.i64.wrap (clampP d n * d.step) = m := ⟨_, rfl⟩
  rw [hm1] at HWD
  obtain ⟨m2, hm2⟩ : ∃ m, IntKind.i64.wrap (m1 * T.2.1) = m := ⟨_, rfl⟩
  rw [hm2] at HWD
  have HFl : Hid (∀ w, _) := Lib.hid (floor9_any p m2 1000000)
  generalize fl p m2 1000000 = f at *
  obtain ⟨r, hr⟩ : ∃ m, IntKind.i64.wrap (p + f) = m := ⟨_, rfl⟩
  rw [hr] at HWD
  rw [HWD.out]
  unfold faceV faceCells at HCl HTr
  unfold stepV at HTr
  have ew : IntKind.i64.wrap (code - d.font.first) = (k : Int) := by rw [IntKind.wrap_i64]; omega
  have ewk : IntKind.i64.wrap (k : Int) = (k : Int) := by rw [IntKind.wrap_i64]; omega
  clear hcode
  have ek0 : (0 : Int) ≤ (k : Int) := by omega
  have ek1 : (k : Int) < (d.font.chars.length : Int) := by omega
  have ej0 : (0 : Int) ≤ (j : Int) := by omega
  have ej1 : (j : Int) < (d.font.widths.length : Int) := by omega
  have i1 : -9223372036854775808 ≤ code := by omega
  have i2 : code ≤ 9223372036854775807 := by omega
  have Hm1 := Lib.hid hm1
  have Hm2 := Lib.hid hm2
  have Hr := Lib.hid hr
  clear hFc hck hxj hj x1 x2 hA1 hA2 q3 hq hf hlig hsz hst hu hd hwt htfm HWD HX hF hm1 hm2 hr
  go_enter Tryz.func96, Tryz.ntmps96
  go_upto_region 1 with fail
  go_big_quiet (fail)
  have hbx0 := Box.drewN hbx nq
  have hbw0 := below_drewN hbw nq
  clear c0 c1 c2 c3 c4 c5 c6 c7 c8 c9 c10 c11 c12 c13 c14 c15 e0 e1 ew ewk hW
  generalize W1.drewN nq = W2 at *
  clear hbx hbw
  obtain ⟨⟨c0, c1, c2, c3, c4, c5, c6, c7, c8, c9, c10⟩, c11, c12, c13, c14, c15⟩ := face_cells hbx0
  go_wp2_with fail
  with_reducible refine (HFp.out _).mono ?_; rintro e w1 ⟨rfl, hb⟩
  have hw1 := hbw0.trans (hb.mono hbw0.size)
  have hbx1 := hbx0.below hb
  clear HFp hb c0 c1 c2 c3 c4 c5 c6 c7 c8 c9 c10 c11 c12 c13 c14 c15 hbw0 hbx0
  obtain ⟨⟨c0, c1, c2, c3, c4, c5, c6, c7, c8, c9, c10⟩, c11, c12, c13, c14, c15⟩ := face_cells hbx1
  have HK : Hid (∀ w', Below w1.heap.size w1 w' → Below w1.heap.size w1 w' ∧ w'.cell? ⟨w.heap.size, 0, none⟩ = some (.int .i64 d.font.sum) ∧ w'.cell? ⟨w.heap.size, 1, none⟩ = some (.int .i64 d.font.design) ∧ w'.cell? ⟨w.heap.size, 2, none⟩ = some (.int .i64 d.font.first) ∧ w'.cell? ⟨w.heap.size, 3, none⟩ = some (.slice a.font.c d.font.chars.length a.font.cc) ∧ w'.cell? ⟨w.heap.size, 4, none⟩ = some (.slice a.font.w d.font.widths.length a.font.cw) ∧ w'.cell? ⟨w.heap.size, 5, none⟩ = some (.slice a.font.h d.font.heights.length a.font.ch) ∧ w'.cell? ⟨w.heap.size, 6, none⟩ = some (.slice a.font.d d.font.depths.length a.font.cd) ∧ w'.cell? ⟨w.heap.size, 7, none⟩ = some (.slice a.font.i d.font.italics.length a.font.ci) ∧ w'.cell? ⟨w.heap.size, 8, none⟩ = some (.slice a.font.s d.font.steps.length a.font.cs) ∧ w'.cell? ⟨w.heap.size, 9, none⟩ = some (.slice a.font.k d.font.kerns.length a.font.ck) ∧ w'.cell? ⟨w.heap.size, 10, none⟩ = some (.slice a.font.p d.font.params.length a.font.cp) ∧ w'.cell? ⟨w.heap.size, 11, none⟩ = some (.int .i64 d.size) ∧ w'.cell? ⟨w.heap.size, 12, none⟩ = some (.int .i64 d.step) ∧ w'.cell? ⟨w.heap.size, 13, none⟩ = some (.int .i64 d.up) ∧ w'.cell? ⟨w.heap.size, 14, none⟩ = some (.int .i64 d.down) ∧ w'.cell? ⟨w.heap.size, 15, none⟩ = some (.slice a.t d.traits.length a.ct)) := Lib.hid fun w' hb => ⟨hb, later hb c0, later hb c1, later hb c2, later hb c3, later hb c4, later hb c5, later hb c6, later hb c7, later hb c8, later hb c9, later hb c10, later hb c11, later hb c12, later hb c13, later hb c14, later hb c15⟩
  clear hbx1 c0 c1 c2 c3 c4 c5 c6 c7 c8 c9 c10 c11 c12 c13 c14 c15
  have hm1 := Hm1.out
  have hm2 := Hm2.out
  have hr := Hr.out
  have hfld := field_trait
  go_upto_region 3 with fail
  go_region_held3 (fun w' => Below w1.heap.size w1 w' ∧ w'.cell? ⟨w.heap.size, 0, none⟩ = some (.int .i64 d.font.sum) ∧ w'.cell? ⟨w.heap.size, 1, none⟩ = some (.int .i64 d.font.design) ∧ w'.cell? ⟨w.heap.size, 2, none⟩ = some (.int .i64 d.font.first) ∧ w'.cell? ⟨w.heap.size, 3, none⟩ = some (.slice a.font.c d.font.chars.length a.font.cc) ∧ w'.cell? ⟨w.heap.size, 4, none⟩ = some (.slice a.font.w d.font.widths.length a.font.cw) ∧ w'.cell? ⟨w.heap.size, 5, none⟩ = some (.slice a.font.h d.font.heights.length a.font.ch) ∧ w'.cell? ⟨w.heap.size, 6, none⟩ = some (.slice a.font.d d.font.depths.length a.font.cd) ∧ w'.cell? ⟨w.heap.size, 7, none⟩ = some (.slice a.font.i d.font.italics.length a.font.ci) ∧ w'.cell? ⟨w.heap.size, 8, none⟩ = some (.slice a.font.s d.font.steps.length a.font.cs) ∧ w'.cell? ⟨w.heap.size, 9, none⟩ = some (.slice a.font.k d.font.kerns.length a.font.ck) ∧ w'.cell? ⟨w.heap.size, 10, none⟩ = some (.slice a.font.p d.font.params.length a.font.cp) ∧ w'.cell? ⟨w.heap.size, 11, none⟩ = some (.int .i64 d.size) ∧ w'.cell? ⟨w.heap.size, 12, none⟩ = some (.int .i64 d.step) ∧ w'.cell? ⟨w.heap.size, 13, none⟩ = some (.int .i64 d.up) ∧ w'.cell? ⟨w.heap.size, 14, none⟩ = some (.int .i64 d.down) ∧ w'.cell? ⟨w.heap.size, 15, none⟩ = some (.slice a.t d.traits.length a.ct))
    (first | exact HK.out _ (by repeat (first | (with_reducible exact Below.refl _ _) | (with_reducible apply below_drew) | (with_reducible refine below_join ?_ (by assumption)) | exact (‹Below w1.heap.size w1 _ ∧ _›.1))))
    (first
      | (go_at_call 116; with_reducible refine (HCl.out _).mono ?_; rintro e wq ⟨rfl, hbq⟩)
      | (go_at_call 98; have hrl := below_join hw1 ‹Below w1.heap.size w1 _ ∧ _›.1; with_reducible refine (HTr.out _ hrl).mono ?_; clear hrl; rintro e wq ⟨rfl, hbq⟩)
      | (go_at_call 99; with_reducible refine (HFl.out _).mono ?_; rintro e wq ⟨rfl, hbq⟩))
  have hend := below_join hw1 ‹Below w1.heap.size w1 _ ∧ _›.1
  go_wp2_with fail
  go_ret
  exact ⟨rfl, hend⟩
set_option maxRecDepth 100000 in
set_option maxHeartbeats 8000000 in
theorem out9_any (d : FaceD) (a : FaceA) (code n : Int) (w : World) {B : Nat} (hB : B ≤ w.heap.size) (hF : FaceIn w B d a) (hc : (Lit.int .i64 code).wf = true) (hf : faceB d = true) (hq : hasB d.font code = true) :
    Calls Tryz.prog 86 #[faceV d a, .int .i64 code, .int .i64 n] w fun e w' => e = .returned (.tuple #[.int .i64 (fl (wideP d code n) (traitP d.traits code).2.2.1 1000), .int .i64 (fl (wideP d code n) (traitP d.traits code).2.2.2 1000)]) ∧ Below w.heap.size w w' := by
  have hbx := Box.new w (faceCells d a) 29
  have hbw := (Below.refl w.heap.size w).alloc (Nat.le_refl _) (.cells (faceCells d a) 29)
  obtain ⟨W1, hW⟩ : ∃ W1, w.alloc (.cells (faceCells d a) 29) = W1 := ⟨_, rfl⟩
  rw [hW] at hbx hbw
  obtain ⟨⟨c0, c1, c2, c3, c4, c5, c6, c7, c8, c9, c10⟩, c11, c12, c13, c14, c15⟩ := face_cells hbx
  have HFF : Hid (∀ W, Below w.heap.size w W → FaceIn W B d a) := Lib.hid fun W (hb : Below w.heap.size w W) => hF.mono (hb.mono hB)
  have H := Lib.hid (wide9_any d a code n W1 (lt_of_below hB hbw) (HFF.out W1 hbw) hc hf hq)
  have HTr : Hid (∀ W, Below w.heap.size w W → _) := Lib.hid fun W (hb : Below w.heap.size w W) => trait9_any d a code W (lt_of_below hB hb) (HFF.out W hb)
  obtain ⟨T, hT⟩ : ∃ T, rtraitP d.traits code = T := ⟨_, rfl⟩
  have hT2 : (traitP d.traits code).2 = T.2 := by rw [← rtrait_eq, hT]
  rw [hT] at HTr
  rw [hT2]
  obtain ⟨T0, T1, T2, T3⟩ := T
  unfold stepV at HTr
  dsimp only at HTr ⊢
  generalize wideP d code n = v at *
  obtain ⟨x1, hx1⟩ : ∃ f, fl v T2 1000 = f := ⟨_, rfl⟩
  obtain ⟨x2, hx2⟩ : ∃ f, fl v T3 1000 = f := ⟨_, rfl⟩
  have HA : Hid (∀ w, _) := Lib.hid (floor9_any v T2 1000)
  have HB : Hid (∀ w, _) := Lib.hid (floor9_any v T3 1000)
  rw [hx1] at HA ⊢
  rw [hx2] at HB ⊢
  clear hx1 hx2 hT hT2 hF HFF hf hq
  go_enter Tryz.func86, Tryz.ntmps86
  go_wp2_with fail
  with_reducible refine H.out.mono ?_; rintro e w1 ⟨rfl, hb⟩
  have hw1 := hbw.trans (hb.mono hbw.size)
  have hbx1 := hbx.below hb
  clear hW H hb c0 c1 c2 c3 c4 c5 c6 c7 c8 c9 c10 c11 c12 c13 c14 c15 hbw hbx
  obtain ⟨⟨c0, c1, c2, c3, c4, c5, c6, c7, c8, c9, c10⟩, c11, c12, c13, c14, c15⟩ := face_cells hbx1
  go_wp2_with fail
  with_reducible refine (HTr.out _ hw1).mono ?_; rintro e w2 ⟨rfl, hb⟩
  have hw2 := below_alloc (hw1.trans (hb.mono hw1.size)) (.cells #[.int .i64 T0, .int .i64 T1, .int .i64 T2, .int .i64 T3] 63)
  have hbn := Box.new w2 #[.int .i64 T0, .int .i64 T1, .int .i64 T2, .int .i64 T3] 63
  clear HTr hb c0 c1 c2 c3 c4 c5 c6 c7 c8 c9 c10 c11 c12 c13 c14 c15 hw1 hbx1
  go_upto_region 3 with fail
  generalize hW3 : w2.alloc (.cells #[.int .i64 T0, .int .i64 T1, .int .i64 T2, .int .i64 T3] 63) = w3 at *
  generalize hg : w2.heap.size = g at *
  clear hW3 hg w2
  have f2 : w3.cell? ⟨g, 2, none⟩ = some (.int .i64 T2) := hbn.cell 2 rfl
  have f3 : w3.cell? ⟨g, 3, none⟩ = some (.int .i64 T3) := hbn.cell 3 rfl
  have HK : Hid (∀ w', Below w3.heap.size w3 w' → Below w3.heap.size w3 w' ∧ w'.cell? ⟨g, 2, none⟩ = some (.int .i64 T2) ∧ w'.cell? ⟨g, 3, none⟩ = some (.int .i64 T3)) := Lib.hid fun w' hb => ⟨hb, later hb f2, later hb f3⟩
  clear hbn f2 f3
  go_region_held3 (fun w' => Below w3.heap.size w3 w' ∧ w'.cell? ⟨g, 2, none⟩ = some (.int .i64 T2) ∧ w'.cell? ⟨g, 3, none⟩ = some (.int .i64 T3))
    (first | exact HK.out _ (by repeat (first | (with_reducible exact Below.refl _ _) | (with_reducible apply below_drew) | (with_reducible refine below_join ?_ (by assumption)) | exact (‹Below w3.heap.size w3 _ ∧ _›.1))))
    (first
      | (go_at_call 99; with_reducible refine (HA.out _).mono ?_; rintro e wq ⟨rfl, hbq⟩)
      | (go_at_call 99; with_reducible refine (HB.out _).mono ?_; rintro e wq ⟨rfl, hbq⟩))
  all_goals
    have hend := below_join hw2 ‹Below w3.heap.size w3 _ ∧ _›.1
    go_wp2_with fail
    go_ret2
    exact ⟨rfl, hend⟩
end Go.Proofs.YtndpdbofoojkhaaGreat.RLv
