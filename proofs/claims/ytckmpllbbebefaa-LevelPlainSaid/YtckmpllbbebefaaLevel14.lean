/- The statement LevelEdges: a character whose trait is 1000 stands out by its whole width. -/
import Derived.Test.YtckmpllbbebefaaLevel13
namespace Go.Proofs.Ytckmpllbbebefaa.Lv
open Go.RowKit Go.Proofs.Ytckmpllbbebefaa.Kit Go.Proofs.Ytckmpllbbebefaa.Fo
set_option linter.unusedVariables false
set_option linter.unusedSimpArgs false

abbrev traited (d : FaceD) (T : StepT) : FaceD := { font := d.font, size := d.size, step := d.step, up := d.up, down := d.down, traits := [T] }
abbrev withA (a : FaceA) (g : Nat) : FaceA := { font := a.font, t := some ⟨g, 0, none⟩, ct := 1 }
theorem traited_in {w V : World} {d : FaceD} {a : FaceA} {g : Nat} {T : StepT} {t : TypeId} (hF : FaceIn w w.heap.size d a) (hb : Below w.heap.size w V) (q : Box V g #[.int .i64 T.1, .int .i64 T.2.1, .int .i64 T.2.2.1, .int .i64 T.2.2.2] t) (hw : (Lit.int .i64 T.1).wf = true ∧ (Lit.int .i64 T.2.1).wf = true ∧ (Lit.int .i64 T.2.2.1).wf = true ∧ (Lit.int .i64 T.2.2.2).wf = true) :
    FaceIn V V.heap.size (traited d T) (withA a g) :=
  ⟨(hF.font.mono hb).up hb.size, hF.size, hF.step, hF.up, hF.down, trait_box q hw, by simp⟩
theorem traited_face {d : FaceD} (hf : faceB d = true) (T : StepT) (h1 : 0 ≤ T.1 ∧ T.1 ≤ 255) (h2 : 0 ≤ T.2.1 ∧ T.2.1 ≤ 1000) (h3 : -1000 ≤ T.2.2.1 ∧ T.2.2.1 ≤ 1000) (h4 : -1000 ≤ T.2.2.2 ∧ T.2.2.2 ≤ 1000) : faceB (traited d T) = true := by
  obtain ⟨hlig, hsz, hst, hu, hd, hwt⟩ := face_ok hf
  unfold faceB toB
  simp only [Bool.and_eq_true, decide_eq_true_eq, Bool.not_eq_true']
  refine ⟨⟨⟨⟨⟨hlig, hsz⟩, hst⟩, hu⟩, hd⟩, ?_⟩
  simp [wrongT, badT, toB]
  omega
theorem traited_bad {d : FaceD} (T : StepT) (h1 : ¬ (0 ≤ T.1 ∧ T.1 ≤ 255)) : faceB (traited d T) = false := by
  have h : wrongT (-1) [T] = true := by
    simp [wrongT, badT, toB]
    omega
  unfold faceB
  rw [show (traited d T).traits = [T] from rfl, h]
  simp
theorem traited_trait (d : FaceD) (T : StepT) : traitP (traited d T).traits T.1 = T := by simp [traitP]
theorem wide_bound {d : FaceD} {code : Int} (n : Int) (hf : faceB d = true) (hq : hasB d.font code = true) : (wideP d code n).natAbs ≤ 200000000 := by
  obtain ⟨hl, hs, hst, hu, hd, hw⟩ := face_ok hf
  have hfx := fixOf_ok (lig_tfm hl) hq
  obtain ⟨t1, _, _⟩ := trait_in (-1) code hw
  obtain ⟨c1, c2⟩ := clamp_in hf n
  have b1 : (clampP d n * d.step).natAbs ≤ 8 * 50 := mul_abs (by omega) (by omega)
  have b2 : (clampP d n * d.step * (traitP d.traits code).2.1).natAbs ≤ 8 * 50 * 1000 := mul_abs b1 (by omega)
  have b4 : (ptW d code).natAbs ≤ 67108865 := pt_bound hf hfx
  have b5 := mul_abs b4 b2
  rw [wide_form n hf hq]
  generalize ptW d code * (clampP d n * d.step * (traitP d.traits code).2.1) = y at *
  generalize ptW d code = p at *
  omega
theorem wide_same {d : FaceD} {T U : StepT} (n : Int) (h1 : T.1 = U.1) (h2 : T.2.1 = U.2.1) : wideP (traited d T) T.1 n = wideP (traited d U) U.1 n := by
  unfold wideP
  rw [traited_trait, traited_trait, h2, h1]
  rfl

set_option maxRecDepth 100000 in
set_option maxHeartbeats 8000000 in
theorem eg_few (d : FaceD) (a : FaceA) (code n : Int) (w : World) (hF : FaceIn w w.heap.size d a) (hc : (Lit.int .i64 code).wf = true) (hn : (Lit.int .i8 n).wf = true) (hfew : fewB d = false) :
    Calls Try.prog 7 #[faceV d a, .int .i64 code, .int .i8 n] w fun e w' => e = .returned (.bool true) ∧ Below w.heap.size w w' := by
  have hbx := Box.new w (faceCells d a) 29
  have hbw := (Below.refl w.heap.size w).alloc (Nat.le_refl _) (.cells (faceCells d a) 29)
  obtain ⟨W, hW⟩ : ∃ W, w.alloc (.cells (faceCells d a) 29) = W := ⟨_, rfl⟩
  rw [hW] at hbx hbw
  obtain ⟨fv, hfv⟩ : ∃ v, faceV d a = v := ⟨_, rfl⟩
  have hfw : Hid (∀ V, Below W.heap.size W V → Calls Try.prog 10 #[fv] V fun e w' => e = .returned (.bool false) ∧ Below V.heap.size V w') := Lib.hid fun V hb => by
    have := few_any d a V
    rw [hfew, hfv] at this
    exact this
  have HLd : Hid (∀ V, Below W.heap.size W V → _) := Lib.hid fun V hb => ld_box hfv hbx hb
  clear hfv hF hc hn hfew hbx
  go_enter Try.func7, Try.ntmps7
  go_wp2_with fail
  with_reducible refine (awake_any _).mono ?_; rintro e w1 ⟨rfl, hb⟩
  have b0 := hb
  clear hb hW
  have ld := HLd.out _ b0
  go_wp2_with (refine ld_law ld rfl _ rfl rfl ?_)
  with_reducible refine (hfw.out _ b0).mono ?_; rintro e w2 ⟨rfl, hb⟩
  have b1 := below_join b0 hb
  clear hb b0 hfw ld
  go_wp2_with fail
  go_ret
  exact ⟨rfl, hbw.trans (b1.mono hbw.size)⟩
set_option maxRecDepth 100000 in
set_option maxHeartbeats 8000000 in
theorem eg_bad (d : FaceD) (a : FaceA) (code n : Int) (w : World) (hF : FaceIn w w.heap.size d a) (hc : (Lit.int .i64 code).wf = true) (hn : (Lit.int .i8 n).wf = true) (hfew : fewB d = true) (hf : faceB d = false) :
    Calls Try.prog 7 #[faceV d a, .int .i64 code, .int .i8 n] w fun e w' => e = .returned (.bool true) ∧ Below w.heap.size w w' := by
  have hbx := Box.new w (faceCells d a) 29
  have hbw := (Below.refl w.heap.size w).alloc (Nat.le_refl _) (.cells (faceCells d a) 29)
  obtain ⟨W, hW⟩ : ∃ W, w.alloc (.cells (faceCells d a) 29) = W := ⟨_, rfl⟩
  rw [hW] at hbx hbw
  obtain ⟨fv, hfv⟩ : ∃ v, faceV d a = v := ⟨_, rfl⟩
  have hfw : Hid (∀ V, Below W.heap.size W V → Calls Try.prog 10 #[fv] V fun e w' => e = .returned (.bool true) ∧ Below V.heap.size V w') := Lib.hid fun V hb => by
    have := few_any d a V
    rw [hfew, hfv] at this
    exact this
  have hck : Hid (∀ V, Below W.heap.size W V → Calls Try.prog 17 #[faceV d a] V fun e w' => e = .returned (.bool false) ∧ Below V.heap.size V w') := Lib.hid fun V hb => face_c hf V (Nat.le_trans hbw.size hb.size) (hF.mono (hbw.trans (hb.mono hbw.size)))
  have HLd : Hid (∀ V, Below W.heap.size W V → _) := Lib.hid fun V hb => ld_box hfv hbx hb
  clear hfv hF hc hn hfew hf
  go_enter Try.func7, Try.ntmps7
  go_wp2_with fail
  with_reducible refine (awake_any _).mono ?_; rintro e w1 ⟨rfl, hb⟩
  have b0 := hb
  clear hb hW
  have ld := HLd.out _ b0
  go_wp2_with (refine ld_law ld rfl _ rfl rfl ?_)
  with_reducible refine (hfw.out _ b0).mono ?_; rintro e w2 ⟨rfl, hb⟩
  have b1 := below_join b0 hb
  clear hb b0 hfw ld
  obtain ⟨⟨c0, c1, c2, c3, c4, c5, c6, c7, c8, c9, c10⟩, c11, c12, c13, c14, c15⟩ := face_cells (hbx.below b1)
  go_wp2_with fail
  with_reducible refine (hck.out _ b1).mono ?_; rintro e w3 ⟨rfl, hb⟩
  have b2 := below_join b1 hb
  clear hb c0 c1 c2 c3 c4 c5 c6 c7 c8 c9 c10 c11 c12 c13 c14 c15 b1 hck HLd
  clear hbx
  go_wp2_with fail
  go_ret
  exact ⟨rfl, hbw.trans (b2.mono hbw.size)⟩
set_option maxRecDepth 100000 in
set_option maxHeartbeats 8000000 in
theorem eg_1b (d : FaceD) (a : FaceA) (code n : Int) (w w3 : World) (hF : FaceIn w w.heap.size d a) (hc : (Lit.int .i64 code).wf = true) (hn : (Lit.int .i8 n).wf = true) (hbx : Box w3 w.heap.size (faceCells d a) 29) (b2 : Below w.heap.size w w3) {v E l r m o : Int} (hv : widthV (traited d (code, 1000, 1000, -1000)) code n = (v, E)) (he : edgesV (traited d (code, 1000, 1000, -1000)) code n = (l, r, E)) (hk : edgesV (traited d (code, 1000, 500, 0)) code n = (m, o, E)) (t1 : (E != 0) = true) (Q : Exit → Act → World → Prop) (s4 s5 s9 s10 s11 s12 s13 s14 s15 s16 s17 s18 s19 s20 s21 s22 s23 s24 s25 s26 s27 s28 s29 s30 s31 s32 s33 s34 s35 s36 s37 s38 s39 s40 s41 s42 s43 s44 s45 s46 s47 s48 s49 s50 s51 s52 s53 s54 s55 s56 s57 s58 s59 s60 s61 s62 s63 s64 s65 s66 s67 s68 s69 s70 s71 s72 s73 s74 s75 s76 s77 s78 s79 s80 s81 s82 s83 s84 s85 s86 s87 s88 s89 s90 s91 s92 s93 s94 s95 s96 s97 s98 s99 s100 s101 s102 s103 s104 s105 s106 s107 s108 s109 s110 s111 s112 s113 : Value)
    (hQ : ∀ (t : Array Value) (w' : World), t.getD 6 undef = .bool true → Below w.heap.size w w' → Q .ret { tmps := t, defers := [] } w') :
    (tl (tl (tl (tl (Try.f7.body.getD .ret))))).wp Try.prog Q { tmps := #[faceV d a, .int .i64 code, .int .i8 n, .pointer (some ⟨w.heap.size, 0, none⟩), s4, s5, .bool false, .bool true, .pointer (some ⟨w3.heap.size, 0, none⟩), s9, s10, s11, s12, s13, s14, s15, s16, s17, s18, s19, s20, s21, s22, s23, s24, s25, s26, s27, s28, s29, s30, s31, s32, s33, s34, s35, s36, s37, s38, s39, s40, s41, s42, s43, s44, s45, s46, s47, s48, s49, s50, s51, s52, s53, s54, s55, s56, s57, s58, s59, s60, s61, s62, s63, s64, s65, s66, s67, s68, s69, s70, s71, s72, s73, s74, s75, s76, s77, s78, s79, s80, s81, s82, s83, s84, s85, s86, s87, s88, s89, s90, s91, s92, s93, s94, s95, s96, s97, s98, s99, s100, s101, s102, s103, s104, s105, s106, s107, s108, s109, s110, s111, s112, s113], defers := [] } (w3.alloc (.cells (faceCells d a) 29)) := by
  have hQ := Lib.hid hQ
  dsimp only [tl, Try.f7, Option.getD_some]
  have HF := Lib.hid hF
  obtain ⟨n1, n2⟩ := i8_of hn
  clear hF hn
  have r0 := ((((Box.new w3 #[.int .i64 d.font.sum, .int .i64 d.font.design, .int .i64 d.font.first, .slice a.font.c d.font.chars.length a.font.cc, .slice a.font.w d.font.widths.length a.font.cw, .slice a.font.h d.font.heights.length a.font.ch, .slice a.font.d d.font.depths.length a.font.cd, .slice a.font.i d.font.italics.length a.font.ci, .slice a.font.s d.font.steps.length a.font.cs, .slice a.font.k d.font.kerns.length a.font.ck, .slice a.font.p d.font.params.length a.font.cp, .int .i64 d.size, .int .i64 d.step, .int .i64 d.up, .int .i64 d.down, .slice (some ⟨w3.heap.size + 1, 0, none⟩) 1 1] 29).alloc (.cells #[.int .i64 code, .int .i64 1000, .int .i64 1000, .int .i64 (-1000)] 42)).alloc (.cells #[.int .i64 d.font.sum, .int .i64 d.font.design, .int .i64 d.font.first, .slice a.font.c d.font.chars.length a.font.cc, .slice a.font.w d.font.widths.length a.font.cw, .slice a.font.h d.font.heights.length a.font.ch, .slice a.font.d d.font.depths.length a.font.cd, .slice a.font.i d.font.italics.length a.font.ci, .slice a.font.s d.font.steps.length a.font.cs, .slice a.font.k d.font.kerns.length a.font.ck, .slice a.font.p d.font.params.length a.font.cp, .int .i64 d.size, .int .i64 d.step, .int .i64 d.up, .int .i64 d.down, .slice (some ⟨w3.heap.size + 1 + 1 + 1, 0, none⟩) 1 1] 29)).alloc (.cells #[.int .i64 code, .int .i64 1000, .int .i64 500, .int .i64 0] 42))
  have r1 := (((Box.new (w3.alloc (.cells #[.int .i64 d.font.sum, .int .i64 d.font.design, .int .i64 d.font.first, .slice a.font.c d.font.chars.length a.font.cc, .slice a.font.w d.font.widths.length a.font.cw, .slice a.font.h d.font.heights.length a.font.ch, .slice a.font.d d.font.depths.length a.font.cd, .slice a.font.i d.font.italics.length a.font.ci, .slice a.font.s d.font.steps.length a.font.cs, .slice a.font.k d.font.kerns.length a.font.ck, .slice a.font.p d.font.params.length a.font.cp, .int .i64 d.size, .int .i64 d.step, .int .i64 d.up, .int .i64 d.down, .slice (some ⟨w3.heap.size + 1, 0, none⟩) 1 1] 29)) #[.int .i64 code, .int .i64 1000, .int .i64 1000, .int .i64 (-1000)] 42).alloc (.cells #[.int .i64 d.font.sum, .int .i64 d.font.design, .int .i64 d.font.first, .slice a.font.c d.font.chars.length a.font.cc, .slice a.font.w d.font.widths.length a.font.cw, .slice a.font.h d.font.heights.length a.font.ch, .slice a.font.d d.font.depths.length a.font.cd, .slice a.font.i d.font.italics.length a.font.ci, .slice a.font.s d.font.steps.length a.font.cs, .slice a.font.k d.font.kerns.length a.font.ck, .slice a.font.p d.font.params.length a.font.cp, .int .i64 d.size, .int .i64 d.step, .int .i64 d.up, .int .i64 d.down, .slice (some ⟨w3.heap.size + 1 + 1 + 1, 0, none⟩) 1 1] 29)).alloc (.cells #[.int .i64 code, .int .i64 1000, .int .i64 500, .int .i64 0] 42))
  have r2 := ((Box.new ((w3.alloc (.cells #[.int .i64 d.font.sum, .int .i64 d.font.design, .int .i64 d.font.first, .slice a.font.c d.font.chars.length a.font.cc, .slice a.font.w d.font.widths.length a.font.cw, .slice a.font.h d.font.heights.length a.font.ch, .slice a.font.d d.font.depths.length a.font.cd, .slice a.font.i d.font.italics.length a.font.ci, .slice a.font.s d.font.steps.length a.font.cs, .slice a.font.k d.font.kerns.length a.font.ck, .slice a.font.p d.font.params.length a.font.cp, .int .i64 d.size, .int .i64 d.step, .int .i64 d.up, .int .i64 d.down, .slice (some ⟨w3.heap.size + 1, 0, none⟩) 1 1] 29)).alloc (.cells #[.int .i64 code, .int .i64 1000, .int .i64 1000, .int .i64 (-1000)] 42)) #[.int .i64 d.font.sum, .int .i64 d.font.design, .int .i64 d.font.first, .slice a.font.c d.font.chars.length a.font.cc, .slice a.font.w d.font.widths.length a.font.cw, .slice a.font.h d.font.heights.length a.font.ch, .slice a.font.d d.font.depths.length a.font.cd, .slice a.font.i d.font.italics.length a.font.ci, .slice a.font.s d.font.steps.length a.font.cs, .slice a.font.k d.font.kerns.length a.font.ck, .slice a.font.p d.font.params.length a.font.cp, .int .i64 d.size, .int .i64 d.step, .int .i64 d.up, .int .i64 d.down, .slice (some ⟨w3.heap.size + 1 + 1 + 1, 0, none⟩) 1 1] 29).alloc (.cells #[.int .i64 code, .int .i64 1000, .int .i64 500, .int .i64 0] 42))
  have r3 := (Box.new (((w3.alloc (.cells #[.int .i64 d.font.sum, .int .i64 d.font.design, .int .i64 d.font.first, .slice a.font.c d.font.chars.length a.font.cc, .slice a.font.w d.font.widths.length a.font.cw, .slice a.font.h d.font.heights.length a.font.ch, .slice a.font.d d.font.depths.length a.font.cd, .slice a.font.i d.font.italics.length a.font.ci, .slice a.font.s d.font.steps.length a.font.cs, .slice a.font.k d.font.kerns.length a.font.ck, .slice a.font.p d.font.params.length a.font.cp, .int .i64 d.size, .int .i64 d.step, .int .i64 d.up, .int .i64 d.down, .slice (some ⟨w3.heap.size + 1, 0, none⟩) 1 1] 29)).alloc (.cells #[.int .i64 code, .int .i64 1000, .int .i64 1000, .int .i64 (-1000)] 42)).alloc (.cells #[.int .i64 d.font.sum, .int .i64 d.font.design, .int .i64 d.font.first, .slice a.font.c d.font.chars.length a.font.cc, .slice a.font.w d.font.widths.length a.font.cw, .slice a.font.h d.font.heights.length a.font.ch, .slice a.font.d d.font.depths.length a.font.cd, .slice a.font.i d.font.italics.length a.font.ci, .slice a.font.s d.font.steps.length a.font.cs, .slice a.font.k d.font.kerns.length a.font.ck, .slice a.font.p d.font.params.length a.font.cp, .int .i64 d.size, .int .i64 d.step, .int .i64 d.up, .int .i64 d.down, .slice (some ⟨w3.heap.size + 1 + 1 + 1, 0, none⟩) 1 1] 29)) #[.int .i64 code, .int .i64 1000, .int .i64 500, .int .i64 0] 42)
  have b3 : Below w.heap.size w ((((w3.alloc (.cells #[.int .i64 d.font.sum, .int .i64 d.font.design, .int .i64 d.font.first, .slice a.font.c d.font.chars.length a.font.cc, .slice a.font.w d.font.widths.length a.font.cw, .slice a.font.h d.font.heights.length a.font.ch, .slice a.font.d d.font.depths.length a.font.cd, .slice a.font.i d.font.italics.length a.font.ci, .slice a.font.s d.font.steps.length a.font.cs, .slice a.font.k d.font.kerns.length a.font.ck, .slice a.font.p d.font.params.length a.font.cp, .int .i64 d.size, .int .i64 d.step, .int .i64 d.up, .int .i64 d.down, .slice (some ⟨w3.heap.size + 1, 0, none⟩) 1 1] 29)).alloc (.cells #[.int .i64 code, .int .i64 1000, .int .i64 1000, .int .i64 (-1000)] 42)).alloc (.cells #[.int .i64 d.font.sum, .int .i64 d.font.design, .int .i64 d.font.first, .slice a.font.c d.font.chars.length a.font.cc, .slice a.font.w d.font.widths.length a.font.cw, .slice a.font.h d.font.heights.length a.font.ch, .slice a.font.d d.font.depths.length a.font.cd, .slice a.font.i d.font.italics.length a.font.ci, .slice a.font.s d.font.steps.length a.font.cs, .slice a.font.k d.font.kerns.length a.font.ck, .slice a.font.p d.font.params.length a.font.cp, .int .i64 d.size, .int .i64 d.step, .int .i64 d.up, .int .i64 d.down, .slice (some ⟨w3.heap.size + 1 + 1 + 1, 0, none⟩) 1 1] 29)).alloc (.cells #[.int .i64 code, .int .i64 1000, .int .i64 500, .int .i64 0] 42)) := below_alloc (below_alloc (below_alloc (below_alloc b2 _) _) _) _
  obtain ⟨⟨d0, d1, d2, d3, d4, d5, d6, d7, d8, d9, d10⟩, d11, d12, d13, d14, d15⟩ := face_cells ((hbx.alloc (.cells #[.int .i64 d.font.sum, .int .i64 d.font.design, .int .i64 d.font.first, .slice a.font.c d.font.chars.length a.font.cc, .slice a.font.w d.font.widths.length a.font.cw, .slice a.font.h d.font.heights.length a.font.ch, .slice a.font.d d.font.depths.length a.font.cd, .slice a.font.i d.font.italics.length a.font.ci, .slice a.font.s d.font.steps.length a.font.cs, .slice a.font.k d.font.kerns.length a.font.ck, .slice a.font.p d.font.params.length a.font.cp, .int .i64 d.size, .int .i64 d.step, .int .i64 d.up, .int .i64 d.down, .slice (some ⟨w3.heap.size + 1, 0, none⟩) 1 1] 29)).alloc (.cells #[.int .i64 code, .int .i64 1000, .int .i64 1000, .int .i64 (-1000)] 42))
  simp only [World.size_alloc] at r1 r2 r3
  go_upto_region 8 with fail
  clear d0 d1 d2 d3 d4 d5 d6 d7 d8 d9 d10 d11 d12 d13 d14 d15 b2 hbx
  obtain ⟨V, hVV⟩ : ∃ V, V = ((((w3.alloc (.cells #[.int .i64 d.font.sum, .int .i64 d.font.design, .int .i64 d.font.first, .slice a.font.c d.font.chars.length a.font.cc, .slice a.font.w d.font.widths.length a.font.cw, .slice a.font.h d.font.heights.length a.font.ch, .slice a.font.d d.font.depths.length a.font.cd, .slice a.font.i d.font.italics.length a.font.ci, .slice a.font.s d.font.steps.length a.font.cs, .slice a.font.k d.font.kerns.length a.font.ck, .slice a.font.p d.font.params.length a.font.cp, .int .i64 d.size, .int .i64 d.step, .int .i64 d.up, .int .i64 d.down, .slice (some ⟨w3.heap.size + 1, 0, none⟩) 1 1] 29)).alloc (.cells #[.int .i64 code, .int .i64 1000, .int .i64 1000, .int .i64 (-1000)] 42)).alloc (.cells #[.int .i64 d.font.sum, .int .i64 d.font.design, .int .i64 d.font.first, .slice a.font.c d.font.chars.length a.font.cc, .slice a.font.w d.font.widths.length a.font.cw, .slice a.font.h d.font.heights.length a.font.ch, .slice a.font.d d.font.depths.length a.font.cd, .slice a.font.i d.font.italics.length a.font.ci, .slice a.font.s d.font.steps.length a.font.cs, .slice a.font.k d.font.kerns.length a.font.ck, .slice a.font.p d.font.params.length a.font.cp, .int .i64 d.size, .int .i64 d.step, .int .i64 d.up, .int .i64 d.down, .slice (some ⟨w3.heap.size + 1 + 1 + 1, 0, none⟩) 1 1] 29)).alloc (.cells #[.int .i64 code, .int .i64 1000, .int .i64 500, .int .i64 0] 42)) := ⟨_, rfl⟩
  rw [← hVV]
  rw [← hVV] at r0 r1 r2 r3 b3
  clear hVV
  obtain ⟨gv, hgv⟩ : ∃ v, faceV (traited d (code, 1000, 1000, -1000)) (withA a (w3.heap.size + 1)) = v := ⟨_, rfl⟩
  obtain ⟨kv, hkv⟩ : ∃ v, faceV (traited d (code, 1000, 500, 0)) (withA a (w3.heap.size + 1 + 1 + 1)) = v := ⟨_, rfl⟩
  have i1 := traited_in (T := (code, 1000, 1000, -1000)) HF.out b3 r1 ⟨hc, show (Lit.int .i64 1000).wf = true by decide, show (Lit.int .i64 1000).wf = true by decide, show (Lit.int .i64 (-1000)).wf = true by decide⟩
  have i2 := traited_in (T := (code, 1000, 500, 0)) HF.out b3 r3 ⟨hc, show (Lit.int .i64 1000).wf = true by decide, show (Lit.int .i64 500).wf = true by decide, show (Lit.int .i64 0).wf = true by decide⟩
  have HLg : Hid (∀ V', Below V.heap.size V V' → (Instr.loadAt 29 (.pointer (some ⟨w3.heap.size, 0, none⟩))).run Try.prog V' = .ok gv V') := Lib.hid fun V' hb => ld_box hgv (show Box V w3.heap.size (faceCells (traited d (code, 1000, 1000, -1000)) (withA a (w3.heap.size + 1))) _ from r0) hb
  have HLk : Hid (∀ V', Below V.heap.size V V' → (Instr.loadAt 29 (.pointer (some ⟨w3.heap.size + 1 + 1, 0, none⟩))).run Try.prog V' = .ok kv V') := Lib.hid fun V' hb => ld_box hkv (show Box V (w3.heap.size + 1 + 1) (faceCells (traited d (code, 1000, 500, 0)) (withA a (w3.heap.size + 1 + 1 + 1))) _ from r2) hb
  have h1 : Hid (∀ V', Below V.heap.size V V' → Calls Try.prog 11 #[gv, .int .i64 code, .int .i64 n] V' fun e w' => e = .returned (.tuple #[.int .i64 v, .int .i64 E]) ∧ Below V'.heap.size V' w') := Lib.hid fun V' hb => by rw [← hgv]; exact width_c hv V' hb.size (i1.mono hb) hc
  have h2 : Hid (∀ V', Below V.heap.size V V' → Calls Try.prog 15 #[gv, .int .i64 code, .int .i64 n] V' fun e w' => e = .returned (.tuple #[.int .i64 l, .int .i64 r, .int .i64 E]) ∧ Below V'.heap.size V' w') := Lib.hid fun V' hb => by rw [← hgv]; exact edges_c he V' hb.size (i1.mono hb) hc
  have h3 : Hid (∀ V', Below V.heap.size V V' → Calls Try.prog 15 #[kv, .int .i64 code, .int .i64 n] V' fun e w' => e = .returned (.tuple #[.int .i64 m, .int .i64 o, .int .i64 E]) ∧ Below V'.heap.size V' w') := Lib.hid fun V' hb => by rw [← hkv]; exact edges_c hk V' hb.size (i2.mono hb) hc
  have HB := Lib.hid b3
  clear r0 r1 r2 r3 b3 i1 i2 hgv hkv HF hc hv he hk
  generalize w3.heap.size + 1 + 1 = g9 at *
  generalize w3.heap.size = g8 at *
  have k0 := Below.refl V.heap.size V
  have ld := HLg.out _ k0
  go_wp2_with (refine ld_law ld rfl _ rfl rfl ?_)
  with_reducible refine (h1.out _ k0).mono ?_; rintro e v0 ⟨rfl, hb⟩
  have k1 := below_join k0 hb
  clear hb ld k0 h1
  have ld := HLg.out _ k1
  go_wp2_with (refine ld_law ld rfl _ rfl rfl ?_)
  with_reducible refine (h2.out _ k1).mono ?_; rintro e v1 ⟨rfl, hb⟩
  have k2 := below_join k1 hb
  clear hb ld k1 h2
  have ld := HLk.out _ k2
  go_wp2_with (refine ld_law ld rfl _ rfl rfl ?_)
  with_reducible refine (h3.out _ k2).mono ?_; rintro e v2 ⟨rfl, hb⟩
  have k3 := below_join k2 hb
  clear hb ld k2 h3
  clear HLg HLk
  all_goals
    go_wp2_with fail
    exact hQ.out _ _ rfl (below_join HB.out k3)
set_option maxRecDepth 100000 in
set_option maxHeartbeats 8000000 in
theorem eg_1 (d : FaceD) (a : FaceA) (code n : Int) (w : World) (hF : FaceIn w w.heap.size d a) (hc : (Lit.int .i64 code).wf = true) (hn : (Lit.int .i8 n).wf = true) {v E l r m o : Int} (hv : widthV (traited d (code, 1000, 1000, -1000)) code n = (v, E)) (he : edgesV (traited d (code, 1000, 1000, -1000)) code n = (l, r, E)) (hk : edgesV (traited d (code, 1000, 500, 0)) code n = (m, o, E)) (hfew : fewB d = true) (hf : faceB d = true) (t1 : (E != 0) = true) :
    Calls Try.prog 7 #[faceV d a, .int .i64 code, .int .i8 n] w fun e w' => e = .returned (.bool true) ∧ Below w.heap.size w w' := by
  have hbx := Box.new w (faceCells d a) 29
  have hbw := (Below.refl w.heap.size w).alloc (Nat.le_refl _) (.cells (faceCells d a) 29)
  obtain ⟨W, hW⟩ : ∃ W, w.alloc (.cells (faceCells d a) 29) = W := ⟨_, rfl⟩
  rw [hW] at hbx hbw
  obtain ⟨fv, hfv⟩ : ∃ v, faceV d a = v := ⟨_, rfl⟩
  have hfw : Hid (∀ V, Below W.heap.size W V → Calls Try.prog 10 #[fv] V fun e w' => e = .returned (.bool true) ∧ Below V.heap.size V w') := Lib.hid fun V hb => by
    have := few_any d a V
    rw [hfew, hfv] at this
    exact this
  have hck : Hid (∀ V, Below W.heap.size W V → Calls Try.prog 17 #[faceV d a] V fun e w' => e = .returned (.bool true) ∧ Below V.heap.size V w') := Lib.hid fun V hb => face_c hf V (Nat.le_trans hbw.size hb.size) (hF.mono (hbw.trans (hb.mono hbw.size)))
  have HLd : Hid (∀ V, Below W.heap.size W V → _) := Lib.hid fun V hb => ld_box hfv hbx hb
  clear hfv hfew hf
  go_enter Try.func7, Try.ntmps7
  go_wp2_with fail
  with_reducible refine (awake_any _).mono ?_; rintro e w1 ⟨rfl, hb⟩
  have b0 := hb
  clear hb hW
  have ld := HLd.out _ b0
  go_wp2_with (refine ld_law ld rfl _ rfl rfl ?_)
  with_reducible refine (hfw.out _ b0).mono ?_; rintro e w2 ⟨rfl, hb⟩
  have b1 := below_join b0 hb
  clear hb b0 hfw ld
  obtain ⟨⟨c0, c1, c2, c3, c4, c5, c6, c7, c8, c9, c10⟩, c11, c12, c13, c14, c15⟩ := face_cells (hbx.below b1)
  go_wp2_with fail
  with_reducible refine (hck.out _ b1).mono ?_; rintro e w3 ⟨rfl, hb⟩
  have b2 := below_join b1 hb
  clear hb c0 c1 c2 c3 c4 c5 c6 c7 c8 c9 c10 c11 c12 c13 c14 c15 b1 hck HLd
  have hx3 := hbx.below b2
  have hw3 := hbw.trans (b2.mono hbw.size)
  go_upto_region 4 with fail
  go_cut [8] (fun v wx => v = .pointer (some ⟨w3.heap.size, 0, none⟩) ∧ wx = w3.alloc (.cells (faceCells d a) 29))
  case first =>
    obtain ⟨⟨c0, c1, c2, c3, c4, c5, c6, c7, c8, c9, c10⟩, c11, c12, c13, c14, c15⟩ := face_cells hx3
    go_wp2_with fail
    go_meet
    exact ⟨rfl, rfl⟩
  case rest =>
    obtain ⟨rfl, rfl⟩ := hcut
    apply_assumption
    refine eg_1b d a code n w w3 hF hc hn hx3 hw3 hv he hk t1 _ _ _ _ _ _ _ _ _ _ _ _ _ _ _ _ _ _ _ _ _ _ _ _ _ _ _ _ _ _ _ _ _ _ _ _ _ _ _ _ _ _ _ _ _ _ _ _ _ _ _ _ _ _ _ _ _ _ _ _ _ _ _ _ _ _ _ _ _ _ _ _ _ _ _ _ _ _ _ _ _ _ _ _ _ _ _ _ _ _ _ _ _ _ _ _ _ _ _ _ _ _ _ _ _ _ _ _ ?_
    intro t w' h6 hb
    refine bodyPost_ret (results_tmp rfl _ _ _) rfl ⟨by rw [h6], hb⟩
set_option maxRecDepth 100000 in
set_option maxHeartbeats 8000000 in
theorem eg_2b (d : FaceD) (a : FaceA) (code n : Int) (w w3 : World) (hF : FaceIn w w.heap.size d a) (hc : (Lit.int .i64 code).wf = true) (hn : (Lit.int .i8 n).wf = true) (hbx : Box w3 w.heap.size (faceCells d a) 29) (b2 : Below w.heap.size w w3) {v m : Int} (hv : widthV (traited d (code, 1000, 1000, -1000)) code n = (v, 0)) (he : edgesV (traited d (code, 1000, 1000, -1000)) code n = (v, -v, 0)) (hk : edgesV (traited d (code, 1000, 500, 0)) code n = (m, 0, 0)) (a1 : v.natAbs ≤ 200000000) (a2 : m.natAbs ≤ 200000000) (t1 : (v == 2 * m) = true ∨ ((v == 2 * m) = false ∧ (v == 2 * m + 1) = true)) (Q : Exit → Act → World → Prop) (s4 s5 s9 s10 s11 s12 s13 s14 s15 s16 s17 s18 s19 s20 s21 s22 s23 s24 s25 s26 s27 s28 s29 s30 s31 s32 s33 s34 s35 s36 s37 s38 s39 s40 s41 s42 s43 s44 s45 s46 s47 s48 s49 s50 s51 s52 s53 s54 s55 s56 s57 s58 s59 s60 s61 s62 s63 s64 s65 s66 s67 s68 s69 s70 s71 s72 s73 s74 s75 s76 s77 s78 s79 s80 s81 s82 s83 s84 s85 s86 s87 s88 s89 s90 s91 s92 s93 s94 s95 s96 s97 s98 s99 s100 s101 s102 s103 s104 s105 s106 s107 s108 s109 s110 s111 s112 s113 : Value)
    (hQ : ∀ (t : Array Value) (w' : World), t.getD 6 undef = .bool true → Below w.heap.size w w' → Q .ret { tmps := t, defers := [] } w') :
    (tl (tl (tl (tl (Try.f7.body.getD .ret))))).wp Try.prog Q { tmps := #[faceV d a, .int .i64 code, .int .i8 n, .pointer (some ⟨w.heap.size, 0, none⟩), s4, s5, .bool false, .bool true, .pointer (some ⟨w3.heap.size, 0, none⟩), s9, s10, s11, s12, s13, s14, s15, s16, s17, s18, s19, s20, s21, s22, s23, s24, s25, s26, s27, s28, s29, s30, s31, s32, s33, s34, s35, s36, s37, s38, s39, s40, s41, s42, s43, s44, s45, s46, s47, s48, s49, s50, s51, s52, s53, s54, s55, s56, s57, s58, s59, s60, s61, s62, s63, s64, s65, s66, s67, s68, s69, s70, s71, s72, s73, s74, s75, s76, s77, s78, s79, s80, s81, s82, s83, s84, s85, s86, s87, s88, s89, s90, s91, s92, s93, s94, s95, s96, s97, s98, s99, s100, s101, s102, s103, s104, s105, s106, s107, s108, s109, s110, s111, s112, s113], defers := [] } (w3.alloc (.cells (faceCells d a) 29)) := by
  have hQ := Lib.hid hQ
  dsimp only [tl, Try.f7, Option.getD_some]
  have HF := Lib.hid hF
  obtain ⟨n1, n2⟩ := i8_of hn
  clear hF hn
  have r0 := ((((Box.new w3 #[.int .i64 d.font.sum, .int .i64 d.font.design, .int .i64 d.font.first, .slice a.font.c d.font.chars.length a.font.cc, .slice a.font.w d.font.widths.length a.font.cw, .slice a.font.h d.font.heights.length a.font.ch, .slice a.font.d d.font.depths.length a.font.cd, .slice a.font.i d.font.italics.length a.font.ci, .slice a.font.s d.font.steps.length a.font.cs, .slice a.font.k d.font.kerns.length a.font.ck, .slice a.font.p d.font.params.length a.font.cp, .int .i64 d.size, .int .i64 d.step, .int .i64 d.up, .int .i64 d.down, .slice (some ⟨w3.heap.size + 1, 0, none⟩) 1 1] 29).alloc (.cells #[.int .i64 code, .int .i64 1000, .int .i64 1000, .int .i64 (-1000)] 42)).alloc (.cells #[.int .i64 d.font.sum, .int .i64 d.font.design, .int .i64 d.font.first, .slice a.font.c d.font.chars.length a.font.cc, .slice a.font.w d.font.widths.length a.font.cw, .slice a.font.h d.font.heights.length a.font.ch, .slice a.font.d d.font.depths.length a.font.cd, .slice a.font.i d.font.italics.length a.font.ci, .slice a.font.s d.font.steps.length a.font.cs, .slice a.font.k d.font.kerns.length a.font.ck, .slice a.font.p d.font.params.length a.font.cp, .int .i64 d.size, .int .i64 d.step, .int .i64 d.up, .int .i64 d.down, .slice (some ⟨w3.heap.size + 1 + 1 + 1, 0, none⟩) 1 1] 29)).alloc (.cells #[.int .i64 code, .int .i64 1000, .int .i64 500, .int .i64 0] 42))
  have r1 := (((Box.new (w3.alloc (.cells #[.int .i64 d.font.sum, .int .i64 d.font.design, .int .i64 d.font.first, .slice a.font.c d.font.chars.length a.font.cc, .slice a.font.w d.font.widths.length a.font.cw, .slice a.font.h d.font.heights.length a.font.ch, .slice a.font.d d.font.depths.length a.font.cd, .slice a.font.i d.font.italics.length a.font.ci, .slice a.font.s d.font.steps.length a.font.cs, .slice a.font.k d.font.kerns.length a.font.ck, .slice a.font.p d.font.params.length a.font.cp, .int .i64 d.size, .int .i64 d.step, .int .i64 d.up, .int .i64 d.down, .slice (some ⟨w3.heap.size + 1, 0, none⟩) 1 1] 29)) #[.int .i64 code, .int .i64 1000, .int .i64 1000, .int .i64 (-1000)] 42).alloc (.cells #[.int .i64 d.font.sum, .int .i64 d.font.design, .int .i64 d.font.first, .slice a.font.c d.font.chars.length a.font.cc, .slice a.font.w d.font.widths.length a.font.cw, .slice a.font.h d.font.heights.length a.font.ch, .slice a.font.d d.font.depths.length a.font.cd, .slice a.font.i d.font.italics.length a.font.ci, .slice a.font.s d.font.steps.length a.font.cs, .slice a.font.k d.font.kerns.length a.font.ck, .slice a.font.p d.font.params.length a.font.cp, .int .i64 d.size, .int .i64 d.step, .int .i64 d.up, .int .i64 d.down, .slice (some ⟨w3.heap.size + 1 + 1 + 1, 0, none⟩) 1 1] 29)).alloc (.cells #[.int .i64 code, .int .i64 1000, .int .i64 500, .int .i64 0] 42))
  have r2 := ((Box.new ((w3.alloc (.cells #[.int .i64 d.font.sum, .int .i64 d.font.design, .int .i64 d.font.first, .slice a.font.c d.font.chars.length a.font.cc, .slice a.font.w d.font.widths.length a.font.cw, .slice a.font.h d.font.heights.length a.font.ch, .slice a.font.d d.font.depths.length a.font.cd, .slice a.font.i d.font.italics.length a.font.ci, .slice a.font.s d.font.steps.length a.font.cs, .slice a.font.k d.font.kerns.length a.font.ck, .slice a.font.p d.font.params.length a.font.cp, .int .i64 d.size, .int .i64 d.step, .int .i64 d.up, .int .i64 d.down, .slice (some ⟨w3.heap.size + 1, 0, none⟩) 1 1] 29)).alloc (.cells #[.int .i64 code, .int .i64 1000, .int .i64 1000, .int .i64 (-1000)] 42)) #[.int .i64 d.font.sum, .int .i64 d.font.design, .int .i64 d.font.first, .slice a.font.c d.font.chars.length a.font.cc, .slice a.font.w d.font.widths.length a.font.cw, .slice a.font.h d.font.heights.length a.font.ch, .slice a.font.d d.font.depths.length a.font.cd, .slice a.font.i d.font.italics.length a.font.ci, .slice a.font.s d.font.steps.length a.font.cs, .slice a.font.k d.font.kerns.length a.font.ck, .slice a.font.p d.font.params.length a.font.cp, .int .i64 d.size, .int .i64 d.step, .int .i64 d.up, .int .i64 d.down, .slice (some ⟨w3.heap.size + 1 + 1 + 1, 0, none⟩) 1 1] 29).alloc (.cells #[.int .i64 code, .int .i64 1000, .int .i64 500, .int .i64 0] 42))
  have r3 := (Box.new (((w3.alloc (.cells #[.int .i64 d.font.sum, .int .i64 d.font.design, .int .i64 d.font.first, .slice a.font.c d.font.chars.length a.font.cc, .slice a.font.w d.font.widths.length a.font.cw, .slice a.font.h d.font.heights.length a.font.ch, .slice a.font.d d.font.depths.length a.font.cd, .slice a.font.i d.font.italics.length a.font.ci, .slice a.font.s d.font.steps.length a.font.cs, .slice a.font.k d.font.kerns.length a.font.ck, .slice a.font.p d.font.params.length a.font.cp, .int .i64 d.size, .int .i64 d.step, .int .i64 d.up, .int .i64 d.down, .slice (some ⟨w3.heap.size + 1, 0, none⟩) 1 1] 29)).alloc (.cells #[.int .i64 code, .int .i64 1000, .int .i64 1000, .int .i64 (-1000)] 42)).alloc (.cells #[.int .i64 d.font.sum, .int .i64 d.font.design, .int .i64 d.font.first, .slice a.font.c d.font.chars.length a.font.cc, .slice a.font.w d.font.widths.length a.font.cw, .slice a.font.h d.font.heights.length a.font.ch, .slice a.font.d d.font.depths.length a.font.cd, .slice a.font.i d.font.italics.length a.font.ci, .slice a.font.s d.font.steps.length a.font.cs, .slice a.font.k d.font.kerns.length a.font.ck, .slice a.font.p d.font.params.length a.font.cp, .int .i64 d.size, .int .i64 d.step, .int .i64 d.up, .int .i64 d.down, .slice (some ⟨w3.heap.size + 1 + 1 + 1, 0, none⟩) 1 1] 29)) #[.int .i64 code, .int .i64 1000, .int .i64 500, .int .i64 0] 42)
  have b3 : Below w.heap.size w ((((w3.alloc (.cells #[.int .i64 d.font.sum, .int .i64 d.font.design, .int .i64 d.font.first, .slice a.font.c d.font.chars.length a.font.cc, .slice a.font.w d.font.widths.length a.font.cw, .slice a.font.h d.font.heights.length a.font.ch, .slice a.font.d d.font.depths.length a.font.cd, .slice a.font.i d.font.italics.length a.font.ci, .slice a.font.s d.font.steps.length a.font.cs, .slice a.font.k d.font.kerns.length a.font.ck, .slice a.font.p d.font.params.length a.font.cp, .int .i64 d.size, .int .i64 d.step, .int .i64 d.up, .int .i64 d.down, .slice (some ⟨w3.heap.size + 1, 0, none⟩) 1 1] 29)).alloc (.cells #[.int .i64 code, .int .i64 1000, .int .i64 1000, .int .i64 (-1000)] 42)).alloc (.cells #[.int .i64 d.font.sum, .int .i64 d.font.design, .int .i64 d.font.first, .slice a.font.c d.font.chars.length a.font.cc, .slice a.font.w d.font.widths.length a.font.cw, .slice a.font.h d.font.heights.length a.font.ch, .slice a.font.d d.font.depths.length a.font.cd, .slice a.font.i d.font.italics.length a.font.ci, .slice a.font.s d.font.steps.length a.font.cs, .slice a.font.k d.font.kerns.length a.font.ck, .slice a.font.p d.font.params.length a.font.cp, .int .i64 d.size, .int .i64 d.step, .int .i64 d.up, .int .i64 d.down, .slice (some ⟨w3.heap.size + 1 + 1 + 1, 0, none⟩) 1 1] 29)).alloc (.cells #[.int .i64 code, .int .i64 1000, .int .i64 500, .int .i64 0] 42)) := below_alloc (below_alloc (below_alloc (below_alloc b2 _) _) _) _
  obtain ⟨⟨d0, d1, d2, d3, d4, d5, d6, d7, d8, d9, d10⟩, d11, d12, d13, d14, d15⟩ := face_cells ((hbx.alloc (.cells #[.int .i64 d.font.sum, .int .i64 d.font.design, .int .i64 d.font.first, .slice a.font.c d.font.chars.length a.font.cc, .slice a.font.w d.font.widths.length a.font.cw, .slice a.font.h d.font.heights.length a.font.ch, .slice a.font.d d.font.depths.length a.font.cd, .slice a.font.i d.font.italics.length a.font.ci, .slice a.font.s d.font.steps.length a.font.cs, .slice a.font.k d.font.kerns.length a.font.ck, .slice a.font.p d.font.params.length a.font.cp, .int .i64 d.size, .int .i64 d.step, .int .i64 d.up, .int .i64 d.down, .slice (some ⟨w3.heap.size + 1, 0, none⟩) 1 1] 29)).alloc (.cells #[.int .i64 code, .int .i64 1000, .int .i64 1000, .int .i64 (-1000)] 42))
  simp only [World.size_alloc] at r1 r2 r3
  go_upto_region 8 with fail
  clear d0 d1 d2 d3 d4 d5 d6 d7 d8 d9 d10 d11 d12 d13 d14 d15 b2 hbx
  obtain ⟨V, hVV⟩ : ∃ V, V = ((((w3.alloc (.cells #[.int .i64 d.font.sum, .int .i64 d.font.design, .int .i64 d.font.first, .slice a.font.c d.font.chars.length a.font.cc, .slice a.font.w d.font.widths.length a.font.cw, .slice a.font.h d.font.heights.length a.font.ch, .slice a.font.d d.font.depths.length a.font.cd, .slice a.font.i d.font.italics.length a.font.ci, .slice a.font.s d.font.steps.length a.font.cs, .slice a.font.k d.font.kerns.length a.font.ck, .slice a.font.p d.font.params.length a.font.cp, .int .i64 d.size, .int .i64 d.step, .int .i64 d.up, .int .i64 d.down, .slice (some ⟨w3.heap.size + 1, 0, none⟩) 1 1] 29)).alloc (.cells #[.int .i64 code, .int .i64 1000, .int .i64 1000, .int .i64 (-1000)] 42)).alloc (.cells #[.int .i64 d.font.sum, .int .i64 d.font.design, .int .i64 d.font.first, .slice a.font.c d.font.chars.length a.font.cc, .slice a.font.w d.font.widths.length a.font.cw, .slice a.font.h d.font.heights.length a.font.ch, .slice a.font.d d.font.depths.length a.font.cd, .slice a.font.i d.font.italics.length a.font.ci, .slice a.font.s d.font.steps.length a.font.cs, .slice a.font.k d.font.kerns.length a.font.ck, .slice a.font.p d.font.params.length a.font.cp, .int .i64 d.size, .int .i64 d.step, .int .i64 d.up, .int .i64 d.down, .slice (some ⟨w3.heap.size + 1 + 1 + 1, 0, none⟩) 1 1] 29)).alloc (.cells #[.int .i64 code, .int .i64 1000, .int .i64 500, .int .i64 0] 42)) := ⟨_, rfl⟩
  rw [← hVV]
  rw [← hVV] at r0 r1 r2 r3 b3
  clear hVV
  obtain ⟨gv, hgv⟩ : ∃ v, faceV (traited d (code, 1000, 1000, -1000)) (withA a (w3.heap.size + 1)) = v := ⟨_, rfl⟩
  obtain ⟨kv, hkv⟩ : ∃ v, faceV (traited d (code, 1000, 500, 0)) (withA a (w3.heap.size + 1 + 1 + 1)) = v := ⟨_, rfl⟩
  have i1 := traited_in (T := (code, 1000, 1000, -1000)) HF.out b3 r1 ⟨hc, show (Lit.int .i64 1000).wf = true by decide, show (Lit.int .i64 1000).wf = true by decide, show (Lit.int .i64 (-1000)).wf = true by decide⟩
  have i2 := traited_in (T := (code, 1000, 500, 0)) HF.out b3 r3 ⟨hc, show (Lit.int .i64 1000).wf = true by decide, show (Lit.int .i64 500).wf = true by decide, show (Lit.int .i64 0).wf = true by decide⟩
  have HLg : Hid (∀ V', Below V.heap.size V V' → (Instr.loadAt 29 (.pointer (some ⟨w3.heap.size, 0, none⟩))).run Try.prog V' = .ok gv V') := Lib.hid fun V' hb => ld_box hgv (show Box V w3.heap.size (faceCells (traited d (code, 1000, 1000, -1000)) (withA a (w3.heap.size + 1))) _ from r0) hb
  have HLk : Hid (∀ V', Below V.heap.size V V' → (Instr.loadAt 29 (.pointer (some ⟨w3.heap.size + 1 + 1, 0, none⟩))).run Try.prog V' = .ok kv V') := Lib.hid fun V' hb => ld_box hkv (show Box V (w3.heap.size + 1 + 1) (faceCells (traited d (code, 1000, 500, 0)) (withA a (w3.heap.size + 1 + 1 + 1))) _ from r2) hb
  have h1 : Hid (∀ V', Below V.heap.size V V' → Calls Try.prog 11 #[gv, .int .i64 code, .int .i64 n] V' fun e w' => e = .returned (.tuple #[.int .i64 v, .int .i64 0]) ∧ Below V'.heap.size V' w') := Lib.hid fun V' hb => by rw [← hgv]; exact width_c hv V' hb.size (i1.mono hb) hc
  have h2 : Hid (∀ V', Below V.heap.size V V' → Calls Try.prog 15 #[gv, .int .i64 code, .int .i64 n] V' fun e w' => e = .returned (.tuple #[.int .i64 v, .int .i64 (-v), .int .i64 0]) ∧ Below V'.heap.size V' w') := Lib.hid fun V' hb => by rw [← hgv]; exact edges_c he V' hb.size (i1.mono hb) hc
  have h3 : Hid (∀ V', Below V.heap.size V V' → Calls Try.prog 15 #[kv, .int .i64 code, .int .i64 n] V' fun e w' => e = .returned (.tuple #[.int .i64 m, .int .i64 0, .int .i64 0]) ∧ Below V'.heap.size V' w') := Lib.hid fun V' hb => by rw [← hkv]; exact edges_c hk V' hb.size (i2.mono hb) hc
  have HB := Lib.hid b3
  clear r0 r1 r2 r3 b3 i1 i2 hgv hkv HF hc hv he hk
  generalize w3.heap.size + 1 + 1 = g9 at *
  generalize w3.heap.size = g8 at *
  have k0 := Below.refl V.heap.size V
  have ld := HLg.out _ k0
  go_wp2_with (refine ld_law ld rfl _ rfl rfl ?_)
  with_reducible refine (h1.out _ k0).mono ?_; rintro e v0 ⟨rfl, hb⟩
  have k1 := below_join k0 hb
  clear hb ld k0 h1
  have ld := HLg.out _ k1
  go_wp2_with (refine ld_law ld rfl _ rfl rfl ?_)
  with_reducible refine (h2.out _ k1).mono ?_; rintro e v1 ⟨rfl, hb⟩
  have k2 := below_join k1 hb
  clear hb ld k1 h2
  have ld := HLk.out _ k2
  go_wp2_with (refine ld_law ld rfl _ rfl rfl ?_)
  with_reducible refine (h3.out _ k2).mono ?_; rintro e v2 ⟨rfl, hb⟩
  have k3 := below_join k2 hb
  clear hb ld k2 h3
  clear HLg HLk
  have x1 : -200000000 ≤ v := by omega
  have x2 : v ≤ 200000000 := by omega
  have x3 : -200000000 ≤ m := by omega
  have x4 : m ≤ 200000000 := by omega
  clear a1 a2
  rcases t1 with t1 | ⟨t1, t3⟩
  all_goals
    go_wp2_with fail
    exact hQ.out _ _ rfl (below_join HB.out k3)
set_option maxRecDepth 100000 in
set_option maxHeartbeats 8000000 in
theorem eg_2 (d : FaceD) (a : FaceA) (code n : Int) (w : World) (hF : FaceIn w w.heap.size d a) (hc : (Lit.int .i64 code).wf = true) (hn : (Lit.int .i8 n).wf = true) {v m : Int} (hv : widthV (traited d (code, 1000, 1000, -1000)) code n = (v, 0)) (he : edgesV (traited d (code, 1000, 1000, -1000)) code n = (v, -v, 0)) (hk : edgesV (traited d (code, 1000, 500, 0)) code n = (m, 0, 0)) (hfew : fewB d = true) (hf : faceB d = true) (a1 : v.natAbs ≤ 200000000) (a2 : m.natAbs ≤ 200000000) (t1 : (v == 2 * m) = true ∨ ((v == 2 * m) = false ∧ (v == 2 * m + 1) = true)) :
    Calls Try.prog 7 #[faceV d a, .int .i64 code, .int .i8 n] w fun e w' => e = .returned (.bool true) ∧ Below w.heap.size w w' := by
  have hbx := Box.new w (faceCells d a) 29
  have hbw := (Below.refl w.heap.size w).alloc (Nat.le_refl _) (.cells (faceCells d a) 29)
  obtain ⟨W, hW⟩ : ∃ W, w.alloc (.cells (faceCells d a) 29) = W := ⟨_, rfl⟩
  rw [hW] at hbx hbw
  obtain ⟨fv, hfv⟩ : ∃ v, faceV d a = v := ⟨_, rfl⟩
  have hfw : Hid (∀ V, Below W.heap.size W V → Calls Try.prog 10 #[fv] V fun e w' => e = .returned (.bool true) ∧ Below V.heap.size V w') := Lib.hid fun V hb => by
    have := few_any d a V
    rw [hfew, hfv] at this
    exact this
  have hck : Hid (∀ V, Below W.heap.size W V → Calls Try.prog 17 #[faceV d a] V fun e w' => e = .returned (.bool true) ∧ Below V.heap.size V w') := Lib.hid fun V hb => face_c hf V (Nat.le_trans hbw.size hb.size) (hF.mono (hbw.trans (hb.mono hbw.size)))
  have HLd : Hid (∀ V, Below W.heap.size W V → _) := Lib.hid fun V hb => ld_box hfv hbx hb
  clear hfv hfew hf
  go_enter Try.func7, Try.ntmps7
  go_wp2_with fail
  with_reducible refine (awake_any _).mono ?_; rintro e w1 ⟨rfl, hb⟩
  have b0 := hb
  clear hb hW
  have ld := HLd.out _ b0
  go_wp2_with (refine ld_law ld rfl _ rfl rfl ?_)
  with_reducible refine (hfw.out _ b0).mono ?_; rintro e w2 ⟨rfl, hb⟩
  have b1 := below_join b0 hb
  clear hb b0 hfw ld
  obtain ⟨⟨c0, c1, c2, c3, c4, c5, c6, c7, c8, c9, c10⟩, c11, c12, c13, c14, c15⟩ := face_cells (hbx.below b1)
  go_wp2_with fail
  with_reducible refine (hck.out _ b1).mono ?_; rintro e w3 ⟨rfl, hb⟩
  have b2 := below_join b1 hb
  clear hb c0 c1 c2 c3 c4 c5 c6 c7 c8 c9 c10 c11 c12 c13 c14 c15 b1 hck HLd
  have hx3 := hbx.below b2
  have hw3 := hbw.trans (b2.mono hbw.size)
  go_upto_region 4 with fail
  go_cut [8] (fun v wx => v = .pointer (some ⟨w3.heap.size, 0, none⟩) ∧ wx = w3.alloc (.cells (faceCells d a) 29))
  case first =>
    obtain ⟨⟨c0, c1, c2, c3, c4, c5, c6, c7, c8, c9, c10⟩, c11, c12, c13, c14, c15⟩ := face_cells hx3
    go_wp2_with fail
    go_meet
    exact ⟨rfl, rfl⟩
  case rest =>
    obtain ⟨rfl, rfl⟩ := hcut
    apply_assumption
    refine eg_2b d a code n w w3 hF hc hn hx3 hw3 hv he hk a1 a2 t1 _ _ _ _ _ _ _ _ _ _ _ _ _ _ _ _ _ _ _ _ _ _ _ _ _ _ _ _ _ _ _ _ _ _ _ _ _ _ _ _ _ _ _ _ _ _ _ _ _ _ _ _ _ _ _ _ _ _ _ _ _ _ _ _ _ _ _ _ _ _ _ _ _ _ _ _ _ _ _ _ _ _ _ _ _ _ _ _ _ _ _ _ _ _ _ _ _ _ _ _ _ _ _ _ _ _ _ _ ?_
    intro t w' h6 hb
    refine bodyPost_ret (results_tmp rfl _ _ _) rfl ⟨by rw [h6], hb⟩
theorem edges_walk (c0 : Array Value) (x0 : FaceT) (code n : Int) (w : World) (h0 : faceR.K w w.heap.size c0.toList x0) (hc : (Lit.int .i64 code).wf = true) (hn : (Lit.int .i8 n).wf = true) :
    Calls Try.prog 7 #[.agg c0, .int .i64 code, .int .i8 n] w fun e w' => e = .returned (.bool true) ∧ Below w.heap.size w w' := by
  obtain ⟨d, a, rfl, hF⟩ := face_of h0
  cases hfew : fewB d with
  | false => exact eg_few d a code n w hF hc hn hfew
  | true =>
    cases hf : faceB d with
    | false => exact eg_bad d a code n w hF hc hn hfew hf
    | true =>
      by_cases hco : 0 ≤ code ∧ code ≤ 255
      · have f1 := traited_face hf (code, 1000, 1000, -1000) hco ⟨by dsimp only; omega, by dsimp only; omega⟩ ⟨by dsimp only; omega, by dsimp only; omega⟩ ⟨by dsimp only; omega, by dsimp only; omega⟩
        have f2 := traited_face hf (code, 1000, 500, 0) hco ⟨by dsimp only; omega, by dsimp only; omega⟩ ⟨by dsimp only; omega, by dsimp only; omega⟩ ⟨by dsimp only; omega, by dsimp only; omega⟩
        cases hq : hasB d.font code with
        | false =>
          have e1 : widthV (traited d (code, 1000, 1000, -1000)) code n = (0, 80) := by unfold widthV; rw [f1, show hasB (traited d (code, 1000, 1000, -1000)).font code = false from hq]; rfl
          have e2 : widthV (traited d (code, 1000, 500, 0)) code n = (0, 80) := by unfold widthV; rw [f2, show hasB (traited d (code, 1000, 500, 0)).font code = false from hq]; rfl
          exact eg_1 d a code n w hF hc hn e1 (by unfold edgesV; rw [e1]; rfl) (by unfold edgesV; rw [e2]; rfl) hfew hf (by decide)
        | true =>
          have e1 : widthV (traited d (code, 1000, 1000, -1000)) code n = (wideP (traited d (code, 1000, 1000, -1000)) code n, 0) := by unfold widthV; rw [f1, show hasB (traited d (code, 1000, 1000, -1000)).font code = true from hq]; rfl
          have e2 : widthV (traited d (code, 1000, 500, 0)) code n = (wideP (traited d (code, 1000, 500, 0)) code n, 0) := by unfold widthV; rw [f2, show hasB (traited d (code, 1000, 500, 0)).font code = true from hq]; rfl
          have e3 := wide_same (d := d) (T := (code, 1000, 1000, -1000)) (U := (code, 1000, 500, 0)) n rfl rfl
          have bd := wide_bound (d := traited d (code, 1000, 1000, -1000)) n f1 hq
          have t1 := traited_trait d (code, 1000, 1000, -1000)
          have t2 := traited_trait d (code, 1000, 500, 0)
          dsimp only at e3 t1 t2
          rw [← e3] at e2
          generalize wideP (traited d (code, 1000, 1000, -1000)) code n = v at *
          have g1 : fl v 1000 1000 = v := by rw [fl_div (by omega) (by omega) (by omega)]; omega
          have g2 : fl v (-1000) 1000 = -v := by rw [fl_div (by omega) (by omega) (by omega)]; omega
          have g3 : fl v 500 1000 = v * 500 / 1000 := fl_div (by omega) (by omega) (by omega)
          have g4 : fl v 0 1000 = 0 := by rw [fl_div (by omega) (by omega) (by omega)]; simp
          have s1 : edgesV (traited d (code, 1000, 1000, -1000)) code n = (v, -v, 0) := by
            unfold edgesV
            rw [e1, if_pos rfl, t1]
            show (fl v 1000 1000, fl v (-1000) 1000, (0 : Int)) = _
            rw [g1, g2]
          have s2 : edgesV (traited d (code, 1000, 500, 0)) code n = (v * 500 / 1000, 0, 0) := by
            unfold edgesV
            rw [e2, if_pos rfl, t2]
            show (fl v 500 1000, fl v 0 1000, (0 : Int)) = _
            rw [g3, g4]
          obtain ⟨m, hm⟩ : ∃ m, v * 500 / 1000 = m := ⟨_, rfl⟩
          rw [hm] at s2
          have hmm : v = 2 * m ∨ v = 2 * m + 1 := by omega
          refine eg_2 d a code n w hF hc hn e1 s1 s2 hfew hf bd (by omega) ?_
          rcases hmm with h | h
          · exact .inl (by simpa using h)
          · exact .inr ⟨by simp; omega, by simpa using h⟩
      · have f1 := traited_bad (d := d) (code, 1000, 1000, -1000) hco
        have f2 := traited_bad (d := d) (code, 1000, 500, 0) hco
        exact eg_1 d a code n w hF hc hn (width_bad f1 _ _) (edges_bad f1 _ _) (edges_bad f2 _ _) hfew hf (by decide)
end Go.Proofs.Ytckmpllbbebefaa.Lv
