/- The statement LevelPlain: without traits all characters go along with a level, and nothing stands out. -/
import Derived.Test.YtckmpllbbebefaaLevel14
import Derived.Test.YtckmpllbbebefaaRTfm3
namespace Go.Proofs.Ytckmpllbbebefaa.Lv
open Go.RowKit Go.Proofs.Ytckmpllbbebefaa.Kit Go.Proofs.Ytckmpllbbebefaa.Fo
set_option linter.unusedVariables false
set_option linter.unusedSimpArgs false

abbrev plainD (d : FaceD) : FaceD := { font := d.font, size := d.size, step := d.step, up := d.up, down := d.down, traits := [] }
abbrev noA (a : FaceA) : FaceA := { font := a.font, t := none, ct := 0 }
theorem plain_in {w V : World} {d : FaceD} {a : FaceA} (hF : FaceIn w w.heap.size d a) (hb : Below w.heap.size w V) : FaceIn V V.heap.size (plainD d) (noA a) :=
  ⟨(hF.font.mono hb).up hb.size, hF.size, hF.step, hF.up, hF.down, row_nil _ _ _ _, by simp⟩
theorem plain_face {d : FaceD} (hf : faceB d = true) : faceB (plainD d) = true := by
  obtain ⟨hlig, hsz, hst, hu, hd, hwt⟩ := face_ok hf
  unfold faceB toB
  simp only [Bool.and_eq_true, decide_eq_true_eq, Bool.not_eq_true']
  exact ⟨⟨⟨⟨⟨hlig, hsz⟩, hst⟩, hu⟩, hd⟩, rfl⟩
theorem plain_wide (d : FaceD) (code n : Int) : wideP (traited d (code, 1000, 0, 0)) code n = wideP (plainD d) code n := by
  have h1 := traited_trait d (code, 1000, 0, 0)
  dsimp only at h1
  unfold wideP
  rw [h1]
  rfl

set_option maxRecDepth 100000 in
set_option maxHeartbeats 8000000 in
theorem pl_few (d : FaceD) (a : FaceA) (code n : Int) (w : World) (hF : FaceIn w w.heap.size d a) (hc : (Lit.int .i64 code).wf = true) (hn : (Lit.int .i8 n).wf = true) (hfew : fewB d = false) :
    Calls Try.prog 5 #[faceV d a, .int .i64 code, .int .i8 n] w fun e w' => e = .returned (.bool true) ∧ Below w.heap.size w w' := by
  have hbx := Box.new w (faceCells d a) 29
  have hbw := (Below.refl w.heap.size w).alloc (Nat.le_refl _) (.cells (faceCells d a) 29)
  obtain ⟨W, hW⟩ : ∃ W, w.alloc (.cells (faceCells d a) 29) = W := ⟨_, rfl⟩
  rw [hW] at hbx hbw
  obtain ⟨fv, hfv⟩ : ∃ v, faceV d a = v := ⟨_, rfl⟩
  have hfw : Hid (∀ V, Below W.heap.size W V → Calls Try.prog 10 #[fv] V fun e w' => e = .returned (.bool false) ∧ Below V.heap.size V w') := Lib.hid fun V hb => by
    have := few_any d a V
    rw [hfew, hfv] at this
    exact this
  have HLd : Hid (∀ V, Below W.heap.size W V → _) := Lib.hid fun V hb => ld_box hfv hbx hb
  clear hfv hF hc hn hfew hbx
  go_enter Try.func5, Try.ntmps5
  go_wp2_with fail
  with_reducible refine (awake_any _).mono ?_; rintro e w1 ⟨rfl, hb⟩
  have b0 := hb
  clear hb hW
  have ld := HLd.out _ b0
  go_wp2_with (refine ld_law ld rfl _ rfl rfl ?_)
  with_reducible refine (hfw.out _ b0).mono ?_; rintro e w2 ⟨rfl, hb⟩
  have b1 := below_join b0 hb
  clear hb b0 hfw ld
  go_wp2_with fail
  go_ret
  exact ⟨rfl, hbw.trans (b1.mono hbw.size)⟩
set_option maxRecDepth 100000 in
set_option maxHeartbeats 8000000 in
theorem pl_bad (d : FaceD) (a : FaceA) (code n : Int) (w : World) (hF : FaceIn w w.heap.size d a) (hc : (Lit.int .i64 code).wf = true) (hn : (Lit.int .i8 n).wf = true) (hfew : fewB d = true) (hf : faceB d = false) :
    Calls Try.prog 5 #[faceV d a, .int .i64 code, .int .i8 n] w fun e w' => e = .returned (.bool true) ∧ Below w.heap.size w w' := by
  have hbx := Box.new w (faceCells d a) 29
  have hbw := (Below.refl w.heap.size w).alloc (Nat.le_refl _) (.cells (faceCells d a) 29)
  obtain ⟨W, hW⟩ : ∃ W, w.alloc (.cells (faceCells d a) 29) = W := ⟨_, rfl⟩
  rw [hW] at hbx hbw
  obtain ⟨fv, hfv⟩ : ∃ v, faceV d a = v := ⟨_, rfl⟩
  have hfw : Hid (∀ V, Below W.heap.size W V → Calls Try.prog 10 #[fv] V fun e w' => e = .returned (.bool true) ∧ Below V.heap.size V w') := Lib.hid fun V hb => by
    have := few_any d a V
    rw [hfew, hfv] at this
    exact this
  have hck : Hid (∀ V, Below W.heap.size W V → Calls Try.prog 17 #[faceV d a] V fun e w' => e = .returned (.bool false) ∧ Below V.heap.size V w') := Lib.hid fun V hb => face_c hf V (Nat.le_trans hbw.size hb.size) (hF.mono (hbw.trans (hb.mono hbw.size)))
  have HLd : Hid (∀ V, Below W.heap.size W V → _) := Lib.hid fun V hb => ld_box hfv hbx hb
  clear hfv hF hc hn hfew hf
  go_enter Try.func5, Try.ntmps5
  go_wp2_with fail
  with_reducible refine (awake_any _).mono ?_; rintro e w1 ⟨rfl, hb⟩
  have b0 := hb
  clear hb hW
  have ld := HLd.out _ b0
  go_wp2_with (refine ld_law ld rfl _ rfl rfl ?_)
  with_reducible refine (hfw.out _ b0).mono ?_; rintro e w2 ⟨rfl, hb⟩
  have b1 := below_join b0 hb
  clear hb b0 hfw ld
  obtain ⟨⟨c0, c1, c2, c3, c4, c5, c6, c7, c8, c9, c10⟩, c11, c12, c13, c14, c15⟩ := face_cells (hbx.below b1)
  go_wp2_with fail
  with_reducible refine (hck.out _ b1).mono ?_; rintro e w3 ⟨rfl, hb⟩
  have b2 := below_join b1 hb
  clear hb c0 c1 c2 c3 c4 c5 c6 c7 c8 c9 c10 c11 c12 c13 c14 c15 b1 hck HLd
  clear hbx
  go_wp2_with fail
  go_ret
  exact ⟨rfl, hbw.trans (b2.mono hbw.size)⟩
set_option maxRecDepth 100000 in
set_option maxHeartbeats 8000000 in
theorem pl_1b (d : FaceD) (a : FaceA) (code n : Int) (w w3 : World) (hF : FaceIn w w.heap.size d a) (hc : (Lit.int .i64 code).wf = true) (hn : (Lit.int .i8 n).wf = true) (hbx : Box w3 w.heap.size (faceCells d a) 29) (b2 : Below w.heap.size w w3) {v x y : Int} (hv : widthV (plainD d) code n = (v, 80)) (he : edgesV (plainD d) code n = (0, 0, 80)) (ht : widthV (traited d (code, 1000, 0, 0)) code n = (x, y)) (hh : (tfmB d.font && hasB d.font code) = false) (Q : Exit → Act → World → Prop) (s4 s5 s9 s10 s11 s12 s13 s14 s15 s16 s17 s18 s19 s20 s21 s22 s23 s24 s25 s26 s27 s28 s29 s30 s31 s32 s33 s34 s35 s36 s37 s38 s39 s40 s41 s42 s43 s44 s45 s46 s47 s48 s49 s50 s51 s52 s53 s54 s55 s56 s57 s58 s59 s60 s61 s62 s63 s64 s65 s66 s67 s68 s69 s70 s71 s72 s73 s74 s75 s76 s77 s78 s79 s80 s81 s82 s83 s84 s85 s86 s87 s88 s89 s90 s91 s92 s93 s94 s95 s96 : Value)
    (hQ : ∀ (t : Array Value) (w' : World), t.getD 6 undef = .bool true → Below w.heap.size w w' → Q .ret { tmps := t, defers := [] } w') :
    (tl (tl (tl (tl (Try.f5.body.getD .ret))))).wp Try.prog Q { tmps := #[faceV d a, .int .i64 code, .int .i8 n, .pointer (some ⟨w.heap.size, 0, none⟩), s4, s5, .bool false, .bool true, .pointer (some ⟨w3.heap.size, 0, none⟩), s9, s10, s11, s12, s13, s14, s15, s16, s17, s18, s19, s20, s21, s22, s23, s24, s25, s26, s27, s28, s29, s30, s31, s32, s33, s34, s35, s36, s37, s38, s39, s40, s41, s42, s43, s44, s45, s46, s47, s48, s49, s50, s51, s52, s53, s54, s55, s56, s57, s58, s59, s60, s61, s62, s63, s64, s65, s66, s67, s68, s69, s70, s71, s72, s73, s74, s75, s76, s77, s78, s79, s80, s81, s82, s83, s84, s85, s86, s87, s88, s89, s90, s91, s92, s93, s94, s95, s96], defers := [] } (w3.alloc (.cells (faceCells d a) 29)) := by
  have hQ := Lib.hid hQ
  dsimp only [tl, Try.f5, Option.getD_some]
  have HF := Lib.hid hF
  obtain ⟨n1, n2⟩ := i8_of hn
  clear hF hn
  have r0 := Box.new w3 #[.int .i64 d.font.sum, .int .i64 d.font.design, .int .i64 d.font.first, .slice a.font.c d.font.chars.length a.font.cc, .slice a.font.w d.font.widths.length a.font.cw, .slice a.font.h d.font.heights.length a.font.ch, .slice a.font.d d.font.depths.length a.font.cd, .slice a.font.i d.font.italics.length a.font.ci, .slice a.font.s d.font.steps.length a.font.cs, .slice a.font.k d.font.kerns.length a.font.ck, .slice a.font.p d.font.params.length a.font.cp, .int .i64 d.size, .int .i64 d.step, .int .i64 d.up, .int .i64 d.down, .slice none 0 0] 29
  have rx := hbx.alloc (.cells #[.int .i64 d.font.sum, .int .i64 d.font.design, .int .i64 d.font.first, .slice a.font.c d.font.chars.length a.font.cc, .slice a.font.w d.font.widths.length a.font.cw, .slice a.font.h d.font.heights.length a.font.ch, .slice a.font.d d.font.depths.length a.font.cd, .slice a.font.i d.font.italics.length a.font.ci, .slice a.font.s d.font.steps.length a.font.cs, .slice a.font.k d.font.kerns.length a.font.ck, .slice a.font.p d.font.params.length a.font.cp, .int .i64 d.size, .int .i64 d.step, .int .i64 d.up, .int .i64 d.down, .slice none 0 0] 29)
  have b3 := below_alloc b2 (.cells #[.int .i64 d.font.sum, .int .i64 d.font.design, .int .i64 d.font.first, .slice a.font.c d.font.chars.length a.font.cc, .slice a.font.w d.font.widths.length a.font.cw, .slice a.font.h d.font.heights.length a.font.ch, .slice a.font.d d.font.depths.length a.font.cd, .slice a.font.i d.font.italics.length a.font.ci, .slice a.font.s d.font.steps.length a.font.cs, .slice a.font.k d.font.kerns.length a.font.ck, .slice a.font.p d.font.params.length a.font.cp, .int .i64 d.size, .int .i64 d.step, .int .i64 d.up, .int .i64 d.down, .slice none 0 0] 29)
  go_upto_region 6 with fail
  clear b2 hbx
  obtain ⟨V, hVV⟩ : ∃ V, V = w3.alloc (.cells #[.int .i64 d.font.sum, .int .i64 d.font.design, .int .i64 d.font.first, .slice a.font.c d.font.chars.length a.font.cc, .slice a.font.w d.font.widths.length a.font.cw, .slice a.font.h d.font.heights.length a.font.ch, .slice a.font.d d.font.depths.length a.font.cd, .slice a.font.i d.font.italics.length a.font.ci, .slice a.font.s d.font.steps.length a.font.cs, .slice a.font.k d.font.kerns.length a.font.ck, .slice a.font.p d.font.params.length a.font.cp, .int .i64 d.size, .int .i64 d.step, .int .i64 d.up, .int .i64 d.down, .slice none 0 0] 29) := ⟨_, rfl⟩
  rw [← hVV]
  rw [← hVV] at r0 rx b3
  clear hVV
  generalize w3.heap.size = g8 at *
  obtain ⟨gv, hgv⟩ : ∃ v, faceV (plainD d) (noA a) = v := ⟨_, rfl⟩
  have i1 := plain_in HF.out b3
  have HLg : Hid (∀ V', Below V.heap.size V V' → (Instr.loadAt 29 (.pointer (some ⟨g8, 0, none⟩))).run Try.prog V' = .ok gv V') := Lib.hid fun V' hb => ld_box hgv (show Box V g8 (faceCells (plainD d) (noA a)) _ from r0) hb
  have HLd : Hid (∀ V', Below V.heap.size V V' → (Instr.loadAt 29 (.pointer (some ⟨w.heap.size, 0, none⟩))).run Try.prog V' = .ok (.agg #[.int .i64 d.font.sum, .int .i64 d.font.design, .int .i64 d.font.first, .slice a.font.c d.font.chars.length a.font.cc, .slice a.font.w d.font.widths.length a.font.cw, .slice a.font.h d.font.heights.length a.font.ch, .slice a.font.d d.font.depths.length a.font.cd, .slice a.font.i d.font.italics.length a.font.ci, .slice a.font.s d.font.steps.length a.font.cs, .slice a.font.k d.font.kerns.length a.font.ck, .slice a.font.p d.font.params.length a.font.cp, .int .i64 d.size, .int .i64 d.step, .int .i64 d.up, .int .i64 d.down, .slice a.t d.traits.length a.ct]) V') := Lib.hid fun V' hb => ld_box (a := a) (d := d) rfl rx hb
  have h1 : Hid (∀ V', Below V.heap.size V V' → Calls Try.prog 11 #[gv, .int .i64 code, .int .i64 n] V' fun e w' => e = .returned (.tuple #[.int .i64 v, .int .i64 80]) ∧ Below V'.heap.size V' w') := Lib.hid fun V' hb => by rw [← hgv]; exact width_c hv V' hb.size (i1.mono hb) hc
  have h2 : Hid (∀ V', Below V.heap.size V V' → Calls Try.prog 15 #[gv, .int .i64 code, .int .i64 n] V' fun e w' => e = .returned (.tuple #[.int .i64 0, .int .i64 0, .int .i64 80]) ∧ Below V'.heap.size V' w') := Lib.hid fun V' hb => by rw [← hgv]; exact edges_c he V' hb.size (i1.mono hb) hc
  have HT : Hid _ := Lib.hid ht
  have HB := Lib.hid b3
  have HC := Lib.hid hc
  have HX := Lib.hid rx
  have HH : Hid _ := Lib.hid hh
  clear r0 rx i1 hgv hv he b3 hc ht hh
  have k0 := Below.refl V.heap.size V
  have ld := HLg.out _ k0
  go_wp2_with (refine ld_law ld rfl _ rfl rfl ?_)
  with_reducible refine (h1.out _ k0).mono ?_; rintro e v0 ⟨rfl, hb⟩
  have k1 := below_join k0 hb
  clear hb ld k0 h1
  have ld := HLg.out _ k1
  go_wp2_with (refine ld_law ld rfl _ rfl rfl ?_)
  with_reducible refine (h2.out _ k1).mono ?_; rintro e v1 ⟨rfl, hb⟩
  have k2 := below_join k1 hb
  clear hb ld k1 h2
  clear HLg
  have ld := HLd.out _ k2
  clear HLd
  have r0 := (Box.new v1 #[.int .i64 d.font.sum, .int .i64 d.font.design, .int .i64 d.font.first, .slice a.font.c d.font.chars.length a.font.cc, .slice a.font.w d.font.widths.length a.font.cw, .slice a.font.h d.font.heights.length a.font.ch, .slice a.font.d d.font.depths.length a.font.cd, .slice a.font.i d.font.italics.length a.font.ci, .slice a.font.s d.font.steps.length a.font.cs, .slice a.font.k d.font.kerns.length a.font.ck, .slice a.font.p d.font.params.length a.font.cp, .int .i64 d.size, .int .i64 d.step, .int .i64 d.up, .int .i64 d.down, .slice (some ⟨v1.heap.size + 1, 0, none⟩) 1 1] 29).alloc (.cells #[.int .i64 code, .int .i64 1000, .int .i64 0, .int .i64 0] 42)
  have r1 := Box.new (v1.alloc (.cells #[.int .i64 d.font.sum, .int .i64 d.font.design, .int .i64 d.font.first, .slice a.font.c d.font.chars.length a.font.cc, .slice a.font.w d.font.widths.length a.font.cw, .slice a.font.h d.font.heights.length a.font.ch, .slice a.font.d d.font.depths.length a.font.cd, .slice a.font.i d.font.italics.length a.font.ci, .slice a.font.s d.font.steps.length a.font.cs, .slice a.font.k d.font.kerns.length a.font.ck, .slice a.font.p d.font.params.length a.font.cp, .int .i64 d.size, .int .i64 d.step, .int .i64 d.up, .int .i64 d.down, .slice (some ⟨v1.heap.size + 1, 0, none⟩) 1 1] 29)) #[.int .i64 code, .int .i64 1000, .int .i64 0, .int .i64 0] 42
  have rx := ((HX.out.below k2).alloc (.cells #[.int .i64 d.font.sum, .int .i64 d.font.design, .int .i64 d.font.first, .slice a.font.c d.font.chars.length a.font.cc, .slice a.font.w d.font.widths.length a.font.cw, .slice a.font.h d.font.heights.length a.font.ch, .slice a.font.d d.font.depths.length a.font.cd, .slice a.font.i d.font.italics.length a.font.ci, .slice a.font.s d.font.steps.length a.font.cs, .slice a.font.k d.font.kerns.length a.font.ck, .slice a.font.p d.font.params.length a.font.cp, .int .i64 d.size, .int .i64 d.step, .int .i64 d.up, .int .i64 d.down, .slice (some ⟨v1.heap.size + 1, 0, none⟩) 1 1] 29)).alloc (.cells #[.int .i64 code, .int .i64 1000, .int .i64 0, .int .i64 0] 42)
  have b4 : Below V.heap.size V ((v1.alloc (.cells #[.int .i64 d.font.sum, .int .i64 d.font.design, .int .i64 d.font.first, .slice a.font.c d.font.chars.length a.font.cc, .slice a.font.w d.font.widths.length a.font.cw, .slice a.font.h d.font.heights.length a.font.ch, .slice a.font.d d.font.depths.length a.font.cd, .slice a.font.i d.font.italics.length a.font.ci, .slice a.font.s d.font.steps.length a.font.cs, .slice a.font.k d.font.kerns.length a.font.ck, .slice a.font.p d.font.params.length a.font.cp, .int .i64 d.size, .int .i64 d.step, .int .i64 d.up, .int .i64 d.down, .slice (some ⟨v1.heap.size + 1, 0, none⟩) 1 1] 29)).alloc (.cells #[.int .i64 code, .int .i64 1000, .int .i64 0, .int .i64 0] 42)) := below_alloc (below_alloc k2 _) _
  simp only [World.size_alloc] at r1
  go_upto_region 9 with (refine ld_law ld rfl _ rfl rfl ?_)
  clear ld HX
  go_upto_region 10 with fail
  obtain ⟨V4, hV4⟩ : ∃ V4, V4 = (v1.alloc (.cells #[.int .i64 d.font.sum, .int .i64 d.font.design, .int .i64 d.font.first, .slice a.font.c d.font.chars.length a.font.cc, .slice a.font.w d.font.widths.length a.font.cw, .slice a.font.h d.font.heights.length a.font.ch, .slice a.font.d d.font.depths.length a.font.cd, .slice a.font.i d.font.italics.length a.font.ci, .slice a.font.s d.font.steps.length a.font.cs, .slice a.font.k d.font.kerns.length a.font.ck, .slice a.font.p d.font.params.length a.font.cp, .int .i64 d.size, .int .i64 d.step, .int .i64 d.up, .int .i64 d.down, .slice (some ⟨v1.heap.size + 1, 0, none⟩) 1 1] 29)).alloc (.cells #[.int .i64 code, .int .i64 1000, .int .i64 0, .int .i64 0] 42) := ⟨_, rfl⟩
  rw [← hV4]
  rw [← hV4] at r0 r1 rx b4
  clear hV4 k2
  generalize v1.heap.size = g14 at *
  obtain ⟨kv, hkv⟩ : ∃ v, faceV (traited d (code, 1000, 0, 0)) (withA a (g14 + 1)) = v := ⟨_, rfl⟩
  have b5 := HB.out.trans (b4.mono HB.out.size)
  have i2 := traited_in (T := (code, 1000, 0, 0)) HF.out b5 r1 ⟨HC.out, show (Lit.int .i64 1000).wf = true by decide, show (Lit.int .i64 0).wf = true by decide, show (Lit.int .i64 0).wf = true by decide⟩
  have HLk : Hid (∀ V', Below V4.heap.size V4 V' → (Instr.loadAt 29 (.pointer (some ⟨g14, 0, none⟩))).run Try.prog V' = .ok kv V') := Lib.hid fun V' hb => ld_box hkv (show Box V4 g14 (faceCells (traited d (code, 1000, 0, 0)) (withA a (g14 + 1))) _ from r0) hb
  have h4 : Hid (∀ V', Below V4.heap.size V4 V' → Calls Try.prog 11 #[kv, .int .i64 code, .int .i64 n] V' fun e w' => e = .returned (.tuple #[.int .i64 x, .int .i64 y]) ∧ Below V'.heap.size V' w') := Lib.hid fun V' hb => by rw [← hkv]; exact width_c HT.out V' hb.size (i2.mono hb) HC.out
  have h3 : Hid (∀ V', Below V4.heap.size V4 V' → Calls Try.prog 21 #[fontV d.font a.font, .int .i64 code] V' fun e w' => e = .returned (.bool false) ∧ Below V'.heap.size V' w') := Lib.hid fun V' hb => by rw [← HH.out]; exact RFo.rhas_any d.font a.font code V' (Nat.le_trans b5.size hb.size) (HF.out.font.mono (b5.trans (hb.mono b5.size))) HC.out
  clear r0 r1 i2 hkv HF HC HT HH
  obtain ⟨⟨d0, d1, d2, d3, d4, d5, d6, d7, d8, d9, d10⟩, _⟩ := face_cells rx
  have HB5 := Lib.hid b5
  clear b5 b4 HB rx
  have k0 := Below.refl V4.heap.size V4
  go_wp2_with fail
  with_reducible refine (h3.out _ k0).mono ?_; rintro e v2 ⟨rfl, hb⟩
  have k1 := below_join k0 hb
  clear hb k0 h3 d0 d1 d2 d3 d4 d5 d6 d7 d8 d9 d10
  have ld := HLk.out _ k1
  go_wp2_with (refine ld_law ld rfl _ rfl rfl ?_)
  with_reducible refine (h4.out _ k1).mono ?_; rintro e v3 ⟨rfl, hb⟩
  have k2 := below_join k1 hb
  clear hb ld k1 h4 HLk
  all_goals
    go_wp2_with fail
    exact hQ.out _ _ rfl (below_join HB5.out k2)
set_option maxRecDepth 100000 in
set_option maxHeartbeats 8000000 in
theorem pl_1 (d : FaceD) (a : FaceA) (code n : Int) (w : World) (hF : FaceIn w w.heap.size d a) (hc : (Lit.int .i64 code).wf = true) (hn : (Lit.int .i8 n).wf = true) {v x y : Int} (hv : widthV (plainD d) code n = (v, 80)) (he : edgesV (plainD d) code n = (0, 0, 80)) (ht : widthV (traited d (code, 1000, 0, 0)) code n = (x, y)) (hh : (tfmB d.font && hasB d.font code) = false) (hfew : fewB d = true) (hf : faceB d = true) :
    Calls Try.prog 5 #[faceV d a, .int .i64 code, .int .i8 n] w fun e w' => e = .returned (.bool true) ∧ Below w.heap.size w w' := by
  have hbx := Box.new w (faceCells d a) 29
  have hbw := (Below.refl w.heap.size w).alloc (Nat.le_refl _) (.cells (faceCells d a) 29)
  obtain ⟨W, hW⟩ : ∃ W, w.alloc (.cells (faceCells d a) 29) = W := ⟨_, rfl⟩
  rw [hW] at hbx hbw
  obtain ⟨fv, hfv⟩ : ∃ v, faceV d a = v := ⟨_, rfl⟩
  have hfw : Hid (∀ V, Below W.heap.size W V → Calls Try.prog 10 #[fv] V fun e w' => e = .returned (.bool true) ∧ Below V.heap.size V w') := Lib.hid fun V hb => by
    have := few_any d a V
    rw [hfew, hfv] at this
    exact this
  have hck : Hid (∀ V, Below W.heap.size W V → Calls Try.prog 17 #[faceV d a] V fun e w' => e = .returned (.bool true) ∧ Below V.heap.size V w') := Lib.hid fun V hb => face_c hf V (Nat.le_trans hbw.size hb.size) (hF.mono (hbw.trans (hb.mono hbw.size)))
  have HLd : Hid (∀ V, Below W.heap.size W V → _) := Lib.hid fun V hb => ld_box hfv hbx hb
  clear hfv hfew hf
  go_enter Try.func5, Try.ntmps5
  go_wp2_with fail
  with_reducible refine (awake_any _).mono ?_; rintro e w1 ⟨rfl, hb⟩
  have b0 := hb
  clear hb hW
  have ld := HLd.out _ b0
  go_wp2_with (refine ld_law ld rfl _ rfl rfl ?_)
  with_reducible refine (hfw.out _ b0).mono ?_; rintro e w2 ⟨rfl, hb⟩
  have b1 := below_join b0 hb
  clear hb b0 hfw ld
  obtain ⟨⟨c0, c1, c2, c3, c4, c5, c6, c7, c8, c9, c10⟩, c11, c12, c13, c14, c15⟩ := face_cells (hbx.below b1)
  go_wp2_with fail
  with_reducible refine (hck.out _ b1).mono ?_; rintro e w3 ⟨rfl, hb⟩
  have b2 := below_join b1 hb
  clear hb c0 c1 c2 c3 c4 c5 c6 c7 c8 c9 c10 c11 c12 c13 c14 c15 b1 hck HLd
  have hx3 := hbx.below b2
  have hw3 := hbw.trans (b2.mono hbw.size)
  go_upto_region 4 with fail
  go_cut [8] (fun v wx => v = .pointer (some ⟨w3.heap.size, 0, none⟩) ∧ wx = w3.alloc (.cells (faceCells d a) 29))
  case first =>
    obtain ⟨⟨c0, c1, c2, c3, c4, c5, c6, c7, c8, c9, c10⟩, c11, c12, c13, c14, c15⟩ := face_cells hx3
    go_wp2_with fail
    go_meet
    exact ⟨rfl, rfl⟩
  case rest =>
    obtain ⟨rfl, rfl⟩ := hcut
    apply_assumption
    refine pl_1b d a code n w w3 hF hc hn hx3 hw3 hv he ht hh _ _ _ _ _ _ _ _ _ _ _ _ _ _ _ _ _ _ _ _ _ _ _ _ _ _ _ _ _ _ _ _ _ _ _ _ _ _ _ _ _ _ _ _ _ _ _ _ _ _ _ _ _ _ _ _ _ _ _ _ _ _ _ _ _ _ _ _ _ _ _ _ _ _ _ _ _ _ _ _ _ _ _ _ _ _ _ _ _ _ _ ?_
    intro t w' h6 hb
    refine bodyPost_ret (results_tmp rfl _ _ _) rfl ⟨by rw [h6], hb⟩
set_option maxRecDepth 100000 in
set_option maxHeartbeats 8000000 in
theorem pl_2b (d : FaceD) (a : FaceA) (code n : Int) (w w3 : World) (hF : FaceIn w w.heap.size d a) (hc : (Lit.int .i64 code).wf = true) (hn : (Lit.int .i8 n).wf = true) (hbx : Box w3 w.heap.size (faceCells d a) 29) (b2 : Below w.heap.size w w3) {v : Int} (hv : widthV (plainD d) code n = (v, 0)) (he : edgesV (plainD d) code n = (0, 0, 0)) (ht : widthV (traited d (code, 1000, 0, 0)) code n = (v, 0)) (hh : (tfmB d.font && hasB d.font code) = true) (Q : Exit → Act → World → Prop) (s4 s5 s9 s10 s11 s12 s13 s14 s15 s16 s17 s18 s19 s20 s21 s22 s23 s24 s25 s26 s27 s28 s29 s30 s31 s32 s33 s34 s35 s36 s37 s38 s39 s40 s41 s42 s43 s44 s45 s46 s47 s48 s49 s50 s51 s52 s53 s54 s55 s56 s57 s58 s59 s60 s61 s62 s63 s64 s65 s66 s67 s68 s69 s70 s71 s72 s73 s74 s75 s76 s77 s78 s79 s80 s81 s82 s83 s84 s85 s86 s87 s88 s89 s90 s91 s92 s93 s94 s95 s96 : Value)
    (hQ : ∀ (t : Array Value) (w' : World), t.getD 6 undef = .bool true → Below w.heap.size w w' → Q .ret { tmps := t, defers := [] } w') :
    (tl (tl (tl (tl (Try.f5.body.getD .ret))))).wp Try.prog Q { tmps := #[faceV d a, .int .i64 code, .int .i8 n, .pointer (some ⟨w.heap.size, 0, none⟩), s4, s5, .bool false, .bool true, .pointer (some ⟨w3.heap.size, 0, none⟩), s9, s10, s11, s12, s13, s14, s15, s16, s17, s18, s19, s20, s21, s22, s23, s24, s25, s26, s27, s28, s29, s30, s31, s32, s33, s34, s35, s36, s37, s38, s39, s40, s41, s42, s43, s44, s45, s46, s47, s48, s49, s50, s51, s52, s53, s54, s55, s56, s57, s58, s59, s60, s61, s62, s63, s64, s65, s66, s67, s68, s69, s70, s71, s72, s73, s74, s75, s76, s77, s78, s79, s80, s81, s82, s83, s84, s85, s86, s87, s88, s89, s90, s91, s92, s93, s94, s95, s96], defers := [] } (w3.alloc (.cells (faceCells d a) 29)) := by
  have hQ := Lib.hid hQ
  dsimp only [tl, Try.f5, Option.getD_some]
  have HF := Lib.hid hF
  obtain ⟨n1, n2⟩ := i8_of hn
  clear hF hn
  have r0 := Box.new w3 #[.int .i64 d.font.sum, .int .i64 d.font.design, .int .i64 d.font.first, .slice a.font.c d.font.chars.length a.font.cc, .slice a.font.w d.font.widths.length a.font.cw, .slice a.font.h d.font.heights.length a.font.ch, .slice a.font.d d.font.depths.length a.font.cd, .slice a.font.i d.font.italics.length a.font.ci, .slice a.font.s d.font.steps.length a.font.cs, .slice a.font.k d.font.kerns.length a.font.ck, .slice a.font.p d.font.params.length a.font.cp, .int .i64 d.size, .int .i64 d.step, .int .i64 d.up, .int .i64 d.down, .slice none 0 0] 29
  have rx := hbx.alloc (.cells #[.int .i64 d.font.sum, .int .i64 d.font.design, .int .i64 d.font.first, .slice a.font.c d.font.chars.length a.font.cc, .slice a.font.w d.font.widths.length a.font.cw, .slice a.font.h d.font.heights.length a.font.ch, .slice a.font.d d.font.depths.length a.font.cd, .slice a.font.i d.font.italics.length a.font.ci, .slice a.font.s d.font.steps.length a.font.cs, .slice a.font.k d.font.kerns.length a.font.ck, .slice a.font.p d.font.params.length a.font.cp, .int .i64 d.size, .int .i64 d.step, .int .i64 d.up, .int .i64 d.down, .slice none 0 0] 29)
  have b3 := below_alloc b2 (.cells #[.int .i64 d.font.sum, .int .i64 d.font.design, .int .i64 d.font.first, .slice a.font.c d.font.chars.length a.font.cc, .slice a.font.w d.font.widths.length a.font.cw, .slice a.font.h d.font.heights.length a.font.ch, .slice a.font.d d.font.depths.length a.font.cd, .slice a.font.i d.font.italics.length a.font.ci, .slice a.font.s d.font.steps.length a.font.cs, .slice a.font.k d.font.kerns.length a.font.ck, .slice a.font.p d.font.params.length a.font.cp, .int .i64 d.size, .int .i64 d.step, .int .i64 d.up, .int .i64 d.down, .slice none 0 0] 29)
  go_upto_region 6 with fail
  clear b2 hbx
  obtain ⟨V, hVV⟩ : ∃ V, V = w3.alloc (.cells #[.int .i64 d.font.sum, .int .i64 d.font.design, .int .i64 d.font.first, .slice a.font.c d.font.chars.length a.font.cc, .slice a.font.w d.font.widths.length a.font.cw, .slice a.font.h d.font.heights.length a.font.ch, .slice a.font.d d.font.depths.length a.font.cd, .slice a.font.i d.font.italics.length a.font.ci, .slice a.font.s d.font.steps.length a.font.cs, .slice a.font.k d.font.kerns.length a.font.ck, .slice a.font.p d.font.params.length a.font.cp, .int .i64 d.size, .int .i64 d.step, .int .i64 d.up, .int .i64 d.down, .slice none 0 0] 29) := ⟨_, rfl⟩
  rw [← hVV]
  rw [← hVV] at r0 rx b3
  clear hVV
  generalize w3.heap.size = g8 at *
  obtain ⟨gv, hgv⟩ : ∃ v, faceV (plainD d) (noA a) = v := ⟨_, rfl⟩
  have i1 := plain_in HF.out b3
  have HLg : Hid (∀ V', Below V.heap.size V V' → (Instr.loadAt 29 (.pointer (some ⟨g8, 0, none⟩))).run Try.prog V' = .ok gv V') := Lib.hid fun V' hb => ld_box hgv (show Box V g8 (faceCells (plainD d) (noA a)) _ from r0) hb
  have HLd : Hid (∀ V', Below V.heap.size V V' → (Instr.loadAt 29 (.pointer (some ⟨w.heap.size, 0, none⟩))).run Try.prog V' = .ok (.agg #[.int .i64 d.font.sum, .int .i64 d.font.design, .int .i64 d.font.first, .slice a.font.c d.font.chars.length a.font.cc, .slice a.font.w d.font.widths.length a.font.cw, .slice a.font.h d.font.heights.length a.font.ch, .slice a.font.d d.font.depths.length a.font.cd, .slice a.font.i d.font.italics.length a.font.ci, .slice a.font.s d.font.steps.length a.font.cs, .slice a.font.k d.font.kerns.length a.font.ck, .slice a.font.p d.font.params.length a.font.cp, .int .i64 d.size, .int .i64 d.step, .int .i64 d.up, .int .i64 d.down, .slice a.t d.traits.length a.ct]) V') := Lib.hid fun V' hb => ld_box (a := a) (d := d) rfl rx hb
  have h1 : Hid (∀ V', Below V.heap.size V V' → Calls Try.prog 11 #[gv, .int .i64 code, .int .i64 n] V' fun e w' => e = .returned (.tuple #[.int .i64 v, .int .i64 0]) ∧ Below V'.heap.size V' w') := Lib.hid fun V' hb => by rw [← hgv]; exact width_c hv V' hb.size (i1.mono hb) hc
  have h2 : Hid (∀ V', Below V.heap.size V V' → Calls Try.prog 15 #[gv, .int .i64 code, .int .i64 n] V' fun e w' => e = .returned (.tuple #[.int .i64 0, .int .i64 0, .int .i64 0]) ∧ Below V'.heap.size V' w') := Lib.hid fun V' hb => by rw [← hgv]; exact edges_c he V' hb.size (i1.mono hb) hc
  have HT : Hid _ := Lib.hid ht
  have HB := Lib.hid b3
  have HC := Lib.hid hc
  have HX := Lib.hid rx
  have HH : Hid _ := Lib.hid hh
  clear r0 rx i1 hgv hv he b3 hc ht hh
  have k0 := Below.refl V.heap.size V
  have ld := HLg.out _ k0
  go_wp2_with (refine ld_law ld rfl _ rfl rfl ?_)
  with_reducible refine (h1.out _ k0).mono ?_; rintro e v0 ⟨rfl, hb⟩
  have k1 := below_join k0 hb
  clear hb ld k0 h1
  have ld := HLg.out _ k1
  go_wp2_with (refine ld_law ld rfl _ rfl rfl ?_)
  with_reducible refine (h2.out _ k1).mono ?_; rintro e v1 ⟨rfl, hb⟩
  have k2 := below_join k1 hb
  clear hb ld k1 h2
  clear HLg
  have ld := HLd.out _ k2
  clear HLd
  have r0 := (Box.new v1 #[.int .i64 d.font.sum, .int .i64 d.font.design, .int .i64 d.font.first, .slice a.font.c d.font.chars.length a.font.cc, .slice a.font.w d.font.widths.length a.font.cw, .slice a.font.h d.font.heights.length a.font.ch, .slice a.font.d d.font.depths.length a.font.cd, .slice a.font.i d.font.italics.length a.font.ci, .slice a.font.s d.font.steps.length a.font.cs, .slice a.font.k d.font.kerns.length a.font.ck, .slice a.font.p d.font.params.length a.font.cp, .int .i64 d.size, .int .i64 d.step, .int .i64 d.up, .int .i64 d.down, .slice (some ⟨v1.heap.size + 1, 0, none⟩) 1 1] 29).alloc (.cells #[.int .i64 code, .int .i64 1000, .int .i64 0, .int .i64 0] 42)
  have r1 := Box.new (v1.alloc (.cells #[.int .i64 d.font.sum, .int .i64 d.font.design, .int .i64 d.font.first, .slice a.font.c d.font.chars.length a.font.cc, .slice a.font.w d.font.widths.length a.font.cw, .slice a.font.h d.font.heights.length a.font.ch, .slice a.font.d d.font.depths.length a.font.cd, .slice a.font.i d.font.italics.length a.font.ci, .slice a.font.s d.font.steps.length a.font.cs, .slice a.font.k d.font.kerns.length a.font.ck, .slice a.font.p d.font.params.length a.font.cp, .int .i64 d.size, .int .i64 d.step, .int .i64 d.up, .int .i64 d.down, .slice (some ⟨v1.heap.size + 1, 0, none⟩) 1 1] 29)) #[.int .i64 code, .int .i64 1000, .int .i64 0, .int .i64 0] 42
  have rx := ((HX.out.below k2).alloc (.cells #[.int .i64 d.font.sum, .int .i64 d.font.design, .int .i64 d.font.first, .slice a.font.c d.font.chars.length a.font.cc, .slice a.font.w d.font.widths.length a.font.cw, .slice a.font.h d.font.heights.length a.font.ch, .slice a.font.d d.font.depths.length a.font.cd, .slice a.font.i d.font.italics.length a.font.ci, .slice a.font.s d.font.steps.length a.font.cs, .slice a.font.k d.font.kerns.length a.font.ck, .slice a.font.p d.font.params.length a.font.cp, .int .i64 d.size, .int .i64 d.step, .int .i64 d.up, .int .i64 d.down, .slice (some ⟨v1.heap.size + 1, 0, none⟩) 1 1] 29)).alloc (.cells #[.int .i64 code, .int .i64 1000, .int .i64 0, .int .i64 0] 42)
  have b4 : Below V.heap.size V ((v1.alloc (.cells #[.int .i64 d.font.sum, .int .i64 d.font.design, .int .i64 d.font.first, .slice a.font.c d.font.chars.length a.font.cc, .slice a.font.w d.font.widths.length a.font.cw, .slice a.font.h d.font.heights.length a.font.ch, .slice a.font.d d.font.depths.length a.font.cd, .slice a.font.i d.font.italics.length a.font.ci, .slice a.font.s d.font.steps.length a.font.cs, .slice a.font.k d.font.kerns.length a.font.ck, .slice a.font.p d.font.params.length a.font.cp, .int .i64 d.size, .int .i64 d.step, .int .i64 d.up, .int .i64 d.down, .slice (some ⟨v1.heap.size + 1, 0, none⟩) 1 1] 29)).alloc (.cells #[.int .i64 code, .int .i64 1000, .int .i64 0, .int .i64 0] 42)) := below_alloc (below_alloc k2 _) _
  simp only [World.size_alloc] at r1
  go_upto_region 9 with (refine ld_law ld rfl _ rfl rfl ?_)
  clear ld HX
  go_upto_region 10 with fail
  obtain ⟨V4, hV4⟩ : ∃ V4, V4 = (v1.alloc (.cells #[.int .i64 d.font.sum, .int .i64 d.font.design, .int .i64 d.font.first, .slice a.font.c d.font.chars.length a.font.cc, .slice a.font.w d.font.widths.length a.font.cw, .slice a.font.h d.font.heights.length a.font.ch, .slice a.font.d d.font.depths.length a.font.cd, .slice a.font.i d.font.italics.length a.font.ci, .slice a.font.s d.font.steps.length a.font.cs, .slice a.font.k d.font.kerns.length a.font.ck, .slice a.font.p d.font.params.length a.font.cp, .int .i64 d.size, .int .i64 d.step, .int .i64 d.up, .int .i64 d.down, .slice (some ⟨v1.heap.size + 1, 0, none⟩) 1 1] 29)).alloc (.cells #[.int .i64 code, .int .i64 1000, .int .i64 0, .int .i64 0] 42) := ⟨_, rfl⟩
  rw [← hV4]
  rw [← hV4] at r0 r1 rx b4
  clear hV4 k2
  generalize v1.heap.size = g14 at *
  obtain ⟨kv, hkv⟩ : ∃ v, faceV (traited d (code, 1000, 0, 0)) (withA a (g14 + 1)) = v := ⟨_, rfl⟩
  have b5 := HB.out.trans (b4.mono HB.out.size)
  have i2 := traited_in (T := (code, 1000, 0, 0)) HF.out b5 r1 ⟨HC.out, show (Lit.int .i64 1000).wf = true by decide, show (Lit.int .i64 0).wf = true by decide, show (Lit.int .i64 0).wf = true by decide⟩
  have HLk : Hid (∀ V', Below V4.heap.size V4 V' → (Instr.loadAt 29 (.pointer (some ⟨g14, 0, none⟩))).run Try.prog V' = .ok kv V') := Lib.hid fun V' hb => ld_box hkv (show Box V4 g14 (faceCells (traited d (code, 1000, 0, 0)) (withA a (g14 + 1))) _ from r0) hb
  have h4 : Hid (∀ V', Below V4.heap.size V4 V' → Calls Try.prog 11 #[kv, .int .i64 code, .int .i64 n] V' fun e w' => e = .returned (.tuple #[.int .i64 v, .int .i64 0]) ∧ Below V'.heap.size V' w') := Lib.hid fun V' hb => by rw [← hkv]; exact width_c HT.out V' hb.size (i2.mono hb) HC.out
  have h3 : Hid (∀ V', Below V4.heap.size V4 V' → Calls Try.prog 21 #[fontV d.font a.font, .int .i64 code] V' fun e w' => e = .returned (.bool true) ∧ Below V'.heap.size V' w') := Lib.hid fun V' hb => by rw [← HH.out]; exact RFo.rhas_any d.font a.font code V' (Nat.le_trans b5.size hb.size) (HF.out.font.mono (b5.trans (hb.mono b5.size))) HC.out
  clear r0 r1 i2 hkv HF HC HT HH
  obtain ⟨⟨d0, d1, d2, d3, d4, d5, d6, d7, d8, d9, d10⟩, _⟩ := face_cells rx
  have HB5 := Lib.hid b5
  clear b5 b4 HB rx
  have k0 := Below.refl V4.heap.size V4
  go_wp2_with fail
  with_reducible refine (h3.out _ k0).mono ?_; rintro e v2 ⟨rfl, hb⟩
  have k1 := below_join k0 hb
  clear hb k0 h3 d0 d1 d2 d3 d4 d5 d6 d7 d8 d9 d10
  have ld := HLk.out _ k1
  go_wp2_with (refine ld_law ld rfl _ rfl rfl ?_)
  with_reducible refine (h4.out _ k1).mono ?_; rintro e v3 ⟨rfl, hb⟩
  have k2 := below_join k1 hb
  clear hb ld k1 h4 HLk
  all_goals
    go_wp2_with fail
    exact hQ.out _ _ rfl (below_join HB5.out k2)
set_option maxRecDepth 100000 in
set_option maxHeartbeats 8000000 in
theorem pl_2 (d : FaceD) (a : FaceA) (code n : Int) (w : World) (hF : FaceIn w w.heap.size d a) (hc : (Lit.int .i64 code).wf = true) (hn : (Lit.int .i8 n).wf = true) {v : Int} (hv : widthV (plainD d) code n = (v, 0)) (he : edgesV (plainD d) code n = (0, 0, 0)) (ht : widthV (traited d (code, 1000, 0, 0)) code n = (v, 0)) (hh : (tfmB d.font && hasB d.font code) = true) (hfew : fewB d = true) (hf : faceB d = true) :
    Calls Try.prog 5 #[faceV d a, .int .i64 code, .int .i8 n] w fun e w' => e = .returned (.bool true) ∧ Below w.heap.size w w' := by
  have hbx := Box.new w (faceCells d a) 29
  have hbw := (Below.refl w.heap.size w).alloc (Nat.le_refl _) (.cells (faceCells d a) 29)
  obtain ⟨W, hW⟩ : ∃ W, w.alloc (.cells (faceCells d a) 29) = W := ⟨_, rfl⟩
  rw [hW] at hbx hbw
  obtain ⟨fv, hfv⟩ : ∃ v, faceV d a = v := ⟨_, rfl⟩
  have hfw : Hid (∀ V, Below W.heap.size W V → Calls Try.prog 10 #[fv] V fun e w' => e = .returned (.bool true) ∧ Below V.heap.size V w') := Lib.hid fun V hb => by
    have := few_any d a V
    rw [hfew, hfv] at this
    exact this
  have hck : Hid (∀ V, Below W.heap.size W V → Calls Try.prog 17 #[faceV d a] V fun e w' => e = .returned (.bool true) ∧ Below V.heap.size V w') := Lib.hid fun V hb => face_c hf V (Nat.le_trans hbw.size hb.size) (hF.mono (hbw.trans (hb.mono hbw.size)))
  have HLd : Hid (∀ V, Below W.heap.size W V → _) := Lib.hid fun V hb => ld_box hfv hbx hb
  clear hfv hfew hf
  go_enter Try.func5, Try.ntmps5
  go_wp2_with fail
  with_reducible refine (awake_any _).mono ?_; rintro e w1 ⟨rfl, hb⟩
  have b0 := hb
  clear hb hW
  have ld := HLd.out _ b0
  go_wp2_with (refine ld_law ld rfl _ rfl rfl ?_)
  with_reducible refine (hfw.out _ b0).mono ?_; rintro e w2 ⟨rfl, hb⟩
  have b1 := below_join b0 hb
  clear hb b0 hfw ld
  obtain ⟨⟨c0, c1, c2, c3, c4, c5, c6, c7, c8, c9, c10⟩, c11, c12, c13, c14, c15⟩ := face_cells (hbx.below b1)
  go_wp2_with fail
  with_reducible refine (hck.out _ b1).mono ?_; rintro e w3 ⟨rfl, hb⟩
  have b2 := below_join b1 hb
  clear hb c0 c1 c2 c3 c4 c5 c6 c7 c8 c9 c10 c11 c12 c13 c14 c15 b1 hck HLd
  have hx3 := hbx.below b2
  have hw3 := hbw.trans (b2.mono hbw.size)
  go_upto_region 4 with fail
  go_cut [8] (fun v wx => v = .pointer (some ⟨w3.heap.size, 0, none⟩) ∧ wx = w3.alloc (.cells (faceCells d a) 29))
  case first =>
    obtain ⟨⟨c0, c1, c2, c3, c4, c5, c6, c7, c8, c9, c10⟩, c11, c12, c13, c14, c15⟩ := face_cells hx3
    go_wp2_with fail
    go_meet
    exact ⟨rfl, rfl⟩
  case rest =>
    obtain ⟨rfl, rfl⟩ := hcut
    apply_assumption
    refine pl_2b d a code n w w3 hF hc hn hx3 hw3 hv he ht hh _ _ _ _ _ _ _ _ _ _ _ _ _ _ _ _ _ _ _ _ _ _ _ _ _ _ _ _ _ _ _ _ _ _ _ _ _ _ _ _ _ _ _ _ _ _ _ _ _ _ _ _ _ _ _ _ _ _ _ _ _ _ _ _ _ _ _ _ _ _ _ _ _ _ _ _ _ _ _ _ _ _ _ _ _ _ _ _ _ _ _ ?_
    intro t w' h6 hb
    refine bodyPost_ret (results_tmp rfl _ _ _) rfl ⟨by rw [h6], hb⟩
theorem plain_walk (c0 : Array Value) (x0 : FaceT) (code n : Int) (w : World) (h0 : faceR.K w w.heap.size c0.toList x0) (hc : (Lit.int .i64 code).wf = true) (hn : (Lit.int .i8 n).wf = true) :
    Calls Try.prog 5 #[.agg c0, .int .i64 code, .int .i8 n] w fun e w' => e = .returned (.bool true) ∧ Below w.heap.size w w' := by
  obtain ⟨d, a, rfl, hF⟩ := face_of h0
  cases hfew : fewB d with
  | false => exact pl_few d a code n w hF hc hn hfew
  | true =>
    cases hf : faceB d with
    | false => exact pl_bad d a code n w hF hc hn hfew hf
    | true =>
      have f1 := plain_face hf
      have ht := lig_tfm (face_ok hf).1
      cases hq : hasB d.font code with
      | false =>
        have e1 : widthV (plainD d) code n = (0, 80) := by unfold widthV; rw [f1, show hasB (plainD d).font code = false from hq]; rfl
        exact pl_1 d a code n w hF hc hn e1 (by unfold edgesV; rw [e1]; rfl) rfl (by rw [ht, hq]; rfl) hfew hf
      | true =>
        obtain ⟨s1, s2, s3, s4, s5, s6, s7⟩ := tfm_sizes ht
        have hco : 0 ≤ code ∧ code ≤ 255 := by
          unfold hasB at hq
          simp only [Bool.and_eq_true, decide_eq_true_eq] at hq
          omega
        have f2 := traited_face hf (code, 1000, 0, 0) hco ⟨by dsimp only; omega, by dsimp only; omega⟩ ⟨by dsimp only; omega, by dsimp only; omega⟩ ⟨by dsimp only; omega, by dsimp only; omega⟩
        have e1 : widthV (plainD d) code n = (wideP (plainD d) code n, 0) := by unfold widthV; rw [f1, show hasB (plainD d).font code = true from hq]; rfl
        have e2 : widthV (traited d (code, 1000, 0, 0)) code n = (wideP (plainD d) code n, 0) := by unfold widthV; rw [f2, show hasB (traited d (code, 1000, 0, 0)).font code = true from hq, plain_wide]; rfl
        have bd := wide_bound (d := plainD d) n f1 hq
        have e3 : edgesV (plainD d) code n = (0, 0, 0) := by
          unfold edgesV
          rw [e1, if_pos rfl]
          show (fl _ 0 1000, fl _ 0 1000, (0 : Int)) = _
          rw [fl_div (by omega) (by omega) (by omega)]; simp
        exact pl_2 d a code n w hF hc hn e1 e3 e2 (by rw [ht, hq]; rfl) hfew hf
end Go.Proofs.Ytckmpllbbebefaa.Lv
