/- The statement LevelSizes: at twice the size a character is, at the level 0, twice as wide, or one more. -/
import Derived.Test.YtckmpllbbebefaaLevel12
namespace Go.Proofs.Ytckmpllbbebefaa.Lv
open Go.RowKit Go.Proofs.Ytckmpllbbebefaa.Kit Go.Proofs.Ytckmpllbbebefaa.Fo
set_option linter.unusedVariables false
set_option linter.unusedSimpArgs false

abbrev sized (d : FaceD) (s : Int) : FaceD := { font := d.font, size := s, step := d.step, up := d.up, down := d.down, traits := d.traits }
theorem sized_in {w : World} {B : Nat} {d : FaceD} {a : FaceA} (h : FaceIn w B d a) (s : Int) (hs : (Lit.int .i64 s).wf = true) : FaceIn w B (sized d s) a := ⟨h.font, hs, h.step, h.up, h.down, h.traits, h.nt⟩
set_option maxRecDepth 100000 in
set_option maxHeartbeats 8000000 in
theorem sizes_few (d : FaceD) (a : FaceA) (code x : Int) (w : World) (hF : FaceIn w w.heap.size d a) (hc : (Lit.int .i64 code).wf = true) (hx : (Lit.int .i64 x).wf = true) (hfew : fewB d = false) :
    Calls Try.prog 6 #[faceV d a, .int .i64 code, .int .i64 x] w fun e w' => e = .returned (.bool true) ∧ Below w.heap.size w w' := by
  have hbx := Box.new w (faceCells d a) 29
  have hbw := (Below.refl w.heap.size w).alloc (Nat.le_refl _) (.cells (faceCells d a) 29)
  obtain ⟨W, hW⟩ : ∃ W, w.alloc (.cells (faceCells d a) 29) = W := ⟨_, rfl⟩
  rw [hW] at hbx hbw
  obtain ⟨fv, hfv⟩ : ∃ v, faceV d a = v := ⟨_, rfl⟩
  have hfw : Hid (∀ V, Below W.heap.size W V → Calls Try.prog 10 #[fv] V fun e w' => e = .returned (.bool false) ∧ Below V.heap.size V w') := Lib.hid fun V hb => by
    have := few_any d a V
    rw [hfew, hfv] at this
    exact this
  have HLd : Hid (∀ V, Below W.heap.size W V → _) := Lib.hid fun V hb => ld_box hfv hbx hb
  clear hfv hF hc hx hfew hbx
  go_enter Try.func6, Try.ntmps6
  go_wp2_with fail
  with_reducible refine (awake_any _).mono ?_; rintro e w1 ⟨rfl, hb⟩
  have b0 := hb
  clear hb hW
  have ld := HLd.out _ b0
  go_wp2_with (refine ld_law ld rfl _ rfl rfl ?_)
  with_reducible refine (hfw.out _ b0).mono ?_; rintro e w2 ⟨rfl, hb⟩
  have b1 := below_join b0 hb
  clear hb b0 hfw ld
  go_wp2_with fail
  go_ret
  exact ⟨rfl, hbw.trans (b1.mono hbw.size)⟩
set_option maxRecDepth 100000 in
set_option maxHeartbeats 8000000 in
theorem sizes_big (d : FaceD) (a : FaceA) (code x : Int) (w : World) (hF : FaceIn w w.heap.size d a) (hc : (Lit.int .i64 code).wf = true) (hx : (Lit.int .i64 x).wf = true) (hfew : fewB d = true) (hs : 2097152 < d.size) :
    Calls Try.prog 6 #[faceV d a, .int .i64 code, .int .i64 x] w fun e w' => e = .returned (.bool true) ∧ Below w.heap.size w w' := by
  have hbx := Box.new w (faceCells d a) 29
  have hbw := (Below.refl w.heap.size w).alloc (Nat.le_refl _) (.cells (faceCells d a) 29)
  obtain ⟨W, hW⟩ : ∃ W, w.alloc (.cells (faceCells d a) 29) = W := ⟨_, rfl⟩
  rw [hW] at hbx hbw
  obtain ⟨fv, hfv⟩ : ∃ v, faceV d a = v := ⟨_, rfl⟩
  have hfw : Hid (∀ V, Below W.heap.size W V → Calls Try.prog 10 #[fv] V fun e w' => e = .returned (.bool true) ∧ Below V.heap.size V w') := Lib.hid fun V hb => by
    have := few_any d a V
    rw [hfew, hfv] at this
    exact this
  have HLd : Hid (∀ V, Below W.heap.size W V → _) := Lib.hid fun V hb => ld_box hfv hbx hb
  have F1 : (2097152 < d.size) = True := eq_true hs
  clear hfv hF hc hx hfew hs
  go_enter Try.func6, Try.ntmps6
  go_wp2_with fail
  with_reducible refine (awake_any _).mono ?_; rintro e w1 ⟨rfl, hb⟩
  have b0 := hb
  clear hb hW
  have ld := HLd.out _ b0
  go_wp2_with (refine ld_law ld rfl _ rfl rfl ?_)
  with_reducible refine (hfw.out _ b0).mono ?_; rintro e w2 ⟨rfl, hb⟩
  have b1 := below_join b0 hb
  clear hb b0 hfw ld
  obtain ⟨_, c11, c12, c13, c14, c15⟩ := face_cells (hbx.below b1)
  clear hbx c12 c13 c14 c15
  go_wp2_with fail
  go_ret
  exact ⟨rfl, hbw.trans (b1.mono hbw.size)⟩
set_option maxRecDepth 100000 in
set_option maxHeartbeats 8000000 in
theorem sizes_1 (d : FaceD) (a : FaceA) (code x : Int) (w : World) (hF : FaceIn w w.heap.size d a) (hc : (Lit.int .i64 code).wf = true) (hx : (Lit.int .i64 x).wf = true) {A E B' H' C I' D J : Int} (hv : widthV d code 0 = (A, E)) (hv2 : widthV (sized d (wrap64 (2 * d.size))) code 0 = (B', H')) (hk : kernV d x 0 = (C, I')) (hk2 : kernV (sized d (wrap64 (2 * d.size))) x 0 = (D, J)) (hfew : fewB d = true) (F1 : (2097152 < d.size) = False) (t1 : (E != 0) = true) (t2 : (E == 0) = false) (t3 : (H' == E) = true) :
    Calls Try.prog 6 #[faceV d a, .int .i64 code, .int .i64 x] w fun e w' => e = .returned (.bool true) ∧ Below w.heap.size w w' := by
  have hbx := Box.new w (faceCells d a) 29
  have hbw := (Below.refl w.heap.size w).alloc (Nat.le_refl _) (.cells (faceCells d a) 29)
  obtain ⟨W, hW⟩ : ∃ W, w.alloc (.cells (faceCells d a) 29) = W := ⟨_, rfl⟩
  rw [hW] at hbx hbw
  obtain ⟨fv, hfv⟩ : ∃ v, faceV d a = v := ⟨_, rfl⟩
  have hfw : Hid (∀ V, Below W.heap.size W V → Calls Try.prog 10 #[fv] V fun e w' => e = .returned (.bool true) ∧ Below V.heap.size V w') := Lib.hid fun V hb => by
    have := few_any d a V
    rw [hfew, hfv] at this
    exact this
  obtain ⟨gv, hgv⟩ : ∃ v, faceV (sized d (wrap64 (2 * d.size))) a = v := ⟨_, rfl⟩
  have HLd : Hid (∀ V, Below W.heap.size W V → _) := Lib.hid fun V hb => ld_box hfv hbx hb
  have h1 : Hid (∀ V, Below W.heap.size W V → Calls Try.prog 11 #[fv, .int .i64 code, .int .i64 0] V fun e w' => e = .returned (.tuple #[.int .i64 A, .int .i64 E]) ∧ Below V.heap.size V w') := Lib.hid fun V hb => by rw [← hfv]; exact width_c hv V (Nat.le_trans hbw.size hb.size) (hF.mono (hbw.trans (hb.mono hbw.size))) hc
  have h2 : Hid (∀ V, Below W.heap.size W V → Calls Try.prog 11 #[gv, .int .i64 code, .int .i64 0] V fun e w' => e = .returned (.tuple #[.int .i64 B', .int .i64 H']) ∧ Below V.heap.size V w') := Lib.hid fun V hb => by rw [← hgv]; exact width_c hv2 V (Nat.le_trans hbw.size hb.size) (sized_in (hF.mono (hbw.trans (hb.mono hbw.size))) _ (wrap64_wf _)) hc
  have h3 : Hid (∀ V, Below W.heap.size W V → Calls Try.prog 13 #[fv, .int .i64 x, .int .i64 0] V fun e w' => e = .returned (.tuple #[.int .i64 C, .int .i64 I']) ∧ Below V.heap.size V w') := Lib.hid fun V hb => by rw [← hfv]; exact kern_c hk V (Nat.le_trans hbw.size hb.size) (hF.mono (hbw.trans (hb.mono hbw.size)))
  have h4 : Hid (∀ V, Below W.heap.size W V → Calls Try.prog 13 #[gv, .int .i64 x, .int .i64 0] V fun e w' => e = .returned (.tuple #[.int .i64 D, .int .i64 J]) ∧ Below V.heap.size V w') := Lib.hid fun V hb => by rw [← hgv]; exact kern_c hk2 V (Nat.le_trans hbw.size hb.size) (sized_in (hF.mono (hbw.trans (hb.mono hbw.size))) _ (wrap64_wf _))
  have HS : Hid (wrap64 (2 * d.size) = wrap64 (2 * d.size)) := Lib.hid rfl
  have HGV := Lib.hid hgv
  clear hgv hfv
  clear hF hc hx hfew hv hv2 hk hk2
  go_enter Try.func6, Try.ntmps6
  go_wp2_with fail
  with_reducible refine (awake_any _).mono ?_; rintro e w1 ⟨rfl, hb⟩
  have b0 := hb
  clear hb hW
  have ld := HLd.out _ b0
  go_wp2_with (refine ld_law ld rfl _ rfl rfl ?_)
  with_reducible refine (hfw.out _ b0).mono ?_; rintro e w2 ⟨rfl, hb⟩
  have b1 := below_join b0 hb
  clear hb b0 hfw ld
  obtain ⟨⟨c0, c1, c2, c3, c4, c5, c6, c7, c8, c9, c10⟩, c11, c12, c13, c14, c15⟩ := face_cells (hbx.below b1)
  have cA : (w2.alloc (.cells (faceCells d a) 29)).cell? ⟨w.heap.size, 11, none⟩ = some (.int .i64 d.size) := ((hbx.below b1).alloc _).cell 11 rfl
  have hV := Box.new w2 (faceCells (sized d (wrap64 (2 * d.size))) a) 29
  have b2 := below_alloc b1 (.cells (faceCells (sized d (wrap64 (2 * d.size))) a) 29)
  go_upto_region 6 with fail
  clear c0 c1 c2 c3 c4 c5 c6 c7 c8 c9 c10 c11 c12 c13 c14 c15 b1 cA
  dsimp only [sized] at hV b2
  obtain ⟨V, hVV⟩ : ∃ V, V = w2.alloc (.cells #[.int .i64 d.font.sum, .int .i64 d.font.design, .int .i64 d.font.first, .slice a.font.c d.font.chars.length a.font.cc, .slice a.font.w d.font.widths.length a.font.cw, .slice a.font.h d.font.heights.length a.font.ch, .slice a.font.d d.font.depths.length a.font.cd, .slice a.font.i d.font.italics.length a.font.ci, .slice a.font.s d.font.steps.length a.font.cs, .slice a.font.k d.font.kerns.length a.font.ck, .slice a.font.p d.font.params.length a.font.cp, .int .i64 (wrap64 (2 * d.size)), .int .i64 d.step, .int .i64 d.up, .int .i64 d.down, .slice a.t d.traits.length a.ct] 29) := ⟨_, rfl⟩
  rw [← hVV]
  rw [← hVV] at hV b2
  clear hVV
  have HLg : Hid (∀ V', Below V.heap.size V V' → (Instr.loadAt 29 (.pointer (some ⟨w2.heap.size, 0, none⟩))).run Try.prog V' = .ok gv V') := Lib.hid fun V' hb => ld_box HGV.out (show Box V w2.heap.size (faceCells (sized d (wrap64 (2 * d.size))) a) _ from hV) hb
  clear hV HGV
  obtain ⟨g8, hg8⟩ : ∃ g, g = w2.heap.size := ⟨_, rfl⟩
  rw [← hg8] at HLg ⊢
  clear hg8
  have k0 := Below.refl V.heap.size V
  have q0 := below_join b2 k0
  have ld := HLd.out _ q0
  go_wp2_with (refine ld_law ld rfl _ rfl rfl ?_)
  with_reducible refine (h1.out _ q0).mono ?_; rintro e v0 ⟨rfl, hb⟩
  have k1 := below_join k0 hb
  clear hb ld k0 q0 h1
  have q1 := below_join b2 k1
  have ld := HLg.out _ k1
  go_wp2_with (refine ld_law ld rfl _ rfl rfl ?_)
  with_reducible refine (h2.out _ q1).mono ?_; rintro e v1 ⟨rfl, hb⟩
  have k2 := below_join k1 hb
  clear hb ld k1 q1 h2
  have q2 := below_join b2 k2
  have ld := HLd.out _ q2
  go_wp2_with (refine ld_law ld rfl _ rfl rfl ?_)
  with_reducible refine (h3.out _ q2).mono ?_; rintro e v2 ⟨rfl, hb⟩
  have k3 := below_join k2 hb
  clear hb ld k2 q2 h3
  have q3 := below_join b2 k3
  have ld := HLg.out _ k3
  go_wp2_with (refine ld_law ld rfl _ rfl rfl ?_)
  with_reducible refine (h4.out _ q3).mono ?_; rintro e v3 ⟨rfl, hb⟩
  have k4 := below_join k3 hb
  clear hb ld k3 q3 h4
  have q4 := below_join b2 k4
  clear HLg k4 b2
  clear HLd hbx
  all_goals
    go_wp2_with fail
    go_ret
    exact ⟨rfl, hbw.trans (q4.mono hbw.size)⟩
set_option maxRecDepth 100000 in
set_option maxHeartbeats 8000000 in
theorem sizes_2 (d : FaceD) (a : FaceA) (code x : Int) (w : World) (hF : FaceIn w w.heap.size d a) (hc : (Lit.int .i64 code).wf = true) (hx : (Lit.int .i64 x).wf = true) {A E B' H' C I' D J : Int} (hv : widthV d code 0 = (A, E)) (hv2 : widthV (sized d (wrap64 (2 * d.size))) code 0 = (B', H')) (hk : kernV d x 0 = (C, I')) (hk2 : kernV (sized d (wrap64 (2 * d.size))) x 0 = (D, J)) (hfew : fewB d = true) (F1 : (2097152 < d.size) = False) (t1 : (E != 0) = true) (t2 : (E == 0) = false) (t3 : (H' == E) = false) (hf : faceB d = false) :
    Calls Try.prog 6 #[faceV d a, .int .i64 code, .int .i64 x] w fun e w' => e = .returned (.bool true) ∧ Below w.heap.size w w' := by
  have hbx := Box.new w (faceCells d a) 29
  have hbw := (Below.refl w.heap.size w).alloc (Nat.le_refl _) (.cells (faceCells d a) 29)
  obtain ⟨W, hW⟩ : ∃ W, w.alloc (.cells (faceCells d a) 29) = W := ⟨_, rfl⟩
  rw [hW] at hbx hbw
  obtain ⟨fv, hfv⟩ : ∃ v, faceV d a = v := ⟨_, rfl⟩
  have hfw : Hid (∀ V, Below W.heap.size W V → Calls Try.prog 10 #[fv] V fun e w' => e = .returned (.bool true) ∧ Below V.heap.size V w') := Lib.hid fun V hb => by
    have := few_any d a V
    rw [hfew, hfv] at this
    exact this
  obtain ⟨gv, hgv⟩ : ∃ v, faceV (sized d (wrap64 (2 * d.size))) a = v := ⟨_, rfl⟩
  have HLd : Hid (∀ V, Below W.heap.size W V → _) := Lib.hid fun V hb => ld_box hfv hbx hb
  have h1 : Hid (∀ V, Below W.heap.size W V → Calls Try.prog 11 #[fv, .int .i64 code, .int .i64 0] V fun e w' => e = .returned (.tuple #[.int .i64 A, .int .i64 E]) ∧ Below V.heap.size V w') := Lib.hid fun V hb => by rw [← hfv]; exact width_c hv V (Nat.le_trans hbw.size hb.size) (hF.mono (hbw.trans (hb.mono hbw.size))) hc
  have h2 : Hid (∀ V, Below W.heap.size W V → Calls Try.prog 11 #[gv, .int .i64 code, .int .i64 0] V fun e w' => e = .returned (.tuple #[.int .i64 B', .int .i64 H']) ∧ Below V.heap.size V w') := Lib.hid fun V hb => by rw [← hgv]; exact width_c hv2 V (Nat.le_trans hbw.size hb.size) (sized_in (hF.mono (hbw.trans (hb.mono hbw.size))) _ (wrap64_wf _)) hc
  have h3 : Hid (∀ V, Below W.heap.size W V → Calls Try.prog 13 #[fv, .int .i64 x, .int .i64 0] V fun e w' => e = .returned (.tuple #[.int .i64 C, .int .i64 I']) ∧ Below V.heap.size V w') := Lib.hid fun V hb => by rw [← hfv]; exact kern_c hk V (Nat.le_trans hbw.size hb.size) (hF.mono (hbw.trans (hb.mono hbw.size)))
  have h4 : Hid (∀ V, Below W.heap.size W V → Calls Try.prog 13 #[gv, .int .i64 x, .int .i64 0] V fun e w' => e = .returned (.tuple #[.int .i64 D, .int .i64 J]) ∧ Below V.heap.size V w') := Lib.hid fun V hb => by rw [← hgv]; exact kern_c hk2 V (Nat.le_trans hbw.size hb.size) (sized_in (hF.mono (hbw.trans (hb.mono hbw.size))) _ (wrap64_wf _))
  have h5 : Hid (∀ V, Below W.heap.size W V → Calls Try.prog 17 #[faceV d a] V fun e w' => e = .returned (.bool false) ∧ Below V.heap.size V w') := Lib.hid fun V hb => face_c hf V (Nat.le_trans hbw.size hb.size) (hF.mono (hbw.trans (hb.mono hbw.size)))
  have HS : Hid (wrap64 (2 * d.size) = wrap64 (2 * d.size)) := Lib.hid rfl
  have HGV := Lib.hid hgv
  clear hgv hfv
  clear hF hc hx hfew hv hv2 hk hk2 hf
  go_enter Try.func6, Try.ntmps6
  go_wp2_with fail
  with_reducible refine (awake_any _).mono ?_; rintro e w1 ⟨rfl, hb⟩
  have b0 := hb
  clear hb hW
  have ld := HLd.out _ b0
  go_wp2_with (refine ld_law ld rfl _ rfl rfl ?_)
  with_reducible refine (hfw.out _ b0).mono ?_; rintro e w2 ⟨rfl, hb⟩
  have b1 := below_join b0 hb
  clear hb b0 hfw ld
  obtain ⟨⟨c0, c1, c2, c3, c4, c5, c6, c7, c8, c9, c10⟩, c11, c12, c13, c14, c15⟩ := face_cells (hbx.below b1)
  have cA : (w2.alloc (.cells (faceCells d a) 29)).cell? ⟨w.heap.size, 11, none⟩ = some (.int .i64 d.size) := ((hbx.below b1).alloc _).cell 11 rfl
  have hV := Box.new w2 (faceCells (sized d (wrap64 (2 * d.size))) a) 29
  have b2 := below_alloc b1 (.cells (faceCells (sized d (wrap64 (2 * d.size))) a) 29)
  go_upto_region 6 with fail
  clear c0 c1 c2 c3 c4 c5 c6 c7 c8 c9 c10 c11 c12 c13 c14 c15 b1 cA
  dsimp only [sized] at hV b2
  obtain ⟨V, hVV⟩ : ∃ V, V = w2.alloc (.cells #[.int .i64 d.font.sum, .int .i64 d.font.design, .int .i64 d.font.first, .slice a.font.c d.font.chars.length a.font.cc, .slice a.font.w d.font.widths.length a.font.cw, .slice a.font.h d.font.heights.length a.font.ch, .slice a.font.d d.font.depths.length a.font.cd, .slice a.font.i d.font.italics.length a.font.ci, .slice a.font.s d.font.steps.length a.font.cs, .slice a.font.k d.font.kerns.length a.font.ck, .slice a.font.p d.font.params.length a.font.cp, .int .i64 (wrap64 (2 * d.size)), .int .i64 d.step, .int .i64 d.up, .int .i64 d.down, .slice a.t d.traits.length a.ct] 29) := ⟨_, rfl⟩
  rw [← hVV]
  rw [← hVV] at hV b2
  clear hVV
  have HLg : Hid (∀ V', Below V.heap.size V V' → (Instr.loadAt 29 (.pointer (some ⟨w2.heap.size, 0, none⟩))).run Try.prog V' = .ok gv V') := Lib.hid fun V' hb => ld_box HGV.out (show Box V w2.heap.size (faceCells (sized d (wrap64 (2 * d.size))) a) _ from hV) hb
  clear hV HGV
  obtain ⟨g8, hg8⟩ : ∃ g, g = w2.heap.size := ⟨_, rfl⟩
  rw [← hg8] at HLg ⊢
  clear hg8
  have k0 := Below.refl V.heap.size V
  have q0 := below_join b2 k0
  have ld := HLd.out _ q0
  go_wp2_with (refine ld_law ld rfl _ rfl rfl ?_)
  with_reducible refine (h1.out _ q0).mono ?_; rintro e v0 ⟨rfl, hb⟩
  have k1 := below_join k0 hb
  clear hb ld k0 q0 h1
  have q1 := below_join b2 k1
  have ld := HLg.out _ k1
  go_wp2_with (refine ld_law ld rfl _ rfl rfl ?_)
  with_reducible refine (h2.out _ q1).mono ?_; rintro e v1 ⟨rfl, hb⟩
  have k2 := below_join k1 hb
  clear hb ld k1 q1 h2
  have q2 := below_join b2 k2
  have ld := HLd.out _ q2
  go_wp2_with (refine ld_law ld rfl _ rfl rfl ?_)
  with_reducible refine (h3.out _ q2).mono ?_; rintro e v2 ⟨rfl, hb⟩
  have k3 := below_join k2 hb
  clear hb ld k2 q2 h3
  have q3 := below_join b2 k3
  have ld := HLg.out _ k3
  go_wp2_with (refine ld_law ld rfl _ rfl rfl ?_)
  with_reducible refine (h4.out _ q3).mono ?_; rintro e v3 ⟨rfl, hb⟩
  have k4 := below_join k3 hb
  clear hb ld k3 q3 h4
  have q4 := below_join b2 k4
  clear HLg k4 b2
  obtain ⟨⟨c0, c1, c2, c3, c4, c5, c6, c7, c8, c9, c10⟩, c11, c12, c13, c14, c15⟩ := face_cells (hbx.below q4)
  clear HLd hbx
  go_wp2_with fail
  with_reducible refine (h5.out _ q4).mono ?_; rintro e v5 ⟨rfl, hb⟩
  have q5 := below_join q4 hb
  clear hb c0 c1 c2 c3 c4 c5 c6 c7 c8 c9 c10 c11 c12 c13 c14 c15 q4
  go_wp2_with fail
  go_ret
  exact ⟨rfl, hbw.trans (q5.mono hbw.size)⟩
set_option maxRecDepth 100000 in
set_option maxHeartbeats 8000000 in
theorem sizes_3 (d : FaceD) (a : FaceA) (code x : Int) (w : World) (hF : FaceIn w w.heap.size d a) (hc : (Lit.int .i64 code).wf = true) (hx : (Lit.int .i64 x).wf = true) {A B' H' C I' D J : Int} (hv : widthV d code 0 = (A, 0)) (hv2 : widthV (sized d (wrap64 (2 * d.size))) code 0 = (B', H')) (hk : kernV d x 0 = (C, I')) (hk2 : kernV (sized d (wrap64 (2 * d.size))) x 0 = (D, J)) (hfew : fewB d = true) (F1 : (2097152 < d.size) = False) (t1 : (I' != 0) = true) :
    Calls Try.prog 6 #[faceV d a, .int .i64 code, .int .i64 x] w fun e w' => e = .returned (.bool true) ∧ Below w.heap.size w w' := by
  have hbx := Box.new w (faceCells d a) 29
  have hbw := (Below.refl w.heap.size w).alloc (Nat.le_refl _) (.cells (faceCells d a) 29)
  obtain ⟨W, hW⟩ : ∃ W, w.alloc (.cells (faceCells d a) 29) = W := ⟨_, rfl⟩
  rw [hW] at hbx hbw
  obtain ⟨fv, hfv⟩ : ∃ v, faceV d a = v := ⟨_, rfl⟩
  have hfw : Hid (∀ V, Below W.heap.size W V → Calls Try.prog 10 #[fv] V fun e w' => e = .returned (.bool true) ∧ Below V.heap.size V w') := Lib.hid fun V hb => by
    have := few_any d a V
    rw [hfew, hfv] at this
    exact this
  obtain ⟨gv, hgv⟩ : ∃ v, faceV (sized d (wrap64 (2 * d.size))) a = v := ⟨_, rfl⟩
  have HLd : Hid (∀ V, Below W.heap.size W V → _) := Lib.hid fun V hb => ld_box hfv hbx hb
  have h1 : Hid (∀ V, Below W.heap.size W V → Calls Try.prog 11 #[fv, .int .i64 code, .int .i64 0] V fun e w' => e = .returned (.tuple #[.int .i64 A, .int .i64 0]) ∧ Below V.heap.size V w') := Lib.hid fun V hb => by rw [← hfv]; exact width_c hv V (Nat.le_trans hbw.size hb.size) (hF.mono (hbw.trans (hb.mono hbw.size))) hc
  have h2 : Hid (∀ V, Below W.heap.size W V → Calls Try.prog 11 #[gv, .int .i64 code, .int .i64 0] V fun e w' => e = .returned (.tuple #[.int .i64 B', .int .i64 H']) ∧ Below V.heap.size V w') := Lib.hid fun V hb => by rw [← hgv]; exact width_c hv2 V (Nat.le_trans hbw.size hb.size) (sized_in (hF.mono (hbw.trans (hb.mono hbw.size))) _ (wrap64_wf _)) hc
  have h3 : Hid (∀ V, Below W.heap.size W V → Calls Try.prog 13 #[fv, .int .i64 x, .int .i64 0] V fun e w' => e = .returned (.tuple #[.int .i64 C, .int .i64 I']) ∧ Below V.heap.size V w') := Lib.hid fun V hb => by rw [← hfv]; exact kern_c hk V (Nat.le_trans hbw.size hb.size) (hF.mono (hbw.trans (hb.mono hbw.size)))
  have h4 : Hid (∀ V, Below W.heap.size W V → Calls Try.prog 13 #[gv, .int .i64 x, .int .i64 0] V fun e w' => e = .returned (.tuple #[.int .i64 D, .int .i64 J]) ∧ Below V.heap.size V w') := Lib.hid fun V hb => by rw [← hgv]; exact kern_c hk2 V (Nat.le_trans hbw.size hb.size) (sized_in (hF.mono (hbw.trans (hb.mono hbw.size))) _ (wrap64_wf _))
  have HS : Hid (wrap64 (2 * d.size) = wrap64 (2 * d.size)) := Lib.hid rfl
  have HGV := Lib.hid hgv
  clear hgv hfv
  clear hF hc hx hfew hv hv2 hk hk2
  go_enter Try.func6, Try.ntmps6
  go_wp2_with fail
  with_reducible refine (awake_any _).mono ?_; rintro e w1 ⟨rfl, hb⟩
  have b0 := hb
  clear hb hW
  have ld := HLd.out _ b0
  go_wp2_with (refine ld_law ld rfl _ rfl rfl ?_)
  with_reducible refine (hfw.out _ b0).mono ?_; rintro e w2 ⟨rfl, hb⟩
  have b1 := below_join b0 hb
  clear hb b0 hfw ld
  obtain ⟨⟨c0, c1, c2, c3, c4, c5, c6, c7, c8, c9, c10⟩, c11, c12, c13, c14, c15⟩ := face_cells (hbx.below b1)
  have cA : (w2.alloc (.cells (faceCells d a) 29)).cell? ⟨w.heap.size, 11, none⟩ = some (.int .i64 d.size) := ((hbx.below b1).alloc _).cell 11 rfl
  have hV := Box.new w2 (faceCells (sized d (wrap64 (2 * d.size))) a) 29
  have b2 := below_alloc b1 (.cells (faceCells (sized d (wrap64 (2 * d.size))) a) 29)
  go_upto_region 6 with fail
  clear c0 c1 c2 c3 c4 c5 c6 c7 c8 c9 c10 c11 c12 c13 c14 c15 b1 cA
  dsimp only [sized] at hV b2
  obtain ⟨V, hVV⟩ : ∃ V, V = w2.alloc (.cells #[.int .i64 d.font.sum, .int .i64 d.font.design, .int .i64 d.font.first, .slice a.font.c d.font.chars.length a.font.cc, .slice a.font.w d.font.widths.length a.font.cw, .slice a.font.h d.font.heights.length a.font.ch, .slice a.font.d d.font.depths.length a.font.cd, .slice a.font.i d.font.italics.length a.font.ci, .slice a.font.s d.font.steps.length a.font.cs, .slice a.font.k d.font.kerns.length a.font.ck, .slice a.font.p d.font.params.length a.font.cp, .int .i64 (wrap64 (2 * d.size)), .int .i64 d.step, .int .i64 d.up, .int .i64 d.down, .slice a.t d.traits.length a.ct] 29) := ⟨_, rfl⟩
  rw [← hVV]
  rw [← hVV] at hV b2
  clear hVV
  have HLg : Hid (∀ V', Below V.heap.size V V' → (Instr.loadAt 29 (.pointer (some ⟨w2.heap.size, 0, none⟩))).run Try.prog V' = .ok gv V') := Lib.hid fun V' hb => ld_box HGV.out (show Box V w2.heap.size (faceCells (sized d (wrap64 (2 * d.size))) a) _ from hV) hb
  clear hV HGV
  obtain ⟨g8, hg8⟩ : ∃ g, g = w2.heap.size := ⟨_, rfl⟩
  rw [← hg8] at HLg ⊢
  clear hg8
  have k0 := Below.refl V.heap.size V
  have q0 := below_join b2 k0
  have ld := HLd.out _ q0
  go_wp2_with (refine ld_law ld rfl _ rfl rfl ?_)
  with_reducible refine (h1.out _ q0).mono ?_; rintro e v0 ⟨rfl, hb⟩
  have k1 := below_join k0 hb
  clear hb ld k0 q0 h1
  have q1 := below_join b2 k1
  have ld := HLg.out _ k1
  go_wp2_with (refine ld_law ld rfl _ rfl rfl ?_)
  with_reducible refine (h2.out _ q1).mono ?_; rintro e v1 ⟨rfl, hb⟩
  have k2 := below_join k1 hb
  clear hb ld k1 q1 h2
  have q2 := below_join b2 k2
  have ld := HLd.out _ q2
  go_wp2_with (refine ld_law ld rfl _ rfl rfl ?_)
  with_reducible refine (h3.out _ q2).mono ?_; rintro e v2 ⟨rfl, hb⟩
  have k3 := below_join k2 hb
  clear hb ld k2 q2 h3
  have q3 := below_join b2 k3
  have ld := HLg.out _ k3
  go_wp2_with (refine ld_law ld rfl _ rfl rfl ?_)
  with_reducible refine (h4.out _ q3).mono ?_; rintro e v3 ⟨rfl, hb⟩
  have k4 := below_join k3 hb
  clear hb ld k3 q3 h4
  have q4 := below_join b2 k4
  clear HLg k4 b2
  clear HLd hbx
  all_goals
    go_wp2_with fail
    go_ret
    exact ⟨rfl, hbw.trans (q4.mono hbw.size)⟩
set_option maxRecDepth 100000 in
set_option maxHeartbeats 8000000 in
theorem sizes_4 (d : FaceD) (a : FaceA) (code x : Int) (w : World) (hF : FaceIn w w.heap.size d a) (hc : (Lit.int .i64 code).wf = true) (hx : (Lit.int .i64 x).wf = true) {A B' C D : Int} (hv : widthV d code 0 = (A, 0)) (hv2 : widthV (sized d (wrap64 (2 * d.size))) code 0 = (B', 0)) (hk : kernV d x 0 = (C, 0)) (hk2 : kernV (sized d (wrap64 (2 * d.size))) x 0 = (D, 0)) (hfew : fewB d = true) (F1 : (2097152 < d.size) = False) (a1 : A.natAbs ≤ 67108865) (a2 : C.natAbs ≤ 67108865) (t1 : (B' == 2 * A) = true ∨ ((B' == 2 * A) = false ∧ (B' == 2 * A + 1) = true)) (t2 : (D == 2 * C) = true ∨ ((D == 2 * C) = false ∧ (D == 2 * C + 1) = true)) :
    Calls Try.prog 6 #[faceV d a, .int .i64 code, .int .i64 x] w fun e w' => e = .returned (.bool true) ∧ Below w.heap.size w w' := by
  have hbx := Box.new w (faceCells d a) 29
  have hbw := (Below.refl w.heap.size w).alloc (Nat.le_refl _) (.cells (faceCells d a) 29)
  obtain ⟨W, hW⟩ : ∃ W, w.alloc (.cells (faceCells d a) 29) = W := ⟨_, rfl⟩
  rw [hW] at hbx hbw
  obtain ⟨fv, hfv⟩ : ∃ v, faceV d a = v := ⟨_, rfl⟩
  have hfw : Hid (∀ V, Below W.heap.size W V → Calls Try.prog 10 #[fv] V fun e w' => e = .returned (.bool true) ∧ Below V.heap.size V w') := Lib.hid fun V hb => by
    have := few_any d a V
    rw [hfew, hfv] at this
    exact this
  obtain ⟨gv, hgv⟩ : ∃ v, faceV (sized d (wrap64 (2 * d.size))) a = v := ⟨_, rfl⟩
  have HLd : Hid (∀ V, Below W.heap.size W V → _) := Lib.hid fun V hb => ld_box hfv hbx hb
  have h1 : Hid (∀ V, Below W.heap.size W V → Calls Try.prog 11 #[fv, .int .i64 code, .int .i64 0] V fun e w' => e = .returned (.tuple #[.int .i64 A, .int .i64 0]) ∧ Below V.heap.size V w') := Lib.hid fun V hb => by rw [← hfv]; exact width_c hv V (Nat.le_trans hbw.size hb.size) (hF.mono (hbw.trans (hb.mono hbw.size))) hc
  have h2 : Hid (∀ V, Below W.heap.size W V → Calls Try.prog 11 #[gv, .int .i64 code, .int .i64 0] V fun e w' => e = .returned (.tuple #[.int .i64 B', .int .i64 0]) ∧ Below V.heap.size V w') := Lib.hid fun V hb => by rw [← hgv]; exact width_c hv2 V (Nat.le_trans hbw.size hb.size) (sized_in (hF.mono (hbw.trans (hb.mono hbw.size))) _ (wrap64_wf _)) hc
  have h3 : Hid (∀ V, Below W.heap.size W V → Calls Try.prog 13 #[fv, .int .i64 x, .int .i64 0] V fun e w' => e = .returned (.tuple #[.int .i64 C, .int .i64 0]) ∧ Below V.heap.size V w') := Lib.hid fun V hb => by rw [← hfv]; exact kern_c hk V (Nat.le_trans hbw.size hb.size) (hF.mono (hbw.trans (hb.mono hbw.size)))
  have h4 : Hid (∀ V, Below W.heap.size W V → Calls Try.prog 13 #[gv, .int .i64 x, .int .i64 0] V fun e w' => e = .returned (.tuple #[.int .i64 D, .int .i64 0]) ∧ Below V.heap.size V w') := Lib.hid fun V hb => by rw [← hgv]; exact kern_c hk2 V (Nat.le_trans hbw.size hb.size) (sized_in (hF.mono (hbw.trans (hb.mono hbw.size))) _ (wrap64_wf _))
  have HS : Hid (wrap64 (2 * d.size) = wrap64 (2 * d.size)) := Lib.hid rfl
  have HGV := Lib.hid hgv
  clear hgv hfv
  clear hF hc hx hfew hv hv2 hk hk2
  go_enter Try.func6, Try.ntmps6
  go_wp2_with fail
  with_reducible refine (awake_any _).mono ?_; rintro e w1 ⟨rfl, hb⟩
  have b0 := hb
  clear hb hW
  have ld := HLd.out _ b0
  go_wp2_with (refine ld_law ld rfl _ rfl rfl ?_)
  with_reducible refine (hfw.out _ b0).mono ?_; rintro e w2 ⟨rfl, hb⟩
  have b1 := below_join b0 hb
  clear hb b0 hfw ld
  obtain ⟨⟨c0, c1, c2, c3, c4, c5, c6, c7, c8, c9, c10⟩, c11, c12, c13, c14, c15⟩ := face_cells (hbx.below b1)
  have cA : (w2.alloc (.cells (faceCells d a) 29)).cell? ⟨w.heap.size, 11, none⟩ = some (.int .i64 d.size) := ((hbx.below b1).alloc _).cell 11 rfl
  have hV := Box.new w2 (faceCells (sized d (wrap64 (2 * d.size))) a) 29
  have b2 := below_alloc b1 (.cells (faceCells (sized d (wrap64 (2 * d.size))) a) 29)
  go_upto_region 6 with fail
  clear c0 c1 c2 c3 c4 c5 c6 c7 c8 c9 c10 c11 c12 c13 c14 c15 b1 cA
  dsimp only [sized] at hV b2
  obtain ⟨V, hVV⟩ : ∃ V, V = w2.alloc (.cells #[.int .i64 d.font.sum, .int .i64 d.font.design, .int .i64 d.font.first, .slice a.font.c d.font.chars.length a.font.cc, .slice a.font.w d.font.widths.length a.font.cw, .slice a.font.h d.font.heights.length a.font.ch, .slice a.font.d d.font.depths.length a.font.cd, .slice a.font.i d.font.italics.length a.font.ci, .slice a.font.s d.font.steps.length a.font.cs, .slice a.font.k d.font.kerns.length a.font.ck, .slice a.font.p d.font.params.length a.font.cp, .int .i64 (wrap64 (2 * d.size)), .int .i64 d.step, .int .i64 d.up, .int .i64 d.down, .slice a.t d.traits.length a.ct] 29) := ⟨_, rfl⟩
  rw [← hVV]
  rw [← hVV] at hV b2
  clear hVV
  have HLg : Hid (∀ V', Below V.heap.size V V' → (Instr.loadAt 29 (.pointer (some ⟨w2.heap.size, 0, none⟩))).run Try.prog V' = .ok gv V') := Lib.hid fun V' hb => ld_box HGV.out (show Box V w2.heap.size (faceCells (sized d (wrap64 (2 * d.size))) a) _ from hV) hb
  clear hV HGV
  obtain ⟨g8, hg8⟩ : ∃ g, g = w2.heap.size := ⟨_, rfl⟩
  rw [← hg8] at HLg ⊢
  clear hg8
  have k0 := Below.refl V.heap.size V
  have q0 := below_join b2 k0
  have ld := HLd.out _ q0
  go_wp2_with (refine ld_law ld rfl _ rfl rfl ?_)
  with_reducible refine (h1.out _ q0).mono ?_; rintro e v0 ⟨rfl, hb⟩
  have k1 := below_join k0 hb
  clear hb ld k0 q0 h1
  have q1 := below_join b2 k1
  have ld := HLg.out _ k1
  go_wp2_with (refine ld_law ld rfl _ rfl rfl ?_)
  with_reducible refine (h2.out _ q1).mono ?_; rintro e v1 ⟨rfl, hb⟩
  have k2 := below_join k1 hb
  clear hb ld k1 q1 h2
  have q2 := below_join b2 k2
  have ld := HLd.out _ q2
  go_wp2_with (refine ld_law ld rfl _ rfl rfl ?_)
  with_reducible refine (h3.out _ q2).mono ?_; rintro e v2 ⟨rfl, hb⟩
  have k3 := below_join k2 hb
  clear hb ld k2 q2 h3
  have q3 := below_join b2 k3
  have ld := HLg.out _ k3
  go_wp2_with (refine ld_law ld rfl _ rfl rfl ?_)
  with_reducible refine (h4.out _ q3).mono ?_; rintro e v3 ⟨rfl, hb⟩
  have k4 := below_join k3 hb
  clear hb ld k3 q3 h4
  have q4 := below_join b2 k4
  clear HLg k4 b2
  clear HLd hbx
  have x1 : -67108865 ≤ A := by omega
  have x2 : A ≤ 67108865 := by omega
  have x3 : -67108865 ≤ C := by omega
  have x4 : C ≤ 67108865 := by omega
  clear a1 a2
  rcases t1 with t1 | ⟨t1, t3⟩ <;> rcases t2 with t2 | ⟨t2, t4⟩
  all_goals
    go_wp2_with fail
    go_ret
    exact ⟨rfl, hbw.trans (q4.mono hbw.size)⟩
theorem sizes_walk (c0 : Array Value) (x0 : FaceT) (code x : Int) (w : World) (h0 : faceR.K w w.heap.size c0.toList x0) (hc : (Lit.int .i64 code).wf = true) (hx : (Lit.int .i64 x).wf = true) :
    Calls Try.prog 6 #[.agg c0, .int .i64 code, .int .i64 x] w fun e w' => e = .returned (.bool true) ∧ Below w.heap.size w w' := by
  obtain ⟨d, a, rfl, hF⟩ := face_of h0
  cases hfew : fewB d with
  | false => exact sizes_few d a code x w hF hc hx hfew
  | true =>
    by_cases hs : 2097152 < d.size
    · exact sizes_big d a code x w hF hc hx hfew hs
    · have F1 : (2097152 < d.size) = False := eq_false hs
      obtain ⟨⟨A, E⟩, hv⟩ : ∃ r, widthV d code 0 = r := ⟨_, rfl⟩
      obtain ⟨⟨B', H'⟩, hv2⟩ : ∃ r, widthV (sized d (wrap64 (2 * d.size))) code 0 = r := ⟨_, rfl⟩
      obtain ⟨⟨C, I'⟩, hk⟩ : ∃ r, kernV d x 0 = r := ⟨_, rfl⟩
      obtain ⟨⟨D, J⟩, hk2⟩ : ∃ r, kernV (sized d (wrap64 (2 * d.size))) x 0 = r := ⟨_, rfl⟩
      cases hf : faceB d with
      | false =>
        have hv' := hv
        rw [width_bad hf] at hv'
        obtain ⟨rfl, rfl⟩ : 0 = A ∧ 90 = E := by simpa using hv'
        by_cases h : H' = 90
        · exact sizes_1 d a code x w hF hc hx hv hv2 hk hk2 hfew F1 (by decide) (by decide) (by simpa using h)
        · exact sizes_2 d a code x w hF hc hx hv hv2 hk hk2 hfew F1 (by decide) (by decide) (by simpa using h) hf
      | true =>
        obtain ⟨hlig, hsz, hst, hu, hd, hwt⟩ := face_ok hf
        have hw2 : wrap64 (2 * d.size) = 2 * d.size := wrap64_at (by omega)
        have hf2 : faceB (sized d (2 * d.size)) = true := by
          have h' := hf
          unfold faceB toB at h' ⊢
          simp only [Bool.and_eq_true, decide_eq_true_eq, Bool.not_eq_true'] at h' ⊢
          obtain ⟨⟨⟨⟨⟨h1, h2⟩, h3⟩, h4⟩, h5⟩, h6⟩ := h'
          exact ⟨⟨⟨⟨⟨h1, by omega⟩, h3⟩, h4⟩, h5⟩, h6⟩
        cases hq : hasB d.font code with
        | false =>
          have hv' := hv
          rw [show widthV d code 0 = (0, 80) by unfold widthV; rw [hf, hq]; rfl] at hv'
          have hv2' := hv2
          rw [hw2, show widthV (sized d (2 * d.size)) code 0 = (0, 80) by unfold widthV; rw [hf2, show hasB (sized d (2 * d.size)).font code = false from hq]; rfl] at hv2'
          obtain ⟨rfl, rfl⟩ : 0 = A ∧ 80 = E := by simpa using hv'
          obtain ⟨rfl, rfl⟩ : 0 = B' ∧ 80 = H' := by simpa using hv2'
          exact sizes_1 d a code x w hF hc hx hv hv2 hk hk2 hfew F1 (by decide) (by decide) (by decide)
        | true =>
          have hv' := hv
          rw [show widthV d code 0 = (ptW d code, 0) by unfold widthV; rw [hf, hq, wide_zero hf hq]; rfl] at hv'
          obtain ⟨hA, rfl⟩ : ptW d code = A ∧ 0 = E := by simpa using hv'
          cases hfx : fixB x with
          | false =>
            have hk' := hk
            rw [show kernV d x 0 = (0, 90) by unfold kernV; rw [hf, hfx]; rfl] at hk'
            obtain ⟨rfl, rfl⟩ : 0 = C ∧ 90 = I' := by simpa using hk'
            exact sizes_3 d a code x w hF hc hx hv hv2 hk hk2 hfew F1 (by decide)
          | true =>
            have hv2' := hv2
            rw [hw2, show widthV (sized d (2 * d.size)) code 0 = (ptW (sized d (2 * d.size)) code, 0) by unfold widthV; rw [hf2, show hasB (sized d (2 * d.size)).font code = true from hq, wide_zero hf2 hq]; rfl] at hv2'
            obtain ⟨hB, rfl⟩ : ptW (sized d (2 * d.size)) code = B' ∧ 0 = H' := by simpa using hv2'
            have hk' := hk
            rw [show kernV d x 0 = (ptK d x, 0) by unfold kernV; rw [hf, hfx, kern_zero hf hfx]; rfl] at hk'
            obtain ⟨hC, rfl⟩ : ptK d x = C ∧ 0 = I' := by simpa using hk'
            have hk2' := hk2
            rw [hw2, show kernV (sized d (2 * d.size)) x 0 = (ptK (sized d (2 * d.size)) x, 0) by unfold kernV; rw [hf2, hfx, kern_zero hf2 hfx]; rfl] at hk2'
            obtain ⟨hD, rfl⟩ : ptK (sized d (2 * d.size)) x = D ∧ 0 = J := by simpa using hk2'
            have r1 := twice (fixOf d.font code) d.size
            have r2 := twice x d.size
            have hB' : fixOf d.font code * (2 * d.size) / 1048576 = B' := hB
            have hD' : x * (2 * d.size) / 1048576 = D := hD
            have hA' : fixOf d.font code * d.size / 1048576 = A := hA
            have hC' : x * d.size / 1048576 = C := hC
            rw [hB', hA'] at r1
            rw [hD', hC'] at r2
            refine sizes_4 d a code x w hF hc hx hv hv2 hk hk2 hfew F1 ?_ ?_ ?_ ?_
            · rw [← hA']; exact pt_bound hf (fixOf_ok (lig_tfm hlig) hq)
            · rw [← hC']; exact pt_bound hf (by simp [fixB] at hfx; omega)
            · rcases r1 with h | h
              · exact .inl (by simpa using h)
              · exact .inr ⟨by simp; omega, by simpa using h⟩
            · rcases r2 with h | h
              · exact .inl (by simpa using h)
              · exact .inr ⟨by simp; omega, by simpa using h⟩
end Go.Proofs.Ytckmpllbbebefaa.Lv
