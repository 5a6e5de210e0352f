/- The statement LevelRises: a greater level has no lesser width of a character that is not below 0. -/
import Derived.Test.YtckmpllbbebefaaLevel13
import Derived.Deep.RegionHeld3
import Derived.Deep.DeepCutAuto
import Derived.Deep.MidRow
namespace Go.Proofs.Ytckmpllbbebefaa.Lv
open Go.RowKit Go.Proofs.Ytckmpllbbebefaa.Kit Go.Proofs.Ytckmpllbbebefaa.Fo
set_option linter.unusedVariables false
set_option linter.unusedSimpArgs false

abbrev stepped (d : FaceD) : FaceD := { font := d.font, size := d.size, step := 0, up := d.up, down := d.down, traits := d.traits }
theorem stepped_in {w : World} {B : Nat} {d : FaceD} {a : FaceA} (h : FaceIn w B d a) : FaceIn w B (stepped d) a := ⟨h.font, h.size, show (Lit.int .i64 0).wf = true by decide, h.up, h.down, h.traits, h.nt⟩
theorem stepped_face {d : FaceD} (hf : faceB d = true) : faceB (stepped d) = true := by
  obtain ⟨hlig, hsz, hst, hu, hd, hwt⟩ := face_ok hf
  unfold faceB toB
  simp only [Bool.and_eq_true, decide_eq_true_eq, Bool.not_eq_true']
  exact ⟨⟨⟨⟨⟨hlig, hsz⟩, by omega⟩, hu⟩, hd⟩, hwt⟩
theorem wide_rises {d : FaceD} {code n m : Int} (hf : faceB d = true) (hq : hasB d.font code = true) (h : n ≤ m) (hp : 0 ≤ ptW d code) : wideP d code n ≤ wideP d code m := by
  obtain ⟨hlig, hsz, hst, hu, hd, hwt⟩ := face_ok hf
  obtain ⟨t1, _, _⟩ := trait_in (-1) code hwt
  rw [wide_form n hf hq, wide_form m hf hq]
  have hc : clampP d n ≤ clampP d m := by unfold clampP; omega
  have h1 := Int.mul_le_mul_of_nonneg_right hc hst.1
  have h2 := Int.mul_le_mul_of_nonneg_right h1 t1.1
  have h3 := Int.mul_le_mul_of_nonneg_left h2 hp
  have h4 := Int.ediv_le_ediv (c := 1000000) (by omega) h3
  omega
theorem kern_rises {d : FaceD} {x n m : Int} (hf : faceB d = true) (hx : fixB x = true) (h : n ≤ m) (hp : 0 ≤ ptK d x) : kernP d x n ≤ kernP d x m := by
  obtain ⟨hlig, hsz, hst, hu, hd, hwt⟩ := face_ok hf
  rw [kern_form n hf hx, kern_form m hf hx]
  have hc : clampP d n ≤ clampP d m := by unfold clampP; omega
  have h1 := Int.mul_le_mul_of_nonneg_right hc hst.1
  have h3 := Int.mul_le_mul_of_nonneg_left h1 hp
  have h4 := Int.ediv_le_ediv (c := 1000) (by omega) h3
  omega
theorem wide_still {d : FaceD} {code : Int} (m : Int) (hf : faceB d = true) (hq : hasB d.font code = true) : wideP (stepped d) code m = wideP d code 0 := by
  rw [wide_form m (stepped_face hf) hq, wide_zero hf hq]
  show ptW d code + ptW d code * (clampP (stepped d) m * 0 * _) / 1000000 = _
  simp
theorem kern_still {d : FaceD} {x : Int} (m : Int) (hf : faceB d = true) (hx : fixB x = true) : kernP (stepped d) x m = kernP d x 0 := by
  rw [kern_form m (stepped_face hf) hx, kern_zero hf hx]
  show ptK d x + ptK d x * (clampP (stepped d) m * 0) / 1000 = _
  simp
/-- What the calls of the statement answer, and how the answers lie to each other. -/
structure RiseV (d : FaceD) (code x n m : Int) (A E B' C H' D X K Y L k0 : Int) : Prop where
  w1 : widthV d code n = (A, E)
  w2 : widthV d code m = (B', E)
  q1 : kernV d x n = (C, H')
  q2 : kernV d x m = (D, H')
  w3 : ∃ e, widthV d code 0 = (X, e)
  q3 : ∃ e, kernV d x 0 = (K, e)
  cl : (if faceB d then clampP d n else 0) = k0
  w4 : widthV d code k0 = (A, E)
  w5 : ∃ e, widthV (stepped d) code m = (Y, e)
  q5 : ∃ e, kernV (stepped d) x m = (L, e)
  t1 : (X < 0) = True ∨ ((X < 0) = False ∧ (A ≤ B') = True)
  t2 : (K < 0) = True ∨ ((K < 0) = False ∧ (C ≤ D) = True)
  t3 : (E != 0) = true ∨ ((E != 0) = false ∧ (Y == X) = true)
  t4 : (H' != 0) = true ∨ ((H' != 0) = false ∧ (L == K) = true)
theorem lt_cases (x a b : Int) (h : 0 ≤ x → a ≤ b) : (x < 0) = True ∨ ((x < 0) = False ∧ (a ≤ b) = True) := by
  by_cases hx : x < 0
  · exact .inl (eq_true hx)
  · exact .inr ⟨eq_false hx, eq_true (h (by omega))⟩
theorem rise_any (d : FaceD) (code x n m : Int) (h : n ≤ m) : ∃ A E B' C H' D X K Y L k0, RiseV d code x n m A E B' C H' D X K Y L k0 := by
  cases hf : faceB d with
  | false =>
    obtain ⟨⟨Y, e1⟩, hy⟩ : ∃ r, widthV (stepped d) code m = r := ⟨_, rfl⟩
    obtain ⟨⟨L, e2⟩, hl⟩ : ∃ r, kernV (stepped d) x m = r := ⟨_, rfl⟩
    exact ⟨0, 90, 0, 0, 90, 0, 0, 0, Y, L, 0, width_bad hf _ _, width_bad hf _ _, kern_bad' hf _ _, kern_bad' hf _ _, ⟨_, width_bad hf _ _⟩, ⟨_, kern_bad' hf _ _⟩, by rw [hf]; rfl, width_bad hf _ _, ⟨_, hy⟩, ⟨_, hl⟩, lt_cases _ _ _ (by omega), lt_cases _ _ _ (by omega), .inl (by decide), .inl (by decide)⟩
  | true =>
    have hs := stepped_face hf
    have hkern : ∃ C H' D K L, kernV d x n = (C, H') ∧ kernV d x m = (D, H') ∧ (∃ e, kernV d x 0 = (K, e)) ∧ (∃ e, kernV (stepped d) x m = (L, e)) ∧ (0 ≤ K → C ≤ D) ∧ ((H' != 0) = true ∨ ((H' != 0) = false ∧ (L == K) = true)) := by
      cases hx : fixB x with
      | false =>
        have e1 : ∀ n, kernV d x n = (0, 90) := fun n => by unfold kernV; rw [hf, hx]; rfl
        have e2 : ∀ n, kernV (stepped d) x n = (0, 90) := fun n => by unfold kernV; rw [hs, hx]; rfl
        exact ⟨0, 90, 0, 0, 0, e1 _, e1 _, ⟨_, e1 _⟩, ⟨_, e2 _⟩, by omega, .inl (by decide)⟩
      | true =>
        have e1 : ∀ n, kernV d x n = (kernP d x n, 0) := fun n => by unfold kernV; rw [hf, hx]; rfl
        have e2 : ∀ n, kernV (stepped d) x n = (kernP (stepped d) x n, 0) := fun n => by unfold kernV; rw [hs, hx]; rfl
        exact ⟨_, 0, _, _, _, e1 _, e1 _, ⟨_, e1 _⟩, ⟨_, e2 _⟩, fun hK => kern_rises hf hx h (by rwa [kern_zero hf hx] at hK), .inr ⟨by decide, by rw [kern_still m hf hx]; simp⟩⟩
    obtain ⟨C, H', D, K, L, q1, q2, q3, q5, t2, t4⟩ := hkern
    have hcl : (if faceB d then clampP d n else 0) = clampP d n := by rw [hf]; rfl
    cases hq : hasB d.font code with
    | false =>
      have e1 : ∀ n, widthV d code n = (0, 80) := fun n => by unfold widthV; rw [hf, hq]; rfl
      have e2 : ∀ n, widthV (stepped d) code n = (0, 80) := fun n => by unfold widthV; rw [hs, show hasB (stepped d).font code = false from hq]; rfl
      exact ⟨0, 80, 0, C, H', D, 0, K, 0, L, _, e1 _, e1 _, q1, q2, ⟨_, e1 _⟩, q3, hcl, e1 _, ⟨_, e2 _⟩, q5, lt_cases _ _ _ (by omega), lt_cases _ _ _ t2, .inl (by decide), t4⟩
    | true =>
      have e1 : ∀ n, widthV d code n = (wideP d code n, 0) := fun n => by unfold widthV; rw [hf, hq]; rfl
      have e2 : ∀ n, widthV (stepped d) code n = (wideP (stepped d) code n, 0) := fun n => by unfold widthV; rw [hs, show hasB (stepped d).font code = true from hq]; rfl
      exact ⟨_, 0, _, C, H', D, _, K, _, L, _, e1 _, e1 _, q1, q2, ⟨_, e1 _⟩, q3, hcl, (width_clamp hf code n).trans (e1 _), ⟨_, e2 _⟩, q5, lt_cases _ _ _ (fun hX => wide_rises hf hq h (by rwa [wide_zero hf hq] at hX)), lt_cases _ _ _ t2, .inr ⟨by decide, by rw [wide_still m hf hq]; simp⟩, t4⟩

set_option maxRecDepth 100000 in
set_option maxHeartbeats 8000000 in
theorem rs_few (d : FaceD) (a : FaceA) (code x n q : Int) (w : World) (hF : FaceIn w w.heap.size d a) (hc : (Lit.int .i64 code).wf = true) (hx : (Lit.int .i64 x).wf = true) (hn : (Lit.int .i8 n).wf = true) (hq : (Lit.int .u8 q).wf = true) (hfew : fewB d = false) :
    Calls Try.prog 4 #[faceV d a, .int .i64 code, .int .i64 x, .int .i8 n, .int .u8 q] w fun e w' => e = .returned (.bool true) ∧ Below w.heap.size w w' := by
  have hbx := Box.new w (faceCells d a) 29
  have hbw := (Below.refl w.heap.size w).alloc (Nat.le_refl _) (.cells (faceCells d a) 29)
  obtain ⟨W, hW⟩ : ∃ W, w.alloc (.cells (faceCells d a) 29) = W := ⟨_, rfl⟩
  rw [hW] at hbx hbw
  obtain ⟨fv, hfv⟩ : ∃ v, faceV d a = v := ⟨_, rfl⟩
  have hfw : Hid (∀ V, Below W.heap.size W V → Calls Try.prog 10 #[fv] V fun e w' => e = .returned (.bool false) ∧ Below V.heap.size V w') := Lib.hid fun V hb => by
    have := few_any d a V
    rw [hfew, hfv] at this
    exact this
  have HLd : Hid (∀ V, Below W.heap.size W V → _) := Lib.hid fun V hb => ld_box hfv hbx hb
  clear hfv hF hc hx hn hq hfew hbx
  go_enter Try.func4, Try.ntmps4
  go_wp2_with fail
  with_reducible refine (awake_any _).mono ?_; rintro e w1 ⟨rfl, hb⟩
  have b0 := hb
  clear hb hW
  have ld := HLd.out _ b0
  go_wp2_with (refine ld_law ld rfl _ rfl rfl ?_)
  with_reducible refine (hfw.out _ b0).mono ?_; rintro e w2 ⟨rfl, hb⟩
  have b1 := below_join b0 hb
  clear hb b0 hfw ld
  go_wp2_with fail
  go_ret
  exact ⟨rfl, hbw.trans (b1.mono hbw.size)⟩
set_option maxRecDepth 100000 in
set_option maxHeartbeats 8000000 in
theorem rs_rest (d : FaceD) (a : FaceA) (code x n q : Int) (w w3 : World) (hF : FaceIn w w.heap.size d a) (hc : (Lit.int .i64 code).wf = true) (hbx : Box w3 w.heap.size (faceCells d a) 29) (b2 : Below w.heap.size w w3) {A E B' C H' D X K Y L k0 : Int} (R : RiseV d code x n (n + q) A E B' C H' D X K Y L k0) (Q : Exit → Act → World → Prop) (s6 s7 s8 s9 s22 s24 s27 s28 s29 s30 s31 s32 s33 s34 s35 s36 s37 s38 s39 s40 s41 s42 s43 s44 s45 s46 s47 s48 s49 s50 s51 s52 s53 s54 s55 s56 s57 s58 s59 s60 s61 s62 s63 s64 s65 s66 s67 s68 s69 s70 s71 s72 s73 s74 s75 s76 s77 s78 s79 s80 s81 s82 s83 s84 s85 s86 s87 s88 s89 s90 s91 s92 s93 s94 s95 s96 s97 s98 s99 s100 s101 s102 s103 s104 s105 s106 s107 s108 s109 s110 s111 s112 s113 s114 s115 s116 s117 s118 s119 s120 s121 s122 s123 s124 s125 s126 s127 s128 s129 s130 s131 s132 s133 s134 s135 s136 s137 s138 s139 s140 s141 s142 s143 s144 s145 s146 s147 s148 s149 s150 s151 s152 s153 s154 s155 s156 s157 s158 s159 s160 s161 s162 s163 s164 s165 s166 s167 s168 : Value)
    (hQ : ∀ (t : Array Value) (w' : World), t.getD 10 undef = .bool true → Below w.heap.size w w' → Q .ret { tmps := t, defers := [] } w') :
    (tl (tl (tl (tl (tl (tl (tl (tl (tl (tl (tl (Try.f4.body.getD .ret)))))))))))).wp Try.prog Q { tmps := #[faceV d a, .int .i64 code, .int .i64 x, .int .i8 n, .int .u8 q, .pointer (some ⟨w.heap.size, 0, none⟩), s6, s7, s8, s9, .bool false, .bool true, .int .i64 (n + q), .int .i64 A, .int .i64 E, .int .i64 B', .int .i64 E, .int .i64 C, .int .i64 H', .int .i64 D, .int .i64 H', .int .i64 X, s22, .int .i64 K, s24, .int .i64 A, .int .i64 E, s27, s28, s29, s30, s31, s32, s33, s34, s35, s36, s37, s38, s39, s40, s41, s42, s43, s44, s45, s46, s47, s48, s49, s50, s51, s52, s53, s54, s55, s56, s57, s58, s59, s60, s61, s62, s63, s64, s65, s66, s67, s68, s69, s70, s71, s72, s73, s74, s75, s76, s77, s78, s79, s80, s81, s82, s83, s84, s85, s86, s87, s88, s89, s90, s91, s92, s93, s94, s95, s96, s97, s98, s99, s100, s101, s102, s103, s104, s105, s106, s107, s108, s109, s110, s111, s112, s113, s114, s115, s116, s117, s118, s119, s120, s121, s122, s123, s124, s125, s126, s127, s128, s129, s130, s131, s132, s133, s134, s135, s136, s137, s138, s139, s140, s141, s142, s143, s144, s145, s146, s147, s148, s149, s150, s151, s152, s153, s154, s155, s156, s157, s158, s159, s160, s161, s162, s163, s164, s165, s166, s167, s168], defers := [] } w3 := by
  have hQ := Lib.hid hQ
  dsimp only [tl, Try.f4, Option.getD_some]
  obtain ⟨e5, hv5⟩ := R.w5
  obtain ⟨e6, hk5⟩ := R.q5
  have t1 := R.t1
  have t2 := R.t2
  have t3 := R.t3
  have t4 := R.t4
  have HF := Lib.hid hF
  have hV := Box.new w3 (faceCells (stepped d) a) 29
  have b3 := below_alloc b2 (.cells (faceCells (stepped d) a) 29)
  obtain ⟨⟨c0, c1, c2, c3, c4, c5, c6, c7, c8, c9, c10⟩, c11, c12, c13, c14, c15⟩ := face_cells hbx
  clear hF R b2
  go_upto_region 14 with fail
  clear c0 c1 c2 c3 c4 c5 c6 c7 c8 c9 c10 c11 c12 c13 c14 c15 hbx
  dsimp only [stepped] at hV b3
  obtain ⟨V, hVV⟩ : ∃ V, V = w3.alloc (.cells #[.int .i64 d.font.sum, .int .i64 d.font.design, .int .i64 d.font.first, .slice a.font.c d.font.chars.length a.font.cc, .slice a.font.w d.font.widths.length a.font.cw, .slice a.font.h d.font.heights.length a.font.ch, .slice a.font.d d.font.depths.length a.font.cd, .slice a.font.i d.font.italics.length a.font.ci, .slice a.font.s d.font.steps.length a.font.cs, .slice a.font.k d.font.kerns.length a.font.ck, .slice a.font.p d.font.params.length a.font.cp, .int .i64 d.size, .int .i64 0, .int .i64 d.up, .int .i64 d.down, .slice a.t d.traits.length a.ct] 29) := ⟨_, rfl⟩
  rw [← hVV]
  rw [← hVV] at hV b3
  clear hVV
  obtain ⟨gv, hgv⟩ : ∃ v, faceV (stepped d) a = v := ⟨_, rfl⟩
  have HLg : Hid (∀ V', Below V.heap.size V V' → (Instr.loadAt 29 (.pointer (some ⟨w3.heap.size, 0, none⟩))).run Try.prog V' = .ok gv V') := Lib.hid fun V' hb => ld_box hgv (show Box V w3.heap.size (faceCells (stepped d) a) _ from hV) hb
  have h1 : Hid (∀ V', Below V.heap.size V V' → Calls Try.prog 11 #[gv, .int .i64 code, .int .i64 (n + q)] V' fun e w' => e = .returned (.tuple #[.int .i64 Y, .int .i64 e5]) ∧ Below V'.heap.size V' w') := Lib.hid fun V' hb => by rw [← hgv]; exact width_c hv5 V' (Nat.le_trans b3.size hb.size) (stepped_in (HF.out.mono (b3.trans (hb.mono b3.size)))) hc
  have h2 : Hid (∀ V', Below V.heap.size V V' → Calls Try.prog 13 #[gv, .int .i64 x, .int .i64 (n + q)] V' fun e w' => e = .returned (.tuple #[.int .i64 L, .int .i64 e6]) ∧ Below V'.heap.size V' w') := Lib.hid fun V' hb => by rw [← hgv]; exact kern_c hk5 V' (Nat.le_trans b3.size hb.size) (stepped_in (HF.out.mono (b3.trans (hb.mono b3.size))))
  have HB := Lib.hid b3
  clear hV b3 hgv HF hc hv5 hk5
  generalize w3.heap.size = g8 at *
  have k0' := Below.refl V.heap.size V
  have ld := HLg.out _ k0'
  go_wp2_with (refine ld_law ld rfl _ rfl rfl ?_)
  with_reducible refine (h1.out _ k0').mono ?_; rintro e v1 ⟨rfl, hb⟩
  have k1 := below_join k0' hb
  clear hb ld k0' h1
  have ld := HLg.out _ k1
  go_wp2_with (refine ld_law ld rfl _ rfl rfl ?_)
  with_reducible refine (h2.out _ k1).mono ?_; rintro e v2 ⟨rfl, hb⟩
  have k2 := below_join k1 hb
  clear hb ld k1 h2 HLg
  go_upto_region 16 with fail
  go_cut [32] from 111 to 126 (fun v wx => v = .bool true ∧ wx = v2)
  case first =>
    clear t3 t4
    rcases t1 with t1 | ⟨t1, t5⟩ <;> rcases t2 with t2 | ⟨t2, t6⟩
    all_goals (go_wp2_with fail; go_meet; exact ⟨rfl, rfl⟩)
  case rest =>
    obtain ⟨rfl, rfl⟩ := hcut
    clear t1 t2
    rcases t3 with t3 | ⟨t3, t5⟩ <;> rcases t4 with t4 | ⟨t4, t6⟩
    all_goals
      go_wp2_with fail
      exact hQ.out _ _ rfl (below_join HB.out k2)
set_option maxRecDepth 100000 in
set_option maxHeartbeats 8000000 in
theorem rs_main (d : FaceD) (a : FaceA) (code x n q : Int) (w : World) (hF : FaceIn w w.heap.size d a) (hc : (Lit.int .i64 code).wf = true) (hx : (Lit.int .i64 x).wf = true) (hn : (Lit.int .i8 n).wf = true) (hq : (Lit.int .u8 q).wf = true) {A E B' C H' D X K Y L k0 : Int} (R : RiseV d code x n (n + q) A E B' C H' D X K Y L k0) (hfew : fewB d = true) :
    Calls Try.prog 4 #[faceV d a, .int .i64 code, .int .i64 x, .int .i8 n, .int .u8 q] w fun e w' => e = .returned (.bool true) ∧ Below w.heap.size w w' := by
  have hbx := Box.new w (faceCells d a) 29
  have hbw := (Below.refl w.heap.size w).alloc (Nat.le_refl _) (.cells (faceCells d a) 29)
  obtain ⟨W, hW⟩ : ∃ W, w.alloc (.cells (faceCells d a) 29) = W := ⟨_, rfl⟩
  rw [hW] at hbx hbw
  obtain ⟨fv, hfv⟩ : ∃ v, faceV d a = v := ⟨_, rfl⟩
  have hfw : Hid (∀ V, Below W.heap.size W V → Calls Try.prog 10 #[fv] V fun e w' => e = .returned (.bool true) ∧ Below V.heap.size V w') := Lib.hid fun V hb => by
    have := few_any d a V
    rw [hfew, hfv] at this
    exact this
  have HLd : Hid (∀ V, Below W.heap.size W V → _) := Lib.hid fun V hb => ld_box hfv hbx hb
  have HF := Lib.hid hF
  obtain ⟨n1, n2⟩ := i8_of hn
  obtain ⟨q1, q2⟩ := u8_of hq
  obtain ⟨e3, hw3⟩ := R.w3
  obtain ⟨e4, hq3⟩ := R.q3
  have h1 : Hid (∀ V, Below W.heap.size W V → Calls Try.prog 11 #[fv, .int .i64 code, .int .i64 n] V fun e w' => e = .returned (.tuple #[.int .i64 A, .int .i64 E]) ∧ Below V.heap.size V w') := Lib.hid fun V hb => by rw [← hfv]; exact width_c R.w1 V (Nat.le_trans hbw.size hb.size) (hF.mono (hbw.trans (hb.mono hbw.size))) hc
  have h2 : Hid (∀ V, Below W.heap.size W V → Calls Try.prog 11 #[fv, .int .i64 code, .int .i64 (n + q)] V fun e w' => e = .returned (.tuple #[.int .i64 B', .int .i64 E]) ∧ Below V.heap.size V w') := Lib.hid fun V hb => by rw [← hfv]; exact width_c R.w2 V (Nat.le_trans hbw.size hb.size) (hF.mono (hbw.trans (hb.mono hbw.size))) hc
  have h3 : Hid (∀ V, Below W.heap.size W V → Calls Try.prog 13 #[fv, .int .i64 x, .int .i64 n] V fun e w' => e = .returned (.tuple #[.int .i64 C, .int .i64 H']) ∧ Below V.heap.size V w') := Lib.hid fun V hb => by rw [← hfv]; exact kern_c R.q1 V (Nat.le_trans hbw.size hb.size) (hF.mono (hbw.trans (hb.mono hbw.size)))
  have h4 : Hid (∀ V, Below W.heap.size W V → Calls Try.prog 13 #[fv, .int .i64 x, .int .i64 (n + q)] V fun e w' => e = .returned (.tuple #[.int .i64 D, .int .i64 H']) ∧ Below V.heap.size V w') := Lib.hid fun V hb => by rw [← hfv]; exact kern_c R.q2 V (Nat.le_trans hbw.size hb.size) (hF.mono (hbw.trans (hb.mono hbw.size)))
  have h5 : Hid (∀ V, Below W.heap.size W V → Calls Try.prog 11 #[fv, .int .i64 code, .int .i64 0] V fun e w' => e = .returned (.tuple #[.int .i64 X, .int .i64 e3]) ∧ Below V.heap.size V w') := Lib.hid fun V hb => by rw [← hfv]; exact width_c hw3 V (Nat.le_trans hbw.size hb.size) (hF.mono (hbw.trans (hb.mono hbw.size))) hc
  have h6 : Hid (∀ V, Below W.heap.size W V → Calls Try.prog 13 #[fv, .int .i64 x, .int .i64 0] V fun e w' => e = .returned (.tuple #[.int .i64 K, .int .i64 e4]) ∧ Below V.heap.size V w') := Lib.hid fun V hb => by rw [← hfv]; exact kern_c hq3 V (Nat.le_trans hbw.size hb.size) (hF.mono (hbw.trans (hb.mono hbw.size)))
  have HCl : Hid (∀ V, Below W.heap.size W V → Calls Try.prog 19 #[faceV d a, .int .i64 n] V fun e w' => e = .returned (.int .i64 k0) ∧ Below V.heap.size V w') := Lib.hid fun V hb => clamp_c R.cl V (Nat.le_trans hbw.size hb.size) (hF.mono (hbw.trans (hb.mono hbw.size)))
  have HWk : Hid (∀ V, Below W.heap.size W V → Calls Try.prog 11 #[faceV d a, .int .i64 code, .int .i64 k0] V fun e w' => e = .returned (.tuple #[.int .i64 A, .int .i64 E]) ∧ Below V.heap.size V w') := Lib.hid fun V hb => width_c R.w4 V (Nat.le_trans hbw.size hb.size) (hF.mono (hbw.trans (hb.mono hbw.size))) hc
  have HR := Lib.hid R
  have HC := Lib.hid hc
  clear hfv hF hc hx hn hq hfew R hw3 hq3
  go_enter Try.func4, Try.ntmps4
  go_wp2_with fail
  with_reducible refine (awake_any _).mono ?_; rintro e w1 ⟨rfl, hb⟩
  have b0 := hb
  clear hb hW
  have ld := HLd.out _ b0
  go_wp2_with (refine ld_law ld rfl _ rfl rfl ?_)
  with_reducible refine (hfw.out _ b0).mono ?_; rintro e w2 ⟨rfl, hb⟩
  have b1 := below_join b0 hb
  clear hb b0 hfw ld
  have ld := HLd.out _ b1
  go_wp2_with (refine ld_law ld rfl _ rfl rfl ?_)
  with_reducible refine (h1.out _ b1).mono ?_; rintro e w3 ⟨rfl, hb⟩
  have b2 := below_join b1 hb
  clear hb ld b1 h1
  have ld := HLd.out _ b2
  go_wp2_with (refine ld_law ld rfl _ rfl rfl ?_)
  with_reducible refine (h2.out _ b2).mono ?_; rintro e w4 ⟨rfl, hb⟩
  have b3 := below_join b2 hb
  clear hb ld b2 h2
  have ld := HLd.out _ b3
  go_wp2_with (refine ld_law ld rfl _ rfl rfl ?_)
  with_reducible refine (h3.out _ b3).mono ?_; rintro e w5 ⟨rfl, hb⟩
  have b4 := below_join b3 hb
  clear hb ld b3 h3
  have ld := HLd.out _ b4
  go_wp2_with (refine ld_law ld rfl _ rfl rfl ?_)
  with_reducible refine (h4.out _ b4).mono ?_; rintro e w6 ⟨rfl, hb⟩
  have b5 := below_join b4 hb
  clear hb ld b4 h4
  have ld := HLd.out _ b5
  go_wp2_with (refine ld_law ld rfl _ rfl rfl ?_)
  with_reducible refine (h5.out _ b5).mono ?_; rintro e w7 ⟨rfl, hb⟩
  have b6 := below_join b5 hb
  clear hb ld b5 h5
  have ld := HLd.out _ b6
  go_wp2_with (refine ld_law ld rfl _ rfl rfl ?_)
  with_reducible refine (h6.out _ b6).mono ?_; rintro e w8 ⟨rfl, hb⟩
  have b7 := below_join b6 hb
  clear hb ld b6 h6
  go_upto_region 11 with fail
  go_cut [25, 26] (fun u v wx => u = .int .i64 A ∧ v = .int .i64 E ∧ Below w8.heap.size w8 wx)
  case first =>
    have ewn : IntKind.i64.wrap n = n := by rw [IntKind.wrap_i64]; omega
    have hbx8 := hbx.below b7
    clear HLd hbx
    have HK : Hid (∀ w', Below w8.heap.size w8 w' → Below w8.heap.size w8 w' ∧ w'.rangeAt w.heap.size 0 (faceL d a)) := Lib.hid fun w' hb => ⟨hb, rangeAt_on hb (rangeAt_box hbx8)⟩
    have hu : Try.prog.underlying 29 = _ := Try.underlying29
    have hi1 : (Try.prog.info? 29).map (·.size) = some (faceL d a).length := by kernel_rfl
    refine wp_region_noPanic ?_
    refine wp_region_held_drew (S := fun w' => Below w8.heap.size w8 w' ∧ w'.rangeAt w.heap.size 0 (faceL d a)) (by kernel_rfl) ?_ (fun hHeld => ?_)
    · exact HK.out _ (by repeat (first | (with_reducible exact Below.refl _ _) | (with_reducible apply below_drew) | (with_reducible refine below_join ?_ (by assumption)) | exact (‹Below w8.heap.size w8 _ ∧ _›.1)))
    refine' wpAnyH_take (i := 0) (oi := _) (v := _) rfl (by kernel_rfl) (by kernel_rfl) (by kernel_rfl) (fun _ _ _ h => h) (yieldsIf_load_mid (by rfl) _ _ rfl _ _ rfl _ _ ?_ hu rfl hi1) (by assumption) ?_
    · intro w hSw; exact hSw.2
    try simp only [Act.put, List.setIfInBounds_toArray, List.set_cons_zero, List.set_cons_succ]
    refine wpAnyH_take (i := 1) (oi := _) (v := ?_) rfl (by kernel_rfl) (by kernel_rfl) (by kernel_rfl) (fun _ _ _ h => h) (Or.inl ⟨by rfl, ?_⟩) (by assumption) ?_
    rotate_left
    · intro w hSw; go_simp; with_reducible rfl
    try simp only [Act.put, List.setIfInBounds_toArray, List.set_cons_zero, List.set_cons_succ]
    refine' wpAnyH_take (i := 2) (oi := _) (v := _) rfl (by kernel_rfl) (by kernel_rfl) (by kernel_rfl) (fun _ _ _ h => h) (yieldsIf_load_mid (by rfl) _ _ rfl _ _ rfl _ _ ?_ hu rfl hi1) (by assumption) ?_
    · intro w hSw; exact hSw.2
    try simp only [Act.put, List.setIfInBounds_toArray, List.set_cons_zero, List.set_cons_succ]
    refine wpAnyH_take (i := 3) (oi := _) (v := ?_) rfl (by kernel_rfl) (by kernel_rfl) (by kernel_rfl) (fun _ _ _ h => h) (Or.inl ⟨by rfl, ?_⟩) (by assumption) ?_
    rotate_left
    · intro w hSw; go_simp; with_reducible rfl
    try simp only [Act.put, List.setIfInBounds_toArray, List.set_cons_zero, List.set_cons_succ]
    refine wpAnyH_take (i := 4) (oi := _) (v := ?_) rfl (by kernel_rfl) (by kernel_rfl) (by kernel_rfl) (fun _ _ _ h => h) (Or.inl ⟨by rfl, ?_⟩) (by assumption) ?_
    rotate_left
    · intro w hSw; go_simp; with_reducible rfl
    try simp only [Act.put, List.setIfInBounds_toArray, List.set_cons_zero, List.set_cons_succ]
    refine wpAnyH_ready (rs := [5]) (by kernel_rfl) (by simp) ?_
    refine AllReadyH.cons (o := _) rfl (fun K hK => ?_) AllReadyH.nil
    go_simp
    (with_reducible refine (HCl.out _ (below_join b7 ‹Below w8.heap.size w8 _ ∧ _›.1)).mono ?_); rintro e wq ⟨rfl, hbq⟩
    go_wp2_with fail
    refine hK.out _ _ ?_ (fun hHeld => ?_)
    · exact HK.out _ (by repeat (first | (with_reducible exact Below.refl _ _) | (with_reducible apply below_drew) | (with_reducible refine below_join ?_ (by assumption)) | exact (‹Below w8.heap.size w8 _ ∧ _›.1)))
    clear hK K
    try simp only [Act.put, List.setIfInBounds_toArray, List.set_cons_zero, List.set_cons_succ]
    refine wpAnyH_ready (rs := [6]) (by kernel_rfl) (by simp) ?_
    refine AllReadyH.cons (o := _) rfl (fun K hK => ?_) AllReadyH.nil
    go_simp
    (with_reducible refine (HWk.out _ (below_join b7 (below_join ‹Below w8.heap.size w8 _ ∧ _›.1 (Below.refl _ _)))).mono ?_); rintro e wq2 ⟨rfl, hbq2⟩
    go_wp2_with fail
    refine hK.out _ _ ?_ (fun hHeld => ?_)
    · exact HK.out _ (by repeat (first | (with_reducible exact Below.refl _ _) | (with_reducible apply below_drew) | (with_reducible refine below_join ?_ (by assumption)) | exact (‹Below w8.heap.size w8 _ ∧ _›.1)))
    clear hK K
    try simp only [Act.put, List.setIfInBounds_toArray, List.set_cons_zero, List.set_cons_succ]
    refine wpAnyH_take (i := 7) (oi := _) (v := ?_) rfl (by kernel_rfl) (by kernel_rfl) (by kernel_rfl) (fun _ _ _ h => h) (Or.inl ⟨by rfl, ?_⟩) (by assumption) ?_
    rotate_left
    · intro w hSw; go_simp; with_reducible rfl
    try simp only [Act.put, List.setIfInBounds_toArray, List.set_cons_zero, List.set_cons_succ]
    refine wpAnyH_take (i := 8) (oi := _) (v := ?_) rfl (by kernel_rfl) (by kernel_rfl) (by kernel_rfl) (fun _ _ _ h => h) (Or.inl ⟨by rfl, ?_⟩) (by assumption) ?_
    rotate_left
    · intro w hSw; go_simp; with_reducible rfl
    try simp only [Act.put, List.setIfInBounds_toArray, List.set_cons_zero, List.set_cons_succ]
    refine wpAnyH_take (i := 9) (oi := _) (v := ?_) rfl (by kernel_rfl) (by kernel_rfl) (by kernel_rfl) (fun _ _ _ h => h) (Or.inl ⟨by rfl, ?_⟩) (by assumption) ?_
    rotate_left
    · intro w hSw; go_simp; with_reducible rfl
    try simp only [Act.put, List.setIfInBounds_toArray, List.set_cons_zero, List.set_cons_succ]
    refine wpAnyH_ready (rs := [10]) (by kernel_rfl) (by simp) ?_
    refine AllReadyH.cons (o := _) rfl (fun K hK => ?_) AllReadyH.nil
    go_simp
    refine hK.out _ _ ?_ (fun hHeld => ?_)
    · exact HK.out _ (by repeat (first | (with_reducible exact Below.refl _ _) | (with_reducible apply below_drew) | (with_reducible refine below_join ?_ (by assumption)) | exact (‹Below w8.heap.size w8 _ ∧ _›.1)))
    clear hK K
    try simp only [Act.put, List.setIfInBounds_toArray, List.set_cons_zero, List.set_cons_succ]
    refine wpAnyH_ready (rs := [11]) (by kernel_rfl) (by simp) ?_
    refine AllReadyH.cons (o := _) rfl (fun K hK => ?_) AllReadyH.nil
    go_simp
    refine hK.out _ _ ?_ (fun hHeld => ?_)
    · exact HK.out _ (by repeat (first | (with_reducible exact Below.refl _ _) | (with_reducible apply below_drew) | (with_reducible refine below_join ?_ (by assumption)) | exact (‹Below w8.heap.size w8 _ ∧ _›.1)))
    clear hK K
    try simp only [Act.put, List.setIfInBounds_toArray, List.set_cons_zero, List.set_cons_succ]
    refine wpAnyH_done (by kernel_rfl) ?_ _
    refine NoPanic.normal ?_
    go_wp2_with fail
    go_meet
    exact ⟨rfl, rfl, (‹Below w8.heap.size w8 _ ∧ _›.1)⟩
  case rest =>
    obtain ⟨rfl, rfl, hb⟩ := hcut
    rename World => w9
    have b8 := below_join b7 hb
    apply_assumption
    refine rs_rest d a code x n q w w9 HF.out HC.out (hbx.below b8) (hbw.trans (b8.mono hbw.size)) HR.out _ _ _ _ _ _ _ _ _ _ _ _ _ _ _ _ _ _ _ _ _ _ _ _ _ _ _ _ _ _ _ _ _ _ _ _ _ _ _ _ _ _ _ _ _ _ _ _ _ _ _ _ _ _ _ _ _ _ _ _ _ _ _ _ _ _ _ _ _ _ _ _ _ _ _ _ _ _ _ _ _ _ _ _ _ _ _ _ _ _ _ _ _ _ _ _ _ _ _ _ _ _ _ _ _ _ _ _ _ _ _ _ _ _ _ _ _ _ _ _ _ _ _ _ _ _ _ _ _ _ _ _ _ _ _ _ _ _ _ _ _ _ _ _ _ _ _ _ _ ?_
    intro t w' h6 hb
    refine bodyPost_ret (results_tmp rfl _ _ _) rfl ⟨by rw [h6], hb⟩
theorem rises_walk (c0 : Array Value) (x0 : FaceT) (code x n q : Int) (w : World) (h0 : faceR.K w w.heap.size c0.toList x0) (hc : (Lit.int .i64 code).wf = true) (hx : (Lit.int .i64 x).wf = true) (hn : (Lit.int .i8 n).wf = true) (hq : (Lit.int .u8 q).wf = true) :
    Calls Try.prog 4 #[.agg c0, .int .i64 code, .int .i64 x, .int .i8 n, .int .u8 q] w fun e w' => e = .returned (.bool true) ∧ Below w.heap.size w w' := by
  obtain ⟨d, a, rfl, hF⟩ := face_of h0
  cases hfew : fewB d with
  | false => exact rs_few d a code x n q w hF hc hx hn hq hfew
  | true =>
    obtain ⟨q1, q2⟩ := u8_of hq
    obtain ⟨A, E, B', C, H', D, X, K, Y, L, k0, R⟩ := rise_any d code x n (n + q) (by omega)
    exact rs_main d a code x n q w hF hc hx hn hq R hfew
end Go.Proofs.Ytckmpllbbebefaa.Lv
