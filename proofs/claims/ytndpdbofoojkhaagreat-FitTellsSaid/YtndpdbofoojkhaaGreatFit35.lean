/- The reference: how a line fits at a level: the judging (At, its last part). -/
import Derived.Test.YtndpdbofoojkhaaGreatFit34
namespace Go.Proofs.YtndpdbofoojkhaaGreat.Ft
open Go.RowKit Go.Proofs.YtndpdbofoojkhaaGreat.Kit Go.Proofs.YtndpdbofoojkhaaGreat.Fo Go.Proofs.YtndpdbofoojkhaaGreat.Lv
set_option linter.unusedVariables false
set_option linter.unusedSimpArgs false

theorem fit_set8 {w : World} {g : Nat} {a0 a1 a2 a3 a4 a5 a6 a7 b0 b1 b2 b3 b4 b5 b6 b7 : Value} {t : TypeId} (h : Box w g #[a0, a1, a2, a3, a4, a5, a6, a7] t) : Box ((((((((w.setCell ⟨g, 0, none⟩ b0).setCell ⟨g, 1, none⟩ b1).setCell ⟨g, 2, none⟩ b2).setCell ⟨g, 3, none⟩ b3).setCell ⟨g, 4, none⟩ b4).setCell ⟨g, 5, none⟩ b5).setCell ⟨g, 6, none⟩ b6).setCell ⟨g, 7, none⟩ b7) g #[b0, b1, b2, b3, b4, b5, b6, b7] t := by
  simpa using (((((((h.set 0 b0).set 1 b1).set 2 b2).set 3 b3).set 4 b4).set 5 b5).set 6 b6).set 7 b7
theorem fit_below8 {w W : World} {B g : Nat} (h : Below B w W) (hg : B ≤ g) (b0 b1 b2 b3 b4 b5 b6 b7 : Value) : Below B w ((((((((W.setCell ⟨g, 0, none⟩ b0).setCell ⟨g, 1, none⟩ b1).setCell ⟨g, 2, none⟩ b2).setCell ⟨g, 3, none⟩ b3).setCell ⟨g, 4, none⟩ b4).setCell ⟨g, 5, none⟩ b5).setCell ⟨g, 6, none⟩ b6).setCell ⟨g, 7, none⟩ b7) :=
  (((((((h.setCell (p := ⟨g, 0, none⟩) hg b0).setCell (p := ⟨g, 1, none⟩) hg b1).setCell (p := ⟨g, 2, none⟩) hg b2).setCell (p := ⟨g, 3, none⟩) hg b3).setCell (p := ⟨g, 4, none⟩) hg b4).setCell (p := ⟨g, 5, none⟩) hg b5).setCell (p := ⟨g, 6, none⟩) hg b6).setCell (p := ⟨g, 7, none⟩) hg b7
set_option maxRecDepth 100000 in
set_option maxHeartbeats 4000000 in
theorem al1 (pb pr : Nat) (lev NT LE RI GAP st sh ex long : Int) (last : Bool) (W w0 : World)
    (HP : Hid (Box W pb (fitB ⟨lev, NT, LE, RI, 0, 0, false, 0⟩) 46)) (HR : Hid (Box W pr zF 46)) (HB : Hid (Below w0.heap.size w0 W)) (hne : pr ≠ pb) (hpb : w0.heap.size ≤ pb) (hpr : w0.heap.size ≤ pr)
    (e1 : wrap64 (st + ex) = st + ex) (e2 : wrap64 (-GAP) = -GAP) (e3 : wrap64 (GAP + sh) = GAP + sh) (G1 : (0 ≤ GAP) = True) (G2 : (GAP < 0) = False) (G3 : (0 < GAP) = False) (G5 : (1073741823 < GAP) = False) (hl : last = true)
    (s0 s1 s2 s6 s7 s8 s9 s10 s11 s12 s13 s17 s21 s22 s23 s24 s25 s26 s27 s28 s29 s30 s31 s32 s33 s34 s35 s36 s37 s38 s39 s40 s41 s42 s43 s44 s45 s46 s47 s48 s49 s50 s51 s52 s53 s54 s55 s56 s57 s58 s59 s60 s61 s62 s63 s64 s65 s66 s67 s68 s69 s70 s71 s72 s73 s74 s75 s76 s77 s78 s79 s80 s81 s82 s83 s84 s85 s86 s87 s88 s89 s90 s91 s92 s93 s94 s95 s96 s97 s98 s99 s100 s101 s102 s103 s104 s105 s106 s107 s108 s109 s110 s111 s112 s113 s114 s115 s116 s117 s118 s119 s120 s121 s122 s123 s124 s125 s126 s127 s128 s129 s130 s131 s132 s133 s134 s135 s136 s137 s138 s139 : Value) :
    (tl (tl (tl (tl (tl (tl (tl (tl (Tryz.f62.body.getD .ret))))))))).wp Tryz.prog (bodyPost Tryz.prog Tryz.f62 fun e w' => e = .returned (.tuple #[fitV { level := lev, nat := NT, left := LE, right := RI, bad := 0, cls := fitP (0) false, unset := false, defect := 0 }, .int .i64 GAP]) ∧ Below w0.heap.size w0 w') { tmps := #[s0, s1, s2, .int .i64 long, .bool last, .int .i64 ex, s6, s7, s8, s9, s10, s11, s12, s13, .pointer (some ⟨pr, 0, none⟩), .int .i64 0, .pointer (some ⟨pb, 0, none⟩), s17, .int .i64 GAP, .int .i64 st, .int .i64 sh, s21, s22, s23, s24, s25, s26, s27, s28, s29, s30, s31, s32, s33, s34, s35, s36, s37, s38, s39, s40, s41, s42, s43, s44, s45, s46, s47, s48, s49, s50, s51, s52, s53, s54, s55, s56, s57, s58, s59, s60, s61, s62, s63, s64, s65, s66, s67, s68, s69, s70, s71, s72, s73, s74, s75, s76, s77, s78, s79, s80, s81, s82, s83, s84, s85, s86, s87, s88, s89, s90, s91, s92, s93, s94, s95, s96, s97, s98, s99, s100, s101, s102, s103, s104, s105, s106, s107, s108, s109, s110, s111, s112, s113, s114, s115, s116, s117, s118, s119, s120, s121, s122, s123, s124, s125, s126, s127, s128, s129, s130, s131, s132, s133, s134, s135, s136, s137, s138, s139], defers := [] } W := by
  subst hl
  have Pc0 : W.cell? ⟨pb, 0, none⟩ = some (.int .i64 lev) := HP.out.cell 0 rfl
  have Pf0 := HP.out.free 0
  have Pc1 : W.cell? ⟨pb, 1, none⟩ = some (.int .i64 NT) := HP.out.cell 1 rfl
  have Pf1 := HP.out.free 1
  have Pc2 : W.cell? ⟨pb, 2, none⟩ = some (.int .i64 LE) := HP.out.cell 2 rfl
  have Pf2 := HP.out.free 2
  have Pc3 : W.cell? ⟨pb, 3, none⟩ = some (.int .i64 RI) := HP.out.cell 3 rfl
  have Pf3 := HP.out.free 3
  have Pc4 : W.cell? ⟨pb, 4, none⟩ = some (.int .i64 0) := HP.out.cell 4 rfl
  have Pf4 := HP.out.free 4
  have Pc5 : W.cell? ⟨pb, 5, none⟩ = some (.int .i64 0) := HP.out.cell 5 rfl
  have Pf5 := HP.out.free 5
  have Pc6 : W.cell? ⟨pb, 6, none⟩ = some (.bool false) := HP.out.cell 6 rfl
  have Pf6 := HP.out.free 6
  have Pc7 : W.cell? ⟨pb, 7, none⟩ = some (.int .i64 0) := HP.out.cell 7 rfl
  have Pf7 := HP.out.free 7
  have Rc0 : W.cell? ⟨pr, 0, none⟩ = some (.int .i64 0) := HR.out.cell 0 rfl
  have Rf0 := HR.out.free 0
  have Rc1 : W.cell? ⟨pr, 1, none⟩ = some (.int .i64 0) := HR.out.cell 1 rfl
  have Rf1 := HR.out.free 1
  have Rc2 : W.cell? ⟨pr, 2, none⟩ = some (.int .i64 0) := HR.out.cell 2 rfl
  have Rf2 := HR.out.free 2
  have Rc3 : W.cell? ⟨pr, 3, none⟩ = some (.int .i64 0) := HR.out.cell 3 rfl
  have Rf3 := HR.out.free 3
  have Rc4 : W.cell? ⟨pr, 4, none⟩ = some (.int .i64 0) := HR.out.cell 4 rfl
  have Rf4 := HR.out.free 4
  have Rc5 : W.cell? ⟨pr, 5, none⟩ = some (.int .i64 0) := HR.out.cell 5 rfl
  have Rf5 := HR.out.free 5
  have Rc6 : W.cell? ⟨pr, 6, none⟩ = some (.bool false) := HR.out.cell 6 rfl
  have Rf6 := HR.out.free 6
  have Rc7 : W.cell? ⟨pr, 7, none⟩ = some (.int .i64 0) := HR.out.cell 7 rfl
  have Rf7 := HR.out.free 7
  have HFi := Lib.hid (reffit_any (0) false)
  obtain ⟨cls, hcls⟩ : ∃ c, Hid (fitP (0) false = c) := ⟨_, Lib.hid rfl⟩
  rw [hcls.out] at HFi ⊢
  dsimp only [tl, Tryz.f62, Option.getD_some]
  go_wp2_with fail
  with_reducible refine (HFi.out _).mono ?_
  rintro e w2 ⟨rfl, rfl⟩
  go_wp2_with fail
  have b8 := fit_set8 ((HR.out.far (p := ⟨pb, 6, none⟩) hne (.bool false)).far (p := ⟨pb, 5, none⟩) hne (.int .i64 cls)) (b0 := .int .i64 lev) (b1 := .int .i64 NT) (b2 := .int .i64 LE) (b3 := .int .i64 RI) (b4 := .int .i64 0) (b5 := .int .i64 cls) (b6 := .bool false) (b7 := .int .i64 (0))
  have q0 := b8.cell 0 rfl
  have q1 := b8.cell 1 rfl
  have q2 := b8.cell 2 rfl
  have q3 := b8.cell 3 rfl
  have q4 := b8.cell 4 rfl
  have q5 := b8.cell 5 rfl
  have q6 := b8.cell 6 rfl
  have q7 := b8.cell 7 rfl
  refine bodyPost_ret (v := .tuple #[fitV { level := lev, nat := NT, left := LE, right := RI, bad := 0, cls := cls, unset := false, defect := 0 }, .int .i64 GAP]) ?_ rfl ⟨rfl, fit_below8 ((HB.out.setCell (p := ⟨pb, 6, none⟩) hpb (.bool false)).setCell (p := ⟨pb, 5, none⟩) hpb (.int .i64 cls)) hpr _ _ _ _ _ _ _ _⟩
  simp [results, Tryz.f62, go_sem, q0, q1, q2, q3, q4, q5, q6, q7]
set_option maxRecDepth 100000 in
set_option maxHeartbeats 4000000 in
theorem al2 (pb pr : Nat) (lev NT LE RI GAP st sh ex long : Int) (last : Bool) (W w0 : World)
    (HP : Hid (Box W pb (fitB ⟨lev, NT, LE, RI, 0, 0, false, 0⟩) 46)) (HR : Hid (Box W pr zF 46)) (HB : Hid (Below w0.heap.size w0 W)) (hne : pr ≠ pb) (hpb : w0.heap.size ≤ pb) (hpr : w0.heap.size ≤ pr)
    (e1 : wrap64 (st + ex) = st + ex) (e2 : wrap64 (-GAP) = -GAP) (e3 : wrap64 (GAP + sh) = GAP + sh) (G1 : (0 ≤ GAP) = True) (G2 : (GAP < 0) = False) (G3 : (0 < GAP) = True) (G4 : (st == 0) = true) (hl : last = true)
    (s0 s1 s2 s6 s7 s8 s9 s10 s11 s12 s13 s17 s21 s22 s23 s24 s25 s26 s27 s28 s29 s30 s31 s32 s33 s34 s35 s36 s37 s38 s39 s40 s41 s42 s43 s44 s45 s46 s47 s48 s49 s50 s51 s52 s53 s54 s55 s56 s57 s58 s59 s60 s61 s62 s63 s64 s65 s66 s67 s68 s69 s70 s71 s72 s73 s74 s75 s76 s77 s78 s79 s80 s81 s82 s83 s84 s85 s86 s87 s88 s89 s90 s91 s92 s93 s94 s95 s96 s97 s98 s99 s100 s101 s102 s103 s104 s105 s106 s107 s108 s109 s110 s111 s112 s113 s114 s115 s116 s117 s118 s119 s120 s121 s122 s123 s124 s125 s126 s127 s128 s129 s130 s131 s132 s133 s134 s135 s136 s137 s138 s139 : Value) :
    (tl (tl (tl (tl (tl (tl (tl (tl (Tryz.f62.body.getD .ret))))))))).wp Tryz.prog (bodyPost Tryz.prog Tryz.f62 fun e w' => e = .returned (.tuple #[fitV { level := lev, nat := NT, left := LE, right := RI, bad := 0, cls := fitP (0) false, unset := false, defect := 0 }, .int .i64 GAP]) ∧ Below w0.heap.size w0 w') { tmps := #[s0, s1, s2, .int .i64 long, .bool last, .int .i64 ex, s6, s7, s8, s9, s10, s11, s12, s13, .pointer (some ⟨pr, 0, none⟩), .int .i64 0, .pointer (some ⟨pb, 0, none⟩), s17, .int .i64 GAP, .int .i64 st, .int .i64 sh, s21, s22, s23, s24, s25, s26, s27, s28, s29, s30, s31, s32, s33, s34, s35, s36, s37, s38, s39, s40, s41, s42, s43, s44, s45, s46, s47, s48, s49, s50, s51, s52, s53, s54, s55, s56, s57, s58, s59, s60, s61, s62, s63, s64, s65, s66, s67, s68, s69, s70, s71, s72, s73, s74, s75, s76, s77, s78, s79, s80, s81, s82, s83, s84, s85, s86, s87, s88, s89, s90, s91, s92, s93, s94, s95, s96, s97, s98, s99, s100, s101, s102, s103, s104, s105, s106, s107, s108, s109, s110, s111, s112, s113, s114, s115, s116, s117, s118, s119, s120, s121, s122, s123, s124, s125, s126, s127, s128, s129, s130, s131, s132, s133, s134, s135, s136, s137, s138, s139], defers := [] } W := by
  subst hl
  have Pc0 : W.cell? ⟨pb, 0, none⟩ = some (.int .i64 lev) := HP.out.cell 0 rfl
  have Pf0 := HP.out.free 0
  have Pc1 : W.cell? ⟨pb, 1, none⟩ = some (.int .i64 NT) := HP.out.cell 1 rfl
  have Pf1 := HP.out.free 1
  have Pc2 : W.cell? ⟨pb, 2, none⟩ = some (.int .i64 LE) := HP.out.cell 2 rfl
  have Pf2 := HP.out.free 2
  have Pc3 : W.cell? ⟨pb, 3, none⟩ = some (.int .i64 RI) := HP.out.cell 3 rfl
  have Pf3 := HP.out.free 3
  have Pc4 : W.cell? ⟨pb, 4, none⟩ = some (.int .i64 0) := HP.out.cell 4 rfl
  have Pf4 := HP.out.free 4
  have Pc5 : W.cell? ⟨pb, 5, none⟩ = some (.int .i64 0) := HP.out.cell 5 rfl
  have Pf5 := HP.out.free 5
  have Pc6 : W.cell? ⟨pb, 6, none⟩ = some (.bool false) := HP.out.cell 6 rfl
  have Pf6 := HP.out.free 6
  have Pc7 : W.cell? ⟨pb, 7, none⟩ = some (.int .i64 0) := HP.out.cell 7 rfl
  have Pf7 := HP.out.free 7
  have Rc0 : W.cell? ⟨pr, 0, none⟩ = some (.int .i64 0) := HR.out.cell 0 rfl
  have Rf0 := HR.out.free 0
  have Rc1 : W.cell? ⟨pr, 1, none⟩ = some (.int .i64 0) := HR.out.cell 1 rfl
  have Rf1 := HR.out.free 1
  have Rc2 : W.cell? ⟨pr, 2, none⟩ = some (.int .i64 0) := HR.out.cell 2 rfl
  have Rf2 := HR.out.free 2
  have Rc3 : W.cell? ⟨pr, 3, none⟩ = some (.int .i64 0) := HR.out.cell 3 rfl
  have Rf3 := HR.out.free 3
  have Rc4 : W.cell? ⟨pr, 4, none⟩ = some (.int .i64 0) := HR.out.cell 4 rfl
  have Rf4 := HR.out.free 4
  have Rc5 : W.cell? ⟨pr, 5, none⟩ = some (.int .i64 0) := HR.out.cell 5 rfl
  have Rf5 := HR.out.free 5
  have Rc6 : W.cell? ⟨pr, 6, none⟩ = some (.bool false) := HR.out.cell 6 rfl
  have Rf6 := HR.out.free 6
  have Rc7 : W.cell? ⟨pr, 7, none⟩ = some (.int .i64 0) := HR.out.cell 7 rfl
  have Rf7 := HR.out.free 7
  have HFi := Lib.hid (reffit_any (0) false)
  obtain ⟨cls, hcls⟩ : ∃ c, Hid (fitP (0) false = c) := ⟨_, Lib.hid rfl⟩
  rw [hcls.out] at HFi ⊢
  dsimp only [tl, Tryz.f62, Option.getD_some]
  go_wp2_with fail
  with_reducible refine (HFi.out _).mono ?_
  rintro e w2 ⟨rfl, rfl⟩
  go_wp2_with fail
  have b8 := fit_set8 ((HR.out.far (p := ⟨pb, 6, none⟩) hne (.bool false)).far (p := ⟨pb, 5, none⟩) hne (.int .i64 cls)) (b0 := .int .i64 lev) (b1 := .int .i64 NT) (b2 := .int .i64 LE) (b3 := .int .i64 RI) (b4 := .int .i64 0) (b5 := .int .i64 cls) (b6 := .bool false) (b7 := .int .i64 (0))
  have q0 := b8.cell 0 rfl
  have q1 := b8.cell 1 rfl
  have q2 := b8.cell 2 rfl
  have q3 := b8.cell 3 rfl
  have q4 := b8.cell 4 rfl
  have q5 := b8.cell 5 rfl
  have q6 := b8.cell 6 rfl
  have q7 := b8.cell 7 rfl
  refine bodyPost_ret (v := .tuple #[fitV { level := lev, nat := NT, left := LE, right := RI, bad := 0, cls := cls, unset := false, defect := 0 }, .int .i64 GAP]) ?_ rfl ⟨rfl, fit_below8 ((HB.out.setCell (p := ⟨pb, 6, none⟩) hpb (.bool false)).setCell (p := ⟨pb, 5, none⟩) hpb (.int .i64 cls)) hpr _ _ _ _ _ _ _ _⟩
  simp [results, Tryz.f62, go_sem, q0, q1, q2, q3, q4, q5, q6, q7]
set_option maxRecDepth 100000 in
set_option maxHeartbeats 4000000 in
theorem al3 (pb pr : Nat) (lev NT LE RI GAP st sh ex long : Int) (last : Bool) (W w0 : World)
    (HP : Hid (Box W pb (fitB ⟨lev, NT, LE, RI, 0, 0, false, 0⟩) 46)) (HR : Hid (Box W pr zF 46)) (HB : Hid (Below w0.heap.size w0 W)) (hne : pr ≠ pb) (hpb : w0.heap.size ≤ pb) (hpr : w0.heap.size ≤ pr)
    (e1 : wrap64 (st + ex) = st + ex) (e2 : wrap64 (-GAP) = -GAP) (e3 : wrap64 (GAP + sh) = GAP + sh) (G1 : (0 ≤ GAP) = True) (G2 : (GAP < 0) = False) (G3 : (0 < GAP) = True) (G4 : (st == 0) = false) (G5 : (1073741823 < GAP) = True) (hl : last = true)
    (s0 s1 s2 s6 s7 s8 s9 s10 s11 s12 s13 s17 s21 s22 s23 s24 s25 s26 s27 s28 s29 s30 s31 s32 s33 s34 s35 s36 s37 s38 s39 s40 s41 s42 s43 s44 s45 s46 s47 s48 s49 s50 s51 s52 s53 s54 s55 s56 s57 s58 s59 s60 s61 s62 s63 s64 s65 s66 s67 s68 s69 s70 s71 s72 s73 s74 s75 s76 s77 s78 s79 s80 s81 s82 s83 s84 s85 s86 s87 s88 s89 s90 s91 s92 s93 s94 s95 s96 s97 s98 s99 s100 s101 s102 s103 s104 s105 s106 s107 s108 s109 s110 s111 s112 s113 s114 s115 s116 s117 s118 s119 s120 s121 s122 s123 s124 s125 s126 s127 s128 s129 s130 s131 s132 s133 s134 s135 s136 s137 s138 s139 : Value) :
    (tl (tl (tl (tl (tl (tl (tl (tl (Tryz.f62.body.getD .ret))))))))).wp Tryz.prog (bodyPost Tryz.prog Tryz.f62 fun e w' => e = .returned (.tuple #[fitV { level := lev, nat := NT, left := LE, right := RI, bad := 0, cls := fitP (0) false, unset := false, defect := 0 }, .int .i64 GAP]) ∧ Below w0.heap.size w0 w') { tmps := #[s0, s1, s2, .int .i64 long, .bool last, .int .i64 ex, s6, s7, s8, s9, s10, s11, s12, s13, .pointer (some ⟨pr, 0, none⟩), .int .i64 0, .pointer (some ⟨pb, 0, none⟩), s17, .int .i64 GAP, .int .i64 st, .int .i64 sh, s21, s22, s23, s24, s25, s26, s27, s28, s29, s30, s31, s32, s33, s34, s35, s36, s37, s38, s39, s40, s41, s42, s43, s44, s45, s46, s47, s48, s49, s50, s51, s52, s53, s54, s55, s56, s57, s58, s59, s60, s61, s62, s63, s64, s65, s66, s67, s68, s69, s70, s71, s72, s73, s74, s75, s76, s77, s78, s79, s80, s81, s82, s83, s84, s85, s86, s87, s88, s89, s90, s91, s92, s93, s94, s95, s96, s97, s98, s99, s100, s101, s102, s103, s104, s105, s106, s107, s108, s109, s110, s111, s112, s113, s114, s115, s116, s117, s118, s119, s120, s121, s122, s123, s124, s125, s126, s127, s128, s129, s130, s131, s132, s133, s134, s135, s136, s137, s138, s139], defers := [] } W := by
  subst hl
  have Pc0 : W.cell? ⟨pb, 0, none⟩ = some (.int .i64 lev) := HP.out.cell 0 rfl
  have Pf0 := HP.out.free 0
  have Pc1 : W.cell? ⟨pb, 1, none⟩ = some (.int .i64 NT) := HP.out.cell 1 rfl
  have Pf1 := HP.out.free 1
  have Pc2 : W.cell? ⟨pb, 2, none⟩ = some (.int .i64 LE) := HP.out.cell 2 rfl
  have Pf2 := HP.out.free 2
  have Pc3 : W.cell? ⟨pb, 3, none⟩ = some (.int .i64 RI) := HP.out.cell 3 rfl
  have Pf3 := HP.out.free 3
  have Pc4 : W.cell? ⟨pb, 4, none⟩ = some (.int .i64 0) := HP.out.cell 4 rfl
  have Pf4 := HP.out.free 4
  have Pc5 : W.cell? ⟨pb, 5, none⟩ = some (.int .i64 0) := HP.out.cell 5 rfl
  have Pf5 := HP.out.free 5
  have Pc6 : W.cell? ⟨pb, 6, none⟩ = some (.bool false) := HP.out.cell 6 rfl
  have Pf6 := HP.out.free 6
  have Pc7 : W.cell? ⟨pb, 7, none⟩ = some (.int .i64 0) := HP.out.cell 7 rfl
  have Pf7 := HP.out.free 7
  have Rc0 : W.cell? ⟨pr, 0, none⟩ = some (.int .i64 0) := HR.out.cell 0 rfl
  have Rf0 := HR.out.free 0
  have Rc1 : W.cell? ⟨pr, 1, none⟩ = some (.int .i64 0) := HR.out.cell 1 rfl
  have Rf1 := HR.out.free 1
  have Rc2 : W.cell? ⟨pr, 2, none⟩ = some (.int .i64 0) := HR.out.cell 2 rfl
  have Rf2 := HR.out.free 2
  have Rc3 : W.cell? ⟨pr, 3, none⟩ = some (.int .i64 0) := HR.out.cell 3 rfl
  have Rf3 := HR.out.free 3
  have Rc4 : W.cell? ⟨pr, 4, none⟩ = some (.int .i64 0) := HR.out.cell 4 rfl
  have Rf4 := HR.out.free 4
  have Rc5 : W.cell? ⟨pr, 5, none⟩ = some (.int .i64 0) := HR.out.cell 5 rfl
  have Rf5 := HR.out.free 5
  have Rc6 : W.cell? ⟨pr, 6, none⟩ = some (.bool false) := HR.out.cell 6 rfl
  have Rf6 := HR.out.free 6
  have Rc7 : W.cell? ⟨pr, 7, none⟩ = some (.int .i64 0) := HR.out.cell 7 rfl
  have Rf7 := HR.out.free 7
  have HFi := Lib.hid (reffit_any (0) false)
  obtain ⟨cls, hcls⟩ : ∃ c, Hid (fitP (0) false = c) := ⟨_, Lib.hid rfl⟩
  rw [hcls.out] at HFi ⊢
  dsimp only [tl, Tryz.f62, Option.getD_some]
  go_wp2_with fail
  with_reducible refine (HFi.out _).mono ?_
  rintro e w2 ⟨rfl, rfl⟩
  go_wp2_with fail
  have b8 := fit_set8 ((HR.out.far (p := ⟨pb, 6, none⟩) hne (.bool false)).far (p := ⟨pb, 5, none⟩) hne (.int .i64 cls)) (b0 := .int .i64 lev) (b1 := .int .i64 NT) (b2 := .int .i64 LE) (b3 := .int .i64 RI) (b4 := .int .i64 0) (b5 := .int .i64 cls) (b6 := .bool false) (b7 := .int .i64 (0))
  have q0 := b8.cell 0 rfl
  have q1 := b8.cell 1 rfl
  have q2 := b8.cell 2 rfl
  have q3 := b8.cell 3 rfl
  have q4 := b8.cell 4 rfl
  have q5 := b8.cell 5 rfl
  have q6 := b8.cell 6 rfl
  have q7 := b8.cell 7 rfl
  refine bodyPost_ret (v := .tuple #[fitV { level := lev, nat := NT, left := LE, right := RI, bad := 0, cls := cls, unset := false, defect := 0 }, .int .i64 GAP]) ?_ rfl ⟨rfl, fit_below8 ((HB.out.setCell (p := ⟨pb, 6, none⟩) hpb (.bool false)).setCell (p := ⟨pb, 5, none⟩) hpb (.int .i64 cls)) hpr _ _ _ _ _ _ _ _⟩
  simp [results, Tryz.f62, go_sem, q0, q1, q2, q3, q4, q5, q6, q7]
set_option maxRecDepth 100000 in
set_option maxHeartbeats 4000000 in
theorem al4 (pb pr : Nat) (lev NT LE RI GAP st sh ex long : Int) (last : Bool) (W w0 : World)
    (HP : Hid (Box W pb (fitB ⟨lev, NT, LE, RI, 0, 0, false, 0⟩) 46)) (HR : Hid (Box W pr zF 46)) (HB : Hid (Below w0.heap.size w0 W)) (hne : pr ≠ pb) (hpb : w0.heap.size ≤ pb) (hpr : w0.heap.size ≤ pr)
    (e1 : wrap64 (st + ex) = st + ex) (e2 : wrap64 (-GAP) = -GAP) (e3 : wrap64 (GAP + sh) = GAP + sh) (G1 : (0 ≤ GAP) = True) (G2 : (GAP < 0) = False) (G3 : (0 < GAP) = True) (G4 : (st == 0) = false) (G5 : (1073741823 < GAP) = False) (hl : last = true)
    (s0 s1 s2 s6 s7 s8 s9 s10 s11 s12 s13 s17 s21 s22 s23 s24 s25 s26 s27 s28 s29 s30 s31 s32 s33 s34 s35 s36 s37 s38 s39 s40 s41 s42 s43 s44 s45 s46 s47 s48 s49 s50 s51 s52 s53 s54 s55 s56 s57 s58 s59 s60 s61 s62 s63 s64 s65 s66 s67 s68 s69 s70 s71 s72 s73 s74 s75 s76 s77 s78 s79 s80 s81 s82 s83 s84 s85 s86 s87 s88 s89 s90 s91 s92 s93 s94 s95 s96 s97 s98 s99 s100 s101 s102 s103 s104 s105 s106 s107 s108 s109 s110 s111 s112 s113 s114 s115 s116 s117 s118 s119 s120 s121 s122 s123 s124 s125 s126 s127 s128 s129 s130 s131 s132 s133 s134 s135 s136 s137 s138 s139 : Value) :
    (tl (tl (tl (tl (tl (tl (tl (tl (Tryz.f62.body.getD .ret))))))))).wp Tryz.prog (bodyPost Tryz.prog Tryz.f62 fun e w' => e = .returned (.tuple #[fitV { level := lev, nat := NT, left := LE, right := RI, bad := 0, cls := fitP (0) false, unset := false, defect := 0 }, .int .i64 GAP]) ∧ Below w0.heap.size w0 w') { tmps := #[s0, s1, s2, .int .i64 long, .bool last, .int .i64 ex, s6, s7, s8, s9, s10, s11, s12, s13, .pointer (some ⟨pr, 0, none⟩), .int .i64 0, .pointer (some ⟨pb, 0, none⟩), s17, .int .i64 GAP, .int .i64 st, .int .i64 sh, s21, s22, s23, s24, s25, s26, s27, s28, s29, s30, s31, s32, s33, s34, s35, s36, s37, s38, s39, s40, s41, s42, s43, s44, s45, s46, s47, s48, s49, s50, s51, s52, s53, s54, s55, s56, s57, s58, s59, s60, s61, s62, s63, s64, s65, s66, s67, s68, s69, s70, s71, s72, s73, s74, s75, s76, s77, s78, s79, s80, s81, s82, s83, s84, s85, s86, s87, s88, s89, s90, s91, s92, s93, s94, s95, s96, s97, s98, s99, s100, s101, s102, s103, s104, s105, s106, s107, s108, s109, s110, s111, s112, s113, s114, s115, s116, s117, s118, s119, s120, s121, s122, s123, s124, s125, s126, s127, s128, s129, s130, s131, s132, s133, s134, s135, s136, s137, s138, s139], defers := [] } W := by
  subst hl
  have Pc0 : W.cell? ⟨pb, 0, none⟩ = some (.int .i64 lev) := HP.out.cell 0 rfl
  have Pf0 := HP.out.free 0
  have Pc1 : W.cell? ⟨pb, 1, none⟩ = some (.int .i64 NT) := HP.out.cell 1 rfl
  have Pf1 := HP.out.free 1
  have Pc2 : W.cell? ⟨pb, 2, none⟩ = some (.int .i64 LE) := HP.out.cell 2 rfl
  have Pf2 := HP.out.free 2
  have Pc3 : W.cell? ⟨pb, 3, none⟩ = some (.int .i64 RI) := HP.out.cell 3 rfl
  have Pf3 := HP.out.free 3
  have Pc4 : W.cell? ⟨pb, 4, none⟩ = some (.int .i64 0) := HP.out.cell 4 rfl
  have Pf4 := HP.out.free 4
  have Pc5 : W.cell? ⟨pb, 5, none⟩ = some (.int .i64 0) := HP.out.cell 5 rfl
  have Pf5 := HP.out.free 5
  have Pc6 : W.cell? ⟨pb, 6, none⟩ = some (.bool false) := HP.out.cell 6 rfl
  have Pf6 := HP.out.free 6
  have Pc7 : W.cell? ⟨pb, 7, none⟩ = some (.int .i64 0) := HP.out.cell 7 rfl
  have Pf7 := HP.out.free 7
  have Rc0 : W.cell? ⟨pr, 0, none⟩ = some (.int .i64 0) := HR.out.cell 0 rfl
  have Rf0 := HR.out.free 0
  have Rc1 : W.cell? ⟨pr, 1, none⟩ = some (.int .i64 0) := HR.out.cell 1 rfl
  have Rf1 := HR.out.free 1
  have Rc2 : W.cell? ⟨pr, 2, none⟩ = some (.int .i64 0) := HR.out.cell 2 rfl
  have Rf2 := HR.out.free 2
  have Rc3 : W.cell? ⟨pr, 3, none⟩ = some (.int .i64 0) := HR.out.cell 3 rfl
  have Rf3 := HR.out.free 3
  have Rc4 : W.cell? ⟨pr, 4, none⟩ = some (.int .i64 0) := HR.out.cell 4 rfl
  have Rf4 := HR.out.free 4
  have Rc5 : W.cell? ⟨pr, 5, none⟩ = some (.int .i64 0) := HR.out.cell 5 rfl
  have Rf5 := HR.out.free 5
  have Rc6 : W.cell? ⟨pr, 6, none⟩ = some (.bool false) := HR.out.cell 6 rfl
  have Rf6 := HR.out.free 6
  have Rc7 : W.cell? ⟨pr, 7, none⟩ = some (.int .i64 0) := HR.out.cell 7 rfl
  have Rf7 := HR.out.free 7
  have HFi := Lib.hid (reffit_any (0) false)
  obtain ⟨cls, hcls⟩ : ∃ c, Hid (fitP (0) false = c) := ⟨_, Lib.hid rfl⟩
  rw [hcls.out] at HFi ⊢
  dsimp only [tl, Tryz.f62, Option.getD_some]
  go_wp2_with fail
  with_reducible refine (HFi.out _).mono ?_
  rintro e w2 ⟨rfl, rfl⟩
  go_wp2_with fail
  have b8 := fit_set8 ((HR.out.far (p := ⟨pb, 6, none⟩) hne (.bool false)).far (p := ⟨pb, 5, none⟩) hne (.int .i64 cls)) (b0 := .int .i64 lev) (b1 := .int .i64 NT) (b2 := .int .i64 LE) (b3 := .int .i64 RI) (b4 := .int .i64 0) (b5 := .int .i64 cls) (b6 := .bool false) (b7 := .int .i64 (0))
  have q0 := b8.cell 0 rfl
  have q1 := b8.cell 1 rfl
  have q2 := b8.cell 2 rfl
  have q3 := b8.cell 3 rfl
  have q4 := b8.cell 4 rfl
  have q5 := b8.cell 5 rfl
  have q6 := b8.cell 6 rfl
  have q7 := b8.cell 7 rfl
  refine bodyPost_ret (v := .tuple #[fitV { level := lev, nat := NT, left := LE, right := RI, bad := 0, cls := cls, unset := false, defect := 0 }, .int .i64 GAP]) ?_ rfl ⟨rfl, fit_below8 ((HB.out.setCell (p := ⟨pb, 6, none⟩) hpb (.bool false)).setCell (p := ⟨pb, 5, none⟩) hpb (.int .i64 cls)) hpr _ _ _ _ _ _ _ _⟩
  simp [results, Tryz.f62, go_sem, q0, q1, q2, q3, q4, q5, q6, q7]
set_option maxRecDepth 100000 in
set_option maxHeartbeats 4000000 in
theorem al5 (pb pr : Nat) (lev NT LE RI GAP st sh ex long : Int) (last : Bool) (W w0 : World)
    (HP : Hid (Box W pb (fitB ⟨lev, NT, LE, RI, 0, 0, false, 0⟩) 46)) (HR : Hid (Box W pr zF 46)) (HB : Hid (Below w0.heap.size w0 W)) (hne : pr ≠ pb) (hpb : w0.heap.size ≤ pb) (hpr : w0.heap.size ≤ pr)
    (e1 : wrap64 (st + ex) = st + ex) (e2 : wrap64 (-GAP) = -GAP) (e3 : wrap64 (GAP + sh) = GAP + sh) (G1 : (0 ≤ GAP) = True) (G2 : (GAP < 0) = False) (G3 : (0 < GAP) = False) (G5 : (1073741823 < GAP) = False) (hl : last = false)
    (s0 s1 s2 s6 s7 s8 s9 s10 s11 s12 s13 s17 s21 s22 s23 s24 s25 s26 s27 s28 s29 s30 s31 s32 s33 s34 s35 s36 s37 s38 s39 s40 s41 s42 s43 s44 s45 s46 s47 s48 s49 s50 s51 s52 s53 s54 s55 s56 s57 s58 s59 s60 s61 s62 s63 s64 s65 s66 s67 s68 s69 s70 s71 s72 s73 s74 s75 s76 s77 s78 s79 s80 s81 s82 s83 s84 s85 s86 s87 s88 s89 s90 s91 s92 s93 s94 s95 s96 s97 s98 s99 s100 s101 s102 s103 s104 s105 s106 s107 s108 s109 s110 s111 s112 s113 s114 s115 s116 s117 s118 s119 s120 s121 s122 s123 s124 s125 s126 s127 s128 s129 s130 s131 s132 s133 s134 s135 s136 s137 s138 s139 : Value) :
    (tl (tl (tl (tl (tl (tl (tl (tl (Tryz.f62.body.getD .ret))))))))).wp Tryz.prog (bodyPost Tryz.prog Tryz.f62 fun e w' => e = .returned (.tuple #[fitV { level := lev, nat := NT, left := LE, right := RI, bad := ((Bad.badP (Bad.cl GAP) (Bad.cl (st + ex)) : Nat) : Int), cls := fitP (((Bad.badP (Bad.cl GAP) (Bad.cl (st + ex)) : Nat) : Int)) false, unset := false, defect := 0 }, .int .i64 GAP]) ∧ Below w0.heap.size w0 w') { tmps := #[s0, s1, s2, .int .i64 long, .bool last, .int .i64 ex, s6, s7, s8, s9, s10, s11, s12, s13, .pointer (some ⟨pr, 0, none⟩), .int .i64 0, .pointer (some ⟨pb, 0, none⟩), s17, .int .i64 GAP, .int .i64 st, .int .i64 sh, s21, s22, s23, s24, s25, s26, s27, s28, s29, s30, s31, s32, s33, s34, s35, s36, s37, s38, s39, s40, s41, s42, s43, s44, s45, s46, s47, s48, s49, s50, s51, s52, s53, s54, s55, s56, s57, s58, s59, s60, s61, s62, s63, s64, s65, s66, s67, s68, s69, s70, s71, s72, s73, s74, s75, s76, s77, s78, s79, s80, s81, s82, s83, s84, s85, s86, s87, s88, s89, s90, s91, s92, s93, s94, s95, s96, s97, s98, s99, s100, s101, s102, s103, s104, s105, s106, s107, s108, s109, s110, s111, s112, s113, s114, s115, s116, s117, s118, s119, s120, s121, s122, s123, s124, s125, s126, s127, s128, s129, s130, s131, s132, s133, s134, s135, s136, s137, s138, s139], defers := [] } W := by
  subst hl
  have Pc0 : W.cell? ⟨pb, 0, none⟩ = some (.int .i64 lev) := HP.out.cell 0 rfl
  have Pf0 := HP.out.free 0
  have Pc1 : W.cell? ⟨pb, 1, none⟩ = some (.int .i64 NT) := HP.out.cell 1 rfl
  have Pf1 := HP.out.free 1
  have Pc2 : W.cell? ⟨pb, 2, none⟩ = some (.int .i64 LE) := HP.out.cell 2 rfl
  have Pf2 := HP.out.free 2
  have Pc3 : W.cell? ⟨pb, 3, none⟩ = some (.int .i64 RI) := HP.out.cell 3 rfl
  have Pf3 := HP.out.free 3
  have Pc4 : W.cell? ⟨pb, 4, none⟩ = some (.int .i64 0) := HP.out.cell 4 rfl
  have Pf4 := HP.out.free 4
  have Pc5 : W.cell? ⟨pb, 5, none⟩ = some (.int .i64 0) := HP.out.cell 5 rfl
  have Pf5 := HP.out.free 5
  have Pc6 : W.cell? ⟨pb, 6, none⟩ = some (.bool false) := HP.out.cell 6 rfl
  have Pf6 := HP.out.free 6
  have Pc7 : W.cell? ⟨pb, 7, none⟩ = some (.int .i64 0) := HP.out.cell 7 rfl
  have Pf7 := HP.out.free 7
  have Rc0 : W.cell? ⟨pr, 0, none⟩ = some (.int .i64 0) := HR.out.cell 0 rfl
  have Rf0 := HR.out.free 0
  have Rc1 : W.cell? ⟨pr, 1, none⟩ = some (.int .i64 0) := HR.out.cell 1 rfl
  have Rf1 := HR.out.free 1
  have Rc2 : W.cell? ⟨pr, 2, none⟩ = some (.int .i64 0) := HR.out.cell 2 rfl
  have Rf2 := HR.out.free 2
  have Rc3 : W.cell? ⟨pr, 3, none⟩ = some (.int .i64 0) := HR.out.cell 3 rfl
  have Rf3 := HR.out.free 3
  have Rc4 : W.cell? ⟨pr, 4, none⟩ = some (.int .i64 0) := HR.out.cell 4 rfl
  have Rf4 := HR.out.free 4
  have Rc5 : W.cell? ⟨pr, 5, none⟩ = some (.int .i64 0) := HR.out.cell 5 rfl
  have Rf5 := HR.out.free 5
  have Rc6 : W.cell? ⟨pr, 6, none⟩ = some (.bool false) := HR.out.cell 6 rfl
  have Rf6 := HR.out.free 6
  have Rc7 : W.cell? ⟨pr, 7, none⟩ = some (.int .i64 0) := HR.out.cell 7 rfl
  have Rf7 := HR.out.free 7
  have HFi := Lib.hid (reffit_any (((Bad.badP (Bad.cl GAP) (Bad.cl (st + ex)) : Nat) : Int)) false)
  have HBd := Lib.hid (Bad.refbad_any (GAP) (st + ex))
  obtain ⟨cls, hcls⟩ : ∃ c, Hid (fitP (((Bad.badP (Bad.cl GAP) (Bad.cl (st + ex)) : Nat) : Int)) false = c) := ⟨_, Lib.hid rfl⟩
  rw [hcls.out] at HFi ⊢
  obtain ⟨BV, hBV⟩ : ∃ c : Int, Hid (((Bad.badP (Bad.cl (GAP)) (Bad.cl (st + ex)) : Nat) : Int) = c) := ⟨_, Lib.hid rfl⟩
  rw [hBV.out] at HBd
  rw [hBV.out] at HFi hcls ⊢
  dsimp only [tl, Tryz.f62, Option.getD_some]
  go_wp2_with fail
  with_reducible refine (HBd.out _).mono ?_
  rintro e w1 ⟨rfl, hb1⟩
  have HP1 : Hid (Box w1 pb (fitB ⟨lev, NT, LE, RI, 0, 0, false, 0⟩) 46) := Lib.hid ((HP.out.set 6 (.bool false)).below hb1)
  have HR1 : Hid (Box w1 pr zF 46) := Lib.hid ((HR.out.far (p := ⟨pb, 6, none⟩) hne (.bool false)).below hb1)
  have HB1 : Hid (Below w0.heap.size w0 w1) := Lib.hid (below_join (HB.out.setCell (p := ⟨pb, 6, none⟩) hpb (.bool false)) hb1)
  clear hb1 Pc0 Pf0 Pc1 Pf1 Pc2 Pf2 Pc3 Pf3 Pc4 Pf4 Pc5 Pf5 Pc6 Pf6 Pc7 Pf7 Rc0 Rf0 Rc1 Rf1 Rc2 Rf2 Rc3 Rf3 Rc4 Rf4 Rc5 Rf5 Rc6 Rf6 Rc7 Rf7
  have P1c0 : w1.cell? ⟨pb, 0, none⟩ = some (.int .i64 lev) := HP1.out.cell 0 rfl
  have P1f0 := HP1.out.free 0
  have P1c1 : w1.cell? ⟨pb, 1, none⟩ = some (.int .i64 NT) := HP1.out.cell 1 rfl
  have P1f1 := HP1.out.free 1
  have P1c2 : w1.cell? ⟨pb, 2, none⟩ = some (.int .i64 LE) := HP1.out.cell 2 rfl
  have P1f2 := HP1.out.free 2
  have P1c3 : w1.cell? ⟨pb, 3, none⟩ = some (.int .i64 RI) := HP1.out.cell 3 rfl
  have P1f3 := HP1.out.free 3
  have P1c4 : w1.cell? ⟨pb, 4, none⟩ = some (.int .i64 0) := HP1.out.cell 4 rfl
  have P1f4 := HP1.out.free 4
  have P1c5 : w1.cell? ⟨pb, 5, none⟩ = some (.int .i64 0) := HP1.out.cell 5 rfl
  have P1f5 := HP1.out.free 5
  have P1c6 : w1.cell? ⟨pb, 6, none⟩ = some (.bool false) := HP1.out.cell 6 rfl
  have P1f6 := HP1.out.free 6
  have P1c7 : w1.cell? ⟨pb, 7, none⟩ = some (.int .i64 0) := HP1.out.cell 7 rfl
  have P1f7 := HP1.out.free 7
  have R1c0 : w1.cell? ⟨pr, 0, none⟩ = some (.int .i64 0) := HR1.out.cell 0 rfl
  have R1f0 := HR1.out.free 0
  have R1c1 : w1.cell? ⟨pr, 1, none⟩ = some (.int .i64 0) := HR1.out.cell 1 rfl
  have R1f1 := HR1.out.free 1
  have R1c2 : w1.cell? ⟨pr, 2, none⟩ = some (.int .i64 0) := HR1.out.cell 2 rfl
  have R1f2 := HR1.out.free 2
  have R1c3 : w1.cell? ⟨pr, 3, none⟩ = some (.int .i64 0) := HR1.out.cell 3 rfl
  have R1f3 := HR1.out.free 3
  have R1c4 : w1.cell? ⟨pr, 4, none⟩ = some (.int .i64 0) := HR1.out.cell 4 rfl
  have R1f4 := HR1.out.free 4
  have R1c5 : w1.cell? ⟨pr, 5, none⟩ = some (.int .i64 0) := HR1.out.cell 5 rfl
  have R1f5 := HR1.out.free 5
  have R1c6 : w1.cell? ⟨pr, 6, none⟩ = some (.bool false) := HR1.out.cell 6 rfl
  have R1f6 := HR1.out.free 6
  have R1c7 : w1.cell? ⟨pr, 7, none⟩ = some (.int .i64 0) := HR1.out.cell 7 rfl
  have R1f7 := HR1.out.free 7
  go_wp2_with fail
  with_reducible refine (HFi.out _).mono ?_
  rintro e w2 ⟨rfl, rfl⟩
  go_wp2_with fail
  have b8 := fit_set8 ((HR1.out.far (p := ⟨pb, 4, none⟩) hne (.int .i64 BV)).far (p := ⟨pb, 5, none⟩) hne (.int .i64 cls)) (b0 := .int .i64 lev) (b1 := .int .i64 NT) (b2 := .int .i64 LE) (b3 := .int .i64 RI) (b4 := .int .i64 (BV)) (b5 := .int .i64 cls) (b6 := .bool false) (b7 := .int .i64 (0))
  have q0 := b8.cell 0 rfl
  have q1 := b8.cell 1 rfl
  have q2 := b8.cell 2 rfl
  have q3 := b8.cell 3 rfl
  have q4 := b8.cell 4 rfl
  have q5 := b8.cell 5 rfl
  have q6 := b8.cell 6 rfl
  have q7 := b8.cell 7 rfl
  refine bodyPost_ret (v := .tuple #[fitV { level := lev, nat := NT, left := LE, right := RI, bad := BV, cls := cls, unset := false, defect := 0 }, .int .i64 GAP]) ?_ rfl ⟨rfl, fit_below8 ((HB1.out.setCell (p := ⟨pb, 4, none⟩) hpb (.int .i64 BV)).setCell (p := ⟨pb, 5, none⟩) hpb (.int .i64 cls)) hpr _ _ _ _ _ _ _ _⟩
  simp [results, Tryz.f62, go_sem, q0, q1, q2, q3, q4, q5, q6, q7]
set_option maxRecDepth 100000 in
set_option maxHeartbeats 4000000 in
theorem al6 (pb pr : Nat) (lev NT LE RI GAP st sh ex long : Int) (last : Bool) (W w0 : World)
    (HP : Hid (Box W pb (fitB ⟨lev, NT, LE, RI, 0, 0, false, 0⟩) 46)) (HR : Hid (Box W pr zF 46)) (HB : Hid (Below w0.heap.size w0 W)) (hne : pr ≠ pb) (hpb : w0.heap.size ≤ pb) (hpr : w0.heap.size ≤ pr)
    (e1 : wrap64 (st + ex) = st + ex) (e2 : wrap64 (-GAP) = -GAP) (e3 : wrap64 (GAP + sh) = GAP + sh) (G1 : (0 ≤ GAP) = True) (G2 : (GAP < 0) = False) (G3 : (0 < GAP) = True) (G4 : (st == 0) = true) (hl : last = false)
    (s0 s1 s2 s6 s7 s8 s9 s10 s11 s12 s13 s17 s21 s22 s23 s24 s25 s26 s27 s28 s29 s30 s31 s32 s33 s34 s35 s36 s37 s38 s39 s40 s41 s42 s43 s44 s45 s46 s47 s48 s49 s50 s51 s52 s53 s54 s55 s56 s57 s58 s59 s60 s61 s62 s63 s64 s65 s66 s67 s68 s69 s70 s71 s72 s73 s74 s75 s76 s77 s78 s79 s80 s81 s82 s83 s84 s85 s86 s87 s88 s89 s90 s91 s92 s93 s94 s95 s96 s97 s98 s99 s100 s101 s102 s103 s104 s105 s106 s107 s108 s109 s110 s111 s112 s113 s114 s115 s116 s117 s118 s119 s120 s121 s122 s123 s124 s125 s126 s127 s128 s129 s130 s131 s132 s133 s134 s135 s136 s137 s138 s139 : Value) :
    (tl (tl (tl (tl (tl (tl (tl (tl (Tryz.f62.body.getD .ret))))))))).wp Tryz.prog (bodyPost Tryz.prog Tryz.f62 fun e w' => e = .returned (.tuple #[fitV { level := lev, nat := NT, left := LE, right := RI, bad := 10000, cls := fitP (10000) false, unset := true, defect := GAP }, .int .i64 GAP]) ∧ Below w0.heap.size w0 w') { tmps := #[s0, s1, s2, .int .i64 long, .bool last, .int .i64 ex, s6, s7, s8, s9, s10, s11, s12, s13, .pointer (some ⟨pr, 0, none⟩), .int .i64 0, .pointer (some ⟨pb, 0, none⟩), s17, .int .i64 GAP, .int .i64 st, .int .i64 sh, s21, s22, s23, s24, s25, s26, s27, s28, s29, s30, s31, s32, s33, s34, s35, s36, s37, s38, s39, s40, s41, s42, s43, s44, s45, s46, s47, s48, s49, s50, s51, s52, s53, s54, s55, s56, s57, s58, s59, s60, s61, s62, s63, s64, s65, s66, s67, s68, s69, s70, s71, s72, s73, s74, s75, s76, s77, s78, s79, s80, s81, s82, s83, s84, s85, s86, s87, s88, s89, s90, s91, s92, s93, s94, s95, s96, s97, s98, s99, s100, s101, s102, s103, s104, s105, s106, s107, s108, s109, s110, s111, s112, s113, s114, s115, s116, s117, s118, s119, s120, s121, s122, s123, s124, s125, s126, s127, s128, s129, s130, s131, s132, s133, s134, s135, s136, s137, s138, s139], defers := [] } W := by
  subst hl
  have Pc0 : W.cell? ⟨pb, 0, none⟩ = some (.int .i64 lev) := HP.out.cell 0 rfl
  have Pf0 := HP.out.free 0
  have Pc1 : W.cell? ⟨pb, 1, none⟩ = some (.int .i64 NT) := HP.out.cell 1 rfl
  have Pf1 := HP.out.free 1
  have Pc2 : W.cell? ⟨pb, 2, none⟩ = some (.int .i64 LE) := HP.out.cell 2 rfl
  have Pf2 := HP.out.free 2
  have Pc3 : W.cell? ⟨pb, 3, none⟩ = some (.int .i64 RI) := HP.out.cell 3 rfl
  have Pf3 := HP.out.free 3
  have Pc4 : W.cell? ⟨pb, 4, none⟩ = some (.int .i64 0) := HP.out.cell 4 rfl
  have Pf4 := HP.out.free 4
  have Pc5 : W.cell? ⟨pb, 5, none⟩ = some (.int .i64 0) := HP.out.cell 5 rfl
  have Pf5 := HP.out.free 5
  have Pc6 : W.cell? ⟨pb, 6, none⟩ = some (.bool false) := HP.out.cell 6 rfl
  have Pf6 := HP.out.free 6
  have Pc7 : W.cell? ⟨pb, 7, none⟩ = some (.int .i64 0) := HP.out.cell 7 rfl
  have Pf7 := HP.out.free 7
  have Rc0 : W.cell? ⟨pr, 0, none⟩ = some (.int .i64 0) := HR.out.cell 0 rfl
  have Rf0 := HR.out.free 0
  have Rc1 : W.cell? ⟨pr, 1, none⟩ = some (.int .i64 0) := HR.out.cell 1 rfl
  have Rf1 := HR.out.free 1
  have Rc2 : W.cell? ⟨pr, 2, none⟩ = some (.int .i64 0) := HR.out.cell 2 rfl
  have Rf2 := HR.out.free 2
  have Rc3 : W.cell? ⟨pr, 3, none⟩ = some (.int .i64 0) := HR.out.cell 3 rfl
  have Rf3 := HR.out.free 3
  have Rc4 : W.cell? ⟨pr, 4, none⟩ = some (.int .i64 0) := HR.out.cell 4 rfl
  have Rf4 := HR.out.free 4
  have Rc5 : W.cell? ⟨pr, 5, none⟩ = some (.int .i64 0) := HR.out.cell 5 rfl
  have Rf5 := HR.out.free 5
  have Rc6 : W.cell? ⟨pr, 6, none⟩ = some (.bool false) := HR.out.cell 6 rfl
  have Rf6 := HR.out.free 6
  have Rc7 : W.cell? ⟨pr, 7, none⟩ = some (.int .i64 0) := HR.out.cell 7 rfl
  have Rf7 := HR.out.free 7
  have HFi := Lib.hid (reffit_any (10000) false)
  have HBd := Lib.hid (Bad.refbad_any (GAP) (st + ex))
  obtain ⟨cls, hcls⟩ : ∃ c, Hid (fitP (10000) false = c) := ⟨_, Lib.hid rfl⟩
  rw [hcls.out] at HFi ⊢
  obtain ⟨BV, hBV⟩ : ∃ c : Int, Hid (((Bad.badP (Bad.cl (GAP)) (Bad.cl (st + ex)) : Nat) : Int) = c) := ⟨_, Lib.hid rfl⟩
  rw [hBV.out] at HBd
  dsimp only [tl, Tryz.f62, Option.getD_some]
  go_wp2_with fail
  with_reducible refine (HBd.out _).mono ?_
  rintro e w1 ⟨rfl, hb1⟩
  have HP1 : Hid (Box w1 pb (fitB ⟨lev, NT, LE, RI, 0, 0, true, GAP⟩) 46) := Lib.hid (((HP.out.set 6 (.bool true)).set 7 (.int .i64 (GAP))).below hb1)
  have HR1 : Hid (Box w1 pr zF 46) := Lib.hid (((HR.out.far (p := ⟨pb, 6, none⟩) hne (.bool true)).far (p := ⟨pb, 7, none⟩) hne (.int .i64 (GAP))).below hb1)
  have HB1 : Hid (Below w0.heap.size w0 w1) := Lib.hid (below_join ((HB.out.setCell (p := ⟨pb, 6, none⟩) hpb (.bool true)).setCell (p := ⟨pb, 7, none⟩) hpb (.int .i64 (GAP))) hb1)
  clear hb1 Pc0 Pf0 Pc1 Pf1 Pc2 Pf2 Pc3 Pf3 Pc4 Pf4 Pc5 Pf5 Pc6 Pf6 Pc7 Pf7 Rc0 Rf0 Rc1 Rf1 Rc2 Rf2 Rc3 Rf3 Rc4 Rf4 Rc5 Rf5 Rc6 Rf6 Rc7 Rf7
  have P1c0 : w1.cell? ⟨pb, 0, none⟩ = some (.int .i64 lev) := HP1.out.cell 0 rfl
  have P1f0 := HP1.out.free 0
  have P1c1 : w1.cell? ⟨pb, 1, none⟩ = some (.int .i64 NT) := HP1.out.cell 1 rfl
  have P1f1 := HP1.out.free 1
  have P1c2 : w1.cell? ⟨pb, 2, none⟩ = some (.int .i64 LE) := HP1.out.cell 2 rfl
  have P1f2 := HP1.out.free 2
  have P1c3 : w1.cell? ⟨pb, 3, none⟩ = some (.int .i64 RI) := HP1.out.cell 3 rfl
  have P1f3 := HP1.out.free 3
  have P1c4 : w1.cell? ⟨pb, 4, none⟩ = some (.int .i64 0) := HP1.out.cell 4 rfl
  have P1f4 := HP1.out.free 4
  have P1c5 : w1.cell? ⟨pb, 5, none⟩ = some (.int .i64 0) := HP1.out.cell 5 rfl
  have P1f5 := HP1.out.free 5
  have P1c6 : w1.cell? ⟨pb, 6, none⟩ = some (.bool true) := HP1.out.cell 6 rfl
  have P1f6 := HP1.out.free 6
  have P1c7 : w1.cell? ⟨pb, 7, none⟩ = some (.int .i64 GAP) := HP1.out.cell 7 rfl
  have P1f7 := HP1.out.free 7
  have R1c0 : w1.cell? ⟨pr, 0, none⟩ = some (.int .i64 0) := HR1.out.cell 0 rfl
  have R1f0 := HR1.out.free 0
  have R1c1 : w1.cell? ⟨pr, 1, none⟩ = some (.int .i64 0) := HR1.out.cell 1 rfl
  have R1f1 := HR1.out.free 1
  have R1c2 : w1.cell? ⟨pr, 2, none⟩ = some (.int .i64 0) := HR1.out.cell 2 rfl
  have R1f2 := HR1.out.free 2
  have R1c3 : w1.cell? ⟨pr, 3, none⟩ = some (.int .i64 0) := HR1.out.cell 3 rfl
  have R1f3 := HR1.out.free 3
  have R1c4 : w1.cell? ⟨pr, 4, none⟩ = some (.int .i64 0) := HR1.out.cell 4 rfl
  have R1f4 := HR1.out.free 4
  have R1c5 : w1.cell? ⟨pr, 5, none⟩ = some (.int .i64 0) := HR1.out.cell 5 rfl
  have R1f5 := HR1.out.free 5
  have R1c6 : w1.cell? ⟨pr, 6, none⟩ = some (.bool false) := HR1.out.cell 6 rfl
  have R1f6 := HR1.out.free 6
  have R1c7 : w1.cell? ⟨pr, 7, none⟩ = some (.int .i64 0) := HR1.out.cell 7 rfl
  have R1f7 := HR1.out.free 7
  go_wp2_with fail
  with_reducible refine (HFi.out _).mono ?_
  rintro e w2 ⟨rfl, rfl⟩
  go_wp2_with fail
  have b8 := fit_set8 (((HR1.out.far (p := ⟨pb, 4, none⟩) hne (.int .i64 BV)).far (p := ⟨pb, 4, none⟩) hne (.int .i64 10000)).far (p := ⟨pb, 5, none⟩) hne (.int .i64 cls)) (b0 := .int .i64 lev) (b1 := .int .i64 NT) (b2 := .int .i64 LE) (b3 := .int .i64 RI) (b4 := .int .i64 10000) (b5 := .int .i64 cls) (b6 := .bool true) (b7 := .int .i64 (GAP))
  have q0 := b8.cell 0 rfl
  have q1 := b8.cell 1 rfl
  have q2 := b8.cell 2 rfl
  have q3 := b8.cell 3 rfl
  have q4 := b8.cell 4 rfl
  have q5 := b8.cell 5 rfl
  have q6 := b8.cell 6 rfl
  have q7 := b8.cell 7 rfl
  refine bodyPost_ret (v := .tuple #[fitV { level := lev, nat := NT, left := LE, right := RI, bad := 10000, cls := cls, unset := true, defect := GAP }, .int .i64 GAP]) ?_ rfl ⟨rfl, fit_below8 (((HB1.out.setCell (p := ⟨pb, 4, none⟩) hpb (.int .i64 BV)).setCell (p := ⟨pb, 4, none⟩) hpb (.int .i64 10000)).setCell (p := ⟨pb, 5, none⟩) hpb (.int .i64 cls)) hpr _ _ _ _ _ _ _ _⟩
  simp [results, Tryz.f62, go_sem, q0, q1, q2, q3, q4, q5, q6, q7]
set_option maxRecDepth 100000 in
set_option maxHeartbeats 4000000 in
theorem al7 (pb pr : Nat) (lev NT LE RI GAP st sh ex long : Int) (last : Bool) (W w0 : World)
    (HP : Hid (Box W pb (fitB ⟨lev, NT, LE, RI, 0, 0, false, 0⟩) 46)) (HR : Hid (Box W pr zF 46)) (HB : Hid (Below w0.heap.size w0 W)) (hne : pr ≠ pb) (hpb : w0.heap.size ≤ pb) (hpr : w0.heap.size ≤ pr)
    (e1 : wrap64 (st + ex) = st + ex) (e2 : wrap64 (-GAP) = -GAP) (e3 : wrap64 (GAP + sh) = GAP + sh) (G1 : (0 ≤ GAP) = True) (G2 : (GAP < 0) = False) (G3 : (0 < GAP) = True) (G4 : (st == 0) = false) (G5 : (1073741823 < GAP) = True) (hl : last = false)
    (s0 s1 s2 s6 s7 s8 s9 s10 s11 s12 s13 s17 s21 s22 s23 s24 s25 s26 s27 s28 s29 s30 s31 s32 s33 s34 s35 s36 s37 s38 s39 s40 s41 s42 s43 s44 s45 s46 s47 s48 s49 s50 s51 s52 s53 s54 s55 s56 s57 s58 s59 s60 s61 s62 s63 s64 s65 s66 s67 s68 s69 s70 s71 s72 s73 s74 s75 s76 s77 s78 s79 s80 s81 s82 s83 s84 s85 s86 s87 s88 s89 s90 s91 s92 s93 s94 s95 s96 s97 s98 s99 s100 s101 s102 s103 s104 s105 s106 s107 s108 s109 s110 s111 s112 s113 s114 s115 s116 s117 s118 s119 s120 s121 s122 s123 s124 s125 s126 s127 s128 s129 s130 s131 s132 s133 s134 s135 s136 s137 s138 s139 : Value) :
    (tl (tl (tl (tl (tl (tl (tl (tl (Tryz.f62.body.getD .ret))))))))).wp Tryz.prog (bodyPost Tryz.prog Tryz.f62 fun e w' => e = .returned (.tuple #[fitV { level := lev, nat := NT, left := LE, right := RI, bad := 10000, cls := fitP (10000) false, unset := true, defect := GAP }, .int .i64 GAP]) ∧ Below w0.heap.size w0 w') { tmps := #[s0, s1, s2, .int .i64 long, .bool last, .int .i64 ex, s6, s7, s8, s9, s10, s11, s12, s13, .pointer (some ⟨pr, 0, none⟩), .int .i64 0, .pointer (some ⟨pb, 0, none⟩), s17, .int .i64 GAP, .int .i64 st, .int .i64 sh, s21, s22, s23, s24, s25, s26, s27, s28, s29, s30, s31, s32, s33, s34, s35, s36, s37, s38, s39, s40, s41, s42, s43, s44, s45, s46, s47, s48, s49, s50, s51, s52, s53, s54, s55, s56, s57, s58, s59, s60, s61, s62, s63, s64, s65, s66, s67, s68, s69, s70, s71, s72, s73, s74, s75, s76, s77, s78, s79, s80, s81, s82, s83, s84, s85, s86, s87, s88, s89, s90, s91, s92, s93, s94, s95, s96, s97, s98, s99, s100, s101, s102, s103, s104, s105, s106, s107, s108, s109, s110, s111, s112, s113, s114, s115, s116, s117, s118, s119, s120, s121, s122, s123, s124, s125, s126, s127, s128, s129, s130, s131, s132, s133, s134, s135, s136, s137, s138, s139], defers := [] } W := by
  subst hl
  have Pc0 : W.cell? ⟨pb, 0, none⟩ = some (.int .i64 lev) := HP.out.cell 0 rfl
  have Pf0 := HP.out.free 0
  have Pc1 : W.cell? ⟨pb, 1, none⟩ = some (.int .i64 NT) := HP.out.cell 1 rfl
  have Pf1 := HP.out.free 1
  have Pc2 : W.cell? ⟨pb, 2, none⟩ = some (.int .i64 LE) := HP.out.cell 2 rfl
  have Pf2 := HP.out.free 2
  have Pc3 : W.cell? ⟨pb, 3, none⟩ = some (.int .i64 RI) := HP.out.cell 3 rfl
  have Pf3 := HP.out.free 3
  have Pc4 : W.cell? ⟨pb, 4, none⟩ = some (.int .i64 0) := HP.out.cell 4 rfl
  have Pf4 := HP.out.free 4
  have Pc5 : W.cell? ⟨pb, 5, none⟩ = some (.int .i64 0) := HP.out.cell 5 rfl
  have Pf5 := HP.out.free 5
  have Pc6 : W.cell? ⟨pb, 6, none⟩ = some (.bool false) := HP.out.cell 6 rfl
  have Pf6 := HP.out.free 6
  have Pc7 : W.cell? ⟨pb, 7, none⟩ = some (.int .i64 0) := HP.out.cell 7 rfl
  have Pf7 := HP.out.free 7
  have Rc0 : W.cell? ⟨pr, 0, none⟩ = some (.int .i64 0) := HR.out.cell 0 rfl
  have Rf0 := HR.out.free 0
  have Rc1 : W.cell? ⟨pr, 1, none⟩ = some (.int .i64 0) := HR.out.cell 1 rfl
  have Rf1 := HR.out.free 1
  have Rc2 : W.cell? ⟨pr, 2, none⟩ = some (.int .i64 0) := HR.out.cell 2 rfl
  have Rf2 := HR.out.free 2
  have Rc3 : W.cell? ⟨pr, 3, none⟩ = some (.int .i64 0) := HR.out.cell 3 rfl
  have Rf3 := HR.out.free 3
  have Rc4 : W.cell? ⟨pr, 4, none⟩ = some (.int .i64 0) := HR.out.cell 4 rfl
  have Rf4 := HR.out.free 4
  have Rc5 : W.cell? ⟨pr, 5, none⟩ = some (.int .i64 0) := HR.out.cell 5 rfl
  have Rf5 := HR.out.free 5
  have Rc6 : W.cell? ⟨pr, 6, none⟩ = some (.bool false) := HR.out.cell 6 rfl
  have Rf6 := HR.out.free 6
  have Rc7 : W.cell? ⟨pr, 7, none⟩ = some (.int .i64 0) := HR.out.cell 7 rfl
  have Rf7 := HR.out.free 7
  have HFi := Lib.hid (reffit_any (10000) false)
  have HBd := Lib.hid (Bad.refbad_any (GAP) (st + ex))
  obtain ⟨cls, hcls⟩ : ∃ c, Hid (fitP (10000) false = c) := ⟨_, Lib.hid rfl⟩
  rw [hcls.out] at HFi ⊢
  obtain ⟨BV, hBV⟩ : ∃ c : Int, Hid (((Bad.badP (Bad.cl (GAP)) (Bad.cl (st + ex)) : Nat) : Int) = c) := ⟨_, Lib.hid rfl⟩
  rw [hBV.out] at HBd
  dsimp only [tl, Tryz.f62, Option.getD_some]
  go_wp2_with fail
  with_reducible refine (HBd.out _).mono ?_
  rintro e w1 ⟨rfl, hb1⟩
  have HP1 : Hid (Box w1 pb (fitB ⟨lev, NT, LE, RI, 0, 0, true, GAP⟩) 46) := Lib.hid (((HP.out.set 6 (.bool true)).set 7 (.int .i64 (GAP))).below hb1)
  have HR1 : Hid (Box w1 pr zF 46) := Lib.hid (((HR.out.far (p := ⟨pb, 6, none⟩) hne (.bool true)).far (p := ⟨pb, 7, none⟩) hne (.int .i64 (GAP))).below hb1)
  have HB1 : Hid (Below w0.heap.size w0 w1) := Lib.hid (below_join ((HB.out.setCell (p := ⟨pb, 6, none⟩) hpb (.bool true)).setCell (p := ⟨pb, 7, none⟩) hpb (.int .i64 (GAP))) hb1)
  clear hb1 Pc0 Pf0 Pc1 Pf1 Pc2 Pf2 Pc3 Pf3 Pc4 Pf4 Pc5 Pf5 Pc6 Pf6 Pc7 Pf7 Rc0 Rf0 Rc1 Rf1 Rc2 Rf2 Rc3 Rf3 Rc4 Rf4 Rc5 Rf5 Rc6 Rf6 Rc7 Rf7
  have P1c0 : w1.cell? ⟨pb, 0, none⟩ = some (.int .i64 lev) := HP1.out.cell 0 rfl
  have P1f0 := HP1.out.free 0
  have P1c1 : w1.cell? ⟨pb, 1, none⟩ = some (.int .i64 NT) := HP1.out.cell 1 rfl
  have P1f1 := HP1.out.free 1
  have P1c2 : w1.cell? ⟨pb, 2, none⟩ = some (.int .i64 LE) := HP1.out.cell 2 rfl
  have P1f2 := HP1.out.free 2
  have P1c3 : w1.cell? ⟨pb, 3, none⟩ = some (.int .i64 RI) := HP1.out.cell 3 rfl
  have P1f3 := HP1.out.free 3
  have P1c4 : w1.cell? ⟨pb, 4, none⟩ = some (.int .i64 0) := HP1.out.cell 4 rfl
  have P1f4 := HP1.out.free 4
  have P1c5 : w1.cell? ⟨pb, 5, none⟩ = some (.int .i64 0) := HP1.out.cell 5 rfl
  have P1f5 := HP1.out.free 5
  have P1c6 : w1.cell? ⟨pb, 6, none⟩ = some (.bool true) := HP1.out.cell 6 rfl
  have P1f6 := HP1.out.free 6
  have P1c7 : w1.cell? ⟨pb, 7, none⟩ = some (.int .i64 GAP) := HP1.out.cell 7 rfl
  have P1f7 := HP1.out.free 7
  have R1c0 : w1.cell? ⟨pr, 0, none⟩ = some (.int .i64 0) := HR1.out.cell 0 rfl
  have R1f0 := HR1.out.free 0
  have R1c1 : w1.cell? ⟨pr, 1, none⟩ = some (.int .i64 0) := HR1.out.cell 1 rfl
  have R1f1 := HR1.out.free 1
  have R1c2 : w1.cell? ⟨pr, 2, none⟩ = some (.int .i64 0) := HR1.out.cell 2 rfl
  have R1f2 := HR1.out.free 2
  have R1c3 : w1.cell? ⟨pr, 3, none⟩ = some (.int .i64 0) := HR1.out.cell 3 rfl
  have R1f3 := HR1.out.free 3
  have R1c4 : w1.cell? ⟨pr, 4, none⟩ = some (.int .i64 0) := HR1.out.cell 4 rfl
  have R1f4 := HR1.out.free 4
  have R1c5 : w1.cell? ⟨pr, 5, none⟩ = some (.int .i64 0) := HR1.out.cell 5 rfl
  have R1f5 := HR1.out.free 5
  have R1c6 : w1.cell? ⟨pr, 6, none⟩ = some (.bool false) := HR1.out.cell 6 rfl
  have R1f6 := HR1.out.free 6
  have R1c7 : w1.cell? ⟨pr, 7, none⟩ = some (.int .i64 0) := HR1.out.cell 7 rfl
  have R1f7 := HR1.out.free 7
  go_wp2_with fail
  with_reducible refine (HFi.out _).mono ?_
  rintro e w2 ⟨rfl, rfl⟩
  go_wp2_with fail
  have b8 := fit_set8 (((HR1.out.far (p := ⟨pb, 4, none⟩) hne (.int .i64 BV)).far (p := ⟨pb, 4, none⟩) hne (.int .i64 10000)).far (p := ⟨pb, 5, none⟩) hne (.int .i64 cls)) (b0 := .int .i64 lev) (b1 := .int .i64 NT) (b2 := .int .i64 LE) (b3 := .int .i64 RI) (b4 := .int .i64 10000) (b5 := .int .i64 cls) (b6 := .bool true) (b7 := .int .i64 (GAP))
  have q0 := b8.cell 0 rfl
  have q1 := b8.cell 1 rfl
  have q2 := b8.cell 2 rfl
  have q3 := b8.cell 3 rfl
  have q4 := b8.cell 4 rfl
  have q5 := b8.cell 5 rfl
  have q6 := b8.cell 6 rfl
  have q7 := b8.cell 7 rfl
  refine bodyPost_ret (v := .tuple #[fitV { level := lev, nat := NT, left := LE, right := RI, bad := 10000, cls := cls, unset := true, defect := GAP }, .int .i64 GAP]) ?_ rfl ⟨rfl, fit_below8 (((HB1.out.setCell (p := ⟨pb, 4, none⟩) hpb (.int .i64 BV)).setCell (p := ⟨pb, 4, none⟩) hpb (.int .i64 10000)).setCell (p := ⟨pb, 5, none⟩) hpb (.int .i64 cls)) hpr _ _ _ _ _ _ _ _⟩
  simp [results, Tryz.f62, go_sem, q0, q1, q2, q3, q4, q5, q6, q7]
set_option maxRecDepth 100000 in
set_option maxHeartbeats 4000000 in
theorem al8 (pb pr : Nat) (lev NT LE RI GAP st sh ex long : Int) (last : Bool) (W w0 : World)
    (HP : Hid (Box W pb (fitB ⟨lev, NT, LE, RI, 0, 0, false, 0⟩) 46)) (HR : Hid (Box W pr zF 46)) (HB : Hid (Below w0.heap.size w0 W)) (hne : pr ≠ pb) (hpb : w0.heap.size ≤ pb) (hpr : w0.heap.size ≤ pr)
    (e1 : wrap64 (st + ex) = st + ex) (e2 : wrap64 (-GAP) = -GAP) (e3 : wrap64 (GAP + sh) = GAP + sh) (G1 : (0 ≤ GAP) = True) (G2 : (GAP < 0) = False) (G3 : (0 < GAP) = True) (G4 : (st == 0) = false) (G5 : (1073741823 < GAP) = False) (hl : last = false)
    (s0 s1 s2 s6 s7 s8 s9 s10 s11 s12 s13 s17 s21 s22 s23 s24 s25 s26 s27 s28 s29 s30 s31 s32 s33 s34 s35 s36 s37 s38 s39 s40 s41 s42 s43 s44 s45 s46 s47 s48 s49 s50 s51 s52 s53 s54 s55 s56 s57 s58 s59 s60 s61 s62 s63 s64 s65 s66 s67 s68 s69 s70 s71 s72 s73 s74 s75 s76 s77 s78 s79 s80 s81 s82 s83 s84 s85 s86 s87 s88 s89 s90 s91 s92 s93 s94 s95 s96 s97 s98 s99 s100 s101 s102 s103 s104 s105 s106 s107 s108 s109 s110 s111 s112 s113 s114 s115 s116 s117 s118 s119 s120 s121 s122 s123 s124 s125 s126 s127 s128 s129 s130 s131 s132 s133 s134 s135 s136 s137 s138 s139 : Value) :
    (tl (tl (tl (tl (tl (tl (tl (tl (Tryz.f62.body.getD .ret))))))))).wp Tryz.prog (bodyPost Tryz.prog Tryz.f62 fun e w' => e = .returned (.tuple #[fitV { level := lev, nat := NT, left := LE, right := RI, bad := ((Bad.badP (Bad.cl GAP) (Bad.cl (st + ex)) : Nat) : Int), cls := fitP (((Bad.badP (Bad.cl GAP) (Bad.cl (st + ex)) : Nat) : Int)) false, unset := false, defect := 0 }, .int .i64 GAP]) ∧ Below w0.heap.size w0 w') { tmps := #[s0, s1, s2, .int .i64 long, .bool last, .int .i64 ex, s6, s7, s8, s9, s10, s11, s12, s13, .pointer (some ⟨pr, 0, none⟩), .int .i64 0, .pointer (some ⟨pb, 0, none⟩), s17, .int .i64 GAP, .int .i64 st, .int .i64 sh, s21, s22, s23, s24, s25, s26, s27, s28, s29, s30, s31, s32, s33, s34, s35, s36, s37, s38, s39, s40, s41, s42, s43, s44, s45, s46, s47, s48, s49, s50, s51, s52, s53, s54, s55, s56, s57, s58, s59, s60, s61, s62, s63, s64, s65, s66, s67, s68, s69, s70, s71, s72, s73, s74, s75, s76, s77, s78, s79, s80, s81, s82, s83, s84, s85, s86, s87, s88, s89, s90, s91, s92, s93, s94, s95, s96, s97, s98, s99, s100, s101, s102, s103, s104, s105, s106, s107, s108, s109, s110, s111, s112, s113, s114, s115, s116, s117, s118, s119, s120, s121, s122, s123, s124, s125, s126, s127, s128, s129, s130, s131, s132, s133, s134, s135, s136, s137, s138, s139], defers := [] } W := by
  subst hl
  have Pc0 : W.cell? ⟨pb, 0, none⟩ = some (.int .i64 lev) := HP.out.cell 0 rfl
  have Pf0 := HP.out.free 0
  have Pc1 : W.cell? ⟨pb, 1, none⟩ = some (.int .i64 NT) := HP.out.cell 1 rfl
  have Pf1 := HP.out.free 1
  have Pc2 : W.cell? ⟨pb, 2, none⟩ = some (.int .i64 LE) := HP.out.cell 2 rfl
  have Pf2 := HP.out.free 2
  have Pc3 : W.cell? ⟨pb, 3, none⟩ = some (.int .i64 RI) := HP.out.cell 3 rfl
  have Pf3 := HP.out.free 3
  have Pc4 : W.cell? ⟨pb, 4, none⟩ = some (.int .i64 0) := HP.out.cell 4 rfl
  have Pf4 := HP.out.free 4
  have Pc5 : W.cell? ⟨pb, 5, none⟩ = some (.int .i64 0) := HP.out.cell 5 rfl
  have Pf5 := HP.out.free 5
  have Pc6 : W.cell? ⟨pb, 6, none⟩ = some (.bool false) := HP.out.cell 6 rfl
  have Pf6 := HP.out.free 6
  have Pc7 : W.cell? ⟨pb, 7, none⟩ = some (.int .i64 0) := HP.out.cell 7 rfl
  have Pf7 := HP.out.free 7
  have Rc0 : W.cell? ⟨pr, 0, none⟩ = some (.int .i64 0) := HR.out.cell 0 rfl
  have Rf0 := HR.out.free 0
  have Rc1 : W.cell? ⟨pr, 1, none⟩ = some (.int .i64 0) := HR.out.cell 1 rfl
  have Rf1 := HR.out.free 1
  have Rc2 : W.cell? ⟨pr, 2, none⟩ = some (.int .i64 0) := HR.out.cell 2 rfl
  have Rf2 := HR.out.free 2
  have Rc3 : W.cell? ⟨pr, 3, none⟩ = some (.int .i64 0) := HR.out.cell 3 rfl
  have Rf3 := HR.out.free 3
  have Rc4 : W.cell? ⟨pr, 4, none⟩ = some (.int .i64 0) := HR.out.cell 4 rfl
  have Rf4 := HR.out.free 4
  have Rc5 : W.cell? ⟨pr, 5, none⟩ = some (.int .i64 0) := HR.out.cell 5 rfl
  have Rf5 := HR.out.free 5
  have Rc6 : W.cell? ⟨pr, 6, none⟩ = some (.bool false) := HR.out.cell 6 rfl
  have Rf6 := HR.out.free 6
  have Rc7 : W.cell? ⟨pr, 7, none⟩ = some (.int .i64 0) := HR.out.cell 7 rfl
  have Rf7 := HR.out.free 7
  have HFi := Lib.hid (reffit_any (((Bad.badP (Bad.cl GAP) (Bad.cl (st + ex)) : Nat) : Int)) false)
  have HBd := Lib.hid (Bad.refbad_any (GAP) (st + ex))
  obtain ⟨cls, hcls⟩ : ∃ c, Hid (fitP (((Bad.badP (Bad.cl GAP) (Bad.cl (st + ex)) : Nat) : Int)) false = c) := ⟨_, Lib.hid rfl⟩
  rw [hcls.out] at HFi ⊢
  obtain ⟨BV, hBV⟩ : ∃ c : Int, Hid (((Bad.badP (Bad.cl (GAP)) (Bad.cl (st + ex)) : Nat) : Int) = c) := ⟨_, Lib.hid rfl⟩
  rw [hBV.out] at HBd
  rw [hBV.out] at HFi hcls ⊢
  dsimp only [tl, Tryz.f62, Option.getD_some]
  go_wp2_with fail
  with_reducible refine (HBd.out _).mono ?_
  rintro e w1 ⟨rfl, hb1⟩
  have HP1 : Hid (Box w1 pb (fitB ⟨lev, NT, LE, RI, 0, 0, false, 0⟩) 46) := Lib.hid ((HP.out.set 6 (.bool false)).below hb1)
  have HR1 : Hid (Box w1 pr zF 46) := Lib.hid ((HR.out.far (p := ⟨pb, 6, none⟩) hne (.bool false)).below hb1)
  have HB1 : Hid (Below w0.heap.size w0 w1) := Lib.hid (below_join (HB.out.setCell (p := ⟨pb, 6, none⟩) hpb (.bool false)) hb1)
  clear hb1 Pc0 Pf0 Pc1 Pf1 Pc2 Pf2 Pc3 Pf3 Pc4 Pf4 Pc5 Pf5 Pc6 Pf6 Pc7 Pf7 Rc0 Rf0 Rc1 Rf1 Rc2 Rf2 Rc3 Rf3 Rc4 Rf4 Rc5 Rf5 Rc6 Rf6 Rc7 Rf7
  have P1c0 : w1.cell? ⟨pb, 0, none⟩ = some (.int .i64 lev) := HP1.out.cell 0 rfl
  have P1f0 := HP1.out.free 0
  have P1c1 : w1.cell? ⟨pb, 1, none⟩ = some (.int .i64 NT) := HP1.out.cell 1 rfl
  have P1f1 := HP1.out.free 1
  have P1c2 : w1.cell? ⟨pb, 2, none⟩ = some (.int .i64 LE) := HP1.out.cell 2 rfl
  have P1f2 := HP1.out.free 2
  have P1c3 : w1.cell? ⟨pb, 3, none⟩ = some (.int .i64 RI) := HP1.out.cell 3 rfl
  have P1f3 := HP1.out.free 3
  have P1c4 : w1.cell? ⟨pb, 4, none⟩ = some (.int .i64 0) := HP1.out.cell 4 rfl
  have P1f4 := HP1.out.free 4
  have P1c5 : w1.cell? ⟨pb, 5, none⟩ = some (.int .i64 0) := HP1.out.cell 5 rfl
  have P1f5 := HP1.out.free 5
  have P1c6 : w1.cell? ⟨pb, 6, none⟩ = some (.bool false) := HP1.out.cell 6 rfl
  have P1f6 := HP1.out.free 6
  have P1c7 : w1.cell? ⟨pb, 7, none⟩ = some (.int .i64 0) := HP1.out.cell 7 rfl
  have P1f7 := HP1.out.free 7
  have R1c0 : w1.cell? ⟨pr, 0, none⟩ = some (.int .i64 0) := HR1.out.cell 0 rfl
  have R1f0 := HR1.out.free 0
  have R1c1 : w1.cell? ⟨pr, 1, none⟩ = some (.int .i64 0) := HR1.out.cell 1 rfl
  have R1f1 := HR1.out.free 1
  have R1c2 : w1.cell? ⟨pr, 2, none⟩ = some (.int .i64 0) := HR1.out.cell 2 rfl
  have R1f2 := HR1.out.free 2
  have R1c3 : w1.cell? ⟨pr, 3, none⟩ = some (.int .i64 0) := HR1.out.cell 3 rfl
  have R1f3 := HR1.out.free 3
  have R1c4 : w1.cell? ⟨pr, 4, none⟩ = some (.int .i64 0) := HR1.out.cell 4 rfl
  have R1f4 := HR1.out.free 4
  have R1c5 : w1.cell? ⟨pr, 5, none⟩ = some (.int .i64 0) := HR1.out.cell 5 rfl
  have R1f5 := HR1.out.free 5
  have R1c6 : w1.cell? ⟨pr, 6, none⟩ = some (.bool false) := HR1.out.cell 6 rfl
  have R1f6 := HR1.out.free 6
  have R1c7 : w1.cell? ⟨pr, 7, none⟩ = some (.int .i64 0) := HR1.out.cell 7 rfl
  have R1f7 := HR1.out.free 7
  go_wp2_with fail
  with_reducible refine (HFi.out _).mono ?_
  rintro e w2 ⟨rfl, rfl⟩
  go_wp2_with fail
  have b8 := fit_set8 ((HR1.out.far (p := ⟨pb, 4, none⟩) hne (.int .i64 BV)).far (p := ⟨pb, 5, none⟩) hne (.int .i64 cls)) (b0 := .int .i64 lev) (b1 := .int .i64 NT) (b2 := .int .i64 LE) (b3 := .int .i64 RI) (b4 := .int .i64 (BV)) (b5 := .int .i64 cls) (b6 := .bool false) (b7 := .int .i64 (0))
  have q0 := b8.cell 0 rfl
  have q1 := b8.cell 1 rfl
  have q2 := b8.cell 2 rfl
  have q3 := b8.cell 3 rfl
  have q4 := b8.cell 4 rfl
  have q5 := b8.cell 5 rfl
  have q6 := b8.cell 6 rfl
  have q7 := b8.cell 7 rfl
  refine bodyPost_ret (v := .tuple #[fitV { level := lev, nat := NT, left := LE, right := RI, bad := BV, cls := cls, unset := false, defect := 0 }, .int .i64 GAP]) ?_ rfl ⟨rfl, fit_below8 ((HB1.out.setCell (p := ⟨pb, 4, none⟩) hpb (.int .i64 BV)).setCell (p := ⟨pb, 5, none⟩) hpb (.int .i64 cls)) hpr _ _ _ _ _ _ _ _⟩
  simp [results, Tryz.f62, go_sem, q0, q1, q2, q3, q4, q5, q6, q7]
set_option maxRecDepth 100000 in
set_option maxHeartbeats 4000000 in
theorem al9 (pb pr : Nat) (lev NT LE RI GAP st sh ex long : Int) (last : Bool) (W w0 : World)
    (HP : Hid (Box W pb (fitB ⟨lev, NT, LE, RI, 0, 0, false, 0⟩) 46)) (HR : Hid (Box W pr zF 46)) (HB : Hid (Below w0.heap.size w0 W)) (hne : pr ≠ pb) (hpb : w0.heap.size ≤ pb) (hpr : w0.heap.size ≤ pr)
    (e1 : wrap64 (st + ex) = st + ex) (e2 : wrap64 (-GAP) = -GAP) (e3 : wrap64 (GAP + sh) = GAP + sh) (G1 : (0 ≤ GAP) = False) (G2 : (GAP < 0) = True) (G6 : (sh < -GAP) = True) 
    (s0 s1 s2 s6 s7 s8 s9 s10 s11 s12 s13 s17 s21 s22 s23 s24 s25 s26 s27 s28 s29 s30 s31 s32 s33 s34 s35 s36 s37 s38 s39 s40 s41 s42 s43 s44 s45 s46 s47 s48 s49 s50 s51 s52 s53 s54 s55 s56 s57 s58 s59 s60 s61 s62 s63 s64 s65 s66 s67 s68 s69 s70 s71 s72 s73 s74 s75 s76 s77 s78 s79 s80 s81 s82 s83 s84 s85 s86 s87 s88 s89 s90 s91 s92 s93 s94 s95 s96 s97 s98 s99 s100 s101 s102 s103 s104 s105 s106 s107 s108 s109 s110 s111 s112 s113 s114 s115 s116 s117 s118 s119 s120 s121 s122 s123 s124 s125 s126 s127 s128 s129 s130 s131 s132 s133 s134 s135 s136 s137 s138 s139 : Value) :
    (tl (tl (tl (tl (tl (tl (tl (tl (Tryz.f62.body.getD .ret))))))))).wp Tryz.prog (bodyPost Tryz.prog Tryz.f62 fun e w' => e = .returned (.tuple #[fitV { level := lev, nat := NT, left := LE, right := RI, bad := 10000, cls := fitP (10000) true, unset := true, defect := (GAP + sh) }, .int .i64 GAP]) ∧ Below w0.heap.size w0 w') { tmps := #[s0, s1, s2, .int .i64 long, .bool last, .int .i64 ex, s6, s7, s8, s9, s10, s11, s12, s13, .pointer (some ⟨pr, 0, none⟩), .int .i64 0, .pointer (some ⟨pb, 0, none⟩), s17, .int .i64 GAP, .int .i64 st, .int .i64 sh, s21, s22, s23, s24, s25, s26, s27, s28, s29, s30, s31, s32, s33, s34, s35, s36, s37, s38, s39, s40, s41, s42, s43, s44, s45, s46, s47, s48, s49, s50, s51, s52, s53, s54, s55, s56, s57, s58, s59, s60, s61, s62, s63, s64, s65, s66, s67, s68, s69, s70, s71, s72, s73, s74, s75, s76, s77, s78, s79, s80, s81, s82, s83, s84, s85, s86, s87, s88, s89, s90, s91, s92, s93, s94, s95, s96, s97, s98, s99, s100, s101, s102, s103, s104, s105, s106, s107, s108, s109, s110, s111, s112, s113, s114, s115, s116, s117, s118, s119, s120, s121, s122, s123, s124, s125, s126, s127, s128, s129, s130, s131, s132, s133, s134, s135, s136, s137, s138, s139], defers := [] } W := by
  have Pc0 : W.cell? ⟨pb, 0, none⟩ = some (.int .i64 lev) := HP.out.cell 0 rfl
  have Pf0 := HP.out.free 0
  have Pc1 : W.cell? ⟨pb, 1, none⟩ = some (.int .i64 NT) := HP.out.cell 1 rfl
  have Pf1 := HP.out.free 1
  have Pc2 : W.cell? ⟨pb, 2, none⟩ = some (.int .i64 LE) := HP.out.cell 2 rfl
  have Pf2 := HP.out.free 2
  have Pc3 : W.cell? ⟨pb, 3, none⟩ = some (.int .i64 RI) := HP.out.cell 3 rfl
  have Pf3 := HP.out.free 3
  have Pc4 : W.cell? ⟨pb, 4, none⟩ = some (.int .i64 0) := HP.out.cell 4 rfl
  have Pf4 := HP.out.free 4
  have Pc5 : W.cell? ⟨pb, 5, none⟩ = some (.int .i64 0) := HP.out.cell 5 rfl
  have Pf5 := HP.out.free 5
  have Pc6 : W.cell? ⟨pb, 6, none⟩ = some (.bool false) := HP.out.cell 6 rfl
  have Pf6 := HP.out.free 6
  have Pc7 : W.cell? ⟨pb, 7, none⟩ = some (.int .i64 0) := HP.out.cell 7 rfl
  have Pf7 := HP.out.free 7
  have Rc0 : W.cell? ⟨pr, 0, none⟩ = some (.int .i64 0) := HR.out.cell 0 rfl
  have Rf0 := HR.out.free 0
  have Rc1 : W.cell? ⟨pr, 1, none⟩ = some (.int .i64 0) := HR.out.cell 1 rfl
  have Rf1 := HR.out.free 1
  have Rc2 : W.cell? ⟨pr, 2, none⟩ = some (.int .i64 0) := HR.out.cell 2 rfl
  have Rf2 := HR.out.free 2
  have Rc3 : W.cell? ⟨pr, 3, none⟩ = some (.int .i64 0) := HR.out.cell 3 rfl
  have Rf3 := HR.out.free 3
  have Rc4 : W.cell? ⟨pr, 4, none⟩ = some (.int .i64 0) := HR.out.cell 4 rfl
  have Rf4 := HR.out.free 4
  have Rc5 : W.cell? ⟨pr, 5, none⟩ = some (.int .i64 0) := HR.out.cell 5 rfl
  have Rf5 := HR.out.free 5
  have Rc6 : W.cell? ⟨pr, 6, none⟩ = some (.bool false) := HR.out.cell 6 rfl
  have Rf6 := HR.out.free 6
  have Rc7 : W.cell? ⟨pr, 7, none⟩ = some (.int .i64 0) := HR.out.cell 7 rfl
  have Rf7 := HR.out.free 7
  have HFi := Lib.hid (reffit_any (10000) true)
  have HBd := Lib.hid (Bad.refbad_any (-GAP) (sh))
  obtain ⟨cls, hcls⟩ : ∃ c, Hid (fitP (10000) true = c) := ⟨_, Lib.hid rfl⟩
  rw [hcls.out] at HFi ⊢
  obtain ⟨BV, hBV⟩ : ∃ c : Int, Hid (((Bad.badP (Bad.cl (-GAP)) (Bad.cl (sh)) : Nat) : Int) = c) := ⟨_, Lib.hid rfl⟩
  rw [hBV.out] at HBd
  dsimp only [tl, Tryz.f62, Option.getD_some]
  go_wp2_with fail
  with_reducible refine (HBd.out _).mono ?_
  rintro e w1 ⟨rfl, hb1⟩
  have HP1 : Hid (Box w1 pb (fitB ⟨lev, NT, LE, RI, 0, 0, true, (GAP + sh)⟩) 46) := Lib.hid (((HP.out.set 6 (.bool true)).set 7 (.int .i64 ((GAP + sh)))).below hb1)
  have HR1 : Hid (Box w1 pr zF 46) := Lib.hid (((HR.out.far (p := ⟨pb, 6, none⟩) hne (.bool true)).far (p := ⟨pb, 7, none⟩) hne (.int .i64 ((GAP + sh)))).below hb1)
  have HB1 : Hid (Below w0.heap.size w0 w1) := Lib.hid (below_join ((HB.out.setCell (p := ⟨pb, 6, none⟩) hpb (.bool true)).setCell (p := ⟨pb, 7, none⟩) hpb (.int .i64 ((GAP + sh)))) hb1)
  clear hb1 Pc0 Pf0 Pc1 Pf1 Pc2 Pf2 Pc3 Pf3 Pc4 Pf4 Pc5 Pf5 Pc6 Pf6 Pc7 Pf7 Rc0 Rf0 Rc1 Rf1 Rc2 Rf2 Rc3 Rf3 Rc4 Rf4 Rc5 Rf5 Rc6 Rf6 Rc7 Rf7
  have P1c0 : w1.cell? ⟨pb, 0, none⟩ = some (.int .i64 lev) := HP1.out.cell 0 rfl
  have P1f0 := HP1.out.free 0
  have P1c1 : w1.cell? ⟨pb, 1, none⟩ = some (.int .i64 NT) := HP1.out.cell 1 rfl
  have P1f1 := HP1.out.free 1
  have P1c2 : w1.cell? ⟨pb, 2, none⟩ = some (.int .i64 LE) := HP1.out.cell 2 rfl
  have P1f2 := HP1.out.free 2
  have P1c3 : w1.cell? ⟨pb, 3, none⟩ = some (.int .i64 RI) := HP1.out.cell 3 rfl
  have P1f3 := HP1.out.free 3
  have P1c4 : w1.cell? ⟨pb, 4, none⟩ = some (.int .i64 0) := HP1.out.cell 4 rfl
  have P1f4 := HP1.out.free 4
  have P1c5 : w1.cell? ⟨pb, 5, none⟩ = some (.int .i64 0) := HP1.out.cell 5 rfl
  have P1f5 := HP1.out.free 5
  have P1c6 : w1.cell? ⟨pb, 6, none⟩ = some (.bool true) := HP1.out.cell 6 rfl
  have P1f6 := HP1.out.free 6
  have P1c7 : w1.cell? ⟨pb, 7, none⟩ = some (.int .i64 (GAP + sh)) := HP1.out.cell 7 rfl
  have P1f7 := HP1.out.free 7
  have R1c0 : w1.cell? ⟨pr, 0, none⟩ = some (.int .i64 0) := HR1.out.cell 0 rfl
  have R1f0 := HR1.out.free 0
  have R1c1 : w1.cell? ⟨pr, 1, none⟩ = some (.int .i64 0) := HR1.out.cell 1 rfl
  have R1f1 := HR1.out.free 1
  have R1c2 : w1.cell? ⟨pr, 2, none⟩ = some (.int .i64 0) := HR1.out.cell 2 rfl
  have R1f2 := HR1.out.free 2
  have R1c3 : w1.cell? ⟨pr, 3, none⟩ = some (.int .i64 0) := HR1.out.cell 3 rfl
  have R1f3 := HR1.out.free 3
  have R1c4 : w1.cell? ⟨pr, 4, none⟩ = some (.int .i64 0) := HR1.out.cell 4 rfl
  have R1f4 := HR1.out.free 4
  have R1c5 : w1.cell? ⟨pr, 5, none⟩ = some (.int .i64 0) := HR1.out.cell 5 rfl
  have R1f5 := HR1.out.free 5
  have R1c6 : w1.cell? ⟨pr, 6, none⟩ = some (.bool false) := HR1.out.cell 6 rfl
  have R1f6 := HR1.out.free 6
  have R1c7 : w1.cell? ⟨pr, 7, none⟩ = some (.int .i64 0) := HR1.out.cell 7 rfl
  have R1f7 := HR1.out.free 7
  go_wp2_with fail
  with_reducible refine (HFi.out _).mono ?_
  rintro e w2 ⟨rfl, rfl⟩
  go_wp2_with fail
  have b8 := fit_set8 (((HR1.out.far (p := ⟨pb, 4, none⟩) hne (.int .i64 BV)).far (p := ⟨pb, 4, none⟩) hne (.int .i64 10000)).far (p := ⟨pb, 5, none⟩) hne (.int .i64 cls)) (b0 := .int .i64 lev) (b1 := .int .i64 NT) (b2 := .int .i64 LE) (b3 := .int .i64 RI) (b4 := .int .i64 10000) (b5 := .int .i64 cls) (b6 := .bool true) (b7 := .int .i64 ((GAP + sh)))
  have q0 := b8.cell 0 rfl
  have q1 := b8.cell 1 rfl
  have q2 := b8.cell 2 rfl
  have q3 := b8.cell 3 rfl
  have q4 := b8.cell 4 rfl
  have q5 := b8.cell 5 rfl
  have q6 := b8.cell 6 rfl
  have q7 := b8.cell 7 rfl
  refine bodyPost_ret (v := .tuple #[fitV { level := lev, nat := NT, left := LE, right := RI, bad := 10000, cls := cls, unset := true, defect := (GAP + sh) }, .int .i64 GAP]) ?_ rfl ⟨rfl, fit_below8 (((HB1.out.setCell (p := ⟨pb, 4, none⟩) hpb (.int .i64 BV)).setCell (p := ⟨pb, 4, none⟩) hpb (.int .i64 10000)).setCell (p := ⟨pb, 5, none⟩) hpb (.int .i64 cls)) hpr _ _ _ _ _ _ _ _⟩
  simp [results, Tryz.f62, go_sem, q0, q1, q2, q3, q4, q5, q6, q7]
set_option maxRecDepth 100000 in
set_option maxHeartbeats 4000000 in
theorem al10 (pb pr : Nat) (lev NT LE RI GAP st sh ex long : Int) (last : Bool) (W w0 : World)
    (HP : Hid (Box W pb (fitB ⟨lev, NT, LE, RI, 0, 0, false, 0⟩) 46)) (HR : Hid (Box W pr zF 46)) (HB : Hid (Below w0.heap.size w0 W)) (hne : pr ≠ pb) (hpb : w0.heap.size ≤ pb) (hpr : w0.heap.size ≤ pr)
    (e1 : wrap64 (st + ex) = st + ex) (e2 : wrap64 (-GAP) = -GAP) (e3 : wrap64 (GAP + sh) = GAP + sh) (G1 : (0 ≤ GAP) = False) (G2 : (GAP < 0) = True) (G6 : (sh < -GAP) = False) 
    (s0 s1 s2 s6 s7 s8 s9 s10 s11 s12 s13 s17 s21 s22 s23 s24 s25 s26 s27 s28 s29 s30 s31 s32 s33 s34 s35 s36 s37 s38 s39 s40 s41 s42 s43 s44 s45 s46 s47 s48 s49 s50 s51 s52 s53 s54 s55 s56 s57 s58 s59 s60 s61 s62 s63 s64 s65 s66 s67 s68 s69 s70 s71 s72 s73 s74 s75 s76 s77 s78 s79 s80 s81 s82 s83 s84 s85 s86 s87 s88 s89 s90 s91 s92 s93 s94 s95 s96 s97 s98 s99 s100 s101 s102 s103 s104 s105 s106 s107 s108 s109 s110 s111 s112 s113 s114 s115 s116 s117 s118 s119 s120 s121 s122 s123 s124 s125 s126 s127 s128 s129 s130 s131 s132 s133 s134 s135 s136 s137 s138 s139 : Value) :
    (tl (tl (tl (tl (tl (tl (tl (tl (Tryz.f62.body.getD .ret))))))))).wp Tryz.prog (bodyPost Tryz.prog Tryz.f62 fun e w' => e = .returned (.tuple #[fitV { level := lev, nat := NT, left := LE, right := RI, bad := ((Bad.badP (Bad.cl (-GAP)) (Bad.cl sh) : Nat) : Int), cls := fitP (((Bad.badP (Bad.cl (-GAP)) (Bad.cl sh) : Nat) : Int)) true, unset := false, defect := 0 }, .int .i64 GAP]) ∧ Below w0.heap.size w0 w') { tmps := #[s0, s1, s2, .int .i64 long, .bool last, .int .i64 ex, s6, s7, s8, s9, s10, s11, s12, s13, .pointer (some ⟨pr, 0, none⟩), .int .i64 0, .pointer (some ⟨pb, 0, none⟩), s17, .int .i64 GAP, .int .i64 st, .int .i64 sh, s21, s22, s23, s24, s25, s26, s27, s28, s29, s30, s31, s32, s33, s34, s35, s36, s37, s38, s39, s40, s41, s42, s43, s44, s45, s46, s47, s48, s49, s50, s51, s52, s53, s54, s55, s56, s57, s58, s59, s60, s61, s62, s63, s64, s65, s66, s67, s68, s69, s70, s71, s72, s73, s74, s75, s76, s77, s78, s79, s80, s81, s82, s83, s84, s85, s86, s87, s88, s89, s90, s91, s92, s93, s94, s95, s96, s97, s98, s99, s100, s101, s102, s103, s104, s105, s106, s107, s108, s109, s110, s111, s112, s113, s114, s115, s116, s117, s118, s119, s120, s121, s122, s123, s124, s125, s126, s127, s128, s129, s130, s131, s132, s133, s134, s135, s136, s137, s138, s139], defers := [] } W := by
  have Pc0 : W.cell? ⟨pb, 0, none⟩ = some (.int .i64 lev) := HP.out.cell 0 rfl
  have Pf0 := HP.out.free 0
  have Pc1 : W.cell? ⟨pb, 1, none⟩ = some (.int .i64 NT) := HP.out.cell 1 rfl
  have Pf1 := HP.out.free 1
  have Pc2 : W.cell? ⟨pb, 2, none⟩ = some (.int .i64 LE) := HP.out.cell 2 rfl
  have Pf2 := HP.out.free 2
  have Pc3 : W.cell? ⟨pb, 3, none⟩ = some (.int .i64 RI) := HP.out.cell 3 rfl
  have Pf3 := HP.out.free 3
  have Pc4 : W.cell? ⟨pb, 4, none⟩ = some (.int .i64 0) := HP.out.cell 4 rfl
  have Pf4 := HP.out.free 4
  have Pc5 : W.cell? ⟨pb, 5, none⟩ = some (.int .i64 0) := HP.out.cell 5 rfl
  have Pf5 := HP.out.free 5
  have Pc6 : W.cell? ⟨pb, 6, none⟩ = some (.bool false) := HP.out.cell 6 rfl
  have Pf6 := HP.out.free 6
  have Pc7 : W.cell? ⟨pb, 7, none⟩ = some (.int .i64 0) := HP.out.cell 7 rfl
  have Pf7 := HP.out.free 7
  have Rc0 : W.cell? ⟨pr, 0, none⟩ = some (.int .i64 0) := HR.out.cell 0 rfl
  have Rf0 := HR.out.free 0
  have Rc1 : W.cell? ⟨pr, 1, none⟩ = some (.int .i64 0) := HR.out.cell 1 rfl
  have Rf1 := HR.out.free 1
  have Rc2 : W.cell? ⟨pr, 2, none⟩ = some (.int .i64 0) := HR.out.cell 2 rfl
  have Rf2 := HR.out.free 2
  have Rc3 : W.cell? ⟨pr, 3, none⟩ = some (.int .i64 0) := HR.out.cell 3 rfl
  have Rf3 := HR.out.free 3
  have Rc4 : W.cell? ⟨pr, 4, none⟩ = some (.int .i64 0) := HR.out.cell 4 rfl
  have Rf4 := HR.out.free 4
  have Rc5 : W.cell? ⟨pr, 5, none⟩ = some (.int .i64 0) := HR.out.cell 5 rfl
  have Rf5 := HR.out.free 5
  have Rc6 : W.cell? ⟨pr, 6, none⟩ = some (.bool false) := HR.out.cell 6 rfl
  have Rf6 := HR.out.free 6
  have Rc7 : W.cell? ⟨pr, 7, none⟩ = some (.int .i64 0) := HR.out.cell 7 rfl
  have Rf7 := HR.out.free 7
  have HFi := Lib.hid (reffit_any (((Bad.badP (Bad.cl (-GAP)) (Bad.cl sh) : Nat) : Int)) true)
  have HBd := Lib.hid (Bad.refbad_any (-GAP) (sh))
  obtain ⟨cls, hcls⟩ : ∃ c, Hid (fitP (((Bad.badP (Bad.cl (-GAP)) (Bad.cl sh) : Nat) : Int)) true = c) := ⟨_, Lib.hid rfl⟩
  rw [hcls.out] at HFi ⊢
  obtain ⟨BV, hBV⟩ : ∃ c : Int, Hid (((Bad.badP (Bad.cl (-GAP)) (Bad.cl (sh)) : Nat) : Int) = c) := ⟨_, Lib.hid rfl⟩
  rw [hBV.out] at HBd
  rw [hBV.out] at HFi hcls ⊢
  dsimp only [tl, Tryz.f62, Option.getD_some]
  go_wp2_with fail
  with_reducible refine (HBd.out _).mono ?_
  rintro e w1 ⟨rfl, hb1⟩
  have HP1 : Hid (Box w1 pb (fitB ⟨lev, NT, LE, RI, 0, 0, false, 0⟩) 46) := Lib.hid ((HP.out.set 6 (.bool false)).below hb1)
  have HR1 : Hid (Box w1 pr zF 46) := Lib.hid ((HR.out.far (p := ⟨pb, 6, none⟩) hne (.bool false)).below hb1)
  have HB1 : Hid (Below w0.heap.size w0 w1) := Lib.hid (below_join (HB.out.setCell (p := ⟨pb, 6, none⟩) hpb (.bool false)) hb1)
  clear hb1 Pc0 Pf0 Pc1 Pf1 Pc2 Pf2 Pc3 Pf3 Pc4 Pf4 Pc5 Pf5 Pc6 Pf6 Pc7 Pf7 Rc0 Rf0 Rc1 Rf1 Rc2 Rf2 Rc3 Rf3 Rc4 Rf4 Rc5 Rf5 Rc6 Rf6 Rc7 Rf7
  have P1c0 : w1.cell? ⟨pb, 0, none⟩ = some (.int .i64 lev) := HP1.out.cell 0 rfl
  have P1f0 := HP1.out.free 0
  have P1c1 : w1.cell? ⟨pb, 1, none⟩ = some (.int .i64 NT) := HP1.out.cell 1 rfl
  have P1f1 := HP1.out.free 1
  have P1c2 : w1.cell? ⟨pb, 2, none⟩ = some (.int .i64 LE) := HP1.out.cell 2 rfl
  have P1f2 := HP1.out.free 2
  have P1c3 : w1.cell? ⟨pb, 3, none⟩ = some (.int .i64 RI) := HP1.out.cell 3 rfl
  have P1f3 := HP1.out.free 3
  have P1c4 : w1.cell? ⟨pb, 4, none⟩ = some (.int .i64 0) := HP1.out.cell 4 rfl
  have P1f4 := HP1.out.free 4
  have P1c5 : w1.cell? ⟨pb, 5, none⟩ = some (.int .i64 0) := HP1.out.cell 5 rfl
  have P1f5 := HP1.out.free 5
  have P1c6 : w1.cell? ⟨pb, 6, none⟩ = some (.bool false) := HP1.out.cell 6 rfl
  have P1f6 := HP1.out.free 6
  have P1c7 : w1.cell? ⟨pb, 7, none⟩ = some (.int .i64 0) := HP1.out.cell 7 rfl
  have P1f7 := HP1.out.free 7
  have R1c0 : w1.cell? ⟨pr, 0, none⟩ = some (.int .i64 0) := HR1.out.cell 0 rfl
  have R1f0 := HR1.out.free 0
  have R1c1 : w1.cell? ⟨pr, 1, none⟩ = some (.int .i64 0) := HR1.out.cell 1 rfl
  have R1f1 := HR1.out.free 1
  have R1c2 : w1.cell? ⟨pr, 2, none⟩ = some (.int .i64 0) := HR1.out.cell 2 rfl
  have R1f2 := HR1.out.free 2
  have R1c3 : w1.cell? ⟨pr, 3, none⟩ = some (.int .i64 0) := HR1.out.cell 3 rfl
  have R1f3 := HR1.out.free 3
  have R1c4 : w1.cell? ⟨pr, 4, none⟩ = some (.int .i64 0) := HR1.out.cell 4 rfl
  have R1f4 := HR1.out.free 4
  have R1c5 : w1.cell? ⟨pr, 5, none⟩ = some (.int .i64 0) := HR1.out.cell 5 rfl
  have R1f5 := HR1.out.free 5
  have R1c6 : w1.cell? ⟨pr, 6, none⟩ = some (.bool false) := HR1.out.cell 6 rfl
  have R1f6 := HR1.out.free 6
  have R1c7 : w1.cell? ⟨pr, 7, none⟩ = some (.int .i64 0) := HR1.out.cell 7 rfl
  have R1f7 := HR1.out.free 7
  go_wp2_with fail
  with_reducible refine (HFi.out _).mono ?_
  rintro e w2 ⟨rfl, rfl⟩
  go_wp2_with fail
  have b8 := fit_set8 ((HR1.out.far (p := ⟨pb, 4, none⟩) hne (.int .i64 BV)).far (p := ⟨pb, 5, none⟩) hne (.int .i64 cls)) (b0 := .int .i64 lev) (b1 := .int .i64 NT) (b2 := .int .i64 LE) (b3 := .int .i64 RI) (b4 := .int .i64 (BV)) (b5 := .int .i64 cls) (b6 := .bool false) (b7 := .int .i64 (0))
  have q0 := b8.cell 0 rfl
  have q1 := b8.cell 1 rfl
  have q2 := b8.cell 2 rfl
  have q3 := b8.cell 3 rfl
  have q4 := b8.cell 4 rfl
  have q5 := b8.cell 5 rfl
  have q6 := b8.cell 6 rfl
  have q7 := b8.cell 7 rfl
  refine bodyPost_ret (v := .tuple #[fitV { level := lev, nat := NT, left := LE, right := RI, bad := BV, cls := cls, unset := false, defect := 0 }, .int .i64 GAP]) ?_ rfl ⟨rfl, fit_below8 ((HB1.out.setCell (p := ⟨pb, 4, none⟩) hpb (.int .i64 BV)).setCell (p := ⟨pb, 5, none⟩) hpb (.int .i64 cls)) hpr _ _ _ _ _ _ _ _⟩
  simp [results, Tryz.f62, go_sem, q0, q1, q2, q3, q4, q5, q6, q7]
end Go.Proofs.YtndpdbofoojkhaaGreat.Ft
