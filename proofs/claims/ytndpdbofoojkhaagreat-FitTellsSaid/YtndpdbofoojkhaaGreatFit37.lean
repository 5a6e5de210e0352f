/- The reference: how a line fits at a level (At): its contract. -/
import Derived.Test.YtndpdbofoojkhaaGreatFit36
namespace Go.Proofs.YtndpdbofoojkhaaGreat.Ft
open Go.RowKit Go.Proofs.YtndpdbofoojkhaaGreat.Kit Go.Proofs.YtndpdbofoojkhaaGreat.Fo Go.Proofs.YtndpdbofoojkhaaGreat.Lv
set_option linter.unusedVariables false
set_option linter.unusedSimpArgs false

set_option maxRecDepth 100000 in
set_option maxHeartbeats 4000000 in
theorem at_any (d : FaceD) (a : FaceA) (l : LayD) (As : Option Addr) (cs : Nat) (Ag : Option Addr) (cg : Nat) (G : List (List (Int × Int))) (long : Int) (last : Bool) (ex lev : Int) (w : World) {B : Nat} (hB : B ≤ w.heap.size) (hF : FaceIn w B d a) (hf : faceB d = true) (hlb : layB l = true) {Q : Nat → Prop} (hG : GG Q w Ag G) (hg : GlyOk d.font G) (h1 : 1 ≤ long ∧ long ≤ 67108864) (h2 : 0 ≤ ex ∧ ex ≤ 67108864) :
    Calls Tryz.prog 62 #[faceV d a, .agg (layCells l As cs), .slice Ag G.length cg, .int .i64 long, .bool last, .int .i64 ex, .int .i64 lev] w fun e w' => e = .returned (.tuple #[fitV (fitAt d l G long last ex lev), .int .i64 (gapAt d l G long lev)]) ∧ Below w.heap.size w w' := by
  obtain ⟨hj, hsp, hst, hsh, hle, hri, hnt⟩ := gap_ok hf hlb hg h1 h2 lev
  obtain ⟨NT, hNT⟩ : ∃ NT, wideS d l.space G lev = NT := ⟨_, rfl⟩
  obtain ⟨LE, hLE⟩ : ∃ LE, (tellS d 2 (headG G) lev).1 = LE := ⟨_, rfl⟩
  obtain ⟨RI, hRI⟩ : ∃ RI, (tellS d 3 (lastG G) lev).1 = RI := ⟨_, rfl⟩
  obtain ⟨GAP, hGAP⟩ : ∃ GAP, gapAt d l G long lev = GAP := ⟨_, rfl⟩
  obtain ⟨st, hst'⟩ : ∃ st, l.stretch * ((G.length : Int) - 1) = st := ⟨_, rfl⟩
  obtain ⟨sh, hsh'⟩ : ∃ sh, l.shrink * ((G.length : Int) - 1) = sh := ⟨_, rfl⟩
  have hX : fitAt d l G long last ex lev = { level := lev, nat := NT, left := LE, right := RI, bad := (judgeP GAP st sh ex last).1, cls := fitP (judgeP GAP st sh ex last).1 (decide (GAP < 0)), unset := (judgeP GAP st sh ex last).2.1, defect := (judgeP GAP st sh ex last).2.2 } := by
    rw [fitAt, judgeAt, hNT, hLE, hRI, hGAP, hst', hsh']
  have hgd : GAP = long + LE + RI - NT := by rw [← hGAP, gapAt, hNT, hLE, hRI]
  rw [hGAP, hst', hsh'] at hj
  rw [hNT] at hnt
  rw [hLE] at hle
  rw [hRI] at hri
  obtain ⟨j1, j2, j3, j4⟩ := hj
  have e1 : wrap64 (st + ex) = st + ex := wrap64_at (by omega)
  have e2 : wrap64 (-GAP) = -GAP := wrap64_at (by omega)
  have e3 : wrap64 (GAP + sh) = GAP + sh := wrap64_at (by omega)
  have key : ∀ X : FitD, fitAt d l G long last ex lev = X → (∀ (pb pr : Nat) (W : World), Box W pb (fitB ⟨lev, NT, LE, RI, 0, 0, false, 0⟩) 46 → Box W pr zF 46 → Below w.heap.size w W → pr ≠ pb → w.heap.size ≤ pb → w.heap.size ≤ pr → ∀ (s0 s1 s2 s6 s7 s8 s9 s10 s11 s12 s13 s17 s21 s22 s23 s24 s25 s26 s27 s28 s29 s30 s31 s32 s33 s34 s35 s36 s37 s38 s39 s40 s41 s42 s43 s44 s45 s46 s47 s48 s49 s50 s51 s52 s53 s54 s55 s56 s57 s58 s59 s60 s61 s62 s63 s64 s65 s66 s67 s68 s69 s70 s71 s72 s73 s74 s75 s76 s77 s78 s79 s80 s81 s82 s83 s84 s85 s86 s87 s88 s89 s90 s91 s92 s93 s94 s95 s96 s97 s98 s99 s100 s101 s102 s103 s104 s105 s106 s107 s108 s109 s110 s111 s112 s113 s114 s115 s116 s117 s118 s119 s120 s121 s122 s123 s124 s125 s126 s127 s128 s129 s130 s131 s132 s133 s134 s135 s136 s137 s138 s139 : Value),
      (tl (tl (tl (tl (tl (tl (tl (tl (Tryz.f62.body.getD .ret))))))))).wp Tryz.prog (bodyPost Tryz.prog Tryz.f62 fun e w' => e = .returned (.tuple #[fitV X, .int .i64 GAP]) ∧ Below w.heap.size w w') { tmps := #[s0, s1, s2, .int .i64 long, .bool last, .int .i64 ex, s6, s7, s8, s9, s10, s11, s12, s13, .pointer (some ⟨pr, 0, none⟩), .int .i64 0, .pointer (some ⟨pb, 0, none⟩), s17, .int .i64 GAP, .int .i64 st, .int .i64 sh, s21, s22, s23, s24, s25, s26, s27, s28, s29, s30, s31, s32, s33, s34, s35, s36, s37, s38, s39, s40, s41, s42, s43, s44, s45, s46, s47, s48, s49, s50, s51, s52, s53, s54, s55, s56, s57, s58, s59, s60, s61, s62, s63, s64, s65, s66, s67, s68, s69, s70, s71, s72, s73, s74, s75, s76, s77, s78, s79, s80, s81, s82, s83, s84, s85, s86, s87, s88, s89, s90, s91, s92, s93, s94, s95, s96, s97, s98, s99, s100, s101, s102, s103, s104, s105, s106, s107, s108, s109, s110, s111, s112, s113, s114, s115, s116, s117, s118, s119, s120, s121, s122, s123, s124, s125, s126, s127, s128, s129, s130, s131, s132, s133, s134, s135, s136, s137, s138, s139], defers := [] } W) →
      Calls Tryz.prog 62 #[faceV d a, .agg (layCells l As cs), .slice Ag G.length cg, .int .i64 long, .bool last, .int .i64 ex, .int .i64 lev] w fun e w' => e = .returned (.tuple #[fitV (fitAt d l G long last ex lev), .int .i64 GAP]) ∧ Below w.heap.size w w' := fun X hx hT => by
    rw [hx]
    exact at_open d a l As cs Ag cg G long last ex lev NT LE RI GAP st sh w hB hF hf hG hg hNT hLE hRI (wrap64_at (by omega)) (wrap64_at (by omega)) (by rw [wrap64_at (by omega), hgd]) (by rw [hst']; exact wrap64_at (by omega)) (by rw [hsh']; exact wrap64_at (by omega)) _ hT
  rw [hGAP]
  clear hnt hle hri hsp hst hsh hNT hLE hRI hGAP hst' hsh' hgd hF hG hg hf hlb
  by_cases c0 : 0 ≤ GAP
  · have G1 := eq_true c0
    have G2 : (GAP < 0) = False := eq_false (by omega)
    cases hl : last with
    | true =>
      subst hl
      have J0 : True := trivial
      by_cases c1 : 0 < GAP
      · have G3 := eq_true c1
        by_cases c2 : st = 0
        · have G4 : (st == 0) = true := by simpa using c2
          have hJ : judgeP GAP st sh ex true = (0, false, 0) := by
            unfold judgeP
            rw [if_pos ⟨c0, rfl⟩]
          exact key _ (by rw [hX, hJ]; simp [G2]) (fun pb pr W hp hr hb hne hpb hpr s0 s1 s2 s6 s7 s8 s9 s10 s11 s12 s13 s17 s21 s22 s23 s24 s25 s26 s27 s28 s29 s30 s31 s32 s33 s34 s35 s36 s37 s38 s39 s40 s41 s42 s43 s44 s45 s46 s47 s48 s49 s50 s51 s52 s53 s54 s55 s56 s57 s58 s59 s60 s61 s62 s63 s64 s65 s66 s67 s68 s69 s70 s71 s72 s73 s74 s75 s76 s77 s78 s79 s80 s81 s82 s83 s84 s85 s86 s87 s88 s89 s90 s91 s92 s93 s94 s95 s96 s97 s98 s99 s100 s101 s102 s103 s104 s105 s106 s107 s108 s109 s110 s111 s112 s113 s114 s115 s116 s117 s118 s119 s120 s121 s122 s123 s124 s125 s126 s127 s128 s129 s130 s131 s132 s133 s134 s135 s136 s137 s138 s139 => al2 pb pr lev NT LE RI GAP st sh ex long true W w (Lib.hid hp) (Lib.hid hr) (Lib.hid hb) hne hpb hpr e1 e2 e3 G1 G2 G3 G4 rfl s0 s1 s2 s6 s7 s8 s9 s10 s11 s12 s13 s17 s21 s22 s23 s24 s25 s26 s27 s28 s29 s30 s31 s32 s33 s34 s35 s36 s37 s38 s39 s40 s41 s42 s43 s44 s45 s46 s47 s48 s49 s50 s51 s52 s53 s54 s55 s56 s57 s58 s59 s60 s61 s62 s63 s64 s65 s66 s67 s68 s69 s70 s71 s72 s73 s74 s75 s76 s77 s78 s79 s80 s81 s82 s83 s84 s85 s86 s87 s88 s89 s90 s91 s92 s93 s94 s95 s96 s97 s98 s99 s100 s101 s102 s103 s104 s105 s106 s107 s108 s109 s110 s111 s112 s113 s114 s115 s116 s117 s118 s119 s120 s121 s122 s123 s124 s125 s126 s127 s128 s129 s130 s131 s132 s133 s134 s135 s136 s137 s138 s139)
        · have G4 : (st == 0) = false := by simpa using c2
          by_cases c3 : 1073741823 < GAP
          · have G5 := eq_true c3
            have hJ : judgeP GAP st sh ex true = (0, false, 0) := by
              unfold judgeP
              rw [if_pos ⟨c0, rfl⟩]
            exact key _ (by rw [hX, hJ]; simp [G2]) (fun pb pr W hp hr hb hne hpb hpr s0 s1 s2 s6 s7 s8 s9 s10 s11 s12 s13 s17 s21 s22 s23 s24 s25 s26 s27 s28 s29 s30 s31 s32 s33 s34 s35 s36 s37 s38 s39 s40 s41 s42 s43 s44 s45 s46 s47 s48 s49 s50 s51 s52 s53 s54 s55 s56 s57 s58 s59 s60 s61 s62 s63 s64 s65 s66 s67 s68 s69 s70 s71 s72 s73 s74 s75 s76 s77 s78 s79 s80 s81 s82 s83 s84 s85 s86 s87 s88 s89 s90 s91 s92 s93 s94 s95 s96 s97 s98 s99 s100 s101 s102 s103 s104 s105 s106 s107 s108 s109 s110 s111 s112 s113 s114 s115 s116 s117 s118 s119 s120 s121 s122 s123 s124 s125 s126 s127 s128 s129 s130 s131 s132 s133 s134 s135 s136 s137 s138 s139 => al3 pb pr lev NT LE RI GAP st sh ex long true W w (Lib.hid hp) (Lib.hid hr) (Lib.hid hb) hne hpb hpr e1 e2 e3 G1 G2 G3 G4 G5 rfl s0 s1 s2 s6 s7 s8 s9 s10 s11 s12 s13 s17 s21 s22 s23 s24 s25 s26 s27 s28 s29 s30 s31 s32 s33 s34 s35 s36 s37 s38 s39 s40 s41 s42 s43 s44 s45 s46 s47 s48 s49 s50 s51 s52 s53 s54 s55 s56 s57 s58 s59 s60 s61 s62 s63 s64 s65 s66 s67 s68 s69 s70 s71 s72 s73 s74 s75 s76 s77 s78 s79 s80 s81 s82 s83 s84 s85 s86 s87 s88 s89 s90 s91 s92 s93 s94 s95 s96 s97 s98 s99 s100 s101 s102 s103 s104 s105 s106 s107 s108 s109 s110 s111 s112 s113 s114 s115 s116 s117 s118 s119 s120 s121 s122 s123 s124 s125 s126 s127 s128 s129 s130 s131 s132 s133 s134 s135 s136 s137 s138 s139)
          · have G5 := eq_false c3
            have hJ : judgeP GAP st sh ex true = (0, false, 0) := by
              unfold judgeP
              rw [if_pos ⟨c0, rfl⟩]
            exact key _ (by rw [hX, hJ]; simp [G2]) (fun pb pr W hp hr hb hne hpb hpr s0 s1 s2 s6 s7 s8 s9 s10 s11 s12 s13 s17 s21 s22 s23 s24 s25 s26 s27 s28 s29 s30 s31 s32 s33 s34 s35 s36 s37 s38 s39 s40 s41 s42 s43 s44 s45 s46 s47 s48 s49 s50 s51 s52 s53 s54 s55 s56 s57 s58 s59 s60 s61 s62 s63 s64 s65 s66 s67 s68 s69 s70 s71 s72 s73 s74 s75 s76 s77 s78 s79 s80 s81 s82 s83 s84 s85 s86 s87 s88 s89 s90 s91 s92 s93 s94 s95 s96 s97 s98 s99 s100 s101 s102 s103 s104 s105 s106 s107 s108 s109 s110 s111 s112 s113 s114 s115 s116 s117 s118 s119 s120 s121 s122 s123 s124 s125 s126 s127 s128 s129 s130 s131 s132 s133 s134 s135 s136 s137 s138 s139 => al4 pb pr lev NT LE RI GAP st sh ex long true W w (Lib.hid hp) (Lib.hid hr) (Lib.hid hb) hne hpb hpr e1 e2 e3 G1 G2 G3 G4 G5 rfl s0 s1 s2 s6 s7 s8 s9 s10 s11 s12 s13 s17 s21 s22 s23 s24 s25 s26 s27 s28 s29 s30 s31 s32 s33 s34 s35 s36 s37 s38 s39 s40 s41 s42 s43 s44 s45 s46 s47 s48 s49 s50 s51 s52 s53 s54 s55 s56 s57 s58 s59 s60 s61 s62 s63 s64 s65 s66 s67 s68 s69 s70 s71 s72 s73 s74 s75 s76 s77 s78 s79 s80 s81 s82 s83 s84 s85 s86 s87 s88 s89 s90 s91 s92 s93 s94 s95 s96 s97 s98 s99 s100 s101 s102 s103 s104 s105 s106 s107 s108 s109 s110 s111 s112 s113 s114 s115 s116 s117 s118 s119 s120 s121 s122 s123 s124 s125 s126 s127 s128 s129 s130 s131 s132 s133 s134 s135 s136 s137 s138 s139)
      · have G3 := eq_false c1
        have G5 : (1073741823 < GAP) = False := eq_false (by omega)
        have hJ : judgeP GAP st sh ex true = (0, false, 0) := by
          unfold judgeP
          rw [if_pos ⟨c0, rfl⟩]
        exact key _ (by rw [hX, hJ]; simp [G2]) (fun pb pr W hp hr hb hne hpb hpr s0 s1 s2 s6 s7 s8 s9 s10 s11 s12 s13 s17 s21 s22 s23 s24 s25 s26 s27 s28 s29 s30 s31 s32 s33 s34 s35 s36 s37 s38 s39 s40 s41 s42 s43 s44 s45 s46 s47 s48 s49 s50 s51 s52 s53 s54 s55 s56 s57 s58 s59 s60 s61 s62 s63 s64 s65 s66 s67 s68 s69 s70 s71 s72 s73 s74 s75 s76 s77 s78 s79 s80 s81 s82 s83 s84 s85 s86 s87 s88 s89 s90 s91 s92 s93 s94 s95 s96 s97 s98 s99 s100 s101 s102 s103 s104 s105 s106 s107 s108 s109 s110 s111 s112 s113 s114 s115 s116 s117 s118 s119 s120 s121 s122 s123 s124 s125 s126 s127 s128 s129 s130 s131 s132 s133 s134 s135 s136 s137 s138 s139 => al1 pb pr lev NT LE RI GAP st sh ex long true W w (Lib.hid hp) (Lib.hid hr) (Lib.hid hb) hne hpb hpr e1 e2 e3 G1 G2 G3 G5 rfl s0 s1 s2 s6 s7 s8 s9 s10 s11 s12 s13 s17 s21 s22 s23 s24 s25 s26 s27 s28 s29 s30 s31 s32 s33 s34 s35 s36 s37 s38 s39 s40 s41 s42 s43 s44 s45 s46 s47 s48 s49 s50 s51 s52 s53 s54 s55 s56 s57 s58 s59 s60 s61 s62 s63 s64 s65 s66 s67 s68 s69 s70 s71 s72 s73 s74 s75 s76 s77 s78 s79 s80 s81 s82 s83 s84 s85 s86 s87 s88 s89 s90 s91 s92 s93 s94 s95 s96 s97 s98 s99 s100 s101 s102 s103 s104 s105 s106 s107 s108 s109 s110 s111 s112 s113 s114 s115 s116 s117 s118 s119 s120 s121 s122 s123 s124 s125 s126 s127 s128 s129 s130 s131 s132 s133 s134 s135 s136 s137 s138 s139)
    | false =>
      subst hl
      by_cases c1 : 0 < GAP
      · have G3 := eq_true c1
        by_cases c2 : st = 0
        · have G4 : (st == 0) = true := by simpa using c2
          have hJ : judgeP GAP st sh ex false = (10000, true, GAP) := by
            unfold judgeP
            rw [if_neg (by simp), if_pos (.inl ⟨c1, c2⟩)]
          exact key _ (by rw [hX, hJ]; simp [G2]) (fun pb pr W hp hr hb hne hpb hpr s0 s1 s2 s6 s7 s8 s9 s10 s11 s12 s13 s17 s21 s22 s23 s24 s25 s26 s27 s28 s29 s30 s31 s32 s33 s34 s35 s36 s37 s38 s39 s40 s41 s42 s43 s44 s45 s46 s47 s48 s49 s50 s51 s52 s53 s54 s55 s56 s57 s58 s59 s60 s61 s62 s63 s64 s65 s66 s67 s68 s69 s70 s71 s72 s73 s74 s75 s76 s77 s78 s79 s80 s81 s82 s83 s84 s85 s86 s87 s88 s89 s90 s91 s92 s93 s94 s95 s96 s97 s98 s99 s100 s101 s102 s103 s104 s105 s106 s107 s108 s109 s110 s111 s112 s113 s114 s115 s116 s117 s118 s119 s120 s121 s122 s123 s124 s125 s126 s127 s128 s129 s130 s131 s132 s133 s134 s135 s136 s137 s138 s139 => al6 pb pr lev NT LE RI GAP st sh ex long false W w (Lib.hid hp) (Lib.hid hr) (Lib.hid hb) hne hpb hpr e1 e2 e3 G1 G2 G3 G4 rfl s0 s1 s2 s6 s7 s8 s9 s10 s11 s12 s13 s17 s21 s22 s23 s24 s25 s26 s27 s28 s29 s30 s31 s32 s33 s34 s35 s36 s37 s38 s39 s40 s41 s42 s43 s44 s45 s46 s47 s48 s49 s50 s51 s52 s53 s54 s55 s56 s57 s58 s59 s60 s61 s62 s63 s64 s65 s66 s67 s68 s69 s70 s71 s72 s73 s74 s75 s76 s77 s78 s79 s80 s81 s82 s83 s84 s85 s86 s87 s88 s89 s90 s91 s92 s93 s94 s95 s96 s97 s98 s99 s100 s101 s102 s103 s104 s105 s106 s107 s108 s109 s110 s111 s112 s113 s114 s115 s116 s117 s118 s119 s120 s121 s122 s123 s124 s125 s126 s127 s128 s129 s130 s131 s132 s133 s134 s135 s136 s137 s138 s139)
        · have G4 : (st == 0) = false := by simpa using c2
          by_cases c3 : 1073741823 < GAP
          · have G5 := eq_true c3
            have hJ : judgeP GAP st sh ex false = (10000, true, GAP) := by
              unfold judgeP
              rw [if_neg (by simp), if_pos (.inr c3)]
            exact key _ (by rw [hX, hJ]; simp [G2]) (fun pb pr W hp hr hb hne hpb hpr s0 s1 s2 s6 s7 s8 s9 s10 s11 s12 s13 s17 s21 s22 s23 s24 s25 s26 s27 s28 s29 s30 s31 s32 s33 s34 s35 s36 s37 s38 s39 s40 s41 s42 s43 s44 s45 s46 s47 s48 s49 s50 s51 s52 s53 s54 s55 s56 s57 s58 s59 s60 s61 s62 s63 s64 s65 s66 s67 s68 s69 s70 s71 s72 s73 s74 s75 s76 s77 s78 s79 s80 s81 s82 s83 s84 s85 s86 s87 s88 s89 s90 s91 s92 s93 s94 s95 s96 s97 s98 s99 s100 s101 s102 s103 s104 s105 s106 s107 s108 s109 s110 s111 s112 s113 s114 s115 s116 s117 s118 s119 s120 s121 s122 s123 s124 s125 s126 s127 s128 s129 s130 s131 s132 s133 s134 s135 s136 s137 s138 s139 => al7 pb pr lev NT LE RI GAP st sh ex long false W w (Lib.hid hp) (Lib.hid hr) (Lib.hid hb) hne hpb hpr e1 e2 e3 G1 G2 G3 G4 G5 rfl s0 s1 s2 s6 s7 s8 s9 s10 s11 s12 s13 s17 s21 s22 s23 s24 s25 s26 s27 s28 s29 s30 s31 s32 s33 s34 s35 s36 s37 s38 s39 s40 s41 s42 s43 s44 s45 s46 s47 s48 s49 s50 s51 s52 s53 s54 s55 s56 s57 s58 s59 s60 s61 s62 s63 s64 s65 s66 s67 s68 s69 s70 s71 s72 s73 s74 s75 s76 s77 s78 s79 s80 s81 s82 s83 s84 s85 s86 s87 s88 s89 s90 s91 s92 s93 s94 s95 s96 s97 s98 s99 s100 s101 s102 s103 s104 s105 s106 s107 s108 s109 s110 s111 s112 s113 s114 s115 s116 s117 s118 s119 s120 s121 s122 s123 s124 s125 s126 s127 s128 s129 s130 s131 s132 s133 s134 s135 s136 s137 s138 s139)
          · have G5 := eq_false c3
            have hJ : judgeP GAP st sh ex false = (((Bad.badP (Bad.cl GAP) (Bad.cl (st + ex)) : Nat) : Int), false, 0) := by
              unfold judgeP
              rw [if_neg (by simp), if_neg (by omega), if_pos c0]
            exact key _ (by rw [hX, hJ]; simp [G2]) (fun pb pr W hp hr hb hne hpb hpr s0 s1 s2 s6 s7 s8 s9 s10 s11 s12 s13 s17 s21 s22 s23 s24 s25 s26 s27 s28 s29 s30 s31 s32 s33 s34 s35 s36 s37 s38 s39 s40 s41 s42 s43 s44 s45 s46 s47 s48 s49 s50 s51 s52 s53 s54 s55 s56 s57 s58 s59 s60 s61 s62 s63 s64 s65 s66 s67 s68 s69 s70 s71 s72 s73 s74 s75 s76 s77 s78 s79 s80 s81 s82 s83 s84 s85 s86 s87 s88 s89 s90 s91 s92 s93 s94 s95 s96 s97 s98 s99 s100 s101 s102 s103 s104 s105 s106 s107 s108 s109 s110 s111 s112 s113 s114 s115 s116 s117 s118 s119 s120 s121 s122 s123 s124 s125 s126 s127 s128 s129 s130 s131 s132 s133 s134 s135 s136 s137 s138 s139 => al8 pb pr lev NT LE RI GAP st sh ex long false W w (Lib.hid hp) (Lib.hid hr) (Lib.hid hb) hne hpb hpr e1 e2 e3 G1 G2 G3 G4 G5 rfl s0 s1 s2 s6 s7 s8 s9 s10 s11 s12 s13 s17 s21 s22 s23 s24 s25 s26 s27 s28 s29 s30 s31 s32 s33 s34 s35 s36 s37 s38 s39 s40 s41 s42 s43 s44 s45 s46 s47 s48 s49 s50 s51 s52 s53 s54 s55 s56 s57 s58 s59 s60 s61 s62 s63 s64 s65 s66 s67 s68 s69 s70 s71 s72 s73 s74 s75 s76 s77 s78 s79 s80 s81 s82 s83 s84 s85 s86 s87 s88 s89 s90 s91 s92 s93 s94 s95 s96 s97 s98 s99 s100 s101 s102 s103 s104 s105 s106 s107 s108 s109 s110 s111 s112 s113 s114 s115 s116 s117 s118 s119 s120 s121 s122 s123 s124 s125 s126 s127 s128 s129 s130 s131 s132 s133 s134 s135 s136 s137 s138 s139)
      · have G3 := eq_false c1
        have G5 : (1073741823 < GAP) = False := eq_false (by omega)
        have hJ : judgeP GAP st sh ex false = (((Bad.badP (Bad.cl GAP) (Bad.cl (st + ex)) : Nat) : Int), false, 0) := by
          unfold judgeP
          rw [if_neg (by simp), if_neg (by omega), if_pos c0]
        exact key _ (by rw [hX, hJ]; simp [G2]) (fun pb pr W hp hr hb hne hpb hpr s0 s1 s2 s6 s7 s8 s9 s10 s11 s12 s13 s17 s21 s22 s23 s24 s25 s26 s27 s28 s29 s30 s31 s32 s33 s34 s35 s36 s37 s38 s39 s40 s41 s42 s43 s44 s45 s46 s47 s48 s49 s50 s51 s52 s53 s54 s55 s56 s57 s58 s59 s60 s61 s62 s63 s64 s65 s66 s67 s68 s69 s70 s71 s72 s73 s74 s75 s76 s77 s78 s79 s80 s81 s82 s83 s84 s85 s86 s87 s88 s89 s90 s91 s92 s93 s94 s95 s96 s97 s98 s99 s100 s101 s102 s103 s104 s105 s106 s107 s108 s109 s110 s111 s112 s113 s114 s115 s116 s117 s118 s119 s120 s121 s122 s123 s124 s125 s126 s127 s128 s129 s130 s131 s132 s133 s134 s135 s136 s137 s138 s139 => al5 pb pr lev NT LE RI GAP st sh ex long false W w (Lib.hid hp) (Lib.hid hr) (Lib.hid hb) hne hpb hpr e1 e2 e3 G1 G2 G3 G5 rfl s0 s1 s2 s6 s7 s8 s9 s10 s11 s12 s13 s17 s21 s22 s23 s24 s25 s26 s27 s28 s29 s30 s31 s32 s33 s34 s35 s36 s37 s38 s39 s40 s41 s42 s43 s44 s45 s46 s47 s48 s49 s50 s51 s52 s53 s54 s55 s56 s57 s58 s59 s60 s61 s62 s63 s64 s65 s66 s67 s68 s69 s70 s71 s72 s73 s74 s75 s76 s77 s78 s79 s80 s81 s82 s83 s84 s85 s86 s87 s88 s89 s90 s91 s92 s93 s94 s95 s96 s97 s98 s99 s100 s101 s102 s103 s104 s105 s106 s107 s108 s109 s110 s111 s112 s113 s114 s115 s116 s117 s118 s119 s120 s121 s122 s123 s124 s125 s126 s127 s128 s129 s130 s131 s132 s133 s134 s135 s136 s137 s138 s139)
  · have G1 := eq_false c0
    have G2 : (GAP < 0) = True := eq_true (by omega)
    by_cases c4 : sh < -GAP
    · have G6 := eq_true c4
      have hJ : judgeP GAP st sh ex last = (10000, true, (GAP + sh)) := by
        unfold judgeP
        rw [if_neg (fun h => c0 h.1), if_neg (by omega), if_neg c0, if_pos c4]
      exact key _ (by rw [hX, hJ]; simp [G2]) (fun pb pr W hp hr hb hne hpb hpr s0 s1 s2 s6 s7 s8 s9 s10 s11 s12 s13 s17 s21 s22 s23 s24 s25 s26 s27 s28 s29 s30 s31 s32 s33 s34 s35 s36 s37 s38 s39 s40 s41 s42 s43 s44 s45 s46 s47 s48 s49 s50 s51 s52 s53 s54 s55 s56 s57 s58 s59 s60 s61 s62 s63 s64 s65 s66 s67 s68 s69 s70 s71 s72 s73 s74 s75 s76 s77 s78 s79 s80 s81 s82 s83 s84 s85 s86 s87 s88 s89 s90 s91 s92 s93 s94 s95 s96 s97 s98 s99 s100 s101 s102 s103 s104 s105 s106 s107 s108 s109 s110 s111 s112 s113 s114 s115 s116 s117 s118 s119 s120 s121 s122 s123 s124 s125 s126 s127 s128 s129 s130 s131 s132 s133 s134 s135 s136 s137 s138 s139 => al9 pb pr lev NT LE RI GAP st sh ex long last W w (Lib.hid hp) (Lib.hid hr) (Lib.hid hb) hne hpb hpr e1 e2 e3 G1 G2 G6 s0 s1 s2 s6 s7 s8 s9 s10 s11 s12 s13 s17 s21 s22 s23 s24 s25 s26 s27 s28 s29 s30 s31 s32 s33 s34 s35 s36 s37 s38 s39 s40 s41 s42 s43 s44 s45 s46 s47 s48 s49 s50 s51 s52 s53 s54 s55 s56 s57 s58 s59 s60 s61 s62 s63 s64 s65 s66 s67 s68 s69 s70 s71 s72 s73 s74 s75 s76 s77 s78 s79 s80 s81 s82 s83 s84 s85 s86 s87 s88 s89 s90 s91 s92 s93 s94 s95 s96 s97 s98 s99 s100 s101 s102 s103 s104 s105 s106 s107 s108 s109 s110 s111 s112 s113 s114 s115 s116 s117 s118 s119 s120 s121 s122 s123 s124 s125 s126 s127 s128 s129 s130 s131 s132 s133 s134 s135 s136 s137 s138 s139)
    · have G6 := eq_false c4
      have hJ : judgeP GAP st sh ex last = (((Bad.badP (Bad.cl (-GAP)) (Bad.cl sh) : Nat) : Int), false, 0) := by
        unfold judgeP
        rw [if_neg (fun h => c0 h.1), if_neg (by omega), if_neg c0, if_neg c4]
      exact key _ (by rw [hX, hJ]; simp [G2]) (fun pb pr W hp hr hb hne hpb hpr s0 s1 s2 s6 s7 s8 s9 s10 s11 s12 s13 s17 s21 s22 s23 s24 s25 s26 s27 s28 s29 s30 s31 s32 s33 s34 s35 s36 s37 s38 s39 s40 s41 s42 s43 s44 s45 s46 s47 s48 s49 s50 s51 s52 s53 s54 s55 s56 s57 s58 s59 s60 s61 s62 s63 s64 s65 s66 s67 s68 s69 s70 s71 s72 s73 s74 s75 s76 s77 s78 s79 s80 s81 s82 s83 s84 s85 s86 s87 s88 s89 s90 s91 s92 s93 s94 s95 s96 s97 s98 s99 s100 s101 s102 s103 s104 s105 s106 s107 s108 s109 s110 s111 s112 s113 s114 s115 s116 s117 s118 s119 s120 s121 s122 s123 s124 s125 s126 s127 s128 s129 s130 s131 s132 s133 s134 s135 s136 s137 s138 s139 => al10 pb pr lev NT LE RI GAP st sh ex long last W w (Lib.hid hp) (Lib.hid hr) (Lib.hid hb) hne hpb hpr e1 e2 e3 G1 G2 G6 s0 s1 s2 s6 s7 s8 s9 s10 s11 s12 s13 s17 s21 s22 s23 s24 s25 s26 s27 s28 s29 s30 s31 s32 s33 s34 s35 s36 s37 s38 s39 s40 s41 s42 s43 s44 s45 s46 s47 s48 s49 s50 s51 s52 s53 s54 s55 s56 s57 s58 s59 s60 s61 s62 s63 s64 s65 s66 s67 s68 s69 s70 s71 s72 s73 s74 s75 s76 s77 s78 s79 s80 s81 s82 s83 s84 s85 s86 s87 s88 s89 s90 s91 s92 s93 s94 s95 s96 s97 s98 s99 s100 s101 s102 s103 s104 s105 s106 s107 s108 s109 s110 s111 s112 s113 s114 s115 s116 s117 s118 s119 s120 s121 s122 s123 s124 s125 s126 s127 s128 s129 s130 s131 s132 s133 s134 s135 s136 s137 s138 s139)
end Go.Proofs.YtndpdbofoojkhaaGreat.Ft
