/- The reference: how a line fits at a level (At). -/
import Derived.Test.YtndpdbofoojkhaaGreatFit35
namespace Go.Proofs.YtndpdbofoojkhaaGreat.Ft
open Go.RowKit Go.Proofs.YtndpdbofoojkhaaGreat.Kit Go.Proofs.YtndpdbofoojkhaaGreat.Fo Go.Proofs.YtndpdbofoojkhaaGreat.Lv
set_option linter.unusedVariables false
set_option linter.unusedSimpArgs false

theorem edge_form {d : FaceD} (hf : faceB d = true) {c : Int} (hq : hasB d.font c = true) (lev : Int) : (tellS d 2 c lev).1 = fl (wideP d c lev) (traitP d.traits c).2.2.1 1000 ∧ (tellS d 3 c lev).1 = fl (wideP d c lev) (traitP d.traits c).2.2.2 1000 := by
  have hv : widthV d c lev = (wideP d c lev, 0) := by simp [widthV, hf, hq]
  have he : edgesV d c lev = (fl (wideP d c lev) (traitP d.traits c).2.2.1 1000, fl (wideP d c lev) (traitP d.traits c).2.2.2 1000, 0) := by
    unfold edgesV
    rw [hv]
    simp
  constructor
  · simp [tellS, he]
  · simp [tellS, he]
theorem below_base {B : Nat} {w w1 w2 : World} (h : Below B w w1) (k : Below w1.heap.size w1 w2) (hs : B ≤ w1.heap.size) : Below B w w2 := h.trans (k.mono hs)
set_option maxRecDepth 100000 in
set_option maxHeartbeats 8000000 in
theorem at_open (d : FaceD) (a : FaceA) (l : LayD) (As : Option Addr) (cs : Nat) (Ag : Option Addr) (cg : Nat) (G : List (List (Int × Int))) (long : Int) (last : Bool) (ex lev NT LE RI GAP st sh : Int) (w : World) {B : Nat} (hB : B ≤ w.heap.size) (hF : FaceIn w B d a) (hf : faceB d = true) {Q : Nat → Prop} (hG : GG Q w Ag G) (hg : GlyOk d.font G)
    (hNT : wideS d l.space G lev = NT) (hLE : (tellS d 2 (headG G) lev).1 = LE) (hRI : (tellS d 3 (lastG G) lev).1 = RI) (w1e : wrap64 (long + LE) = long + LE) (w2e : wrap64 (long + LE + RI) = long + LE + RI) (w3e : wrap64 (long + LE + RI - NT) = GAP) (m1 : wrap64 (l.stretch * ((G.length : Int) - 1)) = st) (m2 : wrap64 (l.shrink * ((G.length : Int) - 1)) = sh) (R : Ending → World → Prop)
    (hT : ∀ (pb pr : Nat) (W : World), Box W pb (fitB ⟨lev, NT, LE, RI, 0, 0, false, 0⟩) 46 → Box W pr zF 46 → Below w.heap.size w W → pr ≠ pb → w.heap.size ≤ pb → w.heap.size ≤ pr → ∀ (s0 s1 s2 s6 s7 s8 s9 s10 s11 s12 s13 s17 s21 s22 s23 s24 s25 s26 s27 s28 s29 s30 s31 s32 s33 s34 s35 s36 s37 s38 s39 s40 s41 s42 s43 s44 s45 s46 s47 s48 s49 s50 s51 s52 s53 s54 s55 s56 s57 s58 s59 s60 s61 s62 s63 s64 s65 s66 s67 s68 s69 s70 s71 s72 s73 s74 s75 s76 s77 s78 s79 s80 s81 s82 s83 s84 s85 s86 s87 s88 s89 s90 s91 s92 s93 s94 s95 s96 s97 s98 s99 s100 s101 s102 s103 s104 s105 s106 s107 s108 s109 s110 s111 s112 s113 s114 s115 s116 s117 s118 s119 s120 s121 s122 s123 s124 s125 s126 s127 s128 s129 s130 s131 s132 s133 s134 s135 s136 s137 s138 s139 : Value),
      (tl (tl (tl (tl (tl (tl (tl (tl (Tryz.f62.body.getD .ret))))))))).wp Tryz.prog (bodyPost Tryz.prog Tryz.f62 R) { tmps := #[s0, s1, s2, .int .i64 long, .bool last, .int .i64 ex, s6, s7, s8, s9, s10, s11, s12, s13, .pointer (some ⟨pr, 0, none⟩), .int .i64 0, .pointer (some ⟨pb, 0, none⟩), s17, .int .i64 GAP, .int .i64 st, .int .i64 sh, s21, s22, s23, s24, s25, s26, s27, s28, s29, s30, s31, s32, s33, s34, s35, s36, s37, s38, s39, s40, s41, s42, s43, s44, s45, s46, s47, s48, s49, s50, s51, s52, s53, s54, s55, s56, s57, s58, s59, s60, s61, s62, s63, s64, s65, s66, s67, s68, s69, s70, s71, s72, s73, s74, s75, s76, s77, s78, s79, s80, s81, s82, s83, s84, s85, s86, s87, s88, s89, s90, s91, s92, s93, s94, s95, s96, s97, s98, s99, s100, s101, s102, s103, s104, s105, s106, s107, s108, s109, s110, s111, s112, s113, s114, s115, s116, s117, s118, s119, s120, s121, s122, s123, s124, s125, s126, s127, s128, s129, s130, s131, s132, s133, s134, s135, s136, s137, s138, s139], defers := [] } W) :
    Calls Tryz.prog 62 #[faceV d a, .agg (layCells l As cs), .slice Ag G.length cg, .int .i64 long, .bool last, .int .i64 ex, .int .i64 lev] w R := by
  have HT := Lib.hid hT
  have hb0 := ((Box.new w (faceCells d a) 29).alloc (.cells (layCells l As cs) 32)).alloc (.cells zF 46)
  have hb1 := (Box.new (w.alloc (.cells (faceCells d a) 29)) (layCells l As cs) 32).alloc (.cells zF 46)
  have hb2 := Box.new ((w.alloc (.cells (faceCells d a) 29)).alloc (.cells (layCells l As cs) 32)) zF 46
  have hbw := below_alloc (below_alloc (below_alloc (Below.refl w.heap.size w) (.cells (faceCells d a) 29)) (.cells (layCells l As cs) 32)) (.cells zF 46)
  simp only [World.size_alloc] at hb1 hb2
  obtain ⟨W1, hW⟩ : ∃ W1, ((w.alloc (.cells (faceCells d a) 29)).alloc (.cells (layCells l As cs) 32)).alloc (.cells zF 46) = W1 := ⟨_, rfl⟩
  have hs1 : W1.heap.size = w.heap.size + 3 := by rw [← hW]; simp
  rw [hW] at hb0 hb1 hb2 hbw
  have HW := Lib.hid hW
  have HFF : Hid (∀ V, Below w.heap.size w V → FaceIn V B d a) := Lib.hid fun V hb => hF.mono (hb.mono hB)
  have HLen := Lib.hid (rlength_any d a l.space lev Ag cg G W1 (B := B) (by omega) (HFF.out W1 hbw) hf (hG.below hbw) hg.has (by have := hg.most; omega) (fun g h => by have := flat_each G g h; have := hg.flat; omega))
  rw [hNT] at HLen
  obtain ⟨N, hN⟩ : ∃ N, G.length = N + 1 := ⟨G.length - 1, by have := hg.one; omega⟩
  obtain ⟨g0, hg0⟩ := at_lt (l := G) (i := 0) (by omega)
  obtain ⟨ge, hge⟩ := at_lt (l := G) (i := N) (by omega)
  obtain ⟨M, hM⟩ : ∃ M, ge.length = M + 1 := ⟨ge.length - 1, by have := hg.some' ge (List.mem_of_getElem? hge); cases ge with | nil => exact absurd rfl this | cons y l => simp⟩
  obtain ⟨x0, hx0⟩ := at_lt (l := g0) (i := 0) (by have := hg.some' g0 (List.mem_of_getElem? hg0); cases g0 with | nil => exact absurd rfl this | cons y l => simp)
  obtain ⟨xe, hxe⟩ := at_lt (l := ge) (i := M) (by omega)
  have hh : headG G = x0.1 := by simp only [headG, List.getD_eq_getElem?_getD, hg0, Option.getD_some, hx0]
  have hls : lastG G = xe.1 := by simp only [lastG, hN, Nat.add_sub_cancel, List.getD_eq_getElem?_getD, hge, Option.getD_some, hM, hxe]
  have hq0 := (hg.has g0 (List.mem_of_getElem? hg0) x0 (List.mem_of_getElem? hx0))
  have hqe := (hg.has ge (List.mem_of_getElem? hge) xe (List.mem_of_getElem? hxe))
  rw [hh, (edge_form hf hq0.1 lev).1] at hLE
  rw [hls, (edge_form hf hqe.1 lev).2] at hRI
  have htf := lig_tfm (face_ok hf).1
  have HOut : Hid (∀ V x, Below w.heap.size w V → hasB d.font x = true → (Lit.int .i64 x).wf = true → Calls Tryz.prog 86 #[faceV d a, .int .i64 x, .int .i64 lev] V fun e w' => e = .returned (.tuple #[.int .i64 (fl (wideP d x lev) (traitP d.traits x).2.2.1 1000), .int .i64 (fl (wideP d x lev) (traitP d.traits x).2.2.2 1000)]) ∧ Below V.heap.size V w') := Lib.hid fun V x hb hq hx => RLv.out9_any d a x lev V (B := B) (Nat.le_trans hB hb.size) (HFF.out V hb) hx hf hq
  obtain ⟨r2, hr2⟩ : ∃ r, fl (wideP d x0.1 lev) (traitP d.traits x0.1).2.2.2 1000 = r := ⟨_, rfl⟩
  obtain ⟨l2, hl2⟩ : ∃ r, fl (wideP d xe.1 lev) (traitP d.traits xe.1).2.2.1 1000 = r := ⟨_, rfl⟩
  have HO1 : Hid (∀ V, Below w.heap.size w V → Calls Tryz.prog 86 #[faceV d a, .int .i64 x0.1, .int .i64 lev] V fun e w' => e = .returned (.tuple #[.int .i64 LE, .int .i64 r2]) ∧ Below V.heap.size V w') := Lib.hid fun V hb => by
    have h := HOut.out V x0.1 hb hq0.1 (glyph_wf htf hq0)
    rw [hLE, hr2] at h
    exact h
  have HO2 : Hid (∀ V, Below w.heap.size w V → Calls Tryz.prog 86 #[faceV d a, .int .i64 xe.1, .int .i64 lev] V fun e w' => e = .returned (.tuple #[.int .i64 l2, .int .i64 RI]) ∧ Below V.heap.size V w') := Lib.hid fun V hb => by
    have h := HOut.out V xe.1 hb hqe.1 (glyph_wf htf hqe)
    rw [hRI, hl2] at h
    exact h
  have hNb : N ≤ 99 := by have := hg.most; omega
  have hMb : M ≤ 400 := by have := flat_each G ge (List.mem_of_getElem? hge); have := hg.flat; omega
  have HGW : Hid (∀ V, Below w.heap.size w V → GG Q V Ag G) := Lib.hid fun V hb => hG.below hb
  have HG0 := Lib.hid hg0
  have HGe := Lib.hid hge
  have HX0 := Lib.hid hx0
  have HXe := Lib.hid hxe
  have HMM := Lib.hid hM
  have HB0 := Lib.hid hb0
  have HB1 := Lib.hid hb1
  have HB2 := Lib.hid hb2
  have HBW := Lib.hid hbw
  have hlen : (G.length : Int) - 1 = (N : Int) := by omega
  have hlb : (g0.length : Int) ≤ 1000 := by have := flat_each G g0 (List.mem_of_getElem? hg0); have := hg.flat; omega
  have hlb0 : 0 < g0.length := (List.getElem?_eq_some_iff.1 hx0).1
  rw [hlen] at m1 m2
  obtain ⟨bG, oG, A0, k0, hAg, hQ0, hlG, hc0, hgp0⟩ := HGW.out W1 hbw 0 g0 hg0
  obtain ⟨bG', oG', Ae, ke, hAg', hQe, hlG', hce, hgpe⟩ := HGW.out W1 hbw N ge hge
  obtain ⟨b1, o1, hA0, hQ1, q0, q1⟩ := gly_at hgp0 hx0
  obtain ⟨b9, o9, hAe, hQ9, y0, y1⟩ := gly_at hgpe hxe
  have hlb1 : b1 < W1.heap.size := World.block_lt_of_cell? W1 _ q0
  have hlb9 : b9 < W1.heap.size := World.block_lt_of_cell? W1 _ y0
  subst hAg hA0 hAe
  injection hAg' with hAg'
  injection hAg' with e1 e2
  subst e1 e2
  obtain ⟨GE, hGE⟩ : ∃ GE, ge.length = GE := ⟨_, rfl⟩
  have HGE : Hid ((GE : Int) = (M : Int) + 1) := Lib.hid (by omega)
  rw [hGE] at hce
  rw [Nat.add_zero] at hc0
  rw [Nat.zero_mul, Nat.add_zero] at q0
  have HC0 := Lib.hid hc0
  have HCe := Lib.hid hce
  have HQ0c := Lib.hid q0
  have HYe := Lib.hid y0
  obtain ⟨GL, hGL⟩ : ∃ GL, G.length = GL := ⟨_, rfl⟩
  have hGL1 : (GL : Int) = (N : Int) + 1 := by omega
  rw [hGL] at HLen ⊢
  have hld := load_face hb0
  obtain ⟨fv, hfv⟩ : ∃ fv, Hid (faceV d a = fv) := ⟨_, Lib.hid rfl⟩
  have l1 : W1.cell? ⟨w.heap.size + 1, 1, none⟩ = some (.int .i64 l.space) := hb1.cell 1 rfl
  rw [hfv.out] at hld HLen
  clear hT hF hf hG hg hNT hLE hRI hN hg0 hge hM hx0 hxe hh hls hq0 hqe htf HOut hr2 hl2 hb0 hb1 hb2 hlen hQ0 hQe hgp0 hgpe hQ1 hQ9 q0 q1 y0 y1 hc0 hce hGL hGE
  go_enter Tryz.func62, Tryz.ntmps62
  go_wp2_with (refine ld_any hld rfl _ rfl rfl ?_)
  with_reducible refine HLen.out.mono ?_
  rintro e w2 ⟨rfl, hbq2⟩
  have hw2 := below_join hbw hbq2
  have HBq2 := Lib.hid hbq2
  have hs2 := hbq2.size
  clear hW hbw hld l1 HLen hbq2
  go_upto_region 2 with fail
  have HP3 : Hid (Box (w2.alloc (.cells (fitB ⟨lev, NT, 0, 0, 0, 0, false, 0⟩) 46)) w2.heap.size (fitB ⟨lev, NT, 0, 0, 0, 0, false, 0⟩) 46) := Lib.hid (Box.new w2 _ _)
  have HQ3 : Hid (Below w2.heap.size w2 (w2.alloc (.cells (fitB ⟨lev, NT, 0, 0, 0, 0, false, 0⟩) 46))) := Lib.hid (below_alloc (Below.refl w2.heap.size w2) _)
  obtain ⟨w3, hw3⟩ : ∃ w3, (w2.alloc (.cells (fitB ⟨lev, NT, 0, 0, 0, 0, false, 0⟩) 46)) = w3 := ⟨_, rfl⟩
  rw [hw3] at HP3 HQ3 ⊢
  obtain ⟨pb, hpb⟩ : ∃ pb, w2.heap.size = pb := ⟨_, rfl⟩
  rw [hpb] at HP3 ⊢
  have HpB : w2.heap.size ≤ pb := Nat.le_of_eq hpb
  have hpbw : w.heap.size + 3 ≤ pb := by omega
  have Hw2 := Lib.hid hw2
  have HwV : Hid (∀ V, Below w2.heap.size w2 V → Below w.heap.size w V) := Lib.hid fun V hb => below_join Hw2.out hb
  have H1V : Hid (∀ V, Below w2.heap.size w2 V → Below W1.heap.size W1 V) := Lib.hid fun V hb => below_join HBq2.out hb
  have HO1' : Hid (∀ V, Below w2.heap.size w2 V → _) := Lib.hid fun V (hb : Below w2.heap.size w2 V) => HO1.out V (HwV.out V hb)
  have HO2' : Hid (∀ V, Below w2.heap.size w2 V → _) := Lib.hid fun V (hb : Below w2.heap.size w2 V) => HO2.out V (HwV.out V hb)
  unfold faceV faceCells at HO1' HO2'
  have HK3 : Hid (∀ w', Below w2.heap.size w2 w' → Below w2.heap.size w2 w' ∧ w'.cell? ⟨w.heap.size, 0, none⟩ = some (.int .i64 d.font.sum) ∧ w'.cell? ⟨w.heap.size, 1, none⟩ = some (.int .i64 d.font.design) ∧ w'.cell? ⟨w.heap.size, 2, none⟩ = some (.int .i64 d.font.first) ∧ w'.cell? ⟨w.heap.size, 3, none⟩ = some (.slice a.font.c d.font.chars.length a.font.cc) ∧ w'.cell? ⟨w.heap.size, 4, none⟩ = some (.slice a.font.w d.font.widths.length a.font.cw) ∧ w'.cell? ⟨w.heap.size, 5, none⟩ = some (.slice a.font.h d.font.heights.length a.font.ch) ∧ w'.cell? ⟨w.heap.size, 6, none⟩ = some (.slice a.font.d d.font.depths.length a.font.cd) ∧ w'.cell? ⟨w.heap.size, 7, none⟩ = some (.slice a.font.i d.font.italics.length a.font.ci) ∧ w'.cell? ⟨w.heap.size, 8, none⟩ = some (.slice a.font.s d.font.steps.length a.font.cs) ∧ w'.cell? ⟨w.heap.size, 9, none⟩ = some (.slice a.font.k d.font.kerns.length a.font.ck) ∧ w'.cell? ⟨w.heap.size, 10, none⟩ = some (.slice a.font.p d.font.params.length a.font.cp) ∧ w'.cell? ⟨w.heap.size, 11, none⟩ = some (.int .i64 d.size) ∧ w'.cell? ⟨w.heap.size, 12, none⟩ = some (.int .i64 d.step) ∧ w'.cell? ⟨w.heap.size, 13, none⟩ = some (.int .i64 d.up) ∧ w'.cell? ⟨w.heap.size, 14, none⟩ = some (.int .i64 d.down) ∧ w'.cell? ⟨w.heap.size, 15, none⟩ = some (.slice a.t d.traits.length a.ct) ∧ w'.cell? ⟨bG, oG, none⟩ = some (.slice (some ⟨b1, o1, none⟩) g0.length k0) ∧ w'.cell? ⟨b1, o1, none⟩ = some (.int .i64 x0.1)) := Lib.hid fun w' hb => by
    obtain ⟨⟨c0, c1, c2, c3, c4, c5, c6, c7, c8, c9, c10⟩, c11, c12, c13, c14, c15⟩ := face_cells (HB0.out.below (H1V.out w' hb))
    exact ⟨hb, c0, c1, c2, c3, c4, c5, c6, c7, c8, c9, c10, c11, c12, c13, c14, c15, later (H1V.out w' hb) HC0.out, later (H1V.out w' hb) HQ0c.out⟩
  have HK4 : Hid (∀ w', Below w2.heap.size w2 w' → Below w2.heap.size w2 w' ∧ w'.cell? ⟨w.heap.size, 0, none⟩ = some (.int .i64 d.font.sum) ∧ w'.cell? ⟨w.heap.size, 1, none⟩ = some (.int .i64 d.font.design) ∧ w'.cell? ⟨w.heap.size, 2, none⟩ = some (.int .i64 d.font.first) ∧ w'.cell? ⟨w.heap.size, 3, none⟩ = some (.slice a.font.c d.font.chars.length a.font.cc) ∧ w'.cell? ⟨w.heap.size, 4, none⟩ = some (.slice a.font.w d.font.widths.length a.font.cw) ∧ w'.cell? ⟨w.heap.size, 5, none⟩ = some (.slice a.font.h d.font.heights.length a.font.ch) ∧ w'.cell? ⟨w.heap.size, 6, none⟩ = some (.slice a.font.d d.font.depths.length a.font.cd) ∧ w'.cell? ⟨w.heap.size, 7, none⟩ = some (.slice a.font.i d.font.italics.length a.font.ci) ∧ w'.cell? ⟨w.heap.size, 8, none⟩ = some (.slice a.font.s d.font.steps.length a.font.cs) ∧ w'.cell? ⟨w.heap.size, 9, none⟩ = some (.slice a.font.k d.font.kerns.length a.font.ck) ∧ w'.cell? ⟨w.heap.size, 10, none⟩ = some (.slice a.font.p d.font.params.length a.font.cp) ∧ w'.cell? ⟨w.heap.size, 11, none⟩ = some (.int .i64 d.size) ∧ w'.cell? ⟨w.heap.size, 12, none⟩ = some (.int .i64 d.step) ∧ w'.cell? ⟨w.heap.size, 13, none⟩ = some (.int .i64 d.up) ∧ w'.cell? ⟨w.heap.size, 14, none⟩ = some (.int .i64 d.down) ∧ w'.cell? ⟨w.heap.size, 15, none⟩ = some (.slice a.t d.traits.length a.ct) ∧ w'.cell? ⟨b9, o9 + M * 2, none⟩ = some (.int .i64 xe.1)) := Lib.hid fun w' hb => by
    obtain ⟨⟨c0, c1, c2, c3, c4, c5, c6, c7, c8, c9, c10⟩, c11, c12, c13, c14, c15⟩ := face_cells (HB0.out.below (H1V.out w' hb))
    exact ⟨hb, c0, c1, c2, c3, c4, c5, c6, c7, c8, c9, c10, c11, c12, c13, c14, c15, later (H1V.out w' hb) HYe.out⟩
  have ce3 : w3.cell? ⟨bG, oG + N, none⟩ = some (.slice (some ⟨b9, o9, none⟩) GE ke) := later (H1V.out w3 HQ3.out) HCe.out
  have eN : IntKind.i64.wrap ((GL : Int) - 1) = (N : Int) := by rw [IntKind.wrap_i64]; omega
  have eN0 : (0 : Int) ≤ (N : Int) := by omega
  have eN1 : (N : Int) < (GL : Int) := by omega
  have eG0 : (0 : Int) < (GL : Int) := by omega
  clear hw3 hpb hw2 HO1 HO2
  go_upto_region 3 with fail
  clear ce3 eN
  go_cut [35] from 35 to 47 (fun v wx => Box wx pb (fitB ⟨lev, NT, LE, 0, 0, 0, false, 0⟩) 46 ∧ Below w2.heap.size w2 wx)
  case first =>
    go_region_held3 (fun w' => Below w2.heap.size w2 w' ∧ w'.cell? ⟨w.heap.size, 0, none⟩ = some (.int .i64 d.font.sum) ∧ w'.cell? ⟨w.heap.size, 1, none⟩ = some (.int .i64 d.font.design) ∧ w'.cell? ⟨w.heap.size, 2, none⟩ = some (.int .i64 d.font.first) ∧ w'.cell? ⟨w.heap.size, 3, none⟩ = some (.slice a.font.c d.font.chars.length a.font.cc) ∧ w'.cell? ⟨w.heap.size, 4, none⟩ = some (.slice a.font.w d.font.widths.length a.font.cw) ∧ w'.cell? ⟨w.heap.size, 5, none⟩ = some (.slice a.font.h d.font.heights.length a.font.ch) ∧ w'.cell? ⟨w.heap.size, 6, none⟩ = some (.slice a.font.d d.font.depths.length a.font.cd) ∧ w'.cell? ⟨w.heap.size, 7, none⟩ = some (.slice a.font.i d.font.italics.length a.font.ci) ∧ w'.cell? ⟨w.heap.size, 8, none⟩ = some (.slice a.font.s d.font.steps.length a.font.cs) ∧ w'.cell? ⟨w.heap.size, 9, none⟩ = some (.slice a.font.k d.font.kerns.length a.font.ck) ∧ w'.cell? ⟨w.heap.size, 10, none⟩ = some (.slice a.font.p d.font.params.length a.font.cp) ∧ w'.cell? ⟨w.heap.size, 11, none⟩ = some (.int .i64 d.size) ∧ w'.cell? ⟨w.heap.size, 12, none⟩ = some (.int .i64 d.step) ∧ w'.cell? ⟨w.heap.size, 13, none⟩ = some (.int .i64 d.up) ∧ w'.cell? ⟨w.heap.size, 14, none⟩ = some (.int .i64 d.down) ∧ w'.cell? ⟨w.heap.size, 15, none⟩ = some (.slice a.t d.traits.length a.ct) ∧ w'.cell? ⟨bG, oG, none⟩ = some (.slice (some ⟨b1, o1, none⟩) g0.length k0) ∧ w'.cell? ⟨b1, o1, none⟩ = some (.int .i64 x0.1))
      (first | exact HK3.out _ hb8 | exact HK3.out _ (by repeat (first | (with_reducible exact HQ3.out) | (with_reducible exact Below.refl _ _) | (with_reducible apply below_drew) | (with_reducible refine below_set ?_ (by exact HpB) _) | (with_reducible refine below_join ?_ (by assumption)) | exact (‹Below w2.heap.size w2 _ ∧ _›.1))))
      (first
        | (go_at_call 86; with_reducible refine (HO1'.out _ (by repeat (first | (with_reducible exact HQ3.out) | (with_reducible exact Below.refl _ _) | (with_reducible apply below_drew) | (with_reducible refine below_set ?_ (by exact HpB) _) | (with_reducible refine below_join ?_ (by assumption)) | exact (‹Below w2.heap.size w2 _ ∧ _›.1)))).mono ?_; rintro e wq ⟨rfl, hbq⟩; (first | (have B6 := HP3.out.below hbq; have z2 := B6.cell 2 rfl; have zf2 := B6.free 2; have HB6 := Lib.hid B6) | (have B6 := HP3.out.drew.below hbq; have z2 := B6.cell 2 rfl; have zf2 := B6.free 2; have HB6 := Lib.hid B6))))

    all_goals (go_wp2_with fail; go_meet)
    all_goals exact ⟨by first | exact HB6.out.set 2 _ | exact HB6.out.drew.set 2 _ | exact (HB6.out.set 2 _).drew | exact (HB6.out.set 2 _).drew.drew | exact (HB6.out.drew.set 2 _).drew, (‹Below w2.heap.size w2 _ ∧ _›).1⟩
  case rest =>
    rename World => w4
    obtain ⟨hp4, hb4⟩ := hcut
    with_reducible apply_assumption
    have HP4 := Lib.hid hp4
    have HQ3 := Lib.hid hb4
    clear hp4
    have eM : IntKind.i64.wrap ((GE : Int) - 1) = (M : Int) := by have := HGE.out; rw [IntKind.wrap_i64]; omega
    have eM0 : (0 : Int) ≤ (M : Int) := by omega
    have eM1 : (M : Int) < (GE : Int) := by have := HGE.out; omega
    go_upto_region 4 with fail
    go_cut [48] from 48 to 61 (fun v wx => Box wx pb (fitB ⟨lev, NT, LE, RI, 0, 0, false, 0⟩) 46 ∧ Below w2.heap.size w2 wx)
    case first =>
      go_region_held3 (fun w' => Below w2.heap.size w2 w' ∧ w'.cell? ⟨w.heap.size, 0, none⟩ = some (.int .i64 d.font.sum) ∧ w'.cell? ⟨w.heap.size, 1, none⟩ = some (.int .i64 d.font.design) ∧ w'.cell? ⟨w.heap.size, 2, none⟩ = some (.int .i64 d.font.first) ∧ w'.cell? ⟨w.heap.size, 3, none⟩ = some (.slice a.font.c d.font.chars.length a.font.cc) ∧ w'.cell? ⟨w.heap.size, 4, none⟩ = some (.slice a.font.w d.font.widths.length a.font.cw) ∧ w'.cell? ⟨w.heap.size, 5, none⟩ = some (.slice a.font.h d.font.heights.length a.font.ch) ∧ w'.cell? ⟨w.heap.size, 6, none⟩ = some (.slice a.font.d d.font.depths.length a.font.cd) ∧ w'.cell? ⟨w.heap.size, 7, none⟩ = some (.slice a.font.i d.font.italics.length a.font.ci) ∧ w'.cell? ⟨w.heap.size, 8, none⟩ = some (.slice a.font.s d.font.steps.length a.font.cs) ∧ w'.cell? ⟨w.heap.size, 9, none⟩ = some (.slice a.font.k d.font.kerns.length a.font.ck) ∧ w'.cell? ⟨w.heap.size, 10, none⟩ = some (.slice a.font.p d.font.params.length a.font.cp) ∧ w'.cell? ⟨w.heap.size, 11, none⟩ = some (.int .i64 d.size) ∧ w'.cell? ⟨w.heap.size, 12, none⟩ = some (.int .i64 d.step) ∧ w'.cell? ⟨w.heap.size, 13, none⟩ = some (.int .i64 d.up) ∧ w'.cell? ⟨w.heap.size, 14, none⟩ = some (.int .i64 d.down) ∧ w'.cell? ⟨w.heap.size, 15, none⟩ = some (.slice a.t d.traits.length a.ct) ∧ w'.cell? ⟨b9, o9 + M * 2, none⟩ = some (.int .i64 xe.1))
        (first | exact HK4.out _ hb8 | exact HK4.out _ (by repeat (first | (with_reducible exact HQ3.out) | (with_reducible exact Below.refl _ _) | (with_reducible apply below_drew) | (with_reducible refine below_set ?_ (by exact HpB) _) | (with_reducible refine below_join ?_ (by assumption)) | exact (‹Below w2.heap.size w2 _ ∧ _›.1))))
        (first
          | (go_at_call 86; with_reducible refine (HO2'.out _ (by repeat (first | (with_reducible exact HQ3.out) | (with_reducible exact Below.refl _ _) | (with_reducible apply below_drew) | (with_reducible refine below_set ?_ (by exact HpB) _) | (with_reducible refine below_join ?_ (by assumption)) | exact (‹Below w2.heap.size w2 _ ∧ _›.1)))).mono ?_; rintro e wq ⟨rfl, hbq⟩; (first | (have B6 := HP4.out.below hbq; have z3 := B6.cell 3 rfl; have zf3 := B6.free 3; have HB6 := Lib.hid B6) | (have B6 := HP4.out.drew.below hbq; have z3 := B6.cell 3 rfl; have zf3 := B6.free 3; have HB6 := Lib.hid B6))))

      all_goals (go_wp2_with fail; go_meet)
      all_goals exact ⟨by first | exact HB6.out.set 3 _ | exact HB6.out.drew.set 3 _ | exact (HB6.out.set 3 _).drew | exact (HB6.out.set 3 _).drew.drew | exact (HB6.out.drew.set 3 _).drew, (‹Below w2.heap.size w2 _ ∧ _›).1⟩
    case rest =>
      rename World => w5
      obtain ⟨hp5, hb5⟩ := hcut
      with_reducible apply_assumption
      have hbx1 := HB1.out.below (H1V.out w5 hb5)
      have l2 : w5.cell? ⟨w.heap.size + 1, 2, none⟩ = some (.int .i64 l.stretch) := hbx1.cell 2 rfl
      have l3 : w5.cell? ⟨w.heap.size + 1, 3, none⟩ = some (.int .i64 l.shrink) := hbx1.cell 3 rfl
      have p1 : w5.cell? ⟨pb, 1, none⟩ = some (.int .i64 NT) := hp5.cell 1 rfl
      have p2 : w5.cell? ⟨pb, 2, none⟩ = some (.int .i64 LE) := hp5.cell 2 rfl
      have p3 : w5.cell? ⟨pb, 3, none⟩ = some (.int .i64 RI) := hp5.cell 3 rfl
      have w1f : IntKind.i64.wrap (long + LE) = long + LE := by rw [← w1e]; simp only [wrap64, IntKind.wrap_i64]; omega
      have w2f : IntKind.i64.wrap (long + LE + RI) = long + LE + RI := by rw [← w2e]; simp only [wrap64, IntKind.wrap_i64]; omega
      have w3f : IntKind.i64.wrap (long + LE + RI - NT) = GAP := by rw [← w3e]; simp only [wrap64, IntKind.wrap_i64]
      have m1f : IntKind.i64.wrap (l.stretch * (N : Int)) = st := by rw [← m1]; simp only [wrap64, IntKind.wrap_i64]
      have m2f : IntKind.i64.wrap (l.shrink * (N : Int)) = sh := by rw [← m2]; simp only [wrap64, IntKind.wrap_i64]
      have eN : IntKind.i64.wrap ((GL : Int) - 1) = (N : Int) := by rw [IntKind.wrap_i64]; omega
      have HP5 := Lib.hid hp5
      have HB5 := Lib.hid (HwV.out w5 hb5)
      have HR5 := Lib.hid (HB2.out.below (H1V.out w5 hb5))
      clear hp5 hb5 hb4 hbx1
      go_upto_region 5 with fail
      go_cut [18] from 62 to 71 (fun v wx => v = .int .i64 GAP ∧ w5 = wx)
      case first =>
        go_wp2_with fail
        go_meet
        exact ⟨rfl, rfl⟩
      case rest =>
        obtain ⟨rfl, rfl⟩ := hcut
        with_reducible apply_assumption
        clear p1 p2 p3 w1f w2f w3f
        go_upto_region 6 with fail
        go_cut [19] from 72 to 77 (fun v wx => v = .int .i64 st ∧ w5 = wx)
        case first =>
          go_wp2_with fail
          go_meet
          exact ⟨rfl, rfl⟩
        case rest =>
          obtain ⟨rfl, rfl⟩ := hcut
          with_reducible apply_assumption
          go_upto_region 7 with fail
          go_cut [20] from 78 to 83 (fun v wx => v = .int .i64 sh ∧ w5 = wx)
          case first =>
            go_wp2_with fail
            go_meet
            exact ⟨rfl, rfl⟩
          case rest =>
            obtain ⟨rfl, rfl⟩ := hcut
            with_reducible apply_assumption
            exact HT.out pb _ w5 HP5.out HR5.out HB5.out (by omega) (by omega) (by omega) _ _ _ _ _ _ _ _ _ _ _ _ _ _ _ _ _ _ _ _ _ _ _ _ _ _ _ _ _ _ _ _ _ _ _ _ _ _ _ _ _ _ _ _ _ _ _ _ _ _ _ _ _ _ _ _ _ _ _ _ _ _ _ _ _ _ _ _ _ _ _ _ _ _ _ _ _ _ _ _ _ _ _ _ _ _ _ _ _ _ _ _ _ _ _ _ _ _ _ _ _ _ _ _ _ _ _ _ _ _ _ _ _ _ _ _ _ _ _ _ _ _ _ _ _ _ _ _ _ _ _
end Go.Proofs.YtndpdbofoojkhaaGreat.Ft
