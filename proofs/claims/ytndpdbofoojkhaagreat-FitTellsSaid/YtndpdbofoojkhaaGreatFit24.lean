/- How a line fits: (*Ruler).Line walked: the loop over levels. -/
import Derived.Test.YtndpdbofoojkhaaGreatFit21
namespace Go.Proofs.YtndpdbofoojkhaaGreat.Ft
open Go.RowKit Go.Proofs.YtndpdbofoojkhaaGreat.Kit Go.Proofs.YtndpdbofoojkhaaGreat.Fo Go.Proofs.YtndpdbofoojkhaaGreat.Lv Go.Proofs.YtndpdbofoojkhaaGreat.Bad
set_option linter.unusedVariables false
set_option linter.unusedSimpArgs false

theorem box_set8 {w : World} {g : Nat} {a0 a1 a2 a3 a4 a5 a6 a7 b0 b1 b2 b3 b4 b5 b6 b7 : Value} {t : TypeId} (h : Box w g #[a0, a1, a2, a3, a4, a5, a6, a7] t) : Box ((((((((w.setCell ⟨g, 0, none⟩ b0).setCell ⟨g, 1, none⟩ b1).setCell ⟨g, 2, none⟩ b2).setCell ⟨g, 3, none⟩ b3).setCell ⟨g, 4, none⟩ b4).setCell ⟨g, 5, none⟩ b5).setCell ⟨g, 6, none⟩ b6).setCell ⟨g, 7, none⟩ b7) g #[b0, b1, b2, b3, b4, b5, b6, b7] t := by
  simpa using ((((((((h.set 0 b0).set 1 b1).set 2 b2).set 3 b3).set 4 b4).set 5 b5).set 6 b6).set 7 b7)
theorem below_set8 {w : World} {g : Nat} (b0 b1 b2 b3 b4 b5 b6 b7 : Value) : Below g w ((((((((w.setCell ⟨g, 0, none⟩ b0).setCell ⟨g, 1, none⟩ b1).setCell ⟨g, 2, none⟩ b2).setCell ⟨g, 3, none⟩ b3).setCell ⟨g, 4, none⟩ b4).setCell ⟨g, 5, none⟩ b5).setCell ⟨g, 6, none⟩ b6).setCell ⟨g, 7, none⟩ b7) :=
  (((((((((Below.refl g w).setCell (p := ⟨g, 0, none⟩) (Nat.le_refl g) b0).setCell (p := ⟨g, 1, none⟩) (Nat.le_refl g) b1).setCell (p := ⟨g, 2, none⟩) (Nat.le_refl g) b2).setCell (p := ⟨g, 3, none⟩) (Nat.le_refl g) b3).setCell (p := ⟨g, 4, none⟩) (Nat.le_refl g) b4).setCell (p := ⟨g, 5, none⟩) (Nat.le_refl g) b5).setCell (p := ⟨g, 6, none⟩) (Nat.le_refl g) b6).setCell (p := ⟨g, 7, none⟩) (Nat.le_refl g) b7)
theorem judge_wf {gap st sh ex : Int} {last : Bool} (h : JudgeOk gap st sh ex) : (Lit.int .i64 (judgeP gap st sh ex last).2.2).wf = true := by
  obtain ⟨h1, h2, h3, h4⟩ := h
  refine wf64 ?_
  unfold judgeP
  split
  · simp
  · split
    · simp only; omega
    · split
      · simp
      · split
        · simp only; omega
        · simp
theorem Rul.on {d : FaceD} {a : FaceA} {r m n B : Nat} {w w' : World} (h : Rul d a r m n w) (hb : Below B w w') (hr : r < B) (hm : m < B) : Rul d a r m n w' := by
  obtain ⟨D, h1, h2⟩ := h.map
  obtain ⟨es, ck, hh, rest⟩ := h1
  exact ⟨(hb.block r hr).trans h.box, h.face.mono (hb.mono (Nat.le_of_lt hm)), h.ne, Nat.lt_of_lt_of_le h.lt hb.size, D, ⟨es, ck, (hb.block m hm).trans hh, rest⟩, h2⟩
theorem Off.then {m B : Nat} {w w1 w2 : World} (h : Off m w w1) (k : Below B w1 w2) (hB : w.heap.size ≤ B) : Off m w w2 :=
  ⟨k.os.trans h.os, k.tape.trans h.tape, k.output.trans h.output, Nat.le_trans h.size k.size, fun i hi hm => (k.block i (Nat.lt_of_lt_of_le hi hB)).trans (h.block i hi hm)⟩
theorem GG.on {B : Nat} {P : Nat → Prop} {w w' : World} {A : Option Addr} {G : List (List (Int × Int))} (h : GG P w A G) (hb : Below B w w') (hP : ∀ b, P b → b < w.heap.size → b < B) : GG P w' A G := h.keep hb.size fun b hp hl => ⟨hb.block b (hP b hp hl), hp⟩
/-- The best place so far. -/
def BestI (f : Nat → FitD) (k n₀ : Nat) (v : Value) (w : World) : Prop := (k = 0 ∧ v = .pointer none) ∨ ∃ b x gx, v = .pointer (some ⟨b, 0, none⟩) ∧ n₀ ≤ b ∧ Box w b (fitC x gx) 71 ∧ bestN f k = some x ∧ (Lit.int .i64 x.defect).wf = true ∧ (Lit.int .i64 x.level).wf = true
set_option maxRecDepth 100000 in
set_option maxHeartbeats 16000000 in
theorem line_main (d : FaceD) (a : FaceA) (r m n : Nat) (l : LayD) (As : Option Addr) (cs : Nat) (Ap : Option Addr) (c : Nat) (P : List (List Int)) (long : Int) (last : Bool) (ex : Int) (w : World) (hf : faceB d = true) (hR : Rul d a r m n w) (hr : r < w.heap.size) {B : Nat} (hB : B ≤ w.heap.size) (hL : LayIn w B l As) (hx : Row (Rep.int .i64).slice w B Ap P) (hl : P.length ≤ 1000) (hs : ∀ x ∈ P, x.length ≤ 1000) (hlE : lineE d l P long ex = 0) (hn : n < 100000000) :
    Calls Tryz.prog 11 #[.pointer (some ⟨r, 0, none⟩), .agg (layCells l As cs), .slice Ap P.length c, .int .i64 long, .bool last, .int .i64 ex] w fun e w' => e = .returned (.tuple #[fitV (lineF d l P long last ex), .int .i64 0]) ∧ Rul d a r m (n + 20000) w' ∧ Off m w w' := by
  have hb0 := (Box.new w (layCells l As cs) 32).alloc (.cells zF 46)
  have hb1 := Box.new (w.alloc (.cells (layCells l As cs) 32)) zF 46
  have hbw := below_alloc (below_alloc (Below.refl w.heap.size w) (.cells (layCells l As cs) 32)) (.cells zF 46)
  simp only [World.size_alloc] at hb1
  obtain ⟨W1, hW⟩ : ∃ W1, (w.alloc (.cells (layCells l As cs) 32)).alloc (.cells zF 46) = W1 := ⟨_, rfl⟩
  rw [hW] at hb0 hb1 hbw
  have HW := Lib.hid hW
  have hs1 := hbw.size
  -- what lineE = 0 says
  have hA : allE d.font P = 0 := by
    by_cases h : allE d.font P = 0
    · exact h
    · rw [lineE, if_neg h] at hlE; exact absurd hlE h
  have hlb : layB l = true := by
    cases h : layB l with
    | true => rfl
    | false => rw [lineE, if_pos hA, h] at hlE; simp at hlE
  have hrange : ¬ (long < 1 ∨ 67108864 < long ∨ ex < 0 ∨ 67108864 < ex) := fun h => by
    rw [lineE, if_pos hA, hlb, if_pos rfl, if_pos h] at hlE; simp at hlE
  obtain ⟨hmay, hallG, hgly⟩ := gly_ok hA
  have HLF : Hid (lineF d l P long last ex = (bestN (fun k => fitAt d l (P.map (setG d.font)) long last ex (-d.down + k)) (levN d)).getD fitZ) := Lib.hid (by rw [lineF, if_pos hlE])
  have HG := Lib.hid (glyphs_any d a r m n Ap c P W1 (hR.off hbw) (Nat.le_trans hB hs1) (hx.mono (hbw.mono hB)) hl hs)
  rw [hA, hallG] at HG
  obtain ⟨G, hG⟩ : ∃ G, P.map (setG d.font) = G := ⟨_, rfl⟩
  rw [hG] at HG HLF hgly
  have HLc := Lib.hid (fun W (hb : Below w.heap.size w W) => lay_any l As cs W (B := B) (Nat.le_trans hB hb.size) (hL.row.mono (hb.mono hB)) hL.wf hL.each hL.len)
  rw [hlb] at HLc
  have HRw := Lib.hid hR
  have HGok := Lib.hid hgly
  have HGw := Lib.hid (gly_wf (lig_tfm (face_ok hf).1) hgly)
  have HBd := Lib.hid (fun lev => gap_ok hf hlb hgly (long := long) (ex := ex) (by omega) (by omega) lev)
  obtain ⟨_, _, _, ⟨u1, u2⟩, ⟨v1, v2⟩, _⟩ := face_ok hf
  obtain ⟨X, hX⟩ : ∃ X, Hid (lineF d l P long last ex = X) := ⟨_, Lib.hid rfl⟩
  rw [hX.out] at HLF ⊢
  obtain ⟨f, hfd⟩ : ∃ f : Nat → FitD, Hid ((fun k : Nat => fitAt d l G long last ex (-d.down + k)) = f) := ⟨_, Lib.hid rfl⟩
  rw [hfd.out] at HLF
  have F1 : (long < 1) = False := eq_false (by omega)
  have F2 : (67108864 < long) = False := eq_false (by omega)
  have F3 : (ex < 0) = False := eq_false (by omega)
  have F4 : (67108864 < ex) = False := eq_false (by omega)
  have HRg := Lib.hid (show (1 ≤ long ∧ long ≤ 67108864) ∧ 0 ≤ ex ∧ ex ≤ 67108864 by omega)
  obtain ⟨g, hg⟩ : ∃ g, w.heap.size = g := ⟨_, rfl⟩
  have HGg := Lib.hid hg
  have hm := hR.lt
  rw [hg] at hb0 hb1
  clear hR hx hL hs hW hg hlE hrange hmay hallG hgly hG hX hA hlb
  go_enter Tryz.func11, Tryz.ntmps11
  go_wp2_with fail
  rw [HW.out]
  with_reducible refine HG.out.mono ?_
  rintro e w2 ⟨Ag, cg, rfl, hgg, hb⟩
  have hw2 := hbw.trans (hb.mono hs1)
  have hbx2 := hb0.below hb
  have hbz2 := hb1.below hb
  have hld := lay_load hbx2
  have HLc2 := Lib.hid (HLc.out w2 hw2)
  obtain ⟨lv, hlv⟩ : ∃ lv, Hid ((Value.agg (layCells l As cs)) = lv) := ⟨_, Lib.hid rfl⟩
  rw [hlv.out] at hld HLc2
  clear HG hb hb0 hb1 HLc HW
  rw [HGg.out]
  go_wp2_with (refine ld_any hld rfl _ rfl rfl ?_)
  with_reducible refine HLc2.out.mono ?_
  rintro e w3 ⟨rfl, hb3⟩
  have hbx3 := hbx2.below hb3
  have hbz3 := hbz2.below hb3
  have hgg3 := hgg.below hb3
  have hw3 := hw2.trans (hb3.mono hw2.size)
  have HR3 := Lib.hid (HRw.out.off hw3)
  clear hld HLc2 hbx2 hbz2 hb3 hw2 hgg
  -- the first and the last glyph
  obtain ⟨N, hN⟩ : ∃ N, G.length = N + 1 := ⟨G.length - 1, by have := HGok.out.one; omega⟩
  obtain ⟨g0, hg0⟩ := at_lt (l := G) (i := 0) (by omega)
  obtain ⟨ge, hge⟩ := at_lt (l := G) (i := N) (by omega)
  obtain ⟨M, hM⟩ : ∃ M, ge.length = M + 1 := ⟨ge.length - 1, by have := HGok.out.some' ge (List.mem_of_getElem? hge); cases ge with | nil => exact absurd rfl this | cons y l => simp⟩
  obtain ⟨x0, hx0⟩ := at_lt (l := g0) (i := 0) (by have := HGok.out.some' g0 (List.mem_of_getElem? hg0); cases g0 with | nil => exact absurd rfl this | cons y l => simp)
  obtain ⟨xe, hxe⟩ := at_lt (l := ge) (i := M) (by omega)
  have HH : Hid (headG G = x0.1) := Lib.hid (by simp only [headG, List.getD_eq_getElem?_getD, hg0, Option.getD_some, hx0])
  have HLs : Hid (lastG G = xe.1) := Lib.hid (by simp only [lastG, hN, Nat.add_sub_cancel, List.getD_eq_getElem?_getD, hge, Option.getD_some, hM, hxe])
  have HW0 := Lib.hid (HGw.out g0 (List.mem_of_getElem? hg0) x0 (List.mem_of_getElem? hx0)).1
  have HWe := Lib.hid (HGw.out ge (List.mem_of_getElem? hge) xe (List.mem_of_getElem? hxe)).1
  have HGG := Lib.hid hgg3
  have hNb : N ≤ 99 := by have := HGok.out.most; omega
  have hMb : M ≤ 400 := by have := flat_each G ge (List.mem_of_getElem? hge); have := HGok.out.flat; omega
  have HG0 := Lib.hid hg0
  have HGe := Lib.hid hge
  have HX0 := Lib.hid hx0
  have HXe := Lib.hid hxe
  have HNN := Lib.hid hN
  have HMM := Lib.hid hM
  obtain ⟨bG, oG, Ae, ce, hAg, hPe, hle, hce, hgpe⟩ := hgg3 N ge hge
  subst hAg
  rw [hM] at hce
  rw [hN]
  clear hg0 hge hx0 hxe hgg3 hN hM hgpe
  go_upto_region 10 with fail
  have HAe : Hid (∃ oe be, Ae = some ⟨be, oe, none⟩) := Lib.hid (by
    obtain ⟨b5, o5, A5, c5, e5, _, _, h5, h6⟩ := HGG.out N ge HGe.out
    injection e5 with e5
    injection e5 with e51 e52
    subst e51 e52
    rw [h5] at hce
    injection hce with hce
    injection hce with hce1 _ _
    obtain ⟨b6, o6, e6, _⟩ := h6 M xe HXe.out
    exact ⟨o6, b6, by rw [← hce1, e6]⟩)
  obtain ⟨oe, be, hAe⟩ := HAe.out
  subst hAe
  have hHe : Hid (∀ w', (∃ A' c', w'.cell? ⟨bG, oG + N, none⟩ = some (.slice A' (M + 1) c') ∧ GP (fun b => W1.heap.size ≤ b) w' A' ge) → w'.cell? ⟨bG, oG + N, none⟩ = some (.slice (some ⟨be, oe, none⟩) (M + 1) ce) → w'.cell? ⟨be, oe + M * 2, none⟩ = some (.int .i64 xe.1)) := Lib.hid (by
    rintro w' ⟨A', c', h1, h2⟩ h3
    rw [h3] at h1
    injection h1 with h1
    injection h1 with h1 _ _
    obtain ⟨b6, o6, e6, _, h7, _⟩ := gly_at h2 HXe.out
    rw [← h1] at e6
    injection e6 with e6
    injection e6 with e61 e62
    subst e61 e62
    exact h7)
  have k14 := (rul_cells HR3.out.box).2.1
  have HQm : Hid (∀ b, W1.heap.size ≤ b → b ≠ m) := Lib.hid (fun b hb => by omega)
  have hgs : g + 1 < w3.heap.size := hbz3.lt
  have hrm := HR3.out.ne
  have HFL := Lib.hid HGok.out.flat
  have HCe := Lib.hid hce
  have hbG : W1.heap.size ≤ bG := hPe
  clear hce HAe hPe
  go_upto_region 11 with fail
  clear k14
  go_loopw [17, 18] (fun v i wr => ∃ (k n' : Nat), k ≤ levN d ∧ i = .int .i64 (-d.down + (k : Int)) ∧ Hid (Rul d a r m n' wr) ∧ Hid (n' ≤ n + k * 1000) ∧ Hid (Off m w3 wr) ∧ Hid (BestI f k w3.heap.size v wr)) (fun _ i _ => (d.up + 10 - intOf i).toNat)
  case atStart => exact ⟨0, n, by omega, by simp, HR3, Lib.hid (by omega), Lib.hid (Off.refl _ _), Lib.hid (.inl ⟨rfl, rfl⟩)⟩
  case round =>
    rename World => wr
    obtain ⟨k, n', hk, rfl, HRr, HNn, HO, HB⟩ := hrel
    have k13 := (rul_cells HRr.out.box).1
    have hlN : (levN d : Int) = d.up + d.down + 1 := by unfold levN; omega
    by_cases hlt : k < levN d
    · have hk17 : k ≤ 17 := by omega
      have hgm : m < g := by have := HGg.out; omega
      obtain ⟨lev, hlev⟩ : ∃ lev, -d.down + (k : Int) = lev := ⟨_, rfl⟩
      have HLev := Lib.hid hlev
      have hlb : -8 ≤ lev ∧ lev ≤ d.up := by omega
      rw [hlev]
      have F9 : (lev ≤ d.up) = True := eq_true (by omega)
      have hbxr := HO.out.box hbx3 (show g ≠ m by omega)
      have l1 : wr.cell? ⟨g, 1, none⟩ = some (.int .i64 l.space) := hbxr.cell 1 rfl
      have hwlev : (Lit.int .i64 lev).wf = true := wf64 (by omega)
      have HGr := HGG.out.off HO.out HQm.out
      have HWd := Lib.hid (wide_any d a r m n' l.space lev (some ⟨bG, oG, none⟩) cg G wr hf HRr.out HQm.out HGr HGw.out hwlev (by have := HGok.out.most; omega) (fun y hy => by have := flat_each G y hy; have := HGok.out.flat; omega) (by have := HFL.out; have := HNn.out; omega))
      rw [HNN.out] at HWd
      obtain ⟨NT, hNT⟩ : ∃ NT, Hid (wideS d l.space G lev = NT) := ⟨_, Lib.hid rfl⟩
      rw [hNT.out] at HWd
      clear HGr hlev hlN
      go_wp2_with fail
      with_reducible refine HWd.out.mono ?_
      rintro e w4 ⟨rfl, hR4, hO4⟩
      have HR4 := Lib.hid hR4
      have HO4 := Lib.hid (HO.out.trans hO4)
      have HO4r := Lib.hid hO4
      have hs4r := hO4.size
      have hs4 := HO4.out.size
      clear HWd hR4 hO4 hbxr l1 k13
      -- the place
      have hbp := Box.new w4 #[.int .i64 lev, .int .i64 NT, .int .i64 0, .int .i64 0, .int .i64 0, .int .i64 0, .bool false, .int .i64 0, .int .i64 0] 71
      have hb4 := below_alloc (Below.refl w4.heap.size w4) (.cells #[.int .i64 lev, .int .i64 NT, .int .i64 0, .int .i64 0, .int .i64 0, .int .i64 0, .bool false, .int .i64 0, .int .i64 0] 71)
      have hmp : w4.heap.size ≠ m := by have := HR4.out.lt; omega
      have HR5 := Lib.hid (HR4.out.off hb4)
      have HB4 := Lib.hid hb4
      obtain ⟨b8, o8, A8, c8, e8, hp8, hl8, h8, gp8⟩ := ((HGG.out.off HO4.out HQm.out).below hb4) 0 g0 HG0.out
      injection e8 with e8
      injection e8 with e81 e82
      subst e81 e82
      obtain ⟨b9, o9, rfl, _, h9, _⟩ := gly_at gp8 HX0.out
      rw [Nat.add_zero] at h8
      rw [Nat.zero_mul, Nat.add_zero] at h9
      have hg0l : 0 < g0.length := by have := (List.getElem?_eq_some_iff.1 HX0.out).1; omega
      have HT2 := Lib.hid (tell_any d a r m _ 2 x0.1 lev _ hf HR5.out (.inr (.inr (.inl rfl))) HW0.out hwlev (by have := HFL.out; have := HNn.out; omega))
      obtain ⟨LE, hLE⟩ : ∃ LE, Hid (tellS d 2 x0.1 lev = LE) := ⟨_, Lib.hid rfl⟩
      rw [hLE.out] at HT2
      clear hb4 gp8
      go_wp2_with fail
      with_reducible refine HT2.out.mono ?_
      rintro e w6 ⟨rfl, hR6, hO6⟩
      have HR6 := Lib.hid hR6
      have HO6 := Lib.hid hO6
      have HBP6 := Lib.hid (hO6.box hbp hmp)
      have hs6 := hO6.size
      rw [World.size_alloc] at hs6
      have p2 : w6.cell? ⟨w4.heap.size, 2, none⟩ = some (.int .i64 0) := HBP6.out.cell 2 rfl
      have f2 := HBP6.out.free 2
      -- the last glyph
      have HB67 : Hid (Below w4.heap.size w6 (w6.setCell ⟨w4.heap.size, 2, none⟩ (.int .i64 LE.1))) := Lib.hid ((Below.refl _ _).setCell (p := ⟨w4.heap.size, 2, none⟩) (Nat.le_refl _) _)
      have hm4 := HR4.out.lt
      have hr4 : r < w4.heap.size := HR4.out.box.lt
      have HR7 := Lib.hid (HR6.out.on HB67.out hr4 hm4)
      have HO46 : Hid (Off m w4 w6) := Lib.hid (((Off.of HB4.out).trans HO6.out))
      have HO37 : Hid (Off m w3 (w6.setCell ⟨w4.heap.size, 2, none⟩ (.int .i64 LE.1))) := Lib.hid ((HO4.out.trans HO46.out).then HB67.out hs4)
      have HO37r : Hid (Off m wr (w6.setCell ⟨w4.heap.size, 2, none⟩ (.int .i64 LE.1))) := Lib.hid ((HO4r.out.trans HO46.out).then HB67.out hs4r)
      obtain ⟨b5, o5, A5, c5, e5, _, _, q5, gp5⟩ := (HGG.out.off HO37.out HQm.out) N ge HGe.out
      injection e5 with e5
      injection e5 with e51 e52
      subst e51 e52
      have hbGl : bG < w3.heap.size := by
        obtain ⟨b, o, A', c', e, _, hl, _⟩ := HGG.out N ge HGe.out
        cases e
        exact hl
      have q5' : (w6.setCell ⟨w4.heap.size, 2, none⟩ (.int .i64 LE.1)).cell? ⟨bG, oG + N, none⟩ = some (.slice (some ⟨be, oe, none⟩) (M + 1) ce) := (World.cell?_of_block (w := w3) (HO37.out.block bG hbGl (by have := HQm.out bG hbG; exact this))).trans HCe.out
      have q9 := hHe.out _ ⟨A5, c5, by rw [HMM.out] at q5; exact q5, gp5⟩ q5'
      have HT3 := Lib.hid (tell_any d a r m _ 3 xe.1 lev _ hf HR7.out (.inr (.inr (.inr rfl))) HWe.out hwlev (by have := HFL.out; have := HNn.out; omega))
      obtain ⟨RI, hRI⟩ : ∃ RI, Hid (tellS d 3 xe.1 lev = RI) := ⟨_, Lib.hid rfl⟩
      rw [hRI.out] at HT3
      have HBP7 := Lib.hid (HBP6.out.set 2 (.int .i64 LE.1))
      clear HT2 hR6 hO6 h8 h9 hbp gp5 q5
      go_wp2_with fail
      with_reducible refine HT3.out.mono ?_
      rintro e w8 ⟨rfl, hR8, hO8⟩
      have HR8 := Lib.hid hR8
      have HO8 := Lib.hid hO8
      have HBP8 := Lib.hid (hO8.box HBP7.out hmp)
      have hs8 := hO8.size
      have p3 : w8.cell? ⟨w4.heap.size, 3, none⟩ = some (.int .i64 0) := HBP8.out.cell 3 rfl
      have f3 := HBP8.out.free 3
      clear HT3 hR8 hO8 p2 f2 q5' q9
      go_upto_region 16 with fail
      have hs48 : w4.heap.size < w8.heap.size := by simp [World.setCell] at hs8; omega
      have HB89 : Hid (Below w4.heap.size w8 (w8.setCell ⟨w4.heap.size, 3, none⟩ (.int .i64 RI.1))) := Lib.hid ((Below.refl _ _).setCell (p := ⟨w4.heap.size, 3, none⟩) (Nat.le_refl _) _)
      have HBP9 := Lib.hid (HBP8.out.set 3 (.int .i64 RI.1))
      have HR9 := Lib.hid (HR8.out.on HB89.out hr4 hm4)
      have HO39 : Hid (Off m w3 (w8.setCell ⟨w4.heap.size, 3, none⟩ (.int .i64 RI.1))) := Lib.hid ((HO37.out.trans HO8.out).then HB89.out hs4)
      have HO39r : Hid (Off m wr (w8.setCell ⟨w4.heap.size, 3, none⟩ (.int .i64 RI.1))) := Lib.hid ((HO37r.out.trans HO8.out).then HB89.out hs4r)
      obtain ⟨w9, hw9⟩ : ∃ w9, w8.setCell ⟨w4.heap.size, 3, none⟩ (.int .i64 RI.1) = w9 := ⟨_, rfl⟩
      have hs9 : w9.heap.size = w8.heap.size := by rw [← hw9]; simp [World.setCell]
      rw [hw9] at HBP9 HR9 HO39 HO39r ⊢
      obtain ⟨pb, hpb⟩ : ∃ pb, w4.heap.size = pb := ⟨_, rfl⟩
      rw [hpb] at HBP9 hm4 hr4 hs4 hs4r hmp hs48 ⊢
      clear hw9 HB89 HBP8 HR8 HO8 p3 f3 HB67 HR7 HO46 HO37 HO37r HO4r HBP7 HBP6 HO6 HR6 hs8 hs6 HR5 HB4 hpb
      obtain ⟨hj1, hj2, hj3, hj4, hj5, hj6, hj7⟩ := HBd.out lev
      rw [HH.out, hLE.out] at hj5
      rw [HLs.out, hRI.out] at hj6
      rw [hNT.out] at hj7
      obtain ⟨GAP, hGAP⟩ : ∃ GAP, long + LE.1 + RI.1 - NT = GAP := ⟨_, rfl⟩
      have HGA : Hid (gapAt d l G long lev = GAP) := Lib.hid (by rw [gapAt, HH.out, HLs.out, hLE.out, hRI.out, hNT.out]; exact hGAP)
      rw [HGA.out] at hj1
      have HJ1 := Lib.hid hj1
      have hrg := HRg.out
      have w1e : wrap64 (long + LE.1) = long + LE.1 := wrap64_at (by omega)
      have w2e : wrap64 (long + LE.1 + RI.1) = long + LE.1 + RI.1 := wrap64_at (by omega)
      have w3e : wrap64 (long + LE.1 + RI.1 - NT) = GAP := by rw [wrap64_at (by omega)]; exact hGAP
      have w1f : IntKind.i64.wrap (long + LE.1) = long + LE.1 := wrap_at (by omega)
      have w2f : IntKind.i64.wrap (long + LE.1 + RI.1) = long + LE.1 + RI.1 := wrap_at (by omega)
      have w3f : IntKind.i64.wrap (long + LE.1 + RI.1 - NT) = GAP := by rw [wrap_at (by omega)]; exact hGAP
      have b1 : w9.cell? ⟨pb, 1, none⟩ = some (.int .i64 NT) := HBP9.out.cell 1 rfl
      have b2 : w9.cell? ⟨pb, 2, none⟩ = some (.int .i64 LE.1) := HBP9.out.cell 2 rfl
      have b3 : w9.cell? ⟨pb, 3, none⟩ = some (.int .i64 RI.1) := HBP9.out.cell 3 rfl
      have b8 : w9.cell? ⟨pb, 8, none⟩ = some (.int .i64 0) := HBP9.out.cell 8 rfl
      have f8 := HBP9.out.free 8
      have HJ2 := Lib.hid (And.intro hj2 (And.intro hj3 hj4))
      clear hj1 hj2 hj3 hj4 hj5 hj6 hj7 hGAP
      go_region
      have HBP10 : Hid (Box (w9.setCell ⟨pb, 8, none⟩ (.int .i64 GAP)).drew pb (placeC lev NT LE.1 RI.1 0 0 false 0 GAP) 71) := Lib.hid (HBP9.out.set 8 (.int .i64 GAP))
      have HB910 : Hid (Below pb w9 (w9.setCell ⟨pb, 8, none⟩ (.int .i64 GAP)).drew) := Lib.hid (((Below.refl _ _).setCell (p := ⟨pb, 8, none⟩) (Nat.le_refl _) _).drew)
      have HR10 := Lib.hid (HR9.out.on HB910.out hr4 hm4)
      have HO10 := Lib.hid (HO39.out.then HB910.out hs4)
      have HO10r := Lib.hid (HO39r.out.then HB910.out hs4r)
      have hs10 : (w9.setCell ⟨pb, 8, none⟩ (.int .i64 GAP)).drew.heap.size = w9.heap.size := by simp [World.setCell, World.drew]
      generalize (w9.setCell ⟨pb, 8, none⟩ (.int .i64 GAP)).drew = w10 at *
      have hbx10 := HO10.out.box hbx3 (show g ≠ m by omega)
      have l2 : w10.cell? ⟨g, 2, none⟩ = some (.int .i64 l.stretch) := hbx10.cell 2 rfl
      have l3 : w10.cell? ⟨g, 3, none⟩ = some (.int .i64 l.shrink) := hbx10.cell 3 rfl
      obtain ⟨⟨a1, a2⟩, ⟨a3, a4⟩, ⟨a5, a6⟩⟩ := HJ2.out
      obtain ⟨st, hst⟩ : ∃ st, l.stretch * (N : Int) = st := ⟨_, rfl⟩
      obtain ⟨sh, hsh⟩ : ∃ sh, l.shrink * (N : Int) = sh := ⟨_, rfl⟩
      have hlen : (G.length : Int) - 1 = (N : Int) := by rw [HNN.out]; push_cast; omega
      have hjo := HJ1.out
      rw [hlen, hst, hsh] at hjo
      have HJO := Lib.hid hjo
      have HXF : Hid (f k = { level := lev, nat := NT, left := LE.1, right := RI.1, bad := (judgeP GAP st sh ex last).1, cls := fitP (judgeP GAP st sh ex last).1 (decide (GAP < 0)), unset := (judgeP GAP st sh ex last).2.1, defect := (judgeP GAP st sh ex last).2.2 }) := Lib.hid (by
        rw [← hfd.out]
        show fitAt d l G long last ex (-d.down + (k : Int)) = _
        rw [HLev.out, fitAt, judgeAt, HGA.out, hlen, hst, hsh, HH.out, HLs.out, hLE.out, hRI.out, hNT.out])
      have m1e : wrap64 st = st := wrap64_at (by have := hjo.2.1; omega)
      have m2e : wrap64 sh = sh := wrap64_at (by have := hjo.2.2.1; omega)
      have m1f : wrap64 (l.stretch * (N : Int)) = st := by rw [hst]; exact m1e
      have m2f : wrap64 (l.shrink * (N : Int)) = sh := by rw [hsh]; exact m2e
      have HJG := Lib.hid (judge_any pb lev NT LE.1 RI.1 GAP st sh ex last w10 HBP10.out HJO.out)
      clear w1e w2e w3e w1f w2f w3f b1 b2 b3 b8 f8 hjo hst hsh hlen m1e m2e hbx10
      go_wp2_with fail
      with_reducible refine HJG.out.mono ?_
      rintro e w11 ⟨⟨rv, rfl⟩, hbp11, hoj⟩
      have hps : pb < w10.heap.size := by omega
      have HBj := Lib.hid (Off.low hoj (Nat.le_of_lt hps))
      have HR11 := Lib.hid (HR10.out.on HBj.out hr4 hm4)
      have HO11 := Lib.hid (HO10.out.then HBj.out hs4)
      have HO11r := Lib.hid (HO10r.out.then HBj.out hs4r)
      have HBP11 : Hid (Box w11 pb (fitC (f k) GAP) 71) := Lib.hid (by rw [HXF.out]; exact hbp11)
      have HDW : Hid ((Lit.int .i64 (f k).defect).wf = true ∧ (Lit.int .i64 (f k).level).wf = true) := Lib.hid (by rw [HXF.out]; exact ⟨judge_wf HJO.out, hwlev⟩)
      have hs11 := HO11.out.size
      have HN11 : Hid (n' + 2 * G.flatten.length + 1 + 1 ≤ n + (k + 1) * 1000) := Lib.hid (by have := HNn.out; have := HFL.out; omega)
      clear hbp11 hoj HJG l2 l3 m1f m2f HXF HB910 HR10 HO10 HO10r HO39 HO39r HR9 HBP9 HBP10
      rcases HB.out with ⟨hk0, hv0⟩ | ⟨b, x, gx, hv0, hbge, hbb, hbn, hxd, hxl⟩
      · subst hk0 hv0
        go_wp2_with fail
        go_roundw
        case rel =>
          refine ⟨1, _, by omega, ?_, HR11, HN11, HO11, Lib.hid (.inr ⟨pb, f 0, GAP, rfl, hs4, HBP11.out, rfl, HDW.out.1, HDW.out.2⟩)⟩
          rw [← HLev.out]
          simp only [Value.int.injEq, true_and]
          omega
        case measure => simp only [intOf]; omega
      · subst hv0
        have hbb11 := HO11r.out.box hbb (show b ≠ m by omega)
        have HBe := Lib.hid (better_any pb b (f k) x GAP gx w11 HBP11.out hbb11 ⟨HDW.out.1, hxd, HDW.out.2, hxl⟩)
        have HBN : Hid (bestN f (k + 1) = if betterP (f k) x then some (f k) else some x) := Lib.hid (by rw [bestN, hbn])
        have HXW := Lib.hid (And.intro hxd hxl)
        have HBB := Lib.hid hbb11
        clear hbb hbn hxd hxl hbb11
        go_wp2_with fail
        with_reducible refine HBe.out.mono ?_
        rintro e w12 ⟨rfl, hb12⟩
        have HR12 := Lib.hid (HR11.out.off hb12)
        have HO12 := Lib.hid (HO11.out.trans (Off.of hb12))
        have HBP12 := Lib.hid (HBP11.out.below hb12)
        have HBB12 := Lib.hid (HBB.out.below hb12)
        clear HBe hb12
        cases hbt : betterP (f k) x with
        | true =>
          rw [hbt] at HBN
          clear hbt
          go_wp2_with fail
          go_roundw
          case rel =>
            refine ⟨k + 1, _, by omega, ?_, HR12, HN11, HO12, Lib.hid (.inr ⟨pb, f k, GAP, rfl, hs4, HBP12.out, by rw [HBN.out]; rfl, HDW.out.1, HDW.out.2⟩)⟩
            rw [← HLev.out]
            simp only [Value.int.injEq, true_and]
            omega
          case measure => simp only [intOf]; omega
        | false =>
          rw [hbt] at HBN
          clear hbt
          go_wp2_with fail
          go_roundw
          case rel =>
            refine ⟨k + 1, _, by omega, ?_, HR12, HN11, HO12, Lib.hid (.inr ⟨b, x, gx, rfl, hbge, HBB12.out, by rw [HBN.out]; rfl, HXW.out.1, HXW.out.2⟩)⟩
            rw [← HLev.out]
            simp only [Value.int.injEq, true_and]
            omega
          case measure => simp only [intOf]; omega
    · have hkN : k = levN d := by omega
      have hN1 : 1 ≤ levN d := by unfold levN; omega
      rcases HB.out with ⟨hk0, _⟩ | ⟨b, x, gx, hv0, hbge, hbb, hbn, _, _⟩
      · omega
      · subst hv0
        have HXx : Hid (X = x) := Lib.hid (by rw [HLF.out, ← hkN, hbn]; rfl)
        have F9 : (-d.down + (k : Int) ≤ d.up) = False := eq_false (by omega)
        have hgm : m < g := by have := HGg.out; omega
        have HBZ := Lib.hid (HO.out.box hbz3 (show g + 1 ≠ m by omega))
        have hbz := HBZ.out
        have hrg1 : r ≠ g + 1 := by have := HGg.out; omega
        have c0 : wr.cell? ⟨b, 0, none⟩ = some (.int .i64 x.level) := hbb.cell 0 rfl
        have c1 : wr.cell? ⟨b, 1, none⟩ = some (.int .i64 x.nat) := hbb.cell 1 rfl
        have c2 : wr.cell? ⟨b, 2, none⟩ = some (.int .i64 x.left) := hbb.cell 2 rfl
        have c3 : wr.cell? ⟨b, 3, none⟩ = some (.int .i64 x.right) := hbb.cell 3 rfl
        have c4 : wr.cell? ⟨b, 4, none⟩ = some (.int .i64 x.bad) := hbb.cell 4 rfl
        have c5 : wr.cell? ⟨b, 5, none⟩ = some (.int .i64 x.cls) := hbb.cell 5 rfl
        have c6 : wr.cell? ⟨b, 6, none⟩ = some (.bool x.unset) := hbb.cell 6 rfl
        have c7 : wr.cell? ⟨b, 7, none⟩ = some (.int .i64 x.defect) := hbb.cell 7 rfl
        have m0 : wr.cell? ⟨g + 1, 0, none⟩ = some (.int .i64 0) := hbz.cell 0 rfl
        have n0 := hbz.free 0
        have m1 : wr.cell? ⟨g + 1, 1, none⟩ = some (.int .i64 0) := hbz.cell 1 rfl
        have n1 := hbz.free 1
        have m2 : wr.cell? ⟨g + 1, 2, none⟩ = some (.int .i64 0) := hbz.cell 2 rfl
        have n2 := hbz.free 2
        have m3 : wr.cell? ⟨g + 1, 3, none⟩ = some (.int .i64 0) := hbz.cell 3 rfl
        have n3 := hbz.free 3
        have m4 : wr.cell? ⟨g + 1, 4, none⟩ = some (.int .i64 0) := hbz.cell 4 rfl
        have n4 := hbz.free 4
        have m5 : wr.cell? ⟨g + 1, 5, none⟩ = some (.int .i64 0) := hbz.cell 5 rfl
        have n5 := hbz.free 5
        have m6 : wr.cell? ⟨g + 1, 6, none⟩ = some (.bool false) := hbz.cell 6 rfl
        have n6 := hbz.free 6
        have m7 : wr.cell? ⟨g + 1, 7, none⟩ = some (.int .i64 0) := hbz.cell 7 rfl
        have n7 := hbz.free 7
        go_wp2_with fail
        have hbe := box_set8 (b0 := .int .i64 x.level) (b1 := .int .i64 x.nat) (b2 := .int .i64 x.left) (b3 := .int .i64 x.right) (b4 := .int .i64 x.bad) (b5 := .int .i64 x.cls) (b6 := .bool x.unset) (b7 := .int .i64 x.defect) HBZ.out
        have hwe := below_set8 (w := wr) (g := g + 1) (.int .i64 x.level) (.int .i64 x.nat) (.int .i64 x.left) (.int .i64 x.right) (.int .i64 x.bad) (.int .i64 x.cls) (.bool x.unset) (.int .i64 x.defect)
        obtain ⟨W5, hW5⟩ : ∃ W5, ((((((((wr.setCell ⟨g + 1, 0, none⟩ (.int .i64 x.level)).setCell ⟨g + 1, 1, none⟩ (.int .i64 x.nat)).setCell ⟨g + 1, 2, none⟩ (.int .i64 x.left)).setCell ⟨g + 1, 3, none⟩ (.int .i64 x.right)).setCell ⟨g + 1, 4, none⟩ (.int .i64 x.bad)).setCell ⟨g + 1, 5, none⟩ (.int .i64 x.cls)).setCell ⟨g + 1, 6, none⟩ (.bool x.unset)).setCell ⟨g + 1, 7, none⟩ (.int .i64 x.defect)) = W5 := ⟨_, rfl⟩
        rw [hW5] at hbe hwe ⊢
        have HWe := Lib.hid hwe
        clear m0 n0 c0 m1 n1 c1 m2 n2 c2 m3 n3 c3 m4 n4 c4 m5 n5 c5 m6 n6 c6 m7 n7 c7 hW5 hwe
        have m0 : W5.cell? ⟨g + 1, 0, none⟩ = some (.int .i64 x.level) := hbe.cell 0 rfl
        have m1 : W5.cell? ⟨g + 1, 1, none⟩ = some (.int .i64 x.nat) := hbe.cell 1 rfl
        have m2 : W5.cell? ⟨g + 1, 2, none⟩ = some (.int .i64 x.left) := hbe.cell 2 rfl
        have m3 : W5.cell? ⟨g + 1, 3, none⟩ = some (.int .i64 x.right) := hbe.cell 3 rfl
        have m4 : W5.cell? ⟨g + 1, 4, none⟩ = some (.int .i64 x.bad) := hbe.cell 4 rfl
        have m5 : W5.cell? ⟨g + 1, 5, none⟩ = some (.int .i64 x.cls) := hbe.cell 5 rfl
        have m6 : W5.cell? ⟨g + 1, 6, none⟩ = some (.bool x.unset) := hbe.cell 6 rfl
        have m7 : W5.cell? ⟨g + 1, 7, none⟩ = some (.int .i64 x.defect) := hbe.cell 7 rfl
        refine bodyPost_ret (v := .tuple #[fitV x, .int .i64 0]) (by simp [results, Tryz.f11, go_sem, m0, m1, m2, m3, m4, m5, m6, m7]) rfl ?_
        have hggw := HGg.out
        refine ⟨by rw [HXx.out], (HRr.out.on HWe.out (by omega) (by omega)).more (by have := HNn.out; omega), ?_⟩
        have ho := HO.out
        have hw3' := hw3
        exact ((Off.of hw3).trans ho).then HWe.out (by omega)
end Go.Proofs.YtndpdbofoojkhaaGreat.Ft
