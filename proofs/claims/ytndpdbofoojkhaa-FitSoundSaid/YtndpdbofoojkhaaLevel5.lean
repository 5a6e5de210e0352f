/- A character's width at a level. -/
import Derived.Test.YtndpdbofoojkhaaLevel4
import Derived.Deep.RegionHeld3
import Derived.Deep.DeepCutAuto
namespace Go.Proofs.Ytndpdbofoojkhaa.Lv
open Go.RowKit Go.Proofs.Ytndpdbofoojkhaa.Kit Go.Proofs.Ytndpdbofoojkhaa.Fo
set_option linter.unusedVariables false
set_option linter.unusedSimpArgs false

def fixOf (d : FontD) (code : Int) : Int := d.widths.getD (widthOf d code).toNat 0
def wideP (d : FaceD) (code n : Int) : Int := IntKind.i64.wrap (fl (fixOf d.font code) d.size 1048576 + fl (fl (fixOf d.font code) d.size 1048576) (IntKind.i64.wrap (IntKind.i64.wrap (clampP d n * d.step) * (traitP d.traits code).2.1)) 1000000)
def widthV (d : FaceD) (code n : Int) : Int × Int := if faceB d then (if hasB d.font code then (wideP d code n, 0) else (0, 80)) else (0, 90)
theorem Box.cell16 {w : World} {g : Nat} {c0 c1 c2 c3 c4 c5 c6 c7 c8 c9 c10 c11 c12 c13 c14 c15 c16 x0 x1 x2 x3 x4 x5 x6 x7 x8 x9 x10 x11 x12 x13 x14 x15 x16 : Value} {t : TypeId} (h : Box w g #[c0, c1, c2, c3, c4, c5, c6, c7, c8, c9, c10, c11, c12, c13, c14, c15, c16] t) :
    Box (((((((((((((((((w.setCell ⟨g, 0, none⟩ x0).setCell ⟨g, 1, none⟩ x1).setCell ⟨g, 2, none⟩ x2).setCell ⟨g, 3, none⟩ x3).setCell ⟨g, 4, none⟩ x4).setCell ⟨g, 5, none⟩ x5).setCell ⟨g, 6, none⟩ x6).setCell ⟨g, 7, none⟩ x7).setCell ⟨g, 8, none⟩ x8).setCell ⟨g, 9, none⟩ x9).setCell ⟨g, 10, none⟩ x10).setCell ⟨g, 11, none⟩ x11).setCell ⟨g, 12, none⟩ x12).setCell ⟨g, 13, none⟩ x13).setCell ⟨g, 14, none⟩ x14).setCell ⟨g, 15, none⟩ x15).setCell ⟨g, 16, none⟩ x16) g #[x0, x1, x2, x3, x4, x5, x6, x7, x8, x9, x10, x11, x12, x13, x14, x15, x16] t := by
  simpa using ((((((((((((((((h.set 0 x0).set 1 x1).set 2 x2).set 3 x3).set 4 x4).set 5 x5).set 6 x6).set 7 x7).set 8 x8).set 9 x9).set 10 x10).set 11 x11).set 12 x12).set 13 x13).set 14 x14).set 15 x15).set 16 x16

set_option maxRecDepth 100000 in
set_option maxHeartbeats 1000000 in
theorem width_no (d : FaceD) (a : FaceA) (code n : Int) (w : World) {B : Nat} (hB : B ≤ w.heap.size) (hF : FaceIn w B d a) (hc : (Lit.int .i64 code).wf = true) (hf : faceB d = false) :
    Calls Try.prog 37 #[faceV d a, .int .i64 code, .int .i64 n] w fun e w' => e = .returned (.tuple #[.int .i64 0, .int .i64 90]) ∧ Below w.heap.size w w' := by
  have hbx := Box.new w (faceCells d a) 29
  have hbw := (Below.refl w.heap.size w).alloc (Nat.le_refl _) (.cells (faceCells d a) 29)
  obtain ⟨W1, hW⟩ : ∃ W1, w.alloc (.cells (faceCells d a) 29) = W1 := ⟨_, rfl⟩
  rw [hW] at hbx hbw
  obtain ⟨⟨c0, c1, c2, c3, c4, c5, c6, c7, c8, c9, c10⟩, c11, c12, c13, c14, c15⟩ := face_cells hbx
  have H := Lib.hid (face_any d a W1 (lt_of_below hB hbw) (hF.mono (hbw.mono hB)))
  have HFF := Lib.hid (fun W (hb : Below w.heap.size w W) => hF.mono (hb.mono hB))
  rw [hf] at H
  clear hf hF HFF
  go_enter Try.func37, Try.ntmps37
  go_wp2_with fail
  with_reducible refine H.out.mono ?_; rintro e w1 ⟨rfl, hb⟩
  have hw1 := hbw.trans (hb.mono hbw.size)
  clear hW H
  go_wp2_with fail
  go_ret2
  exact ⟨rfl, hw1⟩
set_option maxRecDepth 100000 in
set_option maxHeartbeats 1000000 in
theorem width_nochar (d : FaceD) (a : FaceA) (code n : Int) (w : World) {B : Nat} (hB : B ≤ w.heap.size) (hF : FaceIn w B d a) (hc : (Lit.int .i64 code).wf = true) (hf : faceB d = true) (hq : hasB d.font code = false) :
    Calls Try.prog 37 #[faceV d a, .int .i64 code, .int .i64 n] w fun e w' => e = .returned (.tuple #[.int .i64 0, .int .i64 80]) ∧ Below w.heap.size w w' := by
  have hbx := Box.new w (faceCells d a) 29
  have hbw := (Below.refl w.heap.size w).alloc (Nat.le_refl _) (.cells (faceCells d a) 29)
  obtain ⟨W1, hW⟩ : ∃ W1, w.alloc (.cells (faceCells d a) 29) = W1 := ⟨_, rfl⟩
  rw [hW] at hbx hbw
  obtain ⟨⟨c0, c1, c2, c3, c4, c5, c6, c7, c8, c9, c10⟩, c11, c12, c13, c14, c15⟩ := face_cells hbx
  have H := Lib.hid (face_any d a W1 (lt_of_below hB hbw) (hF.mono (hbw.mono hB)))
  have HFF := Lib.hid (fun W (hb : Below w.heap.size w W) => hF.mono (hb.mono hB))
  rw [hf] at H
  obtain ⟨hlig, hsz, hst, hu, hd, hwt⟩ := face_ok hf
  have htfm := lig_tfm hlig
  have hH : Hid (∀ W, Below w.heap.size w W → _) := Lib.hid fun W (hb : Below w.heap.size w W) => thas_any d.font a.font code W (B := B) (lt_of_below hB hb) (HFF.out W hb).font hc
  rw [htfm] at hH
  have HT := Lib.hid htfm
  go_enter Try.func37, Try.ntmps37
  go_wp2_with fail
  with_reducible refine H.out.mono ?_; rintro e w1 ⟨rfl, hb⟩
  have hw1 := hbw.trans (hb.mono hbw.size)
  have hbx1 := hbx.below hb
  clear hW H hb hF c0 c1 c2 c3 c4 c5 c6 c7 c8 c9 c10 c11 c12 c13 c14 c15 hbw hbx hf hlig hwt htfm
  obtain ⟨⟨c0, c1, c2, c3, c4, c5, c6, c7, c8, c9, c10⟩, c11, c12, c13, c14, c15⟩ := face_cells hbx1
  have hH1 := hH.out w1 hw1
  clear hH
  rw [hq] at hH1
  clear hq
  go_wp2_with fail
  with_reducible refine hH1.mono ?_; rintro e w2 ⟨rfl, hb⟩
  have hw2 := hw1.trans (hb.mono hw1.size)
  clear hH1 hb c0 c1 c2 c3 c4 c5 c6 c7 c8 c9 c10 c11 c12 c13 c14 c15 hw1 hbx1
  go_wp2_with fail
  go_ret2
  exact ⟨rfl, hw2⟩
end Go.Proofs.Ytndpdbofoojkhaa.Lv
