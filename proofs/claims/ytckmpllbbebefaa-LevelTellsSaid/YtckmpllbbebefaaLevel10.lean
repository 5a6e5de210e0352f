/- A face as an argument; few of each. -/
import Derived.Test.YtckmpllbbebefaaLevel9
namespace Go.Proofs.Ytckmpllbbebefaa.Lv
open Go.RowKit Go.Proofs.Ytckmpllbbebefaa.Kit Go.Proofs.Ytckmpllbbebefaa.Fo
set_option linter.unusedVariables false
set_option linter.unusedSimpArgs false

abbrev FontT := Int × Int × Int × List CharT × List Int × List Int × List Int × List Int × List StepT × List Int × List Int
abbrev FaceT := FontT × Int × Int × Int × Int × List StepT
abbrev fontR : Rep FontT := (Rep.seq (Rep.int .i64) (Rep.seq (Rep.int .i64) (Rep.seq (Rep.int .i64) (Rep.seq (Rep.slice (Rep.seq (Rep.int .i64) (Rep.seq (Rep.int .i64) (Rep.seq (Rep.int .i64) (Rep.seq (Rep.int .i64) (Rep.seq (Rep.int .i64) (Rep.int .i64))))))) (Rep.seq (Rep.slice (Rep.int .i64)) (Rep.seq (Rep.slice (Rep.int .i64)) (Rep.seq (Rep.slice (Rep.int .i64)) (Rep.seq (Rep.slice (Rep.int .i64)) (Rep.seq (Rep.slice (Rep.seq (Rep.int .i64) (Rep.seq (Rep.int .i64) (Rep.seq (Rep.int .i64) (Rep.int .i64))))) (Rep.seq (Rep.slice (Rep.int .i64)) (Rep.slice (Rep.int .i64))))))))))))
abbrev faceR : Rep FaceT := (Rep.seq fontR (Rep.seq (Rep.int .i64) (Rep.seq (Rep.int .i64) (Rep.seq (Rep.int .i64) (Rep.seq (Rep.int .i64) (Rep.slice (Rep.seq (Rep.int .i64) (Rep.seq (Rep.int .i64) (Rep.seq (Rep.int .i64) (Rep.int .i64))))))))))
theorem face_of {w : World} {B : Nat} {cs : Array Value} {x : FaceT} (h : faceR.K w B cs.toList x) : ∃ d a, cs = faceCells d a ∧ FaceIn w B d a := by
  obtain ⟨⟨x0, x1, x2, x3, x4, x5, x6, x7, x8, x9, x10⟩, y0, y1, y2, y3, y4⟩ := x
  obtain ⟨p, q, hcs, hp, hq⟩ := h
  obtain ⟨fu0, fv0, rfl, ⟨rfl, fw0⟩, ⟨fu1, fv1, rfl, ⟨rfl, fw1⟩, ⟨fu2, fv2, rfl, ⟨rfl, fw2⟩, ⟨fu3, fv3, rfl, ⟨fA3, fc3, rfl, fl3, fm3, fr3⟩, ⟨fu4, fv4, rfl, ⟨fA4, fc4, rfl, fl4, fm4, fr4⟩, ⟨fu5, fv5, rfl, ⟨fA5, fc5, rfl, fl5, fm5, fr5⟩, ⟨fu6, fv6, rfl, ⟨fA6, fc6, rfl, fl6, fm6, fr6⟩, ⟨fu7, fv7, rfl, ⟨fA7, fc7, rfl, fl7, fm7, fr7⟩, ⟨fu8, fv8, rfl, ⟨fA8, fc8, rfl, fl8, fm8, fr8⟩, ⟨fu9, fv9, rfl, ⟨fA9, fc9, rfl, fl9, fm9, fr9⟩, ⟨fA10, fc10, rfl, fl10, fm10, fr10⟩⟩⟩⟩⟩⟩⟩⟩⟩⟩⟩ := hp
  obtain ⟨gu0, gv0, rfl, ⟨rfl, gw0⟩, ⟨gu1, gv1, rfl, ⟨rfl, gw1⟩, ⟨gu2, gv2, rfl, ⟨rfl, gw2⟩, ⟨gu3, gv3, rfl, ⟨rfl, gw3⟩, ⟨gA4, gc4, rfl, gl4, gm4, gr4⟩⟩⟩⟩⟩ := hq
  refine ⟨{ font := { sum := x0, design := x1, first := x2, chars := x3, widths := x4, heights := x5, depths := x6, italics := x7, steps := x8, kerns := x9, params := x10 }, size := y0, step := y1, up := y2, down := y3, traits := y4 },
    { font := { c := fA3, w := fA4, h := fA5, d := fA6, i := fA7, s := fA8, k := fA9, p := fA10, cc := fc3, cw := fc4, ch := fc5, cd := fc6, ci := fc7, cs := fc8, ck := fc9, cp := fc10 }, t := gA4, ct := gc4 }, arr_of hcs, ?_⟩
  exact ⟨⟨fw0, fw1, fw2, fr3, fr4, fr5, fr6, fr7, fr8, fr9, fr10, Nat.le_trans fl3 fm3, Nat.le_trans fl4 fm4, Nat.le_trans fl5 fm5, Nat.le_trans fl6 fm6, Nat.le_trans fl7 fm7, Nat.le_trans fl8 fm8, Nat.le_trans fl9 fm9, Nat.le_trans fl10 fm10⟩, gw0, gw1, gw2, gw3, gr4, Nat.le_trans gl4 gm4⟩

/-! ### Few of each -/
def fewF (d : FontD) : Bool := decide (d.chars.length ≤ 300) && decide (d.steps.length ≤ 300) && decide (d.widths.length ≤ 300) && decide (d.heights.length ≤ 300) && decide (d.depths.length ≤ 300) && decide (d.italics.length ≤ 300) && decide (d.kerns.length ≤ 300) && decide (d.params.length ≤ 300)
def fewB (d : FaceD) : Bool := fewF d.font && decide (d.traits.length ≤ 300)
set_option maxHeartbeats 2000000 in
theorem fewf_any (d : FontD) (a : FontA) (w : World) :
    Calls Try.prog 22 #[fontV d a] w fun e w' => e = .returned (.bool (fewF d)) ∧ Below w.heap.size w w' := by
  have hbx := Box.new w (fontCells d a) 26
  have hbw := (Below.refl w.heap.size w).alloc (Nat.le_refl _) (.cells (fontCells d a) 26)
  obtain ⟨W, hW⟩ : ∃ W, w.alloc (.cells (fontCells d a) 26) = W := ⟨_, rfl⟩
  rw [hW] at hbx hbw
  obtain ⟨c0, c1, c2, c3, c4, c5, c6, c7, c8, c9, c10⟩ := font_cells hbx
  obtain ⟨res, hres⟩ : ∃ r, Hid (fewF d = r) := ⟨_, Lib.hid rfl⟩
  have HR : Hid _ := Lib.hid hres.out
  rw [hres.out]
  unfold fewF at HR
  clear hres
  by_cases h0 : d.chars.length ≤ 300
  · have F0 : ((d.chars.length : Int) ≤ 300) = True := eq_true (by omega)
    by_cases h1 : d.steps.length ≤ 300
    · have F1 : ((d.steps.length : Int) ≤ 300) = True := eq_true (by omega)
      by_cases h2 : d.widths.length ≤ 300
      · have F2 : ((d.widths.length : Int) ≤ 300) = True := eq_true (by omega)
        by_cases h3 : d.heights.length ≤ 300
        · have F3 : ((d.heights.length : Int) ≤ 300) = True := eq_true (by omega)
          by_cases h4 : d.depths.length ≤ 300
          · have F4 : ((d.depths.length : Int) ≤ 300) = True := eq_true (by omega)
            by_cases h5 : d.italics.length ≤ 300
            · have F5 : ((d.italics.length : Int) ≤ 300) = True := eq_true (by omega)
              by_cases h6 : d.kerns.length ≤ 300
              · have F6 : ((d.kerns.length : Int) ≤ 300) = True := eq_true (by omega)
                by_cases h7 : d.params.length ≤ 300
                · have F7 : ((d.params.length : Int) ≤ 300) = True := eq_true (by omega)
                  go_enter Try.func22, Try.ntmps22
                  go_wp2_with fail
                  go_ret
                  exact ⟨ret_bool rfl (by rw [← HR.out]; simp; try omega), hbw⟩
                · have F7 : ((d.params.length : Int) ≤ 300) = False := eq_false (by omega)
                  go_enter Try.func22, Try.ntmps22
                  go_wp2_with fail
                  go_ret
                  exact ⟨ret_bool rfl (by rw [← HR.out]; simp; try omega), hbw⟩
              · have F6 : ((d.kerns.length : Int) ≤ 300) = False := eq_false (by omega)
                go_enter Try.func22, Try.ntmps22
                go_wp2_with fail
                go_ret
                exact ⟨ret_bool rfl (by rw [← HR.out]; simp; try omega), hbw⟩
            · have F5 : ((d.italics.length : Int) ≤ 300) = False := eq_false (by omega)
              go_enter Try.func22, Try.ntmps22
              go_wp2_with fail
              go_ret
              exact ⟨ret_bool rfl (by rw [← HR.out]; simp; try omega), hbw⟩
          · have F4 : ((d.depths.length : Int) ≤ 300) = False := eq_false (by omega)
            go_enter Try.func22, Try.ntmps22
            go_wp2_with fail
            go_ret
            exact ⟨ret_bool rfl (by rw [← HR.out]; simp; try omega), hbw⟩
        · have F3 : ((d.heights.length : Int) ≤ 300) = False := eq_false (by omega)
          go_enter Try.func22, Try.ntmps22
          go_wp2_with fail
          go_ret
          exact ⟨ret_bool rfl (by rw [← HR.out]; simp; try omega), hbw⟩
      · have F2 : ((d.widths.length : Int) ≤ 300) = False := eq_false (by omega)
        go_enter Try.func22, Try.ntmps22
        go_wp2_with fail
        go_ret
        exact ⟨ret_bool rfl (by rw [← HR.out]; simp; try omega), hbw⟩
    · have F1 : ((d.steps.length : Int) ≤ 300) = False := eq_false (by omega)
      go_enter Try.func22, Try.ntmps22
      go_wp2_with fail
      go_ret
      exact ⟨ret_bool rfl (by rw [← HR.out]; simp; try omega), hbw⟩
  · have F0 : ((d.chars.length : Int) ≤ 300) = False := eq_false (by omega)
    go_enter Try.func22, Try.ntmps22
    go_wp2_with fail
    go_ret
    exact ⟨ret_bool rfl (by rw [← HR.out]; simp; try omega), hbw⟩
theorem few_any (d : FaceD) (a : FaceA) (w : World) :
    Calls Try.prog 10 #[faceV d a] w fun e w' => e = .returned (.bool (fewB d)) ∧ Below w.heap.size w w' := by
  have hbx := Box.new w (faceCells d a) 29
  have hbw := (Below.refl w.heap.size w).alloc (Nat.le_refl _) (.cells (faceCells d a) 29)
  obtain ⟨W1, hW⟩ : ∃ W1, w.alloc (.cells (faceCells d a) 29) = W1 := ⟨_, rfl⟩
  rw [hW] at hbx hbw
  obtain ⟨⟨c0, c1, c2, c3, c4, c5, c6, c7, c8, c9, c10⟩, c11, c12, c13, c14, c15⟩ := face_cells hbx
  have H := Lib.hid (fewf_any d.font a.font W1)
  unfold fewB
  generalize fewF d.font = q at *
  go_enter Try.func10, Try.ntmps10
  go_wp2_with fail
  with_reducible refine H.out.mono ?_; rintro e w1 ⟨rfl, hb⟩
  have hw1 := hbw.trans (hb.mono hbw.size)
  have hbx1 := hbx.below hb
  clear hW H hb c0 c1 c2 c3 c4 c5 c6 c7 c8 c9 c10 c11 c12 c13 c14 c15 hbw hbx
  have c15 : w1.cell? ⟨w.heap.size, 15, none⟩ = some (.slice a.t d.traits.length a.ct) := hbx1.cell 15 rfl
  clear hbx1
  cases q with
  | false =>
    go_wp2_with fail
    go_ret
    exact ⟨ret_bool rfl (by simp), hw1⟩
  | true =>
    go_wp2_with fail
    go_ret
    exact ⟨ret_bool rfl (by simp; omega), hw1⟩
end Go.Proofs.Ytckmpllbbebefaa.Lv
