/- Whether a font has a character. -/
import Derived.Test.YtndpdbofoojkhaaFont5
namespace Go.Proofs.Ytndpdbofoojkhaa.Fo
open Go.RowKit Go.Proofs.Ytndpdbofoojkhaa.Kit
set_option linter.unusedVariables false
set_option linter.unusedSimpArgs false

theorem cells_alloc (d : FontD) (a : FontA) (w : World) : ∀ {b i : Nat} {v : Value}, w.cell? ⟨b, i, none⟩ = some v → (w.alloc (.cells (fontCells d a) 26)).cell? ⟨b, i, none⟩ = some v := fun h => old_cell _ h
set_option maxHeartbeats 1000000 in
theorem has_any (d : FontD) (a : FontA) (code : Int) (w : World) {B : Nat} (hB : B ≤ w.heap.size) (hF : FontIn w B d a) (ht : tfmB d = true) (hw : (Lit.int .i64 code).wf = true) :
    Calls Try.prog 48 #[fontV d a, .int .i64 code] w fun e w' => e = .returned (.bool (hasB d code)) ∧ Below w.heap.size w w' := by
  obtain ⟨s1, s2, s3, s4, s5, s6, s7⟩ := tfm_sizes ht
  obtain ⟨i1, i2⟩ := i64_of hw
  clear ht hw s2 s3 s7
  obtain ⟨res, hres⟩ : ∃ r, Hid (hasB d code = r) := ⟨_, Lib.hid rfl⟩
  have hres' := hres.out
  rw [hres.out]
  clear hres
  unfold hasB at hres'
  have hbx := Box.new w (fontCells d a) 26
  have hbw := (Below.refl w.heap.size w).alloc (Nat.le_refl _) (.cells (fontCells d a) 26)
  obtain ⟨W, hW⟩ : ∃ W, w.alloc (.cells (fontCells d a) 26) = W := ⟨_, rfl⟩
  rw [hW] at hbx hbw
  obtain ⟨c0, c1, c2, c3, c4, c5, c6, c7, c8, c9, c10⟩ := font_cells hbx
  by_cases h1 : d.first ≤ code
  · obtain ⟨k, rfl⟩ : ∃ k : Nat, code = d.first + k := ⟨(code - d.first).toNat, by omega⟩
    by_cases h2 : k < d.chars.length
    · obtain ⟨c, hc⟩ := at_lt h2
      have HE : Hid (decide (0 < c.1) = res) := Lib.hid (by
        rw [← hres']
        have e : (d.first + (k : Int) - d.first).toNat = k := by omega
        have x1 : decide (d.first ≤ d.first + (k : Int)) = true := decide_eq_true (by omega)
        have x2 : decide (d.first + (k : Int) < d.first + (d.chars.length : Int)) = true := decide_eq_true (by omega)
        rw [x1, x2]
        simp [widthOf, e, List.getD_eq_getElem?_getD, hc])
      obtain ⟨b, o, hA, hb, ⟨hc0, _⟩, hwc, _⟩ := char_at hF.chars hc
      have hc0' : W.cell? ⟨b, o + k * 6, none⟩ = some (.int .i64 c.1) := by rw [← hW]; exact old_cell _ hc0
      rw [show k = (d.first + (k : Int) - d.first).toNat by omega] at hc0'
      have hW' : w.alloc (.cells #[.int .i64 d.sum, .int .i64 d.design, .int .i64 d.first, .slice (some ⟨b, o, none⟩) d.chars.length a.cc, .slice a.w d.widths.length a.cw, .slice a.h d.heights.length a.ch, .slice a.d d.depths.length a.cd, .slice a.i d.italics.length a.ci, .slice a.s d.steps.length a.cs, .slice a.k d.kerns.length a.ck, .slice a.p d.params.length a.cp] 26) = W := by rw [← hA]; exact hW
      clear hW
      clear hres' hc hF hc0
      go_enter Try.func48, Try.ntmps48
      go_wp2_with fail
      all_goals (go_ret; exact ⟨ret_bool rfl HE.out, hbw⟩)
    · have HE : Hid (false = res) := Lib.hid (by rw [← hres']; simp; omega)
      clear hres' hF
      go_enter Try.func48, Try.ntmps48
      go_wp2_with fail
      all_goals (go_ret; exact ⟨ret_bool rfl HE.out, hbw⟩)
  · have HE : Hid (false = res) := Lib.hid (by rw [← hres']; simp; omega)
    clear hres' hF
    go_enter Try.func48, Try.ntmps48
    go_wp2_with fail
    all_goals (go_ret; exact ⟨ret_bool rfl HE.out, hbw⟩)
end Go.Proofs.Ytndpdbofoojkhaa.Fo
