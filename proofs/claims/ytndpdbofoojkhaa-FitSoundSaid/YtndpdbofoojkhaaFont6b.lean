/- Whether a font has a character: tfm.Has. -/
import Derived.Test.YtndpdbofoojkhaaFont6
namespace Go.Proofs.Ytndpdbofoojkhaa.Fo
open Go.RowKit Go.Proofs.Ytndpdbofoojkhaa.Kit
set_option linter.unusedVariables false
set_option linter.unusedSimpArgs false

set_option maxHeartbeats 1000000 in
theorem thas_any (d : FontD) (a : FontA) (code : Int) (w : World) {B : Nat} (hB : B ≤ w.heap.size) (hF : FontIn w B d a) (hw : (Lit.int .i64 code).wf = true) :
    Calls Try.prog 54 #[fontV d a, .int .i64 code] w fun e w' => e = .returned (.bool (tfmB d && hasB d code)) ∧ Below w.heap.size w w' := by
  obtain ⟨i1, i2⟩ := i64_of hw
  clear hw
  obtain ⟨res, hres⟩ : ∃ r, Hid ((tfmB d && hasB d code) = r) := ⟨_, Lib.hid rfl⟩
  have hres' := hres.out
  rw [hres.out]
  clear hres
  have hbx := Box.new w (fontCells d a) 26
  have hbw := (Below.refl w.heap.size w).alloc (Nat.le_refl _) (.cells (fontCells d a) 26)
  obtain ⟨W, hW⟩ : ∃ W, w.alloc (.cells (fontCells d a) 26) = W := ⟨_, rfl⟩
  rw [hW] at hbx hbw
  obtain ⟨c0, c1, c2, c3, c4, c5, c6, c7, c8, c9, c10⟩ := font_cells hbx
  have H := Lib.hid (check_any d a W (B := B) (Nat.le_trans hB hbw.size) (hF.mono (hbw.mono hB)))
  have HF := Lib.hid (show ∀ w1, Below W.heap.size W w1 → FontIn w1 B d a from fun w1 hb => (hF.mono (hbw.mono hB)).mono (hb.mono (Nat.le_trans hB hbw.size)))
  clear hF
  cases ht : tfmB d with
  | false =>
    rw [ht] at H hres'
    have HE : Hid (false = res) := Lib.hid (by rw [← hres']; rfl)
    clear hres' ht HF
    go_enter Try.func54, Try.ntmps54
    go_wp2_with fail
    with_reducible refine H.out.mono ?_; rintro e w1 ⟨rfl, hb⟩
    clear hW
    have hb2 := hbw.trans (hb.mono hbw.size)
    go_wp2_with fail
    go_ret
    exact ⟨ret_bool rfl HE.out, hb2⟩
  | true =>
    rw [ht] at H hres'
    obtain ⟨s1, s2, s3, s4, s5, s6, s7⟩ := tfm_sizes ht
    unfold hasB at hres'
    have HR := Lib.hid hres'
    clear hres' ht s2 s3 s7
    go_enter Try.func54, Try.ntmps54
    go_wp2_with fail
    with_reducible refine H.out.mono ?_; rintro e w1 ⟨rfl, hb⟩
    clear hW
    have hb2 := hbw.trans (hb.mono hbw.size)
    have hbx1 := hbx.below hb
    clear c0 c1 c2 c3 c4 c5 c6 c7 c8 c9 c10
    obtain ⟨c0, c1, c2, c3, c4, c5, c6, c7, c8, c9, c10⟩ := font_cells hbx1
    have HF1 := Lib.hid (HF.out w1 hb)
    clear H HF hbx hbx1 hbw hb c4 c5 c6 c7 c8 c9 c10 c0 c1
    by_cases h1 : d.first ≤ code
    · obtain ⟨k, rfl⟩ : ∃ k : Nat, code = d.first + k := ⟨(code - d.first).toNat, by omega⟩
      by_cases h2 : k < d.chars.length
      · obtain ⟨c, hc⟩ := at_lt h2
        have HE : Hid (decide (0 < c.1) = res) := Lib.hid (by
          rw [← HR.out]
          have e : (d.first + (k : Int) - d.first).toNat = k := by omega
          have x1 : decide (d.first ≤ d.first + (k : Int)) = true := decide_eq_true (by omega)
          have x2 : decide (d.first + (k : Int) < d.first + (d.chars.length : Int)) = true := decide_eq_true (by omega)
          rw [x1, x2]
          simp [widthOf, e, List.getD_eq_getElem?_getD, hc])
        obtain ⟨b, o, hA, hb, ⟨hc0, _⟩, hwc, _⟩ := char_at HF1.out.chars hc
        rw [show k = (d.first + (k : Int) - d.first).toNat by omega] at hc0
        clear HR hc HF1
        go_wp2_with fail
        all_goals (go_ret; exact ⟨ret_bool rfl HE.out, hb2⟩)
      · have HE : Hid (false = res) := Lib.hid (by rw [← HR.out]; simp; omega)
        clear HR HF1
        go_wp2_with fail
        all_goals (go_ret; exact ⟨ret_bool rfl HE.out, hb2⟩)
    · have HE : Hid (false = res) := Lib.hid (by rw [← HR.out]; simp; omega)
      clear HR HF1
      go_wp2_with fail
      all_goals (go_ret; exact ⟨ret_bool rfl HE.out, hb2⟩)
end Go.Proofs.Ytndpdbofoojkhaa.Fo
