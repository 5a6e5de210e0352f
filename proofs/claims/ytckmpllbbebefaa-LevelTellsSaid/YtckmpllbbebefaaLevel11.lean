/- The statement LevelClamps: a level beyond what a face may have is as its last one. -/
import Derived.Test.YtckmpllbbebefaaLevel10
namespace Go.Proofs.Ytckmpllbbebefaa.Lv
open Go.RowKit Go.Proofs.Ytckmpllbbebefaa.Kit Go.Proofs.Ytckmpllbbebefaa.Fo
set_option linter.unusedVariables false
set_option linter.unusedSimpArgs false

theorem clamp_in {d : FaceD} (h : faceB d = true) (n : Int) : -d.down ≤ clampP d n ∧ clampP d n ≤ d.up := by
  obtain ⟨_, _, _, h1, h2, _⟩ := face_ok h
  unfold clampP
  omega
theorem clamp_idem {d : FaceD} (h : faceB d = true) (n : Int) : clampP d (clampP d n) = clampP d n := by
  obtain ⟨h1, h2⟩ := clamp_in h n
  generalize clampP d n = k at *
  unfold clampP
  omega
theorem width_clamp {d : FaceD} (h : faceB d = true) (code n : Int) : widthV d code (clampP d n) = widthV d code n := by
  unfold widthV wideP
  rw [clamp_idem h]
theorem kern_clamp {d : FaceD} (h : faceB d = true) (x n : Int) : kernV d x (clampP d n) = kernV d x n := by
  unfold kernV kernP
  rw [clamp_idem h]
theorem edges_clamp {d : FaceD} (h : faceB d = true) (code n : Int) : edgesV d code (clampP d n) = edgesV d code n := by
  unfold edgesV
  rw [width_clamp h]
theorem edges_err (d : FaceD) (code n : Int) : (edgesV d code n).2.2 = (widthV d code n).2 := by
  unfold edgesV
  split
  · rename_i h; exact h.symm
  · rfl
theorem width_bad {d : FaceD} (h : faceB d = false) (code n : Int) : widthV d code n = (0, 90) := by unfold widthV; rw [h]; rfl
theorem kern_bad' {d : FaceD} (h : faceB d = false) (x n : Int) : kernV d x n = (0, 90) := by unfold kernV; rw [h]; rfl
theorem edges_bad {d : FaceD} (h : faceB d = false) (code n : Int) : edgesV d code n = (0, 0, 90) := by unfold edgesV; rw [width_bad h]; rfl
theorem ld_box {w W : World} {g : Nat} {d : FaceD} {a : FaceA} {fv : Value} (hfv : faceV d a = fv) (h : Box w g (faceCells d a) 29) (hb : Below w.heap.size w W) : (Instr.loadAt 29 (.pointer (some ⟨g, 0, none⟩))).run Try.prog W = .ok fv W := by
  rw [← hfv]; exact load_face (h.below hb)

theorem nine {n0 n1 n2 n3 n4 n5 n6 n7 n8 : Nat} (h : ¬ (n0 ≤ 300 ∧ n1 ≤ 300 ∧ n2 ≤ 300 ∧ n3 ≤ 300 ∧ n4 ≤ 300 ∧ n5 ≤ 300 ∧ n6 ≤ 300 ∧ n7 ≤ 300 ∧ n8 ≤ 300)) : (300 < n0) ∨ (n0 ≤ 300 ∧ 300 < n1) ∨ (n0 ≤ 300 ∧ n1 ≤ 300 ∧ 300 < n2) ∨ (n0 ≤ 300 ∧ n1 ≤ 300 ∧ n2 ≤ 300 ∧ 300 < n3) ∨ (n0 ≤ 300 ∧ n1 ≤ 300 ∧ n2 ≤ 300 ∧ n3 ≤ 300 ∧ 300 < n4) ∨ (n0 ≤ 300 ∧ n1 ≤ 300 ∧ n2 ≤ 300 ∧ n3 ≤ 300 ∧ n4 ≤ 300 ∧ 300 < n5) ∨ (n0 ≤ 300 ∧ n1 ≤ 300 ∧ n2 ≤ 300 ∧ n3 ≤ 300 ∧ n4 ≤ 300 ∧ n5 ≤ 300 ∧ 300 < n6) ∨ (n0 ≤ 300 ∧ n1 ≤ 300 ∧ n2 ≤ 300 ∧ n3 ≤ 300 ∧ n4 ≤ 300 ∧ n5 ≤ 300 ∧ n6 ≤ 300 ∧ 300 < n7) ∨ (n0 ≤ 300 ∧ n1 ≤ 300 ∧ n2 ≤ 300 ∧ n3 ≤ 300 ∧ n4 ≤ 300 ∧ n5 ≤ 300 ∧ n6 ≤ 300 ∧ n7 ≤ 300 ∧ 300 < n8) := by
  by_cases g0 : n0 ≤ 300
  rotate_left
  · exact Or.inl (Nat.lt_of_not_le g0)
  by_cases g1 : n1 ≤ 300
  rotate_left
  · exact Or.inr (Or.inl (⟨g0, Nat.lt_of_not_le g1⟩))
  by_cases g2 : n2 ≤ 300
  rotate_left
  · exact Or.inr (Or.inr (Or.inl (⟨g0, g1, Nat.lt_of_not_le g2⟩)))
  by_cases g3 : n3 ≤ 300
  rotate_left
  · exact Or.inr (Or.inr (Or.inr (Or.inl (⟨g0, g1, g2, Nat.lt_of_not_le g3⟩))))
  by_cases g4 : n4 ≤ 300
  rotate_left
  · exact Or.inr (Or.inr (Or.inr (Or.inr (Or.inl (⟨g0, g1, g2, g3, Nat.lt_of_not_le g4⟩)))))
  by_cases g5 : n5 ≤ 300
  rotate_left
  · exact Or.inr (Or.inr (Or.inr (Or.inr (Or.inr (Or.inl (⟨g0, g1, g2, g3, g4, Nat.lt_of_not_le g5⟩))))))
  by_cases g6 : n6 ≤ 300
  rotate_left
  · exact Or.inr (Or.inr (Or.inr (Or.inr (Or.inr (Or.inr (Or.inl (⟨g0, g1, g2, g3, g4, g5, Nat.lt_of_not_le g6⟩)))))))
  by_cases g7 : n7 ≤ 300
  rotate_left
  · exact Or.inr (Or.inr (Or.inr (Or.inr (Or.inr (Or.inr (Or.inr (Or.inl (⟨g0, g1, g2, g3, g4, g5, g6, Nat.lt_of_not_le g7⟩))))))))
  by_cases g8 : n8 ≤ 300
  rotate_left
  · exact Or.inr (Or.inr (Or.inr (Or.inr (Or.inr (Or.inr (Or.inr (Or.inr ((⟨g0, g1, g2, g3, g4, g5, g6, g7, Nat.lt_of_not_le g8⟩)))))))))
  exact absurd ⟨g0, g1, g2, g3, g4, g5, g6, g7, g8⟩ h
set_option maxRecDepth 100000 in
set_option maxHeartbeats 4000000 in
theorem clamps_long (d : FaceD) (a : FaceA) (code x n : Int) (w : World) (hF : FaceIn w w.heap.size d a) (hc : (Lit.int .i64 code).wf = true) (hx : (Lit.int .i64 x).wf = true) (hl : (300 < d.font.chars.length) ∨ (d.font.chars.length ≤ 300 ∧ 300 < d.font.widths.length) ∨ (d.font.chars.length ≤ 300 ∧ d.font.widths.length ≤ 300 ∧ 300 < d.font.heights.length) ∨ (d.font.chars.length ≤ 300 ∧ d.font.widths.length ≤ 300 ∧ d.font.heights.length ≤ 300 ∧ 300 < d.font.depths.length) ∨ (d.font.chars.length ≤ 300 ∧ d.font.widths.length ≤ 300 ∧ d.font.heights.length ≤ 300 ∧ d.font.depths.length ≤ 300 ∧ 300 < d.font.italics.length) ∨ (d.font.chars.length ≤ 300 ∧ d.font.widths.length ≤ 300 ∧ d.font.heights.length ≤ 300 ∧ d.font.depths.length ≤ 300 ∧ d.font.italics.length ≤ 300 ∧ 300 < d.font.steps.length) ∨ (d.font.chars.length ≤ 300 ∧ d.font.widths.length ≤ 300 ∧ d.font.heights.length ≤ 300 ∧ d.font.depths.length ≤ 300 ∧ d.font.italics.length ≤ 300 ∧ d.font.steps.length ≤ 300 ∧ 300 < d.font.kerns.length) ∨ (d.font.chars.length ≤ 300 ∧ d.font.widths.length ≤ 300 ∧ d.font.heights.length ≤ 300 ∧ d.font.depths.length ≤ 300 ∧ d.font.italics.length ≤ 300 ∧ d.font.steps.length ≤ 300 ∧ d.font.kerns.length ≤ 300 ∧ 300 < d.font.params.length) ∨ (d.font.chars.length ≤ 300 ∧ d.font.widths.length ≤ 300 ∧ d.font.heights.length ≤ 300 ∧ d.font.depths.length ≤ 300 ∧ d.font.italics.length ≤ 300 ∧ d.font.steps.length ≤ 300 ∧ d.font.kerns.length ≤ 300 ∧ d.font.params.length ≤ 300 ∧ 300 < d.traits.length)) :
    Calls Try.prog 8 #[faceV d a, .int .i64 code, .int .i64 x, .int .i64 n] w fun e w' => e = .returned (.bool true) ∧ Below w.heap.size w w' := by
  have hbx := Box.new w (faceCells d a) 29
  have hbw := (Below.refl w.heap.size w).alloc (Nat.le_refl _) (.cells (faceCells d a) 29)
  obtain ⟨W, hW⟩ : ∃ W, w.alloc (.cells (faceCells d a) 29) = W := ⟨_, rfl⟩
  rw [hW] at hbx hbw
  go_enter Try.func8, Try.ntmps8
  go_wp2_with fail
  with_reducible refine (awake_any _).mono ?_; rintro e w1 ⟨rfl, hb⟩
  have hw1 := hbw.trans (hb.mono hbw.size)
  have hbx1 := hbx.below hb
  clear hW hb hbx hbw
  obtain ⟨⟨c0, c1, c2, c3, c4, c5, c6, c7, c8, c9, c10⟩, c11, c12, c13, c14, c15⟩ := face_cells hbx1
  clear c0 c1 c2 c11 c12 c13 c14 hbx1
  rcases hl with l0 | ⟨l0, l1⟩ | ⟨l0, l1, l2⟩ | ⟨l0, l1, l2, l3⟩ | ⟨l0, l1, l2, l3, l4⟩ | ⟨l0, l1, l2, l3, l4, l5⟩ | ⟨l0, l1, l2, l3, l4, l5, l6⟩ | ⟨l0, l1, l2, l3, l4, l5, l6, l7⟩ | ⟨l0, l1, l2, l3, l4, l5, l6, l7, l8⟩
  · have F0 : ((300 : Int) < (d.font.chars.length : Int)) = True := eq_true (by omega)
    go_wp2_with fail
    go_ret
    exact ⟨rfl, hw1⟩
  · have F0 : ((300 : Int) < (d.font.chars.length : Int)) = False := eq_false (by omega)
    have F1 : ((300 : Int) < (d.font.widths.length : Int)) = True := eq_true (by omega)
    go_wp2_with fail
    go_ret
    exact ⟨rfl, hw1⟩
  · have F0 : ((300 : Int) < (d.font.chars.length : Int)) = False := eq_false (by omega)
    have F1 : ((300 : Int) < (d.font.widths.length : Int)) = False := eq_false (by omega)
    have F2 : ((300 : Int) < (d.font.heights.length : Int)) = True := eq_true (by omega)
    go_wp2_with fail
    go_ret
    exact ⟨rfl, hw1⟩
  · have F0 : ((300 : Int) < (d.font.chars.length : Int)) = False := eq_false (by omega)
    have F1 : ((300 : Int) < (d.font.widths.length : Int)) = False := eq_false (by omega)
    have F2 : ((300 : Int) < (d.font.heights.length : Int)) = False := eq_false (by omega)
    have F3 : ((300 : Int) < (d.font.depths.length : Int)) = True := eq_true (by omega)
    go_wp2_with fail
    go_ret
    exact ⟨rfl, hw1⟩
  · have F0 : ((300 : Int) < (d.font.chars.length : Int)) = False := eq_false (by omega)
    have F1 : ((300 : Int) < (d.font.widths.length : Int)) = False := eq_false (by omega)
    have F2 : ((300 : Int) < (d.font.heights.length : Int)) = False := eq_false (by omega)
    have F3 : ((300 : Int) < (d.font.depths.length : Int)) = False := eq_false (by omega)
    have F4 : ((300 : Int) < (d.font.italics.length : Int)) = True := eq_true (by omega)
    go_wp2_with fail
    go_ret
    exact ⟨rfl, hw1⟩
  · have F0 : ((300 : Int) < (d.font.chars.length : Int)) = False := eq_false (by omega)
    have F1 : ((300 : Int) < (d.font.widths.length : Int)) = False := eq_false (by omega)
    have F2 : ((300 : Int) < (d.font.heights.length : Int)) = False := eq_false (by omega)
    have F3 : ((300 : Int) < (d.font.depths.length : Int)) = False := eq_false (by omega)
    have F4 : ((300 : Int) < (d.font.italics.length : Int)) = False := eq_false (by omega)
    have F5 : ((300 : Int) < (d.font.steps.length : Int)) = True := eq_true (by omega)
    go_wp2_with fail
    go_ret
    exact ⟨rfl, hw1⟩
  · have F0 : ((300 : Int) < (d.font.chars.length : Int)) = False := eq_false (by omega)
    have F1 : ((300 : Int) < (d.font.widths.length : Int)) = False := eq_false (by omega)
    have F2 : ((300 : Int) < (d.font.heights.length : Int)) = False := eq_false (by omega)
    have F3 : ((300 : Int) < (d.font.depths.length : Int)) = False := eq_false (by omega)
    have F4 : ((300 : Int) < (d.font.italics.length : Int)) = False := eq_false (by omega)
    have F5 : ((300 : Int) < (d.font.steps.length : Int)) = False := eq_false (by omega)
    have F6 : ((300 : Int) < (d.font.kerns.length : Int)) = True := eq_true (by omega)
    go_wp2_with fail
    go_ret
    exact ⟨rfl, hw1⟩
  · have F0 : ((300 : Int) < (d.font.chars.length : Int)) = False := eq_false (by omega)
    have F1 : ((300 : Int) < (d.font.widths.length : Int)) = False := eq_false (by omega)
    have F2 : ((300 : Int) < (d.font.heights.length : Int)) = False := eq_false (by omega)
    have F3 : ((300 : Int) < (d.font.depths.length : Int)) = False := eq_false (by omega)
    have F4 : ((300 : Int) < (d.font.italics.length : Int)) = False := eq_false (by omega)
    have F5 : ((300 : Int) < (d.font.steps.length : Int)) = False := eq_false (by omega)
    have F6 : ((300 : Int) < (d.font.kerns.length : Int)) = False := eq_false (by omega)
    have F7 : ((300 : Int) < (d.font.params.length : Int)) = True := eq_true (by omega)
    go_wp2_with fail
    go_ret
    exact ⟨rfl, hw1⟩
  · have F0 : ((300 : Int) < (d.font.chars.length : Int)) = False := eq_false (by omega)
    have F1 : ((300 : Int) < (d.font.widths.length : Int)) = False := eq_false (by omega)
    have F2 : ((300 : Int) < (d.font.heights.length : Int)) = False := eq_false (by omega)
    have F3 : ((300 : Int) < (d.font.depths.length : Int)) = False := eq_false (by omega)
    have F4 : ((300 : Int) < (d.font.italics.length : Int)) = False := eq_false (by omega)
    have F5 : ((300 : Int) < (d.font.steps.length : Int)) = False := eq_false (by omega)
    have F6 : ((300 : Int) < (d.font.kerns.length : Int)) = False := eq_false (by omega)
    have F7 : ((300 : Int) < (d.font.params.length : Int)) = False := eq_false (by omega)
    have F8 : ((300 : Int) < (d.traits.length : Int)) = True := eq_true (by omega)
    go_wp2_with fail
    go_ret
    exact ⟨rfl, hw1⟩
set_option maxRecDepth 100000 in
set_option maxHeartbeats 8000000 in
theorem clamps_yes (d : FaceD) (a : FaceA) (code x n : Int) (w : World) (hF : FaceIn w w.heap.size d a) (hc : (Lit.int .i64 code).wf = true) (hx : (Lit.int .i64 x).wf = true) (hl : d.font.chars.length ≤ 300 ∧ d.font.widths.length ≤ 300 ∧ d.font.heights.length ≤ 300 ∧ d.font.depths.length ≤ 300 ∧ d.font.italics.length ≤ 300 ∧ d.font.steps.length ≤ 300 ∧ d.font.kerns.length ≤ 300 ∧ d.font.params.length ≤ 300 ∧ d.traits.length ≤ 300) (hf : faceB d = true) :
    Calls Try.prog 8 #[faceV d a, .int .i64 code, .int .i64 x, .int .i64 n] w fun e w' => e = .returned (.bool true) ∧ Below w.heap.size w w' := by
  have hbx := Box.new w (faceCells d a) 29
  have hbw := (Below.refl w.heap.size w).alloc (Nat.le_refl _) (.cells (faceCells d a) 29)
  obtain ⟨W, hW⟩ : ∃ W, w.alloc (.cells (faceCells d a) 29) = W := ⟨_, rfl⟩
  rw [hW] at hbx hbw
  obtain ⟨l0, l1, l2, l3, l4, l5, l6, l7, l8⟩ := hl
  have F0 : ((300 : Int) < (d.font.chars.length : Int)) = False := eq_false (by omega)
  have F1 : ((300 : Int) < (d.font.widths.length : Int)) = False := eq_false (by omega)
  have F2 : ((300 : Int) < (d.font.heights.length : Int)) = False := eq_false (by omega)
  have F3 : ((300 : Int) < (d.font.depths.length : Int)) = False := eq_false (by omega)
  have F4 : ((300 : Int) < (d.font.italics.length : Int)) = False := eq_false (by omega)
  have F5 : ((300 : Int) < (d.font.steps.length : Int)) = False := eq_false (by omega)
  have F6 : ((300 : Int) < (d.font.kerns.length : Int)) = False := eq_false (by omega)
  have F7 : ((300 : Int) < (d.font.params.length : Int)) = False := eq_false (by omega)
  have F8 : ((300 : Int) < (d.traits.length : Int)) = False := eq_false (by omega)
  obtain ⟨fv, hfv⟩ : ∃ v, faceV d a = v := ⟨_, rfl⟩
  obtain ⟨⟨v, e0⟩, hv⟩ : ∃ r, widthV d code n = r := ⟨_, rfl⟩
  obtain ⟨⟨u, e1⟩, hu⟩ : ∃ r, kernV d x n = r := ⟨_, rfl⟩
  obtain ⟨⟨p, q, e2⟩, hp⟩ : ∃ r, edgesV d code n = r := ⟨_, rfl⟩
  have he := edges_err d code n
  rw [hv, hp] at he
  obtain rfl : e2 = e0 := he
  have hv' := width_clamp hf code n
  have hu' := kern_clamp hf x n
  have hp' := edges_clamp hf code n
  have hk' := clamp_idem hf n
  obtain ⟨k1, k2⟩ := clamp_in hf n
  obtain ⟨_, _, _, hup, hdn, _⟩ := face_ok hf
  rw [hv] at hv'
  rw [hu] at hu'
  rw [hp] at hp'
  obtain ⟨k, hk⟩ : ∃ k, clampP d n = k := ⟨_, rfl⟩
  rw [hk] at hv' hu' hp' hk' k1 k2
  have h1 : Hid (∀ V, Below W.heap.size W V → Calls Try.prog 19 #[fv, .int .i64 n] V fun e w' => e = .returned (.int .i64 k) ∧ Below V.heap.size V w') := Lib.hid fun V hb => by rw [← hfv]; exact clamp_c (by rw [hf]; exact hk) V (Nat.le_trans hbw.size hb.size) (hF.mono (hbw.trans (hb.mono hbw.size)))
  have h2 : Hid (∀ V, Below W.heap.size W V → Calls Try.prog 11 #[fv, .int .i64 code, .int .i64 n] V fun e w' => e = .returned (.tuple #[.int .i64 v, .int .i64 e2]) ∧ Below V.heap.size V w') := Lib.hid fun V hb => by rw [← hfv]; exact width_c hv V (Nat.le_trans hbw.size hb.size) (hF.mono (hbw.trans (hb.mono hbw.size))) hc
  have h3 : Hid (∀ V, Below W.heap.size W V → Calls Try.prog 11 #[fv, .int .i64 code, .int .i64 k] V fun e w' => e = .returned (.tuple #[.int .i64 v, .int .i64 e2]) ∧ Below V.heap.size V w') := Lib.hid fun V hb => by rw [← hfv]; exact width_c hv' V (Nat.le_trans hbw.size hb.size) (hF.mono (hbw.trans (hb.mono hbw.size))) hc
  have h4 : Hid (∀ V, Below W.heap.size W V → Calls Try.prog 13 #[fv, .int .i64 x, .int .i64 n] V fun e w' => e = .returned (.tuple #[.int .i64 u, .int .i64 e1]) ∧ Below V.heap.size V w') := Lib.hid fun V hb => by rw [← hfv]; exact kern_c hu V (Nat.le_trans hbw.size hb.size) (hF.mono (hbw.trans (hb.mono hbw.size)))
  have h5 : Hid (∀ V, Below W.heap.size W V → Calls Try.prog 13 #[fv, .int .i64 x, .int .i64 k] V fun e w' => e = .returned (.tuple #[.int .i64 u, .int .i64 e1]) ∧ Below V.heap.size V w') := Lib.hid fun V hb => by rw [← hfv]; exact kern_c hu' V (Nat.le_trans hbw.size hb.size) (hF.mono (hbw.trans (hb.mono hbw.size)))
  have h6 : Hid (∀ V, Below W.heap.size W V → Calls Try.prog 15 #[fv, .int .i64 code, .int .i64 n] V fun e w' => e = .returned (.tuple #[.int .i64 p, .int .i64 q, .int .i64 e2]) ∧ Below V.heap.size V w') := Lib.hid fun V hb => by rw [← hfv]; exact edges_c hp V (Nat.le_trans hbw.size hb.size) (hF.mono (hbw.trans (hb.mono hbw.size))) hc
  have h7 : Hid (∀ V, Below W.heap.size W V → Calls Try.prog 15 #[fv, .int .i64 code, .int .i64 k] V fun e w' => e = .returned (.tuple #[.int .i64 p, .int .i64 q, .int .i64 e2]) ∧ Below V.heap.size V w') := Lib.hid fun V hb => by rw [← hfv]; exact edges_c hp' V (Nat.le_trans hbw.size hb.size) (hF.mono (hbw.trans (hb.mono hbw.size))) hc
  have h8 : Hid (∀ V, Below W.heap.size W V → Calls Try.prog 17 #[fv] V fun e w' => e = .returned (.bool true) ∧ Below V.heap.size V w') := Lib.hid fun V hb => by rw [← hfv]; exact face_c hf V (Nat.le_trans hbw.size hb.size) (hF.mono (hbw.trans (hb.mono hbw.size)))
  have h9 : Hid (∀ V, Below W.heap.size W V → Calls Try.prog 19 #[faceV d a, .int .i64 k] V fun e w' => e = .returned (.int .i64 k) ∧ Below V.heap.size V w') := Lib.hid fun V hb => clamp_c (by rw [hf]; exact hk') V (Nat.le_trans hbw.size hb.size) (hF.mono (hbw.trans (hb.mono hbw.size)))
  have HLd : Hid (∀ V, Below W.heap.size W V → _) := Lib.hid fun V hb => ld_box hfv hbx hb
  clear hfv hF hf hc hx hv hu hp hv' hu' hp' hk' hk hup
  go_enter Try.func8, Try.ntmps8
  go_wp2_with fail
  with_reducible refine (awake_any _).mono ?_; rintro e w1 ⟨rfl, hb⟩
  have b0 := hb
  obtain ⟨⟨c0, c1, c2, c3, c4, c5, c6, c7, c8, c9, c10⟩, c11, c12, c13, c14, c15⟩ := face_cells (hbx.below hb)
  clear c0 c1 c2 c11 c12 c13 c14 hb hW
  go_upto_region 4 with fail
  clear c3 c4 c5 c6 c7 c8 c9 c10 c15 l0 l1 l2 l3 l4 l5 l6 l7 l8 F0 F1 F2 F3 F4 F5 F6 F7 F8
  have ld := HLd.out _ b0
  go_wp2_with (refine ld_law ld rfl _ rfl rfl ?_)
  with_reducible refine (h1.out _ b0).mono ?_; rintro e w2 ⟨rfl, hb⟩
  have b1 := below_join b0 hb
  clear hb b0 h1 ld
  have ld := HLd.out _ b1
  go_wp2_with (refine ld_law ld rfl _ rfl rfl ?_)
  with_reducible refine (h2.out _ b1).mono ?_; rintro e w3 ⟨rfl, hb⟩
  have b2 := below_join b1 hb
  clear hb b1 h2 ld
  have ld := HLd.out _ b2
  go_wp2_with (refine ld_law ld rfl _ rfl rfl ?_)
  with_reducible refine (h3.out _ b2).mono ?_; rintro e w4 ⟨rfl, hb⟩
  have b3 := below_join b2 hb
  clear hb b2 h3 ld
  have ld := HLd.out _ b3
  go_wp2_with (refine ld_law ld rfl _ rfl rfl ?_)
  with_reducible refine (h4.out _ b3).mono ?_; rintro e w5 ⟨rfl, hb⟩
  have b4 := below_join b3 hb
  clear hb b3 h4 ld
  have ld := HLd.out _ b4
  go_wp2_with (refine ld_law ld rfl _ rfl rfl ?_)
  with_reducible refine (h5.out _ b4).mono ?_; rintro e w6 ⟨rfl, hb⟩
  have b5 := below_join b4 hb
  clear hb b4 h5 ld
  have ld := HLd.out _ b5
  go_wp2_with (refine ld_law ld rfl _ rfl rfl ?_)
  with_reducible refine (h6.out _ b5).mono ?_; rintro e w7 ⟨rfl, hb⟩
  have b6 := below_join b5 hb
  clear hb b5 h6 ld
  have ld := HLd.out _ b6
  go_wp2_with (refine ld_law ld rfl _ rfl rfl ?_)
  with_reducible refine (h7.out _ b6).mono ?_; rintro e w8 ⟨rfl, hb⟩
  have b7 := below_join b6 hb
  clear hb b6 h7 ld
  have ld := HLd.out _ b7
  go_wp2_with (refine ld_law ld rfl _ rfl rfl ?_)
  with_reducible refine (h8.out _ b7).mono ?_; rintro e w9 ⟨rfl, hb⟩
  have b8 := below_join b7 hb
  clear hb b7 h8 ld
  obtain ⟨⟨c0, c1, c2, c3, c4, c5, c6, c7, c8, c9, c10⟩, c11, c12, c13, c14, c15⟩ := face_cells (hbx.below b8)
  clear HLd
  go_wp2_with fail
  with_reducible refine (h9.out _ b8).mono ?_; rintro e w10 ⟨rfl, hb⟩
  have b9 := below_join b8 hb
  clear hb b8 h9 c0 c1 c2 c3 c4 c5 c6 c7 c8 c9 c10 c11 c12 c13 c14 c15
  obtain ⟨_, c11, c12, c13, c14, c15⟩ := face_cells (hbx.below b9)
  clear hbx c11 c12 c15
  have G1 : (-d.down ≤ k) = True := eq_true k1
  have G2 : (k ≤ d.up) = True := eq_true k2
  clear k1 k2
  go_wp2_with fail
  go_ret
  exact ⟨rfl, hbw.trans (b9.mono hbw.size)⟩
set_option maxRecDepth 100000 in
set_option maxHeartbeats 8000000 in
theorem clamps_no (d : FaceD) (a : FaceA) (code x n : Int) (w : World) (hF : FaceIn w w.heap.size d a) (hc : (Lit.int .i64 code).wf = true) (hx : (Lit.int .i64 x).wf = true) (hl : d.font.chars.length ≤ 300 ∧ d.font.widths.length ≤ 300 ∧ d.font.heights.length ≤ 300 ∧ d.font.depths.length ≤ 300 ∧ d.font.italics.length ≤ 300 ∧ d.font.steps.length ≤ 300 ∧ d.font.kerns.length ≤ 300 ∧ d.font.params.length ≤ 300 ∧ d.traits.length ≤ 300) (hf : faceB d = false) :
    Calls Try.prog 8 #[faceV d a, .int .i64 code, .int .i64 x, .int .i64 n] w fun e w' => e = .returned (.bool true) ∧ Below w.heap.size w w' := by
  have hbx := Box.new w (faceCells d a) 29
  have hbw := (Below.refl w.heap.size w).alloc (Nat.le_refl _) (.cells (faceCells d a) 29)
  obtain ⟨W, hW⟩ : ∃ W, w.alloc (.cells (faceCells d a) 29) = W := ⟨_, rfl⟩
  rw [hW] at hbx hbw
  obtain ⟨l0, l1, l2, l3, l4, l5, l6, l7, l8⟩ := hl
  have F0 : ((300 : Int) < (d.font.chars.length : Int)) = False := eq_false (by omega)
  have F1 : ((300 : Int) < (d.font.widths.length : Int)) = False := eq_false (by omega)
  have F2 : ((300 : Int) < (d.font.heights.length : Int)) = False := eq_false (by omega)
  have F3 : ((300 : Int) < (d.font.depths.length : Int)) = False := eq_false (by omega)
  have F4 : ((300 : Int) < (d.font.italics.length : Int)) = False := eq_false (by omega)
  have F5 : ((300 : Int) < (d.font.steps.length : Int)) = False := eq_false (by omega)
  have F6 : ((300 : Int) < (d.font.kerns.length : Int)) = False := eq_false (by omega)
  have F7 : ((300 : Int) < (d.font.params.length : Int)) = False := eq_false (by omega)
  have F8 : ((300 : Int) < (d.traits.length : Int)) = False := eq_false (by omega)
  obtain ⟨fv, hfv⟩ : ∃ v, faceV d a = v := ⟨_, rfl⟩
  have h1 : Hid (∀ V, Below W.heap.size W V → Calls Try.prog 19 #[fv, .int .i64 n] V fun e w' => e = .returned (.int .i64 0) ∧ Below V.heap.size V w') := Lib.hid fun V hb => by rw [← hfv]; exact clamp_c (by rw [hf]; rfl) V (Nat.le_trans hbw.size hb.size) (hF.mono (hbw.trans (hb.mono hbw.size)))
  have h2 : Hid (∀ V, Below W.heap.size W V → Calls Try.prog 11 #[fv, .int .i64 code, .int .i64 n] V fun e w' => e = .returned (.tuple #[.int .i64 0, .int .i64 90]) ∧ Below V.heap.size V w') := Lib.hid fun V hb => by rw [← hfv]; exact width_c (width_bad hf _ _) V (Nat.le_trans hbw.size hb.size) (hF.mono (hbw.trans (hb.mono hbw.size))) hc
  have h3 : Hid (∀ V, Below W.heap.size W V → Calls Try.prog 11 #[fv, .int .i64 code, .int .i64 0] V fun e w' => e = .returned (.tuple #[.int .i64 0, .int .i64 90]) ∧ Below V.heap.size V w') := Lib.hid fun V hb => by rw [← hfv]; exact width_c (width_bad hf _ _) V (Nat.le_trans hbw.size hb.size) (hF.mono (hbw.trans (hb.mono hbw.size))) hc
  have h4 : Hid (∀ V, Below W.heap.size W V → Calls Try.prog 13 #[fv, .int .i64 x, .int .i64 n] V fun e w' => e = .returned (.tuple #[.int .i64 0, .int .i64 90]) ∧ Below V.heap.size V w') := Lib.hid fun V hb => by rw [← hfv]; exact kern_c (kern_bad' hf _ _) V (Nat.le_trans hbw.size hb.size) (hF.mono (hbw.trans (hb.mono hbw.size)))
  have h5 : Hid (∀ V, Below W.heap.size W V → Calls Try.prog 13 #[fv, .int .i64 x, .int .i64 0] V fun e w' => e = .returned (.tuple #[.int .i64 0, .int .i64 90]) ∧ Below V.heap.size V w') := Lib.hid fun V hb => by rw [← hfv]; exact kern_c (kern_bad' hf _ _) V (Nat.le_trans hbw.size hb.size) (hF.mono (hbw.trans (hb.mono hbw.size)))
  have h6 : Hid (∀ V, Below W.heap.size W V → Calls Try.prog 15 #[fv, .int .i64 code, .int .i64 n] V fun e w' => e = .returned (.tuple #[.int .i64 0, .int .i64 0, .int .i64 90]) ∧ Below V.heap.size V w') := Lib.hid fun V hb => by rw [← hfv]; exact edges_c (edges_bad hf _ _) V (Nat.le_trans hbw.size hb.size) (hF.mono (hbw.trans (hb.mono hbw.size))) hc
  have h7 : Hid (∀ V, Below W.heap.size W V → Calls Try.prog 15 #[fv, .int .i64 code, .int .i64 0] V fun e w' => e = .returned (.tuple #[.int .i64 0, .int .i64 0, .int .i64 90]) ∧ Below V.heap.size V w') := Lib.hid fun V hb => by rw [← hfv]; exact edges_c (edges_bad hf _ _) V (Nat.le_trans hbw.size hb.size) (hF.mono (hbw.trans (hb.mono hbw.size))) hc
  have h8 : Hid (∀ V, Below W.heap.size W V → Calls Try.prog 17 #[fv] V fun e w' => e = .returned (.bool false) ∧ Below V.heap.size V w') := Lib.hid fun V hb => by rw [← hfv]; exact face_c hf V (Nat.le_trans hbw.size hb.size) (hF.mono (hbw.trans (hb.mono hbw.size)))
  have HLd : Hid (∀ V, Below W.heap.size W V → _) := Lib.hid fun V hb => ld_box hfv hbx hb
  clear hfv hF hf hc hx
  go_enter Try.func8, Try.ntmps8
  go_wp2_with fail
  with_reducible refine (awake_any _).mono ?_; rintro e w1 ⟨rfl, hb⟩
  have b0 := hb
  obtain ⟨⟨c0, c1, c2, c3, c4, c5, c6, c7, c8, c9, c10⟩, c11, c12, c13, c14, c15⟩ := face_cells (hbx.below hb)
  clear c0 c1 c2 c11 c12 c13 c14 hb hW
  go_upto_region 4 with fail
  clear c3 c4 c5 c6 c7 c8 c9 c10 c15 l0 l1 l2 l3 l4 l5 l6 l7 l8 F0 F1 F2 F3 F4 F5 F6 F7 F8
  have ld := HLd.out _ b0
  go_wp2_with (refine ld_law ld rfl _ rfl rfl ?_)
  with_reducible refine (h1.out _ b0).mono ?_; rintro e w2 ⟨rfl, hb⟩
  have b1 := below_join b0 hb
  clear hb b0 h1 ld
  have ld := HLd.out _ b1
  go_wp2_with (refine ld_law ld rfl _ rfl rfl ?_)
  with_reducible refine (h2.out _ b1).mono ?_; rintro e w3 ⟨rfl, hb⟩
  have b2 := below_join b1 hb
  clear hb b1 h2 ld
  have ld := HLd.out _ b2
  go_wp2_with (refine ld_law ld rfl _ rfl rfl ?_)
  with_reducible refine (h3.out _ b2).mono ?_; rintro e w4 ⟨rfl, hb⟩
  have b3 := below_join b2 hb
  clear hb b2 h3 ld
  have ld := HLd.out _ b3
  go_wp2_with (refine ld_law ld rfl _ rfl rfl ?_)
  with_reducible refine (h4.out _ b3).mono ?_; rintro e w5 ⟨rfl, hb⟩
  have b4 := below_join b3 hb
  clear hb b3 h4 ld
  have ld := HLd.out _ b4
  go_wp2_with (refine ld_law ld rfl _ rfl rfl ?_)
  with_reducible refine (h5.out _ b4).mono ?_; rintro e w6 ⟨rfl, hb⟩
  have b5 := below_join b4 hb
  clear hb b4 h5 ld
  have ld := HLd.out _ b5
  go_wp2_with (refine ld_law ld rfl _ rfl rfl ?_)
  with_reducible refine (h6.out _ b5).mono ?_; rintro e w7 ⟨rfl, hb⟩
  have b6 := below_join b5 hb
  clear hb b5 h6 ld
  have ld := HLd.out _ b6
  go_wp2_with (refine ld_law ld rfl _ rfl rfl ?_)
  with_reducible refine (h7.out _ b6).mono ?_; rintro e w8 ⟨rfl, hb⟩
  have b7 := below_join b6 hb
  clear hb b6 h7 ld
  have ld := HLd.out _ b7
  go_wp2_with (refine ld_law ld rfl _ rfl rfl ?_)
  with_reducible refine (h8.out _ b7).mono ?_; rintro e w9 ⟨rfl, hb⟩
  have b8 := below_join b7 hb
  clear hb b7 h8 ld
  go_wp2_with fail
  go_ret
  exact ⟨rfl, hbw.trans (b8.mono hbw.size)⟩
theorem clamps_walk (c0 : Array Value) (x0 : FaceT) (code x n : Int) (w : World) (h0 : faceR.K w w.heap.size c0.toList x0) (hc : (Lit.int .i64 code).wf = true) (hx : (Lit.int .i64 x).wf = true) (hn : (Lit.int .i64 n).wf = true) :
    Calls Try.prog 8 #[.agg c0, .int .i64 code, .int .i64 x, .int .i64 n] w fun e w' => e = .returned (.bool true) ∧ Below w.heap.size w w' := by
  obtain ⟨d, a, rfl, hF⟩ := face_of h0
  by_cases hl : d.font.chars.length ≤ 300 ∧ d.font.widths.length ≤ 300 ∧ d.font.heights.length ≤ 300 ∧ d.font.depths.length ≤ 300 ∧ d.font.italics.length ≤ 300 ∧ d.font.steps.length ≤ 300 ∧ d.font.kerns.length ≤ 300 ∧ d.font.params.length ≤ 300 ∧ d.traits.length ≤ 300
  · cases hf : faceB d with
    | true => exact clamps_yes d a code x n w hF hc hx hl hf
    | false => exact clamps_no d a code x n w hF hc hx hl hf
  · exact clamps_long d a code x n w hF hc hx (nine hl)
end Go.Proofs.Ytckmpllbbebefaa.Lv
