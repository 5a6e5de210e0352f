/- How much of a character stands out. -/
import Derived.Test.YtndpdbofoojkhaaLevel6b
import Derived.Deep.RegionHeld3
namespace Go.Proofs.Ytndpdbofoojkhaa.Lv
open Go.RowKit Go.Proofs.Ytndpdbofoojkhaa.Kit Go.Proofs.Ytndpdbofoojkhaa.Fo
set_option linter.unusedVariables false
set_option linter.unusedSimpArgs false

def edgesV (d : FaceD) (code n : Int) : Int × Int × Int :=
  if (widthV d code n).2 = 0 then (fl (widthV d code n).1 (traitP d.traits code).2.2.1 1000, fl (widthV d code n).1 (traitP d.traits code).2.2.2 1000, 0) else (0, 0, (widthV d code n).2)
set_option maxRecDepth 100000 in
set_option maxHeartbeats 2000000 in
theorem edges_any (d : FaceD) (a : FaceA) (code n : Int) (w : World) {B : Nat} (hB : B ≤ w.heap.size) (hF : FaceIn w B d a) (hc : (Lit.int .i64 code).wf = true) :
    Calls Try.prog 39 #[faceV d a, .int .i64 code, .int .i64 n] w fun e w' => e = .returned (.tuple #[.int .i64 (edgesV d code n).1, .int .i64 (edgesV d code n).2.1, .int .i64 (edgesV d code n).2.2]) ∧ Below w.heap.size w w' := by
  have hbx := Box.new w (faceCells d a) 29
  have hbw := (Below.refl w.heap.size w).alloc (Nat.le_refl _) (.cells (faceCells d a) 29)
  obtain ⟨W1, hW⟩ : ∃ W1, w.alloc (.cells (faceCells d a) 29) = W1 := ⟨_, rfl⟩
  rw [hW] at hbx hbw
  obtain ⟨⟨c0, c1, c2, c3, c4, c5, c6, c7, c8, c9, c10⟩, c11, c12, c13, c14, c15⟩ := face_cells hbx
  have H := Lib.hid (width_any d a code n W1 (lt_of_below hB hbw) (hF.mono (hbw.mono hB)) hc)
  have HTr : Hid (∀ W, Below w.heap.size w W → _) := Lib.hid fun W (hb : Below w.heap.size w W) => trait_any d a n code W (lt_of_below hB hb) (hF.mono (hb.mono hB))
  unfold edgesV
  obtain ⟨⟨v, e0⟩, hv⟩ : ∃ r, widthV d code n = r := ⟨_, rfl⟩
  obtain ⟨T, hT⟩ : ∃ T, traitP d.traits code = T := ⟨_, rfl⟩
  obtain ⟨T0, T1, T2, T3⟩ := T
  rw [hv] at H ⊢
  rw [hT] at HTr ⊢
  unfold stepV at HTr
  dsimp only at H HTr ⊢
  clear hv hT hF
  obtain ⟨x1, hx1⟩ : ∃ f, fl v T2 1000 = f := ⟨_, rfl⟩
  obtain ⟨x2, hx2⟩ : ∃ f, fl v T3 1000 = f := ⟨_, rfl⟩
  have HA : Hid (∀ w, _) := Lib.hid (floor_any v T2 1000)
  have HB : Hid (∀ w, _) := Lib.hid (floor_any v T3 1000)
  rw [hx1] at HA ⊢
  rw [hx2] at HB ⊢
  clear hx1 hx2
  by_cases he : e0 = 0
  · subst he
    rw [if_pos rfl]
    go_enter Try.func39, Try.ntmps39
    go_wp2_with fail
    with_reducible refine H.out.mono ?_; rintro e w1 ⟨rfl, hb⟩
    have hw1 := hbw.trans (hb.mono hbw.size)
    have hbx1 := hbx.below hb
    clear hW H hb c0 c1 c2 c3 c4 c5 c6 c7 c8 c9 c10 c11 c12 c13 c14 c15 hbw hbx
    obtain ⟨⟨c0, c1, c2, c3, c4, c5, c6, c7, c8, c9, c10⟩, c11, c12, c13, c14, c15⟩ := face_cells hbx1
    go_wp2_with fail
    with_reducible refine (HTr.out _ hw1).mono ?_; rintro e w2 ⟨rfl, hb⟩
    have hw2 := below_alloc (hw1.trans (hb.mono hw1.size)) (.cells #[.int .i64 T0, .int .i64 T1, .int .i64 T2, .int .i64 T3] 82)
    have hbn := Box.new w2 #[.int .i64 T0, .int .i64 T1, .int .i64 T2, .int .i64 T3] 82
    clear HTr hb c0 c1 c2 c3 c4 c5 c6 c7 c8 c9 c10 c11 c12 c13 c14 c15 hw1 hbx1
    go_upto_region 5 with fail
    generalize hW3 : w2.alloc (.cells #[.int .i64 T0, .int .i64 T1, .int .i64 T2, .int .i64 T3] 82) = w3 at *
    generalize hg : w2.heap.size = g at *
    clear hW3 hg w2
    have f2 : w3.cell? ⟨g, 2, none⟩ = some (.int .i64 T2) := hbn.cell 2 rfl
    have f3 : w3.cell? ⟨g, 3, none⟩ = some (.int .i64 T3) := hbn.cell 3 rfl
    have HK : Hid (∀ w', Below w3.heap.size w3 w' → Below w3.heap.size w3 w' ∧ w'.cell? ⟨g, 2, none⟩ = some (.int .i64 T2) ∧ w'.cell? ⟨g, 3, none⟩ = some (.int .i64 T3)) := Lib.hid fun w' hb => ⟨hb, later hb f2, later hb f3⟩
    clear hbn f2 f3
    go_region_held3 (fun w' => Below w3.heap.size w3 w' ∧ w'.cell? ⟨g, 2, none⟩ = some (.int .i64 T2) ∧ w'.cell? ⟨g, 3, none⟩ = some (.int .i64 T3))
      (first | exact HK.out _ (by repeat (first | (with_reducible exact Below.refl _ _) | (with_reducible apply below_drew) | (with_reducible refine below_join ?_ (by assumption)) | exact (‹Below w3.heap.size w3 _ ∧ _›.1))))
      (first
        | (go_at_call 57; with_reducible refine (HA.out _).mono ?_; rintro e wq ⟨rfl, hbq⟩)
        | (go_at_call 57; with_reducible refine (HB.out _).mono ?_; rintro e wq ⟨rfl, hbq⟩))
    all_goals
      have hend := below_join hw2 ‹Below w3.heap.size w3 _ ∧ _›.1
      go_wp2_with fail
      go_ret3
      exact ⟨rfl, hend⟩
  · have F1 : (e0 != 0) = true := by simpa using he
    rw [if_neg he]
    clear he
    go_enter Try.func39, Try.ntmps39
    go_wp2_with fail
    with_reducible refine H.out.mono ?_; rintro e w1 ⟨rfl, hb⟩
    have hw1 := hbw.trans (hb.mono hbw.size)
    clear hW H hb c0 c1 c2 c3 c4 c5 c6 c7 c8 c9 c10 c11 c12 c13 c14 c15 hbw hbx
    go_wp2_with fail
    go_ret3
    exact ⟨rfl, hw1⟩
end Go.Proofs.Ytndpdbofoojkhaa.Lv
