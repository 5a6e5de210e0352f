/- A character's trait. -/
import Derived.Test.YtndpdbofoojkhaaLevel3
namespace Go.Proofs.Ytndpdbofoojkhaa.Lv
open Go.RowKit Go.Proofs.Ytndpdbofoojkhaa.Kit Go.Proofs.Ytndpdbofoojkhaa.Fo
set_option linter.unusedVariables false
set_option linter.unusedSimpArgs false

theorem Box.set4 {w : World} {g : Nat} {a b c d x y z u : Value} {t : TypeId} (h : Box w g #[a, b, c, d] t) : Box ((((w.setCell ⟨g, 0, none⟩ x).setCell ⟨g, 1, none⟩ y).setCell ⟨g, 2, none⟩ z).setCell ⟨g, 3, none⟩ u) g #[x, y, z, u] t := by
  simpa using (((h.set 0 x).set 1 y).set 2 z).set 3 u
set_option maxHeartbeats 1000000 in
theorem trait_any (d : FaceD) (a : FaceA) (n code : Int) (w : World) {B : Nat} (hB : B ≤ w.heap.size) (hF : FaceIn w B d a) :
    Calls Try.prog 58 #[atV d a n, .int .i64 code] w fun e w' => e = .returned (stepV (traitP d.traits code)) ∧ Below w.heap.size w w' := by
  have e1 : ∀ args w, (callFunc 70 args).run Try.prog w = .ok (.enter 70 args) w := enters_of Try.func70 (by kernel_rfl) rfl
  have hbx := ((Box.new w (atCells d a n) 124).alloc (.cells #[.int .i64 code] 3)).alloc (.cells #[.int .i64 0, .int .i64 0, .int .i64 0, .int .i64 0] 82)
  have hb1 := (Box.new (w.alloc (.cells (atCells d a n) 124)) #[.int .i64 code] 3).alloc (.cells #[.int .i64 0, .int .i64 0, .int .i64 0, .int .i64 0] 82)
  have hb2 := Box.new ((w.alloc (.cells (atCells d a n) 124)).alloc (.cells #[.int .i64 code] 3)) #[.int .i64 0, .int .i64 0, .int .i64 0, .int .i64 0] 82
  have hbw : Below w.heap.size w (((w.alloc (.cells (atCells d a n) 124)).alloc (.cells #[.int .i64 code] 3)).alloc (.cells #[.int .i64 0, .int .i64 0, .int .i64 0, .int .i64 0] 82)) := below_alloc (below_alloc ((Below.refl w.heap.size w).alloc (Nat.le_refl _) _) _) _
  simp only [World.size_alloc] at hb1 hb2
  obtain ⟨W1, hW⟩ : ∃ W1, ((w.alloc (.cells (atCells d a n) 124)).alloc (.cells #[.int .i64 code] 3)).alloc (.cells #[.int .i64 0, .int .i64 0, .int .i64 0, .int .i64 0] 82) = W1 := ⟨_, rfl⟩
  rw [hW] at hbx hb1 hb2 hbw
  have H := Lib.hid (index_trait 70 #[.pointer (some ⟨w.heap.size + 1, 0, none⟩)] (fun t => t.1 == code) e1 a.t a.ct d.traits W1 (lt_of_below hB hbw) (hF.traits.mono (hbw.mono hB)) hF.nt (fun W' x hb' _ => isCode_any x code (w.heap.size + 1) W' (hb1.below hb')))
  have HC := placeV_cases (fun t : StepT => t.1 == code) d.traits 0
  obtain ⟨⟨c0, c1, c2, c3, c4, c5, c6, c7, c8, c9, c10⟩, c11, c12, c13, c14, c15, c16⟩ := at_cells hbx
  rcases HC with ⟨h1, h2⟩ | ⟨i, x, h1, h2, h3⟩
  · rw [show placeV (fun t : StepT => t.1 == code) d.traits 0 = -1 from h1] at H
    have HE : Hid (traitP d.traits code = (0, 1000, 0, 0)) := Lib.hid (by rw [traitP, h2]; rfl)
    rw [HE.out]
    clear h1 h2 e1 hF HE
    go_enter Try.func58, Try.ntmps58
    go_wp2_with fail
    with_reducible refine H.out.mono ?_; rintro e w1 ⟨rfl, hb⟩
    have hw1 := hbw.trans (hb.mono hbw.size)
    replace hb2 := hb2.below hb
    clear hW H hb c0 c1 c2 c3 c4 c5 c6 c7 c8 c9 c10 c11 c12 c13 c14 c15 c16 hbw hbx hb1
    have k0 : w1.cell? ⟨w.heap.size + 1 + 1, 0, none⟩ = some (.int .i64 0) := hb2.cell 0 rfl
    have k1 : w1.cell? ⟨w.heap.size + 1 + 1, 1, none⟩ = some (.int .i64 0) := hb2.cell 1 rfl
    have k2 : w1.cell? ⟨w.heap.size + 1 + 1, 2, none⟩ = some (.int .i64 0) := hb2.cell 2 rfl
    have k3 : w1.cell? ⟨w.heap.size + 1 + 1, 3, none⟩ = some (.int .i64 0) := hb2.cell 3 rfl
    have g0 := hb2.free 0
    have g1 := hb2.free 1
    have g2 := hb2.free 2
    have g3 := hb2.free 3
    go_wp2_with fail
    have b4 := Box.set4 hb2 (x := .int .i64 0) (y := .int .i64 1000) (z := .int .i64 0) (u := .int .i64 0)
    have q0 := b4.cell 0 rfl
    have q1 := b4.cell 1 rfl
    have q2 := b4.cell 2 rfl
    have q3 := b4.cell 3 rfl
    have hbe := below_set (below_set (below_set (below_set hw1 (p := ⟨w.heap.size + 1 + 1, 0, none⟩) (by show w.heap.size ≤ w.heap.size + 1 + 1; omega) (.int .i64 0)) (p := ⟨w.heap.size + 1 + 1, 1, none⟩) (by show w.heap.size ≤ w.heap.size + 1 + 1; omega) (.int .i64 1000)) (p := ⟨w.heap.size + 1 + 1, 2, none⟩) (by show w.heap.size ≤ w.heap.size + 1 + 1; omega) (.int .i64 0)) (p := ⟨w.heap.size + 1 + 1, 3, none⟩) (by show w.heap.size ≤ w.heap.size + 1 + 1; omega) (.int .i64 0)
    refine bodyPost_ret (v := stepV (0, 1000, 0, 0)) ?_ rfl ⟨rfl, hbe⟩
    simp [results, Try.f58, go_sem, q0, q1, q2, q3]
  · rw [show placeV (fun t : StepT => t.1 == code) d.traits 0 = ((i : Nat) : Int) by rw [show placeV (fun t : StepT => t.1 == code) d.traits 0 = _ from h1]; simp] at H
    have HE : Hid (traitP d.traits code = x) := Lib.hid (by rw [traitP, h3]; rfl)
    rw [HE.out]
    have hlt : i < d.traits.length := (List.getElem?_eq_some_iff.1 h2).1
    obtain ⟨b, o, hA, hbl, ⟨t0, t1, t2, t3⟩, _⟩ := step_at hF.traits h2
    clear h1 h2 h3 e1 hF HE
    rw [hA] at H c15
    go_enter Try.func58, Try.ntmps58
    have hW' := Lib.hid hW
    clear hW
    go_wp2_with fail
    rw [hW'.out]
    with_reducible refine H.out.mono ?_; rintro e w1 ⟨rfl, hb⟩
    have hw1 := hbw.trans (hb.mono hbw.size)
    have hbw0 : w.heap.size ≤ W1.heap.size := hbw.size
    replace hb2 := hb2.below hb
    have c15' : w1.cell? ⟨w.heap.size, 15, none⟩ = some (.slice a.t d.traits.length a.ct) := (hbx.below hb).cell 15 rfl
    rw [hA] at c15'
    have s0 : w1.cell? ⟨b, o + i * 4, none⟩ = _ := (hw1.cell (p := ⟨b, o + i * 4, none⟩) (show b < w.heap.size by omega)).trans t0
    have s1 : w1.cell? ⟨b, o + i * 4 + 1, none⟩ = _ := (hw1.cell (p := ⟨b, o + i * 4 + 1, none⟩) (show b < w.heap.size by omega)).trans t1
    have s2 : w1.cell? ⟨b, o + i * 4 + 2, none⟩ = _ := (hw1.cell (p := ⟨b, o + i * 4 + 2, none⟩) (show b < w.heap.size by omega)).trans t2
    have s3 : w1.cell? ⟨b, o + i * 4 + 3, none⟩ = _ := (hw1.cell (p := ⟨b, o + i * 4 + 3, none⟩) (show b < w.heap.size by omega)).trans t3
    clear hW' H hb c0 c1 c2 c3 c4 c5 c6 c7 c8 c9 c10 c11 c12 c13 c14 c15 c16 hbw hbx hb1 t0 t1 t2 t3
    have k0 : w1.cell? ⟨w.heap.size + 1 + 1, 0, none⟩ = some (.int .i64 0) := hb2.cell 0 rfl
    have k1 : w1.cell? ⟨w.heap.size + 1 + 1, 1, none⟩ = some (.int .i64 0) := hb2.cell 1 rfl
    have k2 : w1.cell? ⟨w.heap.size + 1 + 1, 2, none⟩ = some (.int .i64 0) := hb2.cell 2 rfl
    have k3 : w1.cell? ⟨w.heap.size + 1 + 1, 3, none⟩ = some (.int .i64 0) := hb2.cell 3 rfl
    have g0 := hb2.free 0
    have g1 := hb2.free 1
    have g2 := hb2.free 2
    have g3 := hb2.free 3
    go_wp2_with fail
    have b4 := Box.set4 hb2 (x := .int .i64 x.1) (y := .int .i64 x.2.1) (z := .int .i64 x.2.2.1) (u := .int .i64 x.2.2.2)
    have q0 := b4.cell 0 rfl
    have q1 := b4.cell 1 rfl
    have q2 := b4.cell 2 rfl
    have q3 := b4.cell 3 rfl
    have hbe := below_set (below_set (below_set (below_set hw1 (p := ⟨w.heap.size + 1 + 1, 0, none⟩) (by show w.heap.size ≤ w.heap.size + 1 + 1; omega) (.int .i64 x.1)) (p := ⟨w.heap.size + 1 + 1, 1, none⟩) (by show w.heap.size ≤ w.heap.size + 1 + 1; omega) (.int .i64 x.2.1)) (p := ⟨w.heap.size + 1 + 1, 2, none⟩) (by show w.heap.size ≤ w.heap.size + 1 + 1; omega) (.int .i64 x.2.2.1)) (p := ⟨w.heap.size + 1 + 1, 3, none⟩) (by show w.heap.size ≤ w.heap.size + 1 + 1; omega) (.int .i64 x.2.2.2)
    refine bodyPost_ret (v := stepV x) ?_ rfl ⟨rfl, hbe⟩
    simp [results, Try.f58, go_sem, q0, q1, q2, q3]
end Go.Proofs.Ytndpdbofoojkhaa.Lv
