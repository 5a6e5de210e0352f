/- joined for a claim: Level3, Level4, Level5 -/
import Derived.Test.YtndpdbofoojkhaaGreatLevel2
import Derived.Test.YtndpdbofoojkhaaGreatMulFloor
import Derived.Deep.RegionHeld3
import Derived.Deep.DeepCutAuto
/- The nearest level, a floor, points, a character's trait. -/
namespace Go.Proofs.YtndpdbofoojkhaaGreat.Lv
open Go.RowKit Go.Proofs.YtndpdbofoojkhaaGreat.Kit Go.Proofs.YtndpdbofoojkhaaGreat.Fo
set_option linter.unusedVariables false
set_option linter.unusedSimpArgs false

def clampP (d : FaceD) (n : Int) : Int := min (max n (-d.down)) d.up
theorem face_ok {d : FaceD} (h : faceB d = true) : ligB d.font = true ∧ (65536 ≤ d.size ∧ d.size ≤ 4194304) ∧ (0 ≤ d.step ∧ d.step ≤ 50) ∧ (0 ≤ d.up ∧ d.up ≤ 8) ∧ (0 ≤ d.down ∧ d.down ≤ 8) ∧ wrongT (-1) d.traits = false := by
  unfold faceB toB at h
  simp only [Bool.and_eq_true, decide_eq_true_eq, Bool.not_eq_true'] at h
  obtain ⟨⟨⟨⟨⟨h1, h2⟩, h3⟩, h4⟩, h5⟩, h6⟩ := h
  exact ⟨h1, h2, h3, h4, h5, h6⟩
theorem lig_tfm {d : FontD} (h : ligB d = true) : tfmB d = true := by
  unfold ligB madeP at h
  split at h
  · assumption
  · simp at h
theorem clamp_any (d : FaceD) (a : FaceA) (n : Int) (w : World) (hu : 0 ≤ d.up ∧ d.up ≤ 8) (hd : 0 ≤ d.down ∧ d.down ≤ 8) :
    Calls Tryz.prog 75 #[faceV d a, .int .i64 n] w fun e w' => e = .returned (.int .i64 (clampP d n)) ∧ Below w.heap.size w w' := by
  have hbx := Box.new w (faceCells d a) 29
  have hbw := (Below.refl w.heap.size w).alloc (Nat.le_refl _) (.cells (faceCells d a) 29)
  obtain ⟨W1, hW⟩ : ∃ W1, w.alloc (.cells (faceCells d a) 29) = W1 := ⟨_, rfl⟩
  rw [hW] at hbx hbw
  obtain ⟨⟨c0, c1, c2, c3, c4, c5, c6, c7, c8, c9, c10⟩, c11, c12, c13, c14, c15⟩ := face_cells hbx
  obtain ⟨u1, u2⟩ := hu
  obtain ⟨v1, v2⟩ := hd
  unfold clampP
  generalize hvd : d.down = dn at *
  generalize hvu : d.up = du at *
  clear hvd hvu
  have E : ∀ r : Int, r = min (max n (-dn)) du → r = min (max n (-dn)) du := fun _ h => h
  by_cases h1 : n ≤ -dn
  · go_enter Tryz.func75, Tryz.ntmps75
    go_wp2
    go_ret
    exact ⟨ret_int rfl (by omega), hbw⟩
  · by_cases h2 : n ≤ du
    · go_enter Tryz.func75, Tryz.ntmps75
      go_wp2
      go_ret
      exact ⟨ret_int rfl (by omega), hbw⟩
    · go_enter Tryz.func75, Tryz.ntmps75
      go_wp2
      go_ret
      exact ⟨ret_int rfl (by omega), hbw⟩
def fl (a b c : Int) : Int := (Mul.floorP a b c).1
theorem floor_any (a b c : Int) (w : World) :
    Calls Tryz.prog 77 #[.int .i64 a, .int .i64 b, .int .i64 c] w fun e w' => e = .returned (.int .i64 (fl a b c)) ∧ Below w.heap.size w w' := by
  have H : Hid (∀ w, _) := Lib.hid (Mul.floor_any a b c)
  unfold fl
  generalize Mul.floorP a b c = r at *
  go_enter Tryz.func77, Tryz.ntmps77
  go_wp2_with fail
  with_reducible refine (H.out _).mono ?_; rintro e w1 ⟨rfl, hb⟩
  go_wp2_with fail
  go_ret
  exact ⟨rfl, hb⟩
abbrev atCells (d : FaceD) (a : FaceA) (n : Int) : Array Value := #[.int .i64 d.font.sum, .int .i64 d.font.design, .int .i64 d.font.first, .slice a.font.c d.font.chars.length a.font.cc, .slice a.font.w d.font.widths.length a.font.cw, .slice a.font.h d.font.heights.length a.font.ch, .slice a.font.d d.font.depths.length a.font.cd, .slice a.font.i d.font.italics.length a.font.ci, .slice a.font.s d.font.steps.length a.font.cs, .slice a.font.k d.font.kerns.length a.font.ck, .slice a.font.p d.font.params.length a.font.cp,
  .int .i64 d.size, .int .i64 d.step, .int .i64 d.up, .int .i64 d.down, .slice a.t d.traits.length a.ct, .int .i64 n]
abbrev atV (d : FaceD) (a : FaceA) (n : Int) : Value := .agg (atCells d a n)
theorem at_cells {w : World} {g : Nat} {d : FaceD} {a : FaceA} {n : Int} {t : TypeId} (h : Box w g (atCells d a n) t) :
    (w.cell? ⟨g, 0, none⟩ = some (.int .i64 d.font.sum) ∧ w.cell? ⟨g, 1, none⟩ = some (.int .i64 d.font.design) ∧ w.cell? ⟨g, 2, none⟩ = some (.int .i64 d.font.first) ∧ w.cell? ⟨g, 3, none⟩ = some (.slice a.font.c d.font.chars.length a.font.cc) ∧ w.cell? ⟨g, 4, none⟩ = some (.slice a.font.w d.font.widths.length a.font.cw) ∧ w.cell? ⟨g, 5, none⟩ = some (.slice a.font.h d.font.heights.length a.font.ch) ∧
    w.cell? ⟨g, 6, none⟩ = some (.slice a.font.d d.font.depths.length a.font.cd) ∧ w.cell? ⟨g, 7, none⟩ = some (.slice a.font.i d.font.italics.length a.font.ci) ∧ w.cell? ⟨g, 8, none⟩ = some (.slice a.font.s d.font.steps.length a.font.cs) ∧ w.cell? ⟨g, 9, none⟩ = some (.slice a.font.k d.font.kerns.length a.font.ck) ∧ w.cell? ⟨g, 10, none⟩ = some (.slice a.font.p d.font.params.length a.font.cp)) ∧
    w.cell? ⟨g, 11, none⟩ = some (.int .i64 d.size) ∧ w.cell? ⟨g, 12, none⟩ = some (.int .i64 d.step) ∧ w.cell? ⟨g, 13, none⟩ = some (.int .i64 d.up) ∧ w.cell? ⟨g, 14, none⟩ = some (.int .i64 d.down) ∧ w.cell? ⟨g, 15, none⟩ = some (.slice a.t d.traits.length a.ct) ∧ w.cell? ⟨g, 16, none⟩ = some (.int .i64 n) :=
  ⟨⟨h.cell 0 rfl, h.cell 1 rfl, h.cell 2 rfl, h.cell 3 rfl, h.cell 4 rfl, h.cell 5 rfl, h.cell 6 rfl, h.cell 7 rfl, h.cell 8 rfl, h.cell 9 rfl, h.cell 10 rfl⟩, h.cell 11 rfl, h.cell 12 rfl, h.cell 13 rfl, h.cell 14 rfl, h.cell 15 rfl, h.cell 16 rfl⟩
theorem points_any (d : FaceD) (a : FaceA) (n x : Int) (w : World) :
    Calls Tryz.prog 76 #[atV d a n, .int .i64 x] w fun e w' => e = .returned (.int .i64 (fl x d.size 1048576)) ∧ Below w.heap.size w w' := by
  have hbx := Box.new w (atCells d a n) 145
  have hbw := (Below.refl w.heap.size w).alloc (Nat.le_refl _) (.cells (atCells d a n) 145)
  obtain ⟨W1, hW⟩ : ∃ W1, w.alloc (.cells (atCells d a n) 145) = W1 := ⟨_, rfl⟩
  rw [hW] at hbx hbw
  obtain ⟨⟨c0, c1, c2, c3, c4, c5, c6, c7, c8, c9, c10⟩, c11, c12, c13, c14, c15, c16⟩ := at_cells hbx
  have H : Hid (∀ w, _) := Lib.hid (floor_any x d.size 1048576)
  generalize fl x d.size 1048576 = r at *
  go_enter Tryz.func76, Tryz.ntmps76
  go_wp2_with fail
  with_reducible refine (H.out _).mono ?_; rintro e w1 ⟨rfl, hb⟩
  have hw1 := hbw.trans (hb.mono hbw.size)
  clear hW H hb c0 c1 c2 c3 c4 c5 c6 c7 c8 c9 c10 c11 c12 c13 c14 c15 c16 hbw hbx
  go_wp2_with fail
  go_ret
  exact ⟨rfl, hw1⟩

/-! ### A character's trait -/
def traitP (l : List StepT) (code : Int) : StepT := (l.find? fun t => t.1 == code).getD (0, 1000, 0, 0)
theorem placeV_cases {α : Type} (p : α → Bool) : ∀ (l : List α) (k : Nat), (placeV p l k = -1 ∧ l.find? p = none) ∨ ∃ (i : Nat) (x : α), placeV p l k = ((k + i : Nat) : Int) ∧ l[i]? = some x ∧ l.find? p = some x
  | [], k => .inl ⟨rfl, rfl⟩
  | x :: xs, k => by
    unfold placeV
    cases hx : p x with
    | true => exact .inr ⟨0, x, by simp, by simp, by simp [hx]⟩
    | false =>
      rcases placeV_cases p xs (k + 1) with ⟨h1, h2⟩ | ⟨i, y, h1, h2, h3⟩
      · exact .inl ⟨by simpa using h1, by simp [hx, h2]⟩
      · refine .inr ⟨i + 1, y, ?_, by simpa using h2, by simp [hx, h3]⟩
        simp only [Bool.false_eq_true, if_false]
        refine Eq.trans ?_ (h1.trans ?_)
        · rfl
        · congr 1; omega
theorem isCode_any (x : StepT) (code : Int) (g : Nat) (w : World) (hbx : Box w g #[.int .i64 code] 3) :
    Calls Tryz.prog 93 #[stepV x, .pointer (some ⟨g, 0, none⟩)] w fun e w' => e = .returned (.bool (x.1 == code)) ∧ Below w.heap.size w w' := by
  have hb1 := hbx.alloc (.cells #[.int .i64 x.1, .int .i64 x.2.1, .int .i64 x.2.2.1, .int .i64 x.2.2.2] 63)
  have cb := hb1.cell 0 (v := .int .i64 code) rfl
  clear hbx hb1
  go_enter Tryz.func93, Tryz.ntmps93
  go_wp2
  go_ret
  exact ⟨rfl, (Below.refl w.heap.size w).alloc (Nat.le_refl _) _⟩
end Go.Proofs.YtndpdbofoojkhaaGreat.Lv
/- A character's trait. -/
namespace Go.Proofs.YtndpdbofoojkhaaGreat.Lv
open Go.RowKit Go.Proofs.YtndpdbofoojkhaaGreat.Kit Go.Proofs.YtndpdbofoojkhaaGreat.Fo
set_option linter.unusedVariables false
set_option linter.unusedSimpArgs false

theorem Box.set4 {w : World} {g : Nat} {a b c d x y z u : Value} {t : TypeId} (h : Box w g #[a, b, c, d] t) : Box ((((w.setCell ⟨g, 0, none⟩ x).setCell ⟨g, 1, none⟩ y).setCell ⟨g, 2, none⟩ z).setCell ⟨g, 3, none⟩ u) g #[x, y, z, u] t := by
  simpa using (((h.set 0 x).set 1 y).set 2 z).set 3 u
set_option maxHeartbeats 1000000 in
theorem trait_any (d : FaceD) (a : FaceA) (n code : Int) (w : World) {B : Nat} (hB : B ≤ w.heap.size) (hF : FaceIn w B d a) :
    Calls Tryz.prog 78 #[atV d a n, .int .i64 code] w fun e w' => e = .returned (stepV (traitP d.traits code)) ∧ Below w.heap.size w w' := by
  have e1 : ∀ args w, (callFunc 93 args).run Tryz.prog w = .ok (.enter 93 args) w := enters_of Tryz.func93 (by kernel_rfl) rfl
  have hbx := ((Box.new w (atCells d a n) 145).alloc (.cells #[.int .i64 code] 3)).alloc (.cells #[.int .i64 0, .int .i64 0, .int .i64 0, .int .i64 0] 63)
  have hb1 := (Box.new (w.alloc (.cells (atCells d a n) 145)) #[.int .i64 code] 3).alloc (.cells #[.int .i64 0, .int .i64 0, .int .i64 0, .int .i64 0] 63)
  have hb2 := Box.new ((w.alloc (.cells (atCells d a n) 145)).alloc (.cells #[.int .i64 code] 3)) #[.int .i64 0, .int .i64 0, .int .i64 0, .int .i64 0] 63
  have hbw : Below w.heap.size w (((w.alloc (.cells (atCells d a n) 145)).alloc (.cells #[.int .i64 code] 3)).alloc (.cells #[.int .i64 0, .int .i64 0, .int .i64 0, .int .i64 0] 63)) := below_alloc (below_alloc ((Below.refl w.heap.size w).alloc (Nat.le_refl _) _) _) _
  simp only [World.size_alloc] at hb1 hb2
  obtain ⟨W1, hW⟩ : ∃ W1, ((w.alloc (.cells (atCells d a n) 145)).alloc (.cells #[.int .i64 code] 3)).alloc (.cells #[.int .i64 0, .int .i64 0, .int .i64 0, .int .i64 0] 63) = W1 := ⟨_, rfl⟩
  rw [hW] at hbx hb1 hb2 hbw
  have H := Lib.hid (index_trait 93 #[.pointer (some ⟨w.heap.size + 1, 0, none⟩)] (fun t => t.1 == code) e1 a.t a.ct d.traits W1 (lt_of_below hB hbw) (hF.traits.mono (hbw.mono hB)) hF.nt (fun W' x hb' _ => isCode_any x code (w.heap.size + 1) W' (hb1.below hb')))
  have HC := placeV_cases (fun t : StepT => t.1 == code) d.traits 0
  obtain ⟨⟨c0, c1, c2, c3, c4, c5, c6, c7, c8, c9, c10⟩, c11, c12, c13, c14, c15, c16⟩ := at_cells hbx
  rcases HC with ⟨h1, h2⟩ | ⟨i, x, h1, h2, h3⟩
  · rw [show placeV (fun t : StepT => t.1 == code) d.traits 0 = -1 from h1] at H
    have HE : Hid (traitP d.traits code = (0, 1000, 0, 0)) := Lib.hid (by rw [traitP, h2]; rfl)
    rw [HE.out]
    clear h1 h2 e1 hF HE
    go_enter Tryz.func78, Tryz.ntmps78
    go_wp2_with fail
    with_reducible refine H.out.mono ?_; rintro e w1 ⟨rfl, hb⟩
    have hw1 := hbw.trans (hb.mono hbw.size)
    replace hb2 := hb2.below hb
    clear hW H hb c0 c1 c2 c3 c4 c5 c6 c7 c8 c9 c10 c11 c12 c13 c14 c15 c16 hbw hbx hb1
    have k0 : w1.cell? ⟨w.heap.size + 1 + 1, 0, none⟩ = some (.int .i64 0) := hb2.cell 0 rfl
    have k1 : w1.cell? ⟨w.heap.size + 1 + 1, 1, none⟩ = some (.int .i64 0) := hb2.cell 1 rfl
    have k2 : w1.cell? ⟨w.heap.size + 1 + 1, 2, none⟩ = some (.int .i64 0) := hb2.cell 2 rfl
    have k3 : w1.cell? ⟨w.heap.size + 1 + 1, 3, none⟩ = some (.int .i64 0) := hb2.cell 3 rfl
    have g0 := hb2.free 0
    have g1 := hb2.free 1
    have g2 := hb2.free 2
    have g3 := hb2.free 3
    go_wp2_with fail
    have b4 := Box.set4 hb2 (x := .int .i64 0) (y := .int .i64 1000) (z := .int .i64 0) (u := .int .i64 0)
    have q0 := b4.cell 0 rfl
    have q1 := b4.cell 1 rfl
    have q2 := b4.cell 2 rfl
    have q3 := b4.cell 3 rfl
    have hbe := below_set (below_set (below_set (below_set hw1 (p := ⟨w.heap.size + 1 + 1, 0, none⟩) (by show w.heap.size ≤ w.heap.size + 1 + 1; omega) (.int .i64 0)) (p := ⟨w.heap.size + 1 + 1, 1, none⟩) (by show w.heap.size ≤ w.heap.size + 1 + 1; omega) (.int .i64 1000)) (p := ⟨w.heap.size + 1 + 1, 2, none⟩) (by show w.heap.size ≤ w.heap.size + 1 + 1; omega) (.int .i64 0)) (p := ⟨w.heap.size + 1 + 1, 3, none⟩) (by show w.heap.size ≤ w.heap.size + 1 + 1; omega) (.int .i64 0)
    refine bodyPost_ret (v := stepV (0, 1000, 0, 0)) ?_ rfl ⟨rfl, hbe⟩
    simp [results, Tryz.f78, go_sem, q0, q1, q2, q3]
  · rw [show placeV (fun t : StepT => t.1 == code) d.traits 0 = ((i : Nat) : Int) by rw [show placeV (fun t : StepT => t.1 == code) d.traits 0 = _ from h1]; simp] at H
    have HE : Hid (traitP d.traits code = x) := Lib.hid (by rw [traitP, h3]; rfl)
    rw [HE.out]
    have hlt : i < d.traits.length := (List.getElem?_eq_some_iff.1 h2).1
    obtain ⟨b, o, hA, hbl, ⟨t0, t1, t2, t3⟩, _⟩ := step_at hF.traits h2
    clear h1 h2 h3 e1 hF HE
    rw [hA] at H c15
    go_enter Tryz.func78, Tryz.ntmps78
    have hW' := Lib.hid hW
    clear hW
    go_wp2_with fail
    rw [hW'.out]
    with_reducible refine H.out.mono ?_; rintro e w1 ⟨rfl, hb⟩
    have hw1 := hbw.trans (hb.mono hbw.size)
    have hbw0 : w.heap.size ≤ W1.heap.size := hbw.size
    replace hb2 := hb2.below hb
    have c15' : w1.cell? ⟨w.heap.size, 15, none⟩ = some (.slice a.t d.traits.length a.ct) := (hbx.below hb).cell 15 rfl
    rw [hA] at c15'
    have s0 : w1.cell? ⟨b, o + i * 4, none⟩ = _ := (hw1.cell (p := ⟨b, o + i * 4, none⟩) (show b < w.heap.size by omega)).trans t0
    have s1 : w1.cell? ⟨b, o + i * 4 + 1, none⟩ = _ := (hw1.cell (p := ⟨b, o + i * 4 + 1, none⟩) (show b < w.heap.size by omega)).trans t1
    have s2 : w1.cell? ⟨b, o + i * 4 + 2, none⟩ = _ := (hw1.cell (p := ⟨b, o + i * 4 + 2, none⟩) (show b < w.heap.size by omega)).trans t2
    have s3 : w1.cell? ⟨b, o + i * 4 + 3, none⟩ = _ := (hw1.cell (p := ⟨b, o + i * 4 + 3, none⟩) (show b < w.heap.size by omega)).trans t3
    clear hW' H hb c0 c1 c2 c3 c4 c5 c6 c7 c8 c9 c10 c11 c12 c13 c14 c15 c16 hbw hbx hb1 t0 t1 t2 t3
    have k0 : w1.cell? ⟨w.heap.size + 1 + 1, 0, none⟩ = some (.int .i64 0) := hb2.cell 0 rfl
    have k1 : w1.cell? ⟨w.heap.size + 1 + 1, 1, none⟩ = some (.int .i64 0) := hb2.cell 1 rfl
    have k2 : w1.cell? ⟨w.heap.size + 1 + 1, 2, none⟩ = some (.int .i64 0) := hb2.cell 2 rfl
    have k3 : w1.cell? ⟨w.heap.size + 1 + 1, 3, none⟩ = some (.int .i64 0) := hb2.cell 3 rfl
    have g0 := hb2.free 0
    have g1 := hb2.free 1
    have g2 := hb2.free 2
    have g3 := hb2.free 3
    go_wp2_with fail
    have b4 := Box.set4 hb2 (x := .int .i64 x.1) (y := .int .i64 x.2.1) (z := .int .i64 x.2.2.1) (u := .int .i64 x.2.2.2)
    have q0 := b4.cell 0 rfl
    have q1 := b4.cell 1 rfl
    have q2 := b4.cell 2 rfl
    have q3 := b4.cell 3 rfl
    have hbe := below_set (below_set (below_set (below_set hw1 (p := ⟨w.heap.size + 1 + 1, 0, none⟩) (by show w.heap.size ≤ w.heap.size + 1 + 1; omega) (.int .i64 x.1)) (p := ⟨w.heap.size + 1 + 1, 1, none⟩) (by show w.heap.size ≤ w.heap.size + 1 + 1; omega) (.int .i64 x.2.1)) (p := ⟨w.heap.size + 1 + 1, 2, none⟩) (by show w.heap.size ≤ w.heap.size + 1 + 1; omega) (.int .i64 x.2.2.1)) (p := ⟨w.heap.size + 1 + 1, 3, none⟩) (by show w.heap.size ≤ w.heap.size + 1 + 1; omega) (.int .i64 x.2.2.2)
    refine bodyPost_ret (v := stepV x) ?_ rfl ⟨rfl, hbe⟩
    simp [results, Tryz.f78, go_sem, q0, q1, q2, q3]
end Go.Proofs.YtndpdbofoojkhaaGreat.Lv
/- A character's width at a level. -/
namespace Go.Proofs.YtndpdbofoojkhaaGreat.Lv
open Go.RowKit Go.Proofs.YtndpdbofoojkhaaGreat.Kit Go.Proofs.YtndpdbofoojkhaaGreat.Fo
set_option linter.unusedVariables false
set_option linter.unusedSimpArgs false

def fixOf (d : FontD) (code : Int) : Int := d.widths.getD (widthOf d code).toNat 0
def wideP (d : FaceD) (code n : Int) : Int := IntKind.i64.wrap (fl (fixOf d.font code) d.size 1048576 + fl (fl (fixOf d.font code) d.size 1048576) (IntKind.i64.wrap (IntKind.i64.wrap (clampP d n * d.step) * (traitP d.traits code).2.1)) 1000000)
def widthV (d : FaceD) (code n : Int) : Int × Int := if faceB d then (if hasB d.font code then (wideP d code n, 0) else (0, 80)) else (0, 90)
theorem Box.cell16 {w : World} {g : Nat} {c0 c1 c2 c3 c4 c5 c6 c7 c8 c9 c10 c11 c12 c13 c14 c15 c16 x0 x1 x2 x3 x4 x5 x6 x7 x8 x9 x10 x11 x12 x13 x14 x15 x16 : Value} {t : TypeId} (h : Box w g #[c0, c1, c2, c3, c4, c5, c6, c7, c8, c9, c10, c11, c12, c13, c14, c15, c16] t) :
    Box (((((((((((((((((w.setCell ⟨g, 0, none⟩ x0).setCell ⟨g, 1, none⟩ x1).setCell ⟨g, 2, none⟩ x2).setCell ⟨g, 3, none⟩ x3).setCell ⟨g, 4, none⟩ x4).setCell ⟨g, 5, none⟩ x5).setCell ⟨g, 6, none⟩ x6).setCell ⟨g, 7, none⟩ x7).setCell ⟨g, 8, none⟩ x8).setCell ⟨g, 9, none⟩ x9).setCell ⟨g, 10, none⟩ x10).setCell ⟨g, 11, none⟩ x11).setCell ⟨g, 12, none⟩ x12).setCell ⟨g, 13, none⟩ x13).setCell ⟨g, 14, none⟩ x14).setCell ⟨g, 15, none⟩ x15).setCell ⟨g, 16, none⟩ x16) g #[x0, x1, x2, x3, x4, x5, x6, x7, x8, x9, x10, x11, x12, x13, x14, x15, x16] t := by
  simpa using ((((((((((((((((h.set 0 x0).set 1 x1).set 2 x2).set 3 x3).set 4 x4).set 5 x5).set 6 x6).set 7 x7).set 8 x8).set 9 x9).set 10 x10).set 11 x11).set 12 x12).set 13 x13).set 14 x14).set 15 x15).set 16 x16

set_option maxRecDepth 100000 in
set_option maxHeartbeats 1000000 in
theorem width_no (d : FaceD) (a : FaceA) (code n : Int) (w : World) {B : Nat} (hB : B ≤ w.heap.size) (hF : FaceIn w B d a) (hc : (Lit.int .i64 code).wf = true) (hf : faceB d = false) :
    Calls Tryz.prog 54 #[faceV d a, .int .i64 code, .int .i64 n] w fun e w' => e = .returned (.tuple #[.int .i64 0, .int .i64 90]) ∧ Below w.heap.size w w' := by
  have hbx := Box.new w (faceCells d a) 29
  have hbw := (Below.refl w.heap.size w).alloc (Nat.le_refl _) (.cells (faceCells d a) 29)
  obtain ⟨W1, hW⟩ : ∃ W1, w.alloc (.cells (faceCells d a) 29) = W1 := ⟨_, rfl⟩
  rw [hW] at hbx hbw
  obtain ⟨⟨c0, c1, c2, c3, c4, c5, c6, c7, c8, c9, c10⟩, c11, c12, c13, c14, c15⟩ := face_cells hbx
  have H := Lib.hid (face_any d a W1 (lt_of_below hB hbw) (hF.mono (hbw.mono hB)))
  have HFF := Lib.hid (fun W (hb : Below w.heap.size w W) => hF.mono (hb.mono hB))
  rw [hf] at H
  clear hf hF HFF
  go_enter Tryz.func54, Tryz.ntmps54
  go_wp2_with fail
  with_reducible refine H.out.mono ?_; rintro e w1 ⟨rfl, hb⟩
  have hw1 := hbw.trans (hb.mono hbw.size)
  clear hW H
  go_wp2_with fail
  go_ret2
  exact ⟨rfl, hw1⟩
set_option maxRecDepth 100000 in
set_option maxHeartbeats 1000000 in
theorem width_nochar (d : FaceD) (a : FaceA) (code n : Int) (w : World) {B : Nat} (hB : B ≤ w.heap.size) (hF : FaceIn w B d a) (hc : (Lit.int .i64 code).wf = true) (hf : faceB d = true) (hq : hasB d.font code = false) :
    Calls Tryz.prog 54 #[faceV d a, .int .i64 code, .int .i64 n] w fun e w' => e = .returned (.tuple #[.int .i64 0, .int .i64 80]) ∧ Below w.heap.size w w' := by
  have hbx := Box.new w (faceCells d a) 29
  have hbw := (Below.refl w.heap.size w).alloc (Nat.le_refl _) (.cells (faceCells d a) 29)
  obtain ⟨W1, hW⟩ : ∃ W1, w.alloc (.cells (faceCells d a) 29) = W1 := ⟨_, rfl⟩
  rw [hW] at hbx hbw
  obtain ⟨⟨c0, c1, c2, c3, c4, c5, c6, c7, c8, c9, c10⟩, c11, c12, c13, c14, c15⟩ := face_cells hbx
  have H := Lib.hid (face_any d a W1 (lt_of_below hB hbw) (hF.mono (hbw.mono hB)))
  have HFF := Lib.hid (fun W (hb : Below w.heap.size w W) => hF.mono (hb.mono hB))
  rw [hf] at H
  obtain ⟨hlig, hsz, hst, hu, hd, hwt⟩ := face_ok hf
  have htfm := lig_tfm hlig
  have hH : Hid (∀ W, Below w.heap.size w W → _) := Lib.hid fun W (hb : Below w.heap.size w W) => thas_any d.font a.font code W (B := B) (lt_of_below hB hb) (HFF.out W hb).font hc
  rw [htfm] at hH
  have HT := Lib.hid htfm
  go_enter Tryz.func54, Tryz.ntmps54
  go_wp2_with fail
  with_reducible refine H.out.mono ?_; rintro e w1 ⟨rfl, hb⟩
  have hw1 := hbw.trans (hb.mono hbw.size)
  have hbx1 := hbx.below hb
  clear hW H hb hF c0 c1 c2 c3 c4 c5 c6 c7 c8 c9 c10 c11 c12 c13 c14 c15 hbw hbx hf hlig hwt htfm
  obtain ⟨⟨c0, c1, c2, c3, c4, c5, c6, c7, c8, c9, c10⟩, c11, c12, c13, c14, c15⟩ := face_cells hbx1
  have hH1 := hH.out w1 hw1
  clear hH
  rw [hq] at hH1
  clear hq
  go_wp2_with fail
  with_reducible refine hH1.mono ?_; rintro e w2 ⟨rfl, hb⟩
  have hw2 := hw1.trans (hb.mono hw1.size)
  clear hH1 hb c0 c1 c2 c3 c4 c5 c6 c7 c8 c9 c10 c11 c12 c13 c14 c15 hw1 hbx1
  go_wp2_with fail
  go_ret2
  exact ⟨rfl, hw2⟩
end Go.Proofs.YtndpdbofoojkhaaGreat.Lv
