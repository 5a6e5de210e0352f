/- The nearest level, a floor, points, a character's trait. -/
import Derived.Test.YtndpdbofoojkhaaLevel2
import Derived.Test.YtndpdbofoojkhaaMulFloor
namespace Go.Proofs.Ytndpdbofoojkhaa.Lv
open Go.RowKit Go.Proofs.Ytndpdbofoojkhaa.Kit Go.Proofs.Ytndpdbofoojkhaa.Fo
set_option linter.unusedVariables false
set_option linter.unusedSimpArgs false

def clampP (d : FaceD) (n : Int) : Int := min (max n (-d.down)) d.up
theorem face_ok {d : FaceD} (h : faceB d = true) : ligB d.font = true ∧ (65536 ≤ d.size ∧ d.size ≤ 4194304) ∧ (0 ≤ d.step ∧ d.step ≤ 50) ∧ (0 ≤ d.up ∧ d.up ≤ 8) ∧ (0 ≤ d.down ∧ d.down ≤ 8) ∧ wrongT (-1) d.traits = false := by
  unfold faceB toB at h
  simp only [Bool.and_eq_true, decide_eq_true_eq, Bool.not_eq_true'] at h
  obtain ⟨⟨⟨⟨⟨h1, h2⟩, h3⟩, h4⟩, h5⟩, h6⟩ := h
  exact ⟨h1, h2, h3, h4, h5, h6⟩
theorem lig_tfm {d : FontD} (h : ligB d = true) : tfmB d = true := by
  unfold ligB madeP at h
  split at h
  · assumption
  · simp at h
theorem clamp_any (d : FaceD) (a : FaceA) (n : Int) (w : World) (hu : 0 ≤ d.up ∧ d.up ≤ 8) (hd : 0 ≤ d.down ∧ d.down ≤ 8) :
    Calls Try.prog 55 #[faceV d a, .int .i64 n] w fun e w' => e = .returned (.int .i64 (clampP d n)) ∧ Below w.heap.size w w' := by
  have hbx := Box.new w (faceCells d a) 29
  have hbw := (Below.refl w.heap.size w).alloc (Nat.le_refl _) (.cells (faceCells d a) 29)
  obtain ⟨W1, hW⟩ : ∃ W1, w.alloc (.cells (faceCells d a) 29) = W1 := ⟨_, rfl⟩
  rw [hW] at hbx hbw
  obtain ⟨⟨c0, c1, c2, c3, c4, c5, c6, c7, c8, c9, c10⟩, c11, c12, c13, c14, c15⟩ := face_cells hbx
  obtain ⟨u1, u2⟩ := hu
  obtain ⟨v1, v2⟩ := hd
  unfold clampP
  generalize hvd : d.down = dn at *
  generalize hvu : d.up = du at *
  clear hvd hvu
  have E : ∀ r : Int, r = min (max n (-dn)) du → r = min (max n (-dn)) du := fun _ h => h
  by_cases h1 : n ≤ -dn
  · go_enter Try.func55, Try.ntmps55
    go_wp2
    go_ret
    exact ⟨ret_int rfl (by omega), hbw⟩
  · by_cases h2 : n ≤ du
    · go_enter Try.func55, Try.ntmps55
      go_wp2
      go_ret
      exact ⟨ret_int rfl (by omega), hbw⟩
    · go_enter Try.func55, Try.ntmps55
      go_wp2
      go_ret
      exact ⟨ret_int rfl (by omega), hbw⟩
def fl (a b c : Int) : Int := (Mul.floorP a b c).1
theorem floor_any (a b c : Int) (w : World) :
    Calls Try.prog 57 #[.int .i64 a, .int .i64 b, .int .i64 c] w fun e w' => e = .returned (.int .i64 (fl a b c)) ∧ Below w.heap.size w w' := by
  have H : Hid (∀ w, _) := Lib.hid (Mul.floor_any a b c)
  unfold fl
  generalize Mul.floorP a b c = r at *
  go_enter Try.func57, Try.ntmps57
  go_wp2_with fail
  with_reducible refine (H.out _).mono ?_; rintro e w1 ⟨rfl, hb⟩
  go_wp2_with fail
  go_ret
  exact ⟨rfl, hb⟩
abbrev atCells (d : FaceD) (a : FaceA) (n : Int) : Array Value := #[.int .i64 d.font.sum, .int .i64 d.font.design, .int .i64 d.font.first, .slice a.font.c d.font.chars.length a.font.cc, .slice a.font.w d.font.widths.length a.font.cw, .slice a.font.h d.font.heights.length a.font.ch, .slice a.font.d d.font.depths.length a.font.cd, .slice a.font.i d.font.italics.length a.font.ci, .slice a.font.s d.font.steps.length a.font.cs, .slice a.font.k d.font.kerns.length a.font.ck, .slice a.font.p d.font.params.length a.font.cp,
  .int .i64 d.size, .int .i64 d.step, .int .i64 d.up, .int .i64 d.down, .slice a.t d.traits.length a.ct, .int .i64 n]
abbrev atV (d : FaceD) (a : FaceA) (n : Int) : Value := .agg (atCells d a n)
theorem at_cells {w : World} {g : Nat} {d : FaceD} {a : FaceA} {n : Int} {t : TypeId} (h : Box w g (atCells d a n) t) :
    (w.cell? ⟨g, 0, none⟩ = some (.int .i64 d.font.sum) ∧ w.cell? ⟨g, 1, none⟩ = some (.int .i64 d.font.design) ∧ w.cell? ⟨g, 2, none⟩ = some (.int .i64 d.font.first) ∧ w.cell? ⟨g, 3, none⟩ = some (.slice a.font.c d.font.chars.length a.font.cc) ∧ w.cell? ⟨g, 4, none⟩ = some (.slice a.font.w d.font.widths.length a.font.cw) ∧ w.cell? ⟨g, 5, none⟩ = some (.slice a.font.h d.font.heights.length a.font.ch) ∧
    w.cell? ⟨g, 6, none⟩ = some (.slice a.font.d d.font.depths.length a.font.cd) ∧ w.cell? ⟨g, 7, none⟩ = some (.slice a.font.i d.font.italics.length a.font.ci) ∧ w.cell? ⟨g, 8, none⟩ = some (.slice a.font.s d.font.steps.length a.font.cs) ∧ w.cell? ⟨g, 9, none⟩ = some (.slice a.font.k d.font.kerns.length a.font.ck) ∧ w.cell? ⟨g, 10, none⟩ = some (.slice a.font.p d.font.params.length a.font.cp)) ∧
    w.cell? ⟨g, 11, none⟩ = some (.int .i64 d.size) ∧ w.cell? ⟨g, 12, none⟩ = some (.int .i64 d.step) ∧ w.cell? ⟨g, 13, none⟩ = some (.int .i64 d.up) ∧ w.cell? ⟨g, 14, none⟩ = some (.int .i64 d.down) ∧ w.cell? ⟨g, 15, none⟩ = some (.slice a.t d.traits.length a.ct) ∧ w.cell? ⟨g, 16, none⟩ = some (.int .i64 n) :=
  ⟨⟨h.cell 0 rfl, h.cell 1 rfl, h.cell 2 rfl, h.cell 3 rfl, h.cell 4 rfl, h.cell 5 rfl, h.cell 6 rfl, h.cell 7 rfl, h.cell 8 rfl, h.cell 9 rfl, h.cell 10 rfl⟩, h.cell 11 rfl, h.cell 12 rfl, h.cell 13 rfl, h.cell 14 rfl, h.cell 15 rfl, h.cell 16 rfl⟩
theorem points_any (d : FaceD) (a : FaceA) (n x : Int) (w : World) :
    Calls Try.prog 56 #[atV d a n, .int .i64 x] w fun e w' => e = .returned (.int .i64 (fl x d.size 1048576)) ∧ Below w.heap.size w w' := by
  have hbx := Box.new w (atCells d a n) 124
  have hbw := (Below.refl w.heap.size w).alloc (Nat.le_refl _) (.cells (atCells d a n) 124)
  obtain ⟨W1, hW⟩ : ∃ W1, w.alloc (.cells (atCells d a n) 124) = W1 := ⟨_, rfl⟩
  rw [hW] at hbx hbw
  obtain ⟨⟨c0, c1, c2, c3, c4, c5, c6, c7, c8, c9, c10⟩, c11, c12, c13, c14, c15, c16⟩ := at_cells hbx
  have H : Hid (∀ w, _) := Lib.hid (floor_any x d.size 1048576)
  generalize fl x d.size 1048576 = r at *
  go_enter Try.func56, Try.ntmps56
  go_wp2_with fail
  with_reducible refine (H.out _).mono ?_; rintro e w1 ⟨rfl, hb⟩
  have hw1 := hbw.trans (hb.mono hbw.size)
  clear hW H hb c0 c1 c2 c3 c4 c5 c6 c7 c8 c9 c10 c11 c12 c13 c14 c15 c16 hbw hbx
  go_wp2_with fail
  go_ret
  exact ⟨rfl, hw1⟩

/-! ### A character's trait -/
def traitP (l : List StepT) (code : Int) : StepT := (l.find? fun t => t.1 == code).getD (0, 1000, 0, 0)
theorem placeV_cases {α : Type} (p : α → Bool) : ∀ (l : List α) (k : Nat), (placeV p l k = -1 ∧ l.find? p = none) ∨ ∃ (i : Nat) (x : α), placeV p l k = ((k + i : Nat) : Int) ∧ l[i]? = some x ∧ l.find? p = some x
  | [], k => .inl ⟨rfl, rfl⟩
  | x :: xs, k => by
    unfold placeV
    cases hx : p x with
    | true => exact .inr ⟨0, x, by simp, by simp, by simp [hx]⟩
    | false =>
      rcases placeV_cases p xs (k + 1) with ⟨h1, h2⟩ | ⟨i, y, h1, h2, h3⟩
      · exact .inl ⟨by simpa using h1, by simp [hx, h2]⟩
      · refine .inr ⟨i + 1, y, ?_, by simpa using h2, by simp [hx, h3]⟩
        simp only [Bool.false_eq_true, if_false]
        refine Eq.trans ?_ (h1.trans ?_)
        · rfl
        · congr 1; omega
theorem isCode_any (x : StepT) (code : Int) (g : Nat) (w : World) (hbx : Box w g #[.int .i64 code] 3) :
    Calls Try.prog 70 #[stepV x, .pointer (some ⟨g, 0, none⟩)] w fun e w' => e = .returned (.bool (x.1 == code)) ∧ Below w.heap.size w w' := by
  have hb1 := hbx.alloc (.cells #[.int .i64 x.1, .int .i64 x.2.1, .int .i64 x.2.2.1, .int .i64 x.2.2.2] 82)
  have cb := hb1.cell 0 (v := .int .i64 code) rfl
  clear hbx hb1
  go_enter Try.func70, Try.ntmps70
  go_wp2
  go_ret
  exact ⟨rfl, (Below.refl w.heap.size w).alloc (Nat.le_refl _) _⟩
end Go.Proofs.Ytndpdbofoojkhaa.Lv
