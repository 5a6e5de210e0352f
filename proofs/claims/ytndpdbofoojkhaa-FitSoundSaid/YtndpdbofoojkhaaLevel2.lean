/- Whether a face may be. -/
import Derived.Test.YtndpdbofoojkhaaLevel1
namespace Go.Proofs.Ytndpdbofoojkhaa.Lv
open Go.RowKit Go.Proofs.Ytndpdbofoojkhaa.Kit Go.Proofs.Ytndpdbofoojkhaa.Fo
set_option linter.unusedVariables false
set_option linter.unusedSimpArgs false

set_option maxHeartbeats 1000000 in
theorem badt_any (bx n₀ : Nat) (last : Int) (x : StepT) (W : World) (hbx : Box W bx #[.int .i64 last] 3) (hn : n₀ ≤ bx) (hw : (Lit.int .i64 last).wf = true) (h255 : last ≤ 255) :
    Calls Try.prog 29 #[stepV x, .pointer (some ⟨bx, 0, none⟩)] W fun e w' => e = .returned (.bool (badT last x)) ∧ Below n₀ W w' ∧ Box w' bx #[.int .i64 x.1] 3 := by
  obtain ⟨i1, i2⟩ := i64_of hw
  obtain ⟨a, b, c, d⟩ := x
  have hlt := hbx.lt
  have hbn := Box.new W #[.int .i64 a, .int .i64 b, .int .i64 c, .int .i64 d] 82
  have hb1 := hbx.alloc (.cells #[.int .i64 a, .int .i64 b, .int .i64 c, .int .i64 d] 82)
  have hbw := (Below.refl n₀ W).alloc (Nat.le_trans hn (Nat.le_of_lt hlt)) (.cells #[.int .i64 a, .int .i64 b, .int .i64 c, .int .i64 d] 82)
  obtain ⟨V, hV⟩ : ∃ V, W.alloc (.cells #[.int .i64 a, .int .i64 b, .int .i64 c, .int .i64 d] 82) = V := ⟨_, rfl⟩
  rw [hV] at hbn hb1 hbw
  have c0 : V.cell? ⟨W.heap.size, 0, none⟩ = some (.int .i64 a) := hbn.cell 0 rfl
  have c1 : V.cell? ⟨W.heap.size, 1, none⟩ = some (.int .i64 b) := hbn.cell 1 rfl
  have c2 : V.cell? ⟨W.heap.size, 2, none⟩ = some (.int .i64 c) := hbn.cell 2 rfl
  have c3 : V.cell? ⟨W.heap.size, 3, none⟩ = some (.int .i64 d) := hbn.cell 3 rfl
  have cb : V.cell? ⟨bx, 0, none⟩ = some (.int .i64 last) := hb1.cell 0 rfl
  have gb := hb1.free 0
  have HB := Lib.hid (show Below n₀ W (V.setCell ⟨bx, 0, none⟩ (.int .i64 a)) ∧ Box (V.setCell ⟨bx, 0, none⟩ (.int .i64 a)) bx #[.int .i64 a] 3 from ⟨hbw.setCell (p := ⟨bx, 0, none⟩) hn _, hb1.set 0 _⟩)
  have O1 : Hid (∀ w, _) := Lib.hid (to_any a (last + 1) 255)
  have O2 : Hid (∀ w, _) := Lib.hid (to_any b 0 1000)
  have O3 : Hid (∀ w, _) := Lib.hid (to_any c (-1000) 1000)
  have O4 : Hid (∀ w, _) := Lib.hid (to_any d (-1000) 1000)
  obtain ⟨res, hres⟩ : ∃ r, Hid (badT last (a, b, c, d) = r) := ⟨_, Lib.hid rfl⟩
  have HE : Hid _ := Lib.hid hres.out
  rw [hres.out]
  unfold badT at HE
  dsimp only at HE
  clear hres hbn hb1 hbw hbx hn hlt
  generalize toB a (last + 1) 255 = q1 at *
  generalize toB b 0 1000 = q2 at *
  generalize toB c (-1000) 1000 = q3 at *
  generalize toB d (-1000) 1000 = q4 at *
  go_enter Try.func29, Try.ntmps29
  go_wp2_with fail
  with_reducible refine (O1.out _).mono ?_; rintro e w1 ⟨rfl, rfl⟩
  cases q1 with
  | false =>
    go_wp2_with fail
    go_ret
    exact ⟨ret_bool rfl (by rw [← HE.out]; rfl), HB.out⟩
  | true =>
    go_wp2_with fail
    with_reducible refine (O2.out _).mono ?_; rintro e w1 ⟨rfl, rfl⟩
    cases q2 with
    | false =>
      go_wp2_with fail
      go_ret
      exact ⟨ret_bool rfl (by rw [← HE.out]; rfl), HB.out⟩
    | true =>
      go_wp2_with fail
      with_reducible refine (O3.out _).mono ?_; rintro e w1 ⟨rfl, rfl⟩
      cases q3 with
      | false =>
        go_wp2_with fail
        go_ret
        exact ⟨ret_bool rfl (by rw [← HE.out]; rfl), HB.out⟩
      | true =>
        go_wp2_with fail
        with_reducible refine (O4.out _).mono ?_; rintro e w1 ⟨rfl, rfl⟩
        go_wp2_with fail
        go_ret
        exact ⟨ret_bool rfl (by rw [← HE.out]; simp), HB.out⟩

/-! ### Faces -/
structure FaceD where
  font : FontD
  size : Int
  step : Int
  up : Int
  down : Int
  traits : List StepT
structure FaceA where
  font : FontA
  t : Option Addr
  ct : Nat
abbrev faceCells (d : FaceD) (a : FaceA) : Array Value := #[.int .i64 d.font.sum, .int .i64 d.font.design, .int .i64 d.font.first, .slice a.font.c d.font.chars.length a.font.cc, .slice a.font.w d.font.widths.length a.font.cw, .slice a.font.h d.font.heights.length a.font.ch, .slice a.font.d d.font.depths.length a.font.cd, .slice a.font.i d.font.italics.length a.font.ci, .slice a.font.s d.font.steps.length a.font.cs, .slice a.font.k d.font.kerns.length a.font.ck, .slice a.font.p d.font.params.length a.font.cp,
  .int .i64 d.size, .int .i64 d.step, .int .i64 d.up, .int .i64 d.down, .slice a.t d.traits.length a.ct]
abbrev faceV (d : FaceD) (a : FaceA) : Value := .agg (faceCells d a)
structure FaceIn (w : World) (B : Nat) (d : FaceD) (a : FaceA) : Prop where
  font : FontIn w B d.font a.font
  size : (Lit.int .i64 d.size).wf = true
  step : (Lit.int .i64 d.step).wf = true
  up : (Lit.int .i64 d.up).wf = true
  down : (Lit.int .i64 d.down).wf = true
  traits : Row traitR w B a.t d.traits
  nt : d.traits.length ≤ 9223372036854775807
theorem FaceIn.mono {w w' : World} {B : Nat} {d : FaceD} {a : FaceA} (h : FaceIn w B d a) (hb : Below B w w') : FaceIn w' B d a :=
  ⟨h.font.mono hb, h.size, h.step, h.up, h.down, h.traits.mono hb, h.nt⟩
theorem FaceIn.up' {w : World} {B B' : Nat} {d : FaceD} {a : FaceA} (h : FaceIn w B d a) (hb : B ≤ B') : FaceIn w B' d a :=
  ⟨h.font.up hb, h.size, h.step, h.up, h.down, h.traits.up hb, h.nt⟩
theorem face_cells {w : World} {g : Nat} {d : FaceD} {a : FaceA} {t : TypeId} (h : Box w g (faceCells d a) t) :
    (w.cell? ⟨g, 0, none⟩ = some (.int .i64 d.font.sum) ∧ w.cell? ⟨g, 1, none⟩ = some (.int .i64 d.font.design) ∧ w.cell? ⟨g, 2, none⟩ = some (.int .i64 d.font.first) ∧ w.cell? ⟨g, 3, none⟩ = some (.slice a.font.c d.font.chars.length a.font.cc) ∧ w.cell? ⟨g, 4, none⟩ = some (.slice a.font.w d.font.widths.length a.font.cw) ∧ w.cell? ⟨g, 5, none⟩ = some (.slice a.font.h d.font.heights.length a.font.ch) ∧
    w.cell? ⟨g, 6, none⟩ = some (.slice a.font.d d.font.depths.length a.font.cd) ∧ w.cell? ⟨g, 7, none⟩ = some (.slice a.font.i d.font.italics.length a.font.ci) ∧ w.cell? ⟨g, 8, none⟩ = some (.slice a.font.s d.font.steps.length a.font.cs) ∧ w.cell? ⟨g, 9, none⟩ = some (.slice a.font.k d.font.kerns.length a.font.ck) ∧ w.cell? ⟨g, 10, none⟩ = some (.slice a.font.p d.font.params.length a.font.cp)) ∧
    w.cell? ⟨g, 11, none⟩ = some (.int .i64 d.size) ∧ w.cell? ⟨g, 12, none⟩ = some (.int .i64 d.step) ∧ w.cell? ⟨g, 13, none⟩ = some (.int .i64 d.up) ∧ w.cell? ⟨g, 14, none⟩ = some (.int .i64 d.down) ∧ w.cell? ⟨g, 15, none⟩ = some (.slice a.t d.traits.length a.ct) :=
  ⟨⟨h.cell 0 rfl, h.cell 1 rfl, h.cell 2 rfl, h.cell 3 rfl, h.cell 4 rfl, h.cell 5 rfl, h.cell 6 rfl, h.cell 7 rfl, h.cell 8 rfl, h.cell 9 rfl, h.cell 10 rfl⟩, h.cell 11 rfl, h.cell 12 rfl, h.cell 13 rfl, h.cell 14 rfl, h.cell 15 rfl⟩

def faceB (d : FaceD) : Bool := ligB d.font && toB d.size 65536 4194304 && toB d.step 0 50 && toB d.up 0 8 && toB d.down 0 8 && !wrongT (-1) d.traits
set_option maxHeartbeats 2000000 in
theorem face_any (d : FaceD) (a : FaceA) (w : World) {B : Nat} (hB : B ≤ w.heap.size) (hF : FaceIn w B d a) :
    Calls Try.prog 16 #[faceV d a] w fun e w' => e = .returned (.bool (faceB d)) ∧ Below w.heap.size w w' := by
  have e1 : ∀ args w, (callFunc 29 args).run Try.prog w = .ok (.enter 29 args) w := enters_of Try.func29 (by kernel_rfl) rfl
  have L1 : Hid (∀ W, Below w.heap.size w W → _) := Lib.hid fun W hb => lig_any d.font a.font W (lt_of_below hB hb) (hF.font.mono (hb.mono hB))
  have O1 : Hid (∀ w, _) := Lib.hid (to_any d.size 65536 4194304)
  have O2 : Hid (∀ w, _) := Lib.hid (to_any d.step 0 50)
  have O3 : Hid (∀ w, _) := Lib.hid (to_any d.up 0 8)
  have O4 : Hid (∀ w, _) := Lib.hid (to_any d.down 0 8)
  have T1 : Hid (∀ W bx, Below w.heap.size w W → w.heap.size ≤ bx → Box W bx #[.int .i64 (-1)] 3 → _) := Lib.hid fun W bx hb hbx hbox => containsT 29 bx w.heap.size e1 a.t a.ct d.traits W hB hb.size (hF.traits.mono (hb.mono hB)) hF.nt hbox (fun W' last x _ hb2 hw hl _ => badt_any bx w.heap.size last x W' hb2 hbx hw hl)
  clear e1 hF
  obtain ⟨res, hres⟩ : ∃ r, Hid (faceB d = r) := ⟨_, Lib.hid rfl⟩
  have HE : Hid _ := Lib.hid hres.out
  rw [hres.out]
  unfold faceB at HE
  clear hres
  generalize ligB d.font = p1 at *
  generalize wrongT (-1) d.traits = p2 at *
  generalize toB d.size 65536 4194304 = q1 at *
  generalize toB d.step 0 50 = q2 at *
  generalize toB d.up 0 8 = q3 at *
  generalize toB d.down 0 8 = q4 at *
  have hbx := Box.new w (faceCells d a) 29
  have hbw := (Below.refl w.heap.size w).alloc (Nat.le_refl _) (.cells (faceCells d a) 29)
  obtain ⟨W1, hW⟩ : ∃ W1, w.alloc (.cells (faceCells d a) 29) = W1 := ⟨_, rfl⟩
  rw [hW] at hbx hbw
  obtain ⟨⟨c0, c1, c2, c3, c4, c5, c6, c7, c8, c9, c10⟩, c11, c12, c13, c14, c15⟩ := face_cells hbx
  go_enter Try.func16, Try.ntmps16
  go_wp2_with fail
  have H1 := L1.out W1 hbw
  clear L1
  with_reducible refine H1.mono ?_; rintro e w1 ⟨rfl, hb⟩
  clear H1 hW c0 c1 c2 c3 c4 c5 c6 c7 c8 c9 c10 c11 c12 c13 c14 c15
  have hw1 := hbw.trans (hb.mono hbw.size)
  have hbx1 := hbx.below hb
  obtain ⟨_, c11, c12, c13, c14, c15⟩ := face_cells hbx1
  clear hb hbw hbx
  cases p1 with
  | false =>
    go_wp2_with fail
    go_ret
    exact ⟨ret_bool rfl (by rw [← HE.out]; simp), hw1⟩
  | true =>
    go_wp2_with fail
    with_reducible refine (O1.out _).mono ?_; rintro e w1 ⟨rfl, rfl⟩
    cases q1 with
    | false =>
      go_wp2_with fail
      go_ret
      exact ⟨ret_bool rfl (by rw [← HE.out]; simp), hw1⟩
    | true =>
      go_wp2_with fail
      with_reducible refine (O2.out _).mono ?_; rintro e w1 ⟨rfl, rfl⟩
      cases q2 with
      | false =>
        go_wp2_with fail
        go_ret
        exact ⟨ret_bool rfl (by rw [← HE.out]; simp), hw1⟩
      | true =>
        go_wp2_with fail
        with_reducible refine (O3.out _).mono ?_; rintro e w1 ⟨rfl, rfl⟩
        cases q3 with
        | false =>
          go_wp2_with fail
          go_ret
          exact ⟨ret_bool rfl (by rw [← HE.out]; simp), hw1⟩
        | true =>
          go_wp2_with fail
          with_reducible refine (O4.out _).mono ?_; rintro e w1 ⟨rfl, rfl⟩
          cases q4 with
          | false =>
            go_wp2_with fail
            go_ret
            exact ⟨ret_bool rfl (by rw [← HE.out]; simp), hw1⟩
          | true =>
            rename World => V
            have hbn := Box.new V #[.int .i64 (-1)] 3
            have hwn := below_alloc hw1 (.cells #[.int .i64 (-1)] 3)
            have c15' : (V.alloc (.cells #[.int .i64 (-1)] 3)).cell? ⟨w.heap.size, 15, none⟩ = _ := old_cell _ c15
            have H1 := T1.out _ _ hwn hw1.size hbn
            clear T1 hbn
            go_wp2_with fail
            trace_state
            with_reducible refine H1.mono ?_; rintro e w1 ⟨rfl, hb⟩
            have hw2 := hwn.trans hb
            clear H1 c15' hwn hb
            go_wp2_with fail
            go_ret
            exact ⟨ret_bool rfl (by rw [← HE.out]; simp), hw2⟩
end Go.Proofs.Ytndpdbofoojkhaa.Lv
