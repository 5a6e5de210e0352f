/- joined for a claim: Font4, Font5, Font6, Font6b -/
import Derived.Test.YtndpdbofoojkhaaGreatFont3
/- Whether a step, and a font, may be. -/
namespace Go.Proofs.YtndpdbofoojkhaaGreat.Fo
open Go.RowKit Go.Proofs.YtndpdbofoojkhaaGreat.Kit
set_option linter.unusedVariables false
set_option linter.unusedSimpArgs false

/-! ### A step -/
set_option maxHeartbeats 1000000 in
theorem step_any (s : StepT) (w : World) (h1 : (Lit.int .i64 s.1).wf = true) (h2 : (Lit.int .i64 s.2.1).wf = true) (h3 : (Lit.int .i64 s.2.2.1).wf = true) (h4 : (Lit.int .i64 s.2.2.2).wf = true) :
    Calls Tryz.prog 112 #[stepV s] w fun e w' => e = .returned (.bool (stepB s)) ∧ Below w.heap.size w w' := by
  obtain ⟨a, b, c, d⟩ := s
  dsimp only at h1 h2 h3 h4
  have e1 : ∀ args w, (callFunc 122 args).run Tryz.prog w = .ok (.enter 122 args) w := enters_of Tryz.func122 (by kernel_rfl) rfl
  have HW : Hid (∀ x ∈ [a, b, c, d], (Lit.int .i64 x).wf = true) := Lib.hid (by
    intro x hx
    simp only [List.mem_cons, List.not_mem_nil, or_false] at hx
    rcases hx with rfl | rfl | rfl | rfl <;> assumption)
  have HC : Hid (∀ (W : World), Calls Tryz.prog 46 #[.slice (some ⟨W.heap.size, 0, none⟩) 4 4, .func (.func 122) #[] #[]] (W.alloc (.cells #[.int .i64 a, .int .i64 b, .int .i64 c, .int .i64 d] 3)) fun e w' => e = .returned (.bool ([a, b, c, d].any fun n => !ofB n 256)) ∧ Below (W.alloc (.cells #[.int .i64 a, .int .i64 b, .int .i64 c, .int .i64 d] 3)).heap.size (W.alloc (.cells #[.int .i64 a, .int .i64 b, .int .i64 c, .int .i64 d] 3)) w') :=
    Lib.hid fun W => contains_any _ #[] (fun n => !ofB n 256) e1 (some ⟨W.heap.size, 0, none⟩) 4 [a, b, c, d] _ (Nat.le_refl _) (ints_new W [a, b, c, d] 3 _ HW.out rfl) (by simp) (asks_nofit _)
  clear e1 h1 h2 h3 h4 HW
  obtain ⟨res, hres⟩ : ∃ r, Hid (stepB (a, b, c, d) = r) := ⟨_, Lib.hid rfl⟩
  have HE : Hid ((!([a, b, c, d].any fun n => !ofB n 256)) = res) := Lib.hid hres.out
  rw [hres.out]
  clear hres
  generalize ([a, b, c, d].any fun n => !ofB n 256) = q at *
  go_enter Tryz.func112, Tryz.ntmps112
  go_wp2_with fail
  have HC' := HC.out (w.alloc (.cells #[.int .i64 a, .int .i64 b, .int .i64 c, .int .i64 d] 79))
  simp only [World.size_alloc] at HC'
  with_reducible refine HC'.mono ?_
  rintro e w1 ⟨rfl, hb⟩
  clear HC' HC
  generalize HW1 : ((w.alloc (.cells #[.int .i64 a, .int .i64 b, .int .i64 c, .int .i64 d] 79)).alloc (.cells #[.int .i64 a, .int .i64 b, .int .i64 c, .int .i64 d] 3)) = W1 at *
  have hb2 : Below w.heap.size w w1 := by
    refine Below.trans (b := W1) ?_ (hb.mono ?_)
    · rw [← HW1]; exact ((Below.refl _ w).alloc (Nat.le_refl _) _).alloc (by simp) _
    · omega
  clear HW1 hb
  go_wp2
  go_ret
  exact ⟨ret_bool rfl HE.out, hb2⟩

/-! ### A font in memory -/
structure FontIn (w : World) (B : Nat) (d : FontD) (a : FontA) : Prop where
  sum : (Lit.int .i64 d.sum).wf = true
  design : (Lit.int .i64 d.design).wf = true
  first : (Lit.int .i64 d.first).wf = true
  chars : Row charR w B a.c d.chars
  widths : Row (Rep.int .i64) w B a.w d.widths
  heights : Row (Rep.int .i64) w B a.h d.heights
  depths : Row (Rep.int .i64) w B a.d d.depths
  italics : Row (Rep.int .i64) w B a.i d.italics
  steps : Row stepR w B a.s d.steps
  kerns : Row (Rep.int .i64) w B a.k d.kerns
  params : Row (Rep.int .i64) w B a.p d.params
  nc : d.chars.length ≤ 9223372036854775807
  nw : d.widths.length ≤ 9223372036854775807
  nh : d.heights.length ≤ 9223372036854775807
  nd : d.depths.length ≤ 9223372036854775807
  ni : d.italics.length ≤ 9223372036854775807
  ns : d.steps.length ≤ 9223372036854775807
  nk : d.kerns.length ≤ 9223372036854775807
  np : d.params.length ≤ 9223372036854775807
theorem FontIn.mono {w w' : World} {B : Nat} {d : FontD} {a : FontA} (h : FontIn w B d a) (hb : Below B w w') : FontIn w' B d a :=
  ⟨h.sum, h.design, h.first, h.chars.mono hb, h.widths.mono hb, h.heights.mono hb, h.depths.mono hb, h.italics.mono hb, h.steps.mono hb, h.kerns.mono hb, h.params.mono hb, h.nc, h.nw, h.nh, h.nd, h.ni, h.ns, h.nk, h.np⟩
theorem FontIn.up {w : World} {B B' : Nat} {d : FontD} {a : FontA} (h : FontIn w B d a) (hb : B ≤ B') : FontIn w B' d a :=
  ⟨h.sum, h.design, h.first, h.chars.up hb, h.widths.up hb, h.heights.up hb, h.depths.up hb, h.italics.up hb, h.steps.up hb, h.kerns.up hb, h.params.up hb, h.nc, h.nw, h.nh, h.nd, h.ni, h.ns, h.nk, h.np⟩
theorem font_cells {w : World} {g : Nat} {d : FontD} {a : FontA} {t : TypeId} (h : Box w g (fontCells d a) t) :
    w.cell? ⟨g, 0, none⟩ = some (.int .i64 d.sum) ∧ w.cell? ⟨g, 1, none⟩ = some (.int .i64 d.design) ∧ w.cell? ⟨g, 2, none⟩ = some (.int .i64 d.first) ∧ w.cell? ⟨g, 3, none⟩ = some (.slice a.c d.chars.length a.cc) ∧ w.cell? ⟨g, 4, none⟩ = some (.slice a.w d.widths.length a.cw) ∧ w.cell? ⟨g, 5, none⟩ = some (.slice a.h d.heights.length a.ch) ∧
    w.cell? ⟨g, 6, none⟩ = some (.slice a.d d.depths.length a.cd) ∧ w.cell? ⟨g, 7, none⟩ = some (.slice a.i d.italics.length a.ci) ∧ w.cell? ⟨g, 8, none⟩ = some (.slice a.s d.steps.length a.cs) ∧ w.cell? ⟨g, 9, none⟩ = some (.slice a.k d.kerns.length a.ck) ∧ w.cell? ⟨g, 10, none⟩ = some (.slice a.p d.params.length a.cp) :=
  ⟨h.cell 0 rfl, h.cell 1 rfl, h.cell 2 rfl, h.cell 3 rfl, h.cell 4 rfl, h.cell 5 rfl, h.cell 6 rfl, h.cell 7 rfl, h.cell 8 rfl, h.cell 9 rfl, h.cell 10 rfl⟩

/-- A character that may not be, asked of a font in a box. -/
theorem nochar_any (d : FontD) (a : FontA) (c : CharT) (g : Nat) (w : World) (hbx : Box w g (fontCells d a) 26) :
    Calls Tryz.prog 108 #[charV c, .pointer (some ⟨g, 0, none⟩)] w fun e w' => e = .returned (.bool (!charB d c)) ∧ Below w.heap.size w w' := by
  have H := Lib.hid (char_any d a c (w.alloc (.cells #[.int .i64 c.1, .int .i64 c.2.1, .int .i64 c.2.2.1, .int .i64 c.2.2.2.1, .int .i64 c.2.2.2.2.1, .int .i64 c.2.2.2.2.2] 81)))
  generalize charB d c = q at *
  obtain ⟨c0, c1, c2, c3, c4, c5, c6, c7, c8, c9, c10⟩ := font_cells (hbx.alloc (.cells #[.int .i64 c.1, .int .i64 c.2.1, .int .i64 c.2.2.1, .int .i64 c.2.2.2.1, .int .i64 c.2.2.2.2.1, .int .i64 c.2.2.2.2.2] 81))
  clear hbx
  go_enter Tryz.func108, Tryz.ntmps108
  go_wp2_with fail
  with_reducible refine H.out.mono ?_; rintro e w1 ⟨rfl, hb⟩
  have hb2 := ((Below.refl _ w).alloc (Nat.le_refl _) (.cells #[.int .i64 c.1, .int .i64 c.2.1, .int .i64 c.2.2.1, .int .i64 c.2.2.2.1, .int .i64 c.2.2.2.2.1, .int .i64 c.2.2.2.2.2] 81)).trans (hb.mono (by simp))
  clear hb c0 c1 c2 c3 c4 c5 c6 c7 c8 c9 c10 H
  go_wp2
  go_ret
  exact ⟨rfl, hb2⟩
theorem nostep_any (s : StepT) (w : World) (h1 : (Lit.int .i64 s.1).wf = true) (h2 : (Lit.int .i64 s.2.1).wf = true) (h3 : (Lit.int .i64 s.2.2.1).wf = true) (h4 : (Lit.int .i64 s.2.2.2).wf = true) :
    Calls Tryz.prog 111 #[stepV s] w fun e w' => e = .returned (.bool (!stepB s)) ∧ Below w.heap.size w w' := by
  have H := Lib.hid (step_any s (w.alloc (.cells #[.int .i64 s.1, .int .i64 s.2.1, .int .i64 s.2.2.1, .int .i64 s.2.2.2] 79)) h1 h2 h3 h4)
  generalize stepB s = q at *
  go_enter Tryz.func111, Tryz.ntmps111
  go_wp2_with fail
  with_reducible refine H.out.mono ?_; rintro e w1 ⟨rfl, hb⟩
  have hb2 := ((Below.refl _ w).alloc (Nat.le_refl _) (.cells #[.int .i64 s.1, .int .i64 s.2.1, .int .i64 s.2.2.1, .int .i64 s.2.2.2] 79)).trans (hb.mono (by simp))
  clear hb H
  go_wp2
  go_ret
  exact ⟨rfl, hb2⟩
end Go.Proofs.YtndpdbofoojkhaaGreat.Fo
/- Whether a font may be. -/
namespace Go.Proofs.YtndpdbofoojkhaaGreat.Fo
open Go.RowKit Go.Proofs.YtndpdbofoojkhaaGreat.Kit
set_option linter.unusedVariables false
set_option linter.unusedSimpArgs false

theorem lt_of_below {B : Nat} {w w' : World} (hB : B ≤ w.heap.size) (hb : Below w.heap.size w w') : B ≤ w'.heap.size := Nat.le_trans hB hb.size
set_option maxHeartbeats 2000000 in
theorem check_any (d : FontD) (a : FontA) (w : World) {B : Nat} (hB : B ≤ w.heap.size) (hF : FontIn w B d a) :
    Calls Tryz.prog 90 #[fontV d a] w fun e w' => e = .returned (.bool (tfmB d)) ∧ Below w.heap.size w w' := by
  have e1 : ∀ args w, (callFunc 108 args).run Tryz.prog w = .ok (.enter 108 args) w := enters_of Tryz.func108 (by kernel_rfl) rfl
  have e2 : ∀ args w, (callFunc 111 args).run Tryz.prog w = .ok (.enter 111 args) w := enters_of Tryz.func111 (by kernel_rfl) rfl
  have T1 : Hid (∀ W, Below w.heap.size w W → _) := Lib.hid fun W hb => table_any a.w a.cw d.widths 1 256 (by decide) W (lt_of_below hB hb) (hF.widths.mono (hb.mono hB)) hF.nw
  have T2 : Hid (∀ W, Below w.heap.size w W → _) := Lib.hid fun W hb => table_any a.h a.ch d.heights 1 16 (by decide) W (lt_of_below hB hb) (hF.heights.mono (hb.mono hB)) hF.nh
  have T3 : Hid (∀ W, Below w.heap.size w W → _) := Lib.hid fun W hb => table_any a.d a.cd d.depths 1 16 (by decide) W (lt_of_below hB hb) (hF.depths.mono (hb.mono hB)) hF.nd
  have T4 : Hid (∀ W, Below w.heap.size w W → _) := Lib.hid fun W hb => table_any a.i a.ci d.italics 1 64 (by decide) W (lt_of_below hB hb) (hF.italics.mono (hb.mono hB)) hF.ni
  have T5 : Hid (∀ W, Below w.heap.size w W → _) := Lib.hid fun W hb => table_any a.k a.ck d.kerns 0 256 (by decide) W (lt_of_below hB hb) (hF.kerns.mono (hb.mono hB)) hF.nk
  have T6 : Hid (∀ W, Below w.heap.size w W → _) := Lib.hid fun W hb => table_any a.p a.cp d.params 0 30 (by decide) W (lt_of_below hB hb) (hF.params.mono (hb.mono hB)) hF.np
  have T7 : Hid (∀ W g, Below w.heap.size w W → Box W g (fontCells d a) 26 → _) := Lib.hid fun W g hb hbx => contains_char _ #[.pointer (some ⟨g, 0, none⟩)] (fun c => !charB d c) e1 a.c a.cc d.chars W (lt_of_below hB hb) (hF.chars.mono (hb.mono hB)) hF.nc (fun W' c hb' _ => nochar_any d a c g W' (hbx.below hb'))
  have T8 : Hid (∀ W, Below w.heap.size w W → _) := Lib.hid fun W hb => contains_step _ #[] (fun s => !stepB s) e2 a.s a.cs d.steps W (lt_of_below hB hb) (hF.steps.mono (hb.mono hB)) hF.ns (fun W' s hb' hs => by
    obtain ⟨i, hi⟩ := List.mem_iff_getElem?.1 hs
    obtain ⟨_, _, _, _, _, w1, w2, w3, w4⟩ := step_at hF.steps hi
    exact nostep_any s W' w1 w2 w3 w4)
  have O1 : Hid (∀ w, _) := Lib.hid (of_any d.sum 4294967296)
  have O2 : Hid (∀ w, _) := Lib.hid (of_any d.first 256)
  have HR : Hid (-9223372036854775808 ≤ d.first ∧ d.first ≤ 9223372036854775807) := Lib.hid (i64_of hF.first)
  have HN := Lib.hid hF.nc
  clear e1 e2 hF
  obtain ⟨res, hres⟩ : ∃ r, Hid (tfmB d = r) := ⟨_, Lib.hid rfl⟩
  have HE : Hid _ := Lib.hid hres.out
  rw [hres.out]
  unfold tfmB headB manyB at HE
  clear hres
  have HFI : Hid (ofB d.first 256 = true → 0 ≤ d.first ∧ d.first < 256) := Lib.hid (by unfold ofB; simp)
  generalize tableB d.widths 1 256 = p1 at *
  generalize tableB d.heights 1 16 = p2 at *
  generalize tableB d.depths 1 16 = p3 at *
  generalize tableB d.italics 1 64 = p4 at *
  generalize tableB d.kerns 0 256 = p5 at *
  generalize tableB d.params 0 30 = p6 at *
  generalize (d.chars.any fun c => !charB d c) = p7 at *
  generalize (d.steps.any fun s => !stepB s) = p8 at *
  generalize ofB d.sum 4294967296 = q1 at *
  generalize ofB d.first 256 = q2 at *
  go_enter Tryz.func90, Tryz.ntmps90
  go_wp2_with fail
  have hbx := Box.new w (fontCells d a) 26
  have hbw := (Below.refl w.heap.size w).alloc (Nat.le_refl _) (.cells (fontCells d a) 26)
  obtain ⟨W1, hW⟩ : ∃ W1, w.alloc (.cells #[.int .i64 d.sum, .int .i64 d.design, .int .i64 d.first, .slice a.c d.chars.length a.cc, .slice a.w d.widths.length a.cw, .slice a.h d.heights.length a.ch, .slice a.d d.depths.length a.cd, .slice a.i d.italics.length a.ci, .slice a.s d.steps.length a.cs, .slice a.k d.kerns.length a.ck, .slice a.p d.params.length a.cp] 26) = W1 := ⟨_, rfl⟩
  rw [show w.alloc (.cells (fontCells d a) 26) = W1 from hW] at hbx hbw
  rw [hW]
  clear hW
  obtain ⟨c0, c1, c2, c3, c4, c5, c6, c7, c8, c9, c10⟩ := font_cells hbx
  with_reducible refine (O1.out _).mono ?_; rintro e w1 ⟨rfl, rfl⟩
  cases q1 with
  | false =>
    go_wp2_with fail
    go_ret
    exact ⟨ret_bool rfl (by first | (rw [← HE.out]; simp; done) | (rw [← HE.out]; simp; intros; omega)), hbw⟩
  | true =>
    by_cases h1 : d.design < 1048576
    · go_wp2_with fail
      go_ret
      exact ⟨ret_bool rfl (by first | (rw [← HE.out]; simp; done) | (rw [← HE.out]; simp; intros; omega)), hbw⟩
    by_cases h2 : 2147483648 ≤ d.design
    · go_wp2_with fail
      go_ret
      exact ⟨ret_bool rfl (by first | (rw [← HE.out]; simp; done) | (rw [← HE.out]; simp; intros; omega)), hbw⟩
    go_wp2_with fail
    with_reducible refine (O2.out _).mono ?_; rintro e w1 ⟨rfl, rfl⟩
    cases q2 with
    | false =>
      go_wp2_with fail
      go_ret
      exact ⟨ret_bool rfl (by first | (rw [← HE.out]; simp; done) | (rw [← HE.out]; simp; intros; omega)), hbw⟩
    | true =>
      obtain ⟨f1, f2⟩ := HFI.out rfl
      by_cases h3 : d.chars.length < 1
      · go_wp2_with fail
        go_ret
        exact ⟨ret_bool rfl (by first | (rw [← HE.out]; simp; done) | (rw [← HE.out]; simp; intros; omega)), hbw⟩
      by_cases h4 : 256 - d.first < (d.chars.length : Int)
      · go_wp2_with fail
        go_ret
        exact ⟨ret_bool rfl (by first | (rw [← HE.out]; simp; done) | (rw [← HE.out]; simp; intros; omega)), hbw⟩
      by_cases h5 : 256 < d.steps.length
      · go_wp2_with fail
        go_ret
        exact ⟨ret_bool rfl (by first | (rw [← HE.out]; simp; done) | (rw [← HE.out]; simp; intros; omega)), hbw⟩
      go_wp2_with fail
      have HT1 := T1.out _ hbw
      with_reducible refine HT1.mono ?_; rintro e v0 ⟨rfl, hb0⟩; clear HT1
      have hw0 := (hbw).trans (hb0.mono (hbw).size)
      have hbx0 := hbx.below hb0
      clear hbx c0 c1 c2 c3 c4 c5 c6 c7 c8 c9 c10
      obtain ⟨c0, c1, c2, c3, c4, c5, c6, c7, c8, c9, c10⟩ := font_cells hbx0
      cases p1 with
      | false =>
        go_wp2_with fail
        go_ret
        exact ⟨ret_bool rfl (by first | (rw [← HE.out]; simp; done) | (rw [← HE.out]; simp; intros; omega)), hw0⟩
      | true =>
        go_wp2_with fail
        have HT2 := T2.out _ hw0
        with_reducible refine HT2.mono ?_; rintro e v1 ⟨rfl, hb1⟩; clear HT2
        have hw1 := (hw0).trans (hb1.mono (hw0).size)
        have hbx1 := hbx0.below hb1
        clear hbx0 c0 c1 c2 c3 c4 c5 c6 c7 c8 c9 c10
        obtain ⟨c0, c1, c2, c3, c4, c5, c6, c7, c8, c9, c10⟩ := font_cells hbx1
        cases p2 with
        | false =>
          go_wp2_with fail
          go_ret
          exact ⟨ret_bool rfl (by first | (rw [← HE.out]; simp; done) | (rw [← HE.out]; simp; intros; omega)), hw1⟩
        | true =>
          go_wp2_with fail
          have HT3 := T3.out _ hw1
          with_reducible refine HT3.mono ?_; rintro e v2 ⟨rfl, hb2⟩; clear HT3
          have hw2 := (hw1).trans (hb2.mono (hw1).size)
          have hbx2 := hbx1.below hb2
          clear hbx1 c0 c1 c2 c3 c4 c5 c6 c7 c8 c9 c10
          obtain ⟨c0, c1, c2, c3, c4, c5, c6, c7, c8, c9, c10⟩ := font_cells hbx2
          cases p3 with
          | false =>
            go_wp2_with fail
            go_ret
            exact ⟨ret_bool rfl (by first | (rw [← HE.out]; simp; done) | (rw [← HE.out]; simp; intros; omega)), hw2⟩
          | true =>
            go_wp2_with fail
            have HT4 := T4.out _ hw2
            with_reducible refine HT4.mono ?_; rintro e v3 ⟨rfl, hb3⟩; clear HT4
            have hw3 := (hw2).trans (hb3.mono (hw2).size)
            have hbx3 := hbx2.below hb3
            clear hbx2 c0 c1 c2 c3 c4 c5 c6 c7 c8 c9 c10
            obtain ⟨c0, c1, c2, c3, c4, c5, c6, c7, c8, c9, c10⟩ := font_cells hbx3
            cases p4 with
            | false =>
              go_wp2_with fail
              go_ret
              exact ⟨ret_bool rfl (by first | (rw [← HE.out]; simp; done) | (rw [← HE.out]; simp; intros; omega)), hw3⟩
            | true =>
              go_wp2_with fail
              have HT5 := T5.out _ hw3
              with_reducible refine HT5.mono ?_; rintro e v4 ⟨rfl, hb4⟩; clear HT5
              have hw4 := (hw3).trans (hb4.mono (hw3).size)
              have hbx4 := hbx3.below hb4
              clear hbx3 c0 c1 c2 c3 c4 c5 c6 c7 c8 c9 c10
              obtain ⟨c0, c1, c2, c3, c4, c5, c6, c7, c8, c9, c10⟩ := font_cells hbx4
              cases p5 with
              | false =>
                go_wp2_with fail
                go_ret
                exact ⟨ret_bool rfl (by first | (rw [← HE.out]; simp; done) | (rw [← HE.out]; simp; intros; omega)), hw4⟩
              | true =>
                go_wp2_with fail
                have HT6 := T6.out _ hw4
                with_reducible refine HT6.mono ?_; rintro e v5 ⟨rfl, hb5⟩; clear HT6
                have hw5 := (hw4).trans (hb5.mono (hw4).size)
                have hbx5 := hbx4.below hb5
                clear hbx4 c0 c1 c2 c3 c4 c5 c6 c7 c8 c9 c10
                obtain ⟨c0, c1, c2, c3, c4, c5, c6, c7, c8, c9, c10⟩ := font_cells hbx5
                cases p6 with
                | false =>
                  go_wp2_with fail
                  go_ret
                  exact ⟨ret_bool rfl (by first | (rw [← HE.out]; simp; done) | (rw [← HE.out]; simp; intros; omega)), hw5⟩
                | true =>
                  go_wp2_with fail
                  have HT7 := T7.out _ _ hw5 hbx5
                  with_reducible refine HT7.mono ?_; rintro e v6 ⟨rfl, hb6⟩; clear HT7
                  have hw6 := (hw5).trans (hb6.mono (hw5).size)
                  have hbx6 := hbx5.below hb6
                  clear hbx5 c0 c1 c2 c3 c4 c5 c6 c7 c8 c9 c10
                  obtain ⟨c0, c1, c2, c3, c4, c5, c6, c7, c8, c9, c10⟩ := font_cells hbx6
                  cases p7 with
                  | true =>
                    go_wp2_with fail
                    go_ret
                    exact ⟨ret_bool rfl (by first | (rw [← HE.out]; simp; done) | (rw [← HE.out]; simp; intros; omega)), hw6⟩
                  | false =>
                    go_wp2_with fail
                    have HT8 := T8.out _ hw6
                    with_reducible refine HT8.mono ?_; rintro e v7 ⟨rfl, hb7⟩; clear HT8
                    have hw7 := (hw6).trans (hb7.mono (hw6).size)
                    have hbx7 := hbx6.below hb7
                    clear hbx6 c0 c1 c2 c3 c4 c5 c6 c7 c8 c9 c10
                    obtain ⟨c0, c1, c2, c3, c4, c5, c6, c7, c8, c9, c10⟩ := font_cells hbx7
                    go_wp2_with fail
                    go_ret
                    exact ⟨ret_bool rfl (by first | (rw [← HE.out]; simp; done) | (rw [← HE.out]; simp; intros; omega)), hw7⟩

end Go.Proofs.YtndpdbofoojkhaaGreat.Fo
/- Whether a font has a character. -/
namespace Go.Proofs.YtndpdbofoojkhaaGreat.Fo
open Go.RowKit Go.Proofs.YtndpdbofoojkhaaGreat.Kit
set_option linter.unusedVariables false
set_option linter.unusedSimpArgs false

theorem cells_alloc (d : FontD) (a : FontA) (w : World) : ∀ {b i : Nat} {v : Value}, w.cell? ⟨b, i, none⟩ = some v → (w.alloc (.cells (fontCells d a) 26)).cell? ⟨b, i, none⟩ = some v := fun h => old_cell _ h
set_option maxHeartbeats 1000000 in
theorem has_any (d : FontD) (a : FontA) (code : Int) (w : World) {B : Nat} (hB : B ≤ w.heap.size) (hF : FontIn w B d a) (ht : tfmB d = true) (hw : (Lit.int .i64 code).wf = true) :
    Calls Tryz.prog 48 #[fontV d a, .int .i64 code] w fun e w' => e = .returned (.bool (hasB d code)) ∧ Below w.heap.size w w' := by
  obtain ⟨s1, s2, s3, s4, s5, s6, s7⟩ := tfm_sizes ht
  obtain ⟨i1, i2⟩ := i64_of hw
  clear ht hw s2 s3 s7
  obtain ⟨res, hres⟩ : ∃ r, Hid (hasB d code = r) := ⟨_, Lib.hid rfl⟩
  have hres' := hres.out
  rw [hres.out]
  clear hres
  unfold hasB at hres'
  have hbx := Box.new w (fontCells d a) 26
  have hbw := (Below.refl w.heap.size w).alloc (Nat.le_refl _) (.cells (fontCells d a) 26)
  obtain ⟨W, hW⟩ : ∃ W, w.alloc (.cells (fontCells d a) 26) = W := ⟨_, rfl⟩
  rw [hW] at hbx hbw
  obtain ⟨c0, c1, c2, c3, c4, c5, c6, c7, c8, c9, c10⟩ := font_cells hbx
  by_cases h1 : d.first ≤ code
  · obtain ⟨k, rfl⟩ : ∃ k : Nat, code = d.first + k := ⟨(code - d.first).toNat, by omega⟩
    by_cases h2 : k < d.chars.length
    · obtain ⟨c, hc⟩ := at_lt h2
      have HE : Hid (decide (0 < c.1) = res) := Lib.hid (by
        rw [← hres']
        have e : (d.first + (k : Int) - d.first).toNat = k := by omega
        have x1 : decide (d.first ≤ d.first + (k : Int)) = true := decide_eq_true (by omega)
        have x2 : decide (d.first + (k : Int) < d.first + (d.chars.length : Int)) = true := decide_eq_true (by omega)
        rw [x1, x2]
        simp [widthOf, e, List.getD_eq_getElem?_getD, hc])
      obtain ⟨b, o, hA, hb, ⟨hc0, _⟩, hwc, _⟩ := char_at hF.chars hc
      have hc0' : W.cell? ⟨b, o + k * 6, none⟩ = some (.int .i64 c.1) := by rw [← hW]; exact old_cell _ hc0
      rw [show k = (d.first + (k : Int) - d.first).toNat by omega] at hc0'
      have hW' : w.alloc (.cells #[.int .i64 d.sum, .int .i64 d.design, .int .i64 d.first, .slice (some ⟨b, o, none⟩) d.chars.length a.cc, .slice a.w d.widths.length a.cw, .slice a.h d.heights.length a.ch, .slice a.d d.depths.length a.cd, .slice a.i d.italics.length a.ci, .slice a.s d.steps.length a.cs, .slice a.k d.kerns.length a.ck, .slice a.p d.params.length a.cp] 26) = W := by rw [← hA]; exact hW
      clear hW
      clear hres' hc hF hc0
      go_enter Tryz.func48, Tryz.ntmps48
      go_wp2_with fail
      all_goals (go_ret; exact ⟨ret_bool rfl HE.out, hbw⟩)
    · have HE : Hid (false = res) := Lib.hid (by rw [← hres']; simp; omega)
      clear hres' hF
      go_enter Tryz.func48, Tryz.ntmps48
      go_wp2_with fail
      all_goals (go_ret; exact ⟨ret_bool rfl HE.out, hbw⟩)
  · have HE : Hid (false = res) := Lib.hid (by rw [← hres']; simp; omega)
    clear hres' hF
    go_enter Tryz.func48, Tryz.ntmps48
    go_wp2_with fail
    all_goals (go_ret; exact ⟨ret_bool rfl HE.out, hbw⟩)
end Go.Proofs.YtndpdbofoojkhaaGreat.Fo
/- Whether a font has a character: tfm.Has. -/
namespace Go.Proofs.YtndpdbofoojkhaaGreat.Fo
open Go.RowKit Go.Proofs.YtndpdbofoojkhaaGreat.Kit
set_option linter.unusedVariables false
set_option linter.unusedSimpArgs false

set_option maxHeartbeats 1000000 in
theorem thas_any (d : FontD) (a : FontA) (code : Int) (w : World) {B : Nat} (hB : B ≤ w.heap.size) (hF : FontIn w B d a) (hw : (Lit.int .i64 code).wf = true) :
    Calls Tryz.prog 74 #[fontV d a, .int .i64 code] w fun e w' => e = .returned (.bool (tfmB d && hasB d code)) ∧ Below w.heap.size w w' := by
  obtain ⟨i1, i2⟩ := i64_of hw
  clear hw
  obtain ⟨res, hres⟩ : ∃ r, Hid ((tfmB d && hasB d code) = r) := ⟨_, Lib.hid rfl⟩
  have hres' := hres.out
  rw [hres.out]
  clear hres
  have hbx := Box.new w (fontCells d a) 26
  have hbw := (Below.refl w.heap.size w).alloc (Nat.le_refl _) (.cells (fontCells d a) 26)
  obtain ⟨W, hW⟩ : ∃ W, w.alloc (.cells (fontCells d a) 26) = W := ⟨_, rfl⟩
  rw [hW] at hbx hbw
  obtain ⟨c0, c1, c2, c3, c4, c5, c6, c7, c8, c9, c10⟩ := font_cells hbx
  have H := Lib.hid (check_any d a W (B := B) (Nat.le_trans hB hbw.size) (hF.mono (hbw.mono hB)))
  have HF := Lib.hid (show ∀ w1, Below W.heap.size W w1 → FontIn w1 B d a from fun w1 hb => (hF.mono (hbw.mono hB)).mono (hb.mono (Nat.le_trans hB hbw.size)))
  clear hF
  cases ht : tfmB d with
  | false =>
    rw [ht] at H hres'
    have HE : Hid (false = res) := Lib.hid (by rw [← hres']; rfl)
    clear hres' ht HF
    go_enter Tryz.func74, Tryz.ntmps74
    go_wp2_with fail
    with_reducible refine H.out.mono ?_; rintro e w1 ⟨rfl, hb⟩
    clear hW
    have hb2 := hbw.trans (hb.mono hbw.size)
    go_wp2_with fail
    go_ret
    exact ⟨ret_bool rfl HE.out, hb2⟩
  | true =>
    rw [ht] at H hres'
    obtain ⟨s1, s2, s3, s4, s5, s6, s7⟩ := tfm_sizes ht
    unfold hasB at hres'
    have HR := Lib.hid hres'
    clear hres' ht s2 s3 s7
    go_enter Tryz.func74, Tryz.ntmps74
    go_wp2_with fail
    with_reducible refine H.out.mono ?_; rintro e w1 ⟨rfl, hb⟩
    clear hW
    have hb2 := hbw.trans (hb.mono hbw.size)
    have hbx1 := hbx.below hb
    clear c0 c1 c2 c3 c4 c5 c6 c7 c8 c9 c10
    obtain ⟨c0, c1, c2, c3, c4, c5, c6, c7, c8, c9, c10⟩ := font_cells hbx1
    have HF1 := Lib.hid (HF.out w1 hb)
    clear H HF hbx hbx1 hbw hb c4 c5 c6 c7 c8 c9 c10 c0 c1
    by_cases h1 : d.first ≤ code
    · obtain ⟨k, rfl⟩ : ∃ k : Nat, code = d.first + k := ⟨(code - d.first).toNat, by omega⟩
      by_cases h2 : k < d.chars.length
      · obtain ⟨c, hc⟩ := at_lt h2
        have HE : Hid (decide (0 < c.1) = res) := Lib.hid (by
          rw [← HR.out]
          have e : (d.first + (k : Int) - d.first).toNat = k := by omega
          have x1 : decide (d.first ≤ d.first + (k : Int)) = true := decide_eq_true (by omega)
          have x2 : decide (d.first + (k : Int) < d.first + (d.chars.length : Int)) = true := decide_eq_true (by omega)
          rw [x1, x2]
          simp [widthOf, e, List.getD_eq_getElem?_getD, hc])
        obtain ⟨b, o, hA, hb, ⟨hc0, _⟩, hwc, _⟩ := char_at HF1.out.chars hc
        rw [show k = (d.first + (k : Int) - d.first).toNat by omega] at hc0
        clear HR hc HF1
        go_wp2_with fail
        all_goals (go_ret; exact ⟨ret_bool rfl HE.out, hb2⟩)
      · have HE : Hid (false = res) := Lib.hid (by rw [← HR.out]; simp; omega)
        clear HR HF1
        go_wp2_with fail
        all_goals (go_ret; exact ⟨ret_bool rfl HE.out, hb2⟩)
    · have HE : Hid (false = res) := Lib.hid (by rw [← HR.out]; simp; omega)
      clear HR HF1
      go_wp2_with fail
      all_goals (go_ret; exact ⟨ret_bool rfl HE.out, hb2⟩)
end Go.Proofs.YtndpdbofoojkhaaGreat.Fo
