/- Whether a font may be. -/
import Derived.Test.YtndpdbofoojkhaaFont4
namespace Go.Proofs.Ytndpdbofoojkhaa.Fo
open Go.RowKit Go.Proofs.Ytndpdbofoojkhaa.Kit
set_option linter.unusedVariables false
set_option linter.unusedSimpArgs false

theorem lt_of_below {B : Nat} {w w' : World} (hB : B ≤ w.heap.size) (hb : Below w.heap.size w w') : B ≤ w'.heap.size := Nat.le_trans hB hb.size
set_option maxHeartbeats 2000000 in
theorem check_any (d : FontD) (a : FontA) (w : World) {B : Nat} (hB : B ≤ w.heap.size) (hF : FontIn w B d a) :
    Calls Try.prog 68 #[fontV d a] w fun e w' => e = .returned (.bool (tfmB d)) ∧ Below w.heap.size w w' := by
  have e1 : ∀ args w, (callFunc 77 args).run Try.prog w = .ok (.enter 77 args) w := enters_of Try.func77 (by kernel_rfl) rfl
  have e2 : ∀ args w, (callFunc 80 args).run Try.prog w = .ok (.enter 80 args) w := enters_of Try.func80 (by kernel_rfl) rfl
  have T1 : Hid (∀ W, Below w.heap.size w W → _) := Lib.hid fun W hb => table_any a.w a.cw d.widths 1 256 (by decide) W (lt_of_below hB hb) (hF.widths.mono (hb.mono hB)) hF.nw
  have T2 : Hid (∀ W, Below w.heap.size w W → _) := Lib.hid fun W hb => table_any a.h a.ch d.heights 1 16 (by decide) W (lt_of_below hB hb) (hF.heights.mono (hb.mono hB)) hF.nh
  have T3 : Hid (∀ W, Below w.heap.size w W → _) := Lib.hid fun W hb => table_any a.d a.cd d.depths 1 16 (by decide) W (lt_of_below hB hb) (hF.depths.mono (hb.mono hB)) hF.nd
  have T4 : Hid (∀ W, Below w.heap.size w W → _) := Lib.hid fun W hb => table_any a.i a.ci d.italics 1 64 (by decide) W (lt_of_below hB hb) (hF.italics.mono (hb.mono hB)) hF.ni
  have T5 : Hid (∀ W, Below w.heap.size w W → _) := Lib.hid fun W hb => table_any a.k a.ck d.kerns 0 256 (by decide) W (lt_of_below hB hb) (hF.kerns.mono (hb.mono hB)) hF.nk
  have T6 : Hid (∀ W, Below w.heap.size w W → _) := Lib.hid fun W hb => table_any a.p a.cp d.params 0 30 (by decide) W (lt_of_below hB hb) (hF.params.mono (hb.mono hB)) hF.np
  have T7 : Hid (∀ W g, Below w.heap.size w W → Box W g (fontCells d a) 26 → _) := Lib.hid fun W g hb hbx => contains_char _ #[.pointer (some ⟨g, 0, none⟩)] (fun c => !charB d c) e1 a.c a.cc d.chars W (lt_of_below hB hb) (hF.chars.mono (hb.mono hB)) hF.nc (fun W' c hb' _ => nochar_any d a c g W' (hbx.below hb'))
  have T8 : Hid (∀ W, Below w.heap.size w W → _) := Lib.hid fun W hb => contains_step _ #[] (fun s => !stepB s) e2 a.s a.cs d.steps W (lt_of_below hB hb) (hF.steps.mono (hb.mono hB)) hF.ns (fun W' s hb' hs => by
    obtain ⟨i, hi⟩ := List.mem_iff_getElem?.1 hs
    obtain ⟨_, _, _, _, _, w1, w2, w3, w4⟩ := step_at hF.steps hi
    exact nostep_any s W' w1 w2 w3 w4)
  have O1 : Hid (∀ w, _) := Lib.hid (of_any d.sum 4294967296)
  have O2 : Hid (∀ w, _) := Lib.hid (of_any d.first 256)
  have HR : Hid (-9223372036854775808 ≤ d.first ∧ d.first ≤ 9223372036854775807) := Lib.hid (i64_of hF.first)
  have HN := Lib.hid hF.nc
  clear e1 e2 hF
  obtain ⟨res, hres⟩ : ∃ r, Hid (tfmB d = r) := ⟨_, Lib.hid rfl⟩
  have HE : Hid _ := Lib.hid hres.out
  rw [hres.out]
  unfold tfmB headB manyB at HE
  clear hres
  have HFI : Hid (ofB d.first 256 = true → 0 ≤ d.first ∧ d.first < 256) := Lib.hid (by unfold ofB; simp)
  generalize tableB d.widths 1 256 = p1 at *
  generalize tableB d.heights 1 16 = p2 at *
  generalize tableB d.depths 1 16 = p3 at *
  generalize tableB d.italics 1 64 = p4 at *
  generalize tableB d.kerns 0 256 = p5 at *
  generalize tableB d.params 0 30 = p6 at *
  generalize (d.chars.any fun c => !charB d c) = p7 at *
  generalize (d.steps.any fun s => !stepB s) = p8 at *
  generalize ofB d.sum 4294967296 = q1 at *
  generalize ofB d.first 256 = q2 at *
  go_enter Try.func68, Try.ntmps68
  go_wp2_with fail
  have hbx := Box.new w (fontCells d a) 26
  have hbw := (Below.refl w.heap.size w).alloc (Nat.le_refl _) (.cells (fontCells d a) 26)
  obtain ⟨W1, hW⟩ : ∃ W1, w.alloc (.cells #[.int .i64 d.sum, .int .i64 d.design, .int .i64 d.first, .slice a.c d.chars.length a.cc, .slice a.w d.widths.length a.cw, .slice a.h d.heights.length a.ch, .slice a.d d.depths.length a.cd, .slice a.i d.italics.length a.ci, .slice a.s d.steps.length a.cs, .slice a.k d.kerns.length a.ck, .slice a.p d.params.length a.cp] 26) = W1 := ⟨_, rfl⟩
  rw [show w.alloc (.cells (fontCells d a) 26) = W1 from hW] at hbx hbw
  rw [hW]
  clear hW
  obtain ⟨c0, c1, c2, c3, c4, c5, c6, c7, c8, c9, c10⟩ := font_cells hbx
  with_reducible refine (O1.out _).mono ?_; rintro e w1 ⟨rfl, rfl⟩
  cases q1 with
  | false =>
    go_wp2_with fail
    go_ret
    exact ⟨ret_bool rfl (by first | (rw [← HE.out]; simp; done) | (rw [← HE.out]; simp; intros; omega)), hbw⟩
  | true =>
    by_cases h1 : d.design < 1048576
    · go_wp2_with fail
      go_ret
      exact ⟨ret_bool rfl (by first | (rw [← HE.out]; simp; done) | (rw [← HE.out]; simp; intros; omega)), hbw⟩
    by_cases h2 : 2147483648 ≤ d.design
    · go_wp2_with fail
      go_ret
      exact ⟨ret_bool rfl (by first | (rw [← HE.out]; simp; done) | (rw [← HE.out]; simp; intros; omega)), hbw⟩
    go_wp2_with fail
    with_reducible refine (O2.out _).mono ?_; rintro e w1 ⟨rfl, rfl⟩
    cases q2 with
    | false =>
      go_wp2_with fail
      go_ret
      exact ⟨ret_bool rfl (by first | (rw [← HE.out]; simp; done) | (rw [← HE.out]; simp; intros; omega)), hbw⟩
    | true =>
      obtain ⟨f1, f2⟩ := HFI.out rfl
      by_cases h3 : d.chars.length < 1
      · go_wp2_with fail
        go_ret
        exact ⟨ret_bool rfl (by first | (rw [← HE.out]; simp; done) | (rw [← HE.out]; simp; intros; omega)), hbw⟩
      by_cases h4 : 256 - d.first < (d.chars.length : Int)
      · go_wp2_with fail
        go_ret
        exact ⟨ret_bool rfl (by first | (rw [← HE.out]; simp; done) | (rw [← HE.out]; simp; intros; omega)), hbw⟩
      by_cases h5 : 256 < d.steps.length
      · go_wp2_with fail
        go_ret
        exact ⟨ret_bool rfl (by first | (rw [← HE.out]; simp; done) | (rw [← HE.out]; simp; intros; omega)), hbw⟩
      go_wp2_with fail
      have HT1 := T1.out _ hbw
      with_reducible refine HT1.mono ?_; rintro e v0 ⟨rfl, hb0⟩; clear HT1
      have hw0 := (hbw).trans (hb0.mono (hbw).size)
      have hbx0 := hbx.below hb0
      clear hbx c0 c1 c2 c3 c4 c5 c6 c7 c8 c9 c10
      obtain ⟨c0, c1, c2, c3, c4, c5, c6, c7, c8, c9, c10⟩ := font_cells hbx0
      cases p1 with
      | false =>
        go_wp2_with fail
        go_ret
        exact ⟨ret_bool rfl (by first | (rw [← HE.out]; simp; done) | (rw [← HE.out]; simp; intros; omega)), hw0⟩
      | true =>
        go_wp2_with fail
        have HT2 := T2.out _ hw0
        with_reducible refine HT2.mono ?_; rintro e v1 ⟨rfl, hb1⟩; clear HT2
        have hw1 := (hw0).trans (hb1.mono (hw0).size)
        have hbx1 := hbx0.below hb1
        clear hbx0 c0 c1 c2 c3 c4 c5 c6 c7 c8 c9 c10
        obtain ⟨c0, c1, c2, c3, c4, c5, c6, c7, c8, c9, c10⟩ := font_cells hbx1
        cases p2 with
        | false =>
          go_wp2_with fail
          go_ret
          exact ⟨ret_bool rfl (by first | (rw [← HE.out]; simp; done) | (rw [← HE.out]; simp; intros; omega)), hw1⟩
        | true =>
          go_wp2_with fail
          have HT3 := T3.out _ hw1
          with_reducible refine HT3.mono ?_; rintro e v2 ⟨rfl, hb2⟩; clear HT3
          have hw2 := (hw1).trans (hb2.mono (hw1).size)
          have hbx2 := hbx1.below hb2
          clear hbx1 c0 c1 c2 c3 c4 c5 c6 c7 c8 c9 c10
          obtain ⟨c0, c1, c2, c3, c4, c5, c6, c7, c8, c9, c10⟩ := font_cells hbx2
          cases p3 with
          | false =>
            go_wp2_with fail
            go_ret
            exact ⟨ret_bool rfl (by first | (rw [← HE.out]; simp; done) | (rw [← HE.out]; simp; intros; omega)), hw2⟩
          | true =>
            go_wp2_with fail
            have HT4 := T4.out _ hw2
            with_reducible refine HT4.mono ?_; rintro e v3 ⟨rfl, hb3⟩; clear HT4
            have hw3 := (hw2).trans (hb3.mono (hw2).size)
            have hbx3 := hbx2.below hb3
            clear hbx2 c0 c1 c2 c3 c4 c5 c6 c7 c8 c9 c10
            obtain ⟨c0, c1, c2, c3, c4, c5, c6, c7, c8, c9, c10⟩ := font_cells hbx3
            cases p4 with
            | false =>
              go_wp2_with fail
              go_ret
              exact ⟨ret_bool rfl (by first | (rw [← HE.out]; simp; done) | (rw [← HE.out]; simp; intros; omega)), hw3⟩
            | true =>
              go_wp2_with fail
              have HT5 := T5.out _ hw3
              with_reducible refine HT5.mono ?_; rintro e v4 ⟨rfl, hb4⟩; clear HT5
              have hw4 := (hw3).trans (hb4.mono (hw3).size)
              have hbx4 := hbx3.below hb4
              clear hbx3 c0 c1 c2 c3 c4 c5 c6 c7 c8 c9 c10
              obtain ⟨c0, c1, c2, c3, c4, c5, c6, c7, c8, c9, c10⟩ := font_cells hbx4
              cases p5 with
              | false =>
                go_wp2_with fail
                go_ret
                exact ⟨ret_bool rfl (by first | (rw [← HE.out]; simp; done) | (rw [← HE.out]; simp; intros; omega)), hw4⟩
              | true =>
                go_wp2_with fail
                have HT6 := T6.out _ hw4
                with_reducible refine HT6.mono ?_; rintro e v5 ⟨rfl, hb5⟩; clear HT6
                have hw5 := (hw4).trans (hb5.mono (hw4).size)
                have hbx5 := hbx4.below hb5
                clear hbx4 c0 c1 c2 c3 c4 c5 c6 c7 c8 c9 c10
                obtain ⟨c0, c1, c2, c3, c4, c5, c6, c7, c8, c9, c10⟩ := font_cells hbx5
                cases p6 with
                | false =>
                  go_wp2_with fail
                  go_ret
                  exact ⟨ret_bool rfl (by first | (rw [← HE.out]; simp; done) | (rw [← HE.out]; simp; intros; omega)), hw5⟩
                | true =>
                  go_wp2_with fail
                  have HT7 := T7.out _ _ hw5 hbx5
                  with_reducible refine HT7.mono ?_; rintro e v6 ⟨rfl, hb6⟩; clear HT7
                  have hw6 := (hw5).trans (hb6.mono (hw5).size)
                  have hbx6 := hbx5.below hb6
                  clear hbx5 c0 c1 c2 c3 c4 c5 c6 c7 c8 c9 c10
                  obtain ⟨c0, c1, c2, c3, c4, c5, c6, c7, c8, c9, c10⟩ := font_cells hbx6
                  cases p7 with
                  | true =>
                    go_wp2_with fail
                    go_ret
                    exact ⟨ret_bool rfl (by first | (rw [← HE.out]; simp; done) | (rw [← HE.out]; simp; intros; omega)), hw6⟩
                  | false =>
                    go_wp2_with fail
                    have HT8 := T8.out _ hw6
                    with_reducible refine HT8.mono ?_; rintro e v7 ⟨rfl, hb7⟩; clear HT8
                    have hw7 := (hw6).trans (hb7.mono (hw6).size)
                    have hbx7 := hbx6.below hb7
                    clear hbx6 c0 c1 c2 c3 c4 c5 c6 c7 c8 c9 c10
                    obtain ⟨c0, c1, c2, c3, c4, c5, c6, c7, c8, c9, c10⟩ := font_cells hbx7
                    go_wp2_with fail
                    go_ret
                    exact ⟨ret_bool rfl (by first | (rw [← HE.out]; simp; done) | (rw [← HE.out]; simp; intros; omega)), hw7⟩

end Go.Proofs.Ytndpdbofoojkhaa.Fo
