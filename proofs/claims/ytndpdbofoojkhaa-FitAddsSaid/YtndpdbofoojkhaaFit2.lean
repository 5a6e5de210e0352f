/- Whether a layout may be: the walk of param.Check (printed by tools/gen_fit2.py; under way). -/
import Derived.Test.YtndpdbofoojkhaaFit1
namespace Go.Proofs.Ytndpdbofoojkhaa.Ft
open Go.RowKit Go.Proofs.Ytndpdbofoojkhaa.Kit Go.Proofs.Ytndpdbofoojkhaa.Fo
set_option linter.unusedVariables false
set_option linter.unusedSimpArgs false

structure LayWf (l : LayD) : Prop where
  width : (Lit.int .i64 l.width).wf = true
  space : (Lit.int .i64 l.space).wf = true
  stretch : (Lit.int .i64 l.stretch).wf = true
  shrink : (Lit.int .i64 l.shrink).wf = true
  hang : (Lit.int .i64 l.hang).wf = true
  after : (Lit.int .i64 l.after).wf = true
  left : (Lit.int .i64 l.left).wf = true
  right : (Lit.int .i64 l.right).wf = true
  first : (Lit.int .i64 l.first).wf = true
  second : (Lit.int .i64 l.second).wf = true
  extra : (Lit.int .i64 l.extra).wf = true
  linePen : (Lit.int .i64 l.linePen).wf = true
  hyphPen : (Lit.int .i64 l.hyphPen).wf = true
  dashPen : (Lit.int .i64 l.dashPen).wf = true
  jump : (Lit.int .i64 l.jump).wf = true
  double : (Lit.int .i64 l.double).wf = true
  final : (Lit.int .i64 l.final).wf = true
  river : (Lit.int .i64 l.river).wf = true
  ladder : (Lit.int .i64 l.ladder).wf = true
  loose : (Lit.int .i64 l.loose).wf = true
theorem in_one {a b x : Int} (h : inB a b [x] = true) : a ≤ x ∧ x ≤ b := by
  unfold inB outB at h
  simp at h
  omega
set_option maxRecDepth 10000 in
set_option maxHeartbeats 8000000 in
theorem pcheck_any (l : LayD) (A : Option Addr) (c : Nat) (w : World) (hw : LayWf l) (hl : l.shape.length ≤ 9223372036854775807) (hlast : ∀ V, Below w.heap.size w V → Calls Try.prog 35 #[.slice A l.shape.length c, .func (.func 36) #[] #[]] V fun e w' => e = .returned (.bool (!(l.shape.all fun x => inB 0 67108864 [x.1] && inB 1 67108864 [x.2]))) ∧ Below V.heap.size V w') :
    Calls Try.prog 18 #[.agg (layCells l A c)] w fun e w' => e = .returned (.bool (layB l)) ∧ Below w.heap.size w w' := by
  have hb0 := Box.new w (layCells l A c) 32
  have bb0 := below_alloc (Below.refl w.heap.size w) (.cells (layCells l A c) 32)
  obtain ⟨W0, hW⟩ : ∃ W, w.alloc (.cells (layCells l A c) 32) = W := ⟨_, rfl⟩
  rw [hW] at hb0 bb0
  have HB0 := Lib.hid hb0
  have HBB0 := Lib.hid bb0
  have HLast := Lib.hid hlast
  have HWf := Lib.hid hw
  obtain ⟨res, hres⟩ : ∃ r, Hid (layB l = r) := ⟨_, Lib.hid rfl⟩
  rw [hres.out]
  have HV : Hid (layB l = res) := Lib.hid hres.out
  clear hlast hw hb0 bb0 hres
  have k0_width := HB0.out.cell 0 rfl
  have HC0 := Lib.hid (pto_box 1 67108864 [l.width] (c := 1) (Box.new W0 #[.int .i64 l.width] 3) (by simp [HWf.out.width]) (by simp))
  have hA0 := below_alloc (Below.refl W0.heap.size W0) (.cells #[.int .i64 l.width] 3)
  obtain ⟨q0, hq0⟩ : ∃ q, inB 1 67108864 [l.width] = q := ⟨_, rfl⟩
  have HQ0 := Lib.hid hq0
  unfold inB at hq0
  rw [hq0] at HC0
  clear hq0
  go_enter Try.func18, Try.ntmps18
  go_wp2_with fail
  refine HC0.out.mono ?_
  rintro e W1 ⟨rfl, hb⟩
  have HB1 := Lib.hid (HB0.out.below (below_join hA0 hb))
  have HBB1 := Lib.hid (below_join HBB0.out (below_join hA0 hb))
  clear HC0 hA0 hb HB0 HBB0 k0_width
  cases q0 with
  | false =>
    have HE : Hid (false = res) := Lib.hid (by rw [← HV.out]; unfold layB; rw [HQ0.out]; simp)
    go_wp2_with fail
    go_ret
    exact ⟨ret_bool rfl HE.out, HBB1.out⟩
  | true =>
    obtain ⟨hw1, hw2⟩ := in_one HQ0.out
    have k1_space := HB1.out.cell 1 rfl
    have k1_stretch := HB1.out.cell 2 rfl
    have k1_shrink := HB1.out.cell 3 rfl
    have HC1 := Lib.hid (pto_box 0 4194304 [l.space, l.stretch, l.shrink] (c := 3) (Box.new W1 #[.int .i64 l.space, .int .i64 l.stretch, .int .i64 l.shrink] 3) (by simp [HWf.out.space, HWf.out.stretch, HWf.out.shrink]) (by simp))
    have hA1 := below_alloc (Below.refl W1.heap.size W1) (.cells #[.int .i64 l.space, .int .i64 l.stretch, .int .i64 l.shrink] 3)
    obtain ⟨q1, hq1⟩ : ∃ q, inB 0 4194304 [l.space, l.stretch, l.shrink] = q := ⟨_, rfl⟩
    have HQ1 := Lib.hid hq1
    unfold inB at hq1
    rw [hq1] at HC1
    clear hq1
    go_wp2_with fail
    refine HC1.out.mono ?_
    rintro e W2 ⟨rfl, hb⟩
    have HB2 := Lib.hid (HB1.out.below (below_join hA1 hb))
    have HBB2 := Lib.hid (below_join HBB1.out (below_join hA1 hb))
    clear HC1 hA1 hb HB1 HBB1 k1_space k1_stretch k1_shrink
    cases q1 with
    | false =>
      have HE : Hid (false = res) := Lib.hid (by rw [← HV.out]; unfold layB; rw [HQ1.out]; simp)
      go_wp2_with fail
      go_ret
      exact ⟨ret_bool rfl HE.out, HBB2.out⟩
    | true =>
      have k2 := HB2.out.cell 4 rfl
      by_cases hs : l.shape.length ≤ 40
      · have F1 : ((40 : Int) < (l.shape.length : Int)) = False := eq_false (by omega)
        have HQ2 : Hid (decide (l.shape.length ≤ 40) = true) := Lib.hid (decide_eq_true hs)
        clear hs
        have k3_hang := HB2.out.cell 5 rfl
        have k3_width := HB2.out.cell 0 rfl
        have HC3 := Lib.hid (pto_box (1 - l.width) (l.width - 1) [l.hang] (c := 1) (Box.new W2 #[.int .i64 l.hang] 3) (by simp [HWf.out.hang]) (by simp))
        have hA3 := below_alloc (Below.refl W2.heap.size W2) (.cells #[.int .i64 l.hang] 3)
        obtain ⟨q3, hq3⟩ : ∃ q, inB (1 - l.width) (l.width - 1) [l.hang] = q := ⟨_, rfl⟩
        have HQ3 := Lib.hid hq3
        unfold inB at hq3
        rw [hq3] at HC3
        clear hq3
        go_wp2_with fail
        refine HC3.out.mono ?_
        rintro e W3 ⟨rfl, hb⟩
        have HB3 := Lib.hid (HB2.out.below (below_join hA3 hb))
        have HBB3 := Lib.hid (below_join HBB2.out (below_join hA3 hb))
        clear HC3 hA3 hb HB2 HBB2 k3_hang k3_width
        cases q3 with
        | false =>
          have HE : Hid (false = res) := Lib.hid (by rw [← HV.out]; unfold layB; rw [HQ3.out]; simp)
          go_wp2_with fail
          go_ret
          exact ⟨ret_bool rfl HE.out, HBB3.out⟩
        | true =>
          have k4_after := HB3.out.cell 6 rfl
          have HC4 := Lib.hid (pto_box (-100) 100 [l.after] (c := 1) (Box.new W3 #[.int .i64 l.after] 3) (by simp [HWf.out.after]) (by simp))
          have hA4 := below_alloc (Below.refl W3.heap.size W3) (.cells #[.int .i64 l.after] 3)
          obtain ⟨q4, hq4⟩ : ∃ q, inB (-100) 100 [l.after] = q := ⟨_, rfl⟩
          have HQ4 := Lib.hid hq4
          unfold inB at hq4
          rw [hq4] at HC4
          clear hq4
          go_wp2_with fail
          refine HC4.out.mono ?_
          rintro e W4 ⟨rfl, hb⟩
          have HB4 := Lib.hid (HB3.out.below (below_join hA4 hb))
          have HBB4 := Lib.hid (below_join HBB3.out (below_join hA4 hb))
          clear HC4 hA4 hb HB3 HBB3 k4_after
          cases q4 with
          | false =>
            have HE : Hid (false = res) := Lib.hid (by rw [← HV.out]; unfold layB; rw [HQ4.out]; simp)
            go_wp2_with fail
            go_ret
            exact ⟨ret_bool rfl HE.out, HBB4.out⟩
          | true =>
            have k5_left := HB4.out.cell 7 rfl
            have k5_right := HB4.out.cell 8 rfl
            have HC5 := Lib.hid (pto_box 0 40 [l.left, l.right] (c := 2) (Box.new W4 #[.int .i64 l.left, .int .i64 l.right] 3) (by simp [HWf.out.left, HWf.out.right]) (by simp))
            have hA5 := below_alloc (Below.refl W4.heap.size W4) (.cells #[.int .i64 l.left, .int .i64 l.right] 3)
            obtain ⟨q5, hq5⟩ : ∃ q, inB 0 40 [l.left, l.right] = q := ⟨_, rfl⟩
            have HQ5 := Lib.hid hq5
            unfold inB at hq5
            rw [hq5] at HC5
            clear hq5
            go_wp2_with fail
            refine HC5.out.mono ?_
            rintro e W5 ⟨rfl, hb⟩
            have HB5 := Lib.hid (HB4.out.below (below_join hA5 hb))
            have HBB5 := Lib.hid (below_join HBB4.out (below_join hA5 hb))
            clear HC5 hA5 hb HB4 HBB4 k5_left k5_right
            cases q5 with
            | false =>
              have HE : Hid (false = res) := Lib.hid (by rw [← HV.out]; unfold layB; rw [HQ5.out]; simp)
              go_wp2_with fail
              go_ret
              exact ⟨ret_bool rfl HE.out, HBB5.out⟩
            | true =>
              have k6_first := HB5.out.cell 9 rfl
              have HC6 := Lib.hid (pto_box (-1) 10000 [l.first] (c := 1) (Box.new W5 #[.int .i64 l.first] 3) (by simp [HWf.out.first]) (by simp))
              have hA6 := below_alloc (Below.refl W5.heap.size W5) (.cells #[.int .i64 l.first] 3)
              obtain ⟨q6, hq6⟩ : ∃ q, inB (-1) 10000 [l.first] = q := ⟨_, rfl⟩
              have HQ6 := Lib.hid hq6
              unfold inB at hq6
              rw [hq6] at HC6
              clear hq6
              go_wp2_with fail
              refine HC6.out.mono ?_
              rintro e W6 ⟨rfl, hb⟩
              have HB6 := Lib.hid (HB5.out.below (below_join hA6 hb))
              have HBB6 := Lib.hid (below_join HBB5.out (below_join hA6 hb))
              clear HC6 hA6 hb HB5 HBB5 k6_first
              cases q6 with
              | false =>
                have HE : Hid (false = res) := Lib.hid (by rw [← HV.out]; unfold layB; rw [HQ6.out]; simp)
                go_wp2_with fail
                go_ret
                exact ⟨ret_bool rfl HE.out, HBB6.out⟩
              | true =>
                have k7_second := HB6.out.cell 10 rfl
                have HC7 := Lib.hid (pto_box 0 10000 [l.second] (c := 1) (Box.new W6 #[.int .i64 l.second] 3) (by simp [HWf.out.second]) (by simp))
                have hA7 := below_alloc (Below.refl W6.heap.size W6) (.cells #[.int .i64 l.second] 3)
                obtain ⟨q7, hq7⟩ : ∃ q, inB 0 10000 [l.second] = q := ⟨_, rfl⟩
                have HQ7 := Lib.hid hq7
                unfold inB at hq7
                rw [hq7] at HC7
                clear hq7
                go_wp2_with fail
                refine HC7.out.mono ?_
                rintro e W7 ⟨rfl, hb⟩
                have HB7 := Lib.hid (HB6.out.below (below_join hA7 hb))
                have HBB7 := Lib.hid (below_join HBB6.out (below_join hA7 hb))
                clear HC7 hA7 hb HB6 HBB6 k7_second
                cases q7 with
                | false =>
                  have HE : Hid (false = res) := Lib.hid (by rw [← HV.out]; unfold layB; rw [HQ7.out]; simp)
                  go_wp2_with fail
                  go_ret
                  exact ⟨ret_bool rfl HE.out, HBB7.out⟩
                | true =>
                  have k8_extra := HB7.out.cell 11 rfl
                  have HC8 := Lib.hid (pto_box 0 67108864 [l.extra] (c := 1) (Box.new W7 #[.int .i64 l.extra] 3) (by simp [HWf.out.extra]) (by simp))
                  have hA8 := below_alloc (Below.refl W7.heap.size W7) (.cells #[.int .i64 l.extra] 3)
                  obtain ⟨q8, hq8⟩ : ∃ q, inB 0 67108864 [l.extra] = q := ⟨_, rfl⟩
                  have HQ8 := Lib.hid hq8
                  unfold inB at hq8
                  rw [hq8] at HC8
                  clear hq8
                  go_wp2_with fail
                  refine HC8.out.mono ?_
                  rintro e W8 ⟨rfl, hb⟩
                  have HB8 := Lib.hid (HB7.out.below (below_join hA8 hb))
                  have HBB8 := Lib.hid (below_join HBB7.out (below_join hA8 hb))
                  clear HC8 hA8 hb HB7 HBB7 k8_extra
                  cases q8 with
                  | false =>
                    have HE : Hid (false = res) := Lib.hid (by rw [← HV.out]; unfold layB; rw [HQ8.out]; simp)
                    go_wp2_with fail
                    go_ret
                    exact ⟨ret_bool rfl HE.out, HBB8.out⟩
                  | true =>
                    have k9_linePen := HB8.out.cell 12 rfl
                    have HC9 := Lib.hid (pto_box 0 1000 [l.linePen] (c := 1) (Box.new W8 #[.int .i64 l.linePen] 3) (by simp [HWf.out.linePen]) (by simp))
                    have hA9 := below_alloc (Below.refl W8.heap.size W8) (.cells #[.int .i64 l.linePen] 3)
                    obtain ⟨q9, hq9⟩ : ∃ q, inB 0 1000 [l.linePen] = q := ⟨_, rfl⟩
                    have HQ9 := Lib.hid hq9
                    unfold inB at hq9
                    rw [hq9] at HC9
                    clear hq9
                    go_wp2_with fail
                    refine HC9.out.mono ?_
                    rintro e W9 ⟨rfl, hb⟩
                    have HB9 := Lib.hid (HB8.out.below (below_join hA9 hb))
                    have HBB9 := Lib.hid (below_join HBB8.out (below_join hA9 hb))
                    clear HC9 hA9 hb HB8 HBB8 k9_linePen
                    cases q9 with
                    | false =>
                      have HE : Hid (false = res) := Lib.hid (by rw [← HV.out]; unfold layB; rw [HQ9.out]; simp)
                      go_wp2_with fail
                      go_ret
                      exact ⟨ret_bool rfl HE.out, HBB9.out⟩
                    | true =>
                      have k10_hyphPen := HB9.out.cell 13 rfl
                      have k10_dashPen := HB9.out.cell 14 rfl
                      have HC10 := Lib.hid (pto_box (-1000) 1000 [l.hyphPen, l.dashPen] (c := 2) (Box.new W9 #[.int .i64 l.hyphPen, .int .i64 l.dashPen] 3) (by simp [HWf.out.hyphPen, HWf.out.dashPen]) (by simp))
                      have hA10 := below_alloc (Below.refl W9.heap.size W9) (.cells #[.int .i64 l.hyphPen, .int .i64 l.dashPen] 3)
                      obtain ⟨q10, hq10⟩ : ∃ q, inB (-1000) 1000 [l.hyphPen, l.dashPen] = q := ⟨_, rfl⟩
                      have HQ10 := Lib.hid hq10
                      unfold inB at hq10
                      rw [hq10] at HC10
                      clear hq10
                      go_wp2_with fail
                      refine HC10.out.mono ?_
                      rintro e W10 ⟨rfl, hb⟩
                      have HB10 := Lib.hid (HB9.out.below (below_join hA10 hb))
                      have HBB10 := Lib.hid (below_join HBB9.out (below_join hA10 hb))
                      clear HC10 hA10 hb HB9 HBB9 k10_hyphPen k10_dashPen
                      cases q10 with
                      | false =>
                        have HE : Hid (false = res) := Lib.hid (by rw [← HV.out]; unfold layB; rw [HQ10.out]; simp)
                        go_wp2_with fail
                        go_ret
                        exact ⟨ret_bool rfl HE.out, HBB10.out⟩
                      | true =>
                        have k11_loose := HB10.out.cell 20 rfl
                        have HC11 := Lib.hid (pto_box (-5) 5 [l.loose] (c := 1) (Box.new W10 #[.int .i64 l.loose] 3) (by simp [HWf.out.loose]) (by simp))
                        have hA11 := below_alloc (Below.refl W10.heap.size W10) (.cells #[.int .i64 l.loose] 3)
                        obtain ⟨q11, hq11⟩ : ∃ q, inB (-5) 5 [l.loose] = q := ⟨_, rfl⟩
                        have HQ11 := Lib.hid hq11
                        unfold inB at hq11
                        rw [hq11] at HC11
                        clear hq11
                        go_wp2_with fail
                        refine HC11.out.mono ?_
                        rintro e W11 ⟨rfl, hb⟩
                        have HB11 := Lib.hid (HB10.out.below (below_join hA11 hb))
                        have HBB11 := Lib.hid (below_join HBB10.out (below_join hA11 hb))
                        clear HC11 hA11 hb HB10 HBB10 k11_loose
                        cases q11 with
                        | false =>
                          have HE : Hid (false = res) := Lib.hid (by rw [← HV.out]; unfold layB; rw [HQ11.out]; simp)
                          go_wp2_with fail
                          go_ret
                          exact ⟨ret_bool rfl HE.out, HBB11.out⟩
                        | true =>
                          have k12_jump := HB11.out.cell 15 rfl
                          have k12_double := HB11.out.cell 16 rfl
                          have k12_final := HB11.out.cell 17 rfl
                          have k12_river := HB11.out.cell 18 rfl
                          have k12_ladder := HB11.out.cell 19 rfl
                          have HC12 := Lib.hid (pto_box 0 10000 [l.jump, l.double, l.final, l.river, l.ladder] (c := 5) (Box.new W11 #[.int .i64 l.jump, .int .i64 l.double, .int .i64 l.final, .int .i64 l.river, .int .i64 l.ladder] 3) (by simp [HWf.out.jump, HWf.out.double, HWf.out.final, HWf.out.river, HWf.out.ladder]) (by simp))
                          have hA12 := below_alloc (Below.refl W11.heap.size W11) (.cells #[.int .i64 l.jump, .int .i64 l.double, .int .i64 l.final, .int .i64 l.river, .int .i64 l.ladder] 3)
                          obtain ⟨q12, hq12⟩ : ∃ q, inB 0 10000 [l.jump, l.double, l.final, l.river, l.ladder] = q := ⟨_, rfl⟩
                          have HQ12 := Lib.hid hq12
                          unfold inB at hq12
                          rw [hq12] at HC12
                          clear hq12
                          go_wp2_with fail
                          refine HC12.out.mono ?_
                          rintro e W12 ⟨rfl, hb⟩
                          have HB12 := Lib.hid (HB11.out.below (below_join hA12 hb))
                          have HBB12 := Lib.hid (below_join HBB11.out (below_join hA12 hb))
                          clear HC12 hA12 hb HB11 HBB11 k12_jump k12_double k12_final k12_river k12_ladder
                          cases q12 with
                          | false =>
                            have HE : Hid (false = res) := Lib.hid (by rw [← HV.out]; unfold layB; rw [HQ12.out]; simp)
                            go_wp2_with fail
                            go_ret
                            exact ⟨ret_bool rfl HE.out, HBB12.out⟩
                          | true =>
                            have kz := HB12.out.cell 4 rfl
                            have HC := Lib.hid (HLast.out W12 HBB12.out)
                            have HE : Hid ((l.shape.all fun x => inB 0 67108864 [x.1] && inB 1 67108864 [x.2]) = res) := Lib.hid (by rw [← HV.out]; unfold layB; rw [HQ0.out, HQ1.out, HQ2.out, HQ3.out, HQ4.out, HQ5.out, HQ6.out, HQ7.out, HQ8.out, HQ9.out, HQ10.out, HQ11.out, HQ12.out]; simp)
                            generalize (l.shape.all fun x => inB 0 67108864 [x.1] && inB 1 67108864 [x.2]) = z at *
                            go_wp2_with fail
                            refine HC.out.mono ?_
                            rintro e W ⟨rfl, hb⟩
                            go_wp2_with fail
                            go_ret
                            exact ⟨ret_bool rfl (by rw [← HE.out]; try simp), below_join HBB12.out hb⟩
      · have F1 : ((40 : Int) < (l.shape.length : Int)) = True := eq_true (by omega)
        have HE : Hid (false = res) := Lib.hid (by rw [← HV.out]; unfold layB; rw [decide_eq_false hs]; simp)
        clear hs
        go_wp2_with fail
        go_ret
        exact ⟨ret_bool rfl HE.out, HBB2.out⟩
end Go.Proofs.Ytndpdbofoojkhaa.Ft
