/- joined for a claim: Fit1, Fit2, Fit3, Fit4, Fit5 -/
import Derived.Test.YtndpdbofoojkhaaGreatFont3
/- Whether numbers are from one to another one (param.to); small functions of fit. -/
namespace Go.Proofs.YtndpdbofoojkhaaGreat.Ft
open Go.RowKit Go.Proofs.YtndpdbofoojkhaaGreat.Kit Go.Proofs.YtndpdbofoojkhaaGreat.Fo
set_option linter.unusedVariables false
set_option linter.unusedSimpArgs false

def outB (least most n : Int) : Bool := decide (n < least) || decide (most < n)
theorem out1_any (n least most : Int) (g : Nat) (w : World) (h0 : Box w g #[.int .i64 least] 3) (h1 : Box w (g + 1) #[.int .i64 most] 3) :
    Calls Tryz.prog 72 #[.int .i64 n, .pointer (some ⟨g, 0, none⟩), .pointer (some ⟨g + 1, 0, none⟩)] w fun e w' => e = .returned (.bool (outB least most n)) ∧ Below w.heap.size w w' := by
  have c0 := h0.cell 0 rfl
  have c1 := h1.cell 0 rfl
  obtain ⟨q, hq⟩ : ∃ q, Hid (outB least most n = q) := ⟨_, Lib.hid rfl⟩
  rw [hq.out]
  by_cases h : n < least
  · have F1 : (n < least) = True := eq_true h
    have HV : Hid (true = q) := Lib.hid (by rw [← hq.out, outB, decide_eq_true h]; rfl)
    clear hq h
    go_enter Tryz.func72, Tryz.ntmps72
    go_wp2_with fail
    go_ret
    exact ⟨ret_bool rfl HV.out, Below.refl _ _⟩
  · have F1 : (n < least) = False := eq_false h
    by_cases h2 : most < n
    · have F2 : (most < n) = True := eq_true h2
      have HV : Hid (true = q) := Lib.hid (by rw [← hq.out, outB, decide_eq_true h2]; simp)
      clear hq h h2
      go_enter Tryz.func72, Tryz.ntmps72
      go_wp2_with fail
      go_ret
      exact ⟨ret_bool rfl HV.out, Below.refl _ _⟩
    · have F2 : (most < n) = False := eq_false h2
      have HV : Hid (false = q) := Lib.hid (by rw [← hq.out, outB, decide_eq_false h, decide_eq_false h2]; rfl)
      clear hq h h2
      go_enter Tryz.func72, Tryz.ntmps72
      go_wp2_with fail
      go_ret
      exact ⟨ret_bool rfl HV.out, Below.refl _ _⟩
theorem pto_any (least most : Int) (A : Option Addr) (c : Nat) (l : List Int) (w : World) {B : Nat} (hB : B ≤ w.heap.size) (hx : Row (Rep.int .i64) w B A l) (hl : l.length ≤ 9223372036854775807) :
    Calls Tryz.prog 51 #[.int .i64 least, .int .i64 most, .slice A l.length c] w fun e w' => e = .returned (.bool (!(l.any (outB least most)))) ∧ Below w.heap.size w w' := by
  have b0 := (Box.new w #[.int .i64 least] 3).alloc (.cells #[.int .i64 most] 3)
  have b1 := Box.new (w.alloc (.cells #[.int .i64 least] 3)) #[.int .i64 most] 3
  have hbw := below_alloc (below_alloc (Below.refl w.heap.size w) (.cells #[.int .i64 least] 3)) (.cells #[.int .i64 most] 3)
  simp only [World.size_alloc] at b1
  have e1 : ∀ args w, (callFunc 72 args).run Tryz.prog w = .ok (.enter 72 args) w := enters_of Tryz.func72 (by kernel_rfl) rfl
  have HC := Lib.hid (contains_any _ #[.pointer (some ⟨w.heap.size, 0, none⟩), .pointer (some ⟨w.heap.size + 1, 0, none⟩)] (outB least most) e1 A c l _ (by have := hbw.size; omega) (hx.mono (hbw.mono hB)) hl (fun V x hb => out1_any x least most w.heap.size V (b0.below hb) (b1.below hb)))
  have hmf : ∀ fn first cap w, (Instr.makeFunc fn first cap).run Tryz.prog w = .ok (.func fn first cap) w := fun _ _ _ _ => rfl
  generalize l.any (outB least most) = q at *
  clear e1 hx b0 b1
  go_enter Tryz.func51, Tryz.ntmps51
  go_wp2_with fail
  refine HC.out.mono ?_
  rintro e w2 ⟨rfl, hb⟩
  go_wp2_with fail
  go_ret
  exact ⟨rfl, below_join hbw hb⟩
theorem ints_box {k : IntKind} {w : World} {g : Nat} {cs : Array Value} {t : TypeId} (xs : List Int) (h : Box w g cs t) (hw : ∀ x ∈ xs, (Lit.int k x).wf = true) (hc : cs = (xs.map fun x => Value.int k x).toArray) : Row (Rep.int k) w w.heap.size (some ⟨g, 0, none⟩) xs := by
  intro i x hx
  refine ⟨g, 0, [.int k x], rfl, h.lt, ⟨rfl, hw x (List.mem_of_getElem? hx)⟩, fun j v hv => ?_⟩
  obtain ⟨hj, rfl⟩ := List.getElem?_eq_some_iff.1 hv
  have hj0 : j = 0 := by simp at hj; exact hj
  subst hj0
  refine h.cell _ ?_
  subst hc
  simp [show (Rep.int k).n = 1 from rfl, hx]
/-- param.to at numbers that were put into a new block. -/
theorem pto_box (least most : Int) (xs : List Int) {g c : Nat} {t : TypeId} {V : World} (hb : Box V g (xs.map fun x => Value.int .i64 x).toArray t) (hw : ∀ x ∈ xs, (Lit.int .i64 x).wf = true) (hl : xs.length ≤ 100) :
    Calls Tryz.prog 51 #[.int .i64 least, .int .i64 most, .slice (some ⟨g, 0, none⟩) xs.length c] V fun e w' => e = .returned (.bool (!(xs.any (outB least most)))) ∧ Below V.heap.size V w' :=
  pto_any least most _ c xs V (Nat.le_refl _) (ints_box xs hb hw rfl) (by omega)
/-- A layout, and whether it may be. -/
structure LayD where
  width : Int
  space : Int
  stretch : Int
  shrink : Int
  shape : List (Int × Int)
  hang : Int
  after : Int
  left : Int
  right : Int
  first : Int
  second : Int
  extra : Int
  linePen : Int
  hyphPen : Int
  dashPen : Int
  jump : Int
  double : Int
  final : Int
  river : Int
  ladder : Int
  loose : Int
abbrev layCells (l : LayD) (A : Option Addr) (c : Nat) : Array Value := #[.int .i64 l.width, .int .i64 l.space, .int .i64 l.stretch, .int .i64 l.shrink, .slice A l.shape.length c, .int .i64 l.hang, .int .i64 l.after, .int .i64 l.left, .int .i64 l.right, .int .i64 l.first, .int .i64 l.second, .int .i64 l.extra, .int .i64 l.linePen, .int .i64 l.hyphPen, .int .i64 l.dashPen, .int .i64 l.jump, .int .i64 l.double, .int .i64 l.final, .int .i64 l.river, .int .i64 l.ladder, .int .i64 l.loose]
def inB (least most : Int) (xs : List Int) : Bool := !(xs.any (outB least most))
def layB (l : LayD) : Bool :=
  inB 1 67108864 [l.width] && inB 0 4194304 [l.space, l.stretch, l.shrink] && decide (l.shape.length ≤ 40) &&
  inB (1 - l.width) (l.width - 1) [l.hang] && inB (-100) 100 [l.after] && inB 0 40 [l.left, l.right] &&
  inB (-1) 10000 [l.first] && inB 0 10000 [l.second] && inB 0 67108864 [l.extra] &&
  inB 0 1000 [l.linePen] && inB (-1000) 1000 [l.hyphPen, l.dashPen] && inB (-5) 5 [l.loose] &&
  inB 0 10000 [l.jump, l.double, l.final, l.river, l.ladder] &&
  l.shape.all fun x => inB 0 67108864 [x.1] && inB 1 67108864 [x.2]
theorem flag_any (b : Bool) (w : World) : Calls Tryz.prog 60 #[.bool b] w fun e w' => e = .returned (.int .i64 (if b then 1 else 0)) ∧ w = w' := by
  cases b
  all_goals
    go_enter Tryz.func60, Tryz.ntmps60
    go_wp2_with fail
    go_ret
    exact ⟨rfl, rfl⟩
theorem none_any (A : Option Addr) (n c : Nat) (w : World) : Calls Tryz.prog 44 #[.slice A n c] w fun e w' => e = .returned (.bool ((n : Int) == 0)) ∧ w = w' := by
  go_enter Tryz.func44, Tryz.ntmps44
  go_wp2_with fail
  go_ret
  exact ⟨ret_bool rfl (by simp), rfl⟩
end Go.Proofs.YtndpdbofoojkhaaGreat.Ft
/- Whether a layout may be: the walk of param.Check (printed by tools/gen_fit2.py; under way). -/
namespace Go.Proofs.YtndpdbofoojkhaaGreat.Ft
open Go.RowKit Go.Proofs.YtndpdbofoojkhaaGreat.Kit Go.Proofs.YtndpdbofoojkhaaGreat.Fo
set_option linter.unusedVariables false
set_option linter.unusedSimpArgs false

structure LayWf (l : LayD) : Prop where
  width : (Lit.int .i64 l.width).wf = true
  space : (Lit.int .i64 l.space).wf = true
  stretch : (Lit.int .i64 l.stretch).wf = true
  shrink : (Lit.int .i64 l.shrink).wf = true
  hang : (Lit.int .i64 l.hang).wf = true
  after : (Lit.int .i64 l.after).wf = true
  left : (Lit.int .i64 l.left).wf = true
  right : (Lit.int .i64 l.right).wf = true
  first : (Lit.int .i64 l.first).wf = true
  second : (Lit.int .i64 l.second).wf = true
  extra : (Lit.int .i64 l.extra).wf = true
  linePen : (Lit.int .i64 l.linePen).wf = true
  hyphPen : (Lit.int .i64 l.hyphPen).wf = true
  dashPen : (Lit.int .i64 l.dashPen).wf = true
  jump : (Lit.int .i64 l.jump).wf = true
  double : (Lit.int .i64 l.double).wf = true
  final : (Lit.int .i64 l.final).wf = true
  river : (Lit.int .i64 l.river).wf = true
  ladder : (Lit.int .i64 l.ladder).wf = true
  loose : (Lit.int .i64 l.loose).wf = true
theorem in_one {a b x : Int} (h : inB a b [x] = true) : a ≤ x ∧ x ≤ b := by
  unfold inB outB at h
  simp at h
  omega
set_option maxRecDepth 10000 in
set_option maxHeartbeats 8000000 in
theorem pcheck_any (l : LayD) (A : Option Addr) (c : Nat) (w : World) (hw : LayWf l) (hl : l.shape.length ≤ 9223372036854775807) (hlast : ∀ V, Below w.heap.size w V → Calls Tryz.prog 52 #[.slice A l.shape.length c, .func (.func 53) #[] #[]] V fun e w' => e = .returned (.bool (!(l.shape.all fun x => inB 0 67108864 [x.1] && inB 1 67108864 [x.2]))) ∧ Below V.heap.size V w') :
    Calls Tryz.prog 25 #[.agg (layCells l A c)] w fun e w' => e = .returned (.bool (layB l)) ∧ Below w.heap.size w w' := by
  have hb0 := Box.new w (layCells l A c) 32
  have bb0 := below_alloc (Below.refl w.heap.size w) (.cells (layCells l A c) 32)
  obtain ⟨W0, hW⟩ : ∃ W, w.alloc (.cells (layCells l A c) 32) = W := ⟨_, rfl⟩
  rw [hW] at hb0 bb0
  have HB0 := Lib.hid hb0
  have HBB0 := Lib.hid bb0
  have HLast := Lib.hid hlast
  have HWf := Lib.hid hw
  obtain ⟨res, hres⟩ : ∃ r, Hid (layB l = r) := ⟨_, Lib.hid rfl⟩
  rw [hres.out]
  have HV : Hid (layB l = res) := Lib.hid hres.out
  clear hlast hw hb0 bb0 hres
  have k0_width := HB0.out.cell 0 rfl
  have HC0 := Lib.hid (pto_box 1 67108864 [l.width] (c := 1) (Box.new W0 #[.int .i64 l.width] 3) (by simp [HWf.out.width]) (by simp))
  have hA0 := below_alloc (Below.refl W0.heap.size W0) (.cells #[.int .i64 l.width] 3)
  obtain ⟨q0, hq0⟩ : ∃ q, inB 1 67108864 [l.width] = q := ⟨_, rfl⟩
  have HQ0 := Lib.hid hq0
  unfold inB at hq0
  rw [hq0] at HC0
  clear hq0
  go_enter Tryz.func25, Tryz.ntmps25
  go_wp2_with fail
  refine HC0.out.mono ?_
  rintro e W1 ⟨rfl, hb⟩
  have HB1 := Lib.hid (HB0.out.below (below_join hA0 hb))
  have HBB1 := Lib.hid (below_join HBB0.out (below_join hA0 hb))
  clear HC0 hA0 hb HB0 HBB0 k0_width
  cases q0 with
  | false =>
    have HE : Hid (false = res) := Lib.hid (by rw [← HV.out]; unfold layB; rw [HQ0.out]; simp)
    go_wp2_with fail
    go_ret
    exact ⟨ret_bool rfl HE.out, HBB1.out⟩
  | true =>
    obtain ⟨hw1, hw2⟩ := in_one HQ0.out
    have k1_space := HB1.out.cell 1 rfl
    have k1_stretch := HB1.out.cell 2 rfl
    have k1_shrink := HB1.out.cell 3 rfl
    have HC1 := Lib.hid (pto_box 0 4194304 [l.space, l.stretch, l.shrink] (c := 3) (Box.new W1 #[.int .i64 l.space, .int .i64 l.stretch, .int .i64 l.shrink] 3) (by simp [HWf.out.space, HWf.out.stretch, HWf.out.shrink]) (by simp))
    have hA1 := below_alloc (Below.refl W1.heap.size W1) (.cells #[.int .i64 l.space, .int .i64 l.stretch, .int .i64 l.shrink] 3)
    obtain ⟨q1, hq1⟩ : ∃ q, inB 0 4194304 [l.space, l.stretch, l.shrink] = q := ⟨_, rfl⟩
    have HQ1 := Lib.hid hq1
    unfold inB at hq1
    rw [hq1] at HC1
    clear hq1
    go_wp2_with fail
    refine HC1.out.mono ?_
    rintro e W2 ⟨rfl, hb⟩
    have HB2 := Lib.hid (HB1.out.below (below_join hA1 hb))
    have HBB2 := Lib.hid (below_join HBB1.out (below_join hA1 hb))
    clear HC1 hA1 hb HB1 HBB1 k1_space k1_stretch k1_shrink
    cases q1 with
    | false =>
      have HE : Hid (false = res) := Lib.hid (by rw [← HV.out]; unfold layB; rw [HQ1.out]; simp)
      go_wp2_with fail
      go_ret
      exact ⟨ret_bool rfl HE.out, HBB2.out⟩
    | true =>
      have k2 := HB2.out.cell 4 rfl
      by_cases hs : l.shape.length ≤ 40
      · have F1 : ((40 : Int) < (l.shape.length : Int)) = False := eq_false (by omega)
        have HQ2 : Hid (decide (l.shape.length ≤ 40) = true) := Lib.hid (decide_eq_true hs)
        clear hs
        have k3_hang := HB2.out.cell 5 rfl
        have k3_width := HB2.out.cell 0 rfl
        have HC3 := Lib.hid (pto_box (1 - l.width) (l.width - 1) [l.hang] (c := 1) (Box.new W2 #[.int .i64 l.hang] 3) (by simp [HWf.out.hang]) (by simp))
        have hA3 := below_alloc (Below.refl W2.heap.size W2) (.cells #[.int .i64 l.hang] 3)
        obtain ⟨q3, hq3⟩ : ∃ q, inB (1 - l.width) (l.width - 1) [l.hang] = q := ⟨_, rfl⟩
        have HQ3 := Lib.hid hq3
        unfold inB at hq3
        rw [hq3] at HC3
        clear hq3
        go_wp2_with fail
        refine HC3.out.mono ?_
        rintro e W3 ⟨rfl, hb⟩
        have HB3 := Lib.hid (HB2.out.below (below_join hA3 hb))
        have HBB3 := Lib.hid (below_join HBB2.out (below_join hA3 hb))
        clear HC3 hA3 hb HB2 HBB2 k3_hang k3_width
        cases q3 with
        | false =>
          have HE : Hid (false = res) := Lib.hid (by rw [← HV.out]; unfold layB; rw [HQ3.out]; simp)
          go_wp2_with fail
          go_ret
          exact ⟨ret_bool rfl HE.out, HBB3.out⟩
        | true =>
          have k4_after := HB3.out.cell 6 rfl
          have HC4 := Lib.hid (pto_box (-100) 100 [l.after] (c := 1) (Box.new W3 #[.int .i64 l.after] 3) (by simp [HWf.out.after]) (by simp))
          have hA4 := below_alloc (Below.refl W3.heap.size W3) (.cells #[.int .i64 l.after] 3)
          obtain ⟨q4, hq4⟩ : ∃ q, inB (-100) 100 [l.after] = q := ⟨_, rfl⟩
          have HQ4 := Lib.hid hq4
          unfold inB at hq4
          rw [hq4] at HC4
          clear hq4
          go_wp2_with fail
          refine HC4.out.mono ?_
          rintro e W4 ⟨rfl, hb⟩
          have HB4 := Lib.hid (HB3.out.below (below_join hA4 hb))
          have HBB4 := Lib.hid (below_join HBB3.out (below_join hA4 hb))
          clear HC4 hA4 hb HB3 HBB3 k4_after
          cases q4 with
          | false =>
            have HE : Hid (false = res) := Lib.hid (by rw [← HV.out]; unfold layB; rw [HQ4.out]; simp)
            go_wp2_with fail
            go_ret
            exact ⟨ret_bool rfl HE.out, HBB4.out⟩
          | true =>
            have k5_left := HB4.out.cell 7 rfl
            have k5_right := HB4.out.cell 8 rfl
            have HC5 := Lib.hid (pto_box 0 40 [l.left, l.right] (c := 2) (Box.new W4 #[.int .i64 l.left, .int .i64 l.right] 3) (by simp [HWf.out.left, HWf.out.right]) (by simp))
            have hA5 := below_alloc (Below.refl W4.heap.size W4) (.cells #[.int .i64 l.left, .int .i64 l.right] 3)
            obtain ⟨q5, hq5⟩ : ∃ q, inB 0 40 [l.left, l.right] = q := ⟨_, rfl⟩
            have HQ5 := Lib.hid hq5
            unfold inB at hq5
            rw [hq5] at HC5
            clear hq5
            go_wp2_with fail
            refine HC5.out.mono ?_
            rintro e W5 ⟨rfl, hb⟩
            have HB5 := Lib.hid (HB4.out.below (below_join hA5 hb))
            have HBB5 := Lib.hid (below_join HBB4.out (below_join hA5 hb))
            clear HC5 hA5 hb HB4 HBB4 k5_left k5_right
            cases q5 with
            | false =>
              have HE : Hid (false = res) := Lib.hid (by rw [← HV.out]; unfold layB; rw [HQ5.out]; simp)
              go_wp2_with fail
              go_ret
              exact ⟨ret_bool rfl HE.out, HBB5.out⟩
            | true =>
              have k6_first := HB5.out.cell 9 rfl
              have HC6 := Lib.hid (pto_box (-1) 10000 [l.first] (c := 1) (Box.new W5 #[.int .i64 l.first] 3) (by simp [HWf.out.first]) (by simp))
              have hA6 := below_alloc (Below.refl W5.heap.size W5) (.cells #[.int .i64 l.first] 3)
              obtain ⟨q6, hq6⟩ : ∃ q, inB (-1) 10000 [l.first] = q := ⟨_, rfl⟩
              have HQ6 := Lib.hid hq6
              unfold inB at hq6
              rw [hq6] at HC6
              clear hq6
              go_wp2_with fail
              refine HC6.out.mono ?_
              rintro e W6 ⟨rfl, hb⟩
              have HB6 := Lib.hid (HB5.out.below (below_join hA6 hb))
              have HBB6 := Lib.hid (below_join HBB5.out (below_join hA6 hb))
              clear HC6 hA6 hb HB5 HBB5 k6_first
              cases q6 with
              | false =>
                have HE : Hid (false = res) := Lib.hid (by rw [← HV.out]; unfold layB; rw [HQ6.out]; simp)
                go_wp2_with fail
                go_ret
                exact ⟨ret_bool rfl HE.out, HBB6.out⟩
              | true =>
                have k7_second := HB6.out.cell 10 rfl
                have HC7 := Lib.hid (pto_box 0 10000 [l.second] (c := 1) (Box.new W6 #[.int .i64 l.second] 3) (by simp [HWf.out.second]) (by simp))
                have hA7 := below_alloc (Below.refl W6.heap.size W6) (.cells #[.int .i64 l.second] 3)
                obtain ⟨q7, hq7⟩ : ∃ q, inB 0 10000 [l.second] = q := ⟨_, rfl⟩
                have HQ7 := Lib.hid hq7
                unfold inB at hq7
                rw [hq7] at HC7
                clear hq7
                go_wp2_with fail
                refine HC7.out.mono ?_
                rintro e W7 ⟨rfl, hb⟩
                have HB7 := Lib.hid (HB6.out.below (below_join hA7 hb))
                have HBB7 := Lib.hid (below_join HBB6.out (below_join hA7 hb))
                clear HC7 hA7 hb HB6 HBB6 k7_second
                cases q7 with
                | false =>
                  have HE : Hid (false = res) := Lib.hid (by rw [← HV.out]; unfold layB; rw [HQ7.out]; simp)
                  go_wp2_with fail
                  go_ret
                  exact ⟨ret_bool rfl HE.out, HBB7.out⟩
                | true =>
                  have k8_extra := HB7.out.cell 11 rfl
                  have HC8 := Lib.hid (pto_box 0 67108864 [l.extra] (c := 1) (Box.new W7 #[.int .i64 l.extra] 3) (by simp [HWf.out.extra]) (by simp))
                  have hA8 := below_alloc (Below.refl W7.heap.size W7) (.cells #[.int .i64 l.extra] 3)
                  obtain ⟨q8, hq8⟩ : ∃ q, inB 0 67108864 [l.extra] = q := ⟨_, rfl⟩
                  have HQ8 := Lib.hid hq8
                  unfold inB at hq8
                  rw [hq8] at HC8
                  clear hq8
                  go_wp2_with fail
                  refine HC8.out.mono ?_
                  rintro e W8 ⟨rfl, hb⟩
                  have HB8 := Lib.hid (HB7.out.below (below_join hA8 hb))
                  have HBB8 := Lib.hid (below_join HBB7.out (below_join hA8 hb))
                  clear HC8 hA8 hb HB7 HBB7 k8_extra
                  cases q8 with
                  | false =>
                    have HE : Hid (false = res) := Lib.hid (by rw [← HV.out]; unfold layB; rw [HQ8.out]; simp)
                    go_wp2_with fail
                    go_ret
                    exact ⟨ret_bool rfl HE.out, HBB8.out⟩
                  | true =>
                    have k9_linePen := HB8.out.cell 12 rfl
                    have HC9 := Lib.hid (pto_box 0 1000 [l.linePen] (c := 1) (Box.new W8 #[.int .i64 l.linePen] 3) (by simp [HWf.out.linePen]) (by simp))
                    have hA9 := below_alloc (Below.refl W8.heap.size W8) (.cells #[.int .i64 l.linePen] 3)
                    obtain ⟨q9, hq9⟩ : ∃ q, inB 0 1000 [l.linePen] = q := ⟨_, rfl⟩
                    have HQ9 := Lib.hid hq9
                    unfold inB at hq9
                    rw [hq9] at HC9
                    clear hq9
                    go_wp2_with fail
                    refine HC9.out.mono ?_
                    rintro e W9 ⟨rfl, hb⟩
                    have HB9 := Lib.hid (HB8.out.below (below_join hA9 hb))
                    have HBB9 := Lib.hid (below_join HBB8.out (below_join hA9 hb))
                    clear HC9 hA9 hb HB8 HBB8 k9_linePen
                    cases q9 with
                    | false =>
                      have HE : Hid (false = res) := Lib.hid (by rw [← HV.out]; unfold layB; rw [HQ9.out]; simp)
                      go_wp2_with fail
                      go_ret
                      exact ⟨ret_bool rfl HE.out, HBB9.out⟩
                    | true =>
                      have k10_hyphPen := HB9.out.cell 13 rfl
                      have k10_dashPen := HB9.out.cell 14 rfl
                      have HC10 := Lib.hid (pto_box (-1000) 1000 [l.hyphPen, l.dashPen] (c := 2) (Box.new W9 #[.int .i64 l.hyphPen, .int .i64 l.dashPen] 3) (by simp [HWf.out.hyphPen, HWf.out.dashPen]) (by simp))
                      have hA10 := below_alloc (Below.refl W9.heap.size W9) (.cells #[.int .i64 l.hyphPen, .int .i64 l.dashPen] 3)
                      obtain ⟨q10, hq10⟩ : ∃ q, inB (-1000) 1000 [l.hyphPen, l.dashPen] = q := ⟨_, rfl⟩
                      have HQ10 := Lib.hid hq10
                      unfold inB at hq10
                      rw [hq10] at HC10
                      clear hq10
                      go_wp2_with fail
                      refine HC10.out.mono ?_
                      rintro e W10 ⟨rfl, hb⟩
                      have HB10 := Lib.hid (HB9.out.below (below_join hA10 hb))
                      have HBB10 := Lib.hid (below_join HBB9.out (below_join hA10 hb))
                      clear HC10 hA10 hb HB9 HBB9 k10_hyphPen k10_dashPen
                      cases q10 with
                      | false =>
                        have HE : Hid (false = res) := Lib.hid (by rw [← HV.out]; unfold layB; rw [HQ10.out]; simp)
                        go_wp2_with fail
                        go_ret
                        exact ⟨ret_bool rfl HE.out, HBB10.out⟩
                      | true =>
                        have k11_loose := HB10.out.cell 20 rfl
                        have HC11 := Lib.hid (pto_box (-5) 5 [l.loose] (c := 1) (Box.new W10 #[.int .i64 l.loose] 3) (by simp [HWf.out.loose]) (by simp))
                        have hA11 := below_alloc (Below.refl W10.heap.size W10) (.cells #[.int .i64 l.loose] 3)
                        obtain ⟨q11, hq11⟩ : ∃ q, inB (-5) 5 [l.loose] = q := ⟨_, rfl⟩
                        have HQ11 := Lib.hid hq11
                        unfold inB at hq11
                        rw [hq11] at HC11
                        clear hq11
                        go_wp2_with fail
                        refine HC11.out.mono ?_
                        rintro e W11 ⟨rfl, hb⟩
                        have HB11 := Lib.hid (HB10.out.below (below_join hA11 hb))
                        have HBB11 := Lib.hid (below_join HBB10.out (below_join hA11 hb))
                        clear HC11 hA11 hb HB10 HBB10 k11_loose
                        cases q11 with
                        | false =>
                          have HE : Hid (false = res) := Lib.hid (by rw [← HV.out]; unfold layB; rw [HQ11.out]; simp)
                          go_wp2_with fail
                          go_ret
                          exact ⟨ret_bool rfl HE.out, HBB11.out⟩
                        | true =>
                          have k12_jump := HB11.out.cell 15 rfl
                          have k12_double := HB11.out.cell 16 rfl
                          have k12_final := HB11.out.cell 17 rfl
                          have k12_river := HB11.out.cell 18 rfl
                          have k12_ladder := HB11.out.cell 19 rfl
                          have HC12 := Lib.hid (pto_box 0 10000 [l.jump, l.double, l.final, l.river, l.ladder] (c := 5) (Box.new W11 #[.int .i64 l.jump, .int .i64 l.double, .int .i64 l.final, .int .i64 l.river, .int .i64 l.ladder] 3) (by simp [HWf.out.jump, HWf.out.double, HWf.out.final, HWf.out.river, HWf.out.ladder]) (by simp))
                          have hA12 := below_alloc (Below.refl W11.heap.size W11) (.cells #[.int .i64 l.jump, .int .i64 l.double, .int .i64 l.final, .int .i64 l.river, .int .i64 l.ladder] 3)
                          obtain ⟨q12, hq12⟩ : ∃ q, inB 0 10000 [l.jump, l.double, l.final, l.river, l.ladder] = q := ⟨_, rfl⟩
                          have HQ12 := Lib.hid hq12
                          unfold inB at hq12
                          rw [hq12] at HC12
                          clear hq12
                          go_wp2_with fail
                          refine HC12.out.mono ?_
                          rintro e W12 ⟨rfl, hb⟩
                          have HB12 := Lib.hid (HB11.out.below (below_join hA12 hb))
                          have HBB12 := Lib.hid (below_join HBB11.out (below_join hA12 hb))
                          clear HC12 hA12 hb HB11 HBB11 k12_jump k12_double k12_final k12_river k12_ladder
                          cases q12 with
                          | false =>
                            have HE : Hid (false = res) := Lib.hid (by rw [← HV.out]; unfold layB; rw [HQ12.out]; simp)
                            go_wp2_with fail
                            go_ret
                            exact ⟨ret_bool rfl HE.out, HBB12.out⟩
                          | true =>
                            have kz := HB12.out.cell 4 rfl
                            have HC := Lib.hid (HLast.out W12 HBB12.out)
                            have HE : Hid ((l.shape.all fun x => inB 0 67108864 [x.1] && inB 1 67108864 [x.2]) = res) := Lib.hid (by rw [← HV.out]; unfold layB; rw [HQ0.out, HQ1.out, HQ2.out, HQ3.out, HQ4.out, HQ5.out, HQ6.out, HQ7.out, HQ8.out, HQ9.out, HQ10.out, HQ11.out, HQ12.out]; simp)
                            generalize (l.shape.all fun x => inB 0 67108864 [x.1] && inB 1 67108864 [x.2]) = z at *
                            go_wp2_with fail
                            refine HC.out.mono ?_
                            rintro e W ⟨rfl, hb⟩
                            go_wp2_with fail
                            go_ret
                            exact ⟨ret_bool rfl (by rw [← HE.out]; try simp), below_join HBB12.out hb⟩
      · have F1 : ((40 : Int) < (l.shape.length : Int)) = True := eq_true (by omega)
        have HE : Hid (false = res) := Lib.hid (by rw [← HV.out]; unfold layB; rw [decide_eq_false hs]; simp)
        clear hs
        go_wp2_with fail
        go_ret
        exact ⟨ret_bool rfl HE.out, HBB2.out⟩
end Go.Proofs.YtndpdbofoojkhaaGreat.Ft
/- Whether a line of a shape may be: the walk of param.Check$1; the search over a shape. -/
namespace Go.Proofs.YtndpdbofoojkhaaGreat.Ft
open Go.RowKit Go.Proofs.YtndpdbofoojkhaaGreat.Kit Go.Proofs.YtndpdbofoojkhaaGreat.Fo
set_option linter.unusedVariables false
set_option linter.unusedSimpArgs false

def lineB (x : Int × Int) : Bool := inB 0 67108864 [x.1] && inB 1 67108864 [x.2]
set_option maxHeartbeats 1000000 in
theorem pline_any (x : Int × Int) (w : World) (h1 : (Lit.int .i64 x.1).wf = true) (h2 : (Lit.int .i64 x.2).wf = true) :
    Calls Tryz.prog 53 #[.agg #[.int .i64 x.1, .int .i64 x.2]] w fun e w' => e = .returned (.bool (!lineB x)) ∧ Below w.heap.size w w' := by
  have hb0 := Box.new w #[.int .i64 x.1, .int .i64 x.2] 111
  have bb0 := below_alloc (Below.refl w.heap.size w) (.cells #[.int .i64 x.1, .int .i64 x.2] 111)
  obtain ⟨W0, hW⟩ : ∃ W, w.alloc (.cells #[.int .i64 x.1, .int .i64 x.2] 111) = W := ⟨_, rfl⟩
  rw [hW] at hb0 bb0
  have k0 := hb0.cell 0 rfl
  have HB0 := Lib.hid hb0
  have HBB0 := Lib.hid bb0
  have HC := Lib.hid (pto_box 0 67108864 [x.1] (c := 1) (Box.new W0 #[.int .i64 x.1] 3) (by simp [h1]) (by simp))
  have hA := below_alloc (Below.refl W0.heap.size W0) (.cells #[.int .i64 x.1] 3)
  obtain ⟨res, hres⟩ : ∃ r, Hid ((!lineB x) = r) := ⟨_, Lib.hid rfl⟩
  rw [hres.out]
  have HV : Hid ((!lineB x) = res) := Lib.hid hres.out
  obtain ⟨q0, hq0⟩ : ∃ q, inB 0 67108864 [x.1] = q := ⟨_, rfl⟩
  have HQ0 := Lib.hid hq0
  unfold inB at hq0
  rw [hq0] at HC
  have H2 := Lib.hid h2
  clear hq0 hres h1 h2 hb0 bb0
  go_enter Tryz.func53, Tryz.ntmps53
  go_wp2_with fail
  refine HC.out.mono ?_
  rintro e W1 ⟨rfl, hb⟩
  have HB1 := Lib.hid (HB0.out.below (below_join hA hb))
  have HBB1 := Lib.hid (below_join HBB0.out (below_join hA hb))
  clear HC hA hb HB0 HBB0 k0
  cases q0 with
  | false =>
    have HE : Hid (true = res) := Lib.hid (by rw [← HV.out]; unfold lineB; rw [HQ0.out]; rfl)
    go_wp2_with fail
    go_ret
    exact ⟨ret_bool rfl HE.out, HBB1.out⟩
  | true =>
    have k1 := HB1.out.cell 1 rfl
    have HC := Lib.hid (pto_box 1 67108864 [x.2] (c := 1) (Box.new W1 #[.int .i64 x.2] 3) (by simp [H2.out]) (by simp))
    have hA := below_alloc (Below.refl W1.heap.size W1) (.cells #[.int .i64 x.2] 3)
    have HE : Hid ((!(inB 1 67108864 [x.2])) = res) := Lib.hid (by rw [← HV.out]; unfold lineB; rw [HQ0.out, Bool.true_and])
    obtain ⟨q1, hq1⟩ : ∃ q, inB 1 67108864 [x.2] = q := ⟨_, rfl⟩
    rw [hq1] at HE
    unfold inB at hq1
    rw [hq1] at HC
    clear hq1
    go_wp2_with fail
    refine HC.out.mono ?_
    rintro e W2 ⟨rfl, hb⟩
    go_wp2_with fail
    go_ret
    exact ⟨ret_bool rfl HE.out, below_join HBB1.out (below_join hA hb)⟩
end Go.Proofs.YtndpdbofoojkhaaGreat.Ft
/- A search over a layout's shape; param.Check whole (under way). -/
namespace Go.Proofs.YtndpdbofoojkhaaGreat.Ft
open Go.RowKit Go.Proofs.YtndpdbofoojkhaaGreat.Kit Go.Proofs.YtndpdbofoojkhaaGreat.Fo
set_option linter.unusedVariables false
set_option linter.unusedSimpArgs false

abbrev lineR : Rep (Int × Int) := Rep.seq (Rep.int .i64) (Rep.int .i64)
abbrev lineV (x : Int × Int) : Value := .agg #[.int .i64 x.1, .int .i64 x.2]
theorem line_at {w : World} {B : Nat} {A : Option Addr} {l : List (Int × Int)} (h : Row lineR w B A l) {i : Nat} {x : Int × Int} (hx : l[i]? = some x) :
    ∃ b o, A = some ⟨b, o, none⟩ ∧ b < B ∧ w.cell? ⟨b, o + i * 2, none⟩ = some (.int .i64 x.1) ∧ w.cell? ⟨b, o + i * 2 + 1, none⟩ = some (.int .i64 x.2) := by
  obtain ⟨b, o, cs, rfl, hb, ⟨c1, r1, rfl, ⟨rfl, w1⟩, rfl, w2⟩, hc⟩ := h i x hx
  exact ⟨b, o, rfl, hb, hc 0 _ rfl, hc 1 _ rfl⟩
set_option maxHeartbeats 1000000 in
theorem index_line (g : Nat) (lb : Array Value) (p : (Int × Int) → Bool) (eg : ∀ args w, (callFunc g args).run Tryz.prog w = .ok (.enter g args) w) (A : Option Addr) (c : Nat) (l : List (Int × Int)) (w : World) {B : Nat} (hB : B ≤ w.heap.size) (hx : Row lineR w B A l) (hl : l.length ≤ 9223372036854775807) (hp : AsksV g lb lineV p l w) :
    Calls Tryz.prog 73 #[.slice A l.length c, .func (.func g) #[] lb] w fun e w' => e = .returned (.int .i64 (placeV p l 0)) ∧ Below w.heap.size w w' := by
  have HP := Lib.hid hp
  clear hp
  obtain ⟨r, hr⟩ : ∃ r, Hid (placeV p l 0 = r) := ⟨_, Lib.hid rfl⟩
  rw [hr.out]
  go_enter Tryz.func73, Tryz.ntmps73
  go_wp2
  go_loopw [5, 8] (fun _ i wr => ∃ k : Nat, k ≤ l.length ∧ i = .int .i64 k ∧ Hid (placeV p l 0 = placeV p (l.drop k) k) ∧ Below w.heap.size w wr) (fun _ i _ => l.length - (intOf i).toNat)
  case atStart => exact ⟨0, by omega, rfl, Lib.hid (by simp), Below.refl _ _⟩
  case round =>
    obtain ⟨k, hk, rfl, HS, HB⟩ := hrel
    rename World => wr
    by_cases hlt : k < l.length
    · obtain ⟨x, hxk⟩ := at_lt hlt
      have HD := Lib.hid (drop_cons hxk)
      have HM := Lib.hid hxk
      obtain ⟨b, o, hA, hb, h0, h1⟩ := line_at hx hxk
      clear hxk
      subst hA
      have hc0 : wr.cell? ⟨b, o + k * 2, none⟩ = _ := (HB.cell (p := ⟨b, o + k * 2, none⟩) (show b < w.heap.size by omega)).trans h0
      have hc1 : wr.cell? ⟨b, o + k * 2 + 1, none⟩ = _ := (HB.cell (p := ⟨b, o + k * 2 + 1, none⟩) (show b < w.heap.size by omega)).trans h1
      clear h0 h1
      have hcall := HP.out wr x HB (List.mem_of_getElem? HM.out)
      cases hq : p x with
      | true =>
        rw [hq] at hcall
        have HE := Lib.hid (show placeV p l 0 = k by rw [HS.out, HD.out]; simp [placeV, hq])
        clear hq
        go_wp2_with (go_at_fn g; refine hcall.mono ?_; rintro e w' ⟨rfl, hb2⟩)
        go_ret
        exact ⟨by rw [← hr.out, HE.out]; rfl, below_join HB hb2⟩
      | false =>
        rw [hq] at hcall
        have HE := Lib.hid (show placeV p l 0 = placeV p (l.drop (k + 1)) ((k + 1 : Nat) : Int) by rw [HS.out, HD.out]; simp [placeV, hq])
        clear hq
        go_wp2_with (go_at_fn g; refine hcall.mono ?_; rintro e w' ⟨rfl, hb2⟩)
        go_roundw
        case rel => exact ⟨k + 1, by omega, by go_num, HE, below_join HB hb2⟩
        case measure => simp [intOf]; omega
    · have HE := Lib.hid (show placeV p l 0 = -1 by rw [HS.out, List.drop_eq_nil_of_le (by omega)]; rfl)
      go_wp2
      go_ret
      exact ⟨by rw [← hr.out, HE.out]; rfl, HB⟩
set_option maxHeartbeats 1000000 in
theorem contains_line (g : Nat) (lb : Array Value) (p : (Int × Int) → Bool) (eg : ∀ args w, (callFunc g args).run Tryz.prog w = .ok (.enter g args) w) (A : Option Addr) (c : Nat) (l : List (Int × Int)) (w : World) {B : Nat} (hB : B ≤ w.heap.size) (hx : Row lineR w B A l) (hl : l.length ≤ 9223372036854775807) (hp : AsksV g lb lineV p l w) :
    Calls Tryz.prog 52 #[.slice A l.length c, .func (.func g) #[] lb] w fun e w' => e = .returned (.bool (l.any p)) ∧ Below w.heap.size w w' := by
  have H := Lib.hid (index_line g lb p eg A c l w hB hx hl hp)
  have HE := Lib.hid (placeV_any p l 0 (by omega))
  clear hx hp hl
  generalize placeV p l 0 = r at *
  obtain ⟨q, hq⟩ : ∃ q, Hid (l.any p = q) := ⟨_, Lib.hid rfl⟩
  rw [hq.out]
  go_enter Tryz.func52, Tryz.ntmps52
  go_wp2_with fail
  refine H.out.mono ?_; rintro e w' ⟨rfl, hb⟩
  go_wp2
  go_ret
  exact ⟨ret_bool rfl (by rw [← hq.out, ← HE.out]), hb⟩

/-- param.Check, whole. -/
theorem lay_any (l : LayD) (A : Option Addr) (c : Nat) (w : World) {B : Nat} (hB : B ≤ w.heap.size) (hx : Row lineR w B A l.shape) (hw : LayWf l) (hs : ∀ x ∈ l.shape, (Lit.int .i64 x.1).wf = true ∧ (Lit.int .i64 x.2).wf = true) (hl : l.shape.length ≤ 9223372036854775807) :
    Calls Tryz.prog 25 #[.agg (layCells l A c)] w fun e w' => e = .returned (.bool (layB l)) ∧ Below w.heap.size w w' := by
  have e1 : ∀ args w, (callFunc 53 args).run Tryz.prog w = .ok (.enter 53 args) w := enters_of Tryz.func53 (by kernel_rfl) rfl
  refine pcheck_any l A c w hw hl (fun V hb => ?_)
  have := contains_line _ #[] (fun x => !lineB x) e1 A c l.shape V (B := B) (Nat.le_trans hB hb.size) (hx.mono (hb.mono hB)) hl (fun W x hb hx => pline_any x W (hs x hx).1 (hs x hx).2)
  rw [show l.shape.any (fun x => !lineB x) = !(l.shape.all lineB) by rw [List.not_all_eq_any_not]] at this
  exact this
end Go.Proofs.YtndpdbofoojkhaaGreat.Ft
/- Whether pieces may be (fit.may). -/
namespace Go.Proofs.YtndpdbofoojkhaaGreat.Ft
open Go.RowKit Go.Proofs.YtndpdbofoojkhaaGreat.Kit Go.Proofs.YtndpdbofoojkhaaGreat.Fo
set_option linter.unusedVariables false
set_option linter.unusedSimpArgs false

/-- Slices one behind the other: their heads. -/
def Heads (w : World) (A : Option Addr) (xs : List (List Int)) : Prop := ∀ (i : Nat) (x : List Int), xs[i]? = some x → ∃ b o A' c', A = some ⟨b, o, none⟩ ∧ b < w.heap.size ∧ w.cell? ⟨b, o + i, none⟩ = some (.slice A' x.length c')
theorem Heads.below {w W : World} {A : Option Addr} {xs : List (List Int)} (h : Heads w A xs) (hb : Below w.heap.size w W) : Heads W A xs := fun i x hx => by
  obtain ⟨b, o, A', c', e, hl, hc⟩ := h i x hx
  exact ⟨b, o, A', c', e, Nat.lt_of_lt_of_le hl hb.size, later hb hc⟩
theorem heads_row {w : World} {B : Nat} {A : Option Addr} {xs : List (List Int)} (hB : B ≤ w.heap.size) (h : Row (Rep.int .i64).slice w B A xs) : Heads w A xs := fun i x hx => by
  obtain ⟨b, o, cs, rfl, hb, ⟨A', c', rfl, h1, h2, h3⟩, hc⟩ := h i x hx
  have := hc 0 _ rfl
  rw [show (Rep.int .i64).slice.n = 1 from rfl, Nat.mul_one, Nat.add_zero] at this
  exact ⟨b, o, A', c', rfl, by omega, this⟩
def placeE : List (List Int) → Int → Int
  | [], _ => -1
  | x :: xs, k => if x.isEmpty then k else placeE xs (k + 1)
theorem placeE_any : ∀ (l : List (List Int)) (k : Int), 0 ≤ k → decide (0 ≤ placeE l k) = l.any (·.isEmpty)
  | [], k, h => by simp [placeE]
  | x :: xs, k, h => by
    unfold placeE
    cases hx : x.isEmpty with
    | true => simp [hx]; exact h
    | false => simp [hx]; have := placeE_any xs (k + 1) (by omega); simpa using this
theorem empty_eq (x : List Int) : ((x.length : Int) == 0) = x.isEmpty := by cases x with
  | nil => rfl
  | cons y x => simp; omega

set_option maxHeartbeats 1000000 in
theorem indexE_any (A : Option Addr) (c : Nat) (l : List (List Int)) (w : World) (hx : Heads w A l) (hl : l.length ≤ 9223372036854775807) :
    Calls Tryz.prog 68 #[.slice A l.length c, .func (.func 44) #[] #[]] w fun e w' => e = .returned (.int .i64 (placeE l 0)) ∧ Below w.heap.size w w' := by
  have eg : ∀ args w, (callFunc 44 args).run Tryz.prog w = .ok (.enter 44 args) w := enters_of Tryz.func44 (by kernel_rfl) rfl
  obtain ⟨r, hr⟩ : ∃ r, Hid (placeE l 0 = r) := ⟨_, Lib.hid rfl⟩
  rw [hr.out]
  have HH := Lib.hid hx
  clear hx
  go_enter Tryz.func68, Tryz.ntmps68
  go_wp2
  go_loopw [5, 8] (fun _ i wr => ∃ k : Nat, k ≤ l.length ∧ i = .int .i64 k ∧ Hid (placeE l 0 = placeE (l.drop k) k) ∧ Below w.heap.size w wr) (fun _ i _ => l.length - (intOf i).toNat)
  case atStart => exact ⟨0, by omega, rfl, Lib.hid (by simp), Below.refl _ _⟩
  case round =>
    rename World => wr
    obtain ⟨k, hk, rfl, HS, HB⟩ := hrel
    by_cases hlt : k < l.length
    · obtain ⟨x, hxk⟩ := at_lt hlt
      obtain ⟨b, o, A', c', rfl, _, hc⟩ := (HH.out.below HB) k x hxk
      have HD := Lib.hid (drop_cons hxk)
      have HC : Hid (∀ w, Calls Tryz.prog 44 #[.slice A' x.length c'] w fun e w' => e = .returned (.bool x.isEmpty) ∧ w = w') := Lib.hid fun w => by
        have := none_any A' x.length c' w
        rw [empty_eq] at this
        exact this
      clear hxk
      generalize hn : x.length = n at *
      cases hq : x.isEmpty with
      | true =>
        rw [hq] at HC
        have HE := Lib.hid (show placeE l 0 = k by rw [HS.out, HD.out]; simp [placeE, hq])
        clear hq hn
        go_wp2_with (go_at_fn 44; with_reducible refine (HC.out _).mono ?_; rintro e w' ⟨rfl, rfl⟩)
        go_ret
        exact ⟨by rw [← hr.out, HE.out]; rfl, HB⟩
      | false =>
        rw [hq] at HC
        have HE := Lib.hid (show placeE l 0 = placeE (l.drop (k + 1)) ((k + 1 : Nat) : Int) by rw [HS.out, HD.out]; simp [placeE, hq])
        clear hq hn
        go_wp2_with (go_at_fn 44; with_reducible refine (HC.out _).mono ?_; rintro e w' ⟨rfl, rfl⟩)
        go_roundw
        case rel => exact ⟨k + 1, by omega, by go_num, HE, HB⟩
        case measure => simp [intOf]; omega
    · have HE := Lib.hid (show placeE l 0 = -1 by rw [HS.out, List.drop_eq_nil_of_le (by omega)]; rfl)
      go_wp2
      go_ret
      exact ⟨by rw [← hr.out, HE.out]; rfl, HB⟩
set_option maxHeartbeats 1000000 in
theorem containsE_any (A : Option Addr) (c : Nat) (l : List (List Int)) (w : World) (hx : Heads w A l) (hl : l.length ≤ 9223372036854775807) :
    Calls Tryz.prog 45 #[.slice A l.length c, .func (.func 44) #[] #[]] w fun e w' => e = .returned (.bool (l.any (·.isEmpty))) ∧ Below w.heap.size w w' := by
  have H := Lib.hid (indexE_any A c l w hx hl)
  have HE := Lib.hid (placeE_any l 0 (by omega))
  clear hx hl
  generalize placeE l 0 = r at *
  obtain ⟨q, hq⟩ : ∃ q, Hid ((l.any (·.isEmpty)) = q) := ⟨_, Lib.hid rfl⟩
  rw [hq.out]
  go_enter Tryz.func45, Tryz.ntmps45
  go_wp2_with fail
  refine H.out.mono ?_; rintro e w' ⟨rfl, hb⟩
  go_wp2
  go_ret
  exact ⟨ret_bool rfl (by rw [← hq.out, ← HE.out]), hb⟩

/-- How many codes pieces have; whether they may be. -/
def sumP (L : List (List Int)) : Nat := (L.map List.length).sum
def mayP (L : List (List Int)) : Bool := decide (1 ≤ L.length) && decide (L.length ≤ 100) && decide (sumP L ≤ 401) && !(L.any (·.isEmpty))
theorem sumP_le (m : Nat) : ∀ L : List (List Int), (∀ x ∈ L, x.length ≤ m) → sumP L ≤ L.length * m
  | [], _ => by simp [sumP]
  | x :: L, h => by
    have h1 := h x (by simp)
    have h2 := sumP_le m L fun y hy => h y (by simp [hy])
    simp only [sumP, List.map_cons, List.sum_cons, List.length_cons] at h2 ⊢
    rw [Nat.add_mul]; omega
theorem sumP_snoc {L : List (List Int)} {k : Nat} {x : List Int} (hx : L[k]? = some x) : sumP (L.take (k + 1)) = sumP (L.take k) + x.length := by
  obtain ⟨hk, rfl⟩ := List.getElem?_eq_some_iff.1 hx
  rw [List.take_succ_eq_append_getElem hk, sumP, sumP, List.map_append, List.sum_append]
  simp
theorem sumP_take (L : List (List Int)) (k : Nat) : sumP (L.take k) ≤ sumP L := by
  have : sumP L = sumP (L.take k) + sumP (L.drop k) := by
    conv => lhs; rw [← List.take_append_drop k L]
    rw [sumP, sumP, sumP, List.map_append, List.sum_append]
  omega
set_option maxHeartbeats 1000000 in
theorem may_any (A : Option Addr) (c : Nat) (L : List (List Int)) (w : World) (hx : Heads w A L) (hl : L.length ≤ 1000) (hs : ∀ x ∈ L, x.length ≤ 1000) :
    Calls Tryz.prog 20 #[.slice A L.length c] w fun e w' => e = .returned (.bool (mayP L)) ∧ Below w.heap.size w w' := by
  have HC := Lib.hid (containsE_any A c L w hx (by omega))
  have HH := Lib.hid hx
  have HSz := Lib.hid hs
  have HT := Lib.hid (sumP_le 1000 L hs)
  clear hx hs
  obtain ⟨q, hq⟩ : ∃ q, Hid (mayP L = q) := ⟨_, Lib.hid rfl⟩
  rw [hq.out]
  go_enter Tryz.func20, Tryz.ntmps20
  go_wp2_with fail
  go_loopw [3, 9] (fun s i wr => ∃ k : Nat, k ≤ L.length ∧ s = .int .i64 (sumP (L.take k) : Nat) ∧ i = .int .i64 (k : Int) ∧ w = wr) (fun _ i _ => L.length - (intOf i).toNat)
  case atStart => exact ⟨0, by omega, rfl, rfl, rfl⟩
  case round =>
    rename World => wr
    obtain ⟨k, hk, rfl, rfl, rfl⟩ := hrel
    by_cases hlt : k < L.length
    · obtain ⟨x, hxk⟩ := at_lt hlt
      obtain ⟨b, o, A', c', rfl, _, hc⟩ := HH.out k x hxk
      have HN := Lib.hid (sumP_snoc hxk)
      have h1 := sumP_take L k
      have h2 := HT.out
      have h3 := HSz.out x (List.mem_of_getElem? hxk)
      have h4 : sumP (L.take k) ≤ 1000000 := by omega
      generalize sumP (L.take k) = s at *
      clear h1 h2 hxk
      go_wp2
      go_roundw
      case rel => exact ⟨k + 1, by omega, by rw [HN.out]; go_num, by go_num, trivial⟩
      case measure => simp [intOf]; omega
    · have HN : Hid (sumP (L.take k) = sumP L) := Lib.hid (by rw [List.take_of_length_le (by omega)])
      have h2 := HT.out
      have h4 : sumP L ≤ 1000000 := by omega
      rw [HN.out]
      have HQ : Hid (q = (decide (1 ≤ (L.length : Int)) && decide ((L.length : Int) ≤ 100) && decide ((sumP L : Int) ≤ 401) && !(L.any (·.isEmpty)))) := Lib.hid (by
        rw [← hq.out, mayP]
        have e1 : decide (1 ≤ L.length) = decide (1 ≤ (L.length : Int)) := decide_eq_decide.2 (by omega)
        have e2 : decide (L.length ≤ 100) = decide ((L.length : Int) ≤ 100) := decide_eq_decide.2 (by omega)
        have e3 : decide (sumP L ≤ 401) = decide ((sumP L : Int) ≤ 401) := decide_eq_decide.2 (by omega)
        rw [e1, e2, e3])
      clear h2
      generalize sumP L = s at *
      generalize (L.any (·.isEmpty)) = z at *
      by_cases g1 : 1 ≤ (L.length : Int)
      · rw [decide_eq_true g1] at HQ
        by_cases g2 : (L.length : Int) ≤ 100
        · rw [decide_eq_true g2] at HQ
          by_cases g3 : (s : Int) ≤ 401
          · rw [decide_eq_true g3] at HQ
            go_wp2_with fail
            with_reducible refine HC.out.mono ?_
            rintro e w' ⟨rfl, hb⟩
            go_wp2_with fail
            go_ret
            exact ⟨ret_bool rfl (by rw [HQ.out]; simp), hb⟩
          · rw [decide_eq_false g3] at HQ
            clear HC
            go_wp2_with fail
            go_ret
            exact ⟨ret_bool rfl (by rw [HQ.out]; simp), Below.refl _ _⟩
        · rw [decide_eq_false g2] at HQ
          clear HC
          go_wp2_with fail
          go_ret
          exact ⟨ret_bool rfl (by rw [HQ.out]; simp), Below.refl _ _⟩
      · rw [decide_eq_false g1] at HQ
        clear HC
        go_wp2_with fail
        go_ret
        exact ⟨ret_bool rfl (by rw [HQ.out]; simp), Below.refl _ _⟩
end Go.Proofs.YtndpdbofoojkhaaGreat.Ft
