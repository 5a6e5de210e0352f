/- Whether a line of a shape may be: the walk of param.Check$1; the search over a shape. -/
import Derived.Test.YtndpdbofoojkhaaFit2
namespace Go.Proofs.Ytndpdbofoojkhaa.Ft
open Go.RowKit Go.Proofs.Ytndpdbofoojkhaa.Kit Go.Proofs.Ytndpdbofoojkhaa.Fo
set_option linter.unusedVariables false
set_option linter.unusedSimpArgs false

def lineB (x : Int × Int) : Bool := inB 0 67108864 [x.1] && inB 1 67108864 [x.2]
set_option maxHeartbeats 1000000 in
theorem pline_any (x : Int × Int) (w : World) (h1 : (Lit.int .i64 x.1).wf = true) (h2 : (Lit.int .i64 x.2).wf = true) :
    Calls Try.prog 36 #[.agg #[.int .i64 x.1, .int .i64 x.2]] w fun e w' => e = .returned (.bool (!lineB x)) ∧ Below w.heap.size w w' := by
  have hb0 := Box.new w #[.int .i64 x.1, .int .i64 x.2] 74
  have bb0 := below_alloc (Below.refl w.heap.size w) (.cells #[.int .i64 x.1, .int .i64 x.2] 74)
  obtain ⟨W0, hW⟩ : ∃ W, w.alloc (.cells #[.int .i64 x.1, .int .i64 x.2] 74) = W := ⟨_, rfl⟩
  rw [hW] at hb0 bb0
  have k0 := hb0.cell 0 rfl
  have HB0 := Lib.hid hb0
  have HBB0 := Lib.hid bb0
  have HC := Lib.hid (pto_box 0 67108864 [x.1] (c := 1) (Box.new W0 #[.int .i64 x.1] 3) (by simp [h1]) (by simp))
  have hA := below_alloc (Below.refl W0.heap.size W0) (.cells #[.int .i64 x.1] 3)
  obtain ⟨res, hres⟩ : ∃ r, Hid ((!lineB x) = r) := ⟨_, Lib.hid rfl⟩
  rw [hres.out]
  have HV : Hid ((!lineB x) = res) := Lib.hid hres.out
  obtain ⟨q0, hq0⟩ : ∃ q, inB 0 67108864 [x.1] = q := ⟨_, rfl⟩
  have HQ0 := Lib.hid hq0
  unfold inB at hq0
  rw [hq0] at HC
  have H2 := Lib.hid h2
  clear hq0 hres h1 h2 hb0 bb0
  go_enter Try.func36, Try.ntmps36
  go_wp2_with fail
  refine HC.out.mono ?_
  rintro e W1 ⟨rfl, hb⟩
  have HB1 := Lib.hid (HB0.out.below (below_join hA hb))
  have HBB1 := Lib.hid (below_join HBB0.out (below_join hA hb))
  clear HC hA hb HB0 HBB0 k0
  cases q0 with
  | false =>
    have HE : Hid (true = res) := Lib.hid (by rw [← HV.out]; unfold lineB; rw [HQ0.out]; rfl)
    go_wp2_with fail
    go_ret
    exact ⟨ret_bool rfl HE.out, HBB1.out⟩
  | true =>
    have k1 := HB1.out.cell 1 rfl
    have HC := Lib.hid (pto_box 1 67108864 [x.2] (c := 1) (Box.new W1 #[.int .i64 x.2] 3) (by simp [H2.out]) (by simp))
    have hA := below_alloc (Below.refl W1.heap.size W1) (.cells #[.int .i64 x.2] 3)
    have HE : Hid ((!(inB 1 67108864 [x.2])) = res) := Lib.hid (by rw [← HV.out]; unfold lineB; rw [HQ0.out, Bool.true_and])
    obtain ⟨q1, hq1⟩ : ∃ q, inB 1 67108864 [x.2] = q := ⟨_, rfl⟩
    rw [hq1] at HE
    unfold inB at hq1
    rw [hq1] at HC
    clear hq1
    go_wp2_with fail
    refine HC.out.mono ?_
    rintro e W2 ⟨rfl, hb⟩
    go_wp2_with fail
    go_ret
    exact ⟨ret_bool rfl HE.out, below_join HBB1.out (below_join hA hb)⟩
end Go.Proofs.Ytndpdbofoojkhaa.Ft
