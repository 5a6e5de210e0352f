/- Whether a step, and a font, may be. -/
import Derived.Test.YtndpdbofoojkhaaFont3
namespace Go.Proofs.Ytndpdbofoojkhaa.Fo
open Go.RowKit Go.Proofs.Ytndpdbofoojkhaa.Kit
set_option linter.unusedVariables false
set_option linter.unusedSimpArgs false

/-! ### A step -/
set_option maxHeartbeats 1000000 in
theorem step_any (s : StepT) (w : World) (h1 : (Lit.int .i64 s.1).wf = true) (h2 : (Lit.int .i64 s.2.1).wf = true) (h3 : (Lit.int .i64 s.2.2.1).wf = true) (h4 : (Lit.int .i64 s.2.2.2).wf = true) :
    Calls Try.prog 81 #[stepV s] w fun e w' => e = .returned (.bool (stepB s)) ∧ Below w.heap.size w w' := by
  obtain ⟨a, b, c, d⟩ := s
  dsimp only at h1 h2 h3 h4
  have e1 : ∀ args w, (callFunc 89 args).run Try.prog w = .ok (.enter 89 args) w := enters_of Try.func89 (by kernel_rfl) rfl
  have HW : Hid (∀ x ∈ [a, b, c, d], (Lit.int .i64 x).wf = true) := Lib.hid (by
    intro x hx
    simp only [List.mem_cons, List.not_mem_nil, or_false] at hx
    rcases hx with rfl | rfl | rfl | rfl <;> assumption)
  have HC : Hid (∀ (W : World), Calls Try.prog 46 #[.slice (some ⟨W.heap.size, 0, none⟩) 4 4, .func (.func 89) #[] #[]] (W.alloc (.cells #[.int .i64 a, .int .i64 b, .int .i64 c, .int .i64 d] 3)) fun e w' => e = .returned (.bool ([a, b, c, d].any fun n => !ofB n 256)) ∧ Below (W.alloc (.cells #[.int .i64 a, .int .i64 b, .int .i64 c, .int .i64 d] 3)).heap.size (W.alloc (.cells #[.int .i64 a, .int .i64 b, .int .i64 c, .int .i64 d] 3)) w') :=
    Lib.hid fun W => contains_any _ #[] (fun n => !ofB n 256) e1 (some ⟨W.heap.size, 0, none⟩) 4 [a, b, c, d] _ (Nat.le_refl _) (ints_new W [a, b, c, d] 3 _ HW.out rfl) (by simp) (asks_nofit _)
  clear e1 h1 h2 h3 h4 HW
  obtain ⟨res, hres⟩ : ∃ r, Hid (stepB (a, b, c, d) = r) := ⟨_, Lib.hid rfl⟩
  have HE : Hid ((!([a, b, c, d].any fun n => !ofB n 256)) = res) := Lib.hid hres.out
  rw [hres.out]
  clear hres
  generalize ([a, b, c, d].any fun n => !ofB n 256) = q at *
  go_enter Try.func81, Try.ntmps81
  go_wp2_with fail
  have HC' := HC.out (w.alloc (.cells #[.int .i64 a, .int .i64 b, .int .i64 c, .int .i64 d] 76))
  simp only [World.size_alloc] at HC'
  with_reducible refine HC'.mono ?_
  rintro e w1 ⟨rfl, hb⟩
  clear HC' HC
  generalize HW1 : ((w.alloc (.cells #[.int .i64 a, .int .i64 b, .int .i64 c, .int .i64 d] 76)).alloc (.cells #[.int .i64 a, .int .i64 b, .int .i64 c, .int .i64 d] 3)) = W1 at *
  have hb2 : Below w.heap.size w w1 := by
    refine Below.trans (b := W1) ?_ (hb.mono ?_)
    · rw [← HW1]; exact ((Below.refl _ w).alloc (Nat.le_refl _) _).alloc (by simp) _
    · omega
  clear HW1 hb
  go_wp2
  go_ret
  exact ⟨ret_bool rfl HE.out, hb2⟩

/-! ### A font in memory -/
structure FontIn (w : World) (B : Nat) (d : FontD) (a : FontA) : Prop where
  sum : (Lit.int .i64 d.sum).wf = true
  design : (Lit.int .i64 d.design).wf = true
  first : (Lit.int .i64 d.first).wf = true
  chars : Row charR w B a.c d.chars
  widths : Row (Rep.int .i64) w B a.w d.widths
  heights : Row (Rep.int .i64) w B a.h d.heights
  depths : Row (Rep.int .i64) w B a.d d.depths
  italics : Row (Rep.int .i64) w B a.i d.italics
  steps : Row stepR w B a.s d.steps
  kerns : Row (Rep.int .i64) w B a.k d.kerns
  params : Row (Rep.int .i64) w B a.p d.params
  nc : d.chars.length ≤ 9223372036854775807
  nw : d.widths.length ≤ 9223372036854775807
  nh : d.heights.length ≤ 9223372036854775807
  nd : d.depths.length ≤ 9223372036854775807
  ni : d.italics.length ≤ 9223372036854775807
  ns : d.steps.length ≤ 9223372036854775807
  nk : d.kerns.length ≤ 9223372036854775807
  np : d.params.length ≤ 9223372036854775807
theorem FontIn.mono {w w' : World} {B : Nat} {d : FontD} {a : FontA} (h : FontIn w B d a) (hb : Below B w w') : FontIn w' B d a :=
  ⟨h.sum, h.design, h.first, h.chars.mono hb, h.widths.mono hb, h.heights.mono hb, h.depths.mono hb, h.italics.mono hb, h.steps.mono hb, h.kerns.mono hb, h.params.mono hb, h.nc, h.nw, h.nh, h.nd, h.ni, h.ns, h.nk, h.np⟩
theorem FontIn.up {w : World} {B B' : Nat} {d : FontD} {a : FontA} (h : FontIn w B d a) (hb : B ≤ B') : FontIn w B' d a :=
  ⟨h.sum, h.design, h.first, h.chars.up hb, h.widths.up hb, h.heights.up hb, h.depths.up hb, h.italics.up hb, h.steps.up hb, h.kerns.up hb, h.params.up hb, h.nc, h.nw, h.nh, h.nd, h.ni, h.ns, h.nk, h.np⟩
theorem font_cells {w : World} {g : Nat} {d : FontD} {a : FontA} {t : TypeId} (h : Box w g (fontCells d a) t) :
    w.cell? ⟨g, 0, none⟩ = some (.int .i64 d.sum) ∧ w.cell? ⟨g, 1, none⟩ = some (.int .i64 d.design) ∧ w.cell? ⟨g, 2, none⟩ = some (.int .i64 d.first) ∧ w.cell? ⟨g, 3, none⟩ = some (.slice a.c d.chars.length a.cc) ∧ w.cell? ⟨g, 4, none⟩ = some (.slice a.w d.widths.length a.cw) ∧ w.cell? ⟨g, 5, none⟩ = some (.slice a.h d.heights.length a.ch) ∧
    w.cell? ⟨g, 6, none⟩ = some (.slice a.d d.depths.length a.cd) ∧ w.cell? ⟨g, 7, none⟩ = some (.slice a.i d.italics.length a.ci) ∧ w.cell? ⟨g, 8, none⟩ = some (.slice a.s d.steps.length a.cs) ∧ w.cell? ⟨g, 9, none⟩ = some (.slice a.k d.kerns.length a.ck) ∧ w.cell? ⟨g, 10, none⟩ = some (.slice a.p d.params.length a.cp) :=
  ⟨h.cell 0 rfl, h.cell 1 rfl, h.cell 2 rfl, h.cell 3 rfl, h.cell 4 rfl, h.cell 5 rfl, h.cell 6 rfl, h.cell 7 rfl, h.cell 8 rfl, h.cell 9 rfl, h.cell 10 rfl⟩

/-- A character that may not be, asked of a font in a box. -/
theorem nochar_any (d : FontD) (a : FontA) (c : CharT) (g : Nat) (w : World) (hbx : Box w g (fontCells d a) 26) :
    Calls Try.prog 77 #[charV c, .pointer (some ⟨g, 0, none⟩)] w fun e w' => e = .returned (.bool (!charB d c)) ∧ Below w.heap.size w w' := by
  have H := Lib.hid (char_any d a c (w.alloc (.cells #[.int .i64 c.1, .int .i64 c.2.1, .int .i64 c.2.2.1, .int .i64 c.2.2.2.1, .int .i64 c.2.2.2.2.1, .int .i64 c.2.2.2.2.2] 78)))
  generalize charB d c = q at *
  obtain ⟨c0, c1, c2, c3, c4, c5, c6, c7, c8, c9, c10⟩ := font_cells (hbx.alloc (.cells #[.int .i64 c.1, .int .i64 c.2.1, .int .i64 c.2.2.1, .int .i64 c.2.2.2.1, .int .i64 c.2.2.2.2.1, .int .i64 c.2.2.2.2.2] 78))
  clear hbx
  go_enter Try.func77, Try.ntmps77
  go_wp2_with fail
  with_reducible refine H.out.mono ?_; rintro e w1 ⟨rfl, hb⟩
  have hb2 := ((Below.refl _ w).alloc (Nat.le_refl _) (.cells #[.int .i64 c.1, .int .i64 c.2.1, .int .i64 c.2.2.1, .int .i64 c.2.2.2.1, .int .i64 c.2.2.2.2.1, .int .i64 c.2.2.2.2.2] 78)).trans (hb.mono (by simp))
  clear hb c0 c1 c2 c3 c4 c5 c6 c7 c8 c9 c10 H
  go_wp2
  go_ret
  exact ⟨rfl, hb2⟩
theorem nostep_any (s : StepT) (w : World) (h1 : (Lit.int .i64 s.1).wf = true) (h2 : (Lit.int .i64 s.2.1).wf = true) (h3 : (Lit.int .i64 s.2.2.1).wf = true) (h4 : (Lit.int .i64 s.2.2.2).wf = true) :
    Calls Try.prog 80 #[stepV s] w fun e w' => e = .returned (.bool (!stepB s)) ∧ Below w.heap.size w w' := by
  have H := Lib.hid (step_any s (w.alloc (.cells #[.int .i64 s.1, .int .i64 s.2.1, .int .i64 s.2.2.1, .int .i64 s.2.2.2] 76)) h1 h2 h3 h4)
  generalize stepB s = q at *
  go_enter Try.func80, Try.ntmps80
  go_wp2_with fail
  with_reducible refine H.out.mono ?_; rintro e w1 ⟨rfl, hb⟩
  have hb2 := ((Below.refl _ w).alloc (Nat.le_refl _) (.cells #[.int .i64 s.1, .int .i64 s.2.1, .int .i64 s.2.2.1, .int .i64 s.2.2.2] 76)).trans (hb.mono (by simp))
  clear hb H
  go_wp2
  go_ret
  exact ⟨rfl, hb2⟩
end Go.Proofs.Ytndpdbofoojkhaa.Fo
