/- A font's characters and steps: whether each may be. -/
import Derived.Test.YtndpdbofoojkhaaFont1
namespace Go.Proofs.Ytndpdbofoojkhaa.Fo
open Go.RowKit Go.Proofs.Ytndpdbofoojkhaa.Kit
set_option linter.unusedVariables false
set_option linter.unusedSimpArgs false

/-- Where a font's lists lie, and their capacities. -/
structure FontA where
  c : Option Addr
  w : Option Addr
  h : Option Addr
  d : Option Addr
  i : Option Addr
  s : Option Addr
  k : Option Addr
  p : Option Addr
  cc : Nat
  cw : Nat
  ch : Nat
  cd : Nat
  ci : Nat
  cs : Nat
  ck : Nat
  cp : Nat
abbrev fontV (d : FontD) (a : FontA) : Value := .agg #[.int .i64 d.sum, .int .i64 d.design, .int .i64 d.first, .slice a.c d.chars.length a.cc, .slice a.w d.widths.length a.cw, .slice a.h d.heights.length a.ch, .slice a.d d.depths.length a.cd, .slice a.i d.italics.length a.ci, .slice a.s d.steps.length a.cs, .slice a.k d.kerns.length a.ck, .slice a.p d.params.length a.cp]
abbrev fontCells (d : FontD) (a : FontA) : Array Value := #[.int .i64 d.sum, .int .i64 d.design, .int .i64 d.first, .slice a.c d.chars.length a.cc, .slice a.w d.widths.length a.cw, .slice a.h d.heights.length a.ch, .slice a.d d.depths.length a.cd, .slice a.i d.italics.length a.ci, .slice a.s d.steps.length a.cs, .slice a.k d.kerns.length a.ck, .slice a.p d.params.length a.cp]

set_option maxHeartbeats 1000000 in
theorem char_any (d : FontD) (a : FontA) (c : CharT) (w : World) :
    Calls Try.prog 78 #[fontV d a, charV c] w fun e w' => e = .returned (.bool (charB d c)) ∧ Below w.heap.size w w' := by
  obtain ⟨res, hres⟩ : ∃ r, Hid (charB d c = r) := ⟨_, Lib.hid rfl⟩
  rw [hres.out]
  have hres' := hres.out
  clear hres
  unfold charB tagB at hres'
  obtain ⟨n0, n1, n2, n3, n4, n5⟩ := c
  dsimp only at hres'
  have O0 : Hid (∀ w, _) := Lib.hid (of_any n5 d.steps.length)
  have O1 : Hid (∀ w, _) := Lib.hid (of_any n0 d.widths.length)
  have O2 : Hid (∀ w, _) := Lib.hid (of_any n1 d.heights.length)
  have O3 : Hid (∀ w, _) := Lib.hid (of_any n2 d.depths.length)
  have O4 : Hid (∀ w, _) := Lib.hid (of_any n3 d.italics.length)
  generalize ofB n5 d.steps.length = q0 at *
  generalize ofB n0 d.widths.length = q1 at *
  generalize ofB n1 d.heights.length = q2 at *
  generalize ofB n2 d.depths.length = q3 at *
  generalize ofB n3 d.italics.length = q4 at *
  have T : ((n4 == 0) = true ∧ (n5 == 0) = true) ∨ ((n4 == 0) = true ∧ (n5 == 0) = false ∧ (n4 == 1) = false) ∨ ((n4 == 0) = false ∧ (n4 == 1) = true) ∨ ((n4 == 0) = false ∧ (n4 == 1) = false) := by
    simp only [beq_iff_eq, beq_eq_false_iff_ne]; omega
  rcases T with ⟨F1, F2⟩ | ⟨F1, F2, F3⟩ | ⟨F1, F3⟩ | ⟨F1, F3⟩
  case' inr.inr.inl => cases q0
  case' inl | inr.inr.inl.true => (cases q1; rotate_left; cases q2; rotate_left; cases q3; rotate_left; cases q4)
  all_goals (
    have HE := Lib.hid hres'
    clear hres'
    go_enter Try.func78, Try.ntmps78
    go_wp2_with fail
    repeat ((first | with_reducible refine (O0.out _).mono ?_ | with_reducible refine (O1.out _).mono ?_ | with_reducible refine (O2.out _).mono ?_ | with_reducible refine (O3.out _).mono ?_ | with_reducible refine (O4.out _).mono ?_); rintro e w1 ⟨rfl, rfl⟩; go_wp2_with fail)
    go_ret
    refine ⟨ret_bool rfl ?_, ((Below.refl _ w).alloc (Nat.le_refl _) _).alloc (by simp) _⟩
    have HE' := HE.out
    simp only [beq_iff_eq, beq_eq_false_iff_ne] at *
    simp_all)
end Go.Proofs.Ytndpdbofoojkhaa.Fo
