/- The calls at the head of all statements of layer 1 answer what the document fixes. -/
import Derived.Test.YthoffhokfcgkoaaScaledSums
namespace Go.Proofs.Ythoffhokfcgkoaa.Scaled
open Go.RowKit Go.Proofs.Ythoffhokfcgkoaa.Kit
set_option linter.unusedVariables false

theorem addc (a b v e0 : Int) (w : World) (hv : sV a b (a + b) = v) (he : sE a b (a + b) = e0) :
    Calls Try.prog 9 #[.int .i64 a, .int .i64 b] w fun e w' => e = .returned (.tuple #[.int .i64 v, .int .i64 e0]) ∧ w = w' := by
  subst hv; subst he; exact add_any a b w
theorem subc (a b v e0 : Int) (w : World) (hv : sV a b (a - b) = v) (he : sE a b (a - b) = e0) :
    Calls Try.prog 11 #[.int .i64 a, .int .i64 b] w fun e w' => e = .returned (.tuple #[.int .i64 v, .int .i64 e0]) ∧ w = w' := by
  subst hv; subst he; exact sub_any a b w
theorem timesc (a b v e0 : Int) (w : World) (hv : sV a b (a * b) = v) (he : sE a b (a * b) = e0) :
    Calls Try.prog 13 #[.int .i64 a, .int .i64 b] w fun e w' => e = .returned (.tuple #[.int .i64 v, .int .i64 e0]) ∧ w = w' := by
  subst hv; subst he; exact times_any a b w
theorem checkc (a : Int) (v : Bool) (w : World) (hv : dim a = v) :
    Calls Try.prog 15 #[.int .i64 a] w fun e w' => e = .returned (.bool v) ∧ w = w' := by
  subst hv; exact check_any a w
theorem sumc (w : World) : Calls Try.prog 17 #[.slice (some ⟨w.heap.size, 0, none⟩) 3 3] (w.alloc (.cells #[.int .i64 1, .int .i64 2, .int .i64 3] 3)) fun e w' => e = .returned (.tuple #[.int .i64 6, .int .i64 0]) ∧ w.alloc (.cells #[.int .i64 1, .int .i64 2, .int .i64 3] 3) = w' :=
  sum_any (some ⟨w.heap.size, 0, none⟩) 3 [1, 2, 3] _ (ints_new _ _ _ _ (by decide) rfl) (by decide)

set_option maxHeartbeats 1000000 in
theorem awake_any (w : World) : Calls Try.prog 8 #[] w fun e w' => e = .returned (.bool true) ∧ Below w.heap.size w w' := by
  go_enter Try.func8, Try.ntmps8
  go_wp2_with fail
  refine (addc 3 4 7 0 _ (by decide) (by decide)).mono ?_; rintro e w' ⟨rfl, rfl⟩
  go_wp2_with fail
  refine (subc 3 4 (-1) 0 _ (by decide) (by decide)).mono ?_; rintro e w' ⟨rfl, rfl⟩
  go_wp2_with fail
  refine (timesc 3 4 12 0 _ (by decide) (by decide)).mono ?_; rintro e w' ⟨rfl, rfl⟩
  go_wp2_with fail
  refine (sumc _).mono ?_; rintro e w' ⟨rfl, rfl⟩
  go_wp2_with fail
  refine (addc 1073741823 1 0 10 _ (by decide) (by decide)).mono ?_; rintro e w' ⟨rfl, rfl⟩
  go_wp2_with fail
  refine (timesc 1073741823 2 0 10 _ (by decide) (by decide)).mono ?_; rintro e w' ⟨rfl, rfl⟩
  go_wp2_with fail
  refine (checkc (-1073741823) true _ (by decide)).mono ?_; rintro e w' ⟨rfl, rfl⟩
  go_wp2_with fail
  refine (checkc 1073741824 false _ (by decide)).mono ?_; rintro e w' ⟨rfl, rfl⟩
  go_wp2_with fail
  go_ret
  exact ⟨rfl, (Below.refl _ _).alloc (Nat.le_refl _) _⟩

end Go.Proofs.Ythoffhokfcgkoaa.Scaled
