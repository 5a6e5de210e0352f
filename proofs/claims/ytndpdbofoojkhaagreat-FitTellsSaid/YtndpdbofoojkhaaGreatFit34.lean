/- The reference: a line's class, a number without its sign, and whether one level is better. -/
import Derived.Test.YtndpdbofoojkhaaGreatFit33
import Derived.Test.YtndpdbofoojkhaaGreatBadRef3
namespace Go.Proofs.YtndpdbofoojkhaaGreat.Ft
open Go.RowKit Go.Proofs.YtndpdbofoojkhaaGreat.Kit Go.Proofs.YtndpdbofoojkhaaGreat.Fo Go.Proofs.YtndpdbofoojkhaaGreat.Lv
set_option linter.unusedVariables false
set_option linter.unusedSimpArgs false

theorem reffit_any (b : Int) (s : Bool) (w : World) :
    Calls Tryz.prog 88 #[.int .i64 b, .bool s] w fun e w' => e = .returned (.int .i64 (fitP b s)) ∧ w = w' := by
  by_cases h1 : b ≤ 12
  · rw [show fitP b s = 1 by simp [fitP, h1]]
    go_enter Tryz.func88, Tryz.ntmps88
    go_wp2
    go_ret
    exact ⟨rfl, rfl⟩
  cases s with
  | true =>
    rw [show fitP b true = 0 by simp [fitP, h1]]
    go_enter Tryz.func88, Tryz.ntmps88
    go_wp2
    go_ret
    exact ⟨rfl, rfl⟩
  | false =>
    by_cases h2 : b ≤ 99
    · rw [show fitP b false = 2 by simp [fitP, h1, h2]]
      go_enter Tryz.func88, Tryz.ntmps88
      go_wp2
      go_ret
      exact ⟨rfl, rfl⟩
    · rw [show fitP b false = 3 by simp [fitP, h1, h2]]
      go_enter Tryz.func88, Tryz.ntmps88
      go_wp2
      go_ret
      exact ⟨rfl, rfl⟩
theorem size18_any (n D : Int) (hD : sizeI n = D) (hn : (Lit.int .i64 n).wf = true) (w : World) : Calls Tryz.prog 89 #[.int .i64 n] w fun e w' => e = .returned (.int .i64 D) ∧ w = w' := by
  obtain ⟨i1, i2⟩ := i64_of hn
  clear hn
  subst hD
  go_enter Tryz.func89, Tryz.ntmps89
  go_wp2_with fail
  go_ret
  exact ⟨ret_int rfl (by simp [sizeI]), rfl⟩
theorem better_split (x y : FitD) : betterP x y = if x.unset != y.unset then !x.unset else if sizeI x.defect != sizeI y.defect then decide (sizeI x.defect < sizeI y.defect) else if x.bad != y.bad then decide (x.bad < y.bad) else if sizeI x.level != sizeI y.level then decide (sizeI x.level < sizeI y.level) else decide (y.level < x.level) := by
  unfold betterP pairsF
  simp only [firstDiff]
  cases hx : x.unset <;> cases hy : y.unset <;> simp [flagI] <;> (repeat' split) <;> simp_all
set_option maxHeartbeats 4000000 in
theorem bt1 (x y : FitD) (w : World) (w1 : (Lit.int .i64 x.defect).wf = true ∧ (Lit.int .i64 y.defect).wf = true ∧ (Lit.int .i64 x.level).wf = true ∧ (Lit.int .i64 y.level).wf = true) (D1 D2 L1 L2 : Int) (hD1 : sizeI x.defect = D1) (hD2 : sizeI y.defect = D2) (hL1 : sizeI x.level = L1) (hL2 : sizeI y.level = L2) (u : Bool) (hu : x.unset = u) (hv : y.unset = (!u)) :
    Calls Tryz.prog 63 #[fitV x, fitV y] w fun e w' => e = .returned (.bool (!u)) ∧ Below w.heap.size w w' := by
  have HSa := Lib.hid (size18_any x.defect D1 hD1 w1.1)
  have HSb := Lib.hid (size18_any y.defect D2 hD2 w1.2.1)
  have HSc := Lib.hid (size18_any x.level L1 hL1 w1.2.2.1)
  have HSd := Lib.hid (size18_any y.level L2 hL2 w1.2.2.2)
  clear hD1 hD2 hL1 hL2 w1
  have hbx := (Box.new w (fitB x) 46).alloc (.cells (fitB y) 46)
  have hby := Box.new (w.alloc (.cells (fitB x) 46)) (fitB y) 46
  have hbw := below_alloc (below_alloc (Below.refl w.heap.size w) (.cells (fitB x) 46)) (.cells (fitB y) 46)
  simp only [World.size_alloc] at hby
  obtain ⟨W1, hW⟩ : ∃ W1, (w.alloc (.cells (fitB x) 46)).alloc (.cells (fitB y) 46) = W1 := ⟨_, rfl⟩
  rw [hW] at hbx hby hbw
  have HB := Lib.hid hbw
  have z0 : W1.cell? ⟨w.heap.size, 0, none⟩ = some (.int .i64 x.level) := hbx.cell 0 rfl
  have z1 : W1.cell? ⟨w.heap.size, 4, none⟩ = some (.int .i64 x.bad) := hbx.cell 4 rfl
  have z2 : W1.cell? ⟨w.heap.size, 6, none⟩ = some (.bool u) := by rw [← hu]; exact hbx.cell 6 rfl
  have z3 : W1.cell? ⟨w.heap.size, 7, none⟩ = some (.int .i64 x.defect) := hbx.cell 7 rfl
  have z4 : W1.cell? ⟨w.heap.size + 1, 0, none⟩ = some (.int .i64 y.level) := hby.cell 0 rfl
  have z5 : W1.cell? ⟨w.heap.size + 1, 4, none⟩ = some (.int .i64 y.bad) := hby.cell 4 rfl
  have z6 : W1.cell? ⟨w.heap.size + 1, 6, none⟩ = some (.bool (!u)) := by rw [← hv]; exact hby.cell 6 rfl
  have z7 : W1.cell? ⟨w.heap.size + 1, 7, none⟩ = some (.int .i64 y.defect) := hby.cell 7 rfl
  have HKe : Hid (∀ w', Below W1.heap.size W1 w' → Below W1.heap.size W1 w' ∧ w'.cell? ⟨w.heap.size, 0, none⟩ = some (.int .i64 x.level) ∧ w'.cell? ⟨w.heap.size, 4, none⟩ = some (.int .i64 x.bad) ∧ w'.cell? ⟨w.heap.size, 6, none⟩ = some (.bool u) ∧ w'.cell? ⟨w.heap.size, 7, none⟩ = some (.int .i64 x.defect) ∧ w'.cell? ⟨w.heap.size + 1, 0, none⟩ = some (.int .i64 y.level) ∧ w'.cell? ⟨w.heap.size + 1, 4, none⟩ = some (.int .i64 y.bad) ∧ w'.cell? ⟨w.heap.size + 1, 6, none⟩ = some (.bool (!u)) ∧ w'.cell? ⟨w.heap.size + 1, 7, none⟩ = some (.int .i64 y.defect)) := Lib.hid fun w' hb => ⟨hb, later hb z0, later hb z1, later hb z2, later hb z3, later hb z4, later hb z5, later hb z6, later hb z7⟩
  clear hbx hby hbw hu hv
  cases u
  all_goals (
    go_enter Tryz.func63, Tryz.ntmps63
    go_wp2_with fail
    go_ret
    exact ⟨rfl, HB.out⟩)
set_option maxHeartbeats 4000000 in
theorem bt2 (x y : FitD) (w : World) (w1 : (Lit.int .i64 x.defect).wf = true ∧ (Lit.int .i64 y.defect).wf = true ∧ (Lit.int .i64 x.level).wf = true ∧ (Lit.int .i64 y.level).wf = true) (D1 D2 L1 L2 : Int) (hD1 : sizeI x.defect = D1) (hD2 : sizeI y.defect = D2) (hL1 : sizeI x.level = L1) (hL2 : sizeI y.level = L2) (u : Bool) (hu : x.unset = u) (hv : y.unset = u) (F1 : (D1 != D2) = true) :
    Calls Tryz.prog 63 #[fitV x, fitV y] w fun e w' => e = .returned (.bool (decide (D1 < D2))) ∧ Below w.heap.size w w' := by
  have HSa := Lib.hid (size18_any x.defect D1 hD1 w1.1)
  have HSb := Lib.hid (size18_any y.defect D2 hD2 w1.2.1)
  have HSc := Lib.hid (size18_any x.level L1 hL1 w1.2.2.1)
  have HSd := Lib.hid (size18_any y.level L2 hL2 w1.2.2.2)
  clear hD1 hD2 hL1 hL2 w1
  have hbx := (Box.new w (fitB x) 46).alloc (.cells (fitB y) 46)
  have hby := Box.new (w.alloc (.cells (fitB x) 46)) (fitB y) 46
  have hbw := below_alloc (below_alloc (Below.refl w.heap.size w) (.cells (fitB x) 46)) (.cells (fitB y) 46)
  simp only [World.size_alloc] at hby
  obtain ⟨W1, hW⟩ : ∃ W1, (w.alloc (.cells (fitB x) 46)).alloc (.cells (fitB y) 46) = W1 := ⟨_, rfl⟩
  rw [hW] at hbx hby hbw
  have HB := Lib.hid hbw
  have z0 : W1.cell? ⟨w.heap.size, 0, none⟩ = some (.int .i64 x.level) := hbx.cell 0 rfl
  have z1 : W1.cell? ⟨w.heap.size, 4, none⟩ = some (.int .i64 x.bad) := hbx.cell 4 rfl
  have z2 : W1.cell? ⟨w.heap.size, 6, none⟩ = some (.bool u) := by rw [← hu]; exact hbx.cell 6 rfl
  have z3 : W1.cell? ⟨w.heap.size, 7, none⟩ = some (.int .i64 x.defect) := hbx.cell 7 rfl
  have z4 : W1.cell? ⟨w.heap.size + 1, 0, none⟩ = some (.int .i64 y.level) := hby.cell 0 rfl
  have z5 : W1.cell? ⟨w.heap.size + 1, 4, none⟩ = some (.int .i64 y.bad) := hby.cell 4 rfl
  have z6 : W1.cell? ⟨w.heap.size + 1, 6, none⟩ = some (.bool u) := by rw [← hv]; exact hby.cell 6 rfl
  have z7 : W1.cell? ⟨w.heap.size + 1, 7, none⟩ = some (.int .i64 y.defect) := hby.cell 7 rfl
  have HKe : Hid (∀ w', Below W1.heap.size W1 w' → Below W1.heap.size W1 w' ∧ w'.cell? ⟨w.heap.size, 0, none⟩ = some (.int .i64 x.level) ∧ w'.cell? ⟨w.heap.size, 4, none⟩ = some (.int .i64 x.bad) ∧ w'.cell? ⟨w.heap.size, 6, none⟩ = some (.bool u) ∧ w'.cell? ⟨w.heap.size, 7, none⟩ = some (.int .i64 x.defect) ∧ w'.cell? ⟨w.heap.size + 1, 0, none⟩ = some (.int .i64 y.level) ∧ w'.cell? ⟨w.heap.size + 1, 4, none⟩ = some (.int .i64 y.bad) ∧ w'.cell? ⟨w.heap.size + 1, 6, none⟩ = some (.bool u) ∧ w'.cell? ⟨w.heap.size + 1, 7, none⟩ = some (.int .i64 y.defect)) := Lib.hid fun w' hb => ⟨hb, later hb z0, later hb z1, later hb z2, later hb z3, later hb z4, later hb z5, later hb z6, later hb z7⟩
  clear hbx hby hbw hu hv
  go_enter Tryz.func63, Tryz.ntmps63
  go_upto_region 3 with fail
  go_region_held3 (fun w' => Below W1.heap.size W1 w' ∧ w'.cell? ⟨w.heap.size, 0, none⟩ = some (.int .i64 x.level) ∧ w'.cell? ⟨w.heap.size, 4, none⟩ = some (.int .i64 x.bad) ∧ w'.cell? ⟨w.heap.size, 6, none⟩ = some (.bool u) ∧ w'.cell? ⟨w.heap.size, 7, none⟩ = some (.int .i64 x.defect) ∧ w'.cell? ⟨w.heap.size + 1, 0, none⟩ = some (.int .i64 y.level) ∧ w'.cell? ⟨w.heap.size + 1, 4, none⟩ = some (.int .i64 y.bad) ∧ w'.cell? ⟨w.heap.size + 1, 6, none⟩ = some (.bool u) ∧ w'.cell? ⟨w.heap.size + 1, 7, none⟩ = some (.int .i64 y.defect))
    (first | exact HKe.out _ (by repeat (first | (with_reducible exact Below.refl _ _) | (with_reducible apply below_drew) | exact (‹Below W1.heap.size W1 _ ∧ _›.1))))
    (first
      | (go_at_call 89; with_reducible refine (HSa.out _).mono ?_; rintro e wq ⟨rfl, rfl⟩)
      | (go_at_call 89; with_reducible refine (HSb.out _).mono ?_; rintro e wq ⟨rfl, rfl⟩))
  clear hW
  all_goals (
    go_upto_region 4 with fail
    go_region_held3 (fun w' => Below W1.heap.size W1 w' ∧ w'.cell? ⟨w.heap.size, 0, none⟩ = some (.int .i64 x.level) ∧ w'.cell? ⟨w.heap.size, 4, none⟩ = some (.int .i64 x.bad) ∧ w'.cell? ⟨w.heap.size, 6, none⟩ = some (.bool u) ∧ w'.cell? ⟨w.heap.size, 7, none⟩ = some (.int .i64 x.defect) ∧ w'.cell? ⟨w.heap.size + 1, 0, none⟩ = some (.int .i64 y.level) ∧ w'.cell? ⟨w.heap.size + 1, 4, none⟩ = some (.int .i64 y.bad) ∧ w'.cell? ⟨w.heap.size + 1, 6, none⟩ = some (.bool u) ∧ w'.cell? ⟨w.heap.size + 1, 7, none⟩ = some (.int .i64 y.defect))
      (first | exact HKe.out _ (by repeat (first | (with_reducible exact Below.refl _ _) | (with_reducible apply below_drew) | exact (‹Below W1.heap.size W1 _ ∧ _›.1))))
      (first
      | (go_at_call 89; with_reducible refine (HSa.out _).mono ?_; rintro e wq ⟨rfl, rfl⟩)
      | (go_at_call 89; with_reducible refine (HSb.out _).mono ?_; rintro e wq ⟨rfl, rfl⟩)))
  all_goals
    have hend := below_join HB.out ‹Below W1.heap.size W1 _ ∧ _›.1
    go_wp2_with fail
    go_ret
    exact ⟨rfl, hend⟩
set_option maxHeartbeats 4000000 in
theorem bt3 (x y : FitD) (w : World) (w1 : (Lit.int .i64 x.defect).wf = true ∧ (Lit.int .i64 y.defect).wf = true ∧ (Lit.int .i64 x.level).wf = true ∧ (Lit.int .i64 y.level).wf = true) (D1 D2 L1 L2 : Int) (hD1 : sizeI x.defect = D1) (hD2 : sizeI y.defect = D2) (hL1 : sizeI x.level = L1) (hL2 : sizeI y.level = L2) (u : Bool) (hu : x.unset = u) (hv : y.unset = u) (F1 : (D1 != D2) = false) (F2 : (x.bad != y.bad) = true) :
    Calls Tryz.prog 63 #[fitV x, fitV y] w fun e w' => e = .returned (.bool (decide (x.bad < y.bad))) ∧ Below w.heap.size w w' := by
  have HSa := Lib.hid (size18_any x.defect D1 hD1 w1.1)
  have HSb := Lib.hid (size18_any y.defect D2 hD2 w1.2.1)
  have HSc := Lib.hid (size18_any x.level L1 hL1 w1.2.2.1)
  have HSd := Lib.hid (size18_any y.level L2 hL2 w1.2.2.2)
  clear hD1 hD2 hL1 hL2 w1
  have hbx := (Box.new w (fitB x) 46).alloc (.cells (fitB y) 46)
  have hby := Box.new (w.alloc (.cells (fitB x) 46)) (fitB y) 46
  have hbw := below_alloc (below_alloc (Below.refl w.heap.size w) (.cells (fitB x) 46)) (.cells (fitB y) 46)
  simp only [World.size_alloc] at hby
  obtain ⟨W1, hW⟩ : ∃ W1, (w.alloc (.cells (fitB x) 46)).alloc (.cells (fitB y) 46) = W1 := ⟨_, rfl⟩
  rw [hW] at hbx hby hbw
  have HB := Lib.hid hbw
  have z0 : W1.cell? ⟨w.heap.size, 0, none⟩ = some (.int .i64 x.level) := hbx.cell 0 rfl
  have z1 : W1.cell? ⟨w.heap.size, 4, none⟩ = some (.int .i64 x.bad) := hbx.cell 4 rfl
  have z2 : W1.cell? ⟨w.heap.size, 6, none⟩ = some (.bool u) := by rw [← hu]; exact hbx.cell 6 rfl
  have z3 : W1.cell? ⟨w.heap.size, 7, none⟩ = some (.int .i64 x.defect) := hbx.cell 7 rfl
  have z4 : W1.cell? ⟨w.heap.size + 1, 0, none⟩ = some (.int .i64 y.level) := hby.cell 0 rfl
  have z5 : W1.cell? ⟨w.heap.size + 1, 4, none⟩ = some (.int .i64 y.bad) := hby.cell 4 rfl
  have z6 : W1.cell? ⟨w.heap.size + 1, 6, none⟩ = some (.bool u) := by rw [← hv]; exact hby.cell 6 rfl
  have z7 : W1.cell? ⟨w.heap.size + 1, 7, none⟩ = some (.int .i64 y.defect) := hby.cell 7 rfl
  have HKe : Hid (∀ w', Below W1.heap.size W1 w' → Below W1.heap.size W1 w' ∧ w'.cell? ⟨w.heap.size, 0, none⟩ = some (.int .i64 x.level) ∧ w'.cell? ⟨w.heap.size, 4, none⟩ = some (.int .i64 x.bad) ∧ w'.cell? ⟨w.heap.size, 6, none⟩ = some (.bool u) ∧ w'.cell? ⟨w.heap.size, 7, none⟩ = some (.int .i64 x.defect) ∧ w'.cell? ⟨w.heap.size + 1, 0, none⟩ = some (.int .i64 y.level) ∧ w'.cell? ⟨w.heap.size + 1, 4, none⟩ = some (.int .i64 y.bad) ∧ w'.cell? ⟨w.heap.size + 1, 6, none⟩ = some (.bool u) ∧ w'.cell? ⟨w.heap.size + 1, 7, none⟩ = some (.int .i64 y.defect)) := Lib.hid fun w' hb => ⟨hb, later hb z0, later hb z1, later hb z2, later hb z3, later hb z4, later hb z5, later hb z6, later hb z7⟩
  clear hbx hby hbw hu hv
  go_enter Tryz.func63, Tryz.ntmps63
  go_upto_region 3 with fail
  go_region_held3 (fun w' => Below W1.heap.size W1 w' ∧ w'.cell? ⟨w.heap.size, 0, none⟩ = some (.int .i64 x.level) ∧ w'.cell? ⟨w.heap.size, 4, none⟩ = some (.int .i64 x.bad) ∧ w'.cell? ⟨w.heap.size, 6, none⟩ = some (.bool u) ∧ w'.cell? ⟨w.heap.size, 7, none⟩ = some (.int .i64 x.defect) ∧ w'.cell? ⟨w.heap.size + 1, 0, none⟩ = some (.int .i64 y.level) ∧ w'.cell? ⟨w.heap.size + 1, 4, none⟩ = some (.int .i64 y.bad) ∧ w'.cell? ⟨w.heap.size + 1, 6, none⟩ = some (.bool u) ∧ w'.cell? ⟨w.heap.size + 1, 7, none⟩ = some (.int .i64 y.defect))
    (first | exact HKe.out _ (by repeat (first | (with_reducible exact Below.refl _ _) | (with_reducible apply below_drew) | exact (‹Below W1.heap.size W1 _ ∧ _›.1))))
    (first
      | (go_at_call 89; with_reducible refine (HSa.out _).mono ?_; rintro e wq ⟨rfl, rfl⟩)
      | (go_at_call 89; with_reducible refine (HSb.out _).mono ?_; rintro e wq ⟨rfl, rfl⟩))
  clear hW
  all_goals
    have hend := below_join HB.out ‹Below W1.heap.size W1 _ ∧ _›.1
    go_wp2_with fail
    go_ret
    exact ⟨rfl, hend⟩
set_option maxHeartbeats 4000000 in
theorem bt4 (x y : FitD) (w : World) (w1 : (Lit.int .i64 x.defect).wf = true ∧ (Lit.int .i64 y.defect).wf = true ∧ (Lit.int .i64 x.level).wf = true ∧ (Lit.int .i64 y.level).wf = true) (D1 D2 L1 L2 : Int) (hD1 : sizeI x.defect = D1) (hD2 : sizeI y.defect = D2) (hL1 : sizeI x.level = L1) (hL2 : sizeI y.level = L2) (u : Bool) (hu : x.unset = u) (hv : y.unset = u) (F1 : (D1 != D2) = false) (F2 : (x.bad != y.bad) = false) (F3 : (L1 != L2) = true) :
    Calls Tryz.prog 63 #[fitV x, fitV y] w fun e w' => e = .returned (.bool (decide (L1 < L2))) ∧ Below w.heap.size w w' := by
  have HSa := Lib.hid (size18_any x.defect D1 hD1 w1.1)
  have HSb := Lib.hid (size18_any y.defect D2 hD2 w1.2.1)
  have HSc := Lib.hid (size18_any x.level L1 hL1 w1.2.2.1)
  have HSd := Lib.hid (size18_any y.level L2 hL2 w1.2.2.2)
  clear hD1 hD2 hL1 hL2 w1
  have hbx := (Box.new w (fitB x) 46).alloc (.cells (fitB y) 46)
  have hby := Box.new (w.alloc (.cells (fitB x) 46)) (fitB y) 46
  have hbw := below_alloc (below_alloc (Below.refl w.heap.size w) (.cells (fitB x) 46)) (.cells (fitB y) 46)
  simp only [World.size_alloc] at hby
  obtain ⟨W1, hW⟩ : ∃ W1, (w.alloc (.cells (fitB x) 46)).alloc (.cells (fitB y) 46) = W1 := ⟨_, rfl⟩
  rw [hW] at hbx hby hbw
  have HB := Lib.hid hbw
  have z0 : W1.cell? ⟨w.heap.size, 0, none⟩ = some (.int .i64 x.level) := hbx.cell 0 rfl
  have z1 : W1.cell? ⟨w.heap.size, 4, none⟩ = some (.int .i64 x.bad) := hbx.cell 4 rfl
  have z2 : W1.cell? ⟨w.heap.size, 6, none⟩ = some (.bool u) := by rw [← hu]; exact hbx.cell 6 rfl
  have z3 : W1.cell? ⟨w.heap.size, 7, none⟩ = some (.int .i64 x.defect) := hbx.cell 7 rfl
  have z4 : W1.cell? ⟨w.heap.size + 1, 0, none⟩ = some (.int .i64 y.level) := hby.cell 0 rfl
  have z5 : W1.cell? ⟨w.heap.size + 1, 4, none⟩ = some (.int .i64 y.bad) := hby.cell 4 rfl
  have z6 : W1.cell? ⟨w.heap.size + 1, 6, none⟩ = some (.bool u) := by rw [← hv]; exact hby.cell 6 rfl
  have z7 : W1.cell? ⟨w.heap.size + 1, 7, none⟩ = some (.int .i64 y.defect) := hby.cell 7 rfl
  have HKe : Hid (∀ w', Below W1.heap.size W1 w' → Below W1.heap.size W1 w' ∧ w'.cell? ⟨w.heap.size, 0, none⟩ = some (.int .i64 x.level) ∧ w'.cell? ⟨w.heap.size, 4, none⟩ = some (.int .i64 x.bad) ∧ w'.cell? ⟨w.heap.size, 6, none⟩ = some (.bool u) ∧ w'.cell? ⟨w.heap.size, 7, none⟩ = some (.int .i64 x.defect) ∧ w'.cell? ⟨w.heap.size + 1, 0, none⟩ = some (.int .i64 y.level) ∧ w'.cell? ⟨w.heap.size + 1, 4, none⟩ = some (.int .i64 y.bad) ∧ w'.cell? ⟨w.heap.size + 1, 6, none⟩ = some (.bool u) ∧ w'.cell? ⟨w.heap.size + 1, 7, none⟩ = some (.int .i64 y.defect)) := Lib.hid fun w' hb => ⟨hb, later hb z0, later hb z1, later hb z2, later hb z3, later hb z4, later hb z5, later hb z6, later hb z7⟩
  clear hbx hby hbw hu hv
  go_enter Tryz.func63, Tryz.ntmps63
  go_upto_region 3 with fail
  go_region_held3 (fun w' => Below W1.heap.size W1 w' ∧ w'.cell? ⟨w.heap.size, 0, none⟩ = some (.int .i64 x.level) ∧ w'.cell? ⟨w.heap.size, 4, none⟩ = some (.int .i64 x.bad) ∧ w'.cell? ⟨w.heap.size, 6, none⟩ = some (.bool u) ∧ w'.cell? ⟨w.heap.size, 7, none⟩ = some (.int .i64 x.defect) ∧ w'.cell? ⟨w.heap.size + 1, 0, none⟩ = some (.int .i64 y.level) ∧ w'.cell? ⟨w.heap.size + 1, 4, none⟩ = some (.int .i64 y.bad) ∧ w'.cell? ⟨w.heap.size + 1, 6, none⟩ = some (.bool u) ∧ w'.cell? ⟨w.heap.size + 1, 7, none⟩ = some (.int .i64 y.defect))
    (first | exact HKe.out _ (by repeat (first | (with_reducible exact Below.refl _ _) | (with_reducible apply below_drew) | exact (‹Below W1.heap.size W1 _ ∧ _›.1))))
    (first
      | (go_at_call 89; with_reducible refine (HSa.out _).mono ?_; rintro e wq ⟨rfl, rfl⟩)
      | (go_at_call 89; with_reducible refine (HSb.out _).mono ?_; rintro e wq ⟨rfl, rfl⟩))
  clear hW
  all_goals (
    go_upto_region 7 with fail
    go_region_held3 (fun w' => Below W1.heap.size W1 w' ∧ w'.cell? ⟨w.heap.size, 0, none⟩ = some (.int .i64 x.level) ∧ w'.cell? ⟨w.heap.size, 4, none⟩ = some (.int .i64 x.bad) ∧ w'.cell? ⟨w.heap.size, 6, none⟩ = some (.bool u) ∧ w'.cell? ⟨w.heap.size, 7, none⟩ = some (.int .i64 x.defect) ∧ w'.cell? ⟨w.heap.size + 1, 0, none⟩ = some (.int .i64 y.level) ∧ w'.cell? ⟨w.heap.size + 1, 4, none⟩ = some (.int .i64 y.bad) ∧ w'.cell? ⟨w.heap.size + 1, 6, none⟩ = some (.bool u) ∧ w'.cell? ⟨w.heap.size + 1, 7, none⟩ = some (.int .i64 y.defect))
      (first | exact HKe.out _ (by repeat (first | (with_reducible exact Below.refl _ _) | (with_reducible apply below_drew) | exact (‹Below W1.heap.size W1 _ ∧ _›.1))))
      (first
      | (go_at_call 89; with_reducible refine (HSc.out _).mono ?_; rintro e wq ⟨rfl, rfl⟩)
      | (go_at_call 89; with_reducible refine (HSd.out _).mono ?_; rintro e wq ⟨rfl, rfl⟩)))
  all_goals (
    go_upto_region 8 with fail
    go_region_held3 (fun w' => Below W1.heap.size W1 w' ∧ w'.cell? ⟨w.heap.size, 0, none⟩ = some (.int .i64 x.level) ∧ w'.cell? ⟨w.heap.size, 4, none⟩ = some (.int .i64 x.bad) ∧ w'.cell? ⟨w.heap.size, 6, none⟩ = some (.bool u) ∧ w'.cell? ⟨w.heap.size, 7, none⟩ = some (.int .i64 x.defect) ∧ w'.cell? ⟨w.heap.size + 1, 0, none⟩ = some (.int .i64 y.level) ∧ w'.cell? ⟨w.heap.size + 1, 4, none⟩ = some (.int .i64 y.bad) ∧ w'.cell? ⟨w.heap.size + 1, 6, none⟩ = some (.bool u) ∧ w'.cell? ⟨w.heap.size + 1, 7, none⟩ = some (.int .i64 y.defect))
      (first | exact HKe.out _ (by repeat (first | (with_reducible exact Below.refl _ _) | (with_reducible apply below_drew) | exact (‹Below W1.heap.size W1 _ ∧ _›.1))))
      (first
      | (go_at_call 89; with_reducible refine (HSc.out _).mono ?_; rintro e wq ⟨rfl, rfl⟩)
      | (go_at_call 89; with_reducible refine (HSd.out _).mono ?_; rintro e wq ⟨rfl, rfl⟩)))
  all_goals
    have hend := below_join HB.out ‹Below W1.heap.size W1 _ ∧ _›.1
    go_wp2_with fail
    go_ret
    exact ⟨rfl, hend⟩
set_option maxHeartbeats 4000000 in
theorem bt5 (x y : FitD) (w : World) (w1 : (Lit.int .i64 x.defect).wf = true ∧ (Lit.int .i64 y.defect).wf = true ∧ (Lit.int .i64 x.level).wf = true ∧ (Lit.int .i64 y.level).wf = true) (D1 D2 L1 L2 : Int) (hD1 : sizeI x.defect = D1) (hD2 : sizeI y.defect = D2) (hL1 : sizeI x.level = L1) (hL2 : sizeI y.level = L2) (u : Bool) (hu : x.unset = u) (hv : y.unset = u) (F1 : (D1 != D2) = false) (F2 : (x.bad != y.bad) = false) (F3 : (L1 != L2) = false) :
    Calls Tryz.prog 63 #[fitV x, fitV y] w fun e w' => e = .returned (.bool (decide (y.level < x.level))) ∧ Below w.heap.size w w' := by
  have HSa := Lib.hid (size18_any x.defect D1 hD1 w1.1)
  have HSb := Lib.hid (size18_any y.defect D2 hD2 w1.2.1)
  have HSc := Lib.hid (size18_any x.level L1 hL1 w1.2.2.1)
  have HSd := Lib.hid (size18_any y.level L2 hL2 w1.2.2.2)
  clear hD1 hD2 hL1 hL2 w1
  have hbx := (Box.new w (fitB x) 46).alloc (.cells (fitB y) 46)
  have hby := Box.new (w.alloc (.cells (fitB x) 46)) (fitB y) 46
  have hbw := below_alloc (below_alloc (Below.refl w.heap.size w) (.cells (fitB x) 46)) (.cells (fitB y) 46)
  simp only [World.size_alloc] at hby
  obtain ⟨W1, hW⟩ : ∃ W1, (w.alloc (.cells (fitB x) 46)).alloc (.cells (fitB y) 46) = W1 := ⟨_, rfl⟩
  rw [hW] at hbx hby hbw
  have HB := Lib.hid hbw
  have z0 : W1.cell? ⟨w.heap.size, 0, none⟩ = some (.int .i64 x.level) := hbx.cell 0 rfl
  have z1 : W1.cell? ⟨w.heap.size, 4, none⟩ = some (.int .i64 x.bad) := hbx.cell 4 rfl
  have z2 : W1.cell? ⟨w.heap.size, 6, none⟩ = some (.bool u) := by rw [← hu]; exact hbx.cell 6 rfl
  have z3 : W1.cell? ⟨w.heap.size, 7, none⟩ = some (.int .i64 x.defect) := hbx.cell 7 rfl
  have z4 : W1.cell? ⟨w.heap.size + 1, 0, none⟩ = some (.int .i64 y.level) := hby.cell 0 rfl
  have z5 : W1.cell? ⟨w.heap.size + 1, 4, none⟩ = some (.int .i64 y.bad) := hby.cell 4 rfl
  have z6 : W1.cell? ⟨w.heap.size + 1, 6, none⟩ = some (.bool u) := by rw [← hv]; exact hby.cell 6 rfl
  have z7 : W1.cell? ⟨w.heap.size + 1, 7, none⟩ = some (.int .i64 y.defect) := hby.cell 7 rfl
  have HKe : Hid (∀ w', Below W1.heap.size W1 w' → Below W1.heap.size W1 w' ∧ w'.cell? ⟨w.heap.size, 0, none⟩ = some (.int .i64 x.level) ∧ w'.cell? ⟨w.heap.size, 4, none⟩ = some (.int .i64 x.bad) ∧ w'.cell? ⟨w.heap.size, 6, none⟩ = some (.bool u) ∧ w'.cell? ⟨w.heap.size, 7, none⟩ = some (.int .i64 x.defect) ∧ w'.cell? ⟨w.heap.size + 1, 0, none⟩ = some (.int .i64 y.level) ∧ w'.cell? ⟨w.heap.size + 1, 4, none⟩ = some (.int .i64 y.bad) ∧ w'.cell? ⟨w.heap.size + 1, 6, none⟩ = some (.bool u) ∧ w'.cell? ⟨w.heap.size + 1, 7, none⟩ = some (.int .i64 y.defect)) := Lib.hid fun w' hb => ⟨hb, later hb z0, later hb z1, later hb z2, later hb z3, later hb z4, later hb z5, later hb z6, later hb z7⟩
  clear hbx hby hbw hu hv
  go_enter Tryz.func63, Tryz.ntmps63
  go_upto_region 3 with fail
  go_region_held3 (fun w' => Below W1.heap.size W1 w' ∧ w'.cell? ⟨w.heap.size, 0, none⟩ = some (.int .i64 x.level) ∧ w'.cell? ⟨w.heap.size, 4, none⟩ = some (.int .i64 x.bad) ∧ w'.cell? ⟨w.heap.size, 6, none⟩ = some (.bool u) ∧ w'.cell? ⟨w.heap.size, 7, none⟩ = some (.int .i64 x.defect) ∧ w'.cell? ⟨w.heap.size + 1, 0, none⟩ = some (.int .i64 y.level) ∧ w'.cell? ⟨w.heap.size + 1, 4, none⟩ = some (.int .i64 y.bad) ∧ w'.cell? ⟨w.heap.size + 1, 6, none⟩ = some (.bool u) ∧ w'.cell? ⟨w.heap.size + 1, 7, none⟩ = some (.int .i64 y.defect))
    (first | exact HKe.out _ (by repeat (first | (with_reducible exact Below.refl _ _) | (with_reducible apply below_drew) | exact (‹Below W1.heap.size W1 _ ∧ _›.1))))
    (first
      | (go_at_call 89; with_reducible refine (HSa.out _).mono ?_; rintro e wq ⟨rfl, rfl⟩)
      | (go_at_call 89; with_reducible refine (HSb.out _).mono ?_; rintro e wq ⟨rfl, rfl⟩))
  clear hW
  all_goals (
    go_upto_region 7 with fail
    go_region_held3 (fun w' => Below W1.heap.size W1 w' ∧ w'.cell? ⟨w.heap.size, 0, none⟩ = some (.int .i64 x.level) ∧ w'.cell? ⟨w.heap.size, 4, none⟩ = some (.int .i64 x.bad) ∧ w'.cell? ⟨w.heap.size, 6, none⟩ = some (.bool u) ∧ w'.cell? ⟨w.heap.size, 7, none⟩ = some (.int .i64 x.defect) ∧ w'.cell? ⟨w.heap.size + 1, 0, none⟩ = some (.int .i64 y.level) ∧ w'.cell? ⟨w.heap.size + 1, 4, none⟩ = some (.int .i64 y.bad) ∧ w'.cell? ⟨w.heap.size + 1, 6, none⟩ = some (.bool u) ∧ w'.cell? ⟨w.heap.size + 1, 7, none⟩ = some (.int .i64 y.defect))
      (first | exact HKe.out _ (by repeat (first | (with_reducible exact Below.refl _ _) | (with_reducible apply below_drew) | exact (‹Below W1.heap.size W1 _ ∧ _›.1))))
      (first
      | (go_at_call 89; with_reducible refine (HSc.out _).mono ?_; rintro e wq ⟨rfl, rfl⟩)
      | (go_at_call 89; with_reducible refine (HSd.out _).mono ?_; rintro e wq ⟨rfl, rfl⟩)))
  all_goals
    have hend := below_join HB.out ‹Below W1.heap.size W1 _ ∧ _›.1
    go_wp2_with fail
    go_ret
    exact ⟨rfl, hend⟩
theorem better18_any (x y : FitD) (w : World) (w1 : (Lit.int .i64 x.defect).wf = true ∧ (Lit.int .i64 y.defect).wf = true ∧ (Lit.int .i64 x.level).wf = true ∧ (Lit.int .i64 y.level).wf = true) :
    Calls Tryz.prog 63 #[fitV x, fitV y] w fun e w' => e = .returned (.bool (betterP x y)) ∧ Below w.heap.size w w' := by
  rw [better_split]
  cases h0 : x.unset != y.unset with
  | true =>
    have hv : y.unset = !x.unset := by revert h0; cases x.unset <;> cases y.unset <;> simp
    simpa using bt1 x y w w1 _ _ _ _ rfl rfl rfl rfl x.unset rfl hv
  | false =>
    have h0 : y.unset = x.unset := by revert h0; cases x.unset <;> cases y.unset <;> simp
    cases h1 : sizeI x.defect != sizeI y.defect with
    | true => simpa using bt2 x y w w1 _ _ _ _ rfl rfl rfl rfl x.unset rfl h0 h1
    | false =>
      cases h2 : x.bad != y.bad with
      | true => simpa using bt3 x y w w1 _ _ _ _ rfl rfl rfl rfl x.unset rfl h0 h1 h2
      | false =>
        cases h3 : sizeI x.level != sizeI y.level with
        | true => simpa using bt4 x y w w1 _ _ _ _ rfl rfl rfl rfl x.unset rfl h0 h1 h2 h3
        | false => simpa using bt5 x y w w1 _ _ _ _ rfl rfl rfl rfl x.unset rfl h0 h1 h2 h3
end Go.Proofs.YtndpdbofoojkhaaGreat.Ft
