/- The functions of layer 5 (costs), and the document's answers: what each call answers. -/
import Derived.Test.YtoldnphehocpaaaKit
namespace Go.Proofs.Ytoldnphehocpaaa.Cost
open Go.RowKit Go.Proofs.Ytoldnphehocpaaa.Kit
set_option linter.unusedVariables false
set_option linter.unusedSimpArgs false

/-- May a cost be? -/
def ck (u d : Int) : Bool := decide ((0 ≤ u ∧ u ≤ 300) ∧ (-1152921504606846975 ≤ d ∧ d ≤ 1152921504606846975))
/-- Is one less? -/
def lt (u d v e : Int) : Bool := decide (u < v ∨ u = v ∧ d < e)
/-- The sum of two, and its error. -/
def ok (u d v e : Int) : Bool := ck u d && ck v e && ck (u + v) (d + e)
def sum (u d v e : Int) : Int × Int × Int := if ok u d v e = true then (u + v, d + e, 0) else (0, 0, 50)


set_option maxHeartbeats 1000000 in
theorem check_any (u d : Int) (w : World) :
    Calls Try.prog 12 #[.agg #[.int .i64 u, .int .i64 d]] w fun e w' => e = .returned (.bool (ck u d)) ∧ Below w.heap.size w w' := by
  go_enter Try.func12, Try.ntmps12
  go_wp2
  all_goals
    go_ret
    exact ⟨ret_bool rfl (by first | rfl | (simp only [ck]; rw [Bool.eq_iff_iff]; simp; omega) | (simp only [ck]; rw [Bool.eq_iff_iff]; simp; done)), by repeat (first | exact Below.refl _ _ | apply below_alloc)⟩

set_option maxHeartbeats 1000000 in
theorem refcheck_any (u d : Int) (w : World) :
    Calls Try.prog 13 #[.agg #[.int .i64 u, .int .i64 d]] w fun e w' => e = .returned (.bool (ck u d)) ∧ Below w.heap.size w w' := by
  go_enter Try.func13, Try.ntmps13
  go_wp2
  all_goals
    go_ret
    exact ⟨ret_bool rfl (by first | rfl | (simp only [ck]; rw [Bool.eq_iff_iff]; simp; omega) | (simp only [ck]; rw [Bool.eq_iff_iff]; simp; done)), by repeat (first | exact Below.refl _ _ | apply below_alloc)⟩

set_option maxHeartbeats 1000000 in
theorem refless_any (u d v e0 : Int) (w : World) :
    Calls Try.prog 15 #[.agg #[.int .i64 u, .int .i64 d], .agg #[.int .i64 v, .int .i64 e0]] w fun e w' => e = .returned (.bool (lt u d v e0)) ∧ Below w.heap.size w w' := by
  go_enter Try.func15, Try.ntmps15
  go_wp2
  all_goals
    go_ret
    exact ⟨ret_bool rfl (by first | rfl | (simp only [lt]; rw [Bool.eq_iff_iff]; simp; omega) | (simp only [lt]; rw [Bool.eq_iff_iff]; simp; done)), by repeat (first | exact Below.refl _ _ | apply below_alloc)⟩

set_option maxHeartbeats 1000000 in
theorem less_any (u d v e0 : Int) (w : World) :
    Calls Try.prog 14 #[.agg #[.int .i64 u, .int .i64 d], .agg #[.int .i64 v, .int .i64 e0]] w fun e w' => e = .returned (.bool (lt u d v e0)) ∧ Below w.heap.size w w' := by
  go_enter Try.func14, Try.ntmps14
  go_wp2
  all_goals
    go_ret
    exact ⟨ret_bool rfl (by first | rfl | (simp only [lt]; rw [Bool.eq_iff_iff]; simp; omega) | (simp only [lt]; rw [Bool.eq_iff_iff]; simp; done)), by repeat (first | exact Below.refl _ _ | apply below_alloc)⟩

theorem ck_bd {u d : Int} (h : ck u d = true) : (0 ≤ u ∧ u ≤ 300) ∧ (-1152921504606846975 ≤ d ∧ d ≤ 1152921504606846975) := of_decide_eq_true h
theorem sum_f1 {u d v e : Int} (h : ck u d = false) : sum u d v e = (0, 0, 50) := by simp [sum, ok, h]
theorem sum_f2 {u d v e : Int} (h : ck v e = false) : sum u d v e = (0, 0, 50) := by simp [sum, ok, h]
theorem sum_f3 {u d v e : Int} (h : ck (u + v) (d + e) = false) : sum u d v e = (0, 0, 50) := by simp [sum, ok, h]
theorem sum_t {u d v e : Int} (h1 : ck u d = true) (h2 : ck v e = true) (h3 : ck (u + v) (d + e) = true) : sum u d v e = (u + v, d + e, 0) := by simp [sum, ok, h1, h2, h3]

set_option maxHeartbeats 2000000 in
theorem add_any (u d v e0 : Int) (w : World) :
    Calls Try.prog 10 #[.agg #[.int .i64 u, .int .i64 d], .agg #[.int .i64 v, .int .i64 e0]] w fun e w' => e = .returned (.tuple #[.agg #[.int .i64 (sum u d v e0).1, .int .i64 (sum u d v e0).2.1], .int .i64 (sum u d v e0).2.2]) ∧ Below w.heap.size w w' := by
  cases h1 : ck u d with
  | false =>
    rw [sum_f1 h1]
    go_enter Try.func10, Try.ntmps10
    go_wp2_with (go_at_call 12; refine (check_any _ _ _).mono ?_; rintro e w1 ⟨rfl, hb⟩; obtain ⟨hc, hf⟩ := bcell hb; have hz : w.heap.size + 1 + 1 < w1.heap.size := sz_lt hb (by first | assumption | (simp; done) | (simp; omega)); have hz1 : w.heap.size + 1 < w1.heap.size := (by omega); have hz0 : w.heap.size < w1.heap.size := (by omega))
    refine bodyPost_ret (v := .tuple #[.agg #[.int .i64 0, .int .i64 0], .int .i64 50]) (by simp [results, Try.results10, go_sem, *]) rfl ⟨rfl, ?_⟩
    repeat (first | exact Below.refl _ _ | apply below_alloc | (refine below_set ?_ (by first | (simp; done) | (simp; omega) | omega) _) | (refine below_join ?_ (by assumption)))
  | true =>
    cases h2 : ck v e0 with
    | false =>
      rw [sum_f2 h2]
      go_enter Try.func10, Try.ntmps10
      go_wp2_with (go_at_call 12; refine (check_any _ _ _).mono ?_; rintro e w1 ⟨rfl, hb⟩; obtain ⟨hc, hf⟩ := bcell hb; have hz : w.heap.size + 1 + 1 < w1.heap.size := sz_lt hb (by first | assumption | (simp; done) | (simp; omega)); have hz1 : w.heap.size + 1 < w1.heap.size := (by omega); have hz0 : w.heap.size < w1.heap.size := (by omega))
      refine bodyPost_ret (v := .tuple #[.agg #[.int .i64 0, .int .i64 0], .int .i64 50]) (by simp [results, Try.results10, go_sem, *]) rfl ⟨rfl, ?_⟩
      repeat (first | exact Below.refl _ _ | apply below_alloc | (refine below_set ?_ (by first | (simp; done) | (simp; omega) | omega) _) | (refine below_join ?_ (by assumption)))
    | true =>
      obtain ⟨⟨_, _⟩, _, _⟩ := ck_bd h1
      obtain ⟨⟨_, _⟩, _, _⟩ := ck_bd h2
      cases h3 : ck (u + v) (d + e0) with
      | false =>
        rw [sum_f3 h3]
        go_enter Try.func10, Try.ntmps10
        go_wp2_with (go_at_call 12; refine (check_any _ _ _).mono ?_; rintro e w1 ⟨rfl, hb⟩; obtain ⟨hc, hf⟩ := bcell hb; have hz : w.heap.size + 1 + 1 < w1.heap.size := sz_lt hb (by first | assumption | (simp; done) | (simp; omega)); have hz1 : w.heap.size + 1 < w1.heap.size := (by omega); have hz0 : w.heap.size < w1.heap.size := (by omega))
        refine bodyPost_ret (v := .tuple #[.agg #[.int .i64 0, .int .i64 0], .int .i64 50]) (by simp [results, Try.results10, go_sem, *]) rfl ⟨rfl, ?_⟩
        repeat (first | exact Below.refl _ _ | apply below_alloc | (refine below_set ?_ (by first | (simp; done) | (simp; omega) | omega) _) | (refine below_join ?_ (by assumption)))
      | true =>
        rw [sum_t h1 h2 h3]
        go_enter Try.func10, Try.ntmps10
        go_wp2_with (go_at_call 12; refine (check_any _ _ _).mono ?_; rintro e w1 ⟨rfl, hb⟩; obtain ⟨hc, hf⟩ := bcell hb; have hz : w.heap.size + 1 + 1 < w1.heap.size := sz_lt hb (by first | assumption | (simp; done) | (simp; omega)); have hz1 : w.heap.size + 1 < w1.heap.size := (by omega); have hz0 : w.heap.size < w1.heap.size := (by omega))
        refine bodyPost_ret (v := .tuple #[.agg #[.int .i64 (u + v), .int .i64 (d + e0)], .int .i64 0]) (by simp [results, Try.results10, go_sem, *]) rfl ⟨rfl, ?_⟩
        repeat (first | exact Below.refl _ _ | apply below_alloc | (refine below_set ?_ (by first | (simp; done) | (simp; omega) | omega) _) | (refine below_join ?_ (by assumption)))

set_option maxHeartbeats 2000000 in
theorem refadd_any (u d v e0 : Int) (w : World) :
    Calls Try.prog 11 #[.agg #[.int .i64 u, .int .i64 d], .agg #[.int .i64 v, .int .i64 e0]] w fun e w' => e = .returned (.tuple #[.agg #[.int .i64 (sum u d v e0).1, .int .i64 (sum u d v e0).2.1], .int .i64 (sum u d v e0).2.2]) ∧ Below w.heap.size w w' := by
  cases h1 : ck u d with
  | false =>
    rw [sum_f1 h1]
    go_enter Try.func11, Try.ntmps11
    go_wp2_with (go_at_call 13; refine (refcheck_any _ _ _).mono ?_; rintro e w1 ⟨rfl, hb⟩; obtain ⟨hc, hf⟩ := bcell hb; have hz : w.heap.size + 1 + 1 < w1.heap.size := sz_lt hb (by first | assumption | (simp; done) | (simp; omega)); have hz1 : w.heap.size + 1 < w1.heap.size := (by omega); have hz0 : w.heap.size < w1.heap.size := (by omega))
    refine bodyPost_ret (v := .tuple #[.agg #[.int .i64 0, .int .i64 0], .int .i64 50]) (by simp [results, Try.results11, go_sem, *]) rfl ⟨rfl, ?_⟩
    repeat (first | exact Below.refl _ _ | apply below_alloc | (refine below_set ?_ (by first | (simp; done) | (simp; omega) | omega) _) | (refine below_join ?_ (by assumption)))
  | true =>
    cases h2 : ck v e0 with
    | false =>
      rw [sum_f2 h2]
      go_enter Try.func11, Try.ntmps11
      go_wp2_with (go_at_call 13; refine (refcheck_any _ _ _).mono ?_; rintro e w1 ⟨rfl, hb⟩; obtain ⟨hc, hf⟩ := bcell hb; have hz : w.heap.size + 1 + 1 < w1.heap.size := sz_lt hb (by first | assumption | (simp; done) | (simp; omega)); have hz1 : w.heap.size + 1 < w1.heap.size := (by omega); have hz0 : w.heap.size < w1.heap.size := (by omega))
      refine bodyPost_ret (v := .tuple #[.agg #[.int .i64 0, .int .i64 0], .int .i64 50]) (by simp [results, Try.results11, go_sem, *]) rfl ⟨rfl, ?_⟩
      repeat (first | exact Below.refl _ _ | apply below_alloc | (refine below_set ?_ (by first | (simp; done) | (simp; omega) | omega) _) | (refine below_join ?_ (by assumption)))
    | true =>
      obtain ⟨⟨_, _⟩, _, _⟩ := ck_bd h1
      obtain ⟨⟨_, _⟩, _, _⟩ := ck_bd h2
      cases h3 : ck (u + v) (d + e0) with
      | false =>
        rw [sum_f3 h3]
        go_enter Try.func11, Try.ntmps11
        go_wp2_with (go_at_call 13; refine (refcheck_any _ _ _).mono ?_; rintro e w1 ⟨rfl, hb⟩; obtain ⟨hc, hf⟩ := bcell hb; have hz : w.heap.size + 1 + 1 < w1.heap.size := sz_lt hb (by first | assumption | (simp; done) | (simp; omega)); have hz1 : w.heap.size + 1 < w1.heap.size := (by omega); have hz0 : w.heap.size < w1.heap.size := (by omega))
        refine bodyPost_ret (v := .tuple #[.agg #[.int .i64 0, .int .i64 0], .int .i64 50]) (by simp [results, Try.results11, go_sem, *]) rfl ⟨rfl, ?_⟩
        repeat (first | exact Below.refl _ _ | apply below_alloc | (refine below_set ?_ (by first | (simp; done) | (simp; omega) | omega) _) | (refine below_join ?_ (by assumption)))
      | true =>
        rw [sum_t h1 h2 h3]
        go_enter Try.func11, Try.ntmps11
        go_wp2_with (go_at_call 13; refine (refcheck_any _ _ _).mono ?_; rintro e w1 ⟨rfl, hb⟩; obtain ⟨hc, hf⟩ := bcell hb; have hz : w.heap.size + 1 + 1 < w1.heap.size := sz_lt hb (by first | assumption | (simp; done) | (simp; omega)); have hz1 : w.heap.size + 1 < w1.heap.size := (by omega); have hz0 : w.heap.size < w1.heap.size := (by omega))
        refine bodyPost_ret (v := .tuple #[.agg #[.int .i64 (u + v), .int .i64 (d + e0)], .int .i64 0]) (by simp [results, Try.results11, go_sem, *]) rfl ⟨rfl, ?_⟩
        repeat (first | exact Below.refl _ _ | apply below_alloc | (refine below_set ?_ (by first | (simp; done) | (simp; omega) | omega) _) | (refine below_join ?_ (by assumption)))

end Go.Proofs.Ytoldnphehocpaaa.Cost
