/- The statement ScaledOrder: what its calls answer. -/
import Derived.Test.YthoffhokfcgkoaaScaledAwake
namespace Go.Proofs.Ythoffhokfcgkoaa.Scaled
open Go.RowKit Go.Proofs.Ythoffhokfcgkoaa.Kit
set_option linter.unusedVariables false

/-- Two dimensions, of which a dimension is made. -/
def Ok (a b n : Int) : Prop := (-1073741823 ≤ a ∧ a ≤ 1073741823) ∧ (-1073741823 ≤ b ∧ b ≤ 1073741823) ∧ (-1073741823 ≤ n ∧ n ≤ 1073741823)
theorem ok_or (a b n : Int) : Ok a b n ∨ ¬ Ok a b n := Classical.em _
theorem Ok.v {a b n : Int} (h : Ok a b n) : sV a b n = n ∧ sE a b n = 0 := by
  obtain ⟨h1, h2, h3⟩ := h
  have e1 : dim a = true := decide_eq_true h1
  have e2 : dim b = true := decide_eq_true h2
  have e3 : dim n = true := decide_eq_true h3
  exact ⟨sV_t e1 e2 e3, sE_t e1 e2 e3⟩
theorem Ok.n {a b n : Int} (h : ¬ Ok a b n) : sV a b n = 0 ∧ sE a b n = 10 := by
  have : dim a = false ∨ dim b = false ∨ dim n = false := by
    cases h1 : dim a <;> cases h2 : dim b <;> cases h3 : dim n <;> simp
    exact h ⟨dim_t h1, dim_t h2, dim_t h3⟩
  exact ⟨sV_f this, sE_f this⟩
theorem Ok.bd {a b n : Int} (h : Ok a b n) : (-1073741823 ≤ a ∧ a ≤ 1073741823) ∧ (-1073741823 ≤ b ∧ b ≤ 1073741823) ∧ (-1073741823 ≤ n ∧ n ≤ 1073741823) := h
theorem add_ok {a b : Int} (h : Hid (Ok a b (a + b))) (w : World) : Calls Try.prog 9 #[.int .i64 a, .int .i64 b] w fun e w' => e = .returned (.tuple #[.int .i64 (a + b), .int .i64 0]) ∧ w = w' := addc _ _ _ _ _ h.out.v.1 h.out.v.2
theorem add_no {a b : Int} (h : Hid (¬ Ok a b (a + b))) (w : World) : Calls Try.prog 9 #[.int .i64 a, .int .i64 b] w fun e w' => e = .returned (.tuple #[.int .i64 0, .int .i64 10]) ∧ w = w' := addc _ _ _ _ _ (Ok.n h.out).1 (Ok.n h.out).2
theorem sub_ok {a b : Int} (h : Hid (Ok a b (a - b))) (w : World) : Calls Try.prog 11 #[.int .i64 a, .int .i64 b] w fun e w' => e = .returned (.tuple #[.int .i64 (a - b), .int .i64 0]) ∧ w = w' := subc _ _ _ _ _ h.out.v.1 h.out.v.2
theorem sub_no {a b : Int} (h : Hid (¬ Ok a b (a - b))) (w : World) : Calls Try.prog 11 #[.int .i64 a, .int .i64 b] w fun e w' => e = .returned (.tuple #[.int .i64 0, .int .i64 10]) ∧ w = w' := subc _ _ _ _ _ (Ok.n h.out).1 (Ok.n h.out).2
theorem sub_turn {a b : Int} : Ok b a (b - a) ↔ Ok a b (a - b) := by unfold Ok; omega

set_option maxHeartbeats 4000000 in
theorem order_walk (a b c : Int) (w : World) (wa : (Lit.int .i64 a).wf = true) (wb : (Lit.int .i64 b).wf = true) (wc : (Lit.int .i64 c).wf = true) :
    Calls Try.prog 7 #[.int .i64 a, .int .i64 b, .int .i64 c] w fun e w' => e = .returned (.bool true) ∧ Below w.heap.size w w' := by
  clear wa wb wc
  by_cases hab : a ≤ b
  all_goals
    rcases ok_or a c (a + c) with h1 | h1
    all_goals
      rcases ok_or b c (b + c) with h2 | h2
      all_goals
        rcases ok_or a b (a - b) with h3 | h3
        all_goals
          first
            | (have h4 := Lib.hid (sub_turn.2 h3); obtain ⟨⟨_, _⟩, ⟨_, _⟩, _, _⟩ := h3.bd; have H3 := Lib.hid h3; clear h3)
            | (have h4 := Lib.hid (fun h => h3 (sub_turn.1 h) : ¬ Ok b a (b - a)); have H3 := Lib.hid h3; clear h3)
          first
            | (obtain ⟨⟨_, _⟩, ⟨_, _⟩, _, _⟩ := h1.bd; have H1 := Lib.hid h1; clear h1)
            | (have H1 := Lib.hid h1; clear h1)
          first
            | (obtain ⟨⟨_, _⟩, ⟨_, _⟩, _, _⟩ := h2.bd; have H2 := Lib.hid h2; clear h2)
            | (have H2 := Lib.hid h2; clear h2)
          go_enter Try.func7, Try.ntmps7
          go_wp2_with (first
            | (go_at_call 8; refine (awake_any _).mono ?_; rintro e w1 ⟨rfl, HB⟩)
            | (go_at_call 9; (first | with_reducible refine (add_ok (by assumption) _).mono ?_ | with_reducible refine (add_no (by assumption) _).mono ?_); rintro e w' ⟨rfl, rfl⟩)
            | (go_at_call 11; (first | with_reducible refine (sub_ok (by assumption) _).mono ?_ | with_reducible refine (sub_no (by assumption) _).mono ?_); rintro e w' ⟨rfl, rfl⟩))
          all_goals
            go_ret
            exact ⟨ret_true rfl (by first | rfl | (simp; done) | (simp; omega)), HB⟩

end Go.Proofs.Ythoffhokfcgkoaa.Scaled
