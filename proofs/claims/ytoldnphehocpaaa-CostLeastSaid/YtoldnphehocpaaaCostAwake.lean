/- The calls at the head of all statements of layer 5 answer what the document fixes. -/
import Derived.Test.YtoldnphehocpaaaCostLeast
namespace Go.Proofs.Ytoldnphehocpaaa.Cost
open Go.RowKit Go.Proofs.Ytoldnphehocpaaa.Kit
set_option linter.unusedVariables false
set_option linter.unusedSimpArgs false

theorem addc (u d v e0 a b c : Int) (w : World) (h : sum u d v e0 = (a, b, c)) :
    Calls Try.prog 10 #[.agg #[.int .i64 u, .int .i64 d], .agg #[.int .i64 v, .int .i64 e0]] w fun e w' => e = .returned (.tuple #[.agg #[.int .i64 a, .int .i64 b], .int .i64 c]) ∧ Below w.heap.size w w' := by
  have := add_any u d v e0 w
  rw [h] at this
  exact this
theorem lessc (u d v e0 : Int) (r : Bool) (w : World) (h : lt u d v e0 = r) :
    Calls Try.prog 14 #[.agg #[.int .i64 u, .int .i64 d], .agg #[.int .i64 v, .int .i64 e0]] w fun e w' => e = .returned (.bool r) ∧ Below w.heap.size w w' := by
  subst h; exact less_any u d v e0 w
theorem checkc (u d : Int) (r : Bool) (w : World) (h : ck u d = r) :
    Calls Try.prog 12 #[.agg #[.int .i64 u, .int .i64 d]] w fun e w' => e = .returned (.bool r) ∧ Below w.heap.size w w' := by
  subst h; exact check_any u d w
theorem least0 (w : World) : Calls Try.prog 16 #[.slice none 0 0] w fun e w' => e = .returned (.int .i64 (-1)) ∧ Below w.heap.size w w' :=
  least_any none 0 [] w (fun i x hx => by simp at hx) (by simp)
theorem least3 (w : World) : Calls Try.prog 16 #[.slice (some ⟨w.heap.size, 0, none⟩) 3 3] (w.alloc (.cells #[.int .i64 1, .int .i64 5, .int .i64 0, .int .i64 9, .int .i64 0, .int .i64 9] 23)) fun e w' => e = .returned (.int .i64 1) ∧ Below (w.alloc (.cells #[.int .i64 1, .int .i64 5, .int .i64 0, .int .i64 9, .int .i64 0, .int .i64 9] 23)).heap.size (w.alloc (.cells #[.int .i64 1, .int .i64 5, .int .i64 0, .int .i64 9, .int .i64 0, .int .i64 9] 23)) w' := by
  refine least_any (some ⟨w.heap.size, 0, none⟩) 3 [(1, 5), (0, 9), (0, 9)] _ ?_ (by decide)
  have key : ∀ (i : Nat) (u v : Int), #[(Value.int .i64 1), .int .i64 5, .int .i64 0, .int .i64 9, .int .i64 0, .int .i64 9][i * 2]? = some (.int .i64 u) → #[(Value.int .i64 1), .int .i64 5, .int .i64 0, .int .i64 9, .int .i64 0, .int .i64 9][i * 2 + 1]? = some (.int .i64 v) → (Lit.int .i64 u).wf = true → (Lit.int .i64 v).wf = true →
      ∃ (b o : Nat) (cs : List Value), some (⟨w.heap.size, 0, none⟩ : Addr) = some ⟨b, o, none⟩ ∧ b < (w.alloc (.cells #[.int .i64 1, .int .i64 5, .int .i64 0, .int .i64 9, .int .i64 0, .int .i64 9] 23)).heap.size ∧ CostR.K (w.alloc (.cells #[.int .i64 1, .int .i64 5, .int .i64 0, .int .i64 9, .int .i64 0, .int .i64 9] 23)) (w.alloc (.cells #[.int .i64 1, .int .i64 5, .int .i64 0, .int .i64 9, .int .i64 0, .int .i64 9] 23)).heap.size cs (u, v) ∧ ∀ j y, cs[j]? = some y → (w.alloc (.cells #[.int .i64 1, .int .i64 5, .int .i64 0, .int .i64 9, .int .i64 0, .int .i64 9] 23)).cell? ⟨b, o + (i * CostR.n + j), none⟩ = some y := by
    intro i u v h1 h2 hu hv
    refine ⟨w.heap.size, 0, [.int .i64 u, .int .i64 v], rfl, by simp, ⟨[.int .i64 u], [.int .i64 v], rfl, ⟨rfl, hu⟩, ⟨rfl, hv⟩⟩, fun j y hy => ?_⟩
    rw [Nat.zero_add]
    refine new_cell w _ _ _ ?_
    match j, hy with
    | 0, hy => simp at hy; subst hy; exact h1
    | 1, hy => simp at hy; subst hy; exact h2
  intro i x hx
  match i, hx with
  | 0, hx => simp at hx; subst hx; exact key 0 1 5 rfl rfl (by decide) (by decide)
  | 1, hx => simp at hx; subst hx; exact key 1 0 9 rfl rfl (by decide) (by decide)
  | 2, hx => simp at hx; subst hx; exact key 2 0 9 rfl rfl (by decide) (by decide)

set_option maxRecDepth 100000 in
set_option maxHeartbeats 2000000 in
theorem awake_any (w : World) : Calls Try.prog 9 #[] w fun e w' => e = .returned (.bool true) ∧ Below w.heap.size w w' := by
  go_enter Try.func9, Try.ntmps9
  go_wp2_with (first
    | (go_at_call 10; (first | with_reducible refine (addc 1 5 0 9 1 14 0 _ (by decide)).mono ?_ | with_reducible refine (addc 1 5 300 0 0 0 50 _ (by decide)).mono ?_); rintro e w1 ⟨rfl, hb⟩; obtain ⟨hc, hf⟩ := bcell hb; have hz1 : w.heap.size + 1 < w1.heap.size := sz_lt hb (by first | assumption | (simp; done) | (simp; omega)); have hz0 : w.heap.size < w1.heap.size := (by omega); have hs := hb.size; (try simp only [World.size_alloc, World.size_setCell] at hs); (try (have hs' := Nat.lt_of_succ_le hs)))
    | (go_at_call 14; (first | with_reducible refine (lessc 0 9 1 5 true _ (by decide)).mono ?_ | with_reducible refine (lessc 1 5 0 9 false _ (by decide)).mono ?_ | with_reducible refine (lessc 1 5 1 5 false _ (by decide)).mono ?_); rintro e w1 ⟨rfl, hb⟩; obtain ⟨hc, hf⟩ := bcell hb; have hz1 : w.heap.size + 1 < w1.heap.size := sz_lt hb (by first | assumption | (simp; done) | (simp; omega)); have hz0 : w.heap.size < w1.heap.size := (by omega))
    | (go_at_call 12; (first | with_reducible refine (checkc 1 5 true _ (by decide)).mono ?_ | with_reducible refine (checkc (-1) 0 false _ (by decide)).mono ?_); rintro e w1 ⟨rfl, hb⟩; obtain ⟨hc, hf⟩ := bcell hb; have hz1 : w.heap.size + 1 < w1.heap.size := sz_lt hb (by first | assumption | (simp; done) | (simp; omega)); have hz0 : w.heap.size < w1.heap.size := (by omega))
    | (go_at_call 16; (first | with_reducible refine (least3 _).mono ?_ | with_reducible refine (least0 _).mono ?_); rintro e w1 ⟨rfl, hb⟩; obtain ⟨hc, hf⟩ := bcell hb; have hz1 : w.heap.size + 1 < w1.heap.size := sz_lt hb (by first | assumption | (simp; done) | (simp; omega)); have hz0 : w.heap.size < w1.heap.size := (by omega)))
  go_ret
  refine ⟨rfl, ?_⟩
  repeat (first | exact Below.refl _ _ | apply below_alloc | (refine below_set ?_ (by first | (simp; done) | (simp; omega) | omega) _) | (refine below_join ?_ (by assumption)))

end Go.Proofs.Ytoldnphehocpaaa.Cost
