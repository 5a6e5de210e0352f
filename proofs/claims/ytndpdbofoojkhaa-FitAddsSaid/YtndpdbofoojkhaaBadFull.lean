/- Badness of any two numbers: what the call answers. -/
import Derived.Test.YtndpdbofoojkhaaBadBad
namespace Go.Proofs.Ytndpdbofoojkhaa.Bad
open Go.RowKit Go.Proofs.Ytndpdbofoojkhaa.Kit
set_option linter.unusedVariables false
set_option linter.unusedSimpArgs false

theorem drew_size (w : World) : w.drew.heap.size = w.heap.size := rfl
/-- What is below 0 counts as 0, what is above the greatest dimension as that. -/
def cl (n : Int) : Nat := if n < 0 then 0 else if 1073741823 < n then 1073741823 else n.toNat
theorem cl_bd (n : Int) : cl n ≤ 1073741823 := by unfold cl; split <;> (try split) <;> omega
def cube (n : Nat) : Nat := n * n * n
theorem cube_le {n : Nat} (h : n ≤ 1073741823) : cube n ≤ 1237940035827951479904665600 := by
  have h1 : n * n ≤ 1073741823 * 1073741823 := Nat.mul_le_mul h h
  have h2 : n * n * n ≤ 1073741823 * 1073741823 * 1073741823 := Nat.mul_le_mul h1 h
  unfold cube
  omega
theorem cube_mono {m n : Nat} (h : m ≤ n) : cube m ≤ cube n := Nat.mul_le_mul (Nat.mul_le_mul h h) h
theorem cube_pos {n : Nat} (h : 0 < n) : 0 < cube n := Nat.mul_pos (Nat.mul_pos h h) h
/-- How bad it is. -/
def badP (T S : Nat) : Nat := if T = 0 then 0 else if S = 0 then 10000 else min 10000 ((cube T * 200 + cube S) / (2 * cube S))
theorem badP_le (T S : Nat) : badP T S ≤ 10000 := by unfold badP; split <;> (try split) <;> omega
theorem over_iff (C M k : Nat) (hC : 0 < C) : over C M k = decide (M / (2 * C) ≤ k) := by
  unfold over
  rw [decide_eq_decide]
  have e : C * (2 * (k + 1)) = (k + 1) * (2 * C) := by rw [← Nat.mul_assoc, Nat.mul_comm]; rw [Nat.mul_comm C 2]
  rw [e, ← Nat.div_lt_iff_lt_mul (by omega)]
  omega

theorem cube_at {n : Nat} {m : Int} (hm : Hid (m = n)) (hn : Hid (n ≤ 1073741823)) (w : World) :
    Calls Try.prog 59 #[.int .u64 m] w fun e w' => e = .returned (.agg #[.int .u64 (lo (cube n)), .int .u64 (hi (cube n))]) ∧ Below w.heap.size w w' := by
  have e := hm.out
  subst e
  exact cube_any n hn.out w
theorem times_c {N n : Nat} {m : Int} (hm : Hid (m = n)) (h : Hid (N * n < 340282366920938463463374607431768211456 ∧ n < 18446744073709551616)) (w : World) :
    Calls Try.prog 60 #[.agg #[.int .u64 (lo N), .int .u64 (hi N)], .int .u64 m] w fun e w' => e = .returned (.agg #[.int .u64 (lo (N * n)), .int .u64 (hi (N * n))]) ∧ Below w.heap.size w w' := times_at hm h w
theorem plus_c {N K : Nat} (h : Hid (N + K < 340282366920938463463374607431768211456)) (w : World) :
    Calls Try.prog 61 #[.agg #[.int .u64 (lo N), .int .u64 (hi N)], .agg #[.int .u64 (lo K), .int .u64 (hi K)]] w fun e w' => e = .returned (.agg #[.int .u64 (lo (N + K)), .int .u64 (hi (N + K))]) ∧ Below w.heap.size w w' := plus_any N K h.out w
theorem cl_if (t : Int) : (if 1073741823 < (if t < 0 then 0 else t) then 1073741823 else if t < 0 then 0 else t) = ((cl t : Nat) : Int) := by
  unfold cl
  split <;> split <;> (try split) <;> omega
theorem badP_far {T S : Nat} (h : S ≤ T / 8) (hT : T ≠ 0) : badP T S = 10000 := by
  unfold badP
  rw [if_neg hT]
  split
  · rfl
  · rename_i hS
    have h8 : cube (8 * S) ≤ cube T := cube_mono (by omega)
    have e8 : cube (8 * S) = 512 * cube S := by
      unfold cube
      have a1 : 8 * S * (8 * S) = 64 * (S * S) := by rw [Nat.mul_mul_mul_comm]
      rw [a1, Nat.mul_mul_mul_comm]
    have hp := cube_pos (Nat.pos_of_ne_zero hS)
    have : 10000 ≤ (cube T * 200 + cube S) / (2 * cube S) := by
      rw [Nat.le_div_iff_mul_le (by omega)]
      omega
    omega

set_option maxRecDepth 100000 in
set_option maxHeartbeats 1000000 in
theorem bad_any (t s : Int) (w : World) :
    Calls Try.prog 40 #[.int .i64 t, .int .i64 s] w fun e w' => e = .returned (.int .i64 (badP (cl t) (cl s))) ∧ Below w.heap.size w w' := by
  have hT := cl_bd t
  have hS := cl_bd s
  obtain ⟨T, ET⟩ : ∃ T, Hid (cl t = T) := ⟨_, Lib.hid rfl⟩
  obtain ⟨S, ES⟩ : ∃ S, Hid (cl s = S) := ⟨_, Lib.hid rfl⟩
  rw [ET.out] at hT
  rw [ES.out] at hS
  rw [ET.out, ES.out]
  by_cases h0 : T = 0
  · subst h0
    rw [show badP 0 S = 0 by simp [badP]]
    go_enter Try.func40, Try.ntmps40
    go_upto_region 2 with fail
    rw [cl_if t, cl_if s, ET.out, ES.out]
    generalize (if t < 0 then (0 : Int) else t) = vt
    generalize (if s < 0 then (0 : Int) else s) = vs
    go_wp2
    go_ret
    exact ⟨rfl, Below.refl _ _⟩
  have h0' : ((T : Int) == 0) = false := by simpa using h0
  by_cases h1 : S = 0
  · subst h1
    rw [show badP T 0 = 10000 by simp [badP, h0]]
    clear h0
    go_enter Try.func40, Try.ntmps40
    go_upto_region 2 with fail
    rw [cl_if t, cl_if s, ET.out, ES.out]
    generalize (if t < 0 then (0 : Int) else t) = vt
    generalize (if s < 0 then (0 : Int) else s) = vs
    go_wp2
    go_ret
    exact ⟨rfl, Below.refl _ _⟩
  have h1' : ((S : Int) == 0) = false := by simpa using h1
  by_cases h8 : S ≤ T / 8
  · rw [badP_far h8 h0]
    have h8' : (S : Int) ≤ (T : Int) / 8 := by omega
    clear h0 h1 h8
    go_enter Try.func40, Try.ntmps40
    go_upto_region 2 with fail
    rw [cl_if t, cl_if s, ET.out, ES.out]
    generalize (if t < 0 then (0 : Int) else t) = vt
    generalize (if s < 0 then (0 : Int) else s) = vs
    go_wp2
    go_ret
    exact ⟨rfl, Below.refl _ _⟩
  have h8' : ¬ (S : Int) ≤ (T : Int) / 8 := by omega
  have hC := cube_le hS
  have hD := cube_le hT
  have hCp := cube_pos (Nat.pos_of_ne_zero h1)
  obtain ⟨q, hq, hq1, hq2, HP⟩ : ∃ q, q ≤ 10000 ∧ (∀ k, k < q → over (cube S) (cube T * 200 + cube S) k = false) ∧ (∀ k, q ≤ k → k < 10000 → over (cube S) (cube T * 200 + cube S) k = true) ∧ badP T S = q := by
    refine ⟨_, by unfold badP; rw [if_neg h0, if_neg h1]; omega, fun k hk => ?_, fun k hk hk2 => ?_, rfl⟩
    · rw [over_iff _ _ _ hCp]; unfold badP at hk; rw [if_neg h0, if_neg h1] at hk; exact decide_eq_false (by omega)
    · rw [over_iff _ _ _ hCp]; unfold badP at hk; rw [if_neg h0, if_neg h1] at hk; exact decide_eq_true (by omega)
  rw [HP]
  have H1 : Hid (cube T * 200 < 340282366920938463463374607431768211456 ∧ 200 < 18446744073709551616) := Lib.hid (by omega)
  have H2 : Hid (cube T * 200 + cube S < 340282366920938463463374607431768211456) := Lib.hid (by omega)
  have H3 : Hid (cube S ≤ 1238294767935480979882082047) := Lib.hid (by omega)
  have HS := Lib.hid hS; have HT := Lib.hid hT; have HQ1 := Lib.hid hq1; have HQ2 := Lib.hid hq2
  have HSE : ∀ w g5 g6, Hid _ := fun w g5 g6 => Lib.hid (search_any (cube S) (cube T * 200 + cube S) g5 g6 w)
  have EU : ∀ n : Nat, n ≤ 1073741823 → IntKind.u64.wrap (n : Int) = n := fun n hn => by rw [IntKind.wrap_u64]; omega
  have EUS := Lib.hid (EU S hS); have EUT := Lib.hid (EU T hT)
  clear h0 h1 h8 hC hD hCp HP hq1 hq2 EU
  go_enter Try.func40, Try.ntmps40
  go_upto_region 2 with fail
  rw [cl_if t, cl_if s, ET.out, ES.out]
  generalize (if t < 0 then (0 : Int) else t) = vt
  generalize (if s < 0 then (0 : Int) else s) = vs
  go_wp2_with fail
  refine (cube_at (n := S) (by first | exact Lib.hid rfl | exact Lib.hid (EUS.out)) HS _).mono ?_; rintro e w1 ⟨rfl, hb1⟩
  obtain ⟨g5, hg5⟩ : ∃ g5, g5 = w1.heap.size := ⟨_, rfl⟩
  have B5 : Box (w1.alloc (.cells #[.int .u64 (lo (cube S)), .int .u64 (hi (cube S))] 129)) g5 #[.int .u64 (lo (cube S)), .int .u64 (hi (cube S))] 129 := by rw [hg5]; exact Box.new _ _ _
  have HW2 : Below w.heap.size w (w1.alloc (.cells #[.int .u64 (lo (cube S)), .int .u64 (hi (cube S))] 129)) := below_alloc hb1 _
  go_upto_region 7 with fail
  rw [← hg5]
  clear hb1 hg5
  generalize (w1.alloc (.cells #[.int .u64 (lo (cube S)), .int .u64 (hi (cube S))] 129)) = W at *
  go_cut [6] (fun v wx => ∃ g6, v = .pointer (some ⟨g6, 0, none⟩) ∧ Box wx g6 #[.int .u64 (lo (cube T * 200 + cube S)), .int .u64 (hi (cube T * 200 + cube S))] 129 ∧ Below W.heap.size W wx)
  case first =>
    have e50 := B5.cell 0 rfl
    have e51 := B5.cell 1 rfl
    have HK : Hid (∀ w', Below W.heap.size W w' → Below W.heap.size W w' ∧ w'.cell? ⟨g5, 0, none⟩ = some (.int .u64 (lo (cube S))) ∧ w'.cell? ⟨g5, 1, none⟩ = some (.int .u64 (hi (cube S)))) := Lib.hid fun w' hb => ⟨hb, later hb e50, later hb e51⟩
    go_region_held3 (fun w' => Below W.heap.size W w' ∧ w'.cell? ⟨g5, 0, none⟩ = some (.int .u64 (lo (cube S))) ∧ w'.cell? ⟨g5, 1, none⟩ = some (.int .u64 (hi (cube S))))
      (first | exact HK.out _ (by repeat (first | exact Below.refl _ _ | apply below_drew | apply below_alloc | (refine below_set ?_ (by first | (simp; done) | exact (show Below W.heap.size W _ from by repeat (first | exact Below.refl _ _ | apply below_drew | apply below_alloc | (refine below_join ?_ (by assumption)))).size) _) | (refine below_join ?_ (by assumption)))))
      (first
        | (go_at_call 59; refine (cube_at (n := T) (by exact EUT) HT _).mono ?_; rintro e wq ⟨rfl, hbq⟩; (first | (have B6 := (Box.new _ _ _).below hbq; have z0 := B6.cell 0 rfl; have z1 := B6.cell 1 rfl; have z2 := B6.free 0; have z3 := B6.free 1) | (have B6 := (Box.new _ _ _).drew.below hbq; have z0 := B6.cell 0 rfl; have z1 := B6.cell 1 rfl; have z2 := B6.free 0; have z3 := B6.free 1) | (have B6 := B6.below hbq; have z0 := B6.cell 0 rfl; have z1 := B6.cell 1 rfl; have z2 := B6.free 0; have z3 := B6.free 1) | skip))
        | (go_at_call 60; refine (times_c (m := 200) (Lib.hid rfl) H1 _).mono ?_; rintro e wq ⟨rfl, hbq⟩; (first | (have B6 := (Box.new _ _ _).below hbq; have z0 := B6.cell 0 rfl; have z1 := B6.cell 1 rfl; have z2 := B6.free 0; have z3 := B6.free 1) | (have B6 := (Box.new _ _ _).drew.below hbq; have z0 := B6.cell 0 rfl; have z1 := B6.cell 1 rfl; have z2 := B6.free 0; have z3 := B6.free 1) | (have B6 := B6.below hbq; have z0 := B6.cell 0 rfl; have z1 := B6.cell 1 rfl; have z2 := B6.free 0; have z3 := B6.free 1) | skip))
        | (go_at_call 61; refine (plus_c H2 _).mono ?_; rintro e wq ⟨rfl, hbq⟩; (first | (have B6 := (Box.new _ _ _).below hbq; have z0 := B6.cell 0 rfl; have z1 := B6.cell 1 rfl; have z2 := B6.free 0; have z3 := B6.free 1) | (have B6 := (Box.new _ _ _).drew.below hbq; have z0 := B6.cell 0 rfl; have z1 := B6.cell 1 rfl; have z2 := B6.free 0; have z3 := B6.free 1) | (have B6 := B6.below hbq; have z0 := B6.cell 0 rfl; have z1 := B6.cell 1 rfl; have z2 := B6.free 0; have z3 := B6.free 1) | skip)))
    all_goals (go_wp2_with fail; go_meet)
    all_goals
      refine ⟨_, rfl, ?_, ?_⟩
      · repeat (first | exact Box.new _ _ _ | exact Box.set2 B6 | apply Box.drew)
      · first | exact (‹Below W.heap.size W _ ∧ _›).1
  case rest =>
    obtain ⟨g6, rfl, B6, HB⟩ := hcut
    have hmf : ∀ fn first cap w, (Instr.makeFunc fn first cap).run Try.prog w = .ok (.func fn first cap) w := fun _ _ _ _ => rfl
    go_wp2_with fail
    refine ((HSE _ g5 g6).out H3.out (B5.below HB) B6 q hq HQ1.out HQ2.out).mono ?_
    rintro e w3 ⟨rfl, hb3⟩
    go_wp2
    go_ret
    exact ⟨rfl, below_then HW2 HW2.size (below_join HB hb3)⟩

end Go.Proofs.Ytndpdbofoojkhaa.Bad
