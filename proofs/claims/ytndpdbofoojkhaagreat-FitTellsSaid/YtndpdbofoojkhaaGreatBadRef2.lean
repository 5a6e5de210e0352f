/- joined for a claim: BadPlain, BadRef, BadRef2 -/
import Derived.Test.YtndpdbofoojkhaaGreatBadFull
import Derived.Test.YtndpdbofoojkhaaGreatDraws
import Derived.Deep.DeepCutAuto
/- Badness: the plain laws. -/
namespace Go.Proofs.YtndpdbofoojkhaaGreat.Bad
open Go.RowKit Go.Proofs.YtndpdbofoojkhaaGreat.Kit
set_option linter.unusedVariables false
set_option linter.unusedSimpArgs false

theorem main_mono {a a' c c' : Nat} (hc : 0 < c) (hc' : 0 < c') (h : a ≤ a') (h2 : c' ≤ c) : (a * 200 + c) / (2 * c) ≤ (a' * 200 + c') / (2 * c') := by
  rw [Nat.le_div_iff_mul_le (by omega)]
  have hk := Nat.div_mul_le_self (a * 200 + c) (2 * c)
  generalize (a * 200 + c) / (2 * c) = k at *
  cases k with
  | zero => omega
  | succ k =>
    have e1 : (k + 1) * (2 * c) = 2 * (k * c) + 2 * c := by rw [Nat.add_mul, Nat.one_mul, Nat.mul_left_comm]
    have e2 : (k + 1) * (2 * c') = 2 * (k * c') + 2 * c' := by rw [Nat.add_mul, Nat.one_mul, Nat.mul_left_comm]
    have e3 : k * c' ≤ k * c := Nat.mul_le_mul_left k h2
    omega
theorem badP_mono {T T' S S' : Nat} (h : T ≤ T') (h2 : S' ≤ S) : badP T S ≤ badP T' S' := by
  by_cases hT : T = 0
  · simp [badP, hT]
  have hT' : T' ≠ 0 := by omega
  by_cases hS' : S' = 0
  · have := badP_le T S
    have e : badP T' S' = 10000 := by simp [badP, hT', hS']
    omega
  have hS : S ≠ 0 := by omega
  have := main_mono (cube_pos (Nat.pos_of_ne_zero hS)) (cube_pos (Nat.pos_of_ne_zero hS')) (cube_mono h) (cube_mono h2)
  simp only [badP, hT, hT', hS, hS', if_false]
  omega
theorem badP_same {T : Nat} (h : T ≠ 0) : badP T T = 100 := by
  have hc := cube_pos (Nat.pos_of_ne_zero h)
  simp only [badP, h, if_false]
  have : (cube T * 200 + cube T) / (2 * cube T) = 100 := by
    rw [Nat.div_eq_iff (by omega)]
    omega
  omega
theorem cl_mono {a b : Int} (h : a ≤ b) : cl a ≤ cl b := by
  unfold cl
  split <;> split <;> (try split) <;> (try split) <;> omega
theorem cl_zero {a : Int} : cl a = 0 ↔ a ≤ 0 := by
  unfold cl
  split <;> (try split) <;> omega
theorem cl_nat {n : Nat} (h : n ≤ 1073741823) : cl n = n := by
  unfold cl
  rw [if_neg (by omega), if_neg (by omega)]
  omega
theorem badP_zero (S : Nat) : badP 0 S = 0 := by simp [badP]
theorem badP_none {T : Nat} (h : T ≠ 0) : badP T 0 = 10000 := by simp [badP, h]
theorem cube_two (n : Nat) : cube (2 * n) = 8 * cube n := by
  unfold cube
  have a1 : 2 * n * (2 * n) = 4 * (n * n) := by rw [Nat.mul_mul_mul_comm]
  rw [a1, Nat.mul_mul_mul_comm]
theorem badP_twice (T S : Nat) : badP (2 * T) (2 * S) = badP T S := by
  unfold badP
  rw [cube_two, cube_two]
  have e : (8 * cube T * 200 + 8 * cube S) / (2 * (8 * cube S)) = (cube T * 200 + cube S) / (2 * cube S) := by
    have e1 : 8 * cube T * 200 + 8 * cube S = 8 * (cube T * 200 + cube S) := by omega
    have e2 : 2 * (8 * cube S) = 8 * (2 * cube S) := by omega
    rw [e1, e2, Nat.mul_div_mul_left _ _ (by omega)]
  rw [e]
  have t1 : (2 * T = 0) = (T = 0) := propext (by omega)
  have t2 : (2 * S = 0) = (S = 0) := propext (by omega)
  simp only [t1, t2]
theorem badP_eight (T S : Nat) : badP (2 * T) S = 10000 ∨ 8 * badP T S ≤ badP (2 * T) S + 4 ∧ badP (2 * T) S ≤ 8 * badP T S + 4 := by
  by_cases h1 : T = 0
  · subst h1; simp [badP]
  by_cases h2 : S = 0
  · subst h2; left; exact badP_none (by omega)
  have h3 : 2 * T ≠ 0 := by omega
  have hc := cube_pos (Nat.pos_of_ne_zero h2)
  simp only [badP, h1, h2, h3, if_false]
  rw [cube_two]
  generalize cube T = a at *
  generalize cube S = c at *
  have p1 := Nat.div_mul_le_self (a * 200 + c) (2 * c)
  have p2 := Nat.lt_div_mul_add (a := a * 200 + c) (b := 2 * c) (by omega)
  have q1 := Nat.div_mul_le_self (8 * a * 200 + c) (2 * c)
  have q2 := Nat.lt_div_mul_add (a := 8 * a * 200 + c) (b := 2 * c) (by omega)
  generalize (a * 200 + c) / (2 * c) = b at *
  generalize (8 * a * 200 + c) / (2 * c) = e at *
  have eb : b * (2 * c) = 2 * (b * c) := Nat.mul_left_comm _ _ _
  have ee : e * (2 * c) = 2 * (e * c) := Nat.mul_left_comm _ _ _
  rw [eb] at p1 p2
  rw [ee] at q1 q2
  have r1 : e ≤ 8 * b + 4 := by
    apply Nat.le_of_not_lt
    intro h
    have := Nat.mul_le_mul_right c (show 8 * b + 5 ≤ e by omega)
    rw [Nat.add_mul, Nat.mul_assoc] at this
    omega
  have r2 : 8 * b ≤ e + 4 := by
    apply Nat.le_of_not_lt
    intro h
    have := Nat.mul_le_mul_right c (show e + 5 ≤ 8 * b by omega)
    rw [Nat.add_mul, Nat.mul_assoc] at this
    omega
  omega
theorem badP_fits {T S : Nat} (hS : S ≠ 0) : badP T S * (2 * cube S) ≤ cube T * 200 + cube S ∧ (badP T S = 10000 ∨ cube T * 200 + cube S < (badP T S + 1) * (2 * cube S)) := by
  have hc := cube_pos (Nat.pos_of_ne_zero hS)
  by_cases hT : T = 0
  · subst hT
    simp [badP, cube] at *
    omega
  simp only [badP, hT, hS, if_false]
  have p1 := Nat.div_mul_le_self (cube T * 200 + cube S) (2 * cube S)
  have p2 := Nat.lt_div_mul_add (a := cube T * 200 + cube S) (b := 2 * cube S) (by omega)
  generalize (cube T * 200 + cube S) / (2 * cube S) = b at *
  have p3 := Nat.mul_le_mul_right (2 * cube S) (Nat.min_le_right 10000 b)
  refine ⟨Nat.le_trans p3 p1, ?_⟩
  by_cases h : b < 10000
  · right
    rw [Nat.min_eq_right (by omega), Nat.add_mul]
    omega
  · left; omega

end Go.Proofs.YtndpdbofoojkhaaGreat.Bad
/- The reference of layer 3: numbers of ten limbs. -/
namespace Go.Proofs.YtndpdbofoojkhaaGreat.Bad
open Go.RowKit Go.Proofs.YtndpdbofoojkhaaGreat.Kit
set_option linter.unusedVariables false
set_option linter.unusedSimpArgs false

/-- Limb number i. -/
def dg (N i : Nat) : Nat := N / 65536 ^ i % 65536
theorem dg_lt (N i : Nat) : dg N i < 65536 := Nat.mod_lt _ (by omega)
/-- The carry of a product, of a sum, behind i limbs. -/
def ct (N n i : Nat) : Nat := N % 65536 ^ i * n / 65536 ^ i
def cp (N K i : Nat) : Nat := (N % 65536 ^ i + K % 65536 ^ i) / 65536 ^ i
theorem pw_pos (i : Nat) : 0 < 65536 ^ i := Nat.pos_of_ne_zero (by simp)
theorem mod_next (N i : Nat) : N % 65536 ^ (i + 1) = N % 65536 ^ i + 65536 ^ i * dg N i := by
  unfold dg
  rw [Nat.pow_succ, Nat.mod_mul]
theorem ct_sum (N n i : Nat) : N % 65536 ^ (i + 1) * n / 65536 ^ i = dg N i * n + ct N n i := by
  unfold ct
  rw [mod_next, Nat.add_mul, Nat.mul_assoc, Nat.add_mul_div_left _ _ (pw_pos i), Nat.add_comm]
theorem ct_next (N n i : Nat) : ct N n (i + 1) = (dg N i * n + ct N n i) / 65536 := by
  rw [← ct_sum, Nat.div_div_eq_div_mul, ← Nat.pow_succ]; rfl
theorem ct_dg (N n i : Nat) : dg (N * n) i = (dg N i * n + ct N n i) % 65536 := by
  rw [← ct_sum]
  unfold dg
  have h := Nat.div_add_mod N (65536 ^ (i + 1))
  have e : N * n = N % 65536 ^ (i + 1) * n + 65536 ^ i * (65536 * (N / 65536 ^ (i + 1) * n)) := by
    have h2 : N * n = (65536 ^ (i + 1) * (N / 65536 ^ (i + 1)) + N % 65536 ^ (i + 1)) * n := by rw [h]
    rw [h2, Nat.add_mul, Nat.add_comm, Nat.pow_succ, ← Nat.mul_assoc, ← Nat.mul_assoc]
  rw [e, Nat.add_mul_div_left _ _ (pw_pos i), Nat.add_mul_mod_self_left]
theorem ct_le (N n i : Nat) : ct N n i ≤ n := by
  unfold ct
  have h : N % 65536 ^ i * n ≤ 65536 ^ i * n := Nat.mul_le_mul_right n (Nat.le_of_lt (Nat.mod_lt _ (pw_pos i)))
  have := Nat.div_le_div_right (c := 65536 ^ i) h
  rwa [Nat.mul_div_cancel_left _ (pw_pos i)] at this
theorem ct_zero (N n : Nat) : ct N n 0 = 0 := by simp [ct, Nat.mod_one]
theorem cp_sum (N K i : Nat) : (N % 65536 ^ (i + 1) + K % 65536 ^ (i + 1)) / 65536 ^ i = dg N i + dg K i + cp N K i := by
  unfold cp
  have e : N % 65536 ^ (i + 1) + K % 65536 ^ (i + 1) = N % 65536 ^ i + K % 65536 ^ i + 65536 ^ i * (dg N i + dg K i) := by
    rw [mod_next, mod_next, Nat.mul_add]; omega
  rw [e, Nat.add_mul_div_left _ _ (pw_pos i), Nat.add_comm]
theorem cp_next (N K i : Nat) : cp N K (i + 1) = (dg N i + dg K i + cp N K i) / 65536 := by
  rw [← cp_sum, Nat.div_div_eq_div_mul, ← Nat.pow_succ]; rfl
theorem cp_dg (N K i : Nat) : dg (N + K) i = (dg N i + dg K i + cp N K i) % 65536 := by
  rw [← cp_sum]
  unfold dg
  have h := Nat.div_add_mod N (65536 ^ (i + 1))
  have h' := Nat.div_add_mod K (65536 ^ (i + 1))
  have e : N + K = N % 65536 ^ (i + 1) + K % 65536 ^ (i + 1) + 65536 ^ i * (65536 * (N / 65536 ^ (i + 1) + K / 65536 ^ (i + 1))) := by
    have hq : 65536 ^ i * (65536 * (N / 65536 ^ (i + 1) + K / 65536 ^ (i + 1))) = 65536 ^ (i + 1) * (N / 65536 ^ (i + 1)) + 65536 ^ (i + 1) * (K / 65536 ^ (i + 1)) := by rw [← Nat.mul_assoc, ← Nat.pow_succ, Nat.mul_add]
    rw [hq]; omega
  rw [e, Nat.add_mul_div_left _ _ (pw_pos i), Nat.add_mul_mod_self_left]
theorem cp_le (N K i : Nat) : cp N K i ≤ 1 := by
  unfold cp
  have h1 := Nat.mod_lt N (pw_pos i)
  have h2 := Nat.mod_lt K (pw_pos i)
  have : (N % 65536 ^ i + K % 65536 ^ i) / 65536 ^ i < 2 := by
    rw [Nat.div_lt_iff_lt_mul (pw_pos i)]; omega
  omega
theorem cp_zero (N K : Nat) : cp N K 0 = 0 := by simp [cp, Nat.mod_one]

/-- The ten limbs as cells; the first k of them, the others 0. -/
def lim (N : Nat) : Array Value := #[.int .i64 (dg N 0), .int .i64 (dg N 1), .int .i64 (dg N 2), .int .i64 (dg N 3), .int .i64 (dg N 4), .int .i64 (dg N 5), .int .i64 (dg N 6), .int .i64 (dg N 7), .int .i64 (dg N 8), .int .i64 (dg N 9)]
def pz (N k i : Nat) : Int := if i < k then (dg N i : Int) else 0
def part (N k : Nat) : Array Value := #[.int .i64 (pz N k 0), .int .i64 (pz N k 1), .int .i64 (pz N k 2), .int .i64 (pz N k 3), .int .i64 (pz N k 4), .int .i64 (pz N k 5), .int .i64 (pz N k 6), .int .i64 (pz N k 7), .int .i64 (pz N k 8), .int .i64 (pz N k 9)]
theorem part_all (N : Nat) : part N 10 = lim N := rfl
theorem part_none (N : Nat) : part N 0 = #[.int .i64 0, .int .i64 0, .int .i64 0, .int .i64 0, .int .i64 0, .int .i64 0, .int .i64 0, .int .i64 0, .int .i64 0, .int .i64 0] := rfl
theorem lim_at (N i : Nat) (h : i < 10) : (lim N)[i]? = some (.int .i64 (dg N i)) := by
  match i, h with
  | 0, _ => rfl | 1, _ => rfl | 2, _ => rfl | 3, _ => rfl | 4, _ => rfl | 5, _ => rfl | 6, _ => rfl | 7, _ => rfl | 8, _ => rfl | 9, _ => rfl
theorem part_at (N k i : Nat) (h : i < 10) : (part N k)[i]? = some (.int .i64 (pz N k i)) := by
  match i, h with
  | 0, _ => rfl | 1, _ => rfl | 2, _ => rfl | 3, _ => rfl | 4, _ => rfl | 5, _ => rfl | 6, _ => rfl | 7, _ => rfl | 8, _ => rfl | 9, _ => rfl
theorem part_set (N i : Nat) (h : i < 10) : (part N i).setIfInBounds i (.int .i64 (dg N i)) = part N (i + 1) := by
  match i, h with
  | 0, _ => rfl | 1, _ => rfl | 2, _ => rfl | 3, _ => rfl | 4, _ => rfl | 5, _ => rfl | 6, _ => rfl | 7, _ => rfl | 8, _ => rfl | 9, _ => rfl

theorem held_any (n : Int) (w : World) :
    Calls Tryz.prog 100 #[.int .i64 n] w fun e w' => e = .returned (.int .i64 (cl n : Nat)) ∧ w = w' := by
  rw [← cl_if n]
  go_enter Tryz.func100, Tryz.ntmps100
  go_wp2
  all_goals
    go_ret
    refine ⟨ret_int rfl ?_, rfl⟩
    (repeat (split <;> try omega)) <;> omega

theorem of_any (n : Nat) (hn : n ≤ 1073741823) (w : World) :
    Calls Tryz.prog 102 #[.int .i64 n] w fun e w' => e = .returned (.agg (lim n)) ∧ Below w.heap.size w w' := by
  have e0 : Hid ((n : Int) % 65536 = dg n 0) := Lib.hid (by simp [dg])
  have e1 : Hid ((n : Int) / 65536 = dg n 1) := Lib.hid (by unfold dg; omega)
  have e2 : ∀ i, 2 ≤ i → dg n i = 0 := fun i hi => by
    unfold dg
    have : n < 65536 ^ i := Nat.lt_of_lt_of_le (show n < 65536 ^ 2 by omega) (Nat.pow_le_pow_right (by omega) hi)
    rw [Nat.div_eq_of_lt this]
  have eL : lim n = #[.int .i64 (dg n 0), .int .i64 (dg n 1), .int .i64 0, .int .i64 0, .int .i64 0, .int .i64 0, .int .i64 0, .int .i64 0, .int .i64 0, .int .i64 0] := by
    unfold lim; simp [e2]
  rw [eL]
  clear e2 eL
  go_enter Tryz.func102, Tryz.ntmps102
  go_wp2
  rw [e0.out, e1.out]
  exact bodyPost_ret (v := .agg _) (by simp [results, Tryz.results102, go_sem]) rfl ⟨rfl, by repeat (first | exact Below.refl _ _ | apply below_alloc)⟩

theorem wrap64_nn (n : Nat) (h : n ≤ 9223372036854775807) : wrap64 (n : Int) = n := by
  unfold wrap64; omega
theorem three (w : World) (a b c : Array Value) (t : TypeId) :
    Box (((w.alloc (.cells a t)).alloc (.cells b t)).alloc (.cells c t)) w.heap.size a t ∧ Box (((w.alloc (.cells a t)).alloc (.cells b t)).alloc (.cells c t)) (w.heap.size + 1) b t ∧
    Box (((w.alloc (.cells a t)).alloc (.cells b t)).alloc (.cells c t)) (w.heap.size + 1 + 1) c t ∧ Below w.heap.size w (((w.alloc (.cells a t)).alloc (.cells b t)).alloc (.cells c t)) := by
  refine ⟨((Box.new w a t).alloc _).alloc _, ?_, ?_, below_alloc (below_alloc (below_alloc (Below.refl _ w) _) _) _⟩
  · have := (Box.new (w.alloc (.cells a t)) b t).alloc (.cells c t)
    simpa using this
  · have := Box.new ((w.alloc (.cells a t)).alloc (.cells b t)) c t
    simpa using this

theorem set_ten {w : World} {W : World} {g : Nat} {t : TypeId} {u0 u1 u2 u3 u4 u5 u6 u7 u8 u9 v0 v1 v2 v3 v4 v5 v6 v7 v8 v9 : Value} (h : Box w g #[u0, u1, u2, u3, u4, u5, u6, u7, u8, u9] t) (hb : Below W.heap.size W w) (hg : W.heap.size ≤ g) :
    Box ((((((((((w.setCell ⟨g, 0, none⟩ v0).setCell ⟨g, 1, none⟩ v1).setCell ⟨g, 2, none⟩ v2).setCell ⟨g, 3, none⟩ v3).setCell ⟨g, 4, none⟩ v4).setCell ⟨g, 5, none⟩ v5).setCell ⟨g, 6, none⟩ v6).setCell ⟨g, 7, none⟩ v7).setCell ⟨g, 8, none⟩ v8).setCell ⟨g, 9, none⟩ v9) g #[v0, v1, v2, v3, v4, v5, v6, v7, v8, v9] t ∧ Below W.heap.size W ((((((((((w.setCell ⟨g, 0, none⟩ v0).setCell ⟨g, 1, none⟩ v1).setCell ⟨g, 2, none⟩ v2).setCell ⟨g, 3, none⟩ v3).setCell ⟨g, 4, none⟩ v4).setCell ⟨g, 5, none⟩ v5).setCell ⟨g, 6, none⟩ v6).setCell ⟨g, 7, none⟩ v7).setCell ⟨g, 8, none⟩ v8).setCell ⟨g, 9, none⟩ v9) := by
  have h0 : Box _ g #[v0, u1, u2, u3, u4, u5, u6, u7, u8, u9] t := h.set 0 v0
  have h1 : Box _ g #[v0, v1, u2, u3, u4, u5, u6, u7, u8, u9] t := h0.set 1 v1
  have h2 : Box _ g #[v0, v1, v2, u3, u4, u5, u6, u7, u8, u9] t := h1.set 2 v2
  have h3 : Box _ g #[v0, v1, v2, v3, u4, u5, u6, u7, u8, u9] t := h2.set 3 v3
  have h4 : Box _ g #[v0, v1, v2, v3, v4, u5, u6, u7, u8, u9] t := h3.set 4 v4
  have h5 : Box _ g #[v0, v1, v2, v3, v4, v5, u6, u7, u8, u9] t := h4.set 5 v5
  have h6 : Box _ g #[v0, v1, v2, v3, v4, v5, v6, u7, u8, u9] t := h5.set 6 v6
  have h7 : Box _ g #[v0, v1, v2, v3, v4, v5, v6, v7, u8, u9] t := h6.set 7 v7
  have h8 : Box _ g #[v0, v1, v2, v3, v4, v5, v6, v7, v8, u9] t := h7.set 8 v8
  have h9 : Box _ g #[v0, v1, v2, v3, v4, v5, v6, v7, v8, v9] t := h8.set 9 v9
  exact ⟨h9, (below_set (below_set (below_set (below_set (below_set (below_set (below_set (below_set (below_set (below_set hb hg _) hg _) hg _) hg _) hg _) hg _) hg _) hg _) hg _) hg _)⟩

set_option maxHeartbeats 1000000 in
theorem rtimes_any (N n : Nat) (hn : n ≤ 1099511627776) (w : World) :
    Calls Tryz.prog 101 #[.agg (lim N), .int .i64 n] w fun e w' => e = .returned (.agg (lim (N * n))) ∧ Below w.heap.size w w' := by
  rw [show lim N = #[.int .i64 (dg N 0), .int .i64 (dg N 1), .int .i64 (dg N 2), .int .i64 (dg N 3), .int .i64 (dg N 4), .int .i64 (dg N 5), .int .i64 (dg N 6), .int .i64 (dg N 7), .int .i64 (dg N 8), .int .i64 (dg N 9)] from rfl]
  obtain ⟨r, hr⟩ : ∃ r, Hid (lim (N * n) = r) := ⟨_, Lib.hid rfl⟩
  rw [hr.out]
  go_enter Tryz.func101, Tryz.ntmps101
  go_wp2
  obtain ⟨B2, B4, B5, HB⟩ := three w #[.int .i64 (dg N 0), .int .i64 (dg N 1), .int .i64 (dg N 2), .int .i64 (dg N 3), .int .i64 (dg N 4), .int .i64 (dg N 5), .int .i64 (dg N 6), .int .i64 (dg N 7), .int .i64 (dg N 8), .int .i64 (dg N 9)] #[.int .i64 0, .int .i64 0, .int .i64 0, .int .i64 0, .int .i64 0, .int .i64 0, .int .i64 0, .int .i64 0, .int .i64 0, .int .i64 0] #[.int .i64 0, .int .i64 0, .int .i64 0, .int .i64 0, .int .i64 0, .int .i64 0, .int .i64 0, .int .i64 0, .int .i64 0, .int .i64 0] 170
  generalize World.alloc (World.alloc (World.alloc w _) _) _ = W at B2 B4 B5 HB ⊢
  go_loopw [6, 7] (fun o i wr => ∃ k : Nat, k ≤ 10 ∧ i = .int .i64 k ∧ o = .int .i64 (ct N n k) ∧ Box wr w.heap.size (lim N) 170 ∧ Box wr (w.heap.size + 1) #[.int .i64 0, .int .i64 0, .int .i64 0, .int .i64 0, .int .i64 0, .int .i64 0, .int .i64 0, .int .i64 0, .int .i64 0, .int .i64 0] 170 ∧ Box wr (w.heap.size + 1 + 1) (part (N * n) k) 170 ∧ Below w.heap.size w wr) (fun _ i _ => 10 - (intOf i).toNat)
  case atStart => exact ⟨0, by omega, rfl, by rw [ct_zero]; rfl, B2, B4, B5, HB⟩
  case round =>
    obtain ⟨k, hk, rfl, rfl, C2, C4, C5, HC⟩ := hrel
    clear B2 B4 B5 HB
    by_cases hk2 : k < 10
    · have e2 : _ = some (Value.int .i64 (dg N k)) := C2.cell k (lim_at N k hk2)
      have e5 : _ = some (Value.int .i64 (pz (N * n) k k)) := C5.cell k (part_at _ k k hk2)
      have f5 := C5.free k
      obtain ⟨S, hS⟩ : ∃ S, dg N k * n + ct N n k = S := ⟨_, rfl⟩
      have b1 : dg N k * n ≤ 65535 * 1099511627776 := Nat.mul_le_mul (by have := dg_lt N k; omega) hn
      have b2 := ct_le N n k
      have ES : Hid (wrap64 (wrap64 ((dg N k : Int) * n) + (ct N n k : Int)) = (S : Int)) := Lib.hid (by
        rw [show (dg N k : Int) * n = ((dg N k * n : Nat) : Int) by simp only [Int.natCast_mul], wrap64_nn _ (by omega), ← Int.natCast_add, wrap64_nn _ (by omega), hS])
      have EM : Hid ((S : Int) % 65536 = (dg (N * n) k : Int)) := Lib.hid (by rw [ct_dg, hS]; omega)
      have ED : Hid ((S : Int) / 65536 = (ct N n (k + 1) : Int)) := Lib.hid (by rw [ct_next, hS]; omega)
      have hSb : S ≤ 9223372036854775807 := by omega
      clear b1 b2 hS
      go_upto_region 7 with fail
      rw [ES.out]
      go_wp2
      rw [EM.out, ED.out]
      go_roundw
      case rel =>
        refine ⟨k + 1, by omega, rfl, rfl, C2.far (by first | (simp; done) | (simp; omega)) _, C4.far (by first | (simp; done) | (simp; omega)) _, ?_, below_set HC (by first | (simp; done) | (simp; omega)) _⟩
        rw [← part_set _ k hk2]
        exact C5.set k _
      case measure => simp [intOf]; omega
    · obtain rfl : k = 10 := by omega
      rw [part_all] at C5
      have c5x0 : _ = some (Value.int .i64 (dg (N * n) 0)) := C5.cell 0 rfl
      have c5x1 : _ = some (Value.int .i64 (dg (N * n) 1)) := C5.cell 1 rfl
      have c5x2 : _ = some (Value.int .i64 (dg (N * n) 2)) := C5.cell 2 rfl
      have c5x3 : _ = some (Value.int .i64 (dg (N * n) 3)) := C5.cell 3 rfl
      have c5x4 : _ = some (Value.int .i64 (dg (N * n) 4)) := C5.cell 4 rfl
      have c5x5 : _ = some (Value.int .i64 (dg (N * n) 5)) := C5.cell 5 rfl
      have c5x6 : _ = some (Value.int .i64 (dg (N * n) 6)) := C5.cell 6 rfl
      have c5x7 : _ = some (Value.int .i64 (dg (N * n) 7)) := C5.cell 7 rfl
      have c5x8 : _ = some (Value.int .i64 (dg (N * n) 8)) := C5.cell 8 rfl
      have c5x9 : _ = some (Value.int .i64 (dg (N * n) 9)) := C5.cell 9 rfl
      have c4x0 : _ = some (Value.int .i64 0) := C4.cell 0 rfl
      have c4f0 := C4.free 0
      have c4x1 : _ = some (Value.int .i64 0) := C4.cell 1 rfl
      have c4f1 := C4.free 1
      have c4x2 : _ = some (Value.int .i64 0) := C4.cell 2 rfl
      have c4f2 := C4.free 2
      have c4x3 : _ = some (Value.int .i64 0) := C4.cell 3 rfl
      have c4f3 := C4.free 3
      have c4x4 : _ = some (Value.int .i64 0) := C4.cell 4 rfl
      have c4f4 := C4.free 4
      have c4x5 : _ = some (Value.int .i64 0) := C4.cell 5 rfl
      have c4f5 := C4.free 5
      have c4x6 : _ = some (Value.int .i64 0) := C4.cell 6 rfl
      have c4f6 := C4.free 6
      have c4x7 : _ = some (Value.int .i64 0) := C4.cell 7 rfl
      have c4f7 := C4.free 7
      have c4x8 : _ = some (Value.int .i64 0) := C4.cell 8 rfl
      have c4f8 := C4.free 8
      have c4x9 : _ = some (Value.int .i64 0) := C4.cell 9 rfl
      have c4f9 := C4.free 9
      go_wp2
      obtain ⟨C6, HC6⟩ := set_ten (v0 := .int .i64 (dg (N * n) 0)) (v1 := .int .i64 (dg (N * n) 1)) (v2 := .int .i64 (dg (N * n) 2)) (v3 := .int .i64 (dg (N * n) 3)) (v4 := .int .i64 (dg (N * n) 4)) (v5 := .int .i64 (dg (N * n) 5)) (v6 := .int .i64 (dg (N * n) 6)) (v7 := .int .i64 (dg (N * n) 7)) (v8 := .int .i64 (dg (N * n) 8)) (v9 := .int .i64 (dg (N * n) 9)) C4 HC (by omega)
      generalize World.setCell _ ⟨w.heap.size + 1, 9, none⟩ _ = W' at C6 HC6 ⊢
      have d0 : _ = some (Value.int .i64 (dg (N * n) 0)) := C6.cell 0 rfl
      have d1 : _ = some (Value.int .i64 (dg (N * n) 1)) := C6.cell 1 rfl
      have d2 : _ = some (Value.int .i64 (dg (N * n) 2)) := C6.cell 2 rfl
      have d3 : _ = some (Value.int .i64 (dg (N * n) 3)) := C6.cell 3 rfl
      have d4 : _ = some (Value.int .i64 (dg (N * n) 4)) := C6.cell 4 rfl
      have d5 : _ = some (Value.int .i64 (dg (N * n) 5)) := C6.cell 5 rfl
      have d6 : _ = some (Value.int .i64 (dg (N * n) 6)) := C6.cell 6 rfl
      have d7 : _ = some (Value.int .i64 (dg (N * n) 7)) := C6.cell 7 rfl
      have d8 : _ = some (Value.int .i64 (dg (N * n) 8)) := C6.cell 8 rfl
      have d9 : _ = some (Value.int .i64 (dg (N * n) 9)) := C6.cell 9 rfl
      exact bodyPost_ret (v := .agg r) (by rw [← hr.out]; unfold lim; simp [results, Tryz.results101, go_sem, d0, d1, d2, d3, d4, d5, d6, d7, d8, d9]) rfl ⟨rfl, HC6⟩

end Go.Proofs.YtndpdbofoojkhaaGreat.Bad
/- The reference of layer 3: sums and comparisons of ten limbs. -/
namespace Go.Proofs.YtndpdbofoojkhaaGreat.Bad
open Go.RowKit Go.Proofs.YtndpdbofoojkhaaGreat.Kit
set_option linter.unusedVariables false
set_option linter.unusedSimpArgs false

theorem box_drewN {w : World} {g : Nat} {cs : Array Value} {t : TypeId} (h : Box w g cs t) (n : Nat) : Box (w.drewN n) g cs t := h
theorem four (w : World) (a b c d : Array Value) (t : TypeId) :
    Box ((((w.alloc (.cells a t)).alloc (.cells b t)).alloc (.cells c t)).alloc (.cells d t)) w.heap.size a t ∧ Box ((((w.alloc (.cells a t)).alloc (.cells b t)).alloc (.cells c t)).alloc (.cells d t)) (w.heap.size + 1) b t ∧ Box ((((w.alloc (.cells a t)).alloc (.cells b t)).alloc (.cells c t)).alloc (.cells d t)) (w.heap.size + 1 + 1) c t ∧ Box ((((w.alloc (.cells a t)).alloc (.cells b t)).alloc (.cells c t)).alloc (.cells d t)) (w.heap.size + 1 + 1 + 1) d t ∧ Below w.heap.size w ((((w.alloc (.cells a t)).alloc (.cells b t)).alloc (.cells c t)).alloc (.cells d t)) := by
  obtain ⟨h1, h2, h3, h4⟩ := three w a b c t
  refine ⟨h1.alloc _, h2.alloc _, h3.alloc _, ?_, below_alloc h4 _⟩
  have := Box.new (((w.alloc (.cells a t)).alloc (.cells b t)).alloc (.cells c t)) d t
  simpa using this

set_option maxHeartbeats 1000000 in
theorem rplus_any (N K : Nat) (w : World) :
    Calls Tryz.prog 103 #[.agg (lim N), .agg (lim K)] w fun e w' => e = .returned (.agg (lim (N + K))) ∧ Below w.heap.size w w' := by
  rw [show lim N = #[.int .i64 (dg N 0), .int .i64 (dg N 1), .int .i64 (dg N 2), .int .i64 (dg N 3), .int .i64 (dg N 4), .int .i64 (dg N 5), .int .i64 (dg N 6), .int .i64 (dg N 7), .int .i64 (dg N 8), .int .i64 (dg N 9)] from rfl, show lim K = #[.int .i64 (dg K 0), .int .i64 (dg K 1), .int .i64 (dg K 2), .int .i64 (dg K 3), .int .i64 (dg K 4), .int .i64 (dg K 5), .int .i64 (dg K 6), .int .i64 (dg K 7), .int .i64 (dg K 8), .int .i64 (dg K 9)] from rfl]
  obtain ⟨r, hr⟩ : ∃ r, Hid (lim (N + K) = r) := ⟨_, Lib.hid rfl⟩
  rw [hr.out]
  go_enter Tryz.func103, Tryz.ntmps103
  go_wp2
  obtain ⟨B2, B3, B4, B5, HB⟩ := four w #[.int .i64 (dg N 0), .int .i64 (dg N 1), .int .i64 (dg N 2), .int .i64 (dg N 3), .int .i64 (dg N 4), .int .i64 (dg N 5), .int .i64 (dg N 6), .int .i64 (dg N 7), .int .i64 (dg N 8), .int .i64 (dg N 9)] #[.int .i64 (dg K 0), .int .i64 (dg K 1), .int .i64 (dg K 2), .int .i64 (dg K 3), .int .i64 (dg K 4), .int .i64 (dg K 5), .int .i64 (dg K 6), .int .i64 (dg K 7), .int .i64 (dg K 8), .int .i64 (dg K 9)] #[.int .i64 0, .int .i64 0, .int .i64 0, .int .i64 0, .int .i64 0, .int .i64 0, .int .i64 0, .int .i64 0, .int .i64 0, .int .i64 0] #[.int .i64 0, .int .i64 0, .int .i64 0, .int .i64 0, .int .i64 0, .int .i64 0, .int .i64 0, .int .i64 0, .int .i64 0, .int .i64 0] 170
  generalize World.alloc (World.alloc (World.alloc (World.alloc w _) _) _) _ = W at B2 B3 B4 B5 HB ⊢
  go_loopw [6, 7] (fun o i wr => ∃ k : Nat, k ≤ 10 ∧ i = .int .i64 k ∧ o = .int .i64 (cp N K k) ∧ Box wr w.heap.size (lim N) 170 ∧ Box wr (w.heap.size + 1) (lim K) 170 ∧ Box wr (w.heap.size + 1 + 1) #[.int .i64 0, .int .i64 0, .int .i64 0, .int .i64 0, .int .i64 0, .int .i64 0, .int .i64 0, .int .i64 0, .int .i64 0, .int .i64 0] 170 ∧ Box wr (w.heap.size + 1 + 1 + 1) (part (N + K) k) 170 ∧ Below w.heap.size w wr) (fun _ i _ => 10 - (intOf i).toNat)
  case atStart => exact ⟨0, by omega, rfl, by rw [cp_zero]; rfl, B2, B3, B4, B5, HB⟩
  case round =>
    obtain ⟨k, hk, rfl, rfl, C2, C3, C4, C5, HC⟩ := hrel
    clear B2 B3 B4 B5 HB
    by_cases hk2 : k < 10
    · have e2 : _ = some (Value.int .i64 (dg N k)) := C2.cell k (lim_at N k hk2)
      have e3 : _ = some (Value.int .i64 (dg K k)) := C3.cell k (lim_at K k hk2)
      have e5 : _ = some (Value.int .i64 (pz (N + K) k k)) := C5.cell k (part_at _ k k hk2)
      have f5 := C5.free k
      obtain ⟨S, hS⟩ : ∃ S, dg N k + dg K k + cp N K k = S := ⟨_, rfl⟩
      have b1 := dg_lt N k
      have b3 := dg_lt K k
      have b2 := cp_le N K k
      have EM : Hid ((S : Int) % 65536 = (dg (N + K) k : Int)) := Lib.hid (by rw [cp_dg, hS]; omega)
      have ED : Hid ((S : Int) / 65536 = (cp N K (k + 1) : Int)) := Lib.hid (by rw [cp_next, hS]; omega)
      have ES : Hid (wrap64 (wrap64 ((dg N k : Int) + (dg K k : Int)) + (cp N K k : Int)) = (S : Int)) := Lib.hid (by unfold wrap64; omega)
      have hSb : S ≤ 9223372036854775807 := by omega
      clear b1 b2 b3 hS
      go_upto_region 6 with fail
      go_quiet (fail)
      go_upto_region 7 with fail
      rw [ES.out]
      go_wp2
      rw [EM.out, ED.out]
      go_roundw
      case rel =>
        refine ⟨k + 1, by omega, rfl, rfl, (box_drewN C2 _).far (by first | (simp; done) | (simp; omega)) _, (box_drewN C3 _).far (by first | (simp; done) | (simp; omega)) _, (box_drewN C4 _).far (by first | (simp; done) | (simp; omega)) _, ?_, below_set (below_drewN HC _) (by first | (simp; done) | (simp; omega)) _⟩
        rw [← part_set _ k hk2]
        exact (box_drewN C5 _).set k _
      case measure => simp [intOf]; omega
    · obtain rfl : k = 10 := by omega
      rw [part_all] at C5
      have c5x0 : _ = some (Value.int .i64 (dg (N + K) 0)) := C5.cell 0 rfl
      have c5x1 : _ = some (Value.int .i64 (dg (N + K) 1)) := C5.cell 1 rfl
      have c5x2 : _ = some (Value.int .i64 (dg (N + K) 2)) := C5.cell 2 rfl
      have c5x3 : _ = some (Value.int .i64 (dg (N + K) 3)) := C5.cell 3 rfl
      have c5x4 : _ = some (Value.int .i64 (dg (N + K) 4)) := C5.cell 4 rfl
      have c5x5 : _ = some (Value.int .i64 (dg (N + K) 5)) := C5.cell 5 rfl
      have c5x6 : _ = some (Value.int .i64 (dg (N + K) 6)) := C5.cell 6 rfl
      have c5x7 : _ = some (Value.int .i64 (dg (N + K) 7)) := C5.cell 7 rfl
      have c5x8 : _ = some (Value.int .i64 (dg (N + K) 8)) := C5.cell 8 rfl
      have c5x9 : _ = some (Value.int .i64 (dg (N + K) 9)) := C5.cell 9 rfl
      have c4x0 : _ = some (Value.int .i64 0) := C4.cell 0 rfl
      have c4f0 := C4.free 0
      have c4x1 : _ = some (Value.int .i64 0) := C4.cell 1 rfl
      have c4f1 := C4.free 1
      have c4x2 : _ = some (Value.int .i64 0) := C4.cell 2 rfl
      have c4f2 := C4.free 2
      have c4x3 : _ = some (Value.int .i64 0) := C4.cell 3 rfl
      have c4f3 := C4.free 3
      have c4x4 : _ = some (Value.int .i64 0) := C4.cell 4 rfl
      have c4f4 := C4.free 4
      have c4x5 : _ = some (Value.int .i64 0) := C4.cell 5 rfl
      have c4f5 := C4.free 5
      have c4x6 : _ = some (Value.int .i64 0) := C4.cell 6 rfl
      have c4f6 := C4.free 6
      have c4x7 : _ = some (Value.int .i64 0) := C4.cell 7 rfl
      have c4f7 := C4.free 7
      have c4x8 : _ = some (Value.int .i64 0) := C4.cell 8 rfl
      have c4f8 := C4.free 8
      have c4x9 : _ = some (Value.int .i64 0) := C4.cell 9 rfl
      have c4f9 := C4.free 9
      go_wp2
      obtain ⟨C6, HC6⟩ := set_ten (v0 := .int .i64 (dg (N + K) 0)) (v1 := .int .i64 (dg (N + K) 1)) (v2 := .int .i64 (dg (N + K) 2)) (v3 := .int .i64 (dg (N + K) 3)) (v4 := .int .i64 (dg (N + K) 4)) (v5 := .int .i64 (dg (N + K) 5)) (v6 := .int .i64 (dg (N + K) 6)) (v7 := .int .i64 (dg (N + K) 7)) (v8 := .int .i64 (dg (N + K) 8)) (v9 := .int .i64 (dg (N + K) 9)) C4 HC (by omega)
      generalize World.setCell _ ⟨w.heap.size + 1 + 1, 9, none⟩ _ = W' at C6 HC6 ⊢
      have d0 : _ = some (Value.int .i64 (dg (N + K) 0)) := C6.cell 0 rfl
      have d1 : _ = some (Value.int .i64 (dg (N + K) 1)) := C6.cell 1 rfl
      have d2 : _ = some (Value.int .i64 (dg (N + K) 2)) := C6.cell 2 rfl
      have d3 : _ = some (Value.int .i64 (dg (N + K) 3)) := C6.cell 3 rfl
      have d4 : _ = some (Value.int .i64 (dg (N + K) 4)) := C6.cell 4 rfl
      have d5 : _ = some (Value.int .i64 (dg (N + K) 5)) := C6.cell 5 rfl
      have d6 : _ = some (Value.int .i64 (dg (N + K) 6)) := C6.cell 6 rfl
      have d7 : _ = some (Value.int .i64 (dg (N + K) 7)) := C6.cell 7 rfl
      have d8 : _ = some (Value.int .i64 (dg (N + K) 8)) := C6.cell 8 rfl
      have d9 : _ = some (Value.int .i64 (dg (N + K) 9)) := C6.cell 9 rfl
      exact bodyPost_ret (v := .agg r) (by rw [← hr.out]; unfold lim; simp [results, Tryz.results103, go_sem, d0, d1, d2, d3, d4, d5, d6, d7, d8, d9]) rfl ⟨rfl, HC6⟩

theorem dv_next (N j : Nat) : N / 65536 ^ j = 65536 * (N / 65536 ^ (j + 1)) + dg N j := by
  unfold dg
  have h := Nat.div_add_mod (N / 65536 ^ j) 65536
  rw [Nat.div_div_eq_div_mul, ← Nat.pow_succ] at h
  exact h.symm
theorem dv_same {N K j : Nat} (h : N / 65536 ^ (j + 1) = K / 65536 ^ (j + 1)) (hd : dg N j = dg K j) : N / 65536 ^ j = K / 65536 ^ j := by
  rw [dv_next N j, dv_next K j, h, hd]
theorem dv_lt {N K j : Nat} (h : N / 65536 ^ (j + 1) = K / 65536 ^ (j + 1)) (hd : dg N j ≠ dg K j) : decide (dg N j > dg K j) = decide (K < N) := by
  rw [decide_eq_decide]
  have e1 := dv_next N j
  have e2 := dv_next K j
  rw [h] at e1
  constructor
  · intro hg
    apply Nat.lt_of_not_le
    intro hle
    have := Nat.div_le_div_right (c := 65536 ^ j) hle
    omega
  · intro hl
    have := Nat.div_le_div_right (c := 65536 ^ j) (Nat.le_of_lt hl)
    omega
theorem two_boxes (w : World) (a b : Array Value) (t : TypeId) :
    Box ((w.alloc (.cells a t)).alloc (.cells b t)) w.heap.size a t ∧ Box ((w.alloc (.cells a t)).alloc (.cells b t)) (w.heap.size + 1) b t ∧ Below w.heap.size w ((w.alloc (.cells a t)).alloc (.cells b t)) := by
  refine ⟨(Box.new w a t).alloc _, ?_, below_alloc (below_alloc (Below.refl _ w) _) _⟩
  have := Box.new (w.alloc (.cells a t)) b t
  simpa using this

set_option maxHeartbeats 1000000 in
theorem rabove_any (N K : Nat) (hN : N < 65536 ^ 10) (hK : K < 65536 ^ 10) (w : World) :
    Calls Tryz.prog 104 #[.agg (lim N), .agg (lim K)] w fun e w' => e = .returned (.bool (decide (K < N))) ∧ Below w.heap.size w w' := by
  have h0 : N / 65536 ^ 10 = K / 65536 ^ 10 := by rw [Nat.div_eq_of_lt hN, Nat.div_eq_of_lt hK]
  clear hN hK
  obtain ⟨r, hr⟩ : ∃ r, Hid (decide (K < N) = r) := ⟨_, Lib.hid rfl⟩
  rw [hr.out]
  have H0 := Lib.hid h0
  clear h0
  rw [show lim N = #[.int .i64 (dg N 0), .int .i64 (dg N 1), .int .i64 (dg N 2), .int .i64 (dg N 3), .int .i64 (dg N 4), .int .i64 (dg N 5), .int .i64 (dg N 6), .int .i64 (dg N 7), .int .i64 (dg N 8), .int .i64 (dg N 9)] from rfl, show lim K = #[.int .i64 (dg K 0), .int .i64 (dg K 1), .int .i64 (dg K 2), .int .i64 (dg K 3), .int .i64 (dg K 4), .int .i64 (dg K 5), .int .i64 (dg K 6), .int .i64 (dg K 7), .int .i64 (dg K 8), .int .i64 (dg K 9)] from rfl]
  go_enter Tryz.func104, Tryz.ntmps104
  go_wp2
  obtain ⟨B2, B3, HB⟩ := two_boxes w #[.int .i64 (dg N 0), .int .i64 (dg N 1), .int .i64 (dg N 2), .int .i64 (dg N 3), .int .i64 (dg N 4), .int .i64 (dg N 5), .int .i64 (dg N 6), .int .i64 (dg N 7), .int .i64 (dg N 8), .int .i64 (dg N 9)] #[.int .i64 (dg K 0), .int .i64 (dg K 1), .int .i64 (dg K 2), .int .i64 (dg K 3), .int .i64 (dg K 4), .int .i64 (dg K 5), .int .i64 (dg K 6), .int .i64 (dg K 7), .int .i64 (dg K 8), .int .i64 (dg K 9)] 170
  generalize World.alloc (World.alloc w _) _ = W at B2 B3 HB ⊢
  go_loopw [5] (fun i wr => ∃ k : Nat, k ≤ 10 ∧ i = .int .i64 ((k : Int) - 1) ∧ Hid (N / 65536 ^ k = K / 65536 ^ k) ∧ Box wr w.heap.size (lim N) 170 ∧ Box wr (w.heap.size + 1) (lim K) 170 ∧ Below w.heap.size w wr) (fun i _ => (intOf i + 1).toNat)
  case atStart => exact ⟨10, by omega, rfl, H0, B2, B3, HB⟩
  case round =>
    obtain ⟨k, hk, rfl, HE, C2, C3, HC⟩ := hrel
    clear B2 B3 HB H0
    cases k with
    | zero =>
      have e : N = K := by have := HE.out; simpa using this
      have hrf : r = false := by rw [← hr.out, e]; simp
      subst hrf
      clear e hr HE
      go_wp2
      go_ret
      exact ⟨rfl, HC⟩
    | succ j =>
      have ej : ((j + 1 : Nat) : Int) - 1 = j := by omega
      rw [ej]
      clear ej
      have e2 : _ = some (Value.int .i64 (dg N j)) := C2.cell j (lim_at N j (by omega))
      have e3 : _ = some (Value.int .i64 (dg K j)) := C3.cell j (lim_at K j (by omega))
      by_cases hd : dg N j = dg K j
      · have HE2 := Lib.hid (dv_same HE.out hd)
        have hb : ((dg N j : Int) == (dg K j : Int)) = true := by simp [hd]
        have hb2 : ((dg N j : Int) != (dg K j : Int)) = false := by simp [hd]
        clear hd
        go_upto_region 4 with fail
        go_quiet (fail)
        go_wp2
        go_roundw
        case rel => exact ⟨j, by omega, rfl, HE2, box_drewN C2 _, box_drewN C3 _, below_drewN HC _⟩
        case measure => simp [intOf]
      · have HE2 := Lib.hid (dv_lt HE.out hd)
        have hb : ((dg N j : Int) == (dg K j : Int)) = false := by simp; omega
        have hb2 : ((dg N j : Int) != (dg K j : Int)) = true := by simp; omega
        clear hd
        go_upto_region 4 with fail
        go_quiet (fail)
        go_upto_region 5 with fail
        go_quiet (fail)
        go_wp2
        all_goals
          go_ret
          refine ⟨ret_bool rfl ?_, below_drewN (below_drewN HC _) _⟩
          rw [← hr.out, ← HE2.out]

end Go.Proofs.YtndpdbofoojkhaaGreat.Bad
