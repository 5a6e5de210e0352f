/- joined for a claim: MulRefPlain, MulRef -/
import Derived.Test.YtndpdbofoojkhaaGreatKit
import Derived.Deep.DeepCutAuto
import Derived.Deep.QuietTactic
import Derived.BigQuiet
/- Numbers of eight limbs: plain arithmetic. -/
namespace Go.Proofs.YtndpdbofoojkhaaGreat.Mul
set_option linter.unusedVariables false

/-- Limb number i. -/
def dg (N i : Nat) : Nat := N / 65536 ^ i % 65536
theorem dg_lt (N i : Nat) : dg N i < 65536 := Nat.mod_lt _ (by omega)
theorem pw_pos (i : Nat) : 0 < 65536 ^ i := Nat.pow_pos (by omega)
theorem mod_next (N i : Nat) : N % 65536 ^ (i + 1) = N % 65536 ^ i + 65536 ^ i * dg N i := by
  unfold dg
  rw [Nat.pow_succ, Nat.mod_mul]
theorem div_next (N i : Nat) : N / 65536 ^ i / 65536 = N / 65536 ^ (i + 1) := by
  rw [Nat.div_div_eq_div_mul, ← Nat.pow_succ]
theorem div_split (N i : Nat) : N / 65536 ^ i = 65536 * (N / 65536 ^ (i + 1)) + dg N i := by
  rw [← div_next]; unfold dg; exact (Nat.div_add_mod _ _).symm
theorem dg_small {N i : Nat} (h : N < 65536 ^ i) : dg N i = 0 := by
  unfold dg; rw [Nat.div_eq_of_lt h]
theorem dg_add_mul (N M i j : Nat) (h : j < i) : dg (N + 65536 ^ i * M) j = dg N j := by
  unfold dg
  obtain ⟨d, rfl⟩ : ∃ d, i = j + (d + 1) := ⟨i - j - 1, by omega⟩
  rw [Nat.pow_add, Nat.mul_assoc, Nat.add_mul_div_left _ _ (pw_pos j), Nat.pow_succ, Nat.mul_comm (65536 ^ d), Nat.mul_assoc, Nat.add_mul_mod_self_left]

/-! ### A product, limb by limb: i limbs of a are done, and k of b -/
def tv (a b i k : Nat) : Nat := a % 65536 ^ i * b + 65536 ^ i * (dg a i * (b % 65536 ^ k))
def ov (a b i k : Nat) : Nat := tv a b i k / 65536 ^ (i + k) - a % 65536 ^ i * b / 65536 ^ (i + k)
theorem tv_zero (a b i : Nat) : tv a b i 0 = a % 65536 ^ i * b := by unfold tv; simp [Nat.mod_one]
theorem ov_zero (a b i : Nat) : ov a b i 0 = 0 := by unfold ov; rw [tv_zero]; omega
theorem tv_next (a b i k : Nat) : tv a b i (k + 1) = tv a b i k + 65536 ^ (i + k) * (dg a i * dg b k) := by
  unfold tv
  rw [mod_next, Nat.mul_add, Nat.mul_add, ← Nat.add_assoc, Nat.pow_add, Nat.mul_left_comm (dg a i), Nat.mul_assoc (65536 ^ i)]
theorem tv_ge (a b i k : Nat) : a % 65536 ^ i * b ≤ tv a b i k := Nat.le_add_right _ _
theorem ov_add (a b i k : Nat) : tv a b i k / 65536 ^ (i + k) = a % 65536 ^ i * b / 65536 ^ (i + k) + ov a b i k := by
  have := Nat.div_le_div_right (c := 65536 ^ (i + k)) (tv_ge a b i k)
  unfold ov; omega
theorem ov_le (a b i k : Nat) : ov a b i k ≤ 65535 := by
  have hd := dg_lt a i
  have h1 : 65536 ^ i * (dg a i * (b % 65536 ^ k)) ≤ 65536 ^ (i + k) * dg a i := by
    rw [Nat.pow_add, Nat.mul_assoc]
    refine Nat.mul_le_mul_left _ ?_
    rw [Nat.mul_comm]
    exact Nat.mul_le_mul_right _ (Nat.le_of_lt (Nat.mod_lt _ (pw_pos k)))
  have h2 : tv a b i k / 65536 ^ (i + k) ≤ a % 65536 ^ i * b / 65536 ^ (i + k) + dg a i := by
    rw [← Nat.add_mul_div_left _ _ (pw_pos (i + k))]
    exact Nat.div_le_div_right (Nat.add_le_add_left h1 _)
  unfold ov; omega
/-- What a step puts. -/
def sm (a b i k : Nat) : Nat := dg (a % 65536 ^ i * b) (i + k) + dg a i * dg b k + ov a b i k
theorem sm_lt (a b i k : Nat) : sm a b i k ≤ 4294967295 := by
  have h1 := dg_lt (a % 65536 ^ i * b) (i + k)
  have h2 := Nat.mul_le_mul (Nat.le_of_lt_succ (dg_lt a i)) (Nat.le_of_lt_succ (dg_lt b k))
  have h3 := ov_le a b i k
  unfold sm; omega
theorem sm_div (a b i k : Nat) : tv a b i (k + 1) / 65536 ^ (i + k) = 65536 * (a % 65536 ^ i * b / 65536 ^ (i + k + 1)) + sm a b i k := by
  rw [tv_next, Nat.add_mul_div_left _ _ (pw_pos _), ov_add, div_split]
  unfold sm; omega
theorem sm_dg (a b i k : Nat) : dg (tv a b i (k + 1)) (i + k) = sm a b i k % 65536 := by
  unfold dg; rw [sm_div, Nat.mul_add_mod]
theorem sm_ov (a b i k : Nat) : ov a b i (k + 1) = sm a b i k / 65536 := by
  have h := ov_add a b i (k + 1)
  rw [show i + (k + 1) = i + k + 1 from rfl, ← div_next, sm_div, Nat.mul_add_div (by omega)] at h
  omega
theorem tv_keep (a b i k j : Nat) (h : j < i + k) : dg (tv a b i (k + 1)) j = dg (tv a b i k) j := by
  rw [tv_next, dg_add_mul _ _ _ _ h]
theorem tv_done (a b i : Nat) (hb : b < 65536 ^ 4) : tv a b i 4 = a % 65536 ^ (i + 1) * b := by
  unfold tv
  rw [Nat.mod_eq_of_lt hb, mod_next, Nat.add_mul, Nat.mul_assoc]
theorem part_lt (a b i : Nat) (hb : b < 65536 ^ 4) : a % 65536 ^ i * b < 65536 ^ (i + 4) := by
  rw [Nat.pow_add]
  exact Nat.mul_lt_mul_of_lt_of_le (Nat.mod_lt _ (pw_pos i)) (Nat.le_of_lt hb) (Nat.lt_of_le_of_lt (Nat.zero_le _) (show 0 < 65536 ^ 4 by omega))
theorem ov_last (a b i : Nat) (hb : b < 65536 ^ 4) : ov a b i 4 = dg (a % 65536 ^ (i + 1) * b) (i + 4) := by
  have h1 := part_lt a b i hb
  have h2 := part_lt a b (i + 1) hb
  unfold ov
  rw [tv_done a b i hb, Nat.div_eq_of_lt h1, Nat.sub_zero]
  unfold dg
  refine (Nat.mod_eq_of_lt ?_).symm
  rw [Nat.div_lt_iff_lt_mul (pw_pos _), Nat.mul_comm 65536, ← Nat.pow_succ, show (i + 4).succ = i + 1 + 4 from by omega]
  exact h2
/-- What the cells hold within a round: the limbs up to here are done. -/
def mid (a b i k j : Nat) : Nat := if j < i + k then dg (tv a b i k) j else dg (a % 65536 ^ i * b) j
theorem mid_zero (a b i j : Nat) : mid a b i 0 j = dg (a % 65536 ^ i * b) j := by
  unfold mid; rw [tv_zero]; split <;> rfl
theorem mid_at (a b i k : Nat) : mid a b i k (i + k) = dg (a % 65536 ^ i * b) (i + k) := if_neg (by omega)
theorem mid_next (a b i k j : Nat) : mid a b i (k + 1) j = if j = i + k then sm a b i k % 65536 else mid a b i k j := by
  unfold mid
  by_cases h : j = i + k
  · subst h; rw [if_pos (by omega), if_pos rfl, sm_dg]
  · rw [if_neg h]
    by_cases h2 : j < i + k
    · rw [if_pos (by omega), if_pos h2, tv_keep _ _ _ _ _ h2]
    · rw [if_neg (by omega), if_neg h2]
theorem mid_last (a b i j : Nat) (hb : b < 65536 ^ 4) : dg (a % 65536 ^ (i + 1) * b) j = if j = i + 4 then ov a b i 4 else mid a b i 4 j := by
  by_cases h : j = i + 4
  · subst h; rw [if_pos rfl, ov_last a b i hb]
  · rw [if_neg h]
    unfold mid
    by_cases h2 : j < i + 4
    · rw [if_pos h2, tv_done a b i hb]
    · rw [if_neg h2]
      have h1 := part_lt a b i hb
      have h3 := part_lt a b (i + 1) hb
      have h4 : 65536 ^ (i + 4) ≤ 65536 ^ j := Nat.pow_le_pow_right (by omega) (by omega)
      have h5 : 65536 ^ (i + 1 + 4) ≤ 65536 ^ j := Nat.pow_le_pow_right (by omega) (by omega)
      rw [dg_small (Nat.lt_of_lt_of_le h1 h4), dg_small (Nat.lt_of_lt_of_le h3 h5)]

/-! ### Bit by bit -/
theorem bit_of (N k : Nat) : dg N (k / 16) / 2 ^ (k % 16) % 2 = N / 2 ^ k % 2 := by
  have ht : k % 16 < 16 := Nat.mod_lt _ (by omega)
  have hk : 2 ^ k = 65536 ^ (k / 16) * 2 ^ (k % 16) := by
    rw [show (65536 : Nat) = 2 ^ 16 from rfl, ← Nat.pow_mul, ← Nat.pow_add, Nat.div_add_mod]
  rw [hk, ← Nat.div_div_eq_div_mul]
  unfold dg
  generalize N / 65536 ^ (k / 16) = M
  generalize k % 16 = t at *
  have h16 : 65536 = 2 ^ t * (2 * 2 ^ (15 - t)) := by
    rw [Nat.mul_left_comm, ← Nat.pow_add, show t + (15 - t) = 15 from by omega]
  have h := Nat.div_add_mod M 65536
  have e : M / 2 ^ t = M % 65536 / 2 ^ t + 2 * (2 ^ (15 - t) * (M / 65536)) := by
    have e1 : M = M % 65536 + 2 ^ t * (2 * (2 ^ (15 - t) * (M / 65536))) := by
      rw [← Nat.mul_assoc 2, ← Nat.mul_assoc, ← h16]; omega
    have h2 : (M % 65536 + 2 ^ t * (2 * (2 ^ (15 - t) * (M / 65536)))) / 2 ^ t = M % 65536 / 2 ^ t + 2 * (2 ^ (15 - t) * (M / 65536)) := Nat.add_mul_div_left _ _ (Nat.pow_pos (by omega))
    rw [← e1] at h2
    exact h2
  rw [e, Nat.add_mul_mod_self_left]
theorem half_of_pow (N k : Nat) : N / 2 ^ k = 2 * (N / 2 ^ (k + 1)) + N / 2 ^ k % 2 := by
  have h := Nat.div_add_mod (N / 2 ^ k) 2
  rw [Nat.div_div_eq_div_mul, ← Nat.pow_succ] at h
  exact h.symm
/-- One bit more. -/
theorem bit_step {M c t : Nat} (hc : 0 < c) (ht : t ≤ 1) :
    (2 * M + t) / c = (if c ≤ 2 * (M % c) + t then 2 * (M / c) + 1 else 2 * (M / c)) ∧ (2 * M + t) % c = (if c ≤ 2 * (M % c) + t then 2 * (M % c) + t - c else 2 * (M % c) + t) := by
  have h := Nat.div_add_mod M c
  have hl := Nat.mod_lt M hc
  have e : 2 * M + t = 2 * (M % c) + t + c * (2 * (M / c)) := by
    rw [Nat.mul_left_comm]; omega
  rw [e, Nat.add_mul_div_left _ _ hc, Nat.add_mul_mod_self_left]
  generalize M % c = r at *
  generalize M / c = q at *
  by_cases hx : c ≤ 2 * r + t
  · rw [if_pos hx, if_pos hx]
    have e2 : 2 * r + t = (2 * r + t - c) + c * 1 := by omega
    rw [e2, Nat.add_mul_div_left _ _ hc, Nat.add_mul_mod_self_left, Nat.div_eq_of_lt (by omega), Nat.mod_eq_of_lt (by omega)]
    omega
  · rw [if_neg hx, if_neg hx, Nat.div_eq_of_lt (by omega), Nat.mod_eq_of_lt (by omega)]
    omega
theorem div_mono_pow (N k c : Nat) : N / 2 ^ (k + 1) / c ≤ N / 2 ^ k / c := by
  refine Nat.div_le_div_right ?_
  have := half_of_pow N k; omega

end Go.Proofs.YtndpdbofoojkhaaGreat.Mul
/- The reference of layer 2: numbers of eight limbs. -/
namespace Go.Proofs.YtndpdbofoojkhaaGreat.Mul
open Go.RowKit Go.Proofs.YtndpdbofoojkhaaGreat.Kit
set_option linter.unusedVariables false
set_option linter.unusedSimpArgs false

/-- Eight numbers as cells. -/
def arr8 (f : Nat → Nat) : Array Value := #[.int .i64 ((f 0 : Nat) : Int), .int .i64 ((f 1 : Nat) : Int), .int .i64 ((f 2 : Nat) : Int), .int .i64 ((f 3 : Nat) : Int), .int .i64 ((f 4 : Nat) : Int), .int .i64 ((f 5 : Nat) : Int), .int .i64 ((f 6 : Nat) : Int), .int .i64 ((f 7 : Nat) : Int)]
theorem arr8_at (f : Nat → Nat) (i : Nat) (h : i < 8) : (arr8 f)[i]? = some (.int .i64 ((f i : Nat) : Int)) := by
  match i, h with
  | 0, _ => rfl | 1, _ => rfl | 2, _ => rfl | 3, _ => rfl | 4, _ => rfl | 5, _ => rfl | 6, _ => rfl | 7, _ => rfl
theorem arr8_congr {f g : Nat → Nat} (h : ∀ j, j < 8 → f j = g j) : arr8 f = arr8 g := by
  unfold arr8
  rw [h 0 (by omega), h 1 (by omega), h 2 (by omega), h 3 (by omega), h 4 (by omega), h 5 (by omega), h 6 (by omega), h 7 (by omega)]
theorem arr8_set (f : Nat → Nat) (i v : Nat) (h : i < 8) : (arr8 f).setIfInBounds i (.int .i64 (v : Int)) = arr8 (fun j => if j = i then v else f j) := by
  match i, h with
  | 0, _ => rfl | 1, _ => rfl | 2, _ => rfl | 3, _ => rfl | 4, _ => rfl | 5, _ => rfl | 6, _ => rfl | 7, _ => rfl
theorem box_drewN {w : World} {g : Nat} {cs : Array Value} {t : TypeId} (h : Box w g cs t) (n : Nat) : Box (w.drewN n) g cs t := h
theorem set_eight {w W : World} {g : Nat} {t : TypeId} {u0 u1 u2 u3 u4 u5 u6 u7 v0 v1 v2 v3 v4 v5 v6 v7 : Value} (h : Box w g #[u0, u1, u2, u3, u4, u5, u6, u7] t) (hb : Below W.heap.size W w) (hg : W.heap.size ≤ g) :
    Box (((((((((w).setCell ⟨g, 0, none⟩ v0).setCell ⟨g, 1, none⟩ v1).setCell ⟨g, 2, none⟩ v2).setCell ⟨g, 3, none⟩ v3).setCell ⟨g, 4, none⟩ v4).setCell ⟨g, 5, none⟩ v5).setCell ⟨g, 6, none⟩ v6).setCell ⟨g, 7, none⟩ v7) g #[v0, v1, v2, v3, v4, v5, v6, v7] t ∧ Below W.heap.size W (((((((((w).setCell ⟨g, 0, none⟩ v0).setCell ⟨g, 1, none⟩ v1).setCell ⟨g, 2, none⟩ v2).setCell ⟨g, 3, none⟩ v3).setCell ⟨g, 4, none⟩ v4).setCell ⟨g, 5, none⟩ v5).setCell ⟨g, 6, none⟩ v6).setCell ⟨g, 7, none⟩ v7) := by
  have h0 : Box _ g #[v0, u1, u2, u3, u4, u5, u6, u7] t := h.set 0 v0
  have b0 := below_set hb (p := ⟨g, 0, none⟩) hg v0
  have h1 : Box _ g #[v0, v1, u2, u3, u4, u5, u6, u7] t := h0.set 1 v1
  have b1 := below_set b0 (p := ⟨g, 1, none⟩) hg v1
  have h2 : Box _ g #[v0, v1, v2, u3, u4, u5, u6, u7] t := h1.set 2 v2
  have b2 := below_set b1 (p := ⟨g, 2, none⟩) hg v2
  have h3 : Box _ g #[v0, v1, v2, v3, u4, u5, u6, u7] t := h2.set 3 v3
  have b3 := below_set b2 (p := ⟨g, 3, none⟩) hg v3
  have h4 : Box _ g #[v0, v1, v2, v3, v4, u5, u6, u7] t := h3.set 4 v4
  have b4 := below_set b3 (p := ⟨g, 4, none⟩) hg v4
  have h5 : Box _ g #[v0, v1, v2, v3, v4, v5, u6, u7] t := h4.set 5 v5
  have b5 := below_set b4 (p := ⟨g, 5, none⟩) hg v5
  have h6 : Box _ g #[v0, v1, v2, v3, v4, v5, v6, u7] t := h5.set 6 v6
  have b6 := below_set b5 (p := ⟨g, 6, none⟩) hg v6
  have h7 : Box _ g #[v0, v1, v2, v3, v4, v5, v6, v7] t := h6.set 7 v7
  have b7 := below_set b6 (p := ⟨g, 7, none⟩) hg v7
  exact ⟨h7, b7⟩

theorem two_boxes (w : World) (a b : Array Value) (t : TypeId) :
    Box ((w.alloc (.cells a t)).alloc (.cells b t)) w.heap.size a t ∧ Box ((w.alloc (.cells a t)).alloc (.cells b t)) (w.heap.size + 1) b t ∧ Below w.heap.size w ((w.alloc (.cells a t)).alloc (.cells b t)) := by
  refine ⟨(Box.new w a t).alloc _, ?_, below_alloc (below_alloc (Below.refl _ w) _) _⟩
  have := Box.new (w.alloc (.cells a t)) b t
  simpa using this

def low (N k j : Nat) : Nat := if j < k then dg N j else 0
theorem low_next (N k j : Nat) : low N (k + 1) j = if j = k then dg N k else low N k j := by
  unfold low
  by_cases h : j = k
  · subst h; rw [if_pos (by omega), if_pos rfl]
  · rw [if_neg h]
    by_cases h2 : j < k
    · rw [if_pos (by omega), if_pos h2]
    · rw [if_neg (by omega), if_neg h2]

set_option maxRecDepth 100000 in
set_option maxHeartbeats 1000000 in
theorem limbs_any (N : Nat) (hN : N ≤ 9223372036854775807) (w : World) :
    Calls Tryz.prog 133 #[.int .i64 N] w fun e w' => e = .returned (.agg (arr8 (dg N))) ∧ Below w.heap.size w w' := by
  obtain ⟨r, hr⟩ : ∃ r, Hid (arr8 (dg N) = r) := ⟨_, Lib.hid rfl⟩
  rw [hr.out]
  go_enter Tryz.func133, Tryz.ntmps133
  go_wp2
  obtain ⟨B2, B3', HB⟩ := two_boxes w #[.int .i64 0, .int .i64 0, .int .i64 0, .int .i64 0, .int .i64 0, .int .i64 0, .int .i64 0, .int .i64 0] #[.int .i64 0, .int .i64 0, .int .i64 0, .int .i64 0, .int .i64 0, .int .i64 0, .int .i64 0, .int .i64 0] 195
  have B3 : Box _ (w.heap.size + 1) (arr8 (low N 0)) 195 := B3'
  clear B3'
  generalize World.alloc (World.alloc w _) _ = W at B2 B3 HB ⊢
  go_loopw [0, 4] (fun n i wr => ∃ k : Nat, k ≤ 8 ∧ i = .int .i64 k ∧ n = .int .i64 ((N / 65536 ^ k : Nat) : Int) ∧ Box wr w.heap.size #[.int .i64 0, .int .i64 0, .int .i64 0, .int .i64 0, .int .i64 0, .int .i64 0, .int .i64 0, .int .i64 0] 195 ∧ Box wr (w.heap.size + 1) (arr8 (low N k)) 195 ∧ Below w.heap.size w wr) (fun _ i _ => 8 - (intOf i).toNat)
  case atStart => exact ⟨0, by omega, rfl, by simp, B2, B3, HB⟩
  case round =>
    obtain ⟨k, hk, rfl, rfl, C2, C3, HC⟩ := hrel
    clear B2 B3 HB
    by_cases hk2 : k < 8
    · have e3 := C3.cell k (arr8_at _ k hk2)
      have f3 := C3.free k
      have hn : N / 65536 ^ k ≤ 9223372036854775807 := Nat.le_trans (Nat.div_le_self _ _) hN
      have E1 : Hid (((N / 65536 ^ k : Nat) : Int) % 65536 = ((dg N k : Nat) : Int)) := Lib.hid (by unfold dg; omega)
      have E2 : Hid (((N / 65536 ^ k : Nat) : Int) / 65536 = ((N / 65536 ^ (k + 1) : Nat) : Int)) := Lib.hid (by rw [← div_next]; omega)
      generalize N / 65536 ^ k = M at *
      have hS : Hid ((arr8 (low N k)).setIfInBounds k (.int .i64 (dg N k : Nat)) = arr8 (low N (k + 1))) := Lib.hid (by
        rw [arr8_set _ _ _ hk2]; exact arr8_congr fun j _ => (low_next N k j).symm)
      go_wp2
      rw [E1.out, E2.out]
      go_roundw
      case rel =>
        refine ⟨k + 1, by omega, by go_num, rfl, C2.far (by first | (simp; done) | (simp; omega)) _, ?_, below_set HC (by first | (simp; done) | (simp; omega)) _⟩
        rw [← hS.out]
        exact C3.set k _
      case measure => simp [intOf]; omega
    · obtain rfl : k = 8 := by omega
      have C3' : Box _ (w.heap.size + 1) (arr8 (dg N)) 195 := C3
      have cx0 : _ = some (Value.int .i64 ((dg N 0 : Nat))) := C3'.cell 0 rfl
      have cx1 : _ = some (Value.int .i64 ((dg N 1 : Nat))) := C3'.cell 1 rfl
      have cx2 : _ = some (Value.int .i64 ((dg N 2 : Nat))) := C3'.cell 2 rfl
      have cx3 : _ = some (Value.int .i64 ((dg N 3 : Nat))) := C3'.cell 3 rfl
      have cx4 : _ = some (Value.int .i64 ((dg N 4 : Nat))) := C3'.cell 4 rfl
      have cx5 : _ = some (Value.int .i64 ((dg N 5 : Nat))) := C3'.cell 5 rfl
      have cx6 : _ = some (Value.int .i64 ((dg N 6 : Nat))) := C3'.cell 6 rfl
      have cx7 : _ = some (Value.int .i64 ((dg N 7 : Nat))) := C3'.cell 7 rfl
      have c2x0 : _ = some (Value.int .i64 (0)) := C2.cell 0 rfl
      have c2x1 : _ = some (Value.int .i64 (0)) := C2.cell 1 rfl
      have c2x2 : _ = some (Value.int .i64 (0)) := C2.cell 2 rfl
      have c2x3 : _ = some (Value.int .i64 (0)) := C2.cell 3 rfl
      have c2x4 : _ = some (Value.int .i64 (0)) := C2.cell 4 rfl
      have c2x5 : _ = some (Value.int .i64 (0)) := C2.cell 5 rfl
      have c2x6 : _ = some (Value.int .i64 (0)) := C2.cell 6 rfl
      have c2x7 : _ = some (Value.int .i64 (0)) := C2.cell 7 rfl
      have c2f0 := C2.free 0
      have c2f1 := C2.free 1
      have c2f2 := C2.free 2
      have c2f3 := C2.free 3
      have c2f4 := C2.free 4
      have c2f5 := C2.free 5
      have c2f6 := C2.free 6
      have c2f7 := C2.free 7
      go_wp2
      obtain ⟨C6, HC6⟩ := set_eight (v0 := .int .i64 ((dg N 0 : Nat) : Int)) (v1 := .int .i64 ((dg N 1 : Nat) : Int)) (v2 := .int .i64 ((dg N 2 : Nat) : Int)) (v3 := .int .i64 ((dg N 3 : Nat) : Int)) (v4 := .int .i64 ((dg N 4 : Nat) : Int)) (v5 := .int .i64 ((dg N 5 : Nat) : Int)) (v6 := .int .i64 ((dg N 6 : Nat) : Int)) (v7 := .int .i64 ((dg N 7 : Nat) : Int)) C2 HC (by omega)
      generalize World.setCell _ ⟨w.heap.size, 7, none⟩ _ = W' at C6 HC6 ⊢
      have c6x0 : _ = some (Value.int .i64 ((dg N 0 : Nat))) := C6.cell 0 rfl
      have c6x1 : _ = some (Value.int .i64 ((dg N 1 : Nat))) := C6.cell 1 rfl
      have c6x2 : _ = some (Value.int .i64 ((dg N 2 : Nat))) := C6.cell 2 rfl
      have c6x3 : _ = some (Value.int .i64 ((dg N 3 : Nat))) := C6.cell 3 rfl
      have c6x4 : _ = some (Value.int .i64 ((dg N 4 : Nat))) := C6.cell 4 rfl
      have c6x5 : _ = some (Value.int .i64 ((dg N 5 : Nat))) := C6.cell 5 rfl
      have c6x6 : _ = some (Value.int .i64 ((dg N 6 : Nat))) := C6.cell 6 rfl
      have c6x7 : _ = some (Value.int .i64 ((dg N 7 : Nat))) := C6.cell 7 rfl
      exact bodyPost_ret (v := .agg r) (by rw [← hr.out]; unfold arr8; simp [results, Tryz.results133, go_sem, c6x0, c6x1, c6x2, c6x3, c6x4, c6x5, c6x6, c6x7]) rfl ⟨rfl, HC6⟩

end Go.Proofs.YtndpdbofoojkhaaGreat.Mul
