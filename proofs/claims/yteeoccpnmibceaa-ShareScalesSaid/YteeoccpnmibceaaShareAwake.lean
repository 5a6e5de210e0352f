/- Shares: the calls at the statements' head. -/
import Derived.Test.YteeoccpnmibceaaShare5
namespace Go.Proofs.Yteeoccpnmibceaa.Sh
open Go.RowKit Go.Proofs.Yteeoccpnmibceaa.Kit
set_option linter.unusedVariables false
set_option linter.unusedSimpArgs false

theorem wf_i64 {x : Int} (h1 : -9223372036854775808 ≤ x) (h2 : x ≤ 9223372036854775807) : (Lit.int .i64 x).wf = true := by
  have hmin : IntKind.i64.min = -9223372036854775808 := rfl
  have hmax : IntKind.i64.max = 9223372036854775807 := rfl
  simp only [Lit.wf, Bool.and_eq_true, decide_eq_true_eq]
  omega
theorem mem_sum_le {l : List Int} (h : ∀ x ∈ l, 0 ≤ x) {x : Int} (hx : x ∈ l) : x ≤ l.sum := by
  induction l with
  | nil => simp at hx
  | cons a l ih =>
    rw [List.sum_cons]
    have h1 := sum_nonneg fun x hx => h x (List.mem_cons_of_mem _ hx)
    have h2 := h a (List.mem_cons_self ..)
    rcases List.mem_cons.1 hx with rfl | hx
    · omega
    · have := ih (fun x hx => h x (List.mem_cons_of_mem _ hx)) hx; omega
theorem splitV_wf (T : Int) (L : List Int) : ∀ x ∈ splitV T L, 0 ≤ x ∧ x ≤ 1073741823 ∧ (Lit.int .i64 x).wf = true := fun x hx => by
  obtain ⟨h1, h2, _⟩ := splitV_bd T L
  have h3 := mem_sum_le h1 hx
  have h4 := h1 x hx
  exact ⟨h4, by omega, wf_i64 (by omega) (by omega)⟩
theorem psum_wf (T : Int) (L : List Int) : ∀ x ∈ psum (splitV T L), 0 ≤ x ∧ x ≤ 1073741823 ∧ (Lit.int .i64 x).wf = true := fun x hx => by
  obtain ⟨h1, h2, _⟩ := splitV_bd T L
  unfold psum at hx
  obtain ⟨i, _, rfl⟩ := List.mem_map.1 hx
  have := take_bound h1 (i + 1)
  exact ⟨by omega, by omega, wf_i64 (by omega) (by omega)⟩
theorem row_of_own {w0 w' : World} {v : Value} {l : List Int} (h : Own w0 w' v l) (hw : ∀ x ∈ l, (Lit.int .i64 x).wf = true) : ∃ A c, v = .slice A l.length c ∧ Row (Rep.int .i64) w' w'.heap.size A l := by
  rcases h with ⟨rfl, rfl⟩ | ⟨g, rfl, _, hb⟩
  · exact ⟨none, 0, rfl, fun i x hx => by simp at hx⟩
  · exact ⟨_, _, rfl, box_row hb hw⟩

/-- The calls, by values that are known, at any length as it is spelled. -/
theorem split_c (T : Int) (A : Option Addr) (n c : Nat) (L : List Int) (hn : Hid (n = L.length)) (w : World) {B : Nat} (hB : B ≤ w.heap.size) (hx : Row (Rep.int .i64) w B A L) (hl : L.length ≤ 9223372036854775807) {l : List Int} {e : Int} (hV : Hid (splitV T L = l)) (hE : Hid (splitE T L = e)) :
    Calls Try.prog 9 #[.int .i64 T, .slice A n c] w fun x w' => ∃ A' c', x = .returned (.tuple #[.slice A' l.length c', .int .i64 e]) ∧ Row (Rep.int .i64) w' w'.heap.size A' l ∧ Below w.heap.size w w' := by
  have hn := hn.out
  subst hn
  refine (split_any T A c L w hB hx hl).mono fun x w' ⟨v, h1, h2, h3⟩ => ?_
  obtain ⟨A', c', rfl, hr⟩ := row_of_own h2 fun x hx => (splitV_wf T L x hx).2.2
  rw [hE.out, hV.out] at h1
  rw [hV.out] at hr
  exact ⟨A', c', h1, hr, h3⟩
theorem ends_c (T : Int) (A : Option Addr) (n c : Nat) (L : List Int) (hn : Hid (n = L.length)) (w : World) {B : Nat} (hB : B ≤ w.heap.size) (hx : Row (Rep.int .i64) w B A L) (hl : L.length ≤ 9223372036854775807) {l : List Int} {e : Int} (hV : Hid (psum (splitV T L) = l)) (hE : Hid (splitE T L = e)) :
    Calls Try.prog 11 #[.int .i64 T, .slice A n c] w fun x w' => ∃ A' c', x = .returned (.tuple #[.slice A' l.length c', .int .i64 e]) ∧ Row (Rep.int .i64) w' w'.heap.size A' l ∧ Below w.heap.size w w' := by
  have hn := hn.out
  subst hn
  refine (ends_any T A c L w hB hx hl).mono fun x w' ⟨v, h1, h2, h3⟩ => ?_
  obtain ⟨A', c', rfl, hr⟩ := row_of_own h2 fun x hx => (psum_wf T L x hx).2.2
  rw [hE.out, hV.out] at h1
  rw [hV.out] at hr
  exact ⟨A', c', h1, hr, h3⟩
theorem same_c (A A' : Option Addr) (n c n' c' : Nat) (l l' : List Int) (hn : Hid (n = l.length)) (hn' : Hid (n' = l'.length)) (w : World) {B B' : Nat} (hB : B ≤ w.heap.size) (hB' : B' ≤ w.heap.size) (hx : Row (Rep.int .i64) w B A l) (hy : Row (Rep.int .i64) w B' A' l') (hl : l.length ≤ 9223372036854775807) (hl' : l'.length ≤ 9223372036854775807) {r : Bool} (hr : Hid (decide (l = l') = r)) :
    Calls Try.prog 13 #[.slice A n c, .slice A' n' c'] w fun e w' => e = .returned (.bool r) ∧ Below w.heap.size w w' := by
  have hn := hn.out
  have hn' := hn'.out
  subst hn; subst hn'
  rw [← hr.out]
  exact same_any A A' c c' l l' w hB hB' hx hy hl hl'

set_option maxRecDepth 100000 in
set_option maxHeartbeats 4000000 in
theorem awake_any (w : World) : Calls Try.prog 8 #[] w fun e w' => e = .returned (.bool true) ∧ Below w.heap.size w w' := by
  go_enter Try.func8, Try.ntmps8
  go_wp2_with fail
  refine (split_c 10 _ _ _ [1, 1, 1] (Lib.hid rfl) _ (Nat.le_refl _) (ints_new _ _ _ _ (by decide) rfl) (by decide) (l := [4, 3, 3]) (e := 0) (Lib.hid (by decide +kernel)) (Lib.hid (by decide +kernel))).mono ?_; rintro e w1 ⟨A1, c1, rfl, r1, h1⟩
  go_wp2_with fail
  refine (ends_c 10 _ _ _ [1, 1, 1] (Lib.hid rfl) _ (Nat.le_refl _) (ints_new _ _ _ _ (by decide) rfl) (by decide) (l := [4, 7, 10]) (e := 0) (Lib.hid (by decide +kernel)) (Lib.hid (by decide +kernel))).mono ?_; rintro e w2 ⟨A2, c2, rfl, r2, h2⟩
  go_wp2_with fail
  refine (split_c 0 _ _ _ [0, 0] (Lib.hid rfl) _ (Nat.le_refl _) (ints_new _ _ _ _ (by decide) rfl) (by decide) (l := [0, 0]) (e := 0) (Lib.hid (by decide +kernel)) (Lib.hid (by decide +kernel))).mono ?_; rintro e w3 ⟨A3, c3, rfl, r3, h3⟩
  go_wp2_with fail
  refine (split_c 1 _ _ _ [0, 0] (Lib.hid rfl) _ (Nat.le_refl _) (ints_new _ _ _ _ (by decide) rfl) (by decide) (l := []) (e := 1) (Lib.hid (by decide +kernel)) (Lib.hid (by decide +kernel))).mono ?_; rintro e w4 ⟨A4, c4, rfl, r4, h4⟩
  go_wp2_with fail
  refine (split_c (-1) _ _ _ [1] (Lib.hid rfl) _ (Nat.le_refl _) (ints_new _ _ _ _ (by decide) rfl) (by decide) (l := []) (e := 1) (Lib.hid (by decide +kernel)) (Lib.hid (by decide +kernel))).mono ?_; rintro e w5 ⟨A5, c5, rfl, r5, h5⟩
  go_wp2_with fail
  refine (same_c _ _ _ _ _ _ [4, 3, 3] [4, 3, 3] (Lib.hid rfl) (Lib.hid rfl) _ (B := w1.heap.size) (show Below w1.heap.size w1 _ from (by repeat (first | (with_reducible exact Below.refl _ _) | (with_reducible apply below_alloc) | (with_reducible refine below_join ?_ (by assumption))))).size (Nat.le_refl _) (r1.mono (by repeat (first | (with_reducible exact Below.refl _ _) | (with_reducible apply below_alloc) | (with_reducible refine below_join ?_ (by assumption))))) (ints_new _ _ _ _ (by decide) rfl) (by decide) (by decide) (r := true) (Lib.hid (by decide))).mono ?_; rintro e w6 ⟨rfl, h6⟩
  go_wp2_with fail
  refine (same_c _ _ _ _ _ _ [4, 7, 10] [4, 7, 10] (Lib.hid rfl) (Lib.hid rfl) _ (B := w2.heap.size) (show Below w2.heap.size w2 _ from (by repeat (first | (with_reducible exact Below.refl _ _) | (with_reducible apply below_alloc) | (with_reducible refine below_join ?_ (by assumption))))).size (Nat.le_refl _) (r2.mono (by repeat (first | (with_reducible exact Below.refl _ _) | (with_reducible apply below_alloc) | (with_reducible refine below_join ?_ (by assumption))))) (ints_new _ _ _ _ (by decide) rfl) (by decide) (by decide) (r := true) (Lib.hid (by decide))).mono ?_; rintro e w7 ⟨rfl, h7⟩
  go_wp2_with fail
  refine (same_c _ _ _ _ _ _ [0, 0] [0, 0] (Lib.hid rfl) (Lib.hid rfl) _ (B := w3.heap.size) (show Below w3.heap.size w3 _ from (by repeat (first | (with_reducible exact Below.refl _ _) | (with_reducible apply below_alloc) | (with_reducible refine below_join ?_ (by assumption))))).size (Nat.le_refl _) (r3.mono (by repeat (first | (with_reducible exact Below.refl _ _) | (with_reducible apply below_alloc) | (with_reducible refine below_join ?_ (by assumption))))) (ints_new _ _ _ _ (by decide) rfl) (by decide) (by decide) (r := true) (Lib.hid (by decide))).mono ?_; rintro e w8 ⟨rfl, h8⟩
  go_wp2_with fail
  go_ret
  exact ⟨rfl, (by repeat (first | (with_reducible exact Below.refl _ _) | (with_reducible apply below_alloc) | (with_reducible refine below_join ?_ (by assumption))))⟩

end Go.Proofs.Yteeoccpnmibceaa.Sh
