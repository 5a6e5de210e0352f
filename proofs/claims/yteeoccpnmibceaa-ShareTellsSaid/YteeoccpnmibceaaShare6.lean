/- Shares: the reference: whether a total may be split, sums. -/
import Derived.Test.YteeoccpnmibceaaShareAwake
namespace Go.Proofs.Yteeoccpnmibceaa.Sh
open Go.RowKit Go.Proofs.Yteeoccpnmibceaa.Kit
set_option linter.unusedVariables false
set_option linter.unusedSimpArgs false

theorem take_any (p : Int → Bool) {L : List Int} {k : Nat} {x : Int} (h : L[k]? = some x) : (L.take (k + 1)).any p = ((L.take k).any p || p x) := by
  obtain ⟨hk, rfl⟩ := List.getElem?_eq_some_iff.1 h
  rw [List.take_succ_eq_append_getElem hk, List.any_append]; simp
theorem any_of {p : Int → Bool} {L : List Int} {k : Nat} {x : Int} (h : L[k]? = some x) (hp : p x = true) : L.any p = true := List.any_eq_true.2 ⟨x, List.mem_of_getElem? h, hp⟩

set_option maxHeartbeats 1000000 in
theorem rmay_any (T : Int) (A : Option Addr) (c : Nat) (L : List Int) (w : World) {B : Nat} (hB : B ≤ w.heap.size) (hx : Row (Rep.int .i64) w B A L) (hl : L.length ≤ 9223372036854775807) :
    Calls Try.prog 19 #[.int .i64 T, .slice A L.length c] w fun e w' => e = .returned (.bool (mayS T L)) ∧ w = w' := by
  obtain ⟨res, hres⟩ : ∃ r, Hid (mayS T L = r) := ⟨_, Lib.hid rfl⟩
  rw [hres.out]
  have hres' := hres.out
  unfold mayS at hres'
  by_cases hT : 0 ≤ T ∧ T ≤ 1073741823
  · have hw : wrongB T = false := by unfold wrongB; simp; omega
    rw [hw] at hres'
    have f1 : (T < 0) = False := eq_false (by omega)
    have f2 : (1073741823 < T) = False := eq_false (by omega)
    by_cases hlen : L.length ≤ 300
    · have f3 : (300 < (L.length : Int)) = False := eq_false (by omega)
      have HR : Hid ((!L.any wrongB && (decide (T = 0) || L.any someB)) = res) := Lib.hid (by rw [← hres']; simp [hlen])
      clear hres hres' hw hT
      go_enter Try.func19, Try.ntmps19
      go_wp2
      go_loop [5, 6] (fun s i => ∃ (k : Nat) (b : Bool), k ≤ L.length ∧ i = .int .i64 k ∧ s = .bool b ∧ Hid (b = (decide (T = 0) || (L.take k).any someB)) ∧ Hid ((L.take k).any wrongB = false)) (fun _ i => L.length - (intOf i).toNat)
      case atStart => exact ⟨0, T == 0, by omega, rfl, rfl, Lib.hid (by by_cases h : T = 0 <;> simp [h]), Lib.hid (by simp)⟩
      case round =>
        obtain ⟨k, b, hk, rfl, rfl, HS, HW⟩ := hrel
        by_cases hlt : k < L.length
        · obtain ⟨x, hxk⟩ := at_lt hlt
          obtain ⟨b1, o1, hA, _, hc, _⟩ := int_at hx hxk
          have HXK := Lib.hid hxk
          subst hA
          clear hxk
          rcases (by omega : x < 0 ∨ 1073741823 < x ∨ (0 ≤ x ∧ x ≤ 1073741823)) with h | h | h
          · have g1 : (x < 0) = True := eq_true h
            have HE : Hid (false = res) := Lib.hid (by rw [← HR.out, any_of HXK.out (p := wrongB) (by unfold wrongB; simp; omega)]; simp)
            clear h
            go_wp2
            go_ret
            exact ⟨ret_bool rfl HE.out, rfl⟩
          · have g1 : (x < 0) = False := eq_false (by omega)
            have g2 : (1073741823 < x) = True := eq_true h
            have HE : Hid (false = res) := Lib.hid (by rw [← HR.out, any_of HXK.out (p := wrongB) (by unfold wrongB; simp; omega)]; simp)
            clear h
            go_wp2
            go_ret
            exact ⟨ret_bool rfl HE.out, rfl⟩
          · have g1 : (x < 0) = False := eq_false (by omega)
            have g2 : (1073741823 < x) = False := eq_false (by omega)
            have HW2 : Hid ((L.take (k + 1)).any wrongB = false) := Lib.hid (by rw [take_any _ HXK.out, HW.out]; unfold wrongB; simp; omega)
            have HS2 : Hid ((decide (T = 0) || (L.take (k + 1)).any someB) = (b || decide (0 < x))) := Lib.hid (by rw [take_any _ HXK.out, HS.out, ← Bool.or_assoc]; rfl)
            clear h
            cases b with
            | true =>
              go_wp2
              go_round
              case rel => exact ⟨k + 1, true, by omega, by go_num, rfl, Lib.hid (by rw [HS2.out]; rfl), HW2⟩
              case measure => simp [intOf]; omega
            | false =>
              go_wp2
              go_round
              case rel => exact ⟨k + 1, decide (0 < x), by omega, by go_num, by first | rfl | simp, Lib.hid (by rw [HS2.out]; rfl), HW2⟩
              case measure => simp [intOf]; omega
        · have e : k = L.length := by omega
          subst e
          have HE : Hid (b = res) := Lib.hid (by
            rw [← HR.out, HS.out]
            have h := HW.out
            rw [List.take_length] at h
            rw [List.take_length, h]; simp)
          go_wp2
          go_ret
          exact ⟨ret_bool rfl HE.out, rfl⟩
    · have f3 : (300 < (L.length : Int)) = True := eq_true (by omega)
      have HE : Hid (false = res) := Lib.hid (by rw [← hres']; simp [hlen])
      clear hres hres' hw hT
      go_enter Try.func19, Try.ntmps19
      go_wp2
      go_ret
      exact ⟨ret_bool rfl HE.out, rfl⟩
  · have hw : wrongB T = true := by unfold wrongB; simp; omega
    have HE : Hid (false = res) := Lib.hid (by rw [← hres', hw]; rfl)
    clear hres hres' hw
    rcases (by omega : T < 0 ∨ 1073741823 < T) with h | h
    · have f1 : (T < 0) = True := eq_true h
      clear h hT
      go_enter Try.func19, Try.ntmps19
      go_wp2
      go_ret
      exact ⟨ret_bool rfl HE.out, rfl⟩
    · have f1 : (T < 0) = False := eq_false (by omega)
      have f2 : (1073741823 < T) = True := eq_true h
      clear h hT
      go_enter Try.func19, Try.ntmps19
      go_wp2
      go_ret
      exact ⟨ret_bool rfl HE.out, rfl⟩

set_option maxHeartbeats 1000000 in
theorem rsum_any (ws : List Nat) (A : Option Addr) (c : Nat) (w : World) {B : Nat} (hB : B ≤ w.heap.size) (hx : Row (Rep.int .i64) w B A (ints ws)) (hlen : ws.length ≤ 300) (hwb : ∀ n ∈ ws, n ≤ 1073741823) {S : Nat} (hS : Hid (ws.sum = S)) :
    Calls Try.prog 20 #[.slice A ws.length c] w fun e w' => e = .returned (.int .i64 (S : Nat)) ∧ w = w' := by
  have HWB := Lib.hid hwb
  clear hwb
  go_enter Try.func20, Try.ntmps20
  go_wp2
  go_loop [3, 4] (fun a i => ∃ k : Nat, k ≤ ws.length ∧ i = .int .i64 k ∧ a = .int .i64 ((ws.take k).sum : Nat)) (fun _ i => ws.length - (intOf i).toNat)
  case atStart => exact ⟨0, by omega, rfl, rfl⟩
  case round =>
    obtain ⟨k, hk, rfl, rfl⟩ := hrel
    by_cases hlt : k < ws.length
    · obtain ⟨x, hxk⟩ := at_lt hlt
      have hxk2 : (ints ws)[k]? = some (x : Int) := by simp [ints, hxk]
      obtain ⟨b, o, hA, _, hc, _⟩ := int_at hx hxk2
      obtain ⟨hk0, hk1⟩ := List.getElem?_eq_some_iff.1 hxk
      have hsum2 : (ws.take (k + 1)).sum = (ws.take k).sum + x := by
        rw [List.take_succ_eq_append_getElem hk0, List.sum_append, hk1]; simp
      have hle : (ws.take (k + 1)).sum ≤ 322122546900 := by
        have := sum_le_mul (l := ws.take (k + 1)) (B := 1073741823) (fun y hy => HWB.out y (List.mem_of_mem_take hy))
        have h2 := Nat.mul_le_mul_right 1073741823 (show (ws.take (k + 1)).length ≤ 300 by simp; omega)
        omega
      have hS1 : (ws.take k).sum + x ≤ 322122546900 := by omega
      have HN := Lib.hid hsum2
      clear hsum2 hle hxk hxk2 hk0 hk1
      subst hA
      go_wp2
      go_round
      case rel => exact ⟨k + 1, by omega, by go_num, by rw [HN.out]; go_num⟩
      case measure => simp [intOf]; omega
    · have e : k = ws.length := by omega
      subst e
      go_wp2
      go_ret
      exact ⟨by rw [← hS.out]; rfl, rfl⟩

end Go.Proofs.Yteeoccpnmibceaa.Sh
