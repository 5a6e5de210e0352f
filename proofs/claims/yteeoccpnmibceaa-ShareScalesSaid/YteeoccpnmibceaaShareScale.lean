/- Shares: weights that are all so many times as great; a total that is the weights' own sum: plain facts. -/
import Derived.Test.YteeoccpnmibceaaShareFacts
namespace Go.Proofs.Yteeoccpnmibceaa.Sh
set_option linter.unusedVariables false

theorem sum_scale (K : Nat) (ws : List Nat) : (ws.map (· * K)).sum = ws.sum * K := by
  induction ws with
  | nil => simp
  | cons a l ih => rw [List.map_cons, List.sum_cons, List.sum_cons, ih, Nat.add_mul]
theorem fl_scale (t S x : Nat) {K : Nat} (hK : 0 < K) : fl t (S * K) (x * K) = fl t S x := by
  unfold fl; rw [← Nat.mul_assoc, Nat.mul_div_mul_right _ _ hK]
theorem rs_scale (t S x K : Nat) : rs t (S * K) (x * K) = rs t S x * K := by
  unfold rs; rw [← Nat.mul_assoc, Nat.mul_mod_mul_right]
theorem parts_scale (t K : Nat) (ws : List Nat) : partsOf t (ws.map (· * K)) = (partsOf t ws).map (fun y => (y.1, y.2 * K)) := by
  apply List.ext_getElem?
  intro i
  rw [parts_at, List.getElem?_map, List.getElem?_map, parts_at, sum_scale]
  cases ws[i]? with
  | none => rfl
  | some x => simp [rs_scale]
theorem before_scale {K : Nat} (hK : 0 < K) (a b : Nat × Nat) : before (a.1, a.2 * K) (b.1, b.2 * K) = before a b := by
  rw [Bool.eq_iff_iff, before_iff, before_iff]
  simp only
  rw [Nat.mul_lt_mul_right hK, Nat.mul_left_inj (by omega)]
theorem ahead_scale (t : Nat) {K : Nat} (hK : 0 < K) (ws : List Nat) (i r : Nat) : ahead t (ws.map (· * K)) (i, r * K) = ahead t ws (i, r) := by
  unfold ahead
  rw [parts_scale, List.countP_map]
  apply List.countP_congr
  intro y _
  have := before_scale hK y (i, r)
  simp only [Function.comp]
  rw [this]
theorem left_scale (t : Nat) {K : Nat} (hK : 0 < K) (ws : List Nat) : leftOf t (ws.map (· * K)) = leftOf t ws := by
  unfold leftOf
  rw [List.map_map, sum_scale]
  have : (fl t (ws.sum * K)) ∘ (· * K) = fl t ws.sum := by funext x; exact fl_scale t ws.sum x hK
  rw [this]
theorem split_scale (t : Nat) {K : Nat} (hK : 0 < K) (ws : List Nat) : splitN t (ws.map (· * K)) = splitN t ws := by
  unfold splitN
  rw [left_scale t hK]
  apply List.ext_getElem?
  intro i
  rw [outs_at, outs_at, List.getElem?_map]
  cases ws[i]? with
  | none => rfl
  | some x =>
    simp only [Option.map_some, Option.some.injEq]
    unfold given
    rw [sum_scale, fl_scale t _ _ hK, rs_scale, ahead_scale t hK]
theorem split_own {ws : List Nat} (h : 0 < ws.sum) : splitN ws.sum ws = ws := by
  have hf : ∀ x, fl ws.sum ws.sum x = x := fun x => by unfold fl; exact Nat.mul_div_cancel_left x h
  have hl : leftOf ws.sum ws = 0 := by
    unfold leftOf
    have : fl ws.sum ws.sum = id := by funext x; exact hf x
    rw [this, List.map_id]; omega
  unfold splitN
  rw [hl, outs_zero]
  have : fl ws.sum ws.sum = id := by funext x; exact hf x
  rw [this, List.map_id]

end Go.Proofs.Yteeoccpnmibceaa.Sh
