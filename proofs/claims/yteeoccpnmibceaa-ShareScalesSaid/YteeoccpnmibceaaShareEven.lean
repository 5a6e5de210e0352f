/- Shares: even weights, and weights of 0 behind: plain facts. -/
import Derived.Test.YteeoccpnmibceaaShareFacts
namespace Go.Proofs.Yteeoccpnmibceaa.Sh
set_option linter.unusedVariables false

def evenW (n z : Nat) : List Nat := List.replicate n 1 ++ List.replicate z 0
theorem evenW_len (n z : Nat) : (evenW n z).length = n + z := by simp [evenW]
theorem evenW_sum (n z : Nat) : (evenW n z).sum = n := by
  have h : ∀ m, (List.replicate m 0).sum = 0 := fun m => by induction m with
    | zero => rfl
    | succ m ih => rw [List.replicate_succ, List.sum_cons, ih]
  have h1 : ∀ m, (List.replicate m 1).sum = m := fun m => by induction m with
    | zero => rfl
    | succ m ih => rw [List.replicate_succ, List.sum_cons, ih]; omega
  unfold evenW; rw [List.sum_append, h, h1]; omega
theorem evenW_at {n z i : Nat} (h : i < n + z) : (evenW n z)[i]? = some (if i < n then 1 else 0) := by
  unfold evenW
  by_cases hi : i < n
  · rw [if_pos hi, List.getElem?_append_left (by simpa using hi), List.getElem?_replicate, if_pos hi]
  · rw [if_neg hi, List.getElem?_append_right (by simp; omega), List.getElem?_replicate, List.length_replicate, if_pos (by omega)]
theorem evenW_rests (t n z : Nat) : ((evenW n z).map (rs t n)).sum = n * (t % n) := by
  have h : ∀ m, (List.replicate m (0 : Nat)).sum = 0 := fun m => by induction m with
    | zero => rfl
    | succ m ih => rw [List.replicate_succ, List.sum_cons, ih]
  have h1 : ∀ (m x : Nat), (List.replicate m x).sum = m * x := fun m x => by induction m with
    | zero => simp
    | succ m ih => rw [List.replicate_succ, List.sum_cons, ih, Nat.add_mul]; omega
  unfold evenW
  rw [List.map_append, List.map_replicate, List.map_replicate, List.sum_append, h1, h1]
  simp [rs]
theorem even_sorted (t n z : Nat) : (partsOf t (evenW n z)).Pairwise fun a b => before a b = true := by
  rw [List.pairwise_iff_getElem]
  intro p q hp hq hpq
  rw [parts_len, evenW_len] at hp hq
  have h1 := parts_at t (evenW n z) p
  have h2 := parts_at t (evenW n z) q
  rw [List.getElem?_eq_getElem (by rw [parts_len, evenW_len]; exact hp), evenW_at hp] at h1
  rw [List.getElem?_eq_getElem (by rw [parts_len, evenW_len]; exact hq), evenW_at hq] at h2
  simp only [Option.map_some, Option.some.injEq] at h1 h2
  rw [h1, h2, before_iff]
  simp only [evenW_sum]
  by_cases h3 : q < n
  · rw [if_pos h3, if_pos (by omega)]
    exact .inr ⟨rfl, hpq⟩
  · rw [if_neg h3]
    have h0 : rs t n 0 = 0 := by simp [rs]
    rw [h0]
    by_cases h4 : rs t n (if p < n then 1 else 0) = 0
    · exact .inr ⟨h4, hpq⟩
    · exact .inl (by omega)
theorem even_left (t : Nat) {n : Nat} (z : Nat) (hn : 0 < n) : leftOf t (evenW n z) = t % n := by
  obtain ⟨_, h⟩ := left_eq t (evenW n z) (by rw [evenW_sum]; exact hn)
  rw [evenW_sum, evenW_rests] at h
  exact Nat.eq_of_mul_eq_mul_left hn h
theorem even_at (t : Nat) {n z i : Nat} (hn : 0 < n) (hi : i < n + z) : (splitN t (evenW n z))[i]? = some (if i < n then t / n + (if i < t % n then 1 else 0) else 0) := by
  have hw := evenW_at hi
  by_cases h : i < n
  · rw [if_pos h] at hw ⊢
    rw [split_at hw]
    have ha : ahead t (evenW n z) (i, rs t (evenW n z).sum 1) = i := ahead_pos (List.Perm.refl _) (even_sorted t n z) (by rw [parts_at, hw]; rfl)
    unfold given
    rw [ha, even_left t z hn, evenW_sum]
    simp [fl]
  · rw [if_neg h] at hw ⊢
    exact zero_part hw (by rw [evenW_sum]; exact hn)

end Go.Proofs.Yteeoccpnmibceaa.Sh
