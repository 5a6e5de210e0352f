/- Shares: what the parts are like: plain facts. -/
import Derived.Test.YteeoccpnmibceaaSharePlain
namespace Go.Proofs.Yteeoccpnmibceaa.Sh
set_option linter.unusedVariables false

theorem sum_count {B : Nat} : ∀ {l : List Nat}, (∀ x ∈ l, x ≤ B) → l.sum ≤ l.countP (fun x => decide (0 < x)) * B
  | [], _ => by simp
  | a :: l, h => by
    have ih := sum_count (l := l) fun x hx => h x (List.mem_cons_of_mem _ hx)
    have ha := h a (List.mem_cons_self ..)
    rw [List.sum_cons, List.countP_cons]
    by_cases h0 : 0 < a
    · rw [if_pos (by simpa using h0), Nat.add_mul]; omega
    · rw [if_neg (by simpa using h0), Nat.add_zero]; omega
theorem ahead_lt {T : Nat} {ws : List Nat} {a b : Nat × Nat} (ha : a ∈ partsOf T ws) (hb : b ∈ partsOf T ws) (h : before a b = true) : ahead T ws a < ahead T ws b := by
  obtain ⟨hP, hS⟩ := exists_sorted T ws
  generalize ((partsOf T ws).mergeSort fun a b => !before b a) = D at hP hS
  obtain ⟨p, hp⟩ := List.mem_iff_getElem?.1 (hP.mem_iff.2 ha)
  obtain ⟨q, hq⟩ := List.mem_iff_getElem?.1 (hP.mem_iff.2 hb)
  rw [ahead_pos hP hS hp, ahead_pos hP hS hq]
  rcases Nat.lt_trichotomy p q with h1 | h1 | h1
  · exact h1
  · subst h1
    rw [hp] at hq
    cases hq
    rw [before_irrefl] at h; cases h
  · obtain ⟨h2, h3⟩ := List.getElem?_eq_some_iff.1 hp
    obtain ⟨h4, h5⟩ := List.getElem?_eq_some_iff.1 hq
    have := List.pairwise_iff_getElem.1 hS q p h4 h2 h1
    rw [h3, h5, before_asymm _ _ h] at this
    cases this
theorem part_mem {T : Nat} {ws : List Nat} {i x : Nat} (h : ws[i]? = some x) : (i, rs T ws.sum x) ∈ partsOf T ws := by
  apply List.mem_of_getElem? (i := i)
  rw [parts_at, h]; rfl
theorem split_at {T : Nat} {ws : List Nat} {i x : Nat} (h : ws[i]? = some x) : (splitN T ws)[i]? = some (given T ws (leftOf T ws) i x) := by
  unfold splitN; rw [outs_at, h]; rfl
/-- A weight of 0 has nothing. -/
theorem zero_part {T : Nat} {ws : List Nat} {i : Nat} (h : ws[i]? = some 0) (hs : 0 < ws.sum) : (splitN T ws)[i]? = some 0 := by
  rw [split_at h]
  unfold given
  have h1 : fl T ws.sum 0 = 0 := by simp [fl]
  have h2 : rs T ws.sum 0 = 0 := by simp [rs]
  rw [h1, h2, if_neg]
  intro hlt
  obtain ⟨_, hl⟩ := left_eq T ws hs
  have hc := sum_count (l := ws.map (rs T ws.sum)) (B := ws.sum - 1) fun x hx => by
    obtain ⟨w, _, rfl⟩ := List.mem_map.1 hx
    have : rs T ws.sum w < ws.sum := Nat.mod_lt _ hs
    omega
  have he : (ws.map (rs T ws.sum)).countP (fun x => decide (0 < x)) = (partsOf T ws).countP (fun y => before y (i, 0)) - 0 ∨ (ws.map (rs T ws.sum)).countP (fun x => decide (0 < x)) ≤ (partsOf T ws).countP (fun y => before y (i, 0)) := by
    right
    have e : ws.map (rs T ws.sum) = (partsOf T ws).map Prod.snd := by
      unfold partsOf
      rw [List.map_map]
      have : ws.map (rs T ws.sum) = (ws.zipIdx.map Prod.fst).map (rs T ws.sum) := by rw [List.zipIdx_map_fst]
      rw [this, List.map_map]; rfl
    rw [e, List.countP_map]
    refine List.countP_mono_left fun y _ hy => ?_
    rw [before_iff]
    left
    simpa using hy
  have he' : (ws.map (rs T ws.sum)).countP (fun x => decide (0 < x)) ≤ ahead T ws (i, 0) := by
    rcases he with h | h
    · unfold ahead; omega
    · exact h
  have h3 : ahead T ws (i, 0) ≤ leftOf T ws - 1 := by omega
  have h4 : ws.sum * leftOf T ws ≤ (leftOf T ws - 1) * (ws.sum - 1) := by
    rw [hl]
    exact Nat.le_trans hc (Nat.mul_le_mul_right _ (Nat.le_trans he' h3))
  have h5 : (leftOf T ws - 1) * (ws.sum - 1) ≤ (leftOf T ws - 1) * ws.sum := Nat.mul_le_mul_left _ (by omega)
  have h6 : (leftOf T ws - 1) * ws.sum < leftOf T ws * ws.sum := Nat.mul_lt_mul_of_pos_right (by omega) hs
  rw [Nat.mul_comm] at h4
  omega
/-- A greater weight has no lesser part; of one weight they differ by 1 at most. -/
theorem part_order {T : Nat} {ws : List Nat} {i k x y : Nat} (hi : ws[i]? = some x) (hk : ws[k]? = some y) (hT : 0 < T) (hs : 0 < ws.sum) :
    (y < x → given T ws (leftOf T ws) k y ≤ given T ws (leftOf T ws) i x) ∧ (x = y → given T ws (leftOf T ws) i x ≤ given T ws (leftOf T ws) k y + 1) := by
  constructor
  · intro h
    have hm : T * y ≤ T * x := Nat.mul_le_mul_left _ (by omega)
    have hf : fl T ws.sum y ≤ fl T ws.sum x := Nat.div_le_div_right hm
    rcases Nat.lt_or_ge (fl T ws.sum y) (fl T ws.sum x) with h1 | h1
    · unfold given; split <;> split <;> omega
    · have he : fl T ws.sum x = fl T ws.sum y := by omega
      have d1 := Nat.div_add_mod (T * x) ws.sum
      have d2 := Nat.div_add_mod (T * y) ws.sum
      have hlt : T * y < T * x := Nat.mul_lt_mul_of_pos_left h hT
      have hr : rs T ws.sum y < rs T ws.sum x := by
        unfold fl at he
        rw [he] at d1
        unfold rs
        omega
      have hb := ahead_lt (part_mem (T := T) hi) (part_mem (T := T) hk) ((before_iff _ _).2 (.inl hr))
      unfold given
      rw [he]
      split <;> split <;> omega
  · rintro rfl
    unfold given
    split <;> split <;> omega

end Go.Proofs.Yteeoccpnmibceaa.Sh
