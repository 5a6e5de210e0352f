/- Rows of which one ends at a space: the plain law. -/
import Derived.Test.YtbkfofmanpjbfaaBack8P
namespace Go.Proofs.Ytbkfofmanpjbfaa.Bk
open Go.RowKit Go.Proofs.Ytbkfofmanpjbfaa.Kit Go.Proofs.Ytbkfofmanpjbfaa.Fo Go.Shelf
set_option linter.unusedVariables false
set_option linter.unusedSimpArgs false

/-- A row that ends at a space. -/
def space (r : RowD) : RowD := { level := r.level, kind := 1, fin := r.fin, defect := r.defect, items := r.items }
/-- Rows of which the last one ends at a space. -/
def spaced (a : List RowD) : List RowD := a.mapIdx fun i r => if i + 1 = a.length then space r else r
theorem spaced_len (a : List RowD) : (spaced a).length = a.length := by simp [spaced]
theorem spaced_at {a : List RowD} {i : Nat} {r : RowD} (h : a[i]? = some r) : (spaced a)[i]? = some (if i + 1 = a.length then space r else r) := by simp [spaced, h]
theorem line_space (d : FontD) (r : RowD) : lineP d (space r) = lineP d r := rfl
theorem words_ok {d : FontD} {rows : List RowD} (h : (wordsP d rows).2 = 0) : ligB d = true ∧ badN d rows.length 0 rows = false ∧ rows ≠ [] ∧ (wordsP d rows).1 = wholeP (rows.map (lineP d)) (rows.map (·.kind)) := by
  unfold wordsP at h ⊢
  split at h
  · cases h
  · rename_i h1
    split at h
    · cases h
    · rename_i h2
      simp only [Bool.or_eq_true, not_or, Bool.not_eq_true, List.isEmpty_iff] at h2
      rw [if_neg h1, if_neg (by simp [h2.1, h2.2])]
      exact ⟨by simpa using h1, h2.1, fun e => by simp [e] at h2, rfl⟩
theorem badN_false {d : FontD} {m : Nat} : ∀ {i : Nat} {rs : List RowD}, badN d m i rs = false → ∀ (k : Nat) (r : RowD), rs[k]? = some r → badR d m (i + k) r = false
  | i, [], _, k, r, hr => by simp at hr
  | i, x :: rs, h, 0, r, hr => by
    simp only [List.getElem?_cons_zero, Option.some.injEq] at hr
    subst hr
    rw [badN, Bool.or_eq_false_iff] at h
    exact h.1
  | i, x :: rs, h, k + 1, r, hr => by
    rw [badN, Bool.or_eq_false_iff] at h
    have := badN_false h.2 k r (by simpa using hr)
    rw [show i + (k + 1) = i + 1 + k by omega]
    exact this
theorem putP_behind (f on : Bool) (X out : List (List Int)) (p : List Int) (h : f = true → on = true → out ≠ []) : putP f on (X ++ out) p = X ++ putP f on out p := by
  unfold putP
  by_cases hc : (f && on) = true
  · simp only [Bool.and_eq_true] at hc
    have hne := h hc.1 hc.2
    have hl := List.length_pos_iff.2 hne
    have hX : (X ++ out) ≠ [] := by simp [hne]
    rw [if_pos (by simp [hc.1, hc.2, hX]), if_pos (by simp [hc.1, hc.2, hne])]
    rw [List.length_append, show X.length + out.length - 1 = X.length + (out.length - 1) by omega, List.set_append_right _ _ (by omega), show X.length + (out.length - 1) - X.length = out.length - 1 by omega]
    congr 3
    rw [List.getD_eq_getElem?_getD, List.getD_eq_getElem?_getD, List.getElem?_append_right (by omega), show X.length + (out.length - 1) - X.length = out.length - 1 by omega]
  · rw [if_neg (by simp at hc ⊢; intro h1 h2; rw [hc h1] at h2; cases h2), if_neg (by simp at hc ⊢; intro h1 h2; rw [hc h1] at h2; cases h2), List.append_assoc]
theorem putP_ne (f on : Bool) (out : List (List Int)) (p : List Int) : putP f on out p ≠ [] := by
  unfold putP
  split
  · rename_i h
    simp only [Bool.and_eq_true, Bool.not_eq_true', List.isEmpty_eq_false_iff] at h
    intro e
    have := congrArg List.length e
    simp at this
    exact h.2 this
  · simp
theorem putN_behind (k : Int) (on : Bool) (l X out : List (List Int)) (h : on = true → out ≠ []) : ∀ j, putN k on l (X ++ out) j = X ++ putN k on l out j
  | 0 => rfl
  | j + 1 => by
    unfold putN
    rw [putN_behind k on l X out h j]
    refine putP_behind _ _ _ _ _ (fun h1 h2 => ?_)
    have : j = 0 := by simpa using h1
    subst this
    exact h h2
theorem putN_ne (k : Int) (on : Bool) (l out : List (List Int)) (j : Nat) (h : 0 < j) : putN k on l out j ≠ [] := by
  obtain ⟨i, rfl⟩ : ∃ i, j = i + 1 := ⟨j - 1, by omega⟩
  unfold putN
  exact putP_ne _ _ _ _
theorem whole_ne {ls : List (List (List Int))} {ks : List Int} (hl : ∀ l ∈ ls, l ≠ []) : ∀ i, i ≤ ls.length → (wholeN ls ks i).2 = true → (wholeN ls ks i).1 ≠ []
  | 0, _, h => by cases h
  | i + 1, hi, _ => by
    have e : ls[i]? = some (ls.getD i []) := by rw [List.getD_eq_getElem?_getD, List.getElem?_eq_getElem (by omega)]; rfl
    have := List.length_pos_iff.2 (hl _ (List.mem_of_getElem? e))
    unfold wholeN
    exact putN_ne _ _ _ _ _ this
/-- Two heaps of lines, of which the first one ends so that the second one begins anew. -/
theorem whole_behind {la lb : List (List (List Int))} {ka kb : List Int} (hlen : ka.length = la.length) (hl : ∀ l ∈ lb, l ≠ []) (hoff : (wholeN (la ++ lb) (ka ++ kb) la.length).2 = false) :
    ∀ j, j ≤ lb.length → wholeN (la ++ lb) (ka ++ kb) (la.length + j) = ((wholeN (la ++ lb) (ka ++ kb) la.length).1 ++ (wholeN lb kb j).1, (wholeN lb kb j).2)
  | 0, _ => by
    simp only [Nat.add_zero, wholeN, List.append_nil]
    rw [← hoff]
  | j + 1, hj => by
    have ih := whole_behind hlen hl hoff j (by omega)
    rw [show la.length + (j + 1) = (la.length + j) + 1 from rfl]
    rw [wholeN, ih, wholeN]
    have e1 : (la ++ lb).getD (la.length + j) [] = lb.getD j [] := by
      rw [List.getD_eq_getElem?_getD, List.getD_eq_getElem?_getD, List.getElem?_append_right (by omega), Nat.add_sub_cancel_left]
    have e2 : (ka ++ kb).getD (la.length + j) 0 = kb.getD j 0 := by
      rw [List.getD_eq_getElem?_getD, List.getD_eq_getElem?_getD, List.getElem?_append_right (by omega), hlen, Nat.add_sub_cancel_left]
    rw [e1, e2]
    simp only
    rw [putN_behind _ _ _ _ _ (fun h => whole_ne hl j (by omega) h)]
theorem putN_kind {k k' : Int} (hk : hyB k = hyB k') (on : Bool) (l out : List (List Int)) : ∀ j, putN k on l out j = putN k' on l out j
  | 0 => rfl
  | j + 1 => by
    unfold putN
    rw [putN_kind hk on l out j]
    unfold cutP
    rw [hk]
theorem whole_front {la lb : List (List (List Int))} {ka ka' kb : List Int} (hlen : ka.length = la.length) (hlen' : ka'.length = la.length) : ∀ i, i ≤ la.length → (∀ j, j < i → j + 1 < la.length → ka[j]? = ka'[j]?) → (∀ j, j < i → hyB (ka.getD j 0) = hyB (ka'.getD j 0)) →
    (wholeN (la ++ lb) (ka' ++ kb) i).1 = (wholeN la ka i).1 ∧ (i < la.length → (wholeN (la ++ lb) (ka' ++ kb) i).2 = (wholeN la ka i).2)
  | 0, _, _, _ => ⟨rfl, fun _ => rfl⟩
  | i + 1, hi, h1, h2 => by
    obtain ⟨ih1, ih2⟩ := whole_front hlen hlen' (kb := kb) (lb := lb) i (by omega) (fun j hj => h1 j (by omega)) (fun j hj => h2 j (by omega))
    have e1 : (la ++ lb).getD i [] = la.getD i [] := by
      rw [List.getD_eq_getElem?_getD, List.getD_eq_getElem?_getD, List.getElem?_append_left (by omega)]
    have e2 : (ka' ++ kb).getD i 0 = ka'.getD i 0 := by
      rw [List.getD_eq_getElem?_getD, List.getD_eq_getElem?_getD, List.getElem?_append_left (by omega)]
    have e3 := h2 i (by omega)
    refine ⟨?_, fun hlt => ?_⟩
    · rw [wholeN, wholeN, e1, e2, ih1, ih2 (by omega)]
      exact putN_kind e3.symm _ _ _ _
    · rw [wholeN, wholeN, e2]
      have e4 : ka.getD i 0 = ka'.getD i 0 := by rw [List.getD_eq_getElem?_getD, List.getD_eq_getElem?_getD, h1 i (by omega) hlt]
      simp only [e4]
theorem whole_parts {la lb : List (List (List Int))} {ka ka' kb : List Int} (hlen : ka.length = la.length) (hlen' : ka'.length = la.length) (hla : la ≠ []) (hl : ∀ l ∈ lb, l ≠ []) (h1 : ∀ j, j + 1 < la.length → ka[j]? = ka'[j]?) (h2 : ka.getD (la.length - 1) 0 = 5) (h3 : ka'.getD (la.length - 1) 0 = 1) :
    wholeP (la ++ lb) (ka' ++ kb) = wholeP la ka ++ wholeP lb kb := by
  have hp := List.length_pos_iff.2 hla
  have hy : ∀ j, j < la.length → hyB (ka.getD j 0) = hyB (ka'.getD j 0) := fun j hj => by
    by_cases e : j + 1 = la.length
    · rw [show j = la.length - 1 by omega, h2, h3]; rfl
    · rw [List.getD_eq_getElem?_getD, List.getD_eq_getElem?_getD, h1 j (by omega)]
  have hf := whole_front hlen hlen' (kb := kb) (lb := lb) la.length (Nat.le_refl _) (fun j _ hj => h1 j hj) hy
  have hoff : (wholeN (la ++ lb) (ka' ++ kb) la.length).2 = false := by
    obtain ⟨n, hn⟩ : ∃ n, la.length = n + 1 := ⟨la.length - 1, by omega⟩
    have e2 : (ka' ++ kb).getD n 0 = 1 := by
      rw [List.getD_eq_getElem?_getD, List.getElem?_append_left (by omega), ← List.getD_eq_getElem?_getD, show n = la.length - 1 by omega, h3]
    rw [hn, wholeN, e2]
    rfl
  have hb := whole_behind hlen' (kb := kb) hl hoff lb.length (Nat.le_refl _)
  unfold wholeP
  rw [List.length_append, hb, hf.1]
theorem parts_plain {d : FontD} {a b : List RowD} (ha : (wordsP d a).2 = 0) (hb : (wordsP d b).2 = 0) : wordsP d (spaced a ++ b) = ((wordsP d a).1 ++ (wordsP d b).1, 0) := by
  obtain ⟨hL, hA, hna, ea⟩ := words_ok ha
  obtain ⟨_, hB, hnb, eb⟩ := words_ok hb
  have hpa := List.length_pos_iff.2 hna
  have hpb := List.length_pos_iff.2 hnb
  have kA : ∀ (i : Nat) (r : RowD), a[i]? = some r → ((lineP d r).any (·.isEmpty)) = false ∧ (r.kind == 5) = decide (i + 1 = a.length) ∧ ((r.kind == 2 || r.kind == 3) && lastC ((lineP d r).getD ((lineP d r).length - 1) []) != 45) = false := fun i r hr => by
    have := badN_false hA i r hr
    unfold badR at this
    rw [Nat.zero_add] at this
    simp only [Bool.or_eq_false_iff] at this
    exact ⟨this.1.1, by simpa using this.1.2, this.2⟩
  have kB : ∀ (i : Nat) (r : RowD), b[i]? = some r → ((lineP d r).any (·.isEmpty)) = false ∧ (r.kind == 5) = decide (i + 1 = b.length) ∧ ((r.kind == 2 || r.kind == 3) && lastC ((lineP d r).getD ((lineP d r).length - 1) []) != 45) = false := fun i r hr => by
    have := badN_false hB i r hr
    unfold badR at this
    rw [Nat.zero_add] at this
    simp only [Bool.or_eq_false_iff] at this
    exact ⟨this.1.1, by simpa using this.1.2, this.2⟩
  have hbad : badN d (spaced a ++ b).length 0 (spaced a ++ b) = false := by
    refine badN_none _ _ _ _ (fun k r hk => ?_)
    rw [Nat.zero_add]
    unfold badR
    have hlen : (spaced a ++ b).length = a.length + b.length := by rw [List.length_append, spaced_len]
    rw [hlen]
    simp only [Bool.or_eq_false_iff]
    by_cases hlt : k < a.length
    · obtain ⟨q, hq⟩ := at_lt hlt
      rw [List.getElem?_append_left (by rw [spaced_len]; exact hlt), spaced_at hq] at hk
      obtain ⟨k1, k2, k3⟩ := kA k q hq
      by_cases e : k + 1 = a.length
      · rw [if_pos e] at hk
        cases hk
        rw [line_space]
        refine ⟨⟨k1, ?_⟩, rfl⟩
        rw [decide_eq_false (by omega : ¬ k + 1 = a.length + b.length)]
        rfl
      · rw [if_neg e] at hk
        cases hk
        refine ⟨⟨k1, ?_⟩, k3⟩
        rw [k2, decide_eq_false e, decide_eq_false (by omega : ¬ k + 1 = a.length + b.length)]
        rfl
    · rw [List.getElem?_append_right (by rw [spaced_len]; omega), spaced_len] at hk
      obtain ⟨k1, k2, k3⟩ := kB _ r hk
      refine ⟨⟨k1, ?_⟩, k3⟩
      rw [k2]
      have : decide (k - a.length + 1 = b.length) = decide (k + 1 = a.length + b.length) := by
        congr 1
        apply propext
        omega
      rw [this]
      simp
  have e5 : ∃ r, a[a.length - 1]? = some r := at_lt (by omega)
  obtain ⟨r5, hr5⟩ := e5
  have k5 := (kA _ r5 hr5).2.1
  rw [decide_eq_true (by omega)] at k5
  have e1 : (spaced a).map (lineP d) = a.map (lineP d) := by
    apply List.ext_getElem?
    intro i
    rw [List.getElem?_map, List.getElem?_map]
    by_cases hi : i < a.length
    · obtain ⟨q, hq⟩ := at_lt hi
      rw [spaced_at hq, hq]
      by_cases e : i + 1 = a.length
      · rw [if_pos e]; rfl
      · rw [if_neg e]
    · rw [List.getElem?_eq_none (by rw [spaced_len]; omega), List.getElem?_eq_none (by omega)]
  have hW := whole_parts (la := a.map (lineP d)) (lb := b.map (lineP d)) (ka := a.map (·.kind)) (ka' := (spaced a).map (·.kind)) (kb := b.map (·.kind)) (by simp) (by simp [spaced_len]) (by simpa using hna)
    (fun l hl => by
      obtain ⟨q, _, rfl⟩ := List.mem_map.1 hl
      exact line_ne d q)
    (fun j hj => by
      rw [List.length_map] at hj
      obtain ⟨q, hq⟩ := at_lt (show j < a.length by omega)
      rw [List.getElem?_map, List.getElem?_map, spaced_at hq, hq, if_neg (by omega)])
    (by
      rw [List.length_map, List.getD_eq_getElem?_getD, List.getElem?_map, hr5]
      simpa using k5)
    (by
      rw [List.length_map, List.getD_eq_getElem?_getD, List.getElem?_map, spaced_at hr5, if_pos (by omega)]
      rfl)
  rw [ea, eb]
  unfold wordsP
  rw [if_neg (by rw [hL]; simp), hbad, if_neg (by simp [hnb]), List.map_append, List.map_append, e1, hW]
end Go.Proofs.Ytbkfofmanpjbfaa.Bk
