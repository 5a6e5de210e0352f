/- Shares: the plain law. -/
namespace Go.Proofs.Yteeoccpnmibceaa.Sh
set_option linter.unusedVariables false

/-- A part is ahead of another one: its rest is greater, or it is as great, and stands ahead. -/
def before (x y : Nat × Nat) : Bool := decide (y.2 < x.2) || (decide (x.2 = y.2) && decide (x.1 < y.1))
theorem before_iff (x y : Nat × Nat) : before x y = true ↔ y.2 < x.2 ∨ (x.2 = y.2 ∧ x.1 < y.1) := by
  unfold before; simp
theorem before_irrefl (x : Nat × Nat) : before x x = false := by
  have := before_iff x x; cases h : before x x
  · rfl
  · have := this.1 h; omega
theorem before_asymm (x y : Nat × Nat) (h : before x y = true) : before y x = false := by
  have h1 := (before_iff x y).1 h
  cases h2 : before y x
  · rfl
  · have := (before_iff y x).1 h2; omega

/-! ### Lists -/
theorem pos_count {α : Type} (lt : α → α → Bool) (hi : ∀ a, lt a a = false) (ha : ∀ a b, lt a b = true → lt b a = false) : ∀ (D : List α) (p : Nat) (x : α), D.Pairwise (fun a b => lt a b = true) → D[p]? = some x → D.countP (fun y => lt y x) = p
  | [], p, x, _, h => by simp at h
  | d :: D, 0, x, hp, h => by
    simp at h
    subst h
    rw [List.countP_cons, hi]
    have : D.countP (fun y => lt y d) = 0 := by
      rw [List.countP_eq_zero]
      intro b hb
      have := ha _ _ ((List.pairwise_cons.1 hp).1 b hb)
      simp [this]
    simp [this]
  | d :: D, p + 1, x, hp, h => by
    simp at h
    have hx : x ∈ D := List.mem_of_getElem? h
    rw [List.countP_cons, pos_count lt hi ha D p x (List.pairwise_cons.1 hp).2 h, (List.pairwise_cons.1 hp).1 x hx]
    simp
theorem count_range (L : Nat) : ∀ n, (List.range n).countP (fun p => decide (p < L)) = min L n
  | 0 => by simp
  | n + 1 => by
    rw [List.range_succ, List.countP_append, count_range L n]
    by_cases h : n < L <;> simp [h] <;> omega
theorem map_range {α : Type} (c : α → Nat) (D : List α) (h : ∀ p x, D[p]? = some x → c x = p) : D.map c = List.range D.length := by
  apply List.ext_getElem?
  intro i
  rw [List.getElem?_map]
  cases hx : D[i]? with
  | none =>
    have : D.length ≤ i := by simpa using hx
    simp [this]
  | some x =>
    have hi : i < D.length := (List.getElem?_eq_some_iff.1 hx).1
    simp [hi, h i x hx]
theorem sum_if {α : Type} (f : α → Nat) (p : α → Bool) (l : List α) : (l.map fun x => f x + if p x then 1 else 0).sum = (l.map f).sum + l.countP p := by
  induction l with
  | nil => rfl
  | cons a l ih =>
    rw [List.map_cons, List.map_cons, List.sum_cons, List.sum_cons, List.countP_cons, ih]
    split <;> omega
theorem sum_le_mul {l : List Nat} {B : Nat} (h : ∀ x ∈ l, x ≤ B) : l.sum ≤ l.length * B := by
  induction l with
  | nil => simp
  | cons a l ih =>
    rw [List.sum_cons, List.length_cons, Nat.add_mul]
    have := ih (fun x hx => h x (List.mem_cons_of_mem _ hx))
    have := h a (List.mem_cons_self ..)
    omega
theorem mem_le_sum {l : List Nat} {x : Nat} (h : x ∈ l) : x ≤ l.sum := by
  induction l with
  | nil => simp at h
  | cons a l ih =>
    rw [List.sum_cons]
    rcases List.mem_cons.1 h with rfl | h
    · omega
    · have := ih h; omega
theorem sum_mul (T : Nat) (l : List Nat) : (l.map fun w => T * w).sum = T * l.sum := by
  induction l with
  | nil => rfl
  | cons a l ih => rw [List.map_cons, List.sum_cons, List.sum_cons, ih, Nat.mul_add]
theorem sum_div_mod (A : Nat) (l : List Nat) : A * (l.map fun w => w / A).sum + (l.map fun w => w % A).sum = l.sum := by
  induction l with
  | nil => rfl
  | cons a l ih =>
    rw [List.map_cons, List.map_cons, List.sum_cons, List.sum_cons, List.sum_cons, Nat.mul_add]
    have := Nat.div_add_mod a A
    omega

/-! ### Parts -/
def fl (T A w : Nat) : Nat := T * w / A
def rs (T A w : Nat) : Nat := T * w % A
def partsOf (T : Nat) (ws : List Nat) : List (Nat × Nat) := ws.zipIdx.map fun x => (x.2, rs T ws.sum x.1)
def ahead (T : Nat) (ws : List Nat) (x : Nat × Nat) : Nat := (partsOf T ws).countP fun y => before y x
def leftOf (T : Nat) (ws : List Nat) : Nat := T - (ws.map (fl T ws.sum)).sum
/-- So many parts have got one more. -/
def given (T : Nat) (ws : List Nat) (k i w : Nat) : Nat := fl T ws.sum w + if ahead T ws (i, rs T ws.sum w) < k then 1 else 0
def outs (T : Nat) (ws : List Nat) (k : Nat) : List Nat := ws.zipIdx.map fun x => given T ws k x.2 x.1
/-- A total in parts. -/
def splitN (T : Nat) (ws : List Nat) : List Nat := outs T ws (leftOf T ws)

theorem parts_at (T : Nat) (ws : List Nat) (i : Nat) : (partsOf T ws)[i]? = (ws[i]?).map fun w => (i, rs T ws.sum w) := by
  unfold partsOf
  rw [List.getElem?_map, List.getElem?_zipIdx]
  cases ws[i]? <;> simp
theorem outs_at (T : Nat) (ws : List Nat) (k i : Nat) : (outs T ws k)[i]? = (ws[i]?).map fun w => given T ws k i w := by
  unfold outs
  rw [List.getElem?_map, List.getElem?_zipIdx]
  cases ws[i]? <;> simp
theorem parts_len (T : Nat) (ws : List Nat) : (partsOf T ws).length = ws.length := by simp [partsOf]
theorem outs_len (T : Nat) (ws : List Nat) (k : Nat) : (outs T ws k).length = ws.length := by simp [outs]
theorem split_len (T : Nat) (ws : List Nat) : (splitN T ws).length = ws.length := outs_len ..

/-- In a sorted row each part stands where its number of parts ahead says. -/
theorem ahead_pos {T : Nat} {ws : List Nat} {D : List (Nat × Nat)} (hP : D.Perm (partsOf T ws)) (hS : D.Pairwise fun a b => before a b = true) {p : Nat} {x : Nat × Nat} (h : D[p]? = some x) : ahead T ws x = p := by
  unfold ahead
  rw [← hP.countP_eq]
  exact pos_count before before_irrefl before_asymm D p x hS h
theorem part_of {T : Nat} {ws : List Nat} {x : Nat × Nat} (h : x ∈ partsOf T ws) : ∃ w, ws[x.1]? = some w ∧ x = (x.1, rs T ws.sum w) := by
  obtain ⟨i, hi⟩ := List.mem_iff_getElem?.1 h
  rw [parts_at] at hi
  cases hw : ws[i]? with
  | none => rw [hw] at hi; simp at hi
  | some w =>
    rw [hw] at hi
    simp at hi
    subst hi
    exact ⟨w, hw, rfl⟩
/-- One step: the part that stands at k gets one more. -/
theorem outs_step {T : Nat} {ws : List Nat} {D : List (Nat × Nat)} (hP : D.Perm (partsOf T ws)) (hS : D.Pairwise fun a b => before a b = true) {k : Nat} {x : Nat × Nat} (h : D[k]? = some x) :
    ∃ w, ws[x.1]? = some w ∧ (outs T ws k)[x.1]? = some (given T ws k x.1 w) ∧ outs T ws (k + 1) = (outs T ws k).set x.1 (given T ws k x.1 w + 1) := by
  have hx : x ∈ partsOf T ws := hP.mem_iff.1 (List.mem_of_getElem? h)
  obtain ⟨w, hw, he⟩ := part_of hx
  refine ⟨w, hw, by rw [outs_at, hw]; rfl, ?_⟩
  have ha := ahead_pos hP hS h
  have hlt : x.1 < ws.length := (List.getElem?_eq_some_iff.1 hw).1
  apply List.ext_getElem?
  intro i
  rw [outs_at, List.getElem?_set]
  by_cases hi : x.1 = i
  · rw [if_pos hi, if_pos (by rw [outs_len]; omega), ← hi, hw]
    simp only [Option.map_some, Option.some.injEq]
    unfold given
    have ha : ahead T ws (x.1, rs T ws.sum w) = k := by rw [← he]; exact ha
    rw [ha, if_pos (by omega), if_neg (by omega)]
  · rw [if_neg hi, outs_at]
    cases hv : ws[i]? with
    | none => rfl
    | some v =>
      simp only [Option.map_some, Option.some.injEq]
      unfold given
      have hne : ahead T ws (i, rs T ws.sum v) ≠ k := by
        intro hk
        have hm : (i, rs T ws.sum v) ∈ D := hP.mem_iff.2 (by
          apply List.mem_of_getElem? (i := i)
          rw [parts_at, hv]; rfl)
        obtain ⟨p, hp⟩ := List.mem_iff_getElem?.1 hm
        have := ahead_pos hP hS hp
        rw [hk] at this
        subst this
        rw [hp] at h
        simp at h
        exact hi (by rw [← h])
      by_cases h2 : ahead T ws (i, rs T ws.sum v) < k
      · rw [if_pos h2, if_pos (by omega)]
      · rw [if_neg h2, if_neg (by omega)]
theorem outs_zero (T : Nat) (ws : List Nat) : outs T ws 0 = ws.map (fl T ws.sum) := by
  apply List.ext_getElem?
  intro i
  rw [outs_at, List.getElem?_map]
  cases ws[i]? <;> simp [given]

/-! ### What is left -/
theorem floors_le (T : Nat) (ws : List Nat) (h : 0 < ws.sum) : ws.sum * (ws.map (fl T ws.sum)).sum + (ws.map (rs T ws.sum)).sum = T * ws.sum := by
  have := sum_div_mod ws.sum (ws.map fun w => T * w)
  rw [List.map_map, List.map_map, sum_mul] at this
  exact this
theorem left_eq (T : Nat) (ws : List Nat) (h : 0 < ws.sum) : (ws.map (fl T ws.sum)).sum ≤ T ∧ ws.sum * leftOf T ws = (ws.map (rs T ws.sum)).sum := by
  have h1 := floors_le T ws h
  have h2 : (ws.map (fl T ws.sum)).sum ≤ T := by
    have : ws.sum * (ws.map (fl T ws.sum)).sum ≤ ws.sum * T := by rw [Nat.mul_comm ws.sum T]; omega
    exact Nat.le_of_mul_le_mul_left this h
  refine ⟨h2, ?_⟩
  unfold leftOf
  rw [Nat.mul_sub, Nat.mul_comm ws.sum T]
  omega
theorem left_lt (T : Nat) (ws : List Nat) (h : 0 < ws.sum) : leftOf T ws < ws.length := by
  obtain ⟨_, h2⟩ := left_eq T ws h
  have h3 : (ws.map (rs T ws.sum)).sum ≤ ws.length * (ws.sum - 1) := by
    have := sum_le_mul (l := ws.map (rs T ws.sum)) (B := ws.sum - 1) (fun x hx => by
      obtain ⟨w, _, rfl⟩ := List.mem_map.1 hx
      have : rs T ws.sum w < ws.sum := Nat.mod_lt _ h
      omega)
    simpa using this
  rw [← h2] at h3
  have hl : 0 < ws.length := by
    cases ws with
    | nil => simp at h
    | cons a l => simp
  have h4 : ws.length * (ws.sum - 1) < ws.length * ws.sum := Nat.mul_lt_mul_of_pos_left (by omega) hl
  have : ws.sum * leftOf T ws < ws.sum * ws.length := by rw [Nat.mul_comm ws.sum ws.length]; omega
  exact Nat.lt_of_mul_lt_mul_left this
theorem exists_sorted (T : Nat) (ws : List Nat) : ((partsOf T ws).mergeSort fun a b => !before b a).Perm (partsOf T ws) ∧ ((partsOf T ws).mergeSort fun a b => !before b a).Pairwise fun a b => before a b = true := by
  refine ⟨List.mergeSort_perm _ _, ?_⟩
  have hp : ((partsOf T ws).mergeSort fun a b => !before b a).Pairwise (fun a b => (!before b a) = true) := by
    apply List.pairwise_mergeSort
    · intro a b c h1 h2
      simp only [Bool.not_eq_true', Bool.eq_false_iff, ne_eq, before_iff] at *
      omega
    · intro a b
      simp only [Bool.or_eq_true, Bool.not_eq_true', Bool.eq_false_iff, ne_eq, before_iff]
      omega
  have hn : ((partsOf T ws).mergeSort fun a b => !before b a).Nodup := by
    rw [(List.mergeSort_perm _ _).nodup_iff]
    have hpl : (partsOf T ws).Pairwise fun a b => a.1 < b.1 := by
      rw [List.pairwise_iff_getElem]
      intro i j hi hj hij
      have h1 := parts_at T ws i
      have h2 := parts_at T ws j
      rw [parts_len] at hi hj
      rw [List.getElem?_eq_getElem (by rw [parts_len]; omega), List.getElem?_eq_getElem hi] at h1
      rw [List.getElem?_eq_getElem (by rw [parts_len]; omega), List.getElem?_eq_getElem hj] at h2
      simp at h1 h2
      rw [h1, h2]
      exact hij
    exact hpl.imp fun {a b} h e => by rw [e] at h; omega
  refine (hp.and hn).imp fun {a b} ⟨h1, h2⟩ => ?_
  rw [before_iff]
  have h3 : ¬ before b a = true := by simpa using h1
  rw [before_iff] at h3
  have h4 : ¬ (a.1 = b.1 ∧ a.2 = b.2) := fun h => h2 (by cases a; cases b; simp_all)
  omega
theorem outs_sum (T : Nat) (ws : List Nat) (k : Nat) (hk : k ≤ ws.length) : (outs T ws k).sum = (ws.map (fl T ws.sum)).sum + k := by
  obtain ⟨hP, hS⟩ := exists_sorted T ws
  generalize ((partsOf T ws).mergeSort fun a b => !before b a) = D at hP hS
  have e : outs T ws k = ws.zipIdx.map fun x => fl T ws.sum x.1 + if decide (ahead T ws (x.2, rs T ws.sum x.1) < k) then 1 else 0 := by
    unfold outs given; simp
  rw [e, sum_if (fun x : Nat × Nat => fl T ws.sum x.1) (fun x => decide (ahead T ws (x.2, rs T ws.sum x.1) < k))]
  have e1 : (ws.zipIdx.map fun x => fl T ws.sum x.1) = ws.map (fl T ws.sum) := by
    have : (ws.zipIdx.map fun x => fl T ws.sum x.1) = (ws.zipIdx.map Prod.fst).map (fl T ws.sum) := by rw [List.map_map]; rfl
    rw [this, List.zipIdx_map_fst]
  have e2 : ws.zipIdx.countP (fun x => decide (ahead T ws (x.2, rs T ws.sum x.1) < k)) = (partsOf T ws).countP (fun x => decide (ahead T ws x < k)) := by
    unfold partsOf
    rw [List.countP_map]; rfl
  have e3 : (partsOf T ws).countP (fun x => decide (ahead T ws x < k)) = k := by
    rw [← hP.countP_eq]
    have hm := map_range (ahead T ws) D (fun p x h => ahead_pos hP hS h)
    have : D.countP (fun x => decide (ahead T ws x < k)) = (D.map (ahead T ws)).countP (fun p => decide (p < k)) := by rw [List.countP_map]; rfl
    rw [this, hm, count_range, hP.length_eq, parts_len]
    omega
  rw [e1, e2, e3]
theorem split_sum (T : Nat) (ws : List Nat) (h : 0 < ws.sum) : (splitN T ws).sum = T := by
  have h1 := (left_eq T ws h).1
  have h2 := left_lt T ws h
  unfold splitN
  rw [outs_sum T ws _ (by omega)]
  unfold leftOf
  omega

end Go.Proofs.Yteeoccpnmibceaa.Sh
