/- How long what rows are made of may be; a text of words, as plain data. -/
import Derived.Test.YtbkfofmanpjbfaaBack6P
namespace Go.Proofs.Ytbkfofmanpjbfaa.Bk
open Go.RowKit Go.Proofs.Ytbkfofmanpjbfaa.Kit Go.Proofs.Ytbkfofmanpjbfaa.Fo Go.Shelf
open Go.Proofs.YtbkfofmanpjbfaaW.PrintWords (Kd)
set_option linter.unusedVariables false
set_option linter.unusedSimpArgs false

theorem expandV_len (d : FontD) (l : List Int) : (expandV d l).length ≤ 257 * l.length := by
  unfold expandV
  cases hm : madeP d with
  | none => simp
  | some out => exact expandP_len (made_ok hm) l
theorem sumL_cons (x : List Int) (xs : List (List Int)) : sumL (x :: xs) = x.length + sumL xs := by simp [sumL]
theorem sumL_append (xs ys : List (List Int)) : sumL (xs ++ ys) = sumL xs + sumL ys := by simp [sumL]
theorem mem_sum {x : List Int} : ∀ {xs : List (List Int)}, x ∈ xs → x.length ≤ sumL xs
  | y :: xs, h => by
    rw [sumL_cons]
    rcases List.mem_cons.1 h with rfl | h
    · omega
    · have := mem_sum h; omega
theorem split_sum : ∀ (L cs : List Int), sumL (splitG L cs) ≤ L.length + cs.length
  | L, [] => by simp [splitG, sumL]
  | L, c :: cs => by
    by_cases h : c = 32
    · rw [split_gap h, sumL_cons]; have := split_sum [] cs; simp at this ⊢; omega
    · rw [split_on h]; have := split_sum (L ++ [c]) cs; simp at this ⊢; omega
theorem line_sum (d : FontD) (r : RowD) : sumL (lineP d r) ≤ 257 * r.items.length := by
  have h1 : ∀ xs : List (List Int), sumL (xs.map (expandV d)) ≤ 257 * sumL xs := fun xs => by
    induction xs with
    | nil => simp [sumL]
    | cons x xs ih => rw [List.map_cons, sumL_cons, sumL_cons]; have := expandV_len d x; omega
  have h2 := split_sum [] (codesOf r)
  have h3 := h1 (splitG [] (codesOf r))
  have h4 : (codesOf r).length = r.items.length := by simp [codesOf]
  unfold lineP
  rw [h4] at h2
  simp at h2
  omega
theorem set_sum (p : List Int) : ∀ (out : List (List Int)) (n : Nat), n < out.length → sumL (out.set n (out.getD n [] ++ p)) = sumL out + p.length
  | [], n, h => by simp at h
  | x :: out, 0, _ => by simp [sumL_cons]; omega
  | x :: out, n + 1, h => by
    have ih := set_sum p out n (by simpa using h)
    simp only [List.set_cons_succ, sumL_cons, List.getD_cons_succ, ih]
    omega
theorem putP_sum (f on : Bool) (out : List (List Int)) (p : List Int) : sumL (putP f on out p) ≤ sumL out + p.length ∧ (putP f on out p).length ≤ out.length + 1 := by
  unfold putP
  split
  · rename_i h
    simp only [Bool.and_eq_true, Bool.not_eq_true', List.isEmpty_eq_false_iff] at h
    have := List.length_pos_iff.2 h.2
    rw [set_sum p out (out.length - 1) (by omega)]
    simp
  · simp [sumL_append, sumL_cons, sumL]
theorem cutP_len (last : Bool) (k : Int) (p : List Int) : (cutP last k p).length ≤ p.length := by
  unfold cutP
  split
  · simp
  · omega
theorem putN_sum (k : Int) (on : Bool) (l T : List (List Int)) : ∀ j, j ≤ l.length → sumL (putN k on l T j) ≤ sumL T + sumL (l.take j) ∧ (putN k on l T j).length ≤ T.length + j
  | 0, _ => by simp [putN]
  | j + 1, h => by
    have ih := putN_sum k on l T j (by omega)
    have h1 := putP_sum (j == 0) on (putN k on l T j) (cutP (decide (j + 1 = l.length)) k (l.getD j []))
    have h2 := cutP_len (decide (j + 1 = l.length)) k (l.getD j [])
    have h3 : l[j]? = some (l.getD j []) := by rw [List.getD_eq_getElem?_getD, List.getElem?_eq_getElem (by omega)]; rfl
    have h4 := sumL_take h3
    unfold putN
    omega
def totS (ls : List (List (List Int))) : Nat := (ls.map sumL).sum
def totN (ls : List (List (List Int))) : Nat := (ls.map List.length).sum
theorem tot_take {ls : List (List (List Int))} {i : Nat} {l : List (List Int)} (h : ls[i]? = some l) : totS (ls.take (i + 1)) = totS (ls.take i) + sumL l ∧ totN (ls.take (i + 1)) = totN (ls.take i) + l.length := by
  rw [take_one h]; simp [totS, totN]
theorem tot_le (ls : List (List (List Int))) (i : Nat) : totS (ls.take i) ≤ totS ls ∧ totN (ls.take i) ≤ totN ls := by
  have h1 : totS ls = totS (ls.take i) + totS (ls.drop i) := by
    unfold totS; rw [List.map_take, List.map_drop, ← List.sum_append, List.take_append_drop]
  have h2 : totN ls = totN (ls.take i) + totN (ls.drop i) := by
    unfold totN; rw [List.map_take, List.map_drop, ← List.sum_append, List.take_append_drop]
  omega
theorem whole_sum (ls : List (List (List Int))) (ks : List Int) : ∀ i, sumL (wholeN ls ks i).1 ≤ totS (ls.take i) ∧ (wholeN ls ks i).1.length ≤ totN (ls.take i)
  | 0 => by simp [wholeN, sumL, totS, totN]
  | i + 1 => by
    have ih := whole_sum ls ks i
    by_cases h : i < ls.length
    · have e : ls[i]? = some (ls.getD i []) := by rw [List.getD_eq_getElem?_getD, List.getElem?_eq_getElem h]; rfl
      have h1 := tot_take e
      have h2 := putN_sum (ks.getD i 0) (wholeN ls ks i).2 (ls.getD i []) (wholeN ls ks i).1 (ls.getD i []).length (Nat.le_refl _)
      rw [List.take_length] at h2
      unfold wholeN
      show sumL (putN _ _ _ _ _) ≤ _ ∧ (putN _ _ _ _ _).length ≤ _
      omega
    · have e : ls.getD i [] = [] := by rw [List.getD_eq_getElem?_getD, List.getElem?_eq_none (by omega)]; rfl
      have h3 : ls.take (i + 1) = ls.take i := by rw [List.take_of_length_le (by omega), List.take_of_length_le (by omega)]
      unfold wholeN
      rw [e, h3]
      exact ih
theorem part_sum (ls : List (List (List Int))) (ks : List Int) (i j : Nat) (hj : j ≤ (ls.getD i []).length) : sumL (putN (ks.getD i 0) (wholeN ls ks i).2 (ls.getD i []) (wholeN ls ks i).1 j) ≤ totS ls ∧ (putN (ks.getD i 0) (wholeN ls ks i).2 (ls.getD i []) (wholeN ls ks i).1 j).length ≤ totN ls := by
  have h0 := whole_sum ls ks i
  have h1 := putN_sum (ks.getD i 0) (wholeN ls ks i).2 (ls.getD i []) (wholeN ls ks i).1 j hj
  by_cases h : i < ls.length
  · have e : ls[i]? = some (ls.getD i []) := by rw [List.getD_eq_getElem?_getD, List.getElem?_eq_getElem h]; rfl
    have h2 := tot_take e
    have h3 := tot_le ls (i + 1)
    have h4 := sumL_le (ls.getD i []) j
    omega
  · have e : ls.getD i [] = [] := by rw [List.getD_eq_getElem?_getD, List.getElem?_eq_none (by omega)]; rfl
    have h3 := tot_le ls i
    rw [e] at hj
    have hj0 : j = 0 := by simpa using hj
    subst hj0
    simp only [List.take_zero] at h1
    have : sumL ([] : List (List Int)) = 0 := rfl
    omega
theorem RowsIn.below {w W : World} {B : Nat} {Ar : Option Addr} {rows : List RowD} (h : RowsIn w B Ar rows) (hB : B ≤ w.heap.size) (hb : Below w.heap.size w W) : RowsIn W B Ar rows := fun i r hr => by
  obtain ⟨b, o, A, c, e, h1, h2, h3⟩ := h i r hr
  exact ⟨b, o, A, c, e, fun j v hv => later hb (h1 j v hv), h2.mono (hb.mono hB), h3⟩
/-- Rows so few that what is made of them is not long. -/
def Small (rows : List RowD) : Prop := rows.length ≤ 420 ∧ ∀ r ∈ rows, r.items.length ≤ 700
theorem tot_rows (d : FontD) : ∀ {rows : List RowD} {n : Nat}, rows.length ≤ n → (∀ r ∈ rows, r.items.length ≤ 700) → totS (rows.map (lineP d)) ≤ 179900 * n ∧ totN (rows.map (lineP d)) ≤ 701 * n
  | [], n, _, _ => by simp [totS, totN]
  | r :: rows, 0, h, _ => by simp at h
  | r :: rows, n + 1, h, hi => by
    have ih := tot_rows d (rows := rows) (n := n) (by simpa using h) (fun q hq => hi q (List.mem_cons_of_mem _ hq))
    have h1 := line_sum d r
    have h2 := line_len d r
    have h3 := hi r List.mem_cons_self
    have e1 : totS ((r :: rows).map (lineP d)) = sumL (lineP d r) + totS (rows.map (lineP d)) := by simp [totS]
    have e2 : totN ((r :: rows).map (lineP d)) = (lineP d r).length + totN (rows.map (lineP d)) := by simp [totN]
    omega
theorem small_s {d : FontD} {rows : List RowD} (h : Small rows) : ∀ r ∈ rows, ∀ p ∈ lineP d r, p.length ≤ 100000000 := fun r hr p hp => by
  have h1 := mem_sum hp
  have h2 := line_sum d r
  have h3 := h.2 r hr
  omega
theorem small_o {d : FontD} {rows : List RowD} (h : Small rows) (i j : Nat) (hj : j ≤ ((rows.map (lineP d)).getD i []).length) :
    (putN ((rows.map (·.kind)).getD i 0) (wholeN (rows.map (lineP d)) (rows.map (·.kind)) i).2 ((rows.map (lineP d)).getD i []) (wholeN (rows.map (lineP d)) (rows.map (·.kind)) i).1 j).length ≤ 400000000 ∧ ∀ p ∈ putN ((rows.map (·.kind)).getD i 0) (wholeN (rows.map (lineP d)) (rows.map (·.kind)) i).2 ((rows.map (lineP d)).getD i []) (wholeN (rows.map (lineP d)) (rows.map (·.kind)) i).1 j, p.length ≤ 100000000 := by
  have h1 := part_sum (rows.map (lineP d)) (rows.map (·.kind)) i j hj
  have h2 := tot_rows d h.1 h.2
  refine ⟨by omega, fun p hp => ?_⟩
  have := mem_sum hp
  omega
theorem words_small {d : FontD} {rows : List RowD} (h : Small rows) : sumL (wordsP d rows).1 ≤ 100000000 ∧ (wordsP d rows).1.length ≤ 1000000 := by
  unfold wordsP
  split
  · exact ⟨Nat.zero_le _, Nat.zero_le _⟩
  · split
    · exact ⟨Nat.zero_le _, Nat.zero_le _⟩
    · have h1 := whole_sum (rows.map (lineP d)) (rows.map (·.kind)) (rows.map (lineP d)).length
      have h2 := tot_rows d h.1 h.2
      have h3 := tot_le (rows.map (lineP d)) (rows.map (lineP d)).length
      refine ⟨?_, ?_⟩
      · show sumL (wholeN _ _ _).1 ≤ _; omega
      · show (wholeN _ _ _).1.length ≤ _; omega

/-! ### A text of words -/
def okC (c : Int) : Bool := decide (0 ≤ c) && decide (c ≤ 255)
def plainW (ws : List (List Int)) : Bool := ws.all fun w => w.all okC
def sepW (i : Nat) : List Int := if i = 0 then [] else [32]
def joinN (ws : List (List Int)) : Nat → List Int
  | 0 => []
  | i + 1 => joinN ws i ++ sepW i ++ ws.getD i []
def joinW (ws : List (List Int)) : List Int := joinN ws ws.length
def textP (ws : List (List Int)) (e : Int) : List Int × Int := if e ≠ 0 then ([], e) else if plainW ws then (joinW ws, 0) else ([], 230)
def textV (d : FontD) (rows : List RowD) : List Int × Int := textP (wordsP d rows).1 (wordsP d rows).2
theorem join_len (ws : List (List Int)) : ∀ i, i ≤ ws.length → (joinN ws i).length ≤ sumL (ws.take i) + i
  | 0, _ => by simp [joinN]
  | i + 1, h => by
    have ih := join_len ws i (by omega)
    have e : ws[i]? = some (ws.getD i []) := by rw [List.getD_eq_getElem?_getD, List.getElem?_eq_getElem (by omega)]; rfl
    have h1 := sumL_take e
    have h2 : (sepW i).length ≤ 1 := by unfold sepW; split <;> simp
    simp only [joinN, List.length_append]
    omega
end Go.Proofs.Ytbkfofmanpjbfaa.Bk
