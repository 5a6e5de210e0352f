/- The reference's pairs of a font, as plain data: that its check says what the program's does. -/
import Derived.Test.YtbkfofmanpjbfaaRLig1
namespace Go.Proofs.Ytbkfofmanpjbfaa.RFo
open Go.RowKit Go.Proofs.Ytbkfofmanpjbfaa.Kit Go.Proofs.Ytbkfofmanpjbfaa.Fo
set_option linter.unusedVariables false
set_option linter.unusedSimpArgs false

abbrev PairT := Int × Int × Int
abbrev pairR : Rep PairT := Rep.seq (Rep.int .i64) (Rep.seq (Rep.int .i64) (Rep.int .i64))
def pairC (p : PairT) : List Value := [.int .i64 p.1, .int .i64 p.2.1, .int .i64 p.2.2]
/-- The pairs of one character's steps, behind those that have been. -/
def pairsC (a : Int) : List (Int × StepT) → List (Int × StepT) → List PairT
  | _, [] => []
  | bef, x :: xs => (if x.2.2.2.1 = 0 ∧ bef.all (fun y => decide (y.2.2.1 ≠ x.2.2.1)) then [(a, x.2.2.1, x.2.2.2.2)] else []) ++ pairsC a (bef ++ [x]) xs
def pairsFrom (d : FontD) : List CharT → Int → List PairT
  | [], _ => []
  | c :: cs, a => pairsC a [] (placesP d c) ++ pairsFrom d cs (a + 1)
def pairsP (d : FontD) : List PairT := pairsFrom d d.chars d.first

/-- What a pair is refused for, by the characters that have been made. -/
def pairBadB (d : FontD) (made : List Int) (p : PairT) : Bool := !hasB d p.2.2 || decide (p.2.2 < 128) || decide (p.2.2 ≤ p.1) || decide (128 ≤ p.2.1) || decide (p.2.2 ∈ made)
def pairsOk (d : FontD) : List PairT → List Int → Bool
  | [], _ => true
  | p :: ps, made => !pairBadB d made p && pairsOk d ps (p.2.2 :: made)
def opBadB (d : FontD) (s : StepT) : Bool := decide (s.2.2.1 ≠ 0) && (decide (s.2.2.1 < 128) || decide ((d.kerns.length : Int) ≤ 256 * (s.2.2.1 - 128) + s.2.2.2))
def charsOk (d : FontD) (l : List CharT) : Bool := l.all fun c => allP d c && !((placesP d c).any fun x => opBadB d x.2)
def refB (d : FontD) : Bool := tfmB d && charsOk d d.chars && pairsOk d (pairsP d) []

/-- The program's ligatures, pair by pair. -/
def addP (d : FontD) : List PairT → List LigT → Option (List LigT)
  | [], out => some out
  | p :: ps, out => if badLigB d p.1 out (0, p.2.1, 0, p.2.2) then none else addP d ps ((p.2.2, p.1, p.2.1) :: out)
theorem addP_append (d : FontD) : ∀ (ps qs : List PairT) (out : List LigT), addP d (ps ++ qs) out = (addP d ps out).bind (addP d qs)
  | [], qs, out => rfl
  | p :: ps, qs, out => by
    simp only [List.cons_append, addP]
    split
    · rfl
    · exact addP_append d ps qs _
theorem pairs_add (d : FontD) : ∀ (ps : List PairT) (out : List LigT) (made : List Int), (∀ x, x ∈ made ↔ out.any (fun y => decide (y.1 = x)) = true) → pairsOk d ps made = (addP d ps out).isSome
  | [], _, _, _ => rfl
  | p :: ps, out, made, h => by
    have e : pairBadB d made p = badLigB d p.1 out (0, p.2.1, 0, p.2.2) := by
      unfold pairBadB badLigB
      have := h p.2.2
      dsimp only
      cases ho : out.any (fun x => decide (x.1 = p.2.2)) with
      | true => simp [this.2 ho]
      | false =>
        have : p.2.2 ∉ made := fun hm => by rw [this.1 hm] at ho; cases ho
        simp [this]
    simp only [pairsOk, addP, e]
    cases badLigB d p.1 out (0, p.2.1, 0, p.2.2) with
    | true => simp
    | false =>
      simp only [Bool.not_false, Bool.true_and, Bool.false_eq_true, if_false]
      refine pairs_add d ps _ _ fun x => ?_
      rw [List.mem_cons, h x, List.any_cons, Bool.or_eq_true, decide_eq_true_eq]
      constructor
      · rintro (rfl | h)
        · exact .inl rfl
        · exact .inr h
      · rintro (h | h)
        · exact .inl h.symm
        · exact .inr h
theorem badLig_eq (d : FontD) (a : Int) (out : List LigT) (s : StepT) : badLigB d a out s = badLigB d a out (0, s.2.1, 0, s.2.2.2) := rfl
theorem marks_pairs (d : FontD) (a : Int) : ∀ (xs bef : List (Int × StepT)) (out : List LigT) (seen : List Int), (∀ n, n ∈ seen ↔ ∃ y ∈ bef, y.2.2.1 = n) →
    ((marks d a xs (out, seen)).map (·.1)) = if xs.any (fun x => wrongB d x.1 x.2) then none else addP d (pairsC a bef xs) out
  | [], bef, out, seen, h => by simp [marks, pairsC, addP]
  | x :: xs, bef, out, seen, h => by
    have hb : (bef.all fun y => decide (y.2.2.1 ≠ x.2.2.1)) = decide (x.2.2.1 ∉ seen) := by
      rw [Bool.eq_iff_iff, List.all_eq_true, decide_eq_true_eq, h]
      simp only [decide_eq_true_eq, not_exists, not_and]
    have hs : ∀ n, n ∈ x.2.2.1 :: seen ↔ ∃ y ∈ bef ++ [x], y.2.2.1 = n := by
      intro n
      rw [List.mem_cons, h n]
      constructor
      · rintro (rfl | ⟨y, hy, rfl⟩)
        · exact ⟨x, by simp, rfl⟩
        · exact ⟨y, by simp [hy], rfl⟩
      · rintro ⟨y, hy, rfl⟩
        rcases List.mem_append.1 hy with hy | hy
        · exact .inr ⟨y, hy, rfl⟩
        · rw [List.mem_singleton.1 hy]; exact .inl rfl
    simp only [marks, pairsC, hb]
    unfold markS
    cases hw : wrongB d x.1 x.2 with
    | true => simp [hw]
    | false =>
      simp only [Bool.false_eq_true, if_false, List.any_cons, hw, Bool.false_or]
      have hl1 : x.2.2.2.1 = 0 ∧ x.2.2.1 ∉ seen → (if x.2.2.2.1 = 0 ∧ decide (x.2.2.1 ∉ seen) = true then [(a, x.2.2.1, x.2.2.2.2)] else []) = [(a, x.2.2.1, x.2.2.2.2)] := fun h => if_pos ⟨h.1, decide_eq_true h.2⟩
      have hl2 : ¬ (x.2.2.2.1 = 0 ∧ x.2.2.1 ∉ seen) → (if x.2.2.2.1 = 0 ∧ decide (x.2.2.1 ∉ seen) = true then [(a, x.2.2.1, x.2.2.2.2)] else ([] : List PairT)) = [] := fun h => if_neg fun h' => h ⟨h'.1, of_decide_eq_true h'.2⟩
      by_cases hl : x.2.2.2.1 = 0 ∧ x.2.2.1 ∉ seen
      · rw [hl1 hl, if_pos hl]
        simp only [List.cons_append, List.nil_append, addP]
        rw [badLig_eq d a out x.2]
        cases badLigB d a out (0, x.2.2.1, 0, x.2.2.2.2) with
        | true => simp
        | false =>
          simp only [Bool.false_eq_true, if_false, Option.bind_some]
          exact marks_pairs d a xs (bef ++ [x]) _ _ hs
      · rw [hl2 hl, if_neg hl]
        simp only [List.nil_append, Option.bind_some]
        exact marks_pairs d a xs (bef ++ [x]) _ _ hs
theorem places_wrong {d : FontD} {c : CharT} (ht : tfmB d = true) : ((stepsOf d c).any fun x => wrongB d x.1 x.2) = !(allP d c && !((placesP d c).any fun x => opBadB d x.2)) := by
  have hn : ∀ x ∈ stepsOf d c, 0 ≤ x.1 → (wrongB d x.1 x.2 = opBadB d x.2) := by
    intro x hx h0
    have h1 := step_ok ht (places_at (List.mem_filter.2 ⟨hx, by simpa using h0⟩ : x ∈ placesP d c)).2
    unfold wrongB opBadB
    have : (decide (x.1 < 0)) = false := by simp; omega
    have e2 : decide (0 < x.2.2.2.1) = decide (x.2.2.2.1 ≠ 0) := by simp only [decide_eq_decide]; omega
    rw [this, e2]; rfl
  unfold allP placesP
  cases ha : (stepsOf d c).any fun x => decide (x.1 < 0) with
  | true =>
    obtain ⟨x, hx, h⟩ := List.any_eq_true.1 ha
    simp only [Bool.not_true, Bool.false_and, Bool.not_false]
    rw [List.any_eq_true]
    exact ⟨x, hx, by unfold wrongB; rw [h]; rfl⟩
  | false =>
    simp only [List.any_eq_false, decide_eq_true_eq] at ha
    have : (stepsOf d c).filter (fun x => decide (0 ≤ x.1)) = stepsOf d c := List.filter_eq_self.2 fun x hx => by have := ha x hx; simp; omega
    rw [this]
    simp only [Bool.not_false, Bool.true_and, Bool.not_not]
    rw [Bool.eq_iff_iff, List.any_eq_true, List.any_eq_true]
    constructor
    · rintro ⟨x, hx, h⟩
      exact ⟨x, hx, by rw [← hn x hx (by have := ha x hx; omega)]; exact h⟩
    · rintro ⟨x, hx, h⟩
      exact ⟨x, hx, by rw [hn x hx (by have := ha x hx; omega)]; exact h⟩
theorem places_self {d : FontD} {c : CharT} (h : allP d c = true) : stepsOf d c = placesP d c := by
  unfold allP at h
  simp only [Bool.not_eq_true', List.any_eq_false, decide_eq_true_eq] at h
  exact (List.filter_eq_self.2 fun x hx => by have := h x hx; simp; omega).symm
theorem charsOk_cons (d : FontD) (c : CharT) (cs : List CharT) : charsOk d (c :: cs) = ((allP d c && !((placesP d c).any fun x => opBadB d x.2)) && charsOk d cs) := rfl
theorem made_pairs {d : FontD} (ht : tfmB d = true) : ∀ (cs : List CharT) (a : Int) (out : List LigT), madeFrom d cs a out = if charsOk d cs then addP d (pairsFrom d cs a) out else none
  | [], a, out => by simp [madeFrom, charsOk, pairsFrom, addP]
  | c :: cs, a, out => by
    have h := marks_pairs d a (stepsOf d c) [] out [] (by simp)
    rw [places_wrong ht] at h
    rw [charsOk_cons]
    simp only [madeFrom, pairsFrom]
    by_cases ho : (allP d c && !((placesP d c).any fun x => opBadB d x.2)) = true
    rotate_left
    · have ho := Bool.eq_false_iff.2 ho
      rw [ho] at h ⊢
      simp only [Bool.not_false, if_true, Option.map_eq_none_iff] at h
      rw [h]; simp
    · rw [ho] at h ⊢
      have ha : allP d c = true := by simp only [Bool.and_eq_true] at ho; exact ho.1
      rw [places_self ha] at h ⊢
      simp only [Bool.not_true, Bool.false_eq_true, if_false] at h
      have hr := made_pairs ht cs (a + 1)
      simp only [Bool.true_and]
      rw [addP_append, ← h]
      cases marks d a (placesP d c) (out, []) with
      | none => simp
      | some st =>
        simp only [Option.bind_some, Option.map_some, hr]
theorem ref_lig (d : FontD) : refB d = ligB d := by
  unfold refB ligB madeP
  cases ht : tfmB d with
  | false => simp
  | true =>
    simp only [Bool.true_and, if_true, made_pairs ht]
    cases charsOk d d.chars with
    | false => simp
    | true =>
      simp only [Bool.true_and, if_true]
      exact pairs_add d _ _ _ (by simp)
/-- Each pair's numbers are small. -/
theorem pairsC_small {a : Int} {bef xs : List (Int × StepT)} : ∀ p ∈ pairsC a bef xs, p.1 = a ∧ ∃ x ∈ xs, p.2.1 = x.2.2.1 ∧ p.2.2 = x.2.2.2.2 := by
  induction xs generalizing bef with
  | nil => intro p hp; simp [pairsC] at hp
  | cons x xs ih =>
    intro p hp
    simp only [pairsC, List.mem_append] at hp
    rcases hp with hp | hp
    · split at hp
      · rw [List.mem_singleton.1 hp]; exact ⟨rfl, x, by simp, rfl, rfl⟩
      · simp at hp
    · obtain ⟨h1, y, hy, h2⟩ := ih p hp
      exact ⟨h1, y, by simp [hy], h2⟩
theorem pairsFrom_small {d : FontD} (ht : tfmB d = true) : ∀ (cs : List CharT) (a : Int), ∀ p ∈ pairsFrom d cs a, (a ≤ p.1 ∧ p.1 < a + cs.length) ∧ (0 ≤ p.2.1 ∧ p.2.1 < 256) ∧ (0 ≤ p.2.2 ∧ p.2.2 < 256)
  | [], a, p, hp => by simp [pairsFrom] at hp
  | c :: cs, a, p, hp => by
    simp only [pairsFrom, List.mem_append] at hp
    rcases hp with hp | hp
    · obtain ⟨h1, x, hx, h2, h3⟩ := pairsC_small p hp
      have := step_ok ht (places_at hx).2
      simp only [List.length_cons]
      omega
    · have := pairsFrom_small ht cs (a + 1) p hp
      simp only [List.length_cons]
      omega
theorem pairs_small {d : FontD} (ht : tfmB d = true) {p : PairT} (hp : p ∈ pairsP d) : (0 ≤ p.1 ∧ p.1 < 256) ∧ (0 ≤ p.2.1 ∧ p.2.1 < 256) ∧ (0 ≤ p.2.2 ∧ p.2.2 < 256) := by
  have h1 := pairsFrom_small ht d.chars d.first p hp
  have h2 := tfm_sizes ht
  omega
end Go.Proofs.Ytbkfofmanpjbfaa.RFo
