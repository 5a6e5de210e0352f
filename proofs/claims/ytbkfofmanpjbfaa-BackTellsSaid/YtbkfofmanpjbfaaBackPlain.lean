/- What a code is made of, as plain data: the ligatures of a font, unrolled. -/
import Derived.Test.YtbkfofmanpjbfaaRLigP
namespace Go.Proofs.Ytbkfofmanpjbfaa.Bk
open Go.Proofs.Ytbkfofmanpjbfaa.Kit Go.Proofs.Ytbkfofmanpjbfaa.Fo Go.Proofs.Ytbkfofmanpjbfaa.RFo
set_option linter.unusedVariables false
set_option linter.unusedSimpArgs false

def lookP (out : List LigT) (c : Int) : Option (Int × Int) := (out.find? fun x => x.1 == c).map (·.2)
def unrollP (out : List LigT) : Nat → Int → List Int
  | 0, c => [c]
  | n + 1, c => match lookP out c with
    | none => [c]
    | some (a, b) => unrollP out n a ++ [b]
/-- The codes of which one is made. -/
def expand1 (out : List LigT) (c : Int) : List Int := unrollP out (c.toNat + 1) c
def expandP (out : List LigT) (l : List Int) : List Int := l.flatMap (expand1 out)
def okOut (out : List LigT) : Prop := ∀ x ∈ out, (128 ≤ x.1 ∧ x.1 < 256) ∧ (0 ≤ x.2.1 ∧ x.2.1 < x.1) ∧ (0 ≤ x.2.2 ∧ x.2.2 < 128)
theorem look_ok {out : List LigT} (h : okOut out) {c a b : Int} (hl : lookP out c = some (a, b)) : (128 ≤ c ∧ c < 256) ∧ (0 ≤ a ∧ a < c) ∧ (0 ≤ b ∧ b < 128) := by
  unfold lookP at hl
  rw [Option.map_eq_some_iff] at hl
  obtain ⟨x, hx, e⟩ := hl
  have h1 := h x (List.mem_of_find?_eq_some hx)
  have h2 := List.find?_some hx
  simp only [beq_iff_eq] at h2
  obtain ⟨x0, x1, x2⟩ := x
  simp only [Prod.mk.injEq] at e
  obtain ⟨rfl, rfl⟩ := e
  simp only at h1 h2
  subst h2
  exact h1
theorem unroll_more {out : List LigT} (h : okOut out) : ∀ (n m : Nat) (c : Int), c.toNat < n → n ≤ m → unrollP out m c = unrollP out n c
  | 0, _, _, h1, _ => by omega
  | n + 1, 0, _, _, h2 => by omega
  | n + 1, m + 1, c, h1, h2 => by
    unfold unrollP
    cases hl : lookP out c with
    | none => rfl
    | some p =>
      obtain ⟨a, b⟩ := p
      have := look_ok h hl
      simp only
      rw [unroll_more h n m a (by omega) (by omega)]
theorem expand_none {out : List LigT} {c : Int} (hl : lookP out c = none) : expand1 out c = [c] := by
  unfold expand1 unrollP
  rw [hl]
theorem expand_step {out : List LigT} (h : okOut out) {c a b : Int} (hl : lookP out c = some (a, b)) : expand1 out c = expand1 out a ++ [b] := by
  have := look_ok h hl
  have e : expand1 out c = unrollP out c.toNat a ++ [b] := by
    unfold expand1
    rw [unrollP, hl]
  rw [e]
  unfold expand1
  rw [unroll_more h (a.toNat + 1) c.toNat a (by omega) (by omega)]
theorem unroll_ne (out : List LigT) : ∀ (n : Nat) (c : Int), unrollP out n c ≠ []
  | 0, c => by simp [unrollP]
  | n + 1, c => by
    unfold unrollP
    split <;> simp
theorem expand1_ne (out : List LigT) (c : Int) : expand1 out c ≠ [] := unroll_ne out _ c
theorem expandP_nil (out : List LigT) (l : List Int) : expandP out l = [] ↔ l = [] := by
  constructor
  · intro h
    cases l with
    | nil => rfl
    | cons c l =>
      unfold expandP at h
      rw [List.flatMap_cons, List.append_eq_nil_iff] at h
      exact absurd h.1 (expand1_ne out c)
  · rintro rfl; rfl
/-- The numbers of what a code is made of are small, but for a plain code itself. -/
theorem unroll_small {out : List LigT} (h : okOut out) : ∀ (n : Nat) (c : Int), ∀ x ∈ unrollP out n c, x = c ∨ (0 ≤ x ∧ x < 256)
  | 0, c, x, hx => by simp [unrollP] at hx; exact .inl hx
  | n + 1, c, x, hx => by
    unfold unrollP at hx
    cases hl : lookP out c with
    | none => rw [hl] at hx; simp at hx; exact .inl hx
    | some p =>
      obtain ⟨a, b⟩ := p
      rw [hl] at hx
      have := look_ok h hl
      rcases List.mem_append.1 hx with hx | hx
      · rcases unroll_small h n a x hx with rfl | h1
        · exact .inr (by omega)
        · exact .inr h1
      · rw [List.mem_singleton.1 hx]
        exact .inr (by omega)
theorem unroll_len {out : List LigT} : ∀ (n : Nat) (c : Int), (unrollP out n c).length ≤ n + 1
  | 0, c => by simp [unrollP]
  | n + 1, c => by
    unfold unrollP
    split
    · simp
    · rename_i a b _
      have := unroll_len (out := out) n a
      simp; omega
theorem expand1_len {out : List LigT} (h : okOut out) (c : Int) : (expand1 out c).length ≤ 257 := by
  cases hl : lookP out c with
  | none => rw [expand_none hl]; simp
  | some p =>
    obtain ⟨a, b⟩ := p
    have := look_ok h hl
    have := unroll_len (out := out) (c.toNat + 1) c
    unfold expand1
    omega
theorem expandP_len {out : List LigT} (h : okOut out) (l : List Int) : (expandP out l).length ≤ 257 * l.length := by
  unfold expandP
  induction l with
  | nil => simp
  | cons c l ih =>
    rw [List.flatMap_cons, List.length_append, List.length_cons]
    have := expand1_len h c
    omega
theorem expandP_wf {out : List LigT} (h : okOut out) {l : List Int} (hl : ∀ x ∈ l, (Lit.int .i64 x).wf = true) : ∀ x ∈ expandP out l, (Lit.int .i64 x).wf = true := by
  intro x hx
  obtain ⟨c, hc, hx⟩ := List.mem_flatMap.1 hx
  rcases unroll_small h _ c x hx with rfl | h1
  · exact hl x hc
  · exact wf_i64 (by omega) (by omega)

/-! ### The ligatures of a font that may be -/
theorem addP_ok {d : FontD} (ht : tfmB d = true) : ∀ (ps : List PairT) (out out' : List LigT), (∀ p ∈ ps, (0 ≤ p.1 ∧ p.1 < 256) ∧ (0 ≤ p.2.1 ∧ p.2.1 < 256) ∧ (0 ≤ p.2.2 ∧ p.2.2 < 256)) → addP d ps out = some out' → okOut out → okOut out'
  | [], out, out', _, h, ho => by
    simp only [addP, Option.some.injEq] at h
    subst h; exact ho
  | p :: ps, out, out', hp, h, ho => by
    simp only [addP] at h
    split at h
    · cases h
    · rename_i hb
      refine addP_ok ht ps _ out' (fun q hq => hp q (List.mem_cons_of_mem _ hq)) h fun x hx => ?_
      rcases List.mem_cons.1 hx with rfl | hx
      · have h1 := hp p List.mem_cons_self
        unfold badLigB at hb
        simp only [Bool.or_eq_true, Bool.not_eq_true', decide_eq_true_eq, not_or] at hb
        obtain ⟨⟨⟨_, h3⟩, h4⟩, h5⟩ := hb
        simp only at h3 h4 h5 ⊢
        omega
      · exact ho x hx
theorem made_ok {d : FontD} {out : List LigT} (h : madeP d = some out) : okOut out := by
  unfold madeP at h
  split at h
  · rename_i ht
    rw [made_pairs ht] at h
    split at h
    · exact addP_ok ht _ [] out (fun p hp => pairs_small ht hp) h (fun x hx => by simp at hx)
    · cases h
  · cases h
/-- The ligatures by pairs. -/
theorem addP_rev {d : FontD} : ∀ (ps : List PairT) (out out' : List LigT), addP d ps out = some out' → out' = (ps.map fun p => (p.2.2, p.1, p.2.1)).reverse ++ out
  | [], out, out', h => by simp only [addP, Option.some.injEq] at h; simp [h]
  | p :: ps, out, out', h => by
    simp only [addP] at h
    split at h
    · cases h
    · rw [addP_rev ps _ out' h]; simp
theorem addP_new {d : FontD} : ∀ (ps : List PairT) (out out' : List LigT), addP d ps out = some out' → out.Pairwise (fun x y => x.1 ≠ y.1) → out'.Pairwise (fun x y => x.1 ≠ y.1)
  | [], out, out', h, ho => by simp only [addP, Option.some.injEq] at h; subst h; exact ho
  | p :: ps, out, out', h, ho => by
    simp only [addP] at h
    split at h
    · cases h
    · rename_i hb
      refine addP_new ps _ out' h (List.pairwise_cons.2 ⟨fun y hy e => ?_, ho⟩)
      unfold badLigB at hb
      simp only [Bool.or_eq_true, Bool.not_eq_true', decide_eq_true_eq, not_or, Bool.not_eq_true, List.any_eq_false] at hb
      exact hb.1.1.1.1 y hy e.symm
theorem find_rev {α : Type} {p : α → Bool} : ∀ {l : List α}, l.Pairwise (fun x y => ¬ (p x = true ∧ p y = true)) → l.reverse.find? p = l.find? p
  | [], _ => rfl
  | x :: l, h => by
    obtain ⟨h1, h2⟩ := List.pairwise_cons.1 h
    rw [List.reverse_cons, List.find?_append, find_rev h2, List.find?_cons]
    cases hx : p x with
    | false => simp [hx]
    | true =>
      have : l.find? p = none := List.find?_eq_none.2 fun y hy hp => h1 y hy ⟨hx, hp⟩
      simp [this, hx]
/-- A code's parts are those of the pair that makes it. -/
theorem look_pair {d : FontD} {out : List LigT} (h : madeP d = some out) (c : Int) : lookP out c = ((pairsP d).find? fun p => p.2.2 == c).map fun p => (p.1, p.2.1) := by
  unfold madeP at h
  split at h
  · rename_i ht
    rw [made_pairs ht] at h
    split at h
    · have e := addP_rev _ _ _ h
      have hn := addP_new _ _ _ h List.Pairwise.nil
      rw [List.append_nil] at e
      have hn2 : (out.Pairwise fun x y => ¬ ((x.1 == c) = true ∧ (y.1 == c) = true)) := hn.imp fun hxy hc => hxy (by
        simp only [beq_iff_eq] at hc; rw [hc.1, hc.2])
      unfold lookP
      rw [← find_rev hn2, e, List.reverse_reverse, List.find?_map]
      unfold pairsP
      rw [Option.map_map]
      rfl
    · cases h
  · cases h
end Go.Proofs.Ytbkfofmanpjbfaa.Bk
