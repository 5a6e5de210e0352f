/- What a code is made of, by a font's pairs: the plain law. -/
import Derived.Test.YtbkfofmanpjbfaaBack8P
namespace Go.Proofs.Ytbkfofmanpjbfaa.Bk
open Go.RowKit Go.Proofs.Ytbkfofmanpjbfaa.Kit Go.Proofs.Ytbkfofmanpjbfaa.Fo Go.Proofs.Ytbkfofmanpjbfaa.RFo
set_option linter.unusedVariables false
set_option linter.unusedSimpArgs false

def findP (L : List PairT) (c : Int) : Option PairT := L.find? fun p => p.2.2 == c
theorem look_cons (x : LigT) (out : List LigT) (c : Int) : lookP (x :: out) c = if x.1 == c then some x.2 else lookP out c := by
  unfold lookP
  rw [List.find?_cons]
  cases x.1 == c <;> rfl
theorem addP_look {d : FontD} : ∀ (ps : List PairT) (out out' : List LigT), addP d ps out = some out' → ∀ c, lookP out' c = match lookP out c with
    | some q => some q
    | none => (findP ps c).map fun p => (p.1, p.2.1)
  | [], out, out', h, c => by
    simp only [addP, Option.some.injEq] at h
    subst h
    cases lookP out c <;> rfl
  | p :: ps, out, out', h, c => by
    rw [addP] at h
    split at h
    · cases h
    · rename_i hb
      rw [addP_look ps _ _ h c, look_cons]
      unfold findP
      rw [List.find?_cons]
      by_cases hc : p.2.2 = c
      · have h1 : (p.2.2 == c) = true := by simpa using hc
        have hn : lookP out c = none := by
          unfold lookP
          rw [Option.map_eq_none_iff, List.find?_eq_none]
          intro x hx hxc
          apply hb
          unfold badLigB
          have : out.any (fun x => decide (x.1 = p.2.2)) = true := List.any_eq_true.2 ⟨x, hx, by simp at hxc ⊢; omega⟩
          simp [this]
        rw [h1, hn]
        simp
      · have h1 : (p.2.2 == c) = false := by simpa using hc
        rw [h1]
        simp only [Bool.false_eq_true, if_false]
theorem made_look {d : FontD} {out : List LigT} (h : madeP d = some out) (c : Int) : lookP out c = (findP (pairsP d) c).map fun p => (p.1, p.2.1) := by
  unfold madeP at h
  split at h
  · rename_i ht
    rw [made_pairs ht] at h
    split at h
    · exact addP_look (pairsP d) [] out h c
    · cases h
  · cases h
theorem made_tfm {d : FontD} {out : List LigT} (h : madeP d = some out) : tfmB d = true := by
  unfold madeP at h
  split at h
  · assumption
  · cases h
theorem find_none {L : List PairT} {c : Int} (h : ∀ p ∈ L, p.2.2 ≠ c) : findP L c = none := by
  unfold findP
  rw [List.find?_eq_none]
  intro p hp e
  exact h p hp (by simpa using e)
theorem find_at {L : List PairT} {c : Int} {i : Nat} {p : PairT} (hp : L[i]? = some p) (hc : p.2.2 = c) (h : ∀ q ∈ L.take i, q.2.2 ≠ c) : findP L c = some p := by
  have hl : i < L.length := (List.getElem?_eq_some_iff.1 hp).1
  unfold findP
  rw [← List.take_append_drop i L, List.find?_append, List.find?_eq_none.2 (fun q hq e => h q hq (by simpa using e))]
  rw [List.drop_eq_getElem_cons hl]
  have e : L[i] = p := by rw [List.getElem?_eq_getElem hl] at hp; exact Option.some.inj hp
  rw [e, List.find?_cons]
  simp [hc]
end Go.Proofs.Ytbkfofmanpjbfaa.Bk
