/- Rows of the call's own, of any data: read as any other, kept while another one grows. -/
import Derived.Test.YtndpdbofoojkhaaGrow
namespace Go.Proofs.Ytndpdbofoojkhaa.Kit
open Go.RowKit
set_option linter.unusedVariables false
set_option linter.unusedSimpArgs false

theorem flat_len {α : Type} {f : α → List Value} {N : Nat} (hf : ∀ x, (f x).length = N) (l : List α) : (l.flatMap f).length = l.length * N := by
  induction l with
  | nil => simp
  | cons a l ih => rw [List.flatMap_cons, List.length_append, ih, hf, List.length_cons, Nat.succ_mul, Nat.add_comm]
theorem flat_at {α : Type} {f : α → List Value} {N : Nat} (hf : ∀ x, (f x).length = N) : ∀ (l : List α) (i : Nat) (x : α) (j : Nat), l[i]? = some x → j < N → (l.flatMap f)[i * N + j]? = (f x)[j]?
  | [], i, x, j, h, _ => by simp at h
  | a :: l, 0, x, j, h, hj => by
    simp only [List.getElem?_cons_zero, Option.some.injEq] at h
    subst h
    rw [List.flatMap_cons, Nat.zero_mul, Nat.zero_add, List.getElem?_append_left (by rw [hf]; exact hj)]
  | a :: l, i + 1, x, j, h, hj => by
    rw [List.getElem?_cons_succ] at h
    rw [List.flatMap_cons, List.getElem?_append_right (by rw [hf, Nat.succ_mul]; omega), hf, show (i + 1) * N + j - N = i * N + j by rw [Nat.succ_mul]; omega]
    exact flat_at hf l i x j h hj
theorem own_rows {α : Type} {R : Rep α} {f : α → List Value} (hf : ∀ x, (f x).length = R.n) {w : World} {base n : Nat} {e : TypeId} {v : Value} {l : List α} (hR : 0 < R.n) (h : w.ownsRow base e R.n v n (l.flatMap f)) (hk : ∀ x ∈ l, R.K w w.heap.size (f x) x) :
    ∃ A c, v = .slice A l.length c ∧ n = l.length ∧ Row R w w.heap.size A l ∧ l.length ≤ 9223372036854775807 ∧ ∀ b o, A = some ⟨b, o, none⟩ → base ≤ b ∧ b < w.heap.size ∧ v.ownBlock = some b := by
  have hl : n = l.length := by
    have := h.1
    rw [flat_len hf] at this
    exact (Nat.eq_of_mul_eq_mul_right hR this).symm
  subst hl
  rcases h.2 with ⟨rfl, h0⟩ | ⟨g, cap, cur, rfl, hb, hg, h1, h2, h3, h4⟩
  · have : l = [] := List.eq_nil_of_length_eq_zero h0
    subst this
    exact ⟨none, 0, rfl, rfl, fun i x hx => by simp at hx, by simp, fun b o e => by cases e⟩
  · have hlt : g < w.heap.size := (Array.getElem?_eq_some_iff.1 hg).1
    refine ⟨_, cap, rfl, rfl, fun i x hx => ?_, by unfold maxLen at h2; omega, fun b o e => ?_⟩
    · refine ⟨g, 0, f x, rfl, hlt, hk x (List.mem_of_getElem? hx), fun j u hu => ?_⟩
      have hj : j < R.n := by have := (List.getElem?_eq_some_iff.1 hu).1; rwa [hf] at this
      have hi : i < l.length := (List.getElem?_eq_some_iff.1 hx).1
      have hle : i * R.n + j < l.length * R.n := by
        have : (i + 1) * R.n ≤ l.length * R.n := Nat.mul_le_mul_right _ hi
        rw [Nat.succ_mul] at this
        omega
      have := h.cellAt (g := g) (cap := cap) (i * R.n + j) hle
      rw [flat_at hf l i x j hx hj, hu] at this
      simpa using this
    · injection e with e
      injection e with e1 e2
      subst e1
      exact ⟨hb, hlt, rfl⟩
/-- A row of numbers is kept while another block grows. -/
theorem Row.int_grown {k : IntKind} {w w' : World} {B : Nat} {A : Option Addr} {l : List Int} {row : Option Nat} (h : Row (Rep.int k) w B A l) (hg : w.grownBy w' row) (hlt : ∀ b o, A = some ⟨b, o, none⟩ → b < w.heap.size ∧ some b ≠ row) : Row (Rep.int k) w' B A l := by
  intro i x hx
  obtain ⟨b, o, cs, rfl, hB, hK, hc⟩ := h i x hx
  obtain ⟨h1, h2⟩ := hlt b o rfl
  refine ⟨b, o, cs, rfl, hB, hK, fun j v hv => ?_⟩
  rw [← hc j v hv]
  exact World.cell?_of_block (a := ⟨b, _, none⟩) (hg.block b h1 h2)
end Go.Proofs.Ytndpdbofoojkhaa.Kit
