/- joined for a claim: Grow, Own -/
import Derived.Test.YtndpdbofoojkhaaGreatKit
import Derived.Maps.AppendAt
import Derived.OwnWalk
import Derived.RegionTactic
import Derived.Laws.MakeOwn
import Derived.Deep.OwnRows
/- Slices that the call itself makes: append of what is read, or of one element. -/
namespace Go.Proofs.YtndpdbofoojkhaaGreat.Kit
open Go.RowKit
set_option linter.unusedVariables false
set_option linter.unusedSimpArgs false

/-- So many cells in a row, which are read. -/
def Sees (w : World) (A : Option Addr) (cs : List Value) : Prop := ∀ j v, cs[j]? = some v → ∃ b o, A = some ⟨b, o, none⟩ ∧ w.cell? ⟨b, o + j, none⟩ = some v
theorem sees_ints {k : IntKind} {w : World} {B : Nat} {A : Option Addr} {l : List Int} (h : Row (Rep.int k) w B A l) : Sees w A (l.map (Value.int k)) := by
  intro j v hv
  simp only [List.getElem?_map, Option.map_eq_some_iff] at hv
  obtain ⟨x, hx, rfl⟩ := hv
  obtain ⟨b, o, rfl, _, hc, _⟩ := int_at h hx
  exact ⟨b, o, rfl, hc⟩
theorem row_wf {k : IntKind} {w : World} {B : Nat} {A : Option Addr} {l : List Int} (h : Row (Rep.int k) w B A l) : ∀ x ∈ l, (Lit.int k x).wf = true := by
  intro x hx
  obtain ⟨i, hi⟩ := List.mem_iff_getElem?.1 hx
  obtain ⟨_, _, _, _, _, hw⟩ := int_at h hi
  exact hw
theorem wf_app {k : IntKind} {l m : List Int} (h : ∀ x ∈ l, (Lit.int k x).wf = true) (h' : ∀ x ∈ m, (Lit.int k x).wf = true) : ∀ x ∈ l ++ m, (Lit.int k x).wf = true :=
  fun x hx => (List.mem_append.1 hx).elim (h x) (h' x)
theorem own_none0 (w : World) (e : TypeId) (size : Nat) : (w.alloc (.cells #[] e)).ownsRow w.heap.size e size (.slice (some ⟨w.heap.size, 0, none⟩) 0 0) 0 [] :=
  ⟨by simp, .inr ⟨w.heap.size, 0, #[], rfl, Nat.le_refl _, heap_alloc_new w _, Nat.le_refl _, by decide, by simp, by simp⟩⟩
theorem own_nil (W : World) (base : Nat) (e : TypeId) (size : Nat) : W.ownsRow base e size (.slice none 0 0) 0 [] := ⟨by simp, .inl ⟨rfl, rfl⟩⟩
theorem own_base {w : World} {base : Nat} {e : TypeId} {size n : Nat} {v : Value} {xs : List Value} (h : w.ownsRow base e size v n xs) (k : Nat) (hk : v.ownBlock = some k) : base ≤ k := by
  rcases h.2 with ⟨rfl, _⟩ | ⟨g, cap, cur, rfl, hb, _⟩
  · simp [Value.ownBlock] at hk
  · have : g = k := by simpa [Value.ownBlock] using hk
    omega
/-- A row of the call's own is read as any other. -/
theorem own_row {k : IntKind} {w : World} {base n : Nat} {e : TypeId} {v : Value} {l : List Int} (h : w.ownsRow base e 1 v n (l.map (Value.int k))) (hw : ∀ x ∈ l, (Lit.int k x).wf = true) :
    ∃ A c, v = .slice A l.length c ∧ n = l.length ∧ Row (Rep.int k) w w.heap.size A l ∧ l.length ≤ 9223372036854775807 := by
  have hl : n = l.length := by have := h.1; simp at this; exact this.symm
  subst hl
  rcases h.2 with ⟨rfl, h0⟩ | ⟨g, cap, cur, rfl, hb, hg, h1, h2, h3, h4⟩
  · have : l = [] := List.eq_nil_of_length_eq_zero h0
    subst this
    exact ⟨none, 0, rfl, rfl, fun i x hx => by simp at hx, by simp⟩
  · refine ⟨_, cap, rfl, rfl, fun i x hx => ?_, by unfold maxLen at h2; omega⟩
    have hlt : g < w.heap.size := (Array.getElem?_eq_some_iff.1 hg).1
    refine ⟨g, 0, [.int k x], rfl, hlt, ⟨rfl, hw x (List.mem_of_getElem? hx)⟩, fun j u hu => ?_⟩
    obtain ⟨hj, rfl⟩ := List.getElem?_eq_some_iff.1 hu
    have hj0 : j = 0 := by simp at hj; exact hj
    subst hj0
    have hi : i < l.length := (List.getElem?_eq_some_iff.1 hx).1
    have := h.cellAt (g := g) (cap := cap) i (by omega)
    simp only [List.getElem?_map, hx, Option.map_some] at this
    simpa [show (Rep.int k).n = 1 from rfl] using this

theorem own_setSize {w w' : World} {base : Nat} {e : TypeId} {size n : Nat} {v : Value} {xs : List Value} (h : w.ownsRow base e size v n xs) (hb : Below w.heap.size w w') : w'.ownsRow base e size v n xs :=
  h.kept (show w.grownBy w' none from ⟨hb.os, hb.tape, hb.output, hb.size, fun k hk _ => hb.block k hk⟩) (by cases v.ownBlock <;> simp)

section
variable {P : Program}

theorem run_append_seen (w : World) (base : Nat) (t ty e : TypeId) (i : TypeInfo) (z : Value) (size bytes : Nat) (ht : P.underlying t = some (.slice e)) (hi : P.info? e = some i) (hz : i.zero = some z)
    (hsize : i.size = size) (hby : i.bytes = bytes) (hzs : z.cells.size = size) (hsz : 0 < size)
    (v : Value) (n : Nat) (xs : List Value) (hown : w.ownsRow base e size v n xs) (A : Option Addr) (m c : Nat) (news : List Value) (hl : news.length = m * size) (hr : Sees w A news) (h1 : ∀ u ∈ news, u.oneCell' = true)
    (h63 : n + m ≤ maxLen) (hbytes : (n + m) * bytes ≤ 140737488355328) (hbase : base ≤ w.heap.size) (hA : A = none → m = 0) :
    ∃ v' w', (Builtin.append_ #[t, t] ty #[v, .slice A m c]).run P w = .ok v' w' ∧ w'.ownsRow base e size v' (n + m) (xs ++ news) ∧ w.grownBy w' v.ownBlock ∧ (v'.ownBlock = v.ownBlock ∨ v'.ownBlock = some w.heap.size) := by
  cases A with
  | none =>
    have hm := hA rfl
    subst hm
    have hn : news = [] := List.eq_nil_of_length_eq_zero (by simpa using hl)
    subst hn
    refine ⟨v, w, ?_, by simpa using hown, World.grownBy.refl w _, .inl rfl⟩
    rcases hown.2 with ⟨rfl, rfl⟩ | ⟨g, cap, cur, rfl, _, _, hnc, _⟩
    · simp [Builtin.append_, run_underlying ht, sizeOf, typeInfo, hi, Builtin.lenOf, Builtin.firstCells]
    · simp [Builtin.append_, run_underlying ht, sizeOf, typeInfo, hi, Builtin.lenOf, Builtin.firstCells, hnc, storeCells]
  | some ad =>
    have hcells : ∀ j u, news[j]? = some u → w.cell? (ad.add j) = some u := by
      intro j u hu
      obtain ⟨b, o, e1, hc⟩ := hr j u hu
      injection e1 with e1
      subst e1
      rw [add_plain]; exact hc
    obtain ⟨v', w', hrun, h2, h3, _, h5⟩ := run_append_own_at (P := P) w base t ty e i z size bytes ht hi hz hsize hby hzs hsz v n xs hown ad m c news hl hcells h1 h63 hbytes hbase
    exact ⟨v', w', hrun, h2, h3, h5⟩

theorem wp_append_seen {o : Oper} {a : Act} {w : World} {K : Act → World → Prop} {Q : Exit → Act → World → Prop} (s x : Operand) (t : TypeId)
    (ho : o.op = .call { callee := .builtin .append, args := #[s, x], argTypes := #[t, t] })
    (base : Nat) (e : TypeId) (z : Value) (size bytes : Nat) (ht : P.underlying t = some (.slice e)) (hi : (P.info? e).map (fun i => (i.zero, i.size, i.bytes)) = some (some z, size, bytes))
    (hzs : z.cells.size = size) (hsz : 0 < size)
    (v : Value) (n : Nat) (xs : List Value) (hs : a.eval s = v) (hown : w.ownsRow base e size v n xs) (A : Option Addr) (m c : Nat) (news : List Value) (hx : a.eval x = .slice A m c) (hl : news.length = m * size) (hr : Sees w A news) (h1 : ∀ u ∈ news, u.oneCell' = true)
    (h63 : n + m ≤ 9223372036854775807) (hbytes : (n + m) * bytes ≤ 140737488355328) (hbase : base ≤ w.heap.size) (hA : A = none → m = 0)
    (h : ∀ v' w', w'.ownsRow base e size v' (n + m) (xs ++ news) → w.grownBy w' v.ownBlock → (v'.ownBlock = v.ownBlock ∨ v'.ownBlock = some w.heap.size) → K (a.put o.dst v') w') : o.wp P a w K Q := by
  obtain ⟨i, hi1, hi2⟩ := Option.map_eq_some_iff.1 hi
  simp only [Prod.mk.injEq] at hi2
  obtain ⟨hz, hsize, hby⟩ := hi2
  obtain ⟨v', w', hrun, h2, h3, h4⟩ := run_append_seen (P := P) w base t o.type e i z size bytes ht hi1 hz hsize hby hzs hsz v n xs hown A m c news hl hr h1 (by unfold maxLen; omega) hbytes hbase hA
  unfold Oper.wp execOp
  simp only [ho, resolve, invoke, builtin, Sem.run_bind, Sem.run_pure, Result.andThen_ok, List.map_toArray, List.map_cons, List.map_nil, hs, hx, hrun]
  exact h v' w' h2 h3 h4

theorem wpList_append_seen {ops : Array Oper} {rest : List Oper} {o : Oper} {a : Act} {w : World} {Q : Exit → Act → World → Prop} (hgd : o.guard = none) (s x : Operand) (t : TypeId)
    (ho : o.op = .call { callee := .builtin .append, args := #[s, x], argTypes := #[t, t] })
    (base : Nat) (e : TypeId) (z : Value) (size bytes : Nat) (ht : P.underlying t = some (.slice e)) (hi : (P.info? e).map (fun i => (i.zero, i.size, i.bytes)) = some (some z, size, bytes))
    (hzs : z.cells.size = size) (hsz : 0 < size)
    (v : Value) (n : Nat) (xs : List Value) (hs : a.eval s = v) (hown : w.ownsRow base e size v n xs) (A : Option Addr) (m c : Nat) (news : List Value) (hx : a.eval x = .slice A m c) (hl : news.length = m * size) (hr : Sees w A news) (h1 : ∀ u ∈ news, u.oneCell' = true)
    (h63 : n + m ≤ 9223372036854775807) (hbytes : (n + m) * bytes ≤ 140737488355328) (hbase : base ≤ w.heap.size) (hA : A = none → m = 0)
    (h : ∀ v' w', w'.ownsRow base e size v' (n + m) (xs ++ news) → w.grownBy w' v.ownBlock → (v'.ownBlock = v.ownBlock ∨ v'.ownBlock = some w.heap.size) → wpList P ops Q rest (a.put o.dst v') w') : wpList P ops Q (o :: rest) a w :=
  wpList_plain hgd fun _ hK => wp_append_seen s x t ho base e z size bytes ht hi hzs hsz v n xs hs hown A m c news hx hl hr h1 h63 hbytes hbase hA fun v' w' h2 h3 h4 => hK _ _ (h v' w' h2 h3 h4)
end
theorem one_ints (k : IntKind) (l : List Int) : ∀ u ∈ l.map (Value.int k), u.oneCell' = true := by
  intro u hu
  obtain ⟨x, _, rfl⟩ := List.mem_map.1 hu
  rfl
theorem sees_new (w : World) (cs : Array Value) (e : TypeId) : Sees (w.alloc (.cells cs e)) (some ⟨w.heap.size, 0, none⟩) cs.toList := by
  intro j v hv
  refine ⟨_, _, rfl, ?_⟩
  rw [Nat.zero_add]
  refine (cell_of_row _ _ _ _ _ _ (heap_alloc_new w _)).trans ?_
  simpa using hv
theorem row_none {α : Type} {R : Rep α} {w : World} {B : Nat} {A : Option Addr} {l : List α} (h : Row R w B A l) : A = none → l.length = 0 := by
  intro hA
  rcases Nat.eq_zero_or_pos l.length with h0 | h0
  · exact h0
  · obtain ⟨x, hx⟩ := at_lt h0
    obtain ⟨b, o, cs, e, _⟩ := h 0 x hx
    rw [hA] at e; cases e

end Go.Proofs.YtndpdbofoojkhaaGreat.Kit
/- Rows of the call's own, of any data: read as any other, kept while another one grows. -/
namespace Go.Proofs.YtndpdbofoojkhaaGreat.Kit
open Go.RowKit
set_option linter.unusedVariables false
set_option linter.unusedSimpArgs false

theorem flat_len {α : Type} {f : α → List Value} {N : Nat} (hf : ∀ x, (f x).length = N) (l : List α) : (l.flatMap f).length = l.length * N := by
  induction l with
  | nil => simp
  | cons a l ih => rw [List.flatMap_cons, List.length_append, ih, hf, List.length_cons, Nat.succ_mul, Nat.add_comm]
theorem flat_at {α : Type} {f : α → List Value} {N : Nat} (hf : ∀ x, (f x).length = N) : ∀ (l : List α) (i : Nat) (x : α) (j : Nat), l[i]? = some x → j < N → (l.flatMap f)[i * N + j]? = (f x)[j]?
  | [], i, x, j, h, _ => by simp at h
  | a :: l, 0, x, j, h, hj => by
    simp only [List.getElem?_cons_zero, Option.some.injEq] at h
    subst h
    rw [List.flatMap_cons, Nat.zero_mul, Nat.zero_add, List.getElem?_append_left (by rw [hf]; exact hj)]
  | a :: l, i + 1, x, j, h, hj => by
    rw [List.getElem?_cons_succ] at h
    rw [List.flatMap_cons, List.getElem?_append_right (by rw [hf, Nat.succ_mul]; omega), hf, show (i + 1) * N + j - N = i * N + j by rw [Nat.succ_mul]; omega]
    exact flat_at hf l i x j h hj
theorem own_rows {α : Type} {R : Rep α} {f : α → List Value} (hf : ∀ x, (f x).length = R.n) {w : World} {base n : Nat} {e : TypeId} {v : Value} {l : List α} (hR : 0 < R.n) (h : w.ownsRow base e R.n v n (l.flatMap f)) (hk : ∀ x ∈ l, R.K w w.heap.size (f x) x) :
    ∃ A c, v = .slice A l.length c ∧ n = l.length ∧ Row R w w.heap.size A l ∧ l.length ≤ 9223372036854775807 ∧ ∀ b o, A = some ⟨b, o, none⟩ → base ≤ b ∧ b < w.heap.size ∧ v.ownBlock = some b := by
  have hl : n = l.length := by
    have := h.1
    rw [flat_len hf] at this
    exact (Nat.eq_of_mul_eq_mul_right hR this).symm
  subst hl
  rcases h.2 with ⟨rfl, h0⟩ | ⟨g, cap, cur, rfl, hb, hg, h1, h2, h3, h4⟩
  · have : l = [] := List.eq_nil_of_length_eq_zero h0
    subst this
    exact ⟨none, 0, rfl, rfl, fun i x hx => by simp at hx, by simp, fun b o e => by cases e⟩
  · have hlt : g < w.heap.size := (Array.getElem?_eq_some_iff.1 hg).1
    refine ⟨_, cap, rfl, rfl, fun i x hx => ?_, by unfold maxLen at h2; omega, fun b o e => ?_⟩
    · refine ⟨g, 0, f x, rfl, hlt, hk x (List.mem_of_getElem? hx), fun j u hu => ?_⟩
      have hj : j < R.n := by have := (List.getElem?_eq_some_iff.1 hu).1; rwa [hf] at this
      have hi : i < l.length := (List.getElem?_eq_some_iff.1 hx).1
      have hle : i * R.n + j < l.length * R.n := by
        have : (i + 1) * R.n ≤ l.length * R.n := Nat.mul_le_mul_right _ hi
        rw [Nat.succ_mul] at this
        omega
      have := h.cellAt (g := g) (cap := cap) (i * R.n + j) hle
      rw [flat_at hf l i x j hx hj, hu] at this
      simpa using this
    · injection e with e
      injection e with e1 e2
      subst e1
      exact ⟨hb, hlt, rfl⟩
/-- A row of numbers is kept while another block grows. -/
theorem Row.int_grown {k : IntKind} {w w' : World} {B : Nat} {A : Option Addr} {l : List Int} {row : Option Nat} (h : Row (Rep.int k) w B A l) (hg : w.grownBy w' row) (hlt : ∀ b o, A = some ⟨b, o, none⟩ → b < w.heap.size ∧ some b ≠ row) : Row (Rep.int k) w' B A l := by
  intro i x hx
  obtain ⟨b, o, cs, rfl, hB, hK, hc⟩ := h i x hx
  obtain ⟨h1, h2⟩ := hlt b o rfl
  refine ⟨b, o, cs, rfl, hB, hK, fun j v hv => ?_⟩
  rw [← hc j v hv]
  exact World.cell?_of_block (a := ⟨b, _, none⟩) (hg.block b h1 h2)
end Go.Proofs.YtndpdbofoojkhaaGreat.Kit
