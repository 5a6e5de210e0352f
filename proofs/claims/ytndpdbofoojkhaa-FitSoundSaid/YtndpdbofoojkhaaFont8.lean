/- What the walk of the ligatures carries: a map as data, what a round touches, marks of loops that are over. -/
import Derived.Test.YtndpdbofoojkhaaFont7
import Derived.Maps.OwnIn
import Derived.Maps.AppendAt
namespace Go.Proofs.Ytndpdbofoojkhaa.Fo
open Go.RowKit Go.Proofs.Ytndpdbofoojkhaa.Kit Go.Shelf
set_option linter.unusedVariables false
set_option linter.unusedSimpArgs false
attribute [local go_sem] Oper.semAt_some

/-! ### A map of pairs -/
def pairD (x : Int × Int) : DataW Unit := .agg [.lit (.int .i64 x.1), .lit (.int .i64 x.2)]
def pairElem (v : Value) : Option (DataW Unit × List MemPlace) :=
  match v with
  | .agg cs => (match cs.toList with
    | [.int .i64 a, .int .i64 b] => some (pairD (a, b), [])
    | _ => none)
  | _ => none
theorem pairElem_mk (a b : Int) : pairElem (.agg #[.int .i64 a, .int .i64 b]) = some (pairD (a, b), []) := rfl
theorem pairElem_inv {v : Value} {z : DataW Unit × List MemPlace} (h : pairElem v = some z) : ∃ a b, v = .agg #[.int .i64 a, .int .i64 b] ∧ z = (pairD (a, b), []) := by
  unfold pairElem at h
  split at h
  · split at h
    · rename_i cs a b he
      refine ⟨a, b, ?_, by simpa using h.symm⟩
      congr
      exact Array.toList_inj.1 (by rw [he])
    · cases h
  · cases h
theorem pairD_inj {a b c d : Int} (h : pairD (a, b) = pairD (c, d)) : a = c ∧ b = d := by
  unfold pairD at h
  simpa using h
def Dof (out : List LigT) : DataW Unit := out.foldr (fun x D => D.put (.int .i64 x.1) (pairD x.2)) (.map [])
theorem Dof_map : ∀ (out : List LigT), Maps.IsMap (Dof out)
  | [] => Maps.isMap_empty
  | x :: xs => by
    obtain ⟨es, he⟩ := Dof_map xs
    show Maps.IsMap ((Dof xs).put _ _)
    rw [he]
    exact ⟨_, DataW.put_eq _ _ _⟩
theorem Dof_has (k : Int) : ∀ out : List LigT, Maps.has (Dof out) (.int .i64 k) = out.any (fun x => decide (x.1 = k))
  | [] => rfl
  | x :: xs => by
    by_cases h : x.1 = k
    · subst h
      show Maps.has ((Dof xs).put _ _) _ = _
      rw [Maps.has_put_same (Dof_map xs) (show WideAt.IsKeyLit (.int .i64 x.1) from trivial)]
      simp
    · show Maps.has ((Dof xs).put _ _) _ = _
      rw [Maps.has_put_other (by simpa using fun e => h e.symm), Dof_has k xs]
      simp [h]

/-! ### What is touched -/
structure Touch (S : Nat → Prop) (W W' : World) : Prop where
  os : W'.os = W.os
  tape : W'.tape = W.tape
  output : W'.output = W.output
  size : W.heap.size ≤ W'.heap.size
  block : ∀ k, k < W.heap.size → ¬ S k → W'.heap[k]? = W.heap[k]?
theorem Touch.refl (S : Nat → Prop) (W : World) : Touch S W W := ⟨rfl, rfl, rfl, Nat.le_refl _, fun _ _ _ => rfl⟩
theorem Touch.trans {S : Nat → Prop} {A B C : World} (h : Touch S A B) (k : Touch S B C) : Touch S A C :=
  ⟨k.os.trans h.os, k.tape.trans h.tape, k.output.trans h.output, Nat.le_trans h.size k.size, fun i hi hs => (k.block i (Nat.lt_of_lt_of_le hi h.size) hs).trans (h.block i hi hs)⟩
theorem Touch.below {S : Nat → Prop} {A B C : World} (h : Touch S A B) (k : Below B.heap.size B C) : Touch S A C :=
  h.trans ⟨k.os, k.tape, k.output, k.size, fun i hi _ => k.block i hi⟩
theorem Touch.alloc {S : Nat → Prop} {A B : World} (h : Touch S A B) (o : Obj) : Touch S A (B.alloc o) := h.below ((Below.refl _ _).alloc (Nat.le_refl _) o)
theorem Touch.set {S : Nat → Prop} {A B : World} (h : Touch S A B) (p : Addr) (v : Value) (hp : S p.block) : Touch S A (B.setCell p v) :=
  h.trans ⟨rfl, rfl, rfl, by simp, fun i _ hs => Below.heap_setCell B p v i (fun e => hs (e ▸ hp))⟩
theorem Touch.grown {S : Nat → Prop} {A B C : World} {r : Nat} (h : Touch S A B) (k : B.grownBy C (some r)) (hr : S r) : Touch S A C :=
  h.trans ⟨k.os, k.tape, k.output, k.size, fun i hi hs => k.block i hi (fun e => hs (by cases e; exact hr))⟩
theorem Touch.box {S : Nat → Prop} {A B : World} {g : Nat} {cs : Array Value} {t : TypeId} (h : Touch S A B) (hb : Box A g cs t) (hg : ¬ S g) : Box B g cs t := (h.block g hb.lt hg).trans hb
theorem Touch.obj {S : Nat → Prop} {A B : World} {g : Nat} {o : Obj} (h : Touch S A B) (hb : A.heap[g]? = some o) (hg : ¬ S g) : B.heap[g]? = some o := (h.block g (Array.getElem?_eq_some_iff.1 hb).1 hg).trans hb
theorem Touch.toBelow {S : Nat → Prop} {A B : World} (h : Touch S A B) {n : Nat} (hn : n ≤ A.heap.size) (hS : ∀ k, S k → n ≤ k) : Below n A B :=
  ⟨h.os, h.tape, h.output, h.size, fun k hk => h.block k (by omega) (fun e => by have := hS k e; omega)⟩
theorem Touch.keepsFrom {S : Nat → Prop} {A B : World} (h : Touch S A B) {n : Nat} (hS : ∀ k, S k → k < n) : KeepsFrom n A B :=
  ⟨h.size, fun k o hk ho _ => h.obj ho (fun e => by have := hS k e; omega)⟩
theorem box_keep {β : Type} {W W' : World} {row : Option Nat} {B g : Nat} {cs : Array Value} {t : TypeId} (hs : Box W g cs t) (hg : W.grownBy W' row) (hr : ∀ r, row = some r → B ≤ r ∧ ∃ o : Obj, W.heap[r]? = some o ∧ o.isCells = false) : Box W' g cs t :=
  (hg.block g hs.lt (fun e => by obtain ⟨_, o, ho, hc⟩ := hr g e.symm; rw [show W.heap[g]? = _ from hs] at ho; cases ho; cases hc)).trans hs
theorem obj_keep {W W' : World} {row : Option Nat} {B g : Nat} {o : Obj} (hs : W.heap[g]? = some o) (hB : g < B) (hg : W.grownBy W' row) (hr : ∀ r, row = some r → B ≤ r ∧ ∃ o : Obj, W.heap[r]? = some o ∧ o.isCells = false) : W'.heap[g]? = some o :=
  (hg.block g (Array.getElem?_eq_some_iff.1 hs).1 (fun e => by have := (hr g e.symm).1; omega)).trans hs
theorem box_alloc_ne {w : World} {g : Nat} {cs : Array Value} {t : TypeId} (h : Box w g cs t) : g ≠ w.heap.size := by have := h.lt; omega

/-! ### The codes seen -/
def seenCells (seen : List Int) : Array Value := ((List.range 256).map fun j : Nat => Value.bool (decide ((j : Int) ∈ seen))).toArray
theorem seen_at (seen : List Int) {j : Nat} (h : j < 256) : (seenCells seen)[j]? = some (.bool (decide ((j : Int) ∈ seen))) := by
  simp [seenCells, h]
theorem seen_set (seen : List Int) {j : Nat} (h : j < 256) : (seenCells seen).setIfInBounds j (.bool true) = seenCells ((j : Int) :: seen) := by
  apply Array.ext
  · simp [seenCells]
  · intro i h1 h2
    simp [seenCells] at h1 h2
    by_cases e : i = j
    · subst e
      simp [seenCells]
    · have hne : j ≠ i := fun e' => e e'.symm
      have hsz : i < (seenCells seen).size := by simpa [seenCells] using h1
      rw [Array.getElem_setIfInBounds_ne hsz hne]
      simp only [seenCells, List.getElem_toArray, List.getElem_map, List.getElem_range, List.mem_cons]
      congr 1
      have : ¬ ((i : Int) = (j : Int)) := by omega
      simp [this]
theorem seen_nil : seenCells [] = Array.replicate 256 (.bool false) := by
  apply Array.ext
  · simp [seenCells]
  · intro i h1 h2
    simp [seenCells]

/-! ### Loops that are over leave marks -/
def marksOf (Ds : List Nat) : List Deferred := Ds.map fun D => { target := .collected D, args := #[] }
def shut : List Nat → World → World
  | [], w => w
  | D :: Ds, w => shut Ds (w.putObj D (.deferred none))
theorem shut_facts : ∀ (Ds : List Nat) (w : World), (shut Ds w).os = w.os ∧ (shut Ds w).tape = w.tape ∧ (shut Ds w).output = w.output ∧ (shut Ds w).heap.size = w.heap.size ∧ ∀ k, k ∉ Ds → (shut Ds w).heap[k]? = w.heap[k]?
  | [], w => ⟨rfl, rfl, rfl, rfl, fun _ _ => rfl⟩
  | D :: Ds, w => by
    obtain ⟨h1, h2, h3, h4, h5⟩ := shut_facts Ds (w.putObj D (.deferred none))
    refine ⟨h1, h2, h3, by rw [show shut (D :: Ds) w = shut Ds (w.putObj D (.deferred none)) from rfl, h4]; simp, fun k hk => ?_⟩
    simp only [List.mem_cons, not_or] at hk
    exact (h5 k hk.2).trans (World.putObj_heap_other (fun e => hk.1 (by omega)))
theorem leaves_marks {F : Fence} {n : Nat} {P : Program} {fn : Func} {tmps : Array Value} {R : Ending → World → Prop} : ∀ (Ds : List Nat) (w : World), Ds.Nodup → (∀ D ∈ Ds, w.heap[D]? = some (.deferred (some []))) →
    (∃ v, (results fn tmps).run P (shut Ds w) = .ok v (shut Ds w) ∧ R (.returned v) (shut Ds w)) → LeavesInM F n P fn tmps R (marksOf Ds) .returning w
  | [], w, _, _, h => h
  | D :: Ds, w, hn, hd, h => by
    refine ⟨by simp, .inl ⟨_, _, rfl, run_takeDeferred (hd D (by simp)), ?_⟩⟩
    have hn' := List.nodup_cons.1 hn
    exact leaves_marks Ds _ hn'.2 (fun E hE => (World.putObj_heap_other (fun e => hn'.1 (by first | exact e ▸ hE | (rw [← e]; exact hE) | (rw [e]; exact hE)))).trans (hd E (by simp [hE]))) h
theorem shut_box {Ds : List Nat} {w : World} {g : Nat} {cs : Array Value} {t : TypeId} (h : Box w g cs t) (hg : g ∉ Ds) : Box (shut Ds w) g cs t := ((shut_facts Ds w).2.2.2.2 g hg).trans h
theorem shut_map {H : Type} {P : Program} {k : TypeId} {R : Value → Option (DataW H × List MemPlace)} {b n : Nat} {D : DataW H} {Ds : List Nat} {w : World} (h : w.ownsMap P k R b n D) (hg : b ∉ Ds) : (shut Ds w).ownsMap P k R b n D := by
  obtain ⟨es, ck, hh, rest⟩ := h
  exact ⟨es, ck, ((shut_facts Ds w).2.2.2.2 b hg).trans hh, rest⟩
theorem shut_below {B : Nat} {Ds : List Nat} {w0 w : World} (h : Below B w0 w) (hD : ∀ D ∈ Ds, B ≤ D) : Below B w0 (shut Ds w) := by
  obtain ⟨h1, h2, h3, h4, h5⟩ := shut_facts Ds w
  refine h.trans ⟨h1, h2, h3, by rw [h4]; exact Nat.le_refl _, fun k hk => h5 k (fun hm => ?_)⟩
  have := hD k hm
  omega
theorem map_set {H : Type} {P : Program} {k : TypeId} {R : Value → Option (DataW H × List MemPlace)} {b n : Nat} {D : DataW H} {w : World} (h : w.ownsMap P k R b n D) (p : Addr) (v : Value) (hg : b ≠ p.block) : (w.setCell p v).ownsMap P k R b n D := by
  obtain ⟨es, ck, hh, rest⟩ := h
  exact ⟨es, ck, (Below.heap_setCell w p v b hg).trans hh, rest⟩
theorem obj_set {w : World} {g : Nat} {o : Obj} (h : w.heap[g]? = some o) (p : Addr) (v : Value) (hg : g ≠ p.block) : (w.setCell p v).heap[g]? = some o := (Below.heap_setCell w p v g hg).trans h
end Go.Proofs.Ytndpdbofoojkhaa.Fo
