/- What an argument is made of: values in memory as plain data, read once, and still there behind all that a call makes. -/
import Derived.Test.YtndpdbofoojkhaaGreatProg
import Derived.WalkKit
import Derived.WalkSpells
import Derived.WalkLawsBesides
import Derived.ProofKit
import Derived.Lib.Hide
import Derived.IntWalk
import Derived.ChangeOld
namespace Go.Proofs.YtndpdbofoojkhaaGreat.Kit
open Go.RowKit
set_option linter.unusedVariables false
set_option linter.unusedSimpArgs false

theorem add_plain (b o j : Nat) : (⟨b, o, none⟩ : Addr).add j = ⟨b, o + j, none⟩ := by unfold Addr.add; split <;> simp_all
theorem drop_cons {α : Type} {xs : List α} {k : Nat} {x : α} (h : xs[k]? = some x) : xs.drop k = x :: xs.drop (k + 1) := by
  obtain ⟨hk, rfl⟩ := List.getElem?_eq_some_iff.1 h
  exact List.drop_eq_getElem_cons hk
theorem below_size {w w' : World} (h : Below w.heap.size w w') : w.heap.size ≤ w'.heap.size := h.size
theorem below_then {B : Nat} {w w1 w2 : World} (h : Below B w w1) (hB : B ≤ w1.heap.size) (k : Below w1.heap.size w1 w2) : Below B w w2 := h.trans (k.mono hB)
theorem below_drewN {B : Nat} {a w : World} (h : Below B a w) (n : Nat) : Below B a (w.drewN n) := ⟨h.os, h.tape, h.output, h.size, h.block⟩
theorem below_join {w w1 w2 : World} (h : Below w.heap.size w w1) (k : Below w1.heap.size w1 w2) : Below w.heap.size w w2 := h.trans (k.mono h.size)

theorem below_alloc {w W : World} (h : Below w.heap.size w W) (o : Obj) : Below w.heap.size w (W.alloc o) := h.alloc h.size o
theorem below_drew {B : Nat} {a w : World} (h : Below B a w) : Below B a w.drew := ⟨h.os, h.tape, h.output, h.size, h.block⟩
theorem below_set {w W : World} (h : Below w.heap.size w W) {p : Addr} (hp : w.heap.size ≤ p.block) (u : Value) : Below w.heap.size w (W.setCell p u) := h.setCell hp u

theorem new_cell (w : World) (cs : Array Value) (e : TypeId) (j : Nat) {v : Value} (h : cs[j]? = some v) : (w.alloc (.cells cs e)).cell? ⟨w.heap.size, j, none⟩ = some v := (cell_of_row _ _ j _ _ _ (heap_alloc_new w _)).trans h
theorem new_free (w : World) (cs : Array Value) (e : TypeId) (j : Nat) : (w.alloc (.cells cs e)).frozen? ⟨w.heap.size, j, none⟩ = false := by
  unfold World.frozen?
  rw [heap_alloc_new w (.cells cs e)]
  simp
theorem old_cell {w : World} (o : Obj) {b i : Nat} {v : Value} (h : w.cell? ⟨b, i, none⟩ = some v) : (w.alloc o).cell? ⟨b, i, none⟩ = some v := ((Below.refl w.heap.size w).alloc (Nat.le_refl _) o).cell (p := ⟨b, i, none⟩) (World.block_lt_of_cell? w _ h) |>.trans h
theorem later {W w' : World} (hb : Below W.heap.size W w') {b i : Nat} {v : Value} (h : W.cell? ⟨b, i, none⟩ = some v) : w'.cell? ⟨b, i, none⟩ = some v := (hb.cell (p := ⟨b, i, none⟩) (World.block_lt_of_cell? W _ h)).trans h
/-- A block that is known whole. -/
def Box (w : World) (g : Nat) (cs : Array Value) (t : TypeId) : Prop := w.heap[g]? = some (.cells cs t (0, 0))
theorem Box.lt {w : World} {g : Nat} {cs : Array Value} {t : TypeId} (h : Box w g cs t) : g < w.heap.size := (Array.getElem?_eq_some_iff.1 h).1
theorem Box.cell {w : World} {g : Nat} {cs : Array Value} {t : TypeId} (h : Box w g cs t) (j : Nat) {v : Value} (hv : cs[j]? = some v) : w.cell? ⟨g, j, none⟩ = some v := (cell_of_row _ _ j _ _ _ h).trans hv
theorem Box.free {w : World} {g : Nat} {cs : Array Value} {t : TypeId} (h : Box w g cs t) (j : Nat) : w.frozen? ⟨g, j, none⟩ = false := by
  unfold Box at h
  unfold World.frozen?
  rw [h]
  simp
theorem Box.new (w : World) (cs : Array Value) (t : TypeId) : Box (w.alloc (.cells cs t)) w.heap.size cs t := heap_alloc_new w _
theorem Box.below {w w' : World} {g : Nat} {cs : Array Value} {t : TypeId} (h : Box w g cs t) (hb : Below w.heap.size w w') : Box w' g cs t := (hb.block g h.lt).trans h
theorem Box.alloc {w : World} {g : Nat} {cs : Array Value} {t : TypeId} (h : Box w g cs t) (o : Obj) : Box (w.alloc o) g cs t := h.below ((Below.refl _ _).alloc (Nat.le_refl _) o)
theorem Box.far {w : World} {g : Nat} {cs : Array Value} {t : TypeId} (h : Box w g cs t) {p : Addr} (hp : g ≠ p.block) (u : Value) : Box (w.setCell p u) g cs t := (Below.heap_setCell w p u g hp).trans h
theorem Box.set {w : World} {g : Nat} {cs : Array Value} {t : TypeId} (h : Box w g cs t) (i : Nat) (u : Value) : Box (w.setCell ⟨g, i, none⟩ u) g (cs.setIfInBounds i u) t := by
  unfold Box at h ⊢
  simp [World.setCell, Array.getElem?_modify, h]
theorem Box.drew {w : World} {g : Nat} {cs : Array Value} {t : TypeId} (h : Box w g cs t) : Box w.drew g cs t := h
theorem Box.set2 {w : World} {g : Nat} {a b x y : Value} {t : TypeId} (h : Box w g #[a, b] t) : Box ((w.setCell ⟨g, 0, none⟩ x).setCell ⟨g, 1, none⟩ y) g #[x, y] t := by
  simpa using (h.set 0 x).set 1 y
theorem arr_of {cs : Array Value} {l : List Value} (h : cs.toList = l) : cs = l.toArray := by rw [← h]
theorem sz_lt {W w1 : World} {n : Nat} (hb : Below W.heap.size W w1) (h : n < W.heap.size) : n < w1.heap.size := Nat.lt_of_lt_of_le h hb.size
theorem below_sizes {W w1 : World} (hb : Below W.heap.size W w1) : ∀ n, n < W.heap.size → n < w1.heap.size := fun _ h => sz_lt hb h
theorem alloc_lt (w : World) (o : Obj) : w.heap.size < (w.alloc o).heap.size := by simp
theorem bcell {W w1 : World} (hb : Below W.heap.size W w1) : (∀ b o, b < W.heap.size → w1.cell? ⟨b, o, none⟩ = W.cell? ⟨b, o, none⟩) ∧ (∀ b o, b < W.heap.size → w1.frozen? ⟨b, o, none⟩ = W.frozen? ⟨b, o, none⟩) :=
  ⟨fun b o h => hb.cell (p := ⟨b, o, none⟩) h, fun b o h => hb.frozen (p := ⟨b, o, none⟩) h⟩

/-- A kind of data: how many cells it takes, and what cells are such a datum, all that they lead to lying below a block. -/
structure Rep (α : Type) where
  n : Nat
  K : World → Nat → List Value → α → Prop
  len : ∀ {w B cs x}, K w B cs x → cs.length = n
  mono : ∀ {w w' B cs x}, Below B w w' → K w B cs x → K w' B cs x
  up : ∀ {w B B' cs x}, B ≤ B' → K w B cs x → K w B' cs x

def Rep.int (k : IntKind) : Rep Int := ⟨1, fun _ _ cs x => cs = [.int k x] ∧ (Lit.int k x).wf = true, fun h => by rw [h.1]; rfl, fun _ h => h, fun _ h => h⟩
def Rep.bool : Rep Bool := ⟨1, fun _ _ cs x => cs = [.bool x], fun h => by rw [h]; rfl, fun _ h => h, fun _ h => h⟩
def Rep.str : Rep ByteArray := ⟨1, fun _ _ cs x => cs = [.string x] ∧ x.size ≤ 9223372036854775807, fun h => by rw [h.1]; rfl, fun _ h => h, fun _ h => h⟩
def Rep.seq {α β : Type} (R : Rep α) (S : Rep β) : Rep (α × β) :=
  ⟨R.n + S.n, fun w B cs x => ∃ c1 c2, cs = c1 ++ c2 ∧ R.K w B c1 x.1 ∧ S.K w B c2 x.2, fun ⟨_, _, e, h1, h2⟩ => by rw [e, List.length_append, R.len h1, S.len h2],
    fun hb ⟨c1, c2, e, h1, h2⟩ => ⟨c1, c2, e, R.mono hb h1, S.mono hb h2⟩, fun hb ⟨c1, c2, e, h1, h2⟩ => ⟨c1, c2, e, R.up hb h1, S.up hb h2⟩⟩
def Rep.iso {α β : Type} (R : Rep α) (f : β → α) : Rep β := ⟨R.n, fun w B cs y => R.K w B cs (f y), fun h => R.len h, fun hb h => R.mono hb h, fun hb h => R.up hb h⟩

/-- Elements one behind the other. -/
def Row {α : Type} (R : Rep α) (w : World) (B : Nat) (A : Option Addr) (xs : List α) : Prop :=
  ∀ i x, xs[i]? = some x → ∃ (b o : Nat) (cs : List Value), A = some ⟨b, o, none⟩ ∧ b < B ∧ R.K w B cs x ∧ ∀ j v, cs[j]? = some v → w.cell? ⟨b, o + (i * R.n + j), none⟩ = some v
theorem Row.mono {α : Type} {R : Rep α} {w w' : World} {B : Nat} {A : Option Addr} {xs : List α} (h : Row R w B A xs) (hb : Below B w w') : Row R w' B A xs := by
  intro i x hx
  obtain ⟨b, o, cs, rfl, hB, hK, hc⟩ := h i x hx
  exact ⟨b, o, cs, rfl, hB, R.mono hb hK, fun j v hv => (hb.cell (p := ⟨b, _, none⟩) hB).trans (hc j v hv)⟩
theorem Row.up {α : Type} {R : Rep α} {w : World} {B B' : Nat} {A : Option Addr} {xs : List α} (h : Row R w B A xs) (hb : B ≤ B') : Row R w B' A xs := by
  intro i x hx
  obtain ⟨b, o, cs, rfl, hB, hK, hc⟩ := h i x hx
  exact ⟨b, o, cs, rfl, by omega, R.up hb hK, hc⟩
def Rep.slice {α : Type} (R : Rep α) : Rep (List α) :=
  ⟨1, fun w B cs xs => ∃ A c, cs = [.slice A xs.length c] ∧ xs.length ≤ c ∧ c ≤ 9223372036854775807 ∧ Row R w B A xs, fun ⟨_, _, e, _⟩ => by rw [e]; rfl,
    fun hb ⟨A, c, e, h1, h2, h3⟩ => ⟨A, c, e, h1, h2, h3.mono hb⟩, fun hb ⟨A, c, e, h1, h2, h3⟩ => ⟨A, c, e, h1, h2, h3.up hb⟩⟩

/-- Whatever reads as data of a type is such a datum. -/
def Opens (P : Program) (T : TypeId) {α : Type} (R : Rep α) : Prop :=
  P.cellsOf T = R.n ∧ ∀ {H : Type} (enc : TypeId × Value → H) (w : World) (fuel : Nat) (cs : List Value) (d : DataW H × List MemPlace), DataW.trod enc P w 0 (fun _ => true) true fuel T cs = some d → ∃ x, R.K w w.heap.size cs x

theorem Opens.int {P : Program} {T : TypeId} {k : IntKind} (ht : P.underlying T = some (.int k)) (hc : P.cellsOf T = 1) : Opens P T (Rep.int k) := by
  refine ⟨hc, fun enc w fuel cs d h => ?_⟩
  obtain ⟨n, rfl, rfl, hw⟩ := DataW.trod_int ht h
  exact ⟨n, rfl, hw⟩
theorem Opens.bool {P : Program} {T : TypeId} (ht : P.underlying T = some .bool) (hc : P.cellsOf T = 1) : Opens P T Rep.bool := by
  refine ⟨hc, fun enc w fuel cs d h => ?_⟩
  obtain ⟨n, rfl, rfl⟩ := DataW.trod_bool ht h
  exact ⟨n, rfl⟩
theorem Opens.str {P : Program} {T : TypeId} (ht : P.underlying T = some .string) (hc : P.cellsOf T = 1) : Opens P T Rep.str := by
  refine ⟨hc, fun enc w fuel cs d h => ?_⟩
  obtain ⟨n, rfl, rfl, hw⟩ := DataW.trod_string ht h
  exact ⟨n, rfl, hw⟩
theorem Opens.iso {P : Program} {T : TypeId} {α β : Type} {R : Rep α} (f : β → α) (g : α → β) (hfg : ∀ x, f (g x) = x) (h : Opens P T R) : Opens P T (R.iso f) :=
  ⟨h.1, fun enc w fuel cs d hd => by
    obtain ⟨x, hx⟩ := h.2 enc w fuel cs d hd
    exact ⟨g x, by show R.K _ _ _ (f (g x)); rw [hfg]; exact hx⟩⟩

theorem add_spot {w : World} {a : Addr} {i : Nat} {v : Value} (h : w.cell? (a.add i) = some v) : a.add i = ⟨a.block, a.off + i, none⟩ := by
  unfold Addr.add at h ⊢
  split
  · rename_i h0
    subst h0
    rw [if_pos rfl] at h
    have := World.cell?_spot h
    cases a
    simp_all
  · rfl

theorem Opens.slice {P : Program} {T E : TypeId} {α : Type} {R : Rep α} (ht : P.underlying T = some (.slice E)) (hc : P.cellsOf T = 1) (hn : 0 < R.n) (hE : Opens P E R) : Opens P T R.slice := by
  refine ⟨hc, fun enc w fuel cs d h => ?_⟩
  rcases DataW.trod_slice ht h with ⟨rfl, rfl⟩ | ⟨a, len, cap, elems, rest, n, rfl, rfl, rfl, hb, hl, hm, hlen, hel, _, _⟩
  · exact ⟨[], none, 0, rfl, Nat.le_refl _, by omega, fun i x hx => by simp at hx⟩
  · have key : ∀ i, i < len → ∃ (x : α) (cs : List Value), R.K w w.heap.size cs x ∧ a.block < w.heap.size ∧ ∀ j v, cs[j]? = some v → w.cell? ⟨a.block, a.off + (i * R.n + j), none⟩ = some v ∧ (∃ u, w.cell? (a.add 0) = some u → True) := by
      intro i hi
      have h1 := hel i hi
      rw [List.getElem?_eq_getElem (by omega), hE.1] at h1
      obtain ⟨cs, h2, h3⟩ := Option.bind_eq_some_iff.1 h1
      obtain ⟨x, hx⟩ := hE.2 enc w n cs _ h3
      have hcl := R.len hx
      have hblk := World.cells?_block h2 hn
      obtain ⟨_, hsz, hcell⟩ := World.cells?_some h2
      have hab : (a.add (i * R.n)).block = a.block := by unfold Addr.add; split <;> rfl
      refine ⟨x, cs, hx, by rwa [hab] at hblk, fun j v hv => ⟨?_, ⟨v, fun _ => trivial⟩⟩⟩
      have hj : j < cs.length := (List.getElem?_eq_some_iff.1 hv).1
      have h4 := (hcell j (by omega)).trans hv
      have e1 : (a.add (i * R.n)).add j = a.add (i * R.n + j) := by
        unfold Addr.add
        split <;> split <;> simp_all [Nat.add_assoc] <;> omega
      rw [e1] at h4
      have e2 := add_spot h4
      rw [e2] at h4
      exact h4
    obtain ⟨xs, hxl, hxs⟩ : ∃ xs : List α, xs.length = len ∧ ∀ i x, xs[i]? = some x → ∃ (cs : List Value), R.K w w.heap.size cs x ∧ a.block < w.heap.size ∧ ∀ j v, cs[j]? = some v → w.cell? ⟨a.block, a.off + (i * R.n + j), none⟩ = some v := by
      refine ⟨(List.range len).attach.map fun i => (key i.1 (List.mem_range.1 i.2)).choose, by simp, fun i x hx => ?_⟩
      simp only [List.getElem?_map, Option.map_eq_some_iff] at hx
      obtain ⟨y, hy, rfl⟩ := hx
      obtain ⟨hi, hy⟩ := List.getElem?_eq_some_iff.1 hy
      simp at hi
      have hyv : y.1 = i := by rw [← hy]; simp
      obtain ⟨cs, h1, h2, h3⟩ := (key y.1 (List.mem_range.1 y.2)).choose_spec
      refine ⟨cs, h1, h2, fun j v hv => ?_⟩
      have := (h3 j v hv).1
      rwa [hyv] at this
    refine ⟨xs, some a, cap, by rw [hxl], by omega, by unfold maxLen at hm; omega, fun i x hx => ?_⟩
    obtain ⟨cs, h1, h2, h3⟩ := hxs i x hx
    have hi : i < xs.length := (List.getElem?_eq_some_iff.1 hx).1
    have hpos : 0 < cs.length := by rw [R.len h1]; exact hn
    -- the address has no spot: its cell was read
    have hspot : a.spot = none := by
      have h1 := hel i (by omega)
      rw [List.getElem?_eq_getElem (by omega), hE.1] at h1
      obtain ⟨cs', h2', _⟩ := Option.bind_eq_some_iff.1 h1
      have h0 := hel 0 (by omega)
      rw [List.getElem?_eq_getElem (by omega), hE.1] at h0
      obtain ⟨cs0, h20, h30⟩ := Option.bind_eq_some_iff.1 h0
      obtain ⟨x0, hx0⟩ := hE.2 enc w n cs0 _ h30
      obtain ⟨_, hsz, hcell⟩ := World.cells?_some h20
      have hl0 : 0 < cs0.length := by rw [R.len hx0]; exact hn
      have h5 := (hcell 0 (by omega)).trans (List.getElem?_eq_getElem hl0)
      have e0 : (a.add (0 * R.n)).add 0 = a := by simp [Addr.add]
      rw [e0] at h5
      exact World.cell?_spot h5
    refine ⟨a.block, a.off, cs, ?_, h2, h1, h3⟩
    cases a
    simp_all

/-- A struct's fields, one behind the other, from a place on. -/
def OpensFs (P : Program) (fs : List Field) (off : Nat) {α : Type} (R : Rep α) : Prop :=
  ∀ {H : Type} (enc : TypeId × Value → H) (w : World) (fuel : Nat) (cs : List Value),
    (∀ (i : Nat) (f : Field), fs[i]? = some f → ∃ y, DataW.trod enc P w 0 (fun _ => true) true fuel f.type ((cs.drop f.offset).take (P.cellsOf f.type)) = some y) → ∃ x, R.K w w.heap.size ((cs.drop off).take R.n) x
theorem OpensFs.one {P : Program} {f : Field} {off : Nat} {α : Type} {R : Rep α} (ho : f.offset = off) (h : Opens P f.type R) : OpensFs P [f] off R := by
  intro H enc w fuel cs hf
  obtain ⟨y, hy⟩ := hf 0 f rfl
  rw [h.1, ho] at hy
  exact h.2 enc w fuel _ y hy
theorem OpensFs.cons {P : Program} {f : Field} {fs : List Field} {off : Nat} {α β : Type} {R : Rep α} {S : Rep β} (ho : f.offset = off) (h : Opens P f.type R) (hs : OpensFs P fs (off + R.n) S) : OpensFs P (f :: fs) off (R.seq S) := by
  intro H enc w fuel cs hf
  obtain ⟨y, hy⟩ := hf 0 f rfl
  rw [h.1, ho] at hy
  obtain ⟨x, hx⟩ := h.2 enc w fuel _ y hy
  obtain ⟨z, hz⟩ := hs enc w fuel cs (fun i g hg => hf (i + 1) g hg)
  refine ⟨(x, z), _, _, ?_, hx, hz⟩
  show ((cs.drop off).take (R.n + S.n)) = _
  rw [List.take_add, List.drop_drop]
theorem Opens.struct {P : Program} {T : TypeId} {fs : Array Field} {α : Type} {R : Rep α} (ht : P.underlying T = some (.struct fs)) (hc : P.cellsOf T = R.n) (h : OpensFs P fs.toList 0 R) : Opens P T R := by
  refine ⟨hc, fun enc w fuel cs d hd => ?_⟩
  obtain ⟨xs, n, rfl, rfl, hl, hxl, hx⟩ := DataW.trod_struct ht hd
  obtain ⟨x, hx'⟩ := h enc w n cs (fun i f hf => by
    have hf' : fs[i]? = some f := by simpa using hf
    have hi : i < fs.size := (Array.getElem?_eq_some_iff.1 hf').1
    exact ⟨_, (hx i f hf').trans (List.getElem?_eq_getElem (by omega))⟩)
  rw [List.drop_zero, List.take_of_length_le (by omega)] at hx'
  exact ⟨x, hx'⟩

theorem ret_true {v : Value} {b : Bool} (h : v = .bool b) (hb : b = true) : Ending.returned v = .returned (.bool true) := by rw [h, hb]
theorem ret_bool {v : Value} {b c : Bool} (h : v = .bool b) (hb : b = c) : Ending.returned v = .returned (.bool c) := by rw [h, hb]
theorem ret_int {v : Value} {k : IntKind} {b c : Int} (h : v = .int k b) (hb : b = c) : Ending.returned v = .returned (.int k c) := by rw [h, hb]

/-! ### Slices of whole numbers -/
theorem slice_of {α : Type} {R : Rep α} {w : World} {B : Nat} {A : Option Addr} {n c : Nat} {l : List α} (h : R.slice.K w B [.slice A n c] l) : n = l.length ∧ n ≤ c ∧ c ≤ 9223372036854775807 ∧ Row R w B A l := by
  obtain ⟨A', c', e, h1, h2, h3⟩ := h
  simp only [List.cons.injEq, Value.slice.injEq, and_true] at e
  obtain ⟨rfl, rfl, rfl⟩ := e
  exact ⟨rfl, h1, h2, h3⟩
theorem int_at {k : IntKind} {w : World} {B : Nat} {A : Option Addr} {l : List Int} (h : Row (Rep.int k) w B A l) {i : Nat} {x : Int} (hx : l[i]? = some x) :
    ∃ b o, A = some ⟨b, o, none⟩ ∧ b < B ∧ w.cell? ⟨b, o + i, none⟩ = some (.int k x) ∧ (Lit.int k x).wf = true := by
  obtain ⟨b, o, cs, rfl, hb, ⟨rfl, hw⟩, hc⟩ := h i x hx
  have := hc 0 _ rfl
  rw [show (Rep.int k).n = 1 from rfl, Nat.mul_one, Nat.add_zero] at this
  exact ⟨b, o, rfl, hb, this, hw⟩
theorem at_lt {α : Type} {l : List α} {i : Nat} (h : i < l.length) : ∃ x, l[i]? = some x := ⟨_, List.getElem?_eq_getElem h⟩
/-- A new block of whole numbers. -/
theorem ints_new {k : IntKind} (w : World) (xs : List Int) (e : TypeId) (cs : Array Value) (hw : ∀ x ∈ xs, (Lit.int k x).wf = true) (h : cs = (xs.map fun x => Value.int k x).toArray) :
    Row (Rep.int k) (w.alloc (.cells cs e)) (w.alloc (.cells cs e)).heap.size (some ⟨w.heap.size, 0, none⟩) xs := by
  intro i x hx
  refine ⟨w.heap.size, 0, [.int k x], rfl, by simp, ⟨rfl, hw x (List.mem_of_getElem? hx)⟩, fun j v hv => ?_⟩
  obtain ⟨hj, rfl⟩ := List.getElem?_eq_some_iff.1 hv
  have hj0 : j = 0 := by simp at hj; exact hj
  subst hj0
  refine (cell_of_row _ _ _ _ _ _ (heap_alloc_new w _)).trans ?_
  subst h
  simp [show (Rep.int k).n = 1 from rfl, hx]
theorem i64_of {x : Int} (h : (Lit.int .i64 x).wf = true) : -9223372036854775808 ≤ x ∧ x ≤ 9223372036854775807 := by
  have hmin : IntKind.i64.min = -9223372036854775808 := rfl
  have hmax : IntKind.i64.max = 9223372036854775807 := rfl
  simp only [Lit.wf, Bool.and_eq_true, decide_eq_true_eq] at h
  omega
theorem u8_of {x : Int} (h : (Lit.int .u8 x).wf = true) : 0 ≤ x ∧ x ≤ 255 := by
  have hmin : IntKind.u8.min = 0 := rfl
  have hmax : IntKind.u8.max = 255 := rfl
  simp only [Lit.wf, Bool.and_eq_true, decide_eq_true_eq] at h
  omega
theorem u16_of {x : Int} (h : (Lit.int .u16 x).wf = true) : 0 ≤ x ∧ x ≤ 65535 := by
  have hmin : IntKind.u16.min = 0 := rfl
  have hmax : IntKind.u16.max = 65535 := rfl
  simp only [Lit.wf, Bool.and_eq_true, decide_eq_true_eq] at h
  omega
theorem u32_of {x : Int} (h : (Lit.int .u32 x).wf = true) : 0 ≤ x ∧ x ≤ 4294967295 := by
  have hmin : IntKind.u32.min = 0 := rfl
  have hmax : IntKind.u32.max = 4294967295 := rfl
  simp only [Lit.wf, Bool.and_eq_true, decide_eq_true_eq] at h
  omega
theorem i32_of {x : Int} (h : (Lit.int .i32 x).wf = true) : -2147483648 ≤ x ∧ x ≤ 2147483647 := by
  have hmin : IntKind.i32.min = -2147483648 := rfl
  have hmax : IntKind.i32.max = 2147483647 := rfl
  simp only [Lit.wf, Bool.and_eq_true, decide_eq_true_eq] at h
  omega
theorem i8_of {x : Int} (h : (Lit.int .i8 x).wf = true) : -128 ≤ x ∧ x ≤ 127 := by
  have hmin : IntKind.i8.min = -128 := rfl
  have hmax : IntKind.i8.max = 127 := rfl
  simp only [Lit.wf, Bool.and_eq_true, decide_eq_true_eq] at h
  omega

end Go.Proofs.YtndpdbofoojkhaaGreat.Kit
