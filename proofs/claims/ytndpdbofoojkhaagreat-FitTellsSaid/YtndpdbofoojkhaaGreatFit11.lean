/- joined for a claim: Fit10, Fit11 -/
import Derived.Test.YtndpdbofoojkhaaGreatFit9
import Derived.Test.YtndpdbofoojkhaaGreatLevel6
import Derived.Deep.RegionHeld3
import Derived.Deep.RegionWith
/- A face in memory of its own (fit.own). -/
namespace Go.Proofs.YtndpdbofoojkhaaGreat.Ft
open Go.RowKit Go.Proofs.YtndpdbofoojkhaaGreat.Kit Go.Proofs.YtndpdbofoojkhaaGreat.Fo Go.Proofs.YtndpdbofoojkhaaGreat.Lv
set_option linter.unusedVariables false
set_option linter.unusedSimpArgs false

/-- A table that does not stand in a block. -/
def NRow {α : Type} (R : Rep α) (g : Nat) (w : World) (A : Option Addr) (l : List α) : Prop := Row R w w.heap.size A l ∧ (l ≠ [] → ∀ b o, A = some ⟨b, o, none⟩ → b ≠ g ∧ b ≠ g + 1)
def Flat {α : Type} (R : Rep α) : Prop := ∀ w B w' B' cs x, R.K w B cs x → R.K w' B' cs x
theorem flat_int : Flat (Rep.int .i64) := fun _ _ _ _ _ _ h => h
theorem flat_step : Flat stepR := fun w B w' B' cs x h => by
  have := step_K w B cs x h
  rw [this.1]
  exact this.2 w' B'
theorem flat_char : Flat charR := fun w B w' B' cs x h => by
  have := char_K w B cs x h
  rw [this.1]
  exact this.2 w' B'
theorem NRow.below {α : Type} {R : Rep α} {g : Nat} {w w' : World} {A : Option Addr} {l : List α} (h : NRow R g w A l) (hb : Below w.heap.size w w') : NRow R g w' A l := ⟨(h.1.mono hb).up hb.size, h.2⟩
theorem NRow.set {α : Type} {R : Rep α} (hf : Flat R) {g : Nat} {w : World} {A : Option Addr} {l : List α} (h : NRow R g w A l) (o : Nat) (v : Value) : NRow R g (w.setCell ⟨g, o, none⟩ v) A l := by
  refine ⟨fun i x hx => ?_, h.2⟩
  obtain ⟨b, o', cs, rfl, hb, hK, hc⟩ := h.1 i x hx
  have hne : b ≠ g := (h.2 (by intro e; subst e; simp at hx) b o' rfl).1
  refine ⟨b, o', cs, rfl, by simpa [World.setCell] using hb, hf _ _ _ _ _ _ hK, fun j u hu => ?_⟩
  exact (World.cell?_of_block (w := w) (Below.heap_setCell w ⟨g, o, none⟩ v b hne)).trans (hc j u hu)
theorem NRow.of {α : Type} {R : Rep α} {g B : Nat} {w : World} {A : Option Addr} {l : List α} (h : Row R w B A l) (hB : B ≤ g) (hw : B ≤ w.heap.size) : NRow R g w A l := by
  refine ⟨h.up hw, fun hl b o e => ?_⟩
  obtain ⟨x, hx⟩ := at_lt (l := l) (i := 0) (by cases l with | nil => exact absurd rfl hl | cons y l => simp)
  obtain ⟨b', o', cs, e', hb, _⟩ := h 0 x hx
  rw [e] at e'
  injection e' with e'
  injection e' with e1
  omega
theorem NRow.new {α : Type} {R : Rep α} {g n : Nat} {w : World} {A : Option Addr} {l : List α} (h : Row R w w.heap.size A l) (hA : ∀ b o, A = some ⟨b, o, none⟩ → n ≤ b) (hn : g + 1 < n) : NRow R g w A l := ⟨h, fun _ b o e => by have := hA b o e; omega⟩
theorem NRow.row {α : Type} {R : Rep α} (hf : Flat R) {g : Nat} {w : World} {A : Option Addr} {l : List α} (h : NRow R g w A l) (cs : Array Value) : Row R (w.setRow (g + 1) cs) (w.setRow (g + 1) cs).heap.size A l := by
  intro i x hx
  obtain ⟨b, o', cs', rfl, hb, hK, hc⟩ := h.1 i x hx
  have hne : b ≠ g + 1 := (h.2 (by intro e; subst e; simp at hx) b o' rfl).2
  refine ⟨b, o', cs', rfl, by simpa using hb, hf _ _ _ _ _ _ hK, fun j u hu => ?_⟩
  exact (World.cell?_of_block (w := w) (setRow_other w (g + 1) b cs hne)).trans (hc j u hu)
/-- A face's tables of numbers, by their places. -/
def offT (j : Nat) : Nat := if j < 4 then 4 + j else 5 + j
def tabT (d : FaceD) (j : Nat) : List Int := match j with | 0 => d.font.widths | 1 => d.font.heights | 2 => d.font.depths | 3 => d.font.italics | 4 => d.font.kerns | _ => d.font.params
def putT (a : FaceA) (T : Nat → Option Addr × Nat) : FaceA := { font := { a.font with w := (T 0).1, cw := (T 0).2, h := (T 1).1, ch := (T 1).2, d := (T 2).1, cd := (T 2).2, i := (T 3).1, ci := (T 3).2, k := (T 4).1, ck := (T 4).2, p := (T 5).1, cp := (T 5).2 }, t := a.t, ct := a.ct }
def upT (T : Nat → Option Addr × Nat) (j : Nat) (x : Option Addr × Nat) : Nat → Option Addr × Nat := fun i => if i = j then x else T i
def initT (a : FaceA) : Nat → Option Addr × Nat := fun j => match j with | 0 => (a.font.w, a.font.cw) | 1 => (a.font.h, a.font.ch) | 2 => (a.font.d, a.font.cd) | 3 => (a.font.i, a.font.ci) | 4 => (a.font.k, a.font.ck) | _ => (a.font.p, a.font.cp)
theorem six {P : Nat → Prop} (h0 : P 0) (h1 : P 1) (h2 : P 2) (h3 : P 3) (h4 : P 4) (h5 : P 5) : ∀ j, j < 6 → P j := by
  intro j hj
  have : j = 0 ∨ j = 1 ∨ j = 2 ∨ j = 3 ∨ j = 4 ∨ j = 5 := by omega
  rcases this with rfl | rfl | rfl | rfl | rfl | rfl <;> assumption
theorem put_init (a : FaceA) : putT a (initT a) = a := rfl
theorem put_at (d : FaceD) (a : FaceA) (T : Nat → Option Addr × Nat) : ∀ j, j < 6 → (faceCells d (putT a T))[offT j]? = some (.slice (T j).1 (tabT d j).length (T j).2) := six rfl rfl rfl rfl rfl rfl
theorem put_set (d : FaceD) (a : FaceA) (T : Nat → Option Addr × Nat) (x : Option Addr × Nat) : ∀ j, j < 6 → (faceCells d (putT a T)).setIfInBounds (offT j) (.slice x.1 (tabT d j).length x.2) = faceCells d (putT a (upT T j x)) := six rfl rfl rfl rfl rfl rfl
theorem ptr_at (g : Nat) : ∀ j, j < 6 → (#[Value.pointer (some ⟨g, 4, none⟩), .pointer (some ⟨g, 5, none⟩), .pointer (some ⟨g, 6, none⟩), .pointer (some ⟨g, 7, none⟩), .pointer (some ⟨g, 9, none⟩), .pointer (some ⟨g, 10, none⟩)] : Array Value)[j]? = some (.pointer (some ⟨g, offT j, none⟩)) := six rfl rfl rfl rfl rfl rfl
/-- What a copy under way holds. -/
structure OwnI (g : Nat) (w : World) (d : FaceD) (a : FaceA) (T : Nat → Option Addr × Nat) : Prop where
  box : Box w g (faceCells d (putT a T)) 29
  chars : NRow charR g w a.font.c d.font.chars
  steps : NRow stepR g w a.font.s d.font.steps
  traits : NRow stepR g w a.t d.traits
  tabs : ∀ j, j < 6 → NRow (Rep.int .i64) g w (T j).1 (tabT d j)
theorem OwnI.below {g : Nat} {w w' : World} {d : FaceD} {a : FaceA} {T : Nat → Option Addr × Nat} (h : OwnI g w d a T) (hb : Below w.heap.size w w') : OwnI g w' d a T :=
  ⟨h.box.below hb, h.chars.below hb, h.steps.below hb, h.traits.below hb, fun j hj => (h.tabs j hj).below hb⟩
theorem OwnI.put {g j : Nat} {w w' : World} {d : FaceD} {a : FaceA} {T : Nat → Option Addr × Nat} (h : OwnI g w d a T) (hb : Below w.heap.size w w') {A : Option Addr} {c : Nat} (hj : j < 6) (hn : NRow (Rep.int .i64) g w' A (tabT d j)) :
    OwnI g (w'.setCell ⟨g, offT j, none⟩ (.slice A (tabT d j).length c)) d a (upT T j (A, c)) := by
  refine ⟨?_, (h.chars.below hb).set flat_char _ _, (h.steps.below hb).set flat_step _ _, (h.traits.below hb).set flat_step _ _, fun i hi => ?_⟩
  · rw [← put_set d a T (A, c) j hj]
    exact (h.box.below hb).set _ _
  · unfold upT
    split
    · rename_i e; subst e; exact hn.set flat_int _ _
    · exact ((h.tabs i hi).below hb).set flat_int _ _
theorem OwnI.face {g : Nat} {w w0 : World} {B : Nat} {d : FaceD} {a a0 : FaceA} {T : Nat → Option Addr × Nat} (h : OwnI g w d a T) (hF : FaceIn w0 B d a0) : FaceIn w w.heap.size d (putT a T) :=
  ⟨⟨hF.font.sum, hF.font.design, hF.font.first, h.chars.1, (h.tabs 0 (by omega)).1, (h.tabs 1 (by omega)).1, (h.tabs 2 (by omega)).1, (h.tabs 3 (by omega)).1, h.steps.1, (h.tabs 4 (by omega)).1, (h.tabs 5 (by omega)).1, hF.font.nc, hF.font.nw, hF.font.nh, hF.font.nd, hF.font.ni, hF.font.ns, hF.font.nk, hF.font.np⟩, hF.size, hF.step, hF.up, hF.down, h.traits.1, hF.nt⟩
theorem OwnI.faceR {g : Nat} {w w0 : World} {B : Nat} {d : FaceD} {a a0 : FaceA} {T : Nat → Option Addr × Nat} (h : OwnI g w d a T) (hF : FaceIn w0 B d a0) (cs : Array Value) : FaceIn (w.setRow (g + 1) cs) (w.setRow (g + 1) cs).heap.size d (putT a T) :=
  ⟨⟨hF.font.sum, hF.font.design, hF.font.first, h.chars.row flat_char _, (h.tabs 0 (by omega)).row flat_int _, (h.tabs 1 (by omega)).row flat_int _, (h.tabs 2 (by omega)).row flat_int _, (h.tabs 3 (by omega)).row flat_int _, h.steps.row flat_step _, (h.tabs 4 (by omega)).row flat_int _, (h.tabs 5 (by omega)).row flat_int _, hF.font.nc, hF.font.nw, hF.font.nh, hF.font.nd, hF.font.ni, hF.font.ns, hF.font.nk, hF.font.np⟩, hF.size, hF.step, hF.up, hF.down, h.traits.row flat_step _, hF.nt⟩
theorem OwnI.start {g : Nat} {w : World} {B : Nat} {d : FaceD} {a : FaceA} (hb : Box w g (faceCells d a) 29) (hF : FaceIn w B d a) (hB : B ≤ g) : OwnI g w d a (initT a) := by
  have hw : B ≤ w.heap.size := Nat.le_trans hB (Nat.le_of_lt hb.lt)
  exact ⟨hb, NRow.of hF.font.chars hB hw, NRow.of hF.font.steps hB hw, NRow.of hF.traits hB hw, six (NRow.of hF.font.widths hB hw) (NRow.of hF.font.heights hB hw) (NRow.of hF.font.depths hB hw) (NRow.of hF.font.italics hB hw) (NRow.of hF.font.kerns hB hw) (NRow.of hF.font.params hB hw)⟩
end Go.Proofs.YtndpdbofoojkhaaGreat.Ft
/- A face in memory of its own: fit.own walked. -/
namespace Go.Proofs.YtndpdbofoojkhaaGreat.Ft
open Go.RowKit Go.Proofs.YtndpdbofoojkhaaGreat.Kit Go.Proofs.YtndpdbofoojkhaaGreat.Fo Go.Proofs.YtndpdbofoojkhaaGreat.Lv
set_option linter.unusedVariables false
set_option linter.unusedSimpArgs false

abbrev z16 : Array Value := #[.int .i64 0, .int .i64 0, .int .i64 0, .slice none 0 0, .slice none 0 0, .slice none 0 0, .slice none 0 0, .slice none 0 0, .slice none 0 0, .slice none 0 0, .slice none 0 0, .int .i64 0, .int .i64 0, .int .i64 0, .int .i64 0, .slice none 0 0]
/-- How long a face's tables are. -/
def SmallF (d : FaceD) : Prop := d.font.chars.length ≤ 100000 ∧ d.font.steps.length ≤ 100000 ∧ d.traits.length ≤ 100000 ∧ ∀ j, j < 6 → (tabT d j).length ≤ 100000
def atC (a : FaceA) (c1 : Option Addr) (n1 : Nat) (c2 : Option Addr) (n2 : Nat) : FaceA := { font := { a.font with c := c1, cc := n1, s := c2, cs := n2 }, t := a.t, ct := a.ct }
def atT (a : FaceA) (t : Option Addr) (n : Nat) : FaceA := { font := a.font, t := t, ct := n }
theorem load_face {W : World} {g : Nat} {d : FaceD} {a : FaceA} (h : Box W g (faceCells d a) 29) : (Instr.loadAt 29 (.pointer (some ⟨g, 0, none⟩))).run Tryz.prog W = .ok (faceV d a) W :=
  run_loadAt_mid W g 0 29 (faceL d a) _ (rangeAt_box h) Tryz.underlying29 rfl (by kernel_rfl)
theorem ld_law {ops : Array Oper} {rest : List Oper} {op : Oper} {a : Act} {w : World} {Q : Exit → Act → World → Prop} {g o : Nat} {fv : Value} (hld : (Instr.loadAt 29 (.pointer (some ⟨g, o, none⟩))).run Tryz.prog w = .ok fv w) (hgd : op.guard = none) (x : Operand) (ho : op.op = .load 29 x)
    (hx : a.eval x = .pointer (some ⟨g, o, none⟩)) (h : wpList Tryz.prog ops Q rest (a.put op.dst fv) w) : wpList Tryz.prog ops Q (op :: rest) a w :=
  wpList_plain hgd fun _ hK => by
    unfold Oper.wp execOp
    simp only [ho, hx, Sem.run_bind, hld, Sem.run_pure, Result.andThen_ok]
    exact hK _ _ h
theorem wpList_stop {P : Program} {ops : Array Oper} {Q : Exit → Act → World → Prop} {o : Oper} {rest : List Oper} {a : Act} {w : World} (h : Hid (wpList P ops Q (o :: rest) a w)) : wpList P ops Q (o :: rest) a w := h.out
theorem FaceIn.tr {w : World} {B : Nat} {d : FaceD} {a : FaceA} (h : FaceIn w B d a) {t : Option Addr} {n : Nat} (ht : Row stepR w B t d.traits) : FaceIn w B d (atT a t n) := ⟨h.font, h.size, h.step, h.up, h.down, ht, h.nt⟩
theorem OwnI.two {g : Nat} {W wq : World} {d : FaceD} {a : FaceA} {T : Nat → Option Addr × Nat} (h : OwnI g W d a T) (hb : Below W.heap.size W wq) {A3 A8 : Option Addr} {n3 n8 : Nat} (h3 : NRow charR g wq A3 d.font.chars) (h8 : NRow stepR g wq A8 d.font.steps) :
    OwnI g ((wq.setCell ⟨g, 3, none⟩ (.slice A3 d.font.chars.length n3)).setCell ⟨g, 8, none⟩ (.slice A8 d.font.steps.length n8)) d (atC a A3 n3 A8 n8) T ∧
    OwnI g ((wq.setCell ⟨g, 8, none⟩ (.slice A8 d.font.steps.length n8)).setCell ⟨g, 3, none⟩ (.slice A3 d.font.chars.length n3)) d (atC a A3 n3 A8 n8) T := by
  have k := h.below hb
  exact ⟨⟨(k.box.set 3 (.slice A3 d.font.chars.length n3)).set 8 (.slice A8 d.font.steps.length n8), (h3.set flat_char _ _).set flat_char _ _, (h8.set flat_step _ _).set flat_step _ _, (k.traits.set flat_step _ _).set flat_step _ _, fun j hj => ((k.tabs j hj).set flat_int _ _).set flat_int _ _⟩,
    ⟨(k.box.set 8 (.slice A8 d.font.steps.length n8)).set 3 (.slice A3 d.font.chars.length n3), (h3.set flat_char _ _).set flat_char _ _, (h8.set flat_step _ _).set flat_step _ _, (k.traits.set flat_step _ _).set flat_step _ _, fun j hj => ((k.tabs j hj).set flat_int _ _).set flat_int _ _⟩⟩
theorem OwnI.one {g : Nat} {w : World} {d : FaceD} {a : FaceA} {T : Nat → Option Addr × Nat} (h : OwnI g w d a T) {A : Option Addr} {n : Nat} (hr : NRow stepR g w A d.traits) : OwnI g (w.setCell ⟨g, 15, none⟩ (.slice A d.traits.length n)) d (atT a A n) T :=
  ⟨h.box.set 15 (.slice A d.traits.length n), h.chars.set flat_char _ _, h.steps.set flat_step _ _, hr.set flat_step _ _, fun j hj => (h.tabs j hj).set flat_int _ _⟩
theorem NRow.drew {α : Type} {R : Rep α} {g : Nat} {w : World} {A : Option Addr} {l : List α} (h : NRow R g w A l) : NRow R g w.drew A l := h.below (Below.refl _ _).drew
/-- The tables alone. -/
structure OwnR (g : Nat) (w w' : World) (d : FaceD) (a : FaceA) : Prop where
  chars : NRow charR g w' a.font.c d.font.chars
  steps : NRow stepR g w' a.font.s d.font.steps
  traits : NRow stepR g w' a.t d.traits
  tabs : ∀ j, j < 6 → NRow (Rep.int .i64) g w' (initT a j).1 (tabT d j)
  below : Below g w w'
  size : g + 1 < w'.heap.size
  zero : Box w' (g + 1) z16 29
theorem OwnR.drew {g : Nat} {w w' : World} {d : FaceD} {a : FaceA} (h : OwnR g w w' d a) : OwnR g w w'.drew d a := ⟨h.chars, h.steps, h.traits, h.tabs, h.below.drew, h.size, h.zero⟩
theorem OwnR.on {g : Nat} {w w' w2 : World} {d : FaceD} {a : FaceA} (h : OwnR g w w' d a) (hb : Below w'.heap.size w' w2) : OwnR g w w2 d a :=
  ⟨h.chars.below hb, h.steps.below hb, h.traits.below hb, fun j hj => (h.tabs j hj).below hb, h.below.trans (hb.mono (by have := h.size; omega)), Nat.lt_of_lt_of_le h.size hb.size, h.zero.below hb⟩
theorem OwnR.set {g : Nat} {w w' : World} {d : FaceD} {a : FaceA} (h : OwnR g w w' d a) (o : Nat) (v : Value) : OwnR g w (w'.setCell ⟨g, o, none⟩ v) d a :=
  ⟨h.chars.set flat_char _ _, h.steps.set flat_step _ _, h.traits.set flat_step _ _, fun j hj => (h.tabs j hj).set flat_int _ _, h.below.setCell (Nat.le_refl _) _, by simpa [World.setCell] using h.size, h.zero.far (p := ⟨g, o, none⟩) (by show g + 1 ≠ g; omega) v⟩
set_option maxRecDepth 100000 in
set_option maxHeartbeats 4000000 in
theorem own_any (d : FaceD) (a : FaceA) (w : World) {B : Nat} (hB : B ≤ w.heap.size) (hF : FaceIn w B d a) (hs : SmallF d) :
    Calls Tryz.prog 18 #[faceV d a] w fun e w' => ∃ a', e = .returned (faceV d a') ∧ FaceIn w' w'.heap.size d a' ∧ Below w.heap.size w w' := by
  have hbx := (Box.new w (faceCells d a) 29).alloc (.cells z16 29)
  have hb2 := Box.new (w.alloc (.cells (faceCells d a) 29)) z16 29
  have hbw : Below w.heap.size w ((w.alloc (.cells (faceCells d a) 29)).alloc (.cells z16 29)) := below_alloc (below_alloc (Below.refl _ _) _) _
  simp only [World.size_alloc] at hb2
  have HS := Lib.hid hs
  have HFF := Lib.hid hF
  clear hF hs
  obtain ⟨W0, hW0⟩ : ∃ W, ((w.alloc (.cells (faceCells d a) 29)).alloc (.cells z16 29)) = W := ⟨_, rfl⟩
  rw [hW0] at hbx hb2 hbw
  have HW0 := Lib.hid hW0
  clear hW0
  obtain ⟨c0, c1, c2, c3, c4, c5⟩ := face_cells hbx
  have HT := Lib.hid (clone_trait a.t a.ct d.traits W0 (HFF.out.traits.mono (hbw.mono hB)) (by have := HS.out.2.2.1; omega))
  have hfr := hbx.free 15
  go_enter Tryz.func18, Tryz.ntmps18
  go_upto_region 1 with fail
  rw [HW0.out]
  clear HW0 c0 c1 c2 c3 c4
  go_wp2_with fail
  with_reducible refine HT.out.mono ?_
  rintro e W1 ⟨A15, n15, rfl, hrow, hnew, hb⟩
  have O1 := OwnI.start (hbx.below hb) (HFF.out.mono ((hbw.trans (hb.mono hbw.size)).mono hB)) hB
  have hb21 := hb2.below hb
  have hbw1 := hbw.trans (hb.mono hbw.size)
  have N15 : NRow stepR w.heap.size W1 A15 d.traits := NRow.new hrow hnew (by have := hb2.lt; omega)
  have hfr1 := O1.box.free 15
  have k15 := O1.box.cell 15 rfl
  clear hb hrow hnew hbx hb2 hbw hfr c5 HT
  obtain ⟨g, hg⟩ : ∃ g, w.heap.size = g := ⟨_, rfl⟩
  have HG := Lib.hid hg
  rw [hg] at O1 N15 hfr1 k15 hb21 hbw1 ⊢
  go_upto_region 3 with fail
  have O2 := O1.one (n := n15) N15
  have hbw2 : Below g w (W1.setCell ⟨g, 15, none⟩ (.slice A15 d.traits.length n15)) := hbw1.setCell (Nat.le_refl _) _
  have hb22 := hb21.far (p := ⟨g, 15, none⟩) (by show g + 1 ≠ g; omega) (.slice A15 d.traits.length n15)
  clear O1 N15 hfr1 k15 hb21 hbw1
  generalize W1.setCell ⟨g, 15, none⟩ (.slice A15 d.traits.length n15) = W at *
  have HO2 := Lib.hid O2
  have HQ : Hid (OwnR g w W d (atT a A15 n15)) := Lib.hid ⟨O2.chars, O2.steps, O2.traits, O2.tabs, hbw2, hb22.lt, hb22⟩
  have HC3 : Hid (∀ W', OwnR g w W' d (atT a A15 n15) → Calls Tryz.prog 37 #[.slice a.font.c d.font.chars.length a.font.cc] W' fun e w' => ∃ A' c', e = .returned (.slice A' d.font.chars.length c') ∧ NRow charR g w' A' d.font.chars ∧ Below W'.heap.size W' w') := Lib.hid (fun W' hq => (clone_char a.font.c a.font.cc d.font.chars W' hq.chars.1 (by have := HS.out.1; omega)).mono (by
    rintro e w' ⟨A', c', rfl, h1, h2, h3⟩
    exact ⟨A', c', rfl, NRow.new h1 h2 (by have := hq.size; omega), h3⟩))
  have HC8 : Hid (∀ W', OwnR g w W' d (atT a A15 n15) → Calls Tryz.prog 38 #[.slice a.font.s d.font.steps.length a.font.cs] W' fun e w' => ∃ A' c', e = .returned (.slice A' d.font.steps.length c') ∧ NRow stepR g w' A' d.font.steps ∧ Below W'.heap.size W' w') := Lib.hid (fun W' hq => (clone_step a.font.s a.font.cs d.font.steps W' hq.steps.1 (by have := HS.out.2.1; omega)).mono (by
    rintro e w' ⟨A', c', rfl, h1, h2, h3⟩
    exact ⟨A', c', rfl, NRow.new h1 h2 (by have := hq.size; omega), h3⟩))
  have BW := O2.box
  have e3 : W.cell? ⟨g, 3, none⟩ = some (.slice a.font.c d.font.chars.length a.font.cc) := O2.box.cell 3 rfl
  have e8 : W.cell? ⟨g, 8, none⟩ = some (.slice a.font.s d.font.steps.length a.font.cs) := O2.box.cell 8 rfl
  have f3 := O2.box.free 3
  have f8 := O2.box.free 8
  clear O2 hbw2 hb22
  go_cut [3] (fun v wx => v = .pointer (some ⟨g, 0, none⟩) ∧ ∃ A3 n3 A8 n8, Box wx g (faceCells d (atC (atT a A15 n15) A3 n3 A8 n8)) 29 ∧ NRow charR g wx A3 d.font.chars ∧ NRow stepR g wx A8 d.font.steps ∧ OwnR g w wx d (atT a A15 n15))
  case first =>
    go_region_with (first
      | (go_at_call 37; with_reducible refine (HC3.out _ (by repeat (first | exact HQ.out | (with_reducible apply OwnR.drew) | (with_reducible refine OwnR.on ?_ (by assumption)) | (with_reducible refine OwnR.set ?_ _ _)))).mono ?_; rintro e wq ⟨A3, n3, rfl, N3, hb3⟩; (first | have B3 := (B8.set 8 _).below hb3 | have B3 := (B8.set 8 _).drew.below hb3 | have B3 := B8.below hb3 | have B3 := B8.drew.below hb3 | have B3 := BW.below hb3 | have B3 := BW.drew.below hb3 | have B3 := BW.drew.drew.below hb3); (first | have z3 := B3.cell 3 (v := .slice a.font.c d.font.chars.length a.font.cc) rfl | have z3 := B3.cell 3 rfl); (first | have z8 := B3.cell 8 (v := .slice a.font.s d.font.steps.length a.font.cs) rfl | have z8 := B3.cell 8 rfl); have y3 := B3.free 3; have y8 := B3.free 8)
      | (go_at_call 38; with_reducible refine (HC8.out _ (by repeat (first | exact HQ.out | (with_reducible apply OwnR.drew) | (with_reducible refine OwnR.on ?_ (by assumption)) | (with_reducible refine OwnR.set ?_ _ _)))).mono ?_; rintro e wq ⟨A8, n8, rfl, N8, hb8⟩; (first | have B8 := (B3.set 3 _).below hb8 | have B8 := (B3.set 3 _).drew.below hb8 | have B8 := B3.below hb8 | have B8 := B3.drew.below hb8 | have B8 := BW.below hb8 | have B8 := BW.drew.below hb8 | have B8 := BW.drew.drew.below hb8); (first | have z3 := B8.cell 3 (v := .slice a.font.c d.font.chars.length a.font.cc) rfl | have z3 := B8.cell 3 rfl); (first | have z8 := B8.cell 8 (v := .slice a.font.s d.font.steps.length a.font.cs) rfl | have z8 := B8.cell 8 rfl); have y3 := B8.free 3; have y8 := B8.free 8))
    all_goals (go_wp2_with fail; go_meet)
    all_goals
      refine ⟨rfl, A3, n3, A8, n8, ?_, ?_, ?_, ?_⟩
      · first
          | exact (B8.set 3 (.slice A3 d.font.chars.length n3)).set 8 (.slice A8 d.font.steps.length n8)
          | exact B8.set 8 (.slice A8 d.font.steps.length n8)
          | exact (B8.drew.set 3 (.slice A3 d.font.chars.length n3)).set 8 (.slice A8 d.font.steps.length n8)
          | exact B8.drew.set 8 (.slice A8 d.font.steps.length n8)
          | exact (B3.set 8 (.slice A8 d.font.steps.length n8)).set 3 (.slice A3 d.font.chars.length n3)
          | exact B3.set 3 (.slice A3 d.font.chars.length n3)
          | exact (B3.set 3 (.slice A3 d.font.chars.length n3)).set 8 (.slice A8 d.font.steps.length n8)
          | exact (B3.drew.set 3 (.slice A3 d.font.chars.length n3)).set 8 (.slice A8 d.font.steps.length n8)
      · repeat (first | exact N3 | (with_reducible refine NRow.set flat_char ?_ _ _) | (with_reducible apply NRow.drew) | (with_reducible refine NRow.below ?_ (by assumption)))
      · repeat (first | exact N8 | (with_reducible refine NRow.set flat_step ?_ _ _) | (with_reducible apply NRow.drew) | (with_reducible refine NRow.below ?_ (by assumption)))
      · repeat (first | exact HQ.out | (with_reducible apply OwnR.drew) | (with_reducible refine OwnR.on ?_ (by assumption)) | (with_reducible refine OwnR.set ?_ _ _))
  case rest =>
    rename World => wx
    obtain ⟨rfl, A3, n3, A8, n8, B, N3, N8, Q⟩ := hcut
    have O3 : OwnI g wx d (atC (atT a A15 n15) A3 n3 A8 n8) (initT a) := ⟨B, N3, N8, Q.traits, Q.tabs⟩
    have hz := Q.zero
    have hbwx := Q.below
    have hbp := Box.new wx #[.pointer (some ⟨g, 4, none⟩), .pointer (some ⟨g, 5, none⟩), .pointer (some ⟨g, 6, none⟩), .pointer (some ⟨g, 7, none⟩), .pointer (some ⟨g, 9, none⟩), .pointer (some ⟨g, 10, none⟩)] 89
    clear B N3 N8 Q HQ HC3 HC8 BW HO2 hg
    go_upto_region 4 with fail
    go_region
    have O4 := O3.below ((below_alloc (Below.refl wx.heap.size wx) (.cells #[.pointer (some ⟨g, 4, none⟩), .pointer (some ⟨g, 5, none⟩), .pointer (some ⟨g, 6, none⟩), .pointer (some ⟨g, 7, none⟩), .pointer (some ⟨g, 9, none⟩), .pointer (some ⟨g, 10, none⟩)] 89)).drew)
    have hz4 := (hz.alloc (.cells #[.pointer (some ⟨g, 4, none⟩), .pointer (some ⟨g, 5, none⟩), .pointer (some ⟨g, 6, none⟩), .pointer (some ⟨g, 7, none⟩), .pointer (some ⟨g, 9, none⟩), .pointer (some ⟨g, 10, none⟩)] 89)).drew
    have hp4 := hbp.drew
    have hw4 : Below g w ((wx.alloc (.cells #[.pointer (some ⟨g, 4, none⟩), .pointer (some ⟨g, 5, none⟩), .pointer (some ⟨g, 6, none⟩), .pointer (some ⟨g, 7, none⟩), .pointer (some ⟨g, 9, none⟩), .pointer (some ⟨g, 10, none⟩)] 89)).drew) := (hbwx.alloc (by have := O3.box.lt; omega) _).drew
    have hga : g + 1 < wx.heap.size := hz.lt
    clear O3 hz hbwx hbp
    generalize (wx.alloc (.cells #[.pointer (some ⟨g, 4, none⟩), .pointer (some ⟨g, 5, none⟩), .pointer (some ⟨g, 6, none⟩), .pointer (some ⟨g, 7, none⟩), .pointer (some ⟨g, 9, none⟩), .pointer (some ⟨g, 10, none⟩)] 89)).drew = W4 at *
    generalize wx.heap.size = ga at *
    generalize atC (atT a A15 n15) A3 n3 A8 n8 = aa at *
    generalize initT a = T0 at *
    clear wx
    go_wp2_with fail
    go_loopw [47] (fun i wr => ∃ (j : Nat) (T : Nat → Option Addr × Nat), j ≤ 6 ∧ i = .int .i64 (j : Int) ∧ Hid (OwnI g wr d aa T) ∧ Box wr (g + 1) z16 29 ∧ Box wr ga #[.pointer (some ⟨g, 4, none⟩), .pointer (some ⟨g, 5, none⟩), .pointer (some ⟨g, 6, none⟩), .pointer (some ⟨g, 7, none⟩), .pointer (some ⟨g, 9, none⟩), .pointer (some ⟨g, 10, none⟩)] 89 ∧ Below g w wr) (fun i _ => 6 - (intOf i).toNat)
    case atStart => exact ⟨0, T0, by omega, rfl, Lib.hid O4, hz4, hp4, hw4⟩
    case round =>
      rename World => wr
      obtain ⟨j, T, hj, rfl, HO, hzr, hpr, hwr⟩ := hrel
      by_cases hlt : j < 6
      · have kp := hpr.cell j (ptr_at g j hlt)
        have kc := HO.out.box.cell (offT j) (put_at d aa T j hlt)
        have kf := HO.out.box.free (offT j)
        have HCl := Lib.hid (clone_int (T j).1 (T j).2 (tabT d j) wr (HO.out.tabs j hlt).1 (by have := HS.out.2.2.2 j hlt; omega))
        have hzx := Lib.hid hzr
        have hpx := Lib.hid hpr
        have hwx := Lib.hid hwr
        obtain ⟨of, hof⟩ : ∃ o, Hid (offT j = o) := ⟨_, Lib.hid rfl⟩
        obtain ⟨n, hn⟩ : ∃ o, Hid ((tabT d j).length = o) := ⟨_, Lib.hid rfl⟩
        obtain ⟨AT, hAT⟩ : ∃ o, Hid ((T j).1 = o) := ⟨_, Lib.hid rfl⟩
        obtain ⟨nT, hnT⟩ : ∃ o, Hid ((T j).2 = o) := ⟨_, Lib.hid rfl⟩
        rw [hof.out] at kp kc kf
        rw [hn.out, hAT.out, hnT.out] at kc
        rw [hn.out, hAT.out, hnT.out] at HCl
        clear hzr hpr hwr O4 hz4 hp4 hw4
        go_wp2_with fail
        with_reducible refine HCl.out.mono ?_
        rintro e w5 ⟨A5, n5, rfl, hrow, hnew, hb⟩
        clear kp kc kf
        have O5 := HO.out.below hb
        have kc5 : w5.cell? ⟨g, of, none⟩ = some (.slice AT n nT) := by rw [← hof.out, ← hAT.out, ← hnT.out, ← hn.out]; exact O5.box.cell (offT j) (put_at d aa T j hlt)
        have kf5 : w5.frozen? ⟨g, of, none⟩ = false := O5.box.free of
        clear O5
        go_wp2_with fail
        go_roundw
        case rel =>
          have hz5 := hzx.out.below hb
          have hgl := hzx.out.lt
          refine ⟨j + 1, upT T j (A5, n5), by omega, by go_num, Lib.hid ?_, ?_, ?_, ?_⟩
          · rw [← hof.out, ← hn.out]
            exact HO.out.put hb hlt (NRow.new hrow hnew (by omega))
          · exact hz5.far (p := ⟨g, of, none⟩) (by show g + 1 ≠ g; omega) _
          · exact (hpx.out.below hb).far (p := ⟨g, of, none⟩) (by show ga ≠ g; omega) _
          · exact (hwx.out.trans (hb.mono (by omega))).setCell (p := ⟨g, of, none⟩) (Nat.le_refl g) _
        case measure => simp [intOf]; omega
      · have hj6 : j = 6 := by omega
        subst hj6
        have HF6 := Lib.hid (HO.out.faceR HFF.out)
        have hld := load_face HO.out.box
        have hzz := Lib.hid hzr
        generalize putT aa T = ax at *
        obtain ⟨fv, hfv⟩ : ∃ fv, Hid (faceV d ax = fv) := ⟨_, Lib.hid rfl⟩
        rw [hfv.out] at hld
        clear hzr hpr O4 hz4 hp4 hw4 hlt hj HO
        go_wp2_with (refine ld_law hld rfl _ rfl rfl ?_; (with_reducible refine wpList_stop ?_))
        refine Lib.hid ?_
        rw [← hfv.out]
        refine wpList_store_row rfl _ _ _ rfl (g + 1) (faceCells d ax) rfl rfl 29 z16 hzz.out (by kernel_rfl) rfl (by simp [Value.oneCell']) ?_
        go_wp2_with fail
        (try simp only [Exit.inBlock, Exit.then])
        refine bodyPost_ret (by exact results_cell_row (p := 2) rfl _ _ (g + 1) 29 _ (0, 0) _ rfl (setRow_heap wr (g + 1) z16 _ _ _ hzz.out) Tryz.underlying29 rfl (by kernel_rfl)) rfl ?_
        have hgg := HG.out
        refine ⟨ax, rfl, ?_, ?_⟩
        · exact HF6.out _
        · rw [hgg]
          exact ⟨hwr.os, hwr.tape, hwr.output, by simpa using hwr.size, fun k hk => (setRow_other wr (g + 1) k _ (by omega)).trans (hwr.block k hk)⟩
end Go.Proofs.YtndpdbofoojkhaaGreat.Ft
