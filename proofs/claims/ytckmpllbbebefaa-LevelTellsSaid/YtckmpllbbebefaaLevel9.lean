/- Faces with hidden values; few of each; the calls at the head of all statements. -/
import Derived.Test.YtckmpllbbebefaaLevel7
import Derived.Test.YtckmpllbbebefaaLevel8
namespace Go.Proofs.Ytckmpllbbebefaa.Lv
open Go.RowKit Go.Proofs.Ytckmpllbbebefaa.Kit Go.Proofs.Ytckmpllbbebefaa.Fo
set_option linter.unusedVariables false
set_option linter.unusedSimpArgs false

def fontF : FontD := { sum := 0, design := 1048576, first := 65, chars := [(1, 0, 0, 0, 0, 0)], widths := [0, 1048576], heights := [0], depths := [0], italics := [0], steps := [], kerns := [], params := [] }
def faceF : FaceD := { font := fontF, size := 1048576, step := 20, up := 2, down := 0, traits := [(65, 500, -10, 100)] }
def fontZ : FontD := { sum := 0, design := 0, first := 0, chars := [], widths := [], heights := [], depths := [], italics := [], steps := [], kerns := [], params := [] }
def faceZ : FaceD := { font := fontZ, size := 0, step := 0, up := 0, down := 0, traits := [] }
def fontAZ : FontA := { c := none, w := none, h := none, d := none, i := none, s := none, k := none, p := none, cc := 0, cw := 0, ch := 0, cd := 0, ci := 0, cs := 0, ck := 0, cp := 0 }
def faceAZ : FaceA := { font := fontAZ, t := none, ct := 0 }
theorem row_nil {α : Type} (R : Rep α) (w : World) (B : Nat) (A : Option Addr) : Row R w B A [] := fun i x hx => by simp at hx
theorem zero_in (w : World) (B : Nat) : FaceIn w B faceZ faceAZ :=
  ⟨⟨by decide, by decide, by decide, row_nil _ _ _ _, row_nil _ _ _ _, row_nil _ _ _ _, row_nil _ _ _ _, row_nil _ _ _ _, row_nil _ _ _ _, row_nil _ _ _ _, row_nil _ _ _ _, by decide, by decide, by decide, by decide, by decide, by decide, by decide, by decide⟩, by decide, by decide, by decide, by decide, row_nil _ _ _ _, by decide⟩
theorem width_1 : widthV faceF 65 5 = (1069547, 0) := by decide +kernel
theorem width_2 : widthV faceF 65 (-5) = (1048576, 0) := by decide +kernel
theorem kern_1 : kernV faceF (-1000) 2 = (-1040, 0) := by decide +kernel
theorem edges_1 : edgesV faceF 65 0 = (-10486, 104857, 0) := by decide +kernel
theorem width_3 : widthV faceF 66 0 = (0, 80) := by decide +kernel
theorem kern_2 : kernV faceF 16777216 0 = (0, 90) := by decide +kernel
theorem edges_2 : edgesV faceZ 65 0 = (0, 0, 90) := by decide +kernel
theorem face_1 : faceB faceF = true := by decide +kernel
theorem face_2 : faceB faceZ = false := by decide +kernel
theorem clamp_1 : clampP faceF 5 = 2 := by decide +kernel
theorem clamp_2 : clampP faceF (-5) = 0 := by decide +kernel

abbrev litCells (g : Nat) : Array Value := #[.int .i64 0, .int .i64 1048576, .int .i64 65, .slice (some ⟨g, 0, none⟩) 1 1, .slice (some ⟨g + 1, 0, none⟩) 2 2, .slice (some ⟨g + 1 + 1, 0, none⟩) 1 1, .slice (some ⟨g + 1 + 1 + 1, 0, none⟩) 1 1, .slice (some ⟨g + 1 + 1 + 1 + 1, 0, none⟩) 1 1, .slice none 0 0, .slice none 0 0, .slice none 0 0, .int .i64 1048576, .int .i64 20, .int .i64 2, .int .i64 0, .slice (some ⟨g + 1 + 1 + 1 + 1 + 1, 0, none⟩) 1 1]
abbrev litV (g : Nat) : Value := .agg #[.int .i64 0, .int .i64 1048576, .int .i64 65, .slice (some ⟨g, 0, none⟩) 1 1, .slice (some ⟨g + 1, 0, none⟩) 2 2, .slice (some ⟨g + 1 + 1, 0, none⟩) 1 1, .slice (some ⟨g + 1 + 1 + 1, 0, none⟩) 1 1, .slice (some ⟨g + 1 + 1 + 1 + 1, 0, none⟩) 1 1, .slice none 0 0, .slice none 0 0, .slice none 0 0, .int .i64 1048576, .int .i64 20, .int .i64 2, .int .i64 0, .slice (some ⟨g + 1 + 1 + 1 + 1 + 1, 0, none⟩) 1 1]
abbrev litZ : Value := .agg #[.int .i64 0, .int .i64 0, .int .i64 0, .slice none 0 0, .slice none 0 0, .slice none 0 0, .slice none 0 0, .slice none 0 0, .slice none 0 0, .slice none 0 0, .slice none 0 0, .int .i64 0, .int .i64 0, .int .i64 0, .int .i64 0, .slice none 0 0]
def faceA (g : Nat) : FaceA := { font := { c := some ⟨g, 0, none⟩, w := some ⟨g + 1, 0, none⟩, h := some ⟨g + 1 + 1, 0, none⟩, d := some ⟨g + 1 + 1 + 1, 0, none⟩, i := some ⟨g + 1 + 1 + 1 + 1, 0, none⟩, s := none, k := none, p := none, cc := 1, cw := 2, ch := 1, cd := 1, ci := 1, cs := 0, ck := 0, cp := 0 }, t := some ⟨g + 1 + 1 + 1 + 1 + 1, 0, none⟩, ct := 1 }
theorem lit_face (g : Nat) : litV g = faceV faceF (faceA g) := rfl
theorem lit_zero : litZ = faceV faceZ faceAZ := rfl
theorem lit_cells {w : World} {x g : Nat} {t : TypeId} (h : Box w x (litCells g) t) : w.cell? ⟨x, 0, none⟩ = some (.int .i64 0) ∧ w.cell? ⟨x, 1, none⟩ = some (.int .i64 1048576) ∧ w.cell? ⟨x, 2, none⟩ = some (.int .i64 65) ∧ w.cell? ⟨x, 3, none⟩ = some (.slice (some ⟨g, 0, none⟩) 1 1) ∧ w.cell? ⟨x, 4, none⟩ = some (.slice (some ⟨g + 1, 0, none⟩) 2 2) ∧ w.cell? ⟨x, 5, none⟩ = some (.slice (some ⟨g + 1 + 1, 0, none⟩) 1 1) ∧ w.cell? ⟨x, 6, none⟩ = some (.slice (some ⟨g + 1 + 1 + 1, 0, none⟩) 1 1) ∧ w.cell? ⟨x, 7, none⟩ = some (.slice (some ⟨g + 1 + 1 + 1 + 1, 0, none⟩) 1 1) ∧ w.cell? ⟨x, 8, none⟩ = some (.slice none 0 0) ∧ w.cell? ⟨x, 9, none⟩ = some (.slice none 0 0) ∧ w.cell? ⟨x, 10, none⟩ = some (.slice none 0 0) ∧ w.cell? ⟨x, 11, none⟩ = some (.int .i64 1048576) ∧ w.cell? ⟨x, 12, none⟩ = some (.int .i64 20) ∧ w.cell? ⟨x, 13, none⟩ = some (.int .i64 2) ∧ w.cell? ⟨x, 14, none⟩ = some (.int .i64 0) ∧ w.cell? ⟨x, 15, none⟩ = some (.slice (some ⟨g + 1 + 1 + 1 + 1 + 1, 0, none⟩) 1 1) := ⟨h.cell 0 rfl, h.cell 1 rfl, h.cell 2 rfl, h.cell 3 rfl, h.cell 4 rfl, h.cell 5 rfl, h.cell 6 rfl, h.cell 7 rfl, h.cell 8 rfl, h.cell 9 rfl, h.cell 10 rfl, h.cell 11 rfl, h.cell 12 rfl, h.cell 13 rfl, h.cell 14 rfl, h.cell 15 rfl⟩
theorem ints_box {k : IntKind} {w : World} {g : Nat} {cs : Array Value} {t : TypeId} (xs : List Int) (h : Box w g cs t) (hw : ∀ x ∈ xs, (Lit.int k x).wf = true) (hc : cs = (xs.map fun x => Value.int k x).toArray) : Row (Rep.int k) w w.heap.size (some ⟨g, 0, none⟩) xs := by
  intro i x hx
  refine ⟨g, 0, [.int k x], rfl, h.lt, ⟨rfl, hw x (List.mem_of_getElem? hx)⟩, fun j v hv => ?_⟩
  obtain ⟨hj, rfl⟩ := List.getElem?_eq_some_iff.1 hv
  have hj0 : j = 0 := by simp at hj; exact hj
  subst hj0
  refine h.cell _ ?_
  subst hc
  simp [show (Rep.int k).n = 1 from rfl, hx]
theorem char_box {w : World} {g : Nat} {t : TypeId} {a b c d e f : Int} (h : Box w g #[.int .i64 a, .int .i64 b, .int .i64 c, .int .i64 d, .int .i64 e, .int .i64 f] t) (hw : (Lit.int .i64 a).wf = true ∧ (Lit.int .i64 b).wf = true ∧ (Lit.int .i64 c).wf = true ∧ (Lit.int .i64 d).wf = true ∧ (Lit.int .i64 e).wf = true ∧ (Lit.int .i64 f).wf = true) :
    Row charR w w.heap.size (some ⟨g, 0, none⟩) [(a, b, c, d, e, f)] := by
  intro i x hx
  obtain ⟨hi, rfl⟩ := List.getElem?_eq_some_iff.1 hx
  have hi0 : i = 0 := by simp at hi; exact hi
  subst hi0
  refine ⟨g, 0, [.int .i64 a, .int .i64 b, .int .i64 c, .int .i64 d, .int .i64 e, .int .i64 f], rfl, h.lt, ⟨[_], _, rfl, ⟨rfl, hw.1⟩, [_], _, rfl, ⟨rfl, hw.2.1⟩, [_], _, rfl, ⟨rfl, hw.2.2.1⟩, [_], _, rfl, ⟨rfl, hw.2.2.2.1⟩, [_], _, rfl, ⟨rfl, hw.2.2.2.2.1⟩, rfl, hw.2.2.2.2.2⟩, fun j v hv => ?_⟩
  rw [Nat.zero_add, Nat.zero_mul, Nat.zero_add]
  exact h.cell j (by simpa using hv)
theorem trait_box {w : World} {g : Nat} {t : TypeId} {a b c d : Int} (h : Box w g #[.int .i64 a, .int .i64 b, .int .i64 c, .int .i64 d] t) (hw : (Lit.int .i64 a).wf = true ∧ (Lit.int .i64 b).wf = true ∧ (Lit.int .i64 c).wf = true ∧ (Lit.int .i64 d).wf = true) :
    Row traitR w w.heap.size (some ⟨g, 0, none⟩) [(a, b, c, d)] := by
  intro i x hx
  obtain ⟨hi, rfl⟩ := List.getElem?_eq_some_iff.1 hx
  have hi0 : i = 0 := by simp at hi; exact hi
  subst hi0
  refine ⟨g, 0, [.int .i64 a, .int .i64 b, .int .i64 c, .int .i64 d], rfl, h.lt, ⟨[_], _, rfl, ⟨rfl, hw.1⟩, [_], _, rfl, ⟨rfl, hw.2.1⟩, [_], _, rfl, ⟨rfl, hw.2.2.1⟩, rfl, hw.2.2.2⟩, fun j v hv => ?_⟩
  rw [Nat.zero_add, Nat.zero_mul, Nat.zero_add]
  exact h.cell j (by simpa using hv)
theorem lit_in {W : World} {g : Nat} (q0 : Box W g #[.int .i64 1, .int .i64 0, .int .i64 0, .int .i64 0, .int .i64 0, .int .i64 0] 47) (q1 : Box W (g + 1) #[.int .i64 0, .int .i64 1048576] 3) (q2 : Box W (g + 1 + 1) #[.int .i64 0] 3) (q3 : Box W (g + 1 + 1 + 1) #[.int .i64 0] 3) (q4 : Box W (g + 1 + 1 + 1 + 1) #[.int .i64 0] 3) (q5 : Box W (g + 1 + 1 + 1 + 1 + 1) #[.int .i64 65, .int .i64 500, .int .i64 (-10), .int .i64 100] 42) :
    FaceIn W W.heap.size faceF (faceA g) := by
  have r0 := char_box q0 (by decide)
  have r1 := ints_box (k := .i64) [0, 1048576] q1 (by decide) rfl
  have r2 := ints_box (k := .i64) [0] q2 (by decide) rfl
  have r3 := ints_box (k := .i64) [0] q3 (by decide) rfl
  have r4 := ints_box (k := .i64) [0] q4 (by decide) rfl
  have r5 := trait_box q5 (by decide)
  exact ⟨⟨by decide, by decide, by decide, r0, r1, r2, r3, r4, row_nil _ _ _ _, row_nil _ _ _ _, row_nil _ _ _ _, by simp [faceF, fontF], by simp [faceF, fontF], by simp [faceF, fontF], by simp [faceF, fontF], by simp [faceF, fontF], by simp [faceF, fontF], by simp [faceF, fontF], by simp [faceF, fontF]⟩, by decide, by decide, by decide, by decide, r5, by simp [faceF, fontF]⟩
theorem load_face {W : World} {g : Nat} {d : FaceD} {a : FaceA} (h : Box W g (faceCells d a) 29) : (Instr.loadAt 29 (.pointer (some ⟨g, 0, none⟩))).run Try.prog W = .ok (faceV d a) W :=
  run_loadAt_mid W g 0 29 (faceL d a) _ (rangeAt_box h) Try.underlying29 rfl (by kernel_rfl)
theorem ld_law {ops : Array Oper} {rest : List Oper} {op : Oper} {a : Act} {w : World} {Q : Exit → Act → World → Prop} {g : Nat} {fv : Value} (hld : (Instr.loadAt 29 (.pointer (some ⟨g, 0, none⟩))).run Try.prog w = .ok fv w) (hgd : op.guard = none) (x : Operand) (ho : op.op = .load 29 x)
    (hx : a.eval x = .pointer (some ⟨g, 0, none⟩)) (h : wpList Try.prog ops Q rest (a.put op.dst fv) w) : wpList Try.prog ops Q (op :: rest) a w :=
  wpList_plain hgd fun _ hK => by
    unfold Oper.wp execOp
    simp only [ho, hx, Sem.run_bind, hld, Sem.run_pure, Result.andThen_ok]
    exact hK _ _ h
theorem width_c {d : FaceD} {a : FaceA} {code n v e : Int} (hv : widthV d code n = (v, e)) (w : World) {B : Nat} (hB : B ≤ w.heap.size) (hF : FaceIn w B d a) (hc : (Lit.int .i64 code).wf = true) :
    Calls Try.prog 11 #[faceV d a, .int .i64 code, .int .i64 n] w fun r w' => r = .returned (.tuple #[.int .i64 v, .int .i64 e]) ∧ Below w.heap.size w w' := by
  have := width_any d a code n w hB hF hc
  rwa [hv] at this
theorem kern_c {d : FaceD} {a : FaceA} {x n v e : Int} (hv : kernV d x n = (v, e)) (w : World) {B : Nat} (hB : B ≤ w.heap.size) (hF : FaceIn w B d a) :
    Calls Try.prog 13 #[faceV d a, .int .i64 x, .int .i64 n] w fun r w' => r = .returned (.tuple #[.int .i64 v, .int .i64 e]) ∧ Below w.heap.size w w' := by
  have := kern_any d a x n w hB hF
  rwa [hv] at this
theorem edges_c {d : FaceD} {a : FaceA} {code n u v e : Int} (hv : edgesV d code n = (u, v, e)) (w : World) {B : Nat} (hB : B ≤ w.heap.size) (hF : FaceIn w B d a) (hc : (Lit.int .i64 code).wf = true) :
    Calls Try.prog 15 #[faceV d a, .int .i64 code, .int .i64 n] w fun r w' => r = .returned (.tuple #[.int .i64 u, .int .i64 v, .int .i64 e]) ∧ Below w.heap.size w w' := by
  have := edges_any d a code n w hB hF hc
  rwa [hv] at this
theorem face_c {d : FaceD} {a : FaceA} {b : Bool} (hv : faceB d = b) (w : World) {B : Nat} (hB : B ≤ w.heap.size) (hF : FaceIn w B d a) :
    Calls Try.prog 17 #[faceV d a] w fun r w' => r = .returned (.bool b) ∧ Below w.heap.size w w' := by
  have := face_any d a w hB hF
  rwa [hv] at this
theorem clamp_c {d : FaceD} {a : FaceA} {n v : Int} (hv : (if faceB d then clampP d n else 0) = v) (w : World) {B : Nat} (hB : B ≤ w.heap.size) (hF : FaceIn w B d a) :
    Calls Try.prog 19 #[faceV d a, .int .i64 n] w fun r w' => r = .returned (.int .i64 v) ∧ Below w.heap.size w w' := by
  have := Clamp_any d a n w hB hF
  rwa [hv] at this

set_option maxRecDepth 100000 in
set_option maxHeartbeats 4000000 in
theorem awake_any (w : World) : Calls Try.prog 9 #[] w fun e w' => e = .returned (.bool true) ∧ Below w.heap.size w w' := by
  have q0 := (((((((Box.new w #[.int .i64 1, .int .i64 0, .int .i64 0, .int .i64 0, .int .i64 0, .int .i64 0] 47).alloc (.cells #[.int .i64 0, .int .i64 1048576] 3)).alloc (.cells #[.int .i64 0] 3)).alloc (.cells #[.int .i64 0] 3)).alloc (.cells #[.int .i64 0] 3)).alloc (.cells #[.int .i64 65, .int .i64 500, .int .i64 (-10), .int .i64 100] 42)).alloc (.cells (litCells w.heap.size) 29))
  have q1 := ((((((Box.new (w.alloc (.cells #[.int .i64 1, .int .i64 0, .int .i64 0, .int .i64 0, .int .i64 0, .int .i64 0] 47)) #[.int .i64 0, .int .i64 1048576] 3).alloc (.cells #[.int .i64 0] 3)).alloc (.cells #[.int .i64 0] 3)).alloc (.cells #[.int .i64 0] 3)).alloc (.cells #[.int .i64 65, .int .i64 500, .int .i64 (-10), .int .i64 100] 42)).alloc (.cells (litCells w.heap.size) 29))
  have q2 := (((((Box.new ((w.alloc (.cells #[.int .i64 1, .int .i64 0, .int .i64 0, .int .i64 0, .int .i64 0, .int .i64 0] 47)).alloc (.cells #[.int .i64 0, .int .i64 1048576] 3)) #[.int .i64 0] 3).alloc (.cells #[.int .i64 0] 3)).alloc (.cells #[.int .i64 0] 3)).alloc (.cells #[.int .i64 65, .int .i64 500, .int .i64 (-10), .int .i64 100] 42)).alloc (.cells (litCells w.heap.size) 29))
  have q3 := ((((Box.new (((w.alloc (.cells #[.int .i64 1, .int .i64 0, .int .i64 0, .int .i64 0, .int .i64 0, .int .i64 0] 47)).alloc (.cells #[.int .i64 0, .int .i64 1048576] 3)).alloc (.cells #[.int .i64 0] 3)) #[.int .i64 0] 3).alloc (.cells #[.int .i64 0] 3)).alloc (.cells #[.int .i64 65, .int .i64 500, .int .i64 (-10), .int .i64 100] 42)).alloc (.cells (litCells w.heap.size) 29))
  have q4 := (((Box.new ((((w.alloc (.cells #[.int .i64 1, .int .i64 0, .int .i64 0, .int .i64 0, .int .i64 0, .int .i64 0] 47)).alloc (.cells #[.int .i64 0, .int .i64 1048576] 3)).alloc (.cells #[.int .i64 0] 3)).alloc (.cells #[.int .i64 0] 3)) #[.int .i64 0] 3).alloc (.cells #[.int .i64 65, .int .i64 500, .int .i64 (-10), .int .i64 100] 42)).alloc (.cells (litCells w.heap.size) 29))
  have q5 := ((Box.new (((((w.alloc (.cells #[.int .i64 1, .int .i64 0, .int .i64 0, .int .i64 0, .int .i64 0, .int .i64 0] 47)).alloc (.cells #[.int .i64 0, .int .i64 1048576] 3)).alloc (.cells #[.int .i64 0] 3)).alloc (.cells #[.int .i64 0] 3)).alloc (.cells #[.int .i64 0] 3)) #[.int .i64 65, .int .i64 500, .int .i64 (-10), .int .i64 100] 42).alloc (.cells (litCells w.heap.size) 29))
  have q6 := (Box.new ((((((w.alloc (.cells #[.int .i64 1, .int .i64 0, .int .i64 0, .int .i64 0, .int .i64 0, .int .i64 0] 47)).alloc (.cells #[.int .i64 0, .int .i64 1048576] 3)).alloc (.cells #[.int .i64 0] 3)).alloc (.cells #[.int .i64 0] 3)).alloc (.cells #[.int .i64 0] 3)).alloc (.cells #[.int .i64 65, .int .i64 500, .int .i64 (-10), .int .i64 100] 42)) (litCells w.heap.size) 29)
  have hw : Below w.heap.size w (((((((w.alloc (.cells #[.int .i64 1, .int .i64 0, .int .i64 0, .int .i64 0, .int .i64 0, .int .i64 0] 47)).alloc (.cells #[.int .i64 0, .int .i64 1048576] 3)).alloc (.cells #[.int .i64 0] 3)).alloc (.cells #[.int .i64 0] 3)).alloc (.cells #[.int .i64 0] 3)).alloc (.cells #[.int .i64 65, .int .i64 500, .int .i64 (-10), .int .i64 100] 42)).alloc (.cells (litCells w.heap.size) 29)) := by repeat (first | (with_reducible exact Below.refl _ _) | (with_reducible apply below_alloc))
  simp only [World.size_alloc] at q1 q2 q3 q4 q5 q6
  obtain ⟨W, hW⟩ : ∃ W, (((((((w.alloc (.cells #[.int .i64 1, .int .i64 0, .int .i64 0, .int .i64 0, .int .i64 0, .int .i64 0] 47)).alloc (.cells #[.int .i64 0, .int .i64 1048576] 3)).alloc (.cells #[.int .i64 0] 3)).alloc (.cells #[.int .i64 0] 3)).alloc (.cells #[.int .i64 0] 3)).alloc (.cells #[.int .i64 65, .int .i64 500, .int .i64 (-10), .int .i64 100] 42)).alloc (.cells (litCells w.heap.size) 29)) = W := ⟨_, rfl⟩
  rw [hW] at q0 q1 q2 q3 q4 q5 q6 hw
  obtain ⟨fv, hfv⟩ : ∃ v, faceV faceF (faceA w.heap.size) = v := ⟨_, rfl⟩
  have hF : FaceIn W W.heap.size faceF (faceA w.heap.size) := lit_in q0 q1 q2 q3 q4 q5
  have h1 : Hid (∀ V, Below W.heap.size W V → Calls Try.prog 11 #[fv, .int .i64 65, .int .i64 5] V fun e w' => e = .returned (.tuple #[.int .i64 1069547, .int .i64 0]) ∧ Below V.heap.size V w') := Lib.hid fun V hb => by rw [← hfv]; exact width_c width_1 V hb.size (hF.mono hb) (by decide)
  have h2 : Hid (∀ V, Below W.heap.size W V → Calls Try.prog 11 #[fv, .int .i64 65, .int .i64 (-5)] V fun e w' => e = .returned (.tuple #[.int .i64 1048576, .int .i64 0]) ∧ Below V.heap.size V w') := Lib.hid fun V hb => by rw [← hfv]; exact width_c width_2 V hb.size (hF.mono hb) (by decide)
  have h3 : Hid (∀ V, Below W.heap.size W V → Calls Try.prog 13 #[fv, .int .i64 (-1000), .int .i64 2] V fun e w' => e = .returned (.tuple #[.int .i64 (-1040), .int .i64 0]) ∧ Below V.heap.size V w') := Lib.hid fun V hb => by rw [← hfv]; exact kern_c kern_1 V hb.size (hF.mono hb)
  have h4 : Hid (∀ V, Below W.heap.size W V → Calls Try.prog 15 #[fv, .int .i64 65, .int .i64 0] V fun e w' => e = .returned (.tuple #[.int .i64 (-10486), .int .i64 104857, .int .i64 0]) ∧ Below V.heap.size V w') := Lib.hid fun V hb => by rw [← hfv]; exact edges_c edges_1 V hb.size (hF.mono hb) (by decide)
  have h5 : Hid (∀ V, Below W.heap.size W V → Calls Try.prog 11 #[fv, .int .i64 66, .int .i64 0] V fun e w' => e = .returned (.tuple #[.int .i64 0, .int .i64 80]) ∧ Below V.heap.size V w') := Lib.hid fun V hb => by rw [← hfv]; exact width_c width_3 V hb.size (hF.mono hb) (by decide)
  have h6 : Hid (∀ V, Below W.heap.size W V → Calls Try.prog 13 #[fv, .int .i64 16777216, .int .i64 0] V fun e w' => e = .returned (.tuple #[.int .i64 0, .int .i64 90]) ∧ Below V.heap.size V w') := Lib.hid fun V hb => by rw [← hfv]; exact kern_c kern_2 V hb.size (hF.mono hb)
  have h7 : Hid (∀ V, Below W.heap.size W V → Calls Try.prog 15 #[litZ, .int .i64 65, .int .i64 0] V fun e w' => e = .returned (.tuple #[.int .i64 0, .int .i64 0, .int .i64 90]) ∧ Below V.heap.size V w') := Lib.hid fun V hb => by rw [lit_zero]; exact edges_c edges_2 V (Nat.le_refl _) (zero_in _ _) (by decide)
  have h8 : Hid (∀ V, Below W.heap.size W V → Calls Try.prog 17 #[litV w.heap.size] V fun e w' => e = .returned (.bool true) ∧ Below V.heap.size V w') := Lib.hid fun V hb => by rw [lit_face]; exact face_c face_1 V hb.size (hF.mono hb)
  have h9 : Hid (∀ V, Below W.heap.size W V → Calls Try.prog 17 #[litZ] V fun e w' => e = .returned (.bool false) ∧ Below V.heap.size V w') := Lib.hid fun V hb => by rw [lit_zero]; exact face_c face_2 V (Nat.le_refl _) (zero_in _ _)
  have h10 : Hid (∀ V, Below W.heap.size W V → Calls Try.prog 19 #[litV w.heap.size, .int .i64 5] V fun e w' => e = .returned (.int .i64 2) ∧ Below V.heap.size V w') := Lib.hid fun V hb => by rw [lit_face]; exact clamp_c (by rw [face_1, clamp_1]; rfl) V hb.size (hF.mono hb)
  have h11 : Hid (∀ V, Below W.heap.size W V → Calls Try.prog 19 #[litV w.heap.size, .int .i64 (-5)] V fun e w' => e = .returned (.int .i64 0) ∧ Below V.heap.size V w') := Lib.hid fun V hb => by rw [lit_face]; exact clamp_c (by rw [face_1, clamp_2]; rfl) V hb.size (hF.mono hb)
  have HLd : Hid (∀ V, Below W.heap.size W V → (Instr.loadAt 29 (.pointer (some ⟨w.heap.size + 1 + 1 + 1 + 1 + 1 + 1, 0, none⟩))).run Try.prog V = .ok fv V) := Lib.hid fun V hb => by rw [← hfv]; exact load_face (q6.below hb)
  clear hF q0 q1 q2 q3 q4 q5 hfv
  go_enter Try.func9, Try.ntmps9
  go_upto_region 3 with fail
  try rw [hW]
  clear hW
  have b0 : Below W.heap.size W W := Below.refl _ _
  have ld := HLd.out W b0
  go_wp2_with (refine ld_law ld rfl _ rfl rfl ?_)
  with_reducible refine (h1.out _ b0).mono ?_; rintro e w1 ⟨rfl, hb⟩
  have b1 := below_join b0 hb
  replace q6 := q6.below hb
  clear hb b0 h1 ld
  have ld := HLd.out _ b1
  go_wp2_with (refine ld_law ld rfl _ rfl rfl ?_)
  with_reducible refine (h2.out _ b1).mono ?_; rintro e w2 ⟨rfl, hb⟩
  have b2 := below_join b1 hb
  replace q6 := q6.below hb
  clear hb b1 h2 ld
  have ld := HLd.out _ b2
  go_wp2_with (refine ld_law ld rfl _ rfl rfl ?_)
  with_reducible refine (h3.out _ b2).mono ?_; rintro e w3 ⟨rfl, hb⟩
  have b3 := below_join b2 hb
  replace q6 := q6.below hb
  clear hb b2 h3 ld
  have ld := HLd.out _ b3
  go_wp2_with (refine ld_law ld rfl _ rfl rfl ?_)
  with_reducible refine (h4.out _ b3).mono ?_; rintro e w4 ⟨rfl, hb⟩
  have b4 := below_join b3 hb
  replace q6 := q6.below hb
  clear hb b3 h4 ld
  have ld := HLd.out _ b4
  go_wp2_with (refine ld_law ld rfl _ rfl rfl ?_)
  with_reducible refine (h5.out _ b4).mono ?_; rintro e w5 ⟨rfl, hb⟩
  have b5 := below_join b4 hb
  replace q6 := q6.below hb
  clear hb b4 h5 ld
  have ld := HLd.out _ b5
  go_wp2_with (refine ld_law ld rfl _ rfl rfl ?_)
  with_reducible refine (h6.out _ b5).mono ?_; rintro e w6 ⟨rfl, hb⟩
  have b6 := below_join b5 hb
  replace q6 := q6.below hb
  clear hb b5 h6 ld
  have ld := HLd.out _ b6
  go_wp2_with (refine ld_law ld rfl _ rfl rfl ?_)
  with_reducible refine (h7.out _ b6).mono ?_; rintro e w7 ⟨rfl, hb⟩
  have b7 := below_join b6 hb
  replace q6 := q6.below hb
  clear hb b6 h7 ld HLd
  obtain ⟨c0, c1, c2, c3, c4, c5, c6, c7, c8, c9, c10, c11, c12, c13, c14, c15⟩ := lit_cells q6
  go_wp2_with fail
  with_reducible refine (h8.out _ b7).mono ?_; rintro e w8 ⟨rfl, hb⟩
  have b8 := below_join b7 hb
  replace q6 := q6.below hb
  clear hb c0 c1 c2 c3 c4 c5 c6 c7 c8 c9 c10 c11 c12 c13 c14 c15 b7 h8
  obtain ⟨c0, c1, c2, c3, c4, c5, c6, c7, c8, c9, c10, c11, c12, c13, c14, c15⟩ := lit_cells q6
  go_wp2_with fail
  with_reducible refine (h9.out _ b8).mono ?_; rintro e w9 ⟨rfl, hb⟩
  have b9 := below_join b8 hb
  replace q6 := q6.below hb
  clear hb c0 c1 c2 c3 c4 c5 c6 c7 c8 c9 c10 c11 c12 c13 c14 c15 b8 h9
  obtain ⟨c0, c1, c2, c3, c4, c5, c6, c7, c8, c9, c10, c11, c12, c13, c14, c15⟩ := lit_cells q6
  go_wp2_with fail
  with_reducible refine (h10.out _ b9).mono ?_; rintro e w10 ⟨rfl, hb⟩
  have b10 := below_join b9 hb
  replace q6 := q6.below hb
  clear hb c0 c1 c2 c3 c4 c5 c6 c7 c8 c9 c10 c11 c12 c13 c14 c15 b9 h10
  obtain ⟨c0, c1, c2, c3, c4, c5, c6, c7, c8, c9, c10, c11, c12, c13, c14, c15⟩ := lit_cells q6
  go_wp2_with fail
  with_reducible refine (h11.out _ b10).mono ?_; rintro e w11 ⟨rfl, hb⟩
  have b11 := below_join b10 hb
  replace q6 := q6.below hb
  clear hb c0 c1 c2 c3 c4 c5 c6 c7 c8 c9 c10 c11 c12 c13 c14 c15 b10 h11
  obtain ⟨c0, c1, c2, c3, c4, c5, c6, c7, c8, c9, c10, c11, c12, c13, c14, c15⟩ := lit_cells q6
  go_wp2_with fail
  go_ret
  exact ⟨rfl, below_join hw b11⟩
end Go.Proofs.Ytckmpllbbebefaa.Lv
