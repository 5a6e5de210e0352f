/- Fonts as plain data: what may be one, its steps, its ligatures. -/
import Derived.Test.YtndpdbofoojkhaaKit
namespace Go.Proofs.Ytndpdbofoojkhaa.Fo
open Go.Proofs.Ytndpdbofoojkhaa.Kit
set_option linter.unusedVariables false
set_option linter.unusedSimpArgs false

abbrev CharT := Int × Int × Int × Int × Int × Int
abbrev StepT := Int × Int × Int × Int
abbrev charR : Rep CharT := Rep.seq (Rep.int .i64) (Rep.seq (Rep.int .i64) (Rep.seq (Rep.int .i64) (Rep.seq (Rep.int .i64) (Rep.seq (Rep.int .i64) (Rep.int .i64)))))
abbrev stepR : Rep StepT := Rep.seq (Rep.int .i64) (Rep.seq (Rep.int .i64) (Rep.seq (Rep.int .i64) (Rep.int .i64)))
structure FontD where
  sum : Int
  design : Int
  first : Int
  chars : List CharT
  widths : List Int
  heights : List Int
  depths : List Int
  italics : List Int
  steps : List StepT
  kerns : List Int
  params : List Int

def ofB (n m : Int) : Bool := decide (0 ≤ n) && decide (n < m)
def fixB (n : Int) : Bool := decide (-16777216 ≤ n) && decide (n < 16777216)
def tableB (l : List Int) (least most : Int) : Bool := decide (least ≤ l.length) && decide ((l.length : Int) ≤ most) && !(l.any fun n => !fixB n) && (decide (least = 0) || decide (l.getD 0 0 = 0))
def tagB (d : FontD) (c : CharT) : Bool := (decide (c.2.2.2.2.1 = 0) && decide (c.2.2.2.2.2 = 0)) || (decide (c.2.2.2.2.1 = 1) && ofB c.2.2.2.2.2 d.steps.length)
def charB (d : FontD) (c : CharT) : Bool := tagB d c && ofB c.1 d.widths.length && ofB c.2.1 d.heights.length && ofB c.2.2.1 d.depths.length && ofB c.2.2.2.1 d.italics.length
def stepB (s : StepT) : Bool := !([s.1, s.2.1, s.2.2.1, s.2.2.2].any fun n => !ofB n 256)
def headB (d : FontD) : Bool := ofB d.sum 4294967296 && decide (1048576 ≤ d.design) && decide (d.design < 2147483648) && ofB d.first 256
def manyB (d : FontD) : Bool := decide (1 ≤ d.chars.length) && decide ((d.chars.length : Int) ≤ 256 - d.first) && decide (d.steps.length ≤ 256)
def tfmB (d : FontD) : Bool := headB d && manyB d && (tableB d.widths 1 256 && tableB d.heights 1 16 && tableB d.depths 1 16 && tableB d.italics 1 64) && (tableB d.kerns 0 256 && tableB d.params 0 30) && !(d.chars.any fun c => !charB d c) && !(d.steps.any fun s => !stepB s)
def widthOf (d : FontD) (code : Int) : Int := (d.chars.getD (code - d.first).toNat (0, 0, 0, 0, 0, 0)).1
def hasB (d : FontD) (code : Int) : Bool := decide (d.first ≤ code) && decide (code < d.first + d.chars.length) && decide (0 < widthOf d code)

/-- Steps from a place on, at most so many; one that is not there has the place -1. -/
def stepsFrom (l : List StepT) : Nat → Nat → List (Int × StepT)
  | 0, _ => []
  | n + 1, k => match l[k]? with
    | none => [(-1, (0, 0, 0, 0))]
    | some s => ((k : Int), s) :: (if 128 ≤ s.1 then [] else stepsFrom l n (k + s.1.toNat + 1))
def stepsOf (d : FontD) (c : CharT) : List (Int × StepT) := if c.2.2.2.2.1 = 1 then stepsFrom d.steps (d.steps.length + 1) c.2.2.2.2.2.toNat else []
theorem from_len (l : List StepT) : ∀ (n k : Nat), (stepsFrom l n k).length ≤ n
  | 0, _ => by simp [stepsFrom]
  | n + 1, k => by
    unfold stepsFrom
    split
    · simp
    · rename_i s hs
      split
      · simp
      · simp; exact from_len l n _
theorem steps_len (d : FontD) (c : CharT) : (stepsOf d c).length ≤ d.steps.length + 1 := by
  unfold stepsOf
  split
  · exact from_len _ _ _
  · simp
abbrev LigT := Int × Int × Int
/-- Whether a step is none that may be. -/
def wrongB (d : FontD) (k : Int) (s : StepT) : Bool := decide (k < 0) || (decide (0 < s.2.2.1) && (decide (s.2.2.1 < 128) || decide ((d.kerns.length : Int) ≤ 256 * (s.2.2.1 - 128) + s.2.2.2)))
def badLigB (d : FontD) (a : Int) (out : List LigT) (s : StepT) : Bool := out.any (fun x => decide (x.1 = s.2.2.2)) || !hasB d s.2.2.2 || decide (s.2.2.2 < 128) || decide (s.2.2.2 ≤ a) || decide (128 ≤ s.2.1)
/-- What a step turns: the ligatures so far, and the codes seen. -/
def markS (d : FontD) (a : Int) (st : List LigT × List Int) (x : Int × StepT) : Option (List LigT × List Int) :=
  if wrongB d x.1 x.2 then none
  else if x.2.2.2.1 = 0 ∧ x.2.2.1 ∉ st.2 then (if badLigB d a st.1 x.2 then none else some ((x.2.2.2.2, a, x.2.2.1) :: st.1, x.2.2.1 :: st.2))
  else some (st.1, x.2.2.1 :: st.2)
def marks (d : FontD) (a : Int) : List (Int × StepT) → List LigT × List Int → Option (List LigT × List Int)
  | [], st => some st
  | x :: xs, st => (markS d a st x).bind (marks d a xs)
theorem marks_append (d : FontD) (a : Int) : ∀ (xs ys : List (Int × StepT)) (st : List LigT × List Int), marks d a (xs ++ ys) st = (marks d a xs st).bind (marks d a ys)
  | [], ys, st => rfl
  | x :: xs, ys, st => by
    simp only [List.cons_append, marks]
    cases markS d a st x with
    | none => rfl
    | some z => simpa using marks_append d a xs ys z
theorem marks_none {d : FontD} {a : Int} {xs ys : List (Int × StepT)} {st : List LigT × List Int} (h : marks d a xs st = none) (hp : xs <+: ys) : marks d a ys st = none := by
  obtain ⟨zs, rfl⟩ := hp
  rw [marks_append, h]; rfl
/-- The ligatures of characters, from a code on. -/
def madeFrom (d : FontD) : List CharT → Int → List LigT → Option (List LigT)
  | [], _, out => some out
  | c :: cs, a, out => (marks d a (stepsOf d c) (out, [])).bind fun st => madeFrom d cs (a + 1) st.1
def madeP (d : FontD) : Option (List LigT) := if tfmB d then madeFrom d d.chars d.first [] else none
def ligB (d : FontD) : Bool := (madeP d).isSome

theorem step_ok {d : FontD} (h : tfmB d = true) {k : Nat} {s : StepT} (hs : d.steps[k]? = some s) : (0 ≤ s.1 ∧ s.1 < 256) ∧ (0 ≤ s.2.1 ∧ s.2.1 < 256) ∧ (0 ≤ s.2.2.1 ∧ s.2.2.1 < 256) ∧ (0 ≤ s.2.2.2 ∧ s.2.2.2 < 256) := by
  unfold tfmB at h
  simp only [Bool.and_eq_true, Bool.not_eq_true', List.any_eq_false] at h
  have := h.2 s (List.mem_of_getElem? hs)
  simp [stepB, ofB] at this
  omega
theorem char_ok {d : FontD} (h : tfmB d = true) {k : Nat} {c : CharT} (hs : d.chars[k]? = some c) : charB d c = true := by
  unfold tfmB at h
  simp only [Bool.and_eq_true, Bool.not_eq_true', List.any_eq_false] at h
  simpa using h.1.2 c (List.mem_of_getElem? hs)
theorem tfm_sizes {d : FontD} (h : tfmB d = true) : d.chars.length ≤ 256 ∧ d.steps.length ≤ 256 ∧ d.kerns.length ≤ 256 ∧ 0 ≤ d.first ∧ d.first < 256 ∧ (d.chars.length : Int) ≤ 256 - d.first ∧ d.widths.length ≤ 256 := by
  unfold tfmB headB manyB tableB ofB at h
  simp only [Bool.and_eq_true, decide_eq_true_eq] at h
  omega
theorem width_ok {d : FontD} (h : tfmB d = true) {k : Nat} {c : CharT} (hs : d.chars[k]? = some c) : 0 ≤ c.1 ∧ c.1 < d.widths.length := by
  have := char_ok h hs
  simp [charB, ofB] at this
  omega
theorem tag_ok {d : FontD} (h : tfmB d = true) {k : Nat} {c : CharT} (hs : d.chars[k]? = some c) (ht : c.2.2.2.2.1 = 1) : 0 ≤ c.2.2.2.2.2 ∧ c.2.2.2.2.2 < d.steps.length := by
  have := char_ok h hs
  simp [charB, tagB, ofB, ht] at this
  omega
theorem fix_ok {d : FontD} (h : tfmB d = true) {k : Nat} {x : Int} (hs : d.widths[k]? = some x) : -16777216 ≤ x ∧ x < 16777216 := by
  unfold tfmB tableB at h
  simp only [Bool.and_eq_true, Bool.not_eq_true', List.any_eq_false] at h
  have := h.1.1.1.2.1.1.1.1.2 x (List.mem_of_getElem? hs)
  simpa [fixB] using this
end Go.Proofs.Ytndpdbofoojkhaa.Fo
