/- joined for a claim: FontPlain, Font1, Font2, Font3 -/
import Derived.Test.YtndpdbofoojkhaaGreatKit
import Derived.Deep.DeepCutAuto
import Derived.Deep.QuietTactic
import Derived.BigQuiet
import Derived.Shelf.Abstract
/- Fonts as plain data: what may be one, its steps, its ligatures. -/
namespace Go.Proofs.YtndpdbofoojkhaaGreat.Fo
open Go.Proofs.YtndpdbofoojkhaaGreat.Kit
set_option linter.unusedVariables false
set_option linter.unusedSimpArgs false

abbrev CharT := Int × Int × Int × Int × Int × Int
abbrev StepT := Int × Int × Int × Int
abbrev charR : Rep CharT := Rep.seq (Rep.int .i64) (Rep.seq (Rep.int .i64) (Rep.seq (Rep.int .i64) (Rep.seq (Rep.int .i64) (Rep.seq (Rep.int .i64) (Rep.int .i64)))))
abbrev stepR : Rep StepT := Rep.seq (Rep.int .i64) (Rep.seq (Rep.int .i64) (Rep.seq (Rep.int .i64) (Rep.int .i64)))
structure FontD where
  sum : Int
  design : Int
  first : Int
  chars : List CharT
  widths : List Int
  heights : List Int
  depths : List Int
  italics : List Int
  steps : List StepT
  kerns : List Int
  params : List Int

def ofB (n m : Int) : Bool := decide (0 ≤ n) && decide (n < m)
def fixB (n : Int) : Bool := decide (-16777216 ≤ n) && decide (n < 16777216)
def tableB (l : List Int) (least most : Int) : Bool := decide (least ≤ l.length) && decide ((l.length : Int) ≤ most) && !(l.any fun n => !fixB n) && (decide (least = 0) || decide (l.getD 0 0 = 0))
def tagB (d : FontD) (c : CharT) : Bool := (decide (c.2.2.2.2.1 = 0) && decide (c.2.2.2.2.2 = 0)) || (decide (c.2.2.2.2.1 = 1) && ofB c.2.2.2.2.2 d.steps.length)
def charB (d : FontD) (c : CharT) : Bool := tagB d c && ofB c.1 d.widths.length && ofB c.2.1 d.heights.length && ofB c.2.2.1 d.depths.length && ofB c.2.2.2.1 d.italics.length
def stepB (s : StepT) : Bool := !([s.1, s.2.1, s.2.2.1, s.2.2.2].any fun n => !ofB n 256)
def headB (d : FontD) : Bool := ofB d.sum 4294967296 && decide (1048576 ≤ d.design) && decide (d.design < 2147483648) && ofB d.first 256
def manyB (d : FontD) : Bool := decide (1 ≤ d.chars.length) && decide ((d.chars.length : Int) ≤ 256 - d.first) && decide (d.steps.length ≤ 256)
def tfmB (d : FontD) : Bool := headB d && manyB d && (tableB d.widths 1 256 && tableB d.heights 1 16 && tableB d.depths 1 16 && tableB d.italics 1 64) && (tableB d.kerns 0 256 && tableB d.params 0 30) && !(d.chars.any fun c => !charB d c) && !(d.steps.any fun s => !stepB s)
def widthOf (d : FontD) (code : Int) : Int := (d.chars.getD (code - d.first).toNat (0, 0, 0, 0, 0, 0)).1
def hasB (d : FontD) (code : Int) : Bool := decide (d.first ≤ code) && decide (code < d.first + d.chars.length) && decide (0 < widthOf d code)

/-- Steps from a place on, at most so many; one that is not there has the place -1. -/
def stepsFrom (l : List StepT) : Nat → Nat → List (Int × StepT)
  | 0, _ => []
  | n + 1, k => match l[k]? with
    | none => [(-1, (0, 0, 0, 0))]
    | some s => ((k : Int), s) :: (if 128 ≤ s.1 then [] else stepsFrom l n (k + s.1.toNat + 1))
def stepsOf (d : FontD) (c : CharT) : List (Int × StepT) := if c.2.2.2.2.1 = 1 then stepsFrom d.steps (d.steps.length + 1) c.2.2.2.2.2.toNat else []
theorem from_len (l : List StepT) : ∀ (n k : Nat), (stepsFrom l n k).length ≤ n
  | 0, _ => by simp [stepsFrom]
  | n + 1, k => by
    unfold stepsFrom
    split
    · simp
    · rename_i s hs
      split
      · simp
      · simp; exact from_len l n _
theorem steps_len (d : FontD) (c : CharT) : (stepsOf d c).length ≤ d.steps.length + 1 := by
  unfold stepsOf
  split
  · exact from_len _ _ _
  · simp
abbrev LigT := Int × Int × Int
/-- Whether a step is none that may be. -/
def wrongB (d : FontD) (k : Int) (s : StepT) : Bool := decide (k < 0) || (decide (0 < s.2.2.1) && (decide (s.2.2.1 < 128) || decide ((d.kerns.length : Int) ≤ 256 * (s.2.2.1 - 128) + s.2.2.2)))
def badLigB (d : FontD) (a : Int) (out : List LigT) (s : StepT) : Bool := out.any (fun x => decide (x.1 = s.2.2.2)) || !hasB d s.2.2.2 || decide (s.2.2.2 < 128) || decide (s.2.2.2 ≤ a) || decide (128 ≤ s.2.1)
/-- What a step turns: the ligatures so far, and the codes seen. -/
def markS (d : FontD) (a : Int) (st : List LigT × List Int) (x : Int × StepT) : Option (List LigT × List Int) :=
  if wrongB d x.1 x.2 then none
  else if x.2.2.2.1 = 0 ∧ x.2.2.1 ∉ st.2 then (if badLigB d a st.1 x.2 then none else some ((x.2.2.2.2, a, x.2.2.1) :: st.1, x.2.2.1 :: st.2))
  else some (st.1, x.2.2.1 :: st.2)
def marks (d : FontD) (a : Int) : List (Int × StepT) → List LigT × List Int → Option (List LigT × List Int)
  | [], st => some st
  | x :: xs, st => (markS d a st x).bind (marks d a xs)
theorem marks_append (d : FontD) (a : Int) : ∀ (xs ys : List (Int × StepT)) (st : List LigT × List Int), marks d a (xs ++ ys) st = (marks d a xs st).bind (marks d a ys)
  | [], ys, st => rfl
  | x :: xs, ys, st => by
    simp only [List.cons_append, marks]
    cases markS d a st x with
    | none => rfl
    | some z => simpa using marks_append d a xs ys z
theorem marks_none {d : FontD} {a : Int} {xs ys : List (Int × StepT)} {st : List LigT × List Int} (h : marks d a xs st = none) (hp : xs <+: ys) : marks d a ys st = none := by
  obtain ⟨zs, rfl⟩ := hp
  rw [marks_append, h]; rfl
/-- The ligatures of characters, from a code on. -/
def madeFrom (d : FontD) : List CharT → Int → List LigT → Option (List LigT)
  | [], _, out => some out
  | c :: cs, a, out => (marks d a (stepsOf d c) (out, [])).bind fun st => madeFrom d cs (a + 1) st.1
def madeP (d : FontD) : Option (List LigT) := if tfmB d then madeFrom d d.chars d.first [] else none
def ligB (d : FontD) : Bool := (madeP d).isSome

theorem step_ok {d : FontD} (h : tfmB d = true) {k : Nat} {s : StepT} (hs : d.steps[k]? = some s) : (0 ≤ s.1 ∧ s.1 < 256) ∧ (0 ≤ s.2.1 ∧ s.2.1 < 256) ∧ (0 ≤ s.2.2.1 ∧ s.2.2.1 < 256) ∧ (0 ≤ s.2.2.2 ∧ s.2.2.2 < 256) := by
  unfold tfmB at h
  simp only [Bool.and_eq_true, Bool.not_eq_true', List.any_eq_false] at h
  have := h.2 s (List.mem_of_getElem? hs)
  simp [stepB, ofB] at this
  omega
theorem char_ok {d : FontD} (h : tfmB d = true) {k : Nat} {c : CharT} (hs : d.chars[k]? = some c) : charB d c = true := by
  unfold tfmB at h
  simp only [Bool.and_eq_true, Bool.not_eq_true', List.any_eq_false] at h
  simpa using h.1.2 c (List.mem_of_getElem? hs)
theorem tfm_sizes {d : FontD} (h : tfmB d = true) : d.chars.length ≤ 256 ∧ d.steps.length ≤ 256 ∧ d.kerns.length ≤ 256 ∧ 0 ≤ d.first ∧ d.first < 256 ∧ (d.chars.length : Int) ≤ 256 - d.first ∧ d.widths.length ≤ 256 := by
  unfold tfmB headB manyB tableB ofB at h
  simp only [Bool.and_eq_true, decide_eq_true_eq] at h
  omega
theorem width_ok {d : FontD} (h : tfmB d = true) {k : Nat} {c : CharT} (hs : d.chars[k]? = some c) : 0 ≤ c.1 ∧ c.1 < d.widths.length := by
  have := char_ok h hs
  simp [charB, ofB] at this
  omega
theorem tag_ok {d : FontD} (h : tfmB d = true) {k : Nat} {c : CharT} (hs : d.chars[k]? = some c) (ht : c.2.2.2.2.1 = 1) : 0 ≤ c.2.2.2.2.2 ∧ c.2.2.2.2.2 < d.steps.length := by
  have := char_ok h hs
  simp [charB, tagB, ofB, ht] at this
  omega
theorem fix_ok {d : FontD} (h : tfmB d = true) {k : Nat} {x : Int} (hs : d.widths[k]? = some x) : -16777216 ≤ x ∧ x < 16777216 := by
  unfold tfmB tableB at h
  simp only [Bool.and_eq_true, Bool.not_eq_true', List.any_eq_false] at h
  have := h.1.1.1.2.1.1.1.1.2 x (List.mem_of_getElem? hs)
  simpa [fixB] using this
end Go.Proofs.YtndpdbofoojkhaaGreat.Fo
/- Fonts: what numbers and tables may be. -/
namespace Go.Proofs.YtndpdbofoojkhaaGreat.Fo
open Go.RowKit Go.Proofs.YtndpdbofoojkhaaGreat.Kit
set_option linter.unusedVariables false
set_option linter.unusedSimpArgs false

/-- A function value asked of each number of a list: it makes memory at most. -/
def Asks (g : Nat) (lb : Array Value) (p : Int → Bool) (w : World) : Prop := ∀ (W : World) (x : Int), Below w.heap.size w W → Calls Tryz.prog g (#[.int .i64 x] ++ lb) W fun e w' => e = .returned (.bool (p x)) ∧ Below W.heap.size W w'
def place (p : Int → Bool) : List Int → Int → Int
  | [], _ => -1
  | x :: xs, k => if p x then k else place p xs (k + 1)
theorem place_any (p : Int → Bool) : ∀ (l : List Int) (k : Int), 0 ≤ k → decide (0 ≤ place p l k) = l.any p
  | [], k, h => by simp [place]
  | x :: xs, k, h => by
    unfold place
    cases hx : p x with
    | true => simp [hx]; exact h
    | false => simp [hx]; have := place_any p xs (k + 1) (by omega); simpa using this

set_option maxHeartbeats 1000000 in
theorem index_any (g : Nat) (lb : Array Value) (p : Int → Bool) (eg : ∀ args w, (callFunc g args).run Tryz.prog w = .ok (.enter g args) w) (A : Option Addr) (c : Nat) (l : List Int) (w : World) {B : Nat} (hB : B ≤ w.heap.size) (hx : Row (Rep.int .i64) w B A l) (hl : l.length ≤ 9223372036854775807) (hp : Asks g lb p w) :
    Calls Tryz.prog 69 #[.slice A l.length c, .func (.func g) #[] lb] w fun e w' => e = .returned (.int .i64 (place p l 0)) ∧ Below w.heap.size w w' := by
  have HP := Lib.hid hp
  clear hp
  obtain ⟨r, hr⟩ : ∃ r, Hid (place p l 0 = r) := ⟨_, Lib.hid rfl⟩
  rw [hr.out]
  go_enter Tryz.func69, Tryz.ntmps69
  go_wp2
  go_loopw [5, 8] (fun _ i wr => ∃ k : Nat, k ≤ l.length ∧ i = .int .i64 k ∧ Hid (place p l 0 = place p (l.drop k) k) ∧ Below w.heap.size w wr) (fun _ i _ => l.length - (intOf i).toNat)
  case atStart => exact ⟨0, by omega, rfl, Lib.hid (by simp), Below.refl _ _⟩
  case round =>
    obtain ⟨k, hk, rfl, HS, HB⟩ := hrel
    rename World => wr
    by_cases hlt : k < l.length
    · obtain ⟨x, hxk⟩ := at_lt hlt
      obtain ⟨b, o, hA, hb, hc, _⟩ := int_at hx hxk
      have HD := Lib.hid (drop_cons hxk)
      clear hxk
      subst hA
      have hc2 : _ = some (Value.int .i64 x) := (HB.cell (p := ⟨b, o + k, none⟩) (show b < w.heap.size by omega)).trans hc
      have hcall := HP.out wr x HB
      cases hq : p x with
      | true =>
        rw [hq] at hcall
        have HE := Lib.hid (show place p l 0 = k by rw [HS.out, HD.out]; simp [place, hq])
        clear hq
        go_wp2_with (go_at_fn g; refine hcall.mono ?_; rintro e w' ⟨rfl, hb2⟩)
        go_ret
        exact ⟨by rw [← hr.out, HE.out]; rfl, below_join HB hb2⟩
      | false =>
        rw [hq] at hcall
        have HE := Lib.hid (show place p l 0 = place p (l.drop (k + 1)) ((k + 1 : Nat) : Int) by rw [HS.out, HD.out]; simp [place, hq])
        clear hq
        go_wp2_with (go_at_fn g; refine hcall.mono ?_; rintro e w' ⟨rfl, hb2⟩)
        go_roundw
        case rel => exact ⟨k + 1, by omega, by go_num, HE, below_join HB hb2⟩
        case measure => simp [intOf]; omega
    · have HE := Lib.hid (show place p l 0 = -1 by rw [HS.out, List.drop_eq_nil_of_le (by omega)]; rfl)
      go_wp2
      go_ret
      exact ⟨by rw [← hr.out, HE.out]; rfl, HB⟩
set_option maxHeartbeats 1000000 in
theorem contains_any (g : Nat) (lb : Array Value) (p : Int → Bool) (eg : ∀ args w, (callFunc g args).run Tryz.prog w = .ok (.enter g args) w) (A : Option Addr) (c : Nat) (l : List Int) (w : World) {B : Nat} (hB : B ≤ w.heap.size) (hx : Row (Rep.int .i64) w B A l) (hl : l.length ≤ 9223372036854775807) (hp : Asks g lb p w) :
    Calls Tryz.prog 46 #[.slice A l.length c, .func (.func g) #[] lb] w fun e w' => e = .returned (.bool (l.any p)) ∧ Below w.heap.size w w' := by
  have H := Lib.hid (index_any g lb p eg A c l w hB hx hl hp)
  have HE := Lib.hid (place_any p l 0 (by omega))
  clear hx hp hl
  generalize place p l 0 = r at *
  obtain ⟨q, hq⟩ : ∃ q, Hid (l.any p = q) := ⟨_, Lib.hid rfl⟩
  rw [hq.out]
  go_enter Tryz.func46, Tryz.ntmps46
  go_wp2_with fail
  refine H.out.mono ?_; rintro e w' ⟨rfl, hb⟩
  go_wp2
  go_ret
  exact ⟨ret_bool rfl (by rw [← hq.out, ← HE.out]), hb⟩


/-! ### A place of so many; a fix; a table -/
theorem of_any (n m : Int) (w : World) :
    Calls Tryz.prog 105 #[.int .i64 n, .int .i64 m] w fun e w' => e = .returned (.bool (ofB n m)) ∧ w = w' := by
  unfold ofB
  by_cases h : 0 ≤ n
  · go_enter Tryz.func105, Tryz.ntmps105
    go_wp2
    go_ret
    exact ⟨ret_bool rfl (by simp [h]), rfl⟩
  · go_enter Tryz.func105, Tryz.ntmps105
    go_wp2
    go_ret
    exact ⟨ret_bool rfl (by simp; omega), rfl⟩
theorem fix_any (n : Int) (w : World) :
    Calls Tryz.prog 119 #[.int .i64 n] w fun e w' => e = .returned (.bool (fixB n)) ∧ w = w' := by
  unfold fixB
  by_cases h : -16777216 ≤ n
  · go_enter Tryz.func119, Tryz.ntmps119
    go_wp2
    go_ret
    exact ⟨ret_bool rfl (by simp [h]), rfl⟩
  · go_enter Tryz.func119, Tryz.ntmps119
    go_wp2
    go_ret
    exact ⟨ret_bool rfl (by simp; omega), rfl⟩
theorem nofix_any (n : Int) (w : World) :
    Calls Tryz.prog 118 #[.int .i64 n] w fun e w' => e = .returned (.bool (!fixB n)) ∧ w = w' := by
  have H := Lib.hid (fix_any n w)
  generalize fixB n = b at *
  go_enter Tryz.func118, Tryz.ntmps118
  go_wp2_with fail
  refine H.out.mono ?_; rintro e w1 ⟨rfl, rfl⟩
  go_wp2
  go_ret
  exact ⟨rfl, rfl⟩
theorem asks_nofix (w : World) : Asks 118 #[] (fun n => !fixB n) w := fun W x _ => (nofix_any x W).mono fun e w' ⟨h1, h2⟩ => ⟨h1, h2 ▸ Below.refl _ _⟩
theorem nofit_any (n : Int) (w : World) :
    Calls Tryz.prog 122 #[.int .i64 n] w fun e w' => e = .returned (.bool (!ofB n 256)) ∧ w = w' := by
  have H := Lib.hid (of_any n 256 w)
  generalize ofB n 256 = b at *
  go_enter Tryz.func122, Tryz.ntmps122
  go_wp2_with fail
  refine H.out.mono ?_; rintro e w1 ⟨rfl, rfl⟩
  go_wp2
  go_ret
  exact ⟨rfl, rfl⟩
theorem asks_nofit (w : World) : Asks 122 #[] (fun n => !ofB n 256) w := fun W x _ => (nofit_any x W).mono fun e w' ⟨h1, h2⟩ => ⟨h1, h2 ▸ Below.refl _ _⟩


theorem char_at {w : World} {B : Nat} {A : Option Addr} {l : List CharT} (h : Row charR w B A l) {i : Nat} {c : CharT} (hx : l[i]? = some c) :
    ∃ b o, A = some ⟨b, o, none⟩ ∧ b < B ∧ (w.cell? ⟨b, o + i * 6, none⟩ = some (.int .i64 c.1) ∧ w.cell? ⟨b, o + i * 6 + 1, none⟩ = some (.int .i64 c.2.1) ∧ w.cell? ⟨b, o + i * 6 + 2, none⟩ = some (.int .i64 c.2.2.1) ∧ w.cell? ⟨b, o + i * 6 + 3, none⟩ = some (.int .i64 c.2.2.2.1) ∧ w.cell? ⟨b, o + i * 6 + 4, none⟩ = some (.int .i64 c.2.2.2.2.1) ∧ w.cell? ⟨b, o + i * 6 + 5, none⟩ = some (.int .i64 c.2.2.2.2.2)) ∧
      ((Lit.int .i64 c.1).wf = true ∧ (Lit.int .i64 c.2.1).wf = true ∧ (Lit.int .i64 c.2.2.1).wf = true ∧ (Lit.int .i64 c.2.2.2.1).wf = true ∧ (Lit.int .i64 c.2.2.2.2.1).wf = true ∧ (Lit.int .i64 c.2.2.2.2.2).wf = true) := by
  obtain ⟨b, o, cs, rfl, hb, ⟨c1, r1, rfl, ⟨rfl, w1⟩, c2, r2, rfl, ⟨rfl, w2⟩, c3, r3, rfl, ⟨rfl, w3⟩, c4, r4, rfl, ⟨rfl, w4⟩, c5, r5, rfl, ⟨rfl, w5⟩, rfl, w6⟩, hc⟩ := h i c hx
  exact ⟨b, o, rfl, hb, ⟨hc 0 _ rfl, hc 1 _ rfl, hc 2 _ rfl, hc 3 _ rfl, hc 4 _ rfl, hc 5 _ rfl⟩, w1, w2, w3, w4, w5, w6⟩
theorem step_at {w : World} {B : Nat} {A : Option Addr} {l : List StepT} (h : Row stepR w B A l) {i : Nat} {c : StepT} (hx : l[i]? = some c) :
    ∃ b o, A = some ⟨b, o, none⟩ ∧ b < B ∧ (w.cell? ⟨b, o + i * 4, none⟩ = some (.int .i64 c.1) ∧ w.cell? ⟨b, o + i * 4 + 1, none⟩ = some (.int .i64 c.2.1) ∧ w.cell? ⟨b, o + i * 4 + 2, none⟩ = some (.int .i64 c.2.2.1) ∧ w.cell? ⟨b, o + i * 4 + 3, none⟩ = some (.int .i64 c.2.2.2)) ∧
      ((Lit.int .i64 c.1).wf = true ∧ (Lit.int .i64 c.2.1).wf = true ∧ (Lit.int .i64 c.2.2.1).wf = true ∧ (Lit.int .i64 c.2.2.2).wf = true) := by
  obtain ⟨b, o, cs, rfl, hb, ⟨c1, r1, rfl, ⟨rfl, w1⟩, c2, r2, rfl, ⟨rfl, w2⟩, c3, r3, rfl, ⟨rfl, w3⟩, rfl, w4⟩, hc⟩ := h i c hx
  exact ⟨b, o, rfl, hb, ⟨hc 0 _ rfl, hc 1 _ rfl, hc 2 _ rfl, hc 3 _ rfl⟩, w1, w2, w3, w4⟩
abbrev charV (c : CharT) : Value := .agg #[.int .i64 c.1, .int .i64 c.2.1, .int .i64 c.2.2.1, .int .i64 c.2.2.2.1, .int .i64 c.2.2.2.2.1, .int .i64 c.2.2.2.2.2]
abbrev stepV (c : StepT) : Value := .agg #[.int .i64 c.1, .int .i64 c.2.1, .int .i64 c.2.2.1, .int .i64 c.2.2.2]

/-! ### Tables -/
set_option maxHeartbeats 1000000 in
theorem table_any (A : Option Addr) (c : Nat) (l : List Int) (least most : Int) (h0 : 0 ≤ least) (w : World) {B : Nat} (hB : B ≤ w.heap.size) (hx : Row (Rep.int .i64) w B A l) (hl : l.length ≤ 9223372036854775807) :
    Calls Tryz.prog 106 #[.slice A l.length c, .int .i64 least, .int .i64 most] w fun e w' => e = .returned (.bool (tableB l least most)) ∧ Below w.heap.size w w' := by
  have e1 : ∀ args w, (callFunc 118 args).run Tryz.prog w = .ok (.enter 118 args) w := enters_of Tryz.func118 (by kernel_rfl) rfl
  have HC := Lib.hid (contains_any _ #[] (fun n => !fixB n) e1 A c l w hB hx hl (asks_nofix w))
  clear e1
  obtain ⟨res, hres⟩ : ∃ r, Hid (tableB l least most = r) := ⟨_, Lib.hid rfl⟩
  rw [hres.out]
  have hres' := hres.out
  unfold tableB at hres'
  generalize (l.any fun n => !fixB n) = b at *
  by_cases h1 : least ≤ l.length
  · have F1 : (least ≤ (l.length : Int)) = True := eq_true h1
    by_cases h2 : (l.length : Int) ≤ most
    · have F2 : ((l.length : Int) ≤ most) = True := eq_true h2
      cases b with
      | true =>
        have HE : Hid (false = res) := Lib.hid (by rw [← hres']; simp)
        clear hres' hres h1 h2 hx
        go_enter Tryz.func106, Tryz.ntmps106
        go_wp2_with fail
        refine HC.out.mono ?_; rintro e w1 ⟨rfl, hb⟩
        go_wp2
        go_ret
        exact ⟨ret_bool rfl HE.out, hb⟩
      | false =>
        by_cases h3 : least = 0
        · have HE : Hid (true = res) := Lib.hid (by rw [← hres']; simp [h3, h2])
          clear hres' hres h1 h2 hx F1
          subst h3
          have F1 : ((0 : Int) ≤ (l.length : Int)) = True := eq_true (by omega)
          go_enter Tryz.func106, Tryz.ntmps106
          go_wp2_with fail
          refine HC.out.mono ?_; rintro e w1 ⟨rfl, hb⟩
          go_wp2
          go_ret
          exact ⟨ret_bool rfl HE.out, hb⟩
        · obtain ⟨x, hx0⟩ := at_lt (l := l) (i := 0) (by omega)
          obtain ⟨b, o, rfl, hbb, hc, _⟩ := int_at hx hx0
          have HE : Hid (decide (x = 0) = res) := Lib.hid (by rw [← hres']; simp [h1, h2, h3, List.getD_eq_getElem?_getD, hx0])
          have F3 : (least == 0) = false := by simp; exact h3
          have hlt : 0 < l.length := (List.getElem?_eq_some_iff.1 hx0).1
          clear hres' hres h1 h2 hx hx0 h3
          go_enter Tryz.func106, Tryz.ntmps106
          go_wp2_with fail
          refine HC.out.mono ?_; rintro e w1 ⟨rfl, hb⟩
          have hc1 : w1.cell? ⟨b, o, none⟩ = some (.int .i64 x) := (hb.cell (p := ⟨b, o, none⟩) (by show b < w.heap.size; omega)).trans hc
          go_wp2
          go_ret
          exact ⟨ret_bool rfl HE.out, hb⟩
    · have F2 : ((l.length : Int) ≤ most) = False := eq_false h2
      have HE : Hid (false = res) := Lib.hid (by rw [← hres']; simp [h2])
      clear hres' hres h1 h2 hx HC
      go_enter Tryz.func106, Tryz.ntmps106
      go_wp2
      go_ret
      exact ⟨ret_bool rfl HE.out, Below.refl _ _⟩
  · have F1 : (least ≤ (l.length : Int)) = False := eq_false h1
    have HE : Hid (false = res) := Lib.hid (by rw [← hres']; simp [h1])
    clear hres' hres h1 hx HC
    go_enter Tryz.func106, Tryz.ntmps106
    go_wp2
    go_ret
    exact ⟨ret_bool rfl HE.out, Below.refl _ _⟩
end Go.Proofs.YtndpdbofoojkhaaGreat.Fo
/- A font's characters and steps: whether each may be. -/
namespace Go.Proofs.YtndpdbofoojkhaaGreat.Fo
open Go.RowKit Go.Proofs.YtndpdbofoojkhaaGreat.Kit
set_option linter.unusedVariables false
set_option linter.unusedSimpArgs false

/-- Where a font's lists lie, and their capacities. -/
structure FontA where
  c : Option Addr
  w : Option Addr
  h : Option Addr
  d : Option Addr
  i : Option Addr
  s : Option Addr
  k : Option Addr
  p : Option Addr
  cc : Nat
  cw : Nat
  ch : Nat
  cd : Nat
  ci : Nat
  cs : Nat
  ck : Nat
  cp : Nat
abbrev fontV (d : FontD) (a : FontA) : Value := .agg #[.int .i64 d.sum, .int .i64 d.design, .int .i64 d.first, .slice a.c d.chars.length a.cc, .slice a.w d.widths.length a.cw, .slice a.h d.heights.length a.ch, .slice a.d d.depths.length a.cd, .slice a.i d.italics.length a.ci, .slice a.s d.steps.length a.cs, .slice a.k d.kerns.length a.ck, .slice a.p d.params.length a.cp]
abbrev fontCells (d : FontD) (a : FontA) : Array Value := #[.int .i64 d.sum, .int .i64 d.design, .int .i64 d.first, .slice a.c d.chars.length a.cc, .slice a.w d.widths.length a.cw, .slice a.h d.heights.length a.ch, .slice a.d d.depths.length a.cd, .slice a.i d.italics.length a.ci, .slice a.s d.steps.length a.cs, .slice a.k d.kerns.length a.ck, .slice a.p d.params.length a.cp]

set_option maxHeartbeats 1000000 in
theorem char_any (d : FontD) (a : FontA) (c : CharT) (w : World) :
    Calls Tryz.prog 109 #[fontV d a, charV c] w fun e w' => e = .returned (.bool (charB d c)) ∧ Below w.heap.size w w' := by
  obtain ⟨res, hres⟩ : ∃ r, Hid (charB d c = r) := ⟨_, Lib.hid rfl⟩
  rw [hres.out]
  have hres' := hres.out
  clear hres
  unfold charB tagB at hres'
  obtain ⟨n0, n1, n2, n3, n4, n5⟩ := c
  dsimp only at hres'
  have O0 : Hid (∀ w, _) := Lib.hid (of_any n5 d.steps.length)
  have O1 : Hid (∀ w, _) := Lib.hid (of_any n0 d.widths.length)
  have O2 : Hid (∀ w, _) := Lib.hid (of_any n1 d.heights.length)
  have O3 : Hid (∀ w, _) := Lib.hid (of_any n2 d.depths.length)
  have O4 : Hid (∀ w, _) := Lib.hid (of_any n3 d.italics.length)
  generalize ofB n5 d.steps.length = q0 at *
  generalize ofB n0 d.widths.length = q1 at *
  generalize ofB n1 d.heights.length = q2 at *
  generalize ofB n2 d.depths.length = q3 at *
  generalize ofB n3 d.italics.length = q4 at *
  have T : ((n4 == 0) = true ∧ (n5 == 0) = true) ∨ ((n4 == 0) = true ∧ (n5 == 0) = false ∧ (n4 == 1) = false) ∨ ((n4 == 0) = false ∧ (n4 == 1) = true) ∨ ((n4 == 0) = false ∧ (n4 == 1) = false) := by
    simp only [beq_iff_eq, beq_eq_false_iff_ne]; omega
  rcases T with ⟨F1, F2⟩ | ⟨F1, F2, F3⟩ | ⟨F1, F3⟩ | ⟨F1, F3⟩
  case' inr.inr.inl => cases q0
  case' inl | inr.inr.inl.true => (cases q1; rotate_left; cases q2; rotate_left; cases q3; rotate_left; cases q4)
  all_goals (
    have HE := Lib.hid hres'
    clear hres'
    go_enter Tryz.func109, Tryz.ntmps109
    go_wp2_with fail
    repeat ((first | with_reducible refine (O0.out _).mono ?_ | with_reducible refine (O1.out _).mono ?_ | with_reducible refine (O2.out _).mono ?_ | with_reducible refine (O3.out _).mono ?_ | with_reducible refine (O4.out _).mono ?_); rintro e w1 ⟨rfl, rfl⟩; go_wp2_with fail)
    go_ret
    refine ⟨ret_bool rfl ?_, ((Below.refl _ w).alloc (Nat.le_refl _) _).alloc (by simp) _⟩
    have HE' := HE.out
    simp only [beq_iff_eq, beq_eq_false_iff_ne] at *
    simp_all)
end Go.Proofs.YtndpdbofoojkhaaGreat.Fo
/- The library's IndexFunc and ContainsFunc over characters, and steps; whether a step, and a font, may be. -/
namespace Go.Proofs.YtndpdbofoojkhaaGreat.Fo
open Go.RowKit Go.Proofs.YtndpdbofoojkhaaGreat.Kit
set_option linter.unusedVariables false
set_option linter.unusedSimpArgs false

/-- A function value asked of a list's elements: it makes memory at most. -/
def AsksV {α : Type} (g : Nat) (lb : Array Value) (V : α → Value) (p : α → Bool) (l : List α) (w : World) : Prop := ∀ (W : World) (x : α), Below w.heap.size w W → x ∈ l → Calls Tryz.prog g (#[V x] ++ lb) W fun e w' => e = .returned (.bool (p x)) ∧ Below W.heap.size W w'
def placeV {α : Type} (p : α → Bool) : List α → Int → Int
  | [], _ => -1
  | x :: xs, k => if p x then k else placeV p xs (k + 1)
theorem placeV_any {α : Type} (p : α → Bool) : ∀ (l : List α) (k : Int), 0 ≤ k → decide (0 ≤ placeV p l k) = l.any p
  | [], k, h => by simp [placeV]
  | x :: xs, k, h => by
    unfold placeV
    cases hx : p x with
    | true => simp [hx]; exact h
    | false => simp [hx]; have := placeV_any p xs (k + 1) (by omega); simpa using this

set_option maxHeartbeats 1000000 in
theorem index_char (g : Nat) (lb : Array Value) (p : CharT → Bool) (eg : ∀ args w, (callFunc g args).run Tryz.prog w = .ok (.enter g args) w) (A : Option Addr) (c : Nat) (l : List CharT) (w : World) {B : Nat} (hB : B ≤ w.heap.size) (hx : Row charR w B A l) (hl : l.length ≤ 9223372036854775807) (hp : AsksV g lb charV p l w) :
    Calls Tryz.prog 120 #[.slice A l.length c, .func (.func g) #[] lb] w fun e w' => e = .returned (.int .i64 (placeV p l 0)) ∧ Below w.heap.size w w' := by
  have HP := Lib.hid hp
  clear hp
  obtain ⟨r, hr⟩ : ∃ r, Hid (placeV p l 0 = r) := ⟨_, Lib.hid rfl⟩
  rw [hr.out]
  go_enter Tryz.func120, Tryz.ntmps120
  go_wp2
  go_loopw [5, 8] (fun _ i wr => ∃ k : Nat, k ≤ l.length ∧ i = .int .i64 k ∧ Hid (placeV p l 0 = placeV p (l.drop k) k) ∧ Below w.heap.size w wr) (fun _ i _ => l.length - (intOf i).toNat)
  case atStart => exact ⟨0, by omega, rfl, Lib.hid (by simp), Below.refl _ _⟩
  case round =>
    obtain ⟨k, hk, rfl, HS, HB⟩ := hrel
    rename World => wr
    by_cases hlt : k < l.length
    · obtain ⟨x, hxk⟩ := at_lt hlt
      have HD := Lib.hid (drop_cons hxk)
      have HM := Lib.hid hxk
      obtain ⟨b, o, hA, hb, ⟨h0, h1, h2, h3, h4, h5⟩, _⟩ := char_at hx hxk
      clear hxk
      subst hA
      have hc0 : wr.cell? ⟨b, o + k * 6, none⟩ = _ := (HB.cell (p := ⟨b, o + k * 6, none⟩) (show b < w.heap.size by omega)).trans h0
      have hc1 : wr.cell? ⟨b, o + k * 6 + 1, none⟩ = _ := (HB.cell (p := ⟨b, o + k * 6 + 1, none⟩) (show b < w.heap.size by omega)).trans h1
      have hc2 : wr.cell? ⟨b, o + k * 6 + 2, none⟩ = _ := (HB.cell (p := ⟨b, o + k * 6 + 2, none⟩) (show b < w.heap.size by omega)).trans h2
      have hc3 : wr.cell? ⟨b, o + k * 6 + 3, none⟩ = _ := (HB.cell (p := ⟨b, o + k * 6 + 3, none⟩) (show b < w.heap.size by omega)).trans h3
      have hc4 : wr.cell? ⟨b, o + k * 6 + 4, none⟩ = _ := (HB.cell (p := ⟨b, o + k * 6 + 4, none⟩) (show b < w.heap.size by omega)).trans h4
      have hc5 : wr.cell? ⟨b, o + k * 6 + 5, none⟩ = _ := (HB.cell (p := ⟨b, o + k * 6 + 5, none⟩) (show b < w.heap.size by omega)).trans h5
      clear h0 h1 h2 h3 h4 h5
      have hcall := HP.out wr x HB (List.mem_of_getElem? HM.out)
      cases hq : p x with
      | true =>
        rw [hq] at hcall
        have HE := Lib.hid (show placeV p l 0 = k by rw [HS.out, HD.out]; simp [placeV, hq])
        clear hq
        go_wp2_with (go_at_fn g; refine hcall.mono ?_; rintro e w' ⟨rfl, hb2⟩)
        go_ret
        exact ⟨by rw [← hr.out, HE.out]; rfl, below_join HB hb2⟩
      | false =>
        rw [hq] at hcall
        have HE := Lib.hid (show placeV p l 0 = placeV p (l.drop (k + 1)) ((k + 1 : Nat) : Int) by rw [HS.out, HD.out]; simp [placeV, hq])
        clear hq
        go_wp2_with (go_at_fn g; refine hcall.mono ?_; rintro e w' ⟨rfl, hb2⟩)
        go_roundw
        case rel => exact ⟨k + 1, by omega, by go_num, HE, below_join HB hb2⟩
        case measure => simp [intOf]; omega
    · have HE := Lib.hid (show placeV p l 0 = -1 by rw [HS.out, List.drop_eq_nil_of_le (by omega)]; rfl)
      go_wp2
      go_ret
      exact ⟨by rw [← hr.out, HE.out]; rfl, HB⟩
set_option maxHeartbeats 1000000 in
theorem contains_char (g : Nat) (lb : Array Value) (p : CharT → Bool) (eg : ∀ args w, (callFunc g args).run Tryz.prog w = .ok (.enter g args) w) (A : Option Addr) (c : Nat) (l : List CharT) (w : World) {B : Nat} (hB : B ≤ w.heap.size) (hx : Row charR w B A l) (hl : l.length ≤ 9223372036854775807) (hp : AsksV g lb charV p l w) :
    Calls Tryz.prog 107 #[.slice A l.length c, .func (.func g) #[] lb] w fun e w' => e = .returned (.bool (l.any p)) ∧ Below w.heap.size w w' := by
  have H := Lib.hid (index_char g lb p eg A c l w hB hx hl hp)
  have HE := Lib.hid (placeV_any p l 0 (by omega))
  clear hx hp hl
  generalize placeV p l 0 = r at *
  obtain ⟨q, hq⟩ : ∃ q, Hid (l.any p = q) := ⟨_, Lib.hid rfl⟩
  rw [hq.out]
  go_enter Tryz.func107, Tryz.ntmps107
  go_wp2_with fail
  refine H.out.mono ?_; rintro e w' ⟨rfl, hb⟩
  go_wp2
  go_ret
  exact ⟨ret_bool rfl (by rw [← hq.out, ← HE.out]), hb⟩

set_option maxHeartbeats 1000000 in
theorem index_step (g : Nat) (lb : Array Value) (p : StepT → Bool) (eg : ∀ args w, (callFunc g args).run Tryz.prog w = .ok (.enter g args) w) (A : Option Addr) (c : Nat) (l : List StepT) (w : World) {B : Nat} (hB : B ≤ w.heap.size) (hx : Row stepR w B A l) (hl : l.length ≤ 9223372036854775807) (hp : AsksV g lb stepV p l w) :
    Calls Tryz.prog 121 #[.slice A l.length c, .func (.func g) #[] lb] w fun e w' => e = .returned (.int .i64 (placeV p l 0)) ∧ Below w.heap.size w w' := by
  have HP := Lib.hid hp
  clear hp
  obtain ⟨r, hr⟩ : ∃ r, Hid (placeV p l 0 = r) := ⟨_, Lib.hid rfl⟩
  rw [hr.out]
  go_enter Tryz.func121, Tryz.ntmps121
  go_wp2
  go_loopw [5, 8] (fun _ i wr => ∃ k : Nat, k ≤ l.length ∧ i = .int .i64 k ∧ Hid (placeV p l 0 = placeV p (l.drop k) k) ∧ Below w.heap.size w wr) (fun _ i _ => l.length - (intOf i).toNat)
  case atStart => exact ⟨0, by omega, rfl, Lib.hid (by simp), Below.refl _ _⟩
  case round =>
    obtain ⟨k, hk, rfl, HS, HB⟩ := hrel
    rename World => wr
    by_cases hlt : k < l.length
    · obtain ⟨x, hxk⟩ := at_lt hlt
      have HD := Lib.hid (drop_cons hxk)
      have HM := Lib.hid hxk
      obtain ⟨b, o, hA, hb, ⟨h0, h1, h2, h3⟩, _⟩ := step_at hx hxk
      clear hxk
      subst hA
      have hc0 : wr.cell? ⟨b, o + k * 4, none⟩ = _ := (HB.cell (p := ⟨b, o + k * 4, none⟩) (show b < w.heap.size by omega)).trans h0
      have hc1 : wr.cell? ⟨b, o + k * 4 + 1, none⟩ = _ := (HB.cell (p := ⟨b, o + k * 4 + 1, none⟩) (show b < w.heap.size by omega)).trans h1
      have hc2 : wr.cell? ⟨b, o + k * 4 + 2, none⟩ = _ := (HB.cell (p := ⟨b, o + k * 4 + 2, none⟩) (show b < w.heap.size by omega)).trans h2
      have hc3 : wr.cell? ⟨b, o + k * 4 + 3, none⟩ = _ := (HB.cell (p := ⟨b, o + k * 4 + 3, none⟩) (show b < w.heap.size by omega)).trans h3
      clear h0 h1 h2 h3
      have hcall := HP.out wr x HB (List.mem_of_getElem? HM.out)
      cases hq : p x with
      | true =>
        rw [hq] at hcall
        have HE := Lib.hid (show placeV p l 0 = k by rw [HS.out, HD.out]; simp [placeV, hq])
        clear hq
        go_wp2_with (go_at_fn g; refine hcall.mono ?_; rintro e w' ⟨rfl, hb2⟩)
        go_ret
        exact ⟨by rw [← hr.out, HE.out]; rfl, below_join HB hb2⟩
      | false =>
        rw [hq] at hcall
        have HE := Lib.hid (show placeV p l 0 = placeV p (l.drop (k + 1)) ((k + 1 : Nat) : Int) by rw [HS.out, HD.out]; simp [placeV, hq])
        clear hq
        go_wp2_with (go_at_fn g; refine hcall.mono ?_; rintro e w' ⟨rfl, hb2⟩)
        go_roundw
        case rel => exact ⟨k + 1, by omega, by go_num, HE, below_join HB hb2⟩
        case measure => simp [intOf]; omega
    · have HE := Lib.hid (show placeV p l 0 = -1 by rw [HS.out, List.drop_eq_nil_of_le (by omega)]; rfl)
      go_wp2
      go_ret
      exact ⟨by rw [← hr.out, HE.out]; rfl, HB⟩
set_option maxHeartbeats 1000000 in
theorem contains_step (g : Nat) (lb : Array Value) (p : StepT → Bool) (eg : ∀ args w, (callFunc g args).run Tryz.prog w = .ok (.enter g args) w) (A : Option Addr) (c : Nat) (l : List StepT) (w : World) {B : Nat} (hB : B ≤ w.heap.size) (hx : Row stepR w B A l) (hl : l.length ≤ 9223372036854775807) (hp : AsksV g lb stepV p l w) :
    Calls Tryz.prog 110 #[.slice A l.length c, .func (.func g) #[] lb] w fun e w' => e = .returned (.bool (l.any p)) ∧ Below w.heap.size w w' := by
  have H := Lib.hid (index_step g lb p eg A c l w hB hx hl hp)
  have HE := Lib.hid (placeV_any p l 0 (by omega))
  clear hx hp hl
  generalize placeV p l 0 = r at *
  obtain ⟨q, hq⟩ : ∃ q, Hid (l.any p = q) := ⟨_, Lib.hid rfl⟩
  rw [hq.out]
  go_enter Tryz.func110, Tryz.ntmps110
  go_wp2_with fail
  refine H.out.mono ?_; rintro e w' ⟨rfl, hb⟩
  go_wp2
  go_ret
  exact ⟨ret_bool rfl (by rw [← hq.out, ← HE.out]), hb⟩
end Go.Proofs.YtndpdbofoojkhaaGreat.Fo
