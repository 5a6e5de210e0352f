/- joined for a claim: Fit6P, Fit6 -/
import Derived.Test.YtndpdbofoojkhaaGreatFont3
import Derived.Test.YtndpdbofoojkhaaGreatFont9
import Derived.Sort.CutIn
import Derived.Deep.RegionHeld3
/- A font's rule of two codes, and the glyphs of codes, as plain data. -/
namespace Go.Proofs.YtndpdbofoojkhaaGreat.Ft
open Go.Proofs.YtndpdbofoojkhaaGreat.Kit Go.Proofs.YtndpdbofoojkhaaGreat.Fo
set_option linter.unusedVariables false
set_option linter.unusedSimpArgs false

def charOf (d : FontD) (a : Int) : CharT := d.chars.getD (a - d.first).toNat (0, 0, 0, 0, 0, 0)
def inF (d : FontD) (a : Int) : Bool := decide (d.first ≤ a) && decide (a < d.first + d.chars.length)
def ruleP (d : FontD) (a b : Int) : Option StepT := if inF d a then ((stepsOf d (charOf d a)).find? fun x => x.2.2.1 == b).map (·.2) else none
def kernAt (s : StepT) : Int := 256 * (s.2.2.1 - 128) + s.2.2.2
def setFrom (d : FontD) : Int → List Int → List (Int × Int)
  | cur, [] => [(cur, 0)]
  | cur, c :: cs => match ruleP d cur c with
    | none => (cur, 0) :: setFrom d c cs
    | some s => if s.2.2.1 = 0 then setFrom d s.2.2.2 cs else (cur, d.kerns.getD (kernAt s).toNat 0) :: setFrom d c cs
def setG (d : FontD) : List Int → List (Int × Int)
  | [] => []
  | c :: cs => setFrom d c cs
def badC (d : FontD) (c : Int) : Bool := decide (c < 33) || decide (126 < c) || !hasB d c
def setE (d : FontD) (cs : List Int) : Int := if ligB d then (if cs.any (badC d) then 80 else 0) else 70

theorem marks_seen {d : FontD} {a : Int} : ∀ {xs : List (Int × StepT)} {st st' : List LigT × List Int}, marks d a xs st = some st' → st'.2 = (xs.map (·.2.2.1)).reverse ++ st.2
  | [], st, st', h => by cases h; rfl
  | x :: xs, st, st', h => by
    unfold marks at h
    obtain ⟨s1, h1, h2⟩ := Option.bind_eq_some_iff.1 h
    rw [marks_seen h2]
    unfold markS at h1
    split at h1
    · cases h1
    · split at h1
      · split at h1
        · cases h1
        · cases h1; simp
      · cases h1; simp
theorem made_char {d : FontD} : ∀ {cs : List CharT} {a : Int} {out z : List LigT}, madeFrom d cs a out = some z → ∀ {i : Nat} {c : CharT}, cs[i]? = some c → ∃ o st, marks d (a + i) (stepsOf d c) (o, []) = some st
  | [], a, out, z, h, i, c, hc => by simp at hc
  | x :: xs, a, out, z, h, i, c, hc => by
    unfold madeFrom at h
    obtain ⟨s1, h1, h2⟩ := Option.bind_eq_some_iff.1 h
    cases i with
    | zero => simp at hc; subst hc; exact ⟨out, s1, by simpa using h1⟩
    | succ i =>
      obtain ⟨o, st, h3⟩ := made_char h2 (i := i) (c := c) (by simpa using hc)
      exact ⟨o, st, by rw [← h3]; congr 1; push_cast; omega⟩
theorem lig_made {d : FontD} (h : ligB d = true) : tfmB d = true ∧ ∃ z, madeFrom d d.chars d.first [] = some z := by
  unfold ligB madeP at h
  split at h
  · rename_i ht
    exact ⟨ht, Option.isSome_iff_exists.1 h⟩
  · cases h
theorem from_mem {l : List StepT} : ∀ {n k : Nat} {x : Int × StepT}, x ∈ stepsFrom l n k → x = (-1, (0, 0, 0, 0)) ∨ ∃ j : Nat, l[j]? = some x.2
  | 0, k, x, h => by simp [stepsFrom] at h
  | n + 1, k, x, h => by
    unfold stepsFrom at h
    split at h
    · simp at h; exact .inl h
    · rename_i s hs
      rcases List.mem_cons.1 h with rfl | h
      · exact .inr ⟨k, hs⟩
      · split at h
        · simp at h
        · exact from_mem h
theorem steps_mem {d : FontD} {c : CharT} {x : Int × StepT} (h : x ∈ stepsOf d c) : x = (-1, (0, 0, 0, 0)) ∨ ∃ j : Nat, d.steps[j]? = some x.2 := by
  unfold stepsOf at h
  split at h
  · exact from_mem h
  · simp at h
/-- What a rule that is there says may be. -/
theorem rule_ok {d : FontD} (h : ligB d = true) {a b : Int} {s : StepT} (hs : ruleP d a b = some s) :
    (s.2.2.1 = 0 → hasB d s.2.2.2 = true) ∧ (s.2.2.1 ≠ 0 → 0 ≤ kernAt s ∧ kernAt s < d.kerns.length) ∧ ((0 ≤ s.1 ∧ s.1 < 256) ∧ (0 ≤ s.2.1 ∧ s.2.1 < 256) ∧ (0 ≤ s.2.2.1 ∧ s.2.2.1 < 256) ∧ (0 ≤ s.2.2.2 ∧ s.2.2.2 < 256)) := by
  obtain ⟨ht, z, hz⟩ := lig_made h
  unfold ruleP at hs
  have hin : inF d a = true := by
    by_cases hin : inF d a = true
    · exact hin
    · rw [if_neg hin] at hs; cases hs
  rw [if_pos hin] at hs
  simp only [inF, Bool.and_eq_true, decide_eq_true_eq] at hin
  obtain ⟨x, hx, rfl⟩ := Option.map_eq_some_iff.1 hs
  have hc : d.chars[(a - d.first).toNat]? = some (charOf d a) := by
    rw [charOf, List.getD_eq_getElem?_getD, List.getElem?_eq_getElem (by omega)]; rfl
  obtain ⟨o, st, hm⟩ := made_char hz hc
  obtain ⟨hp, ls, bs, hxs, has⟩ := List.find?_eq_some_iff_append.1 hx
  have hmem : x ∈ stepsOf d (charOf d a) := by rw [hxs]; simp
  rw [hxs, marks_append] at hm
  obtain ⟨s1, h1, h2⟩ := Option.bind_eq_some_iff.1 hm
  unfold marks at h2
  obtain ⟨s2, h3, h4⟩ := Option.bind_eq_some_iff.1 h2
  have hse := marks_seen h1
  have hno : x.2.2.1 ∉ s1.2 := by
    rw [hse]
    simp only [List.append_nil, List.mem_reverse, List.mem_map, not_exists, not_and]
    intro y hy e
    have := has y hy
    simp only [beq_iff_eq] at hp
    simp [e, hp] at this
  unfold markS at h3
  split at h3
  · cases h3
  rename_i hw
  simp only [wrongB, Bool.or_eq_true, Bool.and_eq_true, decide_eq_true_eq] at hw
  have hst : ∃ j : Nat, d.steps[j]? = some x.2 := by
    rcases steps_mem hmem with e | e
    · exact absurd (by rw [e]; decide) fun h : x.1 < 0 => hw (.inl h)
    · exact e
  obtain ⟨j, hj⟩ := hst
  have hk := step_ok ht hj
  refine ⟨fun h0 => ?_, fun h0 => ?_, hk⟩
  · split at h3
    · split at h3
      · cases h3
      · rename_i hb
        simp only [badLigB, Bool.or_eq_true, not_or] at hb
        simpa using hb.1.1.1.2
    · rename_i hn
      exact absurd ⟨h0, hno⟩ hn
  · unfold kernAt
    omega
theorem kern_ok {d : FontD} (h : ligB d = true) {a b : Int} {s : StepT} (hs : ruleP d a b = some s) (h0 : s.2.2.1 ≠ 0) : fixB (d.kerns.getD (kernAt s).toNat 0) = true := by
  obtain ⟨k1, k2⟩ := (rule_ok h hs).2.1 h0
  have ht := (lig_made h).1
  unfold tfmB tableB at ht
  simp only [Bool.and_eq_true, Bool.not_eq_true', List.any_eq_false] at ht
  rw [List.getD_eq_getElem?_getD, List.getElem?_eq_getElem (by omega), Option.getD_some]
  have := ht.1.1.2.1.1.2 (d.kerns[(kernAt s).toNat]'(by omega)) (List.getElem_mem _)
  simpa using this
/-- Each glyph is there, and its kern may be. -/
theorem set_ok {d : FontD} (h : ligB d = true) : ∀ (cs : List Int) (cur : Int), hasB d cur = true → (∀ c ∈ cs, hasB d c = true) → ∀ x ∈ setFrom d cur cs, hasB d x.1 = true ∧ fixB x.2 = true
  | [], cur, hc, _, x, hx => by
    simp only [setFrom, List.mem_singleton] at hx
    subst hx
    exact ⟨hc, show fixB 0 = true by decide⟩
  | c :: cs, cur, hc, hcs, x, hx => by
    have i1 := hcs c (by simp)
    have i2 : ∀ y ∈ cs, hasB d y = true := fun y hy => hcs y (by simp [hy])
    unfold setFrom at hx
    split at hx
    · rcases List.mem_cons.1 hx with rfl | hx
      · exact ⟨hc, show fixB 0 = true by decide⟩
      · exact set_ok h cs c i1 i2 x hx
    · rename_i s hs
      split at hx
      · rename_i h0
        exact set_ok h cs _ ((rule_ok h hs).1 h0) i2 x hx
      · rename_i h0
        rcases List.mem_cons.1 hx with rfl | hx
        · exact ⟨hc, kern_ok h hs h0⟩
        · exact set_ok h cs c i1 i2 x hx
theorem set_len (d : FontD) : ∀ (cs : List Int) (cur : Int), (setFrom d cur cs).length ≤ cs.length + 1
  | [], cur => by simp [setFrom]
  | c :: cs, cur => by
    unfold setFrom
    split
    · have := set_len d cs c; simp; omega
    · split
      · have := set_len d cs ‹StepT›.2.2.2; simp; omega
      · have := set_len d cs c; simp; omega
theorem setFrom_ne (d : FontD) : ∀ (cs : List Int) (cur : Int), setFrom d cur cs ≠ []
  | [], cur => by simp [setFrom]
  | c :: cs, cur => by
    unfold setFrom
    split
    · simp
    · split
      · exact setFrom_ne d cs _
      · simp
end Go.Proofs.YtndpdbofoojkhaaGreat.Ft
/- A font's rule of two codes (lig.rule): a range over a function that returns from within. -/
namespace Go.Proofs.YtndpdbofoojkhaaGreat.Ft
open Go.RowKit Go.Proofs.YtndpdbofoojkhaaGreat.Kit Go.Proofs.YtndpdbofoojkhaaGreat.Fo Go.Shelf
set_option linter.unusedVariables false
set_option linter.unusedSimpArgs false
attribute [local go_sem] Oper.semAt_some

abbrev stepC (s : StepT) : Array Value := #[.int .i64 s.1, .int .i64 s.2.1, .int .i64 s.2.2.1, .int .i64 s.2.2.2]
theorem rule_find {d : FontD} {x y : Int} (h : inF d x = true) {pre : List (Int × StepT)} {z : Int × StepT} (hp : pre <+: stepsOf d (charOf d x)) (hf : pre.find? (fun z => z.2.2.1 == y) = some z) : ruleP d x y = some z.2 := by
  obtain ⟨post, he⟩ := hp
  rw [ruleP, if_pos h, ← he, List.find?_append, hf]; rfl
theorem rule_none {d : FontD} {x y : Int} (h : inF d x = true) (hf : (stepsOf d (charOf d x)).find? (fun z => z.2.2.1 == y) = none) : ruleP d x y = none := by
  rw [ruleP, if_pos h, hf]; rfl

/-- A code that comes to its end: nothing is asked of its other ways out. -/
def onlyN (Q : Exit → Act → World → Prop) : Exit → Act → World → Prop
  | .normal, a, w => Q .normal a w
  | _, _, _ => False
theorem wpIn_onlyN {n : Nat} {P : Program} {c : Code} {Q : Exit → Act → World → Prop} {a : Act} {w : World} (h : c.wp P (onlyN Q) a w) : c.wpIn Fence.wide n P Q a w :=
  wpIn_wide.2 (wp_mono h (fun e a w h => by cases e <;> first | exact h | exact h.elim))
theorem steps_any (d : FontD) (a : FontA) (c : CharT) (w : World) :
    Calls Tryz.prog 70 #[fontV d a, charV c] w fun e w' => ∃ gf gc, e = .returned (.func (.func 91) #[] #[.pointer (some ⟨gc, 0, none⟩), .pointer (some ⟨gf, 0, none⟩)]) ∧ w.heap.size ≤ gf ∧ w.heap.size ≤ gc ∧ Box w' gf (fontCells d a) 26 ∧ Box w' gc (charCells c) 81 ∧ Below w.heap.size w w' := by
  refine (callsIn_wide (n := 1)).1 ((steps_in Fence.wide 1 trivial rfl d a c w).mono ?_)
  rintro e w' ⟨rfl, rfl⟩
  have hgf := (Box.new w (fontCells d a) 26).alloc (.cells (charCells c) 81)
  have hgc := Box.new (w.alloc (.cells (fontCells d a) 26)) (charCells c) 81
  simp only [World.size_alloc] at hgc
  exact ⟨_, _, rfl, Nat.le_refl _, by omega, hgf, hgc, below_alloc (below_alloc (Below.refl _ _) _) _⟩

set_option maxRecDepth 100000 in
set_option maxHeartbeats 4000000 in
theorem rule_any (d : FontD) (a : FontA) (x y : Int) (w : World) {B : Nat} (hB : B ≤ w.heap.size) (hF : FontIn w B d a) (ht : tfmB d = true) (hx : (Lit.int .i64 x).wf = true) :
    Calls Tryz.prog 49 #[fontV d a, .int .i64 x, .int .i64 y] w fun e W' => ∃ r, ruleP d x y = r ∧ e = .returned (.tuple #[stepV (r.getD (0, 0, 0, 0)), .bool r.isSome]) ∧ Below w.heap.size w W' := by
  refine (callsIn_wide (n := 6)).1 ?_
  obtain ⟨s1, s2, s3, s4, s5, s6, s7⟩ := tfm_sizes ht
  obtain ⟨i1, i2⟩ := i64_of hx
  have HT := Lib.hid ht
  clear hx s2 s3 s7 ht
  have hbx := (((Box.new w (fontCells d a) 26).alloc (.cells #[.int .i64 y] 3)).alloc (.cells #[.int .i64 0, .int .i64 0, .int .i64 0, .int .i64 0] 79)).alloc (.cells #[.bool false] 4)
  have hb5 := ((Box.new (w.alloc (.cells (fontCells d a) 26)) #[.int .i64 y] 3).alloc (.cells #[.int .i64 0, .int .i64 0, .int .i64 0, .int .i64 0] 79)).alloc (.cells #[.bool false] 4)
  have hb6 := (Box.new ((w.alloc (.cells (fontCells d a) 26)).alloc (.cells #[.int .i64 y] 3)) #[.int .i64 0, .int .i64 0, .int .i64 0, .int .i64 0] 79).alloc (.cells #[.bool false] 4)
  have hb7 := Box.new (((w.alloc (.cells (fontCells d a) 26)).alloc (.cells #[.int .i64 y] 3)).alloc (.cells #[.int .i64 0, .int .i64 0, .int .i64 0, .int .i64 0] 79)) #[.bool false] 4
  have hbw : Below w.heap.size w ((((w.alloc (.cells (fontCells d a) 26)).alloc (.cells #[.int .i64 y] 3)).alloc (.cells #[.int .i64 0, .int .i64 0, .int .i64 0, .int .i64 0] 79)).alloc (.cells #[.bool false] 4)) :=
    below_alloc (below_alloc (below_alloc ((Below.refl w.heap.size w).alloc (Nat.le_refl _) _) _) _) _
  simp only [World.size_alloc] at hb5 hb6 hb7
  refine callsIn_of_wp_marks Tryz.func49 rfl trivial ?_ rfl
  simp only [Tryz.ntmps49, List.size_toArray, List.length_cons, List.length_nil, Nat.reduceAdd, Nat.reduceSub, Array.replicate_succ, Array.replicate_zero, List.push_toArray, List.append_toArray, List.nil_append, List.cons_append]
  gi_upto_region 1 with fail
  generalize hW1 : (((w.alloc (.cells (fontCells d a) 26)).alloc (.cells #[.int .i64 y] 3)).alloc (.cells #[.int .i64 0, .int .i64 0, .int .i64 0, .int .i64 0] 79)).alloc (.cells #[.bool false] 4) = W1 at *
  clear hW1
  obtain ⟨p5, hp5⟩ : ∃ p, p = w.heap.size + 1 := ⟨_, rfl⟩
  obtain ⟨p6, hp6⟩ : ∃ p, p = p5 + 1 := ⟨_, rfl⟩
  obtain ⟨p7, hp7⟩ : ∃ p, p = p6 + 1 := ⟨_, rfl⟩
  rw [← hp5] at hb5 hb6 hb7 ⊢
  rw [← hp6] at hb6 hb7 ⊢
  rw [← hp7] at hb7 ⊢
  have HP : Hid (w.heap.size < p5 ∧ p5 < p6 ∧ p6 < p7) := Lib.hid (by omega)
  clear hp5 hp6 hp7
  obtain ⟨c0, c1, c2, c3, c4, c5, c6, c7, c8, c9, c10⟩ := font_cells hbx
  have k5 : W1.cell? ⟨p5, 0, none⟩ = some (.int .i64 y) := hb5.cell 0 rfl
  have n67 : p6 ≠ p7 := by have := HP.out; omega
  have n76 : p7 ≠ p6 := by have := HP.out; omega
  have k60 : W1.cell? ⟨p6, 0, none⟩ = some (.int .i64 0) := hb6.cell 0 rfl
  have k61 : W1.cell? ⟨p6, 1, none⟩ = some (.int .i64 0) := hb6.cell 1 rfl
  have k62 : W1.cell? ⟨p6, 2, none⟩ = some (.int .i64 0) := hb6.cell 2 rfl
  have k63 : W1.cell? ⟨p6, 3, none⟩ = some (.int .i64 0) := hb6.cell 3 rfl
  have k7 : W1.cell? ⟨p7, 0, none⟩ = some (.bool false) := hb7.cell 0 rfl
  have g6 := hb6.free 0
  have g61 := hb6.free 1
  have g62 := hb6.free 2
  have g63 := hb6.free 3
  have g7 := hb7.free 0
  by_cases h1 : x < d.first
  · have HR : Hid (ruleP d x y = none) := Lib.hid (by rw [ruleP, if_neg (by simp [inF]; omega)])
    have F1 : (x < d.first) = True := eq_true h1
    clear h1 hF c0 c1 c3 c4 c5 c6 c7 c8 c9 c10
    gi_wp2_with fail
    have r6 := (((((hb6.set 0 (.int .i64 0)).set 1 (.int .i64 0)).set 2 (.int .i64 0)).set 3 (.int .i64 0)).far (p := ⟨p7, 0, none⟩) n67 (.bool false))
    have r7 := ((((hb7.far (p := ⟨p6, 0, none⟩) n76 (.int .i64 0)).far (p := ⟨p6, 1, none⟩) n76 (.int .i64 0)).far (p := ⟨p6, 2, none⟩) n76 (.int .i64 0)).far (p := ⟨p6, 3, none⟩) n76 (.int .i64 0)).set 0 (.bool false)
    have hbe : Below w.heap.size w (((((W1.setCell ⟨p6, 0, none⟩ (.int .i64 0)).setCell ⟨p6, 1, none⟩ (.int .i64 0)).setCell ⟨p6, 2, none⟩ (.int .i64 0)).setCell ⟨p6, 3, none⟩ (.int .i64 0)).setCell ⟨p7, 0, none⟩ (.bool false)) := by
      have hp := HP.out
      exact ((((hbw.setCell (p := ⟨p6, 0, none⟩) (by show w.heap.size ≤ p6; omega) _).setCell (p := ⟨p6, 1, none⟩) (by show w.heap.size ≤ p6; omega) _).setCell (p := ⟨p6, 2, none⟩) (by show w.heap.size ≤ p6; omega) _).setCell (p := ⟨p6, 3, none⟩) (by show w.heap.size ≤ p6; omega) _).setCell (p := ⟨p7, 0, none⟩) (by show w.heap.size ≤ p7; omega) _
    generalize (((((W1.setCell ⟨p6, 0, none⟩ (.int .i64 0)).setCell ⟨p6, 1, none⟩ (.int .i64 0)).setCell ⟨p6, 2, none⟩ (.int .i64 0)).setCell ⟨p6, 3, none⟩ (.int .i64 0)).setCell ⟨p7, 0, none⟩ (.bool false)) = W5 at *
    have q0 := r6.cell 0 (v := .int .i64 0) rfl
    have q1 := r6.cell 1 (v := .int .i64 0) rfl
    have q2 := r6.cell 2 (v := .int .i64 0) rfl
    have q3 := r6.cell 3 (v := .int .i64 0) rfl
    have q7 := r7.cell 0 (v := .bool false) rfl
    refine ⟨.tuple #[stepV (0, 0, 0, 0), .bool false], ?_, none, HR.out, rfl, hbe⟩
    simp [results, Tryz.f49, go_sem, q0, q1, q2, q3, q7]
  by_cases h2 : d.first + (d.chars.length : Int) ≤ x
  · have HR : Hid (ruleP d x y = none) := Lib.hid (by rw [ruleP, if_neg (by simp [inF]; omega)])
    have F1 : (x < d.first) = False := eq_false h1
    have F2 : (d.first + (d.chars.length : Int) ≤ x) = True := eq_true h2
    clear h1 h2 hF c0 c1 c4 c5 c6 c7 c8 c9 c10
    gi_wp2_with fail
    have r6 := (((((hb6.set 0 (.int .i64 0)).set 1 (.int .i64 0)).set 2 (.int .i64 0)).set 3 (.int .i64 0)).far (p := ⟨p7, 0, none⟩) n67 (.bool false))
    have r7 := ((((hb7.far (p := ⟨p6, 0, none⟩) n76 (.int .i64 0)).far (p := ⟨p6, 1, none⟩) n76 (.int .i64 0)).far (p := ⟨p6, 2, none⟩) n76 (.int .i64 0)).far (p := ⟨p6, 3, none⟩) n76 (.int .i64 0)).set 0 (.bool false)
    have hbe : Below w.heap.size w (((((W1.setCell ⟨p6, 0, none⟩ (.int .i64 0)).setCell ⟨p6, 1, none⟩ (.int .i64 0)).setCell ⟨p6, 2, none⟩ (.int .i64 0)).setCell ⟨p6, 3, none⟩ (.int .i64 0)).setCell ⟨p7, 0, none⟩ (.bool false)) := by
      have hp := HP.out
      exact ((((hbw.setCell (p := ⟨p6, 0, none⟩) (by show w.heap.size ≤ p6; omega) _).setCell (p := ⟨p6, 1, none⟩) (by show w.heap.size ≤ p6; omega) _).setCell (p := ⟨p6, 2, none⟩) (by show w.heap.size ≤ p6; omega) _).setCell (p := ⟨p6, 3, none⟩) (by show w.heap.size ≤ p6; omega) _).setCell (p := ⟨p7, 0, none⟩) (by show w.heap.size ≤ p7; omega) _
    generalize (((((W1.setCell ⟨p6, 0, none⟩ (.int .i64 0)).setCell ⟨p6, 1, none⟩ (.int .i64 0)).setCell ⟨p6, 2, none⟩ (.int .i64 0)).setCell ⟨p6, 3, none⟩ (.int .i64 0)).setCell ⟨p7, 0, none⟩ (.bool false)) = W5 at *
    have q0 := r6.cell 0 (v := .int .i64 0) rfl
    have q1 := r6.cell 1 (v := .int .i64 0) rfl
    have q2 := r6.cell 2 (v := .int .i64 0) rfl
    have q3 := r6.cell 3 (v := .int .i64 0) rfl
    have q7 := r7.cell 0 (v := .bool false) rfl
    refine ⟨.tuple #[stepV (0, 0, 0, 0), .bool false], ?_, none, HR.out, rfl, hbe⟩
    simp [results, Tryz.f49, go_sem, q0, q1, q2, q3, q7]
  obtain ⟨k, rfl⟩ : ∃ k : Nat, x = d.first + k := ⟨(x - d.first).toNat, by omega⟩
  have hk : k < d.chars.length := by omega
  obtain ⟨c, hc⟩ := at_lt hk
  have HI : Hid (inF d (d.first + (k : Int)) = true) := Lib.hid (by simp [inF]; omega)
  have HC : Hid (charOf d (d.first + (k : Int)) = c) := Lib.hid (by rw [charOf, show (d.first + (k : Int) - d.first).toNat = k by omega, List.getD_eq_getElem?_getD, hc]; rfl)
  have HCc := Lib.hid (char_ok HT.out hc)
  obtain ⟨b, o, hA, hb, ⟨e0, e1, e2, e3, e4, e5⟩, _⟩ := char_at (hF.chars.mono (hbw.mono hB)) hc
  have HA := Lib.hid hA
  rw [hA] at c3
  have F1 : (d.first + (k : Int) < d.first) = False := eq_false h1
  have F2 : (d.first + (d.chars.length : Int) ≤ d.first + (k : Int)) = False := eq_false h2
  clear h1 h2 hc hA
  have hFw := hF.mono (hbw.mono hB)
  clear hF
  gi_upto_region 3 with fail
  refine wpIn_onlyN ?_
  have hst := steps_any d a c
  unfold fontV at hst
  rw [HA.out] at hst
  have HSt := Lib.hid hst
  clear hst
  have HK : Hid (∀ w', Below W1.heap.size W1 w' → Below W1.heap.size W1 w' ∧ w'.cell? ⟨w.heap.size, 0, none⟩ = some (.int .i64 d.sum) ∧ w'.cell? ⟨w.heap.size, 1, none⟩ = some (.int .i64 d.design) ∧ w'.cell? ⟨w.heap.size, 2, none⟩ = some (.int .i64 d.first) ∧ w'.cell? ⟨w.heap.size, 3, none⟩ = some (.slice (some ⟨b, o, none⟩) d.chars.length a.cc) ∧ w'.cell? ⟨w.heap.size, 4, none⟩ = some (.slice a.w d.widths.length a.cw) ∧ w'.cell? ⟨w.heap.size, 5, none⟩ = some (.slice a.h d.heights.length a.ch) ∧ w'.cell? ⟨w.heap.size, 6, none⟩ = some (.slice a.d d.depths.length a.cd) ∧ w'.cell? ⟨w.heap.size, 7, none⟩ = some (.slice a.i d.italics.length a.ci) ∧ w'.cell? ⟨w.heap.size, 8, none⟩ = some (.slice a.s d.steps.length a.cs) ∧ w'.cell? ⟨w.heap.size, 9, none⟩ = some (.slice a.k d.kerns.length a.ck) ∧ w'.cell? ⟨w.heap.size, 10, none⟩ = some (.slice a.p d.params.length a.cp) ∧ w'.cell? ⟨b, o + k * 6, none⟩ = some (.int .i64 c.1) ∧ w'.cell? ⟨b, o + k * 6 + 1, none⟩ = some (.int .i64 c.2.1) ∧ w'.cell? ⟨b, o + k * 6 + 2, none⟩ = some (.int .i64 c.2.2.1) ∧ w'.cell? ⟨b, o + k * 6 + 3, none⟩ = some (.int .i64 c.2.2.2.1) ∧ w'.cell? ⟨b, o + k * 6 + 4, none⟩ = some (.int .i64 c.2.2.2.2.1) ∧ w'.cell? ⟨b, o + k * 6 + 5, none⟩ = some (.int .i64 c.2.2.2.2.2)) := Lib.hid fun w' hb => ⟨hb, later hb c0, later hb c1, later hb c2, later hb c3, later hb c4, later hb c5, later hb c6, later hb c7, later hb c8, later hb c9, later hb c10, later hb e0, later hb e1, later hb e2, later hb e3, later hb e4, later hb e5⟩
  have hwr : IntKind.i64.wrap (d.first + (k : Int) - d.first) = (k : Int) := by rw [show d.first + (k : Int) - d.first = (k : Int) by omega]; exact IntWalk.i64_in _ (by omega)
  have hi0 : (0 : Int) ≤ (k : Int) := by omega
  have hi1 : (k : Int) < (d.chars.length : Int) := by omega
  clear c0 c1 c2 c3 c4 c5 c6 c7 c8 c9 c10 e0 e1 e2 e3 e4 e5 k5 k60 k61 k62 k63 k7 g6 g61 g62 g63 g7
  go_region_held3 (fun w' => Below W1.heap.size W1 w' ∧ w'.cell? ⟨w.heap.size, 0, none⟩ = some (.int .i64 d.sum) ∧ w'.cell? ⟨w.heap.size, 1, none⟩ = some (.int .i64 d.design) ∧ w'.cell? ⟨w.heap.size, 2, none⟩ = some (.int .i64 d.first) ∧ w'.cell? ⟨w.heap.size, 3, none⟩ = some (.slice (some ⟨b, o, none⟩) d.chars.length a.cc) ∧ w'.cell? ⟨w.heap.size, 4, none⟩ = some (.slice a.w d.widths.length a.cw) ∧ w'.cell? ⟨w.heap.size, 5, none⟩ = some (.slice a.h d.heights.length a.ch) ∧ w'.cell? ⟨w.heap.size, 6, none⟩ = some (.slice a.d d.depths.length a.cd) ∧ w'.cell? ⟨w.heap.size, 7, none⟩ = some (.slice a.i d.italics.length a.ci) ∧ w'.cell? ⟨w.heap.size, 8, none⟩ = some (.slice a.s d.steps.length a.cs) ∧ w'.cell? ⟨w.heap.size, 9, none⟩ = some (.slice a.k d.kerns.length a.ck) ∧ w'.cell? ⟨w.heap.size, 10, none⟩ = some (.slice a.p d.params.length a.cp) ∧ w'.cell? ⟨b, o + k * 6, none⟩ = some (.int .i64 c.1) ∧ w'.cell? ⟨b, o + k * 6 + 1, none⟩ = some (.int .i64 c.2.1) ∧ w'.cell? ⟨b, o + k * 6 + 2, none⟩ = some (.int .i64 c.2.2.1) ∧ w'.cell? ⟨b, o + k * 6 + 3, none⟩ = some (.int .i64 c.2.2.2.1) ∧ w'.cell? ⟨b, o + k * 6 + 4, none⟩ = some (.int .i64 c.2.2.2.2.1) ∧ w'.cell? ⟨b, o + k * 6 + 5, none⟩ = some (.int .i64 c.2.2.2.2.2))
    (first | exact HK.out _ (by repeat (first | (with_reducible exact Below.refl _ _) | (with_reducible apply below_drew) | (with_reducible refine below_join ?_ (by assumption)) | exact (‹Below W1.heap.size W1 _ ∧ _›.1))))
    (first
      | (go_at_call 70; with_reducible refine (HSt.out _).mono ?_; rintro e wq ⟨gf, gc, rfl, hgf0, hgc0, hgf, hgc, hbq⟩))
  have hend : Below W1.heap.size W1 wq := (‹Below W1.heap.size W1 wq ∧ _›).1
  clear HK hwr hi0 hi1
  simp only [onlyN]
  gi_wp2_with fail
  have hw2 : Below w.heap.size w wq := below_join hbw (hend.mono (Nat.le_refl _))
  have hn0 : w.heap.size ≤ wq.heap.size := hw2.size
  have hFW : FontIn wq w.heap.size d a := (hFw.mono (hend.mono (by have := hbw.size; omega))).up hB
  have hb5q := hb5.below hend
  have hb6q := hb6.below hend
  have hb7q := hb7.below hend
  have HQ : Hid (w.heap.size < p5 ∧ p5 < p6 ∧ p6 < p7 ∧ p7 < gf ∧ p7 < gc ∧ gf < wq.heap.size ∧ gc < wq.heap.size) := Lib.hid (by
    have := HP.out; have := hb7.lt; have := hgf.lt; have := hgc.lt; have h1 : W1.heap.size ≤ gf := hgf0; have h2 : W1.heap.size ≤ gc := hgc0; omega)
  clear hbx hbw hb5 hb6 hb7 hFw hend hgf0 hgc0 hbq HP n67 n76 F1 F2 hk hb
  generalize wq = W2 at *
  obtain ⟨II, hII⟩ : ∃ II : List Came → World → Prop, II = fun pre W => Hid ((raw pre).find? (fun z => z.2.2.1 == y) = none) ∧ Box W p5 #[.int .i64 y] 3 ∧ Box W p6 (stepC (0, 0, 0, 0)) 79 ∧ Box W p7 #[.bool false] 4 ∧ Below w.heap.size w W ∧ W2.heap.size ≤ W.heap.size := ⟨_, rfl⟩
  obtain ⟨Ix, hIx⟩ : ∃ Ix : Code → List Came → World → Prop, Ix = fun c pre W => c = .ret ∧ ∃ z, Hid ((raw pre).find? (fun z => z.2.2.1 == y) = some z) ∧ Box W p6 (stepC z.2) 79 ∧ Box W p7 #[.bool true] 4 ∧ Below w.heap.size w W := ⟨_, rfl⟩
  have hIo : OwnFrom W2.heap.size II := by
    subst hII
    rintro s X Y row ⟨e1, e2, e3, e4, e5, e6⟩ hg hr
    exact ⟨e1, box_keep (β := Unit) e2 hg hr, box_keep (β := Unit) e3 hg hr, box_keep (β := Unit) e4 hg hr, ownFrom_below (β := Unit) (Nat.le_refl _) hn0 () X Y row e5 hg hr, Nat.le_trans e6 hg.size⟩
  have hIxo : ∀ c, OwnFrom W2.heap.size (Ix c) := by
    subst hIx
    rintro c s X Y row ⟨e1, z, e2, e3, e4, e5⟩ hg hr
    exact ⟨e1, z, e2, box_keep (β := Unit) e3 hg hr, box_keep (β := Unit) e4 hg hr, ownFrom_below (β := Unit) (Nat.le_refl _) hn0 () X Y row e5 hg hr⟩
  have h0 : II [] W2 := by
    subst hII
    exact ⟨Lib.hid rfl, hb5q, hb6q, hb7q, hw2, Nat.le_refl _⟩
  refine wpIn_rangeFunc_ownH rfl (by decide) (gf := 91) (lb := #[.pointer (some ⟨gc, 0, none⟩), .pointer (some ⟨gf, 0, none⟩)]) rfl trivial (enters_of Tryz.func91 (by kernel_rfl) rfl)
    (steps_stops Fence.wide 5 trivial rfl (by decide) gc gf w.heap.size d a c HT.out HCc.out W2 hn0 hgc hgf hFW) (fun h k => h.trans k)
    (fun W l o o' hl hlo h1 h2 => ⟨belowK_b hn0 W l o o' hl hlo h1 h2, World.putObj_heap_other (by have := HQ.out; omega), World.putObj_heap_other (by have := HQ.out; omega)⟩)
    (Below.refl _ _) (fun _ => rfl) II Ix hIo hIxo h0
    (fun x a' W => ∃ gs, W2.heap.size ≤ gs ∧ Box W gs #[.int .i64 x.1.2.1, .int .i64 x.1.2.2.1, .int .i64 x.1.2.2.2.1, .int .i64 x.1.2.2.2.2] 79 ∧ a' = { tmps := #[fontV d a, .int .i64 (d.first + (k : Int)), .int .i64 y, .pointer (some ⟨w.heap.size, 0, none⟩), undef, .pointer (some ⟨p5, 0, none⟩), .pointer (some ⟨p6, 0, none⟩), .pointer (some ⟨p7, 0, none⟩), undef, .pointer (some ⟨gs, 0, none⟩), .int .i64 (d.first + (k : Int)), .pointer (some ⟨w.heap.size, 2, none⟩), .int .i64 d.first, .bool false, .bool false, .int .i64 (d.first + (k : Int)), .pointer (some ⟨w.heap.size, 2, none⟩), .int .i64 d.first, .pointer (some ⟨w.heap.size, 3, none⟩), .slice (some ⟨b, o, none⟩) d.chars.length a.cc, .int .i64 (d.chars.length : Int), .int .i64 (d.first + (d.chars.length : Int)), .bool false, .bool false, undef, .agg #[.int .i64 d.sum, .int .i64 d.design, .int .i64 d.first, .slice (some ⟨b, o, none⟩) d.chars.length a.cc, .slice a.w d.widths.length a.cw, .slice a.h d.heights.length a.ch, .slice a.d d.depths.length a.cd, .slice a.i d.italics.length a.ci, .slice a.s d.steps.length a.cs, .slice a.k d.kerns.length a.ck, .slice a.p d.params.length a.cp], .pointer (some ⟨w.heap.size, 3, none⟩), .slice (some ⟨b, o, none⟩) d.chars.length a.cc, .int .i64 (d.first + (k : Int)), .pointer (some ⟨w.heap.size, 2, none⟩), .int .i64 d.first, .int .i64 (k : Int), .pointer (some ⟨b, o + k * 6, none⟩), charV c, .func (.func 91) #[] #[.pointer (some ⟨gc, 0, none⟩), .pointer (some ⟨gf, 0, none⟩)], .int .i64 x.1.1, stepV x.1.2, undef, undef, undef, undef, undef, undef], defers := [] })
    ?hAx ?assign ?body ?done ?stop
  case hAx =>
    rintro x a' s X Y row ⟨gs, h1, h2, h3⟩ hg hr
    exact ⟨gs, h1, box_keep (β := Unit) h2 hg hr, h3⟩
  case assign =>
    rintro l pre x W K hi hK
    have hi' := hi
    rw [hII] at hi'
    obtain ⟨e1, e2, e3, e4, e5, e6⟩ := hi'
    gi_wp2
    have hT := (Touch.refl (fun _ => False) W).alloc (.cells #[.int .i64 x.1.2.1, .int .i64 x.1.2.2.1, .int .i64 x.1.2.2.2.1, .int .i64 x.1.2.2.2.2] 79)
    have hq := HQ.out
    refine hK _ _ (hT.keepsFrom (by simp)) ⟨hT.toBelow (by omega) (by simp), hT.block gf (by omega) (by simp), hT.block gc (by omega) (by simp)⟩ ?_ ⟨W.heap.size, e6, Box.new W _ _, rfl⟩
    rw [hII]
    exact ⟨e1, e2.alloc _, e3.alloc _, e4.alloc _, below_alloc e5 _, by simp; omega⟩
  case body =>
    rintro l pre ⟨⟨kk, sk, nx, op, rm⟩, hx⟩ a' W hl hr hi ⟨gs, hgs, hbs, rfl⟩ hlen
    have hi0 := hi
    rw [hII] at hi
    obtain ⟨e1, e2, e3, e4, e5, e6⟩ := hi
    dsimp only at hbs
    have hq := HQ.out
    have hraw : raw (pre ++ [⟨(kk, sk, nx, op, rm), hx⟩]) = raw pre ++ [(kk, sk, nx, op, rm)] := by simp [raw]
    have s0 : W.cell? ⟨gs, 0, none⟩ = some (.int .i64 sk) := hbs.cell 0 rfl
    have s1' : W.cell? ⟨gs, 1, none⟩ = some (.int .i64 nx) := hbs.cell 1 rfl
    have s2' : W.cell? ⟨gs, 2, none⟩ = some (.int .i64 op) := hbs.cell 2 rfl
    have s3' : W.cell? ⟨gs, 3, none⟩ = some (.int .i64 rm) := hbs.cell 3 rfl
    have k5 : W.cell? ⟨p5, 0, none⟩ = some (.int .i64 y) := e2.cell 0 rfl
    have k60 : W.cell? ⟨p6, 0, none⟩ = some (.int .i64 0) := e3.cell 0 rfl
    have k61 : W.cell? ⟨p6, 1, none⟩ = some (.int .i64 0) := e3.cell 1 rfl
    have k62 : W.cell? ⟨p6, 2, none⟩ = some (.int .i64 0) := e3.cell 2 rfl
    have k63 : W.cell? ⟨p6, 3, none⟩ = some (.int .i64 0) := e3.cell 3 rfl
    have k7 : W.cell? ⟨p7, 0, none⟩ = some (.bool false) := e4.cell 0 rfl
    have f60 := e3.free 0
    have f61 := e3.free 1
    have f62 := e3.free 2
    have f63 := e3.free 3
    have f7 := e4.free 0
    have n67 : p6 ≠ p7 := by omega
    have n76 : p7 ≠ p6 := by omega
    by_cases hn : nx = y
    · have HF : Hid (KeepsFrom W2.heap.size W (((((W.setCell ⟨p6, 0, none⟩ (.int .i64 sk)).setCell ⟨p6, 1, none⟩ (.int .i64 nx)).setCell ⟨p6, 2, none⟩ (.int .i64 op)).setCell ⟨p6, 3, none⟩ (.int .i64 rm)).setCell ⟨p7, 0, none⟩ (.bool true)) ∧ Ix .ret (pre ++ [⟨(kk, sk, nx, op, rm), hx⟩]) (((((W.setCell ⟨p6, 0, none⟩ (.int .i64 sk)).setCell ⟨p6, 1, none⟩ (.int .i64 nx)).setCell ⟨p6, 2, none⟩ (.int .i64 op)).setCell ⟨p6, 3, none⟩ (.int .i64 rm)).setCell ⟨p7, 0, none⟩ (.bool true))) := Lib.hid (by
        have T := (((((Touch.refl (fun k => k = p6 ∨ k = p7) W).set ⟨p6, 0, none⟩ (.int .i64 sk) (.inl rfl)).set ⟨p6, 1, none⟩ (.int .i64 nx) (.inl rfl)).set ⟨p6, 2, none⟩ (.int .i64 op) (.inl rfl)).set ⟨p6, 3, none⟩ (.int .i64 rm) (.inl rfl)).set ⟨p7, 0, none⟩ (.bool true) (.inr rfl)
        refine ⟨T.keepsFrom (by intro j; omega), ?_⟩
        rw [hIx]
        refine ⟨rfl, (kk, sk, nx, op, rm), Lib.hid ?_, ?_, ?_, e5.trans (T.toBelow (by omega) (by intro j; omega))⟩
        · rw [hraw, List.find?_append, e1.out]
          simp [hn]
        · exact ((((e3.set 0 (.int .i64 sk)).set 1 (.int .i64 nx)).set 2 (.int .i64 op)).set 3 (.int .i64 rm)).far (p := ⟨p7, 0, none⟩) n67 (.bool true)
        · exact ((((e4.far (p := ⟨p6, 0, none⟩) n76 (.int .i64 sk)).far (p := ⟨p6, 1, none⟩) n76 (.int .i64 nx)).far (p := ⟨p6, 2, none⟩) n76 (.int .i64 op)).far (p := ⟨p6, 3, none⟩) n76 (.int .i64 rm)).set 0 (.bool true))
      have F1 : (nx == y) = true := by simpa using hn
      clear hII hIx hIo hIxo h0 hi0 hb5q hb6q hb7q hraw hn
      gi_wp2_with fail
      exact HF.out
    · have HF : Hid (KeepsFrom W2.heap.size W W ∧ Kept w.heap.size gf gc W W ∧ II (pre ++ [⟨(kk, sk, nx, op, rm), hx⟩]) W) := Lib.hid (by
        have T := Touch.refl (fun _ => False) W
        refine ⟨T.keepsFrom (by simp), Kept.refl _ _ _ _, ?_⟩
        rw [hII]
        refine ⟨Lib.hid ?_, e2, e3, e4, e5, e6⟩
        rw [hraw, List.find?_append, e1.out]
        simp [hn])
      have F1 : (nx == y) = false := by simpa using hn
      clear hII hIx hIo hIxo h0 hi0 hb5q hb6q hb7q hraw hn
      gi_wp2_with fail
      exact HF.out
  case done =>
    rintro D ys W hD hraw hi hK
    rw [hII] at hi
    obtain ⟨e1, e2, e3, e4, e5, e6⟩ := hi
    have HE : Hid (ruleP d (d.first + (k : Int)) y = none) := Lib.hid (rule_none HI.out (by rw [HC.out, ← hraw]; exact e1.out))
    clear hraw e1 hII hIx hIo hIxo h0 hb5q hb6q hb7q
    have hq := HQ.out
    have k60 : W.cell? ⟨p6, 0, none⟩ = some (.int .i64 0) := e3.cell 0 rfl
    have k61 : W.cell? ⟨p6, 1, none⟩ = some (.int .i64 0) := e3.cell 1 rfl
    have k62 : W.cell? ⟨p6, 2, none⟩ = some (.int .i64 0) := e3.cell 2 rfl
    have k63 : W.cell? ⟨p6, 3, none⟩ = some (.int .i64 0) := e3.cell 3 rfl
    have k7 : W.cell? ⟨p7, 0, none⟩ = some (.bool false) := e4.cell 0 rfl
    have f60 := e3.free 0
    have f61 := e3.free 1
    have f62 := e3.free 2
    have f63 := e3.free 3
    have f7 := e4.free 0
    have n67 : p6 ≠ p7 := by omega
    have n76 : p7 ≠ p6 := by omega
    gi_wp2_with fail
    have T := (((((Touch.refl (fun k => k = p6 ∨ k = p7) W).set ⟨p6, 0, none⟩ (.int .i64 0) (.inl rfl)).set ⟨p6, 1, none⟩ (.int .i64 0) (.inl rfl)).set ⟨p6, 2, none⟩ (.int .i64 0) (.inl rfl)).set ⟨p6, 3, none⟩ (.int .i64 0) (.inl rfl)).set ⟨p7, 0, none⟩ (.bool false) (.inr rfl)
    have r6 := ((((e3.set 0 (.int .i64 0)).set 1 (.int .i64 0)).set 2 (.int .i64 0)).set 3 (.int .i64 0)).far (p := ⟨p7, 0, none⟩) n67 (.bool false)
    have r7 := ((((e4.far (p := ⟨p6, 0, none⟩) n76 (.int .i64 0)).far (p := ⟨p6, 1, none⟩) n76 (.int .i64 0)).far (p := ⟨p6, 2, none⟩) n76 (.int .i64 0)).far (p := ⟨p6, 3, none⟩) n76 (.int .i64 0)).set 0 (.bool false)
    have hbe := e5.trans (T.toBelow (n := w.heap.size) (by omega) (by intro j; omega))
    have hKD := T.obj hK (by omega)
    generalize (((((W.setCell ⟨p6, 0, none⟩ (.int .i64 0)).setCell ⟨p6, 1, none⟩ (.int .i64 0)).setCell ⟨p6, 2, none⟩ (.int .i64 0)).setCell ⟨p6, 3, none⟩ (.int .i64 0)).setCell ⟨p7, 0, none⟩ (.bool false)) = W5 at *
    have hn6 : p6 ∉ [D] := by simp; omega
    have hn7 : p7 ∉ [D] := by simp; omega
    have q0 := (shut_box r6 (Ds := [D]) hn6).cell 0 (v := .int .i64 0) rfl
    have q1 := (shut_box r6 (Ds := [D]) hn6).cell 1 (v := .int .i64 0) rfl
    have q2 := (shut_box r6 (Ds := [D]) hn6).cell 2 (v := .int .i64 0) rfl
    have q3 := (shut_box r6 (Ds := [D]) hn6).cell 3 (v := .int .i64 0) rfl
    have q7 := (shut_box r7 (Ds := [D]) hn7).cell 0 (v := .bool false) rfl
    refine leaves_marks [D] W5 (by simp) (fun E hE => by rw [List.mem_singleton.1 hE]; exact hKD) ?_
    refine ⟨.tuple #[stepV (0, 0, 0, 0), .bool false], ?_, none, HE.out, rfl, shut_below hbe (fun E hE => by rw [List.mem_singleton.1 hE]; omega)⟩
    simp [results, Tryz.f49, go_sem, q0, q1, q2, q3, q7]
  case stop =>
    rintro D c' pre W hD hraw hi hK
    rw [hIx] at hi
    obtain ⟨rfl, z, e2, e3, e4, e5⟩ := hi
    have HE : Hid (ruleP d (d.first + (k : Int)) y = some z.2) := Lib.hid (rule_find HI.out (by rw [HC.out]; exact hraw) e2.out)
    clear hraw e2 hII hIx hIo hIxo h0 hb5q hb6q hb7q
    have hq := HQ.out
    gi_wp2_with fail
    have hn6 : p6 ∉ [D] := by simp; omega
    have hn7 : p7 ∉ [D] := by simp; omega
    have q0 := (shut_box e3 (Ds := [D]) hn6).cell 0 (v := .int .i64 z.2.1) rfl
    have q1 := (shut_box e3 (Ds := [D]) hn6).cell 1 (v := .int .i64 z.2.2.1) rfl
    have q2 := (shut_box e3 (Ds := [D]) hn6).cell 2 (v := .int .i64 z.2.2.2.1) rfl
    have q3 := (shut_box e3 (Ds := [D]) hn6).cell 3 (v := .int .i64 z.2.2.2.2) rfl
    have q7 := (shut_box e4 (Ds := [D]) hn7).cell 0 (v := .bool true) rfl
    refine leaves_marks [D] W (by simp) (fun E hE => by rw [List.mem_singleton.1 hE]; exact hK) ?_
    refine ⟨.tuple #[stepV z.2, .bool true], ?_, some z.2, HE.out, rfl, shut_below e5 (fun E hE => by rw [List.mem_singleton.1 hE]; omega)⟩
    simp [results, Tryz.f49, go_sem, q0, q1, q2, q3, q7]
end Go.Proofs.YtndpdbofoojkhaaGreat.Ft
