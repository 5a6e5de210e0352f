/- joined for a claim: Font7, Font8, Font9 -/
import Derived.RangeFuncNested
import Derived.RangeFuncBound
import Derived.RangeFuncCalls
import Derived.RangeFuncLeaves
import Derived.Shelf.Abstract
import Derived.Shelf.RegionOpen
import Derived.WalkKit
import Derived.OwnWalkIn
import Derived.TacticsInMore
import Derived.LoopNIn
import Derived.LoopIn
import Derived.Test.YtndpdbofoojkhaaGreatFont6b
import Derived.Maps.OwnIn
import Derived.Maps.AppendAt
import Derived.Test.YtndpdbofoojkhaaGreatZero
/- The steps of a character, one behind the other, as an iterator. -/
namespace Go.Proofs.YtndpdbofoojkhaaGreat.Fo
open Go.RowKit Go.Proofs.YtndpdbofoojkhaaGreat.Kit Go.Shelf
set_option linter.unusedVariables false
set_option linter.unusedSimpArgs false
attribute [local go_sem] Oper.semAt_some

/-- What an iterator over steps hands over. -/
def cameB (x : Int × StepT) : Prop := (-1 ≤ x.1 ∧ x.1 < 256) ∧ (0 ≤ x.2.1 ∧ x.2.1 < 256) ∧ (0 ≤ x.2.2.1 ∧ x.2.2.1 < 256) ∧ (0 ≤ x.2.2.2.1 ∧ x.2.2.2.1 < 256) ∧ (0 ≤ x.2.2.2.2 ∧ x.2.2.2.2 < 256)
abbrev Came := { x : Int × StepT // cameB x }
abbrev raw (l : List Came) : List (Int × StepT) := l.map Subtype.val
abbrev cameV (x : Came) : Array Value := #[.int .i64 x.1.1, stepV x.1.2]
def noneC : Came := ⟨(-1, (0, 0, 0, 0)), by simp [cameB]⟩
abbrev charCells (c : CharT) : Array Value := #[.int .i64 c.1, .int .i64 c.2.1, .int .i64 c.2.2.1, .int .i64 c.2.2.2.1, .int .i64 c.2.2.2.2.1, .int .i64 c.2.2.2.2.2]
/-- What a round keeps: whatever lay below a block, and two boxes. -/
def Kept (n₀ gf gc : Nat) (W W' : World) : Prop := Below n₀ W W' ∧ W'.heap[gf]? = W.heap[gf]? ∧ W'.heap[gc]? = W.heap[gc]?
theorem Kept.refl (n₀ gf gc : Nat) (W : World) : Kept n₀ gf gc W W := ⟨Below.refl _ _, rfl, rfl⟩
theorem Kept.trans {n₀ gf gc : Nat} {A B C : World} (h : Kept n₀ gf gc A B) (k : Kept n₀ gf gc B C) : Kept n₀ gf gc A C := ⟨h.1.trans k.1, k.2.1.trans h.2.1, k.2.2.trans h.2.2⟩
theorem char_cells {w : World} {g : Nat} {c : CharT} {t : TypeId} (h : Box w g (charCells c) t) :
    w.cell? ⟨g, 0, none⟩ = some (.int .i64 c.1) ∧ w.cell? ⟨g, 1, none⟩ = some (.int .i64 c.2.1) ∧ w.cell? ⟨g, 2, none⟩ = some (.int .i64 c.2.2.1) ∧ w.cell? ⟨g, 3, none⟩ = some (.int .i64 c.2.2.2.1) ∧ w.cell? ⟨g, 4, none⟩ = some (.int .i64 c.2.2.2.2.1) ∧ w.cell? ⟨g, 5, none⟩ = some (.int .i64 c.2.2.2.2.2) :=
  ⟨h.cell 0 rfl, h.cell 1 rfl, h.cell 2 rfl, h.cell 3 rfl, h.cell 4 rfl, h.cell 5 rfl⟩
theorem box_kept {W W' : World} {g : Nat} {cs : Array Value} {t : TypeId} (h : Box W g cs t) (hk : W'.heap[g]? = W.heap[g]?) : Box W' g cs t := hk.trans h

theorem next_none {l : List StepT} {m j : Nat} (hm : 1 ≤ m) (hj : l.length ≤ j) : stepsFrom l m j = [(-1, (0, 0, 0, 0))] := by
  obtain ⟨m, rfl⟩ : ∃ k, m = k + 1 := ⟨m - 1, by omega⟩
  unfold stepsFrom
  rw [List.getElem?_eq_none (by omega)]
theorem next_last {l : List StepT} {m j : Nat} {s : StepT} (hm : 1 ≤ m) (hs : l[j]? = some s) (h : 128 ≤ s.1) : stepsFrom l m j = [((j : Int), s)] := by
  obtain ⟨m, rfl⟩ : ∃ k, m = k + 1 := ⟨m - 1, by omega⟩
  unfold stepsFrom
  rw [hs]
  simp [h]
theorem next_more {l : List StepT} {m j : Nat} {s : StepT} (hm : 1 ≤ m) (hs : l[j]? = some s) (h : s.1 < 128) : stepsFrom l m j = ((j : Int), s) :: stepsFrom l (m - 1) (j + s.1.toNat + 1) := by
  obtain ⟨m, rfl⟩ : ∃ k, m = k + 1 := ⟨m - 1, by omega⟩
  rw [stepsFrom, hs]
  simp [show ¬ 128 ≤ s.1 by omega]
theorem next_head {l : List StepT} {m j : Nat} {s : StepT} (hm : 1 ≤ m) (hs : l[j]? = some s) : [((j : Int), s)] <+: stepsFrom l m j := by
  by_cases h : s.1 < 128
  · rw [next_more hm hs h]; exact ⟨_, rfl⟩
  · rw [next_last hm hs (by omega)]; exact List.prefix_refl _

set_option maxRecDepth 100000 in
set_option maxHeartbeats 2000000 in
theorem steps1_in (F : Fence) (n : Nat) (h76 : F.fn 91) (hro : F.round = none) (hn : 1 ≤ n) (l gc gf n₀ N : Nat) (d : FontD) (a : FontA) (c : CharT) (ht : tfmB d = true) (hc : charB d c = true) (hN : d.steps.length + 1 ≤ N) (J Jx : List Came → World → Prop)
    (hY : ∀ pre (x : Came) W, J pre W → pre.length < N → YieldAt F (n - 1) Tryz.prog l (cameV x) W fun e W' =>
      (e = .returned (.bool true) ∧ J (pre ++ [x]) W' ∧ Kept n₀ gf gc W W') ∨ (e = .returned (.bool false) ∧ Jx (pre ++ [x]) W'))
    (W : World) (hbc : Box W gc (charCells c) 81) (hbf : Box W gf (fontCells d a) 26) (hF : FontIn W n₀ d a) (h0 : J [] W) :
    CallsIn F n Tryz.prog 91 #[.func (.yield l) #[] #[], .pointer (some ⟨gc, 0, none⟩), .pointer (some ⟨gf, 0, none⟩)] W fun e W' => (∃ v, e = .returned v) ∧
      ((∃ ys, raw ys = stepsOf d c ∧ J ys W') ∨ (∃ pre, raw pre <+: stepsOf d c ∧ Jx pre W')) := by
  obtain ⟨s1, s2, s3, s4, s5, s6, s7⟩ := tfm_sizes ht
  have HY := Lib.hid hY
  have HT := Lib.hid ht
  have HC := Lib.hid hc
  clear hY ht hc
  obtain ⟨r, hr⟩ : ∃ r, Hid (stepsOf d c = r) := ⟨_, Lib.hid rfl⟩
  rw [hr.out]
  obtain ⟨c0, c1, c2, c3, c4, c5⟩ := char_cells hbc
  by_cases htag : c.2.2.2.2.1 = 1
  · have hrem : 0 ≤ c.2.2.2.2.2 ∧ c.2.2.2.2.2 < d.steps.length := by
      have := HC.out
      simp [charB, tagB, ofB, htag] at this
      omega
    obtain ⟨j0, hj0⟩ : ∃ j : Nat, c.2.2.2.2.2 = j := ⟨c.2.2.2.2.2.toNat, by omega⟩
    have HS : Hid (r = stepsFrom d.steps (d.steps.length + 1) j0) := Lib.hid (by rw [← hr.out, stepsOf, if_pos htag, hj0]; rfl)
    rw [hj0] at c5 hrem
    rw [htag] at c4
    clear hj0
    refine callsIn_of_wp Tryz.func91 rfl h76 ?_ hro
    simp only [Tryz.ntmps91, List.size_toArray, List.length_cons, List.length_nil, Nat.reduceAdd, Nat.reduceSub, Array.replicate_succ, Array.replicate_zero, List.push_toArray, List.append_toArray, List.nil_append, List.cons_append]
    gi_wp2
    gi_loopw [4] (fun k wr => ∃ (pre : List Came) (j m : Nat), k = .int .i64 j ∧ Hid (r = raw pre ++ stepsFrom d.steps m j) ∧ (1 ≤ m ∧ d.steps.length < m + j) ∧ pre.length ≤ d.steps.length ∧ pre.length ≤ j ∧ j < d.steps.length + 300 ∧ J pre wr ∧ Kept n₀ gf gc W wr) (fun k wr => d.steps.length + 400 - (intOf k).toNat)
    case atStart => exact ⟨[], j0, d.steps.length + 1, rfl, Lib.hid (by rw [HS.out]; rfl), ⟨by omega, by omega⟩, by simp, by simp, by omega, h0, Kept.refl _ _ _ _⟩
    case round =>
      obtain ⟨pre, j, m, rfl, HR, ⟨hm1, hm2⟩, hp1, hp2, hj1, hJ, hK⟩ := hrel
      obtain ⟨d0, d1, d2, d3, d4, d5⟩ := char_cells (box_kept hbc hK.2.2)
      rw [htag] at d4
      obtain ⟨f0, f1, f2, f3, f4, f5, f6, f7, f8, f9, f10⟩ := font_cells (box_kept hbf hK.2.1)
      clear c0 c1 c2 c3 c4 c5 d0 d1 d2 d3 d5 f0 f1 f2 f3 f4 f5 f6 f7 f9 f10
      by_cases hlt : j < d.steps.length
      · obtain ⟨s, hs⟩ := at_lt hlt
        obtain ⟨b, o, hA, hb, ⟨e0, e1, e2, e3⟩, _⟩ := step_at (hF.steps.mono hK.1) hs
        obtain ⟨k1, k2, k3, k4⟩ := step_ok HT.out hs
        have HS2 := Lib.hid hs
        obtain ⟨x, hx⟩ : ∃ x : Came, x.1 = ((j : Int), s) := ⟨⟨((j : Int), s), by simp [cameB]; omega⟩, rfl⟩
        have HH := Lib.hid (next_head hm1 hs)
        obtain ⟨fn, tmps, assign, body, hy, hR⟩ := HY.out pre x wr hJ (by omega)
        simp only [cameV, stepV, hx] at hy
        have HX := Lib.hid hx
        rw [hA] at f8
        clear hs hx
        gi_wp2
        refine hR.mono ?_
        rintro e W3 (⟨rfl, hJ3, hk3⟩ | ⟨rfl, hJx3⟩)
        · have g8 := (font_cells (box_kept hbf (hK.trans hk3).2.1)).2.2.2.2.2.2.2.2.1
          rw [hA] at g8
          have g9 : W3.cell? ⟨b, o + j * 4, none⟩ = _ := (hk3.1.cell (p := ⟨b, o + j * 4, none⟩) hb).trans e0
          have d43 := (char_cells (box_kept hbc (hK.trans hk3).2.2)).2.2.2.2.1
          clear f8 e0 e1 e2 e3 d4
          by_cases h128 : 128 ≤ s.1
          · have HL := Lib.hid (next_last hm1 HS2.out h128)
            gi_wp2
            refine bodyPost_ret (results_none rfl _ _ _) rfl ?_
            exact ⟨⟨_, rfl⟩, .inl ⟨pre ++ [x], by rw [HR.out, HL.out]; simp [raw, HX.out], hJ3⟩⟩
          · have HL := Lib.hid (next_more hm1 HS2.out (by omega))
            obtain ⟨q, hq⟩ : ∃ q : Nat, s.1 = q := ⟨s.1.toNat, by omega⟩
            rw [hq] at g9
            have HQ := Lib.hid hq
            have hq2 : q < 128 := by omega
            clear hq h128
            gi_wp2
            refine ⟨⟨pre ++ [x], j + q + 1, m - 1, by simp only [Value.int.injEq, true_and]; omega, Lib.hid ?_, ⟨by omega, by omega⟩, by simp; omega, by simp; omega, by omega, hJ3, hK.trans hk3⟩, by simp [intOf]; omega⟩
            rw [HR.out, HL.out, raw, raw, List.map_append, List.map_singleton, HX.out, HQ.out]
            simp
        · gi_wp2
          refine bodyPost_ret (results_none rfl _ _ _) rfl ?_
          refine ⟨⟨_, rfl⟩, .inr ⟨pre ++ [x], ?_, hJx3⟩⟩
          rw [HR.out, raw, List.map_append, List.map_singleton, HX.out]
          exact List.prefix_append_right_inj _ |>.2 HH.out
      · have HL := Lib.hid (next_none (l := d.steps) (m := m) (j := j) hm1 (by omega))
        obtain ⟨fn, tmps, assign, body, hy, hR⟩ := HY.out pre noneC wr hJ (by omega)
        have hy' : (Instr.yield l #[.int .i64 (-1), .agg #[.int .i64 0, .int .i64 0, .int .i64 0, .int .i64 0]]).run Tryz.prog wr = _ := hy
        clear hy
        gi_wp2
        refine hR.mono ?_
        rintro e W3 (⟨rfl, hJ3, hk3⟩ | ⟨rfl, hJx3⟩)
        · gi_wp2
          refine bodyPost_ret (results_none rfl _ _ _) rfl ?_
          exact ⟨⟨_, rfl⟩, .inl ⟨pre ++ [noneC], by rw [HR.out, HL.out]; simp [raw, noneC], hJ3⟩⟩
        · gi_wp2
          refine bodyPost_ret (results_none rfl _ _ _) rfl ?_
          exact ⟨⟨_, rfl⟩, .inr ⟨pre ++ [noneC], by rw [HR.out, HL.out]; simp [raw, noneC], hJx3⟩⟩
  · have HE : Hid (r = []) := Lib.hid (by rw [← hr.out, stepsOf, if_neg htag])
    have F4 : (c.2.2.2.2.1 == 1) = false := by simpa using htag
    clear htag
    refine callsIn_of_wp Tryz.func91 rfl h76 ?_ hro
    simp only [Tryz.ntmps91, List.size_toArray, List.length_cons, List.length_nil, Nat.reduceAdd, Nat.reduceSub, Array.replicate_succ, Array.replicate_zero, List.push_toArray, List.append_toArray, List.nil_append, List.cons_append]
    gi_wp2
    gi_loopw [4] (fun k wr => wr = W) (fun k wr => 0)
    case atStart => rfl
    case round =>
      subst hrel
      gi_wp2
      go_end0
      exact ⟨⟨_, rfl⟩, .inl ⟨[], by rw [HE.out]; rfl, h0⟩⟩
end Go.Proofs.YtndpdbofoojkhaaGreat.Fo
/- What the walk of the ligatures carries: a map as data, what a round touches, marks of loops that are over. -/
namespace Go.Proofs.YtndpdbofoojkhaaGreat.Fo
open Go.RowKit Go.Proofs.YtndpdbofoojkhaaGreat.Kit Go.Shelf
set_option linter.unusedVariables false
set_option linter.unusedSimpArgs false
attribute [local go_sem] Oper.semAt_some

/-! ### A map of pairs -/
def pairD (x : Int × Int) : DataW Unit := .agg [.lit (.int .i64 x.1), .lit (.int .i64 x.2)]
def pairElem (v : Value) : Option (DataW Unit × List MemPlace) :=
  match v with
  | .agg cs => (match cs.toList with
    | [.int .i64 a, .int .i64 b] => some (pairD (a, b), [])
    | _ => none)
  | _ => none
theorem pairElem_mk (a b : Int) : pairElem (.agg #[.int .i64 a, .int .i64 b]) = some (pairD (a, b), []) := rfl
theorem pairElem_inv {v : Value} {z : DataW Unit × List MemPlace} (h : pairElem v = some z) : ∃ a b, v = .agg #[.int .i64 a, .int .i64 b] ∧ z = (pairD (a, b), []) := by
  unfold pairElem at h
  split at h
  · split at h
    · rename_i cs a b he
      refine ⟨a, b, ?_, by simpa using h.symm⟩
      congr
      exact Array.toList_inj.1 (by rw [he])
    · cases h
  · cases h
theorem pairD_inj {a b c d : Int} (h : pairD (a, b) = pairD (c, d)) : a = c ∧ b = d := by
  unfold pairD at h
  simpa using h
def Dof (out : List LigT) : DataW Unit := out.foldr (fun x D => D.put (.int .i64 x.1) (pairD x.2)) (.map [])
theorem Dof_map : ∀ (out : List LigT), Maps.IsMap (Dof out)
  | [] => Maps.isMap_empty
  | x :: xs => by
    obtain ⟨es, he⟩ := Dof_map xs
    show Maps.IsMap ((Dof xs).put _ _)
    rw [he]
    exact ⟨_, DataW.put_eq _ _ _⟩
theorem Dof_has (k : Int) : ∀ out : List LigT, Maps.has (Dof out) (.int .i64 k) = out.any (fun x => decide (x.1 = k))
  | [] => rfl
  | x :: xs => by
    by_cases h : x.1 = k
    · subst h
      show Maps.has ((Dof xs).put _ _) _ = _
      rw [Maps.has_put_same (Dof_map xs) (show WideAt.IsKeyLit (.int .i64 x.1) from trivial)]
      simp
    · show Maps.has ((Dof xs).put _ _) _ = _
      rw [Maps.has_put_other (by simpa using fun e => h e.symm), Dof_has k xs]
      simp [h]

/-! ### What is touched -/
structure Touch (S : Nat → Prop) (W W' : World) : Prop where
  os : W'.os = W.os
  tape : W'.tape = W.tape
  output : W'.output = W.output
  size : W.heap.size ≤ W'.heap.size
  block : ∀ k, k < W.heap.size → ¬ S k → W'.heap[k]? = W.heap[k]?
theorem Touch.refl (S : Nat → Prop) (W : World) : Touch S W W := ⟨rfl, rfl, rfl, Nat.le_refl _, fun _ _ _ => rfl⟩
theorem Touch.trans {S : Nat → Prop} {A B C : World} (h : Touch S A B) (k : Touch S B C) : Touch S A C :=
  ⟨k.os.trans h.os, k.tape.trans h.tape, k.output.trans h.output, Nat.le_trans h.size k.size, fun i hi hs => (k.block i (Nat.lt_of_lt_of_le hi h.size) hs).trans (h.block i hi hs)⟩
theorem Touch.below {S : Nat → Prop} {A B C : World} (h : Touch S A B) (k : Below B.heap.size B C) : Touch S A C :=
  h.trans ⟨k.os, k.tape, k.output, k.size, fun i hi _ => k.block i hi⟩
theorem Touch.alloc {S : Nat → Prop} {A B : World} (h : Touch S A B) (o : Obj) : Touch S A (B.alloc o) := h.below ((Below.refl _ _).alloc (Nat.le_refl _) o)
theorem Touch.set {S : Nat → Prop} {A B : World} (h : Touch S A B) (p : Addr) (v : Value) (hp : S p.block) : Touch S A (B.setCell p v) :=
  h.trans ⟨rfl, rfl, rfl, by simp, fun i _ hs => Below.heap_setCell B p v i (fun e => hs (e ▸ hp))⟩
theorem Touch.grown {S : Nat → Prop} {A B C : World} {r : Nat} (h : Touch S A B) (k : B.grownBy C (some r)) (hr : S r) : Touch S A C :=
  h.trans ⟨k.os, k.tape, k.output, k.size, fun i hi hs => k.block i hi (fun e => hs (by cases e; exact hr))⟩
theorem Touch.box {S : Nat → Prop} {A B : World} {g : Nat} {cs : Array Value} {t : TypeId} (h : Touch S A B) (hb : Box A g cs t) (hg : ¬ S g) : Box B g cs t := (h.block g hb.lt hg).trans hb
theorem Touch.obj {S : Nat → Prop} {A B : World} {g : Nat} {o : Obj} (h : Touch S A B) (hb : A.heap[g]? = some o) (hg : ¬ S g) : B.heap[g]? = some o := (h.block g (Array.getElem?_eq_some_iff.1 hb).1 hg).trans hb
theorem Touch.toBelow {S : Nat → Prop} {A B : World} (h : Touch S A B) {n : Nat} (hn : n ≤ A.heap.size) (hS : ∀ k, S k → n ≤ k) : Below n A B :=
  ⟨h.os, h.tape, h.output, h.size, fun k hk => h.block k (by omega) (fun e => by have := hS k e; omega)⟩
theorem Touch.keepsFrom {S : Nat → Prop} {A B : World} (h : Touch S A B) {n : Nat} (hS : ∀ k, S k → k < n) : KeepsFrom n A B :=
  ⟨h.size, fun k o hk ho _ => h.obj ho (fun e => by have := hS k e; omega)⟩
theorem box_keep {β : Type} {W W' : World} {row : Option Nat} {B g : Nat} {cs : Array Value} {t : TypeId} (hs : Box W g cs t) (hg : W.grownBy W' row) (hr : ∀ r, row = some r → B ≤ r ∧ ∃ o : Obj, W.heap[r]? = some o ∧ o.isCells = false) : Box W' g cs t :=
  (hg.block g hs.lt (fun e => by obtain ⟨_, o, ho, hc⟩ := hr g e.symm; rw [show W.heap[g]? = _ from hs] at ho; cases ho; cases hc)).trans hs
theorem obj_keep {W W' : World} {row : Option Nat} {B g : Nat} {o : Obj} (hs : W.heap[g]? = some o) (hB : g < B) (hg : W.grownBy W' row) (hr : ∀ r, row = some r → B ≤ r ∧ ∃ o : Obj, W.heap[r]? = some o ∧ o.isCells = false) : W'.heap[g]? = some o :=
  (hg.block g (Array.getElem?_eq_some_iff.1 hs).1 (fun e => by have := (hr g e.symm).1; omega)).trans hs
theorem box_alloc_ne {w : World} {g : Nat} {cs : Array Value} {t : TypeId} (h : Box w g cs t) : g ≠ w.heap.size := by have := h.lt; omega

/-! ### The codes seen -/
def seenCells (seen : List Int) : Array Value := ((List.range 256).map fun j : Nat => Value.bool (decide ((j : Int) ∈ seen))).toArray
theorem seen_at (seen : List Int) {j : Nat} (h : j < 256) : (seenCells seen)[j]? = some (.bool (decide ((j : Int) ∈ seen))) := by
  simp [seenCells, h]
theorem seen_set (seen : List Int) {j : Nat} (h : j < 256) : (seenCells seen).setIfInBounds j (.bool true) = seenCells ((j : Int) :: seen) := by
  apply Array.ext
  · simp [seenCells]
  · intro i h1 h2
    simp [seenCells] at h1 h2
    by_cases e : i = j
    · subst e
      simp [seenCells]
    · have hne : j ≠ i := fun e' => e e'.symm
      have hsz : i < (seenCells seen).size := by simpa [seenCells] using h1
      rw [Array.getElem_setIfInBounds_ne hsz hne]
      simp only [seenCells, List.getElem_toArray, List.getElem_map, List.getElem_range, List.mem_cons]
      congr 1
      have : ¬ ((i : Int) = (j : Int)) := by omega
      simp [this]
theorem seen_nil : seenCells [] = Array.replicate 256 (.bool false) := by
  apply Array.ext
  · simp [seenCells]
  · intro i h1 h2
    simp [seenCells]

/-! ### Loops that are over leave marks -/
def marksOf (Ds : List Nat) : List Deferred := Ds.map fun D => { target := .collected D, args := #[] }
def shut : List Nat → World → World
  | [], w => w
  | D :: Ds, w => shut Ds (w.putObj D (.deferred none))
theorem shut_facts : ∀ (Ds : List Nat) (w : World), (shut Ds w).os = w.os ∧ (shut Ds w).tape = w.tape ∧ (shut Ds w).output = w.output ∧ (shut Ds w).heap.size = w.heap.size ∧ ∀ k, k ∉ Ds → (shut Ds w).heap[k]? = w.heap[k]?
  | [], w => ⟨rfl, rfl, rfl, rfl, fun _ _ => rfl⟩
  | D :: Ds, w => by
    obtain ⟨h1, h2, h3, h4, h5⟩ := shut_facts Ds (w.putObj D (.deferred none))
    refine ⟨h1, h2, h3, by rw [show shut (D :: Ds) w = shut Ds (w.putObj D (.deferred none)) from rfl, h4]; simp, fun k hk => ?_⟩
    simp only [List.mem_cons, not_or] at hk
    exact (h5 k hk.2).trans (World.putObj_heap_other (fun e => hk.1 (by omega)))
theorem leaves_marks {F : Fence} {n : Nat} {P : Program} {fn : Func} {tmps : Array Value} {R : Ending → World → Prop} : ∀ (Ds : List Nat) (w : World), Ds.Nodup → (∀ D ∈ Ds, w.heap[D]? = some (.deferred (some []))) →
    (∃ v, (results fn tmps).run P (shut Ds w) = .ok v (shut Ds w) ∧ R (.returned v) (shut Ds w)) → LeavesInM F n P fn tmps R (marksOf Ds) .returning w
  | [], w, _, _, h => h
  | D :: Ds, w, hn, hd, h => by
    refine ⟨by simp, .inl ⟨_, _, rfl, run_takeDeferred (hd D (by simp)), ?_⟩⟩
    have hn' := List.nodup_cons.1 hn
    exact leaves_marks Ds _ hn'.2 (fun E hE => (World.putObj_heap_other (fun e => hn'.1 (by first | exact e ▸ hE | (rw [← e]; exact hE) | (rw [e]; exact hE)))).trans (hd E (by simp [hE]))) h
theorem shut_box {Ds : List Nat} {w : World} {g : Nat} {cs : Array Value} {t : TypeId} (h : Box w g cs t) (hg : g ∉ Ds) : Box (shut Ds w) g cs t := ((shut_facts Ds w).2.2.2.2 g hg).trans h
theorem shut_map {H : Type} {P : Program} {k : TypeId} {R : Value → Option (DataW H × List MemPlace)} {b n : Nat} {D : DataW H} {Ds : List Nat} {w : World} (h : w.ownsMap P k R b n D) (hg : b ∉ Ds) : (shut Ds w).ownsMap P k R b n D := by
  obtain ⟨es, ck, hh, rest⟩ := h
  exact ⟨es, ck, ((shut_facts Ds w).2.2.2.2 b hg).trans hh, rest⟩
theorem shut_below {B : Nat} {Ds : List Nat} {w0 w : World} (h : Below B w0 w) (hD : ∀ D ∈ Ds, B ≤ D) : Below B w0 (shut Ds w) := by
  obtain ⟨h1, h2, h3, h4, h5⟩ := shut_facts Ds w
  refine h.trans ⟨h1, h2, h3, by rw [h4]; exact Nat.le_refl _, fun k hk => h5 k (fun hm => ?_)⟩
  have := hD k hm
  omega
theorem map_set {H : Type} {P : Program} {k : TypeId} {R : Value → Option (DataW H × List MemPlace)} {b n : Nat} {D : DataW H} {w : World} (h : w.ownsMap P k R b n D) (p : Addr) (v : Value) (hg : b ≠ p.block) : (w.setCell p v).ownsMap P k R b n D := by
  obtain ⟨es, ck, hh, rest⟩ := h
  exact ⟨es, ck, (Below.heap_setCell w p v b hg).trans hh, rest⟩
theorem obj_set {w : World} {g : Nat} {o : Obj} (h : w.heap[g]? = some o) (p : Addr) (v : Value) (hg : g ≠ p.block) : (w.setCell p v).heap[g]? = some o := (Below.heap_setCell w p v g hg).trans h
end Go.Proofs.YtndpdbofoojkhaaGreat.Fo
/- A font's ligatures. -/
namespace Go.Proofs.YtndpdbofoojkhaaGreat.Fo
open Go.RowKit Go.Proofs.YtndpdbofoojkhaaGreat.Kit Go.Shelf
set_option linter.unusedVariables false
set_option linter.unusedSimpArgs false
attribute [local go_sem] Oper.semAt_some

set_option maxHeartbeats 1000000 in
theorem steps_in (F : Fence) (n : Nat) (h61 : F.fn 70) (hro : F.round = none) (d : FontD) (a : FontA) (c : CharT) (w : World) :
    CallsIn F n Tryz.prog 70 #[fontV d a, charV c] w fun e w' => e = .returned (.func (.func 91) #[] #[.pointer (some ⟨w.heap.size + 1, 0, none⟩), .pointer (some ⟨w.heap.size, 0, none⟩)]) ∧ w' = (w.alloc (.cells (fontCells d a) 26)).alloc (.cells (charCells c) 81) := by
  refine callsIn_of_wp Tryz.func70 rfl h61 ?_ hro
  simp only [Tryz.ntmps70, List.size_toArray, List.length_cons, List.length_nil, Nat.reduceAdd, Nat.reduceSub, Array.replicate_succ, Array.replicate_zero, List.push_toArray, List.append_toArray, List.nil_append, List.cons_append]
  gi_wp2
  go_ret
  exact ⟨rfl, rfl⟩
theorem steps_stops (F : Fence) (n : Nat) (h76 : F.fn 91) (hro : F.round = none) (hn : 1 ≤ n) (gc gf n₀ : Nat) (d : FontD) (a : FontA) (c : CharT) (ht : tfmB d = true) (hc : charB d c = true) (w : World) (hn₀ : n₀ ≤ w.heap.size)
    (hbc : Box w gc (charCells c) 81) (hbf : Box w gf (fontCells d a) 26) (hF : FontIn w n₀ d a) :
    SeqStopsK F n Tryz.prog 91 #[.pointer (some ⟨gc, 0, none⟩), .pointer (some ⟨gf, 0, none⟩)] cameV (Kept n₀ gf gc) (fun ys => raw ys = stepsOf d c) (fun pre => raw pre <+: stepsOf d c) 300 w :=
  fun l J Jx W hW _ _ hY h0 => steps1_in F n h76 hro hn l gc gf n₀ 300 d a c ht hc (by have := (tfm_sizes ht).2.1; omega) J Jx hY W (hbc.below hW) (hbf.below hW) (hF.mono (hW.mono hn₀)) h0

theorem no_undef {b : Bool} : ¬ some undef = some (Value.bool b) := by intro h; cases h
theorem wf64 {x : Int} (h : -9223372036854775808 ≤ x ∧ x ≤ 9223372036854775807) : (Lit.int .i64 x).wf = true := by
  have hmin : IntKind.i64.min = -9223372036854775808 := rfl
  have hmax : IntKind.i64.max = 9223372036854775807 := rfl
  simp only [Lit.wf, Bool.and_eq_true, decide_eq_true_eq]
  omega
theorem map_touch {H : Type} {P : Program} {k : TypeId} {R : Value → Option (DataW H × List MemPlace)} {b n : Nat} {D : DataW H} {S : Nat → Prop} {A B : World} (h : A.ownsMap P k R b n D) (T : Touch S A B) (hS : ¬ S b) : B.ownsMap P k R b n D := by
  obtain ⟨es, ck, hh, rest⟩ := h
  exact ⟨es, ck, T.obj hh hS, rest⟩
theorem zero_seen : Tryz.zeroCells96 = seenCells [] := by rw [seen_nil]; kernel_rfl

set_option maxRecDepth 100000 in
set_option maxHeartbeats 8000000 in
theorem made_any (d : FontD) (a : FontA) (w : World) {B : Nat} (hB : B ≤ w.heap.size) (hF : FontIn w B d a) :
    Calls Tryz.prog 64 #[fontV d a] w fun e W' => ∃ mv, e = .returned (.tuple #[mv, .bool (ligB d)]) ∧ Below w.heap.size w W' ∧
      (∀ out, madeP d = some out → ∃ b, w.heap.size ≤ b ∧ mv = .map (some b) ∧ W'.ownsMap Tryz.prog 3 pairElem b 1000000 (Dof out)) := by
  refine (callsIn_wide (n := 6)).1 ?_
  have hmm := @run_makeMap Tryz.prog
  have hz256 := Tryz.zeroValue96
  have hz256n := Tryz.zeroCells96_ne
  have hz256s := Tryz.zeroCells96_size
  have HC := Lib.hid fun (W : World) (hb : Below w.heap.size w W) => check_any d a W (lt_of_below hB hb) (hF.mono (hb.mono hB))
  refine callsIn_of_wp_marks Tryz.func64 rfl trivial ?_ rfl
  simp only [Tryz.ntmps64, List.size_toArray, List.length_cons, List.length_nil, Nat.reduceAdd, Nat.reduceSub, Array.replicate_succ, Array.replicate_zero, List.push_toArray, List.append_toArray, List.nil_append, List.cons_append]
  gi_wp2_with fail
  have hbx := ((((Box.new w (fontCells d a) 26).alloc (.cells #[.map none] 131)).alloc (.cells #[.bool false] 4)).alloc (.map #[] 0)).alloc (.cells #[.map (some (w.heap.size + 1 + 1 + 1))] 131)
  have hb2 := (((Box.new (w.alloc (.cells (fontCells d a) 26)) #[.map none] 131).alloc (.cells #[.bool false] 4)).alloc (.map #[] 0)).alloc (.cells #[.map (some (w.heap.size + 1 + 1 + 1))] 131)
  have hb3 := ((Box.new ((w.alloc (.cells (fontCells d a) 26)).alloc (.cells #[.map none] 131)) #[.bool false] 4).alloc (.map #[] 0)).alloc (.cells #[.map (some (w.heap.size + 1 + 1 + 1))] 131)
  have hm := (World.ownsMap_made (((w.alloc (.cells (fontCells d a) 26)).alloc (.cells #[.map none] 131)).alloc (.cells #[.bool false] 4)) Tryz.prog 3 pairElem).alloc (.cells #[.map (some (w.heap.size + 1 + 1 + 1))] 131)
  have hb4 := Box.new ((((w.alloc (.cells (fontCells d a) 26)).alloc (.cells #[.map none] 131)).alloc (.cells #[.bool false] 4)).alloc (.map #[] 0)) #[.map (some (w.heap.size + 1 + 1 + 1))] 131
  have hbw : Below w.heap.size w (((((w.alloc (.cells (fontCells d a) 26)).alloc (.cells #[.map none] 131)).alloc (.cells #[.bool false] 4)).alloc (.map #[] 0)).alloc (.cells #[.map (some (w.heap.size + 1 + 1 + 1))] 131)) :=
    below_alloc (below_alloc (below_alloc (below_alloc ((Below.refl w.heap.size w).alloc (Nat.le_refl _) _) _) _) _) _
  simp only [World.size_alloc] at hb2 hb3 hm hb4
  generalize hW1 : ((((w.alloc (.cells (fontCells d a) 26)).alloc (.cells #[.map none] 131)).alloc (.cells #[.bool false] 4)).alloc (.map #[] 0)).alloc (.cells #[.map (some (w.heap.size + 1 + 1 + 1))] 131) = W1 at *
  clear hW1
  refine ⟨trivial, ?_⟩
  have HC1 := HC.out W1 hbw
  clear HC
  with_reducible refine (callsIn_wide.2 HC1).mono ?_
  rintro e w1 ⟨rfl, hb⟩
  clear HC1
  replace hbx := hbx.below hb
  replace hb2 := hb2.below hb
  replace hb3 := hb3.below hb
  replace hb4 := hb4.below hb
  replace hm := hm.kept (show W1.grownBy w1 none from ⟨hb.os, hb.tape, hb.output, hb.size, fun k hk _ => hb.block k hk⟩) (by simp)
  replace hbw := hbw.trans (hb.mono hbw.size)
  clear hb W1
  have hP : Hid (w.heap.size < w.heap.size + 1) := Lib.hid (by omega)
  generalize hp2 : w.heap.size + 1 = p2 at *
  generalize hp3 : p2 + 1 = p3 at *
  generalize hpm : p3 + 1 = pm at *
  generalize hp4 : pm + 1 = p4 at *
  have HP : Hid (w.heap.size < p2 ∧ p2 < p3 ∧ p3 < pm ∧ pm < p4) := Lib.hid (by omega)
  clear hP hp2 hp3 hpm hp4
  obtain ⟨c0, c1, c2, c3, c4, c5, c6, c7, c8, c9, c10⟩ := font_cells hbx
  have k2 : w1.cell? ⟨p2, 0, none⟩ = some (.map none) := hb2.cell 0 rfl
  have k3 : w1.cell? ⟨p3, 0, none⟩ = some (.bool false) := hb3.cell 0 rfl
  have k4 : w1.cell? ⟨p4, 0, none⟩ = some (.map (some pm)) := hb4.cell 0 rfl
  have n23 : p2 ≠ p3 := by have := HP.out; omega
  have n32 : p3 ≠ p2 := by have := HP.out; omega
  have g2 := hb2.free 0
  have g3 := hb3.free 0
  cases ht : tfmB d with
  | false =>
    have HN : Hid (madeP d = none) := Lib.hid (by rw [madeP, ht]; rfl)
    clear ht
    gi_wp2_with fail
    have r2 := ((hb2.set 0 (.map none)).far (p := ⟨p3, 0, none⟩) n23 (.bool false)).cell 0 rfl
    have r3 := ((hb3.far (p := ⟨p2, 0, none⟩) n32 (.map none)).set 0 (.bool false)).cell 0 rfl
    have hbe : Below w.heap.size w ((w1.setCell ⟨p2, 0, none⟩ (.map none)).setCell ⟨p3, 0, none⟩ (.bool false)) := (hbw.setCell (p := ⟨p2, 0, none⟩) (by have := HP.out; show w.heap.size ≤ p2; omega) _).setCell (p := ⟨p3, 0, none⟩) (by have := HP.out; show w.heap.size ≤ p3; omega) _
    refine ⟨.tuple #[.map none, .bool false], ?_, .map none, by rw [ligB, HN.out]; rfl, hbe, fun out ho => by rw [HN.out] at ho; cases ho⟩
    simp [results, Tryz.f64, go_sem, r2, r3]
  | true =>
    gi_wp2_with fail
    have HM : Hid (madeP d = madeFrom d d.chars d.first []) := Lib.hid (by rw [madeP, ht]; rfl)
    have HT := Lib.hid ht
    clear ht c0 c1 c2 c3 c4 c5 c6 c7 c8 c9 c10 k2 k3 k4 g2 g3
    refine wpIn_loop (fun a' wr => ∃ (u5 u6 u7 u8 u9 u10 u11 u12 u20 u21 u22 u23 u24 u25 u26 u27 u28 u29 u30 u31 u32 u33 u34 u35 u36 u37 u38 u39 u40 u41 u42 u43 u44 u45 u46 u47 u48 u49 u50 u51 u52 u53 u54 u55 u56 u57 u58 u59 u60 u61 u62 u63 u64 u65 u66 u67 u68 u69 u70 u71 u72 u73 u74 u75 u76 u77 u78 u79 u80 u81 u82 u83 u84 u85 u86 u87 u88 u89 u90 u91 u92 u93 u94 u95 u96 u97 u98 u99 u100 u101 u102 u103 u104 u105 u106 u107 u108 u109 u110 : Value) (U : List Deferred), (∃ (i : Nat) (Ds : List Nat) (out : List LigT), u20 = .int .i64 (i : Int) ∧ U = marksOf Ds ∧ Hid (i ≤ d.chars.length) ∧ Hid (madeP d = madeFrom d (d.chars.drop i) (d.first + i) out) ∧ wr.ownsMap Tryz.prog 3 pairElem pm (i * 300) (Dof out) ∧
        Box wr w.heap.size (fontCells d a) 26 ∧ Box wr p2 #[.map none] 131 ∧ Box wr p3 #[.bool false] 4 ∧ Box wr p4 #[.map (some pm)] 131 ∧ Hid (Ds.Nodup ∧ ∀ D ∈ Ds, pm < D ∧ wr.heap[D]? = some (.deferred (some []))) ∧ Below w.heap.size w wr) ∧
        a' = { tmps := #[fontV d a, .pointer (some ⟨w.heap.size, 0, none⟩), .pointer (some ⟨p2, 0, none⟩), .pointer (some ⟨p3, 0, none⟩), .pointer (some ⟨p4, 0, none⟩), u5, u6, u7, u8, u9, u10, u11, u12, .map (some pm), fontV d a, .bool true, .bool false, .pointer (some ⟨w.heap.size, 3, none⟩), .slice a.c d.chars.length a.cc, .int .i64 (d.chars.length : Int), u20, u21, u22, u23, u24, u25, u26, u27, u28, u29, u30, u31, u32, u33, u34, u35, u36, u37, u38, u39, u40, u41, u42, u43, u44, u45, u46, u47, u48, u49, u50, u51, u52, u53, u54, u55, u56, u57, u58, u59, u60, u61, u62, u63, u64, u65, u66, u67, u68, u69, u70, u71, u72, u73, u74, u75, u76, u77, u78, u79, u80, u81, u82, u83, u84, u85, u86, u87, u88, u89, u90, u91, u92, u93, u94, u95, u96, u97, u98, u99, u100, u101, u102, u103, u104, u105, u106, u107, u108, u109, u110, undef], defers := U })
      (fun a' _ => d.chars.length - (intOf (a'.tmps.getD 20 undef)).toNat) ?_ ?_
    · (repeat apply Exists.intro); refine ⟨?_, rfl⟩
      exact ⟨0, [], [], rfl, rfl, Lib.hid (by omega), Lib.hid (by rw [HM.out]; simp), hm, hbx, hb2, hb3, hb4, Lib.hid ⟨by simp, by simp⟩, hbw⟩
    · clear hm hbx hb2 hb3 hb4 hbw w1
      intro _ wr hinv
      obtain ⟨u5, hinv⟩ := hinv
      obtain ⟨u6, hinv⟩ := hinv
      obtain ⟨u7, hinv⟩ := hinv
      obtain ⟨u8, hinv⟩ := hinv
      obtain ⟨u9, hinv⟩ := hinv
      obtain ⟨u10, hinv⟩ := hinv
      obtain ⟨u11, hinv⟩ := hinv
      obtain ⟨u12, hinv⟩ := hinv
      obtain ⟨u20, hinv⟩ := hinv
      obtain ⟨u21, hinv⟩ := hinv
      obtain ⟨u22, hinv⟩ := hinv
      obtain ⟨u23, hinv⟩ := hinv
      obtain ⟨u24, hinv⟩ := hinv
      obtain ⟨u25, hinv⟩ := hinv
      obtain ⟨u26, hinv⟩ := hinv
      obtain ⟨u27, hinv⟩ := hinv
      obtain ⟨u28, hinv⟩ := hinv
      obtain ⟨u29, hinv⟩ := hinv
      obtain ⟨u30, hinv⟩ := hinv
      obtain ⟨u31, hinv⟩ := hinv
      obtain ⟨u32, hinv⟩ := hinv
      obtain ⟨u33, hinv⟩ := hinv
      obtain ⟨u34, hinv⟩ := hinv
      obtain ⟨u35, hinv⟩ := hinv
      obtain ⟨u36, hinv⟩ := hinv
      obtain ⟨u37, hinv⟩ := hinv
      obtain ⟨u38, hinv⟩ := hinv
      obtain ⟨u39, hinv⟩ := hinv
      obtain ⟨u40, hinv⟩ := hinv
      obtain ⟨u41, hinv⟩ := hinv
      obtain ⟨u42, hinv⟩ := hinv
      obtain ⟨u43, hinv⟩ := hinv
      obtain ⟨u44, hinv⟩ := hinv
      obtain ⟨u45, hinv⟩ := hinv
      obtain ⟨u46, hinv⟩ := hinv
      obtain ⟨u47, hinv⟩ := hinv
      obtain ⟨u48, hinv⟩ := hinv
      obtain ⟨u49, hinv⟩ := hinv
      obtain ⟨u50, hinv⟩ := hinv
      obtain ⟨u51, hinv⟩ := hinv
      obtain ⟨u52, hinv⟩ := hinv
      obtain ⟨u53, hinv⟩ := hinv
      obtain ⟨u54, hinv⟩ := hinv
      obtain ⟨u55, hinv⟩ := hinv
      obtain ⟨u56, hinv⟩ := hinv
      obtain ⟨u57, hinv⟩ := hinv
      obtain ⟨u58, hinv⟩ := hinv
      obtain ⟨u59, hinv⟩ := hinv
      obtain ⟨u60, hinv⟩ := hinv
      obtain ⟨u61, hinv⟩ := hinv
      obtain ⟨u62, hinv⟩ := hinv
      obtain ⟨u63, hinv⟩ := hinv
      obtain ⟨u64, hinv⟩ := hinv
      obtain ⟨u65, hinv⟩ := hinv
      obtain ⟨u66, hinv⟩ := hinv
      obtain ⟨u67, hinv⟩ := hinv
      obtain ⟨u68, hinv⟩ := hinv
      obtain ⟨u69, hinv⟩ := hinv
      obtain ⟨u70, hinv⟩ := hinv
      obtain ⟨u71, hinv⟩ := hinv
      obtain ⟨u72, hinv⟩ := hinv
      obtain ⟨u73, hinv⟩ := hinv
      obtain ⟨u74, hinv⟩ := hinv
      obtain ⟨u75, hinv⟩ := hinv
      obtain ⟨u76, hinv⟩ := hinv
      obtain ⟨u77, hinv⟩ := hinv
      obtain ⟨u78, hinv⟩ := hinv
      obtain ⟨u79, hinv⟩ := hinv
      obtain ⟨u80, hinv⟩ := hinv
      obtain ⟨u81, hinv⟩ := hinv
      obtain ⟨u82, hinv⟩ := hinv
      obtain ⟨u83, hinv⟩ := hinv
      obtain ⟨u84, hinv⟩ := hinv
      obtain ⟨u85, hinv⟩ := hinv
      obtain ⟨u86, hinv⟩ := hinv
      obtain ⟨u87, hinv⟩ := hinv
      obtain ⟨u88, hinv⟩ := hinv
      obtain ⟨u89, hinv⟩ := hinv
      obtain ⟨u90, hinv⟩ := hinv
      obtain ⟨u91, hinv⟩ := hinv
      obtain ⟨u92, hinv⟩ := hinv
      obtain ⟨u93, hinv⟩ := hinv
      obtain ⟨u94, hinv⟩ := hinv
      obtain ⟨u95, hinv⟩ := hinv
      obtain ⟨u96, hinv⟩ := hinv
      obtain ⟨u97, hinv⟩ := hinv
      obtain ⟨u98, hinv⟩ := hinv
      obtain ⟨u99, hinv⟩ := hinv
      obtain ⟨u100, hinv⟩ := hinv
      obtain ⟨u101, hinv⟩ := hinv
      obtain ⟨u102, hinv⟩ := hinv
      obtain ⟨u103, hinv⟩ := hinv
      obtain ⟨u104, hinv⟩ := hinv
      obtain ⟨u105, hinv⟩ := hinv
      obtain ⟨u106, hinv⟩ := hinv
      obtain ⟨u107, hinv⟩ := hinv
      obtain ⟨u108, hinv⟩ := hinv
      obtain ⟨u109, hinv⟩ := hinv
      obtain ⟨u110, hinv⟩ := hinv
      obtain ⟨U, hinv⟩ := hinv
      obtain ⟨⟨i, Ds, out, hu, hU, HI, HR, hm, hbx, hb2, hb3, hb4, HD, hbw⟩, ha⟩ := hinv
      subst ha hu hU
      try dsimp only
      obtain ⟨c0, c1, c2, c3, c4, c5, c6, c7, c8, c9, c10⟩ := font_cells hbx
      have k2 : wr.cell? ⟨p2, 0, none⟩ = some (.map none) := hb2.cell 0 rfl
      have k3 : wr.cell? ⟨p3, 0, none⟩ = some (.bool false) := hb3.cell 0 rfl
      have k4 : wr.cell? ⟨p4, 0, none⟩ = some (.map (some pm)) := hb4.cell 0 rfl
      have g2 := hb2.free 0
      have g3 := hb3.free 0
      clear c0 c1 c4 c5 c6 c7 c8 c9 c10
      by_cases hlt : i < d.chars.length
      · obtain ⟨c, hc⟩ := at_lt hlt
        have hFr := hF.mono (hbw.mono hB)
        obtain ⟨b, o, hA, hb, ⟨e0, e1, e2, e3, e4, e5⟩, _⟩ := char_at hFr.chars hc
        have HCc := Lib.hid (char_ok HT.out hc)
        have HDr := Lib.hid (drop_cons hc)
        obtain ⟨s1, s2, s3, s4, s5, s6, s7⟩ := tfm_sizes HT.out
        rw [hA] at c3
        clear hc s2 s3 s7
        have hbA := (hbx.alloc (.cells (charCells c) 81)).alloc (.cells Tryz.zeroCells96 96)
        have hbB := hbA.alloc (.cells #[.int .i64 (d.first + (i : Int))] 3)
        have cA := hbA.cell 2 rfl
        obtain ⟨b0, b1, b2, b3, b4, b5, b6, b7, b8, b9, b10⟩ := font_cells hbB
        gi_wp2_with fail
        rw [← hA]
        clear hA cA b0 b1 b2 b3 b4 b5 b6 b7 b8 b9 b10 hbA hbB c2 c3 k2 k3 k4 g2 g3 e0 e1 e2 e3 e4 e5
        refine ⟨trivial, ?_⟩
        have HSt := steps_in Fence.wide 5 trivial rfl d a c (((wr.alloc (.cells (charCells c) 81)).alloc (.cells Tryz.zeroCells96 96)).alloc (.cells #[.int .i64 (d.first + (i : Int))] 3))
        have hg7 := (((Box.new (wr.alloc (.cells (charCells c) 81)) Tryz.zeroCells96 96).alloc (.cells #[.int .i64 (d.first + (i : Int))] 3)).alloc (.cells (fontCells d a) 26)).alloc (.cells (charCells c) 81)
        have hg8 := ((Box.new ((wr.alloc (.cells (charCells c) 81)).alloc (.cells Tryz.zeroCells96 96)) #[.int .i64 (d.first + (i : Int))] 3).alloc (.cells (fontCells d a) 26)).alloc (.cells (charCells c) 81)
        have hgf := (Box.new (((wr.alloc (.cells (charCells c) 81)).alloc (.cells Tryz.zeroCells96 96)).alloc (.cells #[.int .i64 (d.first + (i : Int))] 3)) (fontCells d a) 26).alloc (.cells (charCells c) 81)
        have hgc := Box.new ((((wr.alloc (.cells (charCells c) 81)).alloc (.cells Tryz.zeroCells96 96)).alloc (.cells #[.int .i64 (d.first + (i : Int))] 3)).alloc (.cells (fontCells d a) 26)) (charCells c) 81
        have hT := (((((Touch.refl (fun _ => False) wr).alloc (.cells (charCells c) 81)).alloc (.cells Tryz.zeroCells96 96)).alloc (.cells #[.int .i64 (d.first + (i : Int))] 3)).alloc (.cells (fontCells d a) 26)).alloc (.cells (charCells c) 81)
        have hsz : (((((wr.alloc (.cells (charCells c) 81)).alloc (.cells Tryz.zeroCells96 96)).alloc (.cells #[.int .i64 (d.first + (i : Int))] 3)).alloc (.cells (fontCells d a) 26)).alloc (.cells (charCells c) 81)).heap.size = wr.heap.size + 1 + 1 + 1 + 1 + 1 := by simp
        simp only [World.size_alloc] at HSt hg7 hg8 hgf hgc
        with_reducible refine HSt.mono ?_
        rintro e W2 ⟨rfl, hW2⟩
        rw [← hW2] at hg7 hg8 hgf hgc hT hsz
        rw [zero_seen] at hg7
        clear HSt hW2
        have hbx2 := hT.box hbx (by simp)
        have hb22 := hT.box hb2 (by simp)
        have hb32 := hT.box hb3 (by simp)
        have hb42 := hT.box hb4 (by simp)
        have hm2 := hm.kept (show wr.grownBy W2 none from ⟨hT.os, hT.tape, hT.output, hT.size, fun k hk _ => hT.block k hk (by simp)⟩) (by simp)
        have HD2 : Hid (Ds.Nodup ∧ ∀ D ∈ Ds, pm < D ∧ D < wr.heap.size ∧ W2.heap[D]? = some (.deferred (some []))) := Lib.hid ⟨HD.out.1, fun D hD => ⟨(HD.out.2 D hD).1, (Array.getElem?_eq_some_iff.1 (HD.out.2 D hD).2).1, hT.obj (HD.out.2 D hD).2 (by simp)⟩⟩
        have hbw2 : Below w.heap.size w W2 := hbw.trans (hT.toBelow (n := w.heap.size) hbw.size (by simp))
        have hp4 := hb4.lt
        clear hbx hb2 hb3 hb4 hm HD hT hFr hb hbw
        generalize hS : wr.heap.size = S at *
        clear hS wr
        generalize hq7 : S + 1 = g7 at *
        generalize hq8 : g7 + 1 = g8 at *
        generalize hqf : g8 + 1 = gf at *
        generalize hqc : gf + 1 = gc at *
        have HQ : Hid (p4 < S ∧ S < g7 ∧ g7 < g8 ∧ g8 < gf ∧ gf < gc ∧ W2.heap.size = gc + 1) := Lib.hid (by omega)
        clear hp4 hq7 hq8 hqf hqc hsz
        gi_wp2_with fail
        have hn0 : w.heap.size ≤ W2.heap.size := hbw2.size
        have hFW := (hF.mono (hbw2.mono hB)).up hB
        obtain ⟨A, hA⟩ : ∃ A : Int, d.first + (i : Int) = A := ⟨_, rfl⟩
        have HA := Lib.hid hA
        obtain ⟨II, hII⟩ : ∃ II : List Came → World → Prop, II = fun pre W => ∃ out' seen, Hid (marks d A (raw pre) (out, []) = some (out', seen)) ∧ W.ownsMap Tryz.prog 3 pairElem pm (i * 300 + pre.length) (Dof out') ∧ Box W g7 (seenCells seen) 96 ∧ Box W w.heap.size (fontCells d a) 26 ∧
          Box W p2 #[.map none] 131 ∧ Box W p3 #[.bool false] 4 ∧ Box W p4 #[.map (some pm)] 131 ∧ Box W g8 #[.int .i64 A] 3 ∧ Hid (∀ D ∈ Ds, W.heap[D]? = some (.deferred (some []))) ∧ Below w.heap.size w W ∧ W2.heap.size ≤ W.heap.size := ⟨_, rfl⟩
        obtain ⟨Ix, hIx⟩ : ∃ Ix : Code → List Came → World → Prop, Ix = fun c pre W => c = .ret ∧ Hid (marks d A (raw pre) (out, []) = none) ∧ Box W p2 #[.map none] 131 ∧ Box W p3 #[.bool false] 4 ∧ Hid (∀ D ∈ Ds, W.heap[D]? = some (.deferred (some []))) ∧ Below w.heap.size w W := ⟨_, rfl⟩
        have hDS : ∀ D ∈ Ds, D < W2.heap.size := fun D hD => (Array.getElem?_eq_some_iff.1 (HD2.out.2 D hD).2.2).1
        have hIo : OwnFrom W2.heap.size II := by
          subst hII
          rintro s X Y row ⟨out', seen, e1, e2, e3, e4, e5, e6, e7, e8, e9, e10, e11⟩ hg hr
          exact ⟨out', seen, e1, e2.kept hg (fun e => by have h1 := (hr _ e.symm).1; have h2 := hm2.lt; omega), box_keep (β := Unit) e3 hg hr, box_keep (β := Unit) e4 hg hr, box_keep (β := Unit) e5 hg hr, box_keep (β := Unit) e6 hg hr, box_keep (β := Unit) e7 hg hr, box_keep (β := Unit) e8 hg hr, Lib.hid fun D hD => obj_keep (e9.out D hD) (hDS D hD) hg hr, ownFrom_below (β := Unit) (Nat.le_refl _) hn0 () X Y row e10 hg hr, Nat.le_trans e11 hg.size⟩
        have hIxo : ∀ c, OwnFrom W2.heap.size (Ix c) := by
          subst hIx
          rintro c s X Y row ⟨e1, e2, e5, e6, e9, e10⟩ hg hr
          exact ⟨e1, e2, box_keep (β := Unit) e5 hg hr, box_keep (β := Unit) e6 hg hr, Lib.hid fun D hD => obj_keep (e9.out D hD) (hDS D hD) hg hr, ownFrom_below (β := Unit) (Nat.le_refl _) hn0 () X Y row e10 hg hr⟩
        have h0 : II [] W2 := by
          subst hII
          rw [hA] at hg8
          exact ⟨out, [], Lib.hid rfl, by simpa using hm2, hg7, hbx2, hb22, hb32, hb42, hg8, Lib.hid fun D hD => (HD2.out.2 D hD).2.2, hbw2, Nat.le_refl _⟩
        clear hA
        refine wpIn_rangeFunc_ownH rfl (by decide) (gf := 91) (lb := #[.pointer (some ⟨gc, 0, none⟩), .pointer (some ⟨gf, 0, none⟩)]) rfl trivial (enters_of Tryz.func91 (by kernel_rfl) rfl)
          (steps_stops Fence.wide 5 trivial rfl (by decide) gc gf w.heap.size d a c HT.out HCc.out W2 hn0 hgc hgf hFW) (fun h k => h.trans k)
          (fun W l o o' hl hlo h1 h2 => ⟨belowK_b hn0 W l o o' hl hlo h1 h2, World.putObj_heap_other (by have := HQ.out; omega), World.putObj_heap_other (by have := HQ.out; omega)⟩)
          (Below.refl _ _) (fun _ => rfl) II Ix hIo hIxo h0
          (fun x a' W => ∃ gs, W2.heap.size ≤ gs ∧ Box W gs #[.int .i64 x.1.2.1, .int .i64 x.1.2.2.1, .int .i64 x.1.2.2.2.1, .int .i64 x.1.2.2.2.2] 79 ∧ a' = { tmps := #[fontV d a, .pointer (some ⟨w.heap.size, 0, none⟩), .pointer (some ⟨p2, 0, none⟩), .pointer (some ⟨p3, 0, none⟩), .pointer (some ⟨p4, 0, none⟩), .int .i64 (i : Int), .pointer (some ⟨S, 0, none⟩), .pointer (some ⟨g7, 0, none⟩), .pointer (some ⟨g8, 0, none⟩), .int .i64 x.1.1, .pointer (some ⟨gs, 0, none⟩), u11, u12, .map (some pm), fontV d a, .bool true, .bool false, .pointer (some ⟨w.heap.size, 3, none⟩), .slice a.c d.chars.length a.cc, .int .i64 (d.chars.length : Int), .int .i64 (i : Int), .bool true, .int .i64 (i : Int), .pointer (some ⟨b, o + i * 6, none⟩), charV c, .pointer (some ⟨w.heap.size, 2, none⟩), .int .i64 d.first, .int .i64 (i : Int), .int .i64 (d.first + (i : Int)), fontV d a, charV c, .func (.func 91) #[] #[.pointer (some ⟨gc, 0, none⟩), .pointer (some ⟨gf, 0, none⟩)], .int .i64 x.1.1, stepV x.1.2, u34, u35, u36, u37, u38, u39, u40, u41, u42, u43, u44, u45, u46, u47, u48, u49, u50, u51, u52, u53, u54, u55, u56, u57, u58, u59, u60, u61, u62, u63, u64, u65, u66, u67, u68, u69, u70, u71, u72, u73, u74, u75, u76, u77, u78, u79, u80, u81, u82, u83, u84, u85, u86, u87, u88, u89, u90, u91, u92, u93, u94, u95, u96, u97, u98, u99, u100, u101, u102, u103, u104, u105, u106, u107, u108, u109, u110, undef], defers := [] })
          ?hAx ?assign ?body ?done ?stop
        case hAx =>
          rintro x a' s X Y row ⟨gs, h1, h2, h3⟩ hg hr
          exact ⟨gs, h1, box_keep (β := Unit) h2 hg hr, h3⟩
        case assign =>
          rintro l pre x W K hi hK
          have hi' := hi
          rw [hII] at hi'
          obtain ⟨out', seen, e1, e2, e3, e4, e5, e6, e7, e8, e9, e10, e11⟩ := hi'
          gi_wp2
          have hT := (Touch.refl (fun _ => False) W).alloc (.cells #[.int .i64 x.1.2.1, .int .i64 x.1.2.2.1, .int .i64 x.1.2.2.2.1, .int .i64 x.1.2.2.2.2] 79)
          have hq := HQ.out
          refine hK _ _ (hT.keepsFrom (by simp)) ⟨hT.toBelow (by omega) (by simp), hT.block gf (by omega) (by simp), hT.block gc (by omega) (by simp)⟩ ?_ ⟨W.heap.size, e11, Box.new W _ _, rfl⟩
          rw [hII]
          exact ⟨out', seen, e1, e2.alloc _, e3.alloc _, e4.alloc _, e5.alloc _, e6.alloc _, e7.alloc _, e8.alloc _, Lib.hid fun D hD => hT.obj (e9.out D hD) (by simp), below_alloc e10 _, by simp; omega⟩
        case body =>
          rintro l pre ⟨⟨k, sk, nx, op, rm⟩, hx⟩ a' W hl hr hi ⟨gs, hgs, hbs, rfl⟩ hlen
          rw [hII] at hi
          obtain ⟨out', seen, e1, e2, e3, e4, e5, e6, e7, e8, e9, e10, e11⟩ := hi
          have hx' := hx
          simp only [cameB] at hx'
          obtain ⟨⟨x1, x2⟩, ⟨x3, x4⟩, ⟨x5, x6⟩, ⟨x7, x8⟩, ⟨x9, x10⟩⟩ := hx'
          dsimp only at hbs
          have hp := HP.out
          have hq := HQ.out
          have hMk : marks d A (raw (pre ++ [⟨(k, sk, nx, op, rm), hx⟩])) (out, []) = markS d A (out', seen) (k, sk, nx, op, rm) := by
            rw [raw, List.map_append, marks_append, e1.out]
            simp only [List.map_cons, List.map_nil, Option.bind_some, marks]
            cases markS d A (out', seen) (k, sk, nx, op, rm) <;> rfl
          have HF : Hid (∀ W', Touch (fun k => k = p2 ∨ k = p3 ∨ k = pm ∨ k = g7) W W' → Box W' p2 #[.map none] 131 → Box W' p3 #[.bool false] 4 → markS d A (out', seen) (k, sk, nx, op, rm) = none → KeepsFrom W2.heap.size W W' ∧ Ix .ret (pre ++ [⟨(k, sk, nx, op, rm), hx⟩]) W') := Lib.hid (by
            intro W' T b2 b3 hm
            refine ⟨T.keepsFrom (by intro j; omega), ?_⟩
            rw [hIx]
            refine ⟨rfl, Lib.hid (by rw [hMk, hm]), b2, b3, Lib.hid fun D hD => T.obj (e9.out D hD) (by have := (HD2.out.2 D hD).1; have := (HD2.out.2 D hD).2.1; omega), e10.trans (T.toBelow (by omega) (by intro j; omega))⟩)
          have HO : Hid (∀ W' out'' seen'', Touch (fun k => k = pm ∨ k = g7) W W' → W'.ownsMap Tryz.prog 3 pairElem pm (i * 300 + pre.length + 1) (Dof out'') → Box W' g7 (seenCells seen'') 96 → markS d A (out', seen) (k, sk, nx, op, rm) = some (out'', seen'') → KeepsFrom W2.heap.size W W' ∧ Kept w.heap.size gf gc W W' ∧ II (pre ++ [⟨(k, sk, nx, op, rm), hx⟩]) W') := Lib.hid (by
            intro W' out'' seen'' T m7 b7 hm
            refine ⟨T.keepsFrom (by intro j; omega), ⟨T.toBelow (by omega) (by intro j; omega), T.block gf (by omega) (by omega), T.block gc (by omega) (by omega)⟩, ?_⟩
            rw [hII]
            refine ⟨out'', seen'', Lib.hid (by rw [hMk, hm]), by simpa [Nat.add_assoc] using m7, b7, T.box e4 (by omega), T.box e5 (by omega), T.box e6 (by omega), T.box e7 (by omega), T.box e8 (by omega), Lib.hid fun D hD => T.obj (e9.out D hD) (by have := (HD2.out.2 D hD).1; have := (HD2.out.2 D hD).2.1; omega), e10.trans (T.toBelow (by omega) (by intro j; omega)), Nat.le_trans e11 T.size⟩)
          clear hII hIx hMk hIo hIxo h0 hDS e1 e9 hbx2 hb22 hb32 hb42 hm2 hbw2 hg7 hg8 hgf hgc
          obtain ⟨f0, f1, f2, f3, f4, f5, f6, f7, f8, f9, f10⟩ := font_cells e4
          have s0 : W.cell? ⟨gs, 0, none⟩ = some (.int .i64 sk) := hbs.cell 0 rfl
          have s1' : W.cell? ⟨gs, 1, none⟩ = some (.int .i64 nx) := hbs.cell 1 rfl
          have s2' : W.cell? ⟨gs, 2, none⟩ = some (.int .i64 op) := hbs.cell 2 rfl
          have s3' : W.cell? ⟨gs, 3, none⟩ = some (.int .i64 rm) := hbs.cell 3 rfl
          have k2 : W.cell? ⟨p2, 0, none⟩ = some (.map none) := e5.cell 0 rfl
          have k3 : W.cell? ⟨p3, 0, none⟩ = some (.bool false) := e6.cell 0 rfl
          have k4 : W.cell? ⟨p4, 0, none⟩ = some (.map (some pm)) := e7.cell 0 rfl
          have k8 : W.cell? ⟨g8, 0, none⟩ = some (.int .i64 A) := e8.cell 0 rfl
          have g2 := e5.free 0
          have g3 := e6.free 0
          have HFX : Hid (∀ W', Touch (fun _ => False) W W' → markS d A (out', seen) (k, sk, nx, op, rm) = none → KeepsFrom W2.heap.size W ((W'.setCell ⟨p2, 0, none⟩ (.map none)).setCell ⟨p3, 0, none⟩ (.bool false)) ∧ Ix .ret (pre ++ [⟨(k, sk, nx, op, rm), hx⟩]) ((W'.setCell ⟨p2, 0, none⟩ (.map none)).setCell ⟨p3, 0, none⟩ (.bool false))) := Lib.hid (by
            intro W' T hm
            have T2 : Touch (fun k => k = p2 ∨ k = p3 ∨ k = pm ∨ k = g7) W W' := ⟨T.os, T.tape, T.output, T.size, fun j hj _ => T.block j hj (by simp)⟩
            exact HF.out _ ((T2.set ⟨p2, 0, none⟩ (.map none) (.inl rfl)).set ⟨p3, 0, none⟩ (.bool false) (.inr (.inl rfl))) (((T.box e5 (by simp)).set 0 (.map none)).far (p := ⟨p3, 0, none⟩) n23 (.bool false)) (((T.box e6 (by simp)).far (p := ⟨p2, 0, none⟩) n32 (.map none)).set 0 (.bool false)) hm)
          have HFF := Lib.hid (HFX.out W (Touch.refl _ W))
          clear HF
          clear f0 f1 f3 f4 f5 f6 f7 f8 f10 s0
          clear hp hq
          by_cases hk : k < 0
          · have HE := Lib.hid (HFF.out (by simp [markS, wrongB, hk]))
            have F1 : (k < 0) = True := eq_true hk
            clear hk HFF
            gi_wp2_with fail
            all_goals (try (rename_i h1 h2; exact absurd h1 no_undef))
            exact HE.out
          · have F1 : (k < 0) = False := eq_false hk
            by_cases ho : 0 < op
            · have F2 : (0 < op) = True := eq_true ho
              by_cases h128 : op < 128
              · have HE := Lib.hid (HFF.out (by simp [markS, wrongB, ho, h128]))
                have F3 : (op < 128) = True := eq_true h128
                clear hk ho h128 HFF
                gi_wp2_with fail
                all_goals (try (rename_i h1 h2; exact absurd h1 no_undef))
                exact HE.out
              · have F3 : (op < 128) = False := eq_false h128
                by_cases hkn : (d.kerns.length : Int) ≤ 256 * (op - 128) + rm
                · have HE := Lib.hid (HFF.out (by simp [markS, wrongB, ho, hkn]))
                  have F4 : ((d.kerns.length : Int) ≤ 256 * (op - 128) + rm) = True := eq_true hkn
                  clear hk ho hkn HFF
                  gi_wp2_with fail
                  all_goals (try (rename_i h1 h2; exact absurd h1 no_undef))
                  exact HE.out
                · have F4 : ((d.kerns.length : Int) ≤ 256 * (op - 128) + rm) = False := eq_false hkn
                  have HM2 : Hid (markS d A (out', seen) (k, sk, nx, op, rm) = some (out', nx :: seen)) := Lib.hid (by simp [markS, wrongB, hk, h128, hkn, show ¬ op = 0 by omega])
                  have F5 : (op == 0) = false := by simp; omega
                  clear hk ho hkn HFF
                  obtain ⟨q, rfl⟩ : ∃ q : Nat, nx = q := ⟨nx.toNat, by omega⟩
                  have kq : W.cell? ⟨g7, q, none⟩ = some (.bool (decide ((q : Int) ∈ seen))) := e3.cell q (seen_at seen (by omega))
                  have gq := e3.free q
                  have HE := Lib.hid (HO.out (W.setCell ⟨g7, q, none⟩ (.bool true)) out' ((q : Int) :: seen) ((Touch.refl _ W).set ⟨g7, q, none⟩ _ (.inr rfl)) ((map_set e2 _ _ (by have := HP.out; have := HQ.out; show pm ≠ g7; omega)).mono (by omega)) (by rw [← seen_set seen (by omega)]; exact e3.set q _) HM2.out)
                  clear HO HM2
                  gi_wp2_with fail
                  all_goals (try (rename_i h1 h2; exact absurd h1 no_undef))
                  exact HE.out
            · obtain rfl : op = 0 := by omega
              obtain ⟨q, rfl⟩ : ∃ q : Nat, nx = q := ⟨nx.toNat, by omega⟩
              obtain ⟨r, rfl⟩ : ∃ r : Nat, rm = r := ⟨rm.toNat, by omega⟩
              have gq := e3.free q
              by_cases hs : (q : Int) ∈ seen
              · have kq : W.cell? ⟨g7, q, none⟩ = some (.bool true) := by rw [e3.cell q (seen_at seen (by omega))]; simp [hs]
                have HM2 : Hid (markS d A (out', seen) (k, sk, (q : Int), 0, (r : Int)) = some (out', (q : Int) :: seen)) := Lib.hid (by simp [markS, wrongB, hk, hs])
                have HE := Lib.hid (HO.out (W.setCell ⟨g7, q, none⟩ (.bool true)) out' ((q : Int) :: seen) ((Touch.refl _ W).set ⟨g7, q, none⟩ _ (.inr rfl)) ((map_set e2 _ _ (by have := HP.out; have := HQ.out; show pm ≠ g7; omega)).mono (by omega)) (by rw [← seen_set seen (by omega)]; exact e3.set q _) HM2.out)
                clear hk ho hs HFF HO HM2
                gi_wp2_with fail
                all_goals (try (rename_i h1 h2; exact absurd h1 no_undef))
                exact HE.out
              · have kq : W.cell? ⟨g7, q, none⟩ = some (.bool false) := by rw [e3.cell q (seen_at seen (by omega))]; simp [hs]
                have hh := Dof_has (r : Int) out'
                have hwr : (Lit.int .i64 (r : Int)).wf = true := wf64 (by omega)
                have HMS : Hid (markS d A (out', seen) (k, sk, (q : Int), 0, (r : Int)) = if badLigB d A out' (sk, (q : Int), 0, (r : Int)) then none else some (((r : Int), A, (q : Int)) :: out', (q : Int) :: seen)) := Lib.hid (by simp [markS, wrongB, hk, hs])
                clear hk ho hs HFF
                cases hb : out'.any (fun x => decide (x.1 = (r : Int))) with
                | true =>
                  rw [hb] at hh
                  have HMN := Lib.hid (HMS.out.trans (if_pos (by simp [badLigB, hb])))
                  clear HMS hb HO
                  gi_wp2_with (gi_at_lookup; refine wpListIn_lookup_own_ok _ rfl _ _ 131 rfl 3 159 (Maps.int_keyed Tryz.underlying3) Tryz.underlying131 pairElem (Tryz.zeroValue159 _) (pairD (0, 0)) [] (pairElem_mk 0 0) pm (i * 300 + pre.length) _ rfl e2 _ _ rfl (Maps.keyOf_int_mk Tryz.underlying3 hwr) ?_; intro v ps hv; obtain ⟨va, vb, rfl, _⟩ := pairElem_inv hv; clear hv; rw [hh])
                  all_goals (try (rename_i h1 h2; exact absurd h1 no_undef))
                  all_goals (
                    refine ⟨trivial, ?_⟩
                    have T3 := (Touch.refl (fun _ => False) W).alloc (.cells #[.int .i64 va, .int .i64 vb] 159)
                    have hbe5 := T3.box e5 (by simp)
                    have hbe6 := T3.box e6 (by simp)
                    have HE := Lib.hid (HFX.out _ T3 HMN.out)
                    clear T3
                    generalize hW3 : W.alloc (.cells #[.int .i64 va, .int .i64 vb] 159) = W3 at *
                    clear hW3 HFX
                    have k2' : W3.cell? ⟨p2, 0, none⟩ = some (.map none) := hbe5.cell 0 rfl
                    have k3' : W3.cell? ⟨p3, 0, none⟩ = some (.bool false) := hbe6.cell 0 rfl
                    have g2' := hbe5.free 0
                    have g3' := hbe6.free 0
                    gi_wp2_with fail
                    exact HE.out)
                | false =>
                  rw [hb] at hh
                  have hFb := hF.mono (e10.mono hB)
                  have hwB : B ≤ W.heap.size := Nat.le_trans hB e10.size
                  gi_wp2_with (gi_at_lookup; refine wpListIn_lookup_own_ok _ rfl _ _ 131 rfl 3 159 (Maps.int_keyed Tryz.underlying3) Tryz.underlying131 pairElem (Tryz.zeroValue159 _) (pairD (0, 0)) [] (pairElem_mk 0 0) pm (i * 300 + pre.length) _ rfl e2 _ _ rfl (Maps.keyOf_int_mk Tryz.underlying3 hwr) ?_; intro v ps hv; obtain ⟨va, vb, rfl, _⟩ := pairElem_inv hv; clear hv; rw [hh]; obtain ⟨y0, y1, y2, y3, y4, y5, y6, y7, y8, y9, y10⟩ := font_cells (e4.alloc (.cells #[.int .i64 va, .int .i64 vb] 159)); have t3 : (W.alloc (.cells #[.int .i64 va, .int .i64 vb] 159)).cell? ⟨gs, 3, none⟩ = some (.int .i64 (r : Int)) := (hbs.alloc (.cells #[.int .i64 va, .int .i64 vb] 159)).cell 3 rfl)
                  all_goals (try (rename_i h1 h2; exact absurd h1 no_undef))
                  all_goals (
                    refine ⟨trivial, ?_⟩
                    have T3 := (Touch.refl (fun _ => False) W).alloc (.cells #[.int .i64 va, .int .i64 vb] 159)
                    generalize hW3 : W.alloc (.cells #[.int .i64 va, .int .i64 vb] 159) = W3 at *
                    clear hW3
                    have HHas := has_any d a (r : Int) W3 (B := B) (Nat.le_trans hwB T3.size) (hFb.mono (T3.toBelow hwB (by simp))) HT.out hwr
                    with_reducible refine (CallsIn.inRound l (callsIn_wide.2 HHas)).mono ?_
                    rintro e W4 ⟨rfl, hb4⟩
                    have T4 := T3.below hb4
                    have b3 := T4.box e3 (by simp)
                    have b5 := T4.box e5 (by simp)
                    have b6 := T4.box e6 (by simp)
                    have b7 := T4.box e7 (by simp)
                    have b8 := T4.box e8 (by simp)
                    have bs := T4.box hbs (by simp)
                    have m4 := map_touch e2 T4 (by simp)
                    have HF4 := Lib.hid (HFX.out W4 T4)
                    have HT4 : Hid (Touch (fun k => k = pm ∨ k = g7) W W4) := Lib.hid ⟨T4.os, T4.tape, T4.output, T4.size, fun j hj _ => T4.block j hj (by simp)⟩
                    clear HHas T3 T4 hb4 HFX y0 y1 y2 y3 y4 y5 y6 y7 y8 y9 y10 t3 k2 k3 k4 k8 g2 g3 gq kq s1' s2' s3' f2 f9 e2 e3 e4 e5 e6 e7 e8 hbs W3
                    have v1 : W4.cell? ⟨gs, 1, none⟩ = some (.int .i64 (q : Int)) := bs.cell 1 rfl
                    have v3 : W4.cell? ⟨gs, 3, none⟩ = some (.int .i64 (r : Int)) := bs.cell 3 rfl
                    have k2 : W4.cell? ⟨p2, 0, none⟩ = some (.map none) := b5.cell 0 rfl
                    have k3 : W4.cell? ⟨p3, 0, none⟩ = some (.bool false) := b6.cell 0 rfl
                    have k4 : W4.cell? ⟨p4, 0, none⟩ = some (.map (some pm)) := b7.cell 0 rfl
                    have k8 : W4.cell? ⟨g8, 0, none⟩ = some (.int .i64 A) := b8.cell 0 rfl
                    have g2 := b5.free 0
                    have g3 := b6.free 0
                    have gq := b3.free q
                    cases hh62 : hasB d (r : Int) with
                    | false =>
                      have HE := Lib.hid (HF4.out (HMS.out.trans (if_pos (by simp [badLigB, hb, hh62]))))
                      clear HF4 HO HMS hb hh hh62 m4
                      gi_wp2_with fail
                      exact HE.out
                    | true =>
                      by_cases h1 : r < 128
                      · have F1 : ((r : Int) < 128) = True := eq_true (by omega)
                        have HE := Lib.hid (HF4.out (HMS.out.trans (if_pos (by simp [badLigB, hb, hh62, show (r : Int) < 128 by omega]))))
                        clear HF4 HO HMS hb hh hh62 m4
                        gi_wp2_with fail
                        exact HE.out
                      · have F1 : ((r : Int) < 128) = False := eq_false (by omega)
                        by_cases h2 : (r : Int) ≤ A
                        · have F2 : ((r : Int) ≤ A) = True := eq_true h2
                          have HE := Lib.hid (HF4.out (HMS.out.trans (if_pos (by simp [badLigB, hb, hh62, h2]))))
                          clear HF4 HO HMS hb hh hh62 m4
                          gi_wp2_with fail
                          exact HE.out
                        · have F2 : ((r : Int) ≤ A) = False := eq_false h2
                          by_cases h3 : 128 ≤ q
                          · have F3 : ((128 : Int) ≤ (q : Int)) = True := eq_true (by omega)
                            have HE := Lib.hid (HF4.out (HMS.out.trans (if_pos (by simp [badLigB, hb, hh62, show (128 : Int) ≤ (q : Int) by omega]))))
                            clear HF4 HO HMS hb hh hh62 m4
                            gi_wp2_with fail
                            exact HE.out
                          · have F3 : ((128 : Int) ≤ (q : Int)) = False := eq_false (by omega)
                            have HMK : Hid (markS d A (out', seen) (k, sk, (q : Int), 0, (r : Int)) = some (((r : Int), A, (q : Int)) :: out', (q : Int) :: seen)) := Lib.hid (HMS.out.trans (if_neg (by unfold badLigB; dsimp only; rw [hb]; simp [hh62]; omega)))
                            have HBN : Hid (i * 300 + pre.length < maxLen) := Lib.hid (by unfold maxLen; omega)
                            clear HF4 HMS hb hh hh62 h2
                            gi_wp2_with (gi_at_mapUpdate; refine wpListIn_mapUpdate_own _ rfl _ _ _ 131 rfl 3 159 (Maps.int_keyed Tryz.underlying3) Tryz.underlying131 pairElem pm (i * 300 + pre.length) _ rfl m4 HBN.out _ _ _ rfl rfl (Maps.keyOf_int_mk Tryz.underlying3 hwr) _ [] (pairElem_mk A (q : Int)) ?_; intro W5 m5 hgr5; have T5 := HT4.out.grown hgr5 (.inl rfl); have c3 := ((Touch.refl (fun k => k = pm) W4).grown hgr5 rfl).box b3 (by have := HP.out; have := HQ.out; omega); have cs := ((Touch.refl (fun k => k = pm) W4).grown hgr5 rfl).box bs (by have := HP.out; have := HQ.out; omega); have v1' : W5.cell? ⟨gs, 1, none⟩ = some (.int .i64 (q : Int)) := cs.cell 1 rfl; have gq' := c3.free q; have kq' : W5.cell? ⟨g7, q, none⟩ = some (.bool (decide ((q : Int) ∈ seen))) := c3.cell q (seen_at seen (by omega)); clear hgr5)
                            
                            exact HO.out _ _ _ (T5.set ⟨g7, q, none⟩ (.bool true) (.inr rfl)) (map_set m5 _ _ (by have := HP.out; have := HQ.out; show pm ≠ g7; omega)) (by rw [← seen_set seen (by omega)]; exact c3.set q _) HMK.out)
        case done =>
          rintro D ys W hD hraw hi hK
          rw [hII] at hi
          obtain ⟨out', seen, e1, e2, e3, e4, e5, e6, e7, e8, e9, e10, e11⟩ := hi
          have HE : Hid (madeP d = madeFrom d (d.chars.drop (i + 1)) (d.first + ((i + 1 : Nat) : Int)) out') := Lib.hid (by
            have h1 := e1.out
            rw [hraw, ← HA.out] at h1
            rw [HR.out, HDr.out, madeFrom, h1]
            show madeFrom d _ _ out' = _
            congr 1
            omega)
          have HL : Hid (ys.length ≤ 300) := Lib.hid (by
            have h1 := congrArg List.length hraw
            have h2 := steps_len d c
            have h3 := (tfm_sizes HT.out).2.1
            simp at h1
            omega)
          clear hraw e1 hII hIx
          have HDD : Hid ((D :: Ds).Nodup ∧ ∀ E ∈ D :: Ds, pm < E ∧ W.heap[E]? = some (.deferred (some []))) := Lib.hid (by
            refine ⟨List.nodup_cons.2 ⟨fun hm => by have := hDS D hm; omega, HD2.out.1⟩, fun E hE => ?_⟩
            rcases List.mem_cons.1 hE with rfl | hE
            · exact ⟨by have := HQ.out; have := HP.out; omega, hK⟩
            · exact ⟨(HD2.out.2 E hE).1, e9.out E hE⟩)
          gi_wp2_with fail
          refine ⟨?_, ?_⟩
          · (repeat apply Exists.intro); refine ⟨?_, rfl⟩
            exact ⟨i + 1, D :: Ds, out', rfl, rfl, Lib.hid (by omega), HE, e2.mono (by have := HL.out; omega), e4, e5, e6, e7, HDD, e10⟩
          · show d.chars.length - (intOf (.int .i64 ((i : Int) + 1))).toNat < d.chars.length - (intOf (.int .i64 (i : Int))).toNat
            simp only [intOf]
            omega
        case stop =>
          rintro D c' pre W hD hraw hi hK
          rw [hIx] at hi
          obtain ⟨rfl, e2, e5, e6, e9, e10⟩ := hi
          have HE : Hid (madeP d = none) := Lib.hid (by
            have h1 := marks_none e2.out hraw
            rw [← HA.out] at h1
            rw [HR.out, HDr.out, madeFrom, h1]; rfl)
          clear hraw e2 hII hIx
          have hp := HP.out
          have hq := HQ.out
          have d1 : ∀ E ∈ D :: Ds, pm < E ∧ W.heap[E]? = some (.deferred (some [])) := fun E hE => by
            rcases List.mem_cons.1 hE with rfl | hE
            · exact ⟨by omega, hK⟩
            · exact ⟨(HD2.out.2 E hE).1, e9.out E hE⟩
          have d2 : (D :: Ds).Nodup := List.nodup_cons.2 ⟨fun hm => by have := hDS D hm; omega, HD2.out.1⟩
          have r2' := (shut_box e5 (Ds := D :: Ds) (fun hm => by have := (d1 _ hm).1; omega)).cell 0 rfl
          have r3' := (shut_box e6 (Ds := D :: Ds) (fun hm => by have := (d1 _ hm).1; omega)).cell 0 rfl
          gi_wp2_with fail
          refine leaves_marks (D :: Ds) W d2 (fun E hE => (d1 E hE).2) ?_
          refine ⟨.tuple #[.map none, .bool false], ?_, .map none, by rw [ligB, HE.out]; rfl, shut_below e10 (fun E hE => by have := (d1 E hE).1; omega), fun o ho => by rw [HE.out] at ho; cases ho⟩
          simp [results, Tryz.f64, go_sem, r2', r3']
      · have HE : Hid (madeP d = some out) := Lib.hid (by rw [HR.out, List.drop_eq_nil_of_le (by omega)]; rfl)
        have HI2 : Hid (i ≤ 256) := Lib.hid (by have := HI.out; have := (tfm_sizes HT.out).1; omega)
        gi_wp2_with fail
        have d1 : ∀ D ∈ Ds, pm < D ∧ wr.heap[D]? = some (.deferred (some [])) := HD.out.2
        have hp := HP.out
        have r2 := (hb2.set 0 (.map (some pm))).far (p := ⟨p3, 0, none⟩) n23 (.bool true)
        have r3 := (hb3.far (p := ⟨p2, 0, none⟩) n32 (.map (some pm))).set 0 (.bool true)
        have r2' := (shut_box r2 (Ds := Ds) (fun hm => by have := (d1 _ hm).1; omega)).cell 0 rfl
        have r3' := (shut_box r3 (Ds := Ds) (fun hm => by have := (d1 _ hm).1; omega)).cell 0 rfl
        have hm' := shut_map (map_set (map_set hm ⟨p2, 0, none⟩ (.map (some pm)) (by show pm ≠ p2; omega)) ⟨p3, 0, none⟩ (.bool true) (by show pm ≠ p3; omega)) (Ds := Ds) (fun hm => by have := (d1 _ hm).1; omega)
        have hbe : Below w.heap.size w ((wr.setCell ⟨p2, 0, none⟩ (.map (some pm))).setCell ⟨p3, 0, none⟩ (.bool true)) := (hbw.setCell (p := ⟨p2, 0, none⟩) (by show w.heap.size ≤ p2; omega) _).setCell (p := ⟨p3, 0, none⟩) (by show w.heap.size ≤ p3; omega) _
        refine leaves_marks Ds _ HD.out.1 (fun D hD => obj_set (obj_set (d1 D hD).2 _ _ (by have := (d1 D hD).1; show D ≠ p2; omega)) _ _ (by have := (d1 D hD).1; show D ≠ p3; omega)) ?_
        refine ⟨.tuple #[.map (some pm), .bool true], ?_, .map (some pm), by rw [ligB, HE.out]; rfl, shut_below hbe (fun D hD => by have := (d1 D hD).1; omega), fun o ho => ?_⟩
        · simp [results, Tryz.f64, go_sem, r2', r3']
        · rw [HE.out] at ho
          cases ho
          exact ⟨pm, by omega, rfl, hm'.mono (by have := HI2.out; omega)⟩
end Go.Proofs.YtndpdbofoojkhaaGreat.Fo
