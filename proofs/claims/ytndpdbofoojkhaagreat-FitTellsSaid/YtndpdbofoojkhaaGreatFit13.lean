/- joined for a claim: Fit12, Fit13 -/
import Derived.Test.YtndpdbofoojkhaaGreatFit11
import Derived.Test.YtndpdbofoojkhaaGreatLevel8
import Derived.DeepKeys4
import Derived.Maps.OwnSet
import Derived.Carry
/- What a ruler is: its face, and a map of what was told. -/
namespace Go.Proofs.YtndpdbofoojkhaaGreat.Ft
open Go.RowKit Go.Proofs.YtndpdbofoojkhaaGreat.Kit Go.Proofs.YtndpdbofoojkhaaGreat.Fo Go.Proofs.YtndpdbofoojkhaaGreat.Lv
set_option linter.unusedVariables false
set_option linter.unusedSimpArgs false

/-- All is as it was but for one block. -/
structure Off (m : Nat) (w w' : World) : Prop where
  os : w'.os = w.os
  tape : w'.tape = w.tape
  output : w'.output = w.output
  size : w.heap.size ≤ w'.heap.size
  block : ∀ k, k < w.heap.size → k ≠ m → w'.heap[k]? = w.heap[k]?
theorem Off.refl (m : Nat) (w : World) : Off m w w := ⟨rfl, rfl, rfl, Nat.le_refl _, fun _ _ _ => rfl⟩
theorem Off.trans {m : Nat} {a b c : World} (h : Off m a b) (k : Off m b c) : Off m a c :=
  ⟨k.os.trans h.os, k.tape.trans h.tape, k.output.trans h.output, Nat.le_trans h.size k.size, fun i hi hm => (k.block i (Nat.lt_of_lt_of_le hi h.size) hm).trans (h.block i hi hm)⟩
theorem Off.of {m : Nat} {w w' : World} (h : Below w.heap.size w w') : Off m w w' := ⟨h.os, h.tape, h.output, h.size, fun k hk _ => h.block k hk⟩
theorem Off.grown {m : Nat} {w w' : World} (h : w.grownBy w' (some m)) : Off m w w' := ⟨h.os, h.tape, h.output, h.size, fun k hk hm => h.block k hk (fun e => hm (Option.some.inj e))⟩
theorem Off.drew {m : Nat} {w w' : World} (h : Off m w w') : Off m w w'.drew := ⟨h.os, h.tape, h.output, h.size, h.block⟩
theorem Off.below {m B : Nat} {a w w' : World} (h : Below B a w) (k : Off m w w') (hB : B ≤ m) (hw : B ≤ w.heap.size) : Below B a w' :=
  ⟨k.os.trans h.os, k.tape.trans h.tape, k.output.trans h.output, Nat.le_trans h.size k.size, fun i hi => (k.block i (by omega) (by omega)).trans (h.block i hi)⟩
theorem Off.low {m : Nat} {w w' : World} (k : Off m w w') (hw : m ≤ w.heap.size) : Below m w w' := Off.below (Below.refl _ _) k (Nat.le_refl _) hw
theorem Off.box {m g : Nat} {w w' : World} {cs : Array Value} {t : TypeId} (h : Off m w w') (hb : Box w g cs t) (hg : g ≠ m) : Box w' g cs t := (h.block g hb.lt hg).trans hb

/-! ### What is told -/
def tellS (d : FaceD) (kind of at' : Int) : Int × Int :=
  if kind = 0 then widthV d of at' else if kind = 1 then kernV d of at' else if kind = 2 then ((edgesV d of at').1, (edgesV d of at').2.2) else (edgesV d of at').2
theorem clamp_same {d : FaceD} (hu : 0 ≤ d.up) (hd : 0 ≤ d.down) (n : Int) : clampP d (clampP d n) = clampP d n := by
  unfold clampP; omega
theorem tell_clamp {d : FaceD} (hu : 0 ≤ d.up) (hd : 0 ≤ d.down) (k o n : Int) : tellS d k o (clampP d n) = tellS d k o n := by
  have hw : widthV d o (clampP d n) = widthV d o n := by unfold widthV wideP; rw [clamp_same hu hd]
  have hk : kernV d o (clampP d n) = kernV d o n := by unfold kernV kernP; rw [clamp_same hu hd]
  have he : edgesV d o (clampP d n) = edgesV d o n := by unfold edgesV; rw [hw]
  unfold tellS
  rw [hw, hk, he]
theorem clamp_code {d : FaceD} (hu : 0 ≤ d.up) (hd : 0 ≤ d.down) (n : Int) : max (min n d.up) (-d.down) = clampP d n := by
  unfold clampP; omega
def toldD (x : Int × Bool) : DataW Unit := .agg [.lit (.int .i64 x.1), .lit (.bool x.2)]
def toldElem (v : Value) : Option (DataW Unit × List MemPlace) :=
  match v with
  | .agg cs => (match cs.toList with
    | [.int .i64 a, .bool b] => some (toldD (a, b), [])
    | _ => none)
  | _ => none
theorem toldElem_mk (a : Int) (b : Bool) : toldElem (.agg #[.int .i64 a, .bool b]) = some (toldD (a, b), []) := rfl
theorem toldElem_inv {v : Value} {z : DataW Unit × List MemPlace} (h : toldElem v = some z) : ∃ a b, v = .agg #[.int .i64 a, .bool b] ∧ z = (toldD (a, b), []) := by
  unfold toldElem at h
  split at h
  · split at h
    · rename_i cs a b he
      refine ⟨a, b, ?_, by simpa using h.symm⟩
      congr
      exact Array.toList_inj.1 (by rw [he])
    · cases h
  · cases h
theorem toldD_inj {a c : Int} {b d : Bool} (h : toldD (a, b) = toldD (c, d)) : a = c ∧ b = d := by
  unfold toldD at h
  simpa using h
theorem laid_all : laidOutB Tryz.prog = true := by kernel_rfl
theorem wide_asked : (match Tryz.prog.underlying 114 with | some (.array _ _) | some (.struct _) => true | _ => false) = true := by rw [Tryz.underlying114]
theorem row_asked : (114 : TypeId) < Tryz.prog.types.size := of_decide_eq_true (by kernel_rfl)
set_option maxRecDepth 100000 in
theorem asked_law : Maps.Keyed Tryz.prog 114 := Maps.Keyed.of_law (deep_law_laid laid_all (m := 3) (by omega) row_asked (by kernel_rfl) wide_asked)
abbrev keyV (k o l : Int) : Value := .agg #[.int .i64 k, .int .i64 o, .int .i64 l]
theorem key_at {k o l : Int} (hk : (Lit.int .i64 k).wf = true) (ho : (Lit.int .i64 o).wf = true) (hl : (Lit.int .i64 l).wf = true) : ∃ kl, keyOf Tryz.prog 114 (keyV k o l) = some kl := by
  have c1 : Tryz.prog.cellsOf 114 = 3 := by kernel_rfl
  have c2 : Tryz.prog.cellsOf 3 = 1 := by kernel_rfl
  have hkt : Tryz.prog.keyType 114 = true := by kernel_rfl
  obtain ⟨n, hn⟩ : ∃ n, Tryz.prog.types.size + 1 = n + 2 := ⟨Tryz.prog.types.size - 1, by have h : (0 : Nat) < Tryz.prog.types.size := Nat.lt_of_le_of_lt (Nat.zero_le _) row_asked; omega⟩
  have hL : Tryz.prog.keyLits (n + 2) 114 [.int .i64 k, .int .i64 o, .int .i64 l] = some [.int .i64 k, .int .i64 o, .int .i64 l] := by
    simp [Program.keyLits, Tryz.underlying114, Tryz.underlying3, c1, c2, hk, ho, hl]
  have hfm : (keyV k o l).formed Tryz.prog 114 = true := by simp [Value.formed, Tryz.underlying114, c1]
  refine ⟨.string (keyBytes [.int .i64 k, .int .i64 o, .int .i64 l]), ?_⟩
  unfold keyOf
  rw [Tryz.underlying114]
  simp only [hkt, hfm, hn, Bool.and_self, if_true]
  rw [show (keyV k o l).cells.toList = [.int .i64 k, .int .i64 o, .int .i64 l] from rfl, hL]
  rfl
/-- What stands in the map is what the face tells. -/
def GoodM (d : FaceD) (D : DataW Unit) : Prop := ∀ (k o l : Int) (kl : Lit), keyOf Tryz.prog 114 (keyV k o l) = some kl → Maps.has D kl = true → D.atKey kl (toldD (0, false)) = toldD ((tellS d k o l).1, decide ((tellS d k o l).2 = 0))
theorem good_nil (d : FaceD) : GoodM d (.map []) := fun k o l kl _ h => by simp [Maps.has] at h
theorem zero_told (w : World) : (zeroValue 116).run Tryz.prog w = .ok (.agg #[.int .i64 0, .bool false]) w := by kernel_rfl
theorem look_tell {w : World} {m n : Nat} {d : FaceD} {D : DataW Unit} (hown : w.ownsMap Tryz.prog 114 toldElem m n D) (hG : GoodM d D) {k o l : Int} (hk : (Lit.int .i64 k).wf = true) (ho : (Lit.int .i64 o).wf = true) (hl : (Lit.int .i64 l).wf = true) :
    ∃ p q f, (∀ w' : World, w'.heap[m]? = w.heap[m]? → (Instr.lookup 59 (.map (some m)) (keyV k o l) true).run Tryz.prog w' = .ok (.tuple #[.agg #[.int .i64 p, .bool q], .bool f]) w') ∧ (f = true → p = (tellS d k o l).1 ∧ q = decide ((tellS d k o l).2 = 0)) := by
  obtain ⟨kl, hkl⟩ := key_at hk ho hl
  obtain ⟨v, ps, hrun, hv⟩ := hown.look_ok asked_law Tryz.underlying59 (zero_told w) (toldElem_mk 0 false) hkl
  obtain ⟨p, q, rfl, hz⟩ := toldElem_inv hv
  simp only [Prod.mk.injEq] at hz
  refine ⟨p, q, Maps.has D kl, fun w' hw' => ?_, fun h => ?_⟩
  · have hown' : w'.ownsMap Tryz.prog 114 toldElem m n D := by
      obtain ⟨es, ck, hb, rest⟩ := hown
      exact ⟨es, ck, hw'.trans hb, rest⟩
    obtain ⟨v2, ps2, hrun2, hv2⟩ := hown'.look_ok asked_law Tryz.underlying59 (zero_told w') (toldElem_mk 0 false) hkl
    obtain ⟨p2, q2, rfl, hz2⟩ := toldElem_inv hv2
    simp only [Prod.mk.injEq] at hz2
    obtain ⟨rfl, rfl⟩ := toldD_inj (hz.1.symm.trans hz2.1)
    exact hrun2
  · have := hG k o l kl hkl h
    rw [hz.1] at this
    exact toldD_inj this
theorem put_tell {w : World} {m n : Nat} {d : FaceD} {D : DataW Unit} (hown : w.ownsMap Tryz.prog 114 toldElem m n D) (hG : GoodM d D) (hn : n < 1000000000000) {k o l : Int} (hk : (Lit.int .i64 k).wf = true) (ho : (Lit.int .i64 o).wf = true) (hl : (Lit.int .i64 l).wf = true) :
    ∃ w' D', (Instr.mapUpdate 59 (.map (some m)) (keyV k o l) (.agg #[.int .i64 (tellS d k o l).1, .bool (decide ((tellS d k o l).2 = 0))])).run Tryz.prog w = .ok () w' ∧ w'.ownsMap Tryz.prog 114 toldElem m (n + 1) D' ∧ GoodM d D' ∧ w.grownBy w' (some m) := by
  obtain ⟨kl, hkl⟩ := key_at hk ho hl
  obtain ⟨w', hrun, h1, h2⟩ := hown.update asked_law Tryz.underlying59 (by unfold maxLen; omega) hkl (toldElem_mk (tellS d k o l).1 (decide ((tellS d k o l).2 = 0)))
  refine ⟨w', _, hrun, h1, fun k' o' l' kl' hkl' h => ?_, h2⟩
  by_cases e : kl' = kl
  · subst e
    have := asked_law.inj hkl hkl'
    simp only [Value.agg.injEq, Array.mk.injEq, List.cons.injEq, Value.int.injEq, true_and, and_true] at this
    obtain ⟨rfl, rfl, rfl⟩ := this
    rw [Maps.atKey_put_same hown.isMap (asked_law.key hkl)]
  · rw [Maps.has_put_other e] at h
    rw [Maps.atKey_put_other e]
    exact hG k' o' l' kl' hkl' h
/-- A ruler in memory. -/
abbrev rulCells (d : FaceD) (a : FaceA) (m : Nat) : Array Value := #[.int .i64 d.font.sum, .int .i64 d.font.design, .int .i64 d.font.first, .slice a.font.c d.font.chars.length a.font.cc, .slice a.font.w d.font.widths.length a.font.cw, .slice a.font.h d.font.heights.length a.font.ch, .slice a.font.d d.font.depths.length a.font.cd, .slice a.font.i d.font.italics.length a.font.ci, .slice a.font.s d.font.steps.length a.font.cs, .slice a.font.k d.font.kerns.length a.font.ck, .slice a.font.p d.font.params.length a.font.cp,
  .int .i64 d.size, .int .i64 d.step, .int .i64 d.up, .int .i64 d.down, .slice a.t d.traits.length a.ct, .map (some m)]
structure Rul (d : FaceD) (a : FaceA) (r m n : Nat) (w : World) : Prop where
  box : Box w r (rulCells d a m) 61
  face : FaceIn w m d a
  ne : r ≠ m
  lt : m < w.heap.size
  map : ∃ D, w.ownsMap Tryz.prog 114 toldElem m n D ∧ GoodM d D
theorem Rul.off {d : FaceD} {a : FaceA} {r m n : Nat} {w w' : World} (h : Rul d a r m n w) (hb : Below w.heap.size w w') : Rul d a r m n w' := by
  obtain ⟨D, h1, h2⟩ := h.map
  exact ⟨h.box.below hb, h.face.mono (hb.mono (Nat.le_of_lt h.lt)), h.ne, Nat.lt_of_lt_of_le h.lt hb.size, D, h1.kept (show w.grownBy w' none from ⟨hb.os, hb.tape, hb.output, hb.size, fun k hk _ => hb.block k hk⟩) (by simp), h2⟩
theorem Rul.more {d : FaceD} {a : FaceA} {r m n n' : Nat} {w : World} (h : Rul d a r m n w) (hn : n ≤ n') : Rul d a r m n' w := by
  obtain ⟨D, h1, h2⟩ := h.map
  exact ⟨h.box, h.face, h.ne, h.lt, D, h1.mono hn, h2⟩
end Go.Proofs.YtndpdbofoojkhaaGreat.Ft
/- A new ruler (fit.New). -/
namespace Go.Proofs.YtndpdbofoojkhaaGreat.Ft
open Go.RowKit Go.Proofs.YtndpdbofoojkhaaGreat.Kit Go.Proofs.YtndpdbofoojkhaaGreat.Fo Go.Proofs.YtndpdbofoojkhaaGreat.Lv
set_option linter.unusedVariables false
set_option linter.unusedSimpArgs false

set_option maxRecDepth 100000 in
set_option maxHeartbeats 4000000 in
theorem new_any (d : FaceD) (a : FaceA) (w : World) {B : Nat} (hB : B ≤ w.heap.size) (hF : FaceIn w B d a) (hs : SmallF d) :
    Calls Tryz.prog 7 #[faceV d a] w fun e w' =>
      (faceB d = false → e = .returned (.tuple #[.pointer none, .int .i64 90])) ∧
      (faceB d = true → ∃ r m a', e = .returned (.tuple #[.pointer (some ⟨r, 0, none⟩), .int .i64 0]) ∧ Rul d a' r m 0 w' ∧ w.heap.size ≤ m ∧ m < r) ∧ Below w.heap.size w w' := by
  have hbx := Box.new w (faceCells d a) 29
  have hbw := below_alloc (Below.refl w.heap.size w) (.cells (faceCells d a) 29)
  obtain ⟨W1, hW⟩ : ∃ W1, w.alloc (.cells (faceCells d a) 29) = W1 := ⟨_, rfl⟩
  rw [hW] at hbx hbw
  have hs1 := hbw.size
  have HC := Lib.hid (face_any d a W1 (Nat.le_trans hB hs1) (hF.mono (hbw.mono hB)))
  have HO : Hid (∀ W, Below W1.heap.size W1 W → Calls Tryz.prog 18 #[faceV d a] W fun e w' => ∃ a', e = .returned (faceV d a') ∧ FaceIn w' w'.heap.size d a' ∧ Below W.heap.size W w') := Lib.hid (fun W hb => own_any d a W (B := B) (Nat.le_trans (Nat.le_trans hB hs1) hb.size) ((hF.mono (hbw.mono hB)).mono (hb.mono (Nat.le_trans hB hs1))) hs)
  obtain ⟨⟨c0, c1, c2, c3, c4, c5, c6, c7, c8, c9, c10⟩, c11, c12, c13, c14, c15⟩ := face_cells hbx
  clear hF
  cases hf : faceB d with
  | false =>
    rw [hf] at HC
    clear HO hf
    go_enter Tryz.func7, Tryz.ntmps7
    go_wp2_with fail
    with_reducible refine HC.out.mono ?_
    rintro e w1 ⟨rfl, hb⟩
    have hw1 := hbw.trans (hb.mono hs1)
    clear hW HC hb c0 c1 c2 c3 c4 c5 c6 c7 c8 c9 c10 c11 c12 c13 c14 c15
    go_wp2_with fail
    go_ret2
    exact ⟨fun _ => rfl, fun h => by simp at h, hw1⟩
  | true =>
    rw [hf] at HC
    clear hf
    go_enter Tryz.func7, Tryz.ntmps7
    go_wp2_with fail
    with_reducible refine HC.out.mono ?_
    rintro e w1 ⟨rfl, hb⟩
    have hw1 := hbw.trans (hb.mono hs1)
    have HO1 := Lib.hid (HO.out w1 hb)
    have hbx1 := hbx.below hb
    clear hW HC HO hb c0 c1 c2 c3 c4 c5 c6 c7 c8 c9 c10 c11 c12 c13 c14 c15 hbx
    obtain ⟨⟨c0, c1, c2, c3, c4, c5, c6, c7, c8, c9, c10⟩, c11, c12, c13, c14, c15⟩ := face_cells hbx1
    have hmm := @run_makeMap Tryz.prog
    go_wp2_with fail
    with_reducible refine HO1.out.mono ?_
    rintro e w2 ⟨a', rfl, hF2, hb2⟩
    clear c0 c1 c2 c3 c4 c5 c6 c7 c8 c9 c10 c11 c12 c13 c14 c15 hbx1 HO1
    have hw2 := hw1.trans (hb2.mono hw1.size)
    have hmap := (World.ownsMap_made w2 Tryz.prog 114 toldElem).alloc (.cells (rulCells d a' w2.heap.size) 61)
    have hbr := Box.new (w2.alloc (.map #[] 0)) (rulCells d a' w2.heap.size) 61
    have hb3 : Below w2.heap.size w2 ((w2.alloc (.map #[] 0)).alloc (.cells (rulCells d a' w2.heap.size) 61)) := below_alloc (below_alloc (Below.refl _ _) _) _
    simp only [World.size_alloc] at hbr
    go_wp2_with fail
    go_ret2
    refine ⟨fun h => by simp at h, fun _ => ⟨w2.heap.size + 1, w2.heap.size, a', rfl, ⟨hbr, hF2.mono hb3, by omega, by simp only [World.size_alloc]; omega, _, hmap, good_nil d⟩, hw2.size, by omega⟩, below_join hw2 hb3⟩
end Go.Proofs.YtndpdbofoojkhaaGreat.Ft
