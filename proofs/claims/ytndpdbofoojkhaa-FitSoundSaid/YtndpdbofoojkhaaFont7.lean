/- The steps of a character, one behind the other, as an iterator. -/
import Derived.RangeFuncNested
import Derived.RangeFuncBound
import Derived.RangeFuncCalls
import Derived.RangeFuncLeaves
import Derived.Shelf.Abstract
import Derived.Shelf.RegionOpen
import Derived.WalkKit
import Derived.OwnWalkIn
import Derived.TacticsInMore
import Derived.LoopNIn
import Derived.LoopIn
import Derived.Test.YtndpdbofoojkhaaFont6
namespace Go.Proofs.Ytndpdbofoojkhaa.Fo
open Go.RowKit Go.Proofs.Ytndpdbofoojkhaa.Kit Go.Shelf
set_option linter.unusedVariables false
set_option linter.unusedSimpArgs false
attribute [local go_sem] Oper.semAt_some

/-- What an iterator over steps hands over. -/
def cameB (x : Int × StepT) : Prop := (-1 ≤ x.1 ∧ x.1 < 256) ∧ (0 ≤ x.2.1 ∧ x.2.1 < 256) ∧ (0 ≤ x.2.2.1 ∧ x.2.2.1 < 256) ∧ (0 ≤ x.2.2.2.1 ∧ x.2.2.2.1 < 256) ∧ (0 ≤ x.2.2.2.2 ∧ x.2.2.2.2 < 256)
abbrev Came := { x : Int × StepT // cameB x }
abbrev raw (l : List Came) : List (Int × StepT) := l.map Subtype.val
abbrev cameV (x : Came) : Array Value := #[.int .i64 x.1.1, stepV x.1.2]
def noneC : Came := ⟨(-1, (0, 0, 0, 0)), by simp [cameB]⟩
abbrev charCells (c : CharT) : Array Value := #[.int .i64 c.1, .int .i64 c.2.1, .int .i64 c.2.2.1, .int .i64 c.2.2.2.1, .int .i64 c.2.2.2.2.1, .int .i64 c.2.2.2.2.2]
/-- What a round keeps: whatever lay below a block, and two boxes. -/
def Kept (n₀ gf gc : Nat) (W W' : World) : Prop := Below n₀ W W' ∧ W'.heap[gf]? = W.heap[gf]? ∧ W'.heap[gc]? = W.heap[gc]?
theorem Kept.refl (n₀ gf gc : Nat) (W : World) : Kept n₀ gf gc W W := ⟨Below.refl _ _, rfl, rfl⟩
theorem Kept.trans {n₀ gf gc : Nat} {A B C : World} (h : Kept n₀ gf gc A B) (k : Kept n₀ gf gc B C) : Kept n₀ gf gc A C := ⟨h.1.trans k.1, k.2.1.trans h.2.1, k.2.2.trans h.2.2⟩
theorem char_cells {w : World} {g : Nat} {c : CharT} {t : TypeId} (h : Box w g (charCells c) t) :
    w.cell? ⟨g, 0, none⟩ = some (.int .i64 c.1) ∧ w.cell? ⟨g, 1, none⟩ = some (.int .i64 c.2.1) ∧ w.cell? ⟨g, 2, none⟩ = some (.int .i64 c.2.2.1) ∧ w.cell? ⟨g, 3, none⟩ = some (.int .i64 c.2.2.2.1) ∧ w.cell? ⟨g, 4, none⟩ = some (.int .i64 c.2.2.2.2.1) ∧ w.cell? ⟨g, 5, none⟩ = some (.int .i64 c.2.2.2.2.2) :=
  ⟨h.cell 0 rfl, h.cell 1 rfl, h.cell 2 rfl, h.cell 3 rfl, h.cell 4 rfl, h.cell 5 rfl⟩
theorem box_kept {W W' : World} {g : Nat} {cs : Array Value} {t : TypeId} (h : Box W g cs t) (hk : W'.heap[g]? = W.heap[g]?) : Box W' g cs t := hk.trans h

theorem next_none {l : List StepT} {m j : Nat} (hm : 1 ≤ m) (hj : l.length ≤ j) : stepsFrom l m j = [(-1, (0, 0, 0, 0))] := by
  obtain ⟨m, rfl⟩ : ∃ k, m = k + 1 := ⟨m - 1, by omega⟩
  unfold stepsFrom
  rw [List.getElem?_eq_none (by omega)]
theorem next_last {l : List StepT} {m j : Nat} {s : StepT} (hm : 1 ≤ m) (hs : l[j]? = some s) (h : 128 ≤ s.1) : stepsFrom l m j = [((j : Int), s)] := by
  obtain ⟨m, rfl⟩ : ∃ k, m = k + 1 := ⟨m - 1, by omega⟩
  unfold stepsFrom
  rw [hs]
  simp [h]
theorem next_more {l : List StepT} {m j : Nat} {s : StepT} (hm : 1 ≤ m) (hs : l[j]? = some s) (h : s.1 < 128) : stepsFrom l m j = ((j : Int), s) :: stepsFrom l (m - 1) (j + s.1.toNat + 1) := by
  obtain ⟨m, rfl⟩ : ∃ k, m = k + 1 := ⟨m - 1, by omega⟩
  rw [stepsFrom, hs]
  simp [show ¬ 128 ≤ s.1 by omega]
theorem next_head {l : List StepT} {m j : Nat} {s : StepT} (hm : 1 ≤ m) (hs : l[j]? = some s) : [((j : Int), s)] <+: stepsFrom l m j := by
  by_cases h : s.1 < 128
  · rw [next_more hm hs h]; exact ⟨_, rfl⟩
  · rw [next_last hm hs (by omega)]; exact List.prefix_refl _

set_option maxRecDepth 100000 in
set_option maxHeartbeats 2000000 in
theorem steps1_in (F : Fence) (n : Nat) (h76 : F.fn 73) (hro : F.round = none) (hn : 1 ≤ n) (l gc gf n₀ N : Nat) (d : FontD) (a : FontA) (c : CharT) (ht : tfmB d = true) (hc : charB d c = true) (hN : d.steps.length + 1 ≤ N) (J Jx : List Came → World → Prop)
    (hY : ∀ pre (x : Came) W, J pre W → pre.length < N → YieldAt F (n - 1) Try.prog l (cameV x) W fun e W' =>
      (e = .returned (.bool true) ∧ J (pre ++ [x]) W' ∧ Kept n₀ gf gc W W') ∨ (e = .returned (.bool false) ∧ Jx (pre ++ [x]) W'))
    (W : World) (hbc : Box W gc (charCells c) 78) (hbf : Box W gf (fontCells d a) 26) (hF : FontIn W n₀ d a) (h0 : J [] W) :
    CallsIn F n Try.prog 73 #[.func (.yield l) #[] #[], .pointer (some ⟨gc, 0, none⟩), .pointer (some ⟨gf, 0, none⟩)] W fun e W' => (∃ v, e = .returned v) ∧
      ((∃ ys, raw ys = stepsOf d c ∧ J ys W') ∨ (∃ pre, raw pre <+: stepsOf d c ∧ Jx pre W')) := by
  obtain ⟨s1, s2, s3, s4, s5, s6, s7⟩ := tfm_sizes ht
  have HY := Lib.hid hY
  have HT := Lib.hid ht
  have HC := Lib.hid hc
  clear hY ht hc
  obtain ⟨r, hr⟩ : ∃ r, Hid (stepsOf d c = r) := ⟨_, Lib.hid rfl⟩
  rw [hr.out]
  obtain ⟨c0, c1, c2, c3, c4, c5⟩ := char_cells hbc
  by_cases htag : c.2.2.2.2.1 = 1
  · have hrem : 0 ≤ c.2.2.2.2.2 ∧ c.2.2.2.2.2 < d.steps.length := by
      have := HC.out
      simp [charB, tagB, ofB, htag] at this
      omega
    obtain ⟨j0, hj0⟩ : ∃ j : Nat, c.2.2.2.2.2 = j := ⟨c.2.2.2.2.2.toNat, by omega⟩
    have HS : Hid (r = stepsFrom d.steps (d.steps.length + 1) j0) := Lib.hid (by rw [← hr.out, stepsOf, if_pos htag, hj0]; rfl)
    rw [hj0] at c5 hrem
    rw [htag] at c4
    clear hj0
    refine callsIn_of_wp Try.func73 rfl h76 ?_ hro
    simp only [Try.ntmps73, List.size_toArray, List.length_cons, List.length_nil, Nat.reduceAdd, Nat.reduceSub, Array.replicate_succ, Array.replicate_zero, List.push_toArray, List.append_toArray, List.nil_append, List.cons_append]
    gi_wp2
    gi_loopw [4] (fun k wr => ∃ (pre : List Came) (j m : Nat), k = .int .i64 j ∧ Hid (r = raw pre ++ stepsFrom d.steps m j) ∧ (1 ≤ m ∧ d.steps.length < m + j) ∧ pre.length ≤ d.steps.length ∧ pre.length ≤ j ∧ j < d.steps.length + 300 ∧ J pre wr ∧ Kept n₀ gf gc W wr) (fun k wr => d.steps.length + 400 - (intOf k).toNat)
    case atStart => exact ⟨[], j0, d.steps.length + 1, rfl, Lib.hid (by rw [HS.out]; rfl), ⟨by omega, by omega⟩, by simp, by simp, by omega, h0, Kept.refl _ _ _ _⟩
    case round =>
      obtain ⟨pre, j, m, rfl, HR, ⟨hm1, hm2⟩, hp1, hp2, hj1, hJ, hK⟩ := hrel
      obtain ⟨d0, d1, d2, d3, d4, d5⟩ := char_cells (box_kept hbc hK.2.2)
      rw [htag] at d4
      obtain ⟨f0, f1, f2, f3, f4, f5, f6, f7, f8, f9, f10⟩ := font_cells (box_kept hbf hK.2.1)
      clear c0 c1 c2 c3 c4 c5 d0 d1 d2 d3 d5 f0 f1 f2 f3 f4 f5 f6 f7 f9 f10
      by_cases hlt : j < d.steps.length
      · obtain ⟨s, hs⟩ := at_lt hlt
        obtain ⟨b, o, hA, hb, ⟨e0, e1, e2, e3⟩, _⟩ := step_at (hF.steps.mono hK.1) hs
        obtain ⟨k1, k2, k3, k4⟩ := step_ok HT.out hs
        have HS2 := Lib.hid hs
        obtain ⟨x, hx⟩ : ∃ x : Came, x.1 = ((j : Int), s) := ⟨⟨((j : Int), s), by simp [cameB]; omega⟩, rfl⟩
        have HH := Lib.hid (next_head hm1 hs)
        obtain ⟨fn, tmps, assign, body, hy, hR⟩ := HY.out pre x wr hJ (by omega)
        simp only [cameV, stepV, hx] at hy
        have HX := Lib.hid hx
        rw [hA] at f8
        clear hs hx
        gi_wp2
        refine hR.mono ?_
        rintro e W3 (⟨rfl, hJ3, hk3⟩ | ⟨rfl, hJx3⟩)
        · have g8 := (font_cells (box_kept hbf (hK.trans hk3).2.1)).2.2.2.2.2.2.2.2.1
          rw [hA] at g8
          have g9 : W3.cell? ⟨b, o + j * 4, none⟩ = _ := (hk3.1.cell (p := ⟨b, o + j * 4, none⟩) hb).trans e0
          have d43 := (char_cells (box_kept hbc (hK.trans hk3).2.2)).2.2.2.2.1
          clear f8 e0 e1 e2 e3 d4
          by_cases h128 : 128 ≤ s.1
          · have HL := Lib.hid (next_last hm1 HS2.out h128)
            gi_wp2
            refine bodyPost_ret (results_none rfl _ _ _) rfl ?_
            exact ⟨⟨_, rfl⟩, .inl ⟨pre ++ [x], by rw [HR.out, HL.out]; simp [raw, HX.out], hJ3⟩⟩
          · have HL := Lib.hid (next_more hm1 HS2.out (by omega))
            obtain ⟨q, hq⟩ : ∃ q : Nat, s.1 = q := ⟨s.1.toNat, by omega⟩
            rw [hq] at g9
            have HQ := Lib.hid hq
            have hq2 : q < 128 := by omega
            clear hq h128
            gi_wp2
            refine ⟨⟨pre ++ [x], j + q + 1, m - 1, by simp only [Value.int.injEq, true_and]; omega, Lib.hid ?_, ⟨by omega, by omega⟩, by simp; omega, by simp; omega, by omega, hJ3, hK.trans hk3⟩, by simp [intOf]; omega⟩
            rw [HR.out, HL.out, raw, raw, List.map_append, List.map_singleton, HX.out, HQ.out]
            simp
        · gi_wp2
          refine bodyPost_ret (results_none rfl _ _ _) rfl ?_
          refine ⟨⟨_, rfl⟩, .inr ⟨pre ++ [x], ?_, hJx3⟩⟩
          rw [HR.out, raw, List.map_append, List.map_singleton, HX.out]
          exact List.prefix_append_right_inj _ |>.2 HH.out
      · have HL := Lib.hid (next_none (l := d.steps) (m := m) (j := j) hm1 (by omega))
        obtain ⟨fn, tmps, assign, body, hy, hR⟩ := HY.out pre noneC wr hJ (by omega)
        have hy' : (Instr.yield l #[.int .i64 (-1), .agg #[.int .i64 0, .int .i64 0, .int .i64 0, .int .i64 0]]).run Try.prog wr = _ := hy
        clear hy
        gi_wp2
        refine hR.mono ?_
        rintro e W3 (⟨rfl, hJ3, hk3⟩ | ⟨rfl, hJx3⟩)
        · gi_wp2
          refine bodyPost_ret (results_none rfl _ _ _) rfl ?_
          exact ⟨⟨_, rfl⟩, .inl ⟨pre ++ [noneC], by rw [HR.out, HL.out]; simp [raw, noneC], hJ3⟩⟩
        · gi_wp2
          refine bodyPost_ret (results_none rfl _ _ _) rfl ?_
          exact ⟨⟨_, rfl⟩, .inr ⟨pre ++ [noneC], by rw [HR.out, HL.out]; simp [raw, noneC], hJx3⟩⟩
  · have HE : Hid (r = []) := Lib.hid (by rw [← hr.out, stepsOf, if_neg htag])
    have F4 : (c.2.2.2.2.1 == 1) = false := by simpa using htag
    clear htag
    refine callsIn_of_wp Try.func73 rfl h76 ?_ hro
    simp only [Try.ntmps73, List.size_toArray, List.length_cons, List.length_nil, Nat.reduceAdd, Nat.reduceSub, Array.replicate_succ, Array.replicate_zero, List.push_toArray, List.append_toArray, List.nil_append, List.cons_append]
    gi_wp2
    gi_loopw [4] (fun k wr => wr = W) (fun k wr => 0)
    case atStart => rfl
    case round =>
      subst hrel
      gi_wp2
      go_end0
      exact ⟨⟨_, rfl⟩, .inl ⟨[], by rw [HE.out]; rfl, h0⟩⟩
end Go.Proofs.Ytndpdbofoojkhaa.Fo
