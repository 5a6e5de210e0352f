/- Whether a place is better than another one (better). -/
import Derived.Test.YtndpdbofoojkhaaGreatFit18
namespace Go.Proofs.YtndpdbofoojkhaaGreat.Ft
open Go.RowKit Go.Proofs.YtndpdbofoojkhaaGreat.Kit Go.Proofs.YtndpdbofoojkhaaGreat.Fo Go.Proofs.YtndpdbofoojkhaaGreat.Lv Go.Proofs.YtndpdbofoojkhaaGreat.Bad
set_option linter.unusedVariables false
set_option linter.unusedSimpArgs false

structure FitD where
  level : Int
  nat : Int
  left : Int
  right : Int
  bad : Int
  cls : Int
  unset : Bool
  defect : Int
abbrev fitC (x : FitD) (gap : Int) : Array Value := placeC x.level x.nat x.left x.right x.bad x.cls x.unset x.defect gap
def sizeI (n : Int) : Int := max n (wrap64 (-n))
def flagI (b : Bool) : Int := if b then 1 else 0
def firstDiff : List (Int × Int) → Option Bool
  | [] => none
  | x :: xs => if x.1 = x.2 then firstDiff xs else some (decide (x.1 < x.2))
def pairsF (x y : FitD) : List (Int × Int) := [(flagI x.unset, flagI y.unset), (sizeI x.defect, sizeI y.defect), (x.bad, y.bad), (sizeI x.level, sizeI y.level)]
def betterP (x y : FitD) : Bool := (firstDiff (pairsF x y)).getD (decide (y.level < x.level))
theorem size_any (n : Int) (w : World) (hn : (Lit.int .i64 n).wf = true) : Calls Tryz.prog 59 #[.int .i64 n] w fun e w' => e = .returned (.int .i64 (sizeI n)) ∧ w = w' := by
  obtain ⟨i1, i2⟩ := i64_of hn
  clear hn
  go_enter Tryz.func59, Tryz.ntmps59
  go_wp2_with fail
  go_ret
  exact ⟨ret_int rfl (by simp [sizeI]), rfl⟩
theorem diff_next {L : List (Int × Int)} {j : Nat} {x : Int × Int} (h : L[j]? = some x) : firstDiff (L.drop j) = if x.1 = x.2 then firstDiff (L.drop (j + 1)) else some (decide (x.1 < x.2)) := by rw [drop_cons h]; rfl
theorem four_cells (L : List (Int × Int)) (a b c d : Int × Int) (h : L = [a, b, c, d]) : ∀ j x, L[j]? = some x → (#[Value.int .i64 a.1, .int .i64 a.2, .int .i64 b.1, .int .i64 b.2, .int .i64 c.1, .int .i64 c.2, .int .i64 d.1, .int .i64 d.2] : Array Value)[j * 2]? = some (.int .i64 x.1) ∧ (#[Value.int .i64 a.1, .int .i64 a.2, .int .i64 b.1, .int .i64 b.2, .int .i64 c.1, .int .i64 c.2, .int .i64 d.1, .int .i64 d.2] : Array Value)[j * 2 + 1]? = some (.int .i64 x.2) := by
  intro j x hx
  subst h
  have hj : j < 4 := (List.getElem?_eq_some_iff.1 hx).1
  have : j = 0 ∨ j = 1 ∨ j = 2 ∨ j = 3 := by omega
  rcases this with rfl | rfl | rfl | rfl <;> (cases hx; exact ⟨rfl, rfl⟩)
set_option maxRecDepth 100000 in
set_option maxHeartbeats 8000000 in
theorem better_any (p q : Nat) (x y : FitD) (gx gy : Int) (w : World) (hp : Box w p (fitC x gx) 71) (hq : Box w q (fitC y gy) 71) (w1 : (Lit.int .i64 x.defect).wf = true ∧ (Lit.int .i64 y.defect).wf = true ∧ (Lit.int .i64 x.level).wf = true ∧ (Lit.int .i64 y.level).wf = true) :
    Calls Tryz.prog 28 #[.pointer (some ⟨p, 0, none⟩), .pointer (some ⟨q, 0, none⟩)] w fun e w' => e = .returned (.bool (betterP x y)) ∧ Below w.heap.size w w' := by
  obtain ⟨d1, d2, l1, l2⟩ := w1
  have a0 : w.cell? ⟨p, 0, none⟩ = some (.int .i64 x.level) := hp.cell 0 rfl
  have a4 : w.cell? ⟨p, 4, none⟩ = some (.int .i64 x.bad) := hp.cell 4 rfl
  have a6 : w.cell? ⟨p, 6, none⟩ = some (.bool x.unset) := hp.cell 6 rfl
  have a7 : w.cell? ⟨p, 7, none⟩ = some (.int .i64 x.defect) := hp.cell 7 rfl
  have b0 : w.cell? ⟨q, 0, none⟩ = some (.int .i64 y.level) := hq.cell 0 rfl
  have b4 : w.cell? ⟨q, 4, none⟩ = some (.int .i64 y.bad) := hq.cell 4 rfl
  have b6 : w.cell? ⟨q, 6, none⟩ = some (.bool y.unset) := hq.cell 6 rfl
  have b7 : w.cell? ⟨q, 7, none⟩ = some (.int .i64 y.defect) := hq.cell 7 rfl
  have HP := Lib.hid hp
  have HQ := Lib.hid hq
  obtain ⟨f1, hf1⟩ : ∃ f, Hid (flagI x.unset = f) := ⟨_, Lib.hid rfl⟩
  obtain ⟨f2, hf2⟩ : ∃ f, Hid (flagI y.unset = f) := ⟨_, Lib.hid rfl⟩
  have C1 : Hid (∀ W, Calls Tryz.prog 60 #[.bool x.unset] W fun e w' => e = .returned (.int .i64 f1) ∧ W = w') := Lib.hid (fun W => by rw [← hf1.out]; exact flag_any x.unset W)
  have C2 : Hid (∀ W, Calls Tryz.prog 60 #[.bool y.unset] W fun e w' => e = .returned (.int .i64 f2) ∧ W = w') := Lib.hid (fun W => by rw [← hf2.out]; exact flag_any y.unset W)
  obtain ⟨s1, hs1⟩ : ∃ f, Hid (sizeI x.defect = f) := ⟨_, Lib.hid rfl⟩
  obtain ⟨s2, hs2⟩ : ∃ f, Hid (sizeI y.defect = f) := ⟨_, Lib.hid rfl⟩
  obtain ⟨s3, hs3⟩ : ∃ f, Hid (sizeI x.level = f) := ⟨_, Lib.hid rfl⟩
  obtain ⟨s4, hs4⟩ : ∃ f, Hid (sizeI y.level = f) := ⟨_, Lib.hid rfl⟩
  have C3 : Hid (∀ W, Calls Tryz.prog 59 #[.int .i64 x.defect] W fun e w' => e = .returned (.int .i64 s1) ∧ W = w') := Lib.hid (fun W => by rw [← hs1.out]; exact size_any x.defect W d1)
  have C4 : Hid (∀ W, Calls Tryz.prog 59 #[.int .i64 y.defect] W fun e w' => e = .returned (.int .i64 s2) ∧ W = w') := Lib.hid (fun W => by rw [← hs2.out]; exact size_any y.defect W d2)
  have C5 : Hid (∀ W, Calls Tryz.prog 59 #[.int .i64 x.level] W fun e w' => e = .returned (.int .i64 s3) ∧ W = w') := Lib.hid (fun W => by rw [← hs3.out]; exact size_any x.level W l1)
  have C6 : Hid (∀ W, Calls Tryz.prog 59 #[.int .i64 y.level] W fun e w' => e = .returned (.int .i64 s4) ∧ W = w') := Lib.hid (fun W => by rw [← hs4.out]; exact size_any y.level W l2)
  have HK : Hid (∀ w', Below w.heap.size w w' → Below w.heap.size w w' ∧ w'.cell? ⟨p, 0, none⟩ = some (.int .i64 x.level) ∧ w'.cell? ⟨p, 4, none⟩ = some (.int .i64 x.bad) ∧ w'.cell? ⟨p, 6, none⟩ = some (.bool x.unset) ∧ w'.cell? ⟨p, 7, none⟩ = some (.int .i64 x.defect) ∧ w'.cell? ⟨q, 0, none⟩ = some (.int .i64 y.level) ∧ w'.cell? ⟨q, 4, none⟩ = some (.int .i64 y.bad) ∧ w'.cell? ⟨q, 6, none⟩ = some (.bool y.unset) ∧ w'.cell? ⟨q, 7, none⟩ = some (.int .i64 y.defect)) := Lib.hid fun w' hb => ⟨hb, later hb a0, later hb a4, later hb a6, later hb a7, later hb b0, later hb b4, later hb b6, later hb b7⟩
  obtain ⟨X, hX⟩ : ∃ X, Hid (betterP x y = X) := ⟨_, Lib.hid rfl⟩
  rw [hX.out]
  clear hp hq a0 a4 a6 a7 b0 b4 b6 b7 d1 d2 l1 l2
  go_enter Tryz.func28, Tryz.ntmps28
  go_upto_region 2 with fail
  go_cut [62, 63, 64] (fun v n i wx => ∃ gb, v = .slice (some ⟨gb, 0, none⟩) 4 4 ∧ n = .int .i64 4 ∧ i = .int .i64 0 ∧ Box wx gb #[.int .i64 f1, .int .i64 f2, .int .i64 s1, .int .i64 s2, .int .i64 x.bad, .int .i64 y.bad, .int .i64 s3, .int .i64 s4] 126 ∧ Below w.heap.size w wx)
  case first =>
    go_region_held3 (fun w' => Below w.heap.size w w' ∧ w'.cell? ⟨p, 0, none⟩ = some (.int .i64 x.level) ∧ w'.cell? ⟨p, 4, none⟩ = some (.int .i64 x.bad) ∧ w'.cell? ⟨p, 6, none⟩ = some (.bool x.unset) ∧ w'.cell? ⟨p, 7, none⟩ = some (.int .i64 x.defect) ∧ w'.cell? ⟨q, 0, none⟩ = some (.int .i64 y.level) ∧ w'.cell? ⟨q, 4, none⟩ = some (.int .i64 y.bad) ∧ w'.cell? ⟨q, 6, none⟩ = some (.bool y.unset) ∧ w'.cell? ⟨q, 7, none⟩ = some (.int .i64 y.defect))
      (first | exact HK.out _ (by repeat (first | (with_reducible exact Below.refl _ _) | (with_reducible apply below_drew) | (with_reducible apply below_alloc) | exact (‹Below w.heap.size w _ ∧ _›.1))))
      (first
        | (go_at_call 60; with_reducible refine (C1.out _).mono ?_; rintro e wq ⟨rfl, rfl⟩)
        | (go_at_call 60; with_reducible refine (C2.out _).mono ?_; rintro e wq ⟨rfl, rfl⟩)
        | (go_at_call 59; with_reducible refine (C3.out _).mono ?_; rintro e wq ⟨rfl, rfl⟩)
        | (go_at_call 59; with_reducible refine (C4.out _).mono ?_; rintro e wq ⟨rfl, rfl⟩)
        | (go_at_call 59; with_reducible refine (C5.out _).mono ?_; rintro e wq ⟨rfl, rfl⟩)
        | (go_at_call 59; with_reducible refine (C6.out _).mono ?_; rintro e wq ⟨rfl, rfl⟩))
    all_goals (go_wp2_with fail; go_meet)
    all_goals exact ⟨w.heap.size, rfl, rfl, rfl, Box.drew (Box.new _ _ _), below_drew (below_alloc (Below.refl _ _) _)⟩
  case rest =>
    rename World => wx
    obtain ⟨gb, rfl, rfl, rfl, hbx, hbw⟩ := hcut
    have HX : Hid (X = (firstDiff [(f1, f2), (s1, s2), (x.bad, y.bad), (s3, s4)]).getD (decide (y.level < x.level))) := Lib.hid (by rw [← hX.out, betterP, pairsF, hf1.out, hf2.out, hs1.out, hs2.out, hs3.out, hs4.out])
    have HA := Lib.hid (four_cells [(f1, f2), (s1, s2), (x.bad, y.bad), (s3, s4)] (f1, f2) (s1, s2) (x.bad, y.bad) (s3, s4) rfl)
    obtain ⟨L, hL⟩ : ∃ L, [(f1, f2), (s1, s2), (x.bad, y.bad), (s3, s4)] = L := ⟨_, rfl⟩
    have HLl : Hid (L.length = 4) := Lib.hid (by rw [← hL]; rfl)
    rw [hL] at HA HX
    clear hL HK C1 C2 C3 C4 C5 C6
    obtain ⟨ar, har⟩ : ∃ ar, #[Value.int .i64 f1, .int .i64 f2, .int .i64 s1, .int .i64 s2, .int .i64 x.bad, .int .i64 y.bad, .int .i64 s3, .int .i64 s4] = ar := ⟨_, rfl⟩
    have HAr : Hid (∀ j z, L[j]? = some z → ar[j * 2]? = some (.int .i64 z.1) ∧ ar[j * 2 + 1]? = some (.int .i64 z.2)) := Lib.hid (by rw [← har]; exact HA.out)
    rw [har] at hbx
    clear har HA
    go_wp2_with fail
    go_loopw [64] (fun i wr => ∃ j : Nat, j ≤ 4 ∧ i = .int .i64 (j : Int) ∧ Hid (X = (firstDiff (L.drop j)).getD (decide (y.level < x.level))) ∧ Box wr gb ar 126 ∧ Below w.heap.size w wr) (fun i _ => 4 - (intOf i).toNat)
    case atStart => exact ⟨0, by omega, rfl, Lib.hid (by rw [HX.out, List.drop_zero]), hbx, hbw⟩
    case round =>
      rename World => wr
      obtain ⟨j, hj, rfl, HS, hbr, hwr⟩ := hrel
      clear hbx hbw
      by_cases hlt : j < 4
      · obtain ⟨z, hz⟩ := at_lt (l := L) (i := j) (by rw [HLl.out]; exact hlt)
        have HD := Lib.hid (diff_next hz)
        obtain ⟨e1, e2⟩ := HAr.out j z hz
        have k1 := hbr.cell (j * 2) e1
        have k2 := hbr.cell (j * 2 + 1) e2
        have hbz := Box.new wr #[.int .i64 z.1, .int .i64 z.2] 126
        have hbr2 := hbr.alloc (.cells #[.int .i64 z.1, .int .i64 z.2] 126)
        have hwr2 := below_alloc hwr (.cells #[.int .i64 z.1, .int .i64 z.2] 126)
        have z0 := hbz.cell 0 rfl
        have z1 := hbz.cell 1 rfl
        clear e1 e2 hz
        by_cases heq : z.1 = z.2
        · have F1 : (z.1 != z.2) = false := by simpa using heq
          have HS2 : Hid (X = (firstDiff (L.drop (j + 1))).getD (decide (y.level < x.level))) := Lib.hid (by rw [HS.out, HD.out, if_pos heq])
          clear heq
          go_wp2_with fail
          go_roundw
          case rel => exact ⟨j + 1, by omega, by go_num, HS2, hbr2, hwr2⟩
          case measure => simp [intOf]; omega
        · have F1 : (z.1 != z.2) = true := by simpa using heq
          have HS2 : Hid (X = decide (z.1 < z.2)) := Lib.hid (by rw [HS.out, HD.out, if_neg heq]; rfl)
          clear heq
          go_wp2_with fail
          go_ret
          exact ⟨by rw [HS2.out]; rfl, hwr2⟩
      · have HS2 : Hid (X = decide (y.level < x.level)) := Lib.hid (by rw [HS.out, List.drop_eq_nil_of_le (by rw [HLl.out]; omega)]; rfl)
        have a0 : wr.cell? ⟨p, 0, none⟩ = some (.int .i64 x.level) := (HP.out.below hwr).cell 0 rfl
        have b0 : wr.cell? ⟨q, 0, none⟩ = some (.int .i64 y.level) := (HQ.out.below hwr).cell 0 rfl
        go_upto_region 8 with fail
        go_region
        all_goals (go_wp2_with fail; go_ret)
        all_goals exact ⟨by rw [HS2.out]; rfl, hwr.drew⟩
end Go.Proofs.YtndpdbofoojkhaaGreat.Ft
