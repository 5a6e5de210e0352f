/- How a place is judged (judge). -/
import Derived.Test.YtndpdbofoojkhaaGreatFit17
import Derived.Test.YtndpdbofoojkhaaGreatBadFull
import Derived.Deep.RegionHeld3
namespace Go.Proofs.YtndpdbofoojkhaaGreat.Ft
open Go.RowKit Go.Proofs.YtndpdbofoojkhaaGreat.Kit Go.Proofs.YtndpdbofoojkhaaGreat.Fo Go.Proofs.YtndpdbofoojkhaaGreat.Lv Go.Proofs.YtndpdbofoojkhaaGreat.Bad
set_option linter.unusedVariables false
set_option linter.unusedSimpArgs false

def fitP (b : Int) (s : Bool) : Int := if b ≤ 12 then 1 else if s then 0 else if b ≤ 99 then 2 else 3

theorem fit_any (b : Int) (s : Bool) (w : World) :
    Calls Tryz.prog 58 #[.int .i64 b, .bool s] w fun e w' => e = .returned (.int .i64 (fitP b s)) ∧ w = w' := by
  by_cases h1 : b ≤ 12
  · rw [show fitP b s = 1 by simp [fitP, h1]]
    go_enter Tryz.func58, Tryz.ntmps58
    go_wp2
    go_ret
    exact ⟨rfl, rfl⟩
  cases s with
  | true =>
    rw [show fitP b true = 0 by simp [fitP, h1]]
    go_enter Tryz.func58, Tryz.ntmps58
    go_wp2
    go_ret
    exact ⟨rfl, rfl⟩
  | false =>
    by_cases h2 : b ≤ 99
    · rw [show fitP b false = 2 by simp [fitP, h1, h2]]
      go_enter Tryz.func58, Tryz.ntmps58
      go_wp2
      go_ret
      exact ⟨rfl, rfl⟩
    · rw [show fitP b false = 3 by simp [fitP, h1, h2]]
      go_enter Tryz.func58, Tryz.ntmps58
      go_wp2
      go_ret
      exact ⟨rfl, rfl⟩
abbrev placeC (lev nat le ri bad cls : Int) (un : Bool) (df gap : Int) : Array Value := #[.int .i64 lev, .int .i64 nat, .int .i64 le, .int .i64 ri, .int .i64 bad, .int .i64 cls, .bool un, .int .i64 df, .int .i64 gap]
def judgeP (gap st sh ex : Int) (last : Bool) : Int × Bool × Int :=
  if 0 ≤ gap ∧ last = true then (0, false, 0) else if (0 < gap ∧ st = 0) ∨ 1073741823 < gap then (10000, true, gap) else if 0 ≤ gap then ((badP (cl gap) (cl (st + ex)) : Nat), false, 0) else if sh < -gap then (10000, true, gap + sh) else ((badP (cl (-gap)) (cl sh) : Nat), false, 0)
def JudgeOk (gap st sh ex : Int) : Prop := (-100000000000000000 ≤ gap ∧ gap ≤ 100000000000000000) ∧ (0 ≤ st ∧ st ≤ 1000000000000) ∧ (0 ≤ sh ∧ sh ≤ 1000000000000) ∧ (0 ≤ ex ∧ ex ≤ 1000000000000)
theorem off_set {g : Nat} {w w' : World} (h : Off g w w') (o : Nat) (v : Value) : Off g w (w'.setCell ⟨g, o, none⟩ v) :=
  ⟨h.os, h.tape, h.output, by simpa [World.setCell] using h.size, fun k hk hm => (Below.heap_setCell w' ⟨g, o, none⟩ v k hm).trans (h.block k hk hm)⟩
set_option maxRecDepth 100000 in
set_option maxHeartbeats 4000000 in
theorem judge_any (g : Nat) (lev nat le ri gap st sh ex : Int) (last : Bool) (w : World) (hbx : Box w g (placeC lev nat le ri 0 0 false 0 gap) 71) (hok : JudgeOk gap st sh ex) :
    Calls Tryz.prog 27 #[.pointer (some ⟨g, 0, none⟩), .int .i64 st, .int .i64 sh, .int .i64 ex, .bool last] w fun e w' => (∃ v, e = .returned v) ∧ Box w' g (placeC lev nat le ri (judgeP gap st sh ex last).1 (fitP (judgeP gap st sh ex last).1 (decide (gap < 0))) (judgeP gap st sh ex last).2.1 (judgeP gap st sh ex last).2.2 gap) 71 ∧ Off g w w' := by
  obtain ⟨⟨g1, g2⟩, ⟨s1, s2⟩, ⟨t1, t2⟩, ⟨x1, x2⟩⟩ := hok
  have hng : wrap64 (-gap) = -gap := by rw [← IntWalk.i64_left]; exact IntWalk.i64_in _ (by omega)
  have hsm : wrap64 (st + ex) = st + ex := by rw [← IntWalk.i64_left]; exact IntWalk.i64_in _ (by omega)
  have hgs : wrap64 (gap + sh) = gap + sh := by rw [← IntWalk.i64_left]; exact IntWalk.i64_in _ (by omega)
  obtain ⟨J, hJ⟩ : ∃ J, Hid (judgeP gap st sh ex last = J) := ⟨_, Lib.hid rfl⟩
  rw [hJ.out]
  have c8 := hbx.cell 8 (v := .int .i64 gap) rfl
  have c4 := hbx.cell 4 (v := .int .i64 0) rfl
  have f4 := hbx.free 4
  have c6 := hbx.cell 6 (v := .bool false) rfl
  have f6 := hbx.free 6
  have c7 := hbx.cell 7 (v := .int .i64 0) rfl
  have f7 := hbx.free 7
  have HB := Lib.hid hbx
  clear hbx
  by_cases h0 : 0 ≤ gap
  · have F0 : (0 ≤ gap) = True := eq_true h0
    have F9 : (gap < 0) = False := eq_false (by omega)
    have HD : Hid (decide (gap < 0) = false) := Lib.hid (decide_eq_false (by omega))
    cases last with
    | true =>
      have HJ : Hid (J = (0, false, 0)) := Lib.hid (by rw [← hJ.out, judgeP, if_pos ⟨h0, rfl⟩])
      clear hJ h0
      go_enter Tryz.func27, Tryz.ntmps27
      go_upto_region 11 with fail
      have HBX : Hid (Box (w.setCell ⟨g, 4, none⟩ (.int .i64 0)) g (placeC lev nat le ri (0) 0 false (0) gap) 71) := Lib.hid (HB.out.set 4 (.int .i64 0))
      have HOF : Hid (Off g w (w.setCell ⟨g, 4, none⟩ (.int .i64 0))) := Lib.hid (off_set (Off.refl g w) 4 _)
      clear c8 c4 f4 c6 f6 c7 f7 HB hng hsm hgs 
      generalize w.setCell ⟨g, 4, none⟩ (.int .i64 0) = W5 at *
      have z4 : W5.cell? ⟨g, 4, none⟩ = some (.int .i64 (0)) := HBX.out.cell 4 rfl
      have z8 : W5.cell? ⟨g, 8, none⟩ = some (.int .i64 gap) := HBX.out.cell 8 rfl
      have z5 : W5.cell? ⟨g, 5, none⟩ = some (.int .i64 0) := HBX.out.cell 5 rfl
      have z5f := HBX.out.free 5
      have HFi : Hid (∀ W, Calls Tryz.prog 58 #[.int .i64 (0), .bool false] W fun e w' => e = .returned (.int .i64 (fitP (0) false)) ∧ W = w') := Lib.hid (fit_any (0) false)
      have hlt5 := HBX.out.lt
      go_region_held3 (fun w' => Off g W5 w' ∧ w'.cell? ⟨g, 4, none⟩ = some (.int .i64 (0)) ∧ w'.cell? ⟨g, 8, none⟩ = some (.int .i64 gap))
        (first | exact ⟨by repeat (first | (with_reducible exact Off.refl _ _) | (with_reducible apply Off.drew) | (with_reducible refine off_set ?_ _ _)), by first | exact z4 | exact (HBX.out.set 5 _).cell 4 rfl | exact (HBX.out.drew.set 5 _).cell 4 rfl | exact (HBX.out.drew.drew.set 5 _).cell 4 rfl, by first | exact z8 | exact (HBX.out.set 5 _).cell 8 rfl | exact (HBX.out.drew.set 5 _).cell 8 rfl | exact (HBX.out.drew.drew.set 5 _).cell 8 rfl⟩)
        (first
          | (go_at_call 58; with_reducible refine (HFi.out _).mono ?_; rintro e wq ⟨rfl, rfl⟩))
      all_goals
        go_wp2_with fail
        go_end0
        rw [HJ.out, HD.out]
        exact ⟨⟨_, rfl⟩, by first | exact HBX.out.set 5 _ | exact HBX.out.drew.set 5 _ | exact HBX.out.drew.drew.set 5 _ | exact (HBX.out.set 5 _).drew, HOF.out.trans (by repeat (first | (with_reducible exact Off.refl _ _) | (with_reducible apply Off.drew) | (with_reducible refine off_set ?_ _ _)))⟩
    | false =>
      by_cases h1 : 0 < gap
      · have F1 : (0 < gap) = True := eq_true h1
        by_cases h2 : st = 0
        · have F2 : (st == 0) = true := by simpa using h2
          have HJ : Hid (J = (10000, true, gap)) := Lib.hid (by rw [← hJ.out, judgeP, if_neg (by simp), if_pos (.inl ⟨h1, h2⟩)])
          clear hJ h0 h1 h2
          go_enter Tryz.func27, Tryz.ntmps27
          go_upto_region 11 with fail
          have HBX : Hid (Box (((w.setCell ⟨g, 6, none⟩ (.bool true)).setCell ⟨g, 7, none⟩ (.int .i64 (gap))).setCell ⟨g, 4, none⟩ (.int .i64 10000)) g (placeC lev nat le ri (10000) 0 true (gap) gap) 71) := Lib.hid (((HB.out.set 6 (.bool true)).set 7 (.int .i64 (gap))).set 4 (.int .i64 10000))
          have HOF : Hid (Off g w (((w.setCell ⟨g, 6, none⟩ (.bool true)).setCell ⟨g, 7, none⟩ (.int .i64 (gap))).setCell ⟨g, 4, none⟩ (.int .i64 10000))) := Lib.hid (off_set (off_set (off_set (Off.refl g w) 6 _) 7 _) 4 _)
          clear c8 c4 f4 c6 f6 c7 f7 HB hng hsm hgs 
          generalize ((w.setCell ⟨g, 6, none⟩ (.bool true)).setCell ⟨g, 7, none⟩ (.int .i64 (gap))).setCell ⟨g, 4, none⟩ (.int .i64 10000) = W5 at *
          have z4 : W5.cell? ⟨g, 4, none⟩ = some (.int .i64 (10000)) := HBX.out.cell 4 rfl
          have z8 : W5.cell? ⟨g, 8, none⟩ = some (.int .i64 gap) := HBX.out.cell 8 rfl
          have z5 : W5.cell? ⟨g, 5, none⟩ = some (.int .i64 0) := HBX.out.cell 5 rfl
          have z5f := HBX.out.free 5
          have HFi : Hid (∀ W, Calls Tryz.prog 58 #[.int .i64 (10000), .bool false] W fun e w' => e = .returned (.int .i64 (fitP (10000) false)) ∧ W = w') := Lib.hid (fit_any (10000) false)
          have hlt5 := HBX.out.lt
          go_region_held3 (fun w' => Off g W5 w' ∧ w'.cell? ⟨g, 4, none⟩ = some (.int .i64 (10000)) ∧ w'.cell? ⟨g, 8, none⟩ = some (.int .i64 gap))
            (first | exact ⟨by repeat (first | (with_reducible exact Off.refl _ _) | (with_reducible apply Off.drew) | (with_reducible refine off_set ?_ _ _)), by first | exact z4 | exact (HBX.out.set 5 _).cell 4 rfl | exact (HBX.out.drew.set 5 _).cell 4 rfl | exact (HBX.out.drew.drew.set 5 _).cell 4 rfl, by first | exact z8 | exact (HBX.out.set 5 _).cell 8 rfl | exact (HBX.out.drew.set 5 _).cell 8 rfl | exact (HBX.out.drew.drew.set 5 _).cell 8 rfl⟩)
            (first
              | (go_at_call 58; with_reducible refine (HFi.out _).mono ?_; rintro e wq ⟨rfl, rfl⟩))
          all_goals
            go_wp2_with fail
            go_end0
            rw [HJ.out, HD.out]
            exact ⟨⟨_, rfl⟩, by first | exact HBX.out.set 5 _ | exact HBX.out.drew.set 5 _ | exact HBX.out.drew.drew.set 5 _ | exact (HBX.out.set 5 _).drew, HOF.out.trans (by repeat (first | (with_reducible exact Off.refl _ _) | (with_reducible apply Off.drew) | (with_reducible refine off_set ?_ _ _)))⟩
        · have F2 : (st == 0) = false := by simpa using h2
          by_cases h3 : 1073741823 < gap
          · have F3 : (1073741823 < gap) = True := eq_true h3
            have HJ : Hid (J = (10000, true, gap)) := Lib.hid (by rw [← hJ.out, judgeP, if_neg (by simp), if_pos (.inr h3)])
            clear hJ h0 h1 h2 h3
            go_enter Tryz.func27, Tryz.ntmps27
            go_upto_region 11 with fail
            have HBX : Hid (Box (((w.setCell ⟨g, 6, none⟩ (.bool true)).setCell ⟨g, 7, none⟩ (.int .i64 (gap))).setCell ⟨g, 4, none⟩ (.int .i64 10000)) g (placeC lev nat le ri (10000) 0 true (gap) gap) 71) := Lib.hid (((HB.out.set 6 (.bool true)).set 7 (.int .i64 (gap))).set 4 (.int .i64 10000))
            have HOF : Hid (Off g w (((w.setCell ⟨g, 6, none⟩ (.bool true)).setCell ⟨g, 7, none⟩ (.int .i64 (gap))).setCell ⟨g, 4, none⟩ (.int .i64 10000))) := Lib.hid (off_set (off_set (off_set (Off.refl g w) 6 _) 7 _) 4 _)
            clear c8 c4 f4 c6 f6 c7 f7 HB hng hsm hgs 
            generalize ((w.setCell ⟨g, 6, none⟩ (.bool true)).setCell ⟨g, 7, none⟩ (.int .i64 (gap))).setCell ⟨g, 4, none⟩ (.int .i64 10000) = W5 at *
            have z4 : W5.cell? ⟨g, 4, none⟩ = some (.int .i64 (10000)) := HBX.out.cell 4 rfl
            have z8 : W5.cell? ⟨g, 8, none⟩ = some (.int .i64 gap) := HBX.out.cell 8 rfl
            have z5 : W5.cell? ⟨g, 5, none⟩ = some (.int .i64 0) := HBX.out.cell 5 rfl
            have z5f := HBX.out.free 5
            have HFi : Hid (∀ W, Calls Tryz.prog 58 #[.int .i64 (10000), .bool false] W fun e w' => e = .returned (.int .i64 (fitP (10000) false)) ∧ W = w') := Lib.hid (fit_any (10000) false)
            have hlt5 := HBX.out.lt
            go_region_held3 (fun w' => Off g W5 w' ∧ w'.cell? ⟨g, 4, none⟩ = some (.int .i64 (10000)) ∧ w'.cell? ⟨g, 8, none⟩ = some (.int .i64 gap))
              (first | exact ⟨by repeat (first | (with_reducible exact Off.refl _ _) | (with_reducible apply Off.drew) | (with_reducible refine off_set ?_ _ _)), by first | exact z4 | exact (HBX.out.set 5 _).cell 4 rfl | exact (HBX.out.drew.set 5 _).cell 4 rfl | exact (HBX.out.drew.drew.set 5 _).cell 4 rfl, by first | exact z8 | exact (HBX.out.set 5 _).cell 8 rfl | exact (HBX.out.drew.set 5 _).cell 8 rfl | exact (HBX.out.drew.drew.set 5 _).cell 8 rfl⟩)
              (first
                | (go_at_call 58; with_reducible refine (HFi.out _).mono ?_; rintro e wq ⟨rfl, rfl⟩))
            all_goals
              go_wp2_with fail
              go_end0
              rw [HJ.out, HD.out]
              exact ⟨⟨_, rfl⟩, by first | exact HBX.out.set 5 _ | exact HBX.out.drew.set 5 _ | exact HBX.out.drew.drew.set 5 _ | exact (HBX.out.set 5 _).drew, HOF.out.trans (by repeat (first | (with_reducible exact Off.refl _ _) | (with_reducible apply Off.drew) | (with_reducible refine off_set ?_ _ _)))⟩
          · have F3 : (1073741823 < gap) = False := eq_false h3
            have HJ0 : Hid (J = (((badP (cl (gap)) (cl (st + ex)) : Nat) : Int), false, 0)) := Lib.hid (by rw [← hJ.out, judgeP, if_neg (by simp), if_neg (by omega), if_pos h0])
            have HBd := Lib.hid (bad_any (gap) (st + ex) w)
            have hle := badP_le (cl (gap)) (cl (st + ex))
            generalize ((badP (cl (gap)) (cl (st + ex)) : Nat) : Int) = BV at *
            have HJ := HJ0
            clear hJ h0 h1 h2 h3 HJ0 hle
            go_enter Tryz.func27, Tryz.ntmps27
            go_wp2_with fail
            with_reducible refine HBd.out.mono ?_
            rintro e w1 ⟨rfl, hb1⟩
            have HB1 := Lib.hid (HB.out.below hb1)
            have HO1 : Hid (Off g w w1) := Lib.hid (Off.of hb1)
            have d8 := HB1.out.cell 8 (v := .int .i64 gap) rfl
            have d4 := HB1.out.cell 4 (v := .int .i64 0) rfl
            have d4f := HB1.out.free 4
            have d6 := HB1.out.cell 6 (v := .bool false) rfl
            clear HBd hb1
            go_upto_region 11 with fail
            have HBX : Hid (Box (w1.setCell ⟨g, 4, none⟩ (.int .i64 BV)) g (placeC lev nat le ri (BV) 0 false (0) gap) 71) := Lib.hid (HB1.out.set 4 (.int .i64 BV))
            have HOF : Hid (Off g w (w1.setCell ⟨g, 4, none⟩ (.int .i64 BV))) := Lib.hid (off_set HO1.out 4 _)
            clear c8 c4 f4 c6 f6 c7 f7 HB hng hsm hgs d8 d4 d4f d6
            generalize w1.setCell ⟨g, 4, none⟩ (.int .i64 BV) = W5 at *
            have z4 : W5.cell? ⟨g, 4, none⟩ = some (.int .i64 (BV)) := HBX.out.cell 4 rfl
            have z8 : W5.cell? ⟨g, 8, none⟩ = some (.int .i64 gap) := HBX.out.cell 8 rfl
            have z5 : W5.cell? ⟨g, 5, none⟩ = some (.int .i64 0) := HBX.out.cell 5 rfl
            have z5f := HBX.out.free 5
            have HFi : Hid (∀ W, Calls Tryz.prog 58 #[.int .i64 (BV), .bool false] W fun e w' => e = .returned (.int .i64 (fitP (BV) false)) ∧ W = w') := Lib.hid (fit_any (BV) false)
            have hlt5 := HBX.out.lt
            go_region_held3 (fun w' => Off g W5 w' ∧ w'.cell? ⟨g, 4, none⟩ = some (.int .i64 (BV)) ∧ w'.cell? ⟨g, 8, none⟩ = some (.int .i64 gap))
              (first | exact ⟨by repeat (first | (with_reducible exact Off.refl _ _) | (with_reducible apply Off.drew) | (with_reducible refine off_set ?_ _ _)), by first | exact z4 | exact (HBX.out.set 5 _).cell 4 rfl | exact (HBX.out.drew.set 5 _).cell 4 rfl | exact (HBX.out.drew.drew.set 5 _).cell 4 rfl, by first | exact z8 | exact (HBX.out.set 5 _).cell 8 rfl | exact (HBX.out.drew.set 5 _).cell 8 rfl | exact (HBX.out.drew.drew.set 5 _).cell 8 rfl⟩)
              (first
                | (go_at_call 58; with_reducible refine (HFi.out _).mono ?_; rintro e wq ⟨rfl, rfl⟩))
            all_goals
              go_wp2_with fail
              go_end0
              rw [HJ.out, HD.out]
              exact ⟨⟨_, rfl⟩, by first | exact HBX.out.set 5 _ | exact HBX.out.drew.set 5 _ | exact HBX.out.drew.drew.set 5 _ | exact (HBX.out.set 5 _).drew, HOF.out.trans (by repeat (first | (with_reducible exact Off.refl _ _) | (with_reducible apply Off.drew) | (with_reducible refine off_set ?_ _ _)))⟩
      · have F1 : (0 < gap) = False := eq_false h1
        have F3 : (1073741823 < gap) = False := eq_false (by omega)
        have HJ0 : Hid (J = (((badP (cl (gap)) (cl (st + ex)) : Nat) : Int), false, 0)) := Lib.hid (by rw [← hJ.out, judgeP, if_neg (by simp), if_neg (by omega), if_pos h0])
        have HBd := Lib.hid (bad_any (gap) (st + ex) w)
        have hle := badP_le (cl (gap)) (cl (st + ex))
        generalize ((badP (cl (gap)) (cl (st + ex)) : Nat) : Int) = BV at *
        have HJ := HJ0
        clear hJ h0 h1 HJ0 hle
        go_enter Tryz.func27, Tryz.ntmps27
        go_wp2_with fail
        with_reducible refine HBd.out.mono ?_
        rintro e w1 ⟨rfl, hb1⟩
        have HB1 := Lib.hid (HB.out.below hb1)
        have HO1 : Hid (Off g w w1) := Lib.hid (Off.of hb1)
        have d8 := HB1.out.cell 8 (v := .int .i64 gap) rfl
        have d4 := HB1.out.cell 4 (v := .int .i64 0) rfl
        have d4f := HB1.out.free 4
        have d6 := HB1.out.cell 6 (v := .bool false) rfl
        clear HBd hb1
        go_upto_region 11 with fail
        have HBX : Hid (Box (w1.setCell ⟨g, 4, none⟩ (.int .i64 BV)) g (placeC lev nat le ri (BV) 0 false (0) gap) 71) := Lib.hid (HB1.out.set 4 (.int .i64 BV))
        have HOF : Hid (Off g w (w1.setCell ⟨g, 4, none⟩ (.int .i64 BV))) := Lib.hid (off_set HO1.out 4 _)
        clear c8 c4 f4 c6 f6 c7 f7 HB hng hsm hgs d8 d4 d4f d6
        generalize w1.setCell ⟨g, 4, none⟩ (.int .i64 BV) = W5 at *
        have z4 : W5.cell? ⟨g, 4, none⟩ = some (.int .i64 (BV)) := HBX.out.cell 4 rfl
        have z8 : W5.cell? ⟨g, 8, none⟩ = some (.int .i64 gap) := HBX.out.cell 8 rfl
        have z5 : W5.cell? ⟨g, 5, none⟩ = some (.int .i64 0) := HBX.out.cell 5 rfl
        have z5f := HBX.out.free 5
        have HFi : Hid (∀ W, Calls Tryz.prog 58 #[.int .i64 (BV), .bool false] W fun e w' => e = .returned (.int .i64 (fitP (BV) false)) ∧ W = w') := Lib.hid (fit_any (BV) false)
        have hlt5 := HBX.out.lt
        go_region_held3 (fun w' => Off g W5 w' ∧ w'.cell? ⟨g, 4, none⟩ = some (.int .i64 (BV)) ∧ w'.cell? ⟨g, 8, none⟩ = some (.int .i64 gap))
          (first | exact ⟨by repeat (first | (with_reducible exact Off.refl _ _) | (with_reducible apply Off.drew) | (with_reducible refine off_set ?_ _ _)), by first | exact z4 | exact (HBX.out.set 5 _).cell 4 rfl | exact (HBX.out.drew.set 5 _).cell 4 rfl | exact (HBX.out.drew.drew.set 5 _).cell 4 rfl, by first | exact z8 | exact (HBX.out.set 5 _).cell 8 rfl | exact (HBX.out.drew.set 5 _).cell 8 rfl | exact (HBX.out.drew.drew.set 5 _).cell 8 rfl⟩)
          (first
            | (go_at_call 58; with_reducible refine (HFi.out _).mono ?_; rintro e wq ⟨rfl, rfl⟩))
        all_goals
          go_wp2_with fail
          go_end0
          rw [HJ.out, HD.out]
          exact ⟨⟨_, rfl⟩, by first | exact HBX.out.set 5 _ | exact HBX.out.drew.set 5 _ | exact HBX.out.drew.drew.set 5 _ | exact (HBX.out.set 5 _).drew, HOF.out.trans (by repeat (first | (with_reducible exact Off.refl _ _) | (with_reducible apply Off.drew) | (with_reducible refine off_set ?_ _ _)))⟩
  · have F0 : (0 ≤ gap) = False := eq_false h0
    have F9 : (gap < 0) = True := eq_true (by omega)
    have F1 : (0 < gap) = False := eq_false (by omega)
    have F3 : (1073741823 < gap) = False := eq_false (by omega)
    have HD : Hid (decide (gap < 0) = true) := Lib.hid (decide_eq_true (by omega))
    by_cases h4 : sh < -gap
    · have F4 : (sh < -gap) = True := eq_true h4
      have HJ : Hid (J = (10000, true, gap + sh)) := Lib.hid (by rw [← hJ.out, judgeP, if_neg (fun h => h0 h.1), if_neg (by omega), if_neg h0, if_pos h4])
      clear hJ h0 h4
      go_enter Tryz.func27, Tryz.ntmps27
      go_upto_region 11 with fail
      have HBX : Hid (Box (((w.setCell ⟨g, 6, none⟩ (.bool true)).setCell ⟨g, 7, none⟩ (.int .i64 (gap + sh))).setCell ⟨g, 4, none⟩ (.int .i64 10000)) g (placeC lev nat le ri (10000) 0 true (gap + sh) gap) 71) := Lib.hid (((HB.out.set 6 (.bool true)).set 7 (.int .i64 (gap + sh))).set 4 (.int .i64 10000))
      have HOF : Hid (Off g w (((w.setCell ⟨g, 6, none⟩ (.bool true)).setCell ⟨g, 7, none⟩ (.int .i64 (gap + sh))).setCell ⟨g, 4, none⟩ (.int .i64 10000))) := Lib.hid (off_set (off_set (off_set (Off.refl g w) 6 _) 7 _) 4 _)
      clear c8 c4 f4 c6 f6 c7 f7 HB hng hsm hgs 
      generalize ((w.setCell ⟨g, 6, none⟩ (.bool true)).setCell ⟨g, 7, none⟩ (.int .i64 (gap + sh))).setCell ⟨g, 4, none⟩ (.int .i64 10000) = W5 at *
      have z4 : W5.cell? ⟨g, 4, none⟩ = some (.int .i64 (10000)) := HBX.out.cell 4 rfl
      have z8 : W5.cell? ⟨g, 8, none⟩ = some (.int .i64 gap) := HBX.out.cell 8 rfl
      have z5 : W5.cell? ⟨g, 5, none⟩ = some (.int .i64 0) := HBX.out.cell 5 rfl
      have z5f := HBX.out.free 5
      have HFi : Hid (∀ W, Calls Tryz.prog 58 #[.int .i64 (10000), .bool true] W fun e w' => e = .returned (.int .i64 (fitP (10000) true)) ∧ W = w') := Lib.hid (fit_any (10000) true)
      have hlt5 := HBX.out.lt
      go_region_held3 (fun w' => Off g W5 w' ∧ w'.cell? ⟨g, 4, none⟩ = some (.int .i64 (10000)) ∧ w'.cell? ⟨g, 8, none⟩ = some (.int .i64 gap))
        (first | exact ⟨by repeat (first | (with_reducible exact Off.refl _ _) | (with_reducible apply Off.drew) | (with_reducible refine off_set ?_ _ _)), by first | exact z4 | exact (HBX.out.set 5 _).cell 4 rfl | exact (HBX.out.drew.set 5 _).cell 4 rfl | exact (HBX.out.drew.drew.set 5 _).cell 4 rfl, by first | exact z8 | exact (HBX.out.set 5 _).cell 8 rfl | exact (HBX.out.drew.set 5 _).cell 8 rfl | exact (HBX.out.drew.drew.set 5 _).cell 8 rfl⟩)
        (first
          | (go_at_call 58; with_reducible refine (HFi.out _).mono ?_; rintro e wq ⟨rfl, rfl⟩))
      all_goals
        go_wp2_with fail
        go_end0
        rw [HJ.out, HD.out]
        exact ⟨⟨_, rfl⟩, by first | exact HBX.out.set 5 _ | exact HBX.out.drew.set 5 _ | exact HBX.out.drew.drew.set 5 _ | exact (HBX.out.set 5 _).drew, HOF.out.trans (by repeat (first | (with_reducible exact Off.refl _ _) | (with_reducible apply Off.drew) | (with_reducible refine off_set ?_ _ _)))⟩
    · have F4 : (sh < -gap) = False := eq_false h4
      have HJ0 : Hid (J = (((badP (cl (-gap)) (cl (sh)) : Nat) : Int), false, 0)) := Lib.hid (by rw [← hJ.out, judgeP, if_neg (fun h => h0 h.1), if_neg (by omega), if_neg h0, if_neg h4])
      have HBd := Lib.hid (bad_any (-gap) (sh) w)
      have hle := badP_le (cl (-gap)) (cl (sh))
      generalize ((badP (cl (-gap)) (cl (sh)) : Nat) : Int) = BV at *
      have HJ := HJ0
      clear hJ h0 h4 HJ0 hle
      go_enter Tryz.func27, Tryz.ntmps27
      go_wp2_with fail
      with_reducible refine HBd.out.mono ?_
      rintro e w1 ⟨rfl, hb1⟩
      have HB1 := Lib.hid (HB.out.below hb1)
      have HO1 : Hid (Off g w w1) := Lib.hid (Off.of hb1)
      have d8 := HB1.out.cell 8 (v := .int .i64 gap) rfl
      have d4 := HB1.out.cell 4 (v := .int .i64 0) rfl
      have d4f := HB1.out.free 4
      have d6 := HB1.out.cell 6 (v := .bool false) rfl
      clear HBd hb1
      go_upto_region 11 with fail
      have HBX : Hid (Box (w1.setCell ⟨g, 4, none⟩ (.int .i64 BV)) g (placeC lev nat le ri (BV) 0 false (0) gap) 71) := Lib.hid (HB1.out.set 4 (.int .i64 BV))
      have HOF : Hid (Off g w (w1.setCell ⟨g, 4, none⟩ (.int .i64 BV))) := Lib.hid (off_set HO1.out 4 _)
      clear c8 c4 f4 c6 f6 c7 f7 HB hng hsm hgs d8 d4 d4f d6
      generalize w1.setCell ⟨g, 4, none⟩ (.int .i64 BV) = W5 at *
      have z4 : W5.cell? ⟨g, 4, none⟩ = some (.int .i64 (BV)) := HBX.out.cell 4 rfl
      have z8 : W5.cell? ⟨g, 8, none⟩ = some (.int .i64 gap) := HBX.out.cell 8 rfl
      have z5 : W5.cell? ⟨g, 5, none⟩ = some (.int .i64 0) := HBX.out.cell 5 rfl
      have z5f := HBX.out.free 5
      have HFi : Hid (∀ W, Calls Tryz.prog 58 #[.int .i64 (BV), .bool true] W fun e w' => e = .returned (.int .i64 (fitP (BV) true)) ∧ W = w') := Lib.hid (fit_any (BV) true)
      have hlt5 := HBX.out.lt
      go_region_held3 (fun w' => Off g W5 w' ∧ w'.cell? ⟨g, 4, none⟩ = some (.int .i64 (BV)) ∧ w'.cell? ⟨g, 8, none⟩ = some (.int .i64 gap))
        (first | exact ⟨by repeat (first | (with_reducible exact Off.refl _ _) | (with_reducible apply Off.drew) | (with_reducible refine off_set ?_ _ _)), by first | exact z4 | exact (HBX.out.set 5 _).cell 4 rfl | exact (HBX.out.drew.set 5 _).cell 4 rfl | exact (HBX.out.drew.drew.set 5 _).cell 4 rfl, by first | exact z8 | exact (HBX.out.set 5 _).cell 8 rfl | exact (HBX.out.drew.set 5 _).cell 8 rfl | exact (HBX.out.drew.drew.set 5 _).cell 8 rfl⟩)
        (first
          | (go_at_call 58; with_reducible refine (HFi.out _).mono ?_; rintro e wq ⟨rfl, rfl⟩))
      all_goals
        go_wp2_with fail
        go_end0
        rw [HJ.out, HD.out]
        exact ⟨⟨_, rfl⟩, by first | exact HBX.out.set 5 _ | exact HBX.out.drew.set 5 _ | exact HBX.out.drew.drew.set 5 _ | exact (HBX.out.set 5 _).drew, HOF.out.trans (by repeat (first | (with_reducible exact Off.refl _ _) | (with_reducible apply Off.drew) | (with_reducible refine off_set ?_ _ _)))⟩
end Go.Proofs.YtndpdbofoojkhaaGreat.Ft
