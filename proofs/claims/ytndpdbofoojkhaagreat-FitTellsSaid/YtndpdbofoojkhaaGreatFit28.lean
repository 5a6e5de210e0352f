/- Whether a layout may be, by the document (compositorref14.Check). -/
import Derived.Test.YtndpdbofoojkhaaGreatFit26
namespace Go.Proofs.YtndpdbofoojkhaaGreat.Ft
open Go.RowKit Go.Proofs.YtndpdbofoojkhaaGreat.Kit Go.Proofs.YtndpdbofoojkhaaGreat.Fo Go.Proofs.YtndpdbofoojkhaaGreat.Lv Go.Proofs.YtndpdbofoojkhaaGreat.Bad
set_option linter.unusedVariables false
set_option linter.unusedSimpArgs false

def in1 (lo hi n : Int) : Bool := decide (lo ≤ n) && decide (n ≤ hi)
theorem in_any (n lo hi : Int) (w : World) : Calls Tryz.prog 61 #[.int .i64 n, .int .i64 lo, .int .i64 hi] w fun e w' => e = .returned (.bool (in1 lo hi n)) ∧ w = w' := by
  by_cases h1 : lo ≤ n
  · have F1 : (lo ≤ n) = True := eq_true h1
    go_enter Tryz.func61, Tryz.ntmps61
    go_wp2_with fail
    go_ret
    exact ⟨ret_bool rfl (by simp [in1, h1]), rfl⟩
  · have F1 : (lo ≤ n) = False := eq_false h1
    go_enter Tryz.func61, Tryz.ntmps61
    go_wp2_with fail
    go_ret
    exact ⟨ret_bool rfl (by rw [in1, decide_eq_false (by omega)]; rfl), rfl⟩
theorem inB_cons (a b x : Int) (xs : List Int) : inB a b (x :: xs) = (in1 a b x && inB a b xs) := by
  unfold inB in1
  rw [List.any_cons, Bool.not_or]
  congr 1
  unfold outB
  rw [Bool.eq_iff_iff]
  simp
theorem inB_nil (a b : Int) : inB a b [] = true := rfl
theorem lay_split (l : LayD) : layB l = (((in1 1 67108864 l.width && in1 0 4194304 l.space && in1 0 4194304 l.stretch && in1 0 4194304 l.shrink && decide ((l.shape.length : Int) ≤ 40)) &&
    (in1 (wrap64 (1 - l.width)) (wrap64 (l.width - 1)) l.hang && in1 (-100) 100 l.after && in1 0 40 l.left && in1 0 40 l.right && in1 (-1) 10000 l.first && in1 0 10000 l.second && in1 0 67108864 l.extra) &&
    (in1 0 1000 l.linePen && in1 (-1000) 1000 l.hyphPen && in1 (-1000) 1000 l.dashPen && in1 (-5) 5 l.loose) &&
    (in1 0 10000 l.jump && in1 0 10000 l.double && in1 0 10000 l.final && in1 0 10000 l.river && in1 0 10000 l.ladder)) && l.shape.all lineB) := by
  have hd : decide (l.shape.length ≤ 40) = decide ((l.shape.length : Int) ≤ 40) := decide_eq_decide.2 (by omega)
  have hl : (l.shape.all fun x => inB 0 67108864 [x.1] && inB 1 67108864 [x.2]) = l.shape.all lineB := rfl
  unfold layB
  rw [hd, hl]
  simp only [inB_cons, inB_nil, Bool.and_true]
  cases hw : in1 1 67108864 l.width with
  | false => simp
  | true =>
    have hb : 1 ≤ l.width ∧ l.width ≤ 67108864 := by
      simpa [in1] using hw
    have e1 : wrap64 (1 - l.width) = 1 - l.width := wrap64_at (by omega)
    have e2 : wrap64 (l.width - 1) = l.width - 1 := wrap64_at (by omega)
    rw [e1, e2]
    ac_rfl
theorem line_split (x : Int × Int) : lineB x = (in1 0 67108864 x.1 && in1 1 67108864 x.2) := by
  unfold lineB
  simp only [inB_cons, inB_nil, Bool.and_true]
set_option maxRecDepth 100000 in
set_option maxHeartbeats 16000000 in
theorem layr_any (l : LayD) (A : Option Addr) (c : Nat) (w : World) {B : Nat} (hB : B ≤ w.heap.size) (hL : LayIn w B l A) (hsm : l.shape.length ≤ 100000) :
    Calls Tryz.prog 29 #[.agg (layCells l A c)] w fun e w' => e = .returned (.bool (layB l)) ∧ Below w.heap.size w w' := by
  have hbx := Box.new w (layCells l A c) 32
  have hbw := below_alloc (Below.refl w.heap.size w) (.cells (layCells l A c) 32)
  obtain ⟨W, hW⟩ : ∃ W, w.alloc (.cells (layCells l A c) 32) = W := ⟨_, rfl⟩
  rw [hW] at hbx hbw
  have HW := Lib.hid hW
  have HLi := Lib.hid hL
  obtain ⟨g, hg⟩ : ∃ g, w.heap.size = g := ⟨_, rfl⟩
  have HGg := Lib.hid hg
  rw [hg] at hbx
  obtain ⟨X, hX⟩ : ∃ X, Hid (layB l = X) := ⟨_, Lib.hid rfl⟩
  rw [hX.out]
  clear hW hg hL
  have c0 : W.cell? ⟨g, 0, none⟩ = some (.int .i64 l.width) := hbx.cell 0 rfl
  have c1 : W.cell? ⟨g, 1, none⟩ = some (.int .i64 l.space) := hbx.cell 1 rfl
  have c2 : W.cell? ⟨g, 2, none⟩ = some (.int .i64 l.stretch) := hbx.cell 2 rfl
  have c3 : W.cell? ⟨g, 3, none⟩ = some (.int .i64 l.shrink) := hbx.cell 3 rfl
  have c4 : W.cell? ⟨g, 4, none⟩ = some (.slice A l.shape.length c) := hbx.cell 4 rfl
  have c5 : W.cell? ⟨g, 5, none⟩ = some (.int .i64 l.hang) := hbx.cell 5 rfl
  have c6 : W.cell? ⟨g, 6, none⟩ = some (.int .i64 l.after) := hbx.cell 6 rfl
  have c7 : W.cell? ⟨g, 7, none⟩ = some (.int .i64 l.left) := hbx.cell 7 rfl
  have c8 : W.cell? ⟨g, 8, none⟩ = some (.int .i64 l.right) := hbx.cell 8 rfl
  have c9 : W.cell? ⟨g, 9, none⟩ = some (.int .i64 l.first) := hbx.cell 9 rfl
  have c10 : W.cell? ⟨g, 10, none⟩ = some (.int .i64 l.second) := hbx.cell 10 rfl
  have c11 : W.cell? ⟨g, 11, none⟩ = some (.int .i64 l.extra) := hbx.cell 11 rfl
  have c12 : W.cell? ⟨g, 12, none⟩ = some (.int .i64 l.linePen) := hbx.cell 12 rfl
  have c13 : W.cell? ⟨g, 13, none⟩ = some (.int .i64 l.hyphPen) := hbx.cell 13 rfl
  have c14 : W.cell? ⟨g, 14, none⟩ = some (.int .i64 l.dashPen) := hbx.cell 14 rfl
  have c15 : W.cell? ⟨g, 15, none⟩ = some (.int .i64 l.jump) := hbx.cell 15 rfl
  have c16 : W.cell? ⟨g, 16, none⟩ = some (.int .i64 l.double) := hbx.cell 16 rfl
  have c17 : W.cell? ⟨g, 17, none⟩ = some (.int .i64 l.final) := hbx.cell 17 rfl
  have c18 : W.cell? ⟨g, 18, none⟩ = some (.int .i64 l.river) := hbx.cell 18 rfl
  have c19 : W.cell? ⟨g, 19, none⟩ = some (.int .i64 l.ladder) := hbx.cell 19 rfl
  have c20 : W.cell? ⟨g, 20, none⟩ = some (.int .i64 l.loose) := hbx.cell 20 rfl
  obtain ⟨LO, hLO⟩ : ∃ x, wrap64 (1 - l.width) = x := ⟨_, rfl⟩
  obtain ⟨HI, hHI⟩ : ∃ x, wrap64 (l.width - 1) = x := ⟨_, rfl⟩
  have HLO := Lib.hid hLO
  have HHI := Lib.hid hHI
  obtain ⟨b1_0, hb1_0⟩ : ∃ b, Hid (in1 1 67108864 l.width = b) := ⟨_, Lib.hid rfl⟩
  have Hb1_0 : Hid (∀ V, Calls Tryz.prog 61 #[.int .i64 l.width, .int .i64 1, .int .i64 67108864] V fun e w' => e = .returned (.bool b1_0) ∧ V = w') := Lib.hid (fun V => by rw [← hb1_0.out]; exact in_any l.width 1 67108864 V)
  obtain ⟨b1_1, hb1_1⟩ : ∃ b, Hid (in1 0 4194304 l.space = b) := ⟨_, Lib.hid rfl⟩
  have Hb1_1 : Hid (∀ V, Calls Tryz.prog 61 #[.int .i64 l.space, .int .i64 0, .int .i64 4194304] V fun e w' => e = .returned (.bool b1_1) ∧ V = w') := Lib.hid (fun V => by rw [← hb1_1.out]; exact in_any l.space 0 4194304 V)
  obtain ⟨b1_2, hb1_2⟩ : ∃ b, Hid (in1 0 4194304 l.stretch = b) := ⟨_, Lib.hid rfl⟩
  have Hb1_2 : Hid (∀ V, Calls Tryz.prog 61 #[.int .i64 l.stretch, .int .i64 0, .int .i64 4194304] V fun e w' => e = .returned (.bool b1_2) ∧ V = w') := Lib.hid (fun V => by rw [← hb1_2.out]; exact in_any l.stretch 0 4194304 V)
  obtain ⟨b1_3, hb1_3⟩ : ∃ b, Hid (in1 0 4194304 l.shrink = b) := ⟨_, Lib.hid rfl⟩
  have Hb1_3 : Hid (∀ V, Calls Tryz.prog 61 #[.int .i64 l.shrink, .int .i64 0, .int .i64 4194304] V fun e w' => e = .returned (.bool b1_3) ∧ V = w') := Lib.hid (fun V => by rw [← hb1_3.out]; exact in_any l.shrink 0 4194304 V)
  obtain ⟨b1_4, hb1_4⟩ : ∃ b, Hid (decide ((l.shape.length : Int) ≤ 40) = b) := ⟨_, Lib.hid rfl⟩
  have Hb1_4 := hb1_4
  obtain ⟨b2_0, hb2_0⟩ : ∃ b, Hid (in1 LO HI l.hang = b) := ⟨_, Lib.hid rfl⟩
  have Hb2_0 : Hid (∀ V, Calls Tryz.prog 61 #[.int .i64 l.hang, .int .i64 LO, .int .i64 HI] V fun e w' => e = .returned (.bool b2_0) ∧ V = w') := Lib.hid (fun V => by rw [← hb2_0.out]; exact in_any l.hang LO HI V)
  obtain ⟨b2_1, hb2_1⟩ : ∃ b, Hid (in1 (-100) 100 l.after = b) := ⟨_, Lib.hid rfl⟩
  have Hb2_1 : Hid (∀ V, Calls Tryz.prog 61 #[.int .i64 l.after, .int .i64 (-100), .int .i64 100] V fun e w' => e = .returned (.bool b2_1) ∧ V = w') := Lib.hid (fun V => by rw [← hb2_1.out]; exact in_any l.after (-100) 100 V)
  obtain ⟨b2_2, hb2_2⟩ : ∃ b, Hid (in1 0 40 l.left = b) := ⟨_, Lib.hid rfl⟩
  have Hb2_2 : Hid (∀ V, Calls Tryz.prog 61 #[.int .i64 l.left, .int .i64 0, .int .i64 40] V fun e w' => e = .returned (.bool b2_2) ∧ V = w') := Lib.hid (fun V => by rw [← hb2_2.out]; exact in_any l.left 0 40 V)
  obtain ⟨b2_3, hb2_3⟩ : ∃ b, Hid (in1 0 40 l.right = b) := ⟨_, Lib.hid rfl⟩
  have Hb2_3 : Hid (∀ V, Calls Tryz.prog 61 #[.int .i64 l.right, .int .i64 0, .int .i64 40] V fun e w' => e = .returned (.bool b2_3) ∧ V = w') := Lib.hid (fun V => by rw [← hb2_3.out]; exact in_any l.right 0 40 V)
  obtain ⟨b2_4, hb2_4⟩ : ∃ b, Hid (in1 (-1) 10000 l.first = b) := ⟨_, Lib.hid rfl⟩
  have Hb2_4 : Hid (∀ V, Calls Tryz.prog 61 #[.int .i64 l.first, .int .i64 (-1), .int .i64 10000] V fun e w' => e = .returned (.bool b2_4) ∧ V = w') := Lib.hid (fun V => by rw [← hb2_4.out]; exact in_any l.first (-1) 10000 V)
  obtain ⟨b2_5, hb2_5⟩ : ∃ b, Hid (in1 0 10000 l.second = b) := ⟨_, Lib.hid rfl⟩
  have Hb2_5 : Hid (∀ V, Calls Tryz.prog 61 #[.int .i64 l.second, .int .i64 0, .int .i64 10000] V fun e w' => e = .returned (.bool b2_5) ∧ V = w') := Lib.hid (fun V => by rw [← hb2_5.out]; exact in_any l.second 0 10000 V)
  obtain ⟨b2_6, hb2_6⟩ : ∃ b, Hid (in1 0 67108864 l.extra = b) := ⟨_, Lib.hid rfl⟩
  have Hb2_6 : Hid (∀ V, Calls Tryz.prog 61 #[.int .i64 l.extra, .int .i64 0, .int .i64 67108864] V fun e w' => e = .returned (.bool b2_6) ∧ V = w') := Lib.hid (fun V => by rw [← hb2_6.out]; exact in_any l.extra 0 67108864 V)
  obtain ⟨b3_0, hb3_0⟩ : ∃ b, Hid (in1 0 1000 l.linePen = b) := ⟨_, Lib.hid rfl⟩
  have Hb3_0 : Hid (∀ V, Calls Tryz.prog 61 #[.int .i64 l.linePen, .int .i64 0, .int .i64 1000] V fun e w' => e = .returned (.bool b3_0) ∧ V = w') := Lib.hid (fun V => by rw [← hb3_0.out]; exact in_any l.linePen 0 1000 V)
  obtain ⟨b3_1, hb3_1⟩ : ∃ b, Hid (in1 (-1000) 1000 l.hyphPen = b) := ⟨_, Lib.hid rfl⟩
  have Hb3_1 : Hid (∀ V, Calls Tryz.prog 61 #[.int .i64 l.hyphPen, .int .i64 (-1000), .int .i64 1000] V fun e w' => e = .returned (.bool b3_1) ∧ V = w') := Lib.hid (fun V => by rw [← hb3_1.out]; exact in_any l.hyphPen (-1000) 1000 V)
  obtain ⟨b3_2, hb3_2⟩ : ∃ b, Hid (in1 (-1000) 1000 l.dashPen = b) := ⟨_, Lib.hid rfl⟩
  have Hb3_2 : Hid (∀ V, Calls Tryz.prog 61 #[.int .i64 l.dashPen, .int .i64 (-1000), .int .i64 1000] V fun e w' => e = .returned (.bool b3_2) ∧ V = w') := Lib.hid (fun V => by rw [← hb3_2.out]; exact in_any l.dashPen (-1000) 1000 V)
  obtain ⟨b3_3, hb3_3⟩ : ∃ b, Hid (in1 (-5) 5 l.loose = b) := ⟨_, Lib.hid rfl⟩
  have Hb3_3 : Hid (∀ V, Calls Tryz.prog 61 #[.int .i64 l.loose, .int .i64 (-5), .int .i64 5] V fun e w' => e = .returned (.bool b3_3) ∧ V = w') := Lib.hid (fun V => by rw [← hb3_3.out]; exact in_any l.loose (-5) 5 V)
  obtain ⟨b4_0, hb4_0⟩ : ∃ b, Hid (in1 0 10000 l.jump = b) := ⟨_, Lib.hid rfl⟩
  have Hb4_0 : Hid (∀ V, Calls Tryz.prog 61 #[.int .i64 l.jump, .int .i64 0, .int .i64 10000] V fun e w' => e = .returned (.bool b4_0) ∧ V = w') := Lib.hid (fun V => by rw [← hb4_0.out]; exact in_any l.jump 0 10000 V)
  obtain ⟨b4_1, hb4_1⟩ : ∃ b, Hid (in1 0 10000 l.double = b) := ⟨_, Lib.hid rfl⟩
  have Hb4_1 : Hid (∀ V, Calls Tryz.prog 61 #[.int .i64 l.double, .int .i64 0, .int .i64 10000] V fun e w' => e = .returned (.bool b4_1) ∧ V = w') := Lib.hid (fun V => by rw [← hb4_1.out]; exact in_any l.double 0 10000 V)
  obtain ⟨b4_2, hb4_2⟩ : ∃ b, Hid (in1 0 10000 l.final = b) := ⟨_, Lib.hid rfl⟩
  have Hb4_2 : Hid (∀ V, Calls Tryz.prog 61 #[.int .i64 l.final, .int .i64 0, .int .i64 10000] V fun e w' => e = .returned (.bool b4_2) ∧ V = w') := Lib.hid (fun V => by rw [← hb4_2.out]; exact in_any l.final 0 10000 V)
  obtain ⟨b4_3, hb4_3⟩ : ∃ b, Hid (in1 0 10000 l.river = b) := ⟨_, Lib.hid rfl⟩
  have Hb4_3 : Hid (∀ V, Calls Tryz.prog 61 #[.int .i64 l.river, .int .i64 0, .int .i64 10000] V fun e w' => e = .returned (.bool b4_3) ∧ V = w') := Lib.hid (fun V => by rw [← hb4_3.out]; exact in_any l.river 0 10000 V)
  obtain ⟨b4_4, hb4_4⟩ : ∃ b, Hid (in1 0 10000 l.ladder = b) := ⟨_, Lib.hid rfl⟩
  have Hb4_4 : Hid (∀ V, Calls Tryz.prog 61 #[.int .i64 l.ladder, .int .i64 0, .int .i64 10000] V fun e w' => e = .returned (.bool b4_4) ∧ V = w') := Lib.hid (fun V => by rw [← hb4_4.out]; exact in_any l.ladder 0 10000 V)
  go_enter Tryz.func29, Tryz.ntmps29
  go_upto_region 1 with fail
  rw [HW.out, HGg.out]
  go_cut [3] (fun v wx => v = .bool (b1_0 && b1_1 && b1_2 && b1_3 && b1_4) ∧ wx = W)
  case first =>
    go_wp2_with fail
    with_reducible refine (Hb1_0.out _).mono ?_
    rintro e w' ⟨rfl, rfl⟩
    cases b1_0 with
    | false =>
      go_wp2_with fail
      go_meet
      exact ⟨by simp, rfl⟩
    | true =>
      go_wp2_with fail
      with_reducible refine (Hb1_1.out _).mono ?_
      rintro e w' ⟨rfl, rfl⟩
      cases b1_1 with
      | false =>
        go_wp2_with fail
        go_meet
        exact ⟨by simp, rfl⟩
      | true =>
        go_wp2_with fail
        with_reducible refine (Hb1_2.out _).mono ?_
        rintro e w' ⟨rfl, rfl⟩
        cases b1_2 with
        | false =>
          go_wp2_with fail
          go_meet
          exact ⟨by simp, rfl⟩
        | true =>
          go_wp2_with fail
          with_reducible refine (Hb1_3.out _).mono ?_
          rintro e w' ⟨rfl, rfl⟩
          cases b1_3 with
          | false =>
            go_wp2_with fail
            go_meet
            exact ⟨by simp, rfl⟩
          | true =>
            by_cases q : (l.shape.length : Int) ≤ 40
            · have FQ : ((l.shape.length : Int) ≤ 40) = True := eq_true q
              have eb1_4 : b1_4 = true := by rw [← hb1_4.out]; exact decide_eq_true q
              clear q
              go_wp2_with fail
              go_meet
              exact ⟨by rw [eb1_4]; simp, rfl⟩
            · have FQ : ((l.shape.length : Int) ≤ 40) = False := eq_false q
              have eb1_4 : b1_4 = false := by rw [← hb1_4.out]; exact decide_eq_false q
              clear q
              go_wp2_with fail
              go_meet
              exact ⟨by rw [eb1_4]; simp, rfl⟩
  case rest =>
  rename World => wx
  obtain ⟨rfl, hwx⟩ := hcut
  replace hwx := hwx.symm
  subst hwx
  go_upto_region 2 with fail
  go_cut [4] (fun v wx => v = .bool (b2_0 && b2_1 && b2_2 && b2_3 && b2_4 && b2_5 && b2_6) ∧ wx = W)
  case first =>
    go_wp2_with fail
    with_reducible refine (Hb2_0.out _).mono ?_
    rintro e w' ⟨rfl, rfl⟩
    cases b2_0 with
    | false =>
      go_wp2_with fail
      go_meet
      exact ⟨by simp, rfl⟩
    | true =>
      go_wp2_with fail
      with_reducible refine (Hb2_1.out _).mono ?_
      rintro e w' ⟨rfl, rfl⟩
      cases b2_1 with
      | false =>
        go_wp2_with fail
        go_meet
        exact ⟨by simp, rfl⟩
      | true =>
        go_wp2_with fail
        with_reducible refine (Hb2_2.out _).mono ?_
        rintro e w' ⟨rfl, rfl⟩
        cases b2_2 with
        | false =>
          go_wp2_with fail
          go_meet
          exact ⟨by simp, rfl⟩
        | true =>
          go_wp2_with fail
          with_reducible refine (Hb2_3.out _).mono ?_
          rintro e w' ⟨rfl, rfl⟩
          cases b2_3 with
          | false =>
            go_wp2_with fail
            go_meet
            exact ⟨by simp, rfl⟩
          | true =>
            go_wp2_with fail
            with_reducible refine (Hb2_4.out _).mono ?_
            rintro e w' ⟨rfl, rfl⟩
            cases b2_4 with
            | false =>
              go_wp2_with fail
              go_meet
              exact ⟨by simp, rfl⟩
            | true =>
              go_wp2_with fail
              with_reducible refine (Hb2_5.out _).mono ?_
              rintro e w' ⟨rfl, rfl⟩
              cases b2_5 with
              | false =>
                go_wp2_with fail
                go_meet
                exact ⟨by simp, rfl⟩
              | true =>
                go_wp2_with fail
                with_reducible refine (Hb2_6.out _).mono ?_
                rintro e w' ⟨rfl, rfl⟩
                cases b2_6 with
                | false =>
                  go_wp2_with fail
                  go_meet
                  exact ⟨by simp, rfl⟩
                | true =>
                  go_wp2_with fail
                  go_meet
                  exact ⟨by simp, rfl⟩
  case rest =>
  rename World => wx
  obtain ⟨rfl, hwx⟩ := hcut
  replace hwx := hwx.symm
  subst hwx
  go_upto_region 3 with fail
  go_cut [5] (fun v wx => v = .bool (b3_0 && b3_1 && b3_2 && b3_3) ∧ wx = W)
  case first =>
    go_wp2_with fail
    with_reducible refine (Hb3_0.out _).mono ?_
    rintro e w' ⟨rfl, rfl⟩
    cases b3_0 with
    | false =>
      go_wp2_with fail
      go_meet
      exact ⟨by simp, rfl⟩
    | true =>
      go_wp2_with fail
      with_reducible refine (Hb3_1.out _).mono ?_
      rintro e w' ⟨rfl, rfl⟩
      cases b3_1 with
      | false =>
        go_wp2_with fail
        go_meet
        exact ⟨by simp, rfl⟩
      | true =>
        go_wp2_with fail
        with_reducible refine (Hb3_2.out _).mono ?_
        rintro e w' ⟨rfl, rfl⟩
        cases b3_2 with
        | false =>
          go_wp2_with fail
          go_meet
          exact ⟨by simp, rfl⟩
        | true =>
          go_wp2_with fail
          with_reducible refine (Hb3_3.out _).mono ?_
          rintro e w' ⟨rfl, rfl⟩
          cases b3_3 with
          | false =>
            go_wp2_with fail
            go_meet
            exact ⟨by simp, rfl⟩
          | true =>
            go_wp2_with fail
            go_meet
            exact ⟨by simp, rfl⟩
  case rest =>
  rename World => wx
  obtain ⟨rfl, hwx⟩ := hcut
  replace hwx := hwx.symm
  subst hwx
  go_upto_region 4 with fail
  go_cut [6] (fun v wx => v = .bool (b4_0 && b4_1 && b4_2 && b4_3 && b4_4) ∧ wx = W)
  case first =>
    go_wp2_with fail
    with_reducible refine (Hb4_0.out _).mono ?_
    rintro e w' ⟨rfl, rfl⟩
    cases b4_0 with
    | false =>
      go_wp2_with fail
      go_meet
      exact ⟨by simp, rfl⟩
    | true =>
      go_wp2_with fail
      with_reducible refine (Hb4_1.out _).mono ?_
      rintro e w' ⟨rfl, rfl⟩
      cases b4_1 with
      | false =>
        go_wp2_with fail
        go_meet
        exact ⟨by simp, rfl⟩
      | true =>
        go_wp2_with fail
        with_reducible refine (Hb4_2.out _).mono ?_
        rintro e w' ⟨rfl, rfl⟩
        cases b4_2 with
        | false =>
          go_wp2_with fail
          go_meet
          exact ⟨by simp, rfl⟩
        | true =>
          go_wp2_with fail
          with_reducible refine (Hb4_3.out _).mono ?_
          rintro e w' ⟨rfl, rfl⟩
          cases b4_3 with
          | false =>
            go_wp2_with fail
            go_meet
            exact ⟨by simp, rfl⟩
          | true =>
            go_wp2_with fail
            with_reducible refine (Hb4_4.out _).mono ?_
            rintro e w' ⟨rfl, rfl⟩
            cases b4_4 with
            | false =>
              go_wp2_with fail
              go_meet
              exact ⟨by simp, rfl⟩
            | true =>
              go_wp2_with fail
              go_meet
              exact ⟨by simp, rfl⟩
  case rest =>
  rename World => wx
  obtain ⟨rfl, hwx⟩ := hcut
  replace hwx := hwx.symm
  subst hwx
  obtain ⟨one, hone⟩ : ∃ b, Hid ((b1_0 && b1_1 && b1_2 && b1_3 && b1_4) = b) := ⟨_, Lib.hid rfl⟩
  obtain ⟨two, htwo⟩ : ∃ b, Hid ((b2_0 && b2_1 && b2_2 && b2_3 && b2_4 && b2_5 && b2_6) = b) := ⟨_, Lib.hid rfl⟩
  obtain ⟨three, hthree⟩ : ∃ b, Hid ((b3_0 && b3_1 && b3_2 && b3_3) = b) := ⟨_, Lib.hid rfl⟩
  obtain ⟨four, hfour⟩ : ∃ b, Hid ((b4_0 && b4_1 && b4_2 && b4_3 && b4_4) = b) := ⟨_, Lib.hid rfl⟩
  rw [hone.out, htwo.out, hthree.out, hfour.out]
  have HLB : Hid (X = (one && two && three && four && l.shape.all lineB)) := Lib.hid (by
    rw [← hX.out, ← hone.out, ← htwo.out, ← hthree.out, ← hfour.out, lay_split, HLO.out, HHI.out, hb1_0.out, hb1_1.out, hb1_2.out, hb1_3.out, hb1_4.out, hb2_0.out, hb2_1.out, hb2_2.out, hb2_3.out, hb2_4.out, hb2_5.out, hb2_6.out, hb3_0.out, hb3_1.out, hb3_2.out, hb3_3.out, hb4_0.out, hb4_1.out, hb4_2.out, hb4_3.out, hb4_4.out])
  clear c0 c1 c2 c3 c5 c6 c7 c8 c9 c10 c11 c12 c13 c14 c15 c16 c17 c18 c19 c20
  have hsh : Hid (l.shape.length ≤ 100000) := Lib.hid hsm
  go_upto_region 5 with fail
  cases one with
  | false =>
    go_wp2_with fail
    go_ret
    exact ⟨ret_bool rfl (by rw [HLB.out]; simp), hbw⟩
  | true =>
    cases two with
    | false =>
      go_wp2_with fail
      go_ret
      exact ⟨ret_bool rfl (by rw [HLB.out]; simp), hbw⟩
    | true =>
      cases three with
      | false =>
        go_wp2_with fail
        go_ret
        exact ⟨ret_bool rfl (by rw [HLB.out]; simp), hbw⟩
      | true =>
        cases four with
        | false =>
          go_wp2_with fail
          go_ret
          exact ⟨ret_bool rfl (by rw [HLB.out]; simp), hbw⟩
        | true =>
          have HLC : Hid (X = l.shape.all lineB) := Lib.hid (by rw [HLB.out]; simp)
          go_upto_region 8 with fail
          go_loopw [7] (fun i wr => ∃ k : Nat, k ≤ l.shape.length ∧ i = .int .i64 (k : Int) ∧ Hid (X = (l.shape.drop k).all lineB) ∧ W = wr) (fun i _ => l.shape.length - (intOf i).toNat)
          case atStart => exact ⟨0, by omega, by simp, Lib.hid (by rw [HLC.out, List.drop_zero]), rfl⟩
          case round =>
            rename World => wr
            obtain ⟨k, hk, rfl, HS, hwr⟩ := hrel
            replace hwr := hwr.symm
            subst hwr
            by_cases hlt : k < l.shape.length
            · obtain ⟨x, hx⟩ := at_lt hlt
              have HD := Lib.hid (drop_cons hx)
              obtain ⟨b, o, hA, hbB, e0, e1⟩ := line_at (HLi.out.row.mono (hbw.mono hB)) hx
              rw [hA] at c4
              obtain ⟨p1, hp1⟩ : ∃ p, Hid (in1 0 67108864 x.1 = p) := ⟨_, Lib.hid rfl⟩
              obtain ⟨p2, hp2⟩ : ∃ p, Hid (in1 1 67108864 x.2 = p) := ⟨_, Lib.hid rfl⟩
              have HP1 : Hid (∀ V, Calls Tryz.prog 61 #[.int .i64 x.1, .int .i64 0, .int .i64 67108864] V fun e w' => e = .returned (.bool p1) ∧ V = w') := Lib.hid (fun V => by rw [← hp1.out]; exact in_any x.1 0 67108864 V)
              have HP2 : Hid (∀ V, Calls Tryz.prog 61 #[.int .i64 x.2, .int .i64 1, .int .i64 67108864] V fun e w' => e = .returned (.bool p2) ∧ V = w') := Lib.hid (fun V => by rw [← hp2.out]; exact in_any x.2 1 67108864 V)
              have HLx : Hid (lineB x = (p1 && p2)) := Lib.hid (by
                rw [← hp1.out, ← hp2.out]
                exact line_split x)
              have hk5 : k ≤ 100000 := by have := hsh.out; omega
              clear hx hA
              go_wp2_with fail
              with_reducible refine (HP1.out _).mono ?_
              rintro e w' ⟨rfl, rfl⟩
              cases p1 with
              | false =>
                go_wp2_with fail
                go_ret
                exact ⟨ret_bool rfl (by rw [HS.out, HD.out, List.all_cons, HLx.out]; rfl), hbw⟩
              | true =>
                go_wp2_with fail
                with_reducible refine (HP2.out _).mono ?_
                rintro e w' ⟨rfl, rfl⟩
                cases p2 with
                | false =>
                  go_wp2_with fail
                  go_ret
                  exact ⟨ret_bool rfl (by rw [HS.out, HD.out, List.all_cons, HLx.out]; rfl), hbw⟩
                | true =>
                  go_wp2_with fail
                  go_roundw
                  case rel => exact ⟨k + 1, by omega, by go_num, Lib.hid (by rw [HS.out, HD.out, List.all_cons, HLx.out]; rfl), trivial⟩
                  case measure => simp [intOf]; omega
            · have HX1 : Hid (X = true) := Lib.hid (by rw [HS.out, List.drop_eq_nil_of_le (by omega)]; rfl)
              go_wp2_with fail
              go_ret
              exact ⟨ret_bool rfl HX1.out.symm, hbw⟩
end Go.Proofs.YtndpdbofoojkhaaGreat.Ft
