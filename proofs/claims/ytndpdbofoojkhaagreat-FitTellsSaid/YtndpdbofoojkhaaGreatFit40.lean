/- The statement FitTells. -/
import Derived.Test.YtndpdbofoojkhaaGreatFit39
namespace Go.Proofs.YtndpdbofoojkhaaGreat.Ft
open Go.RowKit Go.Proofs.YtndpdbofoojkhaaGreat.Kit Go.Proofs.YtndpdbofoojkhaaGreat.Fo Go.Proofs.YtndpdbofoojkhaaGreat.Lv
set_option linter.unusedVariables false
set_option linter.unusedSimpArgs false

abbrev LayT := Int × Int × Int × Int × List (Int × Int) × Int × Int × Int × Int × Int × Int × Int × Int × Int × Int × Int × Int × Int × Int × Int × Int
abbrev layR : Rep LayT := (Rep.seq (Rep.int .i64) (Rep.seq (Rep.int .i64) (Rep.seq (Rep.int .i64) (Rep.seq (Rep.int .i64) (Rep.seq (Rep.slice (Rep.seq (Rep.int .i64) (Rep.int .i64))) (Rep.seq (Rep.int .i64) (Rep.seq (Rep.int .i64) (Rep.seq (Rep.int .i64) (Rep.seq (Rep.int .i64) (Rep.seq (Rep.int .i64) (Rep.seq (Rep.int .i64) (Rep.seq (Rep.int .i64) (Rep.seq (Rep.int .i64) (Rep.seq (Rep.int .i64) (Rep.seq (Rep.int .i64) (Rep.seq (Rep.int .i64) (Rep.seq (Rep.int .i64) (Rep.seq (Rep.int .i64) (Rep.seq (Rep.int .i64) (Rep.seq (Rep.int .i64) (Rep.int .i64)))))))))))))))))))))
theorem lay_of {w : World} {B : Nat} {cs : Array Value} {x : LayT} (h : layR.K w B cs.toList x) : ∃ l A c, cs = layCells l A c ∧ LayIn w B l A := by
  obtain ⟨x0, x1, x2, x3, x4, x5, x6, x7, x8, x9, x10, x11, x12, x13, x14, x15, x16, x17, x18, x19, x20⟩ := x
  obtain ⟨fu0, fv0, hcs, ⟨rfl, fw0⟩, ⟨fu1, fv1, rfl, ⟨rfl, fw1⟩, ⟨fu2, fv2, rfl, ⟨rfl, fw2⟩, ⟨fu3, fv3, rfl, ⟨rfl, fw3⟩, ⟨fu4, fv4, rfl, ⟨fA, fc, rfl, fl, fm, fr⟩, ⟨fu5, fv5, rfl, ⟨rfl, fw5⟩, ⟨fu6, fv6, rfl, ⟨rfl, fw6⟩, ⟨fu7, fv7, rfl, ⟨rfl, fw7⟩, ⟨fu8, fv8, rfl, ⟨rfl, fw8⟩, ⟨fu9, fv9, rfl, ⟨rfl, fw9⟩, ⟨fu10, fv10, rfl, ⟨rfl, fw10⟩, ⟨fu11, fv11, rfl, ⟨rfl, fw11⟩, ⟨fu12, fv12, rfl, ⟨rfl, fw12⟩, ⟨fu13, fv13, rfl, ⟨rfl, fw13⟩, ⟨fu14, fv14, rfl, ⟨rfl, fw14⟩, ⟨fu15, fv15, rfl, ⟨rfl, fw15⟩, ⟨fu16, fv16, rfl, ⟨rfl, fw16⟩, ⟨fu17, fv17, rfl, ⟨rfl, fw17⟩, ⟨fu18, fv18, rfl, ⟨rfl, fw18⟩, ⟨fu19, fv19, rfl, ⟨rfl, fw19⟩, ⟨rfl, fw20⟩⟩⟩⟩⟩⟩⟩⟩⟩⟩⟩⟩⟩⟩⟩⟩⟩⟩⟩⟩⟩ := h
  refine ⟨{ width := x0, space := x1, stretch := x2, shrink := x3, shape := x4, hang := x5, after := x6, left := x7, right := x8, first := x9, second := x10, extra := x11, linePen := x12, hyphPen := x13, dashPen := x14, jump := x15, double := x16, final := x17, river := x18, ladder := x19, loose := x20 }, fA, fc, arr_of hcs, fr, ⟨fw0, fw1, fw2, fw3, fw5, fw6, fw7, fw8, fw9, fw10, fw11, fw12, fw13, fw14, fw15, fw16, fw17, fw18, fw19, fw20⟩, fun y hy => ?_, Nat.le_trans fl fm⟩
  obtain ⟨i, hi⟩ := List.mem_iff_getElem?.1 hy
  obtain ⟨_, _, _, _, _, ⟨_, _, rfl, ⟨rfl, w1⟩, rfl, w2⟩, _⟩ := fr i y hi
  exact ⟨w1, w2⟩
theorem ld_want {t : TypeId} {ops : Array Oper} {rest : List Oper} {op : Oper} {a : Act} {w : World} {Q : Exit → Act → World → Prop} {g o : Nat} {fv : Value} (hld : (Instr.loadAt t (.pointer (some ⟨g, o, none⟩))).run Tryz.prog w = .ok fv w) (hw : Region.wanted op (yielded ops a.tmps) = true) (x : Operand) (ho : op.op = .load t x)
    (hx : a.eval x = .pointer (some ⟨g, o, none⟩)) (h : wpList Tryz.prog ops Q rest (a.put op.dst fv) w) : wpList Tryz.prog ops Q (op :: rest) a w :=
  BigFrame.wpList_want hw fun _ hK => by
    unfold Oper.wp execOp
    simp only [ho, hx, Sem.run_bind, hld, Sem.run_pure, Result.andThen_ok]
    exact hK _ _ h
theorem line_any (d : FaceD) (a : FaceA) (r m n : Nat) (l : LayD) (As : Option Addr) (cs : Nat) (Ap : Option Addr) (c : Nat) (P : List (List Int)) (long : Int) (last : Bool) (ex : Int) (w : World) (hf : faceB d = true) (hR : Rul d a r m n w) {B : Nat} (hB : B ≤ w.heap.size) (hL : LayIn w B l As) (hx : Row (Rep.int .i64).slice w B Ap P) (hl : P.length ≤ 1000) (hs : ∀ x ∈ P, x.length ≤ 1000) (hn : n < 100000000) :
    Calls Tryz.prog 11 #[.pointer (some ⟨r, 0, none⟩), .agg (layCells l As cs), .slice Ap P.length c, .int .i64 long, .bool last, .int .i64 ex] w fun e w' => e = .returned (.tuple #[fitV (lineF d l P long last ex), .int .i64 (lineE d l P long ex)]) ∧ Rul d a r m (n + 20000) w' ∧ Off m w w' := by
  by_cases hE : lineE d l P long ex = 0
  · refine (line_main d a r m n l As cs Ap c P long last ex w hf hR hR.box.lt hB hL hx hl hs hE hn).mono ?_
    rintro e w' ⟨rfl, h2, h3⟩
    exact ⟨by rw [hE], h2, h3⟩
  · refine (line_head d a r m n l As cs Ap c P long last ex w hf hR hB hL hx hl hs hE).mono ?_
    rintro e w' ⟨rfl, h2⟩
    exact ⟨by rw [lineF, if_neg hE], (hR.off h2).more (by omega), Off.of h2⟩
theorem all_small (d : FontD) (P : List (List Int)) : (allG d P).length ≤ 1000 ∧ ∀ g ∈ allG d P, g.length ≤ 1000 := by
  by_cases h : allE d P = 0
  · obtain ⟨_, h2, h3⟩ := gly_ok h
    rw [h2]
    exact ⟨by have := h3.most; omega, fun g hg => by have := flat_each _ g hg; have := h3.flat; omega⟩
  · rw [allG, if_neg h]
    exact ⟨by simp, fun g hg => by simp at hg⟩
set_option maxRecDepth 100000 in
set_option maxHeartbeats 8000000 in
theorem tells_walk (c0 : Array Value) (x0 : FaceT) (c1 : Array Value) (x1 : LayT) (A1 : Option Addr) (n1 k1 : Nat) (L1 : List (List Int)) (long : Int) (last : Bool) (ex : Int) (w : World) (h0 : faceR.K w w.heap.size c0.toList x0) (h1 : layR.K w w.heap.size c1.toList x1) (h2 : (Rep.int .i64).slice.slice.K w w.heap.size [.slice A1 n1 k1] L1) (hlo : (Lit.int .i64 long).wf = true) (hex : (Lit.int .i64 ex).wf = true) :
    Calls Tryz.prog 3 #[.agg c0, .agg c1, .slice A1 n1 k1, .int .i64 long, .bool last, .int .i64 ex] w fun e w' => e = .returned (.bool true) ∧ Below w.heap.size w w' := by
  obtain ⟨d, a, rfl, hF⟩ := face_of h0
  obtain ⟨l, As, cs, rfl, hL⟩ := lay_of h1
  obtain ⟨rfl, hc1, hc1', hr1⟩ := slice_of h2
  clear h0 h1 h2
  have hbx := (Box.new w (faceCells d a) 29).alloc (.cells (layCells l As cs) 32)
  have hby := Box.new (w.alloc (.cells (faceCells d a) 29)) (layCells l As cs) 32
  have hbw := below_alloc (below_alloc (Below.refl w.heap.size w) (.cells (faceCells d a) 29)) (.cells (layCells l As cs) 32)
  simp only [World.size_alloc] at hby
  obtain ⟨W1, hW⟩ : ∃ W1, (w.alloc (.cells (faceCells d a) 29)).alloc (.cells (layCells l As cs) 32) = W1 := ⟨_, rfl⟩
  rw [hW] at hbx hby hbw
  have HW := Lib.hid hW
  have hl1 : L1.length ≤ 9223372036854775807 := by omega
  have HF := Lib.hid hF
  have HL := Lib.hid hL
  have HR1 := Lib.hid hr1
  obtain ⟨g, hg⟩ : ∃ g, w.heap.size = g := ⟨_, rfl⟩
  have HGg := Lib.hid hg
  rw [hg] at hbx hby
  have hll := hL.len
  clear hF hL hr1 hW hc1 hc1' hg
  go_enter Tryz.func3, Tryz.ntmps3
  go_wp2_with fail
  rw [HW.out, HGg.out]
  with_reducible refine (awake_any W1).mono ?_
  rintro e w2 ⟨rfl, hb2⟩
  have hw2 := hbw.trans (hb2.mono hbw.size)
  have hbx2 := hbx.below hb2
  have HY2 := Lib.hid (hby.below hb2)
  have hld := load_face hbx2
  have HFew := Lib.hid (few_any d a w2)
  obtain ⟨fv, hfv⟩ : ∃ fv, Hid (faceV d a = fv) := ⟨_, Lib.hid rfl⟩
  rw [hfv.out] at hld HFew
  clear hb2 hbx hby hbw HW
  cases hfew : fewB d with
  | false =>
    rw [hfew] at HFew
    clear hfew
    go_wp2_with (refine ld_any hld rfl _ rfl rfl ?_)
    with_reducible refine HFew.out.mono ?_
    rintro e w3 ⟨rfl, hb3⟩
    clear hld HFew
    go_wp2_with fail
    go_ret
    exact ⟨rfl, below_join hw2 hb3⟩
  | true =>
    rw [hfew] at HFew
    have HSm := Lib.hid (small_few hfew)
    clear hfew
    go_wp2_with (refine ld_any hld rfl _ rfl rfl ?_)
    with_reducible refine HFew.out.mono ?_
    rintro e w3 ⟨rfl, hb3⟩
    have hw3 := below_join hw2 hb3
    have hbx3 := hbx2.below hb3
    have HY3 := Lib.hid (HY2.out.below hb3)
    have hld3 := load_face hbx3
    rw [hfv.out] at hld3
    have HG1 := Lib.hid (few18_any A1 k1 L1 w3 (heads_row hw3.size (HR1.out.mono hw3)) hl1)
    clear hld HFew hb3 hw2 hbx2 HY2
    cases hf1 : few18 L1 with
    | false =>
      rw [hf1] at HG1
      clear hf1
      go_wp2_with fail
      with_reducible refine HG1.out.mono ?_
      rintro e w4 ⟨rfl, rfl⟩
      clear HG1
      go_wp2_with fail
      go_ret
      exact ⟨rfl, hw3⟩
    | true =>
      rw [hf1] at HG1
      have HL1 := Lib.hid (few18_all.1 hf1)
      clear hf1
      go_wp2_with fail
      with_reducible refine HG1.out.mono ?_
      rintro e w4 ⟨rfl, rfl⟩
      clear HG1
      have y4 : w3.cell? ⟨g + 1, 4, none⟩ = some (.slice As l.shape.length cs) := HY3.out.cell 4 rfl
      by_cases hsh : 100 < (l.shape.length : Int)
      · have F1 : (100 < (l.shape.length : Int)) = True := eq_true hsh
        clear hsh
        go_wp2_with fail
        go_ret
        exact ⟨rfl, hw3⟩
      · have F1 : (100 < (l.shape.length : Int)) = False := eq_false hsh
        have HSh : Hid (l.shape.length ≤ 100) := Lib.hid (by omega)
        clear hsh
        have HNw := Lib.hid (new_any d a w3 hw3.size (HF.out.mono hw3) HSm.out)
        rw [hfv.out] at HNw
        go_wp2_with (refine ld_any hld3 rfl _ rfl rfl ?_)
        with_reducible refine HNw.out.mono ?_
        rintro e w6 ⟨hno, hyes, hb6⟩
        have hw6 := below_join hw3 hb6
        have HY6 := Lib.hid (HY3.out.below hb6)
        have HX6 := Lib.hid (hbx3.below hb6)
        have hg3 : g + 1 < w3.heap.size := HY3.out.lt
        clear hld3 HNw hb6 hbx3 y4 HY3
        cases hfb : faceB d with
        | false =>
          obtain rfl := hno hfb
          have hldf := load_face HX6.out
          have HCk := Lib.hid (RLv.face9_any d a w6 (B := w.heap.size) hw6.size (HF.out.mono hw6))
          rw [hfv.out] at hldf HCk
          rw [hfb] at HCk
          clear hno hyes hfb
          go_wp2_with (refine ld_want hldf (by rfl) _ rfl rfl ?_)
          with_reducible refine HCk.out.mono ?_
          rintro e w7 ⟨rfl, hb7⟩
          clear hldf HCk
          go_wp2_with fail
          go_ret
          exact ⟨rfl, below_join hw6 hb7⟩
        | true =>
          obtain ⟨r, m, a', rfl, hR, hm1, hmr⟩ := hyes hfb
          have HFB := Lib.hid hfb
          clear hno hyes hfb
          have hm6 := hR.lt
          have hwm : w.heap.size ≤ m := Nat.le_trans hw3.size hm1
          have hgm : g + 1 < m := Nat.lt_of_lt_of_le hg3 hm1
          obtain ⟨lv, hlv⟩ : ∃ lv, Hid ((Value.agg (layCells l As cs)) = lv) := ⟨_, Lib.hid rfl⟩
          have HP : Hid (L1.length ≤ 1000 ∧ ∀ x ∈ L1, x.length ≤ 1000) := Lib.hid ⟨by have := HL1.out.1; omega, fun x hx => by have := HL1.out.2 x hx; omega⟩
          have HLF : Hid (∀ V, Box V g (faceCells d a) 29 → (Instr.loadAt 29 (.pointer (some ⟨g, 0, none⟩))).run Tryz.prog V = .ok fv V) := Lib.hid fun V hb => by
            rw [← hfv.out]
            exact load_face hb
          have HLL : Hid (∀ V, Box V (g + 1) (layCells l As cs) 32 → (Instr.loadAt 32 (.pointer (some ⟨g + 1, 0, none⟩))).run Tryz.prog V = .ok lv V) := Lib.hid fun V hb => by
            rw [← hlv.out]
            exact lay_load hb
          obtain ⟨GL, hGL⟩ : ∃ GL, Hid (allG d.font L1 = GL) := ⟨_, Lib.hid rfl⟩
          obtain ⟨GE, hGE⟩ : ∃ GE, Hid (allE d.font L1 = GE) := ⟨_, Lib.hid rfl⟩
          obtain ⟨X, hX⟩ : ∃ X, Hid (lineF d l L1 long last ex = X) := ⟨_, Lib.hid rfl⟩
          obtain ⟨XE, hXE⟩ : ∃ XE, Hid (lineE d l L1 long ex = XE) := ⟨_, Lib.hid rfl⟩
          have HSmall : Hid (GL.length ≤ 1000 ∧ ∀ g ∈ GL, g.length ≤ 1000) := Lib.hid (by rw [← hGL.out]; exact all_small d.font L1)
          have HGl := Lib.hid (glyphs_any d a' r m 0 A1 k1 L1 w6 hR (B := w.heap.size) hw6.size (HR1.out.mono hw6) HP.out.1 HP.out.2)
          rw [hGL.out, hGE.out] at HGl
          have HR6 := Lib.hid hR
          clear hR
          go_wp2_with fail
          with_reducible refine HGl.out.mono ?_
          rintro e w7 ⟨Ag, cg, rfl, hgg7, hb7⟩
          have hw7 := below_join hw6 hb7
          have HR7 := Lib.hid (HR6.out.off hb7)
          have HX7 := Lib.hid (HX6.out.below hb7)
          have HY7 := Lib.hid (HY6.out.below hb7)
          have HG7 := Lib.hid hgg7
          have hs7 := hb7.size
          have HRg := Lib.hid (rglyphs_any d a A1 k1 L1 w7 (B := w.heap.size) hw7.size (HF.out.mono hw7) (face_ok HFB.out).1 (HR1.out.mono hw7) HP.out.1 HP.out.2)
          rw [hGL.out, hGE.out, hfv.out] at HRg
          have hld7 := HLF.out w7 HX7.out
          clear HGl HR6 HX6 HY6 hgg7 hb7
          go_wp2_with (refine ld_any hld7 rfl _ rfl rfl ?_)
          with_reducible refine HRg.out.mono ?_
          rintro e w8 ⟨Bg, cb, rfl, hgg8, hb8⟩
          have hw8 := below_join hw7 hb8
          have HR8 := Lib.hid (HR7.out.off hb8)
          have HX8 := Lib.hid (HX7.out.below hb8)
          have HY8 := Lib.hid (HY7.out.below hb8)
          have HG8 := Lib.hid (HG7.out.below hb8)
          have HH8 := Lib.hid hgg8
          have hs8 := hb8.size
          have HLn := Lib.hid (line_any d a' r m 0 l As cs A1 k1 L1 long last ex w8 HFB.out HR8.out (B := w.heap.size) hw8.size (HL.out.on hw8) (HR1.out.mono hw8) HP.out.1 HP.out.2 (by omega))
          rw [hX.out, hXE.out, hlv.out] at HLn
          have hld8 := HLL.out w8 HY8.out
          clear HRg HR7 HX7 HY7 HG7 hld7 hgg8 hb8
          go_wp2_with (refine ld_any hld8 rfl _ rfl rfl ?_)
          with_reducible refine HLn.out.mono ?_
          rintro e w9 ⟨rfl, hR9, hO9⟩
          have HR9 := Lib.hid hR9
          have hw9 := Off.below hw8 hO9 hwm hw8.size
          have HX9 := Lib.hid (hO9.box HX8.out (show g ≠ m by omega))
          have HY9 := Lib.hid (hO9.box HY8.out (show g + 1 ≠ m by omega))
          have HG9 := Lib.hid (HG8.out.off hO9 (fun b hb => by omega))
          have HH9 := Lib.hid (HH8.out.off hO9 (fun b hb => by omega))
          have hs9 := hO9.size
          clear HLn HR8 HX8 HY8 HG8 HH8 hld8 hR9 hO9
          go_upto_region 10 with fail
          have HZV9 : Hid (Box (w9.alloc (.cells (fitB X) 46)) w9.heap.size (fitB X) 46) := Lib.hid (Box.new w9 _ _)
          have HAV9 : Hid (Below w9.heap.size w9 (w9.alloc (.cells (fitB X) 46))) := Lib.hid (below_alloc (Below.refl w9.heap.size w9) _)
          obtain ⟨V9, hV9⟩ : ∃ V9, w9.alloc (.cells (fitB X) 46) = V9 := ⟨_, rfl⟩
          rw [hV9] at HZV9 HAV9 ⊢
          obtain ⟨p9, hp9⟩ : ∃ p9, w9.heap.size = p9 := ⟨_, rfl⟩
          have Hp9 := Lib.hid hp9
          rw [hp9] at HZV9 ⊢
          clear hV9 hp9
          have hv9 := below_join hw9 HAV9.out
          have HXa := Lib.hid (HX9.out.below HAV9.out)
          have HYa := Lib.hid (HY9.out.below HAV9.out)
          have HRa := Lib.hid (HR9.out.off HAV9.out)
          have HGa := Lib.hid (HG9.out.below HAV9.out)
          have HHa := Lib.hid (HH9.out.below HAV9.out)
          have HRl := Lib.hid (rline_any d a l As cs A1 k1 L1 long last ex V9 (B := w.heap.size) hv9.size (HF.out.mono hv9) HFB.out (HL.out.on hv9) (by have := HSh.out; omega) (HR1.out.mono hv9) HP.out.1 HP.out.2)
          rw [hX.out, hXE.out, hlv.out, hfv.out] at HRl
          have hldf := HLF.out V9 HXa.out
          have hldl := HLL.out V9 HYa.out
          have hsa := HAV9.out.size
          clear HX9 HY9 HR9 HG9 HH9
          go_wp2_with (first | refine ld_any hldf rfl _ rfl rfl ?_ | refine ld_any hldl rfl _ rfl rfl ?_)
          with_reducible refine HRl.out.mono ?_
          rintro e w10 ⟨rfl, hb10⟩
          have hw10 := below_join hv9 hb10
          have HX10 := Lib.hid (HXa.out.below hb10)
          have HY10 := Lib.hid (HYa.out.below hb10)
          have HR10 := Lib.hid (HRa.out.off hb10)
          have HG10 := Lib.hid (HGa.out.below hb10)
          have HH10 := Lib.hid (HHa.out.below hb10)
          have HZ10 := Lib.hid (HZV9.out.below hb10)
          have hs10 := hb10.size
          clear HRl HXa HYa HRa HGa HHa hldf hldl hb10 HZV9
          go_upto_region 11 with fail
          have HZV10 : Hid (Box (w10.alloc (.cells (fitB X) 46)) w10.heap.size (fitB X) 46) := Lib.hid (Box.new w10 _ _)
          have HAV10 : Hid (Below w10.heap.size w10 (w10.alloc (.cells (fitB X) 46))) := Lib.hid (below_alloc (Below.refl w10.heap.size w10) _)
          obtain ⟨V10, hV10⟩ : ∃ V10, w10.alloc (.cells (fitB X) 46) = V10 := ⟨_, rfl⟩
          rw [hV10] at HZV10 HAV10 ⊢
          obtain ⟨p10, hp10⟩ : ∃ p10, w10.heap.size = p10 := ⟨_, rfl⟩
          have Hp10 := Lib.hid hp10
          rw [hp10] at HZV10 ⊢
          clear hV10 hp10
          have hv10 := below_join hw10 HAV10.out
          have HXb := Lib.hid (HX10.out.below HAV10.out)
          have HYb := Lib.hid (HY10.out.below HAV10.out)
          have HRb := Lib.hid (HR10.out.off HAV10.out)
          have HGb := Lib.hid (HG10.out.below HAV10.out)
          have HHb := Lib.hid (HH10.out.below HAV10.out)
          have HZb := Lib.hid (HZ10.out.below HAV10.out)
          have HLn2 := Lib.hid (line_any d a' r m (0 + 20000) l As cs A1 k1 L1 long last ex V10 HFB.out HRb.out (B := w.heap.size) hv10.size (HL.out.on hv10) (HR1.out.mono hv10) HP.out.1 HP.out.2 (by omega))
          rw [hX.out, hXE.out, hlv.out] at HLn2
          have hldl := HLL.out V10 HYb.out
          have hsb := HAV10.out.size
          clear HX10 HY10 HR10 HG10 HH10 HZ10
          go_wp2_with (refine ld_any hldl rfl _ rfl rfl ?_)
          with_reducible refine HLn2.out.mono ?_
          rintro e w11 ⟨rfl, hR11, hO11⟩
          have hw11 := Off.below hv10 hO11 hwm hv10.size
          have hp9m : p9 ≠ m := by have := Hp9.out; omega
          have hp10m : p10 ≠ m := by have := Hp10.out; omega
          have HX11 := Lib.hid (hO11.box HXb.out (show g ≠ m by omega))
          have HZ11 := Lib.hid (hO11.box HZb.out hp9m)
          have HZ11' := Lib.hid (hO11.box HZV10.out hp10m)
          have HG11 := Lib.hid (HGb.out.off hO11 (fun b hb => by omega))
          have HH11 := Lib.hid (HHb.out.off hO11 (fun b hb => by omega))
          clear HLn2 HXb HYb HRb HGb HHb HZb HZV10 hldl hR11 hO11
          go_upto_region 12 with fail
          have HZV11 : Hid (Box (w11.alloc (.cells (fitB X) 46)) w11.heap.size (fitB X) 46) := Lib.hid (Box.new w11 _ _)
          have HAV11 : Hid (Below w11.heap.size w11 (w11.alloc (.cells (fitB X) 46))) := Lib.hid (below_alloc (Below.refl w11.heap.size w11) _)
          obtain ⟨V11, hV11⟩ : ∃ V11, w11.alloc (.cells (fitB X) 46) = V11 := ⟨_, rfl⟩
          rw [hV11] at HZV11 HAV11 ⊢
          obtain ⟨p11, hp11⟩ : ∃ p11, w11.heap.size = p11 := ⟨_, rfl⟩
          have Hp11 := Lib.hid hp11
          rw [hp11] at HZV11 ⊢
          clear hV11 hp11
          have hv11 := below_join hw11 HAV11.out
          have HX12 := Lib.hid (HX11.out.below HAV11.out)
          have HZ12 := Lib.hid (HZ11.out.below HAV11.out)
          have HZ12' := Lib.hid (HZ11'.out.below HAV11.out)
          have HSame := Lib.hid (same18_any Ag Bg cg cb GL GL V11 (HG11.out.below HAV11.out) (HH11.out.below HAV11.out) (by have := HSmall.out.1; omega) (by have := HSmall.out.1; omega) (fun x hx => by have := HSmall.out.2 x hx; omega) (fun x hx => by have := HSmall.out.2 x hx; omega))
          rw [decide_eq_true rfl] at HSame
          clear HX11 HZ11 HZ11' HG11 HH11
          go_wp2_with fail
          with_reducible refine HSame.out.mono ?_
          rintro e w12 ⟨rfl, hb12⟩
          have hw12 := below_join hv11 hb12
          have HX13 := Lib.hid (HX12.out.below hb12)
          have HZ13 := Lib.hid (HZ12.out.below hb12)
          have HZ13' := Lib.hid (HZ12'.out.below hb12)
          have HZ13'' := Lib.hid (HZV11.out.below hb12)
          have HCk := Lib.hid (RLv.face9_any d a w12 (B := w.heap.size) hw12.size (HF.out.mono hw12))
          have hldf := HLF.out w12 HX13.out
          rw [hfv.out, HFB.out] at HCk
          clear HSame HX12 HZ12 HZ12' HZV11 hb12
          go_wp2_with (refine ld_want hldf (by rfl) _ rfl rfl ?_)
          with_reducible refine HCk.out.mono ?_
          rintro e w13 ⟨rfl, hb13⟩
          have hw13 := below_join hw12 hb13
          have hz1 := HZ13.out.below hb13
          have hz2 := HZ13'.out.below hb13
          have hz3 := HZ13''.out.below hb13
          have a0 : w13.cell? ⟨p9, 0, none⟩ = some (.int .i64 X.level) := hz1.cell 0 rfl
          have a1 : w13.cell? ⟨p9, 1, none⟩ = some (.int .i64 X.nat) := hz1.cell 1 rfl
          have a2 : w13.cell? ⟨p9, 2, none⟩ = some (.int .i64 X.left) := hz1.cell 2 rfl
          have a3 : w13.cell? ⟨p9, 3, none⟩ = some (.int .i64 X.right) := hz1.cell 3 rfl
          have a4 : w13.cell? ⟨p9, 4, none⟩ = some (.int .i64 X.bad) := hz1.cell 4 rfl
          have a5 : w13.cell? ⟨p9, 5, none⟩ = some (.int .i64 X.cls) := hz1.cell 5 rfl
          have a6 : w13.cell? ⟨p9, 6, none⟩ = some (.bool X.unset) := hz1.cell 6 rfl
          have a7 : w13.cell? ⟨p9, 7, none⟩ = some (.int .i64 X.defect) := hz1.cell 7 rfl
          have b0 : w13.cell? ⟨p10, 0, none⟩ = some (.int .i64 X.level) := hz2.cell 0 rfl
          have b1 : w13.cell? ⟨p10, 1, none⟩ = some (.int .i64 X.nat) := hz2.cell 1 rfl
          have b2 : w13.cell? ⟨p10, 2, none⟩ = some (.int .i64 X.left) := hz2.cell 2 rfl
          have b3 : w13.cell? ⟨p10, 3, none⟩ = some (.int .i64 X.right) := hz2.cell 3 rfl
          have b4 : w13.cell? ⟨p10, 4, none⟩ = some (.int .i64 X.bad) := hz2.cell 4 rfl
          have b5 : w13.cell? ⟨p10, 5, none⟩ = some (.int .i64 X.cls) := hz2.cell 5 rfl
          have b6 : w13.cell? ⟨p10, 6, none⟩ = some (.bool X.unset) := hz2.cell 6 rfl
          have b7 : w13.cell? ⟨p10, 7, none⟩ = some (.int .i64 X.defect) := hz2.cell 7 rfl
          have c0 : w13.cell? ⟨p11, 0, none⟩ = some (.int .i64 X.level) := hz3.cell 0 rfl
          have c1 : w13.cell? ⟨p11, 1, none⟩ = some (.int .i64 X.nat) := hz3.cell 1 rfl
          have c2 : w13.cell? ⟨p11, 2, none⟩ = some (.int .i64 X.left) := hz3.cell 2 rfl
          have c3 : w13.cell? ⟨p11, 3, none⟩ = some (.int .i64 X.right) := hz3.cell 3 rfl
          have c4 : w13.cell? ⟨p11, 4, none⟩ = some (.int .i64 X.bad) := hz3.cell 4 rfl
          have c5 : w13.cell? ⟨p11, 5, none⟩ = some (.int .i64 X.cls) := hz3.cell 5 rfl
          have c6 : w13.cell? ⟨p11, 6, none⟩ = some (.bool X.unset) := hz3.cell 6 rfl
          have c7 : w13.cell? ⟨p11, 7, none⟩ = some (.int .i64 X.defect) := hz3.cell 7 rfl
          clear HX13 HZ13 HZ13' HZ13'' hldf HCk hz1 hz2 hz3 hb13
          go_wp2_with fail
          go_ret
          exact ⟨rfl, hw13⟩
end Go.Proofs.YtndpdbofoojkhaaGreat.Ft
