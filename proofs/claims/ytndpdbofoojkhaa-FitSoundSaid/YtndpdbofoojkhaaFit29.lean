/- joined for a claim: Fit29P, Fit29 -/
import Derived.Test.YtndpdbofoojkhaaFit21
import Derived.Test.YtndpdbofoojkhaaFit29R
import Derived.Test.YtndpdbofoojkhaaFit29S
import Derived.Test.YtndpdbofoojkhaaFit28
/- FitSound's plain law. -/
namespace Go.Proofs.Ytndpdbofoojkhaa.Ft
open Go.RowKit Go.Proofs.Ytndpdbofoojkhaa.Kit Go.Proofs.Ytndpdbofoojkhaa.Fo Go.Proofs.Ytndpdbofoojkhaa.Lv Go.Proofs.Ytndpdbofoojkhaa.Bad
set_option linter.unusedVariables false
set_option linter.unusedSimpArgs false

theorem judge_sound {gap st sh ex : Int} {last : Bool} (h : JudgeOk gap st sh ex) :
    ((judgeP gap st sh ex last).2.1 = true ↔ gap < -sh ∨ (0 < gap ∧ st = 0 ∧ last = false) ∨ (1073741823 < gap ∧ last = false)) ∧
    ((judgeP gap st sh ex last).2.2 = 0 ↔ (judgeP gap st sh ex last).2.1 = false) ∧
    (last = true → 0 ≤ gap → (judgeP gap st sh ex last).1 = 0) ∧ 0 ≤ (judgeP gap st sh ex last).1 ∧ (judgeP gap st sh ex last).1 ≤ 10000 := by
  obtain ⟨h1, h2, h3, h4⟩ := h
  have b1 := badP_le (cl gap) (cl (st + ex))
  have b2 := badP_le (cl (-gap)) (cl sh)
  unfold judgeP
  by_cases g0 : 0 ≤ gap
  · cases last with
    | true =>
      rw [if_pos ⟨g0, rfl⟩]
      simp
      omega
    | false =>
      rw [if_neg (by simp)]
      by_cases g1 : (0 < gap ∧ st = 0) ∨ 1073741823 < gap
      · rw [if_pos g1]
        simp
        omega
      · rw [if_neg g1, if_pos g0]
        simp
        omega
  · rw [if_neg (fun q => g0 q.1), if_neg (by omega), if_neg g0]
    by_cases g2 : sh < -gap
    · rw [if_pos g2]
      simp
      omega
    · rw [if_neg g2]
      simp
      omega
/-- What lineF is, where there is no error. -/
theorem lineF_at {d : FaceD} (hf : faceB d = true) {l : LayD} {P : List (List Int)} {long : Int} {last : Bool} {ex : Int} (h : lineE d l P long ex = 0) : ∃ lev, -d.down ≤ lev ∧ lev ≤ d.up ∧ lineF d l P long last ex = fitAt d l (P.map (setG d.font)) long last ex lev := by
  obtain ⟨_, _, _, ⟨u1, u2⟩, ⟨v1, v2⟩, _⟩ := face_ok hf
  obtain ⟨n, hn⟩ : ∃ n, levN d = n + 1 := ⟨levN d - 1, by unfold levN; omega⟩
  obtain ⟨i, hi, hb⟩ := best_some (fun k => fitAt d l (P.map (setG d.font)) long last ex (-d.down + k)) n
  have hl : (levN d : Int) = d.up + d.down + 1 := by unfold levN; omega
  refine ⟨-d.down + i, by omega, by omega, ?_⟩
  rw [lineF, if_pos h, hn, hb]; rfl
end Go.Proofs.Ytndpdbofoojkhaa.Ft
/- A layout as an argument; the statement FitSound. -/
namespace Go.Proofs.Ytndpdbofoojkhaa.Ft
open Go.RowKit Go.Proofs.Ytndpdbofoojkhaa.Kit Go.Proofs.Ytndpdbofoojkhaa.Fo Go.Proofs.Ytndpdbofoojkhaa.Lv Go.Proofs.Ytndpdbofoojkhaa.Bad
set_option linter.unusedVariables false
set_option linter.unusedSimpArgs false

abbrev LayT := Int × Int × Int × Int × List (Int × Int) × Int × Int × Int × Int × Int × Int × Int × Int × Int × Int × Int × Int × Int × Int × Int × Int
abbrev layR : Rep LayT := (Rep.seq (Rep.int .i64) (Rep.seq (Rep.int .i64) (Rep.seq (Rep.int .i64) (Rep.seq (Rep.int .i64) (Rep.seq (Rep.slice (Rep.seq (Rep.int .i64) (Rep.int .i64))) (Rep.seq (Rep.int .i64) (Rep.seq (Rep.int .i64) (Rep.seq (Rep.int .i64) (Rep.seq (Rep.int .i64) (Rep.seq (Rep.int .i64) (Rep.seq (Rep.int .i64) (Rep.seq (Rep.int .i64) (Rep.seq (Rep.int .i64) (Rep.seq (Rep.int .i64) (Rep.seq (Rep.int .i64) (Rep.seq (Rep.int .i64) (Rep.seq (Rep.int .i64) (Rep.seq (Rep.int .i64) (Rep.seq (Rep.int .i64) (Rep.seq (Rep.int .i64) (Rep.int .i64)))))))))))))))))))))
theorem lay_of {w : World} {B : Nat} {cs : Array Value} {x : LayT} (h : layR.K w B cs.toList x) : ∃ l A c, cs = layCells l A c ∧ LayIn w B l A := by
  obtain ⟨x0, x1, x2, x3, x4, x5, x6, x7, x8, x9, x10, x11, x12, x13, x14, x15, x16, x17, x18, x19, x20⟩ := x
  obtain ⟨fu0, fv0, hcs, ⟨rfl, fw0⟩, ⟨fu1, fv1, rfl, ⟨rfl, fw1⟩, ⟨fu2, fv2, rfl, ⟨rfl, fw2⟩, ⟨fu3, fv3, rfl, ⟨rfl, fw3⟩, ⟨fu4, fv4, rfl, ⟨fA, fc, rfl, fl, fm, fr⟩, ⟨fu5, fv5, rfl, ⟨rfl, fw5⟩, ⟨fu6, fv6, rfl, ⟨rfl, fw6⟩, ⟨fu7, fv7, rfl, ⟨rfl, fw7⟩, ⟨fu8, fv8, rfl, ⟨rfl, fw8⟩, ⟨fu9, fv9, rfl, ⟨rfl, fw9⟩, ⟨fu10, fv10, rfl, ⟨rfl, fw10⟩, ⟨fu11, fv11, rfl, ⟨rfl, fw11⟩, ⟨fu12, fv12, rfl, ⟨rfl, fw12⟩, ⟨fu13, fv13, rfl, ⟨rfl, fw13⟩, ⟨fu14, fv14, rfl, ⟨rfl, fw14⟩, ⟨fu15, fv15, rfl, ⟨rfl, fw15⟩, ⟨fu16, fv16, rfl, ⟨rfl, fw16⟩, ⟨fu17, fv17, rfl, ⟨rfl, fw17⟩, ⟨fu18, fv18, rfl, ⟨rfl, fw18⟩, ⟨fu19, fv19, rfl, ⟨rfl, fw19⟩, ⟨rfl, fw20⟩⟩⟩⟩⟩⟩⟩⟩⟩⟩⟩⟩⟩⟩⟩⟩⟩⟩⟩⟩⟩ := h
  refine ⟨{ width := x0, space := x1, stretch := x2, shrink := x3, shape := x4, hang := x5, after := x6, left := x7, right := x8, first := x9, second := x10, extra := x11, linePen := x12, hyphPen := x13, dashPen := x14, jump := x15, double := x16, final := x17, river := x18, ladder := x19, loose := x20 }, fA, fc, arr_of hcs, fr, ⟨fw0, fw1, fw2, fw3, fw5, fw6, fw7, fw8, fw9, fw10, fw11, fw12, fw13, fw14, fw15, fw16, fw17, fw18, fw19, fw20⟩, fun y hy => ?_, Nat.le_trans fl fm⟩
  obtain ⟨i, hi⟩ := List.mem_iff_getElem?.1 hy
  obtain ⟨_, _, _, _, _, ⟨_, _, rfl, ⟨rfl, w1⟩, rfl, w2⟩, _⟩ := fr i y hi
  exact ⟨w1, w2⟩
theorem wide_c {d : FaceD} {a : FaceA} {r m n : Nat} {sp lev : Int} {Ag : Option Addr} {cg : Nat} {G : List (List (Int × Int))} {w : World} {Q : Nat → Prop} (hf : faceB d = true) (hR : Rul d a r m n w) (hQ : ∀ b, Q b → b ≠ m) (hG : GG Q w Ag G) (hg : GlyOk d.font G) (hle : (Lit.int .i64 lev).wf = true) (hn : n ≤ 100000) {v : Int} (hv : wideS d sp G lev = v) :
    Calls Try.prog 11 #[.pointer (some ⟨r, 0, none⟩), .int .i64 sp, .slice Ag G.length cg, .int .i64 lev] w fun e w' => e = .returned (.int .i64 v) ∧ Rul d a r m (n + 1000) w' ∧ Off m w w' := by
  have hfl := hg.flat
  have hm := hg.most
  subst hv
  refine (wide_any d a r m n sp lev Ag cg G w hf hR hQ hG (gly_wf (lig_tfm (face_ok hf).1) hg) hle (by omega) (fun g h => by have := flat_each G g h; omega) (by omega)).mono ?_
  rintro e w' ⟨h1, h2, h3⟩
  exact ⟨h1, h2.more (by omega), h3⟩
theorem LayIn.mono {w w' : World} {B : Nat} {l : LayD} {A : Option Addr} (h : LayIn w B l A) (hb : Below B w w') : LayIn w' B l A := ⟨h.row.mono hb, h.wf, h.each, h.len⟩
set_option maxRecDepth 100000 in
set_option maxHeartbeats 8000000 in
theorem sound_walk (c0 : Array Value) (x0 : FaceT) (c1 : Array Value) (x1 : LayT) (A1 : Option Addr) (n1 k1 : Nat) (L1 : List (List Int)) (long : Int) (last : Bool) (ex : Int) (w : World) (h0 : faceR.K w w.heap.size c0.toList x0) (h1 : layR.K w w.heap.size c1.toList x1) (h2 : (Rep.int .i64).slice.slice.K w w.heap.size [.slice A1 n1 k1] L1) (hlo : (Lit.int .i64 long).wf = true) (hex : (Lit.int .i64 ex).wf = true) :
    Calls Try.prog 3 #[.agg c0, .agg c1, .slice A1 n1 k1, .int .i64 long, .bool last, .int .i64 ex] w fun e w' => e = .returned (.bool true) ∧ Below w.heap.size w w' := by
  obtain ⟨d, a, rfl, hF⟩ := face_of h0
  obtain ⟨l, As, cs, rfl, hL⟩ := lay_of h1
  obtain ⟨rfl, hc1, hc1', hr1⟩ := slice_of h2
  clear h0 h1 h2
  have hbx := (Box.new w (faceCells d a) 29).alloc (.cells (layCells l As cs) 32)
  have hby := Box.new (w.alloc (.cells (faceCells d a) 29)) (layCells l As cs) 32
  have hbw := below_alloc (below_alloc (Below.refl w.heap.size w) (.cells (faceCells d a) 29)) (.cells (layCells l As cs) 32)
  simp only [World.size_alloc] at hby
  obtain ⟨W1, hW⟩ : ∃ W1, (w.alloc (.cells (faceCells d a) 29)).alloc (.cells (layCells l As cs) 32) = W1 := ⟨_, rfl⟩
  rw [hW] at hbx hby hbw
  have HW := Lib.hid hW
  have hl1 : L1.length ≤ 9223372036854775807 := by omega
  have HF := Lib.hid hF
  have HL := Lib.hid hL
  have HR1 := Lib.hid hr1
  obtain ⟨g, hg⟩ : ∃ g, w.heap.size = g := ⟨_, rfl⟩
  have HGg := Lib.hid hg
  rw [hg] at hbx hby
  have hll := hL.len
  clear hF hL hr1 hW hc1 hc1' hg
  go_enter Try.func3, Try.ntmps3
  go_wp2_with fail
  rw [HW.out, HGg.out]
  with_reducible refine (awake_any W1).mono ?_
  rintro e w2 ⟨rfl, hb2⟩
  have hw2 := hbw.trans (hb2.mono hbw.size)
  have hbx2 := hbx.below hb2
  have HY2 := Lib.hid (hby.below hb2)
  have hld := load_face hbx2
  have HFew := Lib.hid (few_any d a w2)
  obtain ⟨fv, hfv⟩ : ∃ fv, Hid (faceV d a = fv) := ⟨_, Lib.hid rfl⟩
  rw [hfv.out] at hld HFew
  clear hb2 hbx hby hbw HW
  cases hfew : fewB d with
  | false =>
    rw [hfew] at HFew
    clear hfew
    go_wp2_with (refine ld_any hld rfl _ rfl rfl ?_)
    with_reducible refine HFew.out.mono ?_
    rintro e w3 ⟨rfl, hb3⟩
    clear hld HFew
    go_wp2_with fail
    go_ret
    exact ⟨rfl, below_join hw2 hb3⟩
  | true =>
    rw [hfew] at HFew
    have HSm := Lib.hid (small_few hfew)
    clear hfew
    go_wp2_with (refine ld_any hld rfl _ rfl rfl ?_)
    with_reducible refine HFew.out.mono ?_
    rintro e w3 ⟨rfl, hb3⟩
    have hw3 := below_join hw2 hb3
    have hbx3 := hbx2.below hb3
    have HY3 := Lib.hid (HY2.out.below hb3)
    have hld3 := load_face hbx3
    rw [hfv.out] at hld3
    have HG1 := Lib.hid (few18_any A1 k1 L1 w3 (heads_row hw3.size (HR1.out.mono hw3)) hl1)
    clear hld HFew hb3 hw2 hbx2 HY2
    cases hf1 : few18 L1 with
    | false =>
      rw [hf1] at HG1
      clear hf1
      go_wp2_with fail
      with_reducible refine HG1.out.mono ?_
      rintro e w4 ⟨rfl, rfl⟩
      clear HG1
      go_wp2_with fail
      go_ret
      exact ⟨rfl, hw3⟩
    | true =>
      rw [hf1] at HG1
      have HL1 := Lib.hid (few18_all.1 hf1)
      clear hf1
      go_wp2_with fail
      with_reducible refine HG1.out.mono ?_
      rintro e w4 ⟨rfl, rfl⟩
      clear HG1
      have y4 : w3.cell? ⟨g + 1, 4, none⟩ = some (.slice As l.shape.length cs) := HY3.out.cell 4 rfl
      by_cases hsh : 100 < (l.shape.length : Int)
      · have F1 : (100 < (l.shape.length : Int)) = True := eq_true hsh
        clear hsh
        go_wp2_with fail
        go_ret
        exact ⟨rfl, hw3⟩
      · have F1 : (100 < (l.shape.length : Int)) = False := eq_false hsh
        have HSh : Hid (l.shape.length ≤ 100) := Lib.hid (by omega)
        clear hsh
        have HNw := Lib.hid (new_any d a w3 hw3.size (HF.out.mono hw3) HSm.out)
        rw [hfv.out] at HNw
        go_wp2_with (refine ld_any hld3 rfl _ rfl rfl ?_)
        with_reducible refine HNw.out.mono ?_
        rintro e w6 ⟨hno, hyes, hb6⟩
        have hw6 := below_join hw3 hb6
        have HY6 := Lib.hid (HY3.out.below hb6)
        have HX6 := Lib.hid (hbx3.below hb6)
        have hg3 : g + 1 < w3.heap.size := HY3.out.lt
        clear hld3 HNw hb6 hbx3 y4 HY3
        cases hfb : faceB d with
        | false =>
          obtain rfl := hno hfb
          clear hno hyes hfb
          go_wp2_with fail
          go_ret
          exact ⟨rfl, hw6⟩
        | true =>
          obtain ⟨r, m, a', rfl, hR, hm1, hmr⟩ := hyes hfb
          have HFB := Lib.hid hfb
          clear hno hyes hfb
          have hm6 := hR.lt
          have hwm : w.heap.size ≤ m := Nat.le_trans hw3.size hm1
          have hgm : g + 1 < m := Nat.lt_of_lt_of_le hg3 hm1
          have HLd := Lib.hid (lay_load HY6.out)
          obtain ⟨lv, hlv⟩ : ∃ lv, Hid ((Value.agg (layCells l As cs)) = lv) := ⟨_, Lib.hid rfl⟩
          have hld6 := HLd.out
          rw [hlv.out] at hld6
          by_cases hE : lineE d l L1 long ex = 0
          · have HLn := Lib.hid (line_main d a' r m 0 l As cs A1 k1 L1 long last ex w6 HFB.out hR hR.box.lt (B := w.heap.size) hw6.size (HL.out.mono hw6) (HR1.out.mono hw6) (by have := HL1.out.1; omega) (fun x hx => by have := HL1.out.2 x hx; omega) hE (by omega))
            rw [hlv.out] at HLn
            have HE := Lib.hid hE
            obtain ⟨lev, hv1, hv2, hX⟩ := lineF_at HFB.out (last := last) hE
            have hA : allE d.font L1 = 0 := by
              by_cases h : allE d.font L1 = 0
              · exact h
              · rw [lineE, if_neg h] at hE; exact absurd hE h
            have hlb : layB l = true := by
              cases h : layB l with
              | true => rfl
              | false => rw [lineE, if_pos hA, h] at hE; simp at hE
            have hrange : ¬ (long < 1 ∨ 67108864 < long ∨ ex < 0 ∨ 67108864 < ex) := fun h => by
              rw [lineE, if_pos hA, hlb, if_pos rfl, if_pos h] at hE; simp at hE
            have hrg : (1 ≤ long ∧ long ≤ 67108864) ∧ 0 ≤ ex ∧ ex ≤ 67108864 := by omega
            obtain ⟨hmay, hallG, hgly⟩ := gly_ok hA
            obtain ⟨hj1, ⟨a1, a2⟩, ⟨a3, a4⟩, ⟨a5, a6⟩, hj5, hj6, hj7⟩ := gap_ok HFB.out hlb hgly (long := long) (ex := ex) hrg.1 hrg.2 lev
            obtain ⟨s1, s2, s3, s4, s5⟩ := judge_sound (last := last) hj1
            have hGl : (L1.map (setG d.font)).length = L1.length := List.length_map ..
            obtain ⟨G, hG⟩ : ∃ G, L1.map (setG d.font) = G := ⟨_, rfl⟩
            rw [hG] at hX hallG hgly hj1 hj5 hj6 hj7 s1 s2 s3 s4 s5 hGl
            have hgm1 := hgly.one
            have hgm2 := hgly.most
            rw [hX] at HLn
            -- names
            obtain ⟨NT, hNT⟩ : ∃ v, wideS d l.space G lev = v := ⟨_, rfl⟩
            obtain ⟨LE, hLE⟩ : ∃ v, (tellS d 2 (headG G) lev).1 = v := ⟨_, rfl⟩
            obtain ⟨RI, hRI⟩ : ∃ v, (tellS d 3 (lastG G) lev).1 = v := ⟨_, rfl⟩
            obtain ⟨GAP, hGAP⟩ : ∃ v, long + LE + RI - NT = v := ⟨_, rfl⟩
            have hGA : gapAt d l G long lev = GAP := by rw [gapAt, hNT, hLE, hRI, hGAP]
            obtain ⟨CL, hCL⟩ : ∃ v, fitP (judgeAt d l G long last ex lev).1 (decide (gapAt d l G long lev < 0)) = v := ⟨_, rfl⟩
            have hJA : judgeAt d l G long last ex lev = judgeP (gapAt d l G long lev) (l.stretch * ((G.length : Int) - 1)) (l.shrink * ((G.length : Int) - 1)) ex last := rfl
            have hFA : fitAt d l G long last ex lev = { level := lev, nat := NT, left := LE, right := RI, bad := (judgeAt d l G long last ex lev).1, cls := CL, unset := (judgeAt d l G long last ex lev).2.1, defect := (judgeAt d l G long last ex lev).2.2 } := by rw [fitAt, hCL, hNT, hLE, hRI]
            obtain ⟨nn, hnn⟩ : ∃ nn : Int, (G.length : Int) - 1 = nn := ⟨_, rfl⟩
            rw [← hJA] at s1 s2 s3 s4 s5
            obtain ⟨BD, hBD⟩ : ∃ v, (judgeAt d l G long last ex lev).1 = v := ⟨_, rfl⟩
            obtain ⟨US, hUS⟩ : ∃ v, (judgeAt d l G long last ex lev).2.1 = v := ⟨_, rfl⟩
            obtain ⟨DF, hDF⟩ : ∃ v, (judgeAt d l G long last ex lev).2.2 = v := ⟨_, rfl⟩
            rw [hBD, hUS, hDF] at hFA
            rw [hBD] at s3 s4 s5
            rw [hUS] at s1 s2
            rw [hDF] at s2
            rw [hGA, hnn] at s1 hj1
            rw [hGA] at s3
            rw [hFA] at HLn
            rw [hLE] at hj5
            rw [hRI] at hj6
            rw [hNT] at hj7
            obtain ⟨ST, hST⟩ : ∃ v, l.stretch * nn = v := ⟨_, rfl⟩
            obtain ⟨SH, hSH⟩ : ∃ v, l.shrink * nn = v := ⟨_, rfl⟩
            rw [hST, hSH] at s1 hj1
            obtain ⟨jo1, jo2, jo3, jo4⟩ := hj1
            have hnb : 0 ≤ nn ∧ nn ≤ 99 := by omega
            have w1e : wrap64 (long + LE) = long + LE := wrap64_at (by omega)
            have w2e : wrap64 (long + LE + RI) = long + LE + RI := wrap64_at (by omega)
            have w3e : wrap64 (long + LE + RI - NT) = GAP := by rw [wrap64_at (by omega)]; exact hGAP
            have w1f : IntKind.i64.wrap (long + LE) = long + LE := wrap_at (by omega)
            have w2f : IntKind.i64.wrap (long + LE + RI) = long + LE + RI := wrap_at (by omega)
            have w3f : IntKind.i64.wrap (long + LE + RI - NT) = GAP := by rw [wrap_at (by omega)]; exact hGAP
            have n1e : wrap64 ((L1.length : Int) - 1) = nn := by rw [← hGl, hnn]; exact wrap64_at (by omega)
            have n1f : IntKind.i64.wrap ((L1.length : Int) - 1) = nn := by rw [← hGl, hnn]; exact wrap_at (by omega)
            have n2e : wrap64 (-nn) = -nn := wrap64_at (by omega)
            have n2f : IntKind.i64.wrap (-nn) = -nn := wrap_at (by omega)
            have hSH' : -nn * l.shrink = -SH := by rw [← hSH, Int.neg_mul, Int.mul_comm]
            have hST' : nn * l.stretch = ST := by rw [← hST, Int.mul_comm]
            have n3e : wrap64 (-nn * l.shrink) = -SH := by rw [hSH']; exact wrap64_at (by omega)
            have n3f : IntKind.i64.wrap (-nn * l.shrink) = -SH := by rw [hSH']; exact wrap_at (by omega)
            have n4e : wrap64 (nn * l.stretch) = ST := by rw [hST']; exact wrap64_at (by omega)
            have n4f : IntKind.i64.wrap (nn * l.stretch) = ST := by rw [hST']; exact wrap_at (by omega)
            have HN := Lib.hid hNT
            have HGy := Lib.hid hgly
            have HAl := Lib.hid (And.intro hA (And.intro hallG hlb))
            have HS1 := Lib.hid s1
            have HS2 := Lib.hid s2
            have HS3 := Lib.hid (And.intro s3 (And.intro s4 s5))
            have HV := Lib.hid (And.intro hv1 hv2)
            have HGl := Lib.hid hGl
            clear hSH' hST' hSH hST hNT hgly hA hallG hlb s1 s2 s3 s4 s5 hv1 hv2 hBD hUS hDF hFA hJA hCL hGA hGAP hLE hRI hX hG hmay hrange hrg a1 a2 a3 a4 a5 a6 jo1 jo2 jo3 jo4 hj5 hj6 hj7 hnn hgm1 hgm2 HE hE hGl
            go_wp2_with (refine ld_any hld6 rfl _ rfl rfl ?_)
            with_reducible refine HLn.out.mono ?_
            rintro e w7 ⟨rfl, hR7, hO7⟩
            have HR7 := Lib.hid hR7
            have hw7 := Off.below hw6 hO7 hwm hw6.size
            have HX7 := Lib.hid (hO7.box HX6.out (show g ≠ m by omega))
            have HY7 := Lib.hid (hO7.box HY6.out (show g + 1 ≠ m by omega))
            have hbz := Box.new w7 #[.int .i64 lev, .int .i64 NT, .int .i64 LE, .int .i64 RI, .int .i64 BD, .int .i64 CL, .bool US, .int .i64 DF] 42
            clear hld6 HLn hR7 hO7
            have hb8 := below_alloc (Below.refl w7.heap.size w7) (.cells #[.int .i64 lev, .int .i64 NT, .int .i64 LE, .int .i64 RI, .int .i64 BD, .int .i64 CL, .bool US, .int .i64 DF] 42)
            go_upto_region 10 with fail
            have hzm : w7.heap.size ≠ m := by have := HR7.out.lt; omega
            obtain ⟨W8, hW8⟩ : ∃ W8, w7.alloc (.cells #[.int .i64 lev, .int .i64 NT, .int .i64 LE, .int .i64 RI, .int .i64 BD, .int .i64 CL, .bool US, .int .i64 DF] 42) = W8 := ⟨_, rfl⟩
            rw [hW8] at hbz hb8 ⊢
            obtain ⟨z, hz⟩ : ∃ z, w7.heap.size = z := ⟨_, rfl⟩
            have HR8 := Lib.hid (HR7.out.off hb8)
            have hw8 := below_join hw7 hb8
            have HX8 := HX7.out.below hb8
            have HY8 := HY7.out.below hb8
            have HG := Lib.hid (glyphs_any d a' r m _ A1 k1 L1 W8 HR8.out (B := w.heap.size) hw8.size (HR1.out.mono hw8) (by have := HL1.out.1; omega) (fun x hx => by have := HL1.out.2 x hx; omega))
            rw [HAl.out.1, HAl.out.2.1] at HG
            rw [hz] at hbz hzm ⊢
            have hw7s := hw7.size
            clear HX7 HY7 HR7 hb8 hw7 hW8
            go_wp2_with fail
            with_reducible refine HG.out.mono ?_
            rintro e w9 ⟨Ag, cg, rfl, hgg, hb9⟩
            have HR9 := Lib.hid (HR8.out.off hb9)
            have HW9 := Lib.hid (below_join hw8 hb9)
            have HX9 := Lib.hid (HX8.below hb9)
            have HY9 := Lib.hid (HY8.below hb9)
            have HZ9 := Lib.hid (hbz.below hb9)
            have HQm : Hid (∀ b, W8.heap.size ≤ b → b ≠ m) := Lib.hid (fun b hb => by have := HR8.out.lt; omega)
            have HGG := Lib.hid hgg
            have z0 := HZ9.out.cell 0 rfl
            have z1 := HZ9.out.cell 1 rfl
            have z2 := HZ9.out.cell 2 rfl
            have z3 := HZ9.out.cell 3 rfl
            have y2 := HY9.out.cell 2 rfl
            have y3 := HY9.out.cell 3 rfl
            clear HG hgg hb9 hbz HX8 HY8 HR8 hw8
            go_upto_region 13 with fail
            go_cut [22] (fun v wx => v = .bool US ∧ wx = w9)
            case first =>
              have hs1 := HS1.out
              by_cases q1 : GAP < -SH
              · have F1 : (GAP < -SH) = True := eq_true q1
                obtain rfl : US = true := hs1.2 (.inl q1)
                clear hs1 q1
                go_wp2_with fail
                go_meet
                exact ⟨rfl, rfl⟩
              · have F1 : (GAP < -SH) = False := eq_false q1
                by_cases q2 : 0 < GAP
                · have F2 : (0 < GAP) = True := eq_true q2
                  by_cases q4 : 1073741823 < GAP
                  · have F4 : (1073741823 < GAP) = True := eq_true q4
                    by_cases q3 : ST = 0
                    · have F3 : (ST == 0) = true := by simpa using q3
                      cases last with
                      | false =>
                        obtain rfl : US = true := hs1.2 (.inr (.inr ⟨q4, rfl⟩))
                        clear hs1 q1 q2 q3 q4
                        go_wp2_with fail
                        go_meet
                        exact ⟨rfl, rfl⟩
                      | true =>
                        obtain rfl : US = false := by
                          cases US with
                          | false => rfl
                          | true => exact absurd (hs1.1 rfl) (by simp; omega)
                        clear hs1 q1 q2 q3 q4
                        go_wp2_with fail
                        go_meet
                        exact ⟨rfl, rfl⟩
                    · have F3 : (ST == 0) = false := by simpa using q3
                      cases last with
                      | false =>
                        obtain rfl : US = true := hs1.2 (.inr (.inr ⟨q4, rfl⟩))
                        clear hs1 q1 q2 q3 q4
                        go_wp2_with fail
                        go_meet
                        exact ⟨rfl, rfl⟩
                      | true =>
                        obtain rfl : US = false := by
                          cases US with
                          | false => rfl
                          | true => exact absurd (hs1.1 rfl) (by simp; omega)
                        clear hs1 q1 q2 q3 q4
                        go_wp2_with fail
                        go_meet
                        exact ⟨rfl, rfl⟩
                  · have F4 : (1073741823 < GAP) = False := eq_false q4
                    by_cases q3 : ST = 0
                    · have F3 : (ST == 0) = true := by simpa using q3
                      cases last with
                      | false =>
                        obtain rfl : US = true := hs1.2 (.inr (.inl ⟨q2, q3, rfl⟩))
                        clear hs1 q1 q2 q3 q4
                        go_wp2_with fail
                        go_meet
                        exact ⟨rfl, rfl⟩
                      | true =>
                        obtain rfl : US = false := by
                          cases US with
                          | false => rfl
                          | true => exact absurd (hs1.1 rfl) (by simp; omega)
                        clear hs1 q1 q2 q3 q4
                        go_wp2_with fail
                        go_meet
                        exact ⟨rfl, rfl⟩
                    · have F3 : (ST == 0) = false := by simpa using q3
                      obtain rfl : US = false := by
                        cases US with
                        | false => rfl
                        | true => exact absurd (hs1.1 rfl) (by simp; omega)
                      clear hs1 q1 q2 q3 q4
                      go_wp2_with fail
                      go_meet
                      exact ⟨rfl, rfl⟩
                · have F2 : (0 < GAP) = False := eq_false q2
                  have F4 : (1073741823 < GAP) = False := eq_false (by omega)
                  obtain rfl : US = false := by
                    cases US with
                    | false => rfl
                    | true => exact absurd (hs1.1 rfl) (by simp; omega)
                  clear hs1 q1 q2
                  go_wp2_with fail
                  go_meet
                  exact ⟨rfl, rfl⟩
            case rest =>
            rename World => wx
            obtain ⟨rfl, hwx⟩ := hcut
            replace hwx := hwx.symm
            subst hwx
            obtain ⟨_, _, _, ⟨u1, u2⟩, ⟨v1, v2⟩, _⟩ := face_ok HFB.out
            have z6 := HZ9.out.cell 6 rfl
            have z7 := HZ9.out.cell 7 rfl
            have y1 := HY9.out.cell 1 rfl
            have x13 := HX9.out.cell 13 rfl
            have x14 := HX9.out.cell 14 rfl
            have d1 : wrap64 (-d.down) = -d.down := wrap64_at (by omega)
            have d2 : IntKind.i64.wrap (-d.down) = -d.down := wrap_at (by omega)
            have F5 : (-d.down ≤ lev) = True := eq_true HV.out.1
            have F6 : (lev ≤ d.up) = True := eq_true HV.out.2
            have F7 : (0 ≤ BD) = True := eq_true HS3.out.2.1
            have F8 : (BD ≤ 10000) = True := eq_true HS3.out.2.2
            have F9 : ((DF == 0) == !US) = true := by
              have h := HS2.out
              cases US with
              | false => have h0 : DF = 0 := h.2 rfl; subst h0; rfl
              | true =>
                have h0 : ¬ DF = 0 := fun e => by have := h.1 e; simp at this
                have h1 : (DF == 0) = false := by simpa using h0
                rw [h1]; rfl
            have F10 : (US == US) = true := by simp
            have hV := HV.out
            have C1 : Hid (∀ V, Below w9.heap.size w9 V → _) := Lib.hid (fun V hb => wide_c (cg := cg) (sp := l.space) (w := V) HFB.out (HR9.out.off hb) HQm.out (HGG.out.below hb) HGy.out (wf64 (show -9223372036854775808 ≤ lev ∧ lev ≤ 9223372036854775807 by omega)) (by omega) HN.out)
            have C2 : Hid (∀ V, Off m w9 V → _) := Lib.hid (fun V hb => layr_any l As cs V (B := w.heap.size) (Nat.le_trans HW9.out.size hb.size) (HL.out.mono (Off.below HW9.out hb hwm HW9.out.size)) (by have := HSh.out; omega))
            rw [HAl.out.2.2] at C2
            rw [hlv.out] at C2
            have HLd9 : Hid (∀ w', Off m w9 w' → _) := Lib.hid (fun w' h => lay_load (h.box HY9.out (show g + 1 ≠ m by omega)))
            rw [hlv.out] at HLd9
            have HK : Hid (∀ w', Off m w9 w' → (Off m w9 w' ∧ w'.cell? ⟨z, 0, none⟩ = some (.int .i64 lev) ∧ w'.cell? ⟨z, 1, none⟩ = some (.int .i64 NT) ∧ w'.cell? ⟨z, 4, none⟩ = some (.int .i64 BD) ∧ w'.cell? ⟨z, 6, none⟩ = some (.bool US) ∧ w'.cell? ⟨z, 7, none⟩ = some (.int .i64 DF) ∧ w'.cell? ⟨g, 13, none⟩ = some (.int .i64 d.up) ∧ w'.cell? ⟨g, 14, none⟩ = some (.int .i64 d.down) ∧ w'.cell? ⟨g + 1, 1, none⟩ = some (.int .i64 l.space))) := Lib.hid (fun w' h => ⟨h, (h.box HZ9.out hzm).cell 0 rfl, (h.box HZ9.out hzm).cell 1 rfl, (h.box HZ9.out hzm).cell 4 rfl, (h.box HZ9.out hzm).cell 6 rfl, (h.box HZ9.out hzm).cell 7 rfl, (h.box HX9.out (show g ≠ m by omega)).cell 13 rfl, (h.box HX9.out (show g ≠ m by omega)).cell 14 rfl, (h.box HY9.out (show g + 1 ≠ m by omega)).cell 1 rfl⟩)
            have hsz9 := HW9.out.size
            have hq : ∀ w', Off m w9 w' → Below w.heap.size w w' := fun w' h => Off.below HW9.out h hwm hsz9
            with_reducible apply_assumption
            by_cases ql : last = false
            · refine sound_r1 r m g z G.length cg Ag ex lev NT BD DF GAP nn d.up d.down l.space US last lv w9 HK (Lib.hid fun V h => (C1.out V h).mono (fun e w' q => ⟨q.1, q.2.2⟩)) C2 HLd9 d1 d2 F5 F6 F7 F8 F9 F10 ql _ _ _ _ _ _ _ _ _ _ _ _ _ _ _ _ _ _ _ _ _ _ _ _ _ _ _ _ _ _ _ _ _ _ _ _ _ _ _ _ _ _ _ _ _ _ _ _ _ _ _ _ _ _ _ _ _ _ _ _ _ _ _ _ _ _ _ _ _ _ _ _ _ _ _ _ _ _ _ _ _ _ _ _ _ _ _ _ _ _ _ _ _ _ _ _ _ _ _ _ _ _ _ _ _ _ _ _ _ _ _ _ _ _ _ _ _ _ _ _ _ _ _ _ _ _ _ _ _ _ _ _ _ _ _ _ _ _ _ _ _ _ _ _ _ _ _ _ _ _ _ _ _ _ _ _ _ _ _ _ _ _ _ _ _ _ _ _ _ _ _ _ _ _ _ _ _ _ _ _ _ (Lib.hid post_pan) ?_
              intro t w' h6 hb
              exact bodyPost_ret (results_tmp rfl _ _ _) rfl ⟨by rw [h6], hq w' hb⟩
            · have ql' : last = true := by simpa using ql
              by_cases qg : GAP < 0
              · refine sound_r2 r m g z G.length cg Ag ex lev NT BD DF GAP nn d.up d.down l.space US last lv w9 HK (Lib.hid fun V h => (C1.out V h).mono (fun e w' q => ⟨q.1, q.2.2⟩)) C2 HLd9 d1 d2 F5 F6 F7 F8 F9 F10 ql' (eq_true qg) _ _ _ _ _ _ _ _ _ _ _ _ _ _ _ _ _ _ _ _ _ _ _ _ _ _ _ _ _ _ _ _ _ _ _ _ _ _ _ _ _ _ _ _ _ _ _ _ _ _ _ _ _ _ _ _ _ _ _ _ _ _ _ _ _ _ _ _ _ _ _ _ _ _ _ _ _ _ _ _ _ _ _ _ _ _ _ _ _ _ _ _ _ _ _ _ _ _ _ _ _ _ _ _ _ _ _ _ _ _ _ _ _ _ _ _ _ _ _ _ _ _ _ _ _ _ _ _ _ _ _ _ _ _ _ _ _ _ _ _ _ _ _ _ _ _ _ _ _ _ _ _ _ _ _ _ _ _ _ _ _ _ _ _ _ _ _ _ _ _ _ _ _ _ _ _ _ _ _ _ _ (Lib.hid post_pan) ?_
                intro t w' h6 hb
                exact bodyPost_ret (results_tmp rfl _ _ _) rfl ⟨by rw [h6], hq w' hb⟩
              · refine sound_r3 r m g z G.length cg Ag ex lev NT BD DF GAP nn d.up d.down l.space US last lv w9 HK (Lib.hid fun V h => (C1.out V h).mono (fun e w' q => ⟨q.1, q.2.2⟩)) C2 HLd9 d1 d2 F5 F6 F7 F8 F9 F10 ql' (eq_false qg) (by have h0 := HS3.out.1 ql' (by omega); simpa using h0) _ _ _ _ _ _ _ _ _ _ _ _ _ _ _ _ _ _ _ _ _ _ _ _ _ _ _ _ _ _ _ _ _ _ _ _ _ _ _ _ _ _ _ _ _ _ _ _ _ _ _ _ _ _ _ _ _ _ _ _ _ _ _ _ _ _ _ _ _ _ _ _ _ _ _ _ _ _ _ _ _ _ _ _ _ _ _ _ _ _ _ _ _ _ _ _ _ _ _ _ _ _ _ _ _ _ _ _ _ _ _ _ _ _ _ _ _ _ _ _ _ _ _ _ _ _ _ _ _ _ _ _ _ _ _ _ _ _ _ _ _ _ _ _ _ _ _ _ _ _ _ _ _ _ _ _ _ _ _ _ _ _ _ _ _ _ _ _ _ _ _ _ _ _ _ _ _ _ _ _ _ (Lib.hid post_pan) ?_
                intro t w' h6 hb
                exact bodyPost_ret (results_tmp rfl _ _ _) rfl ⟨by rw [h6], hq w' hb⟩
          · have HLn := Lib.hid (line_head d a' r m 0 l As cs A1 k1 L1 long last ex w6 HFB.out hR (B := w.heap.size) hw6.size (HL.out.mono hw6) (HR1.out.mono hw6) (by have := HL1.out.1; omega) (fun x hx => by have := HL1.out.2 x hx; omega) hE)
            rw [hlv.out] at HLn
            have F2 : (lineE d l L1 long ex != 0) = true := by simpa using hE
            generalize lineE d l L1 long ex = E at *
            clear hE
            go_wp2_with (refine ld_any hld6 rfl _ rfl rfl ?_)
            with_reducible refine HLn.out.mono ?_
            rintro e w7 ⟨rfl, hb7⟩
            go_wp2_with fail
            go_ret
            exact ⟨rfl, below_alloc (below_join hw6 hb7) _⟩
end Go.Proofs.Ytndpdbofoojkhaa.Ft
