/- The reference: a line (Line). -/
import Derived.Test.YtndpdbofoojkhaaGreatFit38
import Derived.Test.YtndpdbofoojkhaaGreatFit28
namespace Go.Proofs.YtndpdbofoojkhaaGreat.Ft
open Go.RowKit Go.Proofs.YtndpdbofoojkhaaGreat.Kit Go.Proofs.YtndpdbofoojkhaaGreat.Fo Go.Proofs.YtndpdbofoojkhaaGreat.Lv
set_option linter.unusedVariables false
set_option linter.unusedSimpArgs false

theorem LayIn.on {w w' : World} {B : Nat} {l : LayD} {A : Option Addr} (h : LayIn w B l A) (hb : Below B w w') : LayIn w' B l A := ⟨h.row.mono hb, h.wf, h.each, h.len⟩
set_option maxRecDepth 100000 in
set_option maxHeartbeats 8000000 in
theorem rline_any (d : FaceD) (a : FaceA) (l : LayD) (As : Option Addr) (cs : Nat) (Ap : Option Addr) (c : Nat) (P : List (List Int)) (long : Int) (last : Bool) (ex : Int) (w : World) {B : Nat} (hB : B ≤ w.heap.size) (hF : FaceIn w B d a) (hf : faceB d = true) (hL : LayIn w B l As) (hsm : l.shape.length ≤ 100000) (hx : Row (Rep.int .i64).slice w B Ap P) (hl : P.length ≤ 1000) (hs : ∀ x ∈ P, x.length ≤ 1000) :
    Calls Tryz.prog 12 #[faceV d a, .agg (layCells l As cs), .slice Ap P.length c, .int .i64 long, .bool last, .int .i64 ex] w fun e w' => e = .returned (.tuple #[fitV (lineF d l P long last ex), .int .i64 (lineE d l P long ex)]) ∧ Below w.heap.size w w' := by
  have hb0 := ((Box.new w (faceCells d a) 29).alloc (.cells (layCells l As cs) 32)).alloc (.cells zF 46)
  have hb1 := (Box.new (w.alloc (.cells (faceCells d a) 29)) (layCells l As cs) 32).alloc (.cells zF 46)
  have hb2 := Box.new ((w.alloc (.cells (faceCells d a) 29)).alloc (.cells (layCells l As cs) 32)) zF 46
  have hbw := below_alloc (below_alloc (below_alloc (Below.refl w.heap.size w) (.cells (faceCells d a) 29)) (.cells (layCells l As cs) 32)) (.cells zF 46)
  simp only [World.size_alloc] at hb1 hb2
  obtain ⟨W1, hW⟩ : ∃ W1, ((w.alloc (.cells (faceCells d a) 29)).alloc (.cells (layCells l As cs) 32)).alloc (.cells zF 46) = W1 := ⟨_, rfl⟩
  have hs1 : W1.heap.size = w.heap.size + 3 := by rw [← hW]; simp
  rw [hW] at hb0 hb1 hb2 hbw
  have HFF : Hid (∀ V, Below w.heap.size w V → FaceIn V B d a) := Lib.hid fun V hb => hF.mono (hb.mono hB)
  obtain ⟨fv, hfv⟩ : ∃ fv, Hid (faceV d a = fv) := ⟨_, Lib.hid rfl⟩
  obtain ⟨lv, hlv⟩ : ∃ lv, Hid ((Value.agg (layCells l As cs)) = lv) := ⟨_, Lib.hid rfl⟩
  have HLd : Hid (∀ V, Below W1.heap.size W1 V → (Instr.loadAt 29 (.pointer (some ⟨w.heap.size, 0, none⟩))).run Tryz.prog V = .ok fv V) := Lib.hid fun V hb => by
    rw [← hfv.out]
    exact load_face (hb0.below hb)
  have HLl : Hid (∀ V, Below W1.heap.size W1 V → (Instr.loadAt 32 (.pointer (some ⟨w.heap.size + 1, 0, none⟩))).run Tryz.prog V = .ok lv V) := Lib.hid fun V hb => by
    rw [← hlv.out]
    exact lay_load (hb1.below hb)
  have HGl := Lib.hid (rglyphs_any d a Ap c P W1 (B := B) (by omega) (HFF.out W1 hbw) (face_ok hf).1 (hx.mono (hbw.mono hB)) hl hs)
  have HCk : Hid (∀ V, Below w.heap.size w V → Calls Tryz.prog 29 #[lv] V fun e w' => e = .returned (.bool (layB l)) ∧ Below V.heap.size V w') := Lib.hid fun V hb => by
    rw [← hlv.out]
    exact layr_any l As cs V (B := B) (Nat.le_trans hB hb.size) (hL.on (hb.mono hB)) hsm
  obtain ⟨E, hE⟩ : ∃ E, Hid (lineE d l P long ex = E) := ⟨_, Lib.hid rfl⟩
  obtain ⟨X, hX⟩ : ∃ X, Hid (lineF d l P long last ex = X) := ⟨_, Lib.hid rfl⟩
  obtain ⟨A0, hA0⟩ : ∃ A0, Hid (allE d.font P = A0) := ⟨_, Lib.hid rfl⟩
  have HXz : Hid (E ≠ 0 → X = fitZ) := Lib.hid (fun h => by rw [← hX.out, lineF, hE.out, if_neg h])
  have HE : Hid (E = if A0 = 0 then (if layB l then (if long < 1 ∨ 67108864 < long ∨ ex < 0 ∨ 67108864 < ex then 1 else 0) else 140) else A0) := Lib.hid (by rw [← hE.out, lineE, hA0.out])
  have HBest : Hid (∀ V Ag cg (b0 : Nat), Below w.heap.size w V → A0 = 0 → layB l = true → (1 ≤ long ∧ long ≤ 67108864) → (0 ≤ ex ∧ ex ≤ 67108864) → GG (fun b => b0 ≤ b) V Ag (allG d.font P) → Calls Tryz.prog 30 #[fv, lv, .slice Ag (allG d.font P).length cg, .int .i64 long, .bool last, .int .i64 ex] V fun e w' => e = .returned (fitV X) ∧ Below V.heap.size V w') := Lib.hid fun V Ag cg b0 hb h0 hlb h1 h2 hgg => by
    have hga := gly_ok (d := d.font) (P := P) (by rw [hA0.out]; exact h0)
    have he : E = 0 := by rw [HE.out, if_pos h0, if_pos hlb, if_neg (by omega)]
    have hx2 : (bestN (fun k => fitAt d l (P.map (setG d.font)) long last ex (-d.down + k)) (levN d)).getD fitZ = X := by rw [← hX.out, lineF, hE.out, if_pos he]
    rw [← hfv.out, ← hlv.out, ← hx2, hga.2.1]
    rw [hga.2.1] at hgg
    exact rbest_any d a l As cs Ag cg _ long last ex V (B := B) (Nat.le_trans hB hb.size) (HFF.out V hb) hf hlb hgg hga.2.2 h1 h2
  rw [hE.out, hX.out]
  rw [hA0.out] at HGl
  obtain ⟨GL, hGL⟩ : ∃ GL, Hid (allG d.font P = GL) := ⟨_, Lib.hid rfl⟩
  rw [hGL.out] at HGl HBest
  have hld := HLd.out W1 (Below.refl _ _)
  have HLl' := HLl
  have HR2 := Lib.hid hb2
  have HBW := Lib.hid hbw
  rw [hfv.out] at HGl
  clear hF hf hL hx hl hs hb0 hb1 hb2 hE hX hA0 hGL hsm
  go_enter Tryz.func12, Tryz.ntmps12
  go_wp2_with (refine ld_any hld rfl _ rfl rfl ?_)
  with_reducible refine HGl.out.mono ?_
  rintro e w2 ⟨Ag, cg, rfl, hgg, hb2⟩
  have HB2 := Lib.hid (below_join HBW.out hb2)
  have H12 := Lib.hid hb2
  have hr2 := HR2.out.below hb2
  have HR2' := Lib.hid hr2
  have HGG := Lib.hid hgg
  have hs2 := hb2.size
  clear hW hld HGl hbw hb2 hgg
  by_cases h0 : A0 = 0
  · have F0 : (A0 != 0) = false := by simpa using h0
    have hll := HLl.out w2 H12.out
    have HC2 := Lib.hid (HCk.out w2 HB2.out)
    have HE2 : Hid (E = if layB l then (if long < 1 ∨ 67108864 < long ∨ ex < 0 ∨ 67108864 < ex then 1 else 0) else 140) := Lib.hid (by rw [HE.out, if_pos h0])
    have HB2' : Hid (∀ V, Below w2.heap.size w2 V → _) := Lib.hid fun V (hb : Below w2.heap.size w2 V) => HBest.out V Ag cg W1.heap.size (below_join HB2.out hb) h0
    clear h0 HCk HBest HE
    go_wp2_with (refine ld_any hll rfl _ rfl rfl ?_)
    with_reducible refine HC2.out.mono ?_
    rintro e w3 ⟨rfl, hb3⟩
    have HB3 := Lib.hid (below_join HB2.out hb3)
    have H23 := Lib.hid hb3
    have hr3 := HR2'.out.below hb3
    have HR3 := Lib.hid hr3
    have hs3 := hb3.size
    clear hll HC2 hb3 hr2
    have rc0 : w3.cell? ⟨w.heap.size + 1 + 1, 0, none⟩ = some (.int .i64 0) := hr3.cell 0 rfl
    have rc1 : w3.cell? ⟨w.heap.size + 1 + 1, 1, none⟩ = some (.int .i64 0) := hr3.cell 1 rfl
    have rc2 : w3.cell? ⟨w.heap.size + 1 + 1, 2, none⟩ = some (.int .i64 0) := hr3.cell 2 rfl
    have rc3 : w3.cell? ⟨w.heap.size + 1 + 1, 3, none⟩ = some (.int .i64 0) := hr3.cell 3 rfl
    have rc4 : w3.cell? ⟨w.heap.size + 1 + 1, 4, none⟩ = some (.int .i64 0) := hr3.cell 4 rfl
    have rc5 : w3.cell? ⟨w.heap.size + 1 + 1, 5, none⟩ = some (.int .i64 0) := hr3.cell 5 rfl
    have rc6 : w3.cell? ⟨w.heap.size + 1 + 1, 6, none⟩ = some (.bool false) := hr3.cell 6 rfl
    have rc7 : w3.cell? ⟨w.heap.size + 1 + 1, 7, none⟩ = some (.int .i64 0) := hr3.cell 7 rfl
    have rf0 := hr3.free 0
    have rf1 := hr3.free 1
    have rf2 := hr3.free 2
    have rf3 := hr3.free 3
    have rf4 := hr3.free 4
    have rf5 := hr3.free 5
    have rf6 := hr3.free 6
    have rf7 := hr3.free 7
    clear hr3
    cases hlb : layB l with
    | false =>
      have HV : Hid (E = 140 ∧ X = fitZ) := Lib.hid (by
        have h1 : E = 140 := by rw [HE2.out, hlb]; rfl
        exact ⟨h1, HXz.out (by rw [h1]; decide)⟩)
      clear hlb HB2' HE2
      go_wp2_with fail
      have b8 := fit_set8 HR3.out (b0 := .int .i64 0) (b1 := .int .i64 0) (b2 := .int .i64 0) (b3 := .int .i64 0) (b4 := .int .i64 0) (b5 := .int .i64 0) (b6 := .bool false) (b7 := .int .i64 0)
      have q0 := b8.cell 0 rfl
      have q1 := b8.cell 1 rfl
      have q2 := b8.cell 2 rfl
      have q3 := b8.cell 3 rfl
      have q4 := b8.cell 4 rfl
      have q5 := b8.cell 5 rfl
      have q6 := b8.cell 6 rfl
      have q7 := b8.cell 7 rfl
      refine bodyPost_ret (v := .tuple #[fitV fitZ, .int .i64 140]) ?_ rfl ⟨by rw [HV.out.1, HV.out.2], fit_below8 HB3.out (by omega) _ _ _ _ _ _ _ _⟩
      simp [results, Tryz.f12, go_sem, q0, q1, q2, q3, q4, q5, q6, q7, fitZ]
    | true =>
      have HR0 : Hid (¬(long < 1 ∨ 67108864 < long ∨ ex < 0 ∨ 67108864 < ex) → E = 0) := Lib.hid (fun h => by rw [HE2.out, hlb, if_pos rfl, if_neg h])
      have HR1 : Hid ((long < 1 ∨ 67108864 < long ∨ ex < 0 ∨ 67108864 < ex) → E = 1 ∧ X = fitZ) := Lib.hid (fun h => by
        have h1 : E = 1 := by rw [HE2.out, hlb, if_pos rfl, if_pos h]
        exact ⟨h1, HXz.out (by rw [h1]; decide)⟩)
      have HBest : Hid (∀ V, Below w2.heap.size w2 V → _) := Lib.hid fun V (hb : Below w2.heap.size w2 V) => HB2'.out V hb hlb
      clear hlb HB2' HE2
      by_cases r1 : long < 1
      · have F1 := eq_true r1
        have HV : Hid (E = 1 ∧ X = fitZ) := Lib.hid (HR1.out (by omega))
        clear HBest HR0 HR1
        go_wp2_with fail
        have b8 := fit_set8 HR3.out (b0 := .int .i64 0) (b1 := .int .i64 0) (b2 := .int .i64 0) (b3 := .int .i64 0) (b4 := .int .i64 0) (b5 := .int .i64 0) (b6 := .bool false) (b7 := .int .i64 0)
        have q0 := b8.cell 0 rfl
        have q1 := b8.cell 1 rfl
        have q2 := b8.cell 2 rfl
        have q3 := b8.cell 3 rfl
        have q4 := b8.cell 4 rfl
        have q5 := b8.cell 5 rfl
        have q6 := b8.cell 6 rfl
        have q7 := b8.cell 7 rfl
        refine bodyPost_ret (v := .tuple #[fitV fitZ, .int .i64 1]) ?_ rfl ⟨by rw [HV.out.1, HV.out.2], fit_below8 HB3.out (by omega) _ _ _ _ _ _ _ _⟩
        simp [results, Tryz.f12, go_sem, q0, q1, q2, q3, q4, q5, q6, q7, fitZ]
      · have F1 := eq_false r1
        by_cases r2 : 67108864 < long
        · have F2 := eq_true r2
          have HV : Hid (E = 1 ∧ X = fitZ) := Lib.hid (HR1.out (by omega))
          clear HBest HR0 HR1
          go_wp2_with fail
          have b8 := fit_set8 HR3.out (b0 := .int .i64 0) (b1 := .int .i64 0) (b2 := .int .i64 0) (b3 := .int .i64 0) (b4 := .int .i64 0) (b5 := .int .i64 0) (b6 := .bool false) (b7 := .int .i64 0)
          have q0 := b8.cell 0 rfl
          have q1 := b8.cell 1 rfl
          have q2 := b8.cell 2 rfl
          have q3 := b8.cell 3 rfl
          have q4 := b8.cell 4 rfl
          have q5 := b8.cell 5 rfl
          have q6 := b8.cell 6 rfl
          have q7 := b8.cell 7 rfl
          refine bodyPost_ret (v := .tuple #[fitV fitZ, .int .i64 1]) ?_ rfl ⟨by rw [HV.out.1, HV.out.2], fit_below8 HB3.out (by omega) _ _ _ _ _ _ _ _⟩
          simp [results, Tryz.f12, go_sem, q0, q1, q2, q3, q4, q5, q6, q7, fitZ]
        · have F2 := eq_false r2
          by_cases r3 : ex < 0
          · have F3 := eq_true r3
            have HV : Hid (E = 1 ∧ X = fitZ) := Lib.hid (HR1.out (by omega))
            clear HBest HR0 HR1
            go_wp2_with fail
            have b8 := fit_set8 HR3.out (b0 := .int .i64 0) (b1 := .int .i64 0) (b2 := .int .i64 0) (b3 := .int .i64 0) (b4 := .int .i64 0) (b5 := .int .i64 0) (b6 := .bool false) (b7 := .int .i64 0)
            have q0 := b8.cell 0 rfl
            have q1 := b8.cell 1 rfl
            have q2 := b8.cell 2 rfl
            have q3 := b8.cell 3 rfl
            have q4 := b8.cell 4 rfl
            have q5 := b8.cell 5 rfl
            have q6 := b8.cell 6 rfl
            have q7 := b8.cell 7 rfl
            refine bodyPost_ret (v := .tuple #[fitV fitZ, .int .i64 1]) ?_ rfl ⟨by rw [HV.out.1, HV.out.2], fit_below8 HB3.out (by omega) _ _ _ _ _ _ _ _⟩
            simp [results, Tryz.f12, go_sem, q0, q1, q2, q3, q4, q5, q6, q7, fitZ]
          · have F3 := eq_false r3
            by_cases r4 : 67108864 < ex
            · have F4 := eq_true r4
              have HV : Hid (E = 1 ∧ X = fitZ) := Lib.hid (HR1.out (by omega))
              clear HBest HR0 HR1
              go_wp2_with fail
              have b8 := fit_set8 HR3.out (b0 := .int .i64 0) (b1 := .int .i64 0) (b2 := .int .i64 0) (b3 := .int .i64 0) (b4 := .int .i64 0) (b5 := .int .i64 0) (b6 := .bool false) (b7 := .int .i64 0)
              have q0 := b8.cell 0 rfl
              have q1 := b8.cell 1 rfl
              have q2 := b8.cell 2 rfl
              have q3 := b8.cell 3 rfl
              have q4 := b8.cell 4 rfl
              have q5 := b8.cell 5 rfl
              have q6 := b8.cell 6 rfl
              have q7 := b8.cell 7 rfl
              refine bodyPost_ret (v := .tuple #[fitV fitZ, .int .i64 1]) ?_ rfl ⟨by rw [HV.out.1, HV.out.2], fit_below8 HB3.out (by omega) _ _ _ _ _ _ _ _⟩
              simp [results, Tryz.f12, go_sem, q0, q1, q2, q3, q4, q5, q6, q7, fitZ]
            · have F4 := eq_false r4
              have HE0 : Hid (E = 0) := Lib.hid (HR0.out (by omega))
              have hld := HLd.out w3 (below_join H12.out H23.out)
              have hll := HLl.out w3 (below_join H12.out H23.out)
              have HC3 := Lib.hid (HBest.out w3 H23.out (by omega) (by omega) (HGG.out.below H23.out))
              clear HBest HR0 HR1 rc0 rf0 rc1 rf1 rc2 rf2 rc3 rf3 rc4 rf4 rc5 rf5 rc6 rf6 rc7 rf7 r1 r2 r3 r4
              go_wp2_with (first | refine ld_any hld rfl _ rfl rfl ?_ | refine ld_any hll rfl _ rfl rfl ?_)
              with_reducible refine HC3.out.mono ?_
              rintro e w4 ⟨rfl, hb4⟩
              have HB4 := Lib.hid (below_join HB3.out hb4)
              have hr4 := HR3.out.below hb4
              have HR4 := Lib.hid hr4
              have hs4 := hb4.size
              clear hld hll HC3 hb4
              have rc0 : w4.cell? ⟨w.heap.size + 1 + 1, 0, none⟩ = some (.int .i64 0) := hr4.cell 0 rfl
              have rc1 : w4.cell? ⟨w.heap.size + 1 + 1, 1, none⟩ = some (.int .i64 0) := hr4.cell 1 rfl
              have rc2 : w4.cell? ⟨w.heap.size + 1 + 1, 2, none⟩ = some (.int .i64 0) := hr4.cell 2 rfl
              have rc3 : w4.cell? ⟨w.heap.size + 1 + 1, 3, none⟩ = some (.int .i64 0) := hr4.cell 3 rfl
              have rc4 : w4.cell? ⟨w.heap.size + 1 + 1, 4, none⟩ = some (.int .i64 0) := hr4.cell 4 rfl
              have rc5 : w4.cell? ⟨w.heap.size + 1 + 1, 5, none⟩ = some (.int .i64 0) := hr4.cell 5 rfl
              have rc6 : w4.cell? ⟨w.heap.size + 1 + 1, 6, none⟩ = some (.bool false) := hr4.cell 6 rfl
              have rc7 : w4.cell? ⟨w.heap.size + 1 + 1, 7, none⟩ = some (.int .i64 0) := hr4.cell 7 rfl
              have rf0 := hr4.free 0
              have rf1 := hr4.free 1
              have rf2 := hr4.free 2
              have rf3 := hr4.free 3
              have rf4 := hr4.free 4
              have rf5 := hr4.free 5
              have rf6 := hr4.free 6
              have rf7 := hr4.free 7
              clear hr4
              go_wp2_with fail
              have b8 := fit_set8 HR4.out (b0 := .int .i64 X.level) (b1 := .int .i64 X.nat) (b2 := .int .i64 X.left) (b3 := .int .i64 X.right) (b4 := .int .i64 X.bad) (b5 := .int .i64 X.cls) (b6 := .bool X.unset) (b7 := .int .i64 X.defect)
              have q0 := b8.cell 0 rfl
              have q1 := b8.cell 1 rfl
              have q2 := b8.cell 2 rfl
              have q3 := b8.cell 3 rfl
              have q4 := b8.cell 4 rfl
              have q5 := b8.cell 5 rfl
              have q6 := b8.cell 6 rfl
              have q7 := b8.cell 7 rfl
              refine bodyPost_ret (v := .tuple #[fitV X, .int .i64 0]) ?_ rfl ⟨by rw [HE0.out], fit_below8 HB4.out (by omega) _ _ _ _ _ _ _ _⟩
              simp [results, Tryz.f12, go_sem, q0, q1, q2, q3, q4, q5, q6, q7, fitZ]
  · have F0 : (A0 != 0) = true := by simpa using h0
    have HV : Hid (E = A0 ∧ X = fitZ) := Lib.hid (by
      have h1 : E = A0 := by rw [HE.out, if_neg h0]
      exact ⟨h1, HXz.out (by rw [h1]; exact h0)⟩)
    have rc0 : w2.cell? ⟨w.heap.size + 1 + 1, 0, none⟩ = some (.int .i64 0) := hr2.cell 0 rfl
    have rc1 : w2.cell? ⟨w.heap.size + 1 + 1, 1, none⟩ = some (.int .i64 0) := hr2.cell 1 rfl
    have rc2 : w2.cell? ⟨w.heap.size + 1 + 1, 2, none⟩ = some (.int .i64 0) := hr2.cell 2 rfl
    have rc3 : w2.cell? ⟨w.heap.size + 1 + 1, 3, none⟩ = some (.int .i64 0) := hr2.cell 3 rfl
    have rc4 : w2.cell? ⟨w.heap.size + 1 + 1, 4, none⟩ = some (.int .i64 0) := hr2.cell 4 rfl
    have rc5 : w2.cell? ⟨w.heap.size + 1 + 1, 5, none⟩ = some (.int .i64 0) := hr2.cell 5 rfl
    have rc6 : w2.cell? ⟨w.heap.size + 1 + 1, 6, none⟩ = some (.bool false) := hr2.cell 6 rfl
    have rc7 : w2.cell? ⟨w.heap.size + 1 + 1, 7, none⟩ = some (.int .i64 0) := hr2.cell 7 rfl
    have rf0 := hr2.free 0
    have rf1 := hr2.free 1
    have rf2 := hr2.free 2
    have rf3 := hr2.free 3
    have rf4 := hr2.free 4
    have rf5 := hr2.free 5
    have rf6 := hr2.free 6
    have rf7 := hr2.free 7
    clear h0 HCk HBest HE hr2
    go_wp2_with fail
    have b8 := fit_set8 HR2'.out (b0 := .int .i64 0) (b1 := .int .i64 0) (b2 := .int .i64 0) (b3 := .int .i64 0) (b4 := .int .i64 0) (b5 := .int .i64 0) (b6 := .bool false) (b7 := .int .i64 0)
    have q0 := b8.cell 0 rfl
    have q1 := b8.cell 1 rfl
    have q2 := b8.cell 2 rfl
    have q3 := b8.cell 3 rfl
    have q4 := b8.cell 4 rfl
    have q5 := b8.cell 5 rfl
    have q6 := b8.cell 6 rfl
    have q7 := b8.cell 7 rfl
    refine bodyPost_ret (v := .tuple #[fitV fitZ, .int .i64 A0]) ?_ rfl ⟨by rw [HV.out.1, HV.out.2], fit_below8 HB2.out (by omega) _ _ _ _ _ _ _ _⟩
    simp [results, Tryz.f12, go_sem, q0, q1, q2, q3, q4, q5, q6, q7, fitZ]
end Go.Proofs.YtndpdbofoojkhaaGreat.Ft
