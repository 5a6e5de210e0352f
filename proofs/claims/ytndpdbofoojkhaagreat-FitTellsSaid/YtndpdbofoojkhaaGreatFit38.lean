/- The reference: the best level (Best), and a line (Line). -/
import Derived.Test.YtndpdbofoojkhaaGreatFit37
namespace Go.Proofs.YtndpdbofoojkhaaGreat.Ft
open Go.RowKit Go.Proofs.YtndpdbofoojkhaaGreat.Kit Go.Proofs.YtndpdbofoojkhaaGreat.Fo Go.Proofs.YtndpdbofoojkhaaGreat.Lv
set_option linter.unusedVariables false
set_option linter.unusedSimpArgs false

theorem fit_wf {d : FaceD} (hf : faceB d = true) {l : LayD} (hlb : layB l = true) {G : List (List (Int × Int))} (hg : GlyOk d.font G) {long ex : Int} (h1 : 1 ≤ long ∧ long ≤ 67108864) (h2 : 0 ≤ ex ∧ ex ≤ 67108864) (last : Bool) (lev : Int) : (Lit.int .i64 (fitAt d l G long last ex lev).defect).wf = true :=
  judge_wf (gap_ok hf hlb hg h1 h2 lev).1
set_option maxRecDepth 100000 in
set_option maxHeartbeats 8000000 in
theorem rbest_any (d : FaceD) (a : FaceA) (l : LayD) (As : Option Addr) (cs : Nat) (Ag : Option Addr) (cg : Nat) (G : List (List (Int × Int))) (long : Int) (last : Bool) (ex : Int) (w : World) {B : Nat} (hB : B ≤ w.heap.size) (hF : FaceIn w B d a) (hf : faceB d = true) (hlb : layB l = true) {Q : Nat → Prop} (hG : GG Q w Ag G) (hg : GlyOk d.font G) (h1 : 1 ≤ long ∧ long ≤ 67108864) (h2 : 0 ≤ ex ∧ ex ≤ 67108864) :
    Calls Tryz.prog 30 #[faceV d a, .agg (layCells l As cs), .slice Ag G.length cg, .int .i64 long, .bool last, .int .i64 ex] w fun e w' => e = .returned (fitV ((bestN (fun k => fitAt d l G long last ex (-d.down + k)) (levN d)).getD fitZ)) ∧ Below w.heap.size w w' := by
  have hb0 := ((Box.new w (faceCells d a) 29).alloc (.cells (layCells l As cs) 32)).alloc (.cells zF 46)
  have hb1 := (Box.new (w.alloc (.cells (faceCells d a) 29)) (layCells l As cs) 32).alloc (.cells zF 46)
  have hb2 := Box.new ((w.alloc (.cells (faceCells d a) 29)).alloc (.cells (layCells l As cs) 32)) zF 46
  have hbw := below_alloc (below_alloc (below_alloc (Below.refl w.heap.size w) (.cells (faceCells d a) 29)) (.cells (layCells l As cs) 32)) (.cells zF 46)
  simp only [World.size_alloc] at hb1 hb2
  obtain ⟨W1, hW⟩ : ∃ W1, ((w.alloc (.cells (faceCells d a) 29)).alloc (.cells (layCells l As cs) 32)).alloc (.cells zF 46) = W1 := ⟨_, rfl⟩
  have hs1 : W1.heap.size = w.heap.size + 3 := by rw [← hW]; simp
  rw [hW] at hb0 hb1 hb2 hbw
  have HFF : Hid (∀ V, Below w.heap.size w V → FaceIn V B d a) := Lib.hid fun V hb => hF.mono (hb.mono hB)
  obtain ⟨fv, hfv⟩ : ∃ fv, Hid (faceV d a = fv) := ⟨_, Lib.hid rfl⟩
  obtain ⟨lv, hlv⟩ : ∃ lv, Hid ((Value.agg (layCells l As cs)) = lv) := ⟨_, Lib.hid rfl⟩
  have HLd : Hid (∀ V, Below W1.heap.size W1 V → (Instr.loadAt 29 (.pointer (some ⟨w.heap.size, 0, none⟩))).run Tryz.prog V = .ok fv V) := Lib.hid fun V hb => by
    rw [← hfv.out]
    exact load_face (hb0.below hb)
  have HLl : Hid (∀ V, Below W1.heap.size W1 V → (Instr.loadAt 32 (.pointer (some ⟨w.heap.size + 1, 0, none⟩))).run Tryz.prog V = .ok lv V) := Lib.hid fun V hb => by
    rw [← hlv.out]
    exact lay_load (hb1.below hb)
  obtain ⟨f, hfd⟩ : ∃ f : Nat → FitD, Hid ((fun k : Nat => fitAt d l G long last ex (-d.down + k)) = f) := ⟨_, Lib.hid rfl⟩
  obtain ⟨gp, hgp⟩ : ∃ gp : Nat → Int, Hid ((fun k : Nat => gapAt d l G long (-d.down + k)) = gp) := ⟨_, Lib.hid rfl⟩
  have HAt : Hid (∀ V (k : Nat), Below w.heap.size w V → Calls Tryz.prog 62 #[fv, lv, .slice Ag G.length cg, .int .i64 long, .bool last, .int .i64 ex, .int .i64 (-d.down + (k : Int))] V fun e w' => e = .returned (.tuple #[fitV (f k), .int .i64 (gp k)]) ∧ Below V.heap.size V w') := Lib.hid fun V k hb => by
    rw [← hfd.out, ← hgp.out, ← hfv.out, ← hlv.out]
    exact at_any d a l As cs Ag cg G long last ex (-d.down + (k : Int)) V (B := B) (Nat.le_trans hB hb.size) (HFF.out V hb) hf hlb (hG.below hb) hg h1 h2
  have HAt0 : Hid (Calls Tryz.prog 62 #[fv, lv, .slice Ag G.length cg, .int .i64 long, .bool last, .int .i64 ex, .int .i64 (-d.down)] W1 fun e w' => e = .returned (.tuple #[fitV (f 0), .int .i64 (gp 0)]) ∧ Below W1.heap.size W1 w') := Lib.hid (by
    have h := HAt.out W1 0 hbw
    simpa using h)
  obtain ⟨_, _, _, ⟨u1, u2⟩, ⟨v1, v2⟩, _⟩ := face_ok hf
  have HWf : Hid (∀ k : Nat, k ≤ 100 → (Lit.int .i64 (f k).defect).wf = true ∧ (Lit.int .i64 (f k).level).wf = true) := Lib.hid fun k hk => by
    rw [← hfd.out]
    exact ⟨fit_wf hf hlb hg h1 h2 last _, wf64 (show _ ≤ -d.down + (k : Int) ∧ -d.down + (k : Int) ≤ _ by omega)⟩
  have hlN : (levN d : Int) = d.up + d.down + 1 := by unfold levN; omega
  obtain ⟨X, hX⟩ : ∃ X, Hid ((bestN f (levN d)).getD fitZ = X) := ⟨_, Lib.hid rfl⟩
  rw [hfd.out, hX.out]
  have hld := HLd.out W1 (Below.refl _ _)
  have hll := HLl.out W1 (Below.refl _ _)
  have c13 := (face_cells hb0).2.2.2.1
  have c14 := (face_cells hb0).2.2.2.2.1
  have e1 : IntKind.i64.wrap (-d.down) = -d.down := wrap_at (by omega)
  have e2 : IntKind.i64.wrap (1 - d.down) = 1 - d.down := wrap_at (by omega)
  have HB0 := Lib.hid hb0
  have HB2 := Lib.hid hb2
  have HBW := Lib.hid hbw
  clear hF hf hlb hG hg h1 h2 hb0 hb1 hb2
  go_enter Tryz.func30, Tryz.ntmps30
  go_wp2_with (first | refine ld_any hld rfl _ rfl rfl ?_ | refine ld_any hll rfl _ rfl rfl ?_)
  with_reducible refine HAt0.out.mono ?_
  rintro e w2 ⟨rfl, hb2⟩
  have HBq2 := Lib.hid hb2
  have hs2 := hb2.size
  have c14 : w2.cell? ⟨w.heap.size, 14, none⟩ = some (.int .i64 d.down) := later hb2 c14
  clear hW hld hll HAt0 hbw hb2 c13
  obtain ⟨x0, hx0⟩ : ∃ x, Hid (f 0 = x) := ⟨_, Lib.hid rfl⟩
  rw [hx0.out]
  go_upto_region 2 with fail
  have HP3 : Hid (Box (w2.alloc (.cells (fitB x0) 46)) w2.heap.size (fitB x0) 46) := Lib.hid (Box.new w2 _ _)
  have HQ3 : Hid (Below w2.heap.size w2 (w2.alloc (.cells (fitB x0) 46))) := Lib.hid (below_alloc (Below.refl w2.heap.size w2) _)
  obtain ⟨w3, hw3⟩ : ∃ w3, w2.alloc (.cells (fitB x0) 46) = w3 := ⟨_, rfl⟩
  rw [hw3] at HP3 HQ3 ⊢
  have hs3 : w3.heap.size = w2.heap.size + 1 := by rw [← hw3]; simp
  obtain ⟨pb, hpb⟩ : ∃ pb, w2.heap.size = pb := ⟨_, rfl⟩
  rw [hpb] at HP3 ⊢
  have c14 : w3.cell? ⟨w.heap.size, 14, none⟩ = some (.int .i64 d.down) := later HQ3.out c14
  have hpbw : w.heap.size + 3 ≤ pb := by omega
  have hs3' : w3.heap.size = pb + 1 := by omega
  have H13 : Hid (Below W1.heap.size W1 w3) := Lib.hid (below_join HBq2.out HQ3.out)
  have hs1' : W1.heap.size ≤ pb := by omega
  clear hw3 hpb hs3 HQ3
  go_wp2_with fail
  clear c14 e1 e2
  go_loopw [15] (fun i wr => ∃ (k : Nat) (x : FitD), 1 ≤ k ∧ k ≤ levN d ∧ i = .int .i64 (-d.down + (k : Int)) ∧ Hid (bestN f k = some x ∧ (Lit.int .i64 x.defect).wf = true ∧ (Lit.int .i64 x.level).wf = true) ∧ Hid (Box wr pb (fitB x) 46) ∧ Hid (Below pb w3 wr)) (fun i _ => (d.up + 10 - intOf i).toNat)
  case atStart => exact ⟨1, x0, by omega, by omega, by congr 1; omega, Lib.hid ⟨by rw [← hx0.out]; rfl, by rw [← hx0.out]; exact (HWf.out 0 (by omega)).1, by rw [← hx0.out]; exact (HWf.out 0 (by omega)).2⟩, HP3, Lib.hid (Below.refl _ _)⟩
  case round =>
    rename World => wr
    obtain ⟨k, x, hk1, hk, rfl, HX, HP, HBr⟩ := hrel
    have H1r : Hid (Below W1.heap.size W1 wr) := Lib.hid (H13.out.trans (HBr.out.mono hs1'))
    have hwr := HBr.out.size
    have c13 : wr.cell? ⟨w.heap.size, 13, none⟩ = some (.int .i64 d.up) := (face_cells (HB0.out.below H1r.out)).2.2.2.1
    by_cases hlt : k < levN d
    · have F9 : (-d.down + (k : Int) ≤ d.up) = True := eq_true (by omega)
      have hld := HLd.out wr H1r.out
      have hll := HLl.out wr H1r.out
      have HA := Lib.hid (HAt.out wr k (below_join HBW.out H1r.out))
      obtain ⟨y, hy⟩ : ∃ y, Hid (f k = y) := ⟨_, Lib.hid rfl⟩
      rw [hy.out] at HA
      have HYw := Lib.hid (HWf.out k (by omega))
      rw [hy.out] at HYw
      have hk17 : k ≤ 17 := by omega
      go_wp2_with (first | refine ld_any hld rfl _ rfl rfl ?_ | refine ld_any hll rfl _ rfl rfl ?_)
      with_reducible refine HA.out.mono ?_
      rintro e w4 ⟨rfl, hb4⟩
      have HP4 := Lib.hid (HP.out.below hb4)
      have HB4 : Hid (Below pb w3 w4) := Lib.hid (HBr.out.trans (hb4.mono (by omega)))
      have hs4 := hb4.size
      clear hld hll HA c13 hb4
      go_upto_region 6 with fail
      have HN5 : Hid (Box (w4.alloc (.cells (fitB y) 46)) w4.heap.size (fitB y) 46) := Lib.hid (Box.new w4 _ _)
      have HP5 := Lib.hid (HP4.out.alloc (.cells (fitB y) 46))
      have HB5 : Hid (Below pb w3 (w4.alloc (.cells (fitB y) 46))) := Lib.hid (HB4.out.alloc (by omega) _)
      obtain ⟨w5, hw5⟩ : ∃ w5, w4.alloc (.cells (fitB y) 46) = w5 := ⟨_, rfl⟩
      have hs5 : w5.heap.size = w4.heap.size + 1 := by rw [← hw5]; simp
      rw [hw5] at HN5 HP5 HB5 ⊢
      obtain ⟨pn, hpn⟩ : ∃ pn, w4.heap.size = pn := ⟨_, rfl⟩
      rw [hpn] at HN5 ⊢
      have hpnb : pb < pn := by omega
      have hs5' : w5.heap.size = pn + 1 := by omega
      clear hw5 hpn hs5 HP4 HB4 HP
      have nc0 : w5.cell? ⟨pn, 0, none⟩ = some (.int .i64 y.level) := HN5.out.cell 0 rfl
      have nc1 : w5.cell? ⟨pn, 1, none⟩ = some (.int .i64 y.nat) := HN5.out.cell 1 rfl
      have nc2 : w5.cell? ⟨pn, 2, none⟩ = some (.int .i64 y.left) := HN5.out.cell 2 rfl
      have nc3 : w5.cell? ⟨pn, 3, none⟩ = some (.int .i64 y.right) := HN5.out.cell 3 rfl
      have nc4 : w5.cell? ⟨pn, 4, none⟩ = some (.int .i64 y.bad) := HN5.out.cell 4 rfl
      have nc5 : w5.cell? ⟨pn, 5, none⟩ = some (.int .i64 y.cls) := HN5.out.cell 5 rfl
      have nc6 : w5.cell? ⟨pn, 6, none⟩ = some (.bool y.unset) := HN5.out.cell 6 rfl
      have nc7 : w5.cell? ⟨pn, 7, none⟩ = some (.int .i64 y.defect) := HN5.out.cell 7 rfl
      have pc0 : w5.cell? ⟨pb, 0, none⟩ = some (.int .i64 x.level) := HP5.out.cell 0 rfl
      have pc1 : w5.cell? ⟨pb, 1, none⟩ = some (.int .i64 x.nat) := HP5.out.cell 1 rfl
      have pc2 : w5.cell? ⟨pb, 2, none⟩ = some (.int .i64 x.left) := HP5.out.cell 2 rfl
      have pc3 : w5.cell? ⟨pb, 3, none⟩ = some (.int .i64 x.right) := HP5.out.cell 3 rfl
      have pc4 : w5.cell? ⟨pb, 4, none⟩ = some (.int .i64 x.bad) := HP5.out.cell 4 rfl
      have pc5 : w5.cell? ⟨pb, 5, none⟩ = some (.int .i64 x.cls) := HP5.out.cell 5 rfl
      have pc6 : w5.cell? ⟨pb, 6, none⟩ = some (.bool x.unset) := HP5.out.cell 6 rfl
      have pc7 : w5.cell? ⟨pb, 7, none⟩ = some (.int .i64 x.defect) := HP5.out.cell 7 rfl
      have HBt := Lib.hid (better18_any y x w5 ⟨HYw.out.1, HX.out.2.1, HYw.out.2, HX.out.2.2⟩)
      have HBn : Hid (bestN f (k + 1) = if betterP y x then some y else some x) := Lib.hid (by rw [bestN, HX.out.1, hy.out])
      have e3 : IntKind.i64.wrap (-d.down + (k : Int) + 1) = -d.down + ((k + 1 : Nat) : Int) := by rw [wrap_at (by omega)]; push_cast; omega
      cases hbt : betterP y x with
      | true =>
        rw [hbt] at HBt HBn
        clear hbt
        go_wp2_with fail
        with_reducible refine HBt.out.mono ?_
        rintro e w6 ⟨rfl, hb6⟩
        have hn6 := HN5.out.below hb6
        have hp6 := HP5.out.below hb6
        have HP6 := Lib.hid hp6
        have HB6 : Hid (Below pb w3 w6) := Lib.hid (HB5.out.trans (hb6.mono (by omega)))
        clear HBt nc0 nc1 nc2 nc3 nc4 nc5 nc6 nc7 pc0 pc1 pc2 pc3 pc4 pc5 pc6 pc7 hb6
        have nc0 : w6.cell? ⟨pn, 0, none⟩ = some (.int .i64 y.level) := hn6.cell 0 rfl
        have nc1 : w6.cell? ⟨pn, 1, none⟩ = some (.int .i64 y.nat) := hn6.cell 1 rfl
        have nc2 : w6.cell? ⟨pn, 2, none⟩ = some (.int .i64 y.left) := hn6.cell 2 rfl
        have nc3 : w6.cell? ⟨pn, 3, none⟩ = some (.int .i64 y.right) := hn6.cell 3 rfl
        have nc4 : w6.cell? ⟨pn, 4, none⟩ = some (.int .i64 y.bad) := hn6.cell 4 rfl
        have nc5 : w6.cell? ⟨pn, 5, none⟩ = some (.int .i64 y.cls) := hn6.cell 5 rfl
        have nc6 : w6.cell? ⟨pn, 6, none⟩ = some (.bool y.unset) := hn6.cell 6 rfl
        have nc7 : w6.cell? ⟨pn, 7, none⟩ = some (.int .i64 y.defect) := hn6.cell 7 rfl
        have pc0 : w6.cell? ⟨pb, 0, none⟩ = some (.int .i64 x.level) := hp6.cell 0 rfl
        have pc1 : w6.cell? ⟨pb, 1, none⟩ = some (.int .i64 x.nat) := hp6.cell 1 rfl
        have pc2 : w6.cell? ⟨pb, 2, none⟩ = some (.int .i64 x.left) := hp6.cell 2 rfl
        have pc3 : w6.cell? ⟨pb, 3, none⟩ = some (.int .i64 x.right) := hp6.cell 3 rfl
        have pc4 : w6.cell? ⟨pb, 4, none⟩ = some (.int .i64 x.bad) := hp6.cell 4 rfl
        have pc5 : w6.cell? ⟨pb, 5, none⟩ = some (.int .i64 x.cls) := hp6.cell 5 rfl
        have pc6 : w6.cell? ⟨pb, 6, none⟩ = some (.bool x.unset) := hp6.cell 6 rfl
        have pc7 : w6.cell? ⟨pb, 7, none⟩ = some (.int .i64 x.defect) := hp6.cell 7 rfl
        have pf0 := hp6.free 0
        have pf1 := hp6.free 1
        have pf2 := hp6.free 2
        have pf3 := hp6.free 3
        have pf4 := hp6.free 4
        have pf5 := hp6.free 5
        have pf6 := hp6.free 6
        have pf7 := hp6.free 7
        clear hn6 hp6
        go_wp2_with fail
        go_roundw
        case rel => exact ⟨k + 1, y, by omega, by omega, by first | go_num | (congr 1; omega), Lib.hid ⟨by rw [HBn.out]; rfl, HYw.out⟩, Lib.hid (fit_set8 HP6.out), Lib.hid (fit_below8 HB6.out (Nat.le_refl _) _ _ _ _ _ _ _ _)⟩
        case measure => simp [intOf]; omega
      | false =>
        rw [hbt] at HBt HBn
        clear hbt
        go_wp2_with fail
        with_reducible refine HBt.out.mono ?_
        rintro e w6 ⟨rfl, hb6⟩
        have HP6 := Lib.hid (HP5.out.below hb6)
        have HB6 : Hid (Below pb w3 w6) := Lib.hid (HB5.out.trans (hb6.mono (by omega)))
        clear HBt nc0 nc1 nc2 nc3 nc4 nc5 nc6 nc7 pc0 pc1 pc2 pc3 pc4 pc5 pc6 pc7 hb6
        go_wp2_with fail
        go_roundw
        case rel => exact ⟨k + 1, x, by omega, by omega, by first | go_num | (congr 1; omega), Lib.hid ⟨by rw [HBn.out]; rfl, HX.out.2⟩, HP6, HB6⟩
        case measure => simp [intOf]; omega
    · have F9 : (-d.down + (k : Int) ≤ d.up) = False := eq_false (by omega)
      have hk2 : k = levN d := by omega
      have HXx : Hid (x = X) := Lib.hid (by rw [← hX.out, ← hk2, HX.out.1]; rfl)
      have hpx := HP.out
      have hr := HB2.out.below H1r.out
      have HR := Lib.hid hr
      have HBe := Lib.hid (below_join HBW.out H1r.out)
      have pc0 : wr.cell? ⟨pb, 0, none⟩ = some (.int .i64 x.level) := hpx.cell 0 rfl
      have pc1 : wr.cell? ⟨pb, 1, none⟩ = some (.int .i64 x.nat) := hpx.cell 1 rfl
      have pc2 : wr.cell? ⟨pb, 2, none⟩ = some (.int .i64 x.left) := hpx.cell 2 rfl
      have pc3 : wr.cell? ⟨pb, 3, none⟩ = some (.int .i64 x.right) := hpx.cell 3 rfl
      have pc4 : wr.cell? ⟨pb, 4, none⟩ = some (.int .i64 x.bad) := hpx.cell 4 rfl
      have pc5 : wr.cell? ⟨pb, 5, none⟩ = some (.int .i64 x.cls) := hpx.cell 5 rfl
      have pc6 : wr.cell? ⟨pb, 6, none⟩ = some (.bool x.unset) := hpx.cell 6 rfl
      have pc7 : wr.cell? ⟨pb, 7, none⟩ = some (.int .i64 x.defect) := hpx.cell 7 rfl
      have rf0 := hr.free 0
      have rf1 := hr.free 1
      have rf2 := hr.free 2
      have rf3 := hr.free 3
      have rf4 := hr.free 4
      have rf5 := hr.free 5
      have rf6 := hr.free 6
      have rf7 := hr.free 7
      have rc0 := hr.cell 0 rfl
      have rc1 := hr.cell 1 rfl
      have rc2 := hr.cell 2 rfl
      have rc3 := hr.cell 3 rfl
      have rc4 := hr.cell 4 rfl
      have rc5 := hr.cell 5 rfl
      have rc6 := hr.cell 6 rfl
      have rc7 := hr.cell 7 rfl
      clear hpx hr
      go_wp2_with fail
      have b8 := fit_set8 HR.out (b0 := .int .i64 x.level) (b1 := .int .i64 x.nat) (b2 := .int .i64 x.left) (b3 := .int .i64 x.right) (b4 := .int .i64 x.bad) (b5 := .int .i64 x.cls) (b6 := .bool x.unset) (b7 := .int .i64 x.defect)
      have q0 := b8.cell 0 rfl
      have q1 := b8.cell 1 rfl
      have q2 := b8.cell 2 rfl
      have q3 := b8.cell 3 rfl
      have q4 := b8.cell 4 rfl
      have q5 := b8.cell 5 rfl
      have q6 := b8.cell 6 rfl
      have q7 := b8.cell 7 rfl
      refine bodyPost_ret (v := fitV x) ?_ rfl ⟨by rw [HXx.out], fit_below8 HBe.out (by omega) _ _ _ _ _ _ _ _⟩
      simp [results, Tryz.f30, go_sem, q0, q1, q2, q3, q4, q5, q6, q7]
end Go.Proofs.YtndpdbofoojkhaaGreat.Ft
