/- What a ruler tells (tell). -/
import Derived.Test.YtndpdbofoojkhaaGreatFit13
import Derived.Deep.RegionHeld3
namespace Go.Proofs.YtndpdbofoojkhaaGreat.Ft
open Go.RowKit Go.Proofs.YtndpdbofoojkhaaGreat.Kit Go.Proofs.YtndpdbofoojkhaaGreat.Fo Go.Proofs.YtndpdbofoojkhaaGreat.Lv
set_option linter.unusedVariables false
set_option linter.unusedSimpArgs false

theorem rul_cells {w : World} {g : Nat} {d : FaceD} {a : FaceA} {m : Nat} {t : TypeId} (h : Box w g (rulCells d a m) t) :
    w.cell? ⟨g, 13, none⟩ = some (.int .i64 d.up) ∧ w.cell? ⟨g, 14, none⟩ = some (.int .i64 d.down) ∧ w.cell? ⟨g, 16, none⟩ = some (.map (some m)) := ⟨h.cell 13 rfl, h.cell 14 rfl, h.cell 16 rfl⟩
theorem Rul.put {d : FaceD} {a : FaceA} {r m n : Nat} {w w' : World} {D : DataW Unit} (h : Rul d a r m n w) (hg : w.drew.grownBy w' (some m)) (h1 : w'.ownsMap Tryz.prog 114 toldElem m (n + 1) D) (h2 : GoodM d D) : Rul d a r m (n + 1) w' ∧ Off m w w' := by
  have o : Off m w w' := (Off.drew (Off.refl m w)).trans (Off.grown hg)
  exact ⟨⟨o.box h.box h.ne, h.face.mono (o.low (Nat.le_of_lt h.lt)), h.ne, h1.lt, D, h1, h2⟩, o⟩
theorem rul_load {W : World} {r m : Nat} {d : FaceD} {a : FaceA} (h : Box W r (rulCells d a m) 61) : (Instr.loadAt 29 (.pointer (some ⟨r, 0, none⟩))).run Tryz.prog W = .ok (faceV d a) W :=
  run_loadAt_mid W r 0 29 (faceL d a) _ (fun j v hv => by
    rw [Nat.zero_add]
    refine h.cell j ?_
    have e : (rulCells d a m).toList = faceL d a ++ [.map (some m)] := rfl
    rw [← Array.getElem?_toList, e, List.getElem?_append_left (List.getElem?_eq_some_iff.1 hv).1]
    exact hv) Tryz.underlying29 rfl (by kernel_rfl)
set_option maxRecDepth 100000 in
set_option maxHeartbeats 4000000 in
theorem tell_any (d : FaceD) (a : FaceA) (r m n : Nat) (k o l : Int) (w : World) (hf : faceB d = true) (hR : Rul d a r m n w) (hk : k = 0 ∨ k = 1 ∨ k = 2 ∨ k = 3) (ho : (Lit.int .i64 o).wf = true) (hl : (Lit.int .i64 l).wf = true) (hn : n < 1000000000000) :
    Calls Tryz.prog 26 #[.pointer (some ⟨r, 0, none⟩), .int .i64 k, .int .i64 o, .int .i64 l] w fun e w' => e = .returned (.tuple #[.int .i64 (tellS d k o l).1, .bool (decide ((tellS d k o l).2 = 0))]) ∧ Rul d a r m (n + 1) w' ∧ Off m w w' := by
  obtain ⟨_, _, _, ⟨u1, u2⟩, ⟨v1, v2⟩, _⟩ := face_ok hf
  obtain ⟨i1, i2⟩ := i64_of hl
  have HR := Lib.hid hR
  obtain ⟨c13, c14, c16⟩ := rul_cells hR.box
  have hkw : (Lit.int .i64 k).wf = true := wf64 (by omega)
  obtain ⟨L, hL⟩ : ∃ L, Hid (clampP d l = L) := ⟨_, Lib.hid rfl⟩
  have hLb : -8 ≤ L ∧ L ≤ 8 := by rw [← hL.out]; unfold clampP; omega
  have HS := Lib.hid (tell_clamp u1 v1 k o l)
  rw [hL.out] at HS
  have HLW := Lib.hid (show (Lit.int .i64 L).wf = true from wf64 (by omega))
  have HN : Hid (max (min l d.up) (-d.down) = L) := Lib.hid ((clamp_code u1 v1 l).trans hL.out)
  clear hR
  go_enter Tryz.func26, Tryz.ntmps26
  go_upto_region 1 with fail
  have HK : Hid (∀ w', Below w.heap.size w w' → Below w.heap.size w w' ∧ w'.cell? ⟨r, 13, none⟩ = some (.int .i64 d.up) ∧ w'.cell? ⟨r, 14, none⟩ = some (.int .i64 d.down)) := Lib.hid fun w' hb => ⟨hb, later hb c13, later hb c14⟩
  go_cut [10] (fun v wx => ∃ g, v = .pointer (some ⟨g, 0, none⟩) ∧ w.heap.size ≤ g ∧ Box wx g #[.int .i64 k, .int .i64 o, .int .i64 L] 114 ∧ Below w.heap.size w wx)
  case first =>
    clear c13 c14 c16
    go_region_held3 (fun w' => Below w.heap.size w w' ∧ w'.cell? ⟨r, 13, none⟩ = some (.int .i64 d.up) ∧ w'.cell? ⟨r, 14, none⟩ = some (.int .i64 d.down))
      (first | exact HK.out _ (by repeat (first | (with_reducible exact Below.refl _ _) | (with_reducible apply below_drew) | (with_reducible apply below_alloc) | exact (‹Below w.heap.size w _ ∧ _›.1))))
      (fail)
    all_goals (go_wp2_with fail; go_meet)
    all_goals
      have e : max (min l d.up) (IntKind.i64.wrap (-d.down)) = L := by rw [IntWalk.i64_in _ (by omega)]; exact HN.out
      refine ⟨w.heap.size, rfl, Nat.le_refl _, ?_, below_drew (below_alloc (Below.refl _ _) _)⟩
      rw [e]
      exact Box.drew (Box.new _ _ _)
  case rest =>
    rename World => wy
    obtain ⟨g, rfl, hg, hbg, hby⟩ := hcut
    have HRy := Lib.hid (HR.out.off hby)
    have HY := Lib.hid hby
    clear HK c13 c14 c16 hby HN
    obtain ⟨D, hown, hG⟩ := HRy.out.map
    obtain ⟨p, q, f, hrun, hpq⟩ := look_tell hown hG hkw ho HLW.out
    have HRun := Lib.hid hrun
    have HPQ := Lib.hid hpq
    have c16 : wy.cell? ⟨r, 16, none⟩ = some (.map (some m)) := (rul_cells HRy.out.box).2.2
    have k0 := hbg.cell 0 rfl
    have k1 := hbg.cell 1 rfl
    have k2 := hbg.cell 2 rfl
    have hmy := HRy.out.lt
    have HK : Hid (∀ w', Below wy.heap.size wy w' → Below wy.heap.size wy w' ∧ w'.cell? ⟨r, 16, none⟩ = some (.map (some m)) ∧ w'.cell? ⟨g, 0, none⟩ = some (.int .i64 k) ∧ w'.cell? ⟨g, 1, none⟩ = some (.int .i64 o) ∧ w'.cell? ⟨g, 2, none⟩ = some (.int .i64 L) ∧ (Instr.lookup 59 (.map (some m)) (.agg #[.int .i64 k, .int .i64 o, .int .i64 L]) true).run Tryz.prog w' = .ok (.tuple #[.agg #[.int .i64 p, .bool q], .bool f]) w') := Lib.hid fun w' hb => ⟨hb, later hb c16, later hb k0, later hb k1, later hb k2, HRun.out w' (hb.block m hmy)⟩
    clear hrun hpq hown hG
    go_upto_region 2 with fail
    go_cut [11, 12] (fun v b wx => ∃ g2, v = .pointer (some ⟨g2, 0, none⟩) ∧ b = .bool f ∧ Box wx g2 #[.int .i64 p, .bool q] 116 ∧ Below wy.heap.size wy wx)
    case first =>
      clear c16 k0 k1 k2 hbg
      go_region_held3 (fun w' => Below wy.heap.size wy w' ∧ w'.cell? ⟨r, 16, none⟩ = some (.map (some m)) ∧ w'.cell? ⟨g, 0, none⟩ = some (.int .i64 k) ∧ w'.cell? ⟨g, 1, none⟩ = some (.int .i64 o) ∧ w'.cell? ⟨g, 2, none⟩ = some (.int .i64 L) ∧ (Instr.lookup 59 (.map (some m)) (.agg #[.int .i64 k, .int .i64 o, .int .i64 L]) true).run Tryz.prog w' = .ok (.tuple #[.agg #[.int .i64 p, .bool q], .bool f]) w')
        (first | exact HK.out _ (by repeat (first | (with_reducible exact Below.refl _ _) | (with_reducible apply below_drew) | (with_reducible apply below_alloc) | exact (‹Below wy.heap.size wy _ ∧ _›.1))))
        (fail)
      all_goals (go_wp2_with fail; go_meet)
      all_goals
        refine ⟨wy.heap.size, rfl, rfl, ?_, below_drew (below_alloc (Below.refl _ _) _)⟩
        exact Box.drew (Box.new _ _ _)
    case rest =>
      rename World => wx
      obtain ⟨g2, rfl, rfl, hbt, hbx⟩ := hcut
      have HRx := Lib.hid (HRy.out.off hbx)
      have hbgx := hbg.below hbx
      have HX := Lib.hid (below_join HY.out hbx)
      clear HK HRun HRy HY hbx c16 k0 k1 k2 hbg hmy
      cases f with
      | true =>
        obtain ⟨hp, hq⟩ := HPQ.out rfl
        rw [HS.out] at hp hq
        have HE := Lib.hid (And.intro hp hq)
        have t0 := hbt.cell 0 rfl
        have t1 := hbt.cell 1 rfl
        clear hp hq HPQ HS hbgx hk
        go_upto_region 4 with fail
        go_region
        all_goals (go_wp2_with fail; go_ret2)
        all_goals exact ⟨by rw [HE.out.1, HE.out.2]; rfl, (HRx.out.off (Below.refl _ _).drew).more (by omega), (Off.of HX.out).drew⟩
      | false =>
        have hld := rul_load HRx.out.box
        obtain ⟨fv, hfv⟩ : ∃ fv, Hid (faceV d a = fv) := ⟨_, Lib.hid rfl⟩
        rw [hfv.out] at hld
        have HWi : Hid (Calls Tryz.prog 54 #[fv, .int .i64 o, .int .i64 l] wx fun e w' => e = .returned (.tuple #[.int .i64 (widthV d o l).1, .int .i64 (widthV d o l).2]) ∧ Below wx.heap.size wx w') := Lib.hid (by rw [← hfv.out]; exact width_any d a o l wx (B := m) (Nat.le_of_lt HRx.out.lt) HRx.out.face ho)
        have HKe : Hid (Calls Tryz.prog 55 #[fv, .int .i64 o, .int .i64 l] wx fun e w' => e = .returned (.tuple #[.int .i64 (kernV d o l).1, .int .i64 (kernV d o l).2]) ∧ Below wx.heap.size wx w') := Lib.hid (by rw [← hfv.out]; exact kern_any d a o l wx (B := m) (Nat.le_of_lt HRx.out.lt) HRx.out.face)
        have HEd : Hid (Calls Tryz.prog 56 #[fv, .int .i64 o, .int .i64 l] wx fun e w' => e = .returned (.tuple #[.int .i64 (edgesV d o l).1, .int .i64 (edgesV d o l).2.1, .int .i64 (edgesV d o l).2.2]) ∧ Below wx.heap.size wx w') := Lib.hid (by rw [← hfv.out]; exact edges_any d a o l wx (B := m) (Nat.le_of_lt HRx.out.lt) HRx.out.face ho)
        clear HPQ hfv
        rcases hk with rfl | rfl | rfl | rfl
        · obtain ⟨x, hx⟩ : ∃ x, Hid (tellS d 0 o l = x) := ⟨_, Lib.hid rfl⟩
          have hw : widthV d o l = x := by rw [← hx.out]; rfl
          rw [hw] at HWi
          clear HKe HEd hw
          go_wp2_with (refine ld_law hld rfl _ rfl rfl ?_)
          with_reducible refine HWi.out.mono ?_
          rintro e w3 ⟨rfl, hb3⟩
          clear HWi hld
          have HR3 := Lib.hid (HRx.out.off hb3)
          have HX3 := Lib.hid (below_join HX.out hb3)
          obtain ⟨b0, b1, b2⟩ := (show _ ∧ _ ∧ _ from ⟨(hbgx.below hb3).cell 0 (v := .int .i64 0) rfl, (hbgx.below hb3).cell 1 (v := .int .i64 o) rfl, (hbgx.below hb3).cell 2 (v := .int .i64 L) rfl⟩)
          have b16 := (rul_cells HR3.out.box).2.2
          obtain ⟨D3, hown3, hG3⟩ := HR3.out.map
          obtain ⟨w4, D4, hup, hown4, hG4, hgr4⟩ := put_tell (w := w3.drew) hown3 hG3 hn hkw ho HLW.out
          rw [HS.out, hx.out] at hup
          have hdec : decide (x.2 = 0) = (x.2 == 0) := by rw [Bool.eq_iff_iff]; simp
          rw [hdec] at hup
          have HD := Lib.hid hdec
          have H4 := Lib.hid (And.intro hown4 (And.intro hG4 hgr4))
          clear hown3 hG3 hown4 hG4 hgr4 hdec hb3 hbgx
          go_upto_region 16 with fail
          go_region
          go_wp2_with fail
          go_ret2
          obtain ⟨q1, q2⟩ := HR3.out.put H4.out.2.2 H4.out.1 H4.out.2.1
          exact ⟨by rw [hx.out, HD.out]; rfl, q1, (Off.of HX3.out).trans q2⟩
        · obtain ⟨x, hx⟩ : ∃ x, Hid (tellS d 1 o l = x) := ⟨_, Lib.hid rfl⟩
          have hw : kernV d o l = x := by rw [← hx.out]; rfl
          rw [hw] at HKe
          clear HWi HEd hw
          go_wp2_with (refine ld_law hld rfl _ rfl rfl ?_)
          with_reducible refine HKe.out.mono ?_
          rintro e w3 ⟨rfl, hb3⟩
          clear HKe hld
          have HR3 := Lib.hid (HRx.out.off hb3)
          have HX3 := Lib.hid (below_join HX.out hb3)
          obtain ⟨b0, b1, b2⟩ := (show _ ∧ _ ∧ _ from ⟨(hbgx.below hb3).cell 0 (v := .int .i64 1) rfl, (hbgx.below hb3).cell 1 (v := .int .i64 o) rfl, (hbgx.below hb3).cell 2 (v := .int .i64 L) rfl⟩)
          have b16 := (rul_cells HR3.out.box).2.2
          obtain ⟨D3, hown3, hG3⟩ := HR3.out.map
          obtain ⟨w4, D4, hup, hown4, hG4, hgr4⟩ := put_tell (w := w3.drew) hown3 hG3 hn hkw ho HLW.out
          rw [HS.out, hx.out] at hup
          have hdec : decide (x.2 = 0) = (x.2 == 0) := by rw [Bool.eq_iff_iff]; simp
          rw [hdec] at hup
          have HD := Lib.hid hdec
          have H4 := Lib.hid (And.intro hown4 (And.intro hG4 hgr4))
          clear hown3 hG3 hown4 hG4 hgr4 hdec hb3 hbgx
          go_upto_region 16 with fail
          go_region
          go_wp2_with fail
          go_ret2
          obtain ⟨q1, q2⟩ := HR3.out.put H4.out.2.2 H4.out.1 H4.out.2.1
          exact ⟨by rw [hx.out, HD.out]; rfl, q1, (Off.of HX3.out).trans q2⟩
        · obtain ⟨x, hx⟩ : ∃ x, Hid (tellS d 2 o l = x) := ⟨_, Lib.hid rfl⟩
          have hw1 : (edgesV d o l).1 = x.1 := by rw [← hx.out]; rfl
          have hw2 : (edgesV d o l).2.2 = x.2 := by rw [← hx.out]; rfl
          rw [hw1, hw2] at HEd
          generalize (edgesV d o l).2.1 = yy at *
          clear HWi HKe hw1 hw2
          go_wp2_with (refine ld_law hld rfl _ rfl rfl ?_)
          with_reducible refine HEd.out.mono ?_
          rintro e w3 ⟨rfl, hb3⟩
          clear HEd hld
          have HR3 := Lib.hid (HRx.out.off hb3)
          have HX3 := Lib.hid (below_join HX.out hb3)
          obtain ⟨b0, b1, b2⟩ := (show _ ∧ _ ∧ _ from ⟨(hbgx.below hb3).cell 0 (v := .int .i64 2) rfl, (hbgx.below hb3).cell 1 (v := .int .i64 o) rfl, (hbgx.below hb3).cell 2 (v := .int .i64 L) rfl⟩)
          have b16 := (rul_cells HR3.out.box).2.2
          obtain ⟨D3, hown3, hG3⟩ := HR3.out.map
          obtain ⟨w4, D4, hup, hown4, hG4, hgr4⟩ := put_tell (w := w3.drew) hown3 hG3 hn hkw ho HLW.out
          rw [HS.out, hx.out] at hup
          have hdec : decide (x.2 = 0) = (x.2 == 0) := by rw [Bool.eq_iff_iff]; simp
          rw [hdec] at hup
          have HD := Lib.hid hdec
          have H4 := Lib.hid (And.intro hown4 (And.intro hG4 hgr4))
          clear hown3 hG3 hown4 hG4 hgr4 hdec hb3 hbgx
          go_upto_region 16 with fail
          go_region
          go_wp2_with fail
          go_ret2
          obtain ⟨q1, q2⟩ := HR3.out.put H4.out.2.2 H4.out.1 H4.out.2.1
          exact ⟨by rw [hx.out, HD.out]; rfl, q1, (Off.of HX3.out).trans q2⟩
        · obtain ⟨x, hx⟩ : ∃ x, Hid (tellS d 3 o l = x) := ⟨_, Lib.hid rfl⟩
          have hw1 : (edgesV d o l).2.1 = x.1 := by rw [← hx.out]; rfl
          have hw2 : (edgesV d o l).2.2 = x.2 := by rw [← hx.out]; rfl
          rw [hw1, hw2] at HEd
          generalize (edgesV d o l).1 = yy at *
          clear HWi HKe hw1 hw2
          go_wp2_with (refine ld_law hld rfl _ rfl rfl ?_)
          with_reducible refine HEd.out.mono ?_
          rintro e w3 ⟨rfl, hb3⟩
          clear HEd hld
          have HR3 := Lib.hid (HRx.out.off hb3)
          have HX3 := Lib.hid (below_join HX.out hb3)
          obtain ⟨b0, b1, b2⟩ := (show _ ∧ _ ∧ _ from ⟨(hbgx.below hb3).cell 0 (v := .int .i64 3) rfl, (hbgx.below hb3).cell 1 (v := .int .i64 o) rfl, (hbgx.below hb3).cell 2 (v := .int .i64 L) rfl⟩)
          have b16 := (rul_cells HR3.out.box).2.2
          obtain ⟨D3, hown3, hG3⟩ := HR3.out.map
          obtain ⟨w4, D4, hup, hown4, hG4, hgr4⟩ := put_tell (w := w3.drew) hown3 hG3 hn hkw ho HLW.out
          rw [HS.out, hx.out] at hup
          have hdec : decide (x.2 = 0) = (x.2 == 0) := by rw [Bool.eq_iff_iff]; simp
          rw [hdec] at hup
          have HD := Lib.hid hdec
          have H4 := Lib.hid (And.intro hown4 (And.intro hG4 hgr4))
          clear hown3 hG3 hown4 hG4 hgr4 hdec hb3 hbgx
          go_upto_region 16 with fail
          go_region
          go_wp2_with fail
          go_ret2
          obtain ⟨q1, q2⟩ := HR3.out.put H4.out.2.2 H4.out.1 H4.out.2.1
          exact ⟨by rw [hx.out, HD.out]; rfl, q1, (Off.of HX3.out).trans q2⟩
end Go.Proofs.YtndpdbofoojkhaaGreat.Ft
