/- A character's width at a level: the walk. -/
import Derived.Test.YtndpdbofoojkhaaGreatLevel6
import Derived.Deep.RegionHeld3
import Derived.Deep.DeepCutAuto
import Derived.Deep.MidRow
namespace Go.Proofs.YtndpdbofoojkhaaGreat.Lv
open Go.RowKit Go.Proofs.YtndpdbofoojkhaaGreat.Kit Go.Proofs.YtndpdbofoojkhaaGreat.Fo
set_option linter.unusedVariables false
set_option linter.unusedSimpArgs false

set_option maxRecDepth 100000 in
set_option maxHeartbeats 1000000 in
theorem width_yes (d : FaceD) (a : FaceA) (code n : Int) (w : World) {B : Nat} (hB : B ≤ w.heap.size) (hF : FaceIn w B d a) (hc : (Lit.int .i64 code).wf = true) (hf : faceB d = true) (hq : hasB d.font code = true) :
    Calls Tryz.prog 54 #[faceV d a, .int .i64 code, .int .i64 n] w fun e w' => e = .returned (.tuple #[.int .i64 (wideP d code n), .int .i64 0]) ∧ Below w.heap.size w w' := by
  have hbx := Box.new w (faceCells d a) 29
  have hbw := (Below.refl w.heap.size w).alloc (Nat.le_refl _) (.cells (faceCells d a) 29)
  obtain ⟨W1, hW⟩ : ∃ W1, w.alloc (.cells (faceCells d a) 29) = W1 := ⟨_, rfl⟩
  rw [hW] at hbx hbw
  obtain ⟨⟨c0, c1, c2, c3, c4, c5, c6, c7, c8, c9, c10⟩, c11, c12, c13, c14, c15⟩ := face_cells hbx
  have H := Lib.hid (face_any d a W1 (lt_of_below hB hbw) (hF.mono (hbw.mono hB)))
  have HFF := Lib.hid (fun W (hb : Below w.heap.size w W) => hF.mono (hb.mono hB))
  rw [hf] at H
  obtain ⟨hlig, hsz, hst, hu, hd, hwt⟩ := face_ok hf
  have htfm := lig_tfm hlig
  have hH : Hid (∀ W, Below w.heap.size w W → _) := Lib.hid fun W (hb : Below w.heap.size w W) => thas_any d.font a.font code W (B := B) (lt_of_below hB hb) (HFF.out W hb).font hc
  rw [htfm] at hH
  have HT := Lib.hid htfm
  go_enter Tryz.func54, Tryz.ntmps54
  go_wp2_with fail
  with_reducible refine H.out.mono ?_; rintro e w1 ⟨rfl, hb⟩
  have hw1 := hbw.trans (hb.mono hbw.size)
  have hbx1 := hbx.below hb
  clear hW H hb hF c0 c1 c2 c3 c4 c5 c6 c7 c8 c9 c10 c11 c12 c13 c14 c15 hbw hbx hf hlig hwt htfm
  obtain ⟨⟨c0, c1, c2, c3, c4, c5, c6, c7, c8, c9, c10⟩, c11, c12, c13, c14, c15⟩ := face_cells hbx1
  have hH1 := hH.out w1 hw1
  clear hH
  rw [hq] at hH1
  have HQ := Lib.hid hq
  clear hq
  go_wp2_with fail
  with_reducible refine hH1.mono ?_; rintro e w2 ⟨rfl, hb⟩
  have hw2 := hw1.trans (hb.mono hw1.size)
  have hbx2 := hbx1.below hb
  clear hH1 hb c0 c1 c2 c3 c4 c5 c6 c7 c8 c9 c10 c11 c12 c13 c14 c15 hw1 hbx1
  obtain ⟨⟨c0, c1, c2, c3, c4, c5, c6, c7, c8, c9, c10⟩, c11, c12, c13, c14, c15⟩ := face_cells hbx2
  go_upto_region 5 with fail
  have HCl : Hid (∀ w, _) := Lib.hid fun w => clamp_any d a n w hu hd
  clear hsz hst hu hd
  go_cut [8] (fun v wx => ∃ g, v = .pointer (some ⟨g, 0, none⟩) ∧ Box wx g (atCells d a (clampP d n)) 145 ∧ Below w2.heap.size w2 wx)
  case first =>
    have HK : Hid (∀ w', Below w2.heap.size w2 w' → Below w2.heap.size w2 w' ∧ w'.rangeAt w.heap.size 0 (faceL d a)) := Lib.hid fun w' hb => ⟨hb, rangeAt_on hb (rangeAt_box hbx2)⟩
    have hu : Tryz.prog.underlying 29 = _ := Tryz.underlying29
    have hi1 : (Tryz.prog.info? 29).map (·.size) = some (faceL d a).length := by kernel_rfl
    have hi2 : (Tryz.prog.info? 145).map (·.size) = some (atL d a (clampP d n)).toArray.size := by kernel_rfl
    have ho2 : (atL d a (clampP d n)).toArray.all (·.oneCell') = true := by simp [Value.oneCell']
    clear hbx2 hw2 c0 c1 c2 c3 c4 c5 c6 c7 c8 c9 c10 c11 c12 c13 c14 c15
    refine wp_region_noPanic ?_
    refine wp_region_held_drew (S := fun w' => Below w2.heap.size w2 w' ∧ w'.rangeAt w.heap.size 0 (faceL d a)) (by kernel_rfl) ?_ (fun hHeld => ?_)
    · exact HK.out _ (by repeat (first | (with_reducible exact Below.refl _ _) | (with_reducible apply below_drew) | (with_reducible apply below_alloc) | (with_reducible refine below_join ?_ (by assumption)) | exact (‹Below w2.heap.size w2 _ ∧ _›.1)))
    refine' wpAnyH_take (i := 0) (oi := _) (v := _) rfl (by kernel_rfl) (by kernel_rfl) (by kernel_rfl) (fun _ _ _ h => h) (yieldsIf_load_mid (by rfl) _ _ rfl _ _ rfl _ _ ?_ hu rfl hi1) (by assumption) ?_
    · intro w hSw; exact hSw.2
    try simp only [Act.put, List.setIfInBounds_toArray, List.set_cons_zero, List.set_cons_succ]
    refine' wpAnyH_take (i := 1) (oi := _) (v := _) rfl (by kernel_rfl) (by kernel_rfl) (by kernel_rfl) (fun _ _ _ h => h) (yieldsIf_load_mid (by rfl) _ _ rfl _ _ rfl _ _ ?_ hu rfl hi1) (by assumption) ?_
    · intro w hSw; exact hSw.2
    try simp only [Act.put, List.setIfInBounds_toArray, List.set_cons_zero, List.set_cons_succ]
    refine wpAnyH_take (i := 2) (oi := _) (v := ?_) rfl (by kernel_rfl) (by kernel_rfl) (by kernel_rfl) (fun _ _ _ h => h) (Or.inl ⟨by rfl, ?_⟩) (by assumption) ?_
    rotate_left
    · intro w hSw; go_simp; with_reducible rfl
    try simp only [Act.put, List.setIfInBounds_toArray, List.set_cons_zero, List.set_cons_succ]
    refine wpAnyH_ready (rs := [3, 5]) (by kernel_rfl) (by simp) ?_
    refine AllReadyH.cons (o := _) rfl (fun K hK => ?_) (AllReadyH.cons (o := _) rfl (fun K hK => ?_) AllReadyH.nil)
    · go_simp
      (with_reducible refine (HCl.out _).mono ?_); rintro e wq ⟨rfl, hbq⟩
      go_wp2_with fail
      refine hK.out _ _ ?_ (fun hHeld => ?_)
      · exact HK.out _ (by repeat (first | (with_reducible exact Below.refl _ _) | (with_reducible apply below_drew) | (with_reducible apply below_alloc) | (with_reducible refine below_join ?_ (by assumption)) | exact (‹Below w2.heap.size w2 _ ∧ _›.1)))
      clear hK K
      try simp only [Act.put, List.setIfInBounds_toArray, List.set_cons_zero, List.set_cons_succ]
      refine wpAnyH_take (i := 4) (oi := _) (v := ?_) rfl (by kernel_rfl) (by kernel_rfl) (by kernel_rfl) (fun _ _ _ h => h) (Or.inl ⟨by rfl, ?_⟩) (by assumption) ?_
      rotate_left
      · intro w hSw; go_simp; with_reducible rfl
      try simp only [Act.put, List.setIfInBounds_toArray, List.set_cons_zero, List.set_cons_succ]
      refine wpAnyH_ready (rs := [5]) (by kernel_rfl) (by simp) ?_
      refine AllReadyH.cons (o := _) rfl (fun K hK => ?_) AllReadyH.nil
      go_simp
      refine hK.out _ _ ?_ (fun hHeld => ?_)
      · exact HK.out _ (by repeat (first | (with_reducible exact Below.refl _ _) | (with_reducible apply below_drew) | (with_reducible apply below_alloc) | (with_reducible refine below_join ?_ (by assumption)) | exact (‹Below w2.heap.size w2 _ ∧ _›.1)))
      clear hK K
      try simp only [Act.put, List.setIfInBounds_toArray, List.set_cons_zero, List.set_cons_succ]
      have bz := Box.new wq zeroAt 145
      have hsz2 : w2.heap.size ≤ wq.heap.size := (below_join (below_drew (Below.refl _ w2)) hbq).size
      refine wpAnyH_ready (rs := [6]) (by kernel_rfl) (by simp) ?_
      refine AllReadyH.cons (o := _) rfl (fun K hK => ?_) AllReadyH.nil
      refine wp_store_mid _ _ _ rfl _ _ (atL d a (clampP d n)).toArray rfl rfl (there_box2 bz rfl) hi2 ho2 ?_
      refine hK.out _ _ ?_ (fun hHeld2 => ?_)
      · exact HK.out _ (by repeat (first | (with_reducible exact Below.refl _ _) | (with_reducible apply below_drew) | (with_reducible apply below_alloc) | (with_reducible refine below_sets (by exact hsz2) _ _ ?_) | (with_reducible refine below_join ?_ (by assumption)) | exact (‹Below w2.heap.size w2 _ ∧ _›.1)))
      clear hK K
      try simp only [Act.put, List.setIfInBounds_toArray, List.set_cons_zero, List.set_cons_succ]
      refine wpAnyH_done (by kernel_rfl) ?_ _
      refine NoPanic.normal ?_
      go_wp2_with fail
      go_meet
      refine ⟨_, rfl, ?_, hHeld2.1⟩
      rw [← at_set]
      exact Box.sets _ _ _ _ bz
    · go_simp
      refine hK.out _ _ ?_ (fun hHeld => ?_)
      · exact HK.out _ (by repeat (first | (with_reducible exact Below.refl _ _) | (with_reducible apply below_drew) | (with_reducible apply below_alloc) | (with_reducible refine below_join ?_ (by assumption)) | exact (‹Below w2.heap.size w2 _ ∧ _›.1)))
      clear hK K
      try simp only [Act.put, List.setIfInBounds_toArray, List.set_cons_zero, List.set_cons_succ]
      refine wpAnyH_ready (rs := [3]) (by kernel_rfl) (by simp) ?_
      refine AllReadyH.cons (o := _) rfl (fun K hK => ?_) AllReadyH.nil
      go_simp
      (with_reducible refine (HCl.out _).mono ?_); rintro e wq ⟨rfl, hbq⟩
      go_wp2_with fail
      refine hK.out _ _ ?_ (fun hHeld => ?_)
      · exact HK.out _ (by repeat (first | (with_reducible exact Below.refl _ _) | (with_reducible apply below_drew) | (with_reducible apply below_alloc) | (with_reducible refine below_join ?_ (by assumption)) | exact (‹Below w2.heap.size w2 _ ∧ _›.1)))
      clear hK K
      try simp only [Act.put, List.setIfInBounds_toArray, List.set_cons_zero, List.set_cons_succ]
      have bz := ((Box.new w2 zeroAt 145).drew).below hbq
      refine wpAnyH_take (i := 4) (oi := _) (v := ?_) rfl (by kernel_rfl) (by kernel_rfl) (by kernel_rfl) (fun _ _ _ h => h) (Or.inl ⟨by rfl, ?_⟩) (by assumption) ?_
      rotate_left
      · intro w hSw; go_simp; with_reducible rfl
      try simp only [Act.put, List.setIfInBounds_toArray, List.set_cons_zero, List.set_cons_succ]
      refine wpAnyH_ready (rs := [6]) (by kernel_rfl) (by simp) ?_
      refine AllReadyH.cons (o := _) rfl (fun K hK => ?_) AllReadyH.nil
      refine wp_store_mid _ _ _ rfl _ _ (atL d a (clampP d n)).toArray rfl rfl (there_box2 bz rfl) hi2 ho2 ?_
      refine hK.out _ _ ?_ (fun hHeld2 => ?_)
      · exact HK.out _ (by repeat (first | (with_reducible exact Below.refl _ _) | (with_reducible apply below_drew) | (with_reducible apply below_alloc) | (with_reducible refine below_sets (Nat.le_refl _) _ _ ?_) | (with_reducible refine below_join ?_ (by assumption)) | exact (‹Below w2.heap.size w2 _ ∧ _›.1)))
      clear hK K
      try simp only [Act.put, List.setIfInBounds_toArray, List.set_cons_zero, List.set_cons_succ]
      refine wpAnyH_done (by kernel_rfl) ?_ _
      refine NoPanic.normal ?_
      go_wp2_with fail
      go_meet
      refine ⟨_, rfl, ?_, hHeld2.1⟩
      rw [← at_set]
      exact Box.sets _ _ _ _ bz
  case rest =>
    obtain ⟨g, rfl, hA, hbc⟩ := hcut
    rename World => wc
    apply_assumption
    refine width_rest d a code n g w wc hB hc HFF HT HQ hA (hw2.trans (hbc.mono hw2.size)) _ _ _ _ _ _ _ _ _ _ _ _ _ _ _ _ _ _ _ _ _ _ _ _ _ _ _ _ _ _ _ _ _ _ _ _ _ _ _ _ _ _ _ _ _ _ _ _ _ _ _ _ _ _ _ _ _ _ _ _ ?_
    intro t w' h6 h7 hb
    refine bodyPost_ret (results_tmp2 rfl _ _ _) rfl ⟨by rw [h6, h7], hb⟩
theorem width_any (d : FaceD) (a : FaceA) (code n : Int) (w : World) {B : Nat} (hB : B ≤ w.heap.size) (hF : FaceIn w B d a) (hc : (Lit.int .i64 code).wf = true) :
    Calls Tryz.prog 54 #[faceV d a, .int .i64 code, .int .i64 n] w fun e w' => e = .returned (.tuple #[.int .i64 (widthV d code n).1, .int .i64 (widthV d code n).2]) ∧ Below w.heap.size w w' := by
  unfold widthV
  cases hf : faceB d with
  | false => exact width_no d a code n w hB hF hc hf
  | true =>
    cases hq : hasB d.font code with
    | false => exact width_nochar d a code n w hB hF hc hf hq
    | true => exact width_yes d a code n w hB hF hc hf hq
end Go.Proofs.YtndpdbofoojkhaaGreat.Lv
