/- joined for a claim: Level7, Level8 -/
import Derived.Test.YtndpdbofoojkhaaGreatLevel6b
import Derived.Deep.RegionHeld3
import Derived.Deep.DeepCutAuto
import Derived.Deep.MidRow
/- A kern at a level. -/
namespace Go.Proofs.YtndpdbofoojkhaaGreat.Lv
open Go.RowKit Go.Proofs.YtndpdbofoojkhaaGreat.Kit Go.Proofs.YtndpdbofoojkhaaGreat.Fo
set_option linter.unusedVariables false
set_option linter.unusedSimpArgs false

def kernP (d : FaceD) (x n : Int) : Int := wrap64 (fl x d.size 1048576 + fl (fl x d.size 1048576) (wrap64 (clampP d n * d.step)) 1000)
def kernV (d : FaceD) (x n : Int) : Int × Int := if faceB d && fixB x then (kernP d x n, 0) else (0, 90)
set_option maxRecDepth 100000 in
set_option maxHeartbeats 1000000 in
theorem kern_no (d : FaceD) (a : FaceA) (x n : Int) (w : World) {B : Nat} (hB : B ≤ w.heap.size) (hF : FaceIn w B d a) (hf : faceB d = false) :
    Calls Tryz.prog 55 #[faceV d a, .int .i64 x, .int .i64 n] w fun e w' => e = .returned (.tuple #[.int .i64 0, .int .i64 90]) ∧ Below w.heap.size w w' := by
  have hbx := Box.new w (faceCells d a) 29
  have hbw := (Below.refl w.heap.size w).alloc (Nat.le_refl _) (.cells (faceCells d a) 29)
  obtain ⟨W1, hW⟩ : ∃ W1, w.alloc (.cells (faceCells d a) 29) = W1 := ⟨_, rfl⟩
  rw [hW] at hbx hbw
  obtain ⟨⟨c0, c1, c2, c3, c4, c5, c6, c7, c8, c9, c10⟩, c11, c12, c13, c14, c15⟩ := face_cells hbx
  have H := Lib.hid (face_any d a W1 (lt_of_below hB hbw) (hF.mono (hbw.mono hB)))
  have HFF := Lib.hid (fun W (hb : Below w.heap.size w W) => hF.mono (hb.mono hB))
  rw [hf] at H
  clear hf hF HFF
  go_enter Tryz.func55, Tryz.ntmps55
  go_wp2_with fail
  with_reducible refine H.out.mono ?_; rintro e w1 ⟨rfl, hb⟩
  have hw1 := hbw.trans (hb.mono hbw.size)
  clear hW H
  go_wp2_with fail
  go_ret2
  exact ⟨rfl, hw1⟩
set_option maxRecDepth 100000 in
set_option maxHeartbeats 1000000 in
theorem kern_bad (d : FaceD) (a : FaceA) (x n : Int) (w : World) {B : Nat} (hB : B ≤ w.heap.size) (hF : FaceIn w B d a) (hf : faceB d = true) (hx : fixB x = false) :
    Calls Tryz.prog 55 #[faceV d a, .int .i64 x, .int .i64 n] w fun e w' => e = .returned (.tuple #[.int .i64 0, .int .i64 90]) ∧ Below w.heap.size w w' := by
  have hbx := Box.new w (faceCells d a) 29
  have hbw := (Below.refl w.heap.size w).alloc (Nat.le_refl _) (.cells (faceCells d a) 29)
  obtain ⟨W1, hW⟩ : ∃ W1, w.alloc (.cells (faceCells d a) 29) = W1 := ⟨_, rfl⟩
  rw [hW] at hbx hbw
  obtain ⟨⟨c0, c1, c2, c3, c4, c5, c6, c7, c8, c9, c10⟩, c11, c12, c13, c14, c15⟩ := face_cells hbx
  have H := Lib.hid (face_any d a W1 (lt_of_below hB hbw) (hF.mono (hbw.mono hB)))
  have HFF := Lib.hid (fun W (hb : Below w.heap.size w W) => hF.mono (hb.mono hB))
  rw [hf] at H
  clear hf hF HFF
  have hx' : x < -16777216 ∨ (¬ x < -16777216 ∧ 16777216 ≤ x) := by simp [fixB] at hx; omega
  clear hx
  rcases hx' with h1 | ⟨h1, h2⟩
  · have F1 : (x < -16777216) = True := eq_true h1
    go_enter Tryz.func55, Tryz.ntmps55
    go_wp2_with fail
    with_reducible refine H.out.mono ?_; rintro e w1 ⟨rfl, hb⟩
    have hw1 := hbw.trans (hb.mono hbw.size)
    clear hW H
    go_wp2_with fail
    go_ret2
    exact ⟨rfl, hw1⟩
  · have F1 : (x < -16777216) = False := eq_false h1
    have F2 : (16777216 ≤ x) = True := eq_true h2
    go_enter Tryz.func55, Tryz.ntmps55
    go_wp2_with fail
    with_reducible refine H.out.mono ?_; rintro e w1 ⟨rfl, hb⟩
    have hw1 := hbw.trans (hb.mono hbw.size)
    clear hW H
    go_wp2_with fail
    go_ret2
    exact ⟨rfl, hw1⟩
set_option maxRecDepth 100000 in
set_option maxHeartbeats 8000000 in
theorem kern_yes (d : FaceD) (a : FaceA) (x n : Int) (w : World) {B : Nat} (hB : B ≤ w.heap.size) (hF : FaceIn w B d a) (hf : faceB d = true) (hx : fixB x = true) :
    Calls Tryz.prog 55 #[faceV d a, .int .i64 x, .int .i64 n] w fun e w' => e = .returned (.tuple #[.int .i64 (kernP d x n), .int .i64 0]) ∧ Below w.heap.size w w' := by
  have hbx := Box.new w (faceCells d a) 29
  have hbw := (Below.refl w.heap.size w).alloc (Nat.le_refl _) (.cells (faceCells d a) 29)
  obtain ⟨W1, hW⟩ : ∃ W1, w.alloc (.cells (faceCells d a) 29) = W1 := ⟨_, rfl⟩
  rw [hW] at hbx hbw
  obtain ⟨⟨c0, c1, c2, c3, c4, c5, c6, c7, c8, c9, c10⟩, c11, c12, c13, c14, c15⟩ := face_cells hbx
  have H := Lib.hid (face_any d a W1 (lt_of_below hB hbw) (hF.mono (hbw.mono hB)))
  have HFF := Lib.hid (fun W (hb : Below w.heap.size w W) => hF.mono (hb.mono hB))
  rw [hf] at H
  obtain ⟨hlig, hsz, hst, hu, hd, hwt⟩ := face_ok hf
  have hx' : ¬ x < -16777216 ∧ ¬ 16777216 ≤ x := by simp [fixB] at hx; omega
  have F1 : (x < -16777216) = False := eq_false hx'.1
  have F2 : (16777216 ≤ x) = False := eq_false hx'.2
  have HCl : Hid (∀ w, _) := Lib.hid fun w => clamp_any d a n w hu hd
  obtain ⟨p, hp⟩ : ∃ p, fl x d.size 1048576 = p := ⟨_, rfl⟩
  have HP := Lib.hid hp
  have HPt : Hid (∀ w, _) := Lib.hid (points_any d a (clampP d n) x)
  rw [hp] at HPt
  obtain ⟨res, hres⟩ : ∃ r, kernP d x n = r := ⟨_, rfl⟩
  rw [hres]
  have HR := Lib.hid hres
  clear hsz hst hu hd hx hx' hp hres hf hF hlig hwt
  go_enter Tryz.func55, Tryz.ntmps55
  go_wp2_with fail
  with_reducible refine H.out.mono ?_; rintro e w2 ⟨rfl, hb⟩
  have hw2 := hbw.trans (hb.mono hbw.size)
  have hbx2 := hbx.below hb
  clear hW H hb c0 c1 c2 c3 c4 c5 c6 c7 c8 c9 c10 c11 c12 c13 c14 c15 hbw hbx
  obtain ⟨⟨c0, c1, c2, c3, c4, c5, c6, c7, c8, c9, c10⟩, c11, c12, c13, c14, c15⟩ := face_cells hbx2
  go_upto_region 3 with fail
  go_cut [8] (fun v wx => ∃ g, v = .pointer (some ⟨g, 0, none⟩) ∧ Box wx g (atCells d a (clampP d n)) 145 ∧ Below w2.heap.size w2 wx)
  case first =>
      have HK : Hid (∀ w', Below w2.heap.size w2 w' → Below w2.heap.size w2 w' ∧ w'.rangeAt w.heap.size 0 (faceL d a)) := Lib.hid fun w' hb => ⟨hb, rangeAt_on hb (rangeAt_box hbx2)⟩
      have hu : Tryz.prog.underlying 29 = _ := Tryz.underlying29
      have hi1 : (Tryz.prog.info? 29).map (·.size) = some (faceL d a).length := by kernel_rfl
      have hi2 : (Tryz.prog.info? 145).map (·.size) = some (atL d a (clampP d n)).toArray.size := by kernel_rfl
      have ho2 : (atL d a (clampP d n)).toArray.all (·.oneCell') = true := by simp [Value.oneCell']
      clear hbx2 hw2 c0 c1 c2 c3 c4 c5 c6 c7 c8 c9 c10 c11 c12 c13 c14 c15
      refine wp_region_noPanic ?_
      refine wp_region_held_drew (S := fun w' => Below w2.heap.size w2 w' ∧ w'.rangeAt w.heap.size 0 (faceL d a)) (by kernel_rfl) ?_ (fun hHeld => ?_)
      · exact HK.out _ (by repeat (first | (with_reducible exact Below.refl _ _) | (with_reducible apply below_drew) | (with_reducible apply below_alloc) | (with_reducible refine below_join ?_ (by assumption)) | exact (‹Below w2.heap.size w2 _ ∧ _›.1)))
      refine' wpAnyH_take (i := 0) (oi := _) (v := _) rfl (by kernel_rfl) (by kernel_rfl) (by kernel_rfl) (fun _ _ _ h => h) (yieldsIf_load_mid (by rfl) _ _ rfl _ _ rfl _ _ ?_ hu rfl hi1) (by assumption) ?_
      · intro w hSw; exact hSw.2
      try simp only [Act.put, List.setIfInBounds_toArray, List.set_cons_zero, List.set_cons_succ]
      refine' wpAnyH_take (i := 1) (oi := _) (v := _) rfl (by kernel_rfl) (by kernel_rfl) (by kernel_rfl) (fun _ _ _ h => h) (yieldsIf_load_mid (by rfl) _ _ rfl _ _ rfl _ _ ?_ hu rfl hi1) (by assumption) ?_
      · intro w hSw; exact hSw.2
      try simp only [Act.put, List.setIfInBounds_toArray, List.set_cons_zero, List.set_cons_succ]
      refine wpAnyH_take (i := 2) (oi := _) (v := ?_) rfl (by kernel_rfl) (by kernel_rfl) (by kernel_rfl) (fun _ _ _ h => h) (Or.inl ⟨by rfl, ?_⟩) (by assumption) ?_
      rotate_left
      · intro w hSw; go_simp; with_reducible rfl
      try simp only [Act.put, List.setIfInBounds_toArray, List.set_cons_zero, List.set_cons_succ]
      refine wpAnyH_ready (rs := [3, 5]) (by kernel_rfl) (by simp) ?_
      refine AllReadyH.cons (o := _) rfl (fun K hK => ?_) (AllReadyH.cons (o := _) rfl (fun K hK => ?_) AllReadyH.nil)
      · go_simp
        (with_reducible refine (HCl.out _).mono ?_); rintro e wq ⟨rfl, hbq⟩
        go_wp2_with fail
        refine hK.out _ _ ?_ (fun hHeld => ?_)
        · exact HK.out _ (by repeat (first | (with_reducible exact Below.refl _ _) | (with_reducible apply below_drew) | (with_reducible apply below_alloc) | (with_reducible refine below_join ?_ (by assumption)) | exact (‹Below w2.heap.size w2 _ ∧ _›.1)))
        clear hK K
        try simp only [Act.put, List.setIfInBounds_toArray, List.set_cons_zero, List.set_cons_succ]
        refine wpAnyH_take (i := 4) (oi := _) (v := ?_) rfl (by kernel_rfl) (by kernel_rfl) (by kernel_rfl) (fun _ _ _ h => h) (Or.inl ⟨by rfl, ?_⟩) (by assumption) ?_
        rotate_left
        · intro w hSw; go_simp; with_reducible rfl
        try simp only [Act.put, List.setIfInBounds_toArray, List.set_cons_zero, List.set_cons_succ]
        refine wpAnyH_ready (rs := [5]) (by kernel_rfl) (by simp) ?_
        refine AllReadyH.cons (o := _) rfl (fun K hK => ?_) AllReadyH.nil
        go_simp
        refine hK.out _ _ ?_ (fun hHeld => ?_)
        · exact HK.out _ (by repeat (first | (with_reducible exact Below.refl _ _) | (with_reducible apply below_drew) | (with_reducible apply below_alloc) | (with_reducible refine below_join ?_ (by assumption)) | exact (‹Below w2.heap.size w2 _ ∧ _›.1)))
        clear hK K
        try simp only [Act.put, List.setIfInBounds_toArray, List.set_cons_zero, List.set_cons_succ]
        have bz := Box.new wq zeroAt 145
        have hsz2 : w2.heap.size ≤ wq.heap.size := (below_join (below_drew (Below.refl _ w2)) hbq).size
        refine wpAnyH_ready (rs := [6]) (by kernel_rfl) (by simp) ?_
        refine AllReadyH.cons (o := _) rfl (fun K hK => ?_) AllReadyH.nil
        refine wp_store_mid _ _ _ rfl _ _ (atL d a (clampP d n)).toArray rfl rfl (there_box2 bz rfl) hi2 ho2 ?_
        refine hK.out _ _ ?_ (fun hHeld2 => ?_)
        · exact HK.out _ (by repeat (first | (with_reducible exact Below.refl _ _) | (with_reducible apply below_drew) | (with_reducible apply below_alloc) | (with_reducible refine below_sets (by exact hsz2) _ _ ?_) | (with_reducible refine below_join ?_ (by assumption)) | exact (‹Below w2.heap.size w2 _ ∧ _›.1)))
        clear hK K
        try simp only [Act.put, List.setIfInBounds_toArray, List.set_cons_zero, List.set_cons_succ]
        refine wpAnyH_done (by kernel_rfl) ?_ _
        refine NoPanic.normal ?_
        go_wp2_with fail
        go_meet
        refine ⟨_, rfl, ?_, hHeld2.1⟩
        rw [← at_set]
        exact Box.sets _ _ _ _ bz
      · go_simp
        refine hK.out _ _ ?_ (fun hHeld => ?_)
        · exact HK.out _ (by repeat (first | (with_reducible exact Below.refl _ _) | (with_reducible apply below_drew) | (with_reducible apply below_alloc) | (with_reducible refine below_join ?_ (by assumption)) | exact (‹Below w2.heap.size w2 _ ∧ _›.1)))
        clear hK K
        try simp only [Act.put, List.setIfInBounds_toArray, List.set_cons_zero, List.set_cons_succ]
        refine wpAnyH_ready (rs := [3]) (by kernel_rfl) (by simp) ?_
        refine AllReadyH.cons (o := _) rfl (fun K hK => ?_) AllReadyH.nil
        go_simp
        (with_reducible refine (HCl.out _).mono ?_); rintro e wq ⟨rfl, hbq⟩
        go_wp2_with fail
        refine hK.out _ _ ?_ (fun hHeld => ?_)
        · exact HK.out _ (by repeat (first | (with_reducible exact Below.refl _ _) | (with_reducible apply below_drew) | (with_reducible apply below_alloc) | (with_reducible refine below_join ?_ (by assumption)) | exact (‹Below w2.heap.size w2 _ ∧ _›.1)))
        clear hK K
        try simp only [Act.put, List.setIfInBounds_toArray, List.set_cons_zero, List.set_cons_succ]
        have bz := ((Box.new w2 zeroAt 145).drew).below hbq
        refine wpAnyH_take (i := 4) (oi := _) (v := ?_) rfl (by kernel_rfl) (by kernel_rfl) (by kernel_rfl) (fun _ _ _ h => h) (Or.inl ⟨by rfl, ?_⟩) (by assumption) ?_
        rotate_left
        · intro w hSw; go_simp; with_reducible rfl
        try simp only [Act.put, List.setIfInBounds_toArray, List.set_cons_zero, List.set_cons_succ]
        refine wpAnyH_ready (rs := [6]) (by kernel_rfl) (by simp) ?_
        refine AllReadyH.cons (o := _) rfl (fun K hK => ?_) AllReadyH.nil
        refine wp_store_mid _ _ _ rfl _ _ (atL d a (clampP d n)).toArray rfl rfl (there_box2 bz rfl) hi2 ho2 ?_
        refine hK.out _ _ ?_ (fun hHeld2 => ?_)
        · exact HK.out _ (by repeat (first | (with_reducible exact Below.refl _ _) | (with_reducible apply below_drew) | (with_reducible apply below_alloc) | (with_reducible refine below_sets (Nat.le_refl _) _ _ ?_) | (with_reducible refine below_join ?_ (by assumption)) | exact (‹Below w2.heap.size w2 _ ∧ _›.1)))
        clear hK K
        try simp only [Act.put, List.setIfInBounds_toArray, List.set_cons_zero, List.set_cons_succ]
        refine wpAnyH_done (by kernel_rfl) ?_ _
        refine NoPanic.normal ?_
        go_wp2_with fail
        go_meet
        refine ⟨_, rfl, ?_, hHeld2.1⟩
        rw [← at_set]
        exact Box.sets _ _ _ _ bz
  case rest =>
      obtain ⟨g, rfl, hA, hbc⟩ := hcut
      rename World => wc
      have hwc := hw2.trans (hbc.mono hw2.size)
      clear c0 c1 c2 c3 c4 c5 c6 c7 c8 c9 c10 c11 c12 c13 c14 c15 hbx2 hw2 hbc HCl
      obtain ⟨⟨c0, c1, c2, c3, c4, c5, c6, c7, c8, c9, c10⟩, c11, c12, c13, c14, c15, c16⟩ := at_cells hA
      go_wp2_with fail
      with_reducible refine (HPt.out _).mono ?_; rintro e w3 ⟨rfl, hb⟩
      have hw3 := hwc.trans (hb.mono hwc.size)
      have hA3 := hA.below hb
      clear c0 c1 c2 c3 c4 c5 c6 c7 c8 c9 c10 c11 c12 c13 c14 c15 c16 hwc hb hA HPt
      have f12 : w3.cell? ⟨g, 12, none⟩ = some (.int .i64 d.step) := hA3.cell 12 rfl
      have f16 : w3.cell? ⟨g, 16, none⟩ = some (.int .i64 (clampP d n)) := hA3.cell 16 rfl
      go_wp2_with fail
      with_reducible refine (floor_any _ _ _ _).mono ?_; rintro e w4 ⟨rfl, hb⟩
      have hw4 := hw3.trans (hb.mono hw3.size)
      clear hw3 hb f12 f16 hA3
      go_wp2_with fail
      go_ret2
      refine ⟨?_, hw4⟩
      rw [← HR.out, kernP, HP.out]
      rfl
theorem kern_any (d : FaceD) (a : FaceA) (x n : Int) (w : World) {B : Nat} (hB : B ≤ w.heap.size) (hF : FaceIn w B d a) :
    Calls Tryz.prog 55 #[faceV d a, .int .i64 x, .int .i64 n] w fun e w' => e = .returned (.tuple #[.int .i64 (kernV d x n).1, .int .i64 (kernV d x n).2]) ∧ Below w.heap.size w w' := by
  unfold kernV
  cases hf : faceB d with
  | false => exact kern_no d a x n w hB hF hf
  | true =>
    cases hx : fixB x with
    | false => exact kern_bad d a x n w hB hF hf hx
    | true => exact kern_yes d a x n w hB hF hf hx
end Go.Proofs.YtndpdbofoojkhaaGreat.Lv
/- How much of a character stands out. -/
namespace Go.Proofs.YtndpdbofoojkhaaGreat.Lv
open Go.RowKit Go.Proofs.YtndpdbofoojkhaaGreat.Kit Go.Proofs.YtndpdbofoojkhaaGreat.Fo
set_option linter.unusedVariables false
set_option linter.unusedSimpArgs false

def edgesV (d : FaceD) (code n : Int) : Int × Int × Int :=
  if (widthV d code n).2 = 0 then (fl (widthV d code n).1 (traitP d.traits code).2.2.1 1000, fl (widthV d code n).1 (traitP d.traits code).2.2.2 1000, 0) else (0, 0, (widthV d code n).2)
set_option maxRecDepth 100000 in
set_option maxHeartbeats 2000000 in
theorem edges_any (d : FaceD) (a : FaceA) (code n : Int) (w : World) {B : Nat} (hB : B ≤ w.heap.size) (hF : FaceIn w B d a) (hc : (Lit.int .i64 code).wf = true) :
    Calls Tryz.prog 56 #[faceV d a, .int .i64 code, .int .i64 n] w fun e w' => e = .returned (.tuple #[.int .i64 (edgesV d code n).1, .int .i64 (edgesV d code n).2.1, .int .i64 (edgesV d code n).2.2]) ∧ Below w.heap.size w w' := by
  have hbx := Box.new w (faceCells d a) 29
  have hbw := (Below.refl w.heap.size w).alloc (Nat.le_refl _) (.cells (faceCells d a) 29)
  obtain ⟨W1, hW⟩ : ∃ W1, w.alloc (.cells (faceCells d a) 29) = W1 := ⟨_, rfl⟩
  rw [hW] at hbx hbw
  obtain ⟨⟨c0, c1, c2, c3, c4, c5, c6, c7, c8, c9, c10⟩, c11, c12, c13, c14, c15⟩ := face_cells hbx
  have H := Lib.hid (width_any d a code n W1 (lt_of_below hB hbw) (hF.mono (hbw.mono hB)) hc)
  have HTr : Hid (∀ W, Below w.heap.size w W → _) := Lib.hid fun W (hb : Below w.heap.size w W) => trait_any d a n code W (lt_of_below hB hb) (hF.mono (hb.mono hB))
  unfold edgesV
  obtain ⟨⟨v, e0⟩, hv⟩ : ∃ r, widthV d code n = r := ⟨_, rfl⟩
  obtain ⟨T, hT⟩ : ∃ T, traitP d.traits code = T := ⟨_, rfl⟩
  obtain ⟨T0, T1, T2, T3⟩ := T
  rw [hv] at H ⊢
  rw [hT] at HTr ⊢
  unfold stepV at HTr
  dsimp only at H HTr ⊢
  clear hv hT hF
  obtain ⟨x1, hx1⟩ : ∃ f, fl v T2 1000 = f := ⟨_, rfl⟩
  obtain ⟨x2, hx2⟩ : ∃ f, fl v T3 1000 = f := ⟨_, rfl⟩
  have HA : Hid (∀ w, _) := Lib.hid (floor_any v T2 1000)
  have HB : Hid (∀ w, _) := Lib.hid (floor_any v T3 1000)
  rw [hx1] at HA ⊢
  rw [hx2] at HB ⊢
  clear hx1 hx2
  by_cases he : e0 = 0
  · subst he
    rw [if_pos rfl]
    go_enter Tryz.func56, Tryz.ntmps56
    go_wp2_with fail
    with_reducible refine H.out.mono ?_; rintro e w1 ⟨rfl, hb⟩
    have hw1 := hbw.trans (hb.mono hbw.size)
    have hbx1 := hbx.below hb
    clear hW H hb c0 c1 c2 c3 c4 c5 c6 c7 c8 c9 c10 c11 c12 c13 c14 c15 hbw hbx
    obtain ⟨⟨c0, c1, c2, c3, c4, c5, c6, c7, c8, c9, c10⟩, c11, c12, c13, c14, c15⟩ := face_cells hbx1
    go_wp2_with fail
    with_reducible refine (HTr.out _ hw1).mono ?_; rintro e w2 ⟨rfl, hb⟩
    have hw2 := below_alloc (hw1.trans (hb.mono hw1.size)) (.cells #[.int .i64 T0, .int .i64 T1, .int .i64 T2, .int .i64 T3] 63)
    have hbn := Box.new w2 #[.int .i64 T0, .int .i64 T1, .int .i64 T2, .int .i64 T3] 63
    clear HTr hb c0 c1 c2 c3 c4 c5 c6 c7 c8 c9 c10 c11 c12 c13 c14 c15 hw1 hbx1
    go_upto_region 5 with fail
    generalize hW3 : w2.alloc (.cells #[.int .i64 T0, .int .i64 T1, .int .i64 T2, .int .i64 T3] 63) = w3 at *
    generalize hg : w2.heap.size = g at *
    clear hW3 hg w2
    have f2 : w3.cell? ⟨g, 2, none⟩ = some (.int .i64 T2) := hbn.cell 2 rfl
    have f3 : w3.cell? ⟨g, 3, none⟩ = some (.int .i64 T3) := hbn.cell 3 rfl
    have HK : Hid (∀ w', Below w3.heap.size w3 w' → Below w3.heap.size w3 w' ∧ w'.cell? ⟨g, 2, none⟩ = some (.int .i64 T2) ∧ w'.cell? ⟨g, 3, none⟩ = some (.int .i64 T3)) := Lib.hid fun w' hb => ⟨hb, later hb f2, later hb f3⟩
    clear hbn f2 f3
    go_region_held3 (fun w' => Below w3.heap.size w3 w' ∧ w'.cell? ⟨g, 2, none⟩ = some (.int .i64 T2) ∧ w'.cell? ⟨g, 3, none⟩ = some (.int .i64 T3))
      (first | exact HK.out _ (by repeat (first | (with_reducible exact Below.refl _ _) | (with_reducible apply below_drew) | (with_reducible refine below_join ?_ (by assumption)) | exact (‹Below w3.heap.size w3 _ ∧ _›.1))))
      (first
        | (go_at_call 77; with_reducible refine (HA.out _).mono ?_; rintro e wq ⟨rfl, hbq⟩)
        | (go_at_call 77; with_reducible refine (HB.out _).mono ?_; rintro e wq ⟨rfl, hbq⟩))
    all_goals
      have hend := below_join hw2 ‹Below w3.heap.size w3 _ ∧ _›.1
      go_wp2_with fail
      go_ret3
      exact ⟨rfl, hend⟩
  · have F1 : (e0 != 0) = true := by simpa using he
    rw [if_neg he]
    clear he
    go_enter Tryz.func56, Tryz.ntmps56
    go_wp2_with fail
    with_reducible refine H.out.mono ?_; rintro e w1 ⟨rfl, hb⟩
    have hw1 := hbw.trans (hb.mono hbw.size)
    clear hW H hb c0 c1 c2 c3 c4 c5 c6 c7 c8 c9 c10 c11 c12 c13 c14 c15 hbw hbx
    go_wp2_with fail
    go_ret3
    exact ⟨rfl, hw1⟩
end Go.Proofs.YtndpdbofoojkhaaGreat.Lv
