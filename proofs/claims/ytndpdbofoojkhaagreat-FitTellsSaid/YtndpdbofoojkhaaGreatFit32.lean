/- The reference: whether pieces may be (May), and their glyphs (Plain, Glyphs). -/
import Derived.Test.YtndpdbofoojkhaaGreatFit31
import Derived.Test.YtndpdbofoojkhaaGreatFit23
import Derived.Test.YtndpdbofoojkhaaGreatRLevel2
import Derived.Test.YtndpdbofoojkhaaGreatFit21
import Derived.Test.YtndpdbofoojkhaaGreatFit26
import Derived.Deep.AppendLies
namespace Go.Proofs.YtndpdbofoojkhaaGreat.Ft
open Go.RowKit Go.Proofs.YtndpdbofoojkhaaGreat.Kit Go.Proofs.YtndpdbofoojkhaaGreat.Fo Go.Proofs.YtndpdbofoojkhaaGreat.Lv
set_option linter.unusedVariables false
set_option linter.unusedSimpArgs false

set_option maxHeartbeats 1000000 in
theorem rmay18_any (A : Option Addr) (c : Nat) (L : List (List Int)) (w : World) (hx : Heads w A L) (hl : L.length ≤ 1000) (hs : ∀ x ∈ L, x.length ≤ 1000) :
    Calls Tryz.prog 22 #[.slice A L.length c] w fun e w' => e = .returned (.bool (mayP L)) ∧ w = w' := by
  have HH := Lib.hid hx
  have HSz := Lib.hid hs
  have HT := Lib.hid (sumP_le 1000 L hs)
  clear hx hs
  obtain ⟨q, hq⟩ : ∃ q, Hid (mayP L = q) := ⟨_, Lib.hid rfl⟩
  rw [hq.out]
  go_enter Tryz.func22, Tryz.ntmps22
  go_wp2_with fail
  go_loopw [3, 4] (fun s i wr => ∃ k : Nat, k ≤ L.length ∧ s = .int .i64 (sumP (L.take k) : Nat) ∧ i = .int .i64 (k : Int) ∧ Hid ((L.take k).any (·.isEmpty) = false) ∧ w = wr) (fun _ i _ => L.length - (intOf i).toNat)
  case atStart => exact ⟨0, by omega, rfl, rfl, Lib.hid rfl, rfl⟩
  case round =>
    rename World => wr
    obtain ⟨k, hk, rfl, rfl, HE, rfl⟩ := hrel
    by_cases hlt : k < L.length
    · obtain ⟨x, hxk⟩ := at_lt hlt
      obtain ⟨b, o, A', c', rfl, _, hc⟩ := HH.out k x hxk
      have HN := Lib.hid (sumP_snoc hxk)
      have h1 := sumP_take L k
      have h2 := HT.out
      have h3 := HSz.out x (List.mem_of_getElem? hxk)
      have h4 : sumP (L.take k) ≤ 1000000 := by omega
      have HXK := Lib.hid hxk
      generalize sumP (L.take k) = s at *
      clear h1 h2 hxk
      by_cases h0 : x.length = 0
      · have F1 : ((x.length : Int) == 0) = true := by simp [h0]
        have HV : Hid (false = q) := Lib.hid (by
          have h5 : L.any (·.isEmpty) = true := List.any_eq_true.2 ⟨x, List.mem_of_getElem? HXK.out, by rw [List.eq_nil_of_length_eq_zero h0]; rfl⟩
          rw [← hq.out, mayP, h5]; simp)
        clear h0
        go_wp2_with fail
        go_ret
        exact ⟨ret_bool rfl HV.out, rfl⟩
      · have F1 : ((x.length : Int) == 0) = false := by simp [h0]
        have HE2 : Hid ((L.take (k + 1)).any (·.isEmpty) = false) := Lib.hid (by
          rw [List.take_add_one, HXK.out, List.any_append, HE.out]
          cases x with
          | nil => simp at h0
          | cons y x => rfl)
        clear h0
        go_wp2_with fail
        go_roundw
        case rel => exact ⟨k + 1, by omega, by rw [HN.out]; go_num, by go_num, HE2, trivial⟩
        case measure => simp [intOf]; omega
    · have HN : Hid (sumP (L.take k) = sumP L) := Lib.hid (by rw [List.take_of_length_le (by omega)])
      have h2 := HT.out
      have h4 : sumP L ≤ 1000000 := by omega
      rw [HN.out]
      have HQ : Hid (q = (decide (1 ≤ (L.length : Int)) && decide ((L.length : Int) ≤ 100) && decide ((sumP L : Int) ≤ 401))) := Lib.hid (by
        have h5 := HE.out
        rw [List.take_of_length_le (by omega)] at h5
        rw [← hq.out, mayP, h5]
        have e1 : decide (1 ≤ L.length) = decide (1 ≤ (L.length : Int)) := decide_eq_decide.2 (by omega)
        have e2 : decide (L.length ≤ 100) = decide ((L.length : Int) ≤ 100) := decide_eq_decide.2 (by omega)
        have e3 : decide (sumP L ≤ 401) = decide ((sumP L : Int) ≤ 401) := decide_eq_decide.2 (by omega)
        rw [e1, e2, e3]; simp)
      clear h2
      generalize sumP L = s at *
      by_cases g1 : 1 ≤ (L.length : Int)
      · rw [decide_eq_true g1] at HQ
        by_cases g2 : (L.length : Int) ≤ 100
        · rw [decide_eq_true g2] at HQ
          by_cases g3 : (s : Int) ≤ 401
          · rw [decide_eq_true g3] at HQ
            go_wp2_with fail
            go_ret
            exact ⟨ret_bool rfl (by rw [HQ.out]; rfl), rfl⟩
          · rw [decide_eq_false g3] at HQ
            go_wp2_with fail
            go_ret
            exact ⟨ret_bool rfl (by rw [HQ.out]; rfl), rfl⟩
        · rw [decide_eq_false g2] at HQ
          go_wp2_with fail
          go_ret
          exact ⟨ret_bool rfl (by rw [HQ.out]; simp), rfl⟩
      · rw [decide_eq_false g1] at HQ
        go_wp2_with fail
        go_ret
        exact ⟨ret_bool rfl (by rw [HQ.out]; simp), rfl⟩
theorem rows_next {w0 wr V w6 w7 : World} {d : FontD} {P : List (List Int)} {k : Nat} {v : Value} {us : List Value} {p : List Int} {Ag : Option Addr} {cg gA capA : Nat} {ob : Obj}
    (h1 : us.length = k) (h2 : wr.ownsRow w0.heap.size 55 1 v k us) (h3 : ∀ u ∈ us, u.oneCell' = true) (h4 : ∀ (i : Nat) (p : List Int), i < k → P[i]? = some p → ∃ A c, us[i]? = some (.slice A (setG d p).length c) ∧ GP (fun b => w0.heap.size ≤ b ∧ some b ≠ v.ownBlock) wr A (setG d p))
    (hp : P[k]? = some p) (hw0 : w0.heap.size ≤ wr.heap.size) (hV : Below wr.heap.size wr V) (hg6 : GRow V.heap.size w6 Ag (setG d p)) (hb6 : Below V.heap.size V w6)
    (hown7 : w7.ownsRow w0.heap.size 55 1 (.slice (some ⟨gA, 0, none⟩) (k + 1) capA) (k + 1) (us ++ [.slice Ag (setG d p).length cg])) (hgA : (w6.alloc ob).grownBy w7 v.ownBlock) (hat : v.ownBlock = some gA ∨ gA = (w6.alloc ob).heap.size) :
    Rows w0 w7 d P (k + 1) (.slice (some ⟨gA, 0, none⟩) (k + 1) capA) := by
  have hb : Below wr.heap.size wr (w6.alloc ob) := below_alloc (below_join hV hb6) ob
  have hb4 := below_alloc (Below.refl w6.heap.size w6) ob
  refine Rows.push (w := w6.alloc ob) (own_setSize h2 hb) h1 h3 (fun i q hi hq => ?_) hp ?_ hown7 hgA (hat.imp (fun e => e.symm) (fun e => by rw [← e]; rfl))
  · obtain ⟨A5, c5, h5, h6⟩ := h4 i q hi hq
    exact ⟨A5, c5, h5, h6.keep hb.size fun b hpb hl => ⟨hb.block b hl, hpb⟩⟩
  · refine GP.keep (P := fun b => V.heap.size ≤ b) hg6 hb4.size fun b hpb hl => ⟨hb4.block b hl, by have := hV.size; omega, fun e => ?_⟩
    have := own_lt h2 e.symm
    have := hV.size
    omega
set_option maxRecDepth 100000 in
set_option maxHeartbeats 8000000 in
theorem rplain18_any (d : FaceD) (a : FaceA) (Ap : Option Addr) (c : Nat) (P : List (List Int)) (w : World) {B : Nat} (hB : B ≤ w.heap.size) (hF : FaceIn w B d a) (hL : ligB d.font = true) (hx : Row (Rep.int .i64).slice w B Ap P) (hl : P.length ≤ 1000) (hs : ∀ x ∈ P, x.length ≤ 1000) (hh : ∀ p ∈ P, ∀ x ∈ p, hasB d.font x = true) :
    Calls Tryz.prog 24 #[faceV d a, .slice Ap P.length c] w fun e w' => ∃ Ag cg, e = .returned (.slice Ag P.length cg) ∧ GG (fun b => w.heap.size ≤ b) w' Ag (P.map (setG d.font)) ∧ Below w.heap.size w w' := by
  have hbx := Box.new w (faceCells d a) 29
  have hbw := below_alloc (Below.refl w.heap.size w) (.cells (faceCells d a) 29)
  obtain ⟨W1, hW⟩ : ∃ W1, w.alloc (.cells (faceCells d a) 29) = W1 := ⟨_, rfl⟩
  rw [hW] at hbx hbw
  have HFF : Hid (∀ V, Below W1.heap.size W1 V → Below w.heap.size w V) := Lib.hid fun V hb => below_join hbw hb
  have HCall : Hid (∀ V p A' c', Below W1.heap.size W1 V → Row (Rep.int .i64) V B A' p → p ∈ P → Calls Tryz.prog 50 #[fontV d.font a.font, .slice A' p.length c'] V fun e w' => ∃ Ag cg, e = .returned (.slice Ag (setG d.font p).length cg) ∧ GRow V.heap.size w' Ag (setG d.font p) ∧ Below V.heap.size V w') :=
    Lib.hid fun V p A' c' hb hr hp => plain8_any d.font a.font A' c' p V (B := B) (Nat.le_trans hB (HFF.out V hb).size) (hF.font.mono ((HFF.out V hb).mono hB)) hL hr (hs p hp) (hh p hp)
  have HX := Lib.hid hx
  have HBX := Lib.hid hbx
  have HBW := Lib.hid hbw
  have hW1s := hbw.size
  clear hF hx hL hs hh
  unfold fontV at HCall
  go_enter Tryz.func24, Tryz.ntmps24
  go_wp2_with fail
  clear hbx hbw hW
  go_loopw [5, 6] (fun v i wr => ∃ k : Nat, k ≤ P.length ∧ i = .int .i64 (k : Int) ∧ Hid (Rows W1 wr d.font P k v) ∧ Below W1.heap.size W1 wr) (fun _ i _ => P.length - (intOf i).toNat)
  case atStart => exact ⟨0, by omega, rfl, Lib.hid (Rows.start _ _ _ _), Below.refl _ _⟩
  case round =>
    rename World => wr
    obtain ⟨k, hk, rfl, HO, hbr⟩ := hrel
    by_cases hlt : k < P.length
    · obtain ⟨p, hp⟩ := at_lt hlt
      obtain ⟨b, o, A', c', rfl, hbB, hcc, hrow⟩ := piece_at (HX.out.mono ((HFF.out wr hbr).mono hB)) hp
      have HP := Lib.hid hp
      have HC : Hid (∀ V, Below wr.heap.size wr V → _) := Lib.hid fun V (hv : Below wr.heap.size wr V) => HCall.out V p A' c' (below_join hbr hv) (hrow.mono (hv.mono (by have := (HFF.out wr hbr).size; omega))) (List.mem_of_getElem? HP.out)
      obtain ⟨⟨c0, c1, c2, c3, c4, c5, c6, c7, c8, c9, c10⟩, c11, c12, c13, c14, c15⟩ := face_cells (HBX.out.below hbr)
      have hws := hbr.size
      obtain ⟨us, h1, h2, h3, h4⟩ := HO.out
      have HA := Lib.hid (And.intro h1 (And.intro h2 (And.intro h3 h4)))
      have hbB1 : b < W1.heap.size := by omega
      obtain ⟨N, hN⟩ : ∃ N, Hid ((setG d.font p).length = N) := ⟨_, Lib.hid rfl⟩
      rw [hN.out] at HC
      have HKe : Hid (∀ w', Below W1.heap.size W1 w' → Below W1.heap.size W1 w' ∧ w'.cell? ⟨w.heap.size, 0, none⟩ = some (.int .i64 d.font.sum) ∧ w'.cell? ⟨w.heap.size, 1, none⟩ = some (.int .i64 d.font.design) ∧ w'.cell? ⟨w.heap.size, 2, none⟩ = some (.int .i64 d.font.first) ∧ w'.cell? ⟨w.heap.size, 3, none⟩ = some (.slice a.font.c d.font.chars.length a.font.cc) ∧ w'.cell? ⟨w.heap.size, 4, none⟩ = some (.slice a.font.w d.font.widths.length a.font.cw) ∧ w'.cell? ⟨w.heap.size, 5, none⟩ = some (.slice a.font.h d.font.heights.length a.font.ch) ∧ w'.cell? ⟨w.heap.size, 6, none⟩ = some (.slice a.font.d d.font.depths.length a.font.cd) ∧ w'.cell? ⟨w.heap.size, 7, none⟩ = some (.slice a.font.i d.font.italics.length a.font.ci) ∧ w'.cell? ⟨w.heap.size, 8, none⟩ = some (.slice a.font.s d.font.steps.length a.font.cs) ∧ w'.cell? ⟨w.heap.size, 9, none⟩ = some (.slice a.font.k d.font.kerns.length a.font.ck) ∧ w'.cell? ⟨w.heap.size, 10, none⟩ = some (.slice a.font.p d.font.params.length a.font.cp) ∧ w'.cell? ⟨b, o + k, none⟩ = some (.slice A' p.length c')) := Lib.hid fun w' hb => by
        obtain ⟨⟨c0, c1, c2, c3, c4, c5, c6, c7, c8, c9, c10⟩, c11, c12, c13, c14, c15⟩ := face_cells (HBX.out.below hb)
        exact ⟨hb, c0, c1, c2, c3, c4, c5, c6, c7, c8, c9, c10, (hb.cell (p := ⟨b, o + k, none⟩) hbB1).trans ((hbr.cell (p := ⟨b, o + k, none⟩) hbB1).symm.trans hcc)⟩
      obtain ⟨i0, hi0, hz0, hz1, hz2⟩ := info_parts info_gs
      clear hp hrow c0 c1 c2 c3 c4 c5 c6 c7 c8 c9 c10 c11 c12 c13 c14 c15 hcc h3 h4 HO
      go_upto_region 5 with fail
      go_region_held3 (fun w' => Below W1.heap.size W1 w' ∧ w'.cell? ⟨w.heap.size, 0, none⟩ = some (.int .i64 d.font.sum) ∧ w'.cell? ⟨w.heap.size, 1, none⟩ = some (.int .i64 d.font.design) ∧ w'.cell? ⟨w.heap.size, 2, none⟩ = some (.int .i64 d.font.first) ∧ w'.cell? ⟨w.heap.size, 3, none⟩ = some (.slice a.font.c d.font.chars.length a.font.cc) ∧ w'.cell? ⟨w.heap.size, 4, none⟩ = some (.slice a.font.w d.font.widths.length a.font.cw) ∧ w'.cell? ⟨w.heap.size, 5, none⟩ = some (.slice a.font.h d.font.heights.length a.font.ch) ∧ w'.cell? ⟨w.heap.size, 6, none⟩ = some (.slice a.font.d d.font.depths.length a.font.cd) ∧ w'.cell? ⟨w.heap.size, 7, none⟩ = some (.slice a.font.i d.font.italics.length a.font.ci) ∧ w'.cell? ⟨w.heap.size, 8, none⟩ = some (.slice a.font.s d.font.steps.length a.font.cs) ∧ w'.cell? ⟨w.heap.size, 9, none⟩ = some (.slice a.font.k d.font.kerns.length a.font.ck) ∧ w'.cell? ⟨w.heap.size, 10, none⟩ = some (.slice a.font.p d.font.params.length a.font.cp) ∧ w'.cell? ⟨b, o + k, none⟩ = some (.slice A' p.length c'))
        (first
          | exact HKe.out _ hb7
          | exact HKe.out _ (by repeat (first | (with_reducible exact Below.refl _ _) | (with_reducible apply below_drew) | (with_reducible apply below_alloc) | (with_reducible refine below_join ?_ (by assumption)) | exact (‹Below W1.heap.size W1 _ ∧ _›.1))))
        (first
          | (go_at_call 50; (with_reducible refine (HC.out _ (by repeat (first | (with_reducible exact Below.refl _ _) | (with_reducible apply below_drew)))).mono ?_); rintro e w6 ⟨Ag, cg, rfl, hg6, hb6⟩; have hown6 := own_setSize h2 (show Below wr.heap.size wr w6 from (by first | exact hb6 | exact below_join (below_drew (Below.refl _ _)) hb6)))
          | (refine step_append_lies _ (by rfl) _ _ _ (by rfl) W1.heap.size 55 i0 (.slice none 0 0) 1 24 Tryz.underlying41 hi0 hz0 hz1 hz2 rfl (by omega) u5 k us (by rfl) (by first | exact hown6.alloc _ | exact (hown6.alloc _).drew | exact hown6.drew.alloc _) ⟨w6.heap.size, 0, none⟩ 1 1 [.slice Ag N cg] (by rfl) (by rfl) (World.news_of_block (cs := #[.slice Ag N cg]) (t := 55) (fr := (0, 0)) (by exact heap_alloc_new w6 _)) (by simp [Value.oneCell']) (by omega) (by unfold maxLen; omega) (by omega) (‹Below W1.heap.size W1 _ ∧ _›.1.size) _ rfl ?_; intro gA capA w7 hown7 hgA hatA hltA
             have hb7 := Below.grown (‹Below W1.heap.size W1 _ ∧ _›.1) hgA (‹Below W1.heap.size W1 _ ∧ _›.1.size) (fun kk e => own_base hown6 kk e)))
      all_goals (go_wp2_with fail; go_roundw)
      all_goals first
        | (refine ⟨k + 1, by omega, by go_num, Lib.hid ?_, hb7⟩
           obtain ⟨h1, h2, h3, h4⟩ := HA.out
           rw [← hN.out] at hown7
           exact rows_next h1 h2 h3 h4 HP.out hws (by first | exact Below.refl _ _ | exact below_drew (Below.refl _ _)) hg6 hb6 hown7 hgA hatA)
        | (simp [intOf]; omega)
    · have hk2 : k = P.length := by omega
      subst hk2
      obtain ⟨Ag, cg, rfl, hgg⟩ := HO.out.done
      have HGG := Lib.hid hgg
      have hend := below_join HBW.out hbr
      clear hgg hlt
      go_wp2_with fail
      go_ret
      exact ⟨Ag, cg, rfl, HGG.out.keep (Nat.le_refl _) fun b hb _ => ⟨rfl, by omega⟩, hend⟩
theorem setE_eq {d : FontD} (hL : ligB d = true) (p : List Int) : setE d p = if p.any (badC d) then 80 else 0 := by rw [setE, if_pos hL]
theorem has_of {d : FontD} {p : List Int} (h : p.any (badC d) = false) : ∀ x ∈ p, hasB d x = true := fun x hx => by
  have h1 := List.any_eq_false.1 h x hx
  simp [badC] at h1
  exact h1.2
set_option maxRecDepth 100000 in
set_option maxHeartbeats 8000000 in
theorem rglyphs_any (d : FaceD) (a : FaceA) (Ap : Option Addr) (c : Nat) (P : List (List Int)) (w : World) {B : Nat} (hB : B ≤ w.heap.size) (hF : FaceIn w B d a) (hL : ligB d.font = true) (hx : Row (Rep.int .i64).slice w B Ap P) (hl : P.length ≤ 1000) (hs : ∀ x ∈ P, x.length ≤ 1000) :
    Calls Tryz.prog 10 #[faceV d a, .slice Ap P.length c] w fun e w' => ∃ Ag cg, e = .returned (.tuple #[.slice Ag (allG d.font P).length cg, .int .i64 (allE d.font P)]) ∧ GG (fun b => w.heap.size ≤ b) w' Ag (allG d.font P) ∧ Below w.heap.size w w' := by
  have hbx := Box.new w (faceCells d a) 29
  have hbw := below_alloc (Below.refl w.heap.size w) (.cells (faceCells d a) 29)
  obtain ⟨W1, hW⟩ : ∃ W1, w.alloc (.cells (faceCells d a) 29) = W1 := ⟨_, rfl⟩
  rw [hW] at hbx hbw
  have HFF : Hid (∀ V, Below W1.heap.size W1 V → Below w.heap.size w V) := Lib.hid fun V hb => below_join hbw hb
  have HM := Lib.hid (rmay18_any Ap c P W1 ((heads_row hB hx).below hbw) hl hs)
  have HCall : Hid (∀ V p A' c', Below W1.heap.size W1 V → Row (Rep.int .i64) V B A' p → p ∈ P → Calls Tryz.prog 23 #[fontV d.font a.font, .slice A' p.length c'] V fun e w' => e = .returned (.bool (!(p.any (badC d.font)))) ∧ Below V.heap.size V w') :=
    Lib.hid fun V p A' c' hb hr hp => chars_any d.font a.font A' c' p V (B := B) (Nat.le_trans hB (HFF.out V hb).size) (hF.font.mono ((HFF.out V hb).mono hB)) (lig_tfm hL) hr (hs p hp)
  have HPl : Hid (∀ V, Below W1.heap.size W1 V → (∀ p ∈ P, ∀ x ∈ p, hasB d.font x = true) → Calls Tryz.prog 24 #[faceV d a, .slice Ap P.length c] V fun e w' => ∃ Ag cg, e = .returned (.slice Ag P.length cg) ∧ GG (fun b => V.heap.size ≤ b) w' Ag (P.map (setG d.font)) ∧ Below V.heap.size V w') :=
    Lib.hid fun V hb hh => rplain18_any d a Ap c P V (B := B) (Nat.le_trans hB (HFF.out V hb).size) (hF.mono ((HFF.out V hb).mono hB)) hL (hx.mono ((HFF.out V hb).mono hB)) hl hs hh
  have HX := Lib.hid hx
  have HBX := Lib.hid hbx
  have HBW := Lib.hid hbw
  have HLg := Lib.hid hL
  have hW1s := hbw.size
  obtain ⟨E, hE⟩ : ∃ E, Hid (allE d.font P = E) := ⟨_, Lib.hid rfl⟩
  obtain ⟨XS, hXS⟩ : ∃ XS, Hid (allG d.font P = XS) := ⟨_, Lib.hid rfl⟩
  rw [hE.out, hXS.out]
  clear hF hx hL hs
  unfold fontV at HCall
  cases hm : mayP P with
  | false =>
    rw [hm] at HM
    have H1 : Hid (E = 1 ∧ XS = []) := Lib.hid (by
      have : allE d.font P = 1 := by rw [allE, hm]; rfl
      rw [← hE.out, ← hXS.out, allG, this]; simp)
    obtain ⟨rfl, rfl⟩ := H1.out
    clear hm H1 hE hXS HCall HPl
    go_enter Tryz.func10, Tryz.ntmps10
    go_wp2_with fail
    with_reducible refine HM.out.mono ?_
    rintro e w2 ⟨rfl, rfl⟩
    go_wp2_with fail
    go_ret2
    exact ⟨none, 0, rfl, fun i x hx => by simp at hx, HBW.out⟩
  | true =>
    rw [hm] at HM
    have H1 : Hid (E = glyE d.font P) := Lib.hid (by rw [← hE.out, allE, hm]; rfl)
    have H2 : Hid (E = 0 → XS = P.map (setG d.font)) := Lib.hid (fun h => by rw [← hXS.out, allG, hE.out, if_pos h])
    have H3 : Hid (E ≠ 0 → XS = []) := Lib.hid (fun h => by rw [← hXS.out, allG, hE.out, if_neg h])
    clear hm hE hXS
    go_enter Tryz.func10, Tryz.ntmps10
    go_wp2_with fail
    with_reducible refine HM.out.mono ?_
    rintro e w2 ⟨rfl, rfl⟩
    clear HM
    clear hbx hbw hW
    go_wp2_with fail
    go_loopw [7] (fun i wr => ∃ k : Nat, k ≤ P.length ∧ i = .int .i64 (k : Int) ∧ Hid (E = glyE d.font (P.drop k)) ∧ Hid (∀ j p, j < k → P[j]? = some p → p.any (badC d.font) = false) ∧ Below W1.heap.size W1 wr) (fun i _ => P.length - (intOf i).toNat)
    case atStart => exact ⟨0, by omega, rfl, Lib.hid (by rw [H1.out, List.drop_zero]), Lib.hid (fun j p h => by omega), Below.refl _ _⟩
    case round =>
      rename World => wr
      obtain ⟨k, hk, rfl, HE, HN, hbr⟩ := hrel
      by_cases hlt : k < P.length
      · obtain ⟨p, hp⟩ := at_lt hlt
        obtain ⟨b, o, A', c', rfl, hbB, hcc, hrow⟩ := piece_at (HX.out.mono ((HFF.out wr hbr).mono hB)) hp
        have HP := Lib.hid hp
        have HC : Hid (∀ V, Below wr.heap.size wr V → _) := Lib.hid fun V (hv : Below wr.heap.size wr V) => HCall.out V p A' c' (below_join hbr hv) (hrow.mono (hv.mono (by have := (HFF.out wr hbr).size; omega))) (List.mem_of_getElem? HP.out)
        obtain ⟨⟨c0, c1, c2, c3, c4, c5, c6, c7, c8, c9, c10⟩, c11, c12, c13, c14, c15⟩ := face_cells (HBX.out.below hbr)
        have HEn := Lib.hid (glyE_next (d := d.font) hp)
        have HKe : Hid (∀ w', Below wr.heap.size wr w' → Below wr.heap.size wr w' ∧ w'.cell? ⟨w.heap.size, 0, none⟩ = some (.int .i64 d.font.sum) ∧ w'.cell? ⟨w.heap.size, 1, none⟩ = some (.int .i64 d.font.design) ∧ w'.cell? ⟨w.heap.size, 2, none⟩ = some (.int .i64 d.font.first) ∧ w'.cell? ⟨w.heap.size, 3, none⟩ = some (.slice a.font.c d.font.chars.length a.font.cc) ∧ w'.cell? ⟨w.heap.size, 4, none⟩ = some (.slice a.font.w d.font.widths.length a.font.cw) ∧ w'.cell? ⟨w.heap.size, 5, none⟩ = some (.slice a.font.h d.font.heights.length a.font.ch) ∧ w'.cell? ⟨w.heap.size, 6, none⟩ = some (.slice a.font.d d.font.depths.length a.font.cd) ∧ w'.cell? ⟨w.heap.size, 7, none⟩ = some (.slice a.font.i d.font.italics.length a.font.ci) ∧ w'.cell? ⟨w.heap.size, 8, none⟩ = some (.slice a.font.s d.font.steps.length a.font.cs) ∧ w'.cell? ⟨w.heap.size, 9, none⟩ = some (.slice a.font.k d.font.kerns.length a.font.ck) ∧ w'.cell? ⟨w.heap.size, 10, none⟩ = some (.slice a.font.p d.font.params.length a.font.cp) ∧ w'.cell? ⟨b, o + k, none⟩ = some (.slice A' p.length c')) := Lib.hid fun w' hb => ⟨hb, later hb c0, later hb c1, later hb c2, later hb c3, later hb c4, later hb c5, later hb c6, later hb c7, later hb c8, later hb c9, later hb c10, later hb hcc⟩
        clear hp hrow c0 c1 c2 c3 c4 c5 c6 c7 c8 c9 c10 c11 c12 c13 c14 c15 hcc
        have HSE := Lib.hid (setE_eq HLg.out p)
        cases hbd : p.any (badC d.font) with
        | true =>
          rw [hbd] at HC
          have HEk : Hid (E = 80) := Lib.hid (by rw [HE.out, HEn.out, HSE.out, hbd]; rfl)
          have HXk := Lib.hid (H3.out (by rw [HEk.out]; decide))
          clear hbd
          go_upto_region 7 with fail
          go_region_held3 (fun w' => Below wr.heap.size wr w' ∧ w'.cell? ⟨w.heap.size, 0, none⟩ = some (.int .i64 d.font.sum) ∧ w'.cell? ⟨w.heap.size, 1, none⟩ = some (.int .i64 d.font.design) ∧ w'.cell? ⟨w.heap.size, 2, none⟩ = some (.int .i64 d.font.first) ∧ w'.cell? ⟨w.heap.size, 3, none⟩ = some (.slice a.font.c d.font.chars.length a.font.cc) ∧ w'.cell? ⟨w.heap.size, 4, none⟩ = some (.slice a.font.w d.font.widths.length a.font.cw) ∧ w'.cell? ⟨w.heap.size, 5, none⟩ = some (.slice a.font.h d.font.heights.length a.font.ch) ∧ w'.cell? ⟨w.heap.size, 6, none⟩ = some (.slice a.font.d d.font.depths.length a.font.cd) ∧ w'.cell? ⟨w.heap.size, 7, none⟩ = some (.slice a.font.i d.font.italics.length a.font.ci) ∧ w'.cell? ⟨w.heap.size, 8, none⟩ = some (.slice a.font.s d.font.steps.length a.font.cs) ∧ w'.cell? ⟨w.heap.size, 9, none⟩ = some (.slice a.font.k d.font.kerns.length a.font.ck) ∧ w'.cell? ⟨w.heap.size, 10, none⟩ = some (.slice a.font.p d.font.params.length a.font.cp) ∧ w'.cell? ⟨b, o + k, none⟩ = some (.slice A' p.length c'))
            (first | exact HKe.out _ (by repeat (first | (with_reducible exact Below.refl _ _) | (with_reducible apply below_drew) | (with_reducible apply below_alloc) | (with_reducible refine below_join ?_ (by assumption)) | exact (‹Below wr.heap.size wr _ ∧ _›.1))))
            (first
              | (go_at_call 23; with_reducible refine (HC.out _ (by repeat (first | (with_reducible exact Below.refl _ _) | (with_reducible apply below_drew)))).mono ?_; rintro e wq ⟨rfl, hbq⟩))
          all_goals
            have hend := below_join hbr ‹Below wr.heap.size wr _ ∧ _›.1
            go_wp2_with fail
            go_ret2
          all_goals
            rw [HXk.out, HEk.out]
            exact ⟨none, 0, rfl, fun i x hx => by simp at hx, below_join HBW.out hend⟩
        | false =>
          rw [hbd] at HC
          have HEk : Hid (E = glyE d.font (P.drop (k + 1))) := Lib.hid (by rw [HE.out, HEn.out, HSE.out, hbd]; rfl)
          have HNk : Hid (∀ j p, j < k + 1 → P[j]? = some p → p.any (badC d.font) = false) := Lib.hid (fun j q hj hq => by
            by_cases e : j = k
            · subst e; rw [HP.out] at hq; cases hq; exact hbd
            · exact HN.out j q (by omega) hq)
          clear hbd
          go_upto_region 7 with fail
          go_region_held3 (fun w' => Below wr.heap.size wr w' ∧ w'.cell? ⟨w.heap.size, 0, none⟩ = some (.int .i64 d.font.sum) ∧ w'.cell? ⟨w.heap.size, 1, none⟩ = some (.int .i64 d.font.design) ∧ w'.cell? ⟨w.heap.size, 2, none⟩ = some (.int .i64 d.font.first) ∧ w'.cell? ⟨w.heap.size, 3, none⟩ = some (.slice a.font.c d.font.chars.length a.font.cc) ∧ w'.cell? ⟨w.heap.size, 4, none⟩ = some (.slice a.font.w d.font.widths.length a.font.cw) ∧ w'.cell? ⟨w.heap.size, 5, none⟩ = some (.slice a.font.h d.font.heights.length a.font.ch) ∧ w'.cell? ⟨w.heap.size, 6, none⟩ = some (.slice a.font.d d.font.depths.length a.font.cd) ∧ w'.cell? ⟨w.heap.size, 7, none⟩ = some (.slice a.font.i d.font.italics.length a.font.ci) ∧ w'.cell? ⟨w.heap.size, 8, none⟩ = some (.slice a.font.s d.font.steps.length a.font.cs) ∧ w'.cell? ⟨w.heap.size, 9, none⟩ = some (.slice a.font.k d.font.kerns.length a.font.ck) ∧ w'.cell? ⟨w.heap.size, 10, none⟩ = some (.slice a.font.p d.font.params.length a.font.cp) ∧ w'.cell? ⟨b, o + k, none⟩ = some (.slice A' p.length c'))
            (first | exact HKe.out _ (by repeat (first | (with_reducible exact Below.refl _ _) | (with_reducible apply below_drew) | (with_reducible apply below_alloc) | (with_reducible refine below_join ?_ (by assumption)) | exact (‹Below wr.heap.size wr _ ∧ _›.1))))
            (first
              | (go_at_call 23; with_reducible refine (HC.out _ (by repeat (first | (with_reducible exact Below.refl _ _) | (with_reducible apply below_drew)))).mono ?_; rintro e wq ⟨rfl, hbq⟩))
          all_goals
            have hend := below_join hbr ‹Below wr.heap.size wr _ ∧ _›.1
            go_wp2_with fail
            go_roundw
          all_goals first
            | (exact ⟨k + 1, by omega, by go_num, HEk, HNk, hend⟩)
            | (simp [intOf]; omega)
      · have hk2 : k = P.length := by omega
        subst hk2
        have HE0 : Hid (E = 0) := Lib.hid (by rw [HE.out, List.drop_length]; rfl)
        have HX0 := Lib.hid (H2.out HE0.out)
        have HC2 := Lib.hid (HPl.out wr hbr fun p hp => has_of (by
          obtain ⟨i, hi⟩ := List.mem_iff_getElem?.1 hp
          exact HN.out i p (List.getElem?_eq_some_iff.1 hi).1 hi))
        have hld := load_face (HBX.out.below hbr)
        obtain ⟨fv, hfv⟩ : ∃ fv, Hid (faceV d a = fv) := ⟨_, Lib.hid rfl⟩
        rw [hfv.out] at hld HC2
        clear hlt HCall HPl
        go_wp2_with (refine ld_any hld rfl _ rfl rfl ?_)
        with_reducible refine HC2.out.mono ?_
        rintro e w3 ⟨Ag, cg, rfl, hgg, hb3⟩
        have HGG := Lib.hid hgg
        have hend := below_join HBW.out (below_join hbr hb3)
        have hs3 := hbr.size
        clear hgg hld
        go_wp2_with fail
        go_ret2
        rw [HX0.out, HE0.out]
        exact ⟨Ag, cg, by rw [List.length_map]; rfl, HGG.out.keep (Nat.le_refl _) fun b hb _ => ⟨rfl, by omega⟩, hend⟩
end Go.Proofs.YtndpdbofoojkhaaGreat.Ft
