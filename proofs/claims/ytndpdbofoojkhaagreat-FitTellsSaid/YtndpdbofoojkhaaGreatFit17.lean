/- joined for a claim: Fit15, Fit16, Fit17 -/
import Derived.Test.YtndpdbofoojkhaaGreatFit14
import Derived.Test.YtndpdbofoojkhaaGreatFit9
import Derived.Test.YtndpdbofoojkhaaGreatFit5
/- Pieces' glyphs (Glyphs). -/
namespace Go.Proofs.YtndpdbofoojkhaaGreat.Ft
open Go.RowKit Go.Proofs.YtndpdbofoojkhaaGreat.Kit Go.Proofs.YtndpdbofoojkhaaGreat.Fo Go.Proofs.YtndpdbofoojkhaaGreat.Lv
set_option linter.unusedVariables false
set_option linter.unusedSimpArgs false

/-- Glyphs in blocks of a kind; rows of them. -/
def GP (P : Nat → Prop) (w : World) (A : Option Addr) (xs : List (Int × Int)) : Prop := ∀ (i : Nat) (x : Int × Int), xs[i]? = some x → ∃ b o, A = some ⟨b, o, none⟩ ∧ P b ∧ b < w.heap.size ∧ w.cell? ⟨b, o + i * 2, none⟩ = some (.int .i64 x.1) ∧ w.cell? ⟨b, o + i * 2 + 1, none⟩ = some (.int .i64 x.2)
theorem GP.keep {P Q : Nat → Prop} {w w' : World} {A : Option Addr} {xs : List (Int × Int)} (h : GP P w A xs) (hs : w.heap.size ≤ w'.heap.size) (hk : ∀ b, P b → b < w.heap.size → w'.heap[b]? = w.heap[b]? ∧ Q b) : GP Q w' A xs := by
  intro i x hx
  obtain ⟨b, o, rfl, h1, h2, h3, h4⟩ := h i x hx
  obtain ⟨k1, k2⟩ := hk b h1 h2
  exact ⟨b, o, rfl, k2, Nat.lt_of_lt_of_le h2 hs, (World.cell?_of_block (w := w) k1).trans h3, (World.cell?_of_block (w := w) k1).trans h4⟩
def GG (P : Nat → Prop) (w : World) (A : Option Addr) (G : List (List (Int × Int))) : Prop := ∀ (i : Nat) (g : List (Int × Int)), G[i]? = some g → ∃ b o A' c', A = some ⟨b, o, none⟩ ∧ P b ∧ b < w.heap.size ∧ w.cell? ⟨b, o + i, none⟩ = some (.slice A' g.length c') ∧ GP P w A' g
theorem GG.keep {P Q : Nat → Prop} {w w' : World} {A : Option Addr} {G : List (List (Int × Int))} (h : GG P w A G) (hs : w.heap.size ≤ w'.heap.size) (hk : ∀ b, P b → b < w.heap.size → w'.heap[b]? = w.heap[b]? ∧ Q b) : GG Q w' A G := by
  intro i x hx
  obtain ⟨b, o, A', c', rfl, h1, h2, h3, h4⟩ := h i x hx
  obtain ⟨k1, k2⟩ := hk b h1 h2
  exact ⟨b, o, A', c', rfl, k2, Nat.lt_of_lt_of_le h2 hs, (World.cell?_of_block (w := w) k1).trans h3, h4.keep hs hk⟩
theorem GG.below {P : Nat → Prop} {w w' : World} {A : Option Addr} {G : List (List (Int × Int))} (h : GG P w A G) (hb : Below w.heap.size w w') : GG P w' A G := h.keep hb.size fun b hp hl => ⟨hb.block b hl, hp⟩
theorem GG.off {m : Nat} {P : Nat → Prop} {w w' : World} {A : Option Addr} {G : List (List (Int × Int))} (h : GG P w A G) (hb : Off m w w') (hm : ∀ b, P b → b ≠ m) : GG P w' A G := h.keep hb.size fun b hp hl => ⟨hb.block b hl (hm b hp), hp⟩

def glyE (d : FontD) : List (List Int) → Int
  | [] => 0
  | p :: ps => if setE d p = 0 then glyE d ps else setE d p
def allE (d : FontD) (P : List (List Int)) : Int := if mayP P then glyE d P else 1
def allG (d : FontD) (P : List (List Int)) : List (List (Int × Int)) := if allE d P = 0 then P.map (setG d) else []
theorem glyE_next {d : FontD} {P : List (List Int)} {k : Nat} {p : List Int} (hp : P[k]? = some p) : glyE d (P.drop k) = if setE d p = 0 then glyE d (P.drop (k + 1)) else setE d p := by
  rw [drop_cons hp]; rfl
theorem font_in {d : FaceD} {a : FaceA} {r m n : Nat} {w : World} (h : Rul d a r m n w) : FontIn w m d.font a.font := h.face.font
/-- The rows so far. -/
def Rows (w0 w : World) (d : FontD) (P : List (List Int)) (k : Nat) (v : Value) : Prop := ∃ us : List Value, us.length = k ∧ w.ownsRow w0.heap.size 55 1 v k us ∧ (∀ u ∈ us, u.oneCell' = true) ∧
  ∀ (i : Nat) (p : List Int), i < k → P[i]? = some p → ∃ A c, us[i]? = some (.slice A (setG d p).length c) ∧ GP (fun b => w0.heap.size ≤ b ∧ some b ≠ v.ownBlock) w A (setG d p)
theorem Rows.start (w0 w : World) (d : FontD) (P : List (List Int)) : Rows w0 w d P 0 (.slice none 0 0) := ⟨[], rfl, own_nil _ _ _ _, by simp, fun i p hi => by omega⟩
theorem Rows.below {w0 w w' : World} {d : FontD} {P : List (List Int)} {k : Nat} {v : Value} (h : Rows w0 w d P k v) (hb : Below w.heap.size w w') : Rows w0 w' d P k v := by
  obtain ⟨us, h1, h2, h3, h4⟩ := h
  refine ⟨us, h1, own_setSize h2 hb, h3, fun i p hi hp => ?_⟩
  obtain ⟨A, c, h5, h6⟩ := h4 i p hi hp
  exact ⟨A, c, h5, h6.keep hb.size fun b hpb hl => ⟨hb.block b hl, hpb⟩⟩
theorem Rows.push {w0 w w' : World} {d : FontD} {P : List (List Int)} {k : Nat} {v v' : Value} {us : List Value} {p : List Int} {A : Option Addr} {c : Nat}
    (hown : w.ownsRow w0.heap.size 55 1 v k us) (h1 : us.length = k) (h3 : ∀ u ∈ us, u.oneCell' = true) (h4 : ∀ (i : Nat) (p : List Int), i < k → P[i]? = some p → ∃ A c, us[i]? = some (.slice A (setG d p).length c) ∧ GP (fun b => w0.heap.size ≤ b ∧ some b ≠ v.ownBlock) w A (setG d p))
    (hp : P[k]? = some p) (hr : GP (fun b => w0.heap.size ≤ b ∧ some b ≠ v.ownBlock) w A (setG d p))
    (h2 : w'.ownsRow w0.heap.size 55 1 v' (k + 1) (us ++ [.slice A (setG d p).length c])) (hg : w.grownBy w' v.ownBlock) (ha : v'.ownBlock = v.ownBlock ∨ v'.ownBlock = some w.heap.size) : Rows w0 w' d P (k + 1) v' := by
  have hk : ∀ b, (w0.heap.size ≤ b ∧ some b ≠ v.ownBlock) → b < w.heap.size → w'.heap[b]? = w.heap[b]? ∧ (w0.heap.size ≤ b ∧ some b ≠ v'.ownBlock) := fun b hb hl => by
    refine ⟨hg.block b hl hb.2, hb.1, ?_⟩
    rcases ha with e | e
    · rw [e]; exact hb.2
    · rw [e]; intro e2; injection e2 with e2; omega
  refine ⟨_, by simp [h1], h2, fun u hu => ?_, fun i q hi hq => ?_⟩
  · rcases List.mem_append.1 hu with hu | hu
    · exact h3 u hu
    · rw [List.mem_singleton.1 hu]; rfl
  · by_cases hik : i < k
    · obtain ⟨A', c', h5, h6⟩ := h4 i q hik hq
      exact ⟨A', c', by rw [List.getElem?_append_left (by omega)]; exact h5, h6.keep hg.size hk⟩
    · have : i = k := by omega
      subst this
      rw [hp] at hq
      cases hq
      exact ⟨A, c, by rw [List.getElem?_append_right (by omega), h1, Nat.sub_self]; rfl, hr.keep hg.size hk⟩
theorem Rows.done {w0 w : World} {d : FontD} {P : List (List Int)} {v : Value} (h : Rows w0 w d P P.length v) : ∃ A c, v = .slice A P.length c ∧ GG (fun b => w0.heap.size ≤ b) w A (P.map (setG d)) := by
  obtain ⟨us, h1, h2, h3, h4⟩ := h
  rcases h2.2 with ⟨rfl, h0⟩ | ⟨g, cap, cur, rfl, hb, hg, h5, h6, h7, h8⟩
  · have : P = [] := List.eq_nil_of_length_eq_zero h0
    subst this
    exact ⟨none, 0, rfl, fun i x hx => by simp at hx⟩
  · refine ⟨_, cap, rfl, fun i x hx => ?_⟩
    rw [List.getElem?_map, Option.map_eq_some_iff] at hx
    obtain ⟨p, hp, rfl⟩ := hx
    have hi : i < P.length := (List.getElem?_eq_some_iff.1 hp).1
    obtain ⟨A', c', hu, hgp⟩ := h4 i p hi hp
    have hc := h2.cellAt (g := g) (cap := cap) i (by omega)
    rw [hu] at hc
    exact ⟨g, 0, A', c', rfl, hb, (Array.getElem?_eq_some_iff.1 hg).1, by rw [Nat.zero_add]; exact hc, hgp.keep (Nat.le_refl _) fun b hb _ => ⟨rfl, hb.1⟩⟩
theorem info_gs : (Tryz.prog.info? 55).map (fun i => (i.zero, i.size, i.bytes)) = some (some (.slice none 0 0), 1, 24) := by kernel_rfl
theorem own_lt {w : World} {base n sz : Nat} {e : TypeId} {v : Value} {xs : List Value} (h : w.ownsRow base e sz v n xs) {k : Nat} (hk : v.ownBlock = some k) : k < w.heap.size := (h.lt k hk).2
theorem rul_font {w : World} {g : Nat} {d : FaceD} {a : FaceA} {m : Nat} {t : TypeId} (h : Box w g (rulCells d a m) t) :
    w.cell? ⟨g, 0, none⟩ = some (.int .i64 d.font.sum) ∧ w.cell? ⟨g, 1, none⟩ = some (.int .i64 d.font.design) ∧ w.cell? ⟨g, 2, none⟩ = some (.int .i64 d.font.first) ∧ w.cell? ⟨g, 3, none⟩ = some (.slice a.font.c d.font.chars.length a.font.cc) ∧ w.cell? ⟨g, 4, none⟩ = some (.slice a.font.w d.font.widths.length a.font.cw) ∧ w.cell? ⟨g, 5, none⟩ = some (.slice a.font.h d.font.heights.length a.font.ch) ∧
    w.cell? ⟨g, 6, none⟩ = some (.slice a.font.d d.font.depths.length a.font.cd) ∧ w.cell? ⟨g, 7, none⟩ = some (.slice a.font.i d.font.italics.length a.font.ci) ∧ w.cell? ⟨g, 8, none⟩ = some (.slice a.font.s d.font.steps.length a.font.cs) ∧ w.cell? ⟨g, 9, none⟩ = some (.slice a.font.k d.font.kerns.length a.font.ck) ∧ w.cell? ⟨g, 10, none⟩ = some (.slice a.font.p d.font.params.length a.font.cp) :=
  ⟨h.cell 0 rfl, h.cell 1 rfl, h.cell 2 rfl, h.cell 3 rfl, h.cell 4 rfl, h.cell 5 rfl, h.cell 6 rfl, h.cell 7 rfl, h.cell 8 rfl, h.cell 9 rfl, h.cell 10 rfl⟩
theorem setV_of {d : FontD} {L : List Int} (h : setE d L = 0) : setV d L = setG d L := by rw [setV, if_pos h]
end Go.Proofs.YtndpdbofoojkhaaGreat.Ft
/- Pieces' glyphs: (*Ruler).Glyphs walked. -/
namespace Go.Proofs.YtndpdbofoojkhaaGreat.Ft
open Go.RowKit Go.Proofs.YtndpdbofoojkhaaGreat.Kit Go.Proofs.YtndpdbofoojkhaaGreat.Fo Go.Proofs.YtndpdbofoojkhaaGreat.Lv
set_option linter.unusedVariables false
set_option linter.unusedSimpArgs false

theorem piece_at {w : World} {B : Nat} {A : Option Addr} {P : List (List Int)} (h : Row (Rep.int .i64).slice w B A P) {k : Nat} {p : List Int} (hp : P[k]? = some p) : ∃ b o A' c', A = some ⟨b, o, none⟩ ∧ b < B ∧ w.cell? ⟨b, o + k, none⟩ = some (.slice A' p.length c') ∧ Row (Rep.int .i64) w B A' p := by
  obtain ⟨b, o, cs, rfl, hb, ⟨A', c', rfl, h1, h2, h3⟩, hc⟩ := h k p hp
  have := hc 0 _ rfl
  rw [show (Rep.int .i64).slice.n = 1 from rfl, Nat.mul_one, Nat.add_zero] at this
  exact ⟨b, o, A', c', rfl, hb, this, h3⟩
set_option maxRecDepth 100000 in
set_option maxHeartbeats 4000000 in
theorem glyphs_any (d : FaceD) (a : FaceA) (r m n : Nat) (Ap : Option Addr) (c : Nat) (P : List (List Int)) (w : World) (hR : Rul d a r m n w) {B : Nat} (hB : B ≤ w.heap.size) (hx : Row (Rep.int .i64).slice w B Ap P) (hl : P.length ≤ 1000) (hs : ∀ x ∈ P, x.length ≤ 1000) :
    Calls Tryz.prog 9 #[.pointer (some ⟨r, 0, none⟩), .slice Ap P.length c] w fun e w' => ∃ Ag cg, e = .returned (.tuple #[.slice Ag (allG d.font P).length cg, .int .i64 (allE d.font P)]) ∧ GG (fun b => w.heap.size ≤ b) w' Ag (allG d.font P) ∧ Below w.heap.size w w' := by
  have HM := Lib.hid (may_any Ap c P w (heads_row hB hx) hl hs)
  have HR := Lib.hid hR
  have HX := Lib.hid hx
  have HSz := Lib.hid hs
  obtain ⟨E, hE⟩ : ∃ E, Hid (allE d.font P = E) := ⟨_, Lib.hid rfl⟩
  obtain ⟨XS, hXS⟩ : ∃ XS, Hid (allG d.font P = XS) := ⟨_, Lib.hid rfl⟩
  rw [hE.out, hXS.out]
  clear hR hx hs
  cases hm : mayP P with
  | false =>
    rw [hm] at HM
    have H1 : Hid (E = 1 ∧ XS = []) := Lib.hid (by
      have : allE d.font P = 1 := by rw [allE, hm]; rfl
      rw [← hE.out, ← hXS.out, allG, this]; simp)
    obtain ⟨rfl, rfl⟩ := H1.out
    clear hm H1 hE hXS
    go_enter Tryz.func9, Tryz.ntmps9
    go_wp2_with fail
    with_reducible refine HM.out.mono ?_
    rintro e w2 ⟨rfl, hb⟩
    go_wp2_with fail
    go_ret2
    exact ⟨none, 0, rfl, fun i x hx => by simp at hx, hb⟩
  | true =>
    rw [hm] at HM
    have H1 : Hid (E = glyE d.font P) := Lib.hid (by rw [← hE.out, allE, hm]; rfl)
    have H2 : Hid (E = 0 → XS = P.map (setG d.font)) := Lib.hid (fun h => by rw [← hXS.out, allG, hE.out, if_pos h])
    have H3 : Hid (E ≠ 0 → XS = []) := Lib.hid (fun h => by rw [← hXS.out, allG, hE.out, if_neg h])
    clear hm hE hXS
    go_enter Tryz.func9, Tryz.ntmps9
    go_wp2_with fail
    with_reducible refine HM.out.mono ?_
    rintro e w2 ⟨rfl, hb⟩
    clear HM
    go_upto_region 4 with fail
    go_loopw [4, 19] (fun v i wr => ∃ k : Nat, k ≤ P.length ∧ i = .int .i64 (k : Int) ∧ Hid (Rows w wr d.font P k v) ∧ Hid (E = glyE d.font (P.drop k)) ∧ Below w.heap.size w wr) (fun _ i _ => P.length - (intOf i).toNat)
    case atStart => exact ⟨0, by omega, rfl, Lib.hid (Rows.start _ _ _ _), Lib.hid (by rw [H1.out, List.drop_zero]), hb⟩
    case round =>
      rename World => wr
      obtain ⟨k, hk, rfl, HO, HE, hbr⟩ := hrel
      by_cases hlt : k < P.length
      · obtain ⟨p, hp⟩ := at_lt hlt
        obtain ⟨b, o, A', c', rfl, hbB, hcc, hrow⟩ := piece_at (HX.out.mono (hbr.mono hB)) hp
        have HRr := Lib.hid (HR.out.off hbr)
        have HP := Lib.hid hp
        have hrs := HRr.out.lt
        have hws := hbr.size
        have HSet := Lib.hid (set_any d.font a.font A' c' p wr (B := wr.heap.size) (Nat.le_refl _) ((font_in HRr.out).up (by omega)) (hrow.up (by omega)) (HSz.out p (List.mem_of_getElem? hp)))
        have HEn := Lib.hid (glyE_next (d := d.font) hp)
        obtain ⟨c0, c1, c2, c3, c4, c5, c6, c7, c8, c9, c10⟩ := rul_font HRr.out.box
        clear hp hrow hb
        by_cases hse : setE d.font p = 0
        · have HV := Lib.hid (setV_of hse)
          rw [hse, HV.out] at HSet
          have HEk : Hid (E = glyE d.font (P.drop (k + 1))) := Lib.hid (by rw [HE.out, HEn.out, if_pos hse])
          clear hse
          go_wp2_with fail
          with_reducible refine HSet.out.mono ?_
          rintro e w3 ⟨Ag, cg, rfl, hgr, hb3⟩
          clear HSet c0 c1 c2 c3 c4 c5 c6 c7 c8 c9 c10 hcc
          have HOW : Hid (∀ kk, u4.ownBlock = some kk → kk < wr.heap.size) := Lib.hid (fun kk e => by
            obtain ⟨us, _, h2, _⟩ := HO.out
            exact own_lt h2 e)
          obtain ⟨us, h1, h2, h3, h4⟩ := HO.out.below hb3
          have hgr2 : GP (fun b => w.heap.size ≤ b ∧ some b ≠ u4.ownBlock) w3 Ag (setG d.font p) := GP.keep (P := fun b => wr.heap.size ≤ b) hgr (Nat.le_refl _) fun b hb _ => ⟨rfl, by omega, fun e => by have := HOW.out b e.symm; omega⟩
          have hbr3 := below_join hbr hb3
          have hws3 := hbr3.size
          have HA := Lib.hid (And.intro h1 (And.intro h2 (And.intro h3 h4)))
          have HG2 := Lib.hid hgr2
          obtain ⟨N, hN⟩ : ∃ N, Hid ((setG d.font p).length = N) := ⟨_, Lib.hid rfl⟩
          rw [hN.out]
          have HOa := Lib.hid (own_setSize h2 (below_alloc (Below.refl _ _) (.cells #[.slice Ag N cg] 55)))
          have HBA := Lib.hid (below_alloc hbr3 (.cells #[.slice Ag N cg] 55))
          clear h1 h2 h3 h4 hgr hgr2 hb3 HO
          go_wp2_with (at_builtin
                       go_must (refine wpList_append_seen rfl (.tmp 36) (.tmp 38) _ rfl w.heap.size 55 _ 1 24 Tryz.underlying41 info_gs rfl (by decide) _ k _ rfl HOa.out (some ⟨w3.heap.size, 0, none⟩) 1 1 [.slice Ag N cg] rfl rfl (sees_new _ _ _) (by simp [Value.oneCell']) (by omega) (by omega) (by simp; omega) (by simp) ?_)
                       intro v5 w5 hown5 hg5 ha5
                       have HO5 := Lib.hid hown5
                       have HG5 := Lib.hid hg5
                       have HA5 := Lib.hid ha5
                       clear hown5 hg5 ha5)
          go_roundw
          case rel =>
            obtain ⟨h1, h2, h3, h4⟩ := HA.out
            refine ⟨k + 1, by omega, by go_num, Lib.hid ?_, HEk, HBA.out.grown HG5.out (by simp; omega) (fun kk e => own_base HOa.out kk e)⟩
            have hb4 := below_alloc (Below.refl w3.heap.size w3) (.cells #[.slice Ag N cg] 55)
            have ho := HO5.out
            rw [← hN.out] at ho
            refine Rows.push HOa.out h1 h3 (fun i q hi hq => ?_) HP.out (HG2.out.keep hb4.size fun b hpb hl => ⟨hb4.block b hl, hpb⟩) ho HG5.out HA5.out
            obtain ⟨A5, c5, h5, h6⟩ := h4 i q hi hq
            exact ⟨A5, c5, h5, h6.keep hb4.size fun b hpb hl => ⟨hb4.block b hl, hpb⟩⟩
          case measure => simp [intOf]; omega
        · have HEk : Hid (E = setE d.font p) := Lib.hid (by rw [HE.out, HEn.out, if_neg hse])
          have HXk := Lib.hid (H3.out (by rw [HEk.out]; exact hse))
          have HV : Hid (setV d.font p = []) := Lib.hid (by rw [setV, if_neg hse])
          rw [HV.out] at HSet
          have F1 : (setE d.font p == 0) = false := by simpa using hse
          generalize setE d.font p = ep at *
          clear hse
          go_wp2_with fail
          with_reducible refine HSet.out.mono ?_
          rintro e w3 ⟨Ag, cg, rfl, hgr, hb3⟩
          clear HSet c0 c1 c2 c3 c4 c5 c6 c7 c8 c9 c10 hcc hgr
          go_wp2_with fail
          go_ret2
          rw [HXk.out, HEk.out]
          exact ⟨none, 0, rfl, fun i x hx => by simp at hx, below_join hbr hb3⟩
      · have hk2 : k = P.length := by omega
        subst hk2
        have HE0 : Hid (E = 0) := Lib.hid (by rw [HE.out, List.drop_length]; rfl)
        have HX0 := Lib.hid (H2.out HE0.out)
        obtain ⟨Ag, cg, rfl, hgg⟩ := HO.out.done
        have HGG := Lib.hid hgg
        clear hgg hlt
        go_wp2_with fail
        go_ret2
        rw [HX0.out, HE0.out]
        exact ⟨Ag, cg, by rw [List.length_map]; rfl, HGG.out, hbr⟩
end Go.Proofs.YtndpdbofoojkhaaGreat.Ft
/- How long glyphs are: (*Ruler).Wide walked. -/
namespace Go.Proofs.YtndpdbofoojkhaaGreat.Ft
open Go.RowKit Go.Proofs.YtndpdbofoojkhaaGreat.Kit Go.Proofs.YtndpdbofoojkhaaGreat.Fo Go.Proofs.YtndpdbofoojkhaaGreat.Lv
set_option linter.unusedVariables false
set_option linter.unusedSimpArgs false

def wsum (d : FaceD) (lev : Int) : Int → List (Int × Int) → Option Int
  | acc, [] => some acc
  | acc, x :: xs => if (tellS d 0 x.1 lev).2 = 0 ∧ (tellS d 1 x.2 lev).2 = 0 then wsum d lev (wrap64 (acc + wrap64 ((tellS d 0 x.1 lev).1 + (tellS d 1 x.2 lev).1))) xs else none
def wideI (sp : Int) (n : Nat) : Int := wrap64 (sp * max ((n : Int) - 1) 0)
def wideS (d : FaceD) (sp : Int) (G : List (List (Int × Int))) (lev : Int) : Int := (wsum d lev (wideI sp G.length) G.flatten).getD 0
def WfG (G : List (List (Int × Int))) : Prop := ∀ g ∈ G, ∀ x ∈ g, (Lit.int .i64 x.1).wf = true ∧ (Lit.int .i64 x.2).wf = true
theorem gly_at {Q : Nat → Prop} {w : World} {A : Option Addr} {xs : List (Int × Int)} (h : GP Q w A xs) {i : Nat} {x : Int × Int} (hx : xs[i]? = some x) : ∃ b o, A = some ⟨b, o, none⟩ ∧ Q b ∧ w.cell? ⟨b, o + i * 2, none⟩ = some (.int .i64 x.1) ∧ w.cell? ⟨b, o + i * 2 + 1, none⟩ = some (.int .i64 x.2) := by
  obtain ⟨b, o, h1, h2, h3, h4, h5⟩ := h i x hx
  exact ⟨b, o, h1, h2, h4, h5⟩
theorem GP.below {Q : Nat → Prop} {w w' : World} {A : Option Addr} {xs : List (Int × Int)} (h : GP Q w A xs) (hb : Below w.heap.size w w') : GP Q w' A xs := h.keep hb.size fun b hp hl => ⟨hb.block b hl, hp⟩
theorem GP.off {m : Nat} {P : Nat → Prop} {w w' : World} {A : Option Addr} {G : List (Int × Int)} (h : GP P w A G) (hb : Off m w w') (hm : ∀ b, P b → b ≠ m) : GP P w' A G := h.keep hb.size fun b hp hl => ⟨hb.block b hl (hm b hp), hp⟩
set_option maxRecDepth 100000 in
set_option maxHeartbeats 8000000 in
theorem wide_any (d : FaceD) (a : FaceA) (r m n : Nat) (sp lev : Int) (Ag : Option Addr) (cg : Nat) (G : List (List (Int × Int))) (w : World) (hf : faceB d = true) (hR : Rul d a r m n w) {Q : Nat → Prop} (hQ : ∀ b, Q b → b ≠ m) (hG : GG Q w Ag G) (hw : WfG G)
    (hle : (Lit.int .i64 lev).wf = true) (hl : G.length ≤ 1000) (hgl : ∀ g ∈ G, g.length ≤ 2000) (hn : n + 2 * G.flatten.length < 1000000000) :
    Calls Tryz.prog 15 #[.pointer (some ⟨r, 0, none⟩), .int .i64 sp, .slice Ag G.length cg, .int .i64 lev] w fun e w' => e = .returned (.int .i64 (wideS d sp G lev)) ∧ Rul d a r m (n + 2 * G.flatten.length) w' ∧ Off m w w' := by
  have HR := Lib.hid hR
  have HG := Lib.hid hG
  have HW := Lib.hid hw
  have HQ := Lib.hid hQ
  have HGl := Lib.hid hgl
  have HN := Lib.hid hn
  obtain ⟨X, hX⟩ : ∃ X, Hid (wideS d sp G lev = X) := ⟨_, Lib.hid rfl⟩
  rw [hX.out]
  obtain ⟨I, hI⟩ : ∃ I, Hid (wideI sp G.length = I) := ⟨_, Lib.hid rfl⟩
  have HI : Hid (wrap64 (sp * max ((G.length : Int) - 1) 0) = I) := Lib.hid hI.out
  have HXd : Hid ((wsum d lev I G.flatten).getD 0 = X) := Lib.hid (by rw [← hX.out, wideS, hI.out])
  clear hR hG hw hQ hgl hn hX hI
  go_enter Tryz.func15, Tryz.ntmps15
  go_upto_region 5 with fail
  rw [HI.out]
  go_loopw [9, 28] (fun v i wr => ∃ (k : Nat) (acc : Int) (n' : Nat), k ≤ G.length ∧ v = .int .i64 acc ∧ i = .int .i64 (k : Int) ∧ Hid (wsum d lev I G.flatten = wsum d lev acc (G.drop k).flatten) ∧ Hid (Rul d a r m n' wr) ∧ Hid (Off m w wr) ∧ Hid (n' + 2 * (G.drop k).flatten.length = n + 2 * G.flatten.length)) (fun _ i _ => G.length - (intOf i).toNat)
  case atStart => exact ⟨0, I, n, by omega, rfl, rfl, Lib.hid (by simp), HR, Lib.hid (Off.refl _ _), Lib.hid (by simp)⟩
  case round =>
    rename World => wr
    obtain ⟨k, acc, n', hk, rfl, rfl, HS, HRr, HO, HNn⟩ := hrel
    by_cases hlt : k < G.length
    · obtain ⟨g, hg⟩ := at_lt hlt
      obtain ⟨b, o, A', c', rfl, hPb, hbl, hcc, hgp⟩ := (HG.out.off HO.out HQ.out) k g hg
      have HGP := Lib.hid hgp
      have HD : Hid ((G.drop k).flatten = g ++ (G.drop (k + 1)).flatten) := Lib.hid (by rw [drop_cons hg]; rfl)
      have HGm := Lib.hid (List.mem_of_getElem? hg)
      have hgl := HGl.out g (List.mem_of_getElem? hg)
      obtain ⟨rest, hrest⟩ : ∃ rest, Hid ((G.drop (k + 1)).flatten = rest) := ⟨_, Lib.hid rfl⟩
      have HS2 : Hid (wsum d lev I G.flatten = wsum d lev acc (g ++ rest)) := Lib.hid (by rw [HS.out, HD.out, hrest.out])
      have HN2 : Hid (n' + 2 * (g.length + rest.length) = n + 2 * G.flatten.length) := Lib.hid (by have := HNn.out; rw [HD.out, hrest.out] at this; simpa using this)
      clear hgp hg
      go_upto_region 8 with fail
      go_loopw [9, 34] (fun v i ws => ∃ (j : Nat) (acc' : Int) (n2 : Nat), j ≤ g.length ∧ v = .int .i64 acc' ∧ i = .int .i64 (j : Int) ∧ Hid (wsum d lev I G.flatten = wsum d lev acc' (g.drop j ++ rest)) ∧ Hid (Rul d a r m n2 ws) ∧ Hid (Off m wr ws) ∧ Hid (n2 + 2 * ((g.length - j) + rest.length) = n + 2 * G.flatten.length)) (fun _ i _ => g.length - (intOf i).toNat)
      case atStart => exact ⟨0, acc, n', by omega, rfl, rfl, Lib.hid (by rw [HS2.out, List.drop_zero]), HRr, Lib.hid (Off.refl _ _), Lib.hid (by rw [Nat.sub_zero]; exact HN2.out)⟩
      case round =>
        rename World => ws
        obtain ⟨j, acc', n2, hj, rfl, rfl, HS3, HRs, HOs, HN3⟩ := hrel
        by_cases hlt2 : j < g.length
        · obtain ⟨x, hx⟩ := at_lt hlt2
          obtain ⟨b2, o2, rfl, hQ2, q0, q1⟩ := gly_at (HGP.out.off HOs.out HQ.out) hx
          have HDx : Hid (g.drop j ++ rest = x :: (g.drop (j + 1) ++ rest)) := Lib.hid (by rw [drop_cons hx]; rfl)
          have HWx := Lib.hid (HW.out g HGm.out x (List.mem_of_getElem? hx))
          have hbx := Box.new ws #[.int .i64 x.1, .int .i64 x.2] 54
          have hb := below_alloc (Below.refl ws.heap.size ws) (.cells #[.int .i64 x.1, .int .i64 x.2] 54)
          have hm2 := HRs.out.lt
          have HT1 := Lib.hid (tell_any d a r m n2 0 x.1 lev _ hf (HRs.out.off hb) (.inl rfl) HWx.out.1 hle (by have := HN.out; have := HN3.out; omega))
          have HB := Lib.hid hb
          have k0 := hbx.cell 0 rfl
          have k1 := hbx.cell 1 rfl
          have hne : ws.heap.size ≠ m := by omega
          clear hx hb
          go_wp2_with fail
          with_reducible refine HT1.out.mono ?_
          rintro e w5 ⟨rfl, hR5, hO5⟩
          have hbx5 := hO5.box hbx hne
          have HT2 := Lib.hid (tell_any d a r m (n2 + 1) 1 x.2 lev _ hf hR5 (.inr (.inl rfl)) HWx.out.2 hle (by have := HN.out; have := HN3.out; omega))
          have HO5 := Lib.hid hO5
          have j1 := hbx5.cell 1 rfl
          clear k0 k1 q0 q1 HT1 hR5 hO5 hbx
          go_wp2_with fail
          with_reducible refine HT2.out.mono ?_
          rintro e w6 ⟨rfl, hR6, hO6⟩
          have HR6 := Lib.hid hR6
          have HO6 := Lib.hid hO6
          clear HT2 hR6 hO6 j1 hbx5
          have HOall : Hid (Off m wr w6) := Lib.hid (((HOs.out.trans (Off.of HB.out)).trans HO5.out).trans HO6.out)
          obtain ⟨t1, ht1⟩ : ∃ t, Hid (tellS d 0 x.1 lev = t) := ⟨_, Lib.hid rfl⟩
          obtain ⟨t2, ht2⟩ : ∃ t, Hid (tellS d 1 x.2 lev = t) := ⟨_, Lib.hid rfl⟩
          rw [ht1.out, ht2.out]
          have HWS : Hid (wsum d lev acc' (g.drop j ++ rest) = if t1.2 = 0 ∧ t2.2 = 0 then wsum d lev (wrap64 (acc' + wrap64 (t1.1 + t2.1))) (g.drop (j + 1) ++ rest) else none) := Lib.hid (by rw [HDx.out, wsum, ht1.out, ht2.out])
          by_cases h1 : t1.2 = 0
          · by_cases h2 : t2.2 = 0
            · have F1 : decide (t1.2 = 0) = true := decide_eq_true h1
              have F2 : decide (t2.2 = 0) = true := decide_eq_true h2
              have HS4 : Hid (wsum d lev I G.flatten = wsum d lev (wrap64 (acc' + wrap64 (t1.1 + t2.1))) (g.drop (j + 1) ++ rest)) := Lib.hid (by rw [HS3.out, HWS.out, if_pos ⟨h1, h2⟩])
              clear h1 h2
              go_wp2_with fail
              go_roundw
              case rel => exact ⟨j + 1, _, n2 + 1 + 1, by omega, rfl, by go_num, HS4, HR6, HOall, Lib.hid (by have := HN3.out; omega)⟩
              case measure => simp [intOf]; omega
            · have F1 : decide (t1.2 = 0) = true := decide_eq_true h1
              have F2 : decide (t2.2 = 0) = false := decide_eq_false h2
              have HX0 : Hid (X = 0) := Lib.hid (by rw [← HXd.out, HS3.out, HWS.out, if_neg (fun h => h2 h.2)]; rfl)
              clear h1 h2
              go_wp2_with fail
              go_ret
              exact ⟨by rw [HX0.out]; rfl, HR6.out.more (by have := HN3.out; omega), HO.out.trans HOall.out⟩
          · have F1 : decide (t1.2 = 0) = false := decide_eq_false h1
            have HX0 : Hid (X = 0) := Lib.hid (by rw [← HXd.out, HS3.out, HWS.out, if_neg (fun h => h1 h.1)]; rfl)
            clear h1
            go_wp2_with fail
            go_ret
            exact ⟨by rw [HX0.out]; rfl, HR6.out.more (by have := HN3.out; omega), HO.out.trans HOall.out⟩
        · have hj2 : j = g.length := by omega
          subst hj2
          have HS4 : Hid (wsum d lev I G.flatten = wsum d lev acc' rest) := Lib.hid (by rw [HS3.out, List.drop_length]; rfl)
          go_wp2_with fail
          go_roundw
          case rel => exact ⟨k + 1, acc', n2, by omega, rfl, by go_num, Lib.hid (by rw [HS4.out, hrest.out]), HRs, Lib.hid (HO.out.trans HOs.out), Lib.hid (by rw [hrest.out]; have := HN3.out; omega)⟩
          case measure => simp [intOf]; omega
    · have hk2 : k = G.length := by omega
      subst hk2
      have HX0 : Hid (acc = X) := Lib.hid (by rw [← HXd.out, HS.out, List.drop_length]; rfl)
      have HN4 : Hid (n' = n + 2 * G.flatten.length) := Lib.hid (by have := HNn.out; rw [List.drop_length] at this; simpa using this)
      go_wp2_with fail
      go_ret
      exact ⟨by rw [← HX0.out]; rfl, by rw [← HN4.out]; exact HRr.out, HO.out⟩
end Go.Proofs.YtndpdbofoojkhaaGreat.Ft
