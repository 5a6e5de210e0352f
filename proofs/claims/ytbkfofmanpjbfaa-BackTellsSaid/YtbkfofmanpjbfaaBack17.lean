/- A row's pieces, by the reference: the walk of compositorref24.pieces. -/
import Derived.Test.YtbkfofmanpjbfaaBack16
import Derived.Test.YtbkfofmanpjbfaaBack13
namespace Go.Proofs.Ytbkfofmanpjbfaa.Bk
open Go.RowKit Go.Proofs.Ytbkfofmanpjbfaa.Kit Go.Proofs.Ytbkfofmanpjbfaa.Fo Go.Shelf
open Go.Proofs.YtbkfofmanpjbfaaW.PrintWords (Kd)
set_option linter.unusedVariables false
set_option linter.unusedSimpArgs false

theorem box1_I {w : World} {g : Nat} {a : Int} {t : TypeId} (h : Box w g #[.int .i64 a] t) : kI.C w (some ⟨g, 0, none⟩) 1 [a] := by
  refine ⟨rfl, by omega, fun _ => ⟨_, rfl, fun j p hp => ?_⟩⟩
  match j, hp with
  | 0, hp =>
    cases hp
    refine ⟨_, rfl, rfl, fun i u hu => ?_⟩
    match i, hu with
    | 0, hu => cases hu; exact h.cell 0 rfl
def piecesV (d : FontD) (r : RowD) : List (List Int) × Bool := if (lineP d r).any (·.isEmpty) then ([], false) else (lineP d r, true)
/-- How far the pieces have come. -/
def PartP (cs : List Int) (i : Nat) (Ps : List (List Int)) (L : List Int) : Prop := (i ≤ cs.length ∧ splitG [] cs = Ps ++ splitG L (cs.drop i)) ∨ (i = cs.length + 1 ∧ splitG [] cs = Ps ∧ L = [])
theorem part_on {cs : List Int} {i : Nat} {Ps : List (List Int)} {L : List Int} {c : Int} (h : PartP cs i Ps L) (hc : cs[i]? = some c) (h32 : c ≠ 32) : PartP cs (i + 1) Ps (L ++ [c]) := by
  have hl := (List.getElem?_eq_some_iff.1 hc).1
  rcases h with ⟨h1, h2⟩ | ⟨h1, _⟩
  · refine .inl ⟨by omega, ?_⟩
    rw [h2, List.drop_eq_getElem_cons hl, show cs[i] = c from by rw [List.getElem?_eq_getElem hl] at hc; exact Option.some.inj hc, split_on h32]
  · omega
theorem part_gap {cs : List Int} {i : Nat} {Ps : List (List Int)} {L : List Int} (h : PartP cs i Ps L) (hi : i ≤ cs.length) (hc : ∀ c, cs[i]? = some c → c = 32) : PartP cs (i + 1) (Ps ++ [L]) [] ∧ L ∈ splitG [] cs := by
  rcases h with ⟨h1, h2⟩ | ⟨h1, _⟩
  · by_cases hl : i < cs.length
    · obtain ⟨c, hx⟩ := at_lt hl
      have h3 := hc c hx
      subst h3
      rw [List.drop_eq_getElem_cons hl, show cs[i] = 32 from by rw [List.getElem?_eq_getElem hl] at hx; exact Option.some.inj hx, split_gap rfl] at h2
      exact ⟨.inl ⟨by omega, by rw [h2]; simp⟩, by rw [h2]; simp⟩
    · have e : i = cs.length := by omega
      subst e
      rw [List.drop_length, splitG] at h2
      exact ⟨.inr ⟨rfl, h2, rfl⟩, by rw [h2]; simp⟩
  · omega
theorem expandV_nil {d : FontD} (hg : ligB d = true) (L : List Int) : expandV d L = [] ↔ L = [] := by
  unfold ligB at hg
  unfold expandV
  cases hm : madeP d with
  | none => rw [hm] at hg; cases hg
  | some out => exact expandP_nil out L
theorem expandV_snoc {d : FontD} (hg : ligB d = true) (L : List Int) (c : Int) : expandV d (L ++ [c]) = expandV d L ++ expandV d [c] := by
  unfold ligB at hg
  unfold expandV
  cases hm : madeP d with
  | none => rw [hm] at hg; cases hg
  | some out => simp [expandP]
theorem piecesV_bad {d : FontD} {r : RowD} (hg : ligB d = true) (h : ([] : List Int) ∈ splitG [] (codesOf r)) : piecesV d r = ([], false) := by
  unfold piecesV
  rw [if_pos]
  rw [List.any_eq_true]
  exact ⟨[], List.mem_map.2 ⟨[], h, (expandV_nil hg []).2 rfl⟩, rfl⟩
theorem piecesV_ok {d : FontD} {r : RowD} (hg : ligB d = true) (h : ∀ p ∈ splitG [] (codesOf r), p ≠ []) : piecesV d r = (lineP d r, true) := by
  unfold piecesV
  rw [if_neg]
  rw [List.any_eq_true]
  rintro ⟨q, hq, he⟩
  obtain ⟨p, hp, rfl⟩ := List.mem_map.1 hq
  exact h p hp ((expandV_nil hg p).1 (by simpa using he))
set_option maxRecDepth 10000 in
set_option maxHeartbeats 4000000 in
theorem rpieces_any (d : FontD) (a : FontA) (r : RowD) (A0 : Option Addr) (cc0 : Nat) (w : World) {B : Nat} (hB : B ≤ w.heap.size) (hF : FontIn w B d a) (hR : Row placedR w B A0 r.items) (hl : r.items.length ≤ 700) (hg : ligB d = true) :
    Calls Try.prog 23 #[fontV d a, rowV r A0 cc0] w fun e W' => ∃ v, e = .returned (.tuple #[v, .bool (piecesV d r).2]) ∧ kL.R 23 W' w.heap.size anyK v (piecesV d r).1 ∧ Below w.heap.size w W' := by
  have hbx := (Box.new w (fontCells d a) 26).alloc (.cells (rowCells r A0 cc0) 42)
  have hbr := Box.new (w.alloc (.cells (fontCells d a) 26)) (rowCells r A0 cc0) 42
  have hbw := below_alloc (below_alloc (Below.refl w.heap.size w) (.cells (fontCells d a) 26)) (.cells (rowCells r A0 cc0) 42)
  simp only [World.size_alloc] at hbr
  obtain ⟨W, hW⟩ : ∃ W, (w.alloc (.cells (fontCells d a) 26)).alloc (.cells (rowCells r A0 cc0) 42) = W := ⟨_, rfl⟩
  rw [hW] at hbx hbr hbw
  have HBx := Lib.hid hbx
  have HBr := Lib.hid hbr
  have HW := Lib.hid hW
  have HFi := Lib.hid hF
  have HRo := Lib.hid hR
  have HGd := Lib.hid hg
  have hcl : (codesOf r).length = r.items.length := by simp [codesOf]
  have HCl := Lib.hid hcl
  have hsW := hbw.size
  clear hF hR hg hcl hW hbx hbr
  obtain ⟨⟨tv, tb⟩, ht⟩ : ∃ p, piecesV d r = p := ⟨_, rfl⟩
  have HT := Lib.hid ht
  rw [ht]
  clear ht
  go_enter Try.func23, Try.ntmps23
  go_upto_region 4 with fail
  rw [HW.out]
  go_loopw [6, 7, 8] (fun v6 v7 iv wr => ∃ i : Nat, iv = .int .i64 i ∧ i ≤ r.items.length + 1 ∧ Hid (∃ Ps L, PartP (codesOf r) i Ps L ∧ (∀ p ∈ Ps, p ≠ []) ∧ L.length ≤ i ∧ Ps.length ≤ i ∧ kL.R 23 wr W.heap.size (fun k => anyK k ∧ some k ≠ v7.ownBlock) v6 (Ps.map (expandV d)) ∧ kI.R 3 wr W.heap.size anyK v7 (expandV d L)) ∧ Below W.heap.size W wr) (fun _ _ iv _ => r.items.length + 1 - (intOf iv).toNat)
  case atStart => exact ⟨0, rfl, by omega, Lib.hid ⟨[], [], .inl ⟨by omega, rfl⟩, by simp, by simp, by simp, Kd.R_nil _ _ _ _ _, by rw [(expandV_nil HGd.out []).2 rfl]; exact Kd.R_nil _ _ _ _ _⟩, Below.refl _ _⟩
  case round =>
    rename World => wr
    obtain ⟨i, rfl, hi, HI, HB⟩ := hrel
    have hsz := HB.size
    have hbr2 := HBr.out.below HB
    obtain ⟨y0, y1, y2, y3, y4⟩ := row_box hbr2
    by_cases hend : i ≤ r.items.length
    · have F0 : ((i : Int) ≤ (r.items.length : Int)) = True := eq_true (by omega)
      obtain ⟨q, hq⟩ : ∃ q : Bool, q = true ↔ (∃ p, r.items[i]? = some p ∧ p.1 ≠ 32) := by
        by_cases h : ∃ p, r.items[i]? = some p ∧ p.1 ≠ 32
        · exact ⟨true, by simp [h]⟩
        · exact ⟨false, by simp [h]⟩
      have HQ := Lib.hid hq
      clear hq
      go_upto_region 6 with fail
      go_cut [31] from 18 to 32 (fun v wx => v = .bool q ∧ wx = wr)
      case first =>
        clear y0 y1 y2 y3
        by_cases hlt : i < r.items.length
        · obtain ⟨p, hp⟩ := at_lt hlt
          obtain ⟨b, o, rfl, _, z0, _, _⟩ := placed_at (HRo.out.mono ((hbw.trans (HB.mono hbw.size)).mono hB)) hp
          have F1 : ((i : Int) < (r.items.length : Int)) = True := eq_true (by omega)
          by_cases h32 : p.1 = 32
          · have F2 : (p.1 != 32) = false := by simp [h32]
            have HV : Hid (false = q) := Lib.hid (by cases q with | false => rfl | true => obtain ⟨p', hp', hne⟩ := HQ.out.1 rfl; rw [hp] at hp'; cases hp'; exact absurd h32 hne)
            clear h32 hp
            go_wp2_with fail
            go_meet
            exact ⟨by rw [← HV.out], rfl⟩
          · have F2 : (p.1 != 32) = true := by simpa using h32
            have HV : Hid (true = q) := Lib.hid ((HQ.out.2 ⟨p, hp, h32⟩).symm)
            clear h32 hp
            go_wp2_with fail
            go_meet
            exact ⟨by rw [← HV.out], rfl⟩
        · have F1 : ((i : Int) < (r.items.length : Int)) = False := eq_false (by omega)
          have HV : Hid (false = q) := Lib.hid (by cases q with | false => rfl | true => obtain ⟨p', hp', _⟩ := HQ.out.1 rfl; have := (List.getElem?_eq_some_iff.1 hp').1; omega)
          go_wp2_with fail
          go_meet
          exact ⟨by rw [← HV.out], rfl⟩
      case rest =>
      rename World => wx
      obtain ⟨rfl, hwz⟩ := hcut
      subst hwz
      rename World => wr
      with_reducible apply_assumption
      cases q with
      | true =>
        obtain ⟨p, hp, h32⟩ := HQ.out.1 rfl
        have hlt : i < r.items.length := (List.getElem?_eq_some_iff.1 hp).1
        have bwr := hbw.trans (HB.mono hbw.size)
        obtain ⟨b, o, rfl, _, z0, _, _⟩ := placed_at (HRo.out.mono (bwr.mono hB)) hp
        have hcode : (codesOf r)[i]? = some p.1 := by unfold codesOf; rw [List.getElem?_map, hp]; rfl
        have HFc := Lib.hid (HBx.out.below HB)
        have HC : Hid (∀ V, Below w.heap.size w V → kI.C V (some ⟨wr.heap.size, 0, none⟩) 1 [p.1] → Calls Try.prog 37 #[fontV d a, .slice (some ⟨wr.heap.size, 0, none⟩) 1 1] V fun e W' => ∃ v, e = .returned (.tuple #[v, .int .i64 0]) ∧ kI.R 3 W' V.heap.size anyK v (expandV d [p.1]) ∧ Below V.heap.size V W') := Lib.hid fun V hb hC => by
          have := rexp_any d a [p.1] (some ⟨wr.heap.size, 0, none⟩) 1 V (B := B) (Nat.le_trans hB hb.size) (HFi.out.mono (hb.mono hB)) hC (by simp)
          rw [if_pos HGd.out] at this
          exact this
        have HK : Hid (∀ w', Below wr.heap.size wr w' → Below wr.heap.size wr w' ∧ w'.cell? ⟨w.heap.size + 1, 4, none⟩ = some (.slice (some ⟨b, o, none⟩) r.items.length cc0) ∧ w'.cell? ⟨b, o + i * 2, none⟩ = some (.int .i64 p.1) ∧ w'.cell? ⟨w.heap.size, 0, none⟩ = some (.int .i64 d.sum) ∧ w'.cell? ⟨w.heap.size, 1, none⟩ = some (.int .i64 d.design) ∧ w'.cell? ⟨w.heap.size, 2, none⟩ = some (.int .i64 d.first) ∧ w'.cell? ⟨w.heap.size, 3, none⟩ = some (.slice a.c d.chars.length a.cc) ∧ w'.cell? ⟨w.heap.size, 4, none⟩ = some (.slice a.w d.widths.length a.cw) ∧ w'.cell? ⟨w.heap.size, 5, none⟩ = some (.slice a.h d.heights.length a.ch) ∧ w'.cell? ⟨w.heap.size, 6, none⟩ = some (.slice a.d d.depths.length a.cd) ∧ w'.cell? ⟨w.heap.size, 7, none⟩ = some (.slice a.i d.italics.length a.ci) ∧ w'.cell? ⟨w.heap.size, 8, none⟩ = some (.slice a.s d.steps.length a.cs) ∧ w'.cell? ⟨w.heap.size, 9, none⟩ = some (.slice a.k d.kerns.length a.ck) ∧ w'.cell? ⟨w.heap.size, 10, none⟩ = some (.slice a.p d.params.length a.cp)) := Lib.hid fun w' hb => ⟨hb, later hb y4, later hb z0, font_cells (HFc.out.below hb)⟩
        obtain ⟨Ps, L, hP, hne, hLl, hPl, h6, h7⟩ := HI.out
        have HP2 := Lib.hid (part_on hP hcode h32)
        have HEx : Hid (expandV d (L ++ [p.1]) = expandV d L ++ expandV d [p.1]) := Lib.hid (expandV_snoc HGd.out L p.1)
        have H6 := Lib.hid h6
        have H7 := Lib.hid h7
        have HNe := Lib.hid hne
        have hE1 : (expandV d L).length ≤ 257 * 701 := by have := expandV_len d L; omega
        have hE2 : (expandV d [p.1]).length ≤ 257 := by have := expandV_len d [p.1]; simpa using this
        have HBW := Lib.hid bwr
        clear y0 y1 y2 y3 y4 z0 hp h32 hcode hP hne h6 h7 HI bwr hbr2
        go_upto_region 7 with fail
        go_region_held3 (fun w' => Below wr.heap.size wr w' ∧ w'.cell? ⟨w.heap.size + 1, 4, none⟩ = some (.slice (some ⟨b, o, none⟩) r.items.length cc0) ∧ w'.cell? ⟨b, o + i * 2, none⟩ = some (.int .i64 p.1) ∧ w'.cell? ⟨w.heap.size, 0, none⟩ = some (.int .i64 d.sum) ∧ w'.cell? ⟨w.heap.size, 1, none⟩ = some (.int .i64 d.design) ∧ w'.cell? ⟨w.heap.size, 2, none⟩ = some (.int .i64 d.first) ∧ w'.cell? ⟨w.heap.size, 3, none⟩ = some (.slice a.c d.chars.length a.cc) ∧ w'.cell? ⟨w.heap.size, 4, none⟩ = some (.slice a.w d.widths.length a.cw) ∧ w'.cell? ⟨w.heap.size, 5, none⟩ = some (.slice a.h d.heights.length a.ch) ∧ w'.cell? ⟨w.heap.size, 6, none⟩ = some (.slice a.d d.depths.length a.cd) ∧ w'.cell? ⟨w.heap.size, 7, none⟩ = some (.slice a.i d.italics.length a.ci) ∧ w'.cell? ⟨w.heap.size, 8, none⟩ = some (.slice a.s d.steps.length a.cs) ∧ w'.cell? ⟨w.heap.size, 9, none⟩ = some (.slice a.k d.kerns.length a.ck) ∧ w'.cell? ⟨w.heap.size, 10, none⟩ = some (.slice a.p d.params.length a.cp))
          (first
            | exact HK.out _ (below_join ‹Below wr.heap.size wr _ ∧ _›.1 hb6)
            | exact HK.out _ (by repeat (first | (with_reducible exact Below.refl _ _) | (with_reducible apply below_drew) | (with_reducible refine below_alloc ?_ _))))
          (first
            | (go_at_call 37; with_reducible refine (HC.out _ (below_join HBW.out ‹Below wr.heap.size wr _ ∧ _›.1) (by first | exact box1_I (Box.new wr _ _) | exact box1_I (Box.new wr _ _).drew)).mono ?_; rintro e w6 ⟨v9, rfl, hR9, hb6⟩))
        obtain ⟨hb6', -⟩ := ‹Below wr.heap.size wr w6 ∧ _›
        obtain ⟨A9, c9, rfl, hc9, hC9⟩ := Kd.R_reads hR9
        have HC9 := Lib.hid hC9
        have HB6 := HB.trans (hb6'.mono HB.size)
        have hs6 := HB6.size
        have H6' := Lib.hid (Kd.R_below H6.out hb6')
        have H7' := Lib.hid (Kd.R_below H7.out hb6')
        generalize expandV d [p.1] = E at *
        generalize expandV d L = T at *
        clear hR9 hC9 hb6 hb6' HB HC HK HFc H6 H7 hsz HBW
        go_wp2_with (at_builtin
                     refine Kd.R_append_rows kI (Rr := kI.K w6) (w0 := W) W.heap.size rfl (.tmp 44) (.tmp 45) _ 3 (.int .i64 0) 8 rfl Try.underlying23 info_i64 rfl (by decide) (by decide) _ T E A9 E.length c9 anyK (fun _ => False) rfl rfl H7'.out HC9.out (fun _ _ h => h) (fun _ h => h.elim) (fun _ _ => trivial) HB6 hs6 (by omega) ?_
                     intro v5 w5 hR5 hb5 hg5 hat5
                     have HR5 := Lib.hid hR5
                     have HR6 := Lib.hid (Kd.R_after H6'.out hg5 hat5)
                     clear hR5 hg5 hat5)
        go_roundw
        case rel => exact ⟨i + 1, by go_num, by omega, Lib.hid ⟨Ps, L ++ [p.1], HP2.out, HNe.out, by simp; omega, by omega, HR6.out, by rw [HEx.out]; exact HR5.out⟩, hb5⟩
        case measure => simp [intOf]; omega
      | false =>
        have hgap : ∀ c, (codesOf r)[i]? = some c → c = 32 := fun c hc => by
          unfold codesOf at hc
          rw [List.getElem?_map, Option.map_eq_some_iff] at hc
          obtain ⟨p, hp, rfl⟩ := hc
          by_cases h : p.1 = 32
          · exact h
          · have := HQ.out.2 ⟨p, hp, h⟩
            cases this
        obtain ⟨Ps, L, hP, hne, hLl, hPl, h6, h7⟩ := HI.out
        obtain ⟨hP2, hmem⟩ := part_gap hP (by rw [HCl.out]; exact hend) hgap
        by_cases hL : L = []
        · have hpv : (tv, tb) = ([], false) := by rw [← HT.out]; exact piecesV_bad HGd.out (by rw [hL] at hmem; exact hmem)
          obtain ⟨rfl, rfl⟩ := Prod.mk.inj hpv
          have hT0 : expandV d L = [] := (expandV_nil HGd.out L).2 hL
          rw [hT0] at h7
          obtain ⟨A7, c7, rfl⟩ := Kd.R_slice h7
          clear hpv hP hne h6 h7 HI hP2 hmem hT0 hgap hL y0 y1 y2 y3 y4
          go_wp2_with fail
          go_ret2
          exact ⟨.slice none 0 0, rfl, Kd.R_nil _ _ _ _ _, hbw.trans (HB.mono hsW)⟩
        · have hE0 : expandV d L ≠ [] := fun e => hL ((expandV_nil HGd.out L).1 e)
          have hEp := List.length_pos_iff.2 hE0
          have HP2 := Lib.hid hP2
          have HNe : Hid (∀ q ∈ Ps ++ [L], q ≠ []) := Lib.hid (fun q hq => by
            rcases List.mem_append.1 hq with hq | hq
            · exact hne q hq
            · rw [List.mem_singleton.1 hq]; exact hL)
          have HMp : Hid ((Ps ++ [L]).map (expandV d) = Ps.map (expandV d) ++ [expandV d L]) := Lib.hid (by simp)
          obtain ⟨A7, c7, rfl⟩ := Kd.R_slice h7
          have HM : Hid (kL.M wr W.heap.size (fun k => (Value.slice A7 (expandV d L).length c7).ownBlock = some k) (expandV d L) [.slice A7 (expandV d L).length c7]) := Lib.hid (Kd.M_row (by
            obtain ⟨_, inner, hown, hreps⟩ := h7
            exact ⟨fun k h => h, inner, hown, hreps.imp_ (fun _ _ hp => hp)⟩))
          have HAp := Lib.hid h6.1
          have H6 := Lib.hid (Kd.R_drop h6)
          have hml : (Ps.map (expandV d)).length ≤ 701 := by rw [List.length_map]; omega
          have F1 : (((expandV d L).length : Int) == 0) = false := by rw [beq_eq_false_iff_ne]; omega
          generalize expandV d L = E at *
          generalize Ps.map (expandV d) = Ms at *
          clear hP hne h6 h7 HI hP2 hmem hgap hL y0 y1 y2 y3 y4 hE0
          go_wp2_with (at_builtin
                       refine Kd.R_append kL (w0 := W) W.heap.size rfl (.tmp 50) (.tmp 52) _ 23 (.slice none 0 0) 24 rfl Try.underlying31 info_l rfl (by decide) (by decide) _ Ms E [.slice A7 E.length c7] anyK (fun k => (Value.slice A7 E.length c7).ownBlock = some k) rfl rfl HM.out (fun k hk => ⟨trivial, fun e => (HAp.out k e.symm).2 hk.symm⟩) (fun _ _ => trivial) H6.out HB hsz (by omega) ?_
                       intro v5 w5 hR5 hb5 hg5 hat5
                       have HR5 := Lib.hid hR5
                       clear hR5 hg5 hat5)
          go_roundw
          case rel => exact ⟨i + 1, by go_num, by omega, Lib.hid ⟨Ps ++ [L], [], HP2.out, HNe.out, by simp, by simp; omega, by rw [HMp.out]; exact Kd.R_apart_nil HR5.out, by rw [(expandV_nil HGd.out []).2 rfl]; exact Kd.R_nil _ _ _ _ _⟩, hb5⟩
          case measure => simp [intOf]; omega
    · have F0 : ((i : Int) ≤ (r.items.length : Int)) = False := eq_false (by omega)
      have hie : i = (codesOf r).length + 1 := by rw [HCl.out]; omega
      obtain ⟨Ps, L, hP, hne, _, _, h6, _⟩ := HI.out
      have hsp : splitG [] (codesOf r) = Ps := by
        rcases hP with ⟨h1, _⟩ | ⟨_, h2, _⟩
        · omega
        · exact h2
      have hpv : (tv, tb) = (lineP d r, true) := by rw [← HT.out]; exact piecesV_ok HGd.out (by rw [hsp]; exact hne)
      obtain ⟨rfl, rfl⟩ := Prod.mk.inj hpv
      have HR : Hid (kL.R 23 wr W.heap.size anyK u6 (lineP d r)) := Lib.hid (by unfold lineP; rw [hsp]; exact Kd.R_drop h6)
      clear hpv hsp hie hP hne h6 HI
      go_wp2_with fail
      go_ret2
      exact ⟨_, rfl, Kd.R_lower HR.out hsW, hbw.trans (HB.mono hsW)⟩
end Go.Proofs.Ytbkfofmanpjbfaa.Bk
