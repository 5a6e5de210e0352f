/- Rows of which one ends at a space: the walk of BackParts. -/
import Derived.Test.YtbkfofmanpjbfaaBack12
namespace Go.Proofs.Ytbkfofmanpjbfaa.Bk
open Go.RowKit Go.Proofs.Ytbkfofmanpjbfaa.Kit Go.Proofs.Ytbkfofmanpjbfaa.Fo Go.Shelf
open Go.Proofs.YtbkfofmanpjbfaaW.PrintWords (Kd)
set_option linter.unusedVariables false
set_option linter.unusedSimpArgs false

theorem info_r : (Try.prog.info? 42).map (fun i => (i.zero, i.size, i.bytes)) = some (some (.agg #[.int .i64 0, .int .i64 0, .int .i64 0, .int .i64 0, .slice none 0 0]), 5, 56) := by kernel_rfl
theorem small_of {rows : List RowD} (h : fewR rows = true) : Small rows := ⟨by have := (few_parts h).1; omega, (few_parts h).2⟩
set_option maxRecDepth 10000 in
set_option maxHeartbeats 8000000 in
theorem parts_main (d : FontD) (fa : FontA) (ra rb : List RowD) (Aa Ab : Option Addr) (ca cb : Nat) (w : World) (hF : FontIn w w.heap.size d fa) (hA : RowsAt w w.heap.size Aa ra) (hB : RowsAt w w.heap.size Ab rb) (hla : ra.length ≤ 9223372036854775807) (hlb : rb.length ≤ 9223372036854775807) :
    Calls Try.prog 5 #[fontV d fa, .slice Aa ra.length ca, .slice Ab rb.length cb] w fun e w' => e = .returned (.bool true) ∧ Below w.heap.size w w' := by
  have hbx := Box.new w (fontCells d fa) 26
  have hbw := (Below.refl w.heap.size w).alloc (Nat.le_refl _) (.cells (fontCells d fa) 26)
  obtain ⟨W, hW⟩ : ∃ W, w.alloc (.cells (fontCells d fa) 26) = W := ⟨_, rfl⟩
  rw [hW] at hbx hbw
  have HAw := awake_any W
  have HFi := Lib.hid hF
  have HRa := Lib.hid hA
  have HRb := Lib.hid hB
  clear hF hA hB
  go_enter Try.func5, Try.ntmps5
  go_wp2_with fail
  with_reducible refine HAw.mono ?_
  rintro e w1 ⟨rfl, hb⟩
  have b1 := below_join hbw hb
  replace hbx := hbx.below hb
  have hs1 := b1.size
  clear HAw hW hb hbw
  have HBx := Lib.hid hbx
  go_upto_region 2 with fail
  obtain ⟨qq, HQ⟩ : ∃ q, Hid ((!(fewF d) || !(fewR ra) || !(fewR rb) || ra.isEmpty) = q) := ⟨_, Lib.hid rfl⟩
  go_cut [35] from 18 to 36 (fun v wx => v = .bool qq ∧ Below w.heap.size w wx ∧ Box wx w.heap.size (fontCells d fa) 26)
  case first =>
    obtain ⟨c0, c1, c2, c3, c4, c5, c6, c7, c8, c9, c10⟩ := font_cells hbx
    have HFew := fewf_any d fa w1
    clear hbx
    go_wp2_with fail
    with_reducible refine HFew.mono ?_
    rintro e w2 ⟨rfl, hb⟩
    have b2 := below_join b1 hb
    have hb2 := Lib.hid (HBx.out.below hb)
    clear HFew c0 c1 c2 c3 c4 c5 c6 c7 c8 c9 c10 hb b1
    have HFa := few23_any Aa ca ra w2 (fun i r hr => by
      obtain ⟨b, o, A, c, e, h1, h2, h3⟩ := HRa.out i r hr
      exact ⟨b, o, A, c, e, fun j v hv => later b2 (h1 j v hv), h2.mono b2, h3⟩) hla
    have HFb := few23_any Ab cb rb w2 (fun i r hr => by
      obtain ⟨b, o, A, c, e, h1, h2, h3⟩ := HRb.out i r hr
      exact ⟨b, o, A, c, e, fun j v hv => later b2 (h1 j v hv), h2.mono b2, h3⟩) hlb
    cases hf : fewF d with
    | false =>
      have HV : Hid (true = qq) := Lib.hid (by rw [← HQ.out, hf]; rfl)
      clear hf HFa HFb HQ
      go_wp2_with fail
      go_meet
      exact ⟨by rw [← HV.out], b2, hb2.out⟩
    | true =>
      cases h1 : fewR ra with
      | false =>
        rw [h1] at HFa
        have HV : Hid (true = qq) := Lib.hid (by rw [← HQ.out, h1]; simp)
        clear hf h1 HFb HQ
        go_wp2_with fail
        with_reducible refine HFa.mono ?_
        rintro e w3 ⟨rfl, rfl⟩
        go_wp2_with fail
        go_meet
        exact ⟨by rw [← HV.out], b2, hb2.out⟩
      | true =>
        rw [h1] at HFa
        cases h2 : fewR rb with
        | false =>
          rw [h2] at HFb
          have HV : Hid (true = qq) := Lib.hid (by rw [← HQ.out, h2]; simp)
          clear hf h1 h2 HQ
          go_wp2_with fail
          with_reducible refine HFa.mono ?_
          rintro e w3 ⟨rfl, rfl⟩
          go_wp2_with fail
          with_reducible refine HFb.mono ?_
          rintro e w3 ⟨rfl, rfl⟩
          go_wp2_with fail
          go_meet
          exact ⟨by rw [← HV.out], b2, hb2.out⟩
        | true =>
          rw [h2] at HFb
          have HV : Hid (((ra.length : Int) == 0) = qq) := Lib.hid (by rw [← HQ.out, hf, h1, h2]; cases ra with | nil => rfl | cons r rs => simp; omega)
          have F1 : ((ra.length : Int) == 0) = qq := HV.out
          clear hf h1 h2 HQ
          go_wp2_with fail
          with_reducible refine HFa.mono ?_
          rintro e w3 ⟨rfl, rfl⟩
          go_wp2_with fail
          with_reducible refine HFb.mono ?_
          rintro e w3 ⟨rfl, rfl⟩
          go_wp2_with fail
          go_meet
          exact ⟨rfl, b2, hb2.out⟩
  case rest =>
  rename World => wx
  clear hbx HBx b1 hs1
  obtain ⟨rfl, b2, hbx⟩ := hcut
  with_reducible apply_assumption
  cases qq with
  | true =>
    go_wp2_with fail
    go_ret
    exact ⟨rfl, b2⟩
  | false =>
    have hq := HQ.out
    simp only [Bool.or_eq_false_iff, Bool.not_eq_false', List.isEmpty_eq_false_iff] at hq
    obtain ⟨⟨⟨hf, h1⟩, h2⟩, hne⟩ := hq
    have hsa := small_of h1
    have hsb := small_of h2
    have hIa : RowsIn w w.heap.size Aa ra := rows_in HRa.out (fun r hr => by have := hsa.2 r hr; omega)
    have hIb : RowsIn w w.heap.size Ab rb := rows_in HRb.out (fun r hr => by have := hsb.2 r hr; omega)
    have hla4 := (few_parts h1).1
    have hlb4 := (few_parts h2).1
    have HSa := Lib.hid hsa
    have HSb := Lib.hid hsb
    have HIa := Lib.hid hIa
    have HIb := Lib.hid hIb
    have hpa := List.length_pos_iff.2 hne
    clear hf h1 h2 hsa hsb hIa hIb HQ hne hla hlb
    have hs2 := b2.size
    have HW1 := words_s (a := fa) (cr := ca) (w := wx) hs2 (HFi.out.mono b2) (HIa.out.below (Nat.le_refl _) b2) HSa.out
    have HW2 : Hid (∀ V, Below wx.heap.size wx V → _) := Lib.hid fun V hb => words_s (a := fa) (cr := cb) (w := V) (Nat.le_trans hs2 hb.size) (HFi.out.mono (below_join b2 hb)) (HIb.out.below (Nat.le_refl _) (below_join b2 hb)) HSb.out
    obtain ⟨⟨x, e⟩, hx⟩ : ∃ p, wordsP d ra = p := ⟨_, rfl⟩
    obtain ⟨⟨y, e2⟩, hy⟩ : ∃ p, wordsP d rb = p := ⟨_, rfl⟩
    have HX := Lib.hid hx
    have HY := Lib.hid hy
    rw [hx] at HW1
    rw [hy] at HW2
    clear hx hy
    have ld := load_font hbx
    go_wp2_with (refine ld_law ld rfl _ rfl rfl ?_)
    with_reducible refine HW1.mono ?_
    rintro _ w3 ⟨v1, rfl, hR1, hb⟩
    have b3 := below_join b2 hb
    have hs3 := hb.size
    have hbx3 := hbx.below hb
    have HW3 := HW2.out w3 hb
    have HB0 := Lib.hid hb
    clear HW1 HW2 ld hb hbx b2
    have ld := load_font hbx3
    go_wp2_with (refine ld_law ld rfl _ rfl rfl ?_)
    with_reducible refine HW3.mono ?_
    rintro _ w4 ⟨v2, rfl, hR2, hb⟩
    have b4 := below_join b3 hb
    have hbx4 := hbx3.below hb
    have hR1 := Lib.hid (Kd.R_below hR1 hb)
    have hR2 := Lib.hid hR2
    have hs4 := hb.size
    clear HW3 ld hb hbx3 b3 HB0
    by_cases he : e = 0
    · subst he
      by_cases he2 : e2 = 0
      · subst he2
        go_upto_region 10 with fail
        go_loopw [12, 13] (fun v iv wr => ∃ i : Nat, iv = .int .i64 i ∧ i ≤ ra.length ∧ Hid (∃ zs : List RowZ, zs.map (·.1) = (spaced ra).take i ∧ (∀ z ∈ zs, Row placedR w w.heap.size z.2.1 z.1.items) ∧ wr.ownsRow w4.heap.size 42 5 v i (zs.flatMap rowL)) ∧ Below w4.heap.size w4 wr) (fun _ iv _ => ra.length - (intOf iv).toNat)
        case atStart => exact ⟨0, rfl, by omega, Lib.hid ⟨[], by simp, by simp, own_nil _ _ _ _⟩, Below.refl _ _⟩
        case round =>
          rename World => wr
          obtain ⟨i, rfl, hi, HZ, HB⟩ := hrel
          have hsz := HB.size
          have b5 := below_join b4 HB
          by_cases hlt : i < ra.length
          · obtain ⟨r, hr⟩ := at_lt hlt
            obtain ⟨b, o, A0, cc0, rfl, hcell, hrow, hil⟩ := HIa.out i r hr
            have y0 : wr.cell? ⟨b, o + i * 5, none⟩ = some (.int .i64 r.level) := later b5 (hcell 0 _ rfl)
            have y1 : wr.cell? ⟨b, o + i * 5 + 1, none⟩ = some (.int .i64 r.kind) := later b5 (hcell 1 _ rfl)
            have y2 : wr.cell? ⟨b, o + i * 5 + 2, none⟩ = some (.int .i64 r.fin) := later b5 (hcell 2 _ rfl)
            have y3 : wr.cell? ⟨b, o + i * 5 + 3, none⟩ = some (.int .i64 r.defect) := later b5 (hcell 3 _ rfl)
            have y4 : wr.cell? ⟨b, o + i * 5 + 4, none⟩ = some (.slice A0 r.items.length cc0) := later b5 (hcell 4 _ rfl)
            have HSp := Lib.hid (spaced_at hr)
            have HRow := Lib.hid hrow
            clear hcell hrow hr
            go_upto_if 70 with fail
            obtain ⟨q, hq⟩ : ∃ q, ((i : Int) == (ra.length : Int) - 1) = q := ⟨_, rfl⟩
            rw [hq]
            have HQ : Hid (q = decide (i + 1 = ra.length)) := Lib.hid (by rw [← hq, Bool.eq_iff_iff]; simp; omega)
            clear hq
            obtain ⟨rr, hrr⟩ : ∃ rr, rr = (if i + 1 = ra.length then space r else r) := ⟨_, rfl⟩
            have hit : rr.items = r.items := by rw [hrr]; split <;> rfl
            have HRR := Lib.hid hrr
            have HIt := Lib.hid hit
            clear hrr hit
            have hbc := Box.new wr (rowCells r A0 cc0) 42
            go_cut [70] from 70 to 72 (fun _ wx => Box wx wr.heap.size (rowCells rr A0 cc0) 42 ∧ Below wr.heap.size wr wx)
            case first =>
              have hfr := hbc.free 1
              have k1 := hbc.cell 1 rfl
              cases q with
              | true =>
                have HB1 : Hid (#[.int .i64 r.level, .int .i64 1, .int .i64 r.fin, .int .i64 r.defect, .slice A0 r.items.length cc0] = rowCells rr A0 cc0) := Lib.hid (by rw [HRR.out, if_pos (of_decide_eq_true HQ.out.symm)]; rfl)
                clear y0 y1 y2 y3 y4
                go_wp2_with fail
                go_meet
                exact ⟨by rw [← HB1.out]; exact Box.new wr _ _, below_alloc (Below.refl _ _) _⟩
              | false =>
                have HB1 : Hid (rowCells r A0 cc0 = rowCells rr A0 cc0) := Lib.hid (by rw [HRR.out, if_neg (of_decide_eq_false HQ.out.symm)])
                clear y0 y1 y2 y3 y4
                go_wp2_with fail
                go_meet
                exact ⟨by rw [← HB1.out]; exact hbc, below_alloc (Below.refl _ _) _⟩
            case rest =>
            rename World => wx
            obtain ⟨hbC, hbx⟩ := hcut
            with_reducible apply_assumption
            obtain ⟨zs, hz1, hz2, hown⟩ := HZ.out
            have HOx := Lib.hid (own_setSize hown hbx)
            have hszx : w4.heap.size ≤ wx.heap.size := Nat.le_trans hsz hbx.size
            have HBx := Lib.hid (HB.trans (hbx.mono hsz))
            have HZn : Hid ((zs ++ [(rr, A0, cc0)]).map (·.1) = (spaced ra).take (i + 1)) := Lib.hid (by rw [List.map_append, hz1, take_one HSp.out, HRR.out]; rfl)
            have HZr : Hid (∀ z ∈ zs ++ [(rr, A0, cc0)], Row placedR w w.heap.size z.2.1 z.1.items) := Lib.hid (fun z hz => by
              rcases List.mem_append.1 hz with hz | hz
              · exact hz2 z hz
              · rw [List.mem_singleton.1 hz]
                show Row placedR w w.heap.size A0 rr.items
                rw [HIt.out]
                exact HRow.out)
            have HOy := Lib.hid (own_setSize HOx.out (below_alloc (Below.refl _ _) (.cells (rowCells rr A0 cc0) 42)))
            clear hz1 hz2 hown y0 y1 y2 y3 y4 hbc HB hbx HZ HOx hsz b5
            have z0 := hbC.cell 0 rfl
            have z1 := hbC.cell 1 rfl
            have z2 := hbC.cell 2 rfl
            have z3 := hbC.cell 3 rfl
            have z4 := hbC.cell 4 rfl
            go_wp2_with (at_builtin
                         refine wpList_append_seen rfl (.tmp 72) (.tmp 74) _ rfl w4.heap.size 42 _ 5 56 Try.underlying27 info_r rfl (by decide) _ i _ rfl HOy.out (some ⟨wx.heap.size, 0, none⟩) 1 1 (rowL (rr, A0, cc0)) rfl rfl (sees_new _ _ _) (by simp [rowL, Value.oneCell']) (by omega) (by omega) (by simp; omega) (by simp) ?_
                         intro v5 w5 hown5 hg5 ha5
                         have HO5 := Lib.hid hown5
                         have HG5 := Lib.hid hg5
                         clear hown5 hg5 ha5)
            go_roundw
            case rel =>
              refine ⟨i + 1, by go_num, by omega, Lib.hid ⟨_, HZn.out, HZr.out, ?_⟩, ?_⟩
              · rw [List.flatMap_append, List.flatMap_singleton]; exact HO5.out
              · exact Below.grown (HBx.out.trans ((below_alloc (Below.refl wx.heap.size wx) _).mono hszx)) HG5.out (by rw [World.size_alloc]; omega) (Go.Proofs.YtbkfofmanpjbfaaW.PrintWords.own_base HOy.out)
            case measure => simp [intOf]; omega
          · have hie : i = ra.length := by omega
            subst hie
            have hnb := (words_ok (d := d) (rows := rb) (by rw [HY.out])).2.2.1
            obtain ⟨r0, hr0⟩ := at_lt (List.length_pos_iff.2 hnb)
            have hpb := List.length_pos_iff.2 hnb
            obtain ⟨bb, ob, _, _, rfl, _, _, _⟩ := HIb.out 0 r0 hr0
            obtain ⟨zs, hz1, hz2, hown⟩ := HZ.out
            rw [List.take_of_length_le (by rw [spaced_len]; omega)] at hz1
            obtain ⟨zb, hb1, hb2, hb3⟩ := rows_cells HRb.out
            have HLn0 : Hid ((zb.flatMap rowL).length = rb.length * 5) := Lib.hid (by rw [flat_len rowL_len, ← hb1, List.length_map])
            have HNews : Hid (∀ V, Below w.heap.size w V → ∀ (j : Nat) (u : Value), (zb.flatMap rowL)[j]? = some u → V.cell? ((⟨bb, ob, none⟩ : Addr).add j) = some u) := Lib.hid fun V hb j u hu => by
              obtain ⟨b', o', e, hc⟩ := hb3 j u hu
              cases e
              have hadd : (⟨bb, ob, none⟩ : Addr).add j = ⟨bb, ob + j, none⟩ := by unfold Addr.add; split <;> simp_all
              rw [hadd]
              exact later hb hc
            have HOne : Hid (∀ u ∈ zb.flatMap rowL, u.oneCell' = true) := Lib.hid fun u hu => by
              obtain ⟨z, _, hz⟩ := List.mem_flatMap.1 hu
              simp [rowL] at hz
              rcases hz with rfl | rfl | rfl | rfl | rfl <;> rfl
            have HRI : Hid (∀ (w5 V : World) (gA capA : Nat), Below w4.heap.size w4 w5 → w5.ownsRow w4.heap.size 42 5 (.slice (some ⟨gA, 0, none⟩) (ra.length + rb.length) capA) (ra.length + rb.length) (zs.flatMap rowL ++ zb.flatMap rowL) → Below w5.heap.size w5 V →
                Calls Try.prog 9 #[fontV d fa, .slice (some ⟨gA, 0, none⟩) (ra.length + rb.length) capA] V (fun e W' => ∃ v, e = .returned (.tuple #[v, .int .i64 0]) ∧ kL.R 23 W' V.heap.size anyK v (x ++ y) ∧ Below V.heap.size V W')) := Lib.hid fun w5 V gA capA hb5 ho hbV => by
              have hV : Below w.heap.size w V := below_join (below_join b4 hb5) hbV
              have ho2 := own_setSize ho hbV
              rw [← List.flatMap_append] at ho2
              obtain ⟨A, c, e, hn, hri⟩ := own_rows_in (B := w.heap.size) (zs := zs ++ zb) ho2 (fun z hz => by
                rcases List.mem_append.1 hz with hz | hz
                · exact (hz2 z hz).mono hV
                · exact (hb2 z hz).mono hV)
              injection e with e1 e2 e3
              have hsm : Small (spaced ra ++ rb) := ⟨by rw [List.length_append, spaced_len]; omega, fun r hr => by
                rcases List.mem_append.1 hr with hr | hr
                · obtain ⟨k, hk⟩ := List.getElem?_of_mem hr
                  have hlt : k < ra.length := by have := (List.getElem?_eq_some_iff.1 hk).1; rwa [spaced_len] at this
                  obtain ⟨q, hq⟩ := at_lt hlt
                  rw [spaced_at hq] at hk
                  have hq2 := HSa.out.2 q (List.mem_of_getElem? hq)
                  injection hk with hk
                  rw [← hk]
                  split
                  · exact hq2
                  · exact hq2
                · exact HSb.out.2 r hr⟩
              have hrows := hri (spaced ra ++ rb) (by rw [List.map_append, hz1, hb1]) (fun r hr => by have := hsm.2 r hr; omega)
              rw [← e1] at hrows
              have := words_s (a := fa) (cr := capA) (w := V) (B := w.heap.size) hV.size (HFi.out.mono hV) hrows hsm
              rw [parts_plain (by rw [HX.out]) (by rw [HY.out]), HX.out, HY.out, List.length_append, spaced_len] at this
              exact this
            have HOw := Lib.hid hown
            have HFc := Lib.hid hbx4
            clear hz1 hz2 hown hb1 hb2 hb3 hr0 hnb HZ
            go_upto_region 16 with fail
            have HK : Hid (∀ w', Below w4.heap.size w4 w' → Below w4.heap.size w4 w' ∧ w'.cell? ⟨w.heap.size, 0, none⟩ = some (.int .i64 d.sum) ∧ w'.cell? ⟨w.heap.size, 1, none⟩ = some (.int .i64 d.design) ∧ w'.cell? ⟨w.heap.size, 2, none⟩ = some (.int .i64 d.first) ∧ w'.cell? ⟨w.heap.size, 3, none⟩ = some (.slice fa.c d.chars.length fa.cc) ∧ w'.cell? ⟨w.heap.size, 4, none⟩ = some (.slice fa.w d.widths.length fa.cw) ∧ w'.cell? ⟨w.heap.size, 5, none⟩ = some (.slice fa.h d.heights.length fa.ch) ∧ w'.cell? ⟨w.heap.size, 6, none⟩ = some (.slice fa.d d.depths.length fa.cd) ∧ w'.cell? ⟨w.heap.size, 7, none⟩ = some (.slice fa.i d.italics.length fa.ci) ∧ w'.cell? ⟨w.heap.size, 8, none⟩ = some (.slice fa.s d.steps.length fa.cs) ∧ w'.cell? ⟨w.heap.size, 9, none⟩ = some (.slice fa.k d.kerns.length fa.ck) ∧ w'.cell? ⟨w.heap.size, 10, none⟩ = some (.slice fa.p d.params.length fa.cp)) := Lib.hid fun w' hb => ⟨hb, font_cells (HFc.out.below hb)⟩
            obtain ⟨i0, hi0, hz0, hz1, hz2⟩ := info_parts info_r
            go_region_held3 (fun w' => Below w4.heap.size w4 w' ∧ w'.cell? ⟨w.heap.size, 0, none⟩ = some (.int .i64 d.sum) ∧ w'.cell? ⟨w.heap.size, 1, none⟩ = some (.int .i64 d.design) ∧ w'.cell? ⟨w.heap.size, 2, none⟩ = some (.int .i64 d.first) ∧ w'.cell? ⟨w.heap.size, 3, none⟩ = some (.slice fa.c d.chars.length fa.cc) ∧ w'.cell? ⟨w.heap.size, 4, none⟩ = some (.slice fa.w d.widths.length fa.cw) ∧ w'.cell? ⟨w.heap.size, 5, none⟩ = some (.slice fa.h d.heights.length fa.ch) ∧ w'.cell? ⟨w.heap.size, 6, none⟩ = some (.slice fa.d d.depths.length fa.cd) ∧ w'.cell? ⟨w.heap.size, 7, none⟩ = some (.slice fa.i d.italics.length fa.ci) ∧ w'.cell? ⟨w.heap.size, 8, none⟩ = some (.slice fa.s d.steps.length fa.cs) ∧ w'.cell? ⟨w.heap.size, 9, none⟩ = some (.slice fa.k d.kerns.length fa.ck) ∧ w'.cell? ⟨w.heap.size, 10, none⟩ = some (.slice fa.p d.params.length fa.cp))
              (first | exact HK.out _ (below_drew HB) | exact HK.out _ hb5 | exact HK.out _ (below_drew hb5) | exact HK.out _ (below_join ‹Below w4.heap.size w4 _ ∧ _›.1 hbq))
              (first
                | (refine step_append_lies _ (by rfl) _ _ _ (by rfl) w4.heap.size 42 i0 _ 5 56 Try.underlying27 hi0 hz0 hz1 hz2 rfl (by omega) _ ra.length _ (by rfl) (by exact HOw.out) ⟨bb, ob, none⟩ rb.length cb (zb.flatMap rowL) (by rfl) HLn0.out (HNews.out _ (below_join b4 ‹Below w4.heap.size w4 _ ∧ _›.1)) HOne.out hpb (by unfold maxLen; omega) (by omega) (‹Below w4.heap.size w4 _ ∧ _›.1.size) _ rfl ?_; intro gA capA w5 hown5 hgA hatA hltA
                   have hb5 := Below.grown (‹Below w4.heap.size w4 _ ∧ _›.1) hgA (‹Below w4.heap.size w4 _ ∧ _›.1.size) (Go.Proofs.YtbkfofmanpjbfaaW.PrintWords.own_base HOw.out))
                | (go_at_call 9; with_reducible refine (HRI.out w5 _ gA capA hb5 hown5 (by first | exact Below.refl _ _ | exact below_drew (Below.refl _ _))).mono ?_; rintro e w6 ⟨v6, rfl, hR6, hbq⟩))
            obtain ⟨hb6, -⟩ := ‹Below w4.heap.size w4 w6 ∧ _›
            have hsz6 := hb6.size
            have bb6 := below_join b4 hb6
            obtain ⟨A6, c6, rfl, hc6, hC6⟩ := Kd.R_reads hR6
            have hwx := words_small (d := d) HSa.out
            have hwy := words_small (d := d) HSb.out
            rw [HX.out] at hwx
            rw [HY.out] at hwy
            have HC6 := Lib.hid hC6
            have HR1 := Lib.hid (Kd.R_below hR1.out hb6)
            have HR2 := Lib.hid (Kd.R_below hR2.out hb6)
            obtain ⟨A1, c1, rfl, hc1, hC1⟩ := Kd.R_reads HR1.out
            obtain ⟨A2, c2, rfl, hc2, hC2⟩ := Kd.R_reads HR2.out
            obtain ⟨u1, hl1, hs1, ho1, hk1⟩ := C_cells hC1
            obtain ⟨u2, hl2, hs2', ho2, hk2⟩ := C_cells hC2
            have HS1 := Lib.hid hs1
            have HS2 := Lib.hid hs2'
            have HO1 := Lib.hid ho1
            have HO2 := Lib.hid ho2
            have HL1 := Lib.hid hl1
            have HL2 := Lib.hid hl2
            have HKc : Hid (∀ V, Below w6.heap.size w6 V → ∀ (i : Nat) (p : List Int), (x ++ y)[i]? = some p → ∃ u, (([] : List Value) ++ u1 ++ u2)[i]? = some u ∧ kL.K V p [u]) := Lib.hid fun V hb i p hp => by
              rw [List.nil_append]
              by_cases hi : i < x.length
              · rw [List.getElem?_append_left hi] at hp
                obtain ⟨u, h5, h6⟩ := hk1 i p hp
                exact ⟨u, by rw [List.getElem?_append_left (by omega)]; exact h5, kL.K_below hb h6⟩
              · rw [List.getElem?_append_right (by omega)] at hp
                obtain ⟨u, h5, h6⟩ := hk2 _ p hp
                exact ⟨u, by rw [List.getElem?_append_right (by omega), hl1]; exact h5, kL.K_below hb h6⟩
            have HLn : Hid ((([] : List Value) ++ u1 ++ u2).length = (x ++ y).length) := Lib.hid (by simp [hl1, hl2])
            have HN1 : Hid (A1 = none → x.length = 0) := Lib.hid (fun e => by
              rcases Nat.eq_zero_or_pos x.length with h0 | h0
              · exact h0
              · obtain ⟨p, hp⟩ := at_lt h0
                obtain ⟨_, _, _, _, e2, _⟩ := kL_at hC1 hp
                rw [e] at e2
                cases e2)
            have HN2 : Hid (A2 = none → y.length = 0) := Lib.hid (fun e => by
              rcases Nat.eq_zero_or_pos y.length with h0 | h0
              · exact h0
              · obtain ⟨p, hp⟩ := at_lt h0
                obtain ⟨_, _, _, _, e2, _⟩ := kL_at hC2 hp
                rw [e] at e2
                cases e2)
            have hx6 : x.length ≤ 1000000 := hwx.2
            have hy6 : y.length ≤ 1000000 := hwy.2
            have HSx := Lib.hid hwx.1
            have HSy := Lib.hid hwy.1
            have ba := below_alloc (Below.refl w6.heap.size w6) (.cells #[] 23)
            have hsa : (w6.alloc (.cells #[] 23)).heap.size = w6.heap.size + 1 := World.size_alloc _ _
            have HSa2 := Lib.hid hsa
            clear hR6 hC6 HK HFc HOw HRI HNews HOne HLn0 hbq hgA hatA hltA hown5 hb5 hi0 hz0 hz1 hz2 hR1 hR2 HR1 HR2 hC1 hC2 hl1 hl2 hs1 hs2' ho1 ho2 hk1 hk2 hwx hwy hsa
            go_wp2_with (first
              | (at_builtin
                 refine wpList_append_g (by rfl) (.tmp 91) (.tmp 92) _ rfl w6.heap.size 23 _ 1 24 Try.underlying31 info_l rfl (by decide) _ 0 [] rfl (own_lit0 w6 _) A1 x.length c1 u1 rfl (by rw [HL1.out, Nat.mul_one]) (fun j v hv => by
                   obtain ⟨b, o, e, hc⟩ := HS1.out j v hv
                   exact ⟨b, o, e, later ba hc⟩) HO1.out (by omega) (by omega) (by rw [HSa2.out]; omega) HN1.out ?_
                 intro v7 w7 hown7 hg7 ha7
                 have hb7 : Below w6.heap.size w6 w7 := Below.grown ba hg7 (by rw [HSa2.out]; omega) (fun k e => by cases e; exact Nat.le_refl _)
                 have HO7 := Lib.hid hown7
                 have HB7 := Lib.hid hb7
                 clear hown7 hg7 ha7 hb7)
              | (at_builtin
                 refine wpList_append_g (by rfl) (.tmp 93) (.tmp 94) _ rfl w6.heap.size 23 _ 1 24 Try.underlying31 info_l rfl (by decide) _ (0 + x.length) _ rfl HO7.out A2 y.length c2 u2 rfl (by rw [HL2.out, Nat.mul_one]) (fun j v hv => by
                   obtain ⟨b, o, e, hc⟩ := HS2.out j v hv
                   exact ⟨b, o, e, later HB7.out hc⟩) HO2.out (by omega) (by omega) HB7.out.size HN2.out ?_
                 intro v8 w8 hown8 hg8 ha8
                 have hb8 : Below w6.heap.size w6 w8 := Below.grown HB7.out hg8 HB7.out.size (Go.Proofs.YtbkfofmanpjbfaaW.PrintWords.own_base HO7.out)
                 obtain ⟨A8, c8, rfl, hC8⟩ := cells_C hown8 HLn.out (HKc.out w8 hb8)
                 have HC8 := Lib.hid hC8
                 have HB8 := Lib.hid hb8
                 clear hown8 hg8 ha8 hC8 hb8))
            have hpl : ∀ p ∈ x ++ y, p.length ≤ 1000000000 := fun p hp => by
              have h1 := HSx.out
              have h2 := HSy.out
              rcases List.mem_append.1 hp with hp | hp
              · have := mem_sum hp; omega
              · have := mem_sum hp; omega
            have HSame := same_any A6 A8 c6 c8 (x ++ y) (x ++ y) w8 (Kd.C_below HC6.out HB8.out) HC8.out (by rw [List.length_append]; omega) (by rw [List.length_append]; omega) hpl hpl
            rw [decide_eq_true rfl, List.length_append] at HSame
            clear hpl HKc HO7 HB7
            with_reducible refine HSame.mono ?_
            rintro e w9 ⟨rfl, hb⟩
            go_wp2_with fail
            go_ret
            exact ⟨rfl, below_join (below_join bb6 HB8.out) hb⟩
      · have F1 : (e2 != 0) = true := by simpa using he2
        clear he2
        go_wp2_with fail
        go_ret
        exact ⟨rfl, b4⟩
    · have F1 : (e != 0) = true := by simpa using he
      clear he
      go_wp2_with fail
      go_ret
      exact ⟨rfl, b4⟩
theorem parts_walk (c0 : Array Value) (x0 : FontT) (A1 : Option Addr) (n1 c1 : Nat) (x1 : List RowT) (A2 : Option Addr) (n2 c2 : Nat) (x2 : List RowT) (w : World) (h0 : fontR.K w w.heap.size c0.toList x0) (h1 : rowR.slice.K w w.heap.size [.slice A1 n1 c1] x1) (h2 : rowR.slice.K w w.heap.size [.slice A2 n2 c2] x2) :
    Calls Try.prog 5 #[.agg c0, .slice A1 n1 c1, .slice A2 n2 c2] w fun e w' => e = .returned (.bool true) ∧ Below w.heap.size w w' := by
  obtain ⟨d, a, rfl, hF⟩ := font_of h0
  obtain ⟨rfl, e1, e2, hr1⟩ := slice_of h1
  obtain ⟨rfl, e3, e4, hr2⟩ := slice_of h2
  have := parts_main d a (x1.map rowOf) (x2.map rowOf) A1 A2 c1 c2 w hF (rows_at hr1) (rows_at hr2) (by rw [List.length_map]; omega) (by rw [List.length_map]; omega)
  rw [List.length_map, List.length_map] at this
  exact this
end Go.Proofs.Ytbkfofmanpjbfaa.Bk
