/- Words of rows, by the reference: the walk of compositorref24.Words. -/
import Derived.Test.YtbkfofmanpjbfaaBack17
import Derived.Test.YtbkfofmanpjbfaaBack18
namespace Go.Proofs.Ytbkfofmanpjbfaa.Bk
open Go.RowKit Go.Proofs.Ytbkfofmanpjbfaa.Kit Go.Proofs.Ytbkfofmanpjbfaa.Fo Go.Proofs.Ytbkfofmanpjbfaa.RFo Go.Shelf
open Go.Proofs.YtbkfofmanpjbfaaW.PrintWords (Kd)
set_option linter.unusedVariables false
set_option linter.unusedSimpArgs false

set_option maxRecDepth 10000 in
set_option maxHeartbeats 8000000 in
theorem rwords_any (d : FontD) (a : FontA) (rows : List RowD) (Ar : Option Addr) (cr : Nat) (w : World) {B : Nat} (hB : B ≤ w.heap.size) (hF : FontIn w B d a) (hR : RowsIn w B Ar rows) (hS : Small rows) :
    Calls Try.prog 10 #[fontV d a, .slice Ar rows.length cr] w fun e W' => ∃ v, e = .returned (.tuple #[v, .int .i64 (wordsP d rows).2]) ∧ kL.R 23 W' w.heap.size anyK v (wordsP d rows).1 ∧ Below w.heap.size w W' := by
  have hbx := Box.new w (fontCells d a) 26
  have hbw := (Below.refl w.heap.size w).alloc (Nat.le_refl _) (.cells (fontCells d a) 26)
  obtain ⟨W, hW⟩ : ∃ W, w.alloc (.cells (fontCells d a) 26) = W := ⟨_, rfl⟩
  rw [hW] at hbx hbw
  have HLg := rlig_any d a W (B := B) (by have := hbw.size; omega) (hF.mono (hbw.mono hB))
  rw [ref_lig] at HLg
  have HFi := Lib.hid hF
  have HRo := Lib.hid hR
  have HSm := Lib.hid hS
  have hr4 := hS.1
  clear hF hR hS
  obtain ⟨⟨tv, te⟩, ht⟩ : ∃ p, wordsP d rows = p := ⟨_, rfl⟩
  have HT := Lib.hid ht
  rw [ht]
  clear ht
  have ld := load_font hbx
  go_enter Try.func10, Try.ntmps10
  go_wp2_with (refine ld_law ld rfl _ rfl rfl ?_)
  with_reducible refine HLg.mono ?_
  rintro e w1 ⟨rfl, hb⟩
  have b1 := below_join hbw hb
  have hbx1 := hbx.below hb
  have hs1 := b1.size
  clear HLg ld hW hb hbx hbw
  cases hg : ligB d with
  | false =>
    have hpv : (tv, te) = ([], 70) := by rw [← HT.out, wordsP, if_pos hg]
    obtain ⟨rfl, rfl⟩ := Prod.mk.inj hpv
    clear hg hpv
    go_wp2_with fail
    go_ret2
    exact ⟨.slice none 0 0, rfl, Kd.R_nil _ _ _ _ _, b1⟩
  | true =>
    have HGd := Lib.hid hg
    have HT2 : Hid ((tv, te) = if badN d rows.length 0 rows || rows.isEmpty then ([], 230) else (wholeP (rows.map (lineP d)) (rows.map (·.kind)), 0)) := Lib.hid (by rw [← HT.out, wordsP, if_neg (by rw [hg]; simp)])
    clear hg HT
    by_cases hr0 : rows.length = 0
    · have F1 : ((rows.length : Int) == 0) = true := by rw [beq_iff_eq]; omega
      have hpv : (tv, te) = ([], 230) := by rw [HT2.out, if_pos]; rw [List.eq_nil_of_length_eq_zero hr0]; simp
      obtain ⟨rfl, rfl⟩ := Prod.mk.inj hpv
      clear hr0 hpv
      go_wp2_with fail
      go_ret2
      exact ⟨.slice none 0 0, rfl, Kd.R_nil _ _ _ _ _, b1⟩
    · have F1 : ((rows.length : Int) == 0) = false := by rw [beq_eq_false_iff_ne]; omega
      have hne0 : 0 < rows.length := by omega
      have HBx := Lib.hid hbx1
      clear hr0 hbx1
      go_upto_region 9 with fail
      clear F1
      go_loopw [7, 8, 9] (fun v7 v8 iv wr => ∃ i : Nat, iv = .int .i64 i ∧ i ≤ rows.length ∧ Hid (∀ k q, k < i → rows[k]? = some q → badR d rows.length k q = false) ∧ Hid (kM.R 31 wr w1.heap.size anyK v7 ((rows.map (lineP d)).take i)) ∧ Hid (kB.R 62 wr w1.heap.size anyK v8 ((rows.map fun r => (r.kind, (0 : Int), (0 : Int))).take i)) ∧ Below w1.heap.size w1 wr) (fun _ _ iv _ => rows.length - (intOf iv).toNat)
      case atStart => exact ⟨0, rfl, by omega, Lib.hid (fun k q h _ => absurd h (Nat.not_lt_zero _)), Lib.hid (Kd.R_nil _ _ _ _ _), Lib.hid (Kd.R_nil _ _ _ _ _), Below.refl _ _⟩
      case round =>
        rename World => wr
        obtain ⟨i, rfl, hi, HG, H7, H8, HB⟩ := hrel
        have hsz := HB.size
        have b5 := below_join b1 HB
        by_cases hlt : i < rows.length
        · obtain ⟨r, hr⟩ := at_lt hlt
          obtain ⟨b, o, A0, cc0, rfl, hcell, hrow, _⟩ := HRo.out i r hr
          have y0 : wr.cell? ⟨b, o + i * 5, none⟩ = some (.int .i64 r.level) := later b5 (hcell 0 _ rfl)
          have y1 : wr.cell? ⟨b, o + i * 5 + 1, none⟩ = some (.int .i64 r.kind) := later b5 (hcell 1 _ rfl)
          have y2 : wr.cell? ⟨b, o + i * 5 + 2, none⟩ = some (.int .i64 r.fin) := later b5 (hcell 2 _ rfl)
          have y3 : wr.cell? ⟨b, o + i * 5 + 3, none⟩ = some (.int .i64 r.defect) := later b5 (hcell 3 _ rfl)
          have y4 : wr.cell? ⟨b, o + i * 5 + 4, none⟩ = some (.slice A0 r.items.length cc0) := later b5 (hcell 4 _ rfl)
          have Y1 : Hid (w.cell? ⟨b, o + i * 5 + 1, none⟩ = some (.int .i64 r.kind)) := Lib.hid (hcell 1 _ rfl)
          have hri := HSm.out.2 r (List.mem_of_getElem? hr)
          have HFc := Lib.hid (HBx.out.below HB)
          have HPc : Hid (∀ V, Below w.heap.size w V → _) := Lib.hid fun V hb => rpieces_any d a r A0 cc0 V (B := B) (Nat.le_trans hB hb.size) (HFi.out.mono (hb.mono hB)) (hrow.mono (hb.mono hB)) hri HGd.out
          have HK : Hid (∀ w', Below wr.heap.size wr w' → Below wr.heap.size wr w' ∧ w'.cell? ⟨b, o + i * 5, none⟩ = some (.int .i64 r.level) ∧ w'.cell? ⟨b, o + i * 5 + 1, none⟩ = some (.int .i64 r.kind) ∧ w'.cell? ⟨b, o + i * 5 + 2, none⟩ = some (.int .i64 r.fin) ∧ w'.cell? ⟨b, o + i * 5 + 3, none⟩ = some (.int .i64 r.defect) ∧ w'.cell? ⟨b, o + i * 5 + 4, none⟩ = some (.slice A0 r.items.length cc0) ∧ w'.cell? ⟨w.heap.size, 0, none⟩ = some (.int .i64 d.sum) ∧ w'.cell? ⟨w.heap.size, 1, none⟩ = some (.int .i64 d.design) ∧ w'.cell? ⟨w.heap.size, 2, none⟩ = some (.int .i64 d.first) ∧ w'.cell? ⟨w.heap.size, 3, none⟩ = some (.slice a.c d.chars.length a.cc) ∧ w'.cell? ⟨w.heap.size, 4, none⟩ = some (.slice a.w d.widths.length a.cw) ∧ w'.cell? ⟨w.heap.size, 5, none⟩ = some (.slice a.h d.heights.length a.ch) ∧ w'.cell? ⟨w.heap.size, 6, none⟩ = some (.slice a.d d.depths.length a.cd) ∧ w'.cell? ⟨w.heap.size, 7, none⟩ = some (.slice a.i d.italics.length a.ci) ∧ w'.cell? ⟨w.heap.size, 8, none⟩ = some (.slice a.s d.steps.length a.cs) ∧ w'.cell? ⟨w.heap.size, 9, none⟩ = some (.slice a.k d.kerns.length a.ck) ∧ w'.cell? ⟨w.heap.size, 10, none⟩ = some (.slice a.p d.params.length a.cp)) := Lib.hid fun w' hb => ⟨hb, later hb y0, later hb y1, later hb y2, later hb y3, later hb y4, font_cells (HFc.out.below hb)⟩
          have HBW := Lib.hid b5
          have HRr := Lib.hid hr
          clear hcell hrow hr y0 y1 y2 y3 y4 b5
          go_upto_region 11 with fail
          go_region_held3 (fun w' => Below wr.heap.size wr w' ∧ w'.cell? ⟨b, o + i * 5, none⟩ = some (.int .i64 r.level) ∧ w'.cell? ⟨b, o + i * 5 + 1, none⟩ = some (.int .i64 r.kind) ∧ w'.cell? ⟨b, o + i * 5 + 2, none⟩ = some (.int .i64 r.fin) ∧ w'.cell? ⟨b, o + i * 5 + 3, none⟩ = some (.int .i64 r.defect) ∧ w'.cell? ⟨b, o + i * 5 + 4, none⟩ = some (.slice A0 r.items.length cc0) ∧ w'.cell? ⟨w.heap.size, 0, none⟩ = some (.int .i64 d.sum) ∧ w'.cell? ⟨w.heap.size, 1, none⟩ = some (.int .i64 d.design) ∧ w'.cell? ⟨w.heap.size, 2, none⟩ = some (.int .i64 d.first) ∧ w'.cell? ⟨w.heap.size, 3, none⟩ = some (.slice a.c d.chars.length a.cc) ∧ w'.cell? ⟨w.heap.size, 4, none⟩ = some (.slice a.w d.widths.length a.cw) ∧ w'.cell? ⟨w.heap.size, 5, none⟩ = some (.slice a.h d.heights.length a.ch) ∧ w'.cell? ⟨w.heap.size, 6, none⟩ = some (.slice a.d d.depths.length a.cd) ∧ w'.cell? ⟨w.heap.size, 7, none⟩ = some (.slice a.i d.italics.length a.ci) ∧ w'.cell? ⟨w.heap.size, 8, none⟩ = some (.slice a.s d.steps.length a.cs) ∧ w'.cell? ⟨w.heap.size, 9, none⟩ = some (.slice a.k d.kerns.length a.ck) ∧ w'.cell? ⟨w.heap.size, 10, none⟩ = some (.slice a.p d.params.length a.cp))
            (first
              | exact HK.out _ (below_join ‹Below wr.heap.size wr _ ∧ _›.1 hb6)
              | exact HK.out _ (below_drew (Below.refl _ _)))
            (first
              | (go_at_call 23; with_reducible refine (HPc.out _ (below_join HBW.out ‹Below wr.heap.size wr _ ∧ _›.1)).mono ?_; rintro e w6 ⟨v10, rfl, hR10, hb6⟩))
          obtain ⟨hb6', -⟩ := ‹Below wr.heap.size wr w6 ∧ _›
          have HB6 := HB.trans (hb6'.mono HB.size)
          have hsz6 := HB6.size
          have H7' := Lib.hid (Kd.R_below H7.out hb6')
          have H8' := Lib.hid (Kd.R_below H8.out hb6')
          have HLt7 := Lib.hid (Kd.R_lt H7.out)
          have b6 := below_join b1 HB6
          have y1 := later b6 Y1.out
          have HR10 : Hid (kL.R 23 w6 wr.heap.size anyK v10 (piecesV d r).1) := Lib.hid (Kd.R_lower hR10 (by first | exact Nat.le_refl _ | (simp; done)))
          have HBadR : Hid (badR d rows.length i r = true → (tv, te) = ([], 230)) := Lib.hid (fun h => by rw [HT2.out, if_pos]; rw [badN_at d rows.length 0 rows i r HRr.out (by rw [Nat.zero_add]; exact h)]; rfl)
          have HGn : Hid (badR d rows.length i r = false → ∀ k q, k < i + 1 → rows[k]? = some q → badR d rows.length k q = false) := Lib.hid (fun h k q hk hq => by
            by_cases e : k = i
            · subst e; rw [HRr.out] at hq; cases hq; exact h
            · exact HG.out k q (by omega) hq)
          have HL6n : Hid ((rows.map (lineP d)).take (i + 1) = (rows.map (lineP d)).take i ++ [lineP d r]) := Lib.hid (take_one (by rw [List.getElem?_map, HRr.out]; rfl))
          have HL7n : Hid ((rows.map fun r => (r.kind, (0 : Int), (0 : Int))).take (i + 1) = (rows.map fun r => (r.kind, (0 : Int), (0 : Int))).take i ++ [(r.kind, 0, 0)]) := Lib.hid (take_one (by rw [List.getElem?_map, HRr.out]; rfl))
          have hm7 : ((rows.map (lineP d)).take i).length ≤ 420 := by rw [List.length_take, List.length_map]; omega
          have hm8 : ((rows.map fun r => (r.kind, (0 : Int), (0 : Int))).take i).length ≤ 420 := by rw [List.length_take, List.length_map]; omega
          generalize (rows.map (lineP d)).take i = T7 at *
          generalize (rows.map fun r => (r.kind, (0 : Int), (0 : Int))).take i = T8 at *
          have hszr := hsz
          clear hR10 hb6 hb6' HB HK HFc HBW HPc H7 H8 HG hsz
          obtain ⟨an, han⟩ : ∃ q, (lineP d r).any (fun x => x.isEmpty) = q := ⟨_, rfl⟩
          have hpv : piecesV d r = if an then ([], false) else (lineP d r, true) := by unfold piecesV; rw [← han]
          have HAn := Lib.hid han
          have hp2 : (piecesV d r).2 = !an := by rw [hpv]; cases an <;> rfl
          have HPv := Lib.hid hpv
          rw [hp2]
          clear han hpv hp2
          go_upto_region 12 with fail
          go_cut [12] from 36 to 41 (fun v wx => v = .bool (decide (i + 1 = rows.length)) ∧ wx = w6)
          case first =>
            by_cases hla : i + 1 = rows.length
            · have F1 : ((i : Int) == (rows.length : Int) - 1) = true := by rw [beq_iff_eq]; omega
              have HD : Hid (true = decide (i + 1 = rows.length)) := Lib.hid (decide_eq_true hla).symm
              clear hla
              go_wp2_with fail
              go_meet
              exact ⟨by rw [← HD.out], rfl⟩
            · have F1 : ((i : Int) == (rows.length : Int) - 1) = false := by rw [beq_eq_false_iff_ne]; omega
              have HD : Hid (false = decide (i + 1 = rows.length)) := Lib.hid (decide_eq_false hla).symm
              clear hla
              go_wp2_with fail
              go_meet
              exact ⟨by rw [← HD.out], rfl⟩
          case rest =>
          rename World => wz
          obtain ⟨rfl, hwz⟩ := hcut
          subst hwz
          rename World => w6
          with_reducible apply_assumption
          obtain ⟨la, hla⟩ : ∃ q, decide (i + 1 = rows.length) = q := ⟨_, rfl⟩
          rw [hla]
          have HLa := Lib.hid hla
          clear hla
          obtain ⟨k5, hk5⟩ : ∃ q, (r.kind == 5) = q := ⟨_, rfl⟩
          have HK5 := Lib.hid hk5
          go_upto_region 13 with fail
          go_cut [52] from 41 to 53 (fun v wx => v = .bool (an || !(k5 == la)) ∧ wx = w6)
          case first =>
            cases an with
            | true =>
              go_wp2_with fail
              all_goals (try (rename_i h1 h2; exact absurd h1 no_undef))
              all_goals
                go_meet
                exact ⟨by simp, rfl⟩
            | false =>
              cases k5 <;> cases la
              all_goals
                go_wp2_with fail
                all_goals (try (rename_i h1 h2; exact absurd h1 no_undef))
                all_goals
                  go_meet
                  exact ⟨by simp, rfl⟩
          case rest =>
          rename World => wz
          obtain ⟨rfl, hwz⟩ := hcut
          subst hwz
          rename World => w6
          with_reducible apply_assumption
          obtain ⟨q, hq⟩ : ∃ q, (an || !(k5 == la)) = q := ⟨_, rfl⟩
          rw [hq]
          cases q with
          | true =>
            have hpv := HBadR.out (by
              unfold badR
              rw [HAn.out, HK5.out, HLa.out, hq]
              rfl)
            obtain ⟨rfl, rfl⟩ := Prod.mk.inj hpv
            clear hpv hq hk5
            go_wp2_with fail
            go_ret2
            exact ⟨.slice none 0 0, rfl, Kd.R_nil _ _ _ _ _, b6⟩
          | false =>
            have han : an = false := by cases an with | false => rfl | true => simp at hq
            have HBr : Hid (badR d rows.length i r = ((r.kind == 2 || r.kind == 3) && lastC ((lineP d r).getD ((lineP d r).length - 1) []) != 45)) := Lib.hid (by unfold badR; rw [HAn.out, HK5.out, HLa.out, hq, Bool.false_or])
            have hp1 : (piecesV d r).1 = lineP d r := by rw [HPv.out, han]; rfl
            rw [hp1] at HR10
            have hlp : (lineP d r).length ≤ 701 := by have := line_len d r; omega
            clear hq hk5 HPv hp1 HK5 HLa
            subst han
            have Hany := HAn
            have hne := line_ne d r
            obtain ⟨n, hnn⟩ : ∃ n, (lineP d r).length = n + 1 := ⟨(lineP d r).length - 1, by have := List.length_pos_iff.2 hne; omega⟩
            obtain ⟨A10, c10, e10, hc10, hC10⟩ := Kd.R_reads HR10.out
            subst e10
            obtain ⟨z, hz⟩ := at_lt (l := lineP d r) (i := n) (by omega)
            obtain ⟨bl, ol, Az, cz, rfl, kz, hcz, hCz⟩ := kL_at hC10 hz
            have hzn : z ≠ [] := fun e => by
              have h7 := Hany.out
              rw [List.any_eq_false] at h7
              exact h7 z (List.mem_of_getElem? hz) (by rw [e]; rfl)
            have hzs : z.length ≤ 100000000 := by have h1 := mem_sum (List.mem_of_getElem? hz); have h2 := line_sum d r; omega
            have HZ : (lineP d r).getD ((lineP d r).length - 1) [] = z := by rw [hnn, List.getD_eq_getElem?_getD]; simp [hz]
            obtain ⟨m, hmm⟩ : ∃ m, z.length = m + 1 := ⟨z.length - 1, by have := List.length_pos_iff.2 hzn; omega⟩
            obtain ⟨y, hy⟩ := at_lt (l := z) (i := m) (by omega)
            obtain ⟨bz, oz, rfl, ky⟩ := kI_at hCz hy
            have HY : lastC z = y := by unfold lastC; rw [hmm, List.getD_eq_getElem?_getD]; simp [hy]
            have kz2 : w6.cell? ⟨bl, ol + ((lineP d r).length - 1), none⟩ = some (.slice (some ⟨bz, oz, none⟩) z.length cz) := by rw [hnn]; exact kz
            have ky2 : w6.cell? ⟨bz, oz + (z.length - 1), none⟩ = some (.int .i64 y) := by rw [hmm]; exact ky
            have hz1 : 0 < z.length := by omega
            have hl1 : 0 < (lineP d r).length := by omega
            rw [HZ, HY] at HBr
            clear hnn hmm hz hy hzn hcz hCz kz ky hne HZ HY hC10
            go_upto_region 15 with fail
            go_cut [13] from 53 to 59 (fun v wx => v = .slice (some ⟨bz, oz, none⟩) z.length cz ∧ wx = w6)
            case first =>
              go_wp2_with fail
              go_meet
              exact ⟨rfl, rfl⟩
            case rest =>
            rename World => wz
            obtain ⟨rfl, hwz⟩ := hcut
            subst hwz
            rename World => w6
            with_reducible apply_assumption
            go_upto_region 16 with fail
            go_cut [81] from 59 to 82 (fun v wx => v = .bool ((r.kind == 2 || r.kind == 3) && y != 45) ∧ wx = w6)
            case first =>
              clear kz2
              obtain ⟨yb, hyb⟩ : ∃ q, (y != 45) = q := ⟨_, rfl⟩
              by_cases hk2 : r.kind = 2
              · have F1 : (r.kind == 2) = true := by simp [hk2]
                have HV : Hid (yb = ((r.kind == 2 || r.kind == 3) && y != 45)) := Lib.hid (by rw [F1, hyb]; rfl)
                clear hk2
                go_wp2_with fail
                all_goals (try (rename_i h1 h2; exact absurd h1 no_undef))
                all_goals
                  go_meet
                  exact ⟨by rw [← HV.out], rfl⟩
              · have F1 : (r.kind == 2) = false := by simp [hk2]
                clear hk2
                by_cases hk3 : r.kind = 3
                · have F2 : (r.kind == 3) = true := by simp [hk3]
                  have HV : Hid (yb = ((r.kind == 2 || r.kind == 3) && y != 45)) := Lib.hid (by rw [F1, F2, hyb]; rfl)
                  clear hk3
                  go_wp2_with fail
                  all_goals (try (rename_i h1 h2; exact absurd h1 no_undef))
                  all_goals
                    go_meet
                    exact ⟨by rw [← HV.out], rfl⟩
                · have F2 : (r.kind == 3) = false := by simp [hk3]
                  have HV : Hid (false = ((r.kind == 2 || r.kind == 3) && y != 45)) := Lib.hid (by rw [F1, F2]; rfl)
                  clear hk3
                  go_wp2_with fail
                  all_goals (try (rename_i h1 h2; exact absurd h1 no_undef))
                  all_goals
                    go_meet
                    exact ⟨by rw [← HV.out], rfl⟩
            case rest =>
            rename World => wz
            obtain ⟨rfl, hwz⟩ := hcut
            subst hwz
            rename World => w6
            with_reducible apply_assumption
            rw [← HBr.out]
            obtain ⟨q, hq⟩ : ∃ q, badR d rows.length i r = q := ⟨_, rfl⟩
            rw [hq]
            cases q with
            | true =>
              have hpv := HBadR.out hq
              obtain ⟨rfl, rfl⟩ := Prod.mk.inj hpv
              clear hpv hq
              go_wp2_with fail
              go_ret2
              exact ⟨.slice none 0 0, rfl, Kd.R_nil _ _ _ _ _, b6⟩
            | false =>
              have HG2 := Lib.hid (HGn.out hq)
              clear hq HBr HGn HBadR kz2 ky2
              have HM18 : Hid (kM.M w6 w1.heap.size (fun k => wr.heap.size ≤ k) (lineP d r) [.slice (some ⟨bl, ol, none⟩) (lineP d r).length c10]) := Lib.hid (Kd.M_row (fresh_R HR10.out hszr))
              have HO7p := Lib.hid (Kd.R_own H7'.out)
              go_wp2_with (first
                | (at_builtin
                   refine Kd.R_append kM (w0 := w1) w1.heap.size rfl (.tmp 82) (.tmp 84) _ 31 (.slice none 0 0) 24 rfl Try.underlying51 info_m rfl (by decide) (by decide) _ T7 (lineP d r) [.slice (some ⟨bl, ol, none⟩) (lineP d r).length c10] anyK (fun k => wr.heap.size ≤ k) rfl rfl HM18.out (fun k hk => ⟨trivial, fun e => by have := HLt7.out k e.symm; omega⟩) (fun _ _ => trivial) H7'.out HB6 hsz6 (by omega) ?_
                   intro v7 w7 hR7 hb7 hg7 hat7
                   have HR7 := Lib.hid hR7
                   have HR8 : Hid (kB.R 62 w7 w1.heap.size anyK u8 T8) := Lib.hid (by
                     obtain ⟨_, ho⟩ := HO7p.out
                     exact grown_other H8'.out ho (by decide) hg7)
                   have y7 := later (below_join b1 hb7) Y1.out
                   have hs7 := hb7.size
                   clear hR7 hg7 hat7)
                | (at_builtin
                   refine Kd.R_append kB (w0 := w1) w1.heap.size rfl (.tmp 86) (.tmp 93) _ 62 _ 24 rfl Try.underlying52 info_b rfl (by decide) (by decide) _ T8 (r.kind, 0, 0) [.int .i64 r.kind, .int .i64 0, .int .i64 0] anyK (fun _ => False) rfl rfl ⟨[_], [_, _], rfl, rfl, [_], [_], rfl, rfl, rfl⟩ (fun _ h => h.elim) (fun _ _ => trivial) HR8.out hb7 hs7 (by omega) ?_
                   intro v8 w8 hR8 hb8 hg8 hat8
                   have HR8' := Lib.hid hR8
                   have HR7' : Hid (kM.R 31 w8 w1.heap.size anyK v7 (T7 ++ [lineP d r])) := Lib.hid (by
                     obtain ⟨_, ho⟩ := Kd.R_own HR8.out
                     exact grown_other HR7.out ho (by decide) hg8)
                   clear hR8 hg8 hat8))
              go_roundw
              case rel => exact ⟨i + 1, by go_num, by omega, HG2, Lib.hid (by rw [HL6n.out]; exact HR7'.out), Lib.hid (by rw [HL7n.out]; exact HR8'.out), hb8⟩
              case measure => simp [intOf]; omega
        · have hie : i = rows.length := by omega
          have HBn : badN d rows.length 0 rows = false := badN_none d rows.length 0 rows (fun k r hk => by rw [Nat.zero_add]; exact HG.out k r (by have := (List.getElem?_eq_some_iff.1 hk).1; omega) hk)
          have hpv : (tv, te) = (wholeP (rows.map (lineP d)) (rows.map (·.kind)), 0) := by rw [HT2.out, HBn, if_neg]; simp; intro e; rw [e] at hne0; simp at hne0
          obtain ⟨rfl, rfl⟩ := Prod.mk.inj hpv
          have L6 := H7.out
          have L7 := H8.out
          rw [hie, List.take_of_length_le (by simp)] at L6 L7
          obtain ⟨A6, c6, e6, hc6, hC6⟩ := Kd.R_reads L6
          obtain ⟨A7, c7, e7, hc7, hC7⟩ := Kd.R_reads L7
          have el1 : (rows.map (lineP d)).length = rows.length := by simp
          have el2 : (rows.map fun r => (r.kind, (0 : Int), (0 : Int))).length = rows.length := by simp
          have el3 : (rows.map (·.kind)).length = rows.length := by simp
          have hKi := kinds_of hC7
          have em : ((rows.map fun r => (r.kind, (0 : Int), (0 : Int))).map (·.1)) = rows.map (·.kind) := by rw [List.map_map]; rfl
          rw [em] at hKi
          have HW := rwhole_any A6 A7 c6 c7 (rows.map (lineP d)) (rows.map (·.kind)) wr hC6 hKi (by rw [el1, el3]) (by rw [el1]; omega)
            (fun l hl => by
              obtain ⟨q, hq, rfl⟩ := List.mem_map.1 hl
              have h8 := line_len d q
              have h9 := HSm.out.2 q hq
              omega)
            (fun l hl => by
              obtain ⟨q, hq, rfl⟩ := List.mem_map.1 hl
              exact small_s HSm.out q hq)
            (fun i j hj => small_o HSm.out i j hj)
          rw [el1] at e6
          rw [el2] at e7
          subst e6 e7
          rw [el1, el3] at HW
          clear hie HBn H7 H8 L6 L7 hC6 hC7 hKi em el1 el2 el3 hpv HT2 HG hc6 hc7
          go_wp2_with fail
          with_reducible refine HW.mono ?_
          rintro e w5 ⟨v5, rfl, hR5, hb5⟩
          have HR5 := Lib.hid hR5
          have b9 := below_join (below_join b1 HB) hb5
          have hs9 := (below_join b1 HB).size
          clear HW hR5 hb5
          go_wp2_with fail
          go_ret2
          exact ⟨_, rfl, Kd.R_lower HR5.out hs9, b9⟩
end Go.Proofs.Ytbkfofmanpjbfaa.Bk
