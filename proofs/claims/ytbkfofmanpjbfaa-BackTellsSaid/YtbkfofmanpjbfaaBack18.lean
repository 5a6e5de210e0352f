/- Whole words of lines' pieces, by the reference: the walk of compositorref17.Whole. -/
import Derived.Test.YtbkfofmanpjbfaaBack16
namespace Go.Proofs.Ytbkfofmanpjbfaa.Bk
open Go.RowKit Go.Proofs.Ytbkfofmanpjbfaa.Kit Go.Proofs.Ytbkfofmanpjbfaa.Fo Go.Shelf
open Go.Proofs.YtbkfofmanpjbfaaW.PrintWords (Kd)
set_option linter.unusedVariables false
set_option linter.unusedSimpArgs false

set_option maxRecDepth 10000 in
set_option maxHeartbeats 8000000 in
theorem rwhole_any (A0 A1 : Option Addr) (c0 c1 : Nat) (ls : List (List (List Int))) (ks : List Int) (w : World) (hC : kM.C w A0 ls.length ls) (hK : Kinds w A1 ks) (hlen : ls.length = ks.length) (hn : ls.length ≤ 1000) (hm : ∀ l ∈ ls, l.length ≤ 2000) (hp : ∀ l ∈ ls, ∀ p ∈ l, p.length ≤ 100000000)
    (ho : ∀ i j, j ≤ (ls.getD i []).length → ((putN (ks.getD i 0) (wholeN ls ks i).2 (ls.getD i []) (wholeN ls ks i).1 j).length ≤ 400000000 ∧ ∀ p ∈ putN (ks.getD i 0) (wholeN ls ks i).2 (ls.getD i []) (wholeN ls ks i).1 j, p.length ≤ 100000000)) :
    Calls Try.prog 24 #[.slice A0 ls.length c0, .slice A1 ks.length c1] w fun e w' => ∃ v, e = .returned v ∧ kL.R 23 w' w.heap.size anyK v (wholeP ls ks) ∧ Below w.heap.size w w' := by
  have HC := Lib.hid hC
  have HK := Lib.hid hK
  have HM := Lib.hid hm
  have HP := Lib.hid hp
  have HO := Lib.hid ho
  have HLn := Lib.hid hlen
  have hn2 : ks.length ≤ 1000 := by omega
  clear hC hK hm hp ho hlen
  go_enter Try.func24, Try.ntmps24
  go_upto_region 4 with fail
  go_loopw [5, 6, 7] (fun v o iv wr => ∃ i : Nat, iv = .int .i64 i ∧ i ≤ ls.length ∧ o = .bool (wholeN ls ks i).2 ∧ Hid (kL.R 23 wr w.heap.size anyK v (wholeN ls ks i).1) ∧ Below w.heap.size w wr) (fun _ _ iv _ => ls.length - (intOf iv).toNat)
  case atStart => exact ⟨0, rfl, by omega, rfl, Lib.hid (Kd.R_nil _ _ _ _ _), Below.refl _ _⟩
  case round =>
    rename World => wq
    obtain ⟨i, rfl, hi, rfl, HR0, HBq⟩ := hrel
    by_cases hlt : i < ls.length
    · obtain ⟨l, hl⟩ := at_lt hlt
      obtain ⟨k, hk⟩ := at_lt (l := ks) (i := i) (by have := HLn.out; omega)
      obtain ⟨b0, o0, A2, c2, rfl, hc2w, _, hCl⟩ := kM_at HC.out hl
      obtain ⟨b1, o1, rfl, hc1w⟩ := HK.out i k hk
      have HC2w := Lib.hid hc2w
      have HC1w := Lib.hid hc1w
      have hl2 := HM.out l (List.mem_of_getElem? hl)
      have HPl := Lib.hid (HP.out l (List.mem_of_getElem? hl))
      have F1 : ((i : Int) < (ls.length : Int)) = True := eq_true (by omega)
      have F2 : ((i : Int) < (ks.length : Int)) = True := eq_true (by have := HLn.out; omega)
      have hik : i < ks.length := by have := HLn.out; omega
      have el : ls.getD i [] = l := by rw [List.getD_eq_getElem?_getD, hl]; rfl
      have ek : ks.getD i 0 = k := by rw [List.getD_eq_getElem?_getD, hk]; rfl
      obtain ⟨on, hon⟩ : ∃ on, (wholeN ls ks i).2 = on := ⟨_, rfl⟩
      obtain ⟨T0, hT0⟩ : ∃ T, (wholeN ls ks i).1 = T := ⟨_, rfl⟩
      have HOi := Lib.hid (HO.out i)
      have HNx : Hid (wholeN ls ks (i + 1) = (putN k on l T0 l.length, hyB k || k == 4)) := Lib.hid (by rw [wholeN, el, ek, hon, hT0])
      rw [el, ek, hon, hT0] at HOi
      rw [hT0] at HR0
      rw [hon]
      have HCl0 := Lib.hid hCl
      clear hl hk el ek hon hT0 hCl hc2w hc1w
      go_upto_region 7 with fail
      clear F1 F2
      go_loopw [5, 8] (fun v jv wr => ∃ j : Nat, jv = .int .i64 j ∧ j ≤ l.length ∧ Hid (kL.R 23 wr w.heap.size anyK v (putN k on l T0 j)) ∧ Below w.heap.size w wr) (fun _ jv _ => l.length - (intOf jv).toNat)
      case atStart => exact ⟨0, rfl, by omega, HR0, HBq⟩
      case round =>
        clear HR0 HBq
        rename World => wr
        obtain ⟨j, rfl, hj, HR, HB⟩ := hrel
        have hc2 := later HB HC2w.out
        have hsz := HB.size
        by_cases hltj : j < l.length
        · obtain ⟨p, hpj⟩ := at_lt hltj
          obtain ⟨b3, o3, A3, c3, rfl, hc3, hp3, hCp⟩ := kL_at (Kd.C_below HCl0.out HB) hpj
          have hpl := HPl.out p (List.mem_of_getElem? hpj)
          obtain ⟨hTl, hTp⟩ := HOi.out j hj
          have HTp := Lib.hid hTp
          have ep : l.getD j [] = p := by rw [List.getD_eq_getElem?_getD, hpj]; rfl
          have HT1 : Hid (putN k on l T0 (j + 1) = putP (j == 0) on (putN k on l T0 j) (cutP (decide (j + 1 = l.length)) k p)) := Lib.hid (by rw [putN, ep])
          generalize putN k on l T0 j = T at *
          have HCp : Hid (kI.C (wr.alloc (.cells #[] 3)) A3 p.length p) := Lib.hid (Kd.C_alloc hCp _)
          have hc2a := old_cell (.cells #[] 3) hc2
          have hc3a := old_cell (.cells #[] 3) hc3
          clear hpj ep hTp hCp
          go_upto_region 9 with fail
          go_cut [9] from 32 to 41 (fun v wx => Hid (kI.R 3 wx wr.heap.size anyK v p) ∧ Below wr.heap.size wr wx)
          case first =>
            go_wp2_with (at_builtin
                         refine Kd.R_append_rows kI (Rr := kI.K (wr.alloc (.cells #[] 3))) (w0 := wr) wr.heap.size rfl (.tmp 32) (.tmp 39) _ 3 (.int .i64 0) 8 rfl Try.underlying23 info_i64 rfl (by decide) (by decide) _ [] p A3 p.length c3 anyK (fun _ => False) rfl rfl (lit0_R kI wr 3 rfl) HCp.out (fun _ _ h => h) (fun _ h => h.elim) (fun _ _ => trivial) (below_alloc (Below.refl _ _) _) (by simp) (by simp; omega) ?_
                         intro v9 w9 hR9 hb9 hg9 hat9
                         have HR9 := Lib.hid hR9
                         clear hR9 hg9 hat9)
            go_meet
            exact ⟨Lib.hid HR9.out, hb9⟩
          case rest =>
          rename World => wx
          obtain ⟨HR9, hbx⟩ := hcut
          have HBx := HB.trans (hbx.mono hsz)
          have HRx := Lib.hid (Kd.R_below HR.out hbx)
          have hc2 := later hbx hc2
          have hc1 := later HBx HC1w.out
          have hsx := HBx.size
          have hsw := hbx.size
          have hsz' := hsz
          have HLt0 := Lib.hid (Kd.R_lt HR.out)
          clear hc2a hc3a hc3 HCp HR HB hsz
          with_reducible apply_assumption
          obtain ⟨A9, c9, e9, hc9, _⟩ := Kd.R_reads HR9.out
          subst e9
          go_upto_region 10 with fail
          go_cut [10] from 41 to 49 (fun v wx' => v = .bool (decide (j + 1 = l.length)) ∧ wx' = wx)
          case first =>
            by_cases hla : j + 1 = l.length
            · have F1 : ((j : Int) == (l.length : Int) - 1) = true := by rw [beq_iff_eq]; omega
              have HD : Hid (true = decide (j + 1 = l.length)) := Lib.hid (decide_eq_true hla).symm
              clear hla
              go_wp2_with fail
              go_meet
              exact ⟨by rw [← HD.out], rfl⟩
            · have F1 : ((j : Int) == (l.length : Int) - 1) = false := by rw [beq_eq_false_iff_ne]; omega
              have HD : Hid (false = decide (j + 1 = l.length)) := Lib.hid (decide_eq_false hla).symm
              clear hla
              go_wp2_with fail
              go_meet
              exact ⟨by rw [← HD.out], rfl⟩
          case rest =>
          rename World => wz
          obtain ⟨rfl, hwz⟩ := hcut
          subst hwz
          rename World => wx
          with_reducible apply_assumption
          obtain ⟨la, hla⟩ : ∃ q, decide (j + 1 = l.length) = q := ⟨_, rfl⟩
          rw [hla] at HT1 ⊢
          clear hla
          go_upto_region 11 with fail
          go_cut [70] from 49 to 71 (fun v wx' => v = .bool (la && !p.isEmpty && hyB k) ∧ wx' = wx)
          case first =>
            cases la with
            | false =>
              go_wp2_with fail
              all_goals (try (rename_i h1 h2; exact absurd h1 no_undef))
              all_goals
                go_meet
                exact ⟨by simp, rfl⟩
            | true =>
              by_cases hp0 : 0 < p.length
              · have F1 : ((0 : Int) < (p.length : Int)) = True := eq_true (by omega)
                have HPe : Hid (p.isEmpty = false) := Lib.hid (by cases p with | nil => simp at hp0 | cons y p => rfl)
                by_cases hk2 : k = 2
                · have F2 : (k == 2) = true := by simp [hk2]
                  have HV : Hid (true = (true && !p.isEmpty && hyB k)) := Lib.hid (by rw [HPe.out, hyB, F2]; rfl)
                  clear hk2
                  go_wp2_with fail
                  all_goals (try (rename_i h1 h2; exact absurd h1 no_undef))
                  all_goals
                    go_meet
                    exact ⟨by rw [← HV.out], rfl⟩
                · have F2 : (k == 2) = false := by simp [hk2]
                  have HV : Hid ((k == 3) = (true && !p.isEmpty && hyB k)) := Lib.hid (by rw [HPe.out, hyB, F2]; rfl)
                  clear hk2
                  go_wp2_with fail
                  all_goals (try (rename_i h1 h2; exact absurd h1 no_undef))
                  all_goals
                    go_meet
                    exact ⟨by rw [← HV.out], rfl⟩
              · have F1 : ((0 : Int) < (p.length : Int)) = False := eq_false (by omega)
                have HV : Hid (false = (true && !p.isEmpty && hyB k)) := Lib.hid (by cases p with | nil => rfl | cons y p => simp at hp0)
                go_wp2_with fail
                all_goals (try (rename_i h1 h2; exact absurd h1 no_undef))
                all_goals
                  go_meet
                  exact ⟨by rw [← HV.out], rfl⟩
          case rest =>
          rename World => wz
          obtain ⟨rfl, hwz⟩ := hcut
          subst hwz
          rename World => wx
          with_reducible apply_assumption
          obtain ⟨q, hq⟩ : ∃ q, (la && !p.isEmpty && hyB k) = q := ⟨_, rfl⟩
          rw [hq]
          have HQq := Lib.hid hq
          clear hq
          go_cut [9] from 71 to 76 (fun v wx' => ∃ A4 c4 p2, v = .slice A4 p2.length c4 ∧ p2 = cutP la k p ∧ Hid (kI.R 3 wx wr.heap.size anyK (.slice A4 p2.length c4) p2) ∧ p2.length ≤ p.length ∧ wx' = wx)
          case first =>
            have hq := HQq.out
            cases q with
            | false =>
              have HQ2 : Hid (p = cutP la k p) := Lib.hid (by
                unfold cutP
                cases p with
                | nil => split <;> rfl
                | cons y p => rw [Bool.and_assoc] at hq; rw [if_neg]; simpa using hq)
              clear hq
              go_wp2_with fail
              go_meet
              exact ⟨_, _, p, rfl, HQ2.out, HR9, Nat.le_refl _, rfl⟩
            | true =>
              simp only [Bool.and_eq_true] at hq
              have HQ2 : Hid (p.take (p.length - 1) = cutP la k p) := Lib.hid (by unfold cutP; rw [if_pos]; simp only [Bool.and_eq_true]; exact ⟨hq.1.1, hq.2⟩)
              have F2 : 0 < p.length := by
                cases p with
                | nil => simp at hq
                | cons y p => simp
              have hl9 : (p.take (p.length - 1)).length = p.length - 1 := by rw [List.length_take, Nat.min_eq_left (by omega)]
              have HL9 := Lib.hid hl9
              have HRt := Lib.hid (Kd.R_take (m := p.length - 1) HR9.out (by omega))
              clear hq hl9
              go_wp2_with fail
              all_goals (try (rename_i h1 h2; exact absurd h1 no_undef))
              all_goals
                go_meet
                exact ⟨A9, c9, p.take (p.length - 1), by rw [HL9.out], HQ2.out, Lib.hid (by rw [HL9.out]; exact HRt.out), by rw [HL9.out]; omega, rfl⟩
          case rest =>
          rename World => wz
          obtain ⟨A4, c4, p2, rfl, hp2, HR4, hl4, hwz⟩ := hcut
          subst hwz
          rename World => wx
          with_reducible apply_assumption
          have HT2 : Hid (putN k on l T0 (j + 1) = putP (j == 0) on T p2) := Lib.hid (by rw [HT1.out, hp2])
          obtain ⟨AT, cT, eT⟩ := Kd.R_slice HRx.out
          subst eT
          clear hp2 HT1 HR9 hc9 HQq
          go_upto_region 13 with fail
          go_cut [85] from 76 to 86 (fun v wx' => v = .bool (decide (j = 0) && on && !T.isEmpty) ∧ wx' = wx)
          case first =>
            by_cases hj0 : j = 0
            · subst hj0
              cases on with
              | false =>
                go_wp2_with fail
                all_goals (try (rename_i h1 h2; exact absurd h1 no_undef))
                all_goals
                  go_meet
                  exact ⟨by simp, rfl⟩
              | true =>
                by_cases hT0 : 0 < T.length
                · have F1 : ((0 : Int) < (T.length : Int)) = True := eq_true (by omega)
                  have HV : Hid (true = (decide (0 = 0) && true && !T.isEmpty)) := Lib.hid (by cases T with | nil => simp at hT0 | cons y T => rfl)
                  go_wp2_with fail
                  all_goals (try (rename_i h1 h2; exact absurd h1 no_undef))
                  all_goals
                    go_meet
                    exact ⟨by rw [← HV.out], rfl⟩
                · have F1 : ((0 : Int) < (T.length : Int)) = False := eq_false (by omega)
                  have HV : Hid (false = (decide (0 = 0) && true && !T.isEmpty)) := Lib.hid (by cases T with | nil => rfl | cons y T => simp at hT0)
                  go_wp2_with fail
                  all_goals (try (rename_i h1 h2; exact absurd h1 no_undef))
                  all_goals
                    go_meet
                    exact ⟨by rw [← HV.out], rfl⟩
            · have F1 : ((j : Int) == 0) = false := by rw [beq_eq_false_iff_ne]; omega
              have HV : Hid (false = (decide (j = 0) && on && !T.isEmpty)) := Lib.hid (by rw [decide_eq_false hj0]; rfl)
              clear hj0
              go_wp2_with fail
              all_goals (try (rename_i h1 h2; exact absurd h1 no_undef))
              all_goals
                go_meet
                exact ⟨by rw [← HV.out], rfl⟩
          case rest =>
          rename World => wz
          obtain ⟨rfl, hwz⟩ := hcut
          subst hwz
          rename World => wx
          with_reducible apply_assumption
          obtain ⟨q2, hq⟩ : ∃ q, (decide (j = 0) && on && !T.isEmpty) = q := ⟨_, rfl⟩
          rw [hq]
          cases q2 with
          | true =>
            simp only [Bool.and_eq_true, decide_eq_true_eq, Bool.not_eq_true', List.isEmpty_eq_false_iff] at hq
            obtain ⟨⟨rfl, rfl⟩, hne⟩ := hq
            have hpos : 0 < T.length := List.length_pos_iff.mpr hne
            obtain ⟨n, hTn⟩ : ∃ n, T.length = n + 1 := ⟨T.length - 1, by omega⟩
            have HT3 : Hid (putN k true l T0 (0 + 1) = T.set n (T.getD n [] ++ p2)) := Lib.hid (by
              rw [HT2.out]; unfold putP; rw [if_pos (by simp [hne])]; simp [hTn])
            obtain ⟨g, cap, e, hg1, hg2, _⟩ := Kd.R_form HRx.out hpos
            cases e
            obtain ⟨c, hcl, hM, hcc, hfr⟩ := Kd.R_elem HRx.out [] (n : Int) (by omega) (by omega)
            obtain ⟨u, rfl⟩ : ∃ u, c = [u] := by
              match c, hcl with
              | [u], _ => exact ⟨u, rfl⟩
            simp only [Int.toNat_natCast] at hM hcc hfr
            obtain ⟨A6, c6, rfl, h6, hC6⟩ := kL_open (Kd.K_of_M kL hM)
            have hc6 := hcc 0 _ rfl
            have hxl : (T.getD n []).length ≤ 100000000 := HTp.out _ (by rw [List.getD_eq_getElem?_getD, List.getElem?_eq_getElem (by omega)]; simp)
            have es : kL.sz = 1 := rfl
            simp only [es, Nat.mul_one, Nat.add_zero] at hc6
            generalize hX : T.getD n [] = x at *
            have eI : ((T.length : Int) - 1) = (n : Int) := by omega
            clear hne HT2 hcc hfr hM hX
            have hc6a := old_cell (.cells #[] 3) hc6
            have HC6 := Lib.hid (Kd.C_alloc hC6 (.cells #[] 3))
            have HC4 : Hid (kI.C wx A4 p2.length p2) := Lib.hid (Kd.R_reads' HR4.out).2.2
            have HTn := Lib.hid hTn
            have HeI := Lib.hid eI
            have hnT : n < T.length := by omega
            have hc6' := Lib.hid hc6
            clear hC6 hTn hc6
            go_wp2_with (first
              | (at_builtin
                 refine Kd.R_append_rows kI (Rr := kI.K (wx.alloc (.cells #[] 3))) (w0 := wx) wx.heap.size rfl (.tmp 90) (.tmp 96) _ 3 (.int .i64 0) 8 rfl Try.underlying23 info_i64 rfl (by decide) (by decide) _ [] x A6 x.length c6 anyK (fun _ => False) rfl rfl (lit0_R kI wx 3 rfl) HC6.out (fun _ _ h => h) (fun _ h => h.elim) (fun _ _ => trivial) (below_alloc (Below.refl _ _) _) (by simp) (by simp; omega) ?_
                 intro v7 w7 hR7 hb7 hg7 hat7
                 have HR7 := Lib.hid hR7
                 have HB7 := Lib.hid hb7
                 have HC47 := Lib.hid (Kd.C_below HC4.out hb7)
                 clear hR7 hg7 hat7 hb7)
              | (at_builtin
                 refine Kd.R_append_rows kI (Rr := kI.K w7) (w0 := wx) wx.heap.size rfl (.tmp 97) (.tmp 98) _ 3 (.int .i64 0) 8 rfl Try.underlying23 info_i64 rfl (by decide) (by decide) _ ([] ++ x) p2 A4 p2.length c4 anyK (fun _ => False) rfl rfl HR7.out HC47.out (fun _ _ h => h) (fun _ h => h.elim) (fun _ _ => trivial) HB7.out HB7.out.size (by simp; omega) ?_
                 intro v8 w8 hR8 hb8 hg8 hat8
                 obtain ⟨A8, c8, e8⟩ := Kd.R_slice hR8
                 obtain ⟨m, hm⟩ : ∃ m, ([] ++ x ++ p2).length = m := ⟨_, rfl⟩
                 rw [hm] at e8
                 subst e8
                 clear hm
                 have HR8 := Lib.hid hR8
                 have HB8 := Lib.hid hb8
                 clear hR8 hg8 hat8 hb8)
              | (with_reducible refine wpList_stop (o := ⟨none, .store _ _ _, _, _, _, _⟩) ?_))
            refine Lib.hid ?_
            have hs8 := HB8.out.size
            have HR3 := Lib.hid (Kd.R_below HRx.out HB8.out)
            have HB3 := HBx.trans (HB8.out.mono HBx.size)
            have hc63 := later HB8.out hc6'.out
            have hcX : Hid (∀ (j : Nat) (u : Value), [Value.slice A6 x.length c6][j]? = some u → w8.cell? ⟨g, (n : Int).toNat * kL.sz + j, none⟩ = some u) := Lib.hid (fun j u hu => by
              match j, hu with
              | 0, hu => cases hu; rw [es]; simpa using hc63)
            have hM3 := Lib.hid (Kd.M_row (fresh_R HR8.out hsx))
            have hMX : Hid (kL.M w8 w.heap.size (fun k => wx.heap.size ≤ k) ([] ++ x ++ p2) (List.take 0 [Value.slice A6 x.length c6] ++ [Value.slice A8 m c8] ++ List.drop (0 + [Value.slice A8 m c8].length) [Value.slice A6 x.length c6])) := Lib.hid (by
              have := hM3.out
              simpa using this)
            have HNi : Hid ((n : Int).toNat = n) := Lib.hid (Int.toNat_natCast n)
            refine Kd.R_store kL (w0 := w) w.heap.size rfl rfl 23 (.tmp 100) (.tmp 99) rfl 23 (g := g) (n := T.length) (cap := cT) (o' := n) (n : Int) 0 T ([] ++ x ++ p2) (.slice A8 m c8) [.slice A8 m c8] [.slice A6 x.length c6] anyK (fun k => wx.heap.size ≤ k) (by rfl) (by rw [es]; simp) (by rfl) (by rfl) info_z (by simp [Value.oneCell']) HR3.out (by omega) (by omega) rfl hcX.out (by rw [es]; simp) hMX.out (fun k hk => ⟨trivial, by omega⟩) HB3 ?_
            intro w9 hR9 hb9 hg9
            have HR9 := Lib.hid hR9
            clear hR9 hg9
            go_wp2_with fail
            go_roundw
            case rel => exact ⟨0 + 1, by go_num, by omega, Lib.hid (by rw [HT3.out]; simpa using HR9.out), hb9⟩
            case measure => simp [intOf]; omega
          | false =>
            have HT3 : Hid (putN k on l T0 (j + 1) = T ++ [p2]) := Lib.hid (by
              rw [HT2.out]; unfold putP; rw [if_neg]; intro h
              have e : (j == 0) = decide (j = 0) := by cases j <;> simp
              rw [e, hq] at h; cases h)
            have HM4 := Lib.hid (Kd.M_row (fresh_R HR4.out hsz'))
            clear hq HT2
            go_wp2_with (at_builtin
                         refine Kd.R_append kL (w0 := w) w.heap.size rfl (.tmp 101) (.tmp 103) _ 23 (.slice none 0 0) 24 rfl Try.underlying31 info_l rfl (by decide) (by decide) _ T p2 [.slice A4 p2.length c4] anyK (fun k => wr.heap.size ≤ k) rfl rfl HM4.out (fun k hk => ⟨trivial, fun e => by have := HLt0.out k e.symm; omega⟩) (fun _ _ => trivial) HRx.out HBx (by omega) (by omega) ?_
                         intro v5 w5 hR5 hb5 hg5 hat5
                         have HR5 := Lib.hid hR5
                         clear hR5 hg5 hat5)
            go_roundw
            case rel => exact ⟨j + 1, by go_num, by omega, Lib.hid (by rw [HT3.out]; exact HR5.out), hb5⟩
            case measure => simp [intOf]; omega
        · have hje : j = l.length := by omega
          have HRe : Hid (kL.R 23 wr w.heap.size anyK u5 (wholeN ls ks (i + 1)).1) := Lib.hid (by rw [HNx.out]; have := HR.out; rw [hje] at this; exact this)
          have HRb : Hid ((hyB k || k == 4) = (wholeN ls ks (i + 1)).2) := Lib.hid (by rw [HNx.out])
          have hc1 := later HB HC1w.out
          have F1 : ((j : Int) < (l.length : Int)) = False := eq_false (by omega)
          clear HR hje HNx
          go_upto_region 16 with fail
          clear F1 hc2
          by_cases h2 : 2 ≤ k
          · have F1 : ((2 : Int) ≤ k) = True := eq_true h2
            by_cases h4 : k ≤ 4
            · have F2 : (k ≤ 4) = True := eq_true h4
              have HV : Hid (true = (hyB k || k == 4)) := Lib.hid (by
                have : k = 2 ∨ k = 3 ∨ k = 4 := by omega
                rcases this with rfl | rfl | rfl <;> rfl)
              clear h2 h4
              go_wp2_with fail
              all_goals (try (rename_i h1 h2; exact absurd h1 no_undef))
              all_goals
                go_roundw
                case rel => exact ⟨i + 1, by go_num, by omega, by rw [← HRb.out, ← HV.out], HRe, HB⟩
                case measure => simp [intOf]; omega
            · have F2 : (k ≤ 4) = False := eq_false h4
              have HV : Hid (false = (hyB k || k == 4)) := Lib.hid (by
                have e1 : (k == 2) = false := by rw [beq_eq_false_iff_ne]; omega
                have e2 : (k == 3) = false := by rw [beq_eq_false_iff_ne]; omega
                have e3 : (k == 4) = false := by rw [beq_eq_false_iff_ne]; omega
                rw [hyB, e1, e2, e3]; rfl)
              clear h2 h4
              go_wp2_with fail
              all_goals (try (rename_i h1 h2; exact absurd h1 no_undef))
              all_goals
                go_roundw
                case rel => exact ⟨i + 1, by go_num, by omega, by rw [← HRb.out, ← HV.out], HRe, HB⟩
                case measure => simp [intOf]; omega
          · have F1 : ((2 : Int) ≤ k) = False := eq_false h2
            have HV : Hid (false = (hyB k || k == 4)) := Lib.hid (by
              have e1 : (k == 2) = false := by rw [beq_eq_false_iff_ne]; omega
              have e2 : (k == 3) = false := by rw [beq_eq_false_iff_ne]; omega
              have e3 : (k == 4) = false := by rw [beq_eq_false_iff_ne]; omega
              rw [hyB, e1, e2, e3]; rfl)
            clear h2
            go_wp2_with fail
            all_goals (try (rename_i h1 h2; exact absurd h1 no_undef))
            all_goals
              go_roundw
              case rel => exact ⟨i + 1, by go_num, by omega, by rw [← HRb.out, ← HV.out], HRe, HB⟩
              case measure => simp [intOf]; omega
    · have hie : i = ls.length := by omega
      have F1 : ((i : Int) < (ls.length : Int)) = False := eq_false (by omega)
      have HE : Hid (kL.R 23 wq w.heap.size anyK u5 (wholeP ls ks)) := Lib.hid (by have := HR0.out; rw [hie] at this; exact this)
      clear HR0 hie
      go_wp2_with fail
      go_ret
      exact ⟨_, rfl, HE.out, HBq⟩
end Go.Proofs.Ytbkfofmanpjbfaa.Bk
