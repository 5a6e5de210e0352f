/- What codes are made of, by the reference: the walks of compositorref08.one and Expand. -/
import Derived.Test.YtbkfofmanpjbfaaBack12
import Derived.Test.YtbkfofmanpjbfaaBack16P
import Derived.Test.YtbkfofmanpjbfaaRLig3
namespace Go.Proofs.Ytbkfofmanpjbfaa.Bk
open Go.RowKit Go.Proofs.Ytbkfofmanpjbfaa.Kit Go.Proofs.Ytbkfofmanpjbfaa.Fo Go.Proofs.Ytbkfofmanpjbfaa.RFo Go.Shelf
open Go.Proofs.YtbkfofmanpjbfaaW.PrintWords (Kd)
set_option linter.unusedVariables false
set_option linter.unusedSimpArgs false

theorem lit1_R (w : World) (c : Int) (e : TypeId) : kI.R e (w.alloc (.cells #[.int .i64 c] e)) w.heap.size anyK (.slice (some ⟨w.heap.size, 0, none⟩) 1 1) [c] :=
  ⟨fun _ _ => trivial, [.int .i64 c], ⟨rfl, .inr ⟨w.heap.size, 1, #[.int .i64 c], rfl, Nat.le_refl _, heap_alloc_new w _, Nat.le_refl _, by unfold maxLen; omega, rfl, rfl⟩⟩, rfl, fun j p hp => by
    match j, hp with
    | 0, hp => cases hp; rfl⟩
theorem lit0_R {α : Type} (d : Kd α) (w : World) (e : TypeId) (hs : d.sz = 1) : d.R e (w.alloc (.cells #[] e)) w.heap.size anyK (.slice (some ⟨w.heap.size, 0, none⟩) 0 0) [] :=
  ⟨fun _ _ => trivial, [], ⟨by simp, .inr ⟨w.heap.size, 0, #[], rfl, Nat.le_refl _, heap_alloc_new w _, Nat.le_refl _, by unfold maxLen; omega, by simp, by simp⟩⟩, by simp, fun j p hp => by simp at hp⟩
set_option maxRecDepth 10000 in
set_option maxHeartbeats 4000000 in
theorem one_any {d : FontD} {out : List LigT} (hm : madeP d = some out) : ∀ (n : Nat) (c : Int), c.toNat ≤ n → ∀ (w : World) (B : Nat) (A : Option Addr) (cp : Nat), B ≤ w.heap.size → Row pairR w B A (pairsP d) → (pairsP d).length ≤ 9223372036854775807 →
    Calls Try.prog 44 #[.slice A (pairsP d).length cp, .int .i64 c] w fun e w' => ∃ v, e = .returned v ∧ kI.R 3 w' w.heap.size anyK v (expand1 out c) ∧ Below w.heap.size w w' := by
  intro n
  induction n using Nat.strongRecOn with
  | _ n ih =>
  intro c hcn w B A cp hBw hP hl
  have hok := made_ok hm
  have HP := Lib.hid hP
  have HLk := Lib.hid (made_look hm)
  have HOk := Lib.hid hok
  have HIH := Lib.hid ih
  have HCn := Lib.hid hcn
  clear hP hok ih hcn
  obtain ⟨L, hL⟩ : ∃ L, pairsP d = L := ⟨_, rfl⟩
  rw [hL] at HP hl HLk HIH
  rw [hL]
  clear hL
  go_enter Try.func44, Try.ntmps44
  go_upto_region 2 with fail
  go_loop [5] (fun i => ∃ k : Nat, i = .int .i64 k ∧ k ≤ L.length ∧ Hid (∀ q ∈ L.take k, q.2.2 ≠ c)) (fun i => L.length - (intOf i).toNat)
  case atStart => exact ⟨0, rfl, by omega, Lib.hid (by simp)⟩
  case round =>
    obtain ⟨k, rfl, hk, HN⟩ := hrel
    by_cases hlt : k < L.length
    · obtain ⟨p, hp⟩ := at_lt hlt
      obtain ⟨b, o, rfl, hb, z0, z1, z2⟩ := pair_at HP.out hp
      by_cases hc : p.2.2 = c
      · have F1 : (p.2.2 == c) = true := by simpa using hc
        have hlk := HLk.out c
        rw [find_at hp hc HN.out] at hlk
        have hlk : lookP out c = some (p.1, p.2.1) := hlk
        have hsm := look_ok HOk.out hlk
        have HE : Hid (expand1 out c = expand1 out p.1 ++ [p.2.1]) := Lib.hid (expand_step HOk.out hlk)
        have hel : (expand1 out p.1).length ≤ 257 := expand1_len HOk.out p.1
        have HC : Hid (∀ V, Below w.heap.size w V → Calls Try.prog 44 #[.slice (some ⟨b, o, none⟩) L.length cp, .int .i64 p.1] V fun e w' => ∃ v, e = .returned v ∧ kI.R 3 w' V.heap.size anyK v (expand1 out p.1) ∧ Below V.heap.size V w') := Lib.hid fun V hbV =>
          HIH.out p.1.toNat (by have := HCn.out; omega) p.1 (Nat.le_refl _) V B (some ⟨b, o, none⟩) cp (by have := hbV.size; omega) (HP.out.mono (hbV.mono hBw)) hl
        have hwv : Below w.heap.size w w := Below.refl _ _
        have HK : Hid (∀ w', Below w.heap.size w w' → Below w.heap.size w w' ∧ w'.cell? ⟨b, o + k * 3, none⟩ = some (.int .i64 p.1) ∧ w'.cell? ⟨b, o + k * 3 + 1, none⟩ = some (.int .i64 p.2.1)) := Lib.hid fun w' h => ⟨h, later h z0, later h z1⟩
        obtain ⟨i0, hi0, hz0, hz1, hz2⟩ := info_parts info_i64
        generalize expand1 out p.1 = E at *
        clear hlk hsm hp hc HIH
        go_upto_region 5 with fail
        go_region_held3 (fun w' => Below w.heap.size w w' ∧ w'.cell? ⟨b, o + k * 3, none⟩ = some (.int .i64 p.1) ∧ w'.cell? ⟨b, o + k * 3 + 1, none⟩ = some (.int .i64 p.2.1))
          (first
            | exact HK.out _ hb7
            | exact HK.out _ (by repeat (first | (with_reducible exact Below.refl _ _) | (with_reducible apply below_drew) | (with_reducible refine below_alloc ?_ _) | (with_reducible refine below_join ?_ hb6) | exact ‹Below w.heap.size w _ ∧ _›.1)))
          (first
            | (go_at_call 44; (with_reducible refine (HC.out _ (by repeat (first | (with_reducible exact Below.refl _ _) | (with_reducible apply below_drew) | (with_reducible refine below_alloc ?_ _) | exact ‹Below w.heap.size w _ ∧ _›.1))).mono ?_); rintro e w6 ⟨v, rfl, hR6, hb6⟩; obtain ⟨hok6, inner6, hown6', hreps6⟩ := hR6; have hown6 := Go.Proofs.YtbkfofmanpjbfaaW.PrintWords.own_less (base := w.heap.size) hown6' (by first | exact Nat.le_refl w.heap.size | exact Nat.le_of_lt (alloc_lt w _)))
            | (refine step_append_lies _ (by rfl) _ _ _ (by rfl) w.heap.size 3 i0 (.int .i64 0) 1 8 Try.underlying23 hi0 hz0 hz1 hz2 rfl (by omega) v E.length inner6 (by rfl) (by first | exact hown6.alloc _ | exact (hown6.alloc _).drew) ⟨w6.heap.size, 0, none⟩ 1 1 [.int .i64 p.2.1] (by rfl) (by rfl) (World.news_of_block (cs := #[.int .i64 p.2.1]) (t := 3) (fr := (0, 0)) (by exact heap_alloc_new w6 _)) (by simp [Value.oneCell']) (by omega) (by unfold maxLen; omega) (by omega) (‹Below w.heap.size w _ ∧ _›.1.size) _ rfl ?_; intro gA capA w7 hown7 hgA hatA hltA
               have hb7 := Below.grown (‹Below w.heap.size w _ ∧ _›.1) hgA (‹Below w.heap.size w _ ∧ _›.1.size) (Go.Proofs.YtbkfofmanpjbfaaW.PrintWords.own_base hown6)
               have HR7 : Hid (kI.R 3 w7 w.heap.size anyK (.slice (some ⟨gA, 0, none⟩) (E.length + 1) capA) (E ++ [p.2.1])) := Lib.hid (Kd.R_appended (W := (w6.alloc (.cells #[.int .i64 p.2.1] 3))) (okp := fun _ => False) (fun _ _ => trivial) (hreps6.imp_ (fun _ _ hp => hp)) rfl (fun k hk => hk.elim) (fun _ _ => trivial) hown7 hgA (hatA.imp (fun e => e.symm) (fun e => ⟨gA, rfl, by rw [e]; exact Nat.le_refl _⟩))))
            | (refine step_append_lies _ (by rfl) _ _ _ (by rfl) w.heap.size 3 i0 (.int .i64 0) 1 8 Try.underlying23 hi0 hz0 hz1 hz2 rfl (by omega) v E.length inner6 (by rfl) (by first | exact hown6 | exact hown6.drew) ⟨w.heap.size, 0, none⟩ 1 1 [.int .i64 p.2.1] (by rfl) (by rfl) (World.news_of_block (cs := #[.int .i64 p.2.1]) (t := 3) (fr := (0, 0)) ((hb6.block _ (by simp)).trans (by exact heap_alloc_new w _))) (by simp [Value.oneCell']) (by omega) (by unfold maxLen; omega) (by omega) (‹Below w.heap.size w _ ∧ _›.1.size) _ rfl ?_; intro gA capA w7 hown7 hgA hatA hltA
               have hb7 := Below.grown (‹Below w.heap.size w _ ∧ _›.1) hgA (‹Below w.heap.size w _ ∧ _›.1.size) (Go.Proofs.YtbkfofmanpjbfaaW.PrintWords.own_base hown6)
               have HR7 : Hid (kI.R 3 w7 w.heap.size anyK (.slice (some ⟨gA, 0, none⟩) (E.length + 1) capA) (E ++ [p.2.1])) := Lib.hid (Kd.R_appended (W := w6) (okp := fun _ => False) (fun _ _ => trivial) (hreps6.imp_ (fun _ _ hp => hp)) rfl (fun k hk => hk.elim) (fun _ _ => trivial) hown7 hgA (hatA.imp (fun e => e.symm) (fun e => ⟨gA, rfl, by rw [e]; exact Nat.le_refl _⟩)))))
        all_goals
          go_wp2_with fail
          go_ret
          exact ⟨_, rfl, by rw [HE.out]; exact HR7.out, hb7⟩
      · have F1 : (p.2.2 == c) = false := by simpa using hc
        have HN2 : Hid (∀ q ∈ L.take (k + 1), q.2.2 ≠ c) := Lib.hid (fun q hq => by
          rw [take_one hp] at hq
          rcases List.mem_append.1 hq with hq | hq
          · exact HN.out q hq
          · rw [List.mem_singleton.1 hq]; exact hc)
        clear hp hc z0 z1
        go_wp2_with fail
        go_round
        case rel => exact ⟨k + 1, by go_num, by omega, HN2⟩
        case measure => simp [intOf]; omega
    · have hke : L.take k = L := List.take_of_length_le (by omega)
      have HE : Hid (expand1 out c = [c]) := Lib.hid (expand_none (by rw [HLk.out c, find_none (by have := HN.out; rw [hke] at this; exact this)]; rfl))
      clear hke
      go_wp2_with fail
      go_ret
      exact ⟨_, rfl, by rw [HE.out]; exact lit1_R w c _, below_alloc (Below.refl _ _) _⟩
set_option maxRecDepth 10000 in
set_option maxHeartbeats 4000000 in
theorem rexp_any (d : FontD) (a : FontA) (l : List Int) (A : Option Addr) (c : Nat) (w : World) {B : Nat} (hB : B ≤ w.heap.size) (hF : FontIn w B d a) (hC : kI.C w A l.length l) (hl : l.length ≤ 1000) :
    Calls Try.prog 37 #[fontV d a, .slice A l.length c] w fun e W' => ∃ v, e = .returned (.tuple #[v, .int .i64 (if ligB d then 0 else 70)]) ∧ kI.R 3 W' w.heap.size anyK v (expandV d l) ∧ Below w.heap.size w W' := by
  have hbx := Box.new w (fontCells d a) 26
  have hbw := (Below.refl w.heap.size w).alloc (Nat.le_refl _) (.cells (fontCells d a) 26)
  obtain ⟨W, hW⟩ : ∃ W, w.alloc (.cells (fontCells d a) 26) = W := ⟨_, rfl⟩
  rw [hW] at hbx hbw
  have HLg := rlig_any d a W (B := B) (by have := hbw.size; omega) (hF.mono (hbw.mono hB))
  rw [ref_lig] at HLg
  have HFi := Lib.hid hF
  have HCl := Lib.hid hC
  clear hF hC
  obtain ⟨er, HEr⟩ : ∃ er : Int, Hid ((if ligB d then (0 : Int) else 70) = er) := ⟨_, Lib.hid rfl⟩
  rw [HEr.out]
  have ld := load_font hbx
  go_enter Try.func37, Try.ntmps37
  go_wp2_with (refine ld_law ld rfl _ rfl rfl ?_)
  with_reducible refine HLg.mono ?_
  rintro e w1 ⟨rfl, hb⟩
  have b1 := below_join hbw hb
  have hbx1 := hbx.below hb
  clear HLg ld hW hb hbx hbw
  cases hg : ligB d with
  | false =>
    have HE : Hid (expandV d l = []) := Lib.hid (by unfold expandV; unfold ligB at hg; cases hm : madeP d with | none => rfl | some o => rw [hm] at hg; cases hg)
    have HEn : Hid (er = 70) := Lib.hid (by rw [← HEr.out, hg]; rfl)
    clear hg
    go_wp2_with fail
    go_ret2
    exact ⟨.slice none 0 0, by rw [HEn.out]; rfl, by rw [HE.out]; exact Kd.R_nil _ _ _ _ _, b1⟩
  | true =>
    obtain ⟨out, hm⟩ : ∃ out, madeP d = some out := by
      unfold ligB at hg
      cases hm : madeP d with
      | none => rw [hm] at hg; cases hg
      | some o => exact ⟨o, rfl⟩
    have HE : Hid (expandV d l = expandP out l) := Lib.hid (by unfold expandV; rw [hm])
    have HOk := Lib.hid (made_ok hm)
    have HP := rpairs_any d a w1 (B := B) (by have := b1.size; omega) (HFi.out.mono (b1.mono hB)) (made_tfm hm)
    have HM := Lib.hid hm
    have HEn : Hid (er = 0) := Lib.hid (by rw [← HEr.out, hg]; rfl)
    clear hg hm
    have ld := load_font hbx1
    go_wp2_with (refine ld_law ld rfl _ rfl rfl ?_)
    with_reducible refine HP.mono ?_
    rintro e w2 ⟨A2, cp, rfl, hrow, hpl, _, hb⟩
    have b2 := below_join b1 hb
    have HRow := Lib.hid hrow
    have HOne : Hid (∀ V, Below w2.heap.size w2 V → ∀ c : Int, Calls Try.prog 44 #[.slice A2 (pairsP d).length cp, .int .i64 c] V fun e w' => ∃ v, e = .returned v ∧ kI.R 3 w' V.heap.size anyK v (expand1 out c) ∧ Below V.heap.size V w') := Lib.hid fun V hbV c =>
      one_any HM.out c.toNat c (Nat.le_refl _) V w2.heap.size A2 cp hbV.size (HRow.out.mono hbV) hpl
    generalize (pairsP d).length = np at *
    clear ld hrow HP hb hbx1 b1 HM HRow
    go_upto_region 7 with fail
    go_loopw [8, 9] (fun v iv wr => ∃ i : Nat, iv = .int .i64 i ∧ i ≤ l.length ∧ kI.R 3 wr w2.heap.size anyK v (expandP out (l.take i)) ∧ Below w2.heap.size w2 wr) (fun _ iv _ => l.length - (intOf iv).toNat)
    case atStart => exact ⟨0, rfl, by omega, Kd.R_nil _ _ _ _ _, Below.refl _ _⟩
    case round =>
      rename World => wr
      obtain ⟨i, rfl, hi, hR, HB⟩ := hrel
      have hsz := HB.size
      by_cases hlt : i < l.length
      · obtain ⟨x, hx⟩ := at_lt hlt
        obtain ⟨b, o, rfl, hc⟩ := kI_at (Kd.C_below HCl.out (below_join b2 HB)) hx
        have HN : Hid (expandP out (l.take (i + 1)) = expandP out (l.take i) ++ expand1 out x) := Lib.hid (by unfold expandP; rw [take_one hx, List.flatMap_append]; simp)
        have hTl : (expandP out (l.take i)).length ≤ 257000 := by have := expandP_len HOk.out (l.take i); rw [List.length_take] at this; omega
        have hEl : (expand1 out x).length ≤ 257 := expand1_len HOk.out x
        have HC1 := HOne.out wr HB x
        generalize expandP out (l.take i) = T at *
        generalize expand1 out x = E at *
        have HR := Lib.hid hR
        have HLt := Lib.hid (Kd.R_lt hR)
        clear hx hR
        go_wp2_with fail
        with_reducible refine HC1.mono ?_
        rintro e w3 ⟨v3, rfl, hR3, hb3⟩
        obtain ⟨A3, c3, rfl, hc3, hC3⟩ := Kd.R_reads hR3
        have HR' := Lib.hid (Kd.R_below HR.out hb3)
        have HB3 := HB.trans (hb3.mono HB.size)
        have HC3 := Lib.hid hC3
        have hs3 := HB3.size
        clear HC1 hR3 hC3 hb3 HB
        go_wp2_with (at_builtin
                     refine Kd.R_append_rows kI (Rr := kI.K w3) (w0 := w2) w2.heap.size rfl (.tmp 22) (.tmp 28) _ 3 (.int .i64 0) 8 rfl Try.underlying23 info_i64 rfl (by decide) (by decide) _ T E A3 E.length c3 anyK (fun _ => False) rfl rfl HR'.out HC3.out (fun _ _ h => h) (fun _ h => h.elim) (fun _ _ => trivial) HB3 hs3 (by omega) ?_
                     intro v5 w5 hR5 hb5 hg5 hat5
                     have HR5 := Lib.hid hR5
                     clear hR5 hg5 hat5)
        go_roundw
        case rel => exact ⟨i + 1, by go_num, by omega, by rw [HN.out]; exact HR5.out, hb5⟩
        case measure => simp [intOf]; omega
      · have hie : l.take i = l := List.take_of_length_le (by omega)
        have HRn : Hid (kI.R 3 wr w2.heap.size anyK u8 (expandP out l)) := Lib.hid (by rw [hie] at hR; exact hR)
        clear hie hR
        go_wp2_with fail
        go_ret2
        exact ⟨_, by rw [HEn.out]; rfl, by rw [HE.out]; exact Kd.R_lower HRn.out b2.size, below_join b2 HB⟩
end Go.Proofs.Ytbkfofmanpjbfaa.Bk
