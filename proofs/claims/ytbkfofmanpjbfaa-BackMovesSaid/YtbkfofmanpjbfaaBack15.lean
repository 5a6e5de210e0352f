/- Rows that are moved: the walk of BackMoves. -/
import Derived.Test.YtbkfofmanpjbfaaBack13
import Derived.Test.YtbkfofmanpjbfaaBack14
import Derived.Deep.RegionLaw
namespace Go.Proofs.Ytbkfofmanpjbfaa.Bk
open Go.RowKit Go.Proofs.Ytbkfofmanpjbfaa.Kit Go.Proofs.Ytbkfofmanpjbfaa.Fo Go.Shelf
open Go.Proofs.YtbkfofmanpjbfaaW.PrintWords (Kd)
set_option linter.unusedVariables false
set_option linter.unusedSimpArgs false

set_option maxRecDepth 10000 in
set_option maxHeartbeats 8000000 in
theorem moves_main (d : FontD) (fa : FontA) (ra : List RowD) (Aa : Option Addr) (ca : Nat) (n : Int) (hn : (Lit.int .i32 n).wf = true) (w : World) (hF : FontIn w w.heap.size d fa) (hA : RowsAt w w.heap.size Aa ra) (hla : ra.length ≤ 9223372036854775807) :
    Calls Try.prog 4 #[fontV d fa, .slice Aa ra.length ca, .int .i32 n] w fun e w' => e = .returned (.bool true) ∧ Below w.heap.size w w' := by
  have hbx := Box.new w (fontCells d fa) 26
  have hbw := (Below.refl w.heap.size w).alloc (Nat.le_refl _) (.cells (fontCells d fa) 26)
  obtain ⟨W, hW⟩ : ∃ W, w.alloc (.cells (fontCells d fa) 26) = W := ⟨_, rfl⟩
  rw [hW] at hbx hbw
  have HAw := awake_any W
  have HFi := Lib.hid hF
  have HRa := Lib.hid hA
  clear hF hA
  go_enter Try.func4, Try.ntmps4
  go_wp2_with fail
  with_reducible refine HAw.mono ?_
  rintro e w1 ⟨rfl, hb⟩
  have b1 := below_join hbw hb
  replace hbx := hbx.below hb
  have hs1 := b1.size
  clear HAw hW hb hbw
  have HBx := Lib.hid hbx
  go_upto_region 2 with fail
  obtain ⟨qq, HQ⟩ : ∃ q, Hid ((!(fewF d) || !(fewR ra)) = q) := ⟨_, Lib.hid rfl⟩
  go_cut [31] from 24 to 32 (fun v wx => v = .bool qq ∧ Below w.heap.size w wx ∧ Box wx w.heap.size (fontCells d fa) 26)
  case first =>
    obtain ⟨c0, c1, c2, c3, c4, c5, c6, c7, c8, c9, c10⟩ := font_cells hbx
    have HFew := fewf_any d fa w1
    clear hbx
    go_wp2_with fail
    with_reducible refine HFew.mono ?_
    rintro e w2 ⟨rfl, hb⟩
    have b2 := below_join b1 hb
    have hb2 := Lib.hid (HBx.out.below hb)
    clear HFew c0 c1 c2 c3 c4 c5 c6 c7 c8 c9 c10 hb b1
    have HFa := few23_any Aa ca ra w2 (fun i r hr => by
      obtain ⟨b, o, A, c, e, h1, h2, h3⟩ := HRa.out i r hr
      exact ⟨b, o, A, c, e, fun j v hv => later b2 (h1 j v hv), h2.mono b2, h3⟩) hla
    cases hf : fewF d with
    | false =>
      have HV : Hid (true = qq) := Lib.hid (by rw [← HQ.out, hf]; rfl)
      clear hf HFa HQ
      go_wp2_with fail
      go_meet
      exact ⟨by rw [← HV.out], b2, hb2.out⟩
    | true =>
      have HV : Hid ((!(fewR ra)) = qq) := Lib.hid (by rw [← HQ.out, hf]; rfl)
      clear hf HQ
      go_wp2_with fail
      with_reducible refine HFa.mono ?_
      rintro e w3 ⟨rfl, rfl⟩
      go_wp2_with fail
      go_meet
      exact ⟨by rw [← HV.out], b2, hb2.out⟩
  case rest =>
  rename World => wx
  clear hbx HBx b1 hs1
  obtain ⟨rfl, b2, hbx⟩ := hcut
  with_reducible apply_assumption
  cases qq with
  | true =>
    go_wp2_with fail
    go_ret
    exact ⟨rfl, b2⟩
  | false =>
    have hq := HQ.out
    simp only [Bool.or_eq_false_iff, Bool.not_eq_false'] at hq
    obtain ⟨hf, h1⟩ := hq
    have hsa := small_of h1
    have hIa : RowsIn w w.heap.size Aa ra := rows_in HRa.out (fun r hr => by have := hsa.2 r hr; omega)
    have hla4 := (few_parts h1).1
    have HSa := Lib.hid hsa
    have HIa := Lib.hid hIa
    clear hf h1 hsa hIa HQ hla
    have hs2 := b2.size
    go_upto_region 6 with fail
    go_loopw [8, 9] (fun v iv wr => ∃ i : Nat, iv = .int .i64 i ∧ i ≤ ra.length ∧ Hid (kR.R 42 wr wx.heap.size anyK v (((moved (IntKind.i64.wrap n) ra).take i).map rowT)) ∧ Below wx.heap.size wx wr) (fun _ iv _ => ra.length - (intOf iv).toNat)
    case atStart => exact ⟨0, rfl, by omega, Lib.hid (Kd.R_nil _ _ _ _ _), Below.refl _ _⟩
    case round =>
      rename World => wr
      obtain ⟨i, rfl, hi, HM, HB⟩ := hrel
      have hsz := HB.size
      have b5 := below_join b2 HB
      by_cases hlt : i < ra.length
      · obtain ⟨r, hr⟩ := at_lt hlt
        obtain ⟨b, o, A0, cc0, rfl, hcell, hrow, hil⟩ := HIa.out i r hr
        have y0 : wr.cell? ⟨b, o + i * 5, none⟩ = some (.int .i64 r.level) := later b5 (hcell 0 _ rfl)
        have y1 : wr.cell? ⟨b, o + i * 5 + 1, none⟩ = some (.int .i64 r.kind) := later b5 (hcell 1 _ rfl)
        have Y4 : Hid (w.cell? ⟨b, o + i * 5 + 4, none⟩ = some (.slice A0 r.items.length cc0)) := Lib.hid (hcell 4 _ rfl)
        have HRow := Lib.hid hrow
        clear hcell hrow
        go_upto_region 8 with fail
        have HK : Hid (∀ w', Below wr.heap.size wr w' → Below wr.heap.size wr w' ∧ w'.cell? ⟨b, o + i * 5, none⟩ = some (.int .i64 r.level) ∧ w'.cell? ⟨b, o + i * 5 + 1, none⟩ = some (.int .i64 r.kind)) := Lib.hid fun w' hb => ⟨hb, later hb y0, later hb y1⟩
        go_region_held3 (fun w' => Below wr.heap.size wr w' ∧ w'.cell? ⟨b, o + i * 5, none⟩ = some (.int .i64 r.level) ∧ w'.cell? ⟨b, o + i * 5 + 1, none⟩ = some (.int .i64 r.kind))
          (first | exact HK.out _ (by repeat (first | (with_reducible exact Below.refl _ _) | (with_reducible apply below_drew) | (with_reducible refine below_alloc ?_ _) | (refine below_set ?_ (by simp) _)))) (first | fail)
        clear HK y0 y1
        generalize hN : IntKind.i64.wrap n = N at *
        have HMr : Hid (moveR N i r = { level := IntKind.i64.wrap (r.level + N), kind := r.kind, fin := N, defect := i, items := moveI N r.items }) := Lib.hid rfl
        generalize hL : IntKind.i64.wrap (r.level + N) = L at *
        have HN := Lib.hid hN
        clear hL hN
        have hb0 : Box (wr.alloc (.cells #[.int .i64 L, .int .i64 r.kind, .int .i64 N, .int .i64 i, .slice none 0 0] 42)).drew wr.heap.size #[.int .i64 L, .int .i64 r.kind, .int .i64 N, .int .i64 i, .slice none 0 0] 42 := Box.new wr _ _
        have hB0 : Below wx.heap.size wx (wr.alloc (.cells #[.int .i64 L, .int .i64 r.kind, .int .i64 N, .int .i64 i, .slice none 0 0] 42)).drew := below_drew (below_alloc HB _)
        have hst0 : ∀ j, j < wr.heap.size → (wr.alloc (.cells #[.int .i64 L, .int .i64 r.kind, .int .i64 N, .int .i64 i, .slice none 0 0] 42)).drew.heap[j]? = wr.heap[j]? := fun j hj => heap_alloc_old wr _ hj
        have hs0 : (wr.alloc (.cells #[.int .i64 L, .int .i64 r.kind, .int .i64 N, .int .i64 i, .slice none 0 0] 42)).drew.heap.size = wr.heap.size + 1 := by show (wr.alloc _).heap.size = _; simp
        generalize hW0 : (wr.alloc (.cells #[.int .i64 L, .int .i64 r.kind, .int .i64 N, .int .i64 i, .slice none 0 0] 42)).drew = W0 at *
        clear hW0
        generalize hg : wr.heap.size = g at *
        have HG := Lib.hid hg
        have HST0 := Lib.hid hst0
        have HS0 := Lib.hid hs0
        clear hg hst0 hs0 b5
        have hitl : r.items.length ≤ 700 := HSa.out.2 r (List.mem_of_getElem? hr)
        have HRr := Lib.hid (moved_at (n := N) hr)
        clear hr
        with_reducible apply_assumption
        go_upto_region 10 with fail
        go_loopw [11] (fun kv wy => ∃ k : Nat, kv = .int .i64 k ∧ k ≤ r.items.length ∧ Hid (ItemI wx W0 g L r.kind N i ((moveI N r.items).take k) wy)) (fun kv _ => r.items.length - (intOf kv).toNat)
        case atStart => exact ⟨0, rfl, by omega, Lib.hid ⟨_, hb0, Kd.R_nil _ _ _ _ _, fun _ _ _ => rfl, Nat.le_refl _, hB0⟩⟩
        case round =>
          clear hb0 hB0
          rename World => wy
          obtain ⟨k, rfl, hk, HI⟩ := hrel
          obtain ⟨v, hb, hR, hst, hsy, hBy⟩ := HI.out
          have HST := Lib.hid hst
          have b6 := below_join b2 hBy
          have y4 := later b6 Y4.out
          clear hst HI
          by_cases hlt2 : k < r.items.length
          · obtain ⟨p, hp⟩ := at_lt hlt2
            obtain ⟨b7, o7, rfl, _, hc0, _, _⟩ := placed_at HRow.out hp
            have z0 := later b6 hc0
            obtain ⟨T, hT⟩ : ∃ T, (moveI N r.items).take k = T := ⟨_, rfl⟩
            have hTl : T.length ≤ 700 := by rw [← hT, List.length_take, moveI_len]; omega
            have HTn : Hid ((moveI N r.items).take (k + 1) = T ++ [(p.1, IntKind.i64.wrap (N * k))]) := Lib.hid (by rw [take_one (moveI_at hp), hT])
            rw [hT] at hR
            obtain ⟨A5, c5, rfl⟩ := Kd.R_slice hR
            obtain ⟨hok, inner, hown, hreps⟩ := hR
            have zv := hb.cell 4 rfl
            obtain ⟨i0, hi0, hz0, hz1, hz2⟩ := info_parts info_p
            have HBx := Lib.hid hBy
            have HBb := Lib.hid hb
            have zva : (wy.alloc (.cells #[.int .i64 p.1, .int .i64 (IntKind.i64.wrap (N * k))] 44)).cell? ⟨g, 4, none⟩ = some (.slice A5 T.length c5) := old_cell _ zv
            have hNo := HN.out
            have hwyx := hBy.size
            have hgW : wx.heap.size ≤ g := by have := HG.out; have := HB.size; omega
            have hgW0 : g < W0.heap.size := by have := HS0.out; omega
            clear hT hp hc0 hb
            go_upto_region 12 with fail
            go_region_law? (first
                | (refine step_append_lies _ (by rfl) _ _ _ (by rfl) W0.heap.size 44 i0 (.agg #[.int .i64 0, .int .i64 0]) 2 16 Try.underlying40 hi0 hz0 hz1 hz2 rfl (by omega) (.slice A5 T.length c5) T.length inner (by rfl) (by first | exact hown.alloc _ | exact (hown.drew).alloc _ | exact (hown.alloc _).drew) ⟨wy.heap.size, 0, none⟩ 1 1 [.int .i64 p.1, .int .i64 (IntKind.i64.wrap (N * k))] (by rfl) (by rfl) (World.news_of_block (cs := #[.int .i64 p.1, .int .i64 (IntKind.i64.wrap (N * k))]) (t := 44) (fr := (0, 0)) (by first | exact heap_alloc_new wy _ | exact heap_alloc_new wy.drew _)) (by simp [Value.oneCell']) (by omega) (by unfold maxLen; omega) (by omega) (by simp; omega) _ rfl ?_; intro gA capA w5 hown5 hgA hatA hltA
                   have hIt := item_next HBb.out ⟨hok, inner, hown, hreps⟩ hreps HST.out hsy HBx.out hgW hgW0 (by first | exact below_alloc (Below.refl _ _) _ | exact below_drew (below_alloc (Below.refl _ _) _)) hown5 hgA hatA
                   obtain ⟨hb5, hI5, hB5⟩ := hIt
                   have HI5 := Lib.hid hI5
                   have hf5 := hb5.free 4
                   have k5 := hb5.cell 4 rfl))
            all_goals
              clear zv zva z0 y4 hNo
              go_wp2_with fail
              go_roundw
              case rel => exact ⟨k + 1, by go_num, by omega, Lib.hid (by rw [HTn.out]; exact HI5.out)⟩
              case measure => simp [intOf]; omega
          · have hke : k = r.items.length := by omega
            have hTT : (moveI N r.items).take k = moveI N r.items := List.take_of_length_le (by rw [moveI_len]; omega)
            rw [hTT] at hR
            obtain ⟨A5, c5, rfl⟩ := Kd.R_slice hR
            rw [moveI_len] at hb
            have z0 := hb.cell 0 rfl
            have z1 := hb.cell 1 rfl
            have z2 := hb.cell 2 rfl
            have z3 := hb.cell 3 rfl
            have z4 := hb.cell 4 rfl
            have hss := HS0.out
            have hgg := HG.out
            have hlim : i ≤ 210 := by omega
            have HMv : Hid (kR.R 42 wy wx.heap.size anyK u8 (((moved N ra).take i).map rowT)) := Lib.hid (Kd.R_step HM.out (fun j _ hj => (HST.out j (by omega) (by omega)).trans (HST0.out j (by omega))))
            have HLt := Lib.hid (Kd.R_lt HM.out)
            have HMn : Hid (((moved N ra).take (i + 1)).map rowT = ((moved N ra).take i).map rowT ++ [(L, r.kind, N, (i : Int), moveI N r.items)]) := Lib.hid (by rw [take_one HRr.out, List.map_append, HMr.out]; rfl)
            have HMl : Hid ((((moved N ra).take i).map rowT).length ≤ 210) := Lib.hid (by rw [List.length_map, List.length_take]; omega)
            generalize ((moved N ra).take i).map rowT = Ms at *
            have hml := HMl.out
            have HP : Hid (kR.M wy wx.heap.size (fun k => W0.heap.size ≤ k) (L, r.kind, N, (i : Int), moveI N r.items) [.int .i64 L, .int .i64 r.kind, .int .i64 N, .int .i64 i, .slice A5 (moveI N r.items).length c5]) :=
              Lib.hid ⟨[_], _, rfl, rfl, [_], _, rfl, rfl, [_], _, rfl, rfl, [_], [_], rfl, rfl, Kd.M_row (fresh_R hR (by have := HB.size; omega))⟩
            rw [moveI_len] at HP
            have hsyx := hBy.size
            clear hTT hR hb HST HM hke hss hgg
            go_wp2_with (at_builtin
                         refine Kd.R_append kR (w0 := wx) wx.heap.size rfl (.tmp 85) (.tmp 87) _ 42 _ 56 rfl Try.underlying27 info_r rfl (by decide) (by decide) _ Ms (L, r.kind, N, (i : Int), moveI N r.items) [.int .i64 L, .int .i64 r.kind, .int .i64 N, .int .i64 i, .slice A5 r.items.length c5] anyK (fun k => W0.heap.size ≤ k) rfl rfl HP.out (fun k hk => ⟨trivial, fun e => by have h1 := HLt.out k e.symm; have h2 := HS0.out; have h3 := HG.out; omega⟩) (fun _ _ => trivial) HMv.out hBy hsyx (by omega) ?_
                         intro v5 w5 hR5 hb5 hg5 hat5
                         have HR5 := Lib.hid hR5
                         clear hR5 hg5 hat5)
            go_roundw
            case rel => exact ⟨i + 1, by go_num, by omega, Lib.hid (by rw [HN.out, HMn.out]; exact HR5.out), hb5⟩
            case measure => simp [intOf]; omega
      · have hie : i = ra.length := by omega
        subst hie
        rw [List.take_of_length_le (by rw [moved_len]; omega)] at HM
        generalize hN : IntKind.i64.wrap n = N at *
        clear hN
        obtain ⟨A8, c8, e8, hc8, hC8⟩ := Kd.R_reads HM.out
        rw [List.length_map, moved_len] at e8 hc8 hC8
        subst e8
        have hIm : RowsIn wr wr.heap.size A8 (moved N ra) := rows_of_C (by rw [moved_len]; exact hC8)
          (fun q hq p hp => by
            obtain ⟨k, hk⟩ := List.getElem?_of_mem hq
            have hlt : k < ra.length := by have := (List.getElem?_eq_some_iff.1 hk).1; rwa [moved_len] at this
            obtain ⟨r, hr⟩ := at_lt hlt
            rw [moved_at hr] at hk
            cases hk
            obtain ⟨m, hm⟩ := List.getElem?_of_mem hp
            have hml : m < r.items.length := by have := (List.getElem?_eq_some_iff.1 hm).1; rwa [show (moveR N k r).items.length = r.items.length from moveI_len _ _] at this
            obtain ⟨p0, hp0⟩ := at_lt hml
            have hm2 := moveI_at (n := N) hp0
            rw [show (moveR N k r).items = moveI N r.items from rfl, hm2] at hm
            cases hm
            obtain ⟨_, _, _, _, _, _, hrow, _⟩ := HIa.out k r hr
            obtain ⟨_, _, _, _, _, _, hw0⟩ := placed_at hrow hp0
            exact ⟨hw0, wf_wrap _⟩)
          (fun q hq => by have := (small_moved (n := N) HSa.out).2 q hq; omega)
        have HIm := Lib.hid hIm
        have hsm := small_moved (n := N) HSa.out
        obtain ⟨⟨x, e⟩, hx⟩ : ∃ p, wordsP d ra = p := ⟨_, rfl⟩
        have hwx := words_small (d := d) HSa.out
        rw [hx] at hwx
        have hxl : x.length ≤ 1000000 := hwx.2
        have HSx := Lib.hid hwx.1
        have HW1 := words_s (a := fa) (cr := ca) (w := wr) (B := w.heap.size) b5.size (HFi.out.mono b5) (HIa.out.below (Nat.le_refl _) b5) HSa.out
        have HW2 : Hid (∀ V, Below wr.heap.size wr V → Calls Try.prog 9 #[fontV d fa, .slice A8 ra.length c8] V (fun r W' => ∃ v, r = .returned (.tuple #[v, .int .i64 e]) ∧ kL.R 23 W' V.heap.size anyK v x ∧ Below V.heap.size V W')) := Lib.hid fun V hb => by
          have := words_s (a := fa) (cr := c8) (w := V) (B := wr.heap.size) hb.size ((HFi.out.mono (below_join b5 hb)).up b5.size) (HIm.out.below (Nat.le_refl _) hb) hsm
          rw [words_moved, hx, moved_len] at this
          exact this
        have HW3 : Hid (∀ V, Below wr.heap.size wr V → Calls Try.prog 11 #[fontV d fa, .slice A8 ra.length c8] V (fun r W' => ∃ v, r = .returned (.tuple #[v, .int .i64 (textP x e).2]) ∧ kU.R 5 W' V.heap.size anyK v (textP x e).1 ∧ Below V.heap.size V W')) := Lib.hid fun V hb => by
          have := text_any d fa (moved N ra) A8 c8 V (B := wr.heap.size) hb.size ((HFi.out.mono (below_join b5 hb)).up b5.size) (HIm.out.below (Nat.le_refl _) hb) hsm
          rw [text_moved, moved_len] at this
          unfold textV at this
          rw [hx] at this
          exact this
        rw [hx] at HW1
        have hbxr := hbx.below HB
        clear hx hwx hsm hIm hC8 HM hsz hs2 HIm HFi HIa HSa HRa hla4
        have ld := load_font hbxr
        go_wp2_with (refine ld_law ld rfl _ rfl rfl ?_)
        with_reducible refine HW1.mono ?_
        rintro _ w3 ⟨v1, rfl, hR1, hb⟩
        have hbx3 := hbxr.below hb
        have HW2' := HW2.out w3 hb
        have B3 := Lib.hid hb
        clear HW1 HW2 ld hbxr hb
        have ld := load_font hbx3
        go_wp2_with (refine ld_law ld rfl _ rfl rfl ?_)
        with_reducible refine HW2'.mono ?_
        rintro _ w4 ⟨v2, rfl, hR2, hb⟩
        have B4 := Lib.hid (below_join B3.out hb)
        have hbx4 := hbx3.below hb
        have HR1 := Lib.hid (Kd.R_below hR1 hb)
        have HW3' := HW3.out w4 B4.out
        clear HW2' HW3 ld hbx3 hb hR1 B3
        have ld := load_font hbx4
        go_wp2_with (refine ld_law ld rfl _ rfl rfl ?_)
        with_reducible refine HW3'.mono ?_
        rintro _ w5 ⟨v3, rfl, hR3, hb⟩
        have b6 := below_join b5 (below_join B4.out hb)
        have HR1 := Lib.hid (Kd.R_below HR1.out hb)
        have HR2 := Lib.hid (Kd.R_below hR2 hb)
        have HR3 := Lib.hid hR3
        clear HW3' ld hbx4 hb hR2 hR3 B4 b5 HB hbx b2
        obtain ⟨A1, c1, rfl, hc1, hC1⟩ := Kd.R_reads HR1.out
        obtain ⟨A2, c2, rfl, hc2, hC2⟩ := Kd.R_reads HR2.out
        obtain ⟨A3, c3, rfl, hc3, hC3⟩ := Kd.R_reads HR3.out
        have HC1 := Lib.hid hC1
        have HC2 := Lib.hid hC2
        have HC3 := Lib.hid hC3
        clear HR1 HR2 HR3 hC1 hC2 hC3
        go_upto_region 20 with fail
        go_loopw [18, 19, 20] (fun v q iv wy => ∃ i : Nat, iv = .int .i64 i ∧ i ≤ x.length ∧ q = .bool ((x.take i).all fun p => p.all okC) ∧ Hid (kU.R 5 wy w5.heap.size anyK v (joinB x i)) ∧ Below w5.heap.size w5 wy) (fun _ _ iv _ => x.length - (intOf iv).toNat)
        case atStart => exact ⟨0, rfl, by omega, rfl, Lib.hid (Kd.R_nil _ _ _ _ _), Below.refl _ _⟩
        case round =>
          rename World => wy
          obtain ⟨i, rfl, hi, rfl, HR, HB⟩ := hrel
          have hsy := HB.size
          by_cases hlt : i < x.length
          · obtain ⟨p, hp⟩ := at_lt hlt
            obtain ⟨bq, oq, A4, c4, rfl, hcq1, hcx, hCp⟩ := kL_at HC1.out hp
            have hcq := later HB hcq1
            have HJ : Hid (joinB x (i + 1) = joinB x i ++ sepW i ++ p.map IntKind.u8.wrap) := Lib.hid (by rw [joinB, List.getD_eq_getElem?_getD, hp]; rfl)
            have HPl : Hid (((x.take (i + 1)).all fun p => p.all okC) = (((x.take i).all fun p => p.all okC) && p.all okC)) := Lib.hid (by rw [take_one hp, List.all_append]; simp)
            have hpl : p.length ≤ 100000000 := by have := mem_sum (List.mem_of_getElem? hp); have := HSx.out; omega
            have hTl : (joinB x i).length ≤ 101000000 := by
              have h1 := joinB_len x i (by omega)
              have h2 := sumL_le x i
              have h4 := HSx.out
              omega
            generalize joinB x i = T at *
            generalize ((x.take i).all fun p => p.all okC) = P at *
            have HCp := Lib.hid hCp
            have HCq := Lib.hid hcq1
            clear hp hCp hcq1
            go_upto_if 114 with fail
            obtain ⟨q, hq⟩ : ∃ q, decide (0 < i) = q := ⟨_, rfl⟩
            rw [hq]
            have HQ := Lib.hid hq
            clear hq
            go_cut [18] from 114 to 118 (fun v wx => Hid (kU.R 5 wx w5.heap.size anyK v (T ++ sepW i)) ∧ Below w5.heap.size w5 wx)
            case first =>
              cases q with
              | false =>
                have hi0 : i = 0 := by have := of_decide_eq_false HQ.out; omega
                subst hi0
                go_wp2_with fail
                go_meet
                exact ⟨Lib.hid (by rw [sepW, if_pos rfl, List.append_nil]; exact HR.out), HB⟩
              | true =>
                have hi0 : i ≠ 0 := by have := of_decide_eq_true HQ.out; omega
                have HSp : Hid (sepW i = [32]) := Lib.hid (by rw [sepW, if_neg hi0])
                clear hi0
                go_wp2_with (at_builtin
                             refine Kd.R_append kU (w0 := w5) w5.heap.size rfl (.tmp 115) (.tmp 116) _ 5 (.int .u8 0) 1 rfl Try.underlying35 info_u8 rfl (by decide) (by decide) _ T 32 [.int .u8 32] anyK (fun _ => False) rfl rfl rfl (fun _ h => h.elim) (fun _ _ => trivial) HR.out HB hsy (by omega) ?_
                             intro v7 w7 hR7 hb7 hg7 hat7
                             have HR7 := Lib.hid hR7
                             clear hR7 hg7 hat7)
                go_meet
                exact ⟨Lib.hid (by rw [HSp.out]; exact HR7.out), hb7⟩
            case rest =>
            rename World => wz
            obtain ⟨HR3, HB3⟩ := hcut
            have hl3 : (T ++ sepW i).length ≤ 101000001 := by
              have h2 : (sepW i).length ≤ 1 := by unfold sepW; split <;> simp
              rw [List.length_append]; omega
            clear HR HB hsy hcq
            with_reducible apply_assumption
            generalize T ++ sepW i = T3 at *
            go_upto_region 25 with fail
            go_loopw [18, 19, 21] (fun v q jv wy => ∃ j : Nat, jv = .int .i64 j ∧ j ≤ p.length ∧ q = .bool (P && (p.take j).all okC) ∧ Hid (kU.R 5 wy w5.heap.size anyK v (T3 ++ (p.take j).map IntKind.u8.wrap)) ∧ Below w5.heap.size w5 wy) (fun _ _ jv _ => p.length - (intOf jv).toNat)
            case atStart => exact ⟨0, rfl, by omega, by simp, Lib.hid (by rw [List.take_zero, List.map_nil, List.append_nil]; exact HR3.out), HB3⟩
            case round =>
              clear HR3 HB3
              rename World => wy
              obtain ⟨j, rfl, hj, rfl, HR, HB⟩ := hrel
              have hsy := HB.size
              have hcq := later HB HCq.out
              by_cases hlt2 : j < p.length
              · obtain ⟨y, hy⟩ := at_lt hlt2
                obtain ⟨by', oy, rfl, hcy1⟩ := kI_at HCp.out hy
                have hcy := later HB hcy1
                have HT4 : Hid (T3 ++ (p.take (j + 1)).map IntKind.u8.wrap = T3 ++ (p.take j).map IntKind.u8.wrap ++ [IntKind.u8.wrap y]) := Lib.hid (by rw [take_one hy, List.map_append, List.append_assoc]; rfl)
                have HA4 : Hid ((P && (p.take (j + 1)).all okC) = ((P && (p.take j).all okC) && okC y)) := Lib.hid (by rw [take_one hy, List.all_append, Bool.and_assoc]; simp)
                have hl4 : (T3 ++ (p.take j).map IntKind.u8.wrap).length ≤ 201000001 := by rw [List.length_append, List.length_map, List.length_take]; omega
                generalize T3 ++ (p.take j).map IntKind.u8.wrap = T4 at *
                generalize (P && (p.take j).all okC) = P4 at *
                clear hcy1 hy
                go_upto_region 27 with fail
                go_cut [19] from 127 to 148 (fun v wx => v = .bool (P4 && okC y) ∧ wx = wy)
                case first =>
                  cases P4 with
                  | false =>
                    go_wp2_with fail
                    all_goals (try (rename_i h1 h2; exact absurd h1 no_undef))
                    all_goals
                      go_meet
                      exact ⟨rfl, rfl⟩
                  | true =>
                    by_cases h0 : 0 ≤ y
                    · have F1 : ((0 : Int) ≤ y) = True := eq_true h0
                      by_cases h1 : y ≤ 255
                      · have F2 : (y ≤ 255) = True := eq_true h1
                        have HE : Hid (true = (true && okC y)) := Lib.hid (by unfold okC; rw [decide_eq_true h0, decide_eq_true h1]; rfl)
                        clear h0 h1
                        go_wp2_with fail
                        all_goals (try (rename_i h1 h2; exact absurd h1 no_undef))
                        all_goals
                          go_meet
                          exact ⟨by rw [← HE.out], rfl⟩
                      · have F2 : (y ≤ 255) = False := eq_false h1
                        have HE : Hid (false = (true && okC y)) := Lib.hid (by unfold okC; rw [decide_eq_true h0, decide_eq_false h1]; rfl)
                        clear h0 h1
                        go_wp2_with fail
                        all_goals (try (rename_i h1 h2; exact absurd h1 no_undef))
                        all_goals
                          go_meet
                          exact ⟨by rw [← HE.out], rfl⟩
                    · have F1 : ((0 : Int) ≤ y) = False := eq_false h0
                      have HE : Hid (false = (true && okC y)) := Lib.hid (by unfold okC; rw [decide_eq_false h0]; rfl)
                      clear h0
                      go_wp2_with fail
                      all_goals (try (rename_i h1 h2; exact absurd h1 no_undef))
                      all_goals
                        go_meet
                        exact ⟨by rw [← HE.out], rfl⟩
                case rest =>
                rename World => wz2
                obtain ⟨rfl, hwz⟩ := hcut
                subst hwz
                rename World => wy
                with_reducible apply_assumption
                go_wp2_with (at_builtin
                             refine Kd.R_append kU (w0 := w5) w5.heap.size rfl (.tmp 148) (.tmp 157) _ 5 (.int .u8 0) 1 rfl Try.underlying35 info_u8 rfl (by decide) (by decide) _ T4 (IntKind.u8.wrap y) [.int .u8 (IntKind.u8.wrap y)] anyK (fun _ => False) rfl rfl rfl (fun _ h => h.elim) (fun _ _ => trivial) HR.out HB hsy (by omega) ?_
                             intro v7 w7 hR7 hb7 hg7 hat7
                             have HR7 := Lib.hid hR7
                             clear hR7 hg7 hat7)
                go_roundw
                case rel => exact ⟨j + 1, by go_num, by omega, by rw [HA4.out], Lib.hid (by rw [HT4.out]; exact HR7.out), hb7⟩
                case measure => simp [intOf]; omega
              · have hje : p.take j = p := List.take_of_length_le (by omega)
                rw [hje] at HR
                have HRn : Hid (kU.R 5 wy w5.heap.size anyK u18 (joinB x (i + 1))) := Lib.hid (by rw [HJ.out]; exact HR.out)
                have HPn : Hid ((P && (p.take j).all okC) = ((x.take (i + 1)).all fun p => p.all okC)) := Lib.hid (by rw [HPl.out, hje])
                clear HR hje
                go_wp2_with fail
                go_roundw
                case rel => exact ⟨i + 1, by go_num, by omega, by rw [HPn.out], HRn, HB⟩
                case measure => simp [intOf]; omega
          · have hie : i = x.length := by omega
            subst hie
            rw [List.take_length]
            have b7 := below_join b6 HB
            obtain ⟨A9, c9, rfl, hc9, hC9⟩ := Kd.R_reads HR.out
            have hstr3 : (convert 35 9 (.slice A3 (textP x e).1.length c3)).run Try.prog wy = .ok (.string (strOfNums (textP x e).1)) wy :=
              Go.Proofs.YtbkfofmanpjbfaaW.PrintWords.Kd.C_string Try.underlying35 Try.underlying5 Try.underlying9 (Kd.C_below HC3.out HB)
            have hstr9 : (convert 35 9 (.slice A9 (joinB x x.length).length c9)).run Try.prog wy = .ok (.string (strOfNums (joinB x x.length))) wy :=
              Go.Proofs.YtbkfofmanpjbfaaW.PrintWords.Kd.C_string Try.underlying35 Try.underlying5 Try.underlying9 hC9
            have HSame := same_any A1 A2 c1 c2 x x wy (Kd.C_below HC1.out HB) (Kd.C_below HC2.out HB) (by omega) (by omega) (fun p hp => by have := mem_sum hp; have := HSx.out; omega) (fun p hp => by have := mem_sum hp; have := HSx.out; omega)
            rw [decide_eq_true rfl] at HSame
            have HSm := Lib.hid HSame
            have HPT : Hid ((e ≠ 0 → textP x e = ([], e)) ∧ (e = 0 → (x.all fun p => p.all okC) = true → textP x e = (joinB x x.length, 0)) ∧ (e = 0 → (x.all fun p => p.all okC) = false → textP x e = ([], 230))) := Lib.hid
              ⟨fun h => by rw [textP, if_pos h], fun h hp => by
                rw [textP, if_neg (by simp [h]), show plainW x = true from hp, if_pos rfl, joinB_plain x x.length (Nat.le_refl _) (by rw [List.take_length]; rw [List.all_eq_true] at hp; exact hp)]
                rfl, fun h hp => by rw [textP, if_neg (by simp [h]), show plainW x = false from hp, if_neg (by simp)]⟩
            have HC3' := HC3
            clear HC3 HC3' hC9 HR hsy HSame hc3
            generalize (x.all fun p => p.all okC) = P at *
            obtain ⟨⟨tx, te⟩, ht⟩ : ∃ p, textP x e = p := ⟨_, rfl⟩
            rw [ht] at hstr3 HPT
            rw [ht]
            have HB9 := Lib.hid HB
            clear ht HB
            go_upto_region 29 with fail
            go_cut [22] from 159 to 196 (fun v wx => v = .bool true ∧ wx = wy)
            case first =>
              by_cases he : e = 0
              · subst he
                cases P with
                | true =>
                  obtain ⟨rfl, rfl⟩ := Prod.mk.inj (HPT.out.2.1 rfl rfl)
                  clear HPT
                  go_wp2_with fail
                  all_goals (try (rename_i h1 h2; exact absurd h1 no_undef))
                  all_goals
                    go_meet
                    exact ⟨by simp, rfl⟩
                | false =>
                  obtain ⟨rfl, rfl⟩ := Prod.mk.inj (HPT.out.2.2 rfl rfl)
                  clear HPT
                  go_wp2_with fail
                  all_goals (try (rename_i h1 h2; exact absurd h1 no_undef))
                  all_goals
                    go_meet
                    exact ⟨by simp, rfl⟩
              · obtain ⟨rfl, rfl⟩ := Prod.mk.inj (HPT.out.1 he)
                have F1 : (te != 0) = true := by simpa using he
                have F2 : (te == te) = true := by simp
                clear HPT he
                go_wp2_with fail
                all_goals (try (rename_i h1 h2; exact absurd h1 no_undef))
                all_goals
                  go_meet
                  exact ⟨by simp, rfl⟩
            case rest =>
            rename World => wz2
            obtain ⟨rfl, hwz⟩ := hcut
            subst hwz
            rename World => wy
            with_reducible apply_assumption
            have F2 : (e == e) = true := by simp
            have HSame := HSm.out
            clear hstr3 hstr9 HPT
            go_wp2_with fail
            with_reducible refine HSame.mono ?_
            rintro _ w9 ⟨rfl, hb⟩
            go_wp2_with fail
            go_ret
            exact ⟨rfl, below_join b7 hb⟩
theorem moves_walk (c0 : Array Value) (x0 : FontT) (A1 : Option Addr) (n1 c1 : Nat) (x1 : List RowT) (n : Int) (w : World) (h0 : fontR.K w w.heap.size c0.toList x0) (h1 : rowR.slice.K w w.heap.size [.slice A1 n1 c1] x1) (h2 : (Lit.int .i32 n).wf = true) :
    Calls Try.prog 4 #[.agg c0, .slice A1 n1 c1, .int .i32 n] w fun e w' => e = .returned (.bool true) ∧ Below w.heap.size w w' := by
  obtain ⟨d, a, rfl, hF⟩ := font_of h0
  obtain ⟨rfl, e1, e2, hr1⟩ := slice_of h1
  have := moves_main d a (x1.map rowOf) A1 c1 n h2 w hF (rows_at hr1) (by rw [List.length_map]; omega)
  rw [List.length_map] at this
  exact this
end Go.Proofs.Ytbkfofmanpjbfaa.Bk
