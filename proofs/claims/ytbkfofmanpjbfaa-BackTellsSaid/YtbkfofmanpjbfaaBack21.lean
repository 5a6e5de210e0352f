/- The words that rows are made of are the document's: the walk of BackTells. -/
import Derived.Test.YtbkfofmanpjbfaaBack20
namespace Go.Proofs.Ytbkfofmanpjbfaa.Bk
open Go.RowKit Go.Proofs.Ytbkfofmanpjbfaa.Kit Go.Proofs.Ytbkfofmanpjbfaa.Fo Go.Shelf
open Go.Proofs.YtbkfofmanpjbfaaW.PrintWords (Kd)
set_option linter.unusedVariables false
set_option linter.unusedSimpArgs false

set_option maxRecDepth 10000 in
set_option maxHeartbeats 8000000 in
theorem tells_main (d : FontD) (fa : FontA) (ra : List RowD) (Aa : Option Addr) (ca : Nat) (w : World) (hF : FontIn w w.heap.size d fa) (hA : RowsAt w w.heap.size Aa ra) (hla : ra.length ≤ 9223372036854775807) :
    Calls Try.prog 3 #[fontV d fa, .slice Aa ra.length ca] w fun e w' => e = .returned (.bool true) ∧ Below w.heap.size w w' := by
  have hbx := Box.new w (fontCells d fa) 26
  have hbw := (Below.refl w.heap.size w).alloc (Nat.le_refl _) (.cells (fontCells d fa) 26)
  obtain ⟨W, hW⟩ : ∃ W, w.alloc (.cells (fontCells d fa) 26) = W := ⟨_, rfl⟩
  rw [hW] at hbx hbw
  have HAw := awake_any W
  have HFi := Lib.hid hF
  have HRa := Lib.hid hA
  clear hF hA
  go_enter Try.func3, Try.ntmps3
  go_wp2_with fail
  with_reducible refine HAw.mono ?_
  rintro e w1 ⟨rfl, hb⟩
  have b1 := below_join hbw hb
  replace hbx := hbx.below hb
  have hs1 := b1.size
  clear HAw hW hb hbw
  have HBx := Lib.hid hbx
  go_upto_region 2 with fail
  obtain ⟨qq, HQ⟩ : ∃ q, Hid ((!(fewF d) || !(fewR ra)) = q) := ⟨_, Lib.hid rfl⟩
  go_cut [22] from 15 to 23 (fun v wx => v = .bool qq ∧ Below w.heap.size w wx ∧ Box wx w.heap.size (fontCells d fa) 26)
  case first =>
    obtain ⟨c0, c1, c2, c3, c4, c5, c6, c7, c8, c9, c10⟩ := font_cells hbx
    have HFew := fewf_any d fa w1
    clear hbx
    go_wp2_with fail
    with_reducible refine HFew.mono ?_
    rintro e w2 ⟨rfl, hb⟩
    have b2 := below_join b1 hb
    have hb2 := Lib.hid (HBx.out.below hb)
    clear HFew c0 c1 c2 c3 c4 c5 c6 c7 c8 c9 c10 hb b1
    have HFa := few23_any Aa ca ra w2 (fun i r hr => by
      obtain ⟨b, o, A, c, e, h1, h2, h3⟩ := HRa.out i r hr
      exact ⟨b, o, A, c, e, fun j v hv => later b2 (h1 j v hv), h2.mono b2, h3⟩) hla
    cases hf : fewF d with
    | false =>
      have HV : Hid (true = qq) := Lib.hid (by rw [← HQ.out, hf]; rfl)
      clear hf HFa HQ
      go_wp2_with fail
      go_meet
      exact ⟨by rw [← HV.out], b2, hb2.out⟩
    | true =>
      have HV : Hid ((!(fewR ra)) = qq) := Lib.hid (by rw [← HQ.out, hf]; rfl)
      clear hf HQ
      go_wp2_with fail
      with_reducible refine HFa.mono ?_
      rintro e w3 ⟨rfl, rfl⟩
      go_wp2_with fail
      go_meet
      exact ⟨by rw [← HV.out], b2, hb2.out⟩
  case rest =>
  rename World => wx
  clear hbx HBx b1 hs1
  obtain ⟨rfl, b2, hbx⟩ := hcut
  with_reducible apply_assumption
  cases qq with
  | true =>
    go_wp2_with fail
    go_ret
    exact ⟨rfl, b2⟩
  | false =>
    have hq := HQ.out
    simp only [Bool.or_eq_false_iff, Bool.not_eq_false'] at hq
    obtain ⟨hf, h1⟩ := hq
    have hsa := small_of h1
    have hIa : RowsIn w w.heap.size Aa ra := rows_in HRa.out (fun r hr => by have := hsa.2 r hr; omega)
    have hla4 := (few_parts h1).1
    have HSa := Lib.hid hsa
    have HIa := Lib.hid hIa
    clear hf h1 hsa hIa HQ hla
    have hs2 := b2.size
    obtain ⟨⟨x, e⟩, hx⟩ : ∃ p, wordsP d ra = p := ⟨_, rfl⟩
    have hwx := words_small (d := d) HSa.out
    have HW1 := words_s (a := fa) (cr := ca) (w := wx) (B := w.heap.size) b2.size (HFi.out.mono b2) (HIa.out.below (Nat.le_refl _) b2) HSa.out
    have HW2 : Hid (∀ V, Below wx.heap.size wx V → Calls Try.prog 10 #[fontV d fa, .slice Aa ra.length ca] V (fun r W' => ∃ v, r = .returned (.tuple #[v, .int .i64 e]) ∧ kL.R 23 W' V.heap.size anyK v x ∧ Below V.heap.size V W')) := Lib.hid fun V hb => by
      have := rwords_any d fa ra Aa ca V (B := w.heap.size) (Nat.le_trans b2.size hb.size) (HFi.out.mono (below_join b2 hb)) (HIa.out.below (Nat.le_refl _) (below_join b2 hb)) HSa.out
      rw [hx] at this
      exact this
    have HW3 : Hid (∀ V, Below wx.heap.size wx V → Calls Try.prog 11 #[fontV d fa, .slice Aa ra.length ca] V (fun r W' => ∃ v, r = .returned (.tuple #[v, .int .i64 (textP x e).2]) ∧ kU.R 5 W' V.heap.size anyK v (textP x e).1 ∧ Below V.heap.size V W')) := Lib.hid fun V hb => by
      have := text_any d fa ra Aa ca V (B := w.heap.size) (Nat.le_trans b2.size hb.size) (HFi.out.mono (below_join b2 hb)) (HIa.out.below (Nat.le_refl _) (below_join b2 hb)) HSa.out
      unfold textV at this
      rw [hx] at this
      exact this
    have HW4 : Hid (∀ V, Below wx.heap.size wx V → Calls Try.prog 12 #[fontV d fa, .slice Aa ra.length ca] V (fun r W' => ∃ v, r = .returned (.tuple #[v, .int .i64 (textP x e).2]) ∧ kU.R 5 W' V.heap.size anyK v (textP x e).1 ∧ Below V.heap.size V W')) := Lib.hid fun V hb => by
      have := rtext_any d fa ra Aa ca V (B := w.heap.size) (Nat.le_trans b2.size hb.size) (HFi.out.mono (below_join b2 hb)) (HIa.out.below (Nat.le_refl _) (below_join b2 hb)) HSa.out
      unfold textV at this
      rw [hx] at this
      exact this
    rw [hx] at HW1 hwx
    have hxl : x.length ≤ 1000000 := hwx.2
    have HSx := Lib.hid hwx.1
    clear hx hwx hs2 HIa HFi HRa HSa hla4
    obtain ⟨⟨tx, te⟩, ht⟩ : ∃ p, textP x e = p := ⟨_, rfl⟩
    rw [ht] at HW3 HW4
    clear ht
    have ld := load_font hbx
    go_wp2_with (refine ld_law ld rfl _ rfl rfl ?_)
    with_reducible refine HW1.mono ?_
    rintro _ w3 ⟨v1, rfl, hR1, hb⟩
    have hbx3 := hbx.below hb
    have HW2' := HW2.out w3 hb
    have B3 := Lib.hid hb
    clear HW1 HW2 ld hbx hb
    have ld := load_font hbx3
    go_wp2_with (refine ld_law ld rfl _ rfl rfl ?_)
    with_reducible refine HW2'.mono ?_
    rintro _ w4 ⟨v2, rfl, hR2, hb⟩
    have B4 := Lib.hid (below_join B3.out hb)
    have hbx4 := hbx3.below hb
    have HR1 := Lib.hid (Kd.R_below hR1 hb)
    have HW3' := HW3.out w4 B4.out
    clear HW2' HW3 ld hbx3 hb hR1 B3
    have ld := load_font hbx4
    go_wp2_with (refine ld_law ld rfl _ rfl rfl ?_)
    with_reducible refine HW3'.mono ?_
    rintro _ w5 ⟨v3, rfl, hR3, hb⟩
    have B5 := Lib.hid (below_join B4.out hb)
    have hbx5 := hbx4.below hb
    have HR1 := Lib.hid (Kd.R_below HR1.out hb)
    have HR2 := Lib.hid (Kd.R_below hR2 hb)
    have HW4' := HW4.out w5 B5.out
    clear HW3' HW4 ld hbx4 hb hR2 B4
    have ld := load_font hbx5
    go_wp2_with (refine ld_law ld rfl _ rfl rfl ?_)
    with_reducible refine HW4'.mono ?_
    rintro _ w6 ⟨v4, rfl, hR4, hb⟩
    have b6 := below_join b2 (below_join B5.out hb)
    obtain ⟨A1, c1, e1, hc1, hC1⟩ := Kd.R_reads (Kd.R_below HR1.out hb)
    obtain ⟨A2, c2, e2, hc2, hC2⟩ := Kd.R_reads (Kd.R_below HR2.out hb)
    obtain ⟨A3, c3, e3, hc3, hC3⟩ := Kd.R_reads (Kd.R_below hR3 hb)
    obtain ⟨A4, c4, e4, hc4, hC4⟩ := Kd.R_reads hR4
    subst e1 e2 e3 e4
    have HC3 := Lib.hid hC3
    have HC4 := Lib.hid hC4
    have HSame := same_any A1 A2 c1 c2 x x w6 hC1 hC2 (by omega) (by omega) (fun p hp => by have := mem_sum hp; have := HSx.out; omega) (fun p hp => by have := mem_sum hp; have := HSx.out; omega)
    rw [decide_eq_true rfl] at HSame
    clear HW4' ld hbx5 hb HR1 HR2 hR3 hR4 B5 hC1 hC2 hC3 hC4 hc1 hc2 hc3 hc4 b2
    have F1 : (e == e) = true := by simp
    have F2 : (te == te) = true := by simp
    go_wp2_with fail
    with_reducible refine HSame.mono ?_
    rintro _ w7 ⟨rfl, hb⟩
    have hstr3 : (convert 35 9 (.slice A3 tx.length c3)).run Try.prog w7 = .ok (.string (strOfNums tx)) w7 :=
      Go.Proofs.YtbkfofmanpjbfaaW.PrintWords.Kd.C_string Try.underlying35 Try.underlying5 Try.underlying9 (Kd.C_below HC3.out hb)
    have hstr4 : (convert 35 9 (.slice A4 tx.length c4)).run Try.prog w7 = .ok (.string (strOfNums tx)) w7 :=
      Go.Proofs.YtbkfofmanpjbfaaW.PrintWords.Kd.C_string Try.underlying35 Try.underlying5 Try.underlying9 (Kd.C_below HC4.out hb)
    have b7 := below_join b6 hb
    clear HSame hb
    go_wp2_with fail
    go_ret
    exact ⟨rfl, b7⟩
theorem tells_walk (c0 : Array Value) (x0 : FontT) (A1 : Option Addr) (n1 c1 : Nat) (x1 : List RowT) (w : World) (h0 : fontR.K w w.heap.size c0.toList x0) (h1 : rowR.slice.K w w.heap.size [.slice A1 n1 c1] x1) :
    Calls Try.prog 3 #[.agg c0, .slice A1 n1 c1] w fun e w' => e = .returned (.bool true) ∧ Below w.heap.size w w' := by
  obtain ⟨d, a, rfl, hF⟩ := font_of h0
  obtain ⟨rfl, e1, e2, hr1⟩ := slice_of h1
  have := tells_main d a (x1.map rowOf) A1 c1 w hF (rows_at hr1) (by rw [List.length_map]; omega)
  rw [List.length_map] at this
  exact this
end Go.Proofs.Ytbkfofmanpjbfaa.Bk
