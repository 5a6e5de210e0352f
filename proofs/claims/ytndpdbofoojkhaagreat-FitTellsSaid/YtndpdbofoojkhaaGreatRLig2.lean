/- The reference: the pairs of a font that make characters. -/
import Derived.Test.YtndpdbofoojkhaaGreatRLigP
import Derived.Deep.RegionHeld3
import Derived.Deep.DeepCutAuto
import Derived.Deep.MidRow
namespace Go.Proofs.YtndpdbofoojkhaaGreat.RFo
open Go.RowKit Go.Proofs.YtndpdbofoojkhaaGreat.Kit Go.Proofs.YtndpdbofoojkhaaGreat.Fo
set_option linter.unusedVariables false
set_option linter.unusedSimpArgs false

theorem info_pair : (Tryz.prog.info? 99).map (fun i => (i.zero, i.size, i.bytes)) = some (some (.agg #[.int .i64 0, .int .i64 0, .int .i64 0]), 3, 24) := by kernel_rfl
abbrev fontL (d : FontD) (a : FontA) : List Value := [.int .i64 d.sum, .int .i64 d.design, .int .i64 d.first, .slice a.c d.chars.length a.cc, .slice a.w d.widths.length a.cw, .slice a.h d.heights.length a.ch, .slice a.d d.depths.length a.cd, .slice a.i d.italics.length a.ci, .slice a.s d.steps.length a.cs, .slice a.k d.kerns.length a.ck, .slice a.p d.params.length a.cp]

theorem own_lt {w : World} {base n g : Nat} {e : TypeId} {size : Nat} {v : Value} {xs : List Value} (h : w.ownsRow base e size v n xs) (hv : v.ownBlock = some g) : g < w.heap.size := by
  rcases h.2 with ⟨h1, _⟩ | ⟨g', cap, cur, h1, hb, hg, _⟩
  · rw [h1] at hv; cases hv
  · rw [h1] at hv
    injection hv with e1
    subst e1
    exact (Array.getElem?_eq_some_iff.1 hg).1
theorem take_at {α : Type} {l : List α} {i : Nat} {x : α} (h : l[i]? = some x) : l.take (i + 1) = l.take i ++ [x] := by
  rw [List.take_add_one, h]; rfl
set_option maxRecDepth 10000 in
set_option maxHeartbeats 4000000 in
theorem rpairs_any (d : FontD) (a : FontA) (w : World) {B : Nat} (hB : B ≤ w.heap.size) (hF : FontIn w B d a) (ht : tfmB d = true) :
    Calls Tryz.prog 42 #[fontV d a] w fun e w' => ∃ A cp, e = .returned (.slice A (pairsP d).length cp) ∧ Row pairR w' w'.heap.size A (pairsP d) ∧ (pairsP d).length ≤ 9223372036854775807 ∧ (∀ b o, A = some ⟨b, o, none⟩ → w.heap.size ≤ b ∧ b < w'.heap.size) ∧ Below w.heap.size w w' := by
  obtain ⟨s1, s2, s3, s4, s5, s6, s7⟩ := tfm_sizes ht
  have HFn : Hid (∀ W, Below w.heap.size w W → FontIn W B d a) := Lib.hid fun W hb => hF.mono (hb.mono hB)
  have HT := Lib.hid ht
  have hb0 := Box.new w (fontCells d a) 26
  have hbw := (Below.refl w.heap.size w).alloc (Nat.le_refl _) (.cells (fontCells d a) 26)
  obtain ⟨W1, hW⟩ : ∃ W1, w.alloc (.cells (fontCells d a) 26) = W1 := ⟨_, rfl⟩
  rw [hW] at hb0 hbw
  have HK : Hid (∀ wr, Below W1.heap.size W1 wr → Box wr w.heap.size (fontCells d a) 26) := Lib.hid fun wr hb => hb0.below hb
  have HSm : Hid (∀ p ∈ pairsP d, (0 ≤ p.1 ∧ p.1 < 256) ∧ (0 ≤ p.2.1 ∧ p.2.1 < 256) ∧ (0 ≤ p.2.2 ∧ p.2.2 < 256)) := Lib.hid fun p hp => pairs_small ht hp
  obtain ⟨L, hL⟩ : ∃ L, Hid (pairsP d = L) := ⟨_, Lib.hid rfl⟩
  rw [hL.out] at HSm ⊢
  have HL0 : Hid (L = pairsFrom d d.chars d.first) := Lib.hid (by rw [← hL.out]; rfl)
  obtain ⟨c0, c1, c2, c3, c4, c5, c6, c7, c8, c9, c10⟩ := font_cells hb0
  have HB := Lib.hid hbw
  have hsz := hbw.size
  clear hb0 hbw hF ht hL
  go_enter Tryz.func42, Tryz.ntmps42
  go_wp2_with fail
  clear hW c0 c1 c2 c3 c4 c5 c6 c7 c8 c9 c10
  go_loopw [3, 4] (fun v i wr => ∃ (k : Nat) (O : List PairT), i = .int .i64 k ∧ k ≤ d.chars.length ∧ wr.ownsRow W1.heap.size 99 3 v O.length (O.flatMap pairC) ∧ Below W1.heap.size W1 wr ∧ Hid (L = O ++ pairsFrom d (d.chars.drop k) (d.first + k)) ∧ O.length ≤ 1000 * k) (fun _ i _ => d.chars.length - (intOf i).toNat)
  case atStart => exact ⟨0, [], rfl, by omega, own_nil _ _ _ _, Below.refl _ _, Lib.hid (by rw [HL0.out]; simp), by simp⟩
  case round =>
    obtain ⟨k, O, rfl, hk, hown, HL, HS, hO⟩ := hrel
    rename World => wr
    have hbr := HK.out wr HL
    have HBr : Hid (Below w.heap.size w wr) := Lib.hid (HB.out.trans (HL.mono hsz))
    obtain ⟨c0, c1, c2, c3, c4, c5, c6, c7, c8, c9, c10⟩ := font_cells hbr
    have hszr := HL.size
    by_cases hlt : k < d.chars.length
    · obtain ⟨c, hc⟩ := at_lt hlt
      have HD := Lib.hid (drop_cons hc)
      obtain ⟨b, o, hA, hb, ⟨x0, x1, x2, x3, x4, x5⟩, _⟩ := char_at (HFn.out wr HBr.out).chars hc
      have HSt : Hid (∀ V, Below w.heap.size w V → _) := Lib.hid fun V (hb : Below w.heap.size w V) => rsteps_any d a c V (Nat.le_trans hB hb.size) (HFn.out V hb) HT.out (fun h => tag_ok HT.out hc h)
      have HS1 : Hid (L = O ++ (pairsC (d.first + k) [] (placesP d c) ++ pairsFrom d (d.chars.drop (k + 1)) (d.first + (k + 1 : Nat)))) := Lib.hid (by rw [HS.out, HD.out]; show _ = _; simp only [pairsFrom]; congr 3; omega)
      have HPl : Hid (∀ x ∈ placesP d c, 0 ≤ x.1 ∧ d.steps[x.1.toNat]? = some x.2) := Lib.hid fun x hx => places_at hx
      have hPn : (placesP d c).length ≤ 257 := Nat.le_trans (List.length_filter_le _ _) (Nat.le_trans (steps_len d c) (by omega))
      clear hc HS HD
      go_upto_region 5 with fail
      generalize placesP d c = P at *
      generalize allP d c = al at *
      obtain ⟨n0, n1, n2, n3, n4, n5⟩ := c
      dsimp only at x0 x1 x2 x3 x4 x5
      rw [hA] at c3
      unfold fontV at HSt
      rw [hA] at HSt
      go_cut [5, 6] from 11 to 79 (fun l b wx => ∃ A2 cp, l = .slice A2 P.length cp ∧ b = .bool al ∧ Row (Rep.int .i64) wx wx.heap.size A2 (P.map (·.1)) ∧ (∀ b o, A2 = some ⟨b, o, none⟩ → wr.heap.size ≤ b ∧ b < wx.heap.size) ∧ Below wr.heap.size wr wx)
      case first =>
        have HKe : Hid (∀ w', Below wr.heap.size wr w' → Below wr.heap.size wr w' ∧ w'.cell? ⟨w.heap.size, 0, none⟩ = some (.int .i64 d.sum) ∧ w'.cell? ⟨w.heap.size, 1, none⟩ = some (.int .i64 d.design) ∧ w'.cell? ⟨w.heap.size, 2, none⟩ = some (.int .i64 d.first) ∧ w'.cell? ⟨w.heap.size, 3, none⟩ = some (.slice (some ⟨b, o, none⟩) d.chars.length a.cc) ∧ w'.cell? ⟨w.heap.size, 4, none⟩ = some (.slice a.w d.widths.length a.cw) ∧ w'.cell? ⟨w.heap.size, 5, none⟩ = some (.slice a.h d.heights.length a.ch) ∧ w'.cell? ⟨w.heap.size, 6, none⟩ = some (.slice a.d d.depths.length a.cd) ∧ w'.cell? ⟨w.heap.size, 7, none⟩ = some (.slice a.i d.italics.length a.ci) ∧ w'.cell? ⟨w.heap.size, 8, none⟩ = some (.slice a.s d.steps.length a.cs) ∧ w'.cell? ⟨w.heap.size, 9, none⟩ = some (.slice a.k d.kerns.length a.ck) ∧ w'.cell? ⟨w.heap.size, 10, none⟩ = some (.slice a.p d.params.length a.cp) ∧ w'.cell? ⟨b, o + k * 6, none⟩ = some (.int .i64 n0) ∧ w'.cell? ⟨b, o + k * 6 + 1, none⟩ = some (.int .i64 n1) ∧ w'.cell? ⟨b, o + k * 6 + 2, none⟩ = some (.int .i64 n2) ∧ w'.cell? ⟨b, o + k * 6 + 3, none⟩ = some (.int .i64 n3) ∧ w'.cell? ⟨b, o + k * 6 + 4, none⟩ = some (.int .i64 n4) ∧ w'.cell? ⟨b, o + k * 6 + 5, none⟩ = some (.int .i64 n5)) := Lib.hid fun w' hb => ⟨hb, later hb c0, later hb c1, later hb c2, later hb c3, later hb c4, later hb c5, later hb c6, later hb c7, later hb c8, later hb c9, later hb c10, later hb x0, later hb x1, later hb x2, later hb x3, later hb x4, later hb x5⟩
        clear hbr c0 c1 c2 c3 c4 c5 c6 c7 c8 c9 c10 x0 x1 x2 x3 x4 x5 hown
        go_region_held3 (fun w' => Below wr.heap.size wr w' ∧ w'.cell? ⟨w.heap.size, 0, none⟩ = some (.int .i64 d.sum) ∧ w'.cell? ⟨w.heap.size, 1, none⟩ = some (.int .i64 d.design) ∧ w'.cell? ⟨w.heap.size, 2, none⟩ = some (.int .i64 d.first) ∧ w'.cell? ⟨w.heap.size, 3, none⟩ = some (.slice (some ⟨b, o, none⟩) d.chars.length a.cc) ∧ w'.cell? ⟨w.heap.size, 4, none⟩ = some (.slice a.w d.widths.length a.cw) ∧ w'.cell? ⟨w.heap.size, 5, none⟩ = some (.slice a.h d.heights.length a.ch) ∧ w'.cell? ⟨w.heap.size, 6, none⟩ = some (.slice a.d d.depths.length a.cd) ∧ w'.cell? ⟨w.heap.size, 7, none⟩ = some (.slice a.i d.italics.length a.ci) ∧ w'.cell? ⟨w.heap.size, 8, none⟩ = some (.slice a.s d.steps.length a.cs) ∧ w'.cell? ⟨w.heap.size, 9, none⟩ = some (.slice a.k d.kerns.length a.ck) ∧ w'.cell? ⟨w.heap.size, 10, none⟩ = some (.slice a.p d.params.length a.cp) ∧ w'.cell? ⟨b, o + k * 6, none⟩ = some (.int .i64 n0) ∧ w'.cell? ⟨b, o + k * 6 + 1, none⟩ = some (.int .i64 n1) ∧ w'.cell? ⟨b, o + k * 6 + 2, none⟩ = some (.int .i64 n2) ∧ w'.cell? ⟨b, o + k * 6 + 3, none⟩ = some (.int .i64 n3) ∧ w'.cell? ⟨b, o + k * 6 + 4, none⟩ = some (.int .i64 n4) ∧ w'.cell? ⟨b, o + k * 6 + 5, none⟩ = some (.int .i64 n5))
          (first | exact HKe.out _ (by repeat (first | (with_reducible exact Below.refl _ _) | (with_reducible apply below_drew) | (with_reducible refine below_join ?_ (by assumption)) | exact (‹Below wr.heap.size wr _ ∧ _›.1))))
          (first
            | (go_at_call 41; go_must (with_reducible refine (HSt.out _ (HBr.out.trans ((below_drew (Below.refl _ _)).mono HBr.out.size))).mono ?_); rintro e wq ⟨A2, cp, rfl, hrow, hbk, hbq⟩))
        all_goals (go_wp2_with fail; go_meet)
        all_goals exact ⟨A2, cp, rfl, rfl, hrow, (fun b o e => by simpa using hbk b o e), (‹Below wr.heap.size wr wq ∧ _›).1⟩
      case rest =>
        rename World => wq
        obtain ⟨A2, cp, rfl, rfl, hrow, hbk, HQ⟩ := hcut
        have hown2 := own_setSize hown HQ
        have HLc := below_join HL HQ
        have hap : ∀ b o, A2 = some ⟨b, o, none⟩ → some b ≠ u3.ownBlock := fun b o e e2 => by
          have h1 := (hbk b o e).1
          have h2 := own_lt hown e2.symm
          omega
        have hszc := HQ.size
        clear hbr c0 c1 c2 c3 c4 c5 c6 c7 c8 c9 c10 x0 x1 x2 x3 x4 x5 hown HSt hbk
        go_wp2_with fail
        go_loopw [3, 7] (fun v i wx => ∃ (m : Nat) (O' : List PairT), i = .int .i64 m ∧ m ≤ P.length ∧ wx.ownsRow W1.heap.size 99 3 v O'.length (O'.flatMap pairC) ∧ Below W1.heap.size W1 wx ∧ wq.heap.size ≤ wx.heap.size ∧ Row (Rep.int .i64) wx wq.heap.size A2 (P.map (·.1)) ∧ (∀ b o, A2 = some ⟨b, o, none⟩ → some b ≠ v.ownBlock) ∧ Hid (L = O' ++ (pairsC (d.first + k) (P.take m) (P.drop m) ++ pairsFrom d (d.chars.drop (k + 1)) (d.first + (k + 1 : Nat)))) ∧ O'.length ≤ 1000 * k + m) (fun _ i _ => P.length - (intOf i).toNat)
        case atStart => exact ⟨0, O, rfl, by omega, hown2, HLc, Nat.le_refl _, hrow, hap, Lib.hid (by rw [HS1.out]; simp), by omega⟩
        case round =>
          clear hown2 HLc hrow hap HS1 HL HQ HBr hszr
          obtain ⟨m, O', rfl, hm, hown, HL, hszx, hrow, hap, HS, hO'⟩ := hrel
          rename World => wx
          have hbr := HK.out wx HL
          have HBr : Hid (Below w.heap.size w wx) := Lib.hid (HB.out.trans (HL.mono hsz))
          by_cases hlm : m < P.length
          · obtain ⟨x, hx⟩ := at_lt hlm
            have HD := Lib.hid (drop_cons hx)
            have HTk := Lib.hid (take_at hx)
            obtain ⟨hp0, hps⟩ := HPl.out x (List.mem_of_getElem? hx)
            obtain ⟨b2, o2, hA2, hb2, hc2, _⟩ := int_at hrow (show (P.map (·.1))[m]? = some x.1 by simp [hx])
            obtain ⟨bs, os, hAs, hbs, ⟨z0, z1, z2, z3⟩, _⟩ := step_at (HFn.out wx HBr.out).steps hps
            have hpl := (List.getElem?_eq_some_iff.1 hps).1
            obtain ⟨xp, t0, t1, t2, t3⟩ := x
            dsimp only at hp0 hps hc2 z0 z1 z2 z3 hpl
            obtain ⟨p, rfl⟩ := Int.eq_ofNat_of_zero_le hp0
            rw [Int.toNat_natCast] at z0 z1 z2 z3 hpl
            have c8 := (font_cells hbr).2.2.2.2.2.2.2.2.1
            rw [hAs] at c8
            subst hA2
            clear hx hps hp0
            go_upto_region 9 with fail
            go_cut [8] from 28 to 79 (fun v wy => ∃ g8, v = .pointer (some ⟨g8, 0, none⟩) ∧ Box wy g8 #[.int .i64 t0, .int .i64 t1, .int .i64 t2, .int .i64 t3] 79 ∧ Below wx.heap.size wx wy)
            case first =>
              have HKe : Hid (∀ w', Below wx.heap.size wx w' → Below wx.heap.size wx w' ∧ w'.cell? ⟨w.heap.size, 8, none⟩ = some (.slice (some ⟨bs, os, none⟩) d.steps.length a.cs) ∧ w'.cell? ⟨b2, o2 + m, none⟩ = some (.int .i64 p) ∧ w'.cell? ⟨bs, os + p * 4, none⟩ = some (.int .i64 t0) ∧ w'.cell? ⟨bs, os + p * 4 + 1, none⟩ = some (.int .i64 t1) ∧ w'.cell? ⟨bs, os + p * 4 + 2, none⟩ = some (.int .i64 t2) ∧ w'.cell? ⟨bs, os + p * 4 + 3, none⟩ = some (.int .i64 t3)) := Lib.hid fun w' hb => ⟨hb, later hb c8, later hb hc2, later hb z0, later hb z1, later hb z2, later hb z3⟩
              clear hbr c8 hc2 z0 z1 z2 z3 hown hrow hap
              go_region_held3 (fun w' => Below wx.heap.size wx w' ∧ w'.cell? ⟨w.heap.size, 8, none⟩ = some (.slice (some ⟨bs, os, none⟩) d.steps.length a.cs) ∧ w'.cell? ⟨b2, o2 + m, none⟩ = some (.int .i64 p) ∧ w'.cell? ⟨bs, os + p * 4, none⟩ = some (.int .i64 t0) ∧ w'.cell? ⟨bs, os + p * 4 + 1, none⟩ = some (.int .i64 t1) ∧ w'.cell? ⟨bs, os + p * 4 + 2, none⟩ = some (.int .i64 t2) ∧ w'.cell? ⟨bs, os + p * 4 + 3, none⟩ = some (.int .i64 t3))
                (first | exact HKe.out _ (by repeat (first | (with_reducible exact Below.refl _ _) | (with_reducible apply below_drew) | (with_reducible apply below_alloc) | (refine below_set ?_ (by first | (simp; done) | (simp; omega)) _))))
                (fail)
              all_goals (go_wp2_with fail; go_meet)
              all_goals
                refine ⟨_, rfl, ?_, (‹Below wx.heap.size wx _ ∧ _›).1⟩
                repeat (first | exact Box.new _ _ _ | apply Box.drew)
            case rest =>
              rename World => wy
              obtain ⟨g8, rfl, hb8, HY⟩ := hcut
              have hownY := Lib.hid (own_setSize hown HY)
              have HLy := below_join HL HY
              have hrowY := Lib.hid (hrow.mono (HY.mono hszx))
              have hszy := HY.size
              have hap' := Lib.hid hap
              have HPx : Hid (pairsC (d.first + k) (P.take m) (P.drop m) = (if t2 = 0 ∧ ((P.take m).all fun y => decide (y.2.2.1 ≠ t1)) = true then [(d.first + (k : Int), t1, t3)] else []) ++ pairsC (d.first + k) (P.take (m + 1)) (P.drop (m + 1))) := Lib.hid (by rw [HD.out, HTk.out]; rfl)
              clear hbr c8 hc2 z0 z1 z2 z3 hown hrow hap HL HD HTk
              go_wp2_with fail
              go_loopw [9, 10] (fun f j wz => ∃ (n : Nat) (fb : Bool), j = .int .i64 n ∧ n ≤ m ∧ f = .bool fb ∧ Hid (((P.take n).all fun y => decide (y.2.2.1 ≠ t1)) = fb) ∧ Below wy.heap.size wy wz) (fun _ j _ => m - (intOf j).toNat)
              case atStart => exact ⟨0, true, rfl, by omega, rfl, Lib.hid rfl, Below.refl _ _⟩
              case round =>
                obtain ⟨n, fb, rfl, hn, rfl, hfb, HZ⟩ := hrel
                rename World => wz
                have HLz := below_join HLy HZ
                have hbz := HK.out wz HLz
                have HBz : Hid (Below w.heap.size w wz) := Lib.hid (HB.out.trans (HLz.mono hsz))
                have hb8z := hb8.below HZ
                have e0 : _ = some (Value.int .i64 t0) := hb8z.cell 0 rfl
                have e1 : _ = some (Value.int .i64 t1) := hb8z.cell 1 rfl
                have e2 : _ = some (Value.int .i64 t2) := hb8z.cell 2 rfl
                have e3 : _ = some (Value.int .i64 t3) := hb8z.cell 3 rfl
                have hszz := HZ.size
                by_cases hln : n < m
                · obtain ⟨y, hy⟩ := at_lt (l := P) (i := n) (by omega)
                  have HTn := Lib.hid (take_at hy)
                  obtain ⟨hq0, hqs⟩ := HPl.out y (List.mem_of_getElem? hy)
                  obtain ⟨b3, o3, hA3, hb3, hc3, _⟩ := int_at (hrowY.out.mono (HZ.mono (by omega))) (show (P.map (·.1))[n]? = some y.1 by simp [hy])
                  obtain ⟨bt, ot, hAt, hbt, ⟨y0, y1, y2, y3⟩, _⟩ := step_at (HFn.out wz HBz.out).steps hqs
                  have hql := (List.getElem?_eq_some_iff.1 hqs).1
                  obtain ⟨yp, v0, v1, v2, v3⟩ := y
                  dsimp only at hq0 hqs hc3 y0 y1 y2 y3 hql
                  obtain ⟨q, rfl⟩ := Int.eq_ofNat_of_zero_le hq0
                  rw [Int.toNat_natCast] at y0 y1 y2 y3 hql
                  cases hA3
                  rw [hAs] at hAt
                  cases hAt
                  have c8 := (font_cells hbz).2.2.2.2.2.2.2.2.1
                  rw [hAs] at c8
                  clear hy hqs hq0 hbz y0 y2 y3 e0 e2 e3 hb8z
                  have HF0 : Hid (∀ q, fb = q → ((P.take (n + 1)).all fun y => decide (y.2.2.1 ≠ t1)) = (q && decide (v1 ≠ t1))) := Lib.hid fun q hq => by rw [HTn.out, List.all_append, hfb.out, hq]; simp
                  clear hfb HTn
                  cases fb with
                  | false =>
                    have HF : Hid (((P.take (n + 1)).all fun y => decide (y.2.2.1 ≠ t1)) = false) := Lib.hid (by rw [HF0.out _ rfl]; rfl)
                    clear HF0
                    go_upto_region 14 with fail
                    go_big_quiet (fail)
                    go_wp2_with fail
                    go_roundw
                    case rel => exact ⟨n + 1, false, by go_num, by omega, rfl, HF, below_drewN HZ _⟩
                    case measure => simp [intOf]; omega
                  | true =>
                    by_cases he : v1 = t1
                    · have HF : Hid (((P.take (n + 1)).all fun y => decide (y.2.2.1 ≠ t1)) = false) := Lib.hid (by rw [HF0.out _ rfl]; simp [he])
                      have F1 : (v1 != t1) = false := by simp [he]
                      clear HF0 he
                      go_upto_region 14 with fail
                      go_big_quiet (fail)
                      go_wp2_with fail
                      go_roundw
                      case rel => exact ⟨n + 1, false, by go_num, by omega, rfl, HF, below_drewN HZ _⟩
                      case measure => simp [intOf]; omega
                    · have HF : Hid (((P.take (n + 1)).all fun y => decide (y.2.2.1 ≠ t1)) = true) := Lib.hid (by rw [HF0.out _ rfl]; simp [he])
                      have F1 : (v1 != t1) = true := by simp [he]
                      clear HF0 he
                      go_upto_region 14 with fail
                      go_big_quiet (fail)
                      go_wp2_with fail
                      go_roundw
                      case rel => exact ⟨n + 1, true, by go_num, by omega, rfl, HF, below_drewN HZ _⟩
                      case measure => simp [intOf]; omega
                · have hnm : n = m := by omega
                  have hownZ := Lib.hid (own_setSize hownY.out HZ)
                  have hrowZ := Lib.hid (hrowY.out.mono (HZ.mono (by omega)))
                  have c2 := (font_cells hbz).2.2.1
                  clear hownY hrowY hbz hb8z hb8 HY
                  have HPy : Hid (pairsC (d.first + k) (P.take m) (P.drop m) = (if t2 = 0 ∧ fb = true then [(d.first + (k : Int), t1, t3)] else []) ++ pairsC (d.first + k) (P.take (m + 1)) (P.drop (m + 1))) := Lib.hid (by rw [← hfb.out, hnm]; exact HPx.out)
                  clear HPx hfb hnm
                  have hszL := HLz.size
                  by_cases hyes : t2 = 0 ∧ fb = true
                  · have HN : Hid (L = (O' ++ [(d.first + (k : Int), t1, t3)]) ++ (pairsC (d.first + k) (P.take (m + 1)) (P.drop (m + 1)) ++ pairsFrom d (d.chars.drop (k + 1)) (d.first + (k + 1 : Nat)))) := Lib.hid (by rw [HS.out, HPy.out, if_pos hyes]; simp)
                    obtain ⟨rfl, rfl⟩ := hyes
                    clear HPy HS
                    go_wp2_with (
                      (at_builtin
                       go_must (refine wpList_append_seen rfl (.tmp 68) (.tmp 78) _ rfl W1.heap.size 99 (.agg #[.int .i64 0, .int .i64 0, .int .i64 0]) 3 24 Tryz.underlying94 info_pair rfl (by decide) _ _ _ rfl (hownZ.out.alloc _) (some ⟨wz.heap.size, 0, none⟩) 1 1 [.int .i64 (d.first + (k : Int)), .int .i64 t1, .int .i64 t3] rfl (by simp) (sees_new _ _ _) (one_ints .i64 [d.first + (k : Int), t1, t3]) (by omega) (by omega) (by simp; omega) (fun h => by cases h) ?_)
                       intro v1 w2 hown1 hg1 hgb
                       have HB3 : Below W1.heap.size W1 w2 := (HLz.alloc (by omega) (.cells #[.int .i64 (d.first + (k : Int)), .int .i64 t1, .int .i64 t3] 99)).grown hg1 (by simp; omega) (fun k hk => by have := own_base hownZ.out k hk; omega)
                       have hs3 := hg1.size
                       have HO := Lib.hid hown1
                       have hrow3 := Lib.hid (((hrowZ.out.mono ((Below.refl _ wz).alloc (by omega) (.cells #[.int .i64 (d.first + (k : Int)), .int .i64 t1, .int .i64 t3] 99))).int_grown hg1 (fun b o e => ⟨by cases e; simp; omega, hap'.out b o e⟩)))
                       have hap3 : Hid (∀ b o, some (⟨b2, o2, none⟩ : Addr) = some ⟨b, o, none⟩ → some b ≠ v1.ownBlock) := Lib.hid fun b o e => by
                         rcases hgb with h | h
                         · rw [h]; exact hap'.out b o e
                         · rw [h]; cases e; simp; omega
                       simp only [World.size_alloc] at hs3
                       clear hg1 hown1 hgb))
                    go_roundw
                    case rel => exact ⟨m + 1, O' ++ [(d.first + (k : Int), t1, t3)], by go_num, by omega, by have := HO.out; simpa [pairC] using this, HB3, by omega, hrow3.out, hap3.out, HN, by simp; omega⟩
                    case measure => simp [intOf]; omega
                  · have HN : Hid (L = O' ++ (pairsC (d.first + k) (P.take (m + 1)) (P.drop (m + 1)) ++ pairsFrom d (d.chars.drop (k + 1)) (d.first + (k + 1 : Nat)))) := Lib.hid (by rw [HS.out, HPy.out, if_neg hyes]; simp)
                    clear HPy HS
                    have hcase : fb = false ∨ (fb = true ∧ (t2 == 0) = false) := by
                      cases fb with
                      | false => left; rfl
                      | true => right; refine ⟨rfl, ?_⟩; simp only [beq_eq_false_iff_ne]; intro h; exact hyes ⟨h, rfl⟩
                    clear hyes
                    rcases hcase with rfl | ⟨rfl, F1⟩
                    · go_wp2_with fail
                      go_roundw
                      case rel => exact ⟨m + 1, O', by go_num, by omega, hownZ.out, HLz, by omega, hrowZ.out, hap'.out, HN, by omega⟩
                      case measure => simp [intOf]; omega
                    · go_wp2_with fail
                      go_roundw
                      case rel => exact ⟨m + 1, O', by go_num, by omega, hownZ.out, HLz, by omega, hrowZ.out, hap'.out, HN, by omega⟩
                      case measure => simp [intOf]; omega
          · have HN : Hid (L = O' ++ pairsFrom d (d.chars.drop (k + 1)) (d.first + (k + 1 : Nat))) := Lib.hid (by rw [HS.out, List.drop_eq_nil_of_le (by omega)]; simp [pairsC])
            have hownX := Lib.hid hown
            clear HS hown hap hrow hbr
            go_wp2_with fail
            go_roundw
            case rel => exact ⟨k + 1, O', by go_num, by omega, hownX.out, HL, HN, by omega⟩
            case measure => simp [intOf]; omega
    · have HE : Hid (L = O) := Lib.hid (by rw [HS.out, List.drop_eq_nil_of_le (by omega)]; simp [pairsFrom])
      have hownX := Lib.hid hown
      clear HS hown c0 c1 c2 c4 c5 c6 c7 c8 c9 c10 hbr
      go_wp2_with fail
      obtain ⟨A2, cp, hv2, hn2, hrow, hlen, hbk⟩ := own_rows (R := pairR) (f := pairC) (fun _ => rfl) (by decide) hownX.out (by
        intro x hx
        obtain ⟨h1, h2, h3⟩ := HSm.out x (by rw [HE.out]; exact hx)
        exact ⟨[_], _, rfl, ⟨rfl, wf_i64 (by omega) (by omega)⟩, [_], _, rfl, ⟨rfl, wf_i64 (by omega) (by omega)⟩, rfl, wf_i64 (by omega) (by omega)⟩)
      subst hv2
      rw [HE.out]
      go_ret
      exact ⟨A2, cp, rfl, hrow, hlen, (fun b o e => ⟨by have := (hbk b o e).1; omega, (hbk b o e).2.1⟩), HBr.out⟩
end Go.Proofs.YtndpdbofoojkhaaGreat.RFo
