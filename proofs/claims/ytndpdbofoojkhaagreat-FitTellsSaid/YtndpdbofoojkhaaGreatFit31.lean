/- The reference: whether codes are there (Chars), and their glyphs (Plain). -/
import Derived.Test.YtndpdbofoojkhaaGreatFit30
namespace Go.Proofs.YtndpdbofoojkhaaGreat.Ft
open Go.RowKit Go.Proofs.YtndpdbofoojkhaaGreat.Kit Go.Proofs.YtndpdbofoojkhaaGreat.Fo Go.Proofs.YtndpdbofoojkhaaGreat.RFo
set_option linter.unusedVariables false
set_option linter.unusedSimpArgs false

set_option maxRecDepth 10000 in
set_option maxHeartbeats 4000000 in
theorem chars_any (d : FontD) (a : FontA) (A : Option Addr) (c : Nat) (L : List Int) (w : World) {B : Nat} (hB : B ≤ w.heap.size) (hF : FontIn w B d a) (ht : tfmB d = true) (hx : Row (Rep.int .i64) w B A L) (hl : L.length ≤ 1000) :
    Calls Tryz.prog 23 #[fontV d a, .slice A L.length c] w fun e w' => e = .returned (.bool (!(L.any (badC d)))) ∧ Below w.heap.size w w' := by
  have hbx := Box.new w (fontCells d a) 26
  have hbw := below_alloc (Below.refl w.heap.size w) (.cells (fontCells d a) 26)
  obtain ⟨W1, hW⟩ : ∃ W1, w.alloc (.cells (fontCells d a) 26) = W1 := ⟨_, rfl⟩
  rw [hW] at hbx hbw
  have HH : Hid (∀ W x, Below w.heap.size w W → (Lit.int .i64 x).wf = true → Calls Tryz.prog 43 #[fontV d a, .int .i64 x] W fun e w' => e = .returned (.bool (hasB d x)) ∧ Below W.heap.size W w') := Lib.hid fun W x hb hx => by
    have := rhas_any d a x W (Nat.le_trans hB hb.size) (hF.mono (hb.mono hB)) hx
    rw [ht] at this
    exact this
  obtain ⟨q, hq⟩ : ∃ q, Hid ((!(L.any (badC d))) = q) := ⟨_, Lib.hid rfl⟩
  rw [hq.out]
  have HX := Lib.hid hx
  have HBX := Lib.hid hbx
  have HBW := Lib.hid hbw
  unfold fontV at HH
  clear hx hF ht
  go_enter Tryz.func23, Tryz.ntmps23
  go_wp2_with fail
  clear hW hbx hbw
  go_loopw [5] (fun i wr => ∃ k : Nat, k ≤ L.length ∧ i = .int .i64 (k : Int) ∧ Hid ((L.take k).any (badC d) = false) ∧ Below W1.heap.size W1 wr) (fun i _ => L.length - (intOf i).toNat)
  case atStart => exact ⟨0, by omega, rfl, Lib.hid rfl, Below.refl _ _⟩
  case round =>
    rename World => wr
    obtain ⟨k, hk, rfl, HS, hbr⟩ := hrel
    have HBr := Lib.hid (below_join HBW.out hbr)
    by_cases hlt : k < L.length
    · obtain ⟨x, hxk⟩ := at_lt hlt
      obtain ⟨b, o, rfl, hb0, hcc, hwc⟩ := int_at (HX.out.mono (HBr.out.mono hB)) hxk
      have hcc' : wr.cell? ⟨b, o + k, none⟩ = some (.int .i64 x) := hcc
      have HC : Hid (∀ V, Below wr.heap.size wr V → _) := Lib.hid fun V (hv : Below wr.heap.size wr V) => HH.out V x (below_join HBr.out hv) hwc
      obtain ⟨c0, c1, c2, c3, c4, c5, c6, c7, c8, c9, c10⟩ := font_cells (HBX.out.below hbr)
      have HXm := Lib.hid (List.mem_of_getElem? hxk)
      have HT1 : Hid (badC d x = false → (L.take (k + 1)).any (badC d) = false) := Lib.hid fun h => by
        rw [RFo.take_at hxk, List.any_append, HS.out]; simp [h]
      have HV1 : Hid (badC d x = true → false = q) := Lib.hid fun h => by
        rw [← hq.out]
        have : L.any (badC d) = true := List.any_eq_true.2 ⟨x, HXm.out, h⟩
        rw [this]; rfl
      have HBd : Hid (badC d x = (decide (x < 33) || decide (126 < x) || !hasB d x)) := Lib.hid rfl
      have HCe : Hid (wr.cell? ⟨b, o + k, none⟩ = some (.int .i64 x)) := Lib.hid hcc'
      clear hcc hxk
      generalize hasB d x = hs at *
      go_upto_region 4 with fail
      go_cut [6] from 13 to 18 (fun v wx => v = .bool hs ∧ Below wr.heap.size wr wx)
      case first =>
        have HKe : Hid (∀ w', Below wr.heap.size wr w' → Below wr.heap.size wr w' ∧ w'.cell? ⟨w.heap.size, 0, none⟩ = some (.int .i64 d.sum) ∧ w'.cell? ⟨w.heap.size, 1, none⟩ = some (.int .i64 d.design) ∧ w'.cell? ⟨w.heap.size, 2, none⟩ = some (.int .i64 d.first) ∧ w'.cell? ⟨w.heap.size, 3, none⟩ = some (.slice a.c d.chars.length a.cc) ∧ w'.cell? ⟨w.heap.size, 4, none⟩ = some (.slice a.w d.widths.length a.cw) ∧ w'.cell? ⟨w.heap.size, 5, none⟩ = some (.slice a.h d.heights.length a.ch) ∧ w'.cell? ⟨w.heap.size, 6, none⟩ = some (.slice a.d d.depths.length a.cd) ∧ w'.cell? ⟨w.heap.size, 7, none⟩ = some (.slice a.i d.italics.length a.ci) ∧ w'.cell? ⟨w.heap.size, 8, none⟩ = some (.slice a.s d.steps.length a.cs) ∧ w'.cell? ⟨w.heap.size, 9, none⟩ = some (.slice a.k d.kerns.length a.ck) ∧ w'.cell? ⟨w.heap.size, 10, none⟩ = some (.slice a.p d.params.length a.cp) ∧ w'.cell? ⟨b, o + k, none⟩ = some (.int .i64 x)) := Lib.hid fun w' hb => ⟨hb, later hb c0, later hb c1, later hb c2, later hb c3, later hb c4, later hb c5, later hb c6, later hb c7, later hb c8, later hb c9, later hb c10, later hb hcc'⟩
        clear c0 c1 c2 c3 c4 c5 c6 c7 c8 c9 c10 hcc'
        go_region_held3 (fun w' => Below wr.heap.size wr w' ∧ w'.cell? ⟨w.heap.size, 0, none⟩ = some (.int .i64 d.sum) ∧ w'.cell? ⟨w.heap.size, 1, none⟩ = some (.int .i64 d.design) ∧ w'.cell? ⟨w.heap.size, 2, none⟩ = some (.int .i64 d.first) ∧ w'.cell? ⟨w.heap.size, 3, none⟩ = some (.slice a.c d.chars.length a.cc) ∧ w'.cell? ⟨w.heap.size, 4, none⟩ = some (.slice a.w d.widths.length a.cw) ∧ w'.cell? ⟨w.heap.size, 5, none⟩ = some (.slice a.h d.heights.length a.ch) ∧ w'.cell? ⟨w.heap.size, 6, none⟩ = some (.slice a.d d.depths.length a.cd) ∧ w'.cell? ⟨w.heap.size, 7, none⟩ = some (.slice a.i d.italics.length a.ci) ∧ w'.cell? ⟨w.heap.size, 8, none⟩ = some (.slice a.s d.steps.length a.cs) ∧ w'.cell? ⟨w.heap.size, 9, none⟩ = some (.slice a.k d.kerns.length a.ck) ∧ w'.cell? ⟨w.heap.size, 10, none⟩ = some (.slice a.p d.params.length a.cp) ∧ w'.cell? ⟨b, o + k, none⟩ = some (.int .i64 x))
          (first | exact HKe.out _ (by repeat (first | (with_reducible exact Below.refl _ _) | (with_reducible apply below_drew) | (with_reducible refine below_join ?_ (by assumption)) | exact (‹Below wr.heap.size wr _ ∧ _›.1))))
          (first
            | (go_at_call 43; go_must (with_reducible refine (HC.out _ ((below_drew (Below.refl _ _)))).mono ?_); rintro e wq ⟨rfl, hbq⟩))
        all_goals (go_wp2_with fail; go_meet)
        all_goals exact ⟨rfl, (‹Below wr.heap.size wr wq ∧ _›).1⟩
      case rest =>
        rename World => wx
        obtain ⟨rfl, hbx⟩ := hcut
        have hcx := later hbx HCe.out
        have hend := hbr.trans (hbx.mono hbr.size)
        clear c0 c1 c2 c3 c4 c5 c6 c7 c8 c9 c10 hcc' HC
        cases hs with
        | false =>
          have HV := Lib.hid (HV1.out (by rw [HBd.out]; simp))
          clear HT1 HV1 HBd
          go_wp2_with fail
          go_ret
          exact ⟨ret_bool rfl HV.out, HBW.out.trans (hend.mono HBW.out.size)⟩
        | true =>
          by_cases h1 : x < 33
          · have F1 : (x < 33) = True := eq_true h1
            have HV := Lib.hid (HV1.out (by rw [HBd.out]; simp [h1]))
            clear HT1 HV1 HBd h1
            go_wp2_with fail
            go_ret
            exact ⟨ret_bool rfl HV.out, HBW.out.trans (hend.mono HBW.out.size)⟩
          · have F1 : (x < 33) = False := eq_false h1
            by_cases h2 : 126 < x
            · have F2 : (126 < x) = True := eq_true h2
              have HV := Lib.hid (HV1.out (by rw [HBd.out]; simp [h2]))
              clear HT1 HV1 HBd h1 h2
              go_wp2_with fail
              go_ret
              exact ⟨ret_bool rfl HV.out, HBW.out.trans (hend.mono HBW.out.size)⟩
            · have F2 : (126 < x) = False := eq_false h2
              have HS2 := Lib.hid (HT1.out (by rw [HBd.out]; simp [h1, h2]))
              clear HT1 HV1 HBd h1 h2
              go_wp2_with fail
              go_roundw
              case rel => exact ⟨k + 1, by omega, by go_num, HS2, hend⟩
              case measure => simp [intOf]; omega
    · have HV : Hid (true = q) := Lib.hid (by
        rw [← hq.out]
        have := HS.out
        rw [List.take_of_length_le (by omega)] at this
        rw [this]; rfl)
      go_wp2_with fail
      go_ret
      exact ⟨ret_bool rfl HV.out, HBr.out⟩
theorem plain_next {d : FontD} {L : List Int} {k : Nat} {pre : List (Int × Int)} {cur cd : Int} (hL : ligB d = true) (hcd : L[k]? = some cd) (hc : hasB d cd = true) (hset : setG d L = pre ++ setFrom d cur (L.drop k)) :
    (∀ s, ruleP d cur cd = some s → s.2.2.1 = 0 → setG d L = pre ++ setFrom d s.2.2.2 (L.drop (k + 1)) ∧ hasB d s.2.2.2 = true) ∧
    (∀ s, ruleP d cur cd = some s → s.2.2.1 ≠ 0 → setG d L = (pre ++ [(cur, d.kerns.getD (kernAt s).toNat 0)]) ++ setFrom d cd (L.drop (k + 1))) ∧
    (ruleP d cur cd = none → setG d L = (pre ++ [(cur, 0)]) ++ setFrom d cd (L.drop (k + 1))) := by
  have hd := drop_cons hcd
  rw [hd, setFrom] at hset
  refine ⟨fun s hs h0 => ⟨?_, (rule_ok hL hs).1 h0⟩, fun s hs h0 => ?_, fun hs => ?_⟩
  · rw [hs] at hset
    simpa [h0] using hset
  · rw [hs] at hset
    simpa [h0] using hset
  · rw [hs] at hset
    simpa using hset
theorem plain_first {d : FontD} {L : List Int} {x : Int} (h : L[0]? = some x) : setG d L = [] ++ setFrom d x (L.drop 1) := by
  cases L with
  | nil => simp at h
  | cons y L => simp at h; subst h; rfl
theorem plain_keep {w w5 : World} {base n sz b i : Nat} {e : TypeId} {v z : Value} {xs : List Value} (ho : w.ownsRow base e sz v n xs) (hg : w.grownBy w5 v.ownBlock) (hc : w.cell? ⟨b, i, none⟩ = some z) (hb : b < base) : w5.cell? ⟨b, i, none⟩ = some z := by
  exact (World.cell?_of_block (w := w) (a := ⟨b, i, none⟩) (hg.block b (World.block_lt_of_cell? w _ hc) (fun e => by have := own_base ho b e.symm; omega))).trans hc
set_option maxRecDepth 100000 in
set_option maxHeartbeats 8000000 in
theorem plain8_any (d : FontD) (a : FontA) (A : Option Addr) (c : Nat) (L : List Int) (w : World) {B : Nat} (hB : B ≤ w.heap.size) (hF : FontIn w B d a) (hL : ligB d = true) (hx : Row (Rep.int .i64) w B A L) (hl : L.length ≤ 1000) (hh : ∀ x ∈ L, hasB d x = true) :
    Calls Tryz.prog 50 #[fontV d a, .slice A L.length c] w fun e w' => ∃ Ag cg, e = .returned (.slice Ag (setG d L).length cg) ∧ GRow w.heap.size w' Ag (setG d L) ∧ Below w.heap.size w w' := by
  have hbx := Box.new w (fontCells d a) 26
  have hbw := below_alloc (Below.refl w.heap.size w) (.cells (fontCells d a) 26)
  obtain ⟨W1, hW⟩ : ∃ W1, w.alloc (.cells (fontCells d a) 26) = W1 := ⟨_, rfl⟩
  have hW1s : W1.heap.size = w.heap.size + 1 := by rw [← hW]; simp
  rw [hW] at hbx hbw
  obtain ⟨XS, hXS⟩ : ∃ XS, Hid (setG d L = XS) := ⟨_, Lib.hid rfl⟩
  rw [hXS.out]
  have HT := Lib.hid (lig_made hL).1
  have HL := Lib.hid hL
  have HH := Lib.hid hh
  have HXX := Lib.hid hx
  have HFF := Lib.hid hF
  have HBX := Lib.hid hbx
  have HBW := Lib.hid hbw
  clear hL hh hx hF
  by_cases h0 : L.length = 0
  · have HX : Hid (XS = []) := Lib.hid (by rw [← hXS.out, List.eq_nil_of_length_eq_zero h0]; rfl)
    rw [HX.out]
    have F0 : ((L.length : Int) == 0) = true := by simp [h0]
    clear h0
    go_enter Tryz.func50, Tryz.ntmps50
    go_wp2_with fail
    go_ret
    exact ⟨none, 0, rfl, fun i x hx => by simp at hx, HBW.out⟩
  · obtain ⟨x0, hx0⟩ := at_lt (l := L) (i := 0) (by omega)
    obtain ⟨b, o, rfl, hb0, hcc, hwc⟩ := int_at (HXX.out.mono (hbw.mono hB)) hx0
    have hcc' : W1.cell? ⟨b, o, none⟩ = some (.int .i64 x0) := by simpa using hcc
    have HS0 : Hid (XS = [] ++ setFrom d x0 (L.drop 1)) := Lib.hid (by rw [← hXS.out]; exact plain_first hx0)
    have HH0 := Lib.hid (HH.out x0 (List.mem_of_getElem? hx0))
    have F0 : ((L.length : Int) == 0) = false := by rw [beq_eq_false_iff_ne]; omega
    have hln : 1 ≤ L.length := by omega
    obtain ⟨g, hg⟩ : ∃ g, w.heap.size = g := ⟨_, rfl⟩
    have HG := Lib.hid hg
    rw [hg] at hbx hbw ⊢
    have HBg : Hid (Box W1 g (fontCells d a) 26) := Lib.hid hbx
    have HBwg : Hid (Below g w W1) := Lib.hid hbw
    clear h0 hcc hx0 hg hbx hbw
    go_enter Tryz.func50, Tryz.ntmps50
    go_upto_region 4 with fail
    rw [HG.out]
    clear hW
    go_wp2_with fail
    clear hcc' F0
    go_loopw [5, 6, 7] (fun v sv i wr => ∃ (k : Nat) (pre : List (Int × Int)) (cur : Int), 1 ≤ k ∧ k ≤ L.length ∧ i = .int .i64 (k : Int) ∧ sv = .int .i64 cur ∧ Hid (XS = pre ++ setFrom d cur (L.drop k)) ∧ Hid (hasB d cur = true) ∧ Hid (wr.ownsRow (g + 1) 54 2 v pre.length (pre.flatMap glyL)) ∧ Box wr g (fontCells d a) 26 ∧ Below w.heap.size w wr ∧ g + 1 ≤ wr.heap.size ∧ pre.length < k) (fun _ _ i _ => L.length - (intOf i).toNat)
    case atStart => exact ⟨1, [], x0, by omega, by omega, rfl, rfl, HS0, HH0, Lib.hid (own_nil _ _ _ _), HBg.out, HBW.out, by have := HG.out; omega, by simp⟩
    case round =>
      rename World => wr
      obtain ⟨k, pre, cur, hk1, hk, rfl, rfl, HSet, HCur, HO, hbr, hbwr, hsr, hpre⟩ := hrel
      by_cases hlt : k < L.length
      · obtain ⟨cd, hcd⟩ := at_lt hlt
        obtain ⟨b', o', hA', hb0', hcc, hwc'⟩ := int_at (HXX.out.mono (hbwr.mono hB)) hcd
        cases hA'
        have hcc' : wr.cell? ⟨b, o + k, none⟩ = some (.int .i64 cd) := hcc
        have HCD := Lib.hid hcd
        have HHc := Lib.hid (HH.out cd (List.mem_of_getElem? hcd))
        have HN := Lib.hid (plain_next HL.out hcd HHc.out (by rw [hXS.out]; exact HSet.out))
        obtain ⟨c0, c1, c2, c3, c4, c5, c6, c7, c8, c9, c10⟩ := font_cells hbr
        have HCe : Hid (wr.cell? ⟨b, o + k, none⟩ = some (.int .i64 cd)) := Lib.hid hcc'
        clear hcd hcc
        obtain ⟨i1, i2⟩ := has_wf HT.out HCur.out
        have hwcur : (Lit.int .i64 cur).wf = true := wf64 (by omega)
        obtain ⟨r, hr⟩ : ∃ r, Hid (ruleP d cur cd = r) := ⟨_, Lib.hid rfl⟩
        have HR : Hid (∀ W, Below wr.heap.size wr W → Calls Tryz.prog 71 #[fontV d a, .int .i64 cur, .int .i64 cd] W fun e W' => e = .returned (.tuple #[stepV (r.getD (0, 0, 0, 0)), .bool r.isSome]) ∧ Below W.heap.size W W') := Lib.hid (fun W hb => by
          have := rrule_any d a cur cd W (B := B) (by have := hb.size; have := hbwr.size; omega) ((HFF.out.mono (hbwr.mono hB)).mono (hb.mono (by have := hbwr.size; omega))) HL.out hwcur
          rw [hr.out] at this
          exact this)
        unfold fontV at HR
        have HKe : Hid (∀ w', Below wr.heap.size wr w' → Below wr.heap.size wr w' ∧ w'.cell? ⟨g, 0, none⟩ = some (.int .i64 d.sum) ∧ w'.cell? ⟨g, 1, none⟩ = some (.int .i64 d.design) ∧ w'.cell? ⟨g, 2, none⟩ = some (.int .i64 d.first) ∧ w'.cell? ⟨g, 3, none⟩ = some (.slice a.c d.chars.length a.cc) ∧ w'.cell? ⟨g, 4, none⟩ = some (.slice a.w d.widths.length a.cw) ∧ w'.cell? ⟨g, 5, none⟩ = some (.slice a.h d.heights.length a.ch) ∧ w'.cell? ⟨g, 6, none⟩ = some (.slice a.d d.depths.length a.cd) ∧ w'.cell? ⟨g, 7, none⟩ = some (.slice a.i d.italics.length a.ci) ∧ w'.cell? ⟨g, 8, none⟩ = some (.slice a.s d.steps.length a.cs) ∧ w'.cell? ⟨g, 9, none⟩ = some (.slice a.k d.kerns.length a.ck) ∧ w'.cell? ⟨g, 10, none⟩ = some (.slice a.p d.params.length a.cp) ∧ w'.cell? ⟨b, o + k, none⟩ = some (.int .i64 cd)) := Lib.hid fun w' hb => ⟨hb, later hb c0, later hb c1, later hb c2, later hb c3, later hb c4, later hb c5, later hb c6, later hb c7, later hb c8, later hb c9, later hb c10, later hb hcc'⟩
        clear c0 c1 c2 c3 c4 c5 c6 c7 c8 c9 c10 hcc' i1 i2 hwcur
        go_upto_region 8 with fail
        go_cut [8, 9] from 23 to 32 (fun v l wx => ∃ g6, v = .pointer (some ⟨g6, 0, none⟩) ∧ l = .bool r.isSome ∧ Box wx g6 (stepC (r.getD (0, 0, 0, 0))) 79 ∧ Below wr.heap.size wr wx)
        case first =>
          generalize hr0 : r.getD (0, 0, 0, 0) = s at *
          obtain ⟨sa, sb, sc, sd⟩ := s
          generalize hr1 : r.isSome = ri at *
          clear hr0 hr1 hr hbr
          go_region_held3 (fun w' => Below wr.heap.size wr w' ∧ w'.cell? ⟨g, 0, none⟩ = some (.int .i64 d.sum) ∧ w'.cell? ⟨g, 1, none⟩ = some (.int .i64 d.design) ∧ w'.cell? ⟨g, 2, none⟩ = some (.int .i64 d.first) ∧ w'.cell? ⟨g, 3, none⟩ = some (.slice a.c d.chars.length a.cc) ∧ w'.cell? ⟨g, 4, none⟩ = some (.slice a.w d.widths.length a.cw) ∧ w'.cell? ⟨g, 5, none⟩ = some (.slice a.h d.heights.length a.ch) ∧ w'.cell? ⟨g, 6, none⟩ = some (.slice a.d d.depths.length a.cd) ∧ w'.cell? ⟨g, 7, none⟩ = some (.slice a.i d.italics.length a.ci) ∧ w'.cell? ⟨g, 8, none⟩ = some (.slice a.s d.steps.length a.cs) ∧ w'.cell? ⟨g, 9, none⟩ = some (.slice a.k d.kerns.length a.ck) ∧ w'.cell? ⟨g, 10, none⟩ = some (.slice a.p d.params.length a.cp) ∧ w'.cell? ⟨b, o + k, none⟩ = some (.int .i64 cd))
            (first | exact HKe.out _ (by repeat (first | (with_reducible exact Below.refl _ _) | (with_reducible apply below_drew) | (with_reducible apply below_alloc) | (with_reducible refine below_set ?_ (by first | (simp; done) | exact (show Below wr.heap.size wr _ from by repeat (first | (with_reducible exact Below.refl _ _) | (with_reducible apply below_drew) | (with_reducible apply below_alloc) | (with_reducible refine below_join ?_ (by assumption)))).size) _) | (with_reducible refine below_join ?_ (by assumption)) | exact (‹Below wr.heap.size wr _ ∧ _›.1))))
            (first
              | (go_at_call 71; with_reducible refine (HR.out _ (by repeat (first | (with_reducible exact Below.refl _ _) | (with_reducible apply below_drew) | (with_reducible apply below_alloc) | (with_reducible refine below_set ?_ (by first | (simp; done) | exact (show Below wr.heap.size wr _ from by repeat (first | (with_reducible exact Below.refl _ _) | (with_reducible apply below_drew) | (with_reducible apply below_alloc) | (with_reducible refine below_join ?_ (by assumption)))).size) _) | (with_reducible refine below_join ?_ (by assumption)) | exact (‹Below wr.heap.size wr _ ∧ _›.1)))).mono ?_; rintro e wq ⟨rfl, hbq⟩; (first | (have B6 := (Box.new _ _ _).below hbq; have z0 := B6.cell 0 rfl; have z1 := B6.cell 1 rfl; have z2 := B6.cell 2 rfl; have z3 := B6.cell 3 rfl; have z4 := B6.free 0; have z5 := B6.free 1; have z6 := B6.free 2; have z7 := B6.free 3) | (have B6 := (Box.new _ _ _).drew.below hbq; have z0 := B6.cell 0 rfl; have z1 := B6.cell 1 rfl; have z2 := B6.cell 2 rfl; have z3 := B6.cell 3 rfl; have z4 := B6.free 0; have z5 := B6.free 1; have z6 := B6.free 2; have z7 := B6.free 3) | skip)))
          all_goals (go_wp2_with fail; go_meet)
          all_goals
            refine ⟨_, rfl, rfl, ?_, ?_⟩
            · first | (with_reducible exact box_set4 B6) | (with_reducible exact Box.new _ _ _) | (apply Box.drew; with_reducible exact Box.new _ _ _) | (apply Box.drew; with_reducible exact box_set4 B6)
            · first | exact (‹Below wr.heap.size wr _ ∧ _›).1
        case rest =>
          rename World => wx
          obtain ⟨g6, rfl, rfl, B6, hbx⟩ := hcut
          have HO3 := Lib.hid (own_setSize HO.out hbx)
          have hbrx := hbr.below hbx
          have hbwx := below_join hbwr hbx
          have hsx := hbx.size
          have hcx := later hbx HCe.out
          have b2 := B6.cell 2 rfl
          have b3 := B6.cell 3 rfl
          clear HKe HR HO hbr
          cases r with
          | none =>
            have HI2 : Hid (XS = (pre ++ [(cur, 0)]) ++ setFrom d cd (L.drop (k + 1))) := Lib.hid (by rw [← hXS.out]; exact HN.out.2.2 hr.out)
            have hba : Below w.heap.size w (wx.alloc (.cells #[.int .i64 cur, .int .i64 0] 54)) := below_alloc hbwx _
            have hbfa := hbrx.alloc (.cells #[.int .i64 cur, .int .i64 0] 54)
            have HOa := Lib.hid (own_setSize HO3.out (below_alloc (Below.refl _ _) (.cells #[.int .i64 cur, .int .i64 0] 54)))
            have HCx := Lib.hid hcx
            clear hbwx hbwr hbrx b2 b3 HN B6 hbx
            go_upto_region 14 with fail
            go_wp2_with (at_builtin
                         go_must (refine wpList_append_seen rfl (.tmp 53) (.tmp 57) _ rfl (g + 1) 54 _ 2 16 Tryz.underlying55 info_gl rfl (by decide) _ pre.length _ rfl HOa.out (some ⟨wx.heap.size, 0, none⟩) 1 1 (glyL (cur, 0)) rfl rfl (sees_new _ _ _) (by simp [Value.oneCell']) (by omega) (by omega) (by simp; omega) (by simp) ?_)
                         intro v5 w5 hown5 hg5 ha5
                         have HO5 := Lib.hid hown5
                         have HG5 := Lib.hid hg5
                         have hcx5 : w5.cell? ⟨b, o + k, none⟩ = some (.int .i64 cd) := plain_keep HOa.out hg5 (later (below_alloc (Below.refl _ _) _) HCx.out) (by have := HG.out; omega)
                         clear hown5 hg5 ha5)
            go_roundw
            case rel =>
              obtain ⟨i1, i2, i3⟩ := app_keep HOa.out HG5.out hbfa hba HG.out (by simp; omega)
              refine ⟨k + 1, _, cd, by omega, by omega, by go_num, rfl, HI2, HHc, Lib.hid ?_, i1, i2, i3, by simp; omega⟩
              have ho := HO5.out
              rw [← gly_snoc] at ho
              rw [show List.length (pre ++ [(cur, (0 : Int))]) = pre.length + 1 by simp]
              exact ho
            case measure => simp [intOf]; omega
          | some s =>
            obtain ⟨sa, sb, sc, sd⟩ := s
            have HRO := Lib.hid (rule_ok HL.out hr.out)
            have b2' : wx.cell? ⟨g6, 2, none⟩ = some (.int .i64 sc) := b2
            have b3' : wx.cell? ⟨g6, 3, none⟩ = some (.int .i64 sd) := b3
            clear b2 b3
            by_cases h0 : sc = 0
            · have HI2 := Lib.hid (HN.out.1 _ hr.out h0)
              subst h0
              clear HN hbx
              go_wp2_with fail
              go_roundw
              case rel => exact ⟨k + 1, pre, sd, by omega, by omega, by go_num, rfl, Lib.hid (by rw [← hXS.out]; exact HI2.out.1), Lib.hid HI2.out.2, HO3, hbrx, hbwx, by omega, by omega⟩
              case measure => simp [intOf]; omega
            · have HI2 := Lib.hid (HN.out.2.1 _ hr.out h0)
              obtain ⟨k1, k2⟩ := HRO.out.2.1 h0
              obtain ⟨kk1, kk2, kk3, kk4⟩ := HRO.out.2.2
              dsimp only [kernAt] at k1 k2
              dsimp only at kk3 kk4
              have F2 : (sc == 0) = false := by simpa using h0
              obtain ⟨kv, hkv⟩ := at_lt (l := d.kerns) (i := (256 * (sc - 128) + sd).toNat) (by omega)
              have HKV : Hid (d.kerns.getD (kernAt (sa, sb, sc, sd)).toNat 0 = kv) := Lib.hid (by rw [List.getD_eq_getElem?_getD]; show (d.kerns[(256 * (sc - 128) + sd).toNat]?).getD 0 = kv; rw [hkv]; rfl)
              obtain ⟨bk, ok, hak, hbk, hck, _⟩ := int_at (HFF.out.kerns.mono (hbwx.mono hB)) hkv
              have c9 := (font_cells hbrx).2.2.2.2.2.2.2.2.2.1
              rw [hak] at c9
              rw [HKV.out] at HI2
              have HI3 : Hid (XS = (pre ++ [(cur, kv)]) ++ setFrom d cd (L.drop (k + 1))) := Lib.hid (by rw [← hXS.out]; exact HI2.out)
              have hba : Below w.heap.size w (wx.alloc (.cells #[.int .i64 cur, .int .i64 kv] 54)) := below_alloc hbwx _
              have hbfa := hbrx.alloc (.cells #[.int .i64 cur, .int .i64 kv] 54)
              have HOa := Lib.hid (own_setSize HO3.out (below_alloc (Below.refl _ _) (.cells #[.int .i64 cur, .int .i64 kv] 54)))
              have HCx := Lib.hid hcx
              clear hbwx hbwr hbrx HN B6 hbx h0 hak hkv HI2 HKV HRO
              go_upto_region 14 with fail
              go_wp2_with (at_builtin
                           go_must (refine wpList_append_seen rfl (.tmp 53) (.tmp 57) _ rfl (g + 1) 54 _ 2 16 Tryz.underlying55 info_gl rfl (by decide) _ pre.length _ rfl HOa.out (some ⟨wx.heap.size, 0, none⟩) 1 1 (glyL (cur, kv)) rfl rfl (sees_new _ _ _) (by simp [Value.oneCell']) (by omega) (by omega) (by simp; omega) (by simp) ?_)
                           intro v5 w5 hown5 hg5 ha5
                           have HO5 := Lib.hid hown5
                           have HG5 := Lib.hid hg5
                           have hcx5 : w5.cell? ⟨b, o + k, none⟩ = some (.int .i64 cd) := plain_keep HOa.out hg5 (later (below_alloc (Below.refl _ _) _) HCx.out) (by have := HG.out; omega)
                           clear hown5 hg5 ha5)
              go_roundw
              case rel =>
                obtain ⟨i1, i2, i3⟩ := app_keep HOa.out HG5.out hbfa hba HG.out (by simp; omega)
                refine ⟨k + 1, _, cd, by omega, by omega, by go_num, rfl, HI3, HHc, Lib.hid ?_, i1, i2, i3, by simp; omega⟩
                have ho := HO5.out
                rw [← gly_snoc] at ho
                rw [show List.length (pre ++ [(cur, kv)]) = pre.length + 1 by simp]
                exact ho
              case measure => simp [intOf]; omega
      · have HXe : Hid (XS = pre ++ [(cur, 0)]) := Lib.hid (by rw [HSet.out, List.drop_eq_nil_of_le (by omega)]; rfl)
        have hba : Below w.heap.size w (wr.alloc (.cells #[.int .i64 cur, .int .i64 0] 54)) := below_alloc hbwr _
        have hbfa := hbr.alloc (.cells #[.int .i64 cur, .int .i64 0] 54)
        have HOa := Lib.hid (own_setSize HO.out (below_alloc (Below.refl _ _) (.cells #[.int .i64 cur, .int .i64 0] 54)))
        have HBA := Lib.hid hba
        have HBF := Lib.hid hbfa
        clear hbwr hbr hba hbfa HO
        go_wp2_with (at_builtin
                     go_must (refine wpList_append_seen rfl (.tmp 63) (.tmp 66) _ rfl (g + 1) 54 _ 2 16 Tryz.underlying55 info_gl rfl (by decide) _ pre.length _ rfl HOa.out (some ⟨wr.heap.size, 0, none⟩) 1 1 (glyL (cur, 0)) rfl rfl (sees_new _ _ _) (by simp [Value.oneCell']) (by omega) (by omega) (by simp; omega) (by simp) ?_)
                     intro v5 w5 hown5 hg5 ha5
                     have HO5 := Lib.hid hown5
                     have HG5 := Lib.hid hg5
                     clear hown5 hg5 ha5)
        obtain ⟨i1, i2, i3⟩ := app_keep HOa.out HG5.out HBF.out HBA.out HG.out (by simp; omega)
        have ho := HO5.out
        rw [← gly_snoc] at ho
        obtain ⟨Ag, cg, rfl, hn, hgr⟩ := gly_own ho
        have HGr := Lib.hid hgr
        clear hn hgr ho
        go_ret
        rw [HXe.out]
        refine ⟨Ag, cg, rfl, fun i x hx => ?_, by have h := i2; rw [HG.out] at h; exact h⟩
        obtain ⟨b, o, h1, h2, h3, h4⟩ := HGr.out i x hx
        exact ⟨b, o, h1, by have := HG.out; omega, h3, h4⟩
end Go.Proofs.YtndpdbofoojkhaaGreat.Ft
