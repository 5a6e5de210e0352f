/- joined for a claim: RTfm1, RTfm2, RTfm3 -/
import Derived.Test.YtndpdbofoojkhaaGreatFont6b
/- The reference's fonts: places, and tables of fixes. -/
namespace Go.Proofs.YtndpdbofoojkhaaGreat.RFo
open Go.RowKit Go.Proofs.YtndpdbofoojkhaaGreat.Kit Go.Proofs.YtndpdbofoojkhaaGreat.Fo
set_option linter.unusedVariables false
set_option linter.unusedSimpArgs false

theorem in_any (n m : Int) (w : World) :
    Calls Tryz.prog 66 #[.int .i64 n, .int .i64 m] w fun e w' => e = .returned (.bool (ofB n m)) ∧ w = w' := by
  unfold ofB
  by_cases h : 0 ≤ n
  · go_enter Tryz.func66, Tryz.ntmps66
    go_wp2
    go_ret
    exact ⟨ret_bool rfl (by simp [h]), rfl⟩
  · go_enter Tryz.func66, Tryz.ntmps66
    go_wp2
    go_ret
    exact ⟨ret_bool rfl (by simp; omega), rfl⟩

set_option maxHeartbeats 1000000 in
theorem fixes_any (A : Option Addr) (c : Nat) (l : List Int) (least most : Int) (nought : Bool) (h0 : 0 ≤ least) (hno : nought = !decide (least = 0)) (w : World) {B : Nat} (hB : B ≤ w.heap.size) (hx : Row (Rep.int .i64) w B A l) (hl : l.length ≤ 9223372036854775807) :
    Calls Tryz.prog 67 #[.slice A l.length c, .int .i64 least, .int .i64 most, .bool nought] w fun e w' => e = .returned (.bool (tableB l least most)) ∧ Below w.heap.size w w' := by
  obtain ⟨res, hres⟩ : ∃ r, Hid (tableB l least most = r) := ⟨_, Lib.hid rfl⟩
  rw [hres.out]
  have HE : Hid _ := Lib.hid hres.out
  clear hres
  unfold tableB at HE
  have HX := Lib.hid hx
  by_cases h1 : least ≤ l.length
  · have F1 : ((l.length : Int) < least) = False := eq_false (by omega)
    by_cases h2 : (l.length : Int) ≤ most
    · have F2 : ((l.length : Int) > most) = False := eq_false (by omega)
      by_cases h3 : least = 0
      · subst h3
        have HR : Hid ((!(l.any fun n => !fixB n)) = res) := Lib.hid (by rw [← HE.out]; simp [h2])
        subst hno
        clear HE h1 h2 hx
        go_enter Tryz.func67, Tryz.ntmps67
        go_wp2_with fail
        go_loop [9] (fun i => ∃ k : Nat, k ≤ l.length ∧ i = .int .i64 k ∧ Hid ((l.any fun n => !fixB n) = ((l.drop k).any fun n => !fixB n))) (fun i => l.length - (intOf i).toNat)
        case atStart => exact ⟨0, by omega, rfl, Lib.hid (by simp)⟩
        case round =>
          obtain ⟨k, hk, rfl, HS⟩ := hrel
          by_cases hlt : k < l.length
          · obtain ⟨y, hy⟩ := at_lt hlt
            obtain ⟨b', o', hA, hb', hcy, _⟩ := int_at HX.out hy
            subst hA
            have HD := Lib.hid (drop_cons hy)
            clear hy
            by_cases g1 : y < -16777216
            · have HQ : Hid (false = res) := Lib.hid (by rw [← HR.out, HS.out, HD.out]; simp [fixB]; omega)
              clear HR HS HD
              go_wp2_with fail
              go_ret
              exact ⟨ret_bool rfl HQ.out, Below.refl _ _⟩
            · by_cases g2 : y > 16777215
              · have HQ : Hid (false = res) := Lib.hid (by rw [← HR.out, HS.out, HD.out]; simp [fixB]; omega)
                clear HR HS HD
                go_wp2_with fail
                go_ret
                exact ⟨ret_bool rfl HQ.out, Below.refl _ _⟩
              · have HN : Hid ((l.any fun n => !fixB n) = ((l.drop (k + 1)).any fun n => !fixB n)) := Lib.hid (by rw [HS.out, HD.out]; simp [fixB]; omega)
                clear HS HD
                go_wp2_with fail
                go_round
                case rel => exact ⟨k + 1, by omega, by go_num, HN⟩
                case measure => simp [intOf]; omega
          · have HQ : Hid (true = res) := Lib.hid (by rw [← HR.out, HS.out, List.drop_eq_nil_of_le (by omega)]; rfl)
            clear HR HS
            go_wp2_with fail
            go_ret
            exact ⟨ret_bool rfl HQ.out, Below.refl _ _⟩
      · have hn : nought = true := by rw [hno]; simp [h3]
        subst hn
        obtain ⟨x, hx0⟩ := at_lt (l := l) (i := 0) (by omega)
        obtain ⟨b, o, rfl, hbb, hc, _⟩ := int_at hx hx0
        have hc : w.cell? ⟨b, o, none⟩ = some (.int .i64 x) := hc
        have F3 : ((l.length : Int) == 0) = false := by simp only [beq_eq_false_iff_ne]; omega
        by_cases h4 : x = 0
        · have HR : Hid ((!(l.any fun n => !fixB n)) = res) := Lib.hid (by rw [← HE.out]; simp [h1, h2, List.getD_eq_getElem?_getD, hx0, h4])
          subst h4
          have h5 : 0 < l.length := by omega
          clear HE h1 h2 h3 hx hx0 hno
          go_enter Tryz.func67, Tryz.ntmps67
          go_wp2_with fail
          go_loop [9] (fun i => ∃ k : Nat, k ≤ l.length ∧ i = .int .i64 k ∧ Hid ((l.any fun n => !fixB n) = ((l.drop k).any fun n => !fixB n))) (fun i => l.length - (intOf i).toNat)
          case atStart => exact ⟨0, by omega, rfl, Lib.hid (by simp)⟩
          case round =>
            obtain ⟨k, hk, rfl, HS⟩ := hrel
            by_cases hlt : k < l.length
            · obtain ⟨y, hy⟩ := at_lt hlt
              obtain ⟨b', o', hA, hb', hcy, _⟩ := int_at HX.out hy
              cases hA
              have HD := Lib.hid (drop_cons hy)
              clear hy
              by_cases g1 : y < -16777216
              · have HQ : Hid (false = res) := Lib.hid (by rw [← HR.out, HS.out, HD.out]; simp [fixB]; omega)
                clear HR HS HD
                go_wp2_with fail
                go_ret
                exact ⟨ret_bool rfl HQ.out, Below.refl _ _⟩
              · by_cases g2 : y > 16777215
                · have HQ : Hid (false = res) := Lib.hid (by rw [← HR.out, HS.out, HD.out]; simp [fixB]; omega)
                  clear HR HS HD
                  go_wp2_with fail
                  go_ret
                  exact ⟨ret_bool rfl HQ.out, Below.refl _ _⟩
                · have HN : Hid ((l.any fun n => !fixB n) = ((l.drop (k + 1)).any fun n => !fixB n)) := Lib.hid (by rw [HS.out, HD.out]; simp [fixB]; omega)
                  clear HS HD
                  go_wp2_with fail
                  go_round
                  case rel => exact ⟨k + 1, by omega, by go_num, HN⟩
                  case measure => simp [intOf]; omega
            · have HQ : Hid (true = res) := Lib.hid (by rw [← HR.out, HS.out, List.drop_eq_nil_of_le (by omega)]; rfl)
              clear HR HS
              go_wp2_with fail
              go_ret
              exact ⟨ret_bool rfl HQ.out, Below.refl _ _⟩
        · have HR : Hid (false = res) := Lib.hid (by rw [← HE.out]; simp [h3, List.getD_eq_getElem?_getD, hx0, h4])
          have F4 : (x != 0) = true := by simpa using h4
          have h5 : 0 < l.length := by omega
          clear HE h1 h2 h3 hx hx0 hno h4 HX
          go_enter Tryz.func67, Tryz.ntmps67
          go_wp2_with fail
          go_ret
          exact ⟨ret_bool rfl HR.out, Below.refl _ _⟩
    · have F2 : ((l.length : Int) > most) = True := eq_true (by omega)
      have HR : Hid (false = res) := Lib.hid (by rw [← HE.out]; simp [h2])
      clear HE h1 h2 hx HX hno
      go_enter Tryz.func67, Tryz.ntmps67
      go_wp2_with fail
      go_ret
      exact ⟨ret_bool rfl HR.out, Below.refl _ _⟩
  · have F1 : ((l.length : Int) < least) = True := eq_true (by omega)
    have HR : Hid (false = res) := Lib.hid (by rw [← HE.out]; simp [h1])
    clear HE h1 hx HX hno
    go_enter Tryz.func67, Tryz.ntmps67
    go_wp2_with fail
    go_ret
    exact ⟨ret_bool rfl HR.out, Below.refl _ _⟩
end Go.Proofs.YtndpdbofoojkhaaGreat.RFo
/- The reference's check of a font. -/
namespace Go.Proofs.YtndpdbofoojkhaaGreat.RFo
open Go.RowKit Go.Proofs.YtndpdbofoojkhaaGreat.Kit Go.Proofs.YtndpdbofoojkhaaGreat.Fo
set_option linter.unusedVariables false
set_option linter.unusedSimpArgs false

set_option maxRecDepth 10000 in
set_option maxHeartbeats 2000000 in
theorem rcheck_any (d : FontD) (a : FontA) (w : World) {B : Nat} (hB : B ≤ w.heap.size) (hF : FontIn w B d a) :
    Calls Tryz.prog 40 #[fontV d a] w fun e w' => e = .returned (.bool (tfmB d)) ∧ Below w.heap.size w w' := by
  have T1 : Hid (∀ W, Below w.heap.size w W → _) := Lib.hid fun W hb => fixes_any a.w a.cw d.widths 1 256 true (by decide) (by decide) W (lt_of_below hB hb) (hF.widths.mono (hb.mono hB)) hF.nw
  have T2 : Hid (∀ W, Below w.heap.size w W → _) := Lib.hid fun W hb => fixes_any a.h a.ch d.heights 1 16 true (by decide) (by decide) W (lt_of_below hB hb) (hF.heights.mono (hb.mono hB)) hF.nh
  have T3 : Hid (∀ W, Below w.heap.size w W → _) := Lib.hid fun W hb => fixes_any a.d a.cd d.depths 1 16 true (by decide) (by decide) W (lt_of_below hB hb) (hF.depths.mono (hb.mono hB)) hF.nd
  have T4 : Hid (∀ W, Below w.heap.size w W → _) := Lib.hid fun W hb => fixes_any a.i a.ci d.italics 1 64 true (by decide) (by decide) W (lt_of_below hB hb) (hF.italics.mono (hb.mono hB)) hF.ni
  have T5 : Hid (∀ W, Below w.heap.size w W → _) := Lib.hid fun W hb => fixes_any a.k a.ck d.kerns 0 256 false (by decide) (by decide) W (lt_of_below hB hb) (hF.kerns.mono (hb.mono hB)) hF.nk
  have T6 : Hid (∀ W, Below w.heap.size w W → _) := Lib.hid fun W hb => fixes_any a.p a.cp d.params 0 30 false (by decide) (by decide) W (lt_of_below hB hb) (hF.params.mono (hb.mono hB)) hF.np
  have O1 : Hid (∀ w, _) := Lib.hid (in_any d.sum 4294967296)
  have O2 : Hid (∀ w, _) := Lib.hid (in_any d.first 256)
  have HR : Hid (-9223372036854775808 ≤ d.first ∧ d.first ≤ 9223372036854775807) := Lib.hid (i64_of hF.first)
  have HFn : Hid (∀ W, Below w.heap.size w W → FontIn W B d a) := Lib.hid fun W hb => hF.mono (hb.mono hB)
  have HN := Lib.hid hF.nc
  have HNs := Lib.hid hF.ns
  clear hF
  obtain ⟨res, hres⟩ : ∃ r, Hid (tfmB d = r) := ⟨_, Lib.hid rfl⟩
  have HE : Hid _ := Lib.hid hres.out
  rw [hres.out]
  unfold tfmB headB manyB at HE
  clear hres
  have HFI : Hid (ofB d.first 256 = true → 0 ≤ d.first ∧ d.first < 256) := Lib.hid (by unfold ofB; simp)
  generalize tableB d.widths 1 256 = p1 at *
  generalize tableB d.heights 1 16 = p2 at *
  generalize tableB d.depths 1 16 = p3 at *
  generalize tableB d.italics 1 64 = p4 at *
  generalize tableB d.kerns 0 256 = p5 at *
  generalize tableB d.params 0 30 = p6 at *
  have HE7 : Hid ((d.chars.any fun c => !charB d c) = (d.chars.any fun c => !charB d c)) := Lib.hid rfl
  have HE8 : Hid ((d.steps.any fun s => !stepB s) = (d.steps.any fun s => !stepB s)) := Lib.hid rfl
  obtain ⟨p7, hp7⟩ : ∃ p, Hid ((d.chars.any fun c => !charB d c) = p) := ⟨_, Lib.hid rfl⟩
  obtain ⟨p8, hp8⟩ : ∃ p, Hid ((d.steps.any fun s => !stepB s) = p) := ⟨_, Lib.hid rfl⟩
  rw [hp7.out, hp8.out] at HE
  clear HE7 HE8
  generalize ofB d.sum 4294967296 = q1 at *
  generalize ofB d.first 256 = q2 at *
  go_enter Tryz.func40, Tryz.ntmps40
  go_wp2_with fail
  have hbx := Box.new w (fontCells d a) 26
  have hbw := (Below.refl w.heap.size w).alloc (Nat.le_refl _) (.cells (fontCells d a) 26)
  obtain ⟨W1, hW⟩ : ∃ W1, w.alloc (.cells #[.int .i64 d.sum, .int .i64 d.design, .int .i64 d.first, .slice a.c d.chars.length a.cc, .slice a.w d.widths.length a.cw, .slice a.h d.heights.length a.ch, .slice a.d d.depths.length a.cd, .slice a.i d.italics.length a.ci, .slice a.s d.steps.length a.cs, .slice a.k d.kerns.length a.ck, .slice a.p d.params.length a.cp] 26) = W1 := ⟨_, rfl⟩
  rw [show w.alloc (.cells (fontCells d a) 26) = W1 from hW] at hbx hbw
  rw [hW]
  clear hW
  obtain ⟨g, hg⟩ : ∃ g, w.heap.size = g := ⟨_, rfl⟩
  rw [hg] at hbx ⊢
  obtain ⟨c0, c1, c2, c3, c4, c5, c6, c7, c8, c9, c10⟩ := font_cells hbx
  have HB : Hid (Below w.heap.size w W1) := Lib.hid hbw
  clear hg hbw
  cases q1 with
  | false =>
    go_wp2_with (go_at_call 66; (first | with_reducible refine (O1.out _).mono ?_ | with_reducible refine (O2.out _).mono ?_); rintro e w1 ⟨rfl, rfl⟩)
    go_ret
    exact ⟨ret_bool rfl (by first | (rw [← HE.out]; simp; done) | (rw [← HE.out]; simp; intros; omega)), HB.out⟩
  | true =>
    by_cases h1 : d.design < 1048576
    · skip
      go_wp2_with (go_at_call 66; (first | with_reducible refine (O1.out _).mono ?_ | with_reducible refine (O2.out _).mono ?_); rintro e w1 ⟨rfl, rfl⟩)
      go_ret
      exact ⟨ret_bool rfl (by first | (rw [← HE.out]; simp; done) | (rw [← HE.out]; simp; intros; omega)), HB.out⟩
    by_cases h2 : d.design > 2147483647
    · skip
      go_wp2_with (go_at_call 66; (first | with_reducible refine (O1.out _).mono ?_ | with_reducible refine (O2.out _).mono ?_); rintro e w1 ⟨rfl, rfl⟩)
      go_ret
      exact ⟨ret_bool rfl (by first | (rw [← HE.out]; simp; done) | (rw [← HE.out]; simp; intros; omega)), HB.out⟩
    cases q2 with
    | false =>
      go_wp2_with (go_at_call 66; (first | with_reducible refine (O1.out _).mono ?_ | with_reducible refine (O2.out _).mono ?_); rintro e w1 ⟨rfl, rfl⟩)
      go_ret
      exact ⟨ret_bool rfl (by first | (rw [← HE.out]; simp; done) | (rw [← HE.out]; simp; intros; omega)), HB.out⟩
    | true =>
      obtain ⟨f1, f2⟩ := HFI.out rfl
      have Z0 : Hid (256 - d.first = 256 - d.first) := Lib.hid rfl
      by_cases h3 : d.chars.length < 1
      · skip
        go_wp2_with (go_at_call 66; (first | with_reducible refine (O1.out _).mono ?_ | with_reducible refine (O2.out _).mono ?_); rintro e w1 ⟨rfl, rfl⟩)
        go_ret
        exact ⟨ret_bool rfl (by first | (rw [← HE.out]; simp; done) | (rw [← HE.out]; simp; intros; omega)), HB.out⟩
      by_cases h4 : (d.chars.length : Int) > 256 - d.first
      · skip
        go_wp2_with (go_at_call 66; (first | with_reducible refine (O1.out _).mono ?_ | with_reducible refine (O2.out _).mono ?_); rintro e w1 ⟨rfl, rfl⟩)
        go_ret
        exact ⟨ret_bool rfl (by first | (rw [← HE.out]; simp; done) | (rw [← HE.out]; simp; intros; omega)), HB.out⟩
      by_cases h5 : d.steps.length > 256
      · skip
        go_wp2_with (go_at_call 66; (first | with_reducible refine (O1.out _).mono ?_ | with_reducible refine (O2.out _).mono ?_); rintro e w1 ⟨rfl, rfl⟩)
        go_ret
        exact ⟨ret_bool rfl (by first | (rw [← HE.out]; simp; done) | (rw [← HE.out]; simp; intros; omega)), HB.out⟩
      have G1 : Hid (1 ≤ d.chars.length ∧ (d.chars.length : Int) ≤ 256 - d.first ∧ d.steps.length ≤ 256) := Lib.hid (by omega)
      have HR1 : Hid (((p1 && p2 && p3 && p4) && (p5 && p6) && !p7 && !p8) = res) := Lib.hid (by rw [← HE.out]; simp [show 1048576 ≤ d.design by omega, show d.design < 2147483648 by omega, show 1 ≤ d.chars.length by omega, show (d.chars.length : Int) ≤ 256 - d.first by omega, show d.steps.length ≤ 256 by omega])
      clear HE
      go_wp2_with (go_at_call 66; (first | with_reducible refine (O1.out _).mono ?_ | with_reducible refine (O2.out _).mono ?_); rintro e w1 ⟨rfl, rfl⟩)
      clear O1 O2
      have HT := T1.out _ (HB.out)
      with_reducible refine HT.mono ?_; rintro e v1 ⟨rfl, hb⟩; clear HT T1
      replace HB : Hid (Below w.heap.size w v1) := Lib.hid (below_join HB.out hb)
      replace hbx := hbx.below hb
      clear hb c0 c1 c2 c3 c4 c5 c6 c7 c8 c9 c10
      obtain ⟨c0, c1, c2, c3, c4, c5, c6, c7, c8, c9, c10⟩ := font_cells hbx
      go_wp2_with fail
      have HT := T2.out _ (HB.out)
      with_reducible refine HT.mono ?_; rintro e v2 ⟨rfl, hb⟩; clear HT T2
      replace HB : Hid (Below w.heap.size w v2) := Lib.hid (below_join HB.out hb)
      replace hbx := hbx.below hb
      clear hb c0 c1 c2 c3 c4 c5 c6 c7 c8 c9 c10
      obtain ⟨c0, c1, c2, c3, c4, c5, c6, c7, c8, c9, c10⟩ := font_cells hbx
      go_wp2_with fail
      have HT := T3.out _ (HB.out)
      with_reducible refine HT.mono ?_; rintro e v3 ⟨rfl, hb⟩; clear HT T3
      replace HB : Hid (Below w.heap.size w v3) := Lib.hid (below_join HB.out hb)
      replace hbx := hbx.below hb
      clear hb c0 c1 c2 c3 c4 c5 c6 c7 c8 c9 c10
      obtain ⟨c0, c1, c2, c3, c4, c5, c6, c7, c8, c9, c10⟩ := font_cells hbx
      go_wp2_with fail
      have HT := T4.out _ (HB.out)
      with_reducible refine HT.mono ?_; rintro e v4 ⟨rfl, hb⟩; clear HT T4
      replace HB : Hid (Below w.heap.size w v4) := Lib.hid (below_join HB.out hb)
      replace hbx := hbx.below hb
      clear hb c0 c1 c2 c3 c4 c5 c6 c7 c8 c9 c10
      obtain ⟨c0, c1, c2, c3, c4, c5, c6, c7, c8, c9, c10⟩ := font_cells hbx
      go_wp2_with fail
      have HT := T5.out _ (HB.out)
      with_reducible refine HT.mono ?_; rintro e v5 ⟨rfl, hb⟩; clear HT T5
      replace HB : Hid (Below w.heap.size w v5) := Lib.hid (below_join HB.out hb)
      replace hbx := hbx.below hb
      clear hb c0 c1 c2 c3 c4 c5 c6 c7 c8 c9 c10
      obtain ⟨c0, c1, c2, c3, c4, c5, c6, c7, c8, c9, c10⟩ := font_cells hbx
      go_wp2_with fail
      have HT := T6.out _ (HB.out)
      with_reducible refine HT.mono ?_; rintro e v6 ⟨rfl, hb⟩; clear HT T6
      replace HB : Hid (Below w.heap.size w v6) := Lib.hid (below_join HB.out hb)
      replace hbx := hbx.below hb
      clear hb c0 c1 c2 c3 c4 c5 c6 c7 c8 c9 c10
      obtain ⟨c0, c1, c2, c3, c4, c5, c6, c7, c8, c9, c10⟩ := font_cells hbx
      go_upto_region 9 with fail
      cases p1 with
      | false =>
        go_wp2_with fail
        go_ret
        exact ⟨ret_bool rfl (by rw [← HR1.out]; rfl), HB.out⟩
      | true =>
        cases p2 with
        | false =>
          go_wp2_with fail
          go_ret
          exact ⟨ret_bool rfl (by rw [← HR1.out]; rfl), HB.out⟩
        | true =>
          cases p3 with
          | false =>
            go_wp2_with fail
            go_ret
            exact ⟨ret_bool rfl (by rw [← HR1.out]; rfl), HB.out⟩
          | true =>
            cases p4 with
            | false =>
              go_wp2_with fail
              go_ret
              exact ⟨ret_bool rfl (by rw [← HR1.out]; rfl), HB.out⟩
            | true =>
              cases p5 with
              | false =>
                go_wp2_with fail
                go_ret
                exact ⟨ret_bool rfl (by rw [← HR1.out]; rfl), HB.out⟩
              | true =>
                cases p6 with
                | false =>
                  go_wp2_with fail
                  go_ret
                  exact ⟨ret_bool rfl (by rw [← HR1.out]; rfl), HB.out⟩
                | true =>
                  have HR : Hid ((!p7 && !p8) = res) := Lib.hid (by rw [← HR1.out]; simp)
                  clear HR1
                  go_wp2_with fail
                  obtain ⟨W, hW⟩ : ∃ W : World, W = v6 := ⟨_, rfl⟩
                  subst hW
                  have HK : Hid (∀ wr, Below W.heap.size W wr → Box wr g (fontCells d a) 26) := Lib.hid fun wr hb => hbx.below hb
                  clear hbx c0 c1 c2 c3 c4 c5 c6 c7 c8 c9 c10
                  go_loopw [9] (fun i wr => ∃ k : Nat, k ≤ d.chars.length ∧ i = .int .i64 k ∧ Hid (p7 = (d.chars.drop k).any fun c => !charB d c) ∧ Below W.heap.size W wr) (fun i _ => d.chars.length - (intOf i).toNat)
                  case atStart => exact ⟨0, by omega, rfl, Lib.hid (by rw [List.drop_zero]; exact hp7.out.symm), Below.refl _ _⟩
                  case round =>
                    obtain ⟨k, hk, rfl, HS, HL⟩ := hrel
                    rename World => wr
                    have hbr := HK.out wr HL
                    have HBr : Hid (Below w.heap.size w wr) := Lib.hid (below_join HB.out HL)
                    obtain ⟨c0, c1, c2, c3, c4, c5, c6, c7, c8, c9, c10⟩ := font_cells hbr
                    by_cases hlt : k < d.chars.length
                    · obtain ⟨c, hc⟩ := at_lt hlt
                      have HD := Lib.hid (drop_cons hc)
                      obtain ⟨b, o, hA, hb, ⟨x0, x1, x2, x3, x4, x5⟩, _⟩ := char_at (HFn.out wr HBr.out).chars hc
                      clear hc
                      obtain ⟨n0, n1, n2, n3, n4, n5⟩ := c
                      dsimp only at x0 x1 x2 x3 x4 x5
                      rw [hA] at c3
                      have O0 : Hid (∀ w, _) := Lib.hid (in_any n5 d.steps.length)
                      have O1 : Hid (∀ w, _) := Lib.hid (in_any n0 d.widths.length)
                      have O2 : Hid (∀ w, _) := Lib.hid (in_any n1 d.heights.length)
                      have O3 : Hid (∀ w, _) := Lib.hid (in_any n2 d.depths.length)
                      have O4 : Hid (∀ w, _) := Lib.hid (in_any n3 d.italics.length)
                      obtain ⟨bad, hbad⟩ : ∃ r, Hid (charB d (n0, n1, n2, n3, n4, n5) = r) := ⟨_, Lib.hid rfl⟩
                      have HC : Hid _ := Lib.hid hbad.out
                      unfold charB tagB at HC
                      dsimp only at HC
                      have HS1 : Hid (p7 = (!bad || (d.chars.drop (k + 1)).any fun c => !charB d c)) := Lib.hid (by rw [HS.out, HD.out, List.any_cons, hbad.out])
                      clear hbad HS HD
                      generalize ofB n5 d.steps.length = q0 at *
                      generalize ofB n0 d.widths.length = q1 at *
                      generalize ofB n1 d.heights.length = q2 at *
                      generalize ofB n2 d.depths.length = q3 at *
                      generalize ofB n3 d.italics.length = q4 at *
                      have T : ((n4 == 0) = true ∧ (n5 == 0) = true) ∨ ((n4 == 0) = true ∧ (n5 == 0) = false ∧ (n4 == 1) = false) ∨ ((n4 == 0) = false ∧ (n4 == 1) = true) ∨ ((n4 == 0) = false ∧ (n4 == 1) = false) := by
                        simp only [beq_iff_eq, beq_eq_false_iff_ne]; omega
                      go_upto_region 15 with fail
                      obtain ⟨wb, hwb⟩ : ∃ wb, wr.alloc (.cells #[.int .i64 n0, .int .i64 n1, .int .i64 n2, .int .i64 n3, .int .i64 n4, .int .i64 n5] 81) = wb := ⟨_, rfl⟩
                      rw [hwb]
                      have hbn := Box.new wr #[.int .i64 n0, .int .i64 n1, .int .i64 n2, .int .i64 n3, .int .i64 n4, .int .i64 n5] 81
                      have hbo := hbr.alloc (.cells #[.int .i64 n0, .int .i64 n1, .int .i64 n2, .int .i64 n3, .int .i64 n4, .int .i64 n5] 81)
                      replace HBr : Hid (Below w.heap.size w wb) := Lib.hid (hwb ▸ below_alloc HBr.out _)
                      replace HL : Hid (Below W.heap.size W wb) := Lib.hid (hwb ▸ below_alloc HL _)
                      rw [hwb] at hbn hbo
                      obtain ⟨gn, hgn⟩ : ∃ gn, wr.heap.size = gn := ⟨_, rfl⟩
                      rw [hgn] at hbn ⊢
                      clear hgn hwb hbr c0 c1 c2 c3 c4 c5 c6 c7 c8 c9 c10 x0 x1 x2 x3 x4 x5 hA hb
                      obtain ⟨c0, c1, c2, c3, c4, c5, c6, c7, c8, c9, c10⟩ := font_cells hbo
                      have y0 : _ = some (Value.int .i64 n0) := hbn.cell 0 rfl
                      have y1 : _ = some (Value.int .i64 n1) := hbn.cell 1 rfl
                      have y2 : _ = some (Value.int .i64 n2) := hbn.cell 2 rfl
                      have y3 : _ = some (Value.int .i64 n3) := hbn.cell 3 rfl
                      have y4 : _ = some (Value.int .i64 n4) := hbn.cell 4 rfl
                      have y5 : _ = some (Value.int .i64 n5) := hbn.cell 5 rfl
                      clear hbn hbo
                      have TQ : q1 = false ∨ (q1 = true ∧ q2 = false) ∨ (q1 = true ∧ q2 = true ∧ q3 = false) ∨ (q1 = true ∧ q2 = true ∧ q3 = true ∧ q4 = false) ∨ (q1 = true ∧ q2 = true ∧ q3 = true ∧ q4 = true) := by
                        cases q1 <;> cases q2 <;> cases q3 <;> cases q4 <;> simp
                      have TT : ∃ tg, Hid (((decide (n4 = 0) && decide (n5 = 0)) || (decide (n4 = 1) && q0)) = tg) ∧ (((n4 == 0) = true ∧ (n5 == 0) = true ∧ tg = true) ∨ ((n4 == 0) = true ∧ (n5 == 0) = false ∧ (n4 == 1) = false ∧ tg = false) ∨ ((n4 == 0) = false ∧ (n4 == 1) = true ∧ tg = q0) ∨ ((n4 == 0) = false ∧ (n4 == 1) = false ∧ tg = false)) := by
                        refine ⟨_, Lib.hid rfl, ?_⟩
                        simp only [beq_iff_eq, beq_eq_false_iff_ne] at T ⊢
                        rcases T with ⟨F1, F2⟩ | ⟨F1, F2, F3⟩ | ⟨F1, F3⟩ | ⟨F1, F3⟩
                        · left; simp [F1, F2]
                        · right; left; simp [F1, F2]
                        · right; right; left; simp [F3]
                        · right; right; right; simp [F1, F3]
                      obtain ⟨tg, htg, T'⟩ := TT
                      rw [htg.out] at HC
                      clear htg T
                      go_cut [11] from 95 to 165 (fun v wx => v = .bool tg ∧ wx = wb)
                      case first =>
                        rcases T' with ⟨F1, F2, rfl⟩ | ⟨F1, F2, F3, rfl⟩ | ⟨F1, F3, rfl⟩ | ⟨F1, F3, rfl⟩
                        · go_wp2_with fail
                          all_goals (go_meet; exact ⟨rfl, rfl⟩)
                        · go_wp2_with fail
                          all_goals (go_meet; exact ⟨rfl, rfl⟩)
                        · go_wp2_with (go_at_call 66; with_reducible refine (O0.out _).mono ?_; rintro e w1 ⟨rfl, rfl⟩)
                          all_goals (go_meet; exact ⟨rfl, rfl⟩)
                        · go_wp2_with fail
                          all_goals (go_meet; exact ⟨rfl, rfl⟩)
                      case rest =>
                        obtain ⟨rfl, rfl⟩ := hcut
                        rcases TQ with rfl | ⟨rfl, rfl⟩ | ⟨rfl, rfl, rfl⟩ | ⟨rfl, rfl, rfl, rfl⟩ | ⟨rfl, rfl, rfl, rfl⟩
                        rotate_left 4
                        · cases tg with
                          | true =>
                            have HN1 : Hid (p7 = (d.chars.drop (k + 1)).any fun c => !charB d c) := Lib.hid (by rw [HS1.out, ← HC.out]; simp)
                            clear HS1 HC
                            go_wp2_with (go_at_call 66; (first | with_reducible refine (O1.out _).mono ?_ | with_reducible refine (O2.out _).mono ?_ | with_reducible refine (O3.out _).mono ?_ | with_reducible refine (O4.out _).mono ?_); rintro e w1 ⟨rfl, rfl⟩)
                            go_roundw
                            case rel => exact ⟨k + 1, by omega, by go_num, HN1, HL.out⟩
                            case measure => simp [intOf]; omega
                          | false =>
                            have HQ : Hid (false = res) := Lib.hid (by rw [← HR.out, HS1.out, ← HC.out]; simp)
                            clear HS1 HC HR
                            go_wp2_with (go_at_call 66; (first | with_reducible refine (O1.out _).mono ?_ | with_reducible refine (O2.out _).mono ?_ | with_reducible refine (O3.out _).mono ?_ | with_reducible refine (O4.out _).mono ?_); rintro e w1 ⟨rfl, rfl⟩)
                            go_ret
                            exact ⟨ret_bool rfl HQ.out, HBr.out⟩
                        all_goals
                          have HQ : Hid (false = res) := Lib.hid (by rw [← HR.out, HS1.out, ← HC.out]; simp)
                          clear HS1 HC HR
                          go_wp2_with (go_at_call 66; (first | with_reducible refine (O1.out _).mono ?_ | with_reducible refine (O2.out _).mono ?_ | with_reducible refine (O3.out _).mono ?_ | with_reducible refine (O4.out _).mono ?_); rintro e w1 ⟨rfl, rfl⟩)
                          go_ret
                          exact ⟨ret_bool rfl HQ.out, HBr.out⟩
                    · have HQ : Hid (p7 = false) := Lib.hid (by rw [HS.out, List.drop_eq_nil_of_le (by omega)]; rfl)
                      have HR2 : Hid ((!p8) = res) := Lib.hid (by rw [← HR.out, HQ.out]; rfl)
                      clear HR HS HQ c0 c1 c2 c4 c5 c6 c7 c9 c10 HK
                      go_wp2_with fail
                      obtain ⟨V, hV⟩ : ∃ V : World, V = wr := ⟨_, rfl⟩
                      subst hV
                      have HK : Hid (∀ wr, Below V.heap.size V wr → Box wr g (fontCells d a) 26) := Lib.hid fun wr hb => hbr.below hb
                      clear hbr c3 c8 HL hlt hk HB
                      go_loopw [12] (fun i wr => ∃ k : Nat, k ≤ d.steps.length ∧ i = .int .i64 k ∧ Hid (p8 = (d.steps.drop k).any fun c => !stepB c) ∧ Below V.heap.size V wr) (fun i _ => d.steps.length - (intOf i).toNat)
                      case atStart => exact ⟨0, by omega, rfl, Lib.hid (by rw [List.drop_zero]; exact hp8.out.symm), Below.refl _ _⟩
                      case round =>
                        obtain ⟨k, hk, rfl, HS, HL⟩ := hrel
                        rename World => wr
                        have hbr := HK.out wr HL
                        have HBs : Hid (Below w.heap.size w wr) := Lib.hid (below_join HBr.out HL)
                        obtain ⟨c0, c1, c2, c3, c4, c5, c6, c7, c8, c9, c10⟩ := font_cells hbr
                        by_cases hlt : k < d.steps.length
                        · obtain ⟨c, hc⟩ := at_lt hlt
                          have HD := Lib.hid (drop_cons hc)
                          obtain ⟨b, o, hA, hb, ⟨x0, x1, x2, x3⟩, _⟩ := step_at (HFn.out wr HBs.out).steps hc
                          clear hc
                          obtain ⟨n0, n1, n2, n3⟩ := c
                          dsimp only at x0 x1 x2 x3
                          rw [hA] at c8
                          have O1 : Hid (∀ w, _) := Lib.hid (in_any n0 256)
                          have O2 : Hid (∀ w, _) := Lib.hid (in_any n1 256)
                          have O3 : Hid (∀ w, _) := Lib.hid (in_any n2 256)
                          have O4 : Hid (∀ w, _) := Lib.hid (in_any n3 256)
                          obtain ⟨bad, hbad⟩ : ∃ r, Hid (stepB (n0, n1, n2, n3) = r) := ⟨_, Lib.hid rfl⟩
                          have HC : Hid _ := Lib.hid hbad.out
                          unfold stepB at HC
                          simp only [List.any_cons, List.any_nil, Bool.or_false] at HC
                          have HS1 : Hid (p8 = (!bad || (d.steps.drop (k + 1)).any fun c => !stepB c)) := Lib.hid (by rw [HS.out, HD.out, List.any_cons, hbad.out])
                          clear hbad HS HD
                          generalize ofB n0 256 = q1 at *
                          generalize ofB n1 256 = q2 at *
                          generalize ofB n2 256 = q3 at *
                          generalize ofB n3 256 = q4 at *
                          go_upto_region 22 with fail
                          obtain ⟨wb, hwb⟩ : ∃ wb, wr.alloc (.cells #[.int .i64 n0, .int .i64 n1, .int .i64 n2, .int .i64 n3] 79) = wb := ⟨_, rfl⟩
                          rw [hwb]
                          have hbn := Box.new wr #[.int .i64 n0, .int .i64 n1, .int .i64 n2, .int .i64 n3] 79
                          replace HBs : Hid (Below w.heap.size w wb) := Lib.hid (hwb ▸ below_alloc HBs.out _)
                          replace HL : Hid (Below V.heap.size V wb) := Lib.hid (hwb ▸ below_alloc HL _)
                          rw [hwb] at hbn
                          obtain ⟨gn, hgn⟩ : ∃ gn, wr.heap.size = gn := ⟨_, rfl⟩
                          rw [hgn] at hbn ⊢
                          clear hgn hwb hbr c0 c1 c2 c3 c4 c5 c6 c7 c8 c9 c10 x0 x1 x2 x3 hA hb
                          have y0 : _ = some (Value.int .i64 n0) := hbn.cell 0 rfl
                          have y1 : _ = some (Value.int .i64 n1) := hbn.cell 1 rfl
                          have y2 : _ = some (Value.int .i64 n2) := hbn.cell 2 rfl
                          have y3 : _ = some (Value.int .i64 n3) := hbn.cell 3 rfl
                          clear hbn
                          have TQ : q1 = false ∨ (q1 = true ∧ q2 = false) ∨ (q1 = true ∧ q2 = true ∧ q3 = false) ∨ (q1 = true ∧ q2 = true ∧ q3 = true ∧ q4 = false) ∨ (q1 = true ∧ q2 = true ∧ q3 = true ∧ q4 = true) := by
                            cases q1 <;> cases q2 <;> cases q3 <;> cases q4 <;> simp
                          rcases TQ with rfl | ⟨rfl, rfl⟩ | ⟨rfl, rfl, rfl⟩ | ⟨rfl, rfl, rfl, rfl⟩ | ⟨rfl, rfl, rfl, rfl⟩
                          rotate_left 4
                          · have HN1 : Hid (p8 = (d.steps.drop (k + 1)).any fun c => !stepB c) := Lib.hid (by rw [HS1.out, ← HC.out]; simp)
                            clear HS1 HC
                            go_wp2_with (go_at_call 66; (first | with_reducible refine (O1.out _).mono ?_ | with_reducible refine (O2.out _).mono ?_ | with_reducible refine (O3.out _).mono ?_ | with_reducible refine (O4.out _).mono ?_); rintro e w1 ⟨rfl, rfl⟩)
                            go_roundw
                            case rel => exact ⟨k + 1, by omega, by go_num, HN1, HL.out⟩
                            case measure => simp [intOf]; omega
                          all_goals
                            have HQ : Hid (false = res) := Lib.hid (by rw [← HR2.out, HS1.out, ← HC.out]; simp)
                            clear HS1 HC HR2
                            go_wp2_with (go_at_call 66; (first | with_reducible refine (O1.out _).mono ?_ | with_reducible refine (O2.out _).mono ?_ | with_reducible refine (O3.out _).mono ?_ | with_reducible refine (O4.out _).mono ?_); rintro e w1 ⟨rfl, rfl⟩)
                            go_ret
                            exact ⟨ret_bool rfl HQ.out, HBs.out⟩
                        · have HQ : Hid (p8 = false) := Lib.hid (by rw [HS.out, List.drop_eq_nil_of_le (by omega)]; rfl)
                          have HR3 : Hid (true = res) := Lib.hid (by rw [← HR2.out, HQ.out]; rfl)
                          clear HR2 HS HQ c0 c1 c2 c3 c4 c5 c6 c7 c9 c10 HK
                          go_wp2_with fail
                          go_ret
                          exact ⟨ret_bool rfl HR3.out, HBs.out⟩
end Go.Proofs.YtndpdbofoojkhaaGreat.RFo
/- The reference: whether a font has a character. -/
namespace Go.Proofs.YtndpdbofoojkhaaGreat.RFo
open Go.RowKit Go.Proofs.YtndpdbofoojkhaaGreat.Kit Go.Proofs.YtndpdbofoojkhaaGreat.Fo
set_option linter.unusedVariables false
set_option linter.unusedSimpArgs false

set_option maxRecDepth 10000 in
set_option maxHeartbeats 1000000 in
theorem rhas_any (d : FontD) (a : FontA) (code : Int) (w : World) {B : Nat} (hB : B ≤ w.heap.size) (hF : FontIn w B d a) (hw : (Lit.int .i64 code).wf = true) :
    Calls Tryz.prog 43 #[fontV d a, .int .i64 code] w fun e w' => e = .returned (.bool (tfmB d && hasB d code)) ∧ Below w.heap.size w w' := by
  obtain ⟨i1, i2⟩ := i64_of hw
  clear hw
  obtain ⟨res, hres⟩ : ∃ r, Hid ((tfmB d && hasB d code) = r) := ⟨_, Lib.hid rfl⟩
  have hres' := hres.out
  rw [hres.out]
  clear hres
  have hbx := Box.new w (fontCells d a) 26
  have hbw := (Below.refl w.heap.size w).alloc (Nat.le_refl _) (.cells (fontCells d a) 26)
  obtain ⟨W, hW⟩ : ∃ W, w.alloc (.cells (fontCells d a) 26) = W := ⟨_, rfl⟩
  rw [hW] at hbx hbw
  obtain ⟨c0, c1, c2, c3, c4, c5, c6, c7, c8, c9, c10⟩ := font_cells hbx
  have H := Lib.hid (rcheck_any d a W (B := B) (Nat.le_trans hB hbw.size) (hF.mono (hbw.mono hB)))
  have HF := Lib.hid (show ∀ w1, Below W.heap.size W w1 → FontIn w1 B d a from fun w1 hb => (hF.mono (hbw.mono hB)).mono (hb.mono (Nat.le_trans hB hbw.size)))
  clear hF
  cases ht : tfmB d with
  | false =>
    rw [ht] at H hres'
    have HE : Hid (false = res) := Lib.hid (by rw [← hres']; rfl)
    clear hres' ht HF
    go_enter Tryz.func43, Tryz.ntmps43
    go_wp2_with fail
    with_reducible refine H.out.mono ?_; rintro e w1 ⟨rfl, hb⟩
    clear hW
    have hb2 := hbw.trans (hb.mono hbw.size)
    go_wp2_with fail
    go_ret
    exact ⟨ret_bool rfl HE.out, hb2⟩
  | true =>
    rw [ht] at H hres'
    obtain ⟨s1, s2, s3, s4, s5, s6, s7⟩ := tfm_sizes ht
    unfold hasB at hres'
    have HR := Lib.hid hres'
    clear hres' ht s2 s3 s7
    go_enter Tryz.func43, Tryz.ntmps43
    go_wp2_with fail
    with_reducible refine H.out.mono ?_; rintro e w1 ⟨rfl, hb⟩
    clear hW
    have hb2 := hbw.trans (hb.mono hbw.size)
    have hbx1 := hbx.below hb
    clear c0 c1 c2 c3 c4 c5 c6 c7 c8 c9 c10
    obtain ⟨c0, c1, c2, c3, c4, c5, c6, c7, c8, c9, c10⟩ := font_cells hbx1
    have HF1 := Lib.hid (HF.out w1 hb)
    clear H HF hbx hbx1 hbw hb c4 c5 c6 c7 c8 c9 c10 c0 c1
    by_cases h1 : d.first ≤ code
    · obtain ⟨k, rfl⟩ : ∃ k : Nat, code = d.first + k := ⟨(code - d.first).toNat, by omega⟩
      by_cases h2 : k < d.chars.length
      · obtain ⟨c, hc⟩ := at_lt h2
        have HE : Hid (decide (0 < c.1) = res) := Lib.hid (by
          rw [← HR.out]
          have e : (d.first + (k : Int) - d.first).toNat = k := by omega
          have x1 : decide (d.first ≤ d.first + (k : Int)) = true := decide_eq_true (by omega)
          have x2 : decide (d.first + (k : Int) < d.first + (d.chars.length : Int)) = true := decide_eq_true (by omega)
          rw [x1, x2]
          simp [widthOf, e, List.getD_eq_getElem?_getD, hc])
        obtain ⟨b, o, hA, hb, ⟨hc0, _⟩, hwc, _⟩ := char_at HF1.out.chars hc
        rw [show k = (d.first + (k : Int) - d.first).toNat by omega] at hc0
        rw [hA] at c3
        clear HR hc HF1
        go_wp2_with fail
        all_goals (go_ret; exact ⟨ret_bool rfl HE.out, hb2⟩)
      · have HE : Hid (false = res) := Lib.hid (by rw [← HR.out]; simp; omega)
        clear HR HF1
        go_wp2_with fail
        all_goals (go_ret; exact ⟨ret_bool rfl HE.out, hb2⟩)
    · have HE : Hid (false = res) := Lib.hid (by rw [← HR.out]; simp; omega)
      clear HR HF1
      go_wp2_with fail
      all_goals (go_ret; exact ⟨ret_bool rfl HE.out, hb2⟩)
end Go.Proofs.YtndpdbofoojkhaaGreat.RFo
