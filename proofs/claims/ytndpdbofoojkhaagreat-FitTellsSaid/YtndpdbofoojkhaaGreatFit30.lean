/- The reference: the rule of two codes (Rule). -/
import Derived.Test.YtndpdbofoojkhaaGreatRLig3
import Derived.Test.YtndpdbofoojkhaaGreatFit13
namespace Go.Proofs.YtndpdbofoojkhaaGreat.Ft
open Go.RowKit Go.Proofs.YtndpdbofoojkhaaGreat.Kit Go.Proofs.YtndpdbofoojkhaaGreat.Fo Go.Proofs.YtndpdbofoojkhaaGreat.RFo
set_option linter.unusedVariables false
set_option linter.unusedSimpArgs false

theorem places_lig {d : FontD} (h : ligB d = true) {k : Nat} {c : CharT} (hc : d.chars[k]? = some c) : placesP d c = stepsOf d c ∧ allP d c = true := by
  rw [← ref_lig] at h
  unfold refB charsOk at h
  simp only [Bool.and_eq_true, List.all_eq_true] at h
  have h1 := (h.1.2 c (List.mem_of_getElem? hc)).1
  refine ⟨?_, h1⟩
  unfold placesP
  rw [List.filter_eq_self]
  intro x hx
  unfold allP at h1
  simp only [Bool.not_eq_true', List.any_eq_false, decide_eq_true_eq] at h1
  have := h1 x hx
  simp; omega
theorem rule_at {d : FontD} (h : ligB d = true) {k : Nat} {c : CharT} (hc : d.chars[k]? = some c) {x : Int} (hx : x - d.first = k) (b : Int) : ruleP d x b = ((placesP d c).find? fun y => y.2.2.1 == b).map (·.2) := by
  have hk := (List.getElem?_eq_some_iff.1 hc).1
  have h1 : inF d x = true := by simp [inF]; omega
  have h2 : charOf d x = c := by
    unfold charOf
    rw [show (x - d.first).toNat = k by omega, List.getD_eq_getElem?_getD, hc]; rfl
  rw [(places_lig h hc).1, ruleP, h1, h2]; rfl
theorem find_here {α : Type} {q : α → Bool} {l : List α} {k : Nat} {x : α} (h : l[k]? = some x) (h0 : (l.take k).find? q = none) (hx : q x = true) : l.find? q = some x := by
  have e : l = l.take k ++ x :: l.drop (k + 1) := by rw [← drop_cons h, List.take_append_drop]
  rw [e, List.find?_append, h0]
  simp [hx]
theorem find_next {α : Type} {q : α → Bool} {l : List α} {k : Nat} {x : α} (h : l[k]? = some x) (h0 : (l.take k).find? q = none) (hx : q x = false) : (l.take (k + 1)).find? q = none := by
  rw [RFo.take_at h, List.find?_append, h0]
  simpa using hx
theorem step_set {w : World} {g : Nat} {a b c d x y z u : Value} {t : TypeId} (h : Box w g #[a, b, c, d] t) : Box ((((w.setCell ⟨g, 0, none⟩ x).setCell ⟨g, 1, none⟩ y).setCell ⟨g, 2, none⟩ z).setCell ⟨g, 3, none⟩ u) g #[x, y, z, u] t := by
  simpa using (((h.set 0 x).set 1 y).set 2 z).set 3 u
theorem below_set4 {w W : World} {B g : Nat} (h : Below B w W) (hg : B ≤ g) (x y z u : Value) : Below B w ((((W.setCell ⟨g, 0, none⟩ x).setCell ⟨g, 1, none⟩ y).setCell ⟨g, 2, none⟩ z).setCell ⟨g, 3, none⟩ u) :=
  (((h.setCell (p := ⟨g, 0, none⟩) hg x).setCell (p := ⟨g, 1, none⟩) hg y).setCell (p := ⟨g, 2, none⟩) hg z).setCell (p := ⟨g, 3, none⟩) hg u
theorem off_cell {m : Nat} {w w' : World} (h : Off m w w') {b i : Nat} {v : Value} (hm : b ≠ m) (hc : w.cell? ⟨b, i, none⟩ = some v) : w'.cell? ⟨b, i, none⟩ = some v := by
  exact (World.cell?_of_block (w := w) (a := ⟨b, i, none⟩) (h.block b (World.block_lt_of_cell? w _ hc) hm)).trans hc
theorem off_sets {g : Nat} {w w' : World} (h : Off g w w') (o : Nat) (v : Value) : Off g w (w'.setCell ⟨g, o, none⟩ v) :=
  ⟨h.os, h.tape, h.output, by simpa [World.setCell] using h.size, fun k hk hm => (Below.heap_setCell w' ⟨g, o, none⟩ v k hm).trans (h.block k hk hm)⟩
set_option maxRecDepth 10000 in
set_option maxHeartbeats 4000000 in
theorem rrule_any (d : FontD) (a : FontA) (x b : Int) (w : World) {B : Nat} (hB : B ≤ w.heap.size) (hF : FontIn w B d a) (hL : ligB d = true) (hwx : (Lit.int .i64 x).wf = true) :
    Calls Tryz.prog 71 #[fontV d a, .int .i64 x, .int .i64 b] w fun e w' => e = .returned (.tuple #[stepV ((ruleP d x b).getD (0, 0, 0, 0)), .bool (ruleP d x b).isSome]) ∧ Below w.heap.size w w' := by
  have ht := (lig_made hL).1
  obtain ⟨s1, s2, s3, s4, s5, s6, s7⟩ := tfm_sizes ht
  have HFn : Hid (∀ W, Below w.heap.size w W → FontIn W B d a) := Lib.hid fun W hb => hF.mono (hb.mono hB)
  have HT := Lib.hid ht
  have hb0 := (Box.new w (fontCells d a) 26).alloc (.cells #[.int .i64 0, .int .i64 0, .int .i64 0, .int .i64 0] 79)
  have hb2 := Box.new (w.alloc (.cells (fontCells d a) 26)) #[.int .i64 0, .int .i64 0, .int .i64 0, .int .i64 0] 79
  have hbw := below_alloc (below_alloc (Below.refl w.heap.size w) (.cells (fontCells d a) 26)) (.cells #[.int .i64 0, .int .i64 0, .int .i64 0, .int .i64 0] 79)
  simp only [World.size_alloc] at hb2
  obtain ⟨W1, hW⟩ : ∃ W1, (w.alloc (.cells (fontCells d a) 26)).alloc (.cells #[.int .i64 0, .int .i64 0, .int .i64 0, .int .i64 0] 79) = W1 := ⟨_, rfl⟩
  have hW1s : w.heap.size + 2 ≤ W1.heap.size := by rw [← hW]; simp
  rw [hW] at hb0 hb2 hbw
  obtain ⟨c0, c1, c2, c3, c4, c5, c6, c7, c8, c9, c10⟩ := font_cells hb0
  have k0 : W1.cell? ⟨w.heap.size + 1, 0, none⟩ = some (.int .i64 0) := hb2.cell 0 rfl
  have k1 : W1.cell? ⟨w.heap.size + 1, 1, none⟩ = some (.int .i64 0) := hb2.cell 1 rfl
  have k2 : W1.cell? ⟨w.heap.size + 1, 2, none⟩ = some (.int .i64 0) := hb2.cell 2 rfl
  have k3 : W1.cell? ⟨w.heap.size + 1, 3, none⟩ = some (.int .i64 0) := hb2.cell 3 rfl
  have g0 := hb2.free 0
  have g1 := hb2.free 1
  have g2 := hb2.free 2
  have g3 := hb2.free 3
  obtain ⟨z, hz⟩ : ∃ z, Hid (ruleP d x b = z) := ⟨_, Lib.hid rfl⟩
  rw [hz.out]
  have HB2 := Lib.hid hb2
  have HBW := Lib.hid hbw
  have f1 : 0 ≤ d.first ∧ d.first + d.chars.length ≤ 256 := by omega
  have HFi := Lib.hid hF
  clear hF ht
  by_cases hlo : x < d.first
  · have HX : Hid (none = z) := Lib.hid (by rw [← hz.out, ruleP, show inF d x = false by simp [inF]; omega]; rfl)
    have F1 : (x < d.first) = True := eq_true hlo
    clear hlo HFn
    go_enter Tryz.func71, Tryz.ntmps71
    go_wp2_with fail
    have b4 := step_set HB2.out (x := .int .i64 0) (y := .int .i64 0) (z := .int .i64 0) (u := .int .i64 0)
    have q0 := b4.cell 0 rfl
    have q1 := b4.cell 1 rfl
    have q2 := b4.cell 2 rfl
    have q3 := b4.cell 3 rfl
    refine bodyPost_ret (v := .tuple #[stepV (0, 0, 0, 0), .bool false]) ?_ rfl ⟨by rw [← HX.out]; rfl, below_set4 HBW.out (by omega) _ _ _ _⟩
    simp [results, Tryz.f71, go_sem, q0, q1, q2, q3]
  · have F1 : (x < d.first) = False := eq_false hlo
    by_cases hhi : d.first + (d.chars.length : Int) ≤ x
    · have HX : Hid (none = z) := Lib.hid (by rw [← hz.out, ruleP, show inF d x = false by simp [inF]; omega]; rfl)
      have F2 : (d.first + (d.chars.length : Int) ≤ x) = True := eq_true hhi
      clear hlo hhi HFn
      go_enter Tryz.func71, Tryz.ntmps71
      go_wp2_with fail
      have b4 := step_set HB2.out (x := .int .i64 0) (y := .int .i64 0) (z := .int .i64 0) (u := .int .i64 0)
      have q0 := b4.cell 0 rfl
      have q1 := b4.cell 1 rfl
      have q2 := b4.cell 2 rfl
      have q3 := b4.cell 3 rfl
      refine bodyPost_ret (v := .tuple #[stepV (0, 0, 0, 0), .bool false]) ?_ rfl ⟨by rw [← HX.out]; rfl, below_set4 HBW.out (by omega) _ _ _ _⟩
      simp [results, Tryz.f71, go_sem, q0, q1, q2, q3]
    · have F2 : (d.first + (d.chars.length : Int) ≤ x) = False := eq_false hhi
      go_enter Tryz.func71, Tryz.ntmps71
      go_upto_region 3 with fail
      obtain ⟨k, hcode⟩ : ∃ k : Nat, x - d.first = k := ⟨(x - d.first).toNat, by omega⟩
      have hk : k < d.chars.length := by omega
      obtain ⟨c, hc⟩ := at_lt hk
      have HRu := Lib.hid (rule_at hL hc hcode b)
      have HPA := Lib.hid (places_lig hL hc).2
      obtain ⟨b1, o, hA, hbl, ⟨x0, x1, x2, x3, x4, x5⟩, _⟩ := char_at (HFn.out W1 hbw).chars hc
      have HSt : Hid (∀ V, Below w.heap.size w V → _) := Lib.hid fun V (hb : Below w.heap.size w V) => rsteps_any d a c V (Nat.le_trans hB hb.size) (HFn.out V hb) HT.out (fun h => tag_ok HT.out hc h)
      have HPl : Hid (∀ y ∈ placesP d c, 0 ≤ y.1 ∧ d.steps[y.1.toNat]? = some y.2) := Lib.hid fun y hy => places_at hy
      have hPn : (placesP d c).length ≤ 257 := Nat.le_trans (List.length_filter_le _ _) (Nat.le_trans (steps_len d c) (by omega))
      have ew : IntKind.i64.wrap (x - d.first) = (k : Int) := by rw [IntKind.wrap_i64]; omega
      have ek0 : (0 : Int) ≤ (k : Int) := by omega
      have ek1 : (k : Int) < (d.chars.length : Int) := by omega
      rw [HPA.out] at HSt
      clear hc hlo hhi hcode HPA hW
      generalize placesP d c = P at *
      obtain ⟨n0, n1, n2, n3, n4, n5⟩ := c
      dsimp only at x0 x1 x2 x3 x4 x5
      rw [hA] at c3
      unfold fontV at HSt
      rw [hA] at HSt
      clear hA
      have HFc : Hid (∀ w', Below W1.heap.size W1 w' → w'.cell? ⟨w.heap.size, 8, none⟩ = some (.slice a.s d.steps.length a.cs) ∧ Box w' (w.heap.size + 1) #[.int .i64 0, .int .i64 0, .int .i64 0, .int .i64 0] 79) := Lib.hid fun w' hb => ⟨later hb c8, HB2.out.below hb⟩
      go_cut [8, 9] from 26 to 38 (fun l bb wx => ∃ A2 cp, l = .slice A2 P.length cp ∧ bb = .bool true ∧ Row (Rep.int .i64) wx wx.heap.size A2 (P.map (·.1)) ∧ (∀ b o, A2 = some ⟨b, o, none⟩ → W1.heap.size ≤ b) ∧ Below W1.heap.size W1 wx)
      case first =>
        have HKe : Hid (∀ w', Below W1.heap.size W1 w' → Below W1.heap.size W1 w' ∧ w'.cell? ⟨w.heap.size, 0, none⟩ = some (.int .i64 d.sum) ∧ w'.cell? ⟨w.heap.size, 1, none⟩ = some (.int .i64 d.design) ∧ w'.cell? ⟨w.heap.size, 2, none⟩ = some (.int .i64 d.first) ∧ w'.cell? ⟨w.heap.size, 3, none⟩ = some (.slice (some ⟨b1, o, none⟩) d.chars.length a.cc) ∧ w'.cell? ⟨w.heap.size, 4, none⟩ = some (.slice a.w d.widths.length a.cw) ∧ w'.cell? ⟨w.heap.size, 5, none⟩ = some (.slice a.h d.heights.length a.ch) ∧ w'.cell? ⟨w.heap.size, 6, none⟩ = some (.slice a.d d.depths.length a.cd) ∧ w'.cell? ⟨w.heap.size, 7, none⟩ = some (.slice a.i d.italics.length a.ci) ∧ w'.cell? ⟨w.heap.size, 8, none⟩ = some (.slice a.s d.steps.length a.cs) ∧ w'.cell? ⟨w.heap.size, 9, none⟩ = some (.slice a.k d.kerns.length a.ck) ∧ w'.cell? ⟨w.heap.size, 10, none⟩ = some (.slice a.p d.params.length a.cp) ∧ w'.cell? ⟨b1, o + k * 6, none⟩ = some (.int .i64 n0) ∧ w'.cell? ⟨b1, o + k * 6 + 1, none⟩ = some (.int .i64 n1) ∧ w'.cell? ⟨b1, o + k * 6 + 2, none⟩ = some (.int .i64 n2) ∧ w'.cell? ⟨b1, o + k * 6 + 3, none⟩ = some (.int .i64 n3) ∧ w'.cell? ⟨b1, o + k * 6 + 4, none⟩ = some (.int .i64 n4) ∧ w'.cell? ⟨b1, o + k * 6 + 5, none⟩ = some (.int .i64 n5)) := Lib.hid fun w' hb => ⟨hb, later hb c0, later hb c1, later hb c2, later hb c3, later hb c4, later hb c5, later hb c6, later hb c7, later hb c8, later hb c9, later hb c10, later hb x0, later hb x1, later hb x2, later hb x3, later hb x4, later hb x5⟩
        clear hb0 hb2 hbw c0 c1 c2 c3 c4 c5 c6 c7 c8 c9 c10 x0 x1 x2 x3 x4 x5 k0 k1 k2 k3 g0 g1 g2 g3
        go_region_held3 (fun w' => Below W1.heap.size W1 w' ∧ w'.cell? ⟨w.heap.size, 0, none⟩ = some (.int .i64 d.sum) ∧ w'.cell? ⟨w.heap.size, 1, none⟩ = some (.int .i64 d.design) ∧ w'.cell? ⟨w.heap.size, 2, none⟩ = some (.int .i64 d.first) ∧ w'.cell? ⟨w.heap.size, 3, none⟩ = some (.slice (some ⟨b1, o, none⟩) d.chars.length a.cc) ∧ w'.cell? ⟨w.heap.size, 4, none⟩ = some (.slice a.w d.widths.length a.cw) ∧ w'.cell? ⟨w.heap.size, 5, none⟩ = some (.slice a.h d.heights.length a.ch) ∧ w'.cell? ⟨w.heap.size, 6, none⟩ = some (.slice a.d d.depths.length a.cd) ∧ w'.cell? ⟨w.heap.size, 7, none⟩ = some (.slice a.i d.italics.length a.ci) ∧ w'.cell? ⟨w.heap.size, 8, none⟩ = some (.slice a.s d.steps.length a.cs) ∧ w'.cell? ⟨w.heap.size, 9, none⟩ = some (.slice a.k d.kerns.length a.ck) ∧ w'.cell? ⟨w.heap.size, 10, none⟩ = some (.slice a.p d.params.length a.cp) ∧ w'.cell? ⟨b1, o + k * 6, none⟩ = some (.int .i64 n0) ∧ w'.cell? ⟨b1, o + k * 6 + 1, none⟩ = some (.int .i64 n1) ∧ w'.cell? ⟨b1, o + k * 6 + 2, none⟩ = some (.int .i64 n2) ∧ w'.cell? ⟨b1, o + k * 6 + 3, none⟩ = some (.int .i64 n3) ∧ w'.cell? ⟨b1, o + k * 6 + 4, none⟩ = some (.int .i64 n4) ∧ w'.cell? ⟨b1, o + k * 6 + 5, none⟩ = some (.int .i64 n5))
          (first | exact HKe.out _ (by repeat (first | (with_reducible exact Below.refl _ _) | (with_reducible apply below_drew) | (with_reducible apply below_alloc) | (with_reducible refine below_join ?_ (by assumption)) | exact (‹Below W1.heap.size W1 _ ∧ _›.1))))
          (first
            | (go_at_call 41; go_must (with_reducible refine (HSt.out _ (HBW.out.trans ((below_drew (Below.refl _ _)).mono HBW.out.size))).mono ?_); rintro e wq ⟨A2, cp, rfl, hrow, hbk, hbq⟩))
        all_goals (go_wp2_with fail; go_meet)
        all_goals exact ⟨A2, cp, rfl, rfl, hrow, (fun b o e => by simpa using (hbk b o e).1), (‹Below W1.heap.size W1 wq ∧ _›).1⟩
      case rest =>
        rename World => wq
        obtain ⟨A2, cp, rfl, rfl, hrow, hbk, HQ⟩ := hcut
        obtain ⟨c8, hbs⟩ := HFc.out wq HQ
        have C8 := Lib.hid c8
        have HQw := Lib.hid (below_join HBW.out HQ)
        have HRw := Lib.hid hrow
        have HBS := Lib.hid hbs
        have hqs := HQ.size
        clear hb0 hb2 hbw c0 c1 c2 c3 c4 c5 c6 c7 c8 c9 c10 x0 x1 x2 x3 x4 x5 k0 k1 k2 k3 g0 g1 g2 g3 HSt HFc hrow hbs HQ HB2 HBW ew
        go_wp2_with fail
        go_loopw [10] (fun i wx => ∃ m : Nat, i = .int .i64 m ∧ m ≤ P.length ∧ Hid ((P.take m).find? (fun y => y.2.2.1 == b) = none) ∧ Below wq.heap.size wq wx) (fun i _ => P.length - (intOf i).toNat)
        case atStart => exact ⟨0, rfl, by omega, Lib.hid rfl, Below.refl _ _⟩
        case round =>
          obtain ⟨m, rfl, hm, HN, HL⟩ := hrel
          rename World => wx
          have HXw := Lib.hid (below_join HQw.out HL)
          have hbx := HBS.out.below HL
          have hxs := HL.size
          by_cases hlm : m < P.length
          · obtain ⟨y, hy⟩ := at_lt hlm
            obtain ⟨hp0, hps⟩ := HPl.out y (List.mem_of_getElem? hy)
            obtain ⟨b2, o2, hA2, hb2, hc2, _⟩ := int_at (HRw.out.mono HL) (show (P.map (·.1))[m]? = some y.1 by simp [hy])
            obtain ⟨bs, os, hAs, hbs, ⟨z0, z1, z2, z3⟩, _⟩ := step_at (HFn.out wx HXw.out).steps hps
            have hpl := (List.getElem?_eq_some_iff.1 hps).1
            have HY := Lib.hid hy
            have c8 : wx.cell? ⟨w.heap.size, 8, none⟩ = some (.slice a.s d.steps.length a.cs) := later HL C8.out
            rw [hAs] at c8
            have HYf := Lib.hid (find_next (q := fun y => y.2.2.1 == b) hy HN.out)
            have HYt := Lib.hid (find_here (q := fun y => y.2.2.1 == b) hy HN.out)
            obtain ⟨xp, t0, t1, t2, t3⟩ := y
            dsimp only at hp0 hps hc2 z0 z1 z2 z3 hpl HYf HYt
            obtain ⟨p, rfl⟩ := Int.eq_ofNat_of_zero_le hp0
            rw [Int.toNat_natCast] at z0 z1 z2 z3 hpl
            subst hA2
            clear hy hps hp0
            cases hq : t1 == b with
            | true =>
              have HV : Hid (some (t0, t1, t2, t3) = z) := Lib.hid (by rw [← hz.out, HRu.out, HYt.out hq]; rfl)
              clear HYf HYt HN HRu hz
              have hbb := hbk b2 o2 rfl
              have k0 : wx.cell? ⟨w.heap.size + 1, 0, none⟩ = some (.int .i64 0) := hbx.cell 0 rfl
              have k1 : wx.cell? ⟨w.heap.size + 1, 1, none⟩ = some (.int .i64 0) := hbx.cell 1 rfl
              have k2 : wx.cell? ⟨w.heap.size + 1, 2, none⟩ = some (.int .i64 0) := hbx.cell 2 rfl
              have k3 : wx.cell? ⟨w.heap.size + 1, 3, none⟩ = some (.int .i64 0) := hbx.cell 3 rfl
              have g0 := hbx.free 0
              have g1 := hbx.free 1
              have g2 := hbx.free 2
              have g3 := hbx.free 3
              have HBX := Lib.hid hbx
              have HKe : Hid (∀ w', Off (w.heap.size + 1) wx w' → (Off (w.heap.size + 1) wx w' ∧ w'.cell? ⟨w.heap.size, 8, none⟩ = some (.slice (some ⟨bs, os, none⟩) d.steps.length a.cs) ∧ w'.cell? ⟨b2, o2 + m, none⟩ = some (.int .i64 p) ∧ w'.cell? ⟨bs, os + p * 4, none⟩ = some (.int .i64 t0) ∧ w'.cell? ⟨bs, os + p * 4 + 1, none⟩ = some (.int .i64 t1) ∧ w'.cell? ⟨bs, os + p * 4 + 2, none⟩ = some (.int .i64 t2) ∧ w'.cell? ⟨bs, os + p * 4 + 3, none⟩ = some (.int .i64 t3))) := Lib.hid fun w' h => ⟨h, off_cell h (by omega) c8, off_cell h (by omega) hc2, off_cell h (by omega) z0, off_cell h (by omega) z1, off_cell h (by omega) z2, off_cell h (by omega) z3⟩
              go_upto_region 7 with fail
              go_region_held3 (fun w' => Off (w.heap.size + 1) wx w' ∧ w'.cell? ⟨w.heap.size, 8, none⟩ = some (.slice (some ⟨bs, os, none⟩) d.steps.length a.cs) ∧ w'.cell? ⟨b2, o2 + m, none⟩ = some (.int .i64 p) ∧ w'.cell? ⟨bs, os + p * 4, none⟩ = some (.int .i64 t0) ∧ w'.cell? ⟨bs, os + p * 4 + 1, none⟩ = some (.int .i64 t1) ∧ w'.cell? ⟨bs, os + p * 4 + 2, none⟩ = some (.int .i64 t2) ∧ w'.cell? ⟨bs, os + p * 4 + 3, none⟩ = some (.int .i64 t3))
                (first | exact HKe.out _ (by repeat (first | (with_reducible exact Off.refl _ _) | (with_reducible apply Off.drew) | (with_reducible refine off_sets ?_ _ _))))
                (fail)
              all_goals go_upto_region 8 with fail
              all_goals go_region_held3 (fun w' => Off (w.heap.size + 1) wx w' ∧ w'.cell? ⟨w.heap.size, 8, none⟩ = some (.slice (some ⟨bs, os, none⟩) d.steps.length a.cs) ∧ w'.cell? ⟨b2, o2 + m, none⟩ = some (.int .i64 p) ∧ w'.cell? ⟨bs, os + p * 4, none⟩ = some (.int .i64 t0) ∧ w'.cell? ⟨bs, os + p * 4 + 1, none⟩ = some (.int .i64 t1) ∧ w'.cell? ⟨bs, os + p * 4 + 2, none⟩ = some (.int .i64 t2) ∧ w'.cell? ⟨bs, os + p * 4 + 3, none⟩ = some (.int .i64 t3))
                (first | exact HKe.out _ (by repeat (first | (with_reducible exact Off.refl _ _) | (with_reducible apply Off.drew) | (with_reducible refine off_sets ?_ _ _))))
                (fail)
              all_goals go_wp2_with fail
              have b4 := ((step_set HBX.out (x := .int .i64 t0) (y := .int .i64 t1) (z := .int .i64 t2) (u := .int .i64 t3)).drew).drew
              have q0 := b4.cell 0 rfl
              have q1 := b4.cell 1 rfl
              have q2 := b4.cell 2 rfl
              have q3 := b4.cell 3 rfl
              refine bodyPost_ret (v := .tuple #[stepV (t0, t1, t2, t3), .bool true]) ?_ rfl ⟨by rw [← HV.out]; rfl, below_drew (below_drew (below_set4 HXw.out (by omega) _ _ _ _))⟩
              simp [results, Tryz.f71, go_sem, q0, q1, q2, q3]
            | false =>
              have HN2 := Lib.hid (HYf.out hq)
              clear HYf HYt HN HRu hz
              go_upto_region 7 with fail
              go_region
              all_goals (go_wp2_with fail; go_roundw)
              all_goals first
                | exact ⟨m + 1, by go_num, by omega, HN2, HL.drew⟩
                | (simp [intOf]; omega)
          · have HX : Hid (none = z) := Lib.hid (by
              rw [← hz.out, HRu.out]
              have := HN.out
              rw [List.take_of_length_le (by omega)] at this
              rw [this]; rfl)
            have k0 : wx.cell? ⟨w.heap.size + 1, 0, none⟩ = some (.int .i64 0) := hbx.cell 0 rfl
            have k1 : wx.cell? ⟨w.heap.size + 1, 1, none⟩ = some (.int .i64 0) := hbx.cell 1 rfl
            have k2 : wx.cell? ⟨w.heap.size + 1, 2, none⟩ = some (.int .i64 0) := hbx.cell 2 rfl
            have k3 : wx.cell? ⟨w.heap.size + 1, 3, none⟩ = some (.int .i64 0) := hbx.cell 3 rfl
            have g0 := hbx.free 0
            have g1 := hbx.free 1
            have g2 := hbx.free 2
            have g3 := hbx.free 3
            have HBX := Lib.hid hbx
            clear HN HRu hz hbx
            go_wp2_with fail
            have b4 := step_set HBX.out (x := .int .i64 0) (y := .int .i64 0) (z := .int .i64 0) (u := .int .i64 0)
            have q0 := b4.cell 0 rfl
            have q1 := b4.cell 1 rfl
            have q2 := b4.cell 2 rfl
            have q3 := b4.cell 3 rfl
            refine bodyPost_ret (v := .tuple #[stepV (0, 0, 0, 0), .bool false]) ?_ rfl ⟨by rw [← HX.out]; rfl, below_set4 HXw.out (by omega) _ _ _ _⟩
            simp [results, Tryz.f71, go_sem, q0, q1, q2, q3]
end Go.Proofs.YtndpdbofoojkhaaGreat.Ft
