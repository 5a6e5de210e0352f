/- joined for a claim: Fit26, Fit27 -/
import Derived.Test.YtndpdbofoojkhaaFit25
/- A face as an argument; few of each. -/
namespace Go.Proofs.Ytndpdbofoojkhaa.Ft
open Go.RowKit Go.Proofs.Ytndpdbofoojkhaa.Kit Go.Proofs.Ytndpdbofoojkhaa.Fo Go.Proofs.Ytndpdbofoojkhaa.Lv Go.Proofs.Ytndpdbofoojkhaa.Bad
set_option linter.unusedVariables false
set_option linter.unusedSimpArgs false

abbrev FontT := Int × Int × Int × List CharT × List Int × List Int × List Int × List Int × List StepT × List Int × List Int
abbrev FaceT := FontT × Int × Int × Int × Int × List StepT
abbrev fontR : Rep FontT := (Rep.seq (Rep.int .i64) (Rep.seq (Rep.int .i64) (Rep.seq (Rep.int .i64) (Rep.seq (Rep.slice (Rep.seq (Rep.int .i64) (Rep.seq (Rep.int .i64) (Rep.seq (Rep.int .i64) (Rep.seq (Rep.int .i64) (Rep.seq (Rep.int .i64) (Rep.int .i64))))))) (Rep.seq (Rep.slice (Rep.int .i64)) (Rep.seq (Rep.slice (Rep.int .i64)) (Rep.seq (Rep.slice (Rep.int .i64)) (Rep.seq (Rep.slice (Rep.int .i64)) (Rep.seq (Rep.slice (Rep.seq (Rep.int .i64) (Rep.seq (Rep.int .i64) (Rep.seq (Rep.int .i64) (Rep.int .i64))))) (Rep.seq (Rep.slice (Rep.int .i64)) (Rep.slice (Rep.int .i64))))))))))))
abbrev faceR : Rep FaceT := (Rep.seq fontR (Rep.seq (Rep.int .i64) (Rep.seq (Rep.int .i64) (Rep.seq (Rep.int .i64) (Rep.seq (Rep.int .i64) (Rep.slice (Rep.seq (Rep.int .i64) (Rep.seq (Rep.int .i64) (Rep.seq (Rep.int .i64) (Rep.int .i64))))))))))
theorem face_of {w : World} {B : Nat} {cs : Array Value} {x : FaceT} (h : faceR.K w B cs.toList x) : ∃ d a, cs = faceCells d a ∧ FaceIn w B d a := by
  obtain ⟨⟨x0, x1, x2, x3, x4, x5, x6, x7, x8, x9, x10⟩, y0, y1, y2, y3, y4⟩ := x
  obtain ⟨p, q, hcs, hp, hq⟩ := h
  obtain ⟨fu0, fv0, rfl, ⟨rfl, fw0⟩, ⟨fu1, fv1, rfl, ⟨rfl, fw1⟩, ⟨fu2, fv2, rfl, ⟨rfl, fw2⟩, ⟨fu3, fv3, rfl, ⟨fA3, fc3, rfl, fl3, fm3, fr3⟩, ⟨fu4, fv4, rfl, ⟨fA4, fc4, rfl, fl4, fm4, fr4⟩, ⟨fu5, fv5, rfl, ⟨fA5, fc5, rfl, fl5, fm5, fr5⟩, ⟨fu6, fv6, rfl, ⟨fA6, fc6, rfl, fl6, fm6, fr6⟩, ⟨fu7, fv7, rfl, ⟨fA7, fc7, rfl, fl7, fm7, fr7⟩, ⟨fu8, fv8, rfl, ⟨fA8, fc8, rfl, fl8, fm8, fr8⟩, ⟨fu9, fv9, rfl, ⟨fA9, fc9, rfl, fl9, fm9, fr9⟩, ⟨fA10, fc10, rfl, fl10, fm10, fr10⟩⟩⟩⟩⟩⟩⟩⟩⟩⟩⟩ := hp
  obtain ⟨gu0, gv0, rfl, ⟨rfl, gw0⟩, ⟨gu1, gv1, rfl, ⟨rfl, gw1⟩, ⟨gu2, gv2, rfl, ⟨rfl, gw2⟩, ⟨gu3, gv3, rfl, ⟨rfl, gw3⟩, ⟨gA4, gc4, rfl, gl4, gm4, gr4⟩⟩⟩⟩⟩ := hq
  refine ⟨{ font := { sum := x0, design := x1, first := x2, chars := x3, widths := x4, heights := x5, depths := x6, italics := x7, steps := x8, kerns := x9, params := x10 }, size := y0, step := y1, up := y2, down := y3, traits := y4 },
    { font := { c := fA3, w := fA4, h := fA5, d := fA6, i := fA7, s := fA8, k := fA9, p := fA10, cc := fc3, cw := fc4, ch := fc5, cd := fc6, ci := fc7, cs := fc8, ck := fc9, cp := fc10 }, t := gA4, ct := gc4 }, arr_of hcs, ?_⟩
  exact ⟨⟨fw0, fw1, fw2, fr3, fr4, fr5, fr6, fr7, fr8, fr9, fr10, Nat.le_trans fl3 fm3, Nat.le_trans fl4 fm4, Nat.le_trans fl5 fm5, Nat.le_trans fl6 fm6, Nat.le_trans fl7 fm7, Nat.le_trans fl8 fm8, Nat.le_trans fl9 fm9, Nat.le_trans fl10 fm10⟩, gw0, gw1, gw2, gw3, gr4, Nat.le_trans gl4 gm4⟩

/-! ### Few of each -/
def fewF (d : FontD) : Bool := decide (d.chars.length ≤ 300) && decide (d.steps.length ≤ 300) && decide (d.widths.length ≤ 300) && decide (d.heights.length ≤ 300) && decide (d.depths.length ≤ 300) && decide (d.italics.length ≤ 300) && decide (d.kerns.length ≤ 300) && decide (d.params.length ≤ 300)
def fewB (d : FaceD) : Bool := fewF d.font && decide (d.traits.length ≤ 300)
set_option maxHeartbeats 2000000 in
theorem fewf_any (d : FontD) (a : FontA) (w : World) :
    Calls Try.prog 15 #[fontV d a] w fun e w' => e = .returned (.bool (fewF d)) ∧ Below w.heap.size w w' := by
  have hbx := Box.new w (fontCells d a) 26
  have hbw := (Below.refl w.heap.size w).alloc (Nat.le_refl _) (.cells (fontCells d a) 26)
  obtain ⟨W, hW⟩ : ∃ W, w.alloc (.cells (fontCells d a) 26) = W := ⟨_, rfl⟩
  rw [hW] at hbx hbw
  obtain ⟨c0, c1, c2, c3, c4, c5, c6, c7, c8, c9, c10⟩ := font_cells hbx
  obtain ⟨res, hres⟩ : ∃ r, Hid (fewF d = r) := ⟨_, Lib.hid rfl⟩
  have HR : Hid _ := Lib.hid hres.out
  rw [hres.out]
  unfold fewF at HR
  clear hres
  by_cases h0 : d.chars.length ≤ 300
  · have F0 : ((d.chars.length : Int) ≤ 300) = True := eq_true (by omega)
    by_cases h1 : d.steps.length ≤ 300
    · have F1 : ((d.steps.length : Int) ≤ 300) = True := eq_true (by omega)
      by_cases h2 : d.widths.length ≤ 300
      · have F2 : ((d.widths.length : Int) ≤ 300) = True := eq_true (by omega)
        by_cases h3 : d.heights.length ≤ 300
        · have F3 : ((d.heights.length : Int) ≤ 300) = True := eq_true (by omega)
          by_cases h4 : d.depths.length ≤ 300
          · have F4 : ((d.depths.length : Int) ≤ 300) = True := eq_true (by omega)
            by_cases h5 : d.italics.length ≤ 300
            · have F5 : ((d.italics.length : Int) ≤ 300) = True := eq_true (by omega)
              by_cases h6 : d.kerns.length ≤ 300
              · have F6 : ((d.kerns.length : Int) ≤ 300) = True := eq_true (by omega)
                by_cases h7 : d.params.length ≤ 300
                · have F7 : ((d.params.length : Int) ≤ 300) = True := eq_true (by omega)
                  go_enter Try.func15, Try.ntmps15
                  go_wp2_with fail
                  go_ret
                  exact ⟨ret_bool rfl (by rw [← HR.out]; simp; try omega), hbw⟩
                · have F7 : ((d.params.length : Int) ≤ 300) = False := eq_false (by omega)
                  go_enter Try.func15, Try.ntmps15
                  go_wp2_with fail
                  go_ret
                  exact ⟨ret_bool rfl (by rw [← HR.out]; simp; try omega), hbw⟩
              · have F6 : ((d.kerns.length : Int) ≤ 300) = False := eq_false (by omega)
                go_enter Try.func15, Try.ntmps15
                go_wp2_with fail
                go_ret
                exact ⟨ret_bool rfl (by rw [← HR.out]; simp; try omega), hbw⟩
            · have F5 : ((d.italics.length : Int) ≤ 300) = False := eq_false (by omega)
              go_enter Try.func15, Try.ntmps15
              go_wp2_with fail
              go_ret
              exact ⟨ret_bool rfl (by rw [← HR.out]; simp; try omega), hbw⟩
          · have F4 : ((d.depths.length : Int) ≤ 300) = False := eq_false (by omega)
            go_enter Try.func15, Try.ntmps15
            go_wp2_with fail
            go_ret
            exact ⟨ret_bool rfl (by rw [← HR.out]; simp; try omega), hbw⟩
        · have F3 : ((d.heights.length : Int) ≤ 300) = False := eq_false (by omega)
          go_enter Try.func15, Try.ntmps15
          go_wp2_with fail
          go_ret
          exact ⟨ret_bool rfl (by rw [← HR.out]; simp; try omega), hbw⟩
      · have F2 : ((d.widths.length : Int) ≤ 300) = False := eq_false (by omega)
        go_enter Try.func15, Try.ntmps15
        go_wp2_with fail
        go_ret
        exact ⟨ret_bool rfl (by rw [← HR.out]; simp; try omega), hbw⟩
    · have F1 : ((d.steps.length : Int) ≤ 300) = False := eq_false (by omega)
      go_enter Try.func15, Try.ntmps15
      go_wp2_with fail
      go_ret
      exact ⟨ret_bool rfl (by rw [← HR.out]; simp; try omega), hbw⟩
  · have F0 : ((d.chars.length : Int) ≤ 300) = False := eq_false (by omega)
    go_enter Try.func15, Try.ntmps15
    go_wp2_with fail
    go_ret
    exact ⟨ret_bool rfl (by rw [← HR.out]; simp; try omega), hbw⟩
theorem few_any (d : FaceD) (a : FaceA) (w : World) :
    Calls Try.prog 6 #[faceV d a] w fun e w' => e = .returned (.bool (fewB d)) ∧ Below w.heap.size w w' := by
  have hbx := Box.new w (faceCells d a) 29
  have hbw := (Below.refl w.heap.size w).alloc (Nat.le_refl _) (.cells (faceCells d a) 29)
  obtain ⟨W1, hW⟩ : ∃ W1, w.alloc (.cells (faceCells d a) 29) = W1 := ⟨_, rfl⟩
  rw [hW] at hbx hbw
  obtain ⟨⟨c0, c1, c2, c3, c4, c5, c6, c7, c8, c9, c10⟩, c11, c12, c13, c14, c15⟩ := face_cells hbx
  have H := Lib.hid (fewf_any d.font a.font W1)
  unfold fewB
  generalize fewF d.font = q at *
  go_enter Try.func6, Try.ntmps6
  go_wp2_with fail
  with_reducible refine H.out.mono ?_; rintro e w1 ⟨rfl, hb⟩
  have hw1 := hbw.trans (hb.mono hbw.size)
  have hbx1 := hbx.below hb
  clear hW H hb c0 c1 c2 c3 c4 c5 c6 c7 c8 c9 c10 c11 c12 c13 c14 c15 hbw hbx
  have c15 : w1.cell? ⟨w.heap.size, 15, none⟩ = some (.slice a.t d.traits.length a.ct) := hbx1.cell 15 rfl
  clear hbx1
  cases q with
  | false =>
    go_wp2_with fail
    go_ret
    exact ⟨ret_bool rfl (by simp), hw1⟩
  | true =>
    go_wp2_with fail
    go_ret
    exact ⟨ret_bool rfl (by simp; omega), hw1⟩
theorem small_few {d : FaceD} (h : fewB d = true) : SmallF d := by
  simp only [fewB, fewF, Bool.and_eq_true, decide_eq_true_eq] at h
  obtain ⟨⟨⟨⟨⟨⟨⟨⟨h1, h2⟩, h3⟩, h4⟩, h5⟩, h6⟩, h7⟩, h8⟩, h9⟩ := h
  exact ⟨by omega, by omega, by omega, six (show d.font.widths.length ≤ _ by omega) (show d.font.heights.length ≤ _ by omega) (show d.font.depths.length ≤ _ by omega) (show d.font.italics.length ≤ _ by omega) (show d.font.kerns.length ≤ _ by omega) (show d.font.params.length ≤ _ by omega)⟩
/-! ### How long glyphs are, added -/
def tOf (d : FaceD) (lev : Int) (xs : List (Int × Int)) : Int := (xs.map fun x => (tellS d 0 x.1 lev).1 + (tellS d 1 x.2 lev).1).sum
theorem tell_ok {d : FaceD} (hf : faceB d = true) {x : Int × Int} (h : hasB d.font x.1 = true ∧ fixB x.2 = true) (lev : Int) : (tellS d 0 x.1 lev).2 = 0 ∧ (tellS d 1 x.2 lev).2 = 0 := by
  constructor
  · show (widthV d x.1 lev).2 = 0
    rw [widthV, if_pos hf, if_pos h.1]
  · show (kernV d x.2 lev).2 = 0
    rw [kernV, hf, h.2]; rfl
theorem wsum_eq {d : FaceD} (hf : faceB d = true) (lev : Int) : ∀ (xs : List (Int × Int)) (acc : Int) (N : Nat), (∀ x ∈ xs, hasB d.font x.1 = true ∧ fixB x.2 = true) → acc.natAbs + xs.length * 30000000000000 ≤ N → N ≤ 4000000000000000000 → wsum d lev acc xs = some (acc + tOf d lev xs) ∧ (acc + tOf d lev xs).natAbs ≤ N
  | [], acc, N, hx, h, hN => by simp [wsum, tOf] at h ⊢; omega
  | x :: xs, acc, N, hx, h, hN => by
    have h1 : (tellS d 0 x.1 lev).1.natAbs ≤ 26843613108865 := width_abs hf x.1 lev
    have h2 : (tellS d 1 x.2 lev).1.natAbs ≤ 26910654865 := kern_abs hf x.2 lev
    rw [List.length_cons, Nat.add_mul] at h
    have e1 : wrap64 ((tellS d 0 x.1 lev).1 + (tellS d 1 x.2 lev).1) = (tellS d 0 x.1 lev).1 + (tellS d 1 x.2 lev).1 := wrap64_at (by omega)
    have e2 : wrap64 (acc + ((tellS d 0 x.1 lev).1 + (tellS d 1 x.2 lev).1)) = acc + ((tellS d 0 x.1 lev).1 + (tellS d 1 x.2 lev).1) := wrap64_at (by omega)
    obtain ⟨i1, i2⟩ := wsum_eq hf lev xs (acc + ((tellS d 0 x.1 lev).1 + (tellS d 1 x.2 lev).1)) N (fun y hy => hx y (by simp [hy])) (by omega) hN
    have e3 : tOf d lev (x :: xs) = ((tellS d 0 x.1 lev).1 + (tellS d 1 x.2 lev).1) + tOf d lev xs := by simp [tOf]
    rw [wsum, if_pos (tell_ok hf (hx x (by simp)) lev), e1, e2, i1, e3]
    rw [Int.add_assoc] at i2 ⊢
    exact ⟨rfl, i2⟩
theorem wide_eq {d : FaceD} (hf : faceB d = true) {s lev : Int} {G : List (List (Int × Int))} (hs : 0 ≤ s ∧ s ≤ 4194304) (hg : GlyOk d.font G) : wideS d s G lev = s * ((G.length : Int) - 1) + tOf d lev G.flatten ∧ (wideS d s G lev).natAbs ≤ 15001000000000000 := by
  have h1 := hg.one
  have hm := hg.most
  have hmax : max ((G.length : Int) - 1) 0 = (G.length : Int) - 1 := by omega
  have h2 : (s * ((G.length : Int) - 1)).natAbs ≤ 4194304 * 110 := mul_abs (by omega) (by omega)
  have hI : wideI s G.length = s * ((G.length : Int) - 1) := by rw [wideI, hmax, wrap64_at (by omega)]
  have hfl := hg.flat
  obtain ⟨i1, i2⟩ := wsum_eq hf lev G.flatten (s * ((G.length : Int) - 1)) 15001000000000000 (fun x hx => by
    obtain ⟨g, hg1, hg2⟩ := List.mem_flatten.1 hx
    exact hg.has g hg1 x hg2) (by omega) (by omega)
  rw [wideS, hI, i1]
  exact ⟨rfl, i2⟩
theorem t_app (d : FaceD) (lev : Int) (xs ys : List (Int × Int)) : tOf d lev (xs ++ ys) = tOf d lev xs + tOf d lev ys := by simp [tOf]
/-- Pieces, one behind the other. -/
theorem adds_eq {d : FaceD} (hf : faceB d = true) {s lev : Int} {X Y : List (List (Int × Int))} (hs : 0 ≤ s ∧ s < 4194304) (hX : GlyOk d.font X) (hY : GlyOk d.font Y) (hZ : GlyOk d.font (X ++ Y)) :
    wideS d s (X ++ Y) lev = wrap64 (wrap64 (wideS d s X lev + s) + wideS d s Y lev) ∧ wideS d s X lev = wrap64 (wideS d 0 X lev + wrap64 (s * ((X.length : Int) - 1))) := by
  obtain ⟨x1, x2⟩ := wide_eq hf (lev := lev) (show 0 ≤ s ∧ s ≤ 4194304 by omega) hX
  obtain ⟨y1, y2⟩ := wide_eq hf (lev := lev) (show 0 ≤ s ∧ s ≤ 4194304 by omega) hY
  obtain ⟨z1, z2⟩ := wide_eq hf (lev := lev) (show 0 ≤ s ∧ s ≤ 4194304 by omega) hZ
  obtain ⟨o1, o2⟩ := wide_eq hf (lev := lev) (show 0 ≤ (0 : Int) ∧ (0 : Int) ≤ 4194304 by omega) hX
  have m1 := hX.one
  have m2 := hX.most
  have h2 : (s * ((X.length : Int) - 1)).natAbs ≤ 4194304 * 110 := mul_abs (by omega) (by omega)
  refine ⟨?_, ?_⟩
  · rw [wrap64_at (x := wideS d s X lev + s) (by omega), wrap64_at (by omega), z1, x1, y1, List.flatten_append, t_app, List.length_append]
    push_cast
    have : s * ((X.length : Int) + (Y.length : Int) - 1) = s * ((X.length : Int) - 1) + s + s * ((Y.length : Int) - 1) := by
      rw [Int.mul_sub, Int.mul_sub, Int.mul_sub, Int.mul_add]; omega
    rw [this]
    omega
  · rw [wrap64_at (x := s * ((X.length : Int) - 1)) (by omega), wrap64_at (by omega), x1, o1]
    omega
end Go.Proofs.Ytndpdbofoojkhaa.Ft
/- The statement FitAdds. -/
namespace Go.Proofs.Ytndpdbofoojkhaa.Ft
open Go.RowKit Go.Proofs.Ytndpdbofoojkhaa.Kit Go.Proofs.Ytndpdbofoojkhaa.Fo Go.Proofs.Ytndpdbofoojkhaa.Lv Go.Proofs.Ytndpdbofoojkhaa.Bad
set_option linter.unusedVariables false
set_option linter.unusedSimpArgs false

/-- A row of slices as cells. -/
def SlC (w : World) (B : Nat) (us : List Value) (P : List (List Int)) : Prop := us.length = P.length ∧ (∀ u ∈ us, u.oneCell' = true) ∧ ∀ (i : Nat) (p : List Int), P[i]? = some p → ∃ A c, us[i]? = some (.slice A p.length c) ∧ p.length ≤ c ∧ c ≤ 9223372036854775807 ∧ Row (Rep.int .i64) w B A p
theorem sl_cells {w : World} {B : Nat} {A : Option Addr} {P : List (List Int)} (h : Row (Rep.int .i64).slice w B A P) : ∃ us, SlC w B us P ∧ Sees w A us := by
  have key : ∀ k, k ≤ P.length → ∃ us, SlC w B us (P.take k) ∧ Sees w A us := by
    intro k
    induction k with
    | zero => intro _; exact ⟨[], ⟨by simp, by simp, fun i p hp => by simp at hp⟩, fun j v hv => by simp at hv⟩
    | succ k ih =>
      intro hk
      obtain ⟨us, ⟨h1, h2, h3⟩, h4⟩ := ih (by omega)
      obtain ⟨p, hp⟩ := at_lt (show k < P.length by omega)
      obtain ⟨b, o, cs, e, hb, ⟨A', c', rfl, k1, k2, k3⟩, hc⟩ := h k p hp
      have hl : us.length = k := by rw [h1, List.length_take]; omega
      refine ⟨us ++ [.slice A' p.length c'], ⟨by rw [List.length_append, hl, List.length_take]; simp; omega, fun u hu => ?_, fun i q hq => ?_⟩, fun j v hv => ?_⟩
      · rcases List.mem_append.1 hu with hu | hu
        · exact h2 u hu
        · rw [List.mem_singleton.1 hu]; rfl
      · by_cases hi : i < k
        · have hq' : (P.take k)[i]? = some q := by
            rw [List.getElem?_take] at hq ⊢
            rw [if_pos (by omega)] at hq
            rw [if_pos hi]; exact hq
          obtain ⟨A2, c2, g1, g2, g3, g4⟩ := h3 i q hq'
          exact ⟨A2, c2, by rw [List.getElem?_append_left (by omega)]; exact g1, g2, g3, g4⟩
        · have hi2 : i < k + 1 := by have := (List.getElem?_eq_some_iff.1 hq).1; rw [List.length_take] at this; omega
          have : i = k := by omega
          subst this
          rw [List.getElem?_take, if_pos (by omega), hp] at hq
          cases hq
          exact ⟨A', c', by rw [List.getElem?_append_right (by omega), hl, Nat.sub_self]; rfl, k1, k2, k3⟩
      · by_cases hj : j < us.length
        · rw [List.getElem?_append_left hj] at hv
          exact h4 j v hv
        · have hj2 : j = k := by have := (List.getElem?_eq_some_iff.1 hv).1; simp at this; omega
          rw [List.getElem?_append_right (by omega), hl, hj2, Nat.sub_self] at hv
          cases hv
          refine ⟨b, o, e, ?_⟩
          have := hc 0 _ rfl
          rw [show (Rep.int .i64).slice.n = 1 from rfl, Nat.mul_one, Nat.add_zero] at this
          rw [hj2]; exact this
  obtain ⟨us, h1, h2⟩ := key P.length (Nat.le_refl _)
  rw [List.take_length] at h1
  exact ⟨us, h1, h2⟩
theorem SlC.on {w w' : World} {B : Nat} {us : List Value} {P : List (List Int)} (h : SlC w B us P) (hb : Below B w w') : SlC w' B us P :=
  ⟨h.1, h.2.1, fun i p hp => by
    obtain ⟨A, c, h1, h2, h3, h4⟩ := h.2.2 i p hp
    exact ⟨A, c, h1, h2, h3, h4.mono hb⟩⟩
theorem SlC.app {w : World} {B : Nat} {us vs : List Value} {P Q : List (List Int)} (h : SlC w B us P) (k : SlC w B vs Q) : SlC w B (us ++ vs) (P ++ Q) := by
  refine ⟨by rw [List.length_append, List.length_append, h.1, k.1], fun u hu => (List.mem_append.1 hu).elim (h.2.1 u) (k.2.1 u), fun i p hp => ?_⟩
  by_cases hi : i < P.length
  · rw [List.getElem?_append_left hi] at hp
    obtain ⟨A, c, h1, h2⟩ := h.2.2 i p hp
    exact ⟨A, c, by rw [List.getElem?_append_left (by rw [h.1]; exact hi)]; exact h1, h2⟩
  · rw [List.getElem?_append_right (by omega)] at hp
    obtain ⟨A, c, h1, h2⟩ := k.2.2 _ p hp
    exact ⟨A, c, by rw [List.getElem?_append_right (by rw [h.1]; omega), h.1]; exact h1, h2⟩
theorem own_slices {w : World} {base n B : Nat} {e : TypeId} {v : Value} {us : List Value} {P : List (List Int)} (h : w.ownsRow base e 1 v n us) (hs : SlC w B us P) (hB : B ≤ w.heap.size) : ∃ A c, v = .slice A P.length c ∧ Row (Rep.int .i64).slice w w.heap.size A P := by
  have hn : n = P.length := by have := h.1; rw [hs.1] at this; omega
  subst hn
  rcases h.2 with ⟨rfl, h0⟩ | ⟨g, cap, cur, rfl, hb, hg, _⟩
  · have : P = [] := List.eq_nil_of_length_eq_zero h0
    subst this
    exact ⟨none, 0, rfl, fun i x hx => by simp at hx⟩
  · refine ⟨_, cap, rfl, fun i p hp => ?_⟩
    obtain ⟨A, c, h1, h2, h3, h4⟩ := hs.2.2 i p hp
    have hi : i < P.length := (List.getElem?_eq_some_iff.1 hp).1
    have hc := h.cellAt (g := g) (cap := cap) i (by omega)
    rw [h1] at hc
    refine ⟨g, 0, [.slice A p.length c], rfl, (Array.getElem?_eq_some_iff.1 hg).1, ⟨A, c, rfl, h2, h3, h4.up hB⟩, fun j u hu => ?_⟩
    obtain ⟨hj, rfl⟩ := List.getElem?_eq_some_iff.1 hu
    have hj0 : j = 0 := by simp at hj; exact hj
    subst hj0
    rw [show (Rep.int .i64).slice.n = 1 from rfl, Nat.mul_one, Nat.add_zero, Nat.zero_add]
    exact hc
theorem below_both {B : Nat} {w a b : World} (h : Below B w a) (k : Below B w b) (hs : a.heap.size ≤ b.heap.size) : Below B a b :=
  ⟨k.os.trans h.os.symm, k.tape.trans h.tape.symm, k.output.trans h.output.symm, hs, fun i hi => (k.block i hi).trans (h.block i hi).symm⟩
theorem wide_c {d : FaceD} {a : FaceA} {r m n : Nat} {sp lev : Int} {Ag : Option Addr} {cg : Nat} {G : List (List (Int × Int))} {w : World} {Q : Nat → Prop} (hf : faceB d = true) (hR : Rul d a r m n w) (hQ : ∀ b, Q b → b ≠ m) (hG : GG Q w Ag G) (hg : GlyOk d.font G) (hle : (Lit.int .i64 lev).wf = true) (hn : n ≤ 100000) {v : Int} (hv : wideS d sp G lev = v) :
    Calls Try.prog 11 #[.pointer (some ⟨r, 0, none⟩), .int .i64 sp, .slice Ag G.length cg, .int .i64 lev] w fun e w' => e = .returned (.int .i64 v) ∧ Rul d a r m (n + 1000) w' ∧ Off m w w' := by
  have hfl := hg.flat
  have hm := hg.most
  subst hv
  refine (wide_any d a r m n sp lev Ag cg G w hf hR hQ hG (gly_wf (lig_tfm (face_ok hf).1) hg) hle (by omega) (fun g h => by have := flat_each G g h; omega) (by omega)).mono ?_
  rintro e w' ⟨h1, h2, h3⟩
  exact ⟨h1, h2.more (by omega), h3⟩
theorem info_is : (Try.prog.info? 23).map (fun i => (i.zero, i.size, i.bytes)) = some (some (.slice none 0 0), 1, 24) := by kernel_rfl
set_option maxRecDepth 100000 in
set_option maxHeartbeats 8000000 in
theorem adds_walk (c0 : Array Value) (x0 : FaceT) (A1 : Option Addr) (n1 k1 : Nat) (L1 : List (List Int)) (A2 : Option Addr) (n2 k2 : Nat) (L2 : List (List Int)) (sp lev : Int) (w : World) (h0 : faceR.K w w.heap.size c0.toList x0) (h1 : (Rep.int .i64).slice.slice.K w w.heap.size [.slice A1 n1 k1] L1) (h2 : (Rep.int .i64).slice.slice.K w w.heap.size [.slice A2 n2 k2] L2) (hsp : (Lit.int .u32 sp).wf = true) (hle : (Lit.int .i64 lev).wf = true) :
    Calls Try.prog 4 #[.agg c0, .slice A1 n1 k1, .slice A2 n2 k2, .int .u32 sp, .int .i64 lev] w fun e w' => e = .returned (.bool true) ∧ Below w.heap.size w w' := by
  obtain ⟨d, a, rfl, hF⟩ := face_of h0
  obtain ⟨rfl, hc1, hc1', hr1⟩ := slice_of h1
  obtain ⟨rfl, hc2, hc2', hr2⟩ := slice_of h2
  obtain ⟨q1, q2⟩ := u32_of hsp
  clear h0 h1 h2 hsp
  have hbx := Box.new w (faceCells d a) 29
  have hbw := below_alloc (Below.refl w.heap.size w) (.cells (faceCells d a) 29)
  obtain ⟨W1, hW⟩ : ∃ W1, w.alloc (.cells (faceCells d a) 29) = W1 := ⟨_, rfl⟩
  rw [hW] at hbx hbw
  have HW := Lib.hid hW
  have hl1 : L1.length ≤ 9223372036854775807 := by omega
  have hl2 : L2.length ≤ 9223372036854775807 := by omega
  have HF := Lib.hid hF
  have HR1 := Lib.hid hr1
  have HR2 := Lib.hid hr2
  clear hF hr1 hr2 hW hc1 hc1' hc2 hc2'
  go_enter Try.func4, Try.ntmps4
  go_wp2_with fail
  rw [HW.out]
  with_reducible refine (awake_any W1).mono ?_
  rintro e w2 ⟨rfl, hb2⟩
  have hw2 := hbw.trans (hb2.mono hbw.size)
  have hbx2 := hbx.below hb2
  have hld := load_face hbx2
  have HFew := Lib.hid (few_any d a w2)
  obtain ⟨fv, hfv⟩ : ∃ fv, Hid (faceV d a = fv) := ⟨_, Lib.hid rfl⟩
  rw [hfv.out] at hld HFew
  clear hb2 hbx hbw HW
  cases hfew : fewB d with
  | false =>
    rw [hfew] at HFew
    clear hfew
    go_wp2_with (refine ld_any hld rfl _ rfl rfl ?_)
    with_reducible refine HFew.out.mono ?_
    rintro e w3 ⟨rfl, hb3⟩
    clear hld HFew
    go_wp2_with fail
    go_ret
    exact ⟨rfl, below_join hw2 hb3⟩
  | true =>
    rw [hfew] at HFew
    have HSm := Lib.hid (small_few hfew)
    clear hfew
    go_wp2_with (refine ld_any hld rfl _ rfl rfl ?_)
    with_reducible refine HFew.out.mono ?_
    rintro e w3 ⟨rfl, hb3⟩
    have hw3 := below_join hw2 hb3
    have hbx3 := hbx2.below hb3
    have hld3 := load_face hbx3
    rw [hfv.out] at hld3
    have HG1 := Lib.hid (few18_any A1 k1 L1 w3 (heads_row hw3.size (HR1.out.mono hw3)) hl1)
    have HG2 := Lib.hid (few18_any A2 k2 L2 w3 (heads_row hw3.size (HR2.out.mono hw3)) hl2)
    clear hld HFew hb3 hw2 hbx2
    cases hf1 : few18 L1 with
    | false =>
      rw [hf1] at HG1
      clear hf1 HG2
      go_wp2_with fail
      with_reducible refine HG1.out.mono ?_
      rintro e w4 ⟨rfl, rfl⟩
      clear HG1
      go_wp2_with fail
      go_ret
      exact ⟨rfl, hw3⟩
    | true =>
      rw [hf1] at HG1
      have HL1 := Lib.hid (few18_all.1 hf1)
      clear hf1
      go_wp2_with fail
      with_reducible refine HG1.out.mono ?_
      rintro e w4 ⟨rfl, rfl⟩
      clear HG1
      cases hf2 : few18 L2 with
      | false =>
        rw [hf2] at HG2
        clear hf2
        go_wp2_with fail
        with_reducible refine HG2.out.mono ?_
        rintro e w5 ⟨rfl, rfl⟩
        clear HG2
        go_wp2_with fail
        go_ret
        exact ⟨rfl, hw3⟩
      | true =>
        rw [hf2] at HG2
        have HL2 := Lib.hid (few18_all.1 hf2)
        clear hf2
        go_wp2_with fail
        with_reducible refine HG2.out.mono ?_
        rintro e w5 ⟨rfl, rfl⟩
        clear HG2
        have HNw := Lib.hid (new_any d a w3 hw3.size (HF.out.mono hw3) HSm.out)
        rw [hfv.out] at HNw
        go_wp2_with (refine ld_any hld3 rfl _ rfl rfl ?_)
        with_reducible refine HNw.out.mono ?_
        rintro e w6 ⟨hno, hyes, hb6⟩
        have hw6 := below_join hw3 hb6
        clear hld3 HNw hb6 hbx3
        cases hfb : faceB d with
        | false =>
          obtain rfl := hno hfb
          clear hno hyes hfb
          go_wp2_with fail
          go_ret
          exact ⟨rfl, hw6⟩
        | true =>
          obtain ⟨r, m, a', rfl, hR, hm1, hmr⟩ := hyes hfb
          have HFB := Lib.hid hfb
          clear hno hyes hfb
          have hm6 := hR.lt
          have hwm : w.heap.size ≤ m := Nat.le_trans hw3.size hm1
          have HGa := Lib.hid (glyphs_any d a' r m 0 A1 k1 L1 w6 hR (B := w.heap.size) hw6.size (HR1.out.mono hw6) (by have := HL1.out.1; omega) (fun x hx => by have := HL1.out.2 x hx; omega))
          have HRa := Lib.hid hR
          clear hR hw3
          obtain ⟨E1, hE1⟩ : ∃ E, Hid (allE d.font L1 = E) := ⟨_, Lib.hid rfl⟩
          obtain ⟨E2, hE2⟩ : ∃ E, Hid (allE d.font L2 = E) := ⟨_, Lib.hid rfl⟩
          obtain ⟨E3, hE3⟩ : ∃ E, Hid (allE d.font (L1 ++ L2) = E) := ⟨_, Lib.hid rfl⟩
          obtain ⟨X, hX⟩ : ∃ X, Hid (allG d.font L1 = X) := ⟨_, Lib.hid rfl⟩
          obtain ⟨Y, hY⟩ : ∃ X, Hid (allG d.font L2 = X) := ⟨_, Lib.hid rfl⟩
          obtain ⟨Z, hZ⟩ : ∃ X, Hid (allG d.font (L1 ++ L2) = X) := ⟨_, Lib.hid rfl⟩
          rw [hE1.out, hX.out] at HGa
          go_wp2_with fail
          with_reducible refine HGa.out.mono ?_
          rintro e w7 ⟨Ax, cx, rfl, hgx, hb7⟩
          have HR7 := Lib.hid (HRa.out.off hb7)
          have hw7 := below_join hw6 hb7
          have HGb := Lib.hid (glyphs_any d a' r m 0 A2 k2 L2 w7 HR7.out (B := w.heap.size) hw7.size (HR2.out.mono hw7) (by have := HL2.out.1; omega) (fun x hx => by have := HL2.out.2 x hx; omega))
          rw [hE2.out, hY.out] at HGb
          have hs7 := hb7.size
          clear HGa hb7 HRa
          go_wp2_with fail
          with_reducible refine HGb.out.mono ?_
          rintro e w8 ⟨Ay, cy, rfl, hgy, hb8⟩
          have HR8 := Lib.hid (HR7.out.off hb8)
          have hw8 := below_join hw7 hb8
          have HGX := Lib.hid ((hgx.below hb8).keep (Q := fun b => w6.heap.size ≤ b) (Nat.le_refl _) fun b hb _ => ⟨rfl, hb⟩)
          have HGY := Lib.hid (hgy.keep (Q := fun b => w6.heap.size ≤ b) (Nat.le_refl _) fun b hb _ => ⟨rfl, by omega⟩)
          have hs8 := hb8.size
          clear HGb hb8 HR7 hgx hgy hw7 hw6
          obtain ⟨us1, hc1, hse1⟩ := sl_cells (HR1.out.mono (below_alloc hw8 (.cells #[] 23)))
          have HC1 := Lib.hid hc1
          have HS1 := Lib.hid hse1
          have h11 := HL1.out.1
          have h21 := HL2.out.1
          have HA1 : Hid (A1 = none → L1.length = 0) := Lib.hid (row_none HR1.out)
          have HA2 : Hid (A2 = none → L2.length = 0) := Lib.hid (row_none HR2.out)
          clear hc1 hse1
          go_wp2_with (first
            | (at_builtin
               refine wpList_append_seen rfl (.tmp 67) (.tmp 68) _ rfl w8.heap.size 23 _ 1 24 Try.underlying33 info_is rfl (by decide) _ 0 [] rfl (World.ownsRow_made w8 #[] 0 (Nat.le_refl _) (Nat.zero_le _) rfl) A1 L1.length k1 us1 rfl (by rw [HC1.out.1]; omega) HS1.out HC1.out.2.1 (by omega) (by omega) (by simp) HA1.out ?_
               intro v5 w9 hown5 hg5 ha5
               have hb9 : Below w8.heap.size w8 w9 := (below_alloc (Below.refl _ _) _).grown hg5 (by simp) (fun kk e => by
                 have : w8.heap.size = kk := Option.some.inj (show some w8.heap.size = some kk from e)
                 omega)
               have hw9 := below_join hw8 hb9
               obtain ⟨us2, hc2, hse2⟩ := sl_cells (HR2.out.mono hw9)
               have HC2 := Lib.hid hc2
               have HS2 := Lib.hid hse2
               have HO5 := Lib.hid hown5
               have HB9 := Lib.hid hb9
               have HW9 := Lib.hid hw9
               have HS95 := Lib.hid hg5.size
               clear hown5 hg5 ha5 hc2 hse2 hb9 hw9)
            | (at_builtin
               refine wpList_append_seen rfl (.tmp 69) (.tmp 70) _ rfl w8.heap.size 23 _ 1 24 Try.underlying33 info_is rfl (by decide) _ (0 + L1.length) ([] ++ us1) rfl HO5.out A2 L2.length k2 us2 rfl (by rw [HC2.out.1]; omega) HS2.out HC2.out.2.1 (by omega) (by omega) HB9.out.size HA2.out ?_
               intro v6 w10 hown6 hg6 ha6
               have hb10 : Below w8.heap.size w8 w10 := HB9.out.grown hg6 HB9.out.size (fun kk e => own_base HO5.out kk e)
               have HB10 := Lib.hid hb10
               have hw10 := below_join hw8 hb10
               have HW10 := Lib.hid hw10
               have hsl := ((HC1.out.on (below_both (below_alloc hw8 _) hw10 (Nat.le_trans HS95.out hg6.size))).app (HC2.out.on (below_both HW9.out hw10 hg6.size)) : SlC w10 w.heap.size (us1 ++ us2) (L1 ++ L2))
               obtain ⟨Az, cz, rfl, hrz⟩ := own_slices (by rw [List.nil_append] at hown6; exact hown6) hsl hw10.size
               have HRZ := Lib.hid hrz
               clear hown6 hg6 ha6 hb10 hw10 hsl hrz))
          have HRc := Lib.hid (HR8.out.off HB10.out)
          have HGc := Lib.hid (glyphs_any d a' r m 0 Az cz (L1 ++ L2) w10 HRc.out (B := w10.heap.size) (Nat.le_refl _) HRZ.out (by rw [List.length_append]; omega) (fun x hx => by
            rcases List.mem_append.1 hx with hx | hx
            · have := HL1.out.2 x hx; omega
            · have := HL2.out.2 x hx; omega))
          rw [hE3.out, hZ.out, List.length_append] at HGc
          with_reducible refine HGc.out.mono ?_
          rintro e w11 ⟨Az', cz', rfl, hgz, hb11⟩
          have HR11 := Lib.hid (HRc.out.off hb11)
          have hb811 := below_join HB10.out hb11
          have HGX11 := Lib.hid (HGX.out.below hb811)
          have HGY11 := Lib.hid (HGY.out.below hb811)
          have HGZ11 := Lib.hid (hgz.keep (Q := fun b => w6.heap.size ≤ b) (Nat.le_refl _) fun b hb _ => ⟨rfl, by have := HB10.out.size; omega⟩)
          have HW11 := Lib.hid (below_join hw8 hb811)
          have HQm : Hid (∀ b, w6.heap.size ≤ b → b ≠ m) := Lib.hid (fun b hb => by omega)
          clear HGc HRc HRZ HW10 HB10 HS95 HW9 HB9 HO5 HS2 HC2 HA2 HA1 HS1 HC1 HGX HGY HR8 hgz hb11 hb811 hw8
          by_cases e1 : E1 = 0
          · by_cases e2 : E2 = 0
            · by_cases e3 : E3 = 0
              · subst e1 e2 e3
                obtain ⟨_, gx1, gx2⟩ := gly_ok hE1.out
                obtain ⟨_, gy1, gy2⟩ := gly_ok hE2.out
                obtain ⟨_, gz1, gz2⟩ := gly_ok hE3.out
                rw [hX.out] at gx1
                rw [hY.out] at gy1
                rw [hZ.out] at gz1
                rw [← gx1] at gx2
                rw [← gy1] at gy2
                rw [← gz1] at gz2
                have hZa : Z = X ++ Y := by rw [gz1, gx1, gy1, List.map_append]
                have hXl : X.length = L1.length := by rw [gx1, List.length_map]
                obtain ⟨s, hs⟩ : ∃ s, sp % 4194304 = s := ⟨_, rfl⟩
                have hsb : 0 ≤ s ∧ s < 4194304 := by omega
                rw [hZa] at gz2
                obtain ⟨q5, q6⟩ := adds_eq HFB.out (lev := lev) hsb gx2 gy2 gz2
                rw [← hZa] at q5 gz2
                rw [hXl] at q6
                obtain ⟨v1, hv1⟩ : ∃ v, wideS d s X lev = v := ⟨_, rfl⟩
                obtain ⟨v2, hv2⟩ : ∃ v, wideS d s Y lev = v := ⟨_, rfl⟩
                obtain ⟨v4, hv4⟩ : ∃ v, wideS d 0 X lev = v := ⟨_, rfl⟩
                rw [hv1, hv2] at q5
                rw [hv1, hv4] at q6
                have HGx := Lib.hid gx2
                have HGy := Lib.hid gy2
                have HGz := Lib.hid gz2
                have HV1 := Lib.hid hv1
                have HV2 := Lib.hid hv2
                have HV4 := Lib.hid hv4
                obtain ⟨t1, ht1⟩ : ∃ t, wrap64 (v1 + s) = t := ⟨_, rfl⟩
                rw [ht1] at q5
                obtain ⟨t2, ht2⟩ : ∃ t, wrap64 (t1 + v2) = t := ⟨_, rfl⟩
                rw [ht2] at q5
                obtain ⟨t3, ht3⟩ : ∃ t, wrap64 (s * ((L1.length : Int) - 1)) = t := ⟨_, rfl⟩
                rw [ht3] at q6
                have HV3 := Lib.hid q5
                have HQ6 : Hid (wrap64 (v4 + t3) = v1) := Lib.hid q6.symm
                have hl13 := h11
                have C1 := Lib.hid (wide_c (cg := cx) (sp := s) HFB.out HR11.out HQm.out HGX11.out HGx.out hle (by omega) HV1.out)
                clear gx1 gy1 gz1 gx2 gy2 gz2 hZa hXl q5 q6 hv1 hv2 hv4
                go_wp2_with fail
                rw [hs]
                with_reducible refine C1.out.mono ?_
                rintro e w12 ⟨rfl, hR12, hO12⟩
                have C2 := Lib.hid (wide_c (cg := cy) (sp := s) HFB.out hR12 HQm.out (HGY11.out.off hO12 HQm.out) HGy.out hle (by omega) HV2.out)
                have HO12 := Lib.hid hO12
                clear C1 hR12 hO12
                go_wp2_with fail
                with_reducible refine C2.out.mono ?_
                rintro e w13 ⟨rfl, hR13, hO13⟩
                have HO13 := Lib.hid (HO12.out.trans hO13)
                have C3 := Lib.hid (wide_c (cg := cz') (sp := s) HFB.out hR13 HQm.out (HGZ11.out.off HO13.out HQm.out) HGz.out hle (by omega) HV3.out)
                clear C2 hR13 hO13 HO12
                go_wp2_with fail
                with_reducible refine C3.out.mono ?_
                rintro e w14 ⟨rfl, hR14, hO14⟩
                have HO14 := Lib.hid (HO13.out.trans hO14)
                have C4 := Lib.hid (wide_c (cg := cx) (sp := 0) HFB.out hR14 HQm.out (HGX11.out.off HO14.out HQm.out) HGx.out hle (by omega) HV4.out)
                clear C3 hR14 hO14 HO13
                go_wp2_with fail
                with_reducible refine C4.out.mono ?_
                rintro e w15 ⟨rfl, hR15, hO15⟩
                have HO15 := Lib.hid (HO14.out.trans hO15)
                have C5 := Lib.hid (wide_c (cg := cx) (sp := s) HFB.out hR15 HQm.out (HGX11.out.off HO15.out HQm.out) HGx.out hle (by omega) HV1.out)
                have q6' := HQ6.out
                clear C4 hR15 hO15 HO14
                go_wp2_with fail
                with_reducible refine C5.out.mono ?_
                rintro e w16 ⟨rfl, hR16, hO16⟩
                have HO16 := Lib.hid (HO15.out.trans hO16)
                clear C5 hR16 hO16 HO15
                go_wp2_with fail
                go_ret
                exact ⟨rfl, Off.below HW11.out HO16.out hwm HW11.out.size⟩
              · have F3 : (E3 != 0) = true := by simpa using e3
                subst e1 e2
                clear e3
                go_wp2_with fail
                go_ret
                exact ⟨rfl, HW11.out⟩
            · have F2 : (E2 != 0) = true := by simpa using e2
              subst e1
              clear e2
              go_wp2_with fail
              go_ret
              exact ⟨rfl, HW11.out⟩
          · have F1 : (E1 != 0) = true := by simpa using e1
            clear e1
            go_wp2_with fail
            go_ret
            exact ⟨rfl, HW11.out⟩
end Go.Proofs.Ytndpdbofoojkhaa.Ft
