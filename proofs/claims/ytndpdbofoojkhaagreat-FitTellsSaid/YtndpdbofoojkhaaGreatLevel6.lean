/- A character's width at a level: of a face that may be, that has it. -/
import Derived.Test.YtndpdbofoojkhaaGreatLevel5
import Derived.Deep.RegionHeld3
import Derived.Deep.DeepCutAuto
import Derived.Deep.MidRow
namespace Go.Proofs.YtndpdbofoojkhaaGreat.Lv
open Go.RowKit Go.Proofs.YtndpdbofoojkhaaGreat.Kit Go.Proofs.YtndpdbofoojkhaaGreat.Fo
set_option linter.unusedVariables false
set_option linter.unusedSimpArgs false

abbrev faceL (d : FaceD) (a : FaceA) : List Value := [.int .i64 d.font.sum, .int .i64 d.font.design, .int .i64 d.font.first, .slice a.font.c d.font.chars.length a.font.cc, .slice a.font.w d.font.widths.length a.font.cw, .slice a.font.h d.font.heights.length a.font.ch, .slice a.font.d d.font.depths.length a.font.cd, .slice a.font.i d.font.italics.length a.font.ci, .slice a.font.s d.font.steps.length a.font.cs, .slice a.font.k d.font.kerns.length a.font.ck, .slice a.font.p d.font.params.length a.font.cp, .int .i64 d.size, .int .i64 d.step, .int .i64 d.up, .int .i64 d.down, .slice a.t d.traits.length a.ct]
abbrev atL (d : FaceD) (a : FaceA) (n : Int) : List Value := [.int .i64 d.font.sum, .int .i64 d.font.design, .int .i64 d.font.first, .slice a.font.c d.font.chars.length a.font.cc, .slice a.font.w d.font.widths.length a.font.cw, .slice a.font.h d.font.heights.length a.font.ch, .slice a.font.d d.font.depths.length a.font.cd, .slice a.font.i d.font.italics.length a.font.ci, .slice a.font.s d.font.steps.length a.font.cs, .slice a.font.k d.font.kerns.length a.font.ck, .slice a.font.p d.font.params.length a.font.cp, .int .i64 d.size, .int .i64 d.step, .int .i64 d.up, .int .i64 d.down, .slice a.t d.traits.length a.ct, .int .i64 n]
theorem rangeAt_box {w : World} {g : Nat} {cs : List Value} {t : TypeId} (h : Box w g cs.toArray t) : w.rangeAt g 0 cs := fun j v hv => by
  rw [Nat.zero_add]
  exact h.cell j (by simpa using hv)
theorem rangeAt_on {W w : World} {g : Nat} {cs : List Value} (hb : Below W.heap.size W w) (h : W.rangeAt g 0 cs) : w.rangeAt g 0 cs := fun j v hv => later hb (h j v hv)
theorem there_on {W w : World} {g n : Nat} (hb : Below W.heap.size W w) (h : W.there g 0 n) : w.there g 0 n := fun j hj => by
  obtain ⟨h1, h2⟩ := h j hj
  obtain ⟨v, hv⟩ := Option.isSome_iff_exists.1 h1
  obtain ⟨hc, hf⟩ := bcell hb
  have hl := World.block_lt_of_cell? W _ hv
  rw [hc _ _ hl, hf _ _ hl]
  exact ⟨h1, h2⟩
theorem there_box {w : World} {g : Nat} {cs : Array Value} {t : TypeId} (h : Box w g cs t) : w.there g 0 cs.size := fun j hj => by
  rw [Nat.zero_add]
  refine ⟨?_, h.free j⟩
  rw [h.cell j (Array.getElem?_eq_getElem hj)]
  rfl
theorem there_box2 {w : World} {g n : Nat} {cs : Array Value} {t : TypeId} (h : Box w g cs t) (hn : cs.size = n) : w.there g 0 n := hn ▸ there_box h
theorem below_sets {W : World} {g : Nat} (hg : W.heap.size ≤ g) : ∀ (vs : List Value) (o : Nat) {w : World}, Below W.heap.size W w → Below W.heap.size W (w.setCells g o vs)
  | [], _, _, h => h
  | v :: r, o, _, h => below_sets hg r (o + 1) (below_set h hg v)
def setR : Array Value → Nat → List Value → Array Value
  | cs, _, [] => cs
  | cs, o, v :: r => setR (cs.setIfInBounds o v) (o + 1) r
theorem Box.sets {g : Nat} {t : TypeId} : ∀ (vs : List Value) (o : Nat) (cs : Array Value) (w : World), Box w g cs t → Box (w.setCells g o vs) g (setR cs o vs) t
  | [], _, _, _, h => h
  | v :: r, o, cs, w, h => Box.sets r (o + 1) _ _ (h.set o v)
abbrev zeroAt : Array Value := #[.int .i64 0, .int .i64 0, .int .i64 0, .slice none 0 0, .slice none 0 0, .slice none 0 0, .slice none 0 0, .slice none 0 0, .slice none 0 0, .slice none 0 0, .slice none 0 0, .int .i64 0, .int .i64 0, .int .i64 0, .int .i64 0, .slice none 0 0, .int .i64 0]
theorem at_set (d : FaceD) (a : FaceA) (n : Int) : setR zeroAt 0 (atL d a n) = atCells d a n := by
  simp only [setR, zeroAt, atL, List.setIfInBounds_toArray, List.set_cons_zero, List.set_cons_succ]
theorem field_trait (a b c d : Int) (w : World) : (Instr.field 63 (.agg #[.int .i64 a, .int .i64 b, .int .i64 c, .int .i64 d]) 1).run Tryz.prog w = .ok (.int .i64 b) w := by kernel_rfl
def tl : Code → Code
  | .seq _ b => b
  | c => c
set_option maxRecDepth 100000 in
set_option maxHeartbeats 4000000 in
theorem width_rest (d : FaceD) (a : FaceA) (code n : Int) (g : Nat) (w wc : World) {B : Nat} (hB : B ≤ w.heap.size) (hc : (Lit.int .i64 code).wf = true) (HFF : Hid (∀ W, Below w.heap.size w W → FaceIn W B d a)) (HT : Hid (tfmB d.font = true)) (HQ : Hid (hasB d.font code = true))
    (hA : Box wc g (atCells d a (clampP d n)) 145) (hwc : Below w.heap.size w wc) (Q : Exit → Act → World → Prop) (s0 s2 s3 s4 s5 s6 s7 s9 s10 s11 s12 s13 s14 s15 s16 s17 s18 s19 s20 s21 s22 s23 s24 s25 s26 s27 s28 s29 s30 s31 s32 s33 s34 s35 s36 s37 s38 s39 s40 s41 s42 s43 s44 s45 s46 s47 s48 s49 s50 s51 s52 s53 s54 s55 s56 s57 s58 s59 s60 : Value)
    (hQ : ∀ (t : Array Value) (w' : World), t.getD 6 undef = .int .i64 (wideP d code n) → t.getD 7 undef = .int .i64 0 → Below w.heap.size w w' → Q .ret { tmps := t, defers := [] } w') :
    (tl (tl (tl (Tryz.f54.body.getD .ret)))).wp Tryz.prog Q { tmps := #[s0, .int .i64 code, s2, s3, s4, s5, s6, s7, .pointer (some ⟨g, 0, none⟩), s9, s10, s11, s12, s13, s14, s15, s16, s17, s18, s19, s20, s21, s22, s23, s24, s25, s26, s27, s28, s29, s30, s31, s32, s33, s34, s35, s36, s37, s38, s39, s40, s41, s42, s43, s44, s45, s46, s47, s48, s49, s50, s51, s52, s53, s54, s55, s56, s57, s58, s59, s60], defers := [] } wc := by
  have hQ := Lib.hid hQ
  dsimp only [tl, Tryz.f54, Option.getD_some]
  have hFc := HFF.out wc hwc
  obtain ⟨s1, s2, s3, s4, s5, s6, s7⟩ := tfm_sizes HT.out
  have hqq := HQ.out
  unfold hasB at hqq
  simp only [Bool.and_eq_true, decide_eq_true_eq] at hqq
  obtain ⟨⟨q1, q2⟩, q3⟩ := hqq
  obtain ⟨k, hcode⟩ : ∃ k : Nat, code - d.font.first = k := ⟨(code - d.font.first).toNat, by omega⟩
  have hk : k < d.font.chars.length := by omega
  obtain ⟨c, hck⟩ := at_lt hk
  obtain ⟨x1, x2⟩ := width_ok HT.out hck
  obtain ⟨j, hj⟩ : ∃ j : Nat, c.1 = j := ⟨c.1.toNat, by omega⟩
  have hjl : j < d.font.widths.length := by omega
  obtain ⟨x, hxj⟩ := at_lt hjl
  have HX : Hid (fixOf d.font code = x) := Lib.hid (by
    have e : (code - d.font.first).toNat = k := by omega
    simp [fixOf, widthOf, e, List.getD_eq_getElem?_getD, hck, hj, hxj])
  obtain ⟨b1, o1, hA1, hl1, ⟨e0, _⟩, _⟩ := char_at hFc.font.chars hck
  obtain ⟨b2, o2, hA2, hl2, e1, _⟩ := int_at hFc.font.widths hxj
  rw [hj] at e0
  have f0 : wc.cell? ⟨g, 0, none⟩ = some (.int .i64 d.font.sum) := hA.cell 0 rfl
  have f1 : wc.cell? ⟨g, 1, none⟩ = some (.int .i64 d.font.design) := hA.cell 1 rfl
  have f2 : wc.cell? ⟨g, 2, none⟩ = some (.int .i64 d.font.first) := hA.cell 2 rfl
  have f3 : wc.cell? ⟨g, 3, none⟩ = some (.slice a.font.c d.font.chars.length a.font.cc) := hA.cell 3 rfl
  have f4 : wc.cell? ⟨g, 4, none⟩ = some (.slice a.font.w d.font.widths.length a.font.cw) := hA.cell 4 rfl
  have f5 : wc.cell? ⟨g, 5, none⟩ = some (.slice a.font.h d.font.heights.length a.font.ch) := hA.cell 5 rfl
  have f6 : wc.cell? ⟨g, 6, none⟩ = some (.slice a.font.d d.font.depths.length a.font.cd) := hA.cell 6 rfl
  have f7 : wc.cell? ⟨g, 7, none⟩ = some (.slice a.font.i d.font.italics.length a.font.ci) := hA.cell 7 rfl
  have f8 : wc.cell? ⟨g, 8, none⟩ = some (.slice a.font.s d.font.steps.length a.font.cs) := hA.cell 8 rfl
  have f9 : wc.cell? ⟨g, 9, none⟩ = some (.slice a.font.k d.font.kerns.length a.font.ck) := hA.cell 9 rfl
  have f10 : wc.cell? ⟨g, 10, none⟩ = some (.slice a.font.p d.font.params.length a.font.cp) := hA.cell 10 rfl
  have f11 : wc.cell? ⟨g, 11, none⟩ = some (.int .i64 d.size) := hA.cell 11 rfl
  have f12 : wc.cell? ⟨g, 12, none⟩ = some (.int .i64 d.step) := hA.cell 12 rfl
  have f13 : wc.cell? ⟨g, 13, none⟩ = some (.int .i64 d.up) := hA.cell 13 rfl
  have f14 : wc.cell? ⟨g, 14, none⟩ = some (.int .i64 d.down) := hA.cell 14 rfl
  have f15 : wc.cell? ⟨g, 15, none⟩ = some (.slice a.t d.traits.length a.ct) := hA.cell 15 rfl
  have f16 : wc.cell? ⟨g, 16, none⟩ = some (.int .i64 (clampP d n)) := hA.cell 16 rfl
  rw [hA1] at f3
  rw [hA2] at f4
  have HP : Hid (∀ w, _) := Lib.hid (points_any d a (clampP d n) x)
  have HTr : Hid (∀ W, Below w.heap.size w W → _) := Lib.hid fun W (hb : Below w.heap.size w W) => trait_any d a (clampP d n) code W (lt_of_below hB hb) (HFF.out W hb)
  unfold atV atCells at HP HTr
  unfold stepV at HTr
  obtain ⟨T, hT⟩ : ∃ T, traitP d.traits code = T := ⟨_, rfl⟩
  rw [hT] at HTr
  rw [hA1, hA2] at HP HTr
  have HK : Hid (∀ w', Below wc.heap.size wc w' → Below wc.heap.size wc w' ∧ w'.cell? ⟨g, 0, none⟩ = some (.int .i64 d.font.sum) ∧ w'.cell? ⟨g, 1, none⟩ = some (.int .i64 d.font.design) ∧ w'.cell? ⟨g, 2, none⟩ = some (.int .i64 d.font.first) ∧ w'.cell? ⟨g, 3, none⟩ = some (.slice (some ⟨b1, o1, none⟩) d.font.chars.length a.font.cc) ∧ w'.cell? ⟨g, 4, none⟩ = some (.slice (some ⟨b2, o2, none⟩) d.font.widths.length a.font.cw) ∧ w'.cell? ⟨g, 5, none⟩ = some (.slice a.font.h d.font.heights.length a.font.ch) ∧ w'.cell? ⟨g, 6, none⟩ = some (.slice a.font.d d.font.depths.length a.font.cd) ∧ w'.cell? ⟨g, 7, none⟩ = some (.slice a.font.i d.font.italics.length a.font.ci) ∧ w'.cell? ⟨g, 8, none⟩ = some (.slice a.font.s d.font.steps.length a.font.cs) ∧ w'.cell? ⟨g, 9, none⟩ = some (.slice a.font.k d.font.kerns.length a.font.ck) ∧ w'.cell? ⟨g, 10, none⟩ = some (.slice a.font.p d.font.params.length a.font.cp) ∧ w'.cell? ⟨g, 11, none⟩ = some (.int .i64 d.size) ∧ w'.cell? ⟨g, 12, none⟩ = some (.int .i64 d.step) ∧ w'.cell? ⟨g, 13, none⟩ = some (.int .i64 d.up) ∧ w'.cell? ⟨g, 14, none⟩ = some (.int .i64 d.down) ∧ w'.cell? ⟨g, 15, none⟩ = some (.slice a.t d.traits.length a.ct) ∧ w'.cell? ⟨g, 16, none⟩ = some (.int .i64 (clampP d n)) ∧ w'.cell? ⟨b1, o1 + k * 6, none⟩ = some (.int .i64 (j : Int)) ∧ w'.cell? ⟨b2, o2 + j, none⟩ = some (.int .i64 x)) := Lib.hid fun w' hb => ⟨hb, later hb f0, later hb f1, later hb f2, later hb f3, later hb f4, later hb f5, later hb f6, later hb f7, later hb f8, later hb f9, later hb f10, later hb f11, later hb f12, later hb f13, later hb f14, later hb f15, later hb f16, later hb e0, later hb e1⟩
  have HK2 : Hid (∀ w', Below wc.heap.size wc w' → Below wc.heap.size wc w' ∧ w'.cell? ⟨g, 0, none⟩ = some (.int .i64 d.font.sum) ∧ w'.cell? ⟨g, 1, none⟩ = some (.int .i64 d.font.design) ∧ w'.cell? ⟨g, 2, none⟩ = some (.int .i64 d.font.first) ∧ w'.cell? ⟨g, 3, none⟩ = some (.slice (some ⟨b1, o1, none⟩) d.font.chars.length a.font.cc) ∧ w'.cell? ⟨g, 4, none⟩ = some (.slice (some ⟨b2, o2, none⟩) d.font.widths.length a.font.cw) ∧ w'.cell? ⟨g, 5, none⟩ = some (.slice a.font.h d.font.heights.length a.font.ch) ∧ w'.cell? ⟨g, 6, none⟩ = some (.slice a.font.d d.font.depths.length a.font.cd) ∧ w'.cell? ⟨g, 7, none⟩ = some (.slice a.font.i d.font.italics.length a.font.ci) ∧ w'.cell? ⟨g, 8, none⟩ = some (.slice a.font.s d.font.steps.length a.font.cs) ∧ w'.cell? ⟨g, 9, none⟩ = some (.slice a.font.k d.font.kerns.length a.font.ck) ∧ w'.cell? ⟨g, 10, none⟩ = some (.slice a.font.p d.font.params.length a.font.cp) ∧ w'.cell? ⟨g, 11, none⟩ = some (.int .i64 d.size) ∧ w'.cell? ⟨g, 12, none⟩ = some (.int .i64 d.step) ∧ w'.cell? ⟨g, 13, none⟩ = some (.int .i64 d.up) ∧ w'.cell? ⟨g, 14, none⟩ = some (.int .i64 d.down) ∧ w'.cell? ⟨g, 15, none⟩ = some (.slice a.t d.traits.length a.ct) ∧ w'.cell? ⟨g, 16, none⟩ = some (.int .i64 (clampP d n))) := Lib.hid fun w' hb => ⟨hb, later hb f0, later hb f1, later hb f2, later hb f3, later hb f4, later hb f5, later hb f6, later hb f7, later hb f8, later hb f9, later hb f10, later hb f11, later hb f12, later hb f13, later hb f14, later hb f15, later hb f16⟩
  have ew : IntKind.i64.wrap (code - d.font.first) = (k : Int) := by rw [IntKind.wrap_i64]; omega
  have ewk : IntKind.i64.wrap (k : Int) = (k : Int) := by rw [IntKind.wrap_i64]; omega
  clear hcode
  have ek0 : (0 : Int) ≤ (k : Int) := by omega
  have ek1 : (k : Int) < (d.font.chars.length : Int) := by omega
  have ej0 : (0 : Int) ≤ (j : Int) := by omega
  have ej1 : (j : Int) < (d.font.widths.length : Int) := by omega
  have i1 : -9223372036854775808 ≤ code := by omega
  have i2 : code ≤ 9223372036854775807 := by omega
  clear hFc hck hxj hj x1 x2 hA1 hA2 HFF hA f0 f1 f2 f3 f4 f5 f6 f7 f8 f9 f10 f11 f12 f13 f14 f15 f16 e0 e1 q3
  go_upto_region 6 with fail
  go_region_held3 (fun w' => Below wc.heap.size wc w' ∧ w'.cell? ⟨g, 0, none⟩ = some (.int .i64 d.font.sum) ∧ w'.cell? ⟨g, 1, none⟩ = some (.int .i64 d.font.design) ∧ w'.cell? ⟨g, 2, none⟩ = some (.int .i64 d.font.first) ∧ w'.cell? ⟨g, 3, none⟩ = some (.slice (some ⟨b1, o1, none⟩) d.font.chars.length a.font.cc) ∧ w'.cell? ⟨g, 4, none⟩ = some (.slice (some ⟨b2, o2, none⟩) d.font.widths.length a.font.cw) ∧ w'.cell? ⟨g, 5, none⟩ = some (.slice a.font.h d.font.heights.length a.font.ch) ∧ w'.cell? ⟨g, 6, none⟩ = some (.slice a.font.d d.font.depths.length a.font.cd) ∧ w'.cell? ⟨g, 7, none⟩ = some (.slice a.font.i d.font.italics.length a.font.ci) ∧ w'.cell? ⟨g, 8, none⟩ = some (.slice a.font.s d.font.steps.length a.font.cs) ∧ w'.cell? ⟨g, 9, none⟩ = some (.slice a.font.k d.font.kerns.length a.font.ck) ∧ w'.cell? ⟨g, 10, none⟩ = some (.slice a.font.p d.font.params.length a.font.cp) ∧ w'.cell? ⟨g, 11, none⟩ = some (.int .i64 d.size) ∧ w'.cell? ⟨g, 12, none⟩ = some (.int .i64 d.step) ∧ w'.cell? ⟨g, 13, none⟩ = some (.int .i64 d.up) ∧ w'.cell? ⟨g, 14, none⟩ = some (.int .i64 d.down) ∧ w'.cell? ⟨g, 15, none⟩ = some (.slice a.t d.traits.length a.ct) ∧ w'.cell? ⟨g, 16, none⟩ = some (.int .i64 (clampP d n)) ∧ w'.cell? ⟨b1, o1 + k * 6, none⟩ = some (.int .i64 (j : Int)) ∧ w'.cell? ⟨b2, o2 + j, none⟩ = some (.int .i64 x))
    (first | exact HK.out _ (by repeat (first | (with_reducible exact Below.refl _ _) | (with_reducible apply below_drew) | (with_reducible refine below_join ?_ (by assumption)) | exact (‹Below wc.heap.size wc _ ∧ _›.1))))
    (first
      | (go_at_call 76; with_reducible refine (HP.out _).mono ?_; rintro e wq ⟨rfl, hbq⟩))
  have HWD : Hid (wideP d code n = IntKind.i64.wrap (fl x d.size 1048576 + fl (fl x d.size 1048576) (IntKind.i64.wrap (IntKind.i64.wrap (clampP d n * d.step) * T.2.1)) 1000000)) := Lib.hid (by rw [wideP, HX.out, hT])
  generalize fl x d.size 1048576 = p at *
  obtain ⟨m1, hm1⟩ : ∃ m, IntKind.i64.wrap (clampP d n * d.step) = m := ⟨_, rfl⟩
  rw [hm1] at HWD
  obtain ⟨m2, hm2⟩ : ∃ m, IntKind.i64.wrap (m1 * T.2.1) = m := ⟨_, rfl⟩
  rw [hm2] at HWD
  obtain ⟨f, hf2⟩ : ∃ f, fl p m2 1000000 = f := ⟨_, rfl⟩
  have HFl : Hid (∀ w, _) := Lib.hid (floor_any p m2 1000000)
  rw [hf2] at HWD HFl
  obtain ⟨r, hr⟩ : ∃ m, IntKind.i64.wrap (p + f) = m := ⟨_, rfl⟩
  rw [hr] at HWD
  clear hf2 hT
  have hfld := field_trait
  go_upto_region 7 with fail
  go_region_held3 (fun w' => Below wc.heap.size wc w' ∧ w'.cell? ⟨g, 0, none⟩ = some (.int .i64 d.font.sum) ∧ w'.cell? ⟨g, 1, none⟩ = some (.int .i64 d.font.design) ∧ w'.cell? ⟨g, 2, none⟩ = some (.int .i64 d.font.first) ∧ w'.cell? ⟨g, 3, none⟩ = some (.slice (some ⟨b1, o1, none⟩) d.font.chars.length a.font.cc) ∧ w'.cell? ⟨g, 4, none⟩ = some (.slice (some ⟨b2, o2, none⟩) d.font.widths.length a.font.cw) ∧ w'.cell? ⟨g, 5, none⟩ = some (.slice a.font.h d.font.heights.length a.font.ch) ∧ w'.cell? ⟨g, 6, none⟩ = some (.slice a.font.d d.font.depths.length a.font.cd) ∧ w'.cell? ⟨g, 7, none⟩ = some (.slice a.font.i d.font.italics.length a.font.ci) ∧ w'.cell? ⟨g, 8, none⟩ = some (.slice a.font.s d.font.steps.length a.font.cs) ∧ w'.cell? ⟨g, 9, none⟩ = some (.slice a.font.k d.font.kerns.length a.font.ck) ∧ w'.cell? ⟨g, 10, none⟩ = some (.slice a.font.p d.font.params.length a.font.cp) ∧ w'.cell? ⟨g, 11, none⟩ = some (.int .i64 d.size) ∧ w'.cell? ⟨g, 12, none⟩ = some (.int .i64 d.step) ∧ w'.cell? ⟨g, 13, none⟩ = some (.int .i64 d.up) ∧ w'.cell? ⟨g, 14, none⟩ = some (.int .i64 d.down) ∧ w'.cell? ⟨g, 15, none⟩ = some (.slice a.t d.traits.length a.ct) ∧ w'.cell? ⟨g, 16, none⟩ = some (.int .i64 (clampP d n)))
    (first | exact HK2.out _ (by repeat (first | (with_reducible exact Below.refl _ _) | (with_reducible apply below_drew) | (with_reducible refine below_join ?_ (by assumption)) | exact (‹Below wc.heap.size wc _ ∧ _›.1))))
    (first
      | (go_at_call 78; have hrl := below_join hwc ‹Below wc.heap.size wc _ ∧ _›.1; with_reducible refine (HTr.out _ hrl).mono ?_; clear hrl; rintro e wq ⟨rfl, hbq⟩)
      | (go_at_call 77; with_reducible refine (HFl.out _).mono ?_; rintro e wq ⟨rfl, hbq⟩))
  have hend := below_join hwc ‹Below wc.heap.size wc _ ∧ _›.1
  go_wp2_with fail
  exact hQ.out _ _ (by show Value.int .i64 _ = _; rw [HWD.out]) rfl hend
end Go.Proofs.YtndpdbofoojkhaaGreat.Lv
