/- joined for a claim: Sets, RLig3 -/
import Derived.Test.YtndpdbofoojkhaaGreatKit
import Derived.Deep.MidRow
import Derived.Deep.RegionHeld3
import Derived.Deep.DeepCutAuto
import Derived.Test.YtndpdbofoojkhaaGreatRLig2
import Derived.Test.YtndpdbofoojkhaaGreatFont9
/- Stores and loads of many cells at once. -/
namespace Go.Proofs.YtndpdbofoojkhaaGreat.Kit
open Go.RowKit
set_option linter.unusedVariables false
set_option linter.unusedSimpArgs false

theorem rangeAt_box {w : World} {g : Nat} {cs : List Value} {t : TypeId} (h : Box w g cs.toArray t) : w.rangeAt g 0 cs := fun j v hv => by
  rw [Nat.zero_add]
  exact h.cell j (by simpa using hv)
theorem rangeAt_on {W w : World} {g : Nat} {cs : List Value} (hb : Below W.heap.size W w) (h : W.rangeAt g 0 cs) : w.rangeAt g 0 cs := fun j v hv => later hb (h j v hv)
theorem there_on {W w : World} {g n : Nat} (hb : Below W.heap.size W w) (h : W.there g 0 n) : w.there g 0 n := fun j hj => by
  obtain ⟨h1, h2⟩ := h j hj
  obtain ⟨v, hv⟩ := Option.isSome_iff_exists.1 h1
  obtain ⟨hc, hf⟩ := bcell hb
  have hl := World.block_lt_of_cell? W _ hv
  rw [hc _ _ hl, hf _ _ hl]
  exact ⟨h1, h2⟩
theorem there_box {w : World} {g : Nat} {cs : Array Value} {t : TypeId} (h : Box w g cs t) : w.there g 0 cs.size := fun j hj => by
  rw [Nat.zero_add]
  refine ⟨?_, h.free j⟩
  rw [h.cell j (Array.getElem?_eq_getElem hj)]
  rfl
theorem there_box2 {w : World} {g n : Nat} {cs : Array Value} {t : TypeId} (h : Box w g cs t) (hn : cs.size = n) : w.there g 0 n := hn ▸ there_box h
theorem below_sets {W : World} {g : Nat} (hg : W.heap.size ≤ g) : ∀ (vs : List Value) (o : Nat) {w : World}, Below W.heap.size W w → Below W.heap.size W (w.setCells g o vs)
  | [], _, _, h => h
  | v :: r, o, _, h => below_sets hg r (o + 1) (below_set h hg v)
def setR : Array Value → Nat → List Value → Array Value
  | cs, _, [] => cs
  | cs, o, v :: r => setR (cs.setIfInBounds o v) (o + 1) r
theorem Box.sets {g : Nat} {t : TypeId} : ∀ (vs : List Value) (o : Nat) (cs : Array Value) (w : World), Box w g cs t → Box (w.setCells g o vs) g (setR cs o vs) t
  | [], _, _, _, h => h
  | v :: r, o, cs, w, h => Box.sets r (o + 1) _ _ (h.set o v)
end Go.Proofs.YtndpdbofoojkhaaGreat.Kit
/- The reference: whether a font's program may be. -/
namespace Go.Proofs.YtndpdbofoojkhaaGreat.RFo
open Go.RowKit Go.Proofs.YtndpdbofoojkhaaGreat.Kit Go.Proofs.YtndpdbofoojkhaaGreat.Fo
set_option linter.unusedVariables false
set_option linter.unusedSimpArgs false

theorem pair_at {w : World} {B : Nat} {A : Option Addr} {l : List PairT} (h : Row pairR w B A l) {i : Nat} {c : PairT} (hx : l[i]? = some c) :
    ∃ b o, A = some ⟨b, o, none⟩ ∧ b < B ∧ (w.cell? ⟨b, o + i * 3, none⟩ = some (.int .i64 c.1) ∧ w.cell? ⟨b, o + i * 3 + 1, none⟩ = some (.int .i64 c.2.1) ∧ w.cell? ⟨b, o + i * 3 + 2, none⟩ = some (.int .i64 c.2.2)) := by
  obtain ⟨b, o, cs, rfl, hb, ⟨c1, r1, rfl, ⟨rfl, w1⟩, c2, r2, rfl, ⟨rfl, w2⟩, rfl, w3⟩, hc⟩ := h i c hx
  exact ⟨b, o, rfl, hb, hc 0 _ rfl, hc 1 _ rfl, hc 2 _ rfl⟩
theorem zero_made : Tryz.zeroCells96 = Fo.seenCells [] := by rw [seen_nil]; kernel_rfl
theorem seen_size (l : List Int) : (Fo.seenCells l).size = 256 := by simp [Fo.seenCells]
theorem built_made : Tryz.prog.built 96 [] = some (Fo.seenCells []) := by rw [seen_nil]; kernel_rfl
theorem set_self {cs : Array Value} {o : Nat} {v : Value} (h : cs[o]? = some v) : cs.setIfInBounds o v = cs := by
  obtain ⟨ho, hv⟩ := Array.getElem?_eq_some_iff.1 h
  apply Array.ext
  · simp
  · intro i h1 h2
    by_cases e : o = i
    · subst e; simp [hv]
    · rw [Array.getElem_setIfInBounds_ne h2 e]
theorem setR_self : ∀ (vs : List Value) (o : Nat) (cs : Array Value), (∀ j v, vs[j]? = some v → cs[o + j]? = some v) → setR cs o vs = cs
  | [], _, _, _ => rfl
  | v :: vs, o, cs, h => by
    have e := set_self (h 0 v rfl)
    simp only [setR]
    rw [Nat.add_zero] at e
    rw [e]
    exact setR_self vs (o + 1) cs fun j v hv => by rw [Nat.add_assoc, Nat.add_comm 1 j]; exact h (j + 1) v hv
theorem seen_again (cs : Array Value) : setR cs 0 cs.toList = cs := setR_self _ _ _ fun j v hv => by rw [Nat.zero_add]; simpa using hv
theorem seen_one : (Fo.seenCells []).all (·.oneCell') = true := by rw [seen_nil]; decide +kernel
theorem made_law {ops : Array Oper} {rest : List Oper} {op : Oper} {a : Act} {w : World} {Q : Exit → Act → World → Prop} (hgd : op.guard = none) (ho : op.op = .build 96 #[]) (h : wpList Tryz.prog ops Q rest (a.put op.dst (.agg (Fo.seenCells []))) w) : wpList Tryz.prog ops Q (op :: rest) a w :=
  wpList_plain hgd fun _ hK => by
    unfold Oper.wp execOp
    have hb := run_build (P := Tryz.prog) w 96 #[] _ built_made
    simp only [ho, Sem.run_bind, List.map_toArray, List.map_nil, hb, Result.andThen_ok]
    exact hK _ _ h
theorem pairs_here {d : FontD} {L : List PairT} {n : Nat} {M : List Int} {p : PairT} (h : L[n]? = some p) : pairsOk d (L.drop n) M = (!pairBadB d M p && pairsOk d (L.drop (n + 1)) (p.2.2 :: M)) := by rw [drop_cons h]; rfl
theorem refB_not {d : FontD} (h : tfmB d = false) : refB d = false := by unfold refB; rw [h]; rfl
theorem refB_chars {d : FontD} (h : charsOk d d.chars = false) : refB d = false := by unfold refB; rw [h]; simp
theorem refB_pairs {d : FontD} (h : tfmB d = true) (hc : charsOk d d.chars = true) : refB d = pairsOk d (pairsP d) [] := by unfold refB; rw [h, hc]; rfl
theorem charsOk_at {d : FontD} {k : Nat} {c : CharT} (h : d.chars[k]? = some c) : charsOk d (d.chars.drop k) = ((allP d c && !((placesP d c).any fun x => opBadB d x.2)) && charsOk d (d.chars.drop (k + 1))) := by
  rw [drop_cons h]; rfl
theorem bad_take {d : FontD} {P : List (Int × StepT)} {m : Nat} {x : Int × StepT} (h : P[m]? = some x) : ((P.take (m + 1)).any fun x => opBadB d x.2) = (((P.take m).any fun x => opBadB d x.2) || opBadB d x.2) := by
  rw [take_at h, List.any_append]; simp
theorem bad_here {d : FontD} {P : List (Int × StepT)} {m : Nat} {x : Int × StepT} (h : P[m]? = some x) (hb : opBadB d x.2 = true) : (P.any fun x => opBadB d x.2) = true :=
  List.any_eq_true.2 ⟨x, List.mem_of_getElem? h, hb⟩

set_option maxRecDepth 10000 in
set_option maxHeartbeats 4000000 in
theorem rlig_any (d : FontD) (a : FontA) (w : World) {B : Nat} (hB : B ≤ w.heap.size) (hF : FontIn w B d a) :
    Calls Tryz.prog 19 #[fontV d a] w fun e w' => e = .returned (.bool (refB d)) ∧ Below w.heap.size w w' := by
  have HFn : Hid (∀ W, Below w.heap.size w W → FontIn W B d a) := Lib.hid fun W hb => hF.mono (hb.mono hB)
  have HCk : Hid (∀ W, Below w.heap.size w W → _) := Lib.hid fun W (hb : Below w.heap.size w W) => rcheck_any d a W (lt_of_below hB hb) (HFn.out W hb)
  have hb0 := Box.new w (fontCells d a) 26
  have hbw := (Below.refl w.heap.size w).alloc (Nat.le_refl _) (.cells (fontCells d a) 26)
  obtain ⟨W1, hW⟩ : ∃ W1, w.alloc (.cells (fontCells d a) 26) = W1 := ⟨_, rfl⟩
  rw [hW] at hb0 hbw
  have HK : Hid (∀ wr, Below W1.heap.size W1 wr → Box wr w.heap.size (fontCells d a) 26) := Lib.hid fun wr hb => hb0.below hb
  obtain ⟨res, hres⟩ : ∃ res, Hid (refB d = res) := ⟨_, Lib.hid rfl⟩
  rw [hres.out]
  obtain ⟨c0, c1, c2, c3, c4, c5, c6, c7, c8, c9, c10⟩ := font_cells hb0
  have HB := Lib.hid hbw
  have hsz := hbw.size
  have hc1 := HCk.out W1 hbw
  clear hb0 hbw hF HCk
  cases ht : tfmB d with
  | false =>
    have HE : Hid (false = res) := Lib.hid (by rw [← hres.out, refB_not ht])
    rw [ht] at hc1
    clear ht hres
    go_enter Tryz.func19, Tryz.ntmps19
    go_wp2_with fail
    with_reducible refine hc1.mono ?_; rintro e w1 ⟨rfl, hb⟩
    clear hW
    have HB2 := Lib.hid (HB.out.trans (hb.mono HB.out.size))
    go_wp2_with fail
    go_ret
    exact ⟨ret_bool rfl HE.out, HB2.out⟩
  | true =>
    obtain ⟨s1, s2, s3, s4, s5, s6, s7⟩ := tfm_sizes ht
    have HT := Lib.hid ht
    have HSm : Hid (∀ p ∈ pairsP d, (0 ≤ p.1 ∧ p.1 < 256) ∧ (0 ≤ p.2.1 ∧ p.2.1 < 256) ∧ (0 ≤ p.2.2 ∧ p.2.2 < 256)) := Lib.hid fun p hp => pairs_small ht hp
    have HP : Hid (∀ W, Below w.heap.size w W → _) := Lib.hid fun W (hb : Below w.heap.size w W) => rpairs_any d a W (lt_of_below hB hb) (HFn.out W hb) HT.out
    have HH : Hid (∀ W, Below w.heap.size w W → ∀ n : Int, (Lit.int .i64 n).wf = true → Calls Tryz.prog 43 #[fontV d a, .int .i64 n] W fun e w' => e = .returned (.bool (hasB d n)) ∧ Below W.heap.size W w') := Lib.hid fun W (hb : Below w.heap.size w W) n hn => by
      have := rhas_any d a n W (lt_of_below hB hb) (HFn.out W hb) hn
      rw [HT.out] at this
      exact this
    rw [ht] at hc1
    clear ht
    go_enter Tryz.func19, Tryz.ntmps19
    go_wp2_with fail
    with_reducible refine hc1.mono ?_; rintro e w1 ⟨rfl, hb⟩
    clear hW hc1 c0 c1 c2 c3 c4 c5 c6 c7 c8 c9 c10
    go_wp2_with fail
    go_loopw [4] (fun i wr => ∃ k : Nat, i = .int .i64 k ∧ k ≤ d.chars.length ∧ Below W1.heap.size W1 wr ∧ Hid (charsOk d d.chars = charsOk d (d.chars.drop k))) (fun i _ => d.chars.length - (intOf i).toNat)
    case atStart => exact ⟨0, rfl, by omega, hb, Lib.hid rfl⟩
    case round =>
      clear hb
      obtain ⟨k, rfl, hk, HL, HS⟩ := hrel
      rename World => wr
      have hbr := HK.out wr HL
      have HBr : Hid (Below w.heap.size w wr) := Lib.hid (HB.out.trans (HL.mono hsz))
      obtain ⟨c0, c1, c2, c3, c4, c5, c6, c7, c8, c9, c10⟩ := font_cells hbr
      have hszr := HL.size
      by_cases hlt : k < d.chars.length
      · obtain ⟨c, hc⟩ := at_lt hlt
        obtain ⟨b, o, hA, hb', ⟨x0, x1, x2, x3, x4, x5⟩, _⟩ := char_at (HFn.out wr HBr.out).chars hc
        have HSt : Hid (∀ V, Below w.heap.size w V → _) := Lib.hid fun V (hb : Below w.heap.size w V) => rsteps_any d a c V (Nat.le_trans hB hb.size) (HFn.out V hb) HT.out (fun h => tag_ok HT.out hc h)
        have HS1 : Hid (charsOk d d.chars = ((allP d c && !((placesP d c).any fun x => opBadB d x.2)) && charsOk d (d.chars.drop (k + 1)))) := Lib.hid (by rw [HS.out, charsOk_at hc])
        have HPl : Hid (∀ x ∈ placesP d c, 0 ≤ x.1 ∧ d.steps[x.1.toNat]? = some x.2) := Lib.hid fun x hx => places_at hx
        have hPn : (placesP d c).length ≤ 257 := Nat.le_trans (List.length_filter_le _ _) (Nat.le_trans (steps_len d c) (by omega))
        clear hc HS
        go_upto_region 7 with fail
        generalize placesP d c = P at *
        generalize allP d c = al at *
        obtain ⟨n0, n1, n2, n3, n4, n5⟩ := c
        dsimp only at x0 x1 x2 x3 x4 x5
        rw [hA] at c3
        unfold fontV at HSt
        rw [hA] at HSt
        clear hA
        go_cut [5, 6] from 17 to 70 (fun l b wx => ∃ A2 cp, l = .slice A2 P.length cp ∧ b = .bool al ∧ Row (Rep.int .i64) wx wx.heap.size A2 (P.map (·.1)) ∧ Below wr.heap.size wr wx)
        case first =>
          have HKe : Hid (∀ w', Below wr.heap.size wr w' → Below wr.heap.size wr w' ∧ w'.cell? ⟨w.heap.size, 0, none⟩ = some (.int .i64 d.sum) ∧ w'.cell? ⟨w.heap.size, 1, none⟩ = some (.int .i64 d.design) ∧ w'.cell? ⟨w.heap.size, 2, none⟩ = some (.int .i64 d.first) ∧ w'.cell? ⟨w.heap.size, 3, none⟩ = some (.slice (some ⟨b, o, none⟩) d.chars.length a.cc) ∧ w'.cell? ⟨w.heap.size, 4, none⟩ = some (.slice a.w d.widths.length a.cw) ∧ w'.cell? ⟨w.heap.size, 5, none⟩ = some (.slice a.h d.heights.length a.ch) ∧ w'.cell? ⟨w.heap.size, 6, none⟩ = some (.slice a.d d.depths.length a.cd) ∧ w'.cell? ⟨w.heap.size, 7, none⟩ = some (.slice a.i d.italics.length a.ci) ∧ w'.cell? ⟨w.heap.size, 8, none⟩ = some (.slice a.s d.steps.length a.cs) ∧ w'.cell? ⟨w.heap.size, 9, none⟩ = some (.slice a.k d.kerns.length a.ck) ∧ w'.cell? ⟨w.heap.size, 10, none⟩ = some (.slice a.p d.params.length a.cp) ∧ w'.cell? ⟨b, o + k * 6, none⟩ = some (.int .i64 n0) ∧ w'.cell? ⟨b, o + k * 6 + 1, none⟩ = some (.int .i64 n1) ∧ w'.cell? ⟨b, o + k * 6 + 2, none⟩ = some (.int .i64 n2) ∧ w'.cell? ⟨b, o + k * 6 + 3, none⟩ = some (.int .i64 n3) ∧ w'.cell? ⟨b, o + k * 6 + 4, none⟩ = some (.int .i64 n4) ∧ w'.cell? ⟨b, o + k * 6 + 5, none⟩ = some (.int .i64 n5)) := Lib.hid fun w' hb => ⟨hb, later hb c0, later hb c1, later hb c2, later hb c3, later hb c4, later hb c5, later hb c6, later hb c7, later hb c8, later hb c9, later hb c10, later hb x0, later hb x1, later hb x2, later hb x3, later hb x4, later hb x5⟩
          clear hbr c0 c1 c2 c3 c4 c5 c6 c7 c8 c9 c10 x0 x1 x2 x3 x4 x5
          go_region_held3 (fun w' => Below wr.heap.size wr w' ∧ w'.cell? ⟨w.heap.size, 0, none⟩ = some (.int .i64 d.sum) ∧ w'.cell? ⟨w.heap.size, 1, none⟩ = some (.int .i64 d.design) ∧ w'.cell? ⟨w.heap.size, 2, none⟩ = some (.int .i64 d.first) ∧ w'.cell? ⟨w.heap.size, 3, none⟩ = some (.slice (some ⟨b, o, none⟩) d.chars.length a.cc) ∧ w'.cell? ⟨w.heap.size, 4, none⟩ = some (.slice a.w d.widths.length a.cw) ∧ w'.cell? ⟨w.heap.size, 5, none⟩ = some (.slice a.h d.heights.length a.ch) ∧ w'.cell? ⟨w.heap.size, 6, none⟩ = some (.slice a.d d.depths.length a.cd) ∧ w'.cell? ⟨w.heap.size, 7, none⟩ = some (.slice a.i d.italics.length a.ci) ∧ w'.cell? ⟨w.heap.size, 8, none⟩ = some (.slice a.s d.steps.length a.cs) ∧ w'.cell? ⟨w.heap.size, 9, none⟩ = some (.slice a.k d.kerns.length a.ck) ∧ w'.cell? ⟨w.heap.size, 10, none⟩ = some (.slice a.p d.params.length a.cp) ∧ w'.cell? ⟨b, o + k * 6, none⟩ = some (.int .i64 n0) ∧ w'.cell? ⟨b, o + k * 6 + 1, none⟩ = some (.int .i64 n1) ∧ w'.cell? ⟨b, o + k * 6 + 2, none⟩ = some (.int .i64 n2) ∧ w'.cell? ⟨b, o + k * 6 + 3, none⟩ = some (.int .i64 n3) ∧ w'.cell? ⟨b, o + k * 6 + 4, none⟩ = some (.int .i64 n4) ∧ w'.cell? ⟨b, o + k * 6 + 5, none⟩ = some (.int .i64 n5))
            (first | exact HKe.out _ (by repeat (first | (with_reducible exact Below.refl _ _) | (with_reducible apply below_drew) | (with_reducible refine below_join ?_ (by assumption)) | exact (‹Below wr.heap.size wr _ ∧ _›.1))))
            (first
              | (go_at_call 41; go_must (with_reducible refine (HSt.out _ (HBr.out.trans ((below_drew (Below.refl _ _)).mono HBr.out.size))).mono ?_); rintro e wq ⟨A2, cp, rfl, hrow, hbk, hbq⟩; clear hbk))
          all_goals (go_wp2_with fail; go_meet)
          all_goals exact ⟨A2, cp, rfl, rfl, hrow, (‹Below wr.heap.size wr wq ∧ _›).1⟩
        case rest =>
          rename World => wq
          obtain ⟨A2, cp, rfl, rfl, hrow, HQ⟩ := hcut
          have HLc := below_join HL HQ
          have hszc := HQ.size
          clear hbr c0 c1 c2 c3 c4 c5 c6 c7 c8 c9 c10 x0 x1 x2 x3 x4 x5 HSt
          cases al with
          | false =>
            have HE : Hid (false = res) := Lib.hid (by rw [← hres.out, refB_chars (by rw [HS1.out]; rfl)])
            have HBe : Hid (Below w.heap.size w wq) := Lib.hid (HB.out.trans (HLc.mono hsz))
            clear hrow HS1
            go_wp2_with fail
            go_ret
            exact ⟨ret_bool rfl HE.out, HBe.out⟩
          | true =>
            have HS2 : Hid (charsOk d d.chars = (!(P.any fun x => opBadB d x.2) && charsOk d (d.chars.drop (k + 1)))) := Lib.hid (by rw [HS1.out]; simp)
            clear HS1
            go_wp2_with fail
            go_loopw [7] (fun i wx => ∃ m : Nat, i = .int .i64 m ∧ m ≤ P.length ∧ Below wq.heap.size wq wx ∧ Hid (((P.take m).any fun x => opBadB d x.2) = false)) (fun i _ => P.length - (intOf i).toNat)
            case atStart => exact ⟨0, rfl, by omega, Below.refl _ _, Lib.hid (by simp)⟩
            case round =>
              obtain ⟨m, rfl, hm, HX, HTk⟩ := hrel
              rename World => wx
              have HLx := below_join HLc HX
              have hbr := HK.out wx HLx
              have HBr : Hid (Below w.heap.size w wx) := Lib.hid (HB.out.trans (HLx.mono hsz))
              have hrowx := hrow.mono HX
              by_cases hlm : m < P.length
              · obtain ⟨x, hx⟩ := at_lt hlm
                have HTm := Lib.hid (bad_take (d := d) hx)
                have HTh : Hid (opBadB d x.2 = true → refB d = false) := Lib.hid fun hb => refB_chars (by rw [HS2.out, bad_here hx hb]; rfl)
                obtain ⟨hp0, hps⟩ := HPl.out x (List.mem_of_getElem? hx)
                obtain ⟨b2, o2, hA2, hb2, hc2, _⟩ := int_at hrowx (show (P.map (·.1))[m]? = some x.1 by simp [hx])
                obtain ⟨bs, os, hAs, hbs, ⟨z0, z1, z2, z3⟩, _⟩ := step_at (HFn.out wx HBr.out).steps hps
                have hpl := (List.getElem?_eq_some_iff.1 hps).1
                obtain ⟨⟨e1, e2⟩, ⟨e3, e4⟩, ⟨e5, e6⟩, ⟨e7, e8⟩⟩ := step_ok HT.out hps
                obtain ⟨xp, t0, t1, t2, t3⟩ := x
                dsimp only at hp0 hps hc2 z0 z1 z2 z3 hpl e1 e2 e3 e4 e5 e6 e7 e8 HTm HTh
                obtain ⟨p, rfl⟩ := Int.eq_ofNat_of_zero_le hp0
                rw [Int.toNat_natCast] at z0 z1 z2 z3 hpl
                have c8 := (font_cells hbr).2.2.2.2.2.2.2.2.1
                rw [hAs] at c8
                clear hAs
                subst hA2
                have hrowq := Lib.hid hrow
                clear hx hps hp0 hrow hrowx
                go_upto_region 13 with fail
                go_cut [8] from 36 to 70 (fun v wy => ∃ g8, v = .pointer (some ⟨g8, 0, none⟩) ∧ Box wy g8 #[.int .i64 t0, .int .i64 t1, .int .i64 t2, .int .i64 t3] 79 ∧ Below wx.heap.size wx wy)
                case first =>
                  have HKe : Hid (∀ w', Below wx.heap.size wx w' → Below wx.heap.size wx w' ∧ w'.cell? ⟨w.heap.size, 8, none⟩ = some (.slice (some ⟨bs, os, none⟩) d.steps.length a.cs) ∧ w'.cell? ⟨b2, o2 + m, none⟩ = some (.int .i64 p) ∧ w'.cell? ⟨bs, os + p * 4, none⟩ = some (.int .i64 t0) ∧ w'.cell? ⟨bs, os + p * 4 + 1, none⟩ = some (.int .i64 t1) ∧ w'.cell? ⟨bs, os + p * 4 + 2, none⟩ = some (.int .i64 t2) ∧ w'.cell? ⟨bs, os + p * 4 + 3, none⟩ = some (.int .i64 t3)) := Lib.hid fun w' hb => ⟨hb, later hb c8, later hb hc2, later hb z0, later hb z1, later hb z2, later hb z3⟩
                  clear hbr c8 hc2 z0 z1 z2 z3
                  go_region_held3 (fun w' => Below wx.heap.size wx w' ∧ w'.cell? ⟨w.heap.size, 8, none⟩ = some (.slice (some ⟨bs, os, none⟩) d.steps.length a.cs) ∧ w'.cell? ⟨b2, o2 + m, none⟩ = some (.int .i64 p) ∧ w'.cell? ⟨bs, os + p * 4, none⟩ = some (.int .i64 t0) ∧ w'.cell? ⟨bs, os + p * 4 + 1, none⟩ = some (.int .i64 t1) ∧ w'.cell? ⟨bs, os + p * 4 + 2, none⟩ = some (.int .i64 t2) ∧ w'.cell? ⟨bs, os + p * 4 + 3, none⟩ = some (.int .i64 t3))
                    (first | exact HKe.out _ (by repeat (first | (with_reducible exact Below.refl _ _) | (with_reducible apply below_drew) | (with_reducible apply below_alloc) | (refine below_set ?_ (by first | (simp; done) | (simp; omega)) _))))
                    (fail)
                  all_goals (go_wp2_with fail; go_meet)
                  all_goals
                    refine ⟨_, rfl, ?_, (‹Below wx.heap.size wx _ ∧ _›).1⟩
                    repeat (first | exact Box.new _ _ _ | apply Box.drew)
                case rest =>
                  rename World => wy
                  obtain ⟨g8, rfl, hb8, HY⟩ := hcut
                  have HLy := below_join HLx HY
                  have HXy := below_join HX HY
                  have hby := HK.out wy HLy
                  have HBy : Hid (Below w.heap.size w wy) := Lib.hid (HB.out.trans (HLy.mono hsz))
                  have c9 := (font_cells hby).2.2.2.2.2.2.2.2.2.1
                  have f2 : _ = some (Value.int .i64 t2) := hb8.cell 2 rfl
                  have f3 : _ = some (Value.int .i64 t3) := hb8.cell 3 rfl
                  clear hbr c8 hc2 z0 z1 z2 z3 HL hby hb8
                  by_cases q1 : t2 = 0
                  · have HN : Hid (((P.take (m + 1)).any fun x => opBadB d x.2) = false) := Lib.hid (by rw [HTm.out, HTk.out]; simp [opBadB, q1])
                    have F1 : (t2 != 0) = false := by simp [q1]
                    clear HTm HTk HTh q1
                    go_wp2_with fail
                    go_roundw
                    case rel => exact ⟨m + 1, by go_num, by omega, HXy, HN⟩
                    case measure => simp [intOf]; omega
                  · have F1 : (t2 != 0) = true := by simp [q1]
                    by_cases q2 : t2 < 128
                    · have HE : Hid (false = res) := Lib.hid (by rw [← hres.out, HTh.out (by simp [opBadB, q1, q2])])
                      clear HTm HTk HTh q1
                      go_wp2_with fail
                      all_goals (try (rename_i h1 h2; exact absurd h1 no_undef))
                      all_goals
                        go_ret
                        exact ⟨ret_bool rfl HE.out, HBy.out⟩
                    · by_cases q3 : (d.kerns.length : Int) ≤ 256 * (t2 - 128) + t3
                      · have HE : Hid (false = res) := Lib.hid (by rw [← hres.out, HTh.out (by simp [opBadB, q1, q3])])
                        clear HTm HTk HTh q1
                        go_wp2_with fail
                        all_goals (try (rename_i h1 h2; exact absurd h1 no_undef))
                        all_goals
                          go_ret
                          exact ⟨ret_bool rfl HE.out, HBy.out⟩
                      · have HN : Hid (((P.take (m + 1)).any fun x => opBadB d x.2) = false) := Lib.hid (by rw [HTm.out, HTk.out]; simp [opBadB]; omega)
                        clear HTm HTk HTh q1
                        go_wp2_with fail
                        all_goals (try (rename_i h1 h2; exact absurd h1 no_undef))
                        all_goals
                          go_roundw
                          case rel => exact ⟨m + 1, by go_num, by omega, HXy, HN⟩
                          case measure => simp [intOf]; omega
              · have HN : Hid (charsOk d d.chars = charsOk d (d.chars.drop (k + 1))) := Lib.hid (by rw [HS2.out]; have := HTk.out; rw [List.take_of_length_le (by omega)] at this; rw [this]; rfl)
                clear hrowx HS2 HTk hbr
                go_wp2_with fail
                go_roundw
                case rel => exact ⟨k + 1, by go_num, by omega, HLx, HN⟩
                case measure => simp [intOf]; omega
      · have HC : Hid (refB d = pairsOk d (pairsP d) []) := Lib.hid (refB_pairs HT.out (by rw [HS.out, List.drop_eq_nil_of_le (by omega)]; rfl))
        have hp1 := HP.out wr HBr.out
        clear HS HP hk
        generalize pairsP d = L at *
        go_wp2_with fail
        with_reducible refine hp1.mono ?_; rintro e wp ⟨A, cp, rfl, hrow, hlen, hbk, hb⟩
        have HLp := below_join HL hb
        have HBp : Hid (Below w.heap.size w wp) := Lib.hid (HB.out.trans (HLp.mono hsz))
        clear hp1 hbr c0 c1 c2 c3 c4 c5 c6 c7 c8 c9 c10 hbk HL hb
        have hth : (wp.alloc (.cells Tryz.zeroCells96 96)).there wp.heap.size 0 (Fo.seenCells []).size := there_box2 (Box.new _ _ _) (by rw [zero_made])
        have hinf : (Tryz.prog.info? 96).map (·.size) = some (Fo.seenCells []).size := by rw [seen_size]; kernel_rfl
        have hbg : Box ((wp.alloc (.cells Tryz.zeroCells96 96)).setCells wp.heap.size 0 (Fo.seenCells []).toList) wp.heap.size (Fo.seenCells []) 96 := by
          have := Box.sets (Fo.seenCells []).toList 0 _ _ (Box.new wp Tryz.zeroCells96 96)
          rwa [zero_made, seen_again] at this
        have hbl : Below wp.heap.size wp ((wp.alloc (.cells Tryz.zeroCells96 96)).setCells wp.heap.size 0 (Fo.seenCells []).toList) := below_sets (Nat.le_refl _) _ _ ((Below.refl _ _).alloc (Nat.le_refl _) _)
        have HMade := Lib.hid (And.intro hbg hbl)
        have Hth := Lib.hid hth
        have Hinf := Lib.hid hinf
        clear hbg hbl hth hinf
        have hso := seen_one
        have hz256 := Tryz.zeroValue96
        have hz256n := Tryz.zeroCells96_ne
        have hz256s := Tryz.zeroCells96_size
        go_upto_region 17 with fail
        go_wp2_with (first
          | (refine made_law rfl rfl ?_)
          | (refine wpList_store_mid rfl 96 _ _ rfl _ 0 (Fo.seenCells []) rfl rfl Hth.out Hinf.out hso ?_
             generalize (wp.alloc (.cells Tryz.zeroCells96 96)).setCells wp.heap.size 0 (Fo.seenCells []).toList = wm at *))
        clear Hth Hinf hso hz256 hz256n hz256s
        obtain ⟨hbg, hbl⟩ := HMade.out
        clear HMade
        have hszp : wp.heap.size < wm.heap.size := hbg.lt
        go_loopw [11] (fun i wz => ∃ (n : Nat) (M : List Int), i = .int .i64 n ∧ n ≤ L.length ∧ Box wz wp.heap.size (Fo.seenCells M) 96 ∧ Below wp.heap.size wp wz ∧ Hid (pairsOk d L [] = pairsOk d (L.drop n) M)) (fun i _ => L.length - (intOf i).toNat)
        case atStart => exact ⟨0, [], rfl, by omega, hbg, hbl, Lib.hid rfl⟩
        case round =>
          clear hbg hbl hszp
          obtain ⟨n, M, rfl, hn, hbg, HZ, HS⟩ := hrel
          rename World => wz
          have HLz := below_join HLp HZ
          have hbz := HK.out wz HLz
          have HBz : Hid (Below w.heap.size w wz) := Lib.hid (HB.out.trans (HLz.mono hsz))
          have hszz := hbg.lt
          by_cases hlt : n < L.length
          · obtain ⟨x, hx⟩ := at_lt hlt
            have HBad : Hid (pairBadB d M x = true → false = res) := Lib.hid fun h => by rw [← hres.out, HC.out, HS.out, pairs_here hx, h]; rfl
            have HGood : Hid (pairBadB d M x = false → pairsOk d L [] = pairsOk d (L.drop (n + 1)) (x.2.2 :: M)) := Lib.hid fun h => by rw [HS.out, pairs_here hx, h]; rfl
            obtain ⟨b, o, hA, hb', y0, y1, y2⟩ := pair_at (hrow.mono HZ) hx
            obtain ⟨⟨e1, e2⟩, ⟨e3, e4⟩, ⟨e5, e6⟩⟩ := HSm.out x (List.mem_of_getElem? hx)
            obtain ⟨pa, pb, pq⟩ := x
            dsimp only at y0 y1 y2 e1 e2 e3 e4 e5 e6
            obtain ⟨q, rfl⟩ := Int.eq_ofNat_of_zero_le e5
            subst hA
            have Hrow := Lib.hid hrow
            have HHz := Lib.hid fun V (hb : Below w.heap.size w V) => HH.out V hb q (wf_i64 (by omega) (by omega))
            obtain ⟨hv, hhv⟩ : ∃ hv, Hid (hasB d q = hv) := ⟨_, Lib.hid rfl⟩
            rw [hhv.out] at HHz
            have hhv' := hhv.out
            clear hx HS hrow hhv
            go_upto_region 21 with fail
            go_cut [12] from 80 to 132 (fun v wy => v = .bool hv ∧ Below wz.heap.size wz wy)
            case first =>
              obtain ⟨c0, c1, c2, c3, c4, c5, c6, c7, c8, c9, c10⟩ := font_cells hbz
              have HKe : Hid (∀ w', Below wz.heap.size wz w' → Below wz.heap.size wz w' ∧ w'.cell? ⟨w.heap.size, 0, none⟩ = some (.int .i64 d.sum) ∧ w'.cell? ⟨w.heap.size, 1, none⟩ = some (.int .i64 d.design) ∧ w'.cell? ⟨w.heap.size, 2, none⟩ = some (.int .i64 d.first) ∧ w'.cell? ⟨w.heap.size, 3, none⟩ = some (.slice a.c d.chars.length a.cc) ∧ w'.cell? ⟨w.heap.size, 4, none⟩ = some (.slice a.w d.widths.length a.cw) ∧ w'.cell? ⟨w.heap.size, 5, none⟩ = some (.slice a.h d.heights.length a.ch) ∧ w'.cell? ⟨w.heap.size, 6, none⟩ = some (.slice a.d d.depths.length a.cd) ∧ w'.cell? ⟨w.heap.size, 7, none⟩ = some (.slice a.i d.italics.length a.ci) ∧ w'.cell? ⟨w.heap.size, 8, none⟩ = some (.slice a.s d.steps.length a.cs) ∧ w'.cell? ⟨w.heap.size, 9, none⟩ = some (.slice a.k d.kerns.length a.ck) ∧ w'.cell? ⟨w.heap.size, 10, none⟩ = some (.slice a.p d.params.length a.cp) ∧ w'.cell? ⟨b, o + n * 3 + 2, none⟩ = some (.int .i64 q)) := Lib.hid fun w' hb => ⟨hb, later hb c0, later hb c1, later hb c2, later hb c3, later hb c4, later hb c5, later hb c6, later hb c7, later hb c8, later hb c9, later hb c10, later hb y2⟩
              clear hbz c0 c1 c2 c3 c4 c5 c6 c7 c8 c9 c10 y0 y1 y2 hhv' hbg
              go_region_held3 (fun w' => Below wz.heap.size wz w' ∧ w'.cell? ⟨w.heap.size, 0, none⟩ = some (.int .i64 d.sum) ∧ w'.cell? ⟨w.heap.size, 1, none⟩ = some (.int .i64 d.design) ∧ w'.cell? ⟨w.heap.size, 2, none⟩ = some (.int .i64 d.first) ∧ w'.cell? ⟨w.heap.size, 3, none⟩ = some (.slice a.c d.chars.length a.cc) ∧ w'.cell? ⟨w.heap.size, 4, none⟩ = some (.slice a.w d.widths.length a.cw) ∧ w'.cell? ⟨w.heap.size, 5, none⟩ = some (.slice a.h d.heights.length a.ch) ∧ w'.cell? ⟨w.heap.size, 6, none⟩ = some (.slice a.d d.depths.length a.cd) ∧ w'.cell? ⟨w.heap.size, 7, none⟩ = some (.slice a.i d.italics.length a.ci) ∧ w'.cell? ⟨w.heap.size, 8, none⟩ = some (.slice a.s d.steps.length a.cs) ∧ w'.cell? ⟨w.heap.size, 9, none⟩ = some (.slice a.k d.kerns.length a.ck) ∧ w'.cell? ⟨w.heap.size, 10, none⟩ = some (.slice a.p d.params.length a.cp) ∧ w'.cell? ⟨b, o + n * 3 + 2, none⟩ = some (.int .i64 q))
                (first | exact HKe.out _ (by repeat (first | (with_reducible exact Below.refl _ _) | (with_reducible apply below_drew) | (with_reducible refine below_join ?_ (by assumption)) | exact (‹Below wz.heap.size wz _ ∧ _›.1))))
                (first
                  | (go_at_call 43; go_must (with_reducible refine (HHz.out _ (HBz.out.trans ((below_drew (Below.refl _ _)).mono HBz.out.size))).mono ?_); rintro e wq ⟨rfl, hbq⟩))
              all_goals (go_wp2_with fail; go_meet)
              all_goals exact ⟨rfl, (‹Below wz.heap.size wz wq ∧ _›).1⟩
            case rest =>
              rename World => wy
              obtain ⟨rfl, HY⟩ := hcut
              have HBy : Hid (Below w.heap.size w wy) := Lib.hid (HBz.out.trans (HY.mono HBz.out.size))
              have HZy := below_join HZ HY
              have hbgy := hbg.below HY
              have k0 := later HY y0
              have k1 := later HY y1
              have k2 := later HY y2
              have k3 := hbgy.cell q (Fo.seen_at M (by omega))
              have k4 := hbgy.free q
              have hszy := HY.size
              clear hbz y0 y1 y2 hbg HHz HZ HY
              cases hv with
              | false =>
                have HE : Hid (false = res) := Lib.hid (HBad.out (by simp [pairBadB, hhv']))
                clear HBad HGood
                go_upto_region 22 with fail
                go_big_quiet (fail)
                go_wp2_with fail
                go_ret
                exact ⟨ret_bool rfl HE.out, below_drewN HBy.out _⟩
              | true =>
                by_cases t1 : (q : Int) < 128
                · have HE : Hid (false = res) := Lib.hid (HBad.out (by simp [pairBadB, t1]))
                  have F1 := eq_true t1
                  clear HBad HGood
                  go_upto_region 22 with fail
                  go_big_quiet (fail)
                  go_wp2_with fail
                  go_ret
                  exact ⟨ret_bool rfl HE.out, below_drewN HBy.out _⟩
                have F1 := eq_false t1
                by_cases t2 : (q : Int) ≤ pa
                · have HE : Hid (false = res) := Lib.hid (HBad.out (by simp [pairBadB, t2]))
                  have F2 := eq_true t2
                  clear HBad HGood
                  go_upto_region 22 with fail
                  go_big_quiet (fail)
                  go_wp2_with fail
                  go_ret
                  exact ⟨ret_bool rfl HE.out, below_drewN HBy.out _⟩
                have F2 := eq_false t2
                by_cases t3 : 128 ≤ pb
                · have HE : Hid (false = res) := Lib.hid (HBad.out (by simp [pairBadB, t3]))
                  have F3 := eq_true t3
                  clear HBad HGood
                  go_upto_region 22 with fail
                  go_big_quiet (fail)
                  go_wp2_with fail
                  go_ret
                  exact ⟨ret_bool rfl HE.out, below_drewN HBy.out _⟩
                have F3 := eq_false t3
                by_cases t4 : (q : Int) ∈ M
                · have HE : Hid (false = res) := Lib.hid (HBad.out (by simp [pairBadB, t4]))
                  rw [decide_eq_true t4] at k3
                  clear HBad HGood
                  go_upto_region 22 with fail
                  go_big_quiet (fail)
                  go_wp2_with fail
                  go_ret
                  exact ⟨ret_bool rfl HE.out, below_drewN HBy.out _⟩
                have HN := Lib.hid (HGood.out (by simp [pairBadB, hhv', t4]; omega))
                rw [decide_eq_false t4] at k3
                have hbs := hbgy.set q (.bool true)
                rw [Fo.seen_set M (by omega)] at hbs
                clear HBad HGood hhv' t4
                go_upto_region 22 with fail
                go_big_quiet (fail)
                go_wp2_with fail
                go_roundw
                case rel => exact ⟨n + 1, (q : Int) :: M, by go_num, by omega, hbs, below_drewN (HZy.setCell (p := ⟨wp.heap.size, q, none⟩) (Nat.le_refl _) _) _, HN⟩
                case measure => simp [intOf]; omega
          · have HE : Hid (true = res) := Lib.hid (by rw [← hres.out, HC.out, HS.out, List.drop_eq_nil_of_le (by omega)]; rfl)
            clear HS hbz hbg
            go_wp2_with fail
            go_ret
            exact ⟨ret_bool rfl HE.out, HBz.out⟩
end Go.Proofs.YtndpdbofoojkhaaGreat.RFo
