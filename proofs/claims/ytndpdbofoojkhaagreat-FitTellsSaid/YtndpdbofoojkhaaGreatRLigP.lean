/- joined for a claim: RLig1, RLigP -/
import Derived.Test.YtndpdbofoojkhaaGreatRTfm3
import Derived.Test.YtndpdbofoojkhaaGreatOwn
/- The reference: the places of a character's steps. -/
namespace Go.Proofs.YtndpdbofoojkhaaGreat.RFo
open Go.RowKit Go.Proofs.YtndpdbofoojkhaaGreat.Kit Go.Proofs.YtndpdbofoojkhaaGreat.Fo
set_option linter.unusedVariables false
set_option linter.unusedSimpArgs false

theorem wf_i64 {x : Int} (h1 : -9223372036854775808 ≤ x) (h2 : x ≤ 9223372036854775807) : (Lit.int .i64 x).wf = true := by
  have hmin : IntKind.i64.min = -9223372036854775808 := rfl
  have hmax : IntKind.i64.max = 9223372036854775807 := rfl
  simp only [Lit.wf, Bool.and_eq_true, decide_eq_true_eq]
  omega
theorem info_int : (Tryz.prog.info? 3).map (fun i => (i.zero, i.size, i.bytes)) = some (some (.int .i64 0), 1, 8) := by kernel_rfl
/-- The steps that are there; whether all are. -/
def placesP (d : FontD) (c : CharT) : List (Int × StepT) := (stepsOf d c).filter fun x => decide (0 ≤ x.1)
def allP (d : FontD) (c : CharT) : Bool := !((stepsOf d c).any fun x => decide (x.1 < 0))
theorem from_at {l : List StepT} : ∀ (n k : Nat), ∀ x ∈ stepsFrom l n k, x.1 = -1 ∨ (0 ≤ x.1 ∧ l[x.1.toNat]? = some x.2)
  | 0, _, x, hx => by simp [stepsFrom] at hx
  | n + 1, k, x, hx => by
    unfold stepsFrom at hx
    split at hx
    · simp at hx; left; rw [hx]
    · rename_i s hs
      rcases List.mem_cons.1 hx with rfl | hx
      · right; exact ⟨by simp, by simpa using hs⟩
      · split at hx
        · simp at hx
        · exact from_at n _ x hx
theorem steps_at {d : FontD} {c : CharT} {x : Int × StepT} (hx : x ∈ stepsOf d c) : x.1 = -1 ∨ (0 ≤ x.1 ∧ d.steps[x.1.toNat]? = some x.2) := by
  unfold stepsOf at hx
  split at hx
  · exact from_at _ _ x hx
  · simp at hx
theorem places_at {d : FontD} {c : CharT} {x : Int × StepT} (hx : x ∈ placesP d c) : 0 ≤ x.1 ∧ d.steps[x.1.toNat]? = some x.2 := by
  unfold placesP at hx
  obtain ⟨h1, h2⟩ := List.mem_filter.1 hx
  have h2 : 0 ≤ x.1 := by simpa using h2
  rcases steps_at h1 with h | h
  · omega
  · exact h
theorem places_part {d : FontD} {c : CharT} {P R : List (Int × StepT)} (h : stepsOf d c = P ++ R) (hp : ∀ x ∈ P, 0 ≤ x.1) : P = P.filter fun x => decide (0 ≤ x.1) := by
  rw [List.filter_eq_self.2]
  intro x hx
  simpa using hp x hx
theorem places_end {d : FontD} {c : CharT} {P : List (Int × StepT)} {s : StepT} (h : stepsOf d c = P ++ [(-1, s)]) (hp : ∀ x ∈ P, 0 ≤ x.1) : placesP d c = P ∧ allP d c = false := by
  have e := places_part h hp
  unfold placesP allP
  rw [h]
  constructor
  · rw [List.filter_append, ← e]; simp
  · simp
theorem places_all {d : FontD} {c : CharT} {P : List (Int × StepT)} (h : stepsOf d c = P) (hp : ∀ x ∈ P, 0 ≤ x.1) : placesP d c = P ∧ allP d c = true := by
  unfold placesP allP
  rw [h]
  constructor
  · rw [List.filter_eq_self.2]
    intro x hx
    simpa using hp x hx
  · simp only [Bool.not_eq_true', List.any_eq_false]
    intro x hx
    have := hp x hx
    simp; omega
theorem places_wf {d : FontD} {c : CharT} (ht : tfmB d = true) : ∀ x ∈ (placesP d c).map (·.1), (Lit.int .i64 x).wf = true := by
  intro x hx
  obtain ⟨y, hy, rfl⟩ := List.mem_map.1 hx
  obtain ⟨h1, h2⟩ := places_at hy
  have h3 := (List.getElem?_eq_some_iff.1 h2).1
  have := tfm_sizes ht
  exact wf_i64 (by omega) (by omega)
theorem char_cells {w : World} {g : Nat} {n0 n1 n2 n3 n4 n5 : Int} {t : TypeId} (h : Box w g #[.int .i64 n0, .int .i64 n1, .int .i64 n2, .int .i64 n3, .int .i64 n4, .int .i64 n5] t) :
    w.cell? ⟨g, 0, none⟩ = some (.int .i64 n0) ∧ w.cell? ⟨g, 1, none⟩ = some (.int .i64 n1) ∧ w.cell? ⟨g, 2, none⟩ = some (.int .i64 n2) ∧ w.cell? ⟨g, 3, none⟩ = some (.int .i64 n3) ∧ w.cell? ⟨g, 4, none⟩ = some (.int .i64 n4) ∧ w.cell? ⟨g, 5, none⟩ = some (.int .i64 n5) :=
  ⟨h.cell 0 rfl, h.cell 1 rfl, h.cell 2 rfl, h.cell 3 rfl, h.cell 4 rfl, h.cell 5 rfl⟩

theorem own_range {w : World} {base m n c : Nat} {e : TypeId} {size : Nat} {v : Value} {xs : List Value} {A : Option Addr} {b o : Nat} (h : w.ownsRow base e size v n xs) (hv : v = .slice A m c) (hA : A = some ⟨b, o, none⟩) {s : Nat} (hs : s ≤ base) : s ≤ b ∧ b < w.heap.size := by
  subst hA
  rcases h.2 with ⟨h1, _⟩ | ⟨g, cap, cur, h1, hb, hg, _⟩
  · rw [h1] at hv; cases hv
  · rw [h1] at hv
    injection hv with e1 _ _
    injection e1 with e1
    injection e1 with e1 _ _
    subst e1
    exact ⟨by omega, (Array.getElem?_eq_some_iff.1 hg).1⟩
set_option maxRecDepth 10000 in
set_option maxHeartbeats 2000000 in
theorem rsteps_any (d : FontD) (a : FontA) (c : CharT) (w : World) {B : Nat} (hB : B ≤ w.heap.size) (hF : FontIn w B d a) (ht : tfmB d = true) (hr : c.2.2.2.2.1 = 1 → 0 ≤ c.2.2.2.2.2 ∧ c.2.2.2.2.2 < d.steps.length) :
    Calls Tryz.prog 41 #[fontV d a, charV c] w fun e w' => ∃ A cp, e = .returned (.tuple #[.slice A (placesP d c).length cp, .bool (allP d c)]) ∧ Row (Rep.int .i64) w' w'.heap.size A ((placesP d c).map (·.1)) ∧ (∀ b o, A = some ⟨b, o, none⟩ → w.heap.size ≤ b ∧ b < w'.heap.size) ∧ Below w.heap.size w w' := by
  obtain ⟨s1, s2, s3, s4, s5, s6, s7⟩ := tfm_sizes ht
  have HW : Hid _ := Lib.hid (places_wf (c := c) ht)
  have HFn : Hid (∀ W, Below w.heap.size w W → FontIn W B d a) := Lib.hid fun W hb => hF.mono (hb.mono hB)
  have HT := Lib.hid ht
  obtain ⟨n0, n1, n2, n3, n4, n5⟩ := c
  dsimp only at hr ⊢
  have HD : Hid (stepsOf d (n0, n1, n2, n3, n4, n5) = if n4 = 1 then stepsFrom d.steps (d.steps.length + 1) n5.toNat else []) := Lib.hid rfl
  obtain ⟨L, hL⟩ : ∃ L, Hid (placesP d (n0, n1, n2, n3, n4, n5) = L) := ⟨_, Lib.hid rfl⟩
  obtain ⟨ok, hok⟩ : ∃ L, Hid (allP d (n0, n1, n2, n3, n4, n5) = L) := ⟨_, Lib.hid rfl⟩
  rw [hL.out] at HW ⊢
  rw [hok.out]
  have hb0 := Box.new w (fontCells d a) 26
  have hbw := (Below.refl w.heap.size w).alloc (Nat.le_refl _) (.cells (fontCells d a) 26)
  have hb1 := hb0.alloc (.cells #[.int .i64 n0, .int .i64 n1, .int .i64 n2, .int .i64 n3, .int .i64 n4, .int .i64 n5] 81)
  have hb2 := Box.new (w.alloc (.cells (fontCells d a) 26)) #[.int .i64 n0, .int .i64 n1, .int .i64 n2, .int .i64 n3, .int .i64 n4, .int .i64 n5] 81
  have hbw2 := below_alloc hbw (.cells #[.int .i64 n0, .int .i64 n1, .int .i64 n2, .int .i64 n3, .int .i64 n4, .int .i64 n5] 81)
  simp only [World.size_alloc] at hb2
  obtain ⟨W1, hW⟩ : ∃ W1, (w.alloc (.cells (fontCells d a) 26)).alloc (.cells #[.int .i64 n0, .int .i64 n1, .int .i64 n2, .int .i64 n3, .int .i64 n4, .int .i64 n5] 81) = W1 := ⟨_, rfl⟩
  rw [hW] at hb1 hb2 hbw2
  have HK : Hid (∀ wr, Below W1.heap.size W1 wr → Box wr w.heap.size (fontCells d a) 26) := Lib.hid fun wr hb => hb1.below hb
  obtain ⟨c0, c1, c2, c3, c4, c5, c6, c7, c8, c9, c10⟩ := font_cells hb1
  obtain ⟨y0, y1, y2, y3, y4, y5⟩ := char_cells hb2
  have HB := Lib.hid hbw2
  have hsz := hbw2.size
  clear hb0 hbw hb1 hb2 hbw2 hF ht
  by_cases h1 : n4 = 1
  · subst h1
    obtain ⟨r1, r2⟩ := hr rfl
    obtain ⟨k0, rfl⟩ := Int.eq_ofNat_of_zero_le r1
    rw [if_pos rfl, Int.toNat_natCast] at HD
    go_enter Tryz.func41, Tryz.ntmps41
    go_wp2_with fail
    clear hW c0 c1 c2 c3 c4 c5 c6 c7 c8 c9 c10 y0 y1 y2 y3 y4 y5 hr
    go_loopw [6, 7] (fun l i wr => ∃ (k : Nat) (P : List (Int × StepT)) (fuel : Nat), i = .int .i64 k ∧ wr.ownsRow W1.heap.size 3 1 l P.length ((P.map (·.1)).map (Value.int .i64)) ∧ Below W1.heap.size W1 wr ∧ Hid (stepsOf d (n0, n1, n2, n3, 1, (k0 : Int)) = P ++ stepsFrom d.steps fuel k ∧ ∀ x ∈ P, 0 ≤ x.1) ∧ P.length + fuel = d.steps.length + 1 ∧ 1 ≤ fuel ∧ k ≤ 1000 ∧ d.steps.length + 1 ≤ k + fuel) (fun _ i _ => d.steps.length - (intOf i).toNat)
    case atStart => exact ⟨k0, [], d.steps.length + 1, rfl, own_nil _ _ _ _, Below.refl _ _, Lib.hid ⟨HD.out, by simp⟩, by simp, by omega, by omega, by omega⟩
    case round =>
      obtain ⟨k, P, fuel, rfl, hown, HL, HS, hf, hf1, hk, hkf⟩ := hrel
      rename World => wr
      have hbr := HK.out wr HL
      have HBr : Hid (Below w.heap.size w wr) := Lib.hid (HB.out.trans (HL.mono hsz))
      obtain ⟨c0, c1, c2, c3, c4, c5, c6, c7, c8, c9, c10⟩ := font_cells hbr
      have hszr := HL.size
      by_cases hlt : k < d.steps.length
      · obtain ⟨s, hs⟩ := at_lt hlt
        have HSt : Hid (∀ V, Below w.heap.size w V → ∃ b o, a.s = some ⟨b, o, none⟩ ∧ b < w.heap.size ∧ V.cell? ⟨b, o + k * 4, none⟩ = some (.int .i64 s.1)) := Lib.hid fun V hb => by
          obtain ⟨b, o, e, hlb, ⟨x0, _⟩, _⟩ := step_at (HFn.out V hb).steps hs
          exact ⟨b, o, e, by omega, x0⟩
        have hsk : 0 ≤ s.1 ∧ s.1 < 256 := (step_ok HT.out hs).1
        obtain ⟨sk, hsk'⟩ := Int.eq_ofNat_of_zero_le hsk.1
        rw [hsk'] at HSt hsk
        obtain ⟨f', rfl⟩ : ∃ f', fuel = f' + 1 := ⟨fuel - 1, by omega⟩
        have HN : Hid (stepsFrom d.steps (f' + 1) k = ((k : Int), s) :: (if 128 ≤ sk then [] else stepsFrom d.steps f' (k + sk + 1))) := Lib.hid (by
          conv => lhs; unfold stepsFrom
          rw [hs]
          simp only [hsk', Int.toNat_natCast]
          congr 1
          by_cases h : 128 ≤ sk
          · rw [if_pos h, if_pos (by omega)]
          · rw [if_neg h, if_neg (by omega)])
        clear hs hsk'
        obtain ⟨b, o, hA, hlb, x0⟩ := HSt.out wr HBr.out
        rw [hA] at c8
        by_cases h128 : 128 ≤ sk
        · have HE : Hid (stepsOf d (n0, n1, n2, n3, 1, (k0 : Int)) = P ++ [((k : Int), s)]) := Lib.hid (by rw [HS.out.1, HN.out, if_pos h128])
          have HPL := places_all HE.out (by
            intro x hx
            rcases List.mem_append.1 hx with hx | hx
            · exact HS.out.2 x hx
            · rw [List.mem_singleton.1 hx]; simp)
          rw [hL.out, hok.out] at HPL
          obtain ⟨rfl, rfl⟩ := HPL
          clear HE HN HS hL hok
          go_wp2_with (
          (at_builtin
           go_must (refine wpList_append_seen rfl (.tmp 19) (.tmp 21) _ rfl W1.heap.size 3 (.int .i64 0) 1 8 Tryz.underlying23 info_int rfl (by decide) _ _ _ rfl (hown.alloc _) (some ⟨wr.heap.size, 0, none⟩) 1 1 [.int .i64 k] rfl (by simp) (sees_new _ _ _) (one_ints .i64 [(k : Int)]) (by omega) (by omega) (by simp; omega) (fun h => by cases h) ?_)
           intro v1 w2 hown1 hg1 _
           have HB3 : Below W1.heap.size W1 w2 := (HL.alloc (by omega) (.cells #[.int .i64 k] 3)).grown hg1 (by simp; omega) (fun k hk => by have := own_base hown k hk; omega)
           have HBr3 : Hid (Below w.heap.size w w2) := Lib.hid (HB.out.trans (HB3.mono hsz))
           have e8 : w2.cell? ⟨w.heap.size, 8, none⟩ = _ := (font_cells (HK.out w2 HB3)).2.2.2.2.2.2.2.2.1
           obtain ⟨b', o', hA', hlb', x0'⟩ := HSt.out w2 HBr3.out
           obtain ⟨rfl, rfl⟩ : b' = b ∧ o' = o := by rw [hA] at hA'; simpa using hA'.symm
           rw [hA] at e8
           have HO := Lib.hid hown1
           clear hg1 hown1 hA'))
          obtain ⟨A2, cp, hv2, hn2, hrow, hlen⟩ := own_row (l := (P ++ [((k : Int), s)]).map (·.1)) (n := P.length + 1) (by simpa using HO.out) (by simpa using HW.out)
          have hbk : ∀ b o, A2 = some ⟨b, o, none⟩ → w.heap.size ≤ b ∧ b < w2.heap.size := fun b o e => own_range HO.out hv2 e hsz
          rw [List.length_map] at hv2
          subst hv2
          go_ret2
          exact ⟨A2, cp, rfl, hrow, hbk, HBr3.out⟩
        · have HE : Hid (stepsOf d (n0, n1, n2, n3, 1, (k0 : Int)) = (P ++ [((k : Int), s)]) ++ stepsFrom d.steps f' (k + sk + 1) ∧ ∀ x ∈ P ++ [((k : Int), s)], 0 ≤ x.1) := Lib.hid (by
            refine ⟨by rw [HS.out.1, HN.out, if_neg h128]; simp, ?_⟩
            intro x hx
            rcases List.mem_append.1 hx with hx | hx
            · exact HS.out.2 x hx
            · rw [List.mem_singleton.1 hx]; simp)
          clear HN HS
          go_wp2_with (
          (at_builtin
           go_must (refine wpList_append_seen rfl (.tmp 19) (.tmp 21) _ rfl W1.heap.size 3 (.int .i64 0) 1 8 Tryz.underlying23 info_int rfl (by decide) _ _ _ rfl (hown.alloc _) (some ⟨wr.heap.size, 0, none⟩) 1 1 [.int .i64 k] rfl (by simp) (sees_new _ _ _) (one_ints .i64 [(k : Int)]) (by omega) (by omega) (by simp; omega) (fun h => by cases h) ?_)
           intro v1 w2 hown1 hg1 _
           have HB3 : Below W1.heap.size W1 w2 := (HL.alloc (by omega) (.cells #[.int .i64 k] 3)).grown hg1 (by simp; omega) (fun k hk => by have := own_base hown k hk; omega)
           have HBr3 : Hid (Below w.heap.size w w2) := Lib.hid (HB.out.trans (HB3.mono hsz))
           have e8 : w2.cell? ⟨w.heap.size, 8, none⟩ = _ := (font_cells (HK.out w2 HB3)).2.2.2.2.2.2.2.2.1
           obtain ⟨b', o', hA', hlb', x0'⟩ := HSt.out w2 HBr3.out
           obtain ⟨rfl, rfl⟩ : b' = b ∧ o' = o := by rw [hA] at hA'; simpa using hA'.symm
           rw [hA] at e8
           have HO := Lib.hid hown1
           clear hg1 hown1 hA'))
          go_roundw
          case rel => exact ⟨k + sk + 1, P ++ [((k : Int), s)], f', by go_num, by have := HO.out; simpa using this, HB3, HE, by simp; omega, by omega, by omega, by omega⟩
          case measure => simp [intOf]; omega
      · obtain ⟨f', rfl⟩ : ∃ f', fuel = f' + 1 := ⟨fuel - 1, by omega⟩
        have HN : Hid (stepsFrom d.steps (f' + 1) k = [(-1, (0, 0, 0, 0))]) := Lib.hid (by
          conv => lhs; unfold stepsFrom
          rw [List.getElem?_eq_none (by omega)])
        have HPL := places_end (s := (0, 0, 0, 0)) (by rw [HS.out.1, HN.out]) HS.out.2
        rw [hL.out, hok.out] at HPL
        obtain ⟨rfl, rfl⟩ := HPL
        clear HN HS hL hok
        have HO := Lib.hid hown
        clear hown c0 c1 c2 c3 c4 c5 c6 c7 c9 c10 hbr
        go_wp2_with fail
        obtain ⟨A2, cp, hv2, hn2, hrow, hlen⟩ := own_row (l := L.map (·.1)) (n := L.length) (by simpa using HO.out) (by simpa using HW.out)
        have hbk : ∀ b o, A2 = some ⟨b, o, none⟩ → w.heap.size ≤ b ∧ b < wr.heap.size := fun b o e => own_range HO.out hv2 e hsz
        rw [List.length_map] at hv2
        subst hv2
        go_ret2
        exact ⟨A2, cp, rfl, hrow, hbk, HBr.out⟩
  · rw [if_neg h1] at HD
    have F1 : (n4 != 1) = true := by simpa using h1
    have HPL := places_all HD.out (by simp)
    rw [hL.out, hok.out] at HPL
    obtain ⟨rfl, rfl⟩ := HPL
    clear HD h1 hL hok hr HK c0 c1 c2 c3 c4 c5 c6 c7 c8 c9 c10
    go_enter Tryz.func41, Tryz.ntmps41
    go_wp2_with fail
    go_ret2
    exact ⟨none, 0, rfl, (fun i x hx => by simp at hx), (fun b o e => by cases e), HB.out⟩
end Go.Proofs.YtndpdbofoojkhaaGreat.RFo
/- The reference's pairs of a font, as plain data: that its check says what the program's does. -/
namespace Go.Proofs.YtndpdbofoojkhaaGreat.RFo
open Go.RowKit Go.Proofs.YtndpdbofoojkhaaGreat.Kit Go.Proofs.YtndpdbofoojkhaaGreat.Fo
set_option linter.unusedVariables false
set_option linter.unusedSimpArgs false

abbrev PairT := Int × Int × Int
abbrev pairR : Rep PairT := Rep.seq (Rep.int .i64) (Rep.seq (Rep.int .i64) (Rep.int .i64))
def pairC (p : PairT) : List Value := [.int .i64 p.1, .int .i64 p.2.1, .int .i64 p.2.2]
/-- The pairs of one character's steps, behind those that have been. -/
def pairsC (a : Int) : List (Int × StepT) → List (Int × StepT) → List PairT
  | _, [] => []
  | bef, x :: xs => (if x.2.2.2.1 = 0 ∧ bef.all (fun y => decide (y.2.2.1 ≠ x.2.2.1)) then [(a, x.2.2.1, x.2.2.2.2)] else []) ++ pairsC a (bef ++ [x]) xs
def pairsFrom (d : FontD) : List CharT → Int → List PairT
  | [], _ => []
  | c :: cs, a => pairsC a [] (placesP d c) ++ pairsFrom d cs (a + 1)
def pairsP (d : FontD) : List PairT := pairsFrom d d.chars d.first

/-- What a pair is refused for, by the characters that have been made. -/
def pairBadB (d : FontD) (made : List Int) (p : PairT) : Bool := !hasB d p.2.2 || decide (p.2.2 < 128) || decide (p.2.2 ≤ p.1) || decide (128 ≤ p.2.1) || decide (p.2.2 ∈ made)
def pairsOk (d : FontD) : List PairT → List Int → Bool
  | [], _ => true
  | p :: ps, made => !pairBadB d made p && pairsOk d ps (p.2.2 :: made)
def opBadB (d : FontD) (s : StepT) : Bool := decide (s.2.2.1 ≠ 0) && (decide (s.2.2.1 < 128) || decide ((d.kerns.length : Int) ≤ 256 * (s.2.2.1 - 128) + s.2.2.2))
def charsOk (d : FontD) (l : List CharT) : Bool := l.all fun c => allP d c && !((placesP d c).any fun x => opBadB d x.2)
def refB (d : FontD) : Bool := tfmB d && charsOk d d.chars && pairsOk d (pairsP d) []

/-- The program's ligatures, pair by pair. -/
def addP (d : FontD) : List PairT → List LigT → Option (List LigT)
  | [], out => some out
  | p :: ps, out => if badLigB d p.1 out (0, p.2.1, 0, p.2.2) then none else addP d ps ((p.2.2, p.1, p.2.1) :: out)
theorem addP_append (d : FontD) : ∀ (ps qs : List PairT) (out : List LigT), addP d (ps ++ qs) out = (addP d ps out).bind (addP d qs)
  | [], qs, out => rfl
  | p :: ps, qs, out => by
    simp only [List.cons_append, addP]
    split
    · rfl
    · exact addP_append d ps qs _
theorem pairs_add (d : FontD) : ∀ (ps : List PairT) (out : List LigT) (made : List Int), (∀ x, x ∈ made ↔ out.any (fun y => decide (y.1 = x)) = true) → pairsOk d ps made = (addP d ps out).isSome
  | [], _, _, _ => rfl
  | p :: ps, out, made, h => by
    have e : pairBadB d made p = badLigB d p.1 out (0, p.2.1, 0, p.2.2) := by
      unfold pairBadB badLigB
      have := h p.2.2
      dsimp only
      cases ho : out.any (fun x => decide (x.1 = p.2.2)) with
      | true => simp [this.2 ho]
      | false =>
        have : p.2.2 ∉ made := fun hm => by rw [this.1 hm] at ho; cases ho
        simp [this]
    simp only [pairsOk, addP, e]
    cases badLigB d p.1 out (0, p.2.1, 0, p.2.2) with
    | true => simp
    | false =>
      simp only [Bool.not_false, Bool.true_and, Bool.false_eq_true, if_false]
      refine pairs_add d ps _ _ fun x => ?_
      rw [List.mem_cons, h x, List.any_cons, Bool.or_eq_true, decide_eq_true_eq]
      constructor
      · rintro (rfl | h)
        · exact .inl rfl
        · exact .inr h
      · rintro (h | h)
        · exact .inl h.symm
        · exact .inr h
theorem badLig_eq (d : FontD) (a : Int) (out : List LigT) (s : StepT) : badLigB d a out s = badLigB d a out (0, s.2.1, 0, s.2.2.2) := rfl
theorem marks_pairs (d : FontD) (a : Int) : ∀ (xs bef : List (Int × StepT)) (out : List LigT) (seen : List Int), (∀ n, n ∈ seen ↔ ∃ y ∈ bef, y.2.2.1 = n) →
    ((marks d a xs (out, seen)).map (·.1)) = if xs.any (fun x => wrongB d x.1 x.2) then none else addP d (pairsC a bef xs) out
  | [], bef, out, seen, h => by simp [marks, pairsC, addP]
  | x :: xs, bef, out, seen, h => by
    have hb : (bef.all fun y => decide (y.2.2.1 ≠ x.2.2.1)) = decide (x.2.2.1 ∉ seen) := by
      rw [Bool.eq_iff_iff, List.all_eq_true, decide_eq_true_eq, h]
      simp only [decide_eq_true_eq, not_exists, not_and]
    have hs : ∀ n, n ∈ x.2.2.1 :: seen ↔ ∃ y ∈ bef ++ [x], y.2.2.1 = n := by
      intro n
      rw [List.mem_cons, h n]
      constructor
      · rintro (rfl | ⟨y, hy, rfl⟩)
        · exact ⟨x, by simp, rfl⟩
        · exact ⟨y, by simp [hy], rfl⟩
      · rintro ⟨y, hy, rfl⟩
        rcases List.mem_append.1 hy with hy | hy
        · exact .inr ⟨y, hy, rfl⟩
        · rw [List.mem_singleton.1 hy]; exact .inl rfl
    simp only [marks, pairsC, hb]
    unfold markS
    cases hw : wrongB d x.1 x.2 with
    | true => simp [hw]
    | false =>
      simp only [Bool.false_eq_true, if_false, List.any_cons, hw, Bool.false_or]
      have hl1 : x.2.2.2.1 = 0 ∧ x.2.2.1 ∉ seen → (if x.2.2.2.1 = 0 ∧ decide (x.2.2.1 ∉ seen) = true then [(a, x.2.2.1, x.2.2.2.2)] else []) = [(a, x.2.2.1, x.2.2.2.2)] := fun h => if_pos ⟨h.1, decide_eq_true h.2⟩
      have hl2 : ¬ (x.2.2.2.1 = 0 ∧ x.2.2.1 ∉ seen) → (if x.2.2.2.1 = 0 ∧ decide (x.2.2.1 ∉ seen) = true then [(a, x.2.2.1, x.2.2.2.2)] else ([] : List PairT)) = [] := fun h => if_neg fun h' => h ⟨h'.1, of_decide_eq_true h'.2⟩
      by_cases hl : x.2.2.2.1 = 0 ∧ x.2.2.1 ∉ seen
      · rw [hl1 hl, if_pos hl]
        simp only [List.cons_append, List.nil_append, addP]
        rw [badLig_eq d a out x.2]
        cases badLigB d a out (0, x.2.2.1, 0, x.2.2.2.2) with
        | true => simp
        | false =>
          simp only [Bool.false_eq_true, if_false, Option.bind_some]
          exact marks_pairs d a xs (bef ++ [x]) _ _ hs
      · rw [hl2 hl, if_neg hl]
        simp only [List.nil_append, Option.bind_some]
        exact marks_pairs d a xs (bef ++ [x]) _ _ hs
theorem places_wrong {d : FontD} {c : CharT} (ht : tfmB d = true) : ((stepsOf d c).any fun x => wrongB d x.1 x.2) = !(allP d c && !((placesP d c).any fun x => opBadB d x.2)) := by
  have hn : ∀ x ∈ stepsOf d c, 0 ≤ x.1 → (wrongB d x.1 x.2 = opBadB d x.2) := by
    intro x hx h0
    have h1 := step_ok ht (places_at (List.mem_filter.2 ⟨hx, by simpa using h0⟩ : x ∈ placesP d c)).2
    unfold wrongB opBadB
    have : (decide (x.1 < 0)) = false := by simp; omega
    have e2 : decide (0 < x.2.2.2.1) = decide (x.2.2.2.1 ≠ 0) := by simp only [decide_eq_decide]; omega
    rw [this, e2]; rfl
  unfold allP placesP
  cases ha : (stepsOf d c).any fun x => decide (x.1 < 0) with
  | true =>
    obtain ⟨x, hx, h⟩ := List.any_eq_true.1 ha
    simp only [Bool.not_true, Bool.false_and, Bool.not_false]
    rw [List.any_eq_true]
    exact ⟨x, hx, by unfold wrongB; rw [h]; rfl⟩
  | false =>
    simp only [List.any_eq_false, decide_eq_true_eq] at ha
    have : (stepsOf d c).filter (fun x => decide (0 ≤ x.1)) = stepsOf d c := List.filter_eq_self.2 fun x hx => by have := ha x hx; simp; omega
    rw [this]
    simp only [Bool.not_false, Bool.true_and, Bool.not_not]
    rw [Bool.eq_iff_iff, List.any_eq_true, List.any_eq_true]
    constructor
    · rintro ⟨x, hx, h⟩
      exact ⟨x, hx, by rw [← hn x hx (by have := ha x hx; omega)]; exact h⟩
    · rintro ⟨x, hx, h⟩
      exact ⟨x, hx, by rw [hn x hx (by have := ha x hx; omega)]; exact h⟩
theorem places_self {d : FontD} {c : CharT} (h : allP d c = true) : stepsOf d c = placesP d c := by
  unfold allP at h
  simp only [Bool.not_eq_true', List.any_eq_false, decide_eq_true_eq] at h
  exact (List.filter_eq_self.2 fun x hx => by have := h x hx; simp; omega).symm
theorem charsOk_cons (d : FontD) (c : CharT) (cs : List CharT) : charsOk d (c :: cs) = ((allP d c && !((placesP d c).any fun x => opBadB d x.2)) && charsOk d cs) := rfl
theorem made_pairs {d : FontD} (ht : tfmB d = true) : ∀ (cs : List CharT) (a : Int) (out : List LigT), madeFrom d cs a out = if charsOk d cs then addP d (pairsFrom d cs a) out else none
  | [], a, out => by simp [madeFrom, charsOk, pairsFrom, addP]
  | c :: cs, a, out => by
    have h := marks_pairs d a (stepsOf d c) [] out [] (by simp)
    rw [places_wrong ht] at h
    rw [charsOk_cons]
    simp only [madeFrom, pairsFrom]
    by_cases ho : (allP d c && !((placesP d c).any fun x => opBadB d x.2)) = true
    rotate_left
    · have ho := Bool.eq_false_iff.2 ho
      rw [ho] at h ⊢
      simp only [Bool.not_false, if_true, Option.map_eq_none_iff] at h
      rw [h]; simp
    · rw [ho] at h ⊢
      have ha : allP d c = true := by simp only [Bool.and_eq_true] at ho; exact ho.1
      rw [places_self ha] at h ⊢
      simp only [Bool.not_true, Bool.false_eq_true, if_false] at h
      have hr := made_pairs ht cs (a + 1)
      simp only [Bool.true_and]
      rw [addP_append, ← h]
      cases marks d a (placesP d c) (out, []) with
      | none => simp
      | some st =>
        simp only [Option.bind_some, Option.map_some, hr]
theorem ref_lig (d : FontD) : refB d = ligB d := by
  unfold refB ligB madeP
  cases ht : tfmB d with
  | false => simp
  | true =>
    simp only [Bool.true_and, if_true, made_pairs ht]
    cases charsOk d d.chars with
    | false => simp
    | true =>
      simp only [Bool.true_and, if_true]
      exact pairs_add d _ _ _ (by simp)
/-- Each pair's numbers are small. -/
theorem pairsC_small {a : Int} {bef xs : List (Int × StepT)} : ∀ p ∈ pairsC a bef xs, p.1 = a ∧ ∃ x ∈ xs, p.2.1 = x.2.2.1 ∧ p.2.2 = x.2.2.2.2 := by
  induction xs generalizing bef with
  | nil => intro p hp; simp [pairsC] at hp
  | cons x xs ih =>
    intro p hp
    simp only [pairsC, List.mem_append] at hp
    rcases hp with hp | hp
    · split at hp
      · rw [List.mem_singleton.1 hp]; exact ⟨rfl, x, by simp, rfl, rfl⟩
      · simp at hp
    · obtain ⟨h1, y, hy, h2⟩ := ih p hp
      exact ⟨h1, y, by simp [hy], h2⟩
theorem pairsFrom_small {d : FontD} (ht : tfmB d = true) : ∀ (cs : List CharT) (a : Int), ∀ p ∈ pairsFrom d cs a, (a ≤ p.1 ∧ p.1 < a + cs.length) ∧ (0 ≤ p.2.1 ∧ p.2.1 < 256) ∧ (0 ≤ p.2.2 ∧ p.2.2 < 256)
  | [], a, p, hp => by simp [pairsFrom] at hp
  | c :: cs, a, p, hp => by
    simp only [pairsFrom, List.mem_append] at hp
    rcases hp with hp | hp
    · obtain ⟨h1, x, hx, h2, h3⟩ := pairsC_small p hp
      have := step_ok ht (places_at hx).2
      simp only [List.length_cons]
      omega
    · have := pairsFrom_small ht cs (a + 1) p hp
      simp only [List.length_cons]
      omega
theorem pairs_small {d : FontD} (ht : tfmB d = true) {p : PairT} (hp : p ∈ pairsP d) : (0 ≤ p.1 ∧ p.1 < 256) ∧ (0 ≤ p.2.1 ∧ p.2.1 < 256) ∧ (0 ≤ p.2.2 ∧ p.2.2 < 256) := by
  have h1 := pairsFrom_small ht d.chars d.first p hp
  have h2 := tfm_sizes ht
  omega
end Go.Proofs.YtndpdbofoojkhaaGreat.RFo
