/- joined for a claim: Fit20P, Fit20, Fit21 -/
import Derived.Test.YtndpdbofoojkhaaGreatFit13
import Derived.Test.YtndpdbofoojkhaaGreatFit17
import Derived.Test.YtndpdbofoojkhaaGreatFit19
/- How great what is told may be. -/
namespace Go.Proofs.YtndpdbofoojkhaaGreat.Ft
open Go.RowKit Go.Proofs.YtndpdbofoojkhaaGreat.Kit Go.Proofs.YtndpdbofoojkhaaGreat.Fo Go.Proofs.YtndpdbofoojkhaaGreat.Lv Go.Proofs.YtndpdbofoojkhaaGreat.Bad
set_option linter.unusedVariables false
set_option linter.unusedSimpArgs false

theorem clamp_in {d : FaceD} (h : faceB d = true) (n : Int) : -d.down ≤ clampP d n ∧ clampP d n ≤ d.up := by
  obtain ⟨_, _, _, h1, h2, _⟩ := face_ok h
  unfold clampP
  omega
theorem mul_abs {a b : Int} {A B : Nat} (ha : a.natAbs ≤ A) (hb : b.natAbs ≤ B) : (a * b).natAbs ≤ A * B := by
  rw [Int.natAbs_mul]
  exact Nat.mul_le_mul ha hb
theorem div_abs {x c : Int} {N : Nat} (hc : 1 ≤ c) (h : x.natAbs ≤ N) : (x / c).natAbs ≤ N := by
  have h1 : x ≤ N := by omega
  have h2 : -(N : Int) ≤ x := by omega
  have hN : (N : Int) ≤ (N : Int) * c := by
    have := Int.mul_le_mul_of_nonneg_left hc (show (0 : Int) ≤ (N : Int) by omega)
    omega
  have h3 : x / c ≤ N := Int.ediv_le_of_le_mul (by omega) (by omega)
  have h4 : -(N : Int) ≤ x / c := Int.le_ediv_of_mul_le (by omega) (by rw [Int.neg_mul]; omega)
  omega
theorem fl_div {a b c : Int} (ha : a.natAbs ≤ 1073741824) (hb : b.natAbs ≤ 1073741824) (hc : 1 ≤ c ∧ c ≤ 2000000) : fl a b c = a * b / c := by
  have h1 := div_abs hc.1 (mul_abs ha hb)
  unfold fl Mul.floorP
  rw [if_pos (show Mul.mayP a b c = true by unfold Mul.mayP; exact decide_eq_true (by omega))]
  unfold Mul.keptP
  rw [if_pos (by omega)]
theorem wrap_at {x : Int} (h : x.natAbs ≤ 4611686018427387904) : IntKind.i64.wrap x = x := by rw [IntKind.wrap_i64]; omega
theorem wrap64_at {x : Int} (h : x.natAbs ≤ 4611686018427387904) : wrap64 x = x := by unfold wrap64; omega
theorem fixOf_ok {d : FontD} {code : Int} (ht : tfmB d = true) (hq : hasB d code = true) : (fixOf d code).natAbs ≤ 16777216 := by
  unfold hasB at hq
  simp only [Bool.and_eq_true, decide_eq_true_eq] at hq
  obtain ⟨⟨q1, q2⟩, q3⟩ := hq
  obtain ⟨k, hk⟩ : ∃ k : Nat, code - d.first = k := ⟨(code - d.first).toNat, by omega⟩
  obtain ⟨c, hc⟩ := at_lt (show k < d.chars.length by omega)
  obtain ⟨x1, x2⟩ := width_ok ht hc
  obtain ⟨j, hj⟩ : ∃ j : Nat, c.1 = j := ⟨c.1.toNat, by omega⟩
  obtain ⟨x, hx⟩ := at_lt (show j < d.widths.length by omega)
  have e : (code - d.first).toNat = k := by omega
  have hfix : fixOf d code = x := by simp [fixOf, widthOf, e, List.getD_eq_getElem?_getD, hc, hj, hx]
  have := fix_ok ht hx
  rw [hfix]
  omega
theorem trait_in {l : List StepT} (last : Int) (code : Int) (h : wrongT last l = false) : (0 ≤ (traitP l code).2.1 ∧ (traitP l code).2.1 ≤ 1000) ∧ (-1000 ≤ (traitP l code).2.2.1 ∧ (traitP l code).2.2.1 ≤ 1000) ∧ (-1000 ≤ (traitP l code).2.2.2 ∧ (traitP l code).2.2.2 ≤ 1000) := by
  induction l generalizing last with
  | nil => simp [traitP]
  | cons t ts ih =>
    simp only [wrongT, Bool.or_eq_false_iff] at h
    obtain ⟨h1, h2⟩ := h
    by_cases hc : t.1 = code
    · have e : traitP (t :: ts) code = t := by simp [traitP, hc]
      rw [e]
      simp [badT, toB] at h1
      omega
    · have e : traitP (t :: ts) code = traitP ts code := by simp [traitP, hc]
      rw [e]
      exact ih t.1 h2
/-- A width at the level 0; what a level adds. -/
def ptW (d : FaceD) (code : Int) : Int := fixOf d.font code * d.size / 1048576
def ptK (d : FaceD) (x : Int) : Int := x * d.size / 1048576
theorem pt_bound {d : FaceD} {x : Int} (hf : faceB d = true) (hx : x.natAbs ≤ 16777216) : (x * d.size / 1048576).natAbs ≤ 67108865 := by
  obtain ⟨_, hs, _⟩ := face_ok hf
  have h := mul_abs hx (show d.size.natAbs ≤ 4194304 by omega)
  generalize x * d.size = y at *
  omega
theorem wide_form {d : FaceD} {code : Int} (n : Int) (hf : faceB d = true) (hq : hasB d.font code = true) : wideP d code n = ptW d code + ptW d code * (clampP d n * d.step * (traitP d.traits code).2.1) / 1000000 := by
  obtain ⟨hl, hs, hst, hu, hd, hw⟩ := face_ok hf
  have hfx := fixOf_ok (lig_tfm hl) hq
  obtain ⟨t1, _, _⟩ := trait_in (-1) code hw
  obtain ⟨c1, c2⟩ := clamp_in hf n
  have b1 : (clampP d n * d.step).natAbs ≤ 8 * 50 := mul_abs (by omega) (by omega)
  have b2 : (clampP d n * d.step * (traitP d.traits code).2.1).natAbs ≤ 8 * 50 * 1000 := mul_abs b1 (by omega)
  have b3 := pt_bound hf hfx
  have e1 : fl (fixOf d.font code) d.size 1048576 = ptW d code := fl_div (by omega) (by omega) (by omega)
  unfold wideP
  rw [e1, wrap_at (x := clampP d n * d.step) (by omega), wrap_at (x := clampP d n * d.step * (traitP d.traits code).2.1) (by omega)]
  have b4 : (ptW d code).natAbs ≤ 67108865 := b3
  rw [fl_div (by omega) (by omega) (by omega)]
  have b5 := div_abs (c := 1000000) (by omega) (mul_abs b4 b2)
  exact wrap_at (by omega)
theorem kern_form {d : FaceD} {x : Int} (n : Int) (hf : faceB d = true) (hx : fixB x = true) : kernP d x n = ptK d x + ptK d x * (clampP d n * d.step) / 1000 := by
  obtain ⟨hl, hs, hst, hu, hd, hw⟩ := face_ok hf
  have hfx : x.natAbs ≤ 16777216 := by simp [fixB] at hx; omega
  obtain ⟨c1, c2⟩ := clamp_in hf n
  have b1 : (clampP d n * d.step).natAbs ≤ 8 * 50 := mul_abs (by omega) (by omega)
  have b4 : (ptK d x).natAbs ≤ 67108865 := pt_bound hf hfx
  have e1 : fl x d.size 1048576 = ptK d x := fl_div (by omega) (by omega) (by omega)
  unfold kernP
  rw [e1, wrap64_at (x := clampP d n * d.step) (by omega), fl_div (by omega) (by omega) (by omega)]
  have b5 := div_abs (c := 1000) (by omega) (mul_abs b4 b1)
  exact wrap64_at (by omega)
theorem fl_abs {a b c : Int} {N : Nat} (hc : 1 ≤ c) (h : (a * b).natAbs ≤ N) : (fl a b c).natAbs ≤ N := by
  have hd := div_abs hc h
  unfold fl Mul.floorP
  split
  · unfold Mul.keptP
    split
    · exact hd
    · simp
  · simp
theorem clamp_abs {d : FaceD} (hf : faceB d = true) (n : Int) : (clampP d n * d.step).natAbs ≤ 400 := by
  obtain ⟨_, _, ⟨s1, s2⟩, ⟨u1, u2⟩, ⟨v1, v2⟩, _⟩ := face_ok hf
  have h1 : (clampP d n).natAbs ≤ 8 := by unfold clampP; omega
  have h2 : d.step.natAbs ≤ 50 := by omega
  exact mul_abs h1 h2
theorem width_abs {d : FaceD} (hf : faceB d = true) (o l : Int) : (widthV d o l).1.natAbs ≤ 26843613108865 := by
  unfold widthV
  rw [if_pos hf]
  split
  · rename_i hq
    show (wideP d o l).natAbs ≤ _
    rw [wide_form l hf hq]
    have h1 : (ptW d o).natAbs ≤ 67108865 := pt_bound hf (fixOf_ok (lig_tfm (face_ok hf).1) hq)
    have h2 : (clampP d l * d.step * (traitP d.traits o).2.1).natAbs ≤ 400 * 1000 := mul_abs (clamp_abs hf l) (by have := (trait_in (-1) o (face_ok hf).2.2.2.2.2).1; omega)
    have h3 := div_abs (c := 1000000) (by omega) (mul_abs h1 h2)
    omega
  · simp
theorem kern_abs {d : FaceD} (hf : faceB d = true) (o l : Int) : (kernV d o l).1.natAbs ≤ 26910654865 := by
  unfold kernV
  split
  · rename_i hq
    simp only [Bool.and_eq_true] at hq
    show (kernP d o l).natAbs ≤ _
    rw [kern_form l hf hq.2]
    have h1 : (ptK d o).natAbs ≤ 67108865 := pt_bound hf (by have := hq.2; simp only [fixB, Bool.and_eq_true, decide_eq_true_eq] at this; omega)
    have h3 := div_abs (c := 1000) (by omega) (mul_abs h1 (clamp_abs hf l))
    omega
  · simp
theorem edges_abs {d : FaceD} (hf : faceB d = true) (o l : Int) : (edgesV d o l).1.natAbs ≤ 26843613108865000 ∧ (edgesV d o l).2.1.natAbs ≤ 26843613108865000 := by
  have hw := width_abs hf o l
  obtain ⟨_, ⟨t1, t2⟩, ⟨t3, t4⟩⟩ := trait_in (-1) o (face_ok hf).2.2.2.2.2
  unfold edgesV
  split
  · exact ⟨fl_abs (by omega) (mul_abs hw (B := 1000) (by omega)), fl_abs (by omega) (mul_abs hw (B := 1000) (by omega))⟩
  · simp
theorem wsum_abs {d : FaceD} (hf : faceB d = true) (lev : Int) : ∀ (xs : List (Int × Int)) (acc : Int) (N : Nat), acc.natAbs + xs.length * 30000000000000 ≤ N → N ≤ 4000000000000000000 → ∀ z, wsum d lev acc xs = some z → z.natAbs ≤ N
  | [], acc, N, h, hN, z, hz => by
    simp only [wsum, Option.some.injEq] at hz
    subst hz
    simp at h; omega
  | x :: xs, acc, N, h, hN, z, hz => by
    unfold wsum at hz
    split at hz
    · have h1 : (tellS d 0 x.1 lev).1.natAbs ≤ 26843613108865 := width_abs hf x.1 lev
      have h2 : (tellS d 1 x.2 lev).1.natAbs ≤ 26910654865 := kern_abs hf x.2 lev
      rw [List.length_cons, Nat.add_mul] at h
      have e1 : wrap64 ((tellS d 0 x.1 lev).1 + (tellS d 1 x.2 lev).1) = (tellS d 0 x.1 lev).1 + (tellS d 1 x.2 lev).1 := wrap64_at (by omega)
      have e2 : wrap64 (acc + ((tellS d 0 x.1 lev).1 + (tellS d 1 x.2 lev).1)) = acc + ((tellS d 0 x.1 lev).1 + (tellS d 1 x.2 lev).1) := wrap64_at (by omega)
      rw [e1, e2] at hz
      exact wsum_abs hf lev xs _ N (by omega) hN z hz
    · cases hz
theorem wide_abs {d : FaceD} (hf : faceB d = true) {sp lev : Int} {G : List (List (Int × Int))} (hs : 0 ≤ sp ∧ sp ≤ 4194304) (hl : G.length ≤ 110) (hn : G.flatten.length ≤ 500) : (wideS d sp G lev).natAbs ≤ 15001000000000000 := by
  have hI : (wideI sp G.length).natAbs ≤ 4194304 * 110 := by
    have h1 : (sp * max ((G.length : Int) - 1) 0).natAbs ≤ 4194304 * 110 := mul_abs (by omega) (by omega)
    rw [wideI, wrap64_at (by omega)]
    exact h1
  unfold wideS
  cases hz : wsum d lev (wideI sp G.length) G.flatten with
  | none => simp
  | some z =>
    have := wsum_abs hf lev G.flatten _ (15001000000000000) (by omega) (by omega) z hz
    simpa using this
end Go.Proofs.YtndpdbofoojkhaaGreat.Ft
/- How a line fits, as plain data. -/
namespace Go.Proofs.YtndpdbofoojkhaaGreat.Ft
open Go.RowKit Go.Proofs.YtndpdbofoojkhaaGreat.Kit Go.Proofs.YtndpdbofoojkhaaGreat.Fo Go.Proofs.YtndpdbofoojkhaaGreat.Lv Go.Proofs.YtndpdbofoojkhaaGreat.Bad
set_option linter.unusedVariables false
set_option linter.unusedSimpArgs false

theorem set_len2 (d : FontD) : ∀ cs : List Int, (setG d cs).length ≤ cs.length
  | [] => by simp [setG]
  | c :: cs => set_len d cs c
theorem flat_le (d : FontD) : ∀ P : List (List Int), (P.map (setG d)).flatten.length ≤ sumP P
  | [] => by simp [sumP]
  | p :: P => by
    have h1 := set_len2 d p
    have h2 := flat_le d P
    simp only [List.map_cons, List.flatten_cons, List.length_append, sumP, List.sum_cons] at h2 ⊢
    omega
theorem glyE_all {d : FontD} : ∀ {P : List (List Int)}, glyE d P = 0 → ∀ p ∈ P, setE d p = 0
  | [], _, p, hp => by simp at hp
  | q :: P, h, p, hp => by
    unfold glyE at h
    split at h
    · rename_i h0
      rcases List.mem_cons.1 hp with rfl | hp
      · exact h0
      · exact glyE_all h p hp
    · rename_i h0; exact absurd h h0
theorem setE_has {d : FontD} {p : List Int} (h : setE d p = 0) : ligB d = true ∧ ∀ c ∈ p, hasB d c = true := by
  unfold setE at h
  split at h
  · rename_i hl
    split at h
    · simp at h
    · rename_i hb
      refine ⟨hl, fun c hc => ?_⟩
      have h1 : ¬ badC d c = true := fun e => hb (List.any_eq_true.2 ⟨c, hc, e⟩)
      simp only [badC, Bool.or_eq_true, Bool.not_eq_true', not_or, Bool.not_eq_false] at h1
      exact h1.2
  · simp at h
theorem mayP_ok {P : List (List Int)} (h : mayP P = true) : (1 ≤ P.length ∧ P.length ≤ 100) ∧ sumP P ≤ 401 ∧ ∀ p ∈ P, p ≠ [] := by
  simp only [mayP, Bool.and_eq_true, decide_eq_true_eq, Bool.not_eq_true', List.any_eq_false] at h
  exact ⟨h.1.1, h.1.2, fun p hp e => h.2 p hp (by rw [e]; rfl)⟩
/-- What glyphs are that may be. -/
structure GlyOk (d : FontD) (G : List (List (Int × Int))) : Prop where
  one : 1 ≤ G.length
  most : G.length ≤ 100
  flat : G.flatten.length ≤ 401
  some' : ∀ g ∈ G, g ≠ []
  has : ∀ g ∈ G, ∀ x ∈ g, hasB d x.1 = true ∧ fixB x.2 = true
theorem gly_ok {d : FontD} {P : List (List Int)} (h : allE d P = 0) : mayP P = true ∧ allG d P = P.map (setG d) ∧ GlyOk d (P.map (setG d)) := by
  have hm : mayP P = true := by
    unfold allE at h
    split at h
    · assumption
    · simp at h
  have hg : glyE d P = 0 := by rw [allE, if_pos hm] at h; exact h
  obtain ⟨⟨h1, h2⟩, h3, h4⟩ := mayP_ok hm
  refine ⟨hm, by rw [allG, if_pos h], by simpa using h1, by simpa using h2, Nat.le_trans (flat_le d P) h3, fun g hg' => ?_, fun g hg' x hx => ?_⟩
  · obtain ⟨p, hp, rfl⟩ := List.mem_map.1 hg'
    have := h4 p hp
    cases p with
    | nil => exact absurd rfl this
    | cons c cs => exact setFrom_ne d cs c
  · obtain ⟨p, hp, rfl⟩ := List.mem_map.1 hg'
    obtain ⟨hl, hc⟩ := setE_has (glyE_all hg p hp)
    cases p with
    | nil => simp [setG] at hx
    | cons c cs => exact set_ok hl cs c (hc c (by simp)) (fun y hy => hc y (by simp [hy])) x hx
theorem flat_each : ∀ (G : List (List (Int × Int))) (g : List (Int × Int)), g ∈ G → g.length ≤ G.flatten.length
  | x :: G, g, h => by
    rcases List.mem_cons.1 h with rfl | h
    · rw [List.flatten_cons, List.length_append]; omega
    · have := flat_each G g h
      rw [List.flatten_cons, List.length_append]
      omega
theorem gly_wf {d : FontD} {G : List (List (Int × Int))} (ht : tfmB d = true) (h : GlyOk d G) : WfG G := fun g hg x hx => by
  obtain ⟨h1, h2⟩ := h.has g hg x hx
  have := has_wf ht h1
  simp only [fixB, Bool.and_eq_true, decide_eq_true_eq] at h2
  exact ⟨wf64 (by omega), wf64 (by omega)⟩
def headG (G : List (List (Int × Int))) : Int := ((G.getD 0 []).getD 0 (0, 0)).1
def lastG (G : List (List (Int × Int))) : Int := ((G.getD (G.length - 1) []).getD ((G.getD (G.length - 1) []).length - 1) (0, 0)).1
def gapAt (d : FaceD) (l : LayD) (G : List (List (Int × Int))) (long lev : Int) : Int := long + (tellS d 2 (headG G) lev).1 + (tellS d 3 (lastG G) lev).1 - wideS d l.space G lev
def judgeAt (d : FaceD) (l : LayD) (G : List (List (Int × Int))) (long : Int) (last : Bool) (ex lev : Int) : Int × Bool × Int := judgeP (gapAt d l G long lev) (l.stretch * ((G.length : Int) - 1)) (l.shrink * ((G.length : Int) - 1)) ex last
def fitAt (d : FaceD) (l : LayD) (G : List (List (Int × Int))) (long : Int) (last : Bool) (ex lev : Int) : FitD :=
  { level := lev, nat := wideS d l.space G lev, left := (tellS d 2 (headG G) lev).1, right := (tellS d 3 (lastG G) lev).1, bad := (judgeAt d l G long last ex lev).1, cls := fitP (judgeAt d l G long last ex lev).1 (decide (gapAt d l G long lev < 0)), unset := (judgeAt d l G long last ex lev).2.1, defect := (judgeAt d l G long last ex lev).2.2 }
def bestN (f : Nat → FitD) : Nat → Option FitD
  | 0 => none
  | k + 1 => match bestN f k with
    | none => some (f k)
    | some b => if betterP (f k) b then some (f k) else some b
def fitZ : FitD := { level := 0, nat := 0, left := 0, right := 0, bad := 0, cls := 0, unset := false, defect := 0 }
def lineE (d : FaceD) (l : LayD) (P : List (List Int)) (long ex : Int) : Int :=
  if allE d.font P = 0 then (if layB l then (if long < 1 ∨ 67108864 < long ∨ ex < 0 ∨ 67108864 < ex then 1 else 0) else 140) else allE d.font P
def levN (d : FaceD) : Nat := (d.up + d.down + 1).toNat
def lineF (d : FaceD) (l : LayD) (P : List (List Int)) (long : Int) (last : Bool) (ex : Int) : FitD :=
  if lineE d l P long ex = 0 then (bestN (fun k => fitAt d l (P.map (setG d.font)) long last ex (-d.down + k)) (levN d)).getD fitZ else fitZ
theorem best_some (f : Nat → FitD) : ∀ k, ∃ i, i < k + 1 ∧ bestN f (k + 1) = some (f i)
  | 0 => ⟨0, by omega, rfl⟩
  | k + 1 => by
    obtain ⟨i, hi, h⟩ := best_some f k
    rw [bestN, h]
    by_cases hb : betterP (f (k + 1)) (f i) = true
    · exact ⟨k + 1, by omega, by simp [hb]⟩
    · exact ⟨i, by omega, by simp [hb]⟩
theorem gap_ok {d : FaceD} (hf : faceB d = true) {l : LayD} (hl : layB l = true) {G : List (List (Int × Int))} (hg : GlyOk d.font G) {long ex : Int} (h1 : 1 ≤ long ∧ long ≤ 67108864) (h2 : 0 ≤ ex ∧ ex ≤ 67108864) (lev : Int) :
    JudgeOk (gapAt d l G long lev) (l.stretch * ((G.length : Int) - 1)) (l.shrink * ((G.length : Int) - 1)) ex ∧ (0 ≤ l.space ∧ l.space ≤ 4194304) ∧ (0 ≤ l.stretch ∧ l.stretch ≤ 4194304) ∧ (0 ≤ l.shrink ∧ l.shrink ≤ 4194304) ∧
    (tellS d 2 (headG G) lev).1.natAbs ≤ 26843613108865000 ∧ (tellS d 3 (lastG G) lev).1.natAbs ≤ 26843613108865000 ∧ (wideS d l.space G lev).natAbs ≤ 15001000000000000 := by
  have hsp : (0 ≤ l.space ∧ l.space ≤ 4194304) ∧ (0 ≤ l.stretch ∧ l.stretch ≤ 4194304) ∧ (0 ≤ l.shrink ∧ l.shrink ≤ 4194304) := by
    unfold layB at hl
    simp only [Bool.and_eq_true] at hl
    have h := hl.1.1.1.1.1.1.1.1.1.1.1.1.2
    unfold inB outB at h
    simp at h
    omega
  obtain ⟨a1, a2, a3⟩ := hsp
  have e1 : (tellS d 2 (headG G) lev).1.natAbs ≤ 26843613108865000 := (edges_abs hf (headG G) lev).1
  have e2 : (tellS d 3 (lastG G) lev).1.natAbs ≤ 26843613108865000 := (edges_abs hf (lastG G) lev).2
  have e3 := wide_abs hf (lev := lev) a1 (Nat.le_trans hg.most (by omega)) (Nat.le_trans hg.flat (by omega))
  have hm := hg.most
  have ho := hg.one
  have m1 : 0 ≤ l.stretch * ((G.length : Int) - 1) ∧ (l.stretch * ((G.length : Int) - 1)).natAbs ≤ 4194304 * 100 := ⟨Int.mul_nonneg a2.1 (by omega), mul_abs (by omega) (by omega)⟩
  have m2 : 0 ≤ l.shrink * ((G.length : Int) - 1) ∧ (l.shrink * ((G.length : Int) - 1)).natAbs ≤ 4194304 * 100 := ⟨Int.mul_nonneg a3.1 (by omega), mul_abs (by omega) (by omega)⟩
  refine ⟨⟨?_, by omega, by omega, by omega⟩, a1, a2, a3, e1, e2, e3⟩
  unfold gapAt
  omega
end Go.Proofs.YtndpdbofoojkhaaGreat.Ft
/- How a line fits: (*Ruler).Line walked: the ways out at its head. -/
namespace Go.Proofs.YtndpdbofoojkhaaGreat.Ft
open Go.RowKit Go.Proofs.YtndpdbofoojkhaaGreat.Kit Go.Proofs.YtndpdbofoojkhaaGreat.Fo Go.Proofs.YtndpdbofoojkhaaGreat.Lv Go.Proofs.YtndpdbofoojkhaaGreat.Bad
set_option linter.unusedVariables false
set_option linter.unusedSimpArgs false

abbrev fitV (x : FitD) : Value := .agg #[.int .i64 x.level, .int .i64 x.nat, .int .i64 x.left, .int .i64 x.right, .int .i64 x.bad, .int .i64 x.cls, .bool x.unset, .int .i64 x.defect]
abbrev fitB (x : FitD) : Array Value := #[.int .i64 x.level, .int .i64 x.nat, .int .i64 x.left, .int .i64 x.right, .int .i64 x.bad, .int .i64 x.cls, .bool x.unset, .int .i64 x.defect]
abbrev zF : Array Value := #[.int .i64 0, .int .i64 0, .int .i64 0, .int .i64 0, .int .i64 0, .int .i64 0, .bool false, .int .i64 0]
structure LayIn (w : World) (B : Nat) (l : LayD) (A : Option Addr) : Prop where
  row : Row lineR w B A l.shape
  wf : LayWf l
  each : ∀ x ∈ l.shape, (Lit.int .i64 x.1).wf = true ∧ (Lit.int .i64 x.2).wf = true
  len : l.shape.length ≤ 9223372036854775807
abbrev layL (l : LayD) (A : Option Addr) (c : Nat) : List Value := [.int .i64 l.width, .int .i64 l.space, .int .i64 l.stretch, .int .i64 l.shrink, .slice A l.shape.length c, .int .i64 l.hang, .int .i64 l.after, .int .i64 l.left, .int .i64 l.right, .int .i64 l.first, .int .i64 l.second, .int .i64 l.extra, .int .i64 l.linePen, .int .i64 l.hyphPen, .int .i64 l.dashPen, .int .i64 l.jump, .int .i64 l.double, .int .i64 l.final, .int .i64 l.river, .int .i64 l.ladder, .int .i64 l.loose]
theorem lay_load {W : World} {g : Nat} {l : LayD} {A : Option Addr} {c : Nat} (h : Box W g (layCells l A c) 32) : (Instr.loadAt 32 (.pointer (some ⟨g, 0, none⟩))).run Tryz.prog W = .ok (.agg (layCells l A c)) W :=
  run_loadAt_mid W g 0 32 (layL l A c) _ (rangeAt_box h) Tryz.underlying32 rfl (by kernel_rfl)
theorem ld_any {t : TypeId} {ops : Array Oper} {rest : List Oper} {op : Oper} {a : Act} {w : World} {Q : Exit → Act → World → Prop} {g o : Nat} {fv : Value} (hld : (Instr.loadAt t (.pointer (some ⟨g, o, none⟩))).run Tryz.prog w = .ok fv w) (hgd : op.guard = none) (x : Operand) (ho : op.op = .load t x)
    (hx : a.eval x = .pointer (some ⟨g, o, none⟩)) (h : wpList Tryz.prog ops Q rest (a.put op.dst fv) w) : wpList Tryz.prog ops Q (op :: rest) a w :=
  wpList_plain hgd fun _ hK => by
    unfold Oper.wp execOp
    simp only [ho, hx, Sem.run_bind, hld, Sem.run_pure, Result.andThen_ok]
    exact hK _ _ h
set_option maxRecDepth 100000 in
set_option maxHeartbeats 8000000 in
theorem line_head (d : FaceD) (a : FaceA) (r m n : Nat) (l : LayD) (As : Option Addr) (cs : Nat) (Ap : Option Addr) (c : Nat) (P : List (List Int)) (long : Int) (last : Bool) (ex : Int) (w : World) (hf : faceB d = true) (hR : Rul d a r m n w) {B : Nat} (hB : B ≤ w.heap.size) (hL : LayIn w B l As) (hx : Row (Rep.int .i64).slice w B Ap P) (hl : P.length ≤ 1000) (hs : ∀ x ∈ P, x.length ≤ 1000) (hlE : lineE d l P long ex ≠ 0) :
    Calls Tryz.prog 11 #[.pointer (some ⟨r, 0, none⟩), .agg (layCells l As cs), .slice Ap P.length c, .int .i64 long, .bool last, .int .i64 ex] w fun e w' => e = .returned (.tuple #[fitV fitZ, .int .i64 (lineE d l P long ex)]) ∧ Below w.heap.size w w' := by
  have hb0 := (Box.new w (layCells l As cs) 32).alloc (.cells zF 46)
  have hb1 := Box.new (w.alloc (.cells (layCells l As cs) 32)) zF 46
  have hbw := below_alloc (below_alloc (Below.refl w.heap.size w) (.cells (layCells l As cs) 32)) (.cells zF 46)
  simp only [World.size_alloc] at hb1
  obtain ⟨W1, hW⟩ : ∃ W1, (w.alloc (.cells (layCells l As cs) 32)).alloc (.cells zF 46) = W1 := ⟨_, rfl⟩
  rw [hW] at hb0 hb1 hbw
  have HW := Lib.hid hW
  have hs1 := hbw.size
  have HG := Lib.hid (glyphs_any d a r m n Ap c P W1 (hR.off hbw) (Nat.le_trans hB hs1) (hx.mono (hbw.mono hB)) hl hs)
  obtain ⟨E, hE⟩ : ∃ E, Hid (lineE d l P long ex = E) := ⟨_, Lib.hid rfl⟩
  rw [hE.out]
  obtain ⟨g, hg⟩ : ∃ g, w.heap.size = g := ⟨_, rfl⟩
  have HGg := Lib.hid hg
  rw [hg] at hb0 hb1
  have HLc : Hid (∀ W, Below w.heap.size w W → Calls Tryz.prog 25 #[.agg (layCells l As cs)] W fun e w' => e = .returned (.bool (layB l)) ∧ Below W.heap.size W w') := Lib.hid (fun W hb => lay_any l As cs W (B := B) (Nat.le_trans hB hb.size) (hL.row.mono (hb.mono hB)) hL.wf hL.each hL.len)
  clear hR hx hL hs hW hg
  by_cases hA : allE d.font P = 0
  · have hEE : E = if layB l then (if long < 1 ∨ 67108864 < long ∨ ex < 0 ∨ 67108864 < ex then 1 else 0) else 140 := by rw [← hE.out, lineE, if_pos hA]
    rw [hA] at HG
    generalize allG d.font P = G at *
    have hlE' : E ≠ 0 := by rw [← hE.out]; exact hlE
    clear hE hlE hA
    cases hlb : layB l with
    | false =>
      have HE : Hid (E = 140) := Lib.hid (by rw [hEE, hlb]; rfl)
      rw [hlb] at HLc
      clear hEE hlE' hlb
      go_enter Tryz.func11, Tryz.ntmps11
      go_wp2_with fail
      rw [HW.out]
      with_reducible refine HG.out.mono ?_
      rintro e w2 ⟨Ag, cg, rfl, hgg, hb⟩
      have hw2 := hbw.trans (hb.mono hs1)
      have hbx2 := hb0.below hb
      have hbz2 := hb1.below hb
      have hld := lay_load hbx2
      have HLc2 := Lib.hid (HLc.out w2 hw2)
      obtain ⟨lv, hlv⟩ : ∃ lv, Hid ((Value.agg (layCells l As cs)) = lv) := ⟨_, Lib.hid rfl⟩
      rw [hlv.out] at hld HLc2
      clear HG hgg hb hb0 hb1 hbw HLc HW
      rw [HGg.out]
      go_wp2_with (refine ld_any hld rfl _ rfl rfl ?_)
      with_reducible refine HLc2.out.mono ?_
      rintro e w3 ⟨rfl, hb3⟩
      have HBZ := Lib.hid (hbz2.below hb3)
      have hw3 := hw2.trans (hb3.mono hw2.size)
      clear hld HLc2 hbx2 hbz2 hb3 hw2
      have hgw : w.heap.size ≤ g + 1 := by have := HGg.out; omega
      have m0 : w3.cell? ⟨g + 1, 0, none⟩ = some (.int .i64 0) := HBZ.out.cell 0 rfl
      have n0 := HBZ.out.free 0
      have m1 : w3.cell? ⟨g + 1, 1, none⟩ = some (.int .i64 0) := HBZ.out.cell 1 rfl
      have n1 := HBZ.out.free 1
      have m2 : w3.cell? ⟨g + 1, 2, none⟩ = some (.int .i64 0) := HBZ.out.cell 2 rfl
      have n2 := HBZ.out.free 2
      have m3 : w3.cell? ⟨g + 1, 3, none⟩ = some (.int .i64 0) := HBZ.out.cell 3 rfl
      have n3 := HBZ.out.free 3
      have m4 : w3.cell? ⟨g + 1, 4, none⟩ = some (.int .i64 0) := HBZ.out.cell 4 rfl
      have n4 := HBZ.out.free 4
      have m5 : w3.cell? ⟨g + 1, 5, none⟩ = some (.int .i64 0) := HBZ.out.cell 5 rfl
      have n5 := HBZ.out.free 5
      have m6 : w3.cell? ⟨g + 1, 6, none⟩ = some (.bool false) := HBZ.out.cell 6 rfl
      have n6 := HBZ.out.free 6
      have m7 : w3.cell? ⟨g + 1, 7, none⟩ = some (.int .i64 0) := HBZ.out.cell 7 rfl
      have n7 := HBZ.out.free 7
      go_wp2_with fail
      have HBe := Lib.hid ((((((((HBZ.out.set 0 (.int .i64 0)).set 1 (.int .i64 0)).set 2 (.int .i64 0)).set 3 (.int .i64 0)).set 4 (.int .i64 0)).set 5 (.int .i64 0)).set 6 (.bool false)).set 7 (.int .i64 0))
      have HWe : Hid (Below w.heap.size w ((((((((w3.setCell ⟨g + 1, 0, none⟩ (.int .i64 0)).setCell ⟨g + 1, 1, none⟩ (.int .i64 0)).setCell ⟨g + 1, 2, none⟩ (.int .i64 0)).setCell ⟨g + 1, 3, none⟩ (.int .i64 0)).setCell ⟨g + 1, 4, none⟩ (.int .i64 0)).setCell ⟨g + 1, 5, none⟩ (.int .i64 0)).setCell ⟨g + 1, 6, none⟩ (.bool false)).setCell ⟨g + 1, 7, none⟩ (.int .i64 0))) := Lib.hid ((((((((hw3.setCell (p := ⟨g + 1, 0, none⟩) (by show w.heap.size ≤ g + 1; omega) (.int .i64 0)).setCell (p := ⟨g + 1, 1, none⟩) (by show w.heap.size ≤ g + 1; omega) (.int .i64 0)).setCell (p := ⟨g + 1, 2, none⟩) (by show w.heap.size ≤ g + 1; omega) (.int .i64 0)).setCell (p := ⟨g + 1, 3, none⟩) (by show w.heap.size ≤ g + 1; omega) (.int .i64 0)).setCell (p := ⟨g + 1, 4, none⟩) (by show w.heap.size ≤ g + 1; omega) (.int .i64 0)).setCell (p := ⟨g + 1, 5, none⟩) (by show w.heap.size ≤ g + 1; omega) (.int .i64 0)).setCell (p := ⟨g + 1, 6, none⟩) (by show w.heap.size ≤ g + 1; omega) (.bool false)).setCell (p := ⟨g + 1, 7, none⟩) (by show w.heap.size ≤ g + 1; omega) (.int .i64 0))
      clear m0 n0 m1 n1 m2 n2 m3 n3 m4 n4 m5 n5 m6 n6 m7 n7
      generalize ((((((((w3.setCell ⟨g + 1, 0, none⟩ (.int .i64 0)).setCell ⟨g + 1, 1, none⟩ (.int .i64 0)).setCell ⟨g + 1, 2, none⟩ (.int .i64 0)).setCell ⟨g + 1, 3, none⟩ (.int .i64 0)).setCell ⟨g + 1, 4, none⟩ (.int .i64 0)).setCell ⟨g + 1, 5, none⟩ (.int .i64 0)).setCell ⟨g + 1, 6, none⟩ (.bool false)).setCell ⟨g + 1, 7, none⟩ (.int .i64 0)) = W5 at *
      have m0 : W5.cell? ⟨g + 1, 0, none⟩ = some (.int .i64 0) := HBe.out.cell 0 rfl
      have m1 : W5.cell? ⟨g + 1, 1, none⟩ = some (.int .i64 0) := HBe.out.cell 1 rfl
      have m2 : W5.cell? ⟨g + 1, 2, none⟩ = some (.int .i64 0) := HBe.out.cell 2 rfl
      have m3 : W5.cell? ⟨g + 1, 3, none⟩ = some (.int .i64 0) := HBe.out.cell 3 rfl
      have m4 : W5.cell? ⟨g + 1, 4, none⟩ = some (.int .i64 0) := HBe.out.cell 4 rfl
      have m5 : W5.cell? ⟨g + 1, 5, none⟩ = some (.int .i64 0) := HBe.out.cell 5 rfl
      have m6 : W5.cell? ⟨g + 1, 6, none⟩ = some (.bool false) := HBe.out.cell 6 rfl
      have m7 : W5.cell? ⟨g + 1, 7, none⟩ = some (.int .i64 0) := HBe.out.cell 7 rfl
      refine bodyPost_ret (v := .tuple #[fitV fitZ, .int .i64 (140)]) (by simp [results, Tryz.f11, go_sem, fitZ, m0, m1, m2, m3, m4, m5, m6, m7]) rfl ?_
      exact ⟨by rw [HE.out], HWe.out⟩
    | true =>
      have hbad : long < 1 ∨ 67108864 < long ∨ ex < 0 ∨ 67108864 < ex := by
        by_cases hh : long < 1 ∨ 67108864 < long ∨ ex < 0 ∨ 67108864 < ex
        · exact hh
        · rw [hlb] at hEE
          simp only [if_true] at hEE
          rw [if_neg hh] at hEE
          exact absurd hEE hlE'
      have HE : Hid (E = 1) := Lib.hid (by rw [hEE, hlb]; simp only [if_true]; rw [if_pos hbad])
      rw [hlb] at HLc
      clear hEE hlE' hlb
      go_enter Tryz.func11, Tryz.ntmps11
      go_wp2_with fail
      rw [HW.out]
      with_reducible refine HG.out.mono ?_
      rintro e w2 ⟨Ag, cg, rfl, hgg, hb⟩
      have hw2 := hbw.trans (hb.mono hs1)
      have hbx2 := hb0.below hb
      have hbz2 := hb1.below hb
      have hld := lay_load hbx2
      have HLc2 := Lib.hid (HLc.out w2 hw2)
      obtain ⟨lv, hlv⟩ : ∃ lv, Hid ((Value.agg (layCells l As cs)) = lv) := ⟨_, Lib.hid rfl⟩
      rw [hlv.out] at hld HLc2
      clear HG hgg hb hb0 hb1 hbw HLc HW
      rw [HGg.out]
      go_wp2_with (refine ld_any hld rfl _ rfl rfl ?_)
      with_reducible refine HLc2.out.mono ?_
      rintro e w3 ⟨rfl, hb3⟩
      have HBZ := Lib.hid (hbz2.below hb3)
      have hw3 := hw2.trans (hb3.mono hw2.size)
      clear hld HLc2 hbx2 hbz2 hb3 hw2
      by_cases b1 : long < 1
      · have F1 : (long < 1) = True := eq_true b1
        clear hbad b1
        have hgw : w.heap.size ≤ g + 1 := by have := HGg.out; omega
        have m0 : w3.cell? ⟨g + 1, 0, none⟩ = some (.int .i64 0) := HBZ.out.cell 0 rfl
        have n0 := HBZ.out.free 0
        have m1 : w3.cell? ⟨g + 1, 1, none⟩ = some (.int .i64 0) := HBZ.out.cell 1 rfl
        have n1 := HBZ.out.free 1
        have m2 : w3.cell? ⟨g + 1, 2, none⟩ = some (.int .i64 0) := HBZ.out.cell 2 rfl
        have n2 := HBZ.out.free 2
        have m3 : w3.cell? ⟨g + 1, 3, none⟩ = some (.int .i64 0) := HBZ.out.cell 3 rfl
        have n3 := HBZ.out.free 3
        have m4 : w3.cell? ⟨g + 1, 4, none⟩ = some (.int .i64 0) := HBZ.out.cell 4 rfl
        have n4 := HBZ.out.free 4
        have m5 : w3.cell? ⟨g + 1, 5, none⟩ = some (.int .i64 0) := HBZ.out.cell 5 rfl
        have n5 := HBZ.out.free 5
        have m6 : w3.cell? ⟨g + 1, 6, none⟩ = some (.bool false) := HBZ.out.cell 6 rfl
        have n6 := HBZ.out.free 6
        have m7 : w3.cell? ⟨g + 1, 7, none⟩ = some (.int .i64 0) := HBZ.out.cell 7 rfl
        have n7 := HBZ.out.free 7
        go_wp2_with fail
        have HBe := Lib.hid ((((((((HBZ.out.set 0 (.int .i64 0)).set 1 (.int .i64 0)).set 2 (.int .i64 0)).set 3 (.int .i64 0)).set 4 (.int .i64 0)).set 5 (.int .i64 0)).set 6 (.bool false)).set 7 (.int .i64 0))
        have HWe : Hid (Below w.heap.size w ((((((((w3.setCell ⟨g + 1, 0, none⟩ (.int .i64 0)).setCell ⟨g + 1, 1, none⟩ (.int .i64 0)).setCell ⟨g + 1, 2, none⟩ (.int .i64 0)).setCell ⟨g + 1, 3, none⟩ (.int .i64 0)).setCell ⟨g + 1, 4, none⟩ (.int .i64 0)).setCell ⟨g + 1, 5, none⟩ (.int .i64 0)).setCell ⟨g + 1, 6, none⟩ (.bool false)).setCell ⟨g + 1, 7, none⟩ (.int .i64 0))) := Lib.hid ((((((((hw3.setCell (p := ⟨g + 1, 0, none⟩) (by show w.heap.size ≤ g + 1; omega) (.int .i64 0)).setCell (p := ⟨g + 1, 1, none⟩) (by show w.heap.size ≤ g + 1; omega) (.int .i64 0)).setCell (p := ⟨g + 1, 2, none⟩) (by show w.heap.size ≤ g + 1; omega) (.int .i64 0)).setCell (p := ⟨g + 1, 3, none⟩) (by show w.heap.size ≤ g + 1; omega) (.int .i64 0)).setCell (p := ⟨g + 1, 4, none⟩) (by show w.heap.size ≤ g + 1; omega) (.int .i64 0)).setCell (p := ⟨g + 1, 5, none⟩) (by show w.heap.size ≤ g + 1; omega) (.int .i64 0)).setCell (p := ⟨g + 1, 6, none⟩) (by show w.heap.size ≤ g + 1; omega) (.bool false)).setCell (p := ⟨g + 1, 7, none⟩) (by show w.heap.size ≤ g + 1; omega) (.int .i64 0))
        clear m0 n0 m1 n1 m2 n2 m3 n3 m4 n4 m5 n5 m6 n6 m7 n7
        generalize ((((((((w3.setCell ⟨g + 1, 0, none⟩ (.int .i64 0)).setCell ⟨g + 1, 1, none⟩ (.int .i64 0)).setCell ⟨g + 1, 2, none⟩ (.int .i64 0)).setCell ⟨g + 1, 3, none⟩ (.int .i64 0)).setCell ⟨g + 1, 4, none⟩ (.int .i64 0)).setCell ⟨g + 1, 5, none⟩ (.int .i64 0)).setCell ⟨g + 1, 6, none⟩ (.bool false)).setCell ⟨g + 1, 7, none⟩ (.int .i64 0)) = W5 at *
        have m0 : W5.cell? ⟨g + 1, 0, none⟩ = some (.int .i64 0) := HBe.out.cell 0 rfl
        have m1 : W5.cell? ⟨g + 1, 1, none⟩ = some (.int .i64 0) := HBe.out.cell 1 rfl
        have m2 : W5.cell? ⟨g + 1, 2, none⟩ = some (.int .i64 0) := HBe.out.cell 2 rfl
        have m3 : W5.cell? ⟨g + 1, 3, none⟩ = some (.int .i64 0) := HBe.out.cell 3 rfl
        have m4 : W5.cell? ⟨g + 1, 4, none⟩ = some (.int .i64 0) := HBe.out.cell 4 rfl
        have m5 : W5.cell? ⟨g + 1, 5, none⟩ = some (.int .i64 0) := HBe.out.cell 5 rfl
        have m6 : W5.cell? ⟨g + 1, 6, none⟩ = some (.bool false) := HBe.out.cell 6 rfl
        have m7 : W5.cell? ⟨g + 1, 7, none⟩ = some (.int .i64 0) := HBe.out.cell 7 rfl
        refine bodyPost_ret (v := .tuple #[fitV fitZ, .int .i64 (1)]) (by simp [results, Tryz.f11, go_sem, fitZ, m0, m1, m2, m3, m4, m5, m6, m7]) rfl ?_
        exact ⟨by rw [HE.out], HWe.out⟩
      · have F1 : (long < 1) = False := eq_false b1
        by_cases b2 : 67108864 < long
        · have F2 : (67108864 < long) = True := eq_true b2
          clear hbad b1 b2
          have hgw : w.heap.size ≤ g + 1 := by have := HGg.out; omega
          have m0 : w3.cell? ⟨g + 1, 0, none⟩ = some (.int .i64 0) := HBZ.out.cell 0 rfl
          have n0 := HBZ.out.free 0
          have m1 : w3.cell? ⟨g + 1, 1, none⟩ = some (.int .i64 0) := HBZ.out.cell 1 rfl
          have n1 := HBZ.out.free 1
          have m2 : w3.cell? ⟨g + 1, 2, none⟩ = some (.int .i64 0) := HBZ.out.cell 2 rfl
          have n2 := HBZ.out.free 2
          have m3 : w3.cell? ⟨g + 1, 3, none⟩ = some (.int .i64 0) := HBZ.out.cell 3 rfl
          have n3 := HBZ.out.free 3
          have m4 : w3.cell? ⟨g + 1, 4, none⟩ = some (.int .i64 0) := HBZ.out.cell 4 rfl
          have n4 := HBZ.out.free 4
          have m5 : w3.cell? ⟨g + 1, 5, none⟩ = some (.int .i64 0) := HBZ.out.cell 5 rfl
          have n5 := HBZ.out.free 5
          have m6 : w3.cell? ⟨g + 1, 6, none⟩ = some (.bool false) := HBZ.out.cell 6 rfl
          have n6 := HBZ.out.free 6
          have m7 : w3.cell? ⟨g + 1, 7, none⟩ = some (.int .i64 0) := HBZ.out.cell 7 rfl
          have n7 := HBZ.out.free 7
          go_wp2_with fail
          have HBe := Lib.hid ((((((((HBZ.out.set 0 (.int .i64 0)).set 1 (.int .i64 0)).set 2 (.int .i64 0)).set 3 (.int .i64 0)).set 4 (.int .i64 0)).set 5 (.int .i64 0)).set 6 (.bool false)).set 7 (.int .i64 0))
          have HWe : Hid (Below w.heap.size w ((((((((w3.setCell ⟨g + 1, 0, none⟩ (.int .i64 0)).setCell ⟨g + 1, 1, none⟩ (.int .i64 0)).setCell ⟨g + 1, 2, none⟩ (.int .i64 0)).setCell ⟨g + 1, 3, none⟩ (.int .i64 0)).setCell ⟨g + 1, 4, none⟩ (.int .i64 0)).setCell ⟨g + 1, 5, none⟩ (.int .i64 0)).setCell ⟨g + 1, 6, none⟩ (.bool false)).setCell ⟨g + 1, 7, none⟩ (.int .i64 0))) := Lib.hid ((((((((hw3.setCell (p := ⟨g + 1, 0, none⟩) (by show w.heap.size ≤ g + 1; omega) (.int .i64 0)).setCell (p := ⟨g + 1, 1, none⟩) (by show w.heap.size ≤ g + 1; omega) (.int .i64 0)).setCell (p := ⟨g + 1, 2, none⟩) (by show w.heap.size ≤ g + 1; omega) (.int .i64 0)).setCell (p := ⟨g + 1, 3, none⟩) (by show w.heap.size ≤ g + 1; omega) (.int .i64 0)).setCell (p := ⟨g + 1, 4, none⟩) (by show w.heap.size ≤ g + 1; omega) (.int .i64 0)).setCell (p := ⟨g + 1, 5, none⟩) (by show w.heap.size ≤ g + 1; omega) (.int .i64 0)).setCell (p := ⟨g + 1, 6, none⟩) (by show w.heap.size ≤ g + 1; omega) (.bool false)).setCell (p := ⟨g + 1, 7, none⟩) (by show w.heap.size ≤ g + 1; omega) (.int .i64 0))
          clear m0 n0 m1 n1 m2 n2 m3 n3 m4 n4 m5 n5 m6 n6 m7 n7
          generalize ((((((((w3.setCell ⟨g + 1, 0, none⟩ (.int .i64 0)).setCell ⟨g + 1, 1, none⟩ (.int .i64 0)).setCell ⟨g + 1, 2, none⟩ (.int .i64 0)).setCell ⟨g + 1, 3, none⟩ (.int .i64 0)).setCell ⟨g + 1, 4, none⟩ (.int .i64 0)).setCell ⟨g + 1, 5, none⟩ (.int .i64 0)).setCell ⟨g + 1, 6, none⟩ (.bool false)).setCell ⟨g + 1, 7, none⟩ (.int .i64 0)) = W5 at *
          have m0 : W5.cell? ⟨g + 1, 0, none⟩ = some (.int .i64 0) := HBe.out.cell 0 rfl
          have m1 : W5.cell? ⟨g + 1, 1, none⟩ = some (.int .i64 0) := HBe.out.cell 1 rfl
          have m2 : W5.cell? ⟨g + 1, 2, none⟩ = some (.int .i64 0) := HBe.out.cell 2 rfl
          have m3 : W5.cell? ⟨g + 1, 3, none⟩ = some (.int .i64 0) := HBe.out.cell 3 rfl
          have m4 : W5.cell? ⟨g + 1, 4, none⟩ = some (.int .i64 0) := HBe.out.cell 4 rfl
          have m5 : W5.cell? ⟨g + 1, 5, none⟩ = some (.int .i64 0) := HBe.out.cell 5 rfl
          have m6 : W5.cell? ⟨g + 1, 6, none⟩ = some (.bool false) := HBe.out.cell 6 rfl
          have m7 : W5.cell? ⟨g + 1, 7, none⟩ = some (.int .i64 0) := HBe.out.cell 7 rfl
          refine bodyPost_ret (v := .tuple #[fitV fitZ, .int .i64 (1)]) (by simp [results, Tryz.f11, go_sem, fitZ, m0, m1, m2, m3, m4, m5, m6, m7]) rfl ?_
          exact ⟨by rw [HE.out], HWe.out⟩
        · have F2 : (67108864 < long) = False := eq_false b2
          by_cases b3 : ex < 0
          · have F3 : (ex < 0) = True := eq_true b3
            clear hbad b1 b2 b3
            have hgw : w.heap.size ≤ g + 1 := by have := HGg.out; omega
            have m0 : w3.cell? ⟨g + 1, 0, none⟩ = some (.int .i64 0) := HBZ.out.cell 0 rfl
            have n0 := HBZ.out.free 0
            have m1 : w3.cell? ⟨g + 1, 1, none⟩ = some (.int .i64 0) := HBZ.out.cell 1 rfl
            have n1 := HBZ.out.free 1
            have m2 : w3.cell? ⟨g + 1, 2, none⟩ = some (.int .i64 0) := HBZ.out.cell 2 rfl
            have n2 := HBZ.out.free 2
            have m3 : w3.cell? ⟨g + 1, 3, none⟩ = some (.int .i64 0) := HBZ.out.cell 3 rfl
            have n3 := HBZ.out.free 3
            have m4 : w3.cell? ⟨g + 1, 4, none⟩ = some (.int .i64 0) := HBZ.out.cell 4 rfl
            have n4 := HBZ.out.free 4
            have m5 : w3.cell? ⟨g + 1, 5, none⟩ = some (.int .i64 0) := HBZ.out.cell 5 rfl
            have n5 := HBZ.out.free 5
            have m6 : w3.cell? ⟨g + 1, 6, none⟩ = some (.bool false) := HBZ.out.cell 6 rfl
            have n6 := HBZ.out.free 6
            have m7 : w3.cell? ⟨g + 1, 7, none⟩ = some (.int .i64 0) := HBZ.out.cell 7 rfl
            have n7 := HBZ.out.free 7
            go_wp2_with fail
            have HBe := Lib.hid ((((((((HBZ.out.set 0 (.int .i64 0)).set 1 (.int .i64 0)).set 2 (.int .i64 0)).set 3 (.int .i64 0)).set 4 (.int .i64 0)).set 5 (.int .i64 0)).set 6 (.bool false)).set 7 (.int .i64 0))
            have HWe : Hid (Below w.heap.size w ((((((((w3.setCell ⟨g + 1, 0, none⟩ (.int .i64 0)).setCell ⟨g + 1, 1, none⟩ (.int .i64 0)).setCell ⟨g + 1, 2, none⟩ (.int .i64 0)).setCell ⟨g + 1, 3, none⟩ (.int .i64 0)).setCell ⟨g + 1, 4, none⟩ (.int .i64 0)).setCell ⟨g + 1, 5, none⟩ (.int .i64 0)).setCell ⟨g + 1, 6, none⟩ (.bool false)).setCell ⟨g + 1, 7, none⟩ (.int .i64 0))) := Lib.hid ((((((((hw3.setCell (p := ⟨g + 1, 0, none⟩) (by show w.heap.size ≤ g + 1; omega) (.int .i64 0)).setCell (p := ⟨g + 1, 1, none⟩) (by show w.heap.size ≤ g + 1; omega) (.int .i64 0)).setCell (p := ⟨g + 1, 2, none⟩) (by show w.heap.size ≤ g + 1; omega) (.int .i64 0)).setCell (p := ⟨g + 1, 3, none⟩) (by show w.heap.size ≤ g + 1; omega) (.int .i64 0)).setCell (p := ⟨g + 1, 4, none⟩) (by show w.heap.size ≤ g + 1; omega) (.int .i64 0)).setCell (p := ⟨g + 1, 5, none⟩) (by show w.heap.size ≤ g + 1; omega) (.int .i64 0)).setCell (p := ⟨g + 1, 6, none⟩) (by show w.heap.size ≤ g + 1; omega) (.bool false)).setCell (p := ⟨g + 1, 7, none⟩) (by show w.heap.size ≤ g + 1; omega) (.int .i64 0))
            clear m0 n0 m1 n1 m2 n2 m3 n3 m4 n4 m5 n5 m6 n6 m7 n7
            generalize ((((((((w3.setCell ⟨g + 1, 0, none⟩ (.int .i64 0)).setCell ⟨g + 1, 1, none⟩ (.int .i64 0)).setCell ⟨g + 1, 2, none⟩ (.int .i64 0)).setCell ⟨g + 1, 3, none⟩ (.int .i64 0)).setCell ⟨g + 1, 4, none⟩ (.int .i64 0)).setCell ⟨g + 1, 5, none⟩ (.int .i64 0)).setCell ⟨g + 1, 6, none⟩ (.bool false)).setCell ⟨g + 1, 7, none⟩ (.int .i64 0)) = W5 at *
            have m0 : W5.cell? ⟨g + 1, 0, none⟩ = some (.int .i64 0) := HBe.out.cell 0 rfl
            have m1 : W5.cell? ⟨g + 1, 1, none⟩ = some (.int .i64 0) := HBe.out.cell 1 rfl
            have m2 : W5.cell? ⟨g + 1, 2, none⟩ = some (.int .i64 0) := HBe.out.cell 2 rfl
            have m3 : W5.cell? ⟨g + 1, 3, none⟩ = some (.int .i64 0) := HBe.out.cell 3 rfl
            have m4 : W5.cell? ⟨g + 1, 4, none⟩ = some (.int .i64 0) := HBe.out.cell 4 rfl
            have m5 : W5.cell? ⟨g + 1, 5, none⟩ = some (.int .i64 0) := HBe.out.cell 5 rfl
            have m6 : W5.cell? ⟨g + 1, 6, none⟩ = some (.bool false) := HBe.out.cell 6 rfl
            have m7 : W5.cell? ⟨g + 1, 7, none⟩ = some (.int .i64 0) := HBe.out.cell 7 rfl
            refine bodyPost_ret (v := .tuple #[fitV fitZ, .int .i64 (1)]) (by simp [results, Tryz.f11, go_sem, fitZ, m0, m1, m2, m3, m4, m5, m6, m7]) rfl ?_
            exact ⟨by rw [HE.out], HWe.out⟩
          · have F3 : (ex < 0) = False := eq_false b3
            have F4 : (67108864 < ex) = True := eq_true (by omega)
            clear hbad b1 b2 b3
            have hgw : w.heap.size ≤ g + 1 := by have := HGg.out; omega
            have m0 : w3.cell? ⟨g + 1, 0, none⟩ = some (.int .i64 0) := HBZ.out.cell 0 rfl
            have n0 := HBZ.out.free 0
            have m1 : w3.cell? ⟨g + 1, 1, none⟩ = some (.int .i64 0) := HBZ.out.cell 1 rfl
            have n1 := HBZ.out.free 1
            have m2 : w3.cell? ⟨g + 1, 2, none⟩ = some (.int .i64 0) := HBZ.out.cell 2 rfl
            have n2 := HBZ.out.free 2
            have m3 : w3.cell? ⟨g + 1, 3, none⟩ = some (.int .i64 0) := HBZ.out.cell 3 rfl
            have n3 := HBZ.out.free 3
            have m4 : w3.cell? ⟨g + 1, 4, none⟩ = some (.int .i64 0) := HBZ.out.cell 4 rfl
            have n4 := HBZ.out.free 4
            have m5 : w3.cell? ⟨g + 1, 5, none⟩ = some (.int .i64 0) := HBZ.out.cell 5 rfl
            have n5 := HBZ.out.free 5
            have m6 : w3.cell? ⟨g + 1, 6, none⟩ = some (.bool false) := HBZ.out.cell 6 rfl
            have n6 := HBZ.out.free 6
            have m7 : w3.cell? ⟨g + 1, 7, none⟩ = some (.int .i64 0) := HBZ.out.cell 7 rfl
            have n7 := HBZ.out.free 7
            go_wp2_with fail
            have HBe := Lib.hid ((((((((HBZ.out.set 0 (.int .i64 0)).set 1 (.int .i64 0)).set 2 (.int .i64 0)).set 3 (.int .i64 0)).set 4 (.int .i64 0)).set 5 (.int .i64 0)).set 6 (.bool false)).set 7 (.int .i64 0))
            have HWe : Hid (Below w.heap.size w ((((((((w3.setCell ⟨g + 1, 0, none⟩ (.int .i64 0)).setCell ⟨g + 1, 1, none⟩ (.int .i64 0)).setCell ⟨g + 1, 2, none⟩ (.int .i64 0)).setCell ⟨g + 1, 3, none⟩ (.int .i64 0)).setCell ⟨g + 1, 4, none⟩ (.int .i64 0)).setCell ⟨g + 1, 5, none⟩ (.int .i64 0)).setCell ⟨g + 1, 6, none⟩ (.bool false)).setCell ⟨g + 1, 7, none⟩ (.int .i64 0))) := Lib.hid ((((((((hw3.setCell (p := ⟨g + 1, 0, none⟩) (by show w.heap.size ≤ g + 1; omega) (.int .i64 0)).setCell (p := ⟨g + 1, 1, none⟩) (by show w.heap.size ≤ g + 1; omega) (.int .i64 0)).setCell (p := ⟨g + 1, 2, none⟩) (by show w.heap.size ≤ g + 1; omega) (.int .i64 0)).setCell (p := ⟨g + 1, 3, none⟩) (by show w.heap.size ≤ g + 1; omega) (.int .i64 0)).setCell (p := ⟨g + 1, 4, none⟩) (by show w.heap.size ≤ g + 1; omega) (.int .i64 0)).setCell (p := ⟨g + 1, 5, none⟩) (by show w.heap.size ≤ g + 1; omega) (.int .i64 0)).setCell (p := ⟨g + 1, 6, none⟩) (by show w.heap.size ≤ g + 1; omega) (.bool false)).setCell (p := ⟨g + 1, 7, none⟩) (by show w.heap.size ≤ g + 1; omega) (.int .i64 0))
            clear m0 n0 m1 n1 m2 n2 m3 n3 m4 n4 m5 n5 m6 n6 m7 n7
            generalize ((((((((w3.setCell ⟨g + 1, 0, none⟩ (.int .i64 0)).setCell ⟨g + 1, 1, none⟩ (.int .i64 0)).setCell ⟨g + 1, 2, none⟩ (.int .i64 0)).setCell ⟨g + 1, 3, none⟩ (.int .i64 0)).setCell ⟨g + 1, 4, none⟩ (.int .i64 0)).setCell ⟨g + 1, 5, none⟩ (.int .i64 0)).setCell ⟨g + 1, 6, none⟩ (.bool false)).setCell ⟨g + 1, 7, none⟩ (.int .i64 0)) = W5 at *
            have m0 : W5.cell? ⟨g + 1, 0, none⟩ = some (.int .i64 0) := HBe.out.cell 0 rfl
            have m1 : W5.cell? ⟨g + 1, 1, none⟩ = some (.int .i64 0) := HBe.out.cell 1 rfl
            have m2 : W5.cell? ⟨g + 1, 2, none⟩ = some (.int .i64 0) := HBe.out.cell 2 rfl
            have m3 : W5.cell? ⟨g + 1, 3, none⟩ = some (.int .i64 0) := HBe.out.cell 3 rfl
            have m4 : W5.cell? ⟨g + 1, 4, none⟩ = some (.int .i64 0) := HBe.out.cell 4 rfl
            have m5 : W5.cell? ⟨g + 1, 5, none⟩ = some (.int .i64 0) := HBe.out.cell 5 rfl
            have m6 : W5.cell? ⟨g + 1, 6, none⟩ = some (.bool false) := HBe.out.cell 6 rfl
            have m7 : W5.cell? ⟨g + 1, 7, none⟩ = some (.int .i64 0) := HBe.out.cell 7 rfl
            refine bodyPost_ret (v := .tuple #[fitV fitZ, .int .i64 (1)]) (by simp [results, Tryz.f11, go_sem, fitZ, m0, m1, m2, m3, m4, m5, m6, m7]) rfl ?_
            exact ⟨by rw [HE.out], HWe.out⟩
  · have HE : Hid (E = allE d.font P) := Lib.hid (by rw [← hE.out, lineE, if_neg hA])
    have F1 : (allE d.font P != 0) = true := by simpa using hA
    have hXG : allG d.font P = [] := by rw [allG, if_neg hA]
    rw [hXG] at HG
    clear hXG hE hlE hA HLc
    generalize allE d.font P = EA at *
    go_enter Tryz.func11, Tryz.ntmps11
    go_wp2_with fail
    rw [HW.out]
    with_reducible refine HG.out.mono ?_
    rintro e w2 ⟨Ag, cg, rfl, hgg, hb⟩
    have hw2 := hbw.trans (hb.mono hs1)
    have HBZ := Lib.hid (hb1.below hb)
    have hw3 := hw2
    rw [HGg.out]
    clear HG hgg hb hb0 hb1 hbw HW hw2
    have hgw : w.heap.size ≤ g + 1 := by have := HGg.out; omega
    have m0 : w2.cell? ⟨g + 1, 0, none⟩ = some (.int .i64 0) := HBZ.out.cell 0 rfl
    have n0 := HBZ.out.free 0
    have m1 : w2.cell? ⟨g + 1, 1, none⟩ = some (.int .i64 0) := HBZ.out.cell 1 rfl
    have n1 := HBZ.out.free 1
    have m2 : w2.cell? ⟨g + 1, 2, none⟩ = some (.int .i64 0) := HBZ.out.cell 2 rfl
    have n2 := HBZ.out.free 2
    have m3 : w2.cell? ⟨g + 1, 3, none⟩ = some (.int .i64 0) := HBZ.out.cell 3 rfl
    have n3 := HBZ.out.free 3
    have m4 : w2.cell? ⟨g + 1, 4, none⟩ = some (.int .i64 0) := HBZ.out.cell 4 rfl
    have n4 := HBZ.out.free 4
    have m5 : w2.cell? ⟨g + 1, 5, none⟩ = some (.int .i64 0) := HBZ.out.cell 5 rfl
    have n5 := HBZ.out.free 5
    have m6 : w2.cell? ⟨g + 1, 6, none⟩ = some (.bool false) := HBZ.out.cell 6 rfl
    have n6 := HBZ.out.free 6
    have m7 : w2.cell? ⟨g + 1, 7, none⟩ = some (.int .i64 0) := HBZ.out.cell 7 rfl
    have n7 := HBZ.out.free 7
    go_wp2_with fail
    have HBe := Lib.hid ((((((((HBZ.out.set 0 (.int .i64 0)).set 1 (.int .i64 0)).set 2 (.int .i64 0)).set 3 (.int .i64 0)).set 4 (.int .i64 0)).set 5 (.int .i64 0)).set 6 (.bool false)).set 7 (.int .i64 0))
    have HWe : Hid (Below w.heap.size w ((((((((w2.setCell ⟨g + 1, 0, none⟩ (.int .i64 0)).setCell ⟨g + 1, 1, none⟩ (.int .i64 0)).setCell ⟨g + 1, 2, none⟩ (.int .i64 0)).setCell ⟨g + 1, 3, none⟩ (.int .i64 0)).setCell ⟨g + 1, 4, none⟩ (.int .i64 0)).setCell ⟨g + 1, 5, none⟩ (.int .i64 0)).setCell ⟨g + 1, 6, none⟩ (.bool false)).setCell ⟨g + 1, 7, none⟩ (.int .i64 0))) := Lib.hid ((((((((hw3.setCell (p := ⟨g + 1, 0, none⟩) (by show w.heap.size ≤ g + 1; omega) (.int .i64 0)).setCell (p := ⟨g + 1, 1, none⟩) (by show w.heap.size ≤ g + 1; omega) (.int .i64 0)).setCell (p := ⟨g + 1, 2, none⟩) (by show w.heap.size ≤ g + 1; omega) (.int .i64 0)).setCell (p := ⟨g + 1, 3, none⟩) (by show w.heap.size ≤ g + 1; omega) (.int .i64 0)).setCell (p := ⟨g + 1, 4, none⟩) (by show w.heap.size ≤ g + 1; omega) (.int .i64 0)).setCell (p := ⟨g + 1, 5, none⟩) (by show w.heap.size ≤ g + 1; omega) (.int .i64 0)).setCell (p := ⟨g + 1, 6, none⟩) (by show w.heap.size ≤ g + 1; omega) (.bool false)).setCell (p := ⟨g + 1, 7, none⟩) (by show w.heap.size ≤ g + 1; omega) (.int .i64 0))
    clear m0 n0 m1 n1 m2 n2 m3 n3 m4 n4 m5 n5 m6 n6 m7 n7
    generalize ((((((((w2.setCell ⟨g + 1, 0, none⟩ (.int .i64 0)).setCell ⟨g + 1, 1, none⟩ (.int .i64 0)).setCell ⟨g + 1, 2, none⟩ (.int .i64 0)).setCell ⟨g + 1, 3, none⟩ (.int .i64 0)).setCell ⟨g + 1, 4, none⟩ (.int .i64 0)).setCell ⟨g + 1, 5, none⟩ (.int .i64 0)).setCell ⟨g + 1, 6, none⟩ (.bool false)).setCell ⟨g + 1, 7, none⟩ (.int .i64 0)) = W5 at *
    have m0 : W5.cell? ⟨g + 1, 0, none⟩ = some (.int .i64 0) := HBe.out.cell 0 rfl
    have m1 : W5.cell? ⟨g + 1, 1, none⟩ = some (.int .i64 0) := HBe.out.cell 1 rfl
    have m2 : W5.cell? ⟨g + 1, 2, none⟩ = some (.int .i64 0) := HBe.out.cell 2 rfl
    have m3 : W5.cell? ⟨g + 1, 3, none⟩ = some (.int .i64 0) := HBe.out.cell 3 rfl
    have m4 : W5.cell? ⟨g + 1, 4, none⟩ = some (.int .i64 0) := HBe.out.cell 4 rfl
    have m5 : W5.cell? ⟨g + 1, 5, none⟩ = some (.int .i64 0) := HBe.out.cell 5 rfl
    have m6 : W5.cell? ⟨g + 1, 6, none⟩ = some (.bool false) := HBe.out.cell 6 rfl
    have m7 : W5.cell? ⟨g + 1, 7, none⟩ = some (.int .i64 0) := HBe.out.cell 7 rfl
    refine bodyPost_ret (v := .tuple #[fitV fitZ, .int .i64 (EA)]) (by simp [results, Tryz.f11, go_sem, fitZ, m0, m1, m2, m3, m4, m5, m6, m7]) rfl ?_
    exact ⟨by rw [HE.out], HWe.out⟩
end Go.Proofs.YtndpdbofoojkhaaGreat.Ft
