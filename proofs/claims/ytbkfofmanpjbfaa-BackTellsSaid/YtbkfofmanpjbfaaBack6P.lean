/- Words of rows: the plain law, and what the walk of back.Words rests on. -/
import Derived.Test.YtbkfofmanpjbfaaBack5
import Derived.Test.YtbkfofmanpjbfaaBack2
import Derived.Test.YtbkfofmanpjbfaaBack3
import Derived.Test.YtbkfofmanpjbfaaFont9
namespace Go.Proofs.Ytbkfofmanpjbfaa.Bk
open Go.RowKit Go.Proofs.Ytbkfofmanpjbfaa.Kit Go.Proofs.Ytbkfofmanpjbfaa.Fo Go.Shelf
open Go.Proofs.YtbkfofmanpjbfaaW.PrintWords (Kd)
set_option linter.unusedVariables false
set_option linter.unusedSimpArgs false
attribute [local go_sem] Oper.semAt_some

/-! ### The plain law -/
abbrev kB : Kd (Int × Int × Int) := Kd.pair kI (Kd.pair kI kI)
def lineP (d : FontD) (r : RowD) : List (List Int) := (splitG [] (codesOf r)).map (expandV d)
def lastC (l : List Int) : Int := l.getD (l.length - 1) 0
/-- A row that no words are made of: the one at i of m. -/
def badR (d : FontD) (m i : Nat) (r : RowD) : Bool :=
  (lineP d r).any (·.isEmpty) || !((r.kind == 5) == decide (i + 1 = m)) || ((r.kind == 2 || r.kind == 3) && lastC ((lineP d r).getD ((lineP d r).length - 1) []) != 45)
def badN (d : FontD) (m : Nat) : Nat → List RowD → Bool
  | _, [] => false
  | i, r :: rs => badR d m i r || badN d m (i + 1) rs
def wordsP (d : FontD) (rows : List RowD) : List (List Int) × Int :=
  if ligB d = false then ([], 70) else if badN d rows.length 0 rows || rows.isEmpty then ([], 230) else (wholeP (rows.map (lineP d)) (rows.map (·.kind)), 0)
/-- Rows one behind the other. -/
def RowsIn (w : World) (B : Nat) (Ar : Option Addr) (rows : List RowD) : Prop := ∀ (i : Nat) (r : RowD), rows[i]? = some r → ∃ b o A c, Ar = some ⟨b, o, none⟩ ∧
  (∀ (j : Nat) (v : Value), (rowCells r A c)[j]? = some v → w.cell? ⟨b, o + i * 5 + j, none⟩ = some v) ∧ Row placedR w B A r.items ∧ r.items.length ≤ 100000

theorem split_ne (L : List Int) : ∀ cs, splitG L cs ≠ []
  | [] => by unfold splitG; simp
  | c :: cs => by
    by_cases h : c = 32
    · rw [split_gap h]; simp
    · rw [split_on h]; exact split_ne _ cs
theorem split_len (L : List Int) : ∀ cs, (splitG L cs).length ≤ cs.length + 1 := by
  intro cs
  induction cs generalizing L with
  | nil => unfold splitG; simp
  | cons c cs ih =>
    by_cases h : c = 32
    · rw [split_gap h]; have := ih []; simp; omega
    · rw [split_on h]; have := ih (L ++ [c]); simp; omega
theorem line_ne (d : FontD) (r : RowD) : lineP d r ≠ [] := by
  unfold lineP; intro h; exact split_ne _ _ (List.map_eq_nil_iff.1 h)
theorem line_len (d : FontD) (r : RowD) : (lineP d r).length ≤ r.items.length + 1 := by
  unfold lineP
  rw [List.length_map]
  refine Nat.le_trans (split_len _ _) ?_
  simp [codesOf]
theorem badN_at (d : FontD) (m : Nat) : ∀ (i : Nat) (rs : List RowD) (k : Nat) (r : RowD), rs[k]? = some r → badR d m (i + k) r = true → badN d m i rs = true
  | i, [], k, r, h, _ => by simp at h
  | i, x :: rs, 0, r, h, hb => by
    simp only [List.getElem?_cons_zero, Option.some.injEq] at h
    subst h
    rw [badN, show i + 0 = i from rfl] at *
    rw [hb]; rfl
  | i, x :: rs, k + 1, r, h, hb => by
    rw [badN, badN_at d m (i + 1) rs k r (by simpa using h) (by rw [← hb]; congr 1; omega), Bool.or_true]
theorem badN_none (d : FontD) (m : Nat) : ∀ (i : Nat) (rs : List RowD), (∀ k r, rs[k]? = some r → badR d m (i + k) r = false) → badN d m i rs = false
  | i, [], _ => rfl
  | i, x :: rs, h => by
    rw [badN, show badR d m i x = false from h 0 x rfl, badN_none d m (i + 1) rs (fun k r hk => by rw [← h (k + 1) r (by simpa using hk)]; congr 1; omega)]; rfl
theorem kinds_of {w : World} {A : Option Addr} {n : Nat} {xs : List (Int × Int × Int)} (hC : kB.C w A n xs) : Kinds w A (xs.map (·.1)) := by
  intro i k hk
  rw [List.getElem?_map, Option.map_eq_some_iff] at hk
  obtain ⟨x, hx, rfl⟩ := hk
  have hn : xs.length = n := hC.1
  have hi : i < xs.length := (List.getElem?_eq_some_iff.1 hx).1
  have hg : xs.getD i x = x := by rw [List.getD_eq_getElem?_getD, hx]; rfl
  obtain ⟨ad, c, rfl, hcl, hK, hc⟩ := Kd.C_get hC x (i : Int) (by omega) (by omega)
  rw [Int.toNat_natCast, hg] at hK
  obtain ⟨c1, c2, rfl, hK1, _⟩ := hK
  obtain ⟨ad', c0, e0, hcl0, _, hc0⟩ := Kd.C_get hC x (0 : Int) (by omega) (by omega)
  cases e0
  have h3 : kB.sz = 3 := rfl
  obtain ⟨u0, ur, rfl⟩ : ∃ u ur, c0 = u :: ur := by
    cases c0 with
    | nil => rw [h3] at hcl0; simp at hcl0
    | cons u ur => exact ⟨u, ur, rfl⟩
  have h0 := hc0 0 u0 rfl
  have e1 : ad.add ((0 : Int).toNat * kB.sz + 0) = ad := by simp [Addr.add]
  rw [e1] at h0
  have hsp := World.cell?_spot h0
  have hk1 : c1 = [Value.int .i64 x.1] := hK1
  subst hk1
  have h1 := hc 0 (.int .i64 x.1) rfl
  rw [Int.toNat_natCast, h3, Nat.add_zero] at h1
  refine ⟨ad.block, ad.off, ?_, ?_⟩
  · cases ad; simp_all
  · rw [← h1, add_spot (h1)]
theorem info_b : (Try.prog.info? 62).map (fun i => (i.zero, i.size, i.bytes)) = some (some (.agg #[.int .i64 0, .int .i64 0, .int .i64 0]), 3, 24) := by kernel_rfl
theorem info_m : (Try.prog.info? 31).map (fun i => (i.zero, i.size, i.bytes)) = some (some (.slice none 0 0), 1, 24) := by kernel_rfl

theorem lig_any (d : FontD) (a : FontA) (w : World) {B : Nat} (hB : B ≤ w.heap.size) (hF : FontIn w B d a) :
    Calls Try.prog 15 #[fontV d a] w fun e w' => e = .returned (.bool (ligB d)) ∧ Below w.heap.size w w' := by
  have hbx := Box.new w (fontCells d a) 26
  have hbw := (Below.refl w.heap.size w).alloc (Nat.le_refl _) (.cells (fontCells d a) 26)
  obtain ⟨W, hW⟩ : ∃ W, w.alloc (.cells (fontCells d a) 26) = W := ⟨_, rfl⟩
  rw [hW] at hbx hbw
  obtain ⟨c0, c1, c2, c3, c4, c5, c6, c7, c8, c9, c10⟩ := font_cells hbx
  have H := Lib.hid (made_any d a W (B := B) (Nat.le_trans hB hbw.size) (hF.mono (hbw.mono hB)))
  generalize ligB d = q at *
  clear hF
  go_enter Try.func15, Try.ntmps15
  go_wp2_with fail
  with_reducible refine H.out.mono ?_; rintro e w1 ⟨mv, rfl, hb, _⟩
  clear hW H
  have hb2 := hbw.trans (hb.mono hbw.size)
  go_wp2
  go_ret
  exact ⟨rfl, hb2⟩

theorem pieces_any (r : RowD) (A : Option Addr) (c : Nat) (w : World) :
    Calls Try.prog 17 #[rowV r A c] w fun e w' => e = .returned (.func (.func 27) #[] #[.pointer (some ⟨w.heap.size, 0, none⟩)]) ∧ w.alloc (.cells (rowCells r A c) 42) = w' := by
  have hbx := Box.new w (rowCells r A c) 42
  go_enter Try.func17, Try.ntmps17
  go_wp2
  go_ret
  exact ⟨rfl, rfl⟩
/-- Older objects than n stay, but the one at g. -/
def Stay (n g : Nat) (W W' : World) : Prop := ∀ k, k < n → k ≠ g → W'.heap[k]? = W.heap[k]?
theorem R_stay {α : Type} {d : Kd α} {e : Nat} {w W : World} {base n g : Nat} {v : Value} {xs : List α} (h : d.R e w base anyK v xs) (hw : w.heap.size ≤ g) (hn : g < n) (w0 : World) (hb : Below w.heap.size w w0) (hs : Stay n g w0 W) : d.R e W base anyK v xs :=
  Kd.R_mono (Kd.R_move (Kd.R_bound h) (fun k hk => (hs k (by have := hk.2.2.1; omega) (by have := hk.2.2.1; omega)).trans (hb.block k hk.2.2.1))) (fun _ _ => trivial)
theorem cell_put {W : World} {b i l : Nat} {v : Value} {o o' : Obj} (h : W.cell? ⟨b, i, none⟩ = some v) (hl : W.heap[l]? = some o) (hc : o.isCells = false) : (W.putObj l o').cell? ⟨b, i, none⟩ = some v := by
  by_cases e : b = l
  · subst e
    rw [World.cell?] at h
    simp only [hl] at h
    cases o <;> simp_all [Obj.isCells]
  · rw [← h]
    simp only [World.cell?, World.putObj_heap_other (w := W) (show b ≠ l from e)]
theorem below_put {n : Nat} {A B : World} (h : Below n A B) {l : Nat} (hl : n ≤ l) (o : Obj) : Below n A (B.putObj l o) := by
  refine ⟨h.os, h.tape, h.output, by simpa using h.size, fun k hk => (World.putObj_heap_other (by omega)).trans (h.block k hk)⟩
theorem R_shut {α : Type} {d : Kd α} {e base : Nat} {W : World} {v : Value} {xs : List α} (h : d.R e W base anyK v xs) {Ds : List Nat} (hd : ∀ E ∈ Ds, W.heap[E]? = some (.deferred (some []))) : d.R e (shut Ds W) base anyK v xs :=
  Kd.R_mono (Kd.R_move (Kd.R_bound h) (fun k hk => by
    obtain ⟨_, _, _, q, _, cells, hq⟩ := hk
    refine (shut_facts Ds W).2.2.2.2 k (fun hm => ?_)
    rw [hd k hm] at hq
    cases hq)) (fun _ _ => trivial)
theorem fact_put (n₀ : Nat) : Settles n₀ pieceFact := by
  intro x A l o o' h _ hl hc
  refine ⟨h.1, ?_⟩
  replace h := h.2
  intro i y hy
  obtain ⟨b, o2, cs, e, hB, hK, hcc⟩ := h i y hy
  exact ⟨b, o2, cs, e, by simpa using hB, hK, fun j v hv => cell_put (hcc j v hv) hl hc⟩
theorem touch_grown {S : Nat → Prop} {A B C : World} {r : Option Nat} (h : Fo.Touch S A B) (k : B.grownBy C r) (hr : ∀ j, r = some j → S j) : Fo.Touch S A C :=
  h.trans ⟨k.os, k.tape, k.output, k.size, fun j hj hs => k.block j hj (fun e => hs (hr j e.symm))⟩
/-- A code that comes to its end: nothing is asked of its other ways out. -/
def onlyN (Q : Exit → Act → World → Prop) : Exit → Act → World → Prop
  | .normal, a, w => Q .normal a w
  | _, _, _ => False
theorem wpIn_onlyN {n : Nat} {P : Program} {c : Code} {Q : Exit → Act → World → Prop} {a : Act} {w : World} (h : c.wp P (onlyN Q) a w) : c.wpIn Fence.wide n P Q a w :=
  wpIn_wide.2 (wp_mono h (fun e a w h => by cases e <;> first | exact h | exact h.elim))
/-- What holds in the loop over a row's pieces. -/
def LineI (d : FontD) (n g : Nat) (w w0 : World) (pre : List PieceX) (W : World) : Prop :=
  ∃ vl, Box W g #[vl] 31 ∧ kL.R 23 W n anyK vl (pre.map fun x => expandV d x.l) ∧ Stay n g w0 W ∧ Below w.heap.size w W ∧ n ≤ W.heap.size
theorem line_lasts (d : FontD) (n g : Nat) (w w0 : World) : Lasts (LineI d n g w w0) := by
  rintro s A B ⟨vl, h1, h2, h3, h4, h5⟩ hb
  exact ⟨vl, h1.below hb, Kd.R_below h2 hb, fun k hk hg => (hb.block k (by omega)).trans (h3 k hk hg), h4.trans (hb.mono h4.size), Nat.le_trans h5 hb.size⟩
theorem line_settles (d : FontD) (n g : Nat) (w w0 : World) (hg : g < n) (hn : w.heap.size ≤ n) : Settles n (LineI d n g w w0) := by
  rintro s A l o o' ⟨vl, h1, h2, h3, h4, h5⟩ hl hlo hc
  refine ⟨vl, ?_, Kd.R_mono (Kd.R_move (Kd.R_bound h2) (fun k hk => ?_)) (fun _ _ => trivial), fun k hk hg => (World.putObj_heap_other (by omega)).trans (h3 k hk hg), ?_, by simpa using h5⟩
  · exact (World.putObj_heap_other (by omega)).trans h1
  · obtain ⟨_, _, _, q, _, cells, hq⟩ := hk
    refine World.putObj_heap_other (fun e => ?_)
    subst e
    rw [hlo] at hq
    cases hq
    cases hc
  · exact below_put h4 (by omega) _

/-! ### Two rows that grow side by side -/
theorem grown_other {α : Type} {d : Kd α} {e base : Nat} {ok : Nat → Prop} {w w1 : World} {v u : Value} {xs : List α} {b e0 s0 n0 : Nat} {ys : List Value} (h : d.R e w base ok v xs) (ho : w.ownsRow b e0 s0 u n0 ys) (ht : ∀ q, q ∈ e :: d.E → q ≠ e0) (hg : w.grownBy w1 u.ownBlock) : d.R e w1 base ok v xs :=
  Kd.R_mono (Kd.R_move (Kd.R_bound h) (fun k hk => hg.block k hk.2.2.1 (fun eq => by
    obtain ⟨c1, h1⟩ := Go.Proofs.YtbkfofmanpjbfaaW.PrintWords.own_typed ho k eq.symm
    obtain ⟨_, _, _, q, hq, c2, h2⟩ := hk
    rw [h1] at h2
    injection h2 with h2
    injection h2 with _ h2
    exact ht q hq h2.symm))) (fun _ hk => hk.1)
theorem reg_ends {W V1 WA V2 WB w : World} {base n2 gA capA gB capB : Nat} {u6 u7 lv : Value} {T6 : List (List (List Int))} {T7 : List (Int × Int × Int)} {L : List (List Int)} {k : Int} {inner6 inner7 : List Value}
    (H6 : kM.R 31 W base anyK u6 T6) (hr6 : Go.Proofs.YtbkfofmanpjbfaaW.PrintWords.Reps (kM.M W base (fun k => anyK k ∧ some k ≠ u6.ownBlock)) kM.sz T6 inner6)
    (H7 : kB.R 62 W base anyK u7 T7) (hr7 : Go.Proofs.YtbkfofmanpjbfaaW.PrintWords.Reps (kB.M W base (fun k => anyK k ∧ some k ≠ u7.ownBlock)) kB.sz T7 inner7)
    (H2 : kL.R 23 W n2 anyK lv L) (hb2 : base ≤ n2) (hl6 : ∀ k, u6.ownBlock = some k → k < n2) (hB : Below base w W) (hbw : base ≤ W.heap.size)
    (hb1 : Below W.heap.size W V1) (hg6 : V1.grownBy WA u6.ownBlock) (hbA : Below WA.heap.size WA V2) (hg7 : V2.grownBy WB u7.ownBlock)
    (hownA : WA.ownsRow base 31 1 (.slice (some ⟨gA, 0, none⟩) (T6.length + 1) capA) (T6.length + 1) (inner6 ++ [lv]))
    (hownB : WB.ownsRow base 62 3 (.slice (some ⟨gB, 0, none⟩) (T7.length + 1) capB) (T7.length + 1) (inner7 ++ [.int .i64 k, .int .i64 0, .int .i64 0]))
    (hatA : u6.ownBlock = some gA ∨ gA = V1.heap.size) (hatB : u7.ownBlock = some gB ∨ gB = V2.heap.size) :
    kM.R 31 WB base anyK (.slice (some ⟨gA, 0, none⟩) (T6.length + 1) capA) (T6 ++ [L]) ∧ kB.R 62 WB base anyK (.slice (some ⟨gB, 0, none⟩) (T7.length + 1) capB) (T7 ++ [(k, 0, 0)]) ∧
      Below base w WB ∧ ∀ (j : Nat) (o : Obj), W.heap[j]? = some o → (∀ cs, o ≠ Obj.cells cs 31 (0, 0)) → (∀ cs, o ≠ Obj.cells cs 62 (0, 0)) → WB.heap[j]? = some o := by
  obtain ⟨i6, ho6⟩ := Kd.R_own H6
  obtain ⟨i7, ho7⟩ := Kd.R_own H7
  have H6a := Kd.R_below H6 hb1
  have H7a := Kd.R_below H7 hb1
  obtain ⟨i6a, ho6a⟩ := Kd.R_own H6a
  have H7b := grown_other H7a ho6a (by decide) hg6
  have H7c := Kd.R_below H7b hbA
  obtain ⟨i7c, ho7c⟩ := Kd.R_own H7c
  have HM : kM.M W base (fun k => n2 ≤ k) L [lv] := Kd.M_lower _ hb2 (Kd.M_row (Kd.R_mono (Kd.R_bound H2) (fun k hk => hk.2.1)))
  have H6b : kM.R 31 WA base anyK (.slice (some ⟨gA, 0, none⟩) (T6.length + 1) capA) (T6 ++ [L]) :=
    Kd.R_appended (fun _ _ => trivial) (hr6.imp_ (fun _ _ hp => Kd.M_below hp hb1)) (Kd.M_below HM hb1) (fun k hk => ⟨trivial, fun e => by have := hl6 k e.symm; omega⟩) (fun _ _ => trivial) hownA hg6
      (hatA.imp (fun e => e.symm) (fun e => ⟨gA, rfl, by omega⟩))
  have H6c := Kd.R_below H6b hbA
  have H6d := grown_other H6c ho7c (by decide) hg7
  have HMB : kB.M V2 base (fun _ => False) (k, 0, 0) [.int .i64 k, .int .i64 0, .int .i64 0] := ⟨[_], [_, _], rfl, rfl, [_], [_], rfl, rfl, rfl⟩
  have H7d : kB.R 62 WB base anyK (.slice (some ⟨gB, 0, none⟩) (T7.length + 1) capB) (T7 ++ [(k, 0, 0)]) :=
    Kd.R_appended (fun _ _ => trivial) (W := V2) (okp := fun _ => False) (hr7.imp_ (fun _ _ hp => (hp : kB.M V2 base (fun k => anyK k ∧ some k ≠ u7.ownBlock) _ _))) HMB (fun k hk => hk.elim) (fun _ _ => trivial) hownB hg7
      (hatB.imp (fun e => e.symm) (fun e => ⟨gB, rfl, by omega⟩))
  have s1 := hb1.size
  have s2 := hg6.size
  have s3 := hbA.size
  refine ⟨H6d, H7d, ?_, fun j o hj h6 h7 => ?_⟩
  · have b1 : Below base w V1 := hB.trans (hb1.mono hbw)
    have b2 : Below base w WA := b1.grown hg6 (by omega) (Go.Proofs.YtbkfofmanpjbfaaW.PrintWords.own_base ho6a)
    have b3 : Below base w V2 := b2.trans (hbA.mono (by omega))
    exact b3.grown hg7 (by omega) (Go.Proofs.YtbkfofmanpjbfaaW.PrintWords.own_base ho7c)
  · have hlt : j < W.heap.size := (Array.getElem?_eq_some_iff.1 hj).1
    have e1 : V1.heap[j]? = some o := (hb1.block j hlt).trans hj
    have e2 : WA.heap[j]? = some o := (hg6.block j (by omega) (fun e => by
      obtain ⟨c, hc⟩ := Go.Proofs.YtbkfofmanpjbfaaW.PrintWords.own_typed ho6a j e.symm
      rw [e1] at hc
      exact h6 c (Option.some.inj hc))).trans e1
    have e3 : V2.heap[j]? = some o := (hbA.block j (by omega)).trans e2
    exact (hg7.block j (by omega) (fun e => by
      obtain ⟨c, hc⟩ := Go.Proofs.YtbkfofmanpjbfaaW.PrintWords.own_typed ho7c j e.symm
      rw [e3] at hc
      exact h7 c (Option.some.inj hc))).trans e3

end Go.Proofs.Ytbkfofmanpjbfaa.Bk
