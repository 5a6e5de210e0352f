/- joined for a claim: Level1, Level2 -/
import Derived.Test.YtndpdbofoojkhaaGreatFont9
import Derived.Test.YtndpdbofoojkhaaGreatFont6b
/- Whether a face may be: numbers from one to another one; traits by rising codes. -/
namespace Go.Proofs.YtndpdbofoojkhaaGreat.Lv
open Go.RowKit Go.Proofs.YtndpdbofoojkhaaGreat.Kit Go.Proofs.YtndpdbofoojkhaaGreat.Fo
set_option linter.unusedVariables false
set_option linter.unusedSimpArgs false

abbrev traitR : Rep StepT := stepR
theorem lig_any (d : FontD) (a : FontA) (w : World) {B : Nat} (hB : B ≤ w.heap.size) (hF : FontIn w B d a) :
    Calls Tryz.prog 32 #[fontV d a] w fun e w' => e = .returned (.bool (ligB d)) ∧ Below w.heap.size w w' := by
  have hbx := Box.new w (fontCells d a) 26
  have hbw := (Below.refl w.heap.size w).alloc (Nat.le_refl _) (.cells (fontCells d a) 26)
  obtain ⟨W, hW⟩ : ∃ W, w.alloc (.cells (fontCells d a) 26) = W := ⟨_, rfl⟩
  rw [hW] at hbx hbw
  obtain ⟨c0, c1, c2, c3, c4, c5, c6, c7, c8, c9, c10⟩ := font_cells hbx
  have H := Lib.hid (made_any d a W (B := B) (Nat.le_trans hB hbw.size) (hF.mono (hbw.mono hB)))
  generalize ligB d = q at *
  clear hF
  go_enter Tryz.func32, Tryz.ntmps32
  go_wp2_with fail
  with_reducible refine H.out.mono ?_; rintro e w1 ⟨mv, rfl, hb, _⟩
  clear hW H
  have hb2 := hbw.trans (hb.mono hbw.size)
  go_wp2
  go_ret
  exact ⟨rfl, hb2⟩

def toB (n least most : Int) : Bool := decide (least ≤ n) && decide (n ≤ most)
theorem to_any (n least most : Int) (w : World) :
    Calls Tryz.prog 33 #[.int .i64 n, .int .i64 least, .int .i64 most] w fun e w' => e = .returned (.bool (toB n least most)) ∧ w = w' := by
  unfold toB
  by_cases h : least ≤ n
  · go_enter Tryz.func33, Tryz.ntmps33
    go_wp2
    go_ret
    exact ⟨ret_bool rfl (by simp [h]), rfl⟩
  · go_enter Tryz.func33, Tryz.ntmps33
    go_wp2
    go_ret
    exact ⟨ret_bool rfl (by simp; omega), rfl⟩

set_option maxHeartbeats 1000000 in
theorem index_trait (g : Nat) (lb : Array Value) (p : StepT → Bool) (eg : ∀ args w, (callFunc g args).run Tryz.prog w = .ok (.enter g args) w) (A : Option Addr) (c : Nat) (l : List StepT) (w : World) {B : Nat} (hB : B ≤ w.heap.size) (hx : Row traitR w B A l) (hl : l.length ≤ 9223372036854775807) (hp : AsksV g lb stepV p l w) :
    Calls Tryz.prog 65 #[.slice A l.length c, .func (.func g) #[] lb] w fun e w' => e = .returned (.int .i64 (placeV p l 0)) ∧ Below w.heap.size w w' := by
  have HP := Lib.hid hp
  clear hp
  obtain ⟨r, hr⟩ : ∃ r, Hid (placeV p l 0 = r) := ⟨_, Lib.hid rfl⟩
  rw [hr.out]
  go_enter Tryz.func65, Tryz.ntmps65
  go_wp2
  go_loopw [5, 8] (fun _ i wr => ∃ k : Nat, k ≤ l.length ∧ i = .int .i64 k ∧ Hid (placeV p l 0 = placeV p (l.drop k) k) ∧ Below w.heap.size w wr) (fun _ i _ => l.length - (intOf i).toNat)
  case atStart => exact ⟨0, by omega, rfl, Lib.hid (by simp), Below.refl _ _⟩
  case round =>
    obtain ⟨k, hk, rfl, HS, HB⟩ := hrel
    rename World => wr
    by_cases hlt : k < l.length
    · obtain ⟨x, hxk⟩ := at_lt hlt
      have HD := Lib.hid (drop_cons hxk)
      have HM := Lib.hid hxk
      obtain ⟨b, o, hA, hb, ⟨h0, h1, h2, h3⟩, _⟩ := step_at hx hxk
      clear hxk
      subst hA
      have hc0 : wr.cell? ⟨b, o + k * 4, none⟩ = _ := (HB.cell (p := ⟨b, o + k * 4, none⟩) (show b < w.heap.size by omega)).trans h0
      have hc1 : wr.cell? ⟨b, o + k * 4 + 1, none⟩ = _ := (HB.cell (p := ⟨b, o + k * 4 + 1, none⟩) (show b < w.heap.size by omega)).trans h1
      have hc2 : wr.cell? ⟨b, o + k * 4 + 2, none⟩ = _ := (HB.cell (p := ⟨b, o + k * 4 + 2, none⟩) (show b < w.heap.size by omega)).trans h2
      have hc3 : wr.cell? ⟨b, o + k * 4 + 3, none⟩ = _ := (HB.cell (p := ⟨b, o + k * 4 + 3, none⟩) (show b < w.heap.size by omega)).trans h3
      clear h0 h1 h2 h3
      have hcall := HP.out wr x HB (List.mem_of_getElem? HM.out)
      cases hq : p x with
      | true =>
        rw [hq] at hcall
        have HE := Lib.hid (show placeV p l 0 = k by rw [HS.out, HD.out]; simp [placeV, hq])
        clear hq
        go_wp2_with (go_at_fn g; refine hcall.mono ?_; rintro e w' ⟨rfl, hb2⟩)
        go_ret
        exact ⟨by rw [← hr.out, HE.out]; rfl, below_join HB hb2⟩
      | false =>
        rw [hq] at hcall
        have HE := Lib.hid (show placeV p l 0 = placeV p (l.drop (k + 1)) ((k + 1 : Nat) : Int) by rw [HS.out, HD.out]; simp [placeV, hq])
        clear hq
        go_wp2_with (go_at_fn g; refine hcall.mono ?_; rintro e w' ⟨rfl, hb2⟩)
        go_roundw
        case rel => exact ⟨k + 1, by omega, by go_num, HE, below_join HB hb2⟩
        case measure => simp [intOf]; omega
    · have HE := Lib.hid (show placeV p l 0 = -1 by rw [HS.out, List.drop_eq_nil_of_le (by omega)]; rfl)
      go_wp2
      go_ret
      exact ⟨by rw [← hr.out, HE.out]; rfl, HB⟩
set_option maxHeartbeats 1000000 in
theorem contains_trait (g : Nat) (lb : Array Value) (p : StepT → Bool) (eg : ∀ args w, (callFunc g args).run Tryz.prog w = .ok (.enter g args) w) (A : Option Addr) (c : Nat) (l : List StepT) (w : World) {B : Nat} (hB : B ≤ w.heap.size) (hx : Row traitR w B A l) (hl : l.length ≤ 9223372036854775807) (hp : AsksV g lb stepV p l w) :
    Calls Tryz.prog 34 #[.slice A l.length c, .func (.func g) #[] lb] w fun e w' => e = .returned (.bool (l.any p)) ∧ Below w.heap.size w w' := by
  have H := Lib.hid (index_trait g lb p eg A c l w hB hx hl hp)
  have HE := Lib.hid (placeV_any p l 0 (by omega))
  clear hx hp hl
  generalize placeV p l 0 = r at *
  obtain ⟨q, hq⟩ : ∃ q, Hid (l.any p = q) := ⟨_, Lib.hid rfl⟩
  rw [hq.out]
  go_enter Tryz.func34, Tryz.ntmps34
  go_wp2_with fail
  refine H.out.mono ?_; rintro e w' ⟨rfl, hb⟩
  go_wp2
  go_ret
  exact ⟨ret_bool rfl (by rw [← hq.out, ← HE.out]), hb⟩

/-! ### A closure that remembers the last code -/
def badT (last : Int) (t : StepT) : Bool := !toB t.1 (last + 1) 255 || !toB t.2.1 0 1000 || !toB t.2.2.1 (-1000) 1000 || !toB t.2.2.2 (-1000) 1000
def placeT : Int → List StepT → Int → Int
  | _, [], _ => -1
  | last, x :: xs, k => if badT last x then k else placeT x.1 xs (k + 1)
def wrongT : Int → List StepT → Bool
  | _, [] => false
  | last, x :: xs => badT last x || wrongT x.1 xs
theorem placeT_any : ∀ (l : List StepT) (last k : Int), 0 ≤ k → decide (0 ≤ placeT last l k) = wrongT last l
  | [], last, k, h => by simp [placeT, wrongT]
  | x :: xs, last, k, h => by
    unfold placeT wrongT
    cases hx : badT last x with
    | true => simp; exact h
    | false => simp; have := placeT_any xs x.1 (k + 1) (by omega); simpa using this
def lastOf (l : List StepT) : Nat → Int
  | 0 => -1
  | k + 1 => (l.getD k (0, 0, 0, 0)).1
def AsksT (g bx n₀ : Nat) (l : List StepT) (w : World) : Prop := ∀ (W : World) (last : Int) (x : StepT), Below n₀ w W → Box W bx #[.int .i64 last] 3 → (Lit.int .i64 last).wf = true → last ≤ 255 → x ∈ l → Calls Tryz.prog g #[stepV x, .pointer (some ⟨bx, 0, none⟩)] W fun e w' => e = .returned (.bool (badT last x)) ∧ Below n₀ W w' ∧ Box w' bx #[.int .i64 x.1] 3
set_option maxHeartbeats 1000000 in
theorem indexT (g bx n₀ : Nat) (eg : ∀ args w, (callFunc g args).run Tryz.prog w = .ok (.enter g args) w) (A : Option Addr) (c : Nat) (l : List StepT) (w : World) {B : Nat} (hB : B ≤ n₀) (hn : n₀ ≤ w.heap.size) (hx : Row traitR w B A l) (hl : l.length ≤ 9223372036854775807) (hbx : Box w bx #[.int .i64 (-1)] 3) (hp : AsksT g bx n₀ l w) :
    Calls Tryz.prog 65 #[.slice A l.length c, .func (.func g) #[] #[.pointer (some ⟨bx, 0, none⟩)]] w fun e w' => e = .returned (.int .i64 (placeT (-1) l 0)) ∧ Below n₀ w w' := by
  have HP := Lib.hid hp
  clear hp
  obtain ⟨r, hr⟩ : ∃ r, Hid (placeT (-1) l 0 = r) := ⟨_, Lib.hid rfl⟩
  rw [hr.out]
  go_enter Tryz.func65, Tryz.ntmps65
  go_wp2
  go_loopw [5, 8] (fun _ i wr => ∃ k : Nat, k ≤ l.length ∧ i = .int .i64 k ∧ Hid (placeT (-1) l 0 = placeT (lastOf l k) (l.drop k) k) ∧ Hid ((Lit.int .i64 (lastOf l k)).wf = true ∧ lastOf l k ≤ 255) ∧ Box wr bx #[.int .i64 (lastOf l k)] 3 ∧ Below n₀ w wr) (fun _ i _ => l.length - (intOf i).toNat)
  case atStart => exact ⟨0, by omega, rfl, Lib.hid (by simp [lastOf]), Lib.hid ⟨show (Lit.int .i64 (-1)).wf = true by decide, by simp [lastOf]⟩, hbx, Below.refl _ _⟩
  case round =>
    obtain ⟨k, hk, rfl, HS, HW, hbk, HB⟩ := hrel
    rename World => wr
    by_cases hlt : k < l.length
    · obtain ⟨x, hxk⟩ := at_lt hlt
      have HD := Lib.hid (drop_cons hxk)
      have HM := Lib.hid hxk
      obtain ⟨b, o, hA, hb, ⟨h0, h1, h2, h3⟩, hw1, _⟩ := step_at hx hxk
      have HL : Hid (lastOf l (k + 1) = x.1) := Lib.hid (by simp [lastOf, List.getD_eq_getElem?_getD, hxk])
      clear hxk
      subst hA
      have hc0 : wr.cell? ⟨b, o + k * 4, none⟩ = _ := (HB.cell (p := ⟨b, o + k * 4, none⟩) (show b < n₀ by omega)).trans h0
      have hc1 : wr.cell? ⟨b, o + k * 4 + 1, none⟩ = _ := (HB.cell (p := ⟨b, o + k * 4 + 1, none⟩) (show b < n₀ by omega)).trans h1
      have hc2 : wr.cell? ⟨b, o + k * 4 + 2, none⟩ = _ := (HB.cell (p := ⟨b, o + k * 4 + 2, none⟩) (show b < n₀ by omega)).trans h2
      have hc3 : wr.cell? ⟨b, o + k * 4 + 3, none⟩ = _ := (HB.cell (p := ⟨b, o + k * 4 + 3, none⟩) (show b < n₀ by omega)).trans h3
      clear h0 h1 h2 h3
      have hcall := HP.out wr (lastOf l k) x HB hbk HW.out.1 HW.out.2 (List.mem_of_getElem? HM.out)
      clear hbk
      have HQ : Hid (∀ q, badT (lastOf l k) x = q → q = false → x.1 ≤ 255) := Lib.hid (by
        intro q e1 e2
        rw [e2] at e1
        simp [badT, toB] at e1
        omega)
      cases hq : badT (lastOf l k) x with
      | true =>
        rw [hq] at hcall
        have HE := Lib.hid (show placeT (-1) l 0 = k by rw [HS.out, HD.out]; simp [placeT, hq])
        clear hq
        go_wp2_with (go_at_fn g; refine hcall.mono ?_; rintro e w' ⟨rfl, hb2, hb3⟩)
        go_ret
        exact ⟨by rw [← hr.out, HE.out]; rfl, HB.trans hb2⟩
      | false =>
        rw [hq] at hcall
        have HE := Lib.hid (show placeT (-1) l 0 = placeT (lastOf l (k + 1)) (l.drop (k + 1)) ((k + 1 : Nat) : Int) by rw [HS.out, HD.out, HL.out]; simp [placeT, hq])
        have HW2 : Hid ((Lit.int .i64 (lastOf l (k + 1))).wf = true ∧ lastOf l (k + 1) ≤ 255) := Lib.hid (by rw [HL.out]; exact ⟨hw1, HQ.out _ hq rfl⟩)
        clear hq
        go_wp2_with (go_at_fn g; refine hcall.mono ?_; rintro e w' ⟨rfl, hb2, hb3⟩)
        go_roundw
        case rel => exact ⟨k + 1, by omega, by go_num, HE, HW2, by rw [HL.out]; exact hb3, HB.trans hb2⟩
        case measure => simp [intOf]; omega
    · have HE := Lib.hid (show placeT (-1) l 0 = -1 by rw [HS.out, List.drop_eq_nil_of_le (by omega)]; rfl)
      go_wp2
      go_ret
      exact ⟨by rw [← hr.out, HE.out]; rfl, HB⟩
set_option maxHeartbeats 1000000 in
theorem containsT (g bx n₀ : Nat) (eg : ∀ args w, (callFunc g args).run Tryz.prog w = .ok (.enter g args) w) (A : Option Addr) (c : Nat) (l : List StepT) (w : World) {B : Nat} (hB : B ≤ n₀) (hn : n₀ ≤ w.heap.size) (hx : Row traitR w B A l) (hl : l.length ≤ 9223372036854775807) (hbx : Box w bx #[.int .i64 (-1)] 3) (hp : AsksT g bx n₀ l w) :
    Calls Tryz.prog 34 #[.slice A l.length c, .func (.func g) #[] #[.pointer (some ⟨bx, 0, none⟩)]] w fun e w' => e = .returned (.bool (wrongT (-1) l)) ∧ Below n₀ w w' := by
  have H := Lib.hid (indexT g bx n₀ eg A c l w hB hn hx hl hbx hp)
  have HE := Lib.hid (placeT_any l (-1) 0 (by omega))
  clear hx hp hl hbx
  generalize placeT (-1) l 0 = r at *
  obtain ⟨q, hq⟩ : ∃ q, Hid (wrongT (-1) l = q) := ⟨_, Lib.hid rfl⟩
  rw [hq.out]
  go_enter Tryz.func34, Tryz.ntmps34
  go_wp2_with fail
  refine H.out.mono ?_; rintro e w' ⟨rfl, hb⟩
  go_wp2
  go_ret
  exact ⟨ret_bool rfl (by rw [← hq.out, ← HE.out]), hb⟩
end Go.Proofs.YtndpdbofoojkhaaGreat.Lv
/- Whether a face may be. -/
namespace Go.Proofs.YtndpdbofoojkhaaGreat.Lv
open Go.RowKit Go.Proofs.YtndpdbofoojkhaaGreat.Kit Go.Proofs.YtndpdbofoojkhaaGreat.Fo
set_option linter.unusedVariables false
set_option linter.unusedSimpArgs false

set_option maxHeartbeats 1000000 in
theorem badt_any (bx n₀ : Nat) (last : Int) (x : StepT) (W : World) (hbx : Box W bx #[.int .i64 last] 3) (hn : n₀ ≤ bx) (hw : (Lit.int .i64 last).wf = true) (h255 : last ≤ 255) :
    Calls Tryz.prog 35 #[stepV x, .pointer (some ⟨bx, 0, none⟩)] W fun e w' => e = .returned (.bool (badT last x)) ∧ Below n₀ W w' ∧ Box w' bx #[.int .i64 x.1] 3 := by
  obtain ⟨i1, i2⟩ := i64_of hw
  obtain ⟨a, b, c, d⟩ := x
  have hlt := hbx.lt
  have hbn := Box.new W #[.int .i64 a, .int .i64 b, .int .i64 c, .int .i64 d] 63
  have hb1 := hbx.alloc (.cells #[.int .i64 a, .int .i64 b, .int .i64 c, .int .i64 d] 63)
  have hbw := (Below.refl n₀ W).alloc (Nat.le_trans hn (Nat.le_of_lt hlt)) (.cells #[.int .i64 a, .int .i64 b, .int .i64 c, .int .i64 d] 63)
  obtain ⟨V, hV⟩ : ∃ V, W.alloc (.cells #[.int .i64 a, .int .i64 b, .int .i64 c, .int .i64 d] 63) = V := ⟨_, rfl⟩
  rw [hV] at hbn hb1 hbw
  have c0 : V.cell? ⟨W.heap.size, 0, none⟩ = some (.int .i64 a) := hbn.cell 0 rfl
  have c1 : V.cell? ⟨W.heap.size, 1, none⟩ = some (.int .i64 b) := hbn.cell 1 rfl
  have c2 : V.cell? ⟨W.heap.size, 2, none⟩ = some (.int .i64 c) := hbn.cell 2 rfl
  have c3 : V.cell? ⟨W.heap.size, 3, none⟩ = some (.int .i64 d) := hbn.cell 3 rfl
  have cb : V.cell? ⟨bx, 0, none⟩ = some (.int .i64 last) := hb1.cell 0 rfl
  have gb := hb1.free 0
  have HB := Lib.hid (show Below n₀ W (V.setCell ⟨bx, 0, none⟩ (.int .i64 a)) ∧ Box (V.setCell ⟨bx, 0, none⟩ (.int .i64 a)) bx #[.int .i64 a] 3 from ⟨hbw.setCell (p := ⟨bx, 0, none⟩) hn _, hb1.set 0 _⟩)
  have O1 : Hid (∀ w, _) := Lib.hid (to_any a (last + 1) 255)
  have O2 : Hid (∀ w, _) := Lib.hid (to_any b 0 1000)
  have O3 : Hid (∀ w, _) := Lib.hid (to_any c (-1000) 1000)
  have O4 : Hid (∀ w, _) := Lib.hid (to_any d (-1000) 1000)
  obtain ⟨res, hres⟩ : ∃ r, Hid (badT last (a, b, c, d) = r) := ⟨_, Lib.hid rfl⟩
  have HE : Hid _ := Lib.hid hres.out
  rw [hres.out]
  unfold badT at HE
  dsimp only at HE
  clear hres hbn hb1 hbw hbx hn hlt
  generalize toB a (last + 1) 255 = q1 at *
  generalize toB b 0 1000 = q2 at *
  generalize toB c (-1000) 1000 = q3 at *
  generalize toB d (-1000) 1000 = q4 at *
  go_enter Tryz.func35, Tryz.ntmps35
  go_wp2_with fail
  with_reducible refine (O1.out _).mono ?_; rintro e w1 ⟨rfl, rfl⟩
  cases q1 with
  | false =>
    go_wp2_with fail
    go_ret
    exact ⟨ret_bool rfl (by rw [← HE.out]; rfl), HB.out⟩
  | true =>
    go_wp2_with fail
    with_reducible refine (O2.out _).mono ?_; rintro e w1 ⟨rfl, rfl⟩
    cases q2 with
    | false =>
      go_wp2_with fail
      go_ret
      exact ⟨ret_bool rfl (by rw [← HE.out]; rfl), HB.out⟩
    | true =>
      go_wp2_with fail
      with_reducible refine (O3.out _).mono ?_; rintro e w1 ⟨rfl, rfl⟩
      cases q3 with
      | false =>
        go_wp2_with fail
        go_ret
        exact ⟨ret_bool rfl (by rw [← HE.out]; rfl), HB.out⟩
      | true =>
        go_wp2_with fail
        with_reducible refine (O4.out _).mono ?_; rintro e w1 ⟨rfl, rfl⟩
        go_wp2_with fail
        go_ret
        exact ⟨ret_bool rfl (by rw [← HE.out]; simp), HB.out⟩

/-! ### Faces -/
structure FaceD where
  font : FontD
  size : Int
  step : Int
  up : Int
  down : Int
  traits : List StepT
structure FaceA where
  font : FontA
  t : Option Addr
  ct : Nat
abbrev faceCells (d : FaceD) (a : FaceA) : Array Value := #[.int .i64 d.font.sum, .int .i64 d.font.design, .int .i64 d.font.first, .slice a.font.c d.font.chars.length a.font.cc, .slice a.font.w d.font.widths.length a.font.cw, .slice a.font.h d.font.heights.length a.font.ch, .slice a.font.d d.font.depths.length a.font.cd, .slice a.font.i d.font.italics.length a.font.ci, .slice a.font.s d.font.steps.length a.font.cs, .slice a.font.k d.font.kerns.length a.font.ck, .slice a.font.p d.font.params.length a.font.cp,
  .int .i64 d.size, .int .i64 d.step, .int .i64 d.up, .int .i64 d.down, .slice a.t d.traits.length a.ct]
abbrev faceV (d : FaceD) (a : FaceA) : Value := .agg (faceCells d a)
structure FaceIn (w : World) (B : Nat) (d : FaceD) (a : FaceA) : Prop where
  font : FontIn w B d.font a.font
  size : (Lit.int .i64 d.size).wf = true
  step : (Lit.int .i64 d.step).wf = true
  up : (Lit.int .i64 d.up).wf = true
  down : (Lit.int .i64 d.down).wf = true
  traits : Row traitR w B a.t d.traits
  nt : d.traits.length ≤ 9223372036854775807
theorem FaceIn.mono {w w' : World} {B : Nat} {d : FaceD} {a : FaceA} (h : FaceIn w B d a) (hb : Below B w w') : FaceIn w' B d a :=
  ⟨h.font.mono hb, h.size, h.step, h.up, h.down, h.traits.mono hb, h.nt⟩
theorem FaceIn.up' {w : World} {B B' : Nat} {d : FaceD} {a : FaceA} (h : FaceIn w B d a) (hb : B ≤ B') : FaceIn w B' d a :=
  ⟨h.font.up hb, h.size, h.step, h.up, h.down, h.traits.up hb, h.nt⟩
theorem face_cells {w : World} {g : Nat} {d : FaceD} {a : FaceA} {t : TypeId} (h : Box w g (faceCells d a) t) :
    (w.cell? ⟨g, 0, none⟩ = some (.int .i64 d.font.sum) ∧ w.cell? ⟨g, 1, none⟩ = some (.int .i64 d.font.design) ∧ w.cell? ⟨g, 2, none⟩ = some (.int .i64 d.font.first) ∧ w.cell? ⟨g, 3, none⟩ = some (.slice a.font.c d.font.chars.length a.font.cc) ∧ w.cell? ⟨g, 4, none⟩ = some (.slice a.font.w d.font.widths.length a.font.cw) ∧ w.cell? ⟨g, 5, none⟩ = some (.slice a.font.h d.font.heights.length a.font.ch) ∧
    w.cell? ⟨g, 6, none⟩ = some (.slice a.font.d d.font.depths.length a.font.cd) ∧ w.cell? ⟨g, 7, none⟩ = some (.slice a.font.i d.font.italics.length a.font.ci) ∧ w.cell? ⟨g, 8, none⟩ = some (.slice a.font.s d.font.steps.length a.font.cs) ∧ w.cell? ⟨g, 9, none⟩ = some (.slice a.font.k d.font.kerns.length a.font.ck) ∧ w.cell? ⟨g, 10, none⟩ = some (.slice a.font.p d.font.params.length a.font.cp)) ∧
    w.cell? ⟨g, 11, none⟩ = some (.int .i64 d.size) ∧ w.cell? ⟨g, 12, none⟩ = some (.int .i64 d.step) ∧ w.cell? ⟨g, 13, none⟩ = some (.int .i64 d.up) ∧ w.cell? ⟨g, 14, none⟩ = some (.int .i64 d.down) ∧ w.cell? ⟨g, 15, none⟩ = some (.slice a.t d.traits.length a.ct) :=
  ⟨⟨h.cell 0 rfl, h.cell 1 rfl, h.cell 2 rfl, h.cell 3 rfl, h.cell 4 rfl, h.cell 5 rfl, h.cell 6 rfl, h.cell 7 rfl, h.cell 8 rfl, h.cell 9 rfl, h.cell 10 rfl⟩, h.cell 11 rfl, h.cell 12 rfl, h.cell 13 rfl, h.cell 14 rfl, h.cell 15 rfl⟩

def faceB (d : FaceD) : Bool := ligB d.font && toB d.size 65536 4194304 && toB d.step 0 50 && toB d.up 0 8 && toB d.down 0 8 && !wrongT (-1) d.traits
set_option maxHeartbeats 2000000 in
theorem face_any (d : FaceD) (a : FaceA) (w : World) {B : Nat} (hB : B ≤ w.heap.size) (hF : FaceIn w B d a) :
    Calls Tryz.prog 17 #[faceV d a] w fun e w' => e = .returned (.bool (faceB d)) ∧ Below w.heap.size w w' := by
  have e1 : ∀ args w, (callFunc 35 args).run Tryz.prog w = .ok (.enter 35 args) w := enters_of Tryz.func35 (by kernel_rfl) rfl
  have L1 : Hid (∀ W, Below w.heap.size w W → _) := Lib.hid fun W hb => lig_any d.font a.font W (lt_of_below hB hb) (hF.font.mono (hb.mono hB))
  have O1 : Hid (∀ w, _) := Lib.hid (to_any d.size 65536 4194304)
  have O2 : Hid (∀ w, _) := Lib.hid (to_any d.step 0 50)
  have O3 : Hid (∀ w, _) := Lib.hid (to_any d.up 0 8)
  have O4 : Hid (∀ w, _) := Lib.hid (to_any d.down 0 8)
  have T1 : Hid (∀ W bx, Below w.heap.size w W → w.heap.size ≤ bx → Box W bx #[.int .i64 (-1)] 3 → _) := Lib.hid fun W bx hb hbx hbox => containsT 35 bx w.heap.size e1 a.t a.ct d.traits W hB hb.size (hF.traits.mono (hb.mono hB)) hF.nt hbox (fun W' last x _ hb2 hw hl _ => badt_any bx w.heap.size last x W' hb2 hbx hw hl)
  clear e1 hF
  obtain ⟨res, hres⟩ : ∃ r, Hid (faceB d = r) := ⟨_, Lib.hid rfl⟩
  have HE : Hid _ := Lib.hid hres.out
  rw [hres.out]
  unfold faceB at HE
  clear hres
  generalize ligB d.font = p1 at *
  generalize wrongT (-1) d.traits = p2 at *
  generalize toB d.size 65536 4194304 = q1 at *
  generalize toB d.step 0 50 = q2 at *
  generalize toB d.up 0 8 = q3 at *
  generalize toB d.down 0 8 = q4 at *
  have hbx := Box.new w (faceCells d a) 29
  have hbw := (Below.refl w.heap.size w).alloc (Nat.le_refl _) (.cells (faceCells d a) 29)
  obtain ⟨W1, hW⟩ : ∃ W1, w.alloc (.cells (faceCells d a) 29) = W1 := ⟨_, rfl⟩
  rw [hW] at hbx hbw
  obtain ⟨⟨c0, c1, c2, c3, c4, c5, c6, c7, c8, c9, c10⟩, c11, c12, c13, c14, c15⟩ := face_cells hbx
  go_enter Tryz.func17, Tryz.ntmps17
  go_wp2_with fail
  have H1 := L1.out W1 hbw
  clear L1
  with_reducible refine H1.mono ?_; rintro e w1 ⟨rfl, hb⟩
  clear H1 hW c0 c1 c2 c3 c4 c5 c6 c7 c8 c9 c10 c11 c12 c13 c14 c15
  have hw1 := hbw.trans (hb.mono hbw.size)
  have hbx1 := hbx.below hb
  obtain ⟨_, c11, c12, c13, c14, c15⟩ := face_cells hbx1
  clear hb hbw hbx
  cases p1 with
  | false =>
    go_wp2_with fail
    go_ret
    exact ⟨ret_bool rfl (by rw [← HE.out]; simp), hw1⟩
  | true =>
    go_wp2_with fail
    with_reducible refine (O1.out _).mono ?_; rintro e w1 ⟨rfl, rfl⟩
    cases q1 with
    | false =>
      go_wp2_with fail
      go_ret
      exact ⟨ret_bool rfl (by rw [← HE.out]; simp), hw1⟩
    | true =>
      go_wp2_with fail
      with_reducible refine (O2.out _).mono ?_; rintro e w1 ⟨rfl, rfl⟩
      cases q2 with
      | false =>
        go_wp2_with fail
        go_ret
        exact ⟨ret_bool rfl (by rw [← HE.out]; simp), hw1⟩
      | true =>
        go_wp2_with fail
        with_reducible refine (O3.out _).mono ?_; rintro e w1 ⟨rfl, rfl⟩
        cases q3 with
        | false =>
          go_wp2_with fail
          go_ret
          exact ⟨ret_bool rfl (by rw [← HE.out]; simp), hw1⟩
        | true =>
          go_wp2_with fail
          with_reducible refine (O4.out _).mono ?_; rintro e w1 ⟨rfl, rfl⟩
          cases q4 with
          | false =>
            go_wp2_with fail
            go_ret
            exact ⟨ret_bool rfl (by rw [← HE.out]; simp), hw1⟩
          | true =>
            rename World => V
            have hbn := Box.new V #[.int .i64 (-1)] 3
            have hwn := below_alloc hw1 (.cells #[.int .i64 (-1)] 3)
            have c15' : (V.alloc (.cells #[.int .i64 (-1)] 3)).cell? ⟨w.heap.size, 15, none⟩ = _ := old_cell _ c15
            have H1 := T1.out _ _ hwn hw1.size hbn
            clear T1 hbn
            go_wp2_with fail
            trace_state
            with_reducible refine H1.mono ?_; rintro e w1 ⟨rfl, hb⟩
            have hw2 := hwn.trans hb
            clear H1 c15' hwn hb
            go_wp2_with fail
            go_ret
            exact ⟨ret_bool rfl (by rw [← HE.out]; simp), hw2⟩
end Go.Proofs.YtndpdbofoojkhaaGreat.Lv
