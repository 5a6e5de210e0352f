/- Whether a face may be: numbers from one to another one; traits by rising codes. -/
import Derived.Test.YtndpdbofoojkhaaFont9
import Derived.Test.YtndpdbofoojkhaaFont6b
namespace Go.Proofs.Ytndpdbofoojkhaa.Lv
open Go.RowKit Go.Proofs.Ytndpdbofoojkhaa.Kit Go.Proofs.Ytndpdbofoojkhaa.Fo
set_option linter.unusedVariables false
set_option linter.unusedSimpArgs false

abbrev traitR : Rep StepT := stepR
theorem lig_any (d : FontD) (a : FontA) (w : World) {B : Nat} (hB : B ≤ w.heap.size) (hF : FontIn w B d a) :
    Calls Try.prog 26 #[fontV d a] w fun e w' => e = .returned (.bool (ligB d)) ∧ Below w.heap.size w w' := by
  have hbx := Box.new w (fontCells d a) 26
  have hbw := (Below.refl w.heap.size w).alloc (Nat.le_refl _) (.cells (fontCells d a) 26)
  obtain ⟨W, hW⟩ : ∃ W, w.alloc (.cells (fontCells d a) 26) = W := ⟨_, rfl⟩
  rw [hW] at hbx hbw
  obtain ⟨c0, c1, c2, c3, c4, c5, c6, c7, c8, c9, c10⟩ := font_cells hbx
  have H := Lib.hid (made_any d a W (B := B) (Nat.le_trans hB hbw.size) (hF.mono (hbw.mono hB)))
  generalize ligB d = q at *
  clear hF
  go_enter Try.func26, Try.ntmps26
  go_wp2_with fail
  with_reducible refine H.out.mono ?_; rintro e w1 ⟨mv, rfl, hb, _⟩
  clear hW H
  have hb2 := hbw.trans (hb.mono hbw.size)
  go_wp2
  go_ret
  exact ⟨rfl, hb2⟩

def toB (n least most : Int) : Bool := decide (least ≤ n) && decide (n ≤ most)
theorem to_any (n least most : Int) (w : World) :
    Calls Try.prog 27 #[.int .i64 n, .int .i64 least, .int .i64 most] w fun e w' => e = .returned (.bool (toB n least most)) ∧ w = w' := by
  unfold toB
  by_cases h : least ≤ n
  · go_enter Try.func27, Try.ntmps27
    go_wp2
    go_ret
    exact ⟨ret_bool rfl (by simp [h]), rfl⟩
  · go_enter Try.func27, Try.ntmps27
    go_wp2
    go_ret
    exact ⟨ret_bool rfl (by simp; omega), rfl⟩

set_option maxHeartbeats 1000000 in
theorem index_trait (g : Nat) (lb : Array Value) (p : StepT → Bool) (eg : ∀ args w, (callFunc g args).run Try.prog w = .ok (.enter g args) w) (A : Option Addr) (c : Nat) (l : List StepT) (w : World) {B : Nat} (hB : B ≤ w.heap.size) (hx : Row traitR w B A l) (hl : l.length ≤ 9223372036854775807) (hp : AsksV g lb stepV p l w) :
    Calls Try.prog 51 #[.slice A l.length c, .func (.func g) #[] lb] w fun e w' => e = .returned (.int .i64 (placeV p l 0)) ∧ Below w.heap.size w w' := by
  have HP := Lib.hid hp
  clear hp
  obtain ⟨r, hr⟩ : ∃ r, Hid (placeV p l 0 = r) := ⟨_, Lib.hid rfl⟩
  rw [hr.out]
  go_enter Try.func51, Try.ntmps51
  go_wp2
  go_loopw [5, 8] (fun _ i wr => ∃ k : Nat, k ≤ l.length ∧ i = .int .i64 k ∧ Hid (placeV p l 0 = placeV p (l.drop k) k) ∧ Below w.heap.size w wr) (fun _ i _ => l.length - (intOf i).toNat)
  case atStart => exact ⟨0, by omega, rfl, Lib.hid (by simp), Below.refl _ _⟩
  case round =>
    obtain ⟨k, hk, rfl, HS, HB⟩ := hrel
    rename World => wr
    by_cases hlt : k < l.length
    · obtain ⟨x, hxk⟩ := at_lt hlt
      have HD := Lib.hid (drop_cons hxk)
      have HM := Lib.hid hxk
      obtain ⟨b, o, hA, hb, ⟨h0, h1, h2, h3⟩, _⟩ := step_at hx hxk
      clear hxk
      subst hA
      have hc0 : wr.cell? ⟨b, o + k * 4, none⟩ = _ := (HB.cell (p := ⟨b, o + k * 4, none⟩) (show b < w.heap.size by omega)).trans h0
      have hc1 : wr.cell? ⟨b, o + k * 4 + 1, none⟩ = _ := (HB.cell (p := ⟨b, o + k * 4 + 1, none⟩) (show b < w.heap.size by omega)).trans h1
      have hc2 : wr.cell? ⟨b, o + k * 4 + 2, none⟩ = _ := (HB.cell (p := ⟨b, o + k * 4 + 2, none⟩) (show b < w.heap.size by omega)).trans h2
      have hc3 : wr.cell? ⟨b, o + k * 4 + 3, none⟩ = _ := (HB.cell (p := ⟨b, o + k * 4 + 3, none⟩) (show b < w.heap.size by omega)).trans h3
      clear h0 h1 h2 h3
      have hcall := HP.out wr x HB (List.mem_of_getElem? HM.out)
      cases hq : p x with
      | true =>
        rw [hq] at hcall
        have HE := Lib.hid (show placeV p l 0 = k by rw [HS.out, HD.out]; simp [placeV, hq])
        clear hq
        go_wp2_with (go_at_fn g; refine hcall.mono ?_; rintro e w' ⟨rfl, hb2⟩)
        go_ret
        exact ⟨by rw [← hr.out, HE.out]; rfl, below_join HB hb2⟩
      | false =>
        rw [hq] at hcall
        have HE := Lib.hid (show placeV p l 0 = placeV p (l.drop (k + 1)) ((k + 1 : Nat) : Int) by rw [HS.out, HD.out]; simp [placeV, hq])
        clear hq
        go_wp2_with (go_at_fn g; refine hcall.mono ?_; rintro e w' ⟨rfl, hb2⟩)
        go_roundw
        case rel => exact ⟨k + 1, by omega, by go_num, HE, below_join HB hb2⟩
        case measure => simp [intOf]; omega
    · have HE := Lib.hid (show placeV p l 0 = -1 by rw [HS.out, List.drop_eq_nil_of_le (by omega)]; rfl)
      go_wp2
      go_ret
      exact ⟨by rw [← hr.out, HE.out]; rfl, HB⟩
set_option maxHeartbeats 1000000 in
theorem contains_trait (g : Nat) (lb : Array Value) (p : StepT → Bool) (eg : ∀ args w, (callFunc g args).run Try.prog w = .ok (.enter g args) w) (A : Option Addr) (c : Nat) (l : List StepT) (w : World) {B : Nat} (hB : B ≤ w.heap.size) (hx : Row traitR w B A l) (hl : l.length ≤ 9223372036854775807) (hp : AsksV g lb stepV p l w) :
    Calls Try.prog 28 #[.slice A l.length c, .func (.func g) #[] lb] w fun e w' => e = .returned (.bool (l.any p)) ∧ Below w.heap.size w w' := by
  have H := Lib.hid (index_trait g lb p eg A c l w hB hx hl hp)
  have HE := Lib.hid (placeV_any p l 0 (by omega))
  clear hx hp hl
  generalize placeV p l 0 = r at *
  obtain ⟨q, hq⟩ : ∃ q, Hid (l.any p = q) := ⟨_, Lib.hid rfl⟩
  rw [hq.out]
  go_enter Try.func28, Try.ntmps28
  go_wp2_with fail
  refine H.out.mono ?_; rintro e w' ⟨rfl, hb⟩
  go_wp2
  go_ret
  exact ⟨ret_bool rfl (by rw [← hq.out, ← HE.out]), hb⟩

/-! ### A closure that remembers the last code -/
def badT (last : Int) (t : StepT) : Bool := !toB t.1 (last + 1) 255 || !toB t.2.1 0 1000 || !toB t.2.2.1 (-1000) 1000 || !toB t.2.2.2 (-1000) 1000
def placeT : Int → List StepT → Int → Int
  | _, [], _ => -1
  | last, x :: xs, k => if badT last x then k else placeT x.1 xs (k + 1)
def wrongT : Int → List StepT → Bool
  | _, [] => false
  | last, x :: xs => badT last x || wrongT x.1 xs
theorem placeT_any : ∀ (l : List StepT) (last k : Int), 0 ≤ k → decide (0 ≤ placeT last l k) = wrongT last l
  | [], last, k, h => by simp [placeT, wrongT]
  | x :: xs, last, k, h => by
    unfold placeT wrongT
    cases hx : badT last x with
    | true => simp; exact h
    | false => simp; have := placeT_any xs x.1 (k + 1) (by omega); simpa using this
def lastOf (l : List StepT) : Nat → Int
  | 0 => -1
  | k + 1 => (l.getD k (0, 0, 0, 0)).1
def AsksT (g bx n₀ : Nat) (l : List StepT) (w : World) : Prop := ∀ (W : World) (last : Int) (x : StepT), Below n₀ w W → Box W bx #[.int .i64 last] 3 → (Lit.int .i64 last).wf = true → last ≤ 255 → x ∈ l → Calls Try.prog g #[stepV x, .pointer (some ⟨bx, 0, none⟩)] W fun e w' => e = .returned (.bool (badT last x)) ∧ Below n₀ W w' ∧ Box w' bx #[.int .i64 x.1] 3
set_option maxHeartbeats 1000000 in
theorem indexT (g bx n₀ : Nat) (eg : ∀ args w, (callFunc g args).run Try.prog w = .ok (.enter g args) w) (A : Option Addr) (c : Nat) (l : List StepT) (w : World) {B : Nat} (hB : B ≤ n₀) (hn : n₀ ≤ w.heap.size) (hx : Row traitR w B A l) (hl : l.length ≤ 9223372036854775807) (hbx : Box w bx #[.int .i64 (-1)] 3) (hp : AsksT g bx n₀ l w) :
    Calls Try.prog 51 #[.slice A l.length c, .func (.func g) #[] #[.pointer (some ⟨bx, 0, none⟩)]] w fun e w' => e = .returned (.int .i64 (placeT (-1) l 0)) ∧ Below n₀ w w' := by
  have HP := Lib.hid hp
  clear hp
  obtain ⟨r, hr⟩ : ∃ r, Hid (placeT (-1) l 0 = r) := ⟨_, Lib.hid rfl⟩
  rw [hr.out]
  go_enter Try.func51, Try.ntmps51
  go_wp2
  go_loopw [5, 8] (fun _ i wr => ∃ k : Nat, k ≤ l.length ∧ i = .int .i64 k ∧ Hid (placeT (-1) l 0 = placeT (lastOf l k) (l.drop k) k) ∧ Hid ((Lit.int .i64 (lastOf l k)).wf = true ∧ lastOf l k ≤ 255) ∧ Box wr bx #[.int .i64 (lastOf l k)] 3 ∧ Below n₀ w wr) (fun _ i _ => l.length - (intOf i).toNat)
  case atStart => exact ⟨0, by omega, rfl, Lib.hid (by simp [lastOf]), Lib.hid ⟨show (Lit.int .i64 (-1)).wf = true by decide, by simp [lastOf]⟩, hbx, Below.refl _ _⟩
  case round =>
    obtain ⟨k, hk, rfl, HS, HW, hbk, HB⟩ := hrel
    rename World => wr
    by_cases hlt : k < l.length
    · obtain ⟨x, hxk⟩ := at_lt hlt
      have HD := Lib.hid (drop_cons hxk)
      have HM := Lib.hid hxk
      obtain ⟨b, o, hA, hb, ⟨h0, h1, h2, h3⟩, hw1, _⟩ := step_at hx hxk
      have HL : Hid (lastOf l (k + 1) = x.1) := Lib.hid (by simp [lastOf, List.getD_eq_getElem?_getD, hxk])
      clear hxk
      subst hA
      have hc0 : wr.cell? ⟨b, o + k * 4, none⟩ = _ := (HB.cell (p := ⟨b, o + k * 4, none⟩) (show b < n₀ by omega)).trans h0
      have hc1 : wr.cell? ⟨b, o + k * 4 + 1, none⟩ = _ := (HB.cell (p := ⟨b, o + k * 4 + 1, none⟩) (show b < n₀ by omega)).trans h1
      have hc2 : wr.cell? ⟨b, o + k * 4 + 2, none⟩ = _ := (HB.cell (p := ⟨b, o + k * 4 + 2, none⟩) (show b < n₀ by omega)).trans h2
      have hc3 : wr.cell? ⟨b, o + k * 4 + 3, none⟩ = _ := (HB.cell (p := ⟨b, o + k * 4 + 3, none⟩) (show b < n₀ by omega)).trans h3
      clear h0 h1 h2 h3
      have hcall := HP.out wr (lastOf l k) x HB hbk HW.out.1 HW.out.2 (List.mem_of_getElem? HM.out)
      clear hbk
      have HQ : Hid (∀ q, badT (lastOf l k) x = q → q = false → x.1 ≤ 255) := Lib.hid (by
        intro q e1 e2
        rw [e2] at e1
        simp [badT, toB] at e1
        omega)
      cases hq : badT (lastOf l k) x with
      | true =>
        rw [hq] at hcall
        have HE := Lib.hid (show placeT (-1) l 0 = k by rw [HS.out, HD.out]; simp [placeT, hq])
        clear hq
        go_wp2_with (go_at_fn g; refine hcall.mono ?_; rintro e w' ⟨rfl, hb2, hb3⟩)
        go_ret
        exact ⟨by rw [← hr.out, HE.out]; rfl, HB.trans hb2⟩
      | false =>
        rw [hq] at hcall
        have HE := Lib.hid (show placeT (-1) l 0 = placeT (lastOf l (k + 1)) (l.drop (k + 1)) ((k + 1 : Nat) : Int) by rw [HS.out, HD.out, HL.out]; simp [placeT, hq])
        have HW2 : Hid ((Lit.int .i64 (lastOf l (k + 1))).wf = true ∧ lastOf l (k + 1) ≤ 255) := Lib.hid (by rw [HL.out]; exact ⟨hw1, HQ.out _ hq rfl⟩)
        clear hq
        go_wp2_with (go_at_fn g; refine hcall.mono ?_; rintro e w' ⟨rfl, hb2, hb3⟩)
        go_roundw
        case rel => exact ⟨k + 1, by omega, by go_num, HE, HW2, by rw [HL.out]; exact hb3, HB.trans hb2⟩
        case measure => simp [intOf]; omega
    · have HE := Lib.hid (show placeT (-1) l 0 = -1 by rw [HS.out, List.drop_eq_nil_of_le (by omega)]; rfl)
      go_wp2
      go_ret
      exact ⟨by rw [← hr.out, HE.out]; rfl, HB⟩
set_option maxHeartbeats 1000000 in
theorem containsT (g bx n₀ : Nat) (eg : ∀ args w, (callFunc g args).run Try.prog w = .ok (.enter g args) w) (A : Option Addr) (c : Nat) (l : List StepT) (w : World) {B : Nat} (hB : B ≤ n₀) (hn : n₀ ≤ w.heap.size) (hx : Row traitR w B A l) (hl : l.length ≤ 9223372036854775807) (hbx : Box w bx #[.int .i64 (-1)] 3) (hp : AsksT g bx n₀ l w) :
    Calls Try.prog 28 #[.slice A l.length c, .func (.func g) #[] #[.pointer (some ⟨bx, 0, none⟩)]] w fun e w' => e = .returned (.bool (wrongT (-1) l)) ∧ Below n₀ w w' := by
  have H := Lib.hid (indexT g bx n₀ eg A c l w hB hn hx hl hbx hp)
  have HE := Lib.hid (placeT_any l (-1) 0 (by omega))
  clear hx hp hl hbx
  generalize placeT (-1) l 0 = r at *
  obtain ⟨q, hq⟩ : ∃ q, Hid (wrongT (-1) l = q) := ⟨_, Lib.hid rfl⟩
  rw [hq.out]
  go_enter Try.func28, Try.ntmps28
  go_wp2_with fail
  refine H.out.mono ?_; rintro e w' ⟨rfl, hb⟩
  go_wp2
  go_ret
  exact ⟨ret_bool rfl (by rw [← hq.out, ← HE.out]), hb⟩
end Go.Proofs.Ytndpdbofoojkhaa.Lv
