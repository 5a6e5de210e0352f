/- The library's IndexFunc and ContainsFunc over characters, and steps; whether a step, and a font, may be. -/
import Derived.Test.YtndpdbofoojkhaaFont2
import Derived.Deep.DeepCutAuto
import Derived.Deep.QuietTactic
import Derived.BigQuiet
import Derived.Shelf.Abstract
namespace Go.Proofs.Ytndpdbofoojkhaa.Fo
open Go.RowKit Go.Proofs.Ytndpdbofoojkhaa.Kit
set_option linter.unusedVariables false
set_option linter.unusedSimpArgs false

/-- A function value asked of a list's elements: it makes memory at most. -/
def AsksV {α : Type} (g : Nat) (lb : Array Value) (V : α → Value) (p : α → Bool) (l : List α) (w : World) : Prop := ∀ (W : World) (x : α), Below w.heap.size w W → x ∈ l → Calls Try.prog g (#[V x] ++ lb) W fun e w' => e = .returned (.bool (p x)) ∧ Below W.heap.size W w'
def placeV {α : Type} (p : α → Bool) : List α → Int → Int
  | [], _ => -1
  | x :: xs, k => if p x then k else placeV p xs (k + 1)
theorem placeV_any {α : Type} (p : α → Bool) : ∀ (l : List α) (k : Int), 0 ≤ k → decide (0 ≤ placeV p l k) = l.any p
  | [], k, h => by simp [placeV]
  | x :: xs, k, h => by
    unfold placeV
    cases hx : p x with
    | true => simp [hx]; exact h
    | false => simp [hx]; have := placeV_any p xs (k + 1) (by omega); simpa using this

set_option maxHeartbeats 1000000 in
theorem index_char (g : Nat) (lb : Array Value) (p : CharT → Bool) (eg : ∀ args w, (callFunc g args).run Try.prog w = .ok (.enter g args) w) (A : Option Addr) (c : Nat) (l : List CharT) (w : World) {B : Nat} (hB : B ≤ w.heap.size) (hx : Row charR w B A l) (hl : l.length ≤ 9223372036854775807) (hp : AsksV g lb charV p l w) :
    Calls Try.prog 87 #[.slice A l.length c, .func (.func g) #[] lb] w fun e w' => e = .returned (.int .i64 (placeV p l 0)) ∧ Below w.heap.size w w' := by
  have HP := Lib.hid hp
  clear hp
  obtain ⟨r, hr⟩ : ∃ r, Hid (placeV p l 0 = r) := ⟨_, Lib.hid rfl⟩
  rw [hr.out]
  go_enter Try.func87, Try.ntmps87
  go_wp2
  go_loopw [5, 8] (fun _ i wr => ∃ k : Nat, k ≤ l.length ∧ i = .int .i64 k ∧ Hid (placeV p l 0 = placeV p (l.drop k) k) ∧ Below w.heap.size w wr) (fun _ i _ => l.length - (intOf i).toNat)
  case atStart => exact ⟨0, by omega, rfl, Lib.hid (by simp), Below.refl _ _⟩
  case round =>
    obtain ⟨k, hk, rfl, HS, HB⟩ := hrel
    rename World => wr
    by_cases hlt : k < l.length
    · obtain ⟨x, hxk⟩ := at_lt hlt
      have HD := Lib.hid (drop_cons hxk)
      have HM := Lib.hid hxk
      obtain ⟨b, o, hA, hb, ⟨h0, h1, h2, h3, h4, h5⟩, _⟩ := char_at hx hxk
      clear hxk
      subst hA
      have hc0 : wr.cell? ⟨b, o + k * 6, none⟩ = _ := (HB.cell (p := ⟨b, o + k * 6, none⟩) (show b < w.heap.size by omega)).trans h0
      have hc1 : wr.cell? ⟨b, o + k * 6 + 1, none⟩ = _ := (HB.cell (p := ⟨b, o + k * 6 + 1, none⟩) (show b < w.heap.size by omega)).trans h1
      have hc2 : wr.cell? ⟨b, o + k * 6 + 2, none⟩ = _ := (HB.cell (p := ⟨b, o + k * 6 + 2, none⟩) (show b < w.heap.size by omega)).trans h2
      have hc3 : wr.cell? ⟨b, o + k * 6 + 3, none⟩ = _ := (HB.cell (p := ⟨b, o + k * 6 + 3, none⟩) (show b < w.heap.size by omega)).trans h3
      have hc4 : wr.cell? ⟨b, o + k * 6 + 4, none⟩ = _ := (HB.cell (p := ⟨b, o + k * 6 + 4, none⟩) (show b < w.heap.size by omega)).trans h4
      have hc5 : wr.cell? ⟨b, o + k * 6 + 5, none⟩ = _ := (HB.cell (p := ⟨b, o + k * 6 + 5, none⟩) (show b < w.heap.size by omega)).trans h5
      clear h0 h1 h2 h3 h4 h5
      have hcall := HP.out wr x HB (List.mem_of_getElem? HM.out)
      cases hq : p x with
      | true =>
        rw [hq] at hcall
        have HE := Lib.hid (show placeV p l 0 = k by rw [HS.out, HD.out]; simp [placeV, hq])
        clear hq
        go_wp2_with (go_at_fn g; refine hcall.mono ?_; rintro e w' ⟨rfl, hb2⟩)
        go_ret
        exact ⟨by rw [← hr.out, HE.out]; rfl, below_join HB hb2⟩
      | false =>
        rw [hq] at hcall
        have HE := Lib.hid (show placeV p l 0 = placeV p (l.drop (k + 1)) ((k + 1 : Nat) : Int) by rw [HS.out, HD.out]; simp [placeV, hq])
        clear hq
        go_wp2_with (go_at_fn g; refine hcall.mono ?_; rintro e w' ⟨rfl, hb2⟩)
        go_roundw
        case rel => exact ⟨k + 1, by omega, by go_num, HE, below_join HB hb2⟩
        case measure => simp [intOf]; omega
    · have HE := Lib.hid (show placeV p l 0 = -1 by rw [HS.out, List.drop_eq_nil_of_le (by omega)]; rfl)
      go_wp2
      go_ret
      exact ⟨by rw [← hr.out, HE.out]; rfl, HB⟩
set_option maxHeartbeats 1000000 in
theorem contains_char (g : Nat) (lb : Array Value) (p : CharT → Bool) (eg : ∀ args w, (callFunc g args).run Try.prog w = .ok (.enter g args) w) (A : Option Addr) (c : Nat) (l : List CharT) (w : World) {B : Nat} (hB : B ≤ w.heap.size) (hx : Row charR w B A l) (hl : l.length ≤ 9223372036854775807) (hp : AsksV g lb charV p l w) :
    Calls Try.prog 76 #[.slice A l.length c, .func (.func g) #[] lb] w fun e w' => e = .returned (.bool (l.any p)) ∧ Below w.heap.size w w' := by
  have H := Lib.hid (index_char g lb p eg A c l w hB hx hl hp)
  have HE := Lib.hid (placeV_any p l 0 (by omega))
  clear hx hp hl
  generalize placeV p l 0 = r at *
  obtain ⟨q, hq⟩ : ∃ q, Hid (l.any p = q) := ⟨_, Lib.hid rfl⟩
  rw [hq.out]
  go_enter Try.func76, Try.ntmps76
  go_wp2_with fail
  refine H.out.mono ?_; rintro e w' ⟨rfl, hb⟩
  go_wp2
  go_ret
  exact ⟨ret_bool rfl (by rw [← hq.out, ← HE.out]), hb⟩

set_option maxHeartbeats 1000000 in
theorem index_step (g : Nat) (lb : Array Value) (p : StepT → Bool) (eg : ∀ args w, (callFunc g args).run Try.prog w = .ok (.enter g args) w) (A : Option Addr) (c : Nat) (l : List StepT) (w : World) {B : Nat} (hB : B ≤ w.heap.size) (hx : Row stepR w B A l) (hl : l.length ≤ 9223372036854775807) (hp : AsksV g lb stepV p l w) :
    Calls Try.prog 88 #[.slice A l.length c, .func (.func g) #[] lb] w fun e w' => e = .returned (.int .i64 (placeV p l 0)) ∧ Below w.heap.size w w' := by
  have HP := Lib.hid hp
  clear hp
  obtain ⟨r, hr⟩ : ∃ r, Hid (placeV p l 0 = r) := ⟨_, Lib.hid rfl⟩
  rw [hr.out]
  go_enter Try.func88, Try.ntmps88
  go_wp2
  go_loopw [5, 8] (fun _ i wr => ∃ k : Nat, k ≤ l.length ∧ i = .int .i64 k ∧ Hid (placeV p l 0 = placeV p (l.drop k) k) ∧ Below w.heap.size w wr) (fun _ i _ => l.length - (intOf i).toNat)
  case atStart => exact ⟨0, by omega, rfl, Lib.hid (by simp), Below.refl _ _⟩
  case round =>
    obtain ⟨k, hk, rfl, HS, HB⟩ := hrel
    rename World => wr
    by_cases hlt : k < l.length
    · obtain ⟨x, hxk⟩ := at_lt hlt
      have HD := Lib.hid (drop_cons hxk)
      have HM := Lib.hid hxk
      obtain ⟨b, o, hA, hb, ⟨h0, h1, h2, h3⟩, _⟩ := step_at hx hxk
      clear hxk
      subst hA
      have hc0 : wr.cell? ⟨b, o + k * 4, none⟩ = _ := (HB.cell (p := ⟨b, o + k * 4, none⟩) (show b < w.heap.size by omega)).trans h0
      have hc1 : wr.cell? ⟨b, o + k * 4 + 1, none⟩ = _ := (HB.cell (p := ⟨b, o + k * 4 + 1, none⟩) (show b < w.heap.size by omega)).trans h1
      have hc2 : wr.cell? ⟨b, o + k * 4 + 2, none⟩ = _ := (HB.cell (p := ⟨b, o + k * 4 + 2, none⟩) (show b < w.heap.size by omega)).trans h2
      have hc3 : wr.cell? ⟨b, o + k * 4 + 3, none⟩ = _ := (HB.cell (p := ⟨b, o + k * 4 + 3, none⟩) (show b < w.heap.size by omega)).trans h3
      clear h0 h1 h2 h3
      have hcall := HP.out wr x HB (List.mem_of_getElem? HM.out)
      cases hq : p x with
      | true =>
        rw [hq] at hcall
        have HE := Lib.hid (show placeV p l 0 = k by rw [HS.out, HD.out]; simp [placeV, hq])
        clear hq
        go_wp2_with (go_at_fn g; refine hcall.mono ?_; rintro e w' ⟨rfl, hb2⟩)
        go_ret
        exact ⟨by rw [← hr.out, HE.out]; rfl, below_join HB hb2⟩
      | false =>
        rw [hq] at hcall
        have HE := Lib.hid (show placeV p l 0 = placeV p (l.drop (k + 1)) ((k + 1 : Nat) : Int) by rw [HS.out, HD.out]; simp [placeV, hq])
        clear hq
        go_wp2_with (go_at_fn g; refine hcall.mono ?_; rintro e w' ⟨rfl, hb2⟩)
        go_roundw
        case rel => exact ⟨k + 1, by omega, by go_num, HE, below_join HB hb2⟩
        case measure => simp [intOf]; omega
    · have HE := Lib.hid (show placeV p l 0 = -1 by rw [HS.out, List.drop_eq_nil_of_le (by omega)]; rfl)
      go_wp2
      go_ret
      exact ⟨by rw [← hr.out, HE.out]; rfl, HB⟩
set_option maxHeartbeats 1000000 in
theorem contains_step (g : Nat) (lb : Array Value) (p : StepT → Bool) (eg : ∀ args w, (callFunc g args).run Try.prog w = .ok (.enter g args) w) (A : Option Addr) (c : Nat) (l : List StepT) (w : World) {B : Nat} (hB : B ≤ w.heap.size) (hx : Row stepR w B A l) (hl : l.length ≤ 9223372036854775807) (hp : AsksV g lb stepV p l w) :
    Calls Try.prog 79 #[.slice A l.length c, .func (.func g) #[] lb] w fun e w' => e = .returned (.bool (l.any p)) ∧ Below w.heap.size w w' := by
  have H := Lib.hid (index_step g lb p eg A c l w hB hx hl hp)
  have HE := Lib.hid (placeV_any p l 0 (by omega))
  clear hx hp hl
  generalize placeV p l 0 = r at *
  obtain ⟨q, hq⟩ : ∃ q, Hid (l.any p = q) := ⟨_, Lib.hid rfl⟩
  rw [hq.out]
  go_enter Try.func79, Try.ntmps79
  go_wp2_with fail
  refine H.out.mono ?_; rintro e w' ⟨rfl, hb⟩
  go_wp2
  go_ret
  exact ⟨ret_bool rfl (by rw [← hq.out, ← HE.out]), hb⟩
end Go.Proofs.Ytndpdbofoojkhaa.Fo
