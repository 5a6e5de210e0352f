/- Fonts: what numbers and tables may be. -/
import Derived.Test.YtndpdbofoojkhaaFontPlain
import Derived.Deep.DeepCutAuto
import Derived.Deep.QuietTactic
import Derived.BigQuiet
import Derived.Shelf.Abstract
namespace Go.Proofs.Ytndpdbofoojkhaa.Fo
open Go.RowKit Go.Proofs.Ytndpdbofoojkhaa.Kit
set_option linter.unusedVariables false
set_option linter.unusedSimpArgs false

/-- A function value asked of each number of a list: it makes memory at most. -/
def Asks (g : Nat) (lb : Array Value) (p : Int → Bool) (w : World) : Prop := ∀ (W : World) (x : Int), Below w.heap.size w W → Calls Try.prog g (#[.int .i64 x] ++ lb) W fun e w' => e = .returned (.bool (p x)) ∧ Below W.heap.size W w'
def place (p : Int → Bool) : List Int → Int → Int
  | [], _ => -1
  | x :: xs, k => if p x then k else place p xs (k + 1)
theorem place_any (p : Int → Bool) : ∀ (l : List Int) (k : Int), 0 ≤ k → decide (0 ≤ place p l k) = l.any p
  | [], k, h => by simp [place]
  | x :: xs, k, h => by
    unfold place
    cases hx : p x with
    | true => simp [hx]; exact h
    | false => simp [hx]; have := place_any p xs (k + 1) (by omega); simpa using this

set_option maxHeartbeats 1000000 in
theorem index_any (g : Nat) (lb : Array Value) (p : Int → Bool) (eg : ∀ args w, (callFunc g args).run Try.prog w = .ok (.enter g args) w) (A : Option Addr) (c : Nat) (l : List Int) (w : World) {B : Nat} (hB : B ≤ w.heap.size) (hx : Row (Rep.int .i64) w B A l) (hl : l.length ≤ 9223372036854775807) (hp : Asks g lb p w) :
    Calls Try.prog 66 #[.slice A l.length c, .func (.func g) #[] lb] w fun e w' => e = .returned (.int .i64 (place p l 0)) ∧ Below w.heap.size w w' := by
  have HP := Lib.hid hp
  clear hp
  obtain ⟨r, hr⟩ : ∃ r, Hid (place p l 0 = r) := ⟨_, Lib.hid rfl⟩
  rw [hr.out]
  go_enter Try.func66, Try.ntmps66
  go_wp2
  go_loopw [5, 8] (fun _ i wr => ∃ k : Nat, k ≤ l.length ∧ i = .int .i64 k ∧ Hid (place p l 0 = place p (l.drop k) k) ∧ Below w.heap.size w wr) (fun _ i _ => l.length - (intOf i).toNat)
  case atStart => exact ⟨0, by omega, rfl, Lib.hid (by simp), Below.refl _ _⟩
  case round =>
    obtain ⟨k, hk, rfl, HS, HB⟩ := hrel
    rename World => wr
    by_cases hlt : k < l.length
    · obtain ⟨x, hxk⟩ := at_lt hlt
      obtain ⟨b, o, hA, hb, hc, _⟩ := int_at hx hxk
      have HD := Lib.hid (drop_cons hxk)
      clear hxk
      subst hA
      have hc2 : _ = some (Value.int .i64 x) := (HB.cell (p := ⟨b, o + k, none⟩) (show b < w.heap.size by omega)).trans hc
      have hcall := HP.out wr x HB
      cases hq : p x with
      | true =>
        rw [hq] at hcall
        have HE := Lib.hid (show place p l 0 = k by rw [HS.out, HD.out]; simp [place, hq])
        clear hq
        go_wp2_with (go_at_fn g; refine hcall.mono ?_; rintro e w' ⟨rfl, hb2⟩)
        go_ret
        exact ⟨by rw [← hr.out, HE.out]; rfl, below_join HB hb2⟩
      | false =>
        rw [hq] at hcall
        have HE := Lib.hid (show place p l 0 = place p (l.drop (k + 1)) ((k + 1 : Nat) : Int) by rw [HS.out, HD.out]; simp [place, hq])
        clear hq
        go_wp2_with (go_at_fn g; refine hcall.mono ?_; rintro e w' ⟨rfl, hb2⟩)
        go_roundw
        case rel => exact ⟨k + 1, by omega, by go_num, HE, below_join HB hb2⟩
        case measure => simp [intOf]; omega
    · have HE := Lib.hid (show place p l 0 = -1 by rw [HS.out, List.drop_eq_nil_of_le (by omega)]; rfl)
      go_wp2
      go_ret
      exact ⟨by rw [← hr.out, HE.out]; rfl, HB⟩
set_option maxHeartbeats 1000000 in
theorem contains_any (g : Nat) (lb : Array Value) (p : Int → Bool) (eg : ∀ args w, (callFunc g args).run Try.prog w = .ok (.enter g args) w) (A : Option Addr) (c : Nat) (l : List Int) (w : World) {B : Nat} (hB : B ≤ w.heap.size) (hx : Row (Rep.int .i64) w B A l) (hl : l.length ≤ 9223372036854775807) (hp : Asks g lb p w) :
    Calls Try.prog 46 #[.slice A l.length c, .func (.func g) #[] lb] w fun e w' => e = .returned (.bool (l.any p)) ∧ Below w.heap.size w w' := by
  have H := Lib.hid (index_any g lb p eg A c l w hB hx hl hp)
  have HE := Lib.hid (place_any p l 0 (by omega))
  clear hx hp hl
  generalize place p l 0 = r at *
  obtain ⟨q, hq⟩ : ∃ q, Hid (l.any p = q) := ⟨_, Lib.hid rfl⟩
  rw [hq.out]
  go_enter Try.func46, Try.ntmps46
  go_wp2_with fail
  refine H.out.mono ?_; rintro e w' ⟨rfl, hb⟩
  go_wp2
  go_ret
  exact ⟨ret_bool rfl (by rw [← hq.out, ← HE.out]), hb⟩


/-! ### A place of so many; a fix; a table -/
theorem of_any (n m : Int) (w : World) :
    Calls Try.prog 74 #[.int .i64 n, .int .i64 m] w fun e w' => e = .returned (.bool (ofB n m)) ∧ w = w' := by
  unfold ofB
  by_cases h : 0 ≤ n
  · go_enter Try.func74, Try.ntmps74
    go_wp2
    go_ret
    exact ⟨ret_bool rfl (by simp [h]), rfl⟩
  · go_enter Try.func74, Try.ntmps74
    go_wp2
    go_ret
    exact ⟨ret_bool rfl (by simp; omega), rfl⟩
theorem fix_any (n : Int) (w : World) :
    Calls Try.prog 86 #[.int .i64 n] w fun e w' => e = .returned (.bool (fixB n)) ∧ w = w' := by
  unfold fixB
  by_cases h : -16777216 ≤ n
  · go_enter Try.func86, Try.ntmps86
    go_wp2
    go_ret
    exact ⟨ret_bool rfl (by simp [h]), rfl⟩
  · go_enter Try.func86, Try.ntmps86
    go_wp2
    go_ret
    exact ⟨ret_bool rfl (by simp; omega), rfl⟩
theorem nofix_any (n : Int) (w : World) :
    Calls Try.prog 85 #[.int .i64 n] w fun e w' => e = .returned (.bool (!fixB n)) ∧ w = w' := by
  have H := Lib.hid (fix_any n w)
  generalize fixB n = b at *
  go_enter Try.func85, Try.ntmps85
  go_wp2_with fail
  refine H.out.mono ?_; rintro e w1 ⟨rfl, rfl⟩
  go_wp2
  go_ret
  exact ⟨rfl, rfl⟩
theorem asks_nofix (w : World) : Asks 85 #[] (fun n => !fixB n) w := fun W x _ => (nofix_any x W).mono fun e w' ⟨h1, h2⟩ => ⟨h1, h2 ▸ Below.refl _ _⟩
theorem nofit_any (n : Int) (w : World) :
    Calls Try.prog 89 #[.int .i64 n] w fun e w' => e = .returned (.bool (!ofB n 256)) ∧ w = w' := by
  have H := Lib.hid (of_any n 256 w)
  generalize ofB n 256 = b at *
  go_enter Try.func89, Try.ntmps89
  go_wp2_with fail
  refine H.out.mono ?_; rintro e w1 ⟨rfl, rfl⟩
  go_wp2
  go_ret
  exact ⟨rfl, rfl⟩
theorem asks_nofit (w : World) : Asks 89 #[] (fun n => !ofB n 256) w := fun W x _ => (nofit_any x W).mono fun e w' ⟨h1, h2⟩ => ⟨h1, h2 ▸ Below.refl _ _⟩


theorem char_at {w : World} {B : Nat} {A : Option Addr} {l : List CharT} (h : Row charR w B A l) {i : Nat} {c : CharT} (hx : l[i]? = some c) :
    ∃ b o, A = some ⟨b, o, none⟩ ∧ b < B ∧ (w.cell? ⟨b, o + i * 6, none⟩ = some (.int .i64 c.1) ∧ w.cell? ⟨b, o + i * 6 + 1, none⟩ = some (.int .i64 c.2.1) ∧ w.cell? ⟨b, o + i * 6 + 2, none⟩ = some (.int .i64 c.2.2.1) ∧ w.cell? ⟨b, o + i * 6 + 3, none⟩ = some (.int .i64 c.2.2.2.1) ∧ w.cell? ⟨b, o + i * 6 + 4, none⟩ = some (.int .i64 c.2.2.2.2.1) ∧ w.cell? ⟨b, o + i * 6 + 5, none⟩ = some (.int .i64 c.2.2.2.2.2)) ∧
      ((Lit.int .i64 c.1).wf = true ∧ (Lit.int .i64 c.2.1).wf = true ∧ (Lit.int .i64 c.2.2.1).wf = true ∧ (Lit.int .i64 c.2.2.2.1).wf = true ∧ (Lit.int .i64 c.2.2.2.2.1).wf = true ∧ (Lit.int .i64 c.2.2.2.2.2).wf = true) := by
  obtain ⟨b, o, cs, rfl, hb, ⟨c1, r1, rfl, ⟨rfl, w1⟩, c2, r2, rfl, ⟨rfl, w2⟩, c3, r3, rfl, ⟨rfl, w3⟩, c4, r4, rfl, ⟨rfl, w4⟩, c5, r5, rfl, ⟨rfl, w5⟩, rfl, w6⟩, hc⟩ := h i c hx
  exact ⟨b, o, rfl, hb, ⟨hc 0 _ rfl, hc 1 _ rfl, hc 2 _ rfl, hc 3 _ rfl, hc 4 _ rfl, hc 5 _ rfl⟩, w1, w2, w3, w4, w5, w6⟩
theorem step_at {w : World} {B : Nat} {A : Option Addr} {l : List StepT} (h : Row stepR w B A l) {i : Nat} {c : StepT} (hx : l[i]? = some c) :
    ∃ b o, A = some ⟨b, o, none⟩ ∧ b < B ∧ (w.cell? ⟨b, o + i * 4, none⟩ = some (.int .i64 c.1) ∧ w.cell? ⟨b, o + i * 4 + 1, none⟩ = some (.int .i64 c.2.1) ∧ w.cell? ⟨b, o + i * 4 + 2, none⟩ = some (.int .i64 c.2.2.1) ∧ w.cell? ⟨b, o + i * 4 + 3, none⟩ = some (.int .i64 c.2.2.2)) ∧
      ((Lit.int .i64 c.1).wf = true ∧ (Lit.int .i64 c.2.1).wf = true ∧ (Lit.int .i64 c.2.2.1).wf = true ∧ (Lit.int .i64 c.2.2.2).wf = true) := by
  obtain ⟨b, o, cs, rfl, hb, ⟨c1, r1, rfl, ⟨rfl, w1⟩, c2, r2, rfl, ⟨rfl, w2⟩, c3, r3, rfl, ⟨rfl, w3⟩, rfl, w4⟩, hc⟩ := h i c hx
  exact ⟨b, o, rfl, hb, ⟨hc 0 _ rfl, hc 1 _ rfl, hc 2 _ rfl, hc 3 _ rfl⟩, w1, w2, w3, w4⟩
abbrev charV (c : CharT) : Value := .agg #[.int .i64 c.1, .int .i64 c.2.1, .int .i64 c.2.2.1, .int .i64 c.2.2.2.1, .int .i64 c.2.2.2.2.1, .int .i64 c.2.2.2.2.2]
abbrev stepV (c : StepT) : Value := .agg #[.int .i64 c.1, .int .i64 c.2.1, .int .i64 c.2.2.1, .int .i64 c.2.2.2]

/-! ### Tables -/
set_option maxHeartbeats 1000000 in
theorem table_any (A : Option Addr) (c : Nat) (l : List Int) (least most : Int) (h0 : 0 ≤ least) (w : World) {B : Nat} (hB : B ≤ w.heap.size) (hx : Row (Rep.int .i64) w B A l) (hl : l.length ≤ 9223372036854775807) :
    Calls Try.prog 75 #[.slice A l.length c, .int .i64 least, .int .i64 most] w fun e w' => e = .returned (.bool (tableB l least most)) ∧ Below w.heap.size w w' := by
  have e1 : ∀ args w, (callFunc 85 args).run Try.prog w = .ok (.enter 85 args) w := enters_of Try.func85 (by kernel_rfl) rfl
  have HC := Lib.hid (contains_any _ #[] (fun n => !fixB n) e1 A c l w hB hx hl (asks_nofix w))
  clear e1
  obtain ⟨res, hres⟩ : ∃ r, Hid (tableB l least most = r) := ⟨_, Lib.hid rfl⟩
  rw [hres.out]
  have hres' := hres.out
  unfold tableB at hres'
  generalize (l.any fun n => !fixB n) = b at *
  by_cases h1 : least ≤ l.length
  · have F1 : (least ≤ (l.length : Int)) = True := eq_true h1
    by_cases h2 : (l.length : Int) ≤ most
    · have F2 : ((l.length : Int) ≤ most) = True := eq_true h2
      cases b with
      | true =>
        have HE : Hid (false = res) := Lib.hid (by rw [← hres']; simp)
        clear hres' hres h1 h2 hx
        go_enter Try.func75, Try.ntmps75
        go_wp2_with fail
        refine HC.out.mono ?_; rintro e w1 ⟨rfl, hb⟩
        go_wp2
        go_ret
        exact ⟨ret_bool rfl HE.out, hb⟩
      | false =>
        by_cases h3 : least = 0
        · have HE : Hid (true = res) := Lib.hid (by rw [← hres']; simp [h3, h2])
          clear hres' hres h1 h2 hx F1
          subst h3
          have F1 : ((0 : Int) ≤ (l.length : Int)) = True := eq_true (by omega)
          go_enter Try.func75, Try.ntmps75
          go_wp2_with fail
          refine HC.out.mono ?_; rintro e w1 ⟨rfl, hb⟩
          go_wp2
          go_ret
          exact ⟨ret_bool rfl HE.out, hb⟩
        · obtain ⟨x, hx0⟩ := at_lt (l := l) (i := 0) (by omega)
          obtain ⟨b, o, rfl, hbb, hc, _⟩ := int_at hx hx0
          have HE : Hid (decide (x = 0) = res) := Lib.hid (by rw [← hres']; simp [h1, h2, h3, List.getD_eq_getElem?_getD, hx0])
          have F3 : (least == 0) = false := by simp; exact h3
          have hlt : 0 < l.length := (List.getElem?_eq_some_iff.1 hx0).1
          clear hres' hres h1 h2 hx hx0 h3
          go_enter Try.func75, Try.ntmps75
          go_wp2_with fail
          refine HC.out.mono ?_; rintro e w1 ⟨rfl, hb⟩
          have hc1 : w1.cell? ⟨b, o, none⟩ = some (.int .i64 x) := (hb.cell (p := ⟨b, o, none⟩) (by show b < w.heap.size; omega)).trans hc
          go_wp2
          go_ret
          exact ⟨ret_bool rfl HE.out, hb⟩
    · have F2 : ((l.length : Int) ≤ most) = False := eq_false h2
      have HE : Hid (false = res) := Lib.hid (by rw [← hres']; simp [h2])
      clear hres' hres h1 h2 hx HC
      go_enter Try.func75, Try.ntmps75
      go_wp2
      go_ret
      exact ⟨ret_bool rfl HE.out, Below.refl _ _⟩
  · have F1 : (least ≤ (l.length : Int)) = False := eq_false h1
    have HE : Hid (false = res) := Lib.hid (by rw [← hres']; simp [h1])
    clear hres' hres h1 hx HC
    go_enter Try.func75, Try.ntmps75
    go_wp2
    go_ret
    exact ⟨ret_bool rfl HE.out, Below.refl _ _⟩
end Go.Proofs.Ytndpdbofoojkhaa.Fo
