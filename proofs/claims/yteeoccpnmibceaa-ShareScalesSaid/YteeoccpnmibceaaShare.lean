/- Shares: what the inner calls answer. -/
import Derived.Test.YteeoccpnmibceaaKit
import Derived.Test.YteeoccpnmibceaaSharePlain
import Derived.Deep.DeepCutAuto
import Derived.Deep.QuietTactic
import Derived.BigQuiet
import Derived.Shelf.Abstract
namespace Go.Proofs.Yteeoccpnmibceaa.Sh
open Go.RowKit Go.Proofs.Yteeoccpnmibceaa.Kit
set_option linter.unusedVariables false
set_option linter.unusedSimpArgs false

/-- A function value asked of each number of a list: it makes memory at most. -/
def Asks (g : Nat) (lb : Array Value) (p : Int → Bool) (w : World) : Prop := ∀ (W : World) (x : Int), Below w.heap.size w W → Calls Try.prog g (#[.int .i64 x] ++ lb) W fun e w' => e = .returned (.bool (p x)) ∧ Below W.heap.size W w'
def place (p : Int → Bool) : List Int → Int → Int
  | [], _ => -1
  | x :: xs, k => if p x then k else place p xs (k + 1)
theorem place_any (p : Int → Bool) : ∀ (l : List Int) (k : Int), 0 ≤ k → decide (0 ≤ place p l k) = l.any p
  | [], k, h => by simp [place]
  | x :: xs, k, h => by
    unfold place
    cases hx : p x with
    | true => simp [hx]; exact h
    | false => simp [hx]; have := place_any p xs (k + 1) (by omega); simpa using this

set_option maxHeartbeats 1000000 in
theorem index_any (g : Nat) (lb : Array Value) (p : Int → Bool) (eg : ∀ args w, (callFunc g args).run Try.prog w = .ok (.enter g args) w) (A : Option Addr) (c : Nat) (l : List Int) (w : World) {B : Nat} (hB : B ≤ w.heap.size) (hx : Row (Rep.int .i64) w B A l) (hl : l.length ≤ 9223372036854775807) (hp : Asks g lb p w) :
    Calls Try.prog 31 #[.slice A l.length c, .func (.func g) #[] lb] w fun e w' => e = .returned (.int .i64 (place p l 0)) ∧ Below w.heap.size w w' := by
  have HP := Lib.hid hp
  clear hp
  obtain ⟨r, hr⟩ : ∃ r, Hid (place p l 0 = r) := ⟨_, Lib.hid rfl⟩
  rw [hr.out]
  go_enter Try.func31, Try.ntmps31
  go_wp2
  go_loopw [5, 8] (fun _ i wr => ∃ k : Nat, k ≤ l.length ∧ i = .int .i64 k ∧ Hid (place p l 0 = place p (l.drop k) k) ∧ Below w.heap.size w wr) (fun _ i _ => l.length - (intOf i).toNat)
  case atStart => exact ⟨0, by omega, rfl, Lib.hid (by simp), Below.refl _ _⟩
  case round =>
    obtain ⟨k, hk, rfl, HS, HB⟩ := hrel
    rename World => wr
    by_cases hlt : k < l.length
    · obtain ⟨x, hxk⟩ := at_lt hlt
      obtain ⟨b, o, hA, hb, hc, _⟩ := int_at hx hxk
      have HD := Lib.hid (drop_cons hxk)
      clear hxk
      subst hA
      have hc2 : _ = some (Value.int .i64 x) := (HB.cell (p := ⟨b, o + k, none⟩) (show b < w.heap.size by omega)).trans hc
      have hcall := HP.out wr x HB
      cases hq : p x with
      | true =>
        rw [hq] at hcall
        have HE := Lib.hid (show place p l 0 = k by rw [HS.out, HD.out]; simp [place, hq])
        clear hq
        go_wp2_with (go_at_fn g; refine hcall.mono ?_; rintro e w' ⟨rfl, hb2⟩)
        go_ret
        exact ⟨by rw [← hr.out, HE.out]; rfl, below_join HB hb2⟩
      | false =>
        rw [hq] at hcall
        have HE := Lib.hid (show place p l 0 = place p (l.drop (k + 1)) ((k + 1 : Nat) : Int) by rw [HS.out, HD.out]; simp [place, hq])
        clear hq
        go_wp2_with (go_at_fn g; refine hcall.mono ?_; rintro e w' ⟨rfl, hb2⟩)
        go_roundw
        case rel => exact ⟨k + 1, by omega, by go_num, HE, below_join HB hb2⟩
        case measure => simp [intOf]; omega
    · have HE := Lib.hid (show place p l 0 = -1 by rw [HS.out, List.drop_eq_nil_of_le (by omega)]; rfl)
      go_wp2
      go_ret
      exact ⟨by rw [← hr.out, HE.out]; rfl, HB⟩
set_option maxHeartbeats 1000000 in
theorem contains_any (g : Nat) (lb : Array Value) (p : Int → Bool) (eg : ∀ args w, (callFunc g args).run Try.prog w = .ok (.enter g args) w) (A : Option Addr) (c : Nat) (l : List Int) (w : World) {B : Nat} (hB : B ≤ w.heap.size) (hx : Row (Rep.int .i64) w B A l) (hl : l.length ≤ 9223372036854775807) (hp : Asks g lb p w) :
    Calls Try.prog 23 #[.slice A l.length c, .func (.func g) #[] lb] w fun e w' => e = .returned (.bool (l.any p)) ∧ Below w.heap.size w w' := by
  have H := Lib.hid (index_any g lb p eg A c l w hB hx hl hp)
  have HE := Lib.hid (place_any p l 0 (by omega))
  clear hx hp hl
  generalize place p l 0 = r at *
  obtain ⟨q, hq⟩ : ∃ q, Hid (l.any p = q) := ⟨_, Lib.hid rfl⟩
  rw [hq.out]
  go_enter Try.func23, Try.ntmps23
  go_wp2_with fail
  refine H.out.mono ?_; rintro e w' ⟨rfl, hb⟩
  go_wp2
  go_ret
  exact ⟨ret_bool rfl (by rw [← hq.out, ← HE.out]), hb⟩

/-! ### Whether a total may be split -/
def wrongB (n : Int) : Bool := decide (n < 0) || decide (1073741823 < n)
def someB (n : Int) : Bool := decide (0 < n)
theorem wrong_any (n : Int) (w : World) :
    Calls Try.prog 21 #[.int .i64 n] w fun e w' => e = .returned (.bool (wrongB n)) ∧ w = w' := by
  unfold wrongB
  by_cases h : n < 0
  · go_enter Try.func21, Try.ntmps21
    go_wp2
    go_ret
    exact ⟨ret_bool rfl (by simp [h]; try omega), rfl⟩
  · go_enter Try.func21, Try.ntmps21
    go_wp2
    go_ret
    exact ⟨ret_bool rfl (by simp [h]; try omega), rfl⟩
theorem some_any (n : Int) (w : World) :
    Calls Try.prog 22 #[.int .i64 n] w fun e w' => e = .returned (.bool (someB n)) ∧ w = w' := by
  unfold someB
  go_enter Try.func22, Try.ntmps22
  go_wp2
  go_ret
  exact ⟨rfl, rfl⟩
theorem asks_wrong (w : World) : Asks 21 #[] wrongB w := fun W x _ => (wrong_any x W).mono fun e w' ⟨h1, h2⟩ => ⟨h1, h2 ▸ Below.refl _ _⟩
theorem asks_some (w : World) : Asks 22 #[] someB w := fun W x _ => (some_any x W).mono fun e w' ⟨h1, h2⟩ => ⟨h1, h2 ▸ Below.refl _ _⟩
def mayS (total : Int) (l : List Int) : Bool := !wrongB total && (decide (l.length ≤ 300) && (!l.any wrongB && (decide (total = 0) || l.any someB)))

set_option maxHeartbeats 1000000 in
theorem may_any (total : Int) (A : Option Addr) (c : Nat) (l : List Int) (w : World) {B : Nat} (hB : B ≤ w.heap.size) (hx : Row (Rep.int .i64) w B A l) (hl : l.length ≤ 9223372036854775807) :
    Calls Try.prog 14 #[.int .i64 total, .slice A l.length c] w fun e w' => e = .returned (.bool (mayS total l)) ∧ Below w.heap.size w w' := by
  have e1 : ∀ args w, (callFunc 21 args).run Try.prog w = .ok (.enter 21 args) w := enters_of Try.func21 (by kernel_rfl) rfl
  have e2 : ∀ args w, (callFunc 22 args).run Try.prog w = .ok (.enter 22 args) w := enters_of Try.func22 (by kernel_rfl) rfl
  have H1 := Lib.hid (contains_any _ #[] wrongB e1 A c l w hB hx hl (asks_wrong w))
  have H2 : Hid (∀ w1, Below w.heap.size w w1 → _) := Lib.hid fun w1 hb => contains_any _ #[] someB e2 A c l w1 (Nat.le_trans hB hb.size) (hx.mono (hb.mono hB)) hl (asks_some w1)
  clear e1 e2 hx
  obtain ⟨res, hres⟩ : ∃ r, Hid (mayS total l = r) := ⟨_, Lib.hid rfl⟩
  rw [hres.out]
  have hres' := hres.out
  unfold mayS at hres'
  generalize l.any wrongB = p at *
  generalize l.any someB = q at *
  have H0 : Hid (∀ w, _) := Lib.hid (wrong_any total)
  generalize wrongB total = r at *
  cases r with
  | true =>
    have HE : Hid (false = res) := Lib.hid hres'
    clear hres' hres
    go_enter Try.func14, Try.ntmps14
    go_wp2_with fail
    refine (H0.out _).mono ?_; rintro e w1 ⟨rfl, rfl⟩
    go_wp2
    go_ret
    exact ⟨ret_bool rfl HE.out, Below.refl _ _⟩
  | false =>
    by_cases hlen : l.length ≤ 300
    · have F1 : ((l.length : Int) ≤ 300) = True := eq_true (by omega)
      cases p with
      | true =>
        have HE : Hid (false = res) := Lib.hid (by rw [← hres']; simp)
        clear hres' hres hlen
        go_enter Try.func14, Try.ntmps14
        go_wp2_with fail
        refine (H0.out _).mono ?_; rintro e w1 ⟨rfl, rfl⟩
        go_wp2_with fail
        refine H1.out.mono ?_; rintro e w1 ⟨rfl, hb⟩
        go_wp2
        go_ret
        exact ⟨ret_bool rfl HE.out, hb⟩
      | false =>
        by_cases h0 : total = 0
        · have HE : Hid (true = res) := Lib.hid (by rw [← hres']; simp [hlen, h0])
          have hb0 : (total == 0) = true := by simpa using h0
          clear hres' hres hlen h0
          go_enter Try.func14, Try.ntmps14
          go_wp2_with fail
          refine (H0.out _).mono ?_; rintro e w1 ⟨rfl, rfl⟩
          go_wp2_with fail
          refine H1.out.mono ?_; rintro e w1 ⟨rfl, hb⟩
          go_wp2
          go_ret
          exact ⟨ret_bool rfl HE.out, hb⟩
        · have HE : Hid (q = res) := Lib.hid (by rw [← hres']; simp [hlen, h0])
          have hb0 : (total == 0) = false := by simpa using h0
          clear hres' hres hlen h0
          go_enter Try.func14, Try.ntmps14
          go_wp2_with fail
          refine (H0.out _).mono ?_; rintro e w1 ⟨rfl, rfl⟩
          go_wp2_with fail
          refine H1.out.mono ?_; rintro e w1 ⟨rfl, hb⟩
          go_wp2_with fail
          refine (H2.out _ hb).mono ?_; rintro e w2 ⟨rfl, hb2⟩
          go_wp2
          go_ret
          exact ⟨ret_bool rfl HE.out, below_join hb hb2⟩
    · have F1 : ((l.length : Int) ≤ 300) = False := eq_false (by omega)
      have HE : Hid (false = res) := Lib.hid (by rw [← hres']; simp [hlen])
      clear hres' hres hlen
      go_enter Try.func14, Try.ntmps14
      go_wp2_with fail
      refine (H0.out _).mono ?_; rintro e w1 ⟨rfl, rfl⟩
      go_wp2
      go_ret
      exact ⟨ret_bool rfl HE.out, Below.refl _ _⟩

/-! ### The order of parts -/
def cmpI (a b : Int) : Int := if a < b then -1 else if b < a then 1 else 0
theorem nan_any (a : Int) (w : World) :
    Calls Try.prog 46 #[.int .i64 a] w fun e w' => e = .returned (.bool false) ∧ w = w' := by
  have h : (a != a) = false := by simp
  go_enter Try.func46, Try.ntmps46
  go_wp2
  go_ret
  exact ⟨ret_bool rfl (by simp), rfl⟩
theorem compare_any (a b : Int) (w : World) :
    Calls Try.prog 30 #[.int .i64 a, .int .i64 b] w fun e w' => e = .returned (.int .i64 (cmpI a b)) ∧ w = w' := by
  unfold cmpI
  rcases (by omega : a < b ∨ (¬ a < b ∧ b < a) ∨ (¬ a < b ∧ ¬ b < a)) with h | ⟨h, h2⟩ | ⟨h, h2⟩
  · rw [if_pos h]
    go_enter Try.func30, Try.ntmps30
    go_wp2_with fail
    refine (nan_any _ _).mono ?_; rintro e w1 ⟨rfl, rfl⟩
    go_wp2_with fail
    refine (nan_any _ _).mono ?_; rintro e w1 ⟨rfl, rfl⟩
    go_wp2
    go_ret
    exact ⟨rfl, rfl⟩
  · rw [if_neg h, if_pos h2]
    go_enter Try.func30, Try.ntmps30
    go_wp2_with fail
    refine (nan_any _ _).mono ?_; rintro e w1 ⟨rfl, rfl⟩
    go_wp2_with fail
    refine (nan_any _ _).mono ?_; rintro e w1 ⟨rfl, rfl⟩
    go_wp2
    go_ret
    exact ⟨rfl, rfl⟩
  · rw [if_neg h, if_neg h2]
    go_enter Try.func30, Try.ntmps30
    go_wp2_with fail
    refine (nan_any _ _).mono ?_; rintro e w1 ⟨rfl, rfl⟩
    go_wp2_with fail
    refine (nan_any _ _).mono ?_; rintro e w1 ⟨rfl, rfl⟩
    go_wp2
    go_ret
    exact ⟨rfl, rfl⟩
set_option maxHeartbeats 1000000 in
theorem or_any (u v : Int) (g : Nat) (w : World) (hu : w.cell? ⟨g, 0, none⟩ = some (.int .i64 u)) (hv : w.cell? ⟨g, 1, none⟩ = some (.int .i64 v)) :
    Calls Try.prog 29 #[.slice (some ⟨g, 0, none⟩) 2 2] w fun e w' => e = .returned (.int .i64 (if u = 0 then v else u)) ∧ w = w' := by
  obtain ⟨r, hr⟩ : ∃ r, Hid ((if u = 0 then v else u) = r) := ⟨_, Lib.hid rfl⟩
  rw [hr.out]
  go_enter Try.func29, Try.ntmps29
  go_wp2
  go_loop [5, 8] (fun _ i => ∃ k : Nat, i = .int .i64 k ∧ k ≤ 2 ∧ (1 ≤ k → Hid (u = 0)) ∧ (2 ≤ k → Hid (v = 0))) (fun _ i => 2 - (intOf i).toNat)
  case atStart => exact ⟨0, rfl, by omega, fun h => by omega, fun h => by omega⟩
  case round =>
    obtain ⟨k, rfl, hk, h0, h1⟩ := hrel
    rcases (by omega : k = 0 ∨ k = 1 ∨ k = 2) with rfl | rfl | rfl
    · clear h0 h1
      by_cases hz : u = 0
      · have hb : (u != 0) = false := by simpa using hz
        have HZ := Lib.hid hz
        clear hz
        go_wp2
        go_round
        case rel => exact ⟨1, by go_num, by omega, fun _ => HZ, fun h => by omega⟩
        case measure => simp [intOf]
      · have hb : (u != 0) = true := by simpa using hz
        have HE : Hid (u = r) := Lib.hid (by rw [← hr.out, if_neg hz])
        clear hz
        go_wp2
        go_ret
        exact ⟨by rw [← HE.out]; rfl, rfl⟩
    · have HZ := h0 (by omega)
      clear h0 h1
      by_cases hz : v = 0
      · have hb : (v != 0) = false := by simpa using hz
        have HV := Lib.hid hz
        clear hz
        go_wp2
        go_round
        case rel => exact ⟨2, by go_num, by omega, fun _ => HZ, fun _ => HV⟩
        case measure => simp [intOf]
      · have hb : (v != 0) = true := by simpa using hz
        have HE : Hid (v = r) := Lib.hid (by rw [← hr.out, if_pos HZ.out])
        clear hz
        go_wp2
        go_ret
        exact ⟨by rw [← HE.out]; rfl, rfl⟩
    · have HE : Hid (0 = r) := Lib.hid (by rw [← hr.out, if_pos (h0 (by omega)).out, (h1 (by omega)).out])
      clear h0 h1
      go_wp2
      go_ret
      exact ⟨by rw [← HE.out]; rfl, rfl⟩

end Go.Proofs.Yteeoccpnmibceaa.Sh
