/- Whether pieces may be (fit.may). -/
import Derived.Test.YtndpdbofoojkhaaFit4
namespace Go.Proofs.Ytndpdbofoojkhaa.Ft
open Go.RowKit Go.Proofs.Ytndpdbofoojkhaa.Kit Go.Proofs.Ytndpdbofoojkhaa.Fo
set_option linter.unusedVariables false
set_option linter.unusedSimpArgs false

/-- Slices one behind the other: their heads. -/
def Heads (w : World) (A : Option Addr) (xs : List (List Int)) : Prop := ∀ (i : Nat) (x : List Int), xs[i]? = some x → ∃ b o A' c', A = some ⟨b, o, none⟩ ∧ b < w.heap.size ∧ w.cell? ⟨b, o + i, none⟩ = some (.slice A' x.length c')
theorem Heads.below {w W : World} {A : Option Addr} {xs : List (List Int)} (h : Heads w A xs) (hb : Below w.heap.size w W) : Heads W A xs := fun i x hx => by
  obtain ⟨b, o, A', c', e, hl, hc⟩ := h i x hx
  exact ⟨b, o, A', c', e, Nat.lt_of_lt_of_le hl hb.size, later hb hc⟩
theorem heads_row {w : World} {B : Nat} {A : Option Addr} {xs : List (List Int)} (hB : B ≤ w.heap.size) (h : Row (Rep.int .i64).slice w B A xs) : Heads w A xs := fun i x hx => by
  obtain ⟨b, o, cs, rfl, hb, ⟨A', c', rfl, h1, h2, h3⟩, hc⟩ := h i x hx
  have := hc 0 _ rfl
  rw [show (Rep.int .i64).slice.n = 1 from rfl, Nat.mul_one, Nat.add_zero] at this
  exact ⟨b, o, A', c', rfl, by omega, this⟩
def placeE : List (List Int) → Int → Int
  | [], _ => -1
  | x :: xs, k => if x.isEmpty then k else placeE xs (k + 1)
theorem placeE_any : ∀ (l : List (List Int)) (k : Int), 0 ≤ k → decide (0 ≤ placeE l k) = l.any (·.isEmpty)
  | [], k, h => by simp [placeE]
  | x :: xs, k, h => by
    unfold placeE
    cases hx : x.isEmpty with
    | true => simp [hx]; exact h
    | false => simp [hx]; have := placeE_any xs (k + 1) (by omega); simpa using this
theorem empty_eq (x : List Int) : ((x.length : Int) == 0) = x.isEmpty := by cases x with
  | nil => rfl
  | cons y x => simp; omega

set_option maxHeartbeats 1000000 in
theorem indexE_any (A : Option Addr) (c : Nat) (l : List (List Int)) (w : World) (hx : Heads w A l) (hl : l.length ≤ 9223372036854775807) :
    Calls Try.prog 65 #[.slice A l.length c, .func (.func 44) #[] #[]] w fun e w' => e = .returned (.int .i64 (placeE l 0)) ∧ Below w.heap.size w w' := by
  have eg : ∀ args w, (callFunc 44 args).run Try.prog w = .ok (.enter 44 args) w := enters_of Try.func44 (by kernel_rfl) rfl
  obtain ⟨r, hr⟩ : ∃ r, Hid (placeE l 0 = r) := ⟨_, Lib.hid rfl⟩
  rw [hr.out]
  have HH := Lib.hid hx
  clear hx
  go_enter Try.func65, Try.ntmps65
  go_wp2
  go_loopw [5, 8] (fun _ i wr => ∃ k : Nat, k ≤ l.length ∧ i = .int .i64 k ∧ Hid (placeE l 0 = placeE (l.drop k) k) ∧ Below w.heap.size w wr) (fun _ i _ => l.length - (intOf i).toNat)
  case atStart => exact ⟨0, by omega, rfl, Lib.hid (by simp), Below.refl _ _⟩
  case round =>
    rename World => wr
    obtain ⟨k, hk, rfl, HS, HB⟩ := hrel
    by_cases hlt : k < l.length
    · obtain ⟨x, hxk⟩ := at_lt hlt
      obtain ⟨b, o, A', c', rfl, _, hc⟩ := (HH.out.below HB) k x hxk
      have HD := Lib.hid (drop_cons hxk)
      have HC : Hid (∀ w, Calls Try.prog 44 #[.slice A' x.length c'] w fun e w' => e = .returned (.bool x.isEmpty) ∧ w = w') := Lib.hid fun w => by
        have := none_any A' x.length c' w
        rw [empty_eq] at this
        exact this
      clear hxk
      generalize hn : x.length = n at *
      cases hq : x.isEmpty with
      | true =>
        rw [hq] at HC
        have HE := Lib.hid (show placeE l 0 = k by rw [HS.out, HD.out]; simp [placeE, hq])
        clear hq hn
        go_wp2_with (go_at_fn 44; with_reducible refine (HC.out _).mono ?_; rintro e w' ⟨rfl, rfl⟩)
        go_ret
        exact ⟨by rw [← hr.out, HE.out]; rfl, HB⟩
      | false =>
        rw [hq] at HC
        have HE := Lib.hid (show placeE l 0 = placeE (l.drop (k + 1)) ((k + 1 : Nat) : Int) by rw [HS.out, HD.out]; simp [placeE, hq])
        clear hq hn
        go_wp2_with (go_at_fn 44; with_reducible refine (HC.out _).mono ?_; rintro e w' ⟨rfl, rfl⟩)
        go_roundw
        case rel => exact ⟨k + 1, by omega, by go_num, HE, HB⟩
        case measure => simp [intOf]; omega
    · have HE := Lib.hid (show placeE l 0 = -1 by rw [HS.out, List.drop_eq_nil_of_le (by omega)]; rfl)
      go_wp2
      go_ret
      exact ⟨by rw [← hr.out, HE.out]; rfl, HB⟩
set_option maxHeartbeats 1000000 in
theorem containsE_any (A : Option Addr) (c : Nat) (l : List (List Int)) (w : World) (hx : Heads w A l) (hl : l.length ≤ 9223372036854775807) :
    Calls Try.prog 45 #[.slice A l.length c, .func (.func 44) #[] #[]] w fun e w' => e = .returned (.bool (l.any (·.isEmpty))) ∧ Below w.heap.size w w' := by
  have H := Lib.hid (indexE_any A c l w hx hl)
  have HE := Lib.hid (placeE_any l 0 (by omega))
  clear hx hl
  generalize placeE l 0 = r at *
  obtain ⟨q, hq⟩ : ∃ q, Hid ((l.any (·.isEmpty)) = q) := ⟨_, Lib.hid rfl⟩
  rw [hq.out]
  go_enter Try.func45, Try.ntmps45
  go_wp2_with fail
  refine H.out.mono ?_; rintro e w' ⟨rfl, hb⟩
  go_wp2
  go_ret
  exact ⟨ret_bool rfl (by rw [← hq.out, ← HE.out]), hb⟩

/-- How many codes pieces have; whether they may be. -/
def sumP (L : List (List Int)) : Nat := (L.map List.length).sum
def mayP (L : List (List Int)) : Bool := decide (1 ≤ L.length) && decide (L.length ≤ 100) && decide (sumP L ≤ 401) && !(L.any (·.isEmpty))
theorem sumP_le (m : Nat) : ∀ L : List (List Int), (∀ x ∈ L, x.length ≤ m) → sumP L ≤ L.length * m
  | [], _ => by simp [sumP]
  | x :: L, h => by
    have h1 := h x (by simp)
    have h2 := sumP_le m L fun y hy => h y (by simp [hy])
    simp only [sumP, List.map_cons, List.sum_cons, List.length_cons] at h2 ⊢
    rw [Nat.add_mul]; omega
theorem sumP_snoc {L : List (List Int)} {k : Nat} {x : List Int} (hx : L[k]? = some x) : sumP (L.take (k + 1)) = sumP (L.take k) + x.length := by
  obtain ⟨hk, rfl⟩ := List.getElem?_eq_some_iff.1 hx
  rw [List.take_succ_eq_append_getElem hk, sumP, sumP, List.map_append, List.sum_append]
  simp
theorem sumP_take (L : List (List Int)) (k : Nat) : sumP (L.take k) ≤ sumP L := by
  have : sumP L = sumP (L.take k) + sumP (L.drop k) := by
    conv => lhs; rw [← List.take_append_drop k L]
    rw [sumP, sumP, sumP, List.map_append, List.sum_append]
  omega
set_option maxHeartbeats 1000000 in
theorem may_any (A : Option Addr) (c : Nat) (L : List (List Int)) (w : World) (hx : Heads w A L) (hl : L.length ≤ 1000) (hs : ∀ x ∈ L, x.length ≤ 1000) :
    Calls Try.prog 22 #[.slice A L.length c] w fun e w' => e = .returned (.bool (mayP L)) ∧ Below w.heap.size w w' := by
  have HC := Lib.hid (containsE_any A c L w hx (by omega))
  have HH := Lib.hid hx
  have HSz := Lib.hid hs
  have HT := Lib.hid (sumP_le 1000 L hs)
  clear hx hs
  obtain ⟨q, hq⟩ : ∃ q, Hid (mayP L = q) := ⟨_, Lib.hid rfl⟩
  rw [hq.out]
  go_enter Try.func22, Try.ntmps22
  go_wp2_with fail
  go_loopw [3, 9] (fun s i wr => ∃ k : Nat, k ≤ L.length ∧ s = .int .i64 (sumP (L.take k) : Nat) ∧ i = .int .i64 (k : Int) ∧ w = wr) (fun _ i _ => L.length - (intOf i).toNat)
  case atStart => exact ⟨0, by omega, rfl, rfl, rfl⟩
  case round =>
    rename World => wr
    obtain ⟨k, hk, rfl, rfl, rfl⟩ := hrel
    by_cases hlt : k < L.length
    · obtain ⟨x, hxk⟩ := at_lt hlt
      obtain ⟨b, o, A', c', rfl, _, hc⟩ := HH.out k x hxk
      have HN := Lib.hid (sumP_snoc hxk)
      have h1 := sumP_take L k
      have h2 := HT.out
      have h3 := HSz.out x (List.mem_of_getElem? hxk)
      have h4 : sumP (L.take k) ≤ 1000000 := by omega
      generalize sumP (L.take k) = s at *
      clear h1 h2 hxk
      go_wp2
      go_roundw
      case rel => exact ⟨k + 1, by omega, by rw [HN.out]; go_num, by go_num, trivial⟩
      case measure => simp [intOf]; omega
    · have HN : Hid (sumP (L.take k) = sumP L) := Lib.hid (by rw [List.take_of_length_le (by omega)])
      have h2 := HT.out
      have h4 : sumP L ≤ 1000000 := by omega
      rw [HN.out]
      have HQ : Hid (q = (decide (1 ≤ (L.length : Int)) && decide ((L.length : Int) ≤ 100) && decide ((sumP L : Int) ≤ 401) && !(L.any (·.isEmpty)))) := Lib.hid (by
        rw [← hq.out, mayP]
        have e1 : decide (1 ≤ L.length) = decide (1 ≤ (L.length : Int)) := decide_eq_decide.2 (by omega)
        have e2 : decide (L.length ≤ 100) = decide ((L.length : Int) ≤ 100) := decide_eq_decide.2 (by omega)
        have e3 : decide (sumP L ≤ 401) = decide ((sumP L : Int) ≤ 401) := decide_eq_decide.2 (by omega)
        rw [e1, e2, e3])
      clear h2
      generalize sumP L = s at *
      generalize (L.any (·.isEmpty)) = z at *
      by_cases g1 : 1 ≤ (L.length : Int)
      · rw [decide_eq_true g1] at HQ
        by_cases g2 : (L.length : Int) ≤ 100
        · rw [decide_eq_true g2] at HQ
          by_cases g3 : (s : Int) ≤ 401
          · rw [decide_eq_true g3] at HQ
            go_wp2_with fail
            with_reducible refine HC.out.mono ?_
            rintro e w' ⟨rfl, hb⟩
            go_wp2_with fail
            go_ret
            exact ⟨ret_bool rfl (by rw [HQ.out]; simp), hb⟩
          · rw [decide_eq_false g3] at HQ
            clear HC
            go_wp2_with fail
            go_ret
            exact ⟨ret_bool rfl (by rw [HQ.out]; simp), Below.refl _ _⟩
        · rw [decide_eq_false g2] at HQ
          clear HC
          go_wp2_with fail
          go_ret
          exact ⟨ret_bool rfl (by rw [HQ.out]; simp), Below.refl _ _⟩
      · rw [decide_eq_false g1] at HQ
        clear HC
        go_wp2_with fail
        go_ret
        exact ⟨ret_bool rfl (by rw [HQ.out]; simp), Below.refl _ _⟩
end Go.Proofs.Ytndpdbofoojkhaa.Ft
