/- The least of costs: what each call answers. -/
import Derived.Test.YtoldnphehocpaaaCost
import Derived.Test.YtoldnphehocpaaaDraws
namespace Go.Proofs.Ytoldnphehocpaaa.Cost
open Go.RowKit Go.Proofs.Ytoldnphehocpaaa.Kit
set_option linter.unusedVariables false
set_option linter.unusedSimpArgs false

abbrev CostR : Rep (Int × Int) := (Rep.int .i64).seq (Rep.int .i64)
theorem cost_at {w : World} {B : Nat} {A : Option Addr} {l : List (Int × Int)} (h : Row CostR w B A l) {i : Nat} {x : Int × Int} (hx : l[i]? = some x) :
    ∃ b o, A = some ⟨b, o, none⟩ ∧ b < B ∧ w.cell? ⟨b, o + i * 2, none⟩ = some (.int .i64 x.1) ∧ w.cell? ⟨b, o + i * 2 + 1, none⟩ = some (.int .i64 x.2) := by
  obtain ⟨b, o, cs, rfl, hb, ⟨c1, c2, rfl, ⟨rfl, _⟩, ⟨rfl, _⟩⟩, hc⟩ := h i x hx
  exact ⟨b, o, rfl, hb, hc 0 _ rfl, hc 1 _ rfl⟩

/-- The place of the least one of the first so many. -/
def least (l : List (Int × Int)) : Nat → Int
  | 0 => -1
  | k + 1 => if least l k < 0 ∨ lt (l.getD k (0, 0)).1 (l.getD k (0, 0)).2 (l.getD (least l k).toNat (0, 0)).1 (l.getD (least l k).toNat (0, 0)).2 = true then (k : Int) else least l k
theorem least_bd (l : List (Int × Int)) : ∀ k, (k = 0 ∧ least l k = -1) ∨ (0 ≤ least l k ∧ least l k < k)
  | 0 => .inl ⟨rfl, rfl⟩
  | k + 1 => by
    right
    unfold least
    rcases least_bd l k with ⟨rfl, h⟩ | ⟨h1, h2⟩
    · simp [h]
    · split <;> omega
theorem least_zero (l : List (Int × Int)) : least l 1 = 0 := by simp [least]
theorem least_step {l : List (Int × Int)} {k n : Nat} {x y : Int × Int} (hx : l[k]? = some x) (hn : least l k = n) (hy : l[n]? = some y) : least l (k + 1) = if lt x.1 x.2 y.1 y.2 = true then (k : Int) else n := by
  simp only [least, hn, List.getD_eq_getElem?_getD, hx, Int.toNat_natCast, hy, Option.getD_some]
  have : ¬ ((n : Int) < 0) := by omega
  simp only [this, false_or]

set_option maxHeartbeats 1000000 in
theorem least_any (A : Option Addr) (c : Nat) (l : List (Int × Int)) (w : World) (hl : Row CostR w w.heap.size A l) (hm : l.length ≤ 9223372036854775807) :
    Calls Try.prog 16 #[.slice A l.length c] w fun e w' => e = .returned (.int .i64 (least l l.length)) ∧ Below w.heap.size w w' := by
  go_enter Try.func16, Try.ntmps16
  go_wp2
  go_loopw [3, 8] (fun out i wr => ∃ k : Nat, k ≤ l.length ∧ i = .int .i64 k ∧ out = .int .i64 (least l k) ∧ Below w.heap.size w wr) (fun _ i _ => l.length - (intOf i).toNat)
  case atStart => exact ⟨0, Nat.zero_le _, rfl, rfl, Below.refl _ _⟩
  case round =>
    obtain ⟨k, hk, rfl, rfl, HB⟩ := hrel
    by_cases hlt : k < l.length
    · obtain ⟨x, hx⟩ := at_lt hlt
      obtain ⟨b, o, hA, hb, hc0, hc1⟩ := cost_at (hl.mono HB) hx
      subst hA
      rcases least_bd l k with ⟨hk0, h⟩ | ⟨h1, h2⟩
      · have HS : Hid (least l (k + 1) = k) := Lib.hid (by rw [hk0, least_zero]; rfl)
        rw [h]
        clear hx h hk0
        go_wp2
        go_quiet (fail)
        go_wp2
        go_roundw
        case rel => exact ⟨k + 1, by omega, by go_num, by rw [HS.out], by repeat (first | exact HB | apply below_alloc | apply below_drewN | apply below_drew)⟩
        case measure => simp [intOf]; omega
      · obtain ⟨n, hn⟩ := Int.eq_ofNat_of_zero_le h1
        rw [hn] at h1 h2 ⊢
        have hnl : n < l.length := by omega
        obtain ⟨y, hy⟩ := at_lt hnl
        obtain ⟨b', o', hA', _, hc2, hc3⟩ := cost_at (hl.mono HB) hy
        simp only [Option.some.injEq, Addr.mk.injEq, and_true] at hA'
        obtain ⟨rfl, rfl⟩ := hA'
        have HS := Lib.hid (least_step hx hn hy)
        clear hx hy hn
        have hnk : n < k := by omega
        cases hless : lt x.1 x.2 y.1 y.2
        all_goals
          go_wp2
          have HB1 := below_alloc HB (.cells #[.int .i64 x.1, .int .i64 x.2] 23)
          have e0 := new_cell wr #[.int .i64 x.1, .int .i64 x.2] 23 0 rfl
          have e1 := new_cell wr #[.int .i64 x.1, .int .i64 x.2] 23 1 rfl
          have e2 := old_cell (.cells #[.int .i64 x.1, .int .i64 x.2] 23) hc2
          have e3 := old_cell (.cells #[.int .i64 x.1, .int .i64 x.2] 23) hc3
          clear hc0 hc1 hc2 hc3
          generalize wr.alloc (.cells #[.int .i64 x.1, .int .i64 x.2] 23) = W at HB1 e0 e1 e2 e3 ⊢
          have HK : Hid (∀ w', Below W.heap.size W w' → Below W.heap.size W w' ∧ w'.cell? ⟨wr.heap.size, 0, none⟩ = some (.int .i64 x.1) ∧ w'.cell? ⟨wr.heap.size, 1, none⟩ = some (.int .i64 x.2) ∧ w'.cell? ⟨b, o + n * 2, none⟩ = some (.int .i64 y.1) ∧ w'.cell? ⟨b, o + n * 2 + 1, none⟩ = some (.int .i64 y.2)) :=
            Lib.hid fun w' hb => ⟨hb, later hb e0, later hb e1, later hb e2, later hb e3⟩
          go_region_held3 (fun w' => Below W.heap.size W w' ∧ w'.cell? ⟨wr.heap.size, 0, none⟩ = some (.int .i64 x.1) ∧ w'.cell? ⟨wr.heap.size, 1, none⟩ = some (.int .i64 x.2) ∧ w'.cell? ⟨b, o + n * 2, none⟩ = some (.int .i64 y.1) ∧ w'.cell? ⟨b, o + n * 2 + 1, none⟩ = some (.int .i64 y.2))
            (first | exact HK.out _ (below_drew (Below.refl _ _)) | exact HK.out _ (below_join ‹Below W.heap.size W _ ∧ _›.1 hb2))
            (first | (go_at_call 14; refine (less_any _ _ _ _ _).mono ?_; rintro e w2 ⟨rfl, hb2⟩))
          have HBW := below_join HB1 ‹Below W.heap.size W w2 ∧ _›.1
          clear HK e0 e1 e2 e3 HB1
          go_wp2
          go_roundw
          case rel => exact ⟨k + 1, by omega, by go_num, by rw [HS.out, hless]; rfl, HBW⟩
          case measure => simp [intOf]; omega
    · have : k = l.length := by omega
      subst this
      go_wp2
      go_ret
      exact ⟨rfl, HB⟩

/-! ### The plain law: the least one is among them, none is less, and none ahead is as little -/
abbrev at0 (l : List (Int × Int)) (i : Nat) : Int × Int := l.getD i (0, 0)
theorem at0_of {l : List (Int × Int)} {i : Nat} {x : Int × Int} (h : l[i]? = some x) : at0 l i = x := by simp [at0, List.getD_eq_getElem?_getD, h]
def ltp (x y : Int × Int) : Bool := lt x.1 x.2 y.1 y.2
theorem ltp_iff {x y : Int × Int} : ltp x y = true ↔ (x.1 < y.1 ∨ x.1 = y.1 ∧ x.2 < y.2) := by simp [ltp, lt]
theorem least_is (l : List (Int × Int)) : ∀ k, 0 < k → ∃ m : Nat, least l k = m ∧ m < k ∧ (∀ j, j < k → ltp (at0 l j) (at0 l m) = false) ∧ (∀ j, j < m → ltp (at0 l m) (at0 l j) = true)
  | 0, h => absurd h (by omega)
  | 1, _ => ⟨0, least_zero l, by omega, fun j hj => by
      obtain rfl : j = 0 := by omega
      rw [Bool.eq_false_iff, Ne, ltp_iff]; omega, fun j hj => by omega⟩
  | k + 2, _ => by
    obtain ⟨m, h1, h2, h3, h4⟩ := least_is l (k + 1) (by omega)
    have hs : least l (k + 2) = if least l (k + 1) < 0 ∨ ltp (at0 l (k + 1)) (at0 l (least l (k + 1)).toNat) = true then ((k + 1 : Nat) : Int) else least l (k + 1) := rfl
    rw [h1, Int.toNat_natCast] at hs
    cases hl : ltp (at0 l (k + 1)) (at0 l m) with
    | true =>
      refine ⟨k + 1, by rw [hs, hl]; simp, by omega, fun j hj => ?_, fun j hj => ?_⟩
      · rcases Nat.lt_or_ge j (k + 1) with h | h
        · have a := h3 j h
          rw [Bool.eq_false_iff, Ne, ltp_iff] at a ⊢
          rw [ltp_iff] at hl
          omega
        · obtain rfl : j = k + 1 := by omega
          rw [Bool.eq_false_iff, Ne, ltp_iff]; omega
      · have a := h3 j hj
        rw [Bool.eq_false_iff, Ne, ltp_iff] at a
        rw [ltp_iff] at hl ⊢
        omega
    | false =>
      refine ⟨m, by rw [hs, hl, if_neg (by rintro (h | h); omega; cases h)], by omega, fun j hj => ?_, h4⟩
      rcases Nat.lt_or_ge j (k + 1) with h | h
      · exact h3 j h
      · obtain rfl : j = k + 1 := by omega
        exact hl
/-- Is none of the first so many less? -/
def nls (l : List (Int × Int)) (i : Nat) : Nat → Bool
  | 0 => true
  | k + 1 => nls l i k && !ltp (at0 l k) (at0 l i)
theorem nls_iff (l : List (Int × Int)) (i : Nat) : ∀ k, nls l i k = true ↔ ∀ j, j < k → ltp (at0 l j) (at0 l i) = false
  | 0 => by simp [nls]
  | k + 1 => by
    simp only [nls, Bool.and_eq_true, Bool.not_eq_true', nls_iff l i k]
    constructor
    · rintro ⟨h1, h2⟩ j hj
      rcases Nat.lt_or_ge j k with h | h
      · exact h1 j h
      · obtain rfl : j = k := by omega
        exact h2
    · exact fun h => ⟨fun j hj => h j (by omega), h k (by omega)⟩
/-- The first of which none is less is the least one. -/
theorem nls_least (l : List (Int × Int)) (i n : Nat) (hi : i < n) : ∃ m : Nat, least l n = m ∧ m < n ∧ (i < m → nls l i n = false) ∧ (i = m → nls l i n = true) := by
  obtain ⟨m, h1, h2, h3, h4⟩ := least_is l n (by omega)
  refine ⟨m, h1, h2, fun h => ?_, fun h => ?_⟩
  · rw [Bool.eq_false_iff]
    intro hn
    have := (nls_iff l i n).1 hn m h2
    rw [h4 i h] at this
    cases this
  · subst h; exact (nls_iff l i n).2 h3

set_option maxHeartbeats 1000000 in
theorem refleast_any (A : Option Addr) (c : Nat) (l : List (Int × Int)) (w : World) (hl : Row CostR w w.heap.size A l) (hm : l.length ≤ 9223372036854775807) :
    Calls Try.prog 17 #[.slice A l.length c] w fun e w' => e = .returned (.int .i64 (least l l.length)) ∧ Below w.heap.size w w' := by
  go_enter Try.func17, Try.ntmps17
  go_wp2
  go_loopw [3] (fun i wr => ∃ k : Nat, k ≤ l.length ∧ i = .int .i64 k ∧ Hid ((l.length = 0 ∧ k = 0) ∨ (k : Int) ≤ least l l.length) ∧ Below w.heap.size w wr) (fun i _ => l.length - (intOf i).toNat)
  case atStart => exact ⟨0, Nat.zero_le _, rfl, Lib.hid (by rcases least_bd l l.length with ⟨h, _⟩ | ⟨h, _⟩; exact .inl ⟨h, rfl⟩; exact .inr h), Below.refl _ _⟩
  case round =>
    obtain ⟨i, hi, rfl, HI, HB⟩ := hrel
    by_cases hlt : i < l.length
    · obtain ⟨m, hm1, hm2, hm3, hm4⟩ := nls_least l i l.length hlt
      have him : i ≤ m := by have := HI.out; rw [hm1] at this; omega
      have HM := Lib.hid hm1
      have H3 := Lib.hid hm3
      have H4 := Lib.hid hm4
      clear HI hm1 hm3 hm4
      obtain ⟨x, hx⟩ := at_lt hlt
      obtain ⟨wo, rfl⟩ : ∃ wo : World, wo = wr := ⟨_, rfl⟩
      go_wp2
      go_loopw [4, 5] (fun b k wr => ∃ j : Nat, j ≤ l.length ∧ k = .int .i64 j ∧ b = .bool (nls l i j) ∧ Below w.heap.size w wr) (fun _ k _ => l.length - (intOf k).toNat)
      case atStart => exact ⟨0, Nat.zero_le _, rfl, rfl, HB⟩
      case round =>
        obtain ⟨j, hj, rfl, rfl, HB2⟩ := hrel
        by_cases hlt2 : j < l.length
        · obtain ⟨y, hy⟩ := at_lt hlt2
          obtain ⟨b, o, hA, hb, e0, e1⟩ := cost_at (hl.mono HB2) hx
          obtain ⟨b', o', hA', _, e2, e3⟩ := cost_at (hl.mono HB2) hy
          subst hA
          simp only [Option.some.injEq, Addr.mk.injEq, and_true] at hA'
          obtain ⟨rfl, rfl⟩ := hA'
          have HS : Hid (nls l i (j + 1) = (nls l i j && !lt y.1 y.2 x.1 x.2)) := Lib.hid (by show (nls l i j && !ltp (at0 l j) (at0 l i)) = _; rw [at0_of hx, at0_of hy]; rfl)
          clear hx hy
          go_wp2
          have HK : Hid (∀ w', Below wr.heap.size wr w' → Below wr.heap.size wr w' ∧ w'.cell? ⟨b, o + i * 2, none⟩ = some (.int .i64 x.1) ∧ w'.cell? ⟨b, o + i * 2 + 1, none⟩ = some (.int .i64 x.2) ∧ w'.cell? ⟨b, o + j * 2, none⟩ = some (.int .i64 y.1) ∧ w'.cell? ⟨b, o + j * 2 + 1, none⟩ = some (.int .i64 y.2)) :=
            Lib.hid fun w' hb => ⟨hb, later hb e0, later hb e1, later hb e2, later hb e3⟩
          go_region_held3 (fun w' => Below wr.heap.size wr w' ∧ w'.cell? ⟨b, o + i * 2, none⟩ = some (.int .i64 x.1) ∧ w'.cell? ⟨b, o + i * 2 + 1, none⟩ = some (.int .i64 x.2) ∧ w'.cell? ⟨b, o + j * 2, none⟩ = some (.int .i64 y.1) ∧ w'.cell? ⟨b, o + j * 2 + 1, none⟩ = some (.int .i64 y.2))
            (first | exact HK.out _ (below_drew (Below.refl _ _)) | exact HK.out _ (below_join ‹Below wr.heap.size wr _ ∧ _›.1 hb2))
            (first | (go_at_call 15; refine (refless_any _ _ _ _ _).mono ?_; rintro e w2 ⟨rfl, hb2⟩))
          have HBW := below_join HB2 ‹Below wr.heap.size wr w2 ∧ _›.1
          clear HK e0 e1 e2 e3
          cases hn : nls l i j
          all_goals
            have HS2 : Hid _ := HS.out.trans (by rw [hn])
            go_wp2
            go_roundw
            case rel => exact ⟨j + 1, by omega, by go_num, by rw [HS2.out]; try simp, HBW⟩
            case measure => simp [intOf]; omega
        · obtain rfl : j = l.length := by omega
          rcases Nat.lt_or_ge i m with h | h
          · rw [H3.out h]
            go_wp2
            go_roundw
            case rel => exact ⟨i + 1, by omega, by go_num, Lib.hid (.inr (by rw [HM.out]; omega)), HB2⟩
            case measure => simp [intOf]; omega
          · have e : i = m := by omega
            rw [H4.out e]
            have HE := Lib.hid e
            clear e
            go_wp2
            go_ret
            exact ⟨by rw [HM.out, ← HE.out]; rfl, HB2⟩
    · have hl0 : l.length = 0 := by
        rcases HI.out with h | h
        · exact h.1
        · rcases least_bd l l.length with h2 | h2 <;> omega
      have HL := Lib.hid hl0
      clear hl0
      go_wp2
      go_ret
      exact ⟨by rw [HL.out]; rfl, HB⟩

end Go.Proofs.Ytoldnphehocpaaa.Cost
