/- Whether a row is as it has to be: what back.Words asks. -/
import Derived.Test.YtbkfofmanpjbfaaBack2
namespace Go.Proofs.Ytbkfofmanpjbfaa.Bk
open Go.RowKit Go.Proofs.Ytbkfofmanpjbfaa.Kit Go.Proofs.Ytbkfofmanpjbfaa.Fo Go.Shelf
set_option linter.unusedVariables false
set_option linter.unusedSimpArgs false

/-- Slices one behind the other: their heads. -/
def Heads (w : World) (A : Option Addr) (xs : List (List Int)) : Prop := ∀ (i : Nat) (x : List Int), xs[i]? = some x → ∃ b o A' c', A = some ⟨b, o, none⟩ ∧ w.cell? ⟨b, o + i, none⟩ = some (.slice A' x.length c')
theorem Heads.below {w W : World} {A : Option Addr} {xs : List (List Int)} (h : Heads w A xs) (hb : Below w.heap.size w W) : Heads W A xs := fun i x hx => by
  obtain ⟨b, o, A', c', e, hc⟩ := h i x hx
  exact ⟨b, o, A', c', e, later hb hc⟩
theorem empty_any (A : Option Addr) (c : Nat) (x : List Int) (hl : x.length ≤ 9223372036854775807) (w : World) :
    Calls Try.prog 20 #[.slice A x.length c] w fun e w' => e = .returned (.bool x.isEmpty) ∧ w = w' := by
  cases x with
  | nil =>
    go_enter Try.func20, Try.ntmps20
    go_wp2
    go_ret
    exact ⟨rfl, rfl⟩
  | cons y x =>
    have F1 : (((y :: x).length : Int) == 0) = false := by simp; omega
    have F2 : (((x.length : Int) + 1) == 0) = false := by simp; omega
    simp only [List.length_cons] at hl F1 ⊢
    have F3 : (((x.length + 1 : Nat) : Int) == 0) = false := F1
    go_enter Try.func20, Try.ntmps20
    go_wp2
    go_ret
    exact ⟨ret_bool rfl rfl, rfl⟩
def placeE : List (List Int) → Int → Int
  | [], _ => -1
  | x :: xs, k => if x.isEmpty then k else placeE xs (k + 1)
theorem placeE_any : ∀ (l : List (List Int)) (k : Int), 0 ≤ k → decide (0 ≤ placeE l k) = l.any (·.isEmpty)
  | [], k, h => by simp [placeE]
  | x :: xs, k, h => by
    unfold placeE
    cases hx : x.isEmpty with
    | true => simp [hx]; exact h
    | false => simp [hx]; have := placeE_any xs (k + 1) (by omega); simpa using this

set_option maxHeartbeats 1000000 in
theorem indexE_any (A : Option Addr) (c : Nat) (l : List (List Int)) (w : World) (hx : Heads w A l) (hl : l.length ≤ 9223372036854775807) (hs : ∀ x ∈ l, x.length ≤ 9223372036854775807) :
    Calls Try.prog 29 #[.slice A l.length c, .func (.func 20) #[] #[]] w fun e w' => e = .returned (.int .i64 (placeE l 0)) ∧ Below w.heap.size w w' := by
  have eg : ∀ args w, (callFunc 20 args).run Try.prog w = .ok (.enter 20 args) w := enters_of Try.func20 (by kernel_rfl) rfl
  obtain ⟨r, hr⟩ : ∃ r, Hid (placeE l 0 = r) := ⟨_, Lib.hid rfl⟩
  rw [hr.out]
  have HH := Lib.hid hx
  have HSz := Lib.hid hs
  clear hx hs
  go_enter Try.func29, Try.ntmps29
  go_wp2
  go_loopw [5, 8] (fun _ i wr => ∃ k : Nat, k ≤ l.length ∧ i = .int .i64 k ∧ Hid (placeE l 0 = placeE (l.drop k) k) ∧ Below w.heap.size w wr) (fun _ i _ => l.length - (intOf i).toNat)
  case atStart => exact ⟨0, by omega, rfl, Lib.hid (by simp), Below.refl _ _⟩
  case round =>
    rename World => wr
    obtain ⟨k, hk, rfl, HS, HB⟩ := hrel
    by_cases hlt : k < l.length
    · obtain ⟨x, hxk⟩ := at_lt hlt
      obtain ⟨b, o, A', c', rfl, hc⟩ := (HH.out.below HB) k x hxk
      have HD := Lib.hid (drop_cons hxk)
      have hxl := HSz.out x (List.mem_of_getElem? hxk)
      have HC : Hid (∀ w, _) := Lib.hid (empty_any A' c' x hxl)
      clear hxk
      generalize hn : x.length = n at *
      cases hq : x.isEmpty with
      | true =>
        rw [hq] at HC
        have HE := Lib.hid (show placeE l 0 = k by rw [HS.out, HD.out]; simp [placeE, hq])
        clear hq hn
        go_wp2_with (go_at_fn 20; with_reducible refine (HC.out _).mono ?_; rintro e w' ⟨rfl, rfl⟩)
        go_ret
        exact ⟨by rw [← hr.out, HE.out]; rfl, HB⟩
      | false =>
        rw [hq] at HC
        have HE := Lib.hid (show placeE l 0 = placeE (l.drop (k + 1)) ((k + 1 : Nat) : Int) by rw [HS.out, HD.out]; simp [placeE, hq])
        clear hq hn
        go_wp2_with (go_at_fn 20; with_reducible refine (HC.out _).mono ?_; rintro e w' ⟨rfl, rfl⟩)
        go_roundw
        case rel => exact ⟨k + 1, by omega, by go_num, HE, HB⟩
        case measure => simp [intOf]; omega
    · have HE := Lib.hid (show placeE l 0 = -1 by rw [HS.out, List.drop_eq_nil_of_le (by omega)]; rfl)
      go_wp2
      go_ret
      exact ⟨by rw [← hr.out, HE.out]; rfl, HB⟩
set_option maxHeartbeats 1000000 in
theorem containsE_any (A : Option Addr) (c : Nat) (l : List (List Int)) (w : World) (hx : Heads w A l) (hl : l.length ≤ 9223372036854775807) (hs : ∀ x ∈ l, x.length ≤ 9223372036854775807) :
    Calls Try.prog 19 #[.slice A l.length c, .func (.func 20) #[] #[]] w fun e w' => e = .returned (.bool (l.any (·.isEmpty))) ∧ Below w.heap.size w w' := by
  have H := Lib.hid (indexE_any A c l w hx hl hs)
  have HE := Lib.hid (placeE_any l 0 (by omega))
  clear hx hl hs
  generalize placeE l 0 = r at *
  obtain ⟨q, hq⟩ : ∃ q, Hid ((l.any (·.isEmpty)) = q) := ⟨_, Lib.hid rfl⟩
  rw [hq.out]
  go_enter Try.func19, Try.ntmps19
  go_wp2_with fail
  refine H.out.mono ?_; rintro e w' ⟨rfl, hb⟩
  go_wp2
  go_ret
  exact ⟨ret_bool rfl (by rw [← hq.out, ← HE.out]), hb⟩

/-- Whether a row ends as its place wants it. -/
theorem ended_any (i : Nat) (m : Nat) (d : RowD) (A Ar : Option Addr) (c cr g : Nat) (w : World) (hg : Box w g #[.slice Ar m cr] 27) (hi : i < m) (hm : m ≤ 100000) :
    Calls Try.prog 16 #[.int .i64 i, rowV d A c, .pointer (some ⟨g, 0, none⟩)] w fun e w' => e = .returned (.bool ((d.kind == 5) == decide (i + 1 = m))) ∧ Below w.heap.size w w' := by
  have hb1 := hg.alloc (.cells (rowCells d A c) 42)
  have k0 := hb1.cell 0 (v := .slice Ar m cr) rfl
  have G0 : ((i : Int) == (m : Int) - 1) = decide (i + 1 = m) := by
    rw [Bool.eq_iff_iff, beq_iff_eq, decide_eq_true_eq]; omega
  generalize decide (i + 1 = m) = q at *
  clear hg hb1
  generalize hq2 : (d.kind == 5) = q2 at *
  cases q2 <;> cases q
  all_goals
    go_enter Try.func16, Try.ntmps16
    go_wp2
    go_ret
    exact ⟨ret_bool rfl rfl, (Below.refl w.heap.size w).alloc (Nat.le_refl _) _⟩
end Go.Proofs.Ytbkfofmanpjbfaa.Bk
