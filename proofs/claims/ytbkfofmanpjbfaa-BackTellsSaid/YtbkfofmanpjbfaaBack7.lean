/- Lists of lists of numbers compared; few rows. -/
import Derived.Test.YtbkfofmanpjbfaaBack6P
import Derived.Test.YtbkfofmanpjbfaaDraws
import Derived.BigQuiet
import Derived.Deep.RegionHeld3
namespace Go.Proofs.Ytbkfofmanpjbfaa.Bk
open Go.RowKit Go.Proofs.Ytbkfofmanpjbfaa.Kit Go.Proofs.Ytbkfofmanpjbfaa.Fo Go.Shelf
open Go.Proofs.YtbkfofmanpjbfaaW.PrintWords (Kd)
set_option linter.unusedVariables false
set_option linter.unusedSimpArgs false

theorem kI_at {w : World} {A : Option Addr} {n : Nat} {xs : List Int} (hC : kI.C w A n xs) {i : Nat} {x : Int} (hx : xs[i]? = some x) : ∃ b o, A = some ⟨b, o, none⟩ ∧ w.cell? ⟨b, o + i, none⟩ = some (.int .i64 x) := by
  obtain ⟨b, o, u, e, hc, hK⟩ := kC_at hC rfl hx
  have h : [u] = [Value.int .i64 x] := hK
  simp only [List.cons.injEq, and_true] at h
  subst h
  exact ⟨b, o, e, hc⟩
set_option maxHeartbeats 1000000 in
theorem same1_any (A A' : Option Addr) (c c' : Nat) (l l' : List Int) (w : World) (hx : kI.C w A l.length l) (hy : kI.C w A' l'.length l') (hl : l.length ≤ 1000000000) (hl' : l'.length ≤ 1000000000) :
    Calls Try.prog 25 #[.slice A l.length c, .slice A' l'.length c'] w fun e w' => e = .returned (.bool (decide (l = l'))) ∧ Below w.heap.size w w' := by
  obtain ⟨r, hr⟩ : ∃ r, Hid (decide (l = l') = r) := ⟨_, Lib.hid rfl⟩
  rw [hr.out]
  have HX := Lib.hid hx
  have HY := Lib.hid hy
  clear hx hy
  by_cases hlen : l.length = l'.length
  · have hb : ((l.length : Int) != (l'.length : Int)) = false := by simp; omega
    have hle : l.length ≤ l'.length := by omega
    have HLEN := Lib.hid hlen
    clear hlen
    go_enter Try.func25, Try.ntmps25
    go_wp2
    go_loopw [5] (fun i wr => ∃ k : Nat, k ≤ l.length ∧ i = .int .i64 k ∧ Hid (l.take k = l'.take k) ∧ ∃ q, wr = w.drewN q) (fun i _ => l.length - (intOf i).toNat)
    case atStart => exact ⟨0, by omega, rfl, Lib.hid (by simp), 0, rfl⟩
    case round =>
      obtain ⟨k, hk, rfl, HS, q, rfl⟩ := hrel
      by_cases hlt : k < l.length
      · have hlt' : k < l'.length := by omega
        obtain ⟨x, hxk⟩ := at_lt hlt
        obtain ⟨y, hyk⟩ := at_lt hlt'
        obtain ⟨b, o, hA, hc⟩ := kI_at HX.out hxk
        obtain ⟨b', o', hA', hc'⟩ := kI_at HY.out hyk
        subst hA; subst hA'
        by_cases he : x = y
        · have hn : (x != y) = false := by simp [he]
          have HN : Hid (l.take (k + 1) = l'.take (k + 1)) := Lib.hid (by
            obtain ⟨h1, h2⟩ := List.getElem?_eq_some_iff.1 hxk
            obtain ⟨h3, h4⟩ := List.getElem?_eq_some_iff.1 hyk
            rw [List.take_succ_eq_append_getElem h1, List.take_succ_eq_append_getElem h3, HS.out, h2, h4, he])
          clear he hxk hyk
          go_upto_region 6 with fail
          go_quiet (fail)
          go_wp2
          go_roundw
          case rel => exact ⟨k + 1, by omega, by go_num, HN, _, rfl⟩
          case measure => simp [intOf]; omega
        · have hn : (x != y) = true := by simpa using he
          have HE : Hid (false = r) := Lib.hid (by
            rw [← hr.out]
            symm
            apply decide_eq_false
            intro h
            rw [h, hyk] at hxk
            cases hxk
            exact he rfl)
          clear he hxk hyk
          go_upto_region 6 with fail
          go_quiet (fail)
          go_wp2
          go_ret
          exact ⟨ret_bool rfl HE.out, ⟨rfl, rfl, rfl, Nat.le_refl _, fun _ _ => rfl⟩⟩
      · have HE : Hid (true = r) := Lib.hid (by
          rw [← hr.out]
          symm
          apply decide_eq_true
          have h := HS.out
          rw [List.take_of_length_le (by omega), List.take_of_length_le (by have := HLEN.out; omega)] at h
          exact h)
        go_wp2
        go_ret
        exact ⟨ret_bool rfl HE.out, ⟨rfl, rfl, rfl, Nat.le_refl _, fun _ _ => rfl⟩⟩
  · have hb : ((l.length : Int) != (l'.length : Int)) = true := by simp; omega
    have HE : Hid (false = r) := Lib.hid (by
      rw [← hr.out]
      symm
      apply decide_eq_false
      intro h
      exact hlen (by rw [h]))
    clear hlen
    go_enter Try.func25, Try.ntmps25
    go_wp2
    go_ret
    exact ⟨ret_bool rfl HE.out, Below.refl _ _⟩

set_option maxHeartbeats 2000000 in
theorem same_any (A A' : Option Addr) (c c' : Nat) (l l' : List (List Int)) (w : World) (hx : kL.C w A l.length l) (hy : kL.C w A' l'.length l') (hl : l.length ≤ 1000000000) (hl' : l'.length ≤ 1000000000) (hi : ∀ p ∈ l, p.length ≤ 1000000000) (hi' : ∀ p ∈ l', p.length ≤ 1000000000) :
    Calls Try.prog 13 #[.slice A l.length c, .slice A' l'.length c'] w fun e w' => e = .returned (.bool (decide (l = l'))) ∧ Below w.heap.size w w' := by
  obtain ⟨r, hr⟩ : ∃ r, Hid (decide (l = l') = r) := ⟨_, Lib.hid rfl⟩
  rw [hr.out]
  have HX := Lib.hid hx
  have HY := Lib.hid hy
  have HI := Lib.hid hi
  have HI' := Lib.hid hi'
  clear hx hy hi hi'
  by_cases hlen : l.length = l'.length
  · have hb : ((l.length : Int) != (l'.length : Int)) = false := by simp; omega
    have hle : l.length ≤ l'.length := by omega
    have HLEN := Lib.hid hlen
    clear hlen
    go_enter Try.func13, Try.ntmps13
    go_wp2
    go_loopw [5] (fun i wr => ∃ k : Nat, k ≤ l.length ∧ i = .int .i64 k ∧ Hid (l.take k = l'.take k) ∧ Below w.heap.size w wr) (fun i _ => l.length - (intOf i).toNat)
    case atStart => exact ⟨0, by omega, rfl, Lib.hid (by simp), Below.refl _ _⟩
    case round =>
      obtain ⟨k, hk, rfl, HS, HB⟩ := hrel
      by_cases hlt : k < l.length
      · have hlt' : k < l'.length := by omega
        obtain ⟨x, hxk⟩ := at_lt hlt
        obtain ⟨y, hyk⟩ := at_lt hlt'
        obtain ⟨b, o, A1, c1, hA, hc, hx1, hC1⟩ := kL_at (Kd.C_below HX.out HB) hxk
        obtain ⟨b', o', A2, c2, hA', hc', hx2, hC2⟩ := kL_at (Kd.C_below HY.out HB) hyk
        subst hA; subst hA'
        have HC : Hid (∀ V, Below wr.heap.size wr V → Calls Try.prog 25 #[.slice A1 x.length c1, .slice A2 y.length c2] V fun e w' => e = .returned (.bool (decide (x = y))) ∧ Below V.heap.size V w') := Lib.hid fun V hb =>
          same1_any A1 A2 c1 c2 x y V (Kd.C_below hC1 hb) (Kd.C_below hC2 hb) (HI.out x (List.mem_of_getElem? hxk)) (HI'.out y (List.mem_of_getElem? hyk))
        clear hC1 hC2
        have HK : Hid (∀ w', Below wr.heap.size wr w' → Below wr.heap.size wr w' ∧ w'.cell? ⟨b, o + k, none⟩ = some (.slice A1 x.length c1) ∧ w'.cell? ⟨b', o' + k, none⟩ = some (.slice A2 y.length c2)) := Lib.hid fun w' hb => ⟨hb, later hb hc, later hb hc'⟩
        have HN : Hid (x = y → l.take (k + 1) = l'.take (k + 1)) := Lib.hid (fun he => by
          rw [take_one hxk, take_one hyk, HS.out, he])
        have HE : Hid (x ≠ y → false = r) := Lib.hid (fun he => by
          rw [← hr.out]
          symm
          apply decide_eq_false
          intro h
          rw [h, hyk] at hxk
          cases hxk
          exact he rfl)
        clear hxk hyk
        go_upto_region 6 with fail
        go_region_held3 (fun w' => Below wr.heap.size wr w' ∧ w'.cell? ⟨b, o + k, none⟩ = some (.slice A1 x.length c1) ∧ w'.cell? ⟨b', o' + k, none⟩ = some (.slice A2 y.length c2))
          (first | exact HK.out _ (below_drew (Below.refl _ _)) | exact HK.out _ (below_join ‹Below wr.heap.size wr _ ∧ _›.1 hb2))
          (first | (go_at_call 25; refine (HC.out _ ‹Below wr.heap.size wr _ ∧ _›.1).mono ?_; rintro e w2 ⟨rfl, hb2⟩))
        have HBW := below_join HB ‹Below wr.heap.size wr w2 ∧ _›.1
        clear HK hc hc' HC
        by_cases he : x = y
        · have hd : decide (x = y) = true := decide_eq_true he
          have HN2 := Lib.hid (HN.out he)
          rw [hd]
          clear he hd
          go_wp2
          go_roundw
          case rel => exact ⟨k + 1, by omega, by go_num, HN2, HBW⟩
          case measure => simp [intOf]; omega
        · have hd : decide (x = y) = false := decide_eq_false he
          have HE2 := Lib.hid (HE.out he)
          rw [hd]
          clear he hd
          go_wp2
          go_ret
          exact ⟨ret_bool rfl HE2.out, HBW⟩
      · have HE : Hid (true = r) := Lib.hid (by
          rw [← hr.out]
          symm
          apply decide_eq_true
          have h := HS.out
          rw [List.take_of_length_le (by omega), List.take_of_length_le (by have := HLEN.out; omega)] at h
          exact h)
        go_wp2
        go_ret
        exact ⟨ret_bool rfl HE.out, HB⟩
  · have hb : ((l.length : Int) != (l'.length : Int)) = true := by simp; omega
    have HE : Hid (false = r) := Lib.hid (by
      rw [← hr.out]
      symm
      apply decide_eq_false
      intro h
      exact hlen (by rw [h]))
    clear hlen
    go_enter Try.func13, Try.ntmps13
    go_wp2
    go_ret
    exact ⟨ret_bool rfl HE.out, Below.refl _ _⟩

/-! ### Few rows -/
/-- Rows one behind the other, of any length. -/
def RowsAt (w : World) (B : Nat) (Ar : Option Addr) (rows : List RowD) : Prop := ∀ (i : Nat) (r : RowD), rows[i]? = some r → ∃ b o A c, Ar = some ⟨b, o, none⟩ ∧
  (∀ (j : Nat) (v : Value), (rowCells r A c)[j]? = some v → w.cell? ⟨b, o + i * 5 + j, none⟩ = some v) ∧ Row placedR w B A r.items ∧ r.items.length ≤ c ∧ c ≤ 9223372036854775807
def fewR (rows : List RowD) : Bool := decide (rows.length ≤ 210) && rows.all fun r => decide (r.items.length ≤ 700)
theorem rows_in {w : World} {B : Nat} {Ar : Option Addr} {rows : List RowD} (h : RowsAt w B Ar rows) (hi : ∀ r ∈ rows, r.items.length ≤ 100000) : RowsIn w B Ar rows := fun i r hr => by
  obtain ⟨b, o, A, c, e, h1, h2, h3⟩ := h i r hr
  exact ⟨b, o, A, c, e, h1, h2, hi r (List.mem_of_getElem? hr)⟩
theorem few_parts {rows : List RowD} (h : fewR rows = true) : rows.length ≤ 210 ∧ ∀ r ∈ rows, r.items.length ≤ 700 := by
  unfold fewR at h
  simp only [Bool.and_eq_true, decide_eq_true_eq, List.all_eq_true] at h
  exact h
set_option maxHeartbeats 1000000 in
theorem few23_any (Ar : Option Addr) (cr : Nat) (rows : List RowD) (w : World) {B : Nat} (hR : RowsAt w B Ar rows) (hn : rows.length ≤ 9223372036854775807) :
    Calls Try.prog 8 #[.slice Ar rows.length cr] w fun e w' => e = .returned (.bool (fewR rows)) ∧ w = w' := by
  obtain ⟨res, hres⟩ : ∃ r, Hid (fewR rows = r) := ⟨_, Lib.hid rfl⟩
  rw [hres.out]
  have HR := Lib.hid hR
  clear hR
  by_cases hlen : rows.length ≤ 210
  · have F1 : ((rows.length : Int) ≤ 210) = True := eq_true (by omega)
    have F2 : ((210 : Int) < (rows.length : Int)) = False := eq_false (by omega)
    go_enter Try.func8, Try.ntmps8
    go_wp2
    go_loop [3] (fun i => ∃ k : Nat, k ≤ rows.length ∧ i = .int .i64 k ∧ Hid (∀ r ∈ rows.take k, r.items.length ≤ 700)) (fun i => rows.length - (intOf i).toNat)
    case atStart => exact ⟨0, by omega, rfl, Lib.hid (by simp)⟩
    case round =>
      obtain ⟨k, hk, rfl, HS⟩ := hrel
      by_cases hlt : k < rows.length
      · obtain ⟨x, hx⟩ := at_lt hlt
        obtain ⟨b, o, A, c, hA, hc, _, hc1, hc2⟩ := HR.out k x hx
        subst hA
        have k4 := hc 4 _ rfl
        clear hc
        by_cases he : x.items.length ≤ 700
        · have F3 : ((700 : Int) < (x.items.length : Int)) = False := eq_false (by omega)
          have HN : Hid (∀ r ∈ rows.take (k + 1), r.items.length ≤ 700) := Lib.hid (by
            rw [take_one hx]
            intro r hr
            rcases List.mem_append.1 hr with h | h
            · exact HS.out r h
            · rw [List.mem_singleton.1 h]; exact he)
          clear hx
          go_wp2
          go_round
          case rel => exact ⟨k + 1, by omega, by go_num, HN⟩
          case measure => simp [intOf]; omega
        · have F3 : ((700 : Int) < (x.items.length : Int)) = True := eq_true (by omega)
          have HE : Hid (false = res) := Lib.hid (by
            rw [← hres.out]
            symm
            rw [Bool.eq_false_iff]
            intro h
            exact he ((few_parts h).2 x (List.mem_of_getElem? hx)))
          clear hx
          go_wp2
          go_ret
          exact ⟨ret_bool rfl HE.out, rfl⟩
      · have HE : Hid (true = res) := Lib.hid (by
          rw [← hres.out]
          symm
          unfold fewR
          have h := HS.out
          rw [List.take_of_length_le (by omega)] at h
          simp only [Bool.and_eq_true, decide_eq_true_eq, List.all_eq_true]
          exact ⟨hlen, h⟩)
        go_wp2
        go_ret
        exact ⟨ret_bool rfl HE.out, rfl⟩
  · have F1 : ((210 : Int) < (rows.length : Int)) = True := eq_true (by omega)
    have HE : Hid (false = res) := Lib.hid (by
      rw [← hres.out]
      symm
      rw [Bool.eq_false_iff]
      intro h
      exact hlen (few_parts h).1)
    go_enter Try.func8, Try.ntmps8
    go_wp2
    go_ret
    exact ⟨ret_bool rfl HE.out, rfl⟩
end Go.Proofs.Ytbkfofmanpjbfaa.Bk
