/- Slices of slices: grown, put one behind the other. -/
import Derived.Test.YtbkfofmanpjbfaaBack3
import Derived.Test.YtbkfofmanpjbfaaWZeros
namespace Go.Proofs.Ytbkfofmanpjbfaa.Bk
open Go.RowKit Go.Proofs.Ytbkfofmanpjbfaa.Kit Go.Proofs.Ytbkfofmanpjbfaa.Fo
open Go.Proofs.YtbkfofmanpjbfaaW.PrintWords (Kd)
set_option linter.unusedVariables false
set_option linter.unusedSimpArgs false

abbrev kI : Kd Int := Kd.int .i64
abbrev kL : Kd (List Int) := Kd.slice 3 (Kd.int .i64)
abbrev kM : Kd (List (List Int)) := Kd.slice 23 (Kd.slice 3 (Kd.int .i64))
def anyK : Nat → Prop := fun _ => True
/-- An element of one cell, where it lies. -/
theorem kC_at {α : Type} {d : Kd α} {w : World} {A : Option Addr} {n : Nat} {xs : List α} (hC : d.C w A n xs) (hs : d.sz = 1) {i : Nat} {x : α} (hx : xs[i]? = some x) :
    ∃ b o u, A = some ⟨b, o, none⟩ ∧ w.cell? ⟨b, o + i, none⟩ = some u ∧ d.K w x [u] := by
  have hn : xs.length = n := hC.1
  have hi : i < xs.length := (List.getElem?_eq_some_iff.1 hx).1
  have hg : xs.getD i x = x := by rw [List.getD_eq_getElem?_getD, hx]; rfl
  obtain ⟨ad, c, rfl, hcl, hK, hc⟩ := Kd.C_get hC x (i : Int) (by omega) (by omega)
  rw [Int.toNat_natCast, hg] at hK
  obtain ⟨ad', c0, e0, hcl0, _, hc0⟩ := Kd.C_get hC x (0 : Int) (by omega) (by omega)
  cases e0
  rw [hs] at hcl hcl0
  obtain ⟨u, rfl⟩ : ∃ u, c = [u] := List.length_eq_one_iff.1 hcl
  obtain ⟨u0, rfl⟩ : ∃ u, c0 = [u] := List.length_eq_one_iff.1 hcl0
  have h0 := hc0 0 u0 rfl
  have e1 : ad.add ((0 : Int).toNat * d.sz + 0) = ad := by simp [Addr.add]
  rw [e1] at h0
  have hsp := World.cell?_spot h0
  have h1 := hc 0 u rfl
  rw [Int.toNat_natCast, hs, Nat.mul_one, Nat.add_zero] at h1
  refine ⟨ad.block, ad.off, u, ?_, ?_, hK⟩
  · cases ad; simp_all
  · rw [← h1, add_spot (h1)]
theorem kL_open {w : World} {x : List Int} {u : Value} (h : kL.K w x [u]) : ∃ A c, u = .slice A x.length c ∧ x.length ≤ c ∧ kI.C w A x.length x := by
  obtain ⟨A, c, e, h1, h2⟩ := h
  simp only [List.cons.injEq, and_true] at e
  exact ⟨A, c, e, h1, h2⟩
theorem kL_at {w : World} {A : Option Addr} {n : Nat} {xs : List (List Int)} (hC : kL.C w A n xs) {i : Nat} {x : List Int} (hx : xs[i]? = some x) :
    ∃ b o A' c', A = some ⟨b, o, none⟩ ∧ w.cell? ⟨b, o + i, none⟩ = some (.slice A' x.length c') ∧ x.length ≤ c' ∧ kI.C w A' x.length x := by
  obtain ⟨b, o, u, e, hc, hK⟩ := kC_at hC rfl hx
  obtain ⟨A', c', rfl, h1, h2⟩ := kL_open hK
  exact ⟨b, o, A', c', e, hc, h1, h2⟩
theorem heads_of {w : World} {A : Option Addr} {n : Nat} {xs : List (List Int)} (hC : kL.C w A n xs) : Heads w A xs := fun i x hx => by
  obtain ⟨b, o, A', c', e, hc, _⟩ := kL_at hC hx
  exact ⟨b, o, A', c', e, hc⟩
theorem info_i (P : Program) : True := trivial

set_option maxHeartbeats 1000000 in
theorem grow_any (n : Nat) (hn : n ≤ 400000000) (w : World) :
    Calls Try.prog 41 #[.slice none 0 0, .int .i64 n] w fun e w' => ∃ v, e = .returned v ∧ kI.R 3 w' w.heap.size anyK v [] ∧ Below w.heap.size w w' := by
  rcases Nat.eq_zero_or_pos n with rfl | hp
  · go_enter Try.func41, Try.ntmps41
    go_wp2
    go_ret
    exact ⟨_, rfl, Kd.R_nil _ _ _ _ _, Below.refl _ _⟩
  · go_enter Try.func41, Try.ntmps41
    go_wp2_with (at_builtin
                 refine Kd.R_append_zeros kI (w0 := w) w.heap.size rfl (.tmp 20) (.tmp 21) _ _ 3 (.int .i64 0) 8 rfl Try.underlying23 Try.underlying3 info_i64 rfl (by decide) (by decide) _ [] 0 n anyK rfl rfl rfl (fun _ _ => trivial) (Kd.R_nil _ _ _ _ _) (by omega) (Below.refl _ _) (Nat.le_refl _) (by simp; omega) ?_
                 intro v1 w1 hR hb hg hat
                 obtain ⟨g, cap, rfl, hg1, hg2, _⟩ := Kd.R_form hR (by simp; omega)
                 have hR0 := Kd.R_take (m := 0) hR (by omega)
                 simp only [List.nil_append, List.length_replicate, Int.toNat_natCast, List.take_zero] at hR hR0 ⊢
                 have HR := Lib.hid hR0
                 clear hR hR0 hg hat)
    go_ret
    exact ⟨_, rfl, HR.out, hb⟩

def sumL (xs : List (List Int)) : Nat := (xs.map List.length).sum
theorem sumL_take {xs : List (List Int)} {i : Nat} {x : List Int} (h : xs[i]? = some x) : sumL (xs.take (i + 1)) = sumL (xs.take i) + x.length := by
  rw [take_one h]; simp [sumL]
theorem sumL_le (xs : List (List Int)) (i : Nat) : sumL (xs.take i) ≤ sumL xs := by
  have : sumL xs = sumL (xs.take i) + sumL (xs.drop i) := by
    unfold sumL
    rw [List.map_take, List.map_drop, ← List.sum_append, List.take_append_drop]
  omega
theorem flat_len' (xs : List (List Int)) : xs.flatten.length = sumL xs := by simp [sumL, List.length_flatten]
set_option maxHeartbeats 2000000 in
theorem concat_any (A : Option Addr) (c : Nat) (xs : List (List Int)) (w : World) (hC : kL.C w A xs.length xs) (hn : xs.length ≤ 1000) (hs : sumL xs ≤ 400000000) :
    Calls Try.prog 31 #[.slice A xs.length c] w fun e w' => ∃ v, e = .returned v ∧ kI.R 3 w' w.heap.size anyK v xs.flatten ∧ Below w.heap.size w w' := by
  have HC := Lib.hid hC
  clear hC
  go_enter Try.func31, Try.ntmps31
  go_wp2
  go_loop [3, 11] (fun s i => ∃ k : Nat, i = .int .i64 k ∧ k ≤ xs.length ∧ s = .int .i64 (sumL (xs.take k) : Nat)) (fun _ i => xs.length - (intOf i).toNat)
  case atStart => exact ⟨0, rfl, by omega, rfl⟩
  case round =>
    obtain ⟨k, rfl, hk, rfl⟩ := hrel
    by_cases hlt : k < xs.length
    · obtain ⟨x, hx⟩ := at_lt hlt
      obtain ⟨b, o, A', c', rfl, hc, _, _⟩ := kL_at HC.out hx
      have h1 := sumL_take hx
      have h2 := sumL_le xs (k + 1)
      have HE := Lib.hid h1
      generalize sumL (xs.take k) = s at *
      generalize x.length = m at *
      have h3 : s + m ≤ 400000000 := by omega
      have F1 : ((s : Int) + m < 0) = False := eq_false (by omega)
      have F2 : (((s + m : Nat) : Int) < 0) = False := eq_false (by omega)
      clear hx h1 h2
      go_wp2
      go_round
      case rel => exact ⟨k + 1, by go_num, by omega, by rw [HE.out]; go_num⟩
      case measure => simp [intOf]; omega
    · have hke : xs.take k = xs := List.take_of_length_le (by omega)
      rw [hke]
      have HG : Hid (∀ w, _) := Lib.hid (grow_any (sumL xs) hs)
      clear hke
      go_wp2_with fail
      with_reducible refine (HG.out _).mono ?_; rintro e w1 ⟨v, rfl, hR, hb⟩
      have HR := Lib.hid hR
      clear hR HG
      go_wp2_with fail
      go_loopw [6, 27] (fun v i wr => ∃ k : Nat, i = .int .i64 k ∧ k ≤ xs.length ∧ kI.R 3 wr w.heap.size anyK v (xs.take k).flatten ∧ Below w.heap.size w wr) (fun _ i _ => xs.length - (intOf i).toNat)
      case atStart => exact ⟨0, rfl, by omega, HR.out, hb⟩
      case round =>
        clear HR hb
        rename World => wr
        obtain ⟨k2, rfl, hk2, hR, hb⟩ := hrel
        have hsz := hb.size
        by_cases hlt2 : k2 < xs.length
        · obtain ⟨x, hx⟩ := at_lt hlt2
          obtain ⟨b, o, A', c', rfl, hc, _, hCx⟩ := kL_at (Kd.C_below HC.out hb) hx
          have HF : Hid ((xs.take (k2 + 1)).flatten = (xs.take k2).flatten ++ x) := Lib.hid (by rw [take_one hx]; simp)
          have h1 := sumL_take hx
          have h2 := sumL_le xs (k2 + 1)
          have h3 : (xs.take k2).flatten.length = sumL (xs.take k2) := flat_len' _
          have hCx2 := Lib.hid hCx
          have HR := Lib.hid hR
          generalize (xs.take k2).flatten = T at *
          have hTl : T.length + x.length ≤ 400000000 := by omega
          clear hx hR hCx h1 h2 h3
          go_wp2_with (at_builtin
                       refine Kd.R_append_rows kI (Rr := kI.K wr) (w0 := w) w.heap.size rfl (.tmp 31) (.tmp 32) _ 3 (.int .i64 0) 8 rfl Try.underlying23 info_i64 rfl (by decide) (by decide) _ T x A' x.length c' anyK (fun _ => False) rfl rfl HR.out hCx2.out (fun _ _ h => h) (fun _ h => h.elim) (fun _ _ => trivial) hb hsz (by omega) ?_
                       intro v3 w3 hR3 hb3 hg3 hat3
                       have HR3 := Lib.hid hR3
                       clear hR3 hg3 hat3)
          go_roundw
          case rel => exact ⟨k2 + 1, by go_num, by omega, by rw [HF.out]; exact HR3.out, hb3⟩
          case measure => simp [intOf]; omega
        · have hke : xs.take k2 = xs := List.take_of_length_le (by omega)
          rw [hke] at hR
          have HR := Lib.hid hR
          clear hR hke
          go_wp2_with fail
          go_ret
          exact ⟨_, rfl, HR.out, hb⟩
end Go.Proofs.Ytbkfofmanpjbfaa.Bk
