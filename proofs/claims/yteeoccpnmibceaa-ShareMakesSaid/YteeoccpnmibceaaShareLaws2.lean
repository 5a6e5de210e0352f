/- The statement ShareMakes. -/
import Derived.Test.YteeoccpnmibceaaShareLaws1
import Derived.BigQuiet
namespace Go.Proofs.Yteeoccpnmibceaa.Sh
open Go.RowKit Go.Proofs.Yteeoccpnmibceaa.Kit
set_option linter.unusedVariables false
set_option linter.unusedSimpArgs false

set_option maxRecDepth 100000 in
set_option maxHeartbeats 2000000 in
theorem makes_walk (T : Int) (A : Option Addr) (n c : Nat) (L : List Int) (w : World) (hT : (Lit.int .i64 T).wf = true) (hL : (Rep.int .i64).slice.K w w.heap.size [.slice A n c] L) :
    Calls Try.prog 4 #[.int .i64 T, .slice A n c] w fun e w' => e = .returned (.bool true) ∧ Below w.heap.size w w' := by
  obtain ⟨rfl, hc1, hc2, hx⟩ := slice_of hL
  clear hL hT
  have hl : L.length ≤ 9223372036854775807 := by omega
  by_cases hbig : L.length ≤ 60
  · have F1 : ((60 : Int) < (L.length : Int)) = False := eq_false (by omega)
    rcases splitE_val T L with ⟨hm, e1, e2⟩ | ⟨hm, e1⟩
    · have E1 := Lib.hid e1; have E2 := Lib.hid e2
      clear e1 e2 hm
      go_enter Try.func4, Try.ntmps4
      go_wp2_with fail
      refine (awake_any _).mono ?_; rintro e w1 ⟨rfl, h1⟩
      go_wp2_with fail
      refine (split_c T _ _ _ L (Lib.hid rfl) _ (B := w.heap.size) h1.size (hx.mono h1) hl E2 E1).mono ?_; rintro e w2 ⟨A1, c1, rfl, r1, h2⟩
      go_wp2
      go_ret
      exact ⟨rfl, by repeat (first | exact Below.refl _ _ | (refine below_join ?_ (by assumption)))⟩
    · obtain ⟨hv1, hv2, hv3⟩ := splitV_in hm
      obtain ⟨hT0, _, _, _⟩ := may_true hm
      have hvw := splitV_wf T L
      have hlike := fun i k x y a b (hi : L[i]? = some x) (hk : L[k]? = some y) (ha : (splitV T L)[i]? = some a) (hb : (splitV T L)[k]? = some b) => parts_like hm hi hk ha hb
      obtain ⟨l, hle⟩ : ∃ l, splitV T L = l := ⟨_, rfl⟩
      have E1 := Lib.hid e1
      have E2 := Lib.hid hle
      rw [hle] at hv1 hv2 hv3 hvw hlike
      have HV1 := Lib.hid hv1; have HV2 := Lib.hid hv2; have HV3 := Lib.hid hv3; have HVW := Lib.hid hvw; have HLK := Lib.hid hlike
      have hb1 : ((l.length : Int) != (L.length : Int)) = false := by rw [hv3]; simp
      clear e1 hle hv1 hv2 hv3 hvw hlike hm
      go_enter Try.func4, Try.ntmps4
      go_wp2_with fail
      refine (awake_any _).mono ?_; rintro e w1 ⟨rfl, h1⟩
      go_wp2_with fail
      refine (split_c T _ _ _ L (Lib.hid rfl) _ (B := w.heap.size) h1.size (hx.mono h1) hl E2 E1).mono ?_; rintro e w2 ⟨A1, c1, rfl, r1, h2⟩
      have HW := below_join h1 h2
      clear h1 h2
      go_wp2
      go_loopw [8, 9] (fun s i wr => ∃ k : Nat, k ≤ l.length ∧ i = .int .i64 k ∧ s = .int .i64 ((l.take k).sum) ∧ Below w2.heap.size w2 wr) (fun _ i _ => l.length - (intOf i).toNat)
      case atStart => exact ⟨0, by omega, rfl, rfl, Below.refl _ _⟩
      case round =>
        obtain ⟨k, hk, rfl, rfl, hbr⟩ := hrel
        rename World => wr
        by_cases hlt : k < l.length
        · have hltL : k < L.length := by have := HV3.out; omega
          obtain ⟨a, hak⟩ := at_lt hlt
          obtain ⟨x, hxk⟩ := at_lt hltL
          have r1' := r1.mono hbr
          have hx' := hx.mono (below_join HW hbr)
          obtain ⟨b1, o1, hA1, _, ca, _⟩ := int_at r1' hak
          obtain ⟨b3, o3, hA3, _, cx, _⟩ := int_at hx' hxk
          obtain ⟨wa0, wa1, _⟩ := HVW.out a (List.mem_of_getElem? hak)
          have ht := take_sum hak
          obtain ⟨t0, t1⟩ := take_bound HV1.out k
          have htot := HV2.out
          have HT := Lib.hid ht
          obtain ⟨s, hs⟩ : ∃ s, (l.take k).sum = s := ⟨_, rfl⟩
          rw [hs] at t0 t1 HT
          rw [hs]
          have hs1 : s ≤ 1073741823 := by omega
          have HAK := Lib.hid hak; have HXK := Lib.hid hxk
          subst hA1; subst hA3
          clear hak hxk ht hs t1 htot r1' hx' cx
          go_wp2
          clear ca
          go_loopw [10] (fun j wr' => ∃ m : Nat, m ≤ l.length ∧ j = .int .i64 m ∧ Below w2.heap.size w2 wr') (fun j _ => l.length - (intOf j).toNat)
          case atStart => exact ⟨0, by omega, rfl, hbr⟩
          case round =>
            obtain ⟨m, hm, rfl, hbr'⟩ := hrel
            clear hbr
            rename World => wr'
            by_cases hlm : m < l.length
            · have hlmL : m < L.length := by have := HV3.out; omega
              obtain ⟨b, hbm⟩ := at_lt hlm
              obtain ⟨y, hym⟩ := at_lt hlmL
              have r1' := r1.mono hbr'
              have hx' := hx.mono (below_join HW hbr')
              obtain ⟨_, _, hA1, _, ca, _⟩ := int_at r1' HAK.out
              cases hA1
              obtain ⟨_, _, hA1, _, cx, _⟩ := int_at hx' HXK.out
              cases hA1
              obtain ⟨_, _, hA1, _, cb, _⟩ := int_at r1' hbm
              cases hA1
              obtain ⟨_, _, hA1, _, cy, _⟩ := int_at hx' hym
              cases hA1
              obtain ⟨wb0, wb1, _⟩ := HVW.out b (List.mem_of_getElem? hbm)
              obtain ⟨q1, q2, q3⟩ := HLK.out k m x y a b HXK.out hym HAK.out hbm
              obtain ⟨_, q4, _⟩ := HLK.out m k y x b a hym HXK.out hbm HAK.out
              have p1 : ((y < x) = True ∧ (a < b) = False ∧ (x == y) = false) ∨ ((y < x) = False ∧ (x == y) = false) ∨ ((y < x) = False ∧ (x == y) = true ∧ (1 < a - b) = False ∧ (1 < b - a) = False) := by
                rcases Int.lt_trichotomy x y with h | h | h
                · exact .inr (.inl ⟨eq_false (by omega), by simpa using (show ¬ x = y by omega)⟩)
                · have := q2 h; have := q4 h.symm
                  exact .inr (.inr ⟨eq_false (by omega), by simpa using h, eq_false (by omega), eq_false (by omega)⟩)
                · have := q1 h
                  exact .inl ⟨eq_true h, eq_false (by omega), by simpa using (show ¬ x = y by omega)⟩
              have p2 : (x == 0) = false ∨ ((x == 0) = true ∧ (0 < a) = False) := by
                by_cases h : x = 0
                · exact .inr ⟨by simpa using h, by have := q3 h; exact eq_false (by omega)⟩
                · exact .inl (by simpa using h)
              have f0 : (a < 0) = False := eq_false (by omega)
              clear q1 q2 q3 q4 hbm hym r1' hx'
              rcases p1 with ⟨f1, f2, f3⟩ | ⟨f1, f3⟩ | ⟨f1, f3, f2, f4⟩ <;> rcases p2 with f5 | ⟨f5, f6⟩
              all_goals
                go_upto_region 17 with fail
                refine wp_region_quiet_lit (by kernel_rfl) (by kernel_rfl) ?_
                simp only [List.append_eq, List.cons_append, List.nil_append]
                repeat (go_big_quiet_step (fail))
                refine wpQuiet_nil ?_
                intro _ hw'
                obtain ⟨nq, hw''⟩ := hw'
                subst hw''
                go_wp2
                go_roundw
                case rel => exact ⟨m + 1, by omega, by go_num, below_drewN hbr' _⟩
                case measure => simp [intOf]; omega
            · go_wp2
              go_roundw
              case rel => exact ⟨k + 1, by omega, by go_num, by rw [HT.out], hbr'⟩
              case measure => simp [intOf]; omega
        · have e : k = l.length := by omega
          subst e
          have HE : Hid ((l.take l.length).sum = T) := Lib.hid (by rw [List.take_length]; exact HV2.out)
          rw [HE.out]
          clear HE
          go_wp2
          go_ret
          exact ⟨ret_true rfl (by simp), below_join HW hbr⟩
  · have F1 : ((60 : Int) < (L.length : Int)) = True := eq_true (by omega)
    go_enter Try.func4, Try.ntmps4
    go_wp2_with fail
    refine (awake_any _).mono ?_; rintro e w1 ⟨rfl, h1⟩
    go_wp2
    go_ret
    exact ⟨rfl, h1⟩

end Go.Proofs.Yteeoccpnmibceaa.Sh
