/- The statement ShareEven. -/
import Derived.Test.YteeoccpnmibceaaShareLaws1
import Derived.Test.YteeoccpnmibceaaShareEven
import Derived.Test.YteeoccpnmibceaaGrow
namespace Go.Proofs.Yteeoccpnmibceaa.Sh
open Go.RowKit Go.Proofs.Yteeoccpnmibceaa.Kit
set_option linter.unusedVariables false
set_option linter.unusedSimpArgs false

theorem info_int : (Try.prog.info? 3).map (fun i => (i.zero, i.size, i.bytes)) = some (some (.int .i64 0), 1, 8) := by kernel_rfl
def wantN (t n i : Nat) : Nat := if i < n then t / n + (if i < t % n then 1 else 0) else 0
theorem even_val {t n z : Nat} (ht : t ≤ 1073741823) (hn : 0 < n) (hl : n + z ≤ 300) : ∃ V, splitV (t : Int) (ints (evenW n z)) = V ∧ splitE (t : Int) (ints (evenW n z)) = 0 ∧ V.length = n + z ∧ ∀ i, i < n + z → V[i]? = some ((wantN t n i : Nat) : Int) := by
  have hall : ∀ x ∈ ints (evenW n z), 0 ≤ x ∧ x ≤ 1 := fun x hx => by
    obtain ⟨y, hy, rfl⟩ := List.mem_map.1 hx
    unfold evenW at hy
    rcases List.mem_append.1 hy with h | h
    · have := List.eq_of_mem_replicate h; omega
    · have := List.eq_of_mem_replicate h; omega
  have h1 : (1 : Int) ∈ ints (evenW n z) := List.mem_map.2 ⟨1, by unfold evenW; exact List.mem_append_left _ (List.mem_replicate.2 ⟨by omega, rfl⟩), rfl⟩
  have hlen : (ints (evenW n z)).length = n + z := by unfold ints; rw [List.length_map, evenW_len]
  have hm : mayS (t : Int) (ints (evenW n z)) = true := by
    have a1 : wrongB (t : Int) = false := by unfold wrongB; simp; omega
    have a2 : (ints (evenW n z)).any wrongB = false := List.any_eq_false.2 fun x hx => by have := hall x hx; unfold wrongB; simp; omega
    have a3 : (ints (evenW n z)).any someB = true := List.any_eq_true.2 ⟨1, h1, rfl⟩
    unfold mayS
    rw [a1, a2, a3, hlen]
    simp; omega
  have hnats : nats (ints (evenW n z)) = evenW n z := by
    unfold nats ints
    rw [List.map_map]
    conv => rhs; rw [← List.map_id (evenW n z)]
    exact List.map_congr_left fun x _ => by simp
  refine ⟨_, rfl, by unfold splitE; rw [hm]; rfl, ?_, fun i hi => ?_⟩
  · have := (splitV_in hm).2.2; omega
  · unfold splitV
    rw [hm, if_pos rfl]
    by_cases h0 : (t : Int) = 0
    · rw [if_pos h0, List.getElem?_replicate, hlen, if_pos hi]
      have : t = 0 := by omega
      subst this
      unfold wantN
      simp
    · rw [if_neg h0, hnats, Int.toNat_natCast]
      unfold ints
      rw [List.getElem?_map, even_at t hn hi]; rfl

set_option maxRecDepth 100000 in
set_option maxHeartbeats 1000000 in
theorem even_walk (T m z : Int) (w : World) (wT : (Lit.int .u32 T).wf = true) (wm : (Lit.int .u8 m).wf = true) (wz : (Lit.int .u8 z).wf = true) :
    Calls Try.prog 6 #[.int .u32 T, .int .u8 m, .int .u8 z] w fun e w' => e = .returned (.bool true) ∧ Below w.heap.size w w' := by
  obtain ⟨hT0, hT1⟩ := u32_of wT
  obtain ⟨hm0, hm1⟩ := u8_of wm
  obtain ⟨hz0, hz1⟩ := u8_of wz
  obtain ⟨T, rfl⟩ := Int.eq_ofNat_of_zero_le hT0
  obtain ⟨m, rfl⟩ := Int.eq_ofNat_of_zero_le hm0
  obtain ⟨z, rfl⟩ := Int.eq_ofNat_of_zero_le hz0
  clear wT wm wz
  go_enter Try.func6, Try.ntmps6
  go_wp2_with fail
  refine (awake_any _).mono ?_; rintro e w1 ⟨rfl, HB⟩
  have hsz := HB.size
  go_upto_region 3 with fail
  obtain ⟨n, hn⟩ : ∃ n, 1 + m % 100 = n := ⟨_, rfl⟩
  have HN : Hid ((1 : Int) + (m : Int) % 100 = (n : Int)) := Lib.hid (by omega)
  have hn1 : n ≤ 100 := by omega
  have hn0 : 0 < n := by omega
  rw [HN.out]
  clear hn
  go_wp2
  go_loopw [9, 10] (fun v i wr => ∃ j : Nat, j ≤ n ∧ i = .int .i64 j ∧ wr.ownsRow w1.heap.size 3 1 v j ((List.replicate j (1 : Int)).map (Value.int .i64)) ∧ Below w.heap.size w wr ∧ w1.heap.size ≤ wr.heap.size) (fun _ i _ => n - (intOf i).toNat)
  case atStart => exact ⟨0, Nat.zero_le _, rfl, own_nil _ _ _ _, HB, Nat.le_refl _⟩
  case round =>
    obtain ⟨j, hj, rfl, hown, HB2, hs2⟩ := hrel
    rename World => wr
    by_cases hlt : j < n
    · go_wp2_with (
        (at_builtin
         go_must (refine wpList_append_seen rfl (.tmp 27) (.tmp 28) _ rfl w1.heap.size 3 (.int .i64 0) 1 8 Try.underlying22 info_int rfl (by decide) _ _ _ rfl (hown.alloc _) (some ⟨wr.heap.size, 0, none⟩) 1 1 [.int .i64 1] rfl (by simp) (sees_new _ _ _) (one_ints .i64 [1]) (by omega) (by omega) (by simp; omega) (fun h => by cases h) ?_)
         intro v1 w2 hown1 hg1 _
         have HB3 := (HB2.alloc (by omega) (.cells #[.int .i64 1] 3)).grown hg1 (by simp; omega) (fun k hk => by have := own_base hown k hk; omega)
         have hs3 := hg1.size
         simp only [World.size_alloc] at hs3
         have HO := Lib.hid hown1
         clear hg1 hown1))
      go_roundw
      case rel => exact ⟨j + 1, by omega, by go_num, by have := HO.out; rw [List.replicate_succ']; simpa using this, HB3, by omega⟩
      case measure => simp [intOf]; omega
    · have hj' : j = n := by omega
      subst hj'
      clear HB
      go_wp2
      go_loopw [9, 11] (fun v i wr => ∃ k : Nat, k ≤ z % 100 ∧ i = .int .i64 k ∧ wr.ownsRow w1.heap.size 3 1 v (j + k) ((ints (evenW j k)).map (Value.int .i64)) ∧ Below w.heap.size w wr ∧ w1.heap.size ≤ wr.heap.size) (fun _ i _ => z % 100 - (intOf i).toNat)
      case atStart => exact ⟨0, Nat.zero_le _, rfl, by simpa [ints, evenW] using hown, HB2, hs2⟩
      case round =>
        obtain ⟨k, hk, rfl, hown2, HB3, hs3⟩ := hrel
        clear hown HB2 hs2
        rename World => wr'
        by_cases hlk : k < z % 100
        · go_wp2_with (
            (at_builtin
             go_must (refine wpList_append_seen rfl (.tmp 37) (.tmp 38) _ rfl w1.heap.size 3 (.int .i64 0) 1 8 Try.underlying22 info_int rfl (by decide) _ _ _ rfl (hown2.alloc _) (some ⟨wr'.heap.size, 0, none⟩) 1 1 [.int .i64 0] rfl (by simp) (sees_new _ _ _) (one_ints .i64 [0]) (by omega) (by omega) (by simp; omega) (fun h => by cases h) ?_)
             intro v1 w2 hown1 hg1 _
             have HB4 := (HB3.alloc (by omega) (.cells #[.int .i64 0] 3)).grown hg1 (by simp; omega) (fun k hk => by have := own_base hown2 k hk; omega)
             have hs4 := hg1.size
             simp only [World.size_alloc] at hs4
             have HO := Lib.hid hown1
             clear hg1 hown1))
          go_roundw
          case rel => exact ⟨k + 1, by omega, by go_num, by have := HO.out; unfold evenW; rw [List.replicate_succ', ← List.append_assoc]; simpa [ints, evenW, Nat.add_assoc] using this, HB4, by omega⟩
          case measure => simp [intOf]; omega
        · obtain ⟨A, c, hv, hnn, hrow, hlen⟩ := own_row hown2 (fun x hx => by
            obtain ⟨y, hy, rfl⟩ := List.mem_map.1 hx
            unfold evenW at hy
            rcases List.mem_append.1 hy with h | h
            · rw [List.eq_of_mem_replicate h]; decide
            · rw [List.eq_of_mem_replicate h]; decide)
          obtain ⟨V, hV1, hV2, hV3, hV4⟩ := even_val (t := T % 1073741824) (n := j) (z := k) (by omega) hn0 (by omega)
          have hel : (ints (evenW j k)).length = j + k := by unfold ints; rw [List.length_map, evenW_len]
          rw [hel] at hv
          obtain ⟨t, ht⟩ : ∃ t, T % 1073741824 = t := ⟨_, rfl⟩
          rw [ht] at hV1 hV2 hV4
          have HT : Hid ((T : Int) % 1073741824 = (t : Int)) := Lib.hid (by omega)
          have ht1 : t ≤ 1073741823 := by omega
          have HV1 := Lib.hid hV1; have HV2 := Lib.hid hV2; have HV3 := Lib.hid hV3; have HV4 := Lib.hid hV4
          have HEL := Lib.hid hel.symm
          have hjk : j + k ≤ 200 := by omega
          subst hv
          clear hV1 hV2 hV3 hV4 hnn ht hel hown2
          go_upto_region 13 with fail
          rw [HT.out]
          go_wp2_with fail
          refine (split_c _ _ _ _ _ HEL _ (Nat.le_refl _) hrow hlen HV1 HV2).mono ?_; rintro e w3 ⟨A3, c3, rfl, r3, h3⟩
          rw [HV3.out]
          have HB4 := below_join HB3 h3
          clear HB3 hs3 hrow h3 hj hlt
          go_wp2
          go_loop [15] (fun i => ∃ i' : Nat, i' ≤ j + k ∧ i = .int .i64 i') (fun i => j + k - (intOf i).toNat)
          case atStart => exact ⟨0, by omega, rfl⟩
          case round =>
            obtain ⟨i, hi, rfl⟩ := hrel
            by_cases hlt : i < j + k
            · have hv := HV4.out i hlt
              obtain ⟨b, o, hA, _, hc, _⟩ := int_at r3 hv
              subst hA
              obtain ⟨q, hq⟩ : ∃ q, t / j = q := ⟨_, rfl⟩
              obtain ⟨r, hr⟩ : ∃ r, t % j = r := ⟨_, rfl⟩
              have hr1 : r < j := by rw [← hr]; exact Nat.mod_lt _ hn0
              have hq1 : q ≤ t := by rw [← hq]; exact Nat.div_le_self _ _
              have HQ : Hid (wrap64 ((t : Int) / (j : Int)) = (q : Int)) := Lib.hid (by
                have e : (t : Int) / (j : Int) = (q : Int) := by rw [← hq]; rfl
                rw [e]; unfold wrap64; omega)
              have hrr : (t : Int) % (j : Int) = (r : Int) := by rw [← hr]; rfl
              have hw : (i < j ∧ i < r ∧ wantN t j i = q + 1) ∨ (i < j ∧ r ≤ i ∧ wantN t j i = q) ∨ (j ≤ i ∧ r ≤ i ∧ wantN t j i = 0) := by
                unfold wantN
                rw [hq, hr]
                by_cases h1 : i < j
                · by_cases h2 : i < r
                  · exact .inl ⟨h1, h2, by rw [if_pos h1, if_pos h2]⟩
                  · exact .inr (.inl ⟨h1, by omega, by rw [if_pos h1, if_neg h2]; rfl⟩)
                · exact .inr (.inr ⟨by omega, by omega, by rw [if_neg h1]⟩)
              have hw2 : (i < j ∧ ((i : Int) < (t : Int) % (j : Int)) = True ∧ wantN t j i = q + 1) ∨ (i < j ∧ ((i : Int) < (t : Int) % (j : Int)) = False ∧ wantN t j i = q) ∨ (j ≤ i ∧ ((i : Int) < (t : Int) % (j : Int)) = False ∧ wantN t j i = 0) := by
                rw [hrr]
                rcases hw with ⟨h1, h2, h3⟩ | ⟨h1, h2, h3⟩ | ⟨h1, h2, h3⟩
                · exact .inl ⟨h1, eq_true (by omega), h3⟩
                · exact .inr (.inl ⟨h1, eq_false (by omega), h3⟩)
                · exact .inr (.inr ⟨h1, eq_false (by omega), h3⟩)
              clear hv hq hr hrr hw
              go_upto_region 20 with fail
              rw [HQ.out]
              rcases hw2 with ⟨g1, g2, g3⟩ | ⟨g1, g2, g3⟩ | ⟨g1, g2, g3⟩
              all_goals
                rw [g3] at hc
                clear g3
                go_wp2
                go_round
                case rel => exact ⟨i + 1, by omega, by go_num⟩
                case measure => simp [intOf]; omega
            · go_wp2
              go_ret
              exact ⟨rfl, HB4⟩

end Go.Proofs.Yteeoccpnmibceaa.Sh
