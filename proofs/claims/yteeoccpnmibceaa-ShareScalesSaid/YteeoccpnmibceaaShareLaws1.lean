/- The statements ShareEnds, ShareMakes. -/
import Derived.Test.YteeoccpnmibceaaShareAwake
import Derived.Test.YteeoccpnmibceaaShareFacts
namespace Go.Proofs.Yteeoccpnmibceaa.Sh
open Go.RowKit Go.Proofs.Yteeoccpnmibceaa.Kit
set_option linter.unusedVariables false
set_option linter.unusedSimpArgs false

theorem nats_at {L : List Int} {i : Nat} {x : Int} (h : L[i]? = some x) : (nats L)[i]? = some x.toNat := by unfold nats; rw [List.getElem?_map, h]; rfl
/-- What the parts are like, of a total that may be split. -/
theorem parts_like {T : Int} {L : List Int} (hm : mayS T L = true) {i k : Nat} {x y a b : Int} (hi : L[i]? = some x) (hk : L[k]? = some y) (ha : (splitV T L)[i]? = some a) (hb : (splitV T L)[k]? = some b) :
    (y < x → b ≤ a) ∧ (x = y → a ≤ b + 1) ∧ (x = 0 → a = 0) := by
  obtain ⟨hT, hl, hall, hpos⟩ := may_true hm
  unfold splitV at ha hb
  rw [hm, if_pos rfl] at ha hb
  by_cases h0 : T = 0
  · rw [if_pos h0] at ha hb
    have e1 := List.eq_of_mem_replicate (List.mem_of_getElem? ha)
    have e2 := List.eq_of_mem_replicate (List.mem_of_getElem? hb)
    omega
  · rw [if_neg h0] at ha hb
    have hs : 0 < (nats L).sum := by omega
    have n1 := nats_at hi
    have n2 := nats_at hk
    have x0 := hall x (List.mem_of_getElem? hi)
    have y0 := hall y (List.mem_of_getElem? hk)
    unfold ints at ha hb
    rw [List.getElem?_map, split_at n1] at ha
    rw [List.getElem?_map, split_at n2] at hb
    simp only [Option.map_some, Option.some.injEq] at ha hb
    obtain ⟨p1, p2⟩ := part_order n1 n2 (show 0 < T.toNat by omega) hs
    refine ⟨fun h => ?_, fun h => ?_, fun h => ?_⟩
    · have := p1 (by omega); omega
    · have := p2 (by omega); omega
    · have hx : x.toNat = 0 := by omega
      rw [hx] at n1 ha
      have := zero_part (T := T.toNat) n1 hs
      rw [split_at n1] at this
      simp only [Option.some.injEq] at this
      omega
theorem splitE_val (T : Int) (L : List Int) : (mayS T L = false ∧ splitE T L = 1 ∧ splitV T L = []) ∨ (mayS T L = true ∧ splitE T L = 0) := by
  cases h : mayS T L with
  | false => exact .inl ⟨rfl, by unfold splitE; rw [h]; rfl, by unfold splitV; rw [h]; rfl⟩
  | true => exact .inr ⟨rfl, by unfold splitE; rw [h]; rfl⟩

set_option maxRecDepth 100000 in
set_option maxHeartbeats 4000000 in
theorem ends_walk (T : Int) (A : Option Addr) (n c : Nat) (L : List Int) (w : World) (hT : (Lit.int .i64 T).wf = true) (hL : (Rep.int .i64).slice.K w w.heap.size [.slice A n c] L) :
    Calls Try.prog 7 #[.int .i64 T, .slice A n c] w fun e w' => e = .returned (.bool true) ∧ Below w.heap.size w w' := by
  obtain ⟨rfl, hc1, hc2, hx⟩ := slice_of hL
  clear hL hT
  have hl : L.length ≤ 9223372036854775807 := by omega
  by_cases hbig : L.length ≤ 300
  · have F1 : ((300 : Int) < (L.length : Int)) = False := eq_false (by omega)
    rcases splitE_val T L with ⟨hm, e1, e2⟩ | ⟨hm, e1⟩
    · have E1 := Lib.hid e1; have E2 := Lib.hid e2
      have E3 : Hid (psum (splitV T L) = []) := Lib.hid (by rw [e2]; rfl)
      clear e1 e2 hm
      go_enter Try.func7, Try.ntmps7
      go_wp2_with fail
      refine (awake_any _).mono ?_; rintro e w1 ⟨rfl, h1⟩
      go_wp2_with fail
      refine (split_c T _ _ _ L (Lib.hid rfl) _ (B := w.heap.size) h1.size (hx.mono h1) hl E2 E1).mono ?_; rintro e w2 ⟨A1, c1, rfl, r1, h2⟩
      go_wp2_with fail
      refine (ends_c T _ _ _ L (Lib.hid rfl) _ (B := w.heap.size) (below_join h1 h2).size (hx.mono (below_join h1 h2)) hl E3 E1).mono ?_; rintro e w3 ⟨A2, c2, rfl, r2, h3⟩
      go_wp2
      go_loop [10, 11] (fun s i => i = .int .i64 0 ∧ s = .int .i64 0) (fun _ _ => 0)
      case atStart => exact ⟨rfl, rfl⟩
      case round =>
        obtain ⟨rfl, rfl⟩ := hrel
        go_wp2
        go_ret
        exact ⟨rfl, by repeat (first | exact Below.refl _ _ | (refine below_join ?_ (by assumption)))⟩
    · obtain ⟨hv1, hv2, hv3⟩ := splitV_in hm
      obtain ⟨_, _, _, _⟩ := may_true hm
      have hvw := splitV_wf T L
      have hlike := fun i x a (hi : L[i]? = some x) (ha : (splitV T L)[i]? = some a) => (parts_like hm hi hi ha ha).2.2
      obtain ⟨l, hle⟩ : ∃ l, splitV T L = l := ⟨_, rfl⟩
      have E1 := Lib.hid e1
      have E2 := Lib.hid hle
      have E3 : Hid (psum (splitV T L) = psum l) := Lib.hid (by rw [hle])
      rw [hle] at hv1 hv2 hv3 hvw hlike
      have HV1 := Lib.hid hv1; have HV2 := Lib.hid hv2; have HV3 := Lib.hid hv3; have HVW := Lib.hid hvw; have HLK := Lib.hid hlike
      have HPL := Lib.hid (psum_len l)
      have hb1 : ((l.length : Int) != (L.length : Int)) = false := by rw [hv3]; simp
      clear e1 hle hv1 hv2 hv3 hvw hlike hm
      go_enter Try.func7, Try.ntmps7
      go_wp2_with fail
      refine (awake_any _).mono ?_; rintro e w1 ⟨rfl, h1⟩
      go_wp2_with fail
      refine (split_c T _ _ _ L (Lib.hid rfl) _ (B := w.heap.size) h1.size (hx.mono h1) hl E2 E1).mono ?_; rintro e w2 ⟨A1, c1, rfl, r1, h2⟩
      go_wp2_with fail
      refine (ends_c T _ _ _ L (Lib.hid rfl) _ (B := w.heap.size) (below_join h1 h2).size (hx.mono (below_join h1 h2)) hl E3 E1).mono ?_; rintro e w3 ⟨A2, c2, rfl, r2, h3⟩
      rw [HPL.out]
      have r1' := r1.mono h3
      have hx' := hx.mono (below_join (below_join h1 h2) h3)
      have HW := below_join (below_join h1 h2) h3
      clear hx r1 h1 h2 h3
      go_wp2
      go_loop [10, 11] (fun s i => ∃ k : Nat, k ≤ l.length ∧ i = .int .i64 k ∧ s = .int .i64 ((l.take k).sum)) (fun _ i => l.length - (intOf i).toNat)
      case atStart => exact ⟨0, by omega, rfl, rfl⟩
      case round =>
        obtain ⟨k, hk, rfl, rfl⟩ := hrel
        by_cases hlt : k < l.length
        · obtain ⟨a, hak⟩ := at_lt hlt
          have hltL : k < L.length := by have := HV3.out; omega
          obtain ⟨x, hxk⟩ := at_lt hltL
          obtain ⟨b1, o1, hA1, _, ca, _⟩ := int_at r1' hak
          obtain ⟨b2, o2, hA2, _, cp, _⟩ := int_at r2 (psum_at hlt)
          obtain ⟨b3, o3, hA3, _, cx, _⟩ := int_at hx' hxk
          obtain ⟨wa0, wa1, _⟩ := HVW.out a (List.mem_of_getElem? hak)
          have hz := HLK.out k x a hxk hak
          have ht := take_sum hak
          obtain ⟨t0, t1⟩ := take_bound HV1.out k
          obtain ⟨t2, t3⟩ := take_bound HV1.out (k + 1)
          have htot := HV2.out
          rw [ht] at cp t2 t3
          have HT := Lib.hid ht
          obtain ⟨s, hs⟩ : ∃ s, (l.take k).sum = s := ⟨_, rfl⟩
          rw [hs] at cp t0 t1 t2 t3 HT
          rw [hs]
          have hs1 : s ≤ 1073741823 := by omega
          have hz2 : (x == 0) = false ∨ ((x == 0) = true ∧ (a != 0) = false) := by
            by_cases h : x = 0
            · exact .inr ⟨by simpa using h, by simp [hz h]⟩
            · exact .inl (by simpa using h)
          subst hA1; subst hA2; subst hA3
          clear hak hxk hz ht hs t1 t2 t3 htot
          rcases hz2 with hz2 | ⟨hz2, hz3⟩
          all_goals
            go_wp2
            go_round
            case rel => exact ⟨k + 1, by omega, by go_num, by rw [HT.out]⟩
            case measure => simp [intOf]; omega
        · have e : k = l.length := by omega
          subst e
          have HE : Hid ((l.take l.length).sum = T) := Lib.hid (by rw [List.take_length]; exact HV2.out)
          rw [HE.out]
          clear HE
          by_cases h0 : l.length = 0
          · have hb0 : ((l.length : Int) == 0) = true := by simpa using h0
            clear h0
            go_wp2
            go_ret
            exact ⟨rfl, HW⟩
          · have hb0 : ((l.length : Int) == 0) = false := by simpa using h0
            clear h0
            go_wp2
            go_ret
            exact ⟨ret_true rfl (by simp), HW⟩
  · have F1 : ((300 : Int) < (L.length : Int)) = True := eq_true (by omega)
    go_enter Try.func7, Try.ntmps7
    go_wp2_with fail
    refine (awake_any _).mono ?_; rintro e w1 ⟨rfl, h1⟩
    go_wp2
    go_ret
    exact ⟨rfl, h1⟩

end Go.Proofs.Yteeoccpnmibceaa.Sh
