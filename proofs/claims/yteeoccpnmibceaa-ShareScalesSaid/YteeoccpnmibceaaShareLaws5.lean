/- The statement ShareScales. -/
import Derived.Test.YteeoccpnmibceaaShareLaws4
import Derived.Test.YteeoccpnmibceaaShareScale
namespace Go.Proofs.Yteeoccpnmibceaa.Sh
open Go.RowKit Go.Proofs.Yteeoccpnmibceaa.Kit
set_option linter.unusedVariables false
set_option linter.unusedSimpArgs false

theorem nats_ints (W : List Nat) : nats (ints W) = W := by
  unfold nats ints
  rw [List.map_map]
  conv => rhs; rw [← List.map_id W]
  exact List.map_congr_left fun x _ => by simp
theorem ints_len (W : List Nat) : (ints W).length = W.length := by simp [ints]
theorem some_ints (W : List Nat) : (ints W).any someB = decide (0 < W.sum) := by
  induction W with
  | nil => rfl
  | cons a l ih =>
    have e : (ints (a :: l)).any someB = (someB (a : Int) || (ints l).any someB) := rfl
    rw [e, ih, List.sum_cons]
    unfold someB
    rw [Bool.eq_iff_iff]
    simp only [Bool.or_eq_true, decide_eq_true_eq]
    omega
theorem may_ints {t : Nat} {W : List Nat} (ht : t ≤ 1073741823) (hl : W.length ≤ 300) (hw : ∀ x ∈ W, x ≤ 1073741823) : mayS (t : Int) (ints W) = (decide (t = 0) || decide (0 < W.sum)) := by
  have a1 : wrongB (t : Int) = false := by unfold wrongB; simp; omega
  have a2 : (ints W).any wrongB = false := List.any_eq_false.2 fun x hx => by
    obtain ⟨y, hy, rfl⟩ := List.mem_map.1 hx
    have := hw y hy
    unfold wrongB; simp; omega
  unfold mayS
  rw [a1, a2, some_ints, ints_len]
  simp [hl]
theorem splitV_ints {t : Nat} {W : List Nat} (ht : t ≤ 1073741823) (hl : W.length ≤ 300) (hw : ∀ x ∈ W, x ≤ 1073741823) : splitV (t : Int) (ints W) = (if (decide (t = 0) || decide (0 < W.sum)) = true then (if t = 0 then List.replicate W.length 0 else ints (splitN t W)) else []) ∧ splitE (t : Int) (ints W) = if (decide (t = 0) || decide (0 < W.sum)) = true then 0 else 1 := by
  unfold splitV splitE
  rw [may_ints ht hl hw, nats_ints, ints_len, Int.toNat_natCast]
  refine ⟨?_, rfl⟩
  have e : ((t : Int) = 0) = (t = 0) := by simp
  simp only [e]
theorem scale_val {t K : Nat} {W : List Nat} (ht : t ≤ 1073741823) (hK : 0 < K) (hK1 : K ≤ 100) (hl : W.length ≤ 60) (hw : ∀ x ∈ W, x ≤ 1048575) : splitV (t : Int) (ints (W.map (· * K))) = splitV (t : Int) (ints W) ∧ splitE (t : Int) (ints (W.map (· * K))) = splitE (t : Int) (ints W) := by
  have h1 := splitV_ints (t := t) (W := W) ht (by omega) fun x hx => by have := hw x hx; omega
  have h2 := splitV_ints (t := t) (W := W.map (· * K)) ht (by simp; omega) fun x hx => by
    obtain ⟨y, hy, rfl⟩ := List.mem_map.1 hx
    have h := hw y hy
    have := Nat.mul_le_mul h hK1
    show y * K ≤ 1073741823
    omega
  rw [h1.1, h1.2, h2.1, h2.2, split_scale t hK, sum_scale, List.length_map]
  have e : decide (0 < W.sum * K) = decide (0 < W.sum) := by
    rw [Bool.eq_iff_iff]
    simp only [decide_eq_true_eq]
    exact ⟨fun h => Nat.pos_of_mul_pos_right h, fun h => Nat.mul_pos h hK⟩
  rw [e]
  exact ⟨rfl, rfl⟩
theorem own_val {W : List Nat} (hl : W.length ≤ 60) (hw : ∀ x ∈ W, x ≤ 1048575) : splitV ((W.sum : Nat) : Int) (ints W) = ints W ∧ splitE ((W.sum : Nat) : Int) (ints W) = 0 ∧ W.sum ≤ 62914500 := by
  have hs : W.sum ≤ 62914500 := by
    have := sum_le_mul hw
    have h2 := Nat.mul_le_mul_right 1048575 hl
    omega
  have h1 := splitV_ints (t := W.sum) (W := W) (by omega) (by omega) fun x hx => by have := hw x hx; omega
  have hc : (decide (W.sum = 0) || decide (0 < W.sum)) = true := by simp; omega
  rw [h1.1, h1.2, if_pos hc, if_pos hc]
  refine ⟨?_, rfl, hs⟩
  by_cases h0 : W.sum = 0
  · rw [if_pos h0]
    have : W = List.replicate W.length 0 := List.eq_replicate_iff.2 ⟨rfl, fun x hx => by have := mem_le_sum hx; omega⟩
    unfold ints
    conv => rhs; rw [this, List.map_replicate]
    rfl
  · rw [if_neg h0, split_own (by omega)]

def lowN (L : List Int) : List Nat := L.map fun x => (x % 1048576).toNat
theorem low_at {L : List Int} {k : Nat} {x : Int} (h : L[k]? = some x) : (lowN L)[k]? = some (x % 1048576).toNat := by unfold lowN; rw [List.getElem?_map, h]; rfl
theorem low_le (L : List Int) : ∀ x ∈ lowN L, x ≤ 1048575 := fun x hx => by
  obtain ⟨y, _, rfl⟩ := List.mem_map.1 hx
  omega
theorem take_step {W : List Nat} {k y : Nat} (h : W[k]? = some y) : W.take (k + 1) = W.take k ++ [y] := by
  obtain ⟨hk, rfl⟩ := List.getElem?_eq_some_iff.1 h
  rw [List.take_succ_eq_append_getElem hk]
def Apart (a b : Value) : Prop := ∀ g, a.ownBlock = some g → b.ownBlock ≠ some g
theorem apart_symm {a b : Value} (h : Apart a b) : Apart b a := fun g h1 h2 => h g h2 h1
theorem apart_ne {a b : Value} (h : Apart a b) : b.ownBlock = none ∨ b.ownBlock ≠ a.ownBlock := by
  cases hb : b.ownBlock with
  | none => exact .inl rfl
  | some g => exact .inr fun e => h g e.symm hb
theorem apart_next {a b a' : Value} {N : Nat} (h : Apart a b) (hv : a'.ownBlock = a.ownBlock ∨ a'.ownBlock = some N) (hb : ∀ g, b.ownBlock = some g → g < N) : Apart a' b := fun g h1 h2 => by
  rcases hv with e | e
  · exact h g (e ▸ h1) h2
  · rw [e] at h1
    cases h1
    have := hb _ h2
    omega

set_option maxRecDepth 100000 in
set_option maxHeartbeats 700000 in
theorem scales_walk (T : Int) (A : Option Addr) (n c : Nat) (L : List Int) (m : Int) (w : World) (wT : (Lit.int .u32 T).wf = true) (hL : (Rep.int .u32).slice.K w w.heap.size [.slice A n c] L) (wm : (Lit.int .u8 m).wf = true) :
    Calls Try.prog 5 #[.int .u32 T, .slice A n c, .int .u8 m] w fun e w' => e = .returned (.bool true) ∧ Below w.heap.size w w' := by
  obtain ⟨rfl, hc1, hc2, hx⟩ := slice_of hL
  obtain ⟨hT0, hT1⟩ := u32_of wT
  obtain ⟨hm0, hm1⟩ := u8_of wm
  obtain ⟨T, rfl⟩ := Int.eq_ofNat_of_zero_le hT0
  obtain ⟨m, rfl⟩ := Int.eq_ofNat_of_zero_le hm0
  clear hL wT wm
  have hl : L.length ≤ 9223372036854775807 := by omega
  by_cases hbig : L.length ≤ 60
  · have F1 : ((60 : Int) < (L.length : Int)) = False := eq_false (by omega)
    obtain ⟨K, hK⟩ : ∃ K, 1 + m % 100 = K := ⟨_, rfl⟩
    have HK : Hid ((1 : Int) + (m : Int) % 100 = (K : Int)) := Lib.hid (by omega)
    have hK0 : 0 < K := by omega
    have hK1 : K ≤ 100 := by omega
    have HWL : Hid ((lowN L).length = L.length) := Lib.hid (by simp [lowN])
    have HLE := Lib.hid (low_le L)
    have HAT : Hid (∀ (k : Nat) (x : Int), L[k]? = some x → (lowN L)[k]? = some (x % 1048576).toNat) := Lib.hid fun k x h => low_at h
    obtain ⟨W, hW⟩ : ∃ W, lowN L = W := ⟨_, rfl⟩
    rw [hW] at HWL HLE HAT
    clear hK hW
    go_enter Try.func5, Try.ntmps5
    go_wp2_with fail
    refine (awake_any _).mono ?_; rintro e w1 ⟨rfl, HB⟩
    have hsz := HB.size
    go_wp2
    go_loopw [8, 9, 10, 11] (fun va vb s i wr => ∃ (k : Nat) (a b : Value), k ≤ L.length ∧ a = va ∧ b = vb ∧ i = .int .i64 k ∧ s = .int .i64 ((W.take k).sum : Nat) ∧ wr.ownsRow w1.heap.size 3 1 a k ((ints (W.take k)).map (Value.int .i64)) ∧ wr.ownsRow w1.heap.size 3 1 b k ((ints ((W.take k).map (· * K))).map (Value.int .i64)) ∧ Apart a b ∧ Below w.heap.size w wr ∧ w1.heap.size ≤ wr.heap.size) (fun _ _ _ i _ => L.length - (intOf i).toNat)
    case atStart => exact ⟨0, _, _, Nat.zero_le _, rfl, rfl, rfl, rfl, own_nil _ _ _ _, own_nil _ _ _ _, fun g h => by simp [Value.ownBlock] at h, HB, Nat.le_refl _⟩
    case round =>
      obtain ⟨k, va, vb, hk, rfl, rfl, rfl, rfl, hoa, hob, hap, HB2, hs2⟩ := hrel
      rename World => wr
      by_cases hlt : k < L.length
      · obtain ⟨x, hxk⟩ := at_lt hlt
        have hxr := hx.mono HB2
        obtain ⟨b, o, hA, _, hc, hwx⟩ := int_at hxr hxk
        obtain ⟨hx0, hx1⟩ := u32_of hwx
        have hy := HAT.out k x hxk
        obtain ⟨y, hye⟩ : ∃ y, (x % 1048576).toNat = y := ⟨_, rfl⟩
        rw [hye] at hy
        have HY : Hid (x % 1048576 = (y : Int)) := Lib.hid (by omega)
        have hy1 : y ≤ 1048575 := by omega
        have HTS := Lib.hid (take_step hy)
        subst hA
        clear hxk hy hye hwx hxr
        go_upto_region 11 with fail
        rw [HY.out]
        go_upto_region 12 with (
          (at_builtin
           go_must (refine wpList_append_seen rfl (.tmp 37) (.tmp 39) _ rfl w1.heap.size 3 (.int .i64 0) 1 8 Try.underlying22 info_int rfl (by decide) _ _ _ rfl (hoa.alloc _) (some ⟨wr.heap.size, 0, none⟩) 1 1 [.int .i64 (y : Int)] rfl (by simp) (sees_new _ _ _) (one_ints .i64 [(y : Int)]) (by omega) (by omega) (by simp; omega) (fun h => by cases h) ?_)
           intro v1 w2 hown1 hg1 hv1
           have HB3 := (HB2.alloc (by omega) (.cells #[.int .i64 (y : Int)] 3)).grown hg1 (by simp; omega) (fun k hk => by have := own_base hoa k hk; omega)
           have hs3 := hg1.size
           simp only [World.size_alloc] at hs3
           have hob3 := (hob.alloc (.cells #[.int .i64 (y : Int)] 3)).kept hg1 (apart_ne hap)
           have hap3 := apart_next hap hv1 (fun g e => by have := (hob.lt g e).2; simp; omega)
           have HOA := Lib.hid hown1
           have HAP := Lib.hid hap3
           clear hg1 hown1 hv1 hob hoa hap hap3 HB2))
        have HM : Hid (wrap64 ((y : Int) * (1 + (m : Int) % 100)) = ((y * K : Nat) : Int)) := Lib.hid (by
          rw [HK.out, ← Int.natCast_mul]
          have := Nat.mul_le_mul hy1 hK1
          generalize y * K = p at *
          unfold wrap64; omega)
        have hsb : (W.take k).sum ≤ 62914500 := by
          have := sum_le_mul (l := W.take k) (B := 1048575) (fun z hz => HLE.out z (List.mem_of_mem_take hz))
          have h2 := Nat.mul_le_mul_right 1048575 (show (W.take k).length ≤ 60 by rw [List.length_take]; omega)
          omega
        have HSS : Hid ((W.take (k + 1)).sum = (W.take k).sum + y) := Lib.hid (by rw [HTS.out, List.sum_append]; simp)
        go_upto_region 13 with (
          (at_builtin
           rw [HM.out]
           go_must (refine wpList_append_seen rfl (.tmp 41) (.tmp 48) _ rfl w1.heap.size 3 (.int .i64 0) 1 8 Try.underlying22 info_int rfl (by decide) _ _ _ rfl (hob3.alloc _) (some ⟨w2.heap.size, 0, none⟩) 1 1 [.int .i64 ((y * K : Nat) : Int)] rfl (by simp) (sees_new _ _ _) (one_ints .i64 [((y * K : Nat) : Int)]) (by omega) (by omega) (by simp; omega) (fun h => by cases h) ?_)
           intro v2 w3 hown2 hg2 hv2
           have HB4 := (HB3.alloc (by omega) (.cells #[.int .i64 ((y * K : Nat) : Int)] 3)).grown hg2 (by simp; omega) (fun k hk => by have := own_base hob3 k hk; omega)
           have hs4 := hg2.size
           simp only [World.size_alloc] at hs4
           have hoa4 := (HOA.out.alloc (.cells #[.int .i64 ((y * K : Nat) : Int)] 3)).kept hg2 (apart_ne (apart_symm HAP.out))
           have hap4 := apart_symm (apart_next (apart_symm HAP.out) hv2 (fun g e => by have := (HOA.out.lt g e).2; simp; omega))
           have HOB := Lib.hid hown2
           have HOA4 := Lib.hid hoa4
           have HAP4 := Lib.hid hap4
           clear hg2 hown2 hv2 hob3 hoa4 hap4 HB3 HOA HAP))
        obtain ⟨s, hse⟩ : ∃ s, (W.take k).sum = s := ⟨_, rfl⟩
        rw [hse] at hsb HSS ⊢
        clear hse hc
        go_wp2
        go_roundw
        case rel =>
          refine ⟨k + 1, _, _, by omega, rfl, rfl, by go_num, by rw [HSS.out] <;> go_num, ?_, ?_, HAP4.out, HB4, by omega⟩
          · have := HOA4.out
            rw [HTS.out]
            simpa [ints] using this
          · have := HOB.out
            rw [HTS.out]
            simpa [ints] using this
        case measure => simp [intOf]; omega
      · have e : k = L.length := by omega
        subst e
        have hWl := HWL.out
        have htw : W.take L.length = W := List.take_of_length_le (by omega)
        rw [htw] at hoa hob
        have hws : ∀ x ∈ ints W, (Lit.int .i64 x).wf = true := fun x hx => by
          obtain ⟨y, hy, rfl⟩ := List.mem_map.1 hx
          have := HLE.out y hy
          exact wf_i64 (by omega) (by omega)
        have hwk : ∀ x ∈ ints (W.map (· * K)), (Lit.int .i64 x).wf = true := fun x hx => by
          obtain ⟨y, hy, rfl⟩ := List.mem_map.1 hx
          obtain ⟨z, hz, hze⟩ := List.mem_map.1 hy
          have h1 := Nat.mul_le_mul (HLE.out z hz) hK1
          have h2 : z * K = y := hze
          rw [h2] at h1
          exact wf_i64 (by omega) (by omega)
        obtain ⟨A1, c1, hv1, hn1, hr1, hl1⟩ := own_row hoa hws
        obtain ⟨A2, c2, hv2, hn2, hr2, hl2⟩ := own_row hob hwk
        have e1 : (ints W).length = L.length := by rw [ints_len]; exact hWl
        have e2 : (ints (W.map (· * K))).length = L.length := by rw [ints_len, List.length_map]; exact hWl
        rw [e1] at hv1
        rw [e2] at hv2
        subst hv1; subst hv2
        obtain ⟨t, ht⟩ : ∃ t, T % 1073741824 = t := ⟨_, rfl⟩
        have HT : Hid ((T : Int) % 1073741824 = (t : Int)) := Lib.hid (by omega)
        have ht1 : t ≤ 1073741823 := by omega
        obtain ⟨s1, s2⟩ := scale_val ht1 hK0 hK1 (by omega) HLE.out
        obtain ⟨o1, o2, o3⟩ := own_val (W := W) (by omega) HLE.out
        obtain ⟨_, _, hvl⟩ := splitV_bd (t : Int) (ints W)
        obtain ⟨V, hV⟩ : ∃ V, splitV (t : Int) (ints W) = V := ⟨_, rfl⟩
        obtain ⟨E, hE⟩ : ∃ E, splitE (t : Int) (ints W) = E := ⟨_, rfl⟩
        rw [hV] at s1 hvl
        rw [hE] at s2
        obtain ⟨S, hS⟩ : ∃ S, W.sum = S := ⟨_, rfl⟩
        rw [hS] at o1 o2
        have HS : Hid ((W.take L.length).sum = S) := Lib.hid (by rw [htw]; exact hS)
        have HV := Lib.hid hV; have HE := Lib.hid hE; have HS1 := Lib.hid s1; have HS2 := Lib.hid s2; have HO1 := Lib.hid o1; have HO2 := Lib.hid o2
        have HL1 := Lib.hid e1.symm; have HL2 := Lib.hid e2.symm
        have hvl2 : V.length ≤ 9223372036854775807 := by omega
        rw [HS.out]
        clear hn1 hn2 hV hE s1 s2 o1 o2 o3 hvl e1 e2 hWl htw ht hS hoa hob hws hwk HB hap hlt hk
        go_upto_region 15 with fail
        rw [HT.out]
        go_wp2_with fail
        refine (split_c _ _ _ _ _ HL1 _ (Nat.le_refl _) hr1 hl1 HV HE).mono ?_; rintro e w3 ⟨A3, c3, rfl, r3, h3⟩
        go_wp2_with fail
        refine (split_c _ _ _ _ _ HL2 _ h3.size (hr2.mono h3) hl2 HS1 HS2).mono ?_; rintro e w4 ⟨A4, c4, rfl, r4, h4⟩
        have k4 := below_join h3 h4
        go_wp2_with fail
        refine (split_c _ _ _ _ _ HL1 _ k4.size (hr1.mono k4) hl1 HO1 HO2).mono ?_; rintro e w5 ⟨A5, c5, rfl, r5, h5⟩
        have k5 := below_join k4 h5
        have q3 := r3.mono (below_join h4 h5)
        have q4 := r4.mono h5
        have z4 := h4.size; have z5 := h5.size
        go_wp2_with fail
        refine (same_c _ _ _ _ _ _ V V (Lib.hid rfl) (Lib.hid rfl) _ (B := w3.heap.size) (B' := w4.heap.size) (by omega) (by omega) q3 q4 hvl2 hvl2 (r := true) (Lib.hid (by simp))).mono ?_; rintro e w6 ⟨rfl, h6⟩
        have q5 := r5.mono h6
        have k6 := below_join k5 h6
        go_wp2_with fail
        refine (same_c _ _ _ _ _ _ (ints W) (ints W) (Lib.hid rfl) HL1 _ (B := w5.heap.size) h6.size k6.size q5 (hr1.mono k6) hl1 hl1 (r := true) (Lib.hid (by simp))).mono ?_; rintro e w7 ⟨rfl, h7⟩
        go_wp2
        go_ret
        exact ⟨ret_true rfl (by simp), below_join (below_join HB2 k6) h7⟩
  · have F1 : ((60 : Int) < (L.length : Int)) = True := eq_true (by omega)
    go_enter Try.func5, Try.ntmps5
    go_wp2_with fail
    refine (awake_any _).mono ?_; rintro e w1 ⟨rfl, h1⟩
    go_wp2
    go_ret
    exact ⟨rfl, h1⟩

end Go.Proofs.Yteeoccpnmibceaa.Sh
