/- Shares: the reference: a total in parts. -/
import Derived.Test.YteeoccpnmibceaaShare6
import Derived.Test.YteeoccpnmibceaaShareFacts
namespace Go.Proofs.Yteeoccpnmibceaa.Sh
open Go.RowKit Go.Proofs.Yteeoccpnmibceaa.Kit
set_option linter.unusedVariables false
set_option linter.unusedSimpArgs false

/-- Some are laid, behind them 0. -/
def mixG (l : List Int) (k : Nat) : List Int := l.take k ++ List.replicate (l.length - k) 0
theorem mixG_zero (l : List Int) : List.replicate l.length 0 = mixG l 0 := by simp [mixG]
theorem mixG_all (l : List Int) : mixG l l.length = l := by simp [mixG]
theorem mixG_step {l : List Int} {k : Nat} {x : Int} (h : l[k]? = some x) : (mixG l k).set k x = mixG l (k + 1) := by
  obtain ⟨hk, hx⟩ := List.getElem?_eq_some_iff.1 h
  unfold mixG
  have e : l.length - k = (l.length - (k + 1)) + 1 := by omega
  rw [List.take_succ_eq_append_getElem hk, e, List.replicate_succ, List.set_append_right _ _ (by rw [List.length_take]; exact Nat.min_le_left _ _), List.length_take, show k - min k l.length = 0 by omega, List.set_cons_zero, List.append_assoc, hx]
  rfl
theorem mixG_at {l : List Int} {k : Nat} (hk : k < l.length) : ∃ y, (mixG l k)[k]? = some y := ⟨_, List.getElem?_eq_getElem (by unfold mixG; simp; omega)⟩
theorem set_at {l : List Int} {k : Nat} {y x : Int} (h : l[k]? = some y) : (l.set k x)[k]? = some x := by
  rw [List.getElem?_set_self (List.getElem?_eq_some_iff.1 h).1]
theorem count_take (p : Nat × Nat → Bool) {l : List (Nat × Nat)} {k : Nat} {x : Nat × Nat} (h : l[k]? = some x) : (l.take (k + 1)).countP p = (l.take k).countP p + if p x then 1 else 0 := by
  obtain ⟨hk, rfl⟩ := List.getElem?_eq_some_iff.1 h
  rw [List.take_succ_eq_append_getElem hk, List.countP_append]
  simp [List.countP_cons]
theorem w64_mul {t x : Nat} (ht : t ≤ 1073741823) (hx : x ≤ 1073741823) : wrap64 ((t : Int) * (x : Int)) = ((t * x : Nat) : Int) := by
  have h : t * x ≤ 1073741823 * 1073741823 := Nat.mul_le_mul ht hx
  rw [← Int.natCast_mul]
  generalize t * x = p at *
  unfold wrap64; omega
theorem w64_quo {t x S : Nat} (ht : t ≤ 1073741823) (hx : x ≤ 1073741823) (hf : fl t S x ≤ t) : wrap64 ((wrap64 ((t : Int) * (x : Int))).tdiv (S : Int)) = ((fl t S x : Nat) : Int) := by
  have h : ((t * x : Nat) : Int).tdiv (S : Int) = ((fl t S x : Nat) : Int) := by
    rw [Int.tdiv_eq_ediv_of_nonneg (by omega)]; rfl
  rw [w64_mul ht hx, h]
  generalize fl t S x = q at *
  unfold wrap64; omega
theorem w64_left {t x S la : Nat} (ht : t ≤ 1073741823) (hx : x ≤ 1073741823) (hf : fl t S x ≤ t) (hla : la ≤ t) : wrap64 ((t : Int) - (la : Int) - wrap64 ((wrap64 ((t : Int) * (x : Int))).tdiv (S : Int))) = (t : Int) - ((la + fl t S x : Nat) : Int) := by
  rw [w64_quo ht hx hf]
  generalize fl t S x = q at *
  unfold wrap64; omega
theorem w64_rem {t x S : Nat} (ht : t ≤ 1073741823) (hx : x ≤ 1073741823) (hS : rs t S x < S) (hSb : S ≤ 322122546900) : (wrap64 ((t : Int) * (x : Int))).tmod (S : Int) = ((rs t S x : Nat) : Int) := by
  rw [w64_mul ht hx, Int.tmod_eq_emod_of_nonneg (by omega)]; rfl
theorem floors_take {t S : Nat} {ws : List Nat} {k x : Nat} (h : ws[k]? = some x) : ((ws.map (fl t S)).take (k + 1)).sum = ((ws.map (fl t S)).take k).sum + fl t S x ∧ ((ws.map (fl t S)).take (k + 1)).sum ≤ (ws.map (fl t S)).sum := by
  obtain ⟨hk, rfl⟩ := List.getElem?_eq_some_iff.1 h
  refine ⟨by rw [List.take_succ_eq_append_getElem (by simpa using hk), List.sum_append]; simp, ?_⟩
  have h : ((ws.map (fl t S)).take (k + 1)).sum + ((ws.map (fl t S)).drop (k + 1)).sum = (ws.map (fl t S)).sum := by rw [← List.sum_append, List.take_append_drop]
  omega

set_option maxRecDepth 100000 in
set_option maxHeartbeats 600000 in
theorem rsplit_any (T : Int) (A : Option Addr) (c : Nat) (L : List Int) (w : World) {B : Nat} (hB : B ≤ w.heap.size) (hx : Row (Rep.int .i64) w B A L) (hl : L.length ≤ 9223372036854775807) :
    Calls Try.prog 10 #[.int .i64 T, .slice A L.length c] w fun e w' => ∃ v, e = .returned (.tuple #[v, .int .i64 (splitE T L)]) ∧ Own w w' v (splitV T L) ∧ Below w.heap.size w w' := by
  have HM := Lib.hid (rmay_any T A c L w hB hx hl)
  cases hm : mayS T L with
  | false =>
    have e1 : splitV T L = [] := by unfold splitV; rw [hm]; rfl
    have e2 : splitE T L = 1 := by unfold splitE; rw [hm]; rfl
    rw [e1, e2]
    rw [hm] at HM
    clear hm e1 e2 hx
    go_enter Try.func10, Try.ntmps10
    go_wp2_with fail
    refine HM.out.mono ?_; rintro e w1 ⟨rfl, rfl⟩
    go_wp2
    go_ret2
    exact ⟨_, rfl, .inl ⟨rfl, rfl⟩, Below.refl _ _⟩
  | true =>
    obtain ⟨hT, hlen, hall, hpos⟩ := may_true hm
    have e2 : splitE T L = 0 := by unfold splitE; rw [hm]; rfl
    rw [e2]
    rw [hm] at HM
    have HMK := Lib.hid (run_make L.length (by omega))
    have hback := nats_back fun x hx => (hall x hx).1
    have e1 : splitV T L = if T = 0 then List.replicate L.length 0 else ints (splitN T.toNat (nats L)) := by unfold splitV; rw [hm, if_pos rfl]
    obtain ⟨ws, hws⟩ : ∃ ws, nats L = ws := ⟨_, rfl⟩
    rw [hws] at e1 hback hpos
    rw [e1]
    have hwl : ws.length = L.length := by rw [← hws]; simp [nats]
    have hwb : ∀ n ∈ ws, n ≤ 1073741823 := fun n hn => by
      rw [← hws] at hn
      obtain ⟨x, hx, rfl⟩ := List.mem_map.1 hn
      have := hall x hx; omega
    clear hm e1 e2 hall hws
    subst hback
    rw [← hwl] at HM HMK hl hlen ⊢
    clear hwl
    obtain ⟨S, hS⟩ : ∃ S, ws.sum = S := ⟨_, rfl⟩
    have HS := Lib.hid hS
    have HSUM : Hid (∀ w1, Below w.heap.size w w1 → _) := Lib.hid fun w1 hb => rsum_any ws A c w1 (Nat.le_trans hB hb.size) (hx.mono (hb.mono hB)) hlen hwb HS
    by_cases h0 : T = 0
    · subst h0
      rw [if_pos rfl]
      clear hx hpos hT hS hwb
      go_enter Try.func10, Try.ntmps10
      go_wp2_with fail
      refine HM.out.mono ?_; rintro e w1 ⟨rfl, rfl⟩
      have hmk := HMK.out
      go_wp2_with fail
      refine (HSUM.out _ (below_alloc (Below.refl _ _) _)).mono ?_; rintro e w1 ⟨rfl, rfl⟩
      go_wp2
      go_ret2
      refine ⟨_, rfl, .inr ⟨w.heap.size, ?_, Nat.le_refl _, Box.new _ _ _⟩, below_alloc (Below.refl _ _) _⟩
      simp
    · rw [if_neg h0]
      obtain ⟨t, rfl⟩ : ∃ t : Nat, T = t := ⟨T.toNat, by omega⟩
      rw [Int.toNat_natCast]
      have ht : t ≤ 1073741823 := by omega
      have hb0 : ((t : Int) == 0) = false := by simpa using h0
      have hsum : 0 < ws.sum := by omega
      have hSb : S ≤ 322122546900 := by
        have := sum_le_mul hwb
        have h2 := Nat.mul_le_mul_right 1073741823 hlen
        omega
      obtain ⟨hleft1, hleft2⟩ := left_eq t ws hsum
      have hleft3 := left_lt t ws hsum
      have hS0 : 0 < S := by omega
      have hSz : ((S : Int) == 0) = false := by simp; omega
      have hSz2 : ((S : Int) == -1) = false := by simp
      have HFT : Hid (∀ x, x ∈ ws → x ≤ 1073741823 ∧ fl t S x ≤ t ∧ rs t S x < S) := Lib.hid fun x hx => by
        have h2 := mem_le_sum hx
        rw [hS] at h2
        have h3 : fl t S x ≤ t := by
          unfold fl
          have := Nat.mul_le_mul_left t h2
          exact Nat.le_trans (Nat.div_le_div_right this) (by rw [Nat.mul_div_cancel _ hS0]; exact Nat.le_refl _)
        exact ⟨hwb x hx, h3, Nat.mod_lt _ hS0⟩
      rw [hS] at hleft1
      clear hwb hsum hpos hleft2 hT hS h0
      go_enter Try.func10, Try.ntmps10
      go_wp2_with fail
      refine HM.out.mono ?_; rintro e w1 ⟨rfl, rfl⟩
      have hmk := HMK.out
      go_wp2_with fail
      refine (HSUM.out _ (below_alloc (Below.refl _ _) _)).mono ?_; rintro e w1 ⟨rfl, rfl⟩
      have hSL : (splitN t ws).length = ws.length := split_len ..
      have hGL : (ints (splitN t ws)).length = ws.length := by simp [ints, split_len]
      have BO : Box (w.alloc (.cells (ic (List.replicate ws.length 0)) 3)) w.heap.size (ic (mixG (ints (splitN t ws)) 0)) 3 := by rw [← mixG_zero, hGL]; exact Box.new _ _ _
      have HBW := below_alloc (Below.refl w.heap.size w) (.cells (ic (List.replicate ws.length 0)) 3)
      have HGL := Lib.hid hGL
      clear hmk hSL hGL
      generalize (w.alloc (.cells (ic (List.replicate ws.length 0)) 3)) = W at *
      have hxW := hx.mono (HBW.mono hB)
      go_upto_block 0 with fail
      go_cut [9] (fun v wx => v = .int .i64 (leftOf t ws : Nat) ∧ W = wx)
      case first =>
        go_wp2
        go_loop [9, 10] (fun l i => ∃ k : Nat, k ≤ ws.length ∧ i = .int .i64 k ∧ l = .int .i64 ((t : Int) - (((ws.map (fl t S)).take k).sum : Nat))) (fun _ i => ws.length - (intOf i).toNat)
        case atStart => exact ⟨0, by omega, rfl, by simp⟩
        case round =>
          obtain ⟨k, hk, rfl, rfl⟩ := hrel
          by_cases hlt : k < ws.length
          · obtain ⟨x, hxk⟩ := at_lt hlt
            have hxk2 : (ints ws)[k]? = some (x : Int) := by simp [ints, hxk]
            obtain ⟨hf1, hf2, hf3⟩ := HFT.out x (List.mem_of_getElem? hxk)
            obtain ⟨b, o, hA, _, hc, _⟩ := int_at hxW hxk2
            obtain ⟨hn1, hn2⟩ := floors_take (t := t) (S := S) hxk
            obtain ⟨la, hla⟩ : ∃ la, ((ws.map (fl t S)).take k).sum = la := ⟨_, rfl⟩
            rw [hla] at hn1 ⊢
            have EQ := Lib.hid (w64_left (S := S) (la := la) ht hf1 hf2 (by omega))
            have HN := Lib.hid hn1
            subst hA
            clear hxk hxk2 hn1 hn2 hla
            go_upto_region 11 with fail
            rw [EQ.out]
            go_wp2
            go_round
            case rel => exact ⟨k + 1, by omega, by go_num, by rw [HN.out]⟩
            case measure => simp [intOf]; omega
          · have e : k = ws.length := by omega
            subst e
            have HE : Hid ((t : Int) - (((ws.map (fl t S)).take ws.length).sum : Nat) = (leftOf t ws : Nat)) := Lib.hid (by
              rw [List.take_of_length_le (by simp)]; unfold leftOf; rw [HS.out]; omega)
            rw [HE.out]
            clear HE
            go_wp2
            go_meet
            exact ⟨rfl, rfl⟩
      case rest =>
        obtain ⟨rfl, rfl⟩ := hcut
        obtain ⟨left, hle⟩ : ∃ l, leftOf t ws = l := ⟨_, rfl⟩
        have HLE := Lib.hid hle
        rw [hle] at hleft3 ⊢
        clear hle hleft1 hxW HM HSUM
        go_wp2
        go_loopw [11] (fun i wr => ∃ k : Nat, k ≤ ws.length ∧ i = .int .i64 k ∧ Box wr w.heap.size (ic (mixG (ints (splitN t ws)) k)) 3 ∧ Below w.heap.size w wr) (fun i _ => ws.length - (intOf i).toNat)
        case atStart => exact ⟨0, by omega, rfl, BO, HBW⟩
        case round =>
          obtain ⟨k, hk, rfl, BK, HBK⟩ := hrel
          rename World => wr
          clear BO HBW
          by_cases hlt : k < ws.length
          · obtain ⟨x, hxk⟩ := at_lt hlt
            have hxk2 : (ints ws)[k]? = some (x : Int) := by simp [ints, hxk]
            have HX := Lib.hid hxk
            have HX2 := Lib.hid hxk2
            obtain ⟨hf1, hf2, hf3⟩ := HFT.out x (List.mem_of_getElem? hxk)
            have hxr := hx.mono (HBK.mono hB)
            obtain ⟨b, o, hA, _, hc, _⟩ := int_at hxr hxk2
            have ER := Lib.hid (w64_rem ht hf1 hf3 hSb)
            have EQ := Lib.hid (w64_quo (S := S) ht hf1 hf2)
            obtain ⟨r, hr⟩ : ∃ r, rs t S x = r := ⟨_, rfl⟩
            have HR := Lib.hid hr
            rw [hr] at hf3 ER
            subst hA
            clear hxk hxk2 hr
            go_upto_region 18 with fail
            rw [ER.out]
            go_wp2
            go_loop [12, 14] (fun a j => ∃ m : Nat, m ≤ ws.length ∧ j = .int .i64 m ∧ a = .int .i64 (((partsOf t ws).take m).countP (fun y => before y (k, r)) : Nat)) (fun _ j => ws.length - (intOf j).toNat)
            case atStart => exact ⟨0, by omega, rfl, by simp⟩
            case round =>
              obtain ⟨m, hm, rfl, rfl⟩ := hrel
              by_cases hlm : m < ws.length
              · obtain ⟨z, hzm⟩ := at_lt hlm
                have hzm2 : (ints ws)[m]? = some (z : Int) := by simp [ints, hzm]
                obtain ⟨hg1, hg2, hg3⟩ := HFT.out z (List.mem_of_getElem? hzm)
                obtain ⟨_, _, hA, _, hcz, _⟩ := int_at hxr hzm2
                cases hA
                have EZ := Lib.hid (w64_rem ht hg1 hg3 hSb)
                have hp : (partsOf t ws)[m]? = some (m, rs t S z) := by rw [parts_at, hzm, HS.out]; rfl
                have HC := count_take (fun y => before y (k, r)) hp
                have hcl : ((partsOf t ws).take m).countP (fun y => before y (k, r)) ≤ m := Nat.le_trans List.countP_le_length (by rw [List.length_take]; exact Nat.min_le_left _ _)
                obtain ⟨q, hq⟩ : ∃ q, rs t S z = q := ⟨_, rfl⟩
                rw [hq] at EZ HC hg3
                obtain ⟨cn, hcn⟩ : ∃ cn, ((partsOf t ws).take m).countP (fun y => before y (k, r)) = cn := ⟨_, rfl⟩
                rw [hcn] at HC hcl ⊢
                have hbf := before_iff (m, q) (k, r)
                have p1 : ((r < q) = True ∧ ((partsOf t ws).take (m + 1)).countP (fun y => before y (k, r)) = cn + 1) ∨ ((r < q) = False ∧ ((q : Int) == (r : Int)) = true ∧ (m < k) = True ∧ ((partsOf t ws).take (m + 1)).countP (fun y => before y (k, r)) = cn + 1) ∨ ((r < q) = False ∧ ((q : Int) == (r : Int)) = true ∧ (m < k) = False ∧ ((partsOf t ws).take (m + 1)).countP (fun y => before y (k, r)) = cn) ∨ ((r < q) = False ∧ ((q : Int) == (r : Int)) = false ∧ ((partsOf t ws).take (m + 1)).countP (fun y => before y (k, r)) = cn) := by
                  simp only at hbf
                  rw [HC]
                  rcases Nat.lt_trichotomy q r with h | h | h
                  · exact .inr (.inr (.inr ⟨eq_false (by omega), by simp; omega, by rw [if_neg (by rw [hbf]; omega), Nat.add_zero]⟩))
                  · by_cases h2 : m < k
                    · exact .inr (.inl ⟨eq_false (by omega), by simp; omega, eq_true h2, by rw [if_pos (by rw [hbf]; omega)]⟩)
                    · exact .inr (.inr (.inl ⟨eq_false (by omega), by simp; omega, eq_false h2, by rw [if_neg (by rw [hbf]; omega), Nat.add_zero]⟩))
                  · exact .inl ⟨eq_true h, by rw [if_pos (by rw [hbf]; omega)]⟩
                clear hzm hzm2 hp hq hcn HC hbf hc
                go_upto_region 22 with fail
                rw [EZ.out]
                rcases p1 with ⟨f1, hn⟩ | ⟨f1, f2, f3, hn⟩ | ⟨f1, f2, f3, hn⟩ | ⟨f1, f2, hn⟩
                all_goals
                  have HN := Lib.hid hn
                  clear hn
                  go_wp2
                  go_round
                  case rel => exact ⟨m + 1, by omega, by go_num, by rw [HN.out] <;> go_num⟩
                  case measure => simp [intOf]; omega
              · have e : m = ws.length := by omega
                subst e
                have HA : Hid (((partsOf t ws).take ws.length).countP (fun y => before y (k, r)) = ahead t ws (k, r)) := Lib.hid (by rw [List.take_of_length_le (by rw [parts_len]; exact Nat.le_refl _)]; rfl)
                rw [HA.out]
                have hal : ahead t ws (k, r) ≤ ws.length := Nat.le_trans List.countP_le_length (by rw [parts_len]; exact Nat.le_refl _)
                have hg : (ints (splitN t ws))[k]? = some ((given t ws left k x : Nat) : Int) := by unfold ints; rw [List.getElem?_map, split_at HX.out, HLE.out]; rfl
                have hgv : given t ws left k x = fl t S x + if ahead t ws (k, r) < left then 1 else 0 := by unfold given; rw [HS.out, HR.out]
                obtain ⟨ah, hah⟩ : ∃ ah, ahead t ws (k, r) = ah := ⟨_, rfl⟩
                rw [hah] at hal hgv ⊢
                obtain ⟨gv, hgve⟩ : ∃ gv, given t ws left k x = gv := ⟨_, rfl⟩
                rw [hgve] at hg hgv
                obtain ⟨y, hy⟩ := mixG_at (l := ints (splitN t ws)) (k := k) (by rw [HGL.out]; exact hlt)
                have HST := Lib.hid (mixG_step hg)
                have HY := Lib.hid hy
                have cy := BK.cell k (ic_at hy)
                have fy := BK.free k
                obtain ⟨q, hq⟩ : ∃ q, fl t S x = q := ⟨_, rfl⟩
                rw [hq] at hgv EQ hf2
                clear HA hah hgve hy hq hg
                go_upto_region 25 with fail
                rw [EQ.out]
                have BK2 := BK.set k (.int .i64 (q : Nat))
                rw [ic_set] at BK2
                have HBK2 := below_set HBK (p := ⟨w.heap.size, k, none⟩) (Nat.le_refl _) (.int .i64 (q : Nat))
                generalize (wr.setCell ⟨w.heap.size, k, none⟩ (.int .i64 (q : Nat))) = w3 at *
                have cq := BK2.cell k (ic_at (set_at HY.out))
                have fq := BK2.free k
                clear BK HBK cy fy hc hxr
                by_cases hlf : ah < left
                · rw [if_pos hlf] at hgv
                  have f1 : (ah < left) = True := eq_true hlf
                  have HS3 : Hid ((ic ((mixG (ints (splitN t ws)) k).set k (q : Nat))).setIfInBounds k (.int .i64 ((q : Nat) + 1 : Int)) = ic (mixG (ints (splitN t ws)) (k + 1))) := Lib.hid (by
                    rw [ic_set, List.set_set, ← HST.out, hgv]; rfl)
                  clear hlf hgv
                  go_wp2
                  go_roundw
                  case rel =>
                    refine ⟨k + 1, by omega, by go_num, ?_, below_set HBK2 (p := ⟨w.heap.size, k, none⟩) (Nat.le_refl _) _⟩
                    rw [← HS3.out]
                    exact BK2.set k _
                  case measure => simp [intOf]; omega
                · rw [if_neg hlf] at hgv
                  have f1 : (ah < left) = False := eq_false hlf
                  have HG : Hid (gv = q) := Lib.hid hgv
                  clear hlf hgv
                  go_wp2
                  go_roundw
                  case rel =>
                    refine ⟨k + 1, by omega, by go_num, ?_, HBK2⟩
                    rw [← HST.out, HG.out]
                    exact BK2
                  case measure => simp [intOf]; omega
          · have e : k = ws.length := by omega
            subst e
            rw [← HGL.out, mixG_all] at BK
            go_wp2
            go_ret2
            refine ⟨_, rfl, .inr ⟨w.heap.size, ?_, Nat.le_refl _, BK⟩, HBK⟩
            rw [HGL.out]; rfl

end Go.Proofs.Yteeoccpnmibceaa.Sh
