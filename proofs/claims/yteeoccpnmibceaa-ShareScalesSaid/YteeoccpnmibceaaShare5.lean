/- Shares: where parts end; two lists compared. -/
import Derived.Test.YteeoccpnmibceaaShare4
import Derived.RegionTactic
import Derived.ChangeAlike
namespace Go.Proofs.Yteeoccpnmibceaa.Sh
open Go.RowKit Go.Proofs.Yteeoccpnmibceaa.Kit
set_option linter.unusedVariables false
set_option linter.unusedSimpArgs false

theorem box_drewN {w : World} {g : Nat} {cs : Array Value} {t : TypeId} (h : Box w g cs t) (n : Nat) : Box (w.drewN n) g cs t := h
/-- Where parts end. -/
def psum (l : List Int) : List Int := (List.range l.length).map fun i => (l.take (i + 1)).sum
theorem psum_at {l : List Int} {i : Nat} (h : i < l.length) : (psum l)[i]? = some ((l.take (i + 1)).sum) := by simp [psum, h]
theorem psum_len (l : List Int) : (psum l).length = l.length := by simp [psum]
def mixE (l : List Int) (k : Nat) : List Int := (psum l).take k ++ l.drop k
theorem mixE_zero (l : List Int) : mixE l 0 = l := by simp [mixE]
theorem mixE_all (l : List Int) : mixE l l.length = psum l := by
  unfold mixE
  rw [List.drop_length, List.append_nil, List.take_of_length_le (by rw [psum_len]; exact Nat.le_refl _)]
theorem mixE_at {l : List Int} {k : Nat} {x : Int} (h : l[k]? = some x) : (mixE l k)[k]? = some x := by
  have hk : k < l.length := (List.getElem?_eq_some_iff.1 h).1
  unfold mixE
  rw [List.getElem?_append_right (by rw [List.length_take]; exact Nat.min_le_left _ _), List.length_take, psum_len]
  rw [show k - min k l.length = 0 by omega, List.getElem?_drop, Nat.add_zero, h]
theorem mixE_before {l : List Int} {k : Nat} (h : k < l.length) : (mixE l (k + 1))[k]? = some ((l.take (k + 1)).sum) := by
  unfold mixE
  rw [List.getElem?_append_left (by rw [List.length_take, psum_len]; omega), List.getElem?_take_of_lt (by omega), psum_at h]
theorem mixE_step {l : List Int} {k : Nat} (h : k < l.length) : (mixE l k).set k ((l.take (k + 1)).sum) = mixE l (k + 1) := by
  unfold mixE
  rw [List.set_append_right _ _ (by rw [List.length_take]; exact Nat.min_le_left _ _), List.length_take, psum_len, show k - min k l.length = 0 by omega, List.drop_eq_getElem_cons h, List.set_cons_zero]
  have hp : k < (psum l).length := by rw [psum_len]; exact h
  rw [List.take_succ_eq_append_getElem hp, List.append_assoc]
  have e : (psum l)[k]'(by rw [psum_len]; exact h) = (l.take (k + 1)).sum := by
    obtain ⟨_, h2⟩ := List.getElem?_eq_some_iff.1 (psum_at h)
    exact h2
  rw [e]; rfl
theorem take_sum {l : List Int} {k : Nat} {x : Int} (h : l[k]? = some x) : (l.take (k + 1)).sum = (l.take k).sum + x := by
  obtain ⟨hk, rfl⟩ := List.getElem?_eq_some_iff.1 h
  rw [List.take_succ_eq_append_getElem hk, List.sum_append]; simp
theorem sum_nonneg {l : List Int} (h : ∀ x ∈ l, 0 ≤ x) : 0 ≤ l.sum := by
  induction l with
  | nil => simp
  | cons a l ih =>
    rw [List.sum_cons]
    have := ih fun x hx => h x (List.mem_cons_of_mem _ hx)
    have := h a (List.mem_cons_self ..)
    omega
theorem take_bound {l : List Int} (h : ∀ x ∈ l, 0 ≤ x) (k : Nat) : 0 ≤ (l.take k).sum ∧ (l.take k).sum ≤ l.sum := by
  have h1 := sum_nonneg fun x hx => h x (List.mem_of_mem_take (i := k) hx)
  have h2 := sum_nonneg fun x hx => h x (List.mem_of_mem_drop (i := k) hx)
  have h3 : l.sum = (l.take k).sum + (l.drop k).sum := by rw [← List.sum_append, List.take_append_drop]
  omega
theorem sum_ints (l : List Nat) : (ints l).sum = (l.sum : Nat) := by
  induction l with
  | nil => rfl
  | cons a l ih => unfold ints at *; rw [List.map_cons, List.sum_cons, List.sum_cons, ih]; simp
theorem splitV_in {T : Int} {L : List Int} (h : mayS T L = true) : (∀ x ∈ splitV T L, 0 ≤ x) ∧ (splitV T L).sum = T ∧ (splitV T L).length = L.length := by
  obtain ⟨hT, hl, hall, hpos⟩ := may_true h
  unfold splitV
  rw [h, if_pos rfl]
  by_cases h0 : T = 0
  · rw [if_pos h0]
    refine ⟨fun x hx => ?_, ?_, by simp⟩
    · have := List.eq_of_mem_replicate hx; omega
    · rw [List.sum_replicate_int]; simp [h0]
  · rw [if_neg h0]
    refine ⟨fun x hx => ?_, ?_, by simp [ints, split_len, nats]⟩
    · obtain ⟨n, _, rfl⟩ := List.mem_map.1 hx; omega
    · rw [sum_ints, split_sum _ _ (by omega)]; omega
theorem splitV_bd (T : Int) (L : List Int) : (∀ x ∈ splitV T L, 0 ≤ x) ∧ (splitV T L).sum ≤ 1073741823 ∧ (splitV T L).length ≤ 300 := by
  cases h : mayS T L with
  | false => have e : splitV T L = [] := by unfold splitV; rw [h]; rfl
             rw [e]; simp
  | true =>
    have h1 := splitV_in h
    have h2 := may_true h
    exact ⟨h1.1, by omega, by omega⟩

set_option maxHeartbeats 2000000 in
theorem ends_any (T : Int) (A : Option Addr) (c : Nat) (L : List Int) (w : World) {B : Nat} (hB : B ≤ w.heap.size) (hx : Row (Rep.int .i64) w B A L) (hl : L.length ≤ 9223372036854775807) :
    Calls Try.prog 11 #[.int .i64 T, .slice A L.length c] w fun e w' => ∃ v, e = .returned (.tuple #[v, .int .i64 (splitE T L)]) ∧ Own w w' v (psum (splitV T L)) ∧ Below w.heap.size w w' := by
  have HC := Lib.hid (split_any T A c L w hB hx hl)
  obtain ⟨h1, h2, h3⟩ := splitV_bd T L
  clear hx
  generalize splitV T L = l at *
  generalize splitE T L = er at *
  have H1 := Lib.hid h1
  clear h1
  go_enter Try.func11, Try.ntmps11
  go_wp2_with fail
  refine HC.out.mono ?_; rintro e w1 ⟨v, rfl, hown, hb⟩
  rcases hown with ⟨rfl, rfl⟩ | ⟨g, rfl, hg, BG⟩
  · go_wp2
    go_loop [17] (fun i => i = .int .i64 0) (fun _ => 0)
    case atStart => rfl
    case round =>
      subst hrel
      go_wp2
      go_ret2
      exact ⟨_, rfl, .inl ⟨rfl, rfl⟩, hb⟩
  · go_wp2
    rw [← mixE_zero l] at BG
    go_loopw [17] (fun i wr => ∃ k : Nat, k ≤ l.length ∧ i = .int .i64 k ∧ Box wr g (ic (mixE l k)) 3 ∧ Below w.heap.size w wr) (fun i _ => l.length - (intOf i).toNat)
    case atStart => exact ⟨0, by omega, rfl, BG, hb⟩
    case round =>
      obtain ⟨k, hk, rfl, BK, HB⟩ := hrel
      rename World => wr
      clear BG hb
      by_cases hlt : k < l.length
      · obtain ⟨x, hxk⟩ := at_lt hlt
        have cx := BK.cell k (ic_at (mixE_at hxk))
        have fx := BK.free k
        have hs := take_sum hxk
        have hS : Hid ((ic (mixE l k)).setIfInBounds k (.int .i64 ((l.take (k + 1)).sum)) = ic (mixE l (k + 1))) := Lib.hid (by rw [ic_set, mixE_step hlt])
        rcases Nat.eq_zero_or_pos k with rfl | hpos
        · have e1 : mixE l 1 = mixE l 0 := by
            rw [← mixE_step hlt, hs]
            simp only [List.take_zero, List.sum_nil, Int.zero_add]
            exact List.ext_getElem? fun i => by
              rw [List.getElem?_set]
              split
              · rename_i h; subst h
                rw [mixE_at hxk]
                split
                · rfl
                · rename_i h2; exact absurd (show 0 < (mixE l 0).length by rw [mixE_zero]; exact hlt) h2
              · rfl
          have E1 := Lib.hid e1
          clear e1 hs hxk
          go_wp2
          go_roundw
          case rel => exact ⟨1, by omega, by go_num, by rw [E1.out]; exact BK, HB⟩
          case measure => simp [intOf]; omega
        · obtain ⟨j, rfl⟩ : ∃ j, k = j + 1 := ⟨k - 1, by omega⟩
          have cb := BK.cell j (ic_at (mixE_before (by omega)))
          obtain ⟨hs0, hs1⟩ := take_bound H1.out (j + 1)
          obtain ⟨hb0, hb1⟩ := take_bound H1.out (j + 1 + 1)
          rw [hs] at hb0 hb1
          obtain ⟨s, hse⟩ : ∃ s, (l.take (j + 1)).sum = s := ⟨_, rfl⟩
          rw [hse] at hs0 hs1 hb0 hb1 hs cb
          clear hse
          have HS := Lib.hid hs
          have hx0 : 0 ≤ x := H1.out x (List.mem_of_getElem? hxk)
          have hs1 : s ≤ 1073741823 := by omega
          have hx1 : x ≤ 1073741823 := by omega
          have EJ : IntKind.i64.wrap (((j + 1 : Nat) : Int) - 1) = (j : Int) := by rw [IntKind.wrap_i64]; omega
          have ej : ((j + 1 : Nat) : Int) - 1 = (j : Int) := by omega
          have ec : ((j + 1 : Nat) : Int) = (j : Int) + 1 := by omega
          have hp : (0 : Int) < (j : Int) + 1 := by omega
          clear hs hxk hb0 hb1 
          go_upto_region 6 with fail
          go_region
          go_wp2
          go_roundw
          case rel =>
            refine ⟨j + 1 + 1, by omega, by go_num, ?_, below_set (below_drew HB) (p := ⟨g, j + 1, none⟩) hg _⟩
            rw [← hS.out, HS.out, Int.add_comm]
            exact (BK.drew).set (j + 1) _
          case measure => simp [intOf]; omega
      · have e : k = l.length := by omega
        subst e
        rw [mixE_all] at BK
        go_wp2
        go_ret2
        refine ⟨_, rfl, .inr ⟨g, ?_, hg, BK⟩, HB⟩
        rw [psum_len]; rfl

/-! ### Two lists -/
set_option maxHeartbeats 1000000 in
theorem same_any (A A' : Option Addr) (c c' : Nat) (l l' : List Int) (w : World) {B B' : Nat} (hB : B ≤ w.heap.size) (hB' : B' ≤ w.heap.size) (hx : Row (Rep.int .i64) w B A l) (hy : Row (Rep.int .i64) w B' A' l') (hl : l.length ≤ 9223372036854775807) (hl' : l'.length ≤ 9223372036854775807) :
    Calls Try.prog 13 #[.slice A l.length c, .slice A' l'.length c'] w fun e w' => e = .returned (.bool (decide (l = l'))) ∧ Below w.heap.size w w' := by
  obtain ⟨r, hr⟩ : ∃ r, Hid (decide (l = l') = r) := ⟨_, Lib.hid rfl⟩
  rw [hr.out]
  by_cases hlen : l.length = l'.length
  · have hb : ((l.length : Int) != (l'.length : Int)) = false := by simp; omega
    have hle : l.length ≤ l'.length := by omega
    have HLEN := Lib.hid hlen
    clear hlen
    go_enter Try.func13, Try.ntmps13
    go_wp2
    go_loopw [5] (fun i wr => ∃ k : Nat, k ≤ l.length ∧ i = .int .i64 k ∧ Hid (l.take k = l'.take k) ∧ ∃ q, wr = w.drewN q) (fun i _ => l.length - (intOf i).toNat)
    case atStart => exact ⟨0, by omega, rfl, Lib.hid (by simp), 0, rfl⟩
    case round =>
      obtain ⟨k, hk, rfl, HS, q, rfl⟩ := hrel
      by_cases hlt : k < l.length
      · have hlt' : k < l'.length := by omega
        obtain ⟨x, hxk⟩ := at_lt hlt
        obtain ⟨y, hyk⟩ := at_lt hlt'
        obtain ⟨b, o, hA, _, hc, _⟩ := int_at hx hxk
        obtain ⟨b', o', hA', _, hc', _⟩ := int_at hy hyk
        subst hA; subst hA'
        by_cases he : x = y
        · have hn : (x != y) = false := by simp [he]
          have HN : Hid (l.take (k + 1) = l'.take (k + 1)) := Lib.hid (by
            obtain ⟨h1, h2⟩ := List.getElem?_eq_some_iff.1 hxk
            obtain ⟨h3, h4⟩ := List.getElem?_eq_some_iff.1 hyk
            rw [List.take_succ_eq_append_getElem h1, List.take_succ_eq_append_getElem h3, HS.out, h2, h4, he])
          clear he hxk hyk
          go_upto_region 6 with fail
          go_quiet (fail)
          go_wp2
          go_roundw
          case rel => exact ⟨k + 1, by omega, by go_num, HN, _, rfl⟩
          case measure => simp [intOf]; omega
        · have hn : (x != y) = true := by simpa using he
          have HE : Hid (false = r) := Lib.hid (by
            rw [← hr.out]
            symm
            apply decide_eq_false
            intro h
            rw [h, hyk] at hxk
            cases hxk
            exact he rfl)
          clear he hxk hyk
          go_upto_region 6 with fail
          go_quiet (fail)
          go_wp2
          go_ret
          exact ⟨ret_bool rfl HE.out, ⟨rfl, rfl, rfl, Nat.le_refl _, fun _ _ => rfl⟩⟩
      · have HE : Hid (true = r) := Lib.hid (by
          rw [← hr.out]
          symm
          apply decide_eq_true
          have h := HS.out
          rw [List.take_of_length_le (by omega), List.take_of_length_le (by have := HLEN.out; omega)] at h
          exact h)
        go_wp2
        go_ret
        exact ⟨ret_bool rfl HE.out, ⟨rfl, rfl, rfl, Nat.le_refl _, fun _ _ => rfl⟩⟩
  · have hb : ((l.length : Int) != (l'.length : Int)) = true := by simp; omega
    have HE : Hid (false = r) := Lib.hid (by
      rw [← hr.out]
      symm
      apply decide_eq_false
      intro h
      exact hlen (by rw [h]))
    clear hlen
    go_enter Try.func13, Try.ntmps13
    go_wp2
    go_ret
    exact ⟨ret_bool rfl HE.out, Below.refl _ _⟩

end Go.Proofs.Yteeoccpnmibceaa.Sh
