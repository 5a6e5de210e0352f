/- Shares: the reference: where parts end; the statement ShareTells. -/
import Derived.Test.YteeoccpnmibceaaShare7
import Derived.Test.YteeoccpnmibceaaShareLaws1
namespace Go.Proofs.Yteeoccpnmibceaa.Sh
open Go.RowKit Go.Proofs.Yteeoccpnmibceaa.Kit
set_option linter.unusedVariables false
set_option linter.unusedSimpArgs false

set_option maxHeartbeats 1000000 in
theorem rends_any (T : Int) (A : Option Addr) (c : Nat) (L : List Int) (w : World) {B : Nat} (hB : B ≤ w.heap.size) (hx : Row (Rep.int .i64) w B A L) (hl : L.length ≤ 9223372036854775807) :
    Calls Try.prog 12 #[.int .i64 T, .slice A L.length c] w fun e w' => ∃ v, e = .returned (.tuple #[v, .int .i64 (splitE T L)]) ∧ Own w w' v (psum (splitV T L)) ∧ Below w.heap.size w w' := by
  have HC := Lib.hid (rsplit_any T A c L w hB hx hl)
  obtain ⟨h1, h2, h3⟩ := splitV_bd T L
  have hev := splitE_val T L
  clear hx
  obtain ⟨l, hle⟩ : ∃ l, splitV T L = l := ⟨_, rfl⟩
  obtain ⟨er, hee⟩ : ∃ er, splitE T L = er := ⟨_, rfl⟩
  rw [hle] at HC h1 h2 h3 hev ⊢
  rw [hee] at HC hev ⊢
  clear hle hee
  rcases hev with ⟨_, rfl, rfl⟩ | ⟨_, rfl⟩
  · clear h1 h2 h3
    go_enter Try.func12, Try.ntmps12
    go_wp2_with fail
    refine HC.out.mono ?_; rintro e w1 ⟨v, rfl, hown, hb⟩
    go_wp2
    go_ret2
    exact ⟨_, rfl, .inl ⟨rfl, rfl⟩, hb⟩
  · have H1 := Lib.hid h1
    clear h1
    go_enter Try.func12, Try.ntmps12
    go_wp2_with fail
    refine HC.out.mono ?_; rintro e w1 ⟨v, rfl, hown, hb⟩
    rcases hown with ⟨rfl, rfl⟩ | ⟨g, rfl, hg, BG⟩
    · go_wp2
      go_loop [9] (fun i => i = .int .i64 0) (fun _ => 0)
      case atStart => rfl
      case round =>
        subst hrel
        go_wp2
        go_ret2
        exact ⟨_, rfl, .inl ⟨rfl, rfl⟩, hb⟩
    · go_wp2
      rw [← mixE_zero l] at BG
      go_loopw [8, 9] (fun n i wr => ∃ k : Nat, k ≤ l.length ∧ i = .int .i64 k ∧ n = .int .i64 ((l.take k).sum) ∧ Box wr g (ic (mixE l k)) 3 ∧ Below w.heap.size w wr) (fun _ i _ => l.length - (intOf i).toNat)
      case atStart => exact ⟨0, by omega, rfl, rfl, BG, hb⟩
      case round =>
        obtain ⟨k, hk, rfl, rfl, BK, HB⟩ := hrel
        rename World => wr
        clear BG hb
        by_cases hlt : k < l.length
        · obtain ⟨x, hxk⟩ := at_lt hlt
          have cx := BK.cell k (ic_at (mixE_at hxk))
          have fx := BK.free k
          have hs := take_sum hxk
          have hS : Hid ((ic (mixE l k)).setIfInBounds k (.int .i64 ((l.take (k + 1)).sum)) = ic (mixE l (k + 1))) := Lib.hid (by rw [ic_set, mixE_step hlt])
          obtain ⟨hs0, hs1⟩ := take_bound H1.out k
          obtain ⟨hb0, hb1⟩ := take_bound H1.out (k + 1)
          have hx0 : 0 ≤ x := H1.out x (List.mem_of_getElem? hxk)
          obtain ⟨s, hse⟩ : ∃ s, (l.take k).sum = s := ⟨_, rfl⟩
          rw [hs] at hb0 hb1
          rw [hse] at hs0 hs1 hb0 hb1 hs ⊢
          have HS := Lib.hid hs
          have hs2 : s ≤ 1073741823 := by omega
          have hx1 : x ≤ 1073741823 := by omega
          clear hs hse hxk hs1 hb0 hb1
          go_wp2
          go_roundw
          case rel =>
            refine ⟨k + 1, by omega, by go_num, by rw [HS.out], ?_, below_set HB (p := ⟨g, k, none⟩) hg _⟩
            rw [← hS.out, HS.out]
            exact BK.set k _
          case measure => simp [intOf]; omega
        · have e : k = l.length := by omega
          subst e
          rw [mixE_all] at BK
          go_wp2
          go_ret2
          refine ⟨_, rfl, .inr ⟨g, ?_, hg, BK⟩, HB⟩
          rw [psum_len]; rfl

theorem rsplit_c (T : Int) (A : Option Addr) (n c : Nat) (L : List Int) (hn : Hid (n = L.length)) (w : World) {B : Nat} (hB : B ≤ w.heap.size) (hx : Row (Rep.int .i64) w B A L) (hl : L.length ≤ 9223372036854775807) {l : List Int} {e : Int} (hV : Hid (splitV T L = l)) (hE : Hid (splitE T L = e)) :
    Calls Try.prog 10 #[.int .i64 T, .slice A n c] w fun x w' => ∃ A' c', x = .returned (.tuple #[.slice A' l.length c', .int .i64 e]) ∧ Row (Rep.int .i64) w' w'.heap.size A' l ∧ Below w.heap.size w w' := by
  have hn := hn.out
  subst hn
  refine (rsplit_any T A c L w hB hx hl).mono fun x w' ⟨v, h1, h2, h3⟩ => ?_
  obtain ⟨A', c', rfl, hr⟩ := row_of_own h2 fun x hx => (splitV_wf T L x hx).2.2
  rw [hE.out, hV.out] at h1
  rw [hV.out] at hr
  exact ⟨A', c', h1, hr, h3⟩
theorem rends_c (T : Int) (A : Option Addr) (n c : Nat) (L : List Int) (hn : Hid (n = L.length)) (w : World) {B : Nat} (hB : B ≤ w.heap.size) (hx : Row (Rep.int .i64) w B A L) (hl : L.length ≤ 9223372036854775807) {l : List Int} {e : Int} (hV : Hid (psum (splitV T L) = l)) (hE : Hid (splitE T L = e)) :
    Calls Try.prog 12 #[.int .i64 T, .slice A n c] w fun x w' => ∃ A' c', x = .returned (.tuple #[.slice A' l.length c', .int .i64 e]) ∧ Row (Rep.int .i64) w' w'.heap.size A' l ∧ Below w.heap.size w w' := by
  have hn := hn.out
  subst hn
  refine (rends_any T A c L w hB hx hl).mono fun x w' ⟨v, h1, h2, h3⟩ => ?_
  obtain ⟨A', c', rfl, hr⟩ := row_of_own h2 fun x hx => (psum_wf T L x hx).2.2
  rw [hE.out, hV.out] at h1
  rw [hV.out] at hr
  exact ⟨A', c', h1, hr, h3⟩

set_option maxRecDepth 100000 in
set_option maxHeartbeats 2000000 in
theorem tells_walk (T : Int) (A : Option Addr) (n c : Nat) (L : List Int) (w : World) (hT : (Lit.int .i64 T).wf = true) (hL : (Rep.int .i64).slice.K w w.heap.size [.slice A n c] L) :
    Calls Try.prog 3 #[.int .i64 T, .slice A n c] w fun e w' => e = .returned (.bool true) ∧ Below w.heap.size w w' := by
  obtain ⟨rfl, hc1, hc2, hx⟩ := slice_of hL
  clear hL hT
  have hl : L.length ≤ 9223372036854775807 := by omega
  by_cases hbig : L.length ≤ 310
  · have F1 : ((310 : Int) < (L.length : Int)) = False := eq_false (by omega)
    obtain ⟨_, _, h3⟩ := splitV_bd T L
    have hpl := psum_len (splitV T L)
    obtain ⟨l, hle⟩ : ∃ l, splitV T L = l := ⟨_, rfl⟩
    obtain ⟨er, hee⟩ : ∃ er, splitE T L = er := ⟨_, rfl⟩
    obtain ⟨p, hpe⟩ : ∃ p, psum (splitV T L) = p := ⟨_, rfl⟩
    rw [hpe] at hpl
    rw [hle] at hpl h3
    have hp3 : p.length ≤ 9223372036854775807 := by omega
    have hl3 : l.length ≤ 9223372036854775807 := by omega
    have E1 := Lib.hid hee; have E2 := Lib.hid hle; have E3 := Lib.hid hpe
    clear hee hle hpe hpl h3
    go_enter Try.func3, Try.ntmps3
    go_wp2_with fail
    refine (awake_any _).mono ?_; rintro e w1 ⟨rfl, h1⟩
    go_wp2_with fail
    refine (split_c T _ _ _ L (Lib.hid rfl) _ (B := w.heap.size) h1.size (hx.mono h1) hl E2 E1).mono ?_; rintro e w2 ⟨A1, c1, rfl, r1, h2⟩
    have k2 := below_join h1 h2
    go_wp2_with fail
    refine (rsplit_c T _ _ _ L (Lib.hid rfl) _ (B := w.heap.size) k2.size (hx.mono k2) hl E2 E1).mono ?_; rintro e w3 ⟨A2, c2, rfl, r2, h3⟩
    have k3 := below_join k2 h3
    go_wp2_with fail
    refine (ends_c T _ _ _ L (Lib.hid rfl) _ (B := w.heap.size) k3.size (hx.mono k3) hl E3 E1).mono ?_; rintro e w4 ⟨A3, c3, rfl, r3, h4⟩
    have k4 := below_join k3 h4
    go_wp2_with fail
    refine (rends_c T _ _ _ L (Lib.hid rfl) _ (B := w.heap.size) k4.size (hx.mono k4) hl E3 E1).mono ?_; rintro e w5 ⟨A4, c4, rfl, r4, h5⟩
    have k5 := below_join k4 h5
    have q1 := r1.mono (below_join (below_join h3 h4) h5)
    have q2 := r2.mono (below_join h4 h5)
    have q3 := fun w' (h6 : Below w5.heap.size w5 w') => r3.mono (below_join h5 h6)
    have Q3 := Lib.hid q3
    have z2 := h3.size; have z3 := h4.size; have z4 := h5.size
    clear hx r1 r2 r3 q3 h1 h2 h3 h4 k2 k3 k4
    go_wp2_with fail
    refine (same_c _ _ _ _ _ _ l l (Lib.hid rfl) (Lib.hid rfl) _ (B := w2.heap.size) (B' := w3.heap.size) (by omega) (by omega) q1 q2 hl3 hl3 (r := true) (Lib.hid (by simp))).mono ?_; rintro e w6 ⟨rfl, h6⟩
    have q3' := Q3.out _ h6
    have q4' := r4.mono h6
    have z5 := h6.size
    go_wp2_with fail
    refine (same_c _ _ _ _ _ _ p p (Lib.hid rfl) (Lib.hid rfl) _ (B := w4.heap.size) (B' := w5.heap.size) (by omega) (by omega) q3' q4' hp3 hp3 (r := true) (Lib.hid (by simp))).mono ?_; rintro e w7 ⟨rfl, h7⟩
    go_wp2
    go_ret
    exact ⟨ret_true rfl (by simp), below_join (below_join k5 h6) h7⟩
  · have F1 : ((310 : Int) < (L.length : Int)) = True := eq_true (by omega)
    go_enter Try.func3, Try.ntmps3
    go_wp2_with fail
    refine (awake_any _).mono ?_; rintro e w1 ⟨rfl, h1⟩
    go_wp2
    go_ret
    exact ⟨rfl, h1⟩

end Go.Proofs.Yteeoccpnmibceaa.Sh
