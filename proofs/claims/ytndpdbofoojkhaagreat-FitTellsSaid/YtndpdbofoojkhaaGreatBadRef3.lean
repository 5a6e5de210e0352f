/- The reference of layer 3: what its call answers. -/
import Derived.Test.YtndpdbofoojkhaaGreatBadRef2
namespace Go.Proofs.YtndpdbofoojkhaaGreat.Bad
open Go.RowKit Go.Proofs.YtndpdbofoojkhaaGreat.Kit
set_option linter.unusedVariables false
set_option linter.unusedSimpArgs false

def limL (N : Nat) : List Value := [.int .i64 (dg N 0), .int .i64 (dg N 1), .int .i64 (dg N 2), .int .i64 (dg N 3), .int .i64 (dg N 4), .int .i64 (dg N 5), .int .i64 (dg N 6), .int .i64 (dg N 7), .int .i64 (dg N 8), .int .i64 (dg N 9)]
theorem limL_one (N : Nat) : ∀ v ∈ limL N, v.oneCell' = true := by
  intro v hv
  simp only [limL, List.mem_cons, List.not_mem_nil, or_false] at hv
  rcases hv with rfl | rfl | rfl | rfl | rfl | rfl | rfl | rfl | rfl | rfl <;> rfl
theorem rangeAt_box {w : World} {g : Nat} {cs : List Value} {t : TypeId} (h : Box w g cs.toArray t) : w.rangeAt g 0 cs := fun j v hv => by
  rw [Nat.zero_add]
  exact h.cell j (by simpa using hv)
theorem rangeAt_on {W w : World} {g : Nat} {cs : List Value} (hb : Below W.heap.size W w) (h : W.rangeAt g 0 cs) : w.rangeAt g 0 cs := fun j v hv => later hb (h j v hv)
theorem there_on {W w : World} {g n : Nat} (hb : Below W.heap.size W w) (h : W.there g 0 n) : w.there g 0 n := fun j hj => by
  obtain ⟨h1, h2⟩ := h j hj
  obtain ⟨v, hv⟩ := Option.isSome_iff_exists.1 h1
  obtain ⟨hc, hf⟩ := bcell hb
  have hl := World.block_lt_of_cell? W _ hv
  rw [hc _ _ hl, hf _ _ hl]
  exact ⟨h1, h2⟩
theorem there_new (w : World) (N : Nat) : (w.alloc (.cells #[.int .i64 0, .int .i64 0, .int .i64 0, .int .i64 0, .int .i64 0, .int .i64 0, .int .i64 0, .int .i64 0, .int .i64 0, .int .i64 0] 170)).there w.heap.size 0 (limL N).toArray.size := fun j hj => by
  have B := Box.new w #[.int .i64 0, .int .i64 0, .int .i64 0, .int .i64 0, .int .i64 0, .int .i64 0, .int .i64 0, .int .i64 0, .int .i64 0, .int .i64 0] 170
  rw [Nat.zero_add]
  have hj' : j < 10 := hj
  refine ⟨?_, B.free j⟩
  have e : _ = some (Value.int .i64 0) := B.cell j (by
    match j, hj' with
    | 0, _ => rfl | 1, _ => rfl | 2, _ => rfl | 3, _ => rfl | 4, _ => rfl | 5, _ => rfl | 6, _ => rfl | 7, _ => rfl | 8, _ => rfl | 9, _ => rfl)
  rw [e]; rfl
theorem there_newd (w : World) (N : Nat) : (w.alloc (.cells #[.int .i64 0, .int .i64 0, .int .i64 0, .int .i64 0, .int .i64 0, .int .i64 0, .int .i64 0, .int .i64 0, .int .i64 0, .int .i64 0] 170)).drew.there w.heap.size 0 (limL N).toArray.size := there_new w N
theorem below_sets {W : World} {g : Nat} (hg : W.heap.size ≤ g) : ∀ (vs : List Value) (o : Nat) {w : World}, Below W.heap.size W w → Below W.heap.size W (w.setCells g o vs)
  | [], _, _, h => h
  | v :: r, o, _, h => below_sets hg r (o + 1) (below_set h hg v)
theorem of_c {n : Nat} (hn : Hid (n ≤ 1073741823)) (w : World) :
    Calls Tryz.prog 102 #[.int .i64 n] w fun e w' => e = .returned (.agg (lim n)) ∧ Below w.heap.size w w' := of_any n hn.out w
theorem rtimes_c (N : Nat) {n : Nat} {m : Int} (hm : Hid (m = n)) (hn : Hid (n ≤ 1099511627776)) (w : World) :
    Calls Tryz.prog 101 #[.agg (lim N), .int .i64 m] w fun e w' => e = .returned (.agg (lim (N * n))) ∧ Below w.heap.size w w' := by
  have e := hm.out
  subst e
  exact rtimes_any N n hn.out w
/-- The like, the answer's cells written out. -/
theorem rcube_c {n : Nat} (hn : Hid (n ≤ 1073741823)) (w : World) :
    Calls Tryz.prog 101 #[.agg (lim (n * n)), .int .i64 n] w fun e w' => e = .returned (.agg #[.int .i64 (dg (cube n) 0), .int .i64 (dg (cube n) 1), .int .i64 (dg (cube n) 2), .int .i64 (dg (cube n) 3), .int .i64 (dg (cube n) 4), .int .i64 (dg (cube n) 5), .int .i64 (dg (cube n) 6), .int .i64 (dg (cube n) 7), .int .i64 (dg (cube n) 8), .int .i64 (dg (cube n) 9)]) ∧ Below w.heap.size w w' := rtimes_any (n * n) n (by have := hn.out; omega) w
theorem r200_c (T : Nat) (w : World) :
    Calls Tryz.prog 101 #[.agg (lim (T * T * T)), .int .i64 200] w fun e w' => e = .returned (.agg (lim (cube T * 200))) ∧ Below w.heap.size w w' := rtimes_any (cube T) 200 (by omega) w
theorem rmost_c (T S : Nat) (w : World) :
    Calls Tryz.prog 103 #[.agg (lim (cube T * 200)), .agg (limL (cube S)).toArray] w fun e w' => e = .returned (.agg (limL (cube T * 200 + cube S)).toArray) ∧ Below w.heap.size w w' := rplus_any (cube T * 200) (cube S) w
theorem rtwice_c (S b : Nat) {m : Int} (hm : Hid (m = ((2 * b : Nat) : Int))) (hb : Hid (b ≤ 10000)) (w : World) :
    Calls Tryz.prog 101 #[.agg (limL (cube S)).toArray, .int .i64 m] w fun e w' => e = .returned (.agg (lim (cube S * (2 * b)))) ∧ Below w.heap.size w w' :=
  rtimes_c (cube S) hm (Lib.hid (by have := hb.out; omega)) w
theorem rabove_c (T S b : Nat) {r : Bool} (hr : Hid (decide (cube T * 200 + cube S < cube S * (2 * b)) = r)) (hT : Hid (T ≤ 1073741823)) (hS : Hid (S ≤ 1073741823)) (hb : Hid (b ≤ 10000)) (w : World) :
    Calls Tryz.prog 104 #[.agg (lim (cube S * (2 * b))), .agg (limL (cube T * 200 + cube S)).toArray] w fun e w' => e = .returned (.bool r) ∧ Below w.heap.size w w' := by
  have h1 := cube_le hT.out
  have h2 := cube_le hS.out
  have h3 := Nat.mul_le_mul h2 (show 2 * b ≤ 20000 by have := hb.out; omega)
  rw [← hr.out]
  exact rabove_any (cube S * (2 * b)) (cube T * 200 + cube S) (by omega) (by omega) w


set_option maxRecDepth 100000 in
set_option maxHeartbeats 4000000 in
theorem refbad_any (t s : Int) (w : World) :
    Calls Tryz.prog 87 #[.int .i64 t, .int .i64 s] w fun e w' => e = .returned (.int .i64 (badP (cl t) (cl s))) ∧ Below w.heap.size w w' := by
  have hT := cl_bd t
  have hS := cl_bd s
  obtain ⟨T, ET⟩ : ∃ T, Hid (cl t = T) := ⟨_, Lib.hid rfl⟩
  obtain ⟨S, ES⟩ : ∃ S, Hid (cl s = S) := ⟨_, Lib.hid rfl⟩
  have HT1 : Hid (∀ w, _) := Lib.hid (held_any t)
  have HS1 : Hid (∀ w, _) := Lib.hid (held_any s)
  rw [ET.out] at hT HT1
  rw [ES.out] at hS HS1
  rw [ET.out, ES.out]
  by_cases h0 : T = 0
  · subst h0
    rw [badP_zero]
    go_enter Tryz.func87, Tryz.ntmps87
    go_wp2_with fail
    refine (HT1.out _).mono ?_; rintro e w1 ⟨rfl, rfl⟩
    go_wp2_with fail
    refine (HS1.out _).mono ?_; rintro e w1 ⟨rfl, rfl⟩
    go_wp2
    go_ret
    exact ⟨rfl, Below.refl _ _⟩
  have h0' : ((T : Int) == 0) = false := by simpa using h0
  by_cases h1 : S = 0
  · subst h1
    rw [badP_none h0]
    clear h0
    go_enter Tryz.func87, Tryz.ntmps87
    go_wp2_with fail
    refine (HT1.out _).mono ?_; rintro e w1 ⟨rfl, rfl⟩
    go_wp2_with fail
    refine (HS1.out _).mono ?_; rintro e w1 ⟨rfl, rfl⟩
    go_wp2
    go_ret
    exact ⟨rfl, Below.refl _ _⟩
  have h1' : ((S : Int) == 0) = false := by simpa using h1
  obtain ⟨q, HP⟩ : ∃ q, Hid (badP T S = q) := ⟨_, Lib.hid rfl⟩
  have hq : q ≤ 10000 := by rw [← HP.out]; exact badP_le T S
  have hlow : Hid (∀ b, b ≤ q → decide (cube T * 200 + cube S < cube S * (2 * b)) = false) := Lib.hid fun b hb => by
    have hf := (badP_fits (T := T) (S := S) h1).1
    rw [HP.out] at hf
    have := Nat.mul_le_mul_right (2 * cube S) hb
    have e : cube S * (2 * b) = b * (2 * cube S) := by rw [Nat.mul_left_comm, Nat.mul_comm (cube S), ← Nat.mul_assoc, Nat.mul_comm 2, Nat.mul_assoc]
    exact decide_eq_false (by rw [e]; omega)
  have hhigh : Hid (∀ b, q < b → b ≤ 10000 → decide (cube T * 200 + cube S < cube S * (2 * b)) = true) := Lib.hid fun b hb hb2 => by
    have hf := (badP_fits (T := T) (S := S) h1).2
    rw [HP.out] at hf
    have := Nat.mul_le_mul_right (2 * cube S) (show q + 1 ≤ b from hb)
    have e : cube S * (2 * b) = b * (2 * cube S) := by rw [Nat.mul_left_comm, Nat.mul_comm (cube S), ← Nat.mul_assoc, Nat.mul_comm 2, Nat.mul_assoc]
    exact decide_eq_true (by rw [e]; omega)
  rw [HP.out]
  have LT := Lib.hid hT; have LS := Lib.hid hS
  have MT : Hid (T ≤ 1099511627776) := Lib.hid (by omega)
  have MS : Hid (S ≤ 1099511627776) := Lib.hid (by omega)
  clear h0 h1
  have hu : Tryz.prog.underlying 170 = _ := Tryz.underlying170
  have hi1 : (Tryz.prog.info? 170).map (·.size) = some (limL (cube S)).length := by kernel_rfl
  have hi2 : (Tryz.prog.info? 170).map (·.size) = some (limL (cube T * 200 + cube S)).toArray.size := by kernel_rfl
  have hi3 : (Tryz.prog.info? 170).map (·.size) = some (limL (cube T * 200 + cube S)).length := by kernel_rfl
  have hone := limL_one (cube T * 200 + cube S)
  go_enter Tryz.func87, Tryz.ntmps87
  go_wp2_with fail
  refine (HT1.out _).mono ?_; rintro e w1 ⟨rfl, rfl⟩
  go_wp2_with fail
  refine (HS1.out _).mono ?_; rintro e w1 ⟨rfl, rfl⟩
  go_wp2_with fail
  refine (of_c LS _).mono ?_; rintro e w1 ⟨rfl, hb1⟩
  go_wp2_with fail
  refine (rtimes_c S (Lib.hid rfl) MS _).mono ?_; rintro e w2 ⟨rfl, hb2⟩
  go_wp2_with fail
  refine (rcube_c LS _).mono ?_; rintro e w3 ⟨rfl, hb3⟩
  have HW2 : Below w.heap.size w (w3.alloc (.cells #[.int .i64 (dg (cube S) 0), .int .i64 (dg (cube S) 1), .int .i64 (dg (cube S) 2), .int .i64 (dg (cube S) 3), .int .i64 (dg (cube S) 4), .int .i64 (dg (cube S) 5), .int .i64 (dg (cube S) 6), .int .i64 (dg (cube S) 7), .int .i64 (dg (cube S) 8), .int .i64 (dg (cube S) 9)] 170)) := below_alloc (below_join (below_join hb1 hb2) hb3) _
  obtain ⟨g5, hg5⟩ : ∃ g5, g5 = w3.heap.size := ⟨_, rfl⟩
  have B5 : Box (w3.alloc (.cells #[.int .i64 (dg (cube S) 0), .int .i64 (dg (cube S) 1), .int .i64 (dg (cube S) 2), .int .i64 (dg (cube S) 3), .int .i64 (dg (cube S) 4), .int .i64 (dg (cube S) 5), .int .i64 (dg (cube S) 6), .int .i64 (dg (cube S) 7), .int .i64 (dg (cube S) 8), .int .i64 (dg (cube S) 9)] 170)) g5 (limL (cube S)).toArray 170 := by rw [hg5]; exact Box.new _ _ _
  go_upto_region 8 with fail
  rw [← hg5]
  clear hb1 hb2 hb3 hg5
  generalize (w3.alloc (.cells #[.int .i64 (dg (cube S) 0), .int .i64 (dg (cube S) 1), .int .i64 (dg (cube S) 2), .int .i64 (dg (cube S) 3), .int .i64 (dg (cube S) 4), .int .i64 (dg (cube S) 5), .int .i64 (dg (cube S) 6), .int .i64 (dg (cube S) 7), .int .i64 (dg (cube S) 8), .int .i64 (dg (cube S) 9)] 170)) = W at *
  have R5 := rangeAt_box B5
  clear B5
  go_cut [6] (fun v wx => ∃ g6, v = .pointer (some ⟨g6, 0, none⟩) ∧ wx.rangeAt g6 0 (limL (cube T * 200 + cube S)) ∧ Below W.heap.size W wx)
  case first =>
    have HK : Hid (∀ w', Below W.heap.size W w' → Below W.heap.size W w' ∧ w'.rangeAt g5 0 (limL (cube S))) := Lib.hid fun w' hb => ⟨hb, rangeAt_on hb R5⟩
    go_region_held3 (fun w' => Below W.heap.size W w' ∧ w'.rangeAt g5 0 (limL (cube S)))
      (first | exact HK.out _ (by repeat (first | (with_reducible exact Below.refl _ _) | (with_reducible apply below_drew) | (with_reducible apply below_alloc) | (with_reducible refine below_sets (by first | (simp; done) | exact (show Below W.heap.size W _ from by repeat (first | (with_reducible exact Below.refl _ _) | (with_reducible apply below_drew) | (with_reducible apply below_alloc) | (with_reducible refine below_join ?_ (by assumption)))).size) _ _ ?_) | (with_reducible refine below_join ?_ (by assumption)))))
      (first
        | (go_at_call 102; with_reducible refine (of_c LT _).mono ?_; rintro e wq ⟨rfl, hbq⟩; (first | have th := there_on hbq (there_newd _ (cube T * 200 + cube S)) | have th := there_on hbq (there_new _ (cube T * 200 + cube S)) | have th := there_on hbq th | skip); have ta := there_new wq (cube T * 200 + cube S))
        | (go_at_call 101; with_reducible refine (rtimes_c T (Lib.hid rfl) MT _).mono ?_; rintro e wq ⟨rfl, hbq⟩; (first | have th := there_on hbq (there_newd _ (cube T * 200 + cube S)) | have th := there_on hbq (there_new _ (cube T * 200 + cube S)) | have th := there_on hbq th | skip); have ta := there_new wq (cube T * 200 + cube S))
        | (go_at_call 101; with_reducible refine (rtimes_c (T * T) (Lib.hid rfl) MT _).mono ?_; rintro e wq ⟨rfl, hbq⟩; (first | have th := there_on hbq (there_newd _ (cube T * 200 + cube S)) | have th := there_on hbq (there_new _ (cube T * 200 + cube S)) | have th := there_on hbq th | skip); have ta := there_new wq (cube T * 200 + cube S))
        | (go_at_call 101; with_reducible refine (r200_c T _).mono ?_; rintro e wq ⟨rfl, hbq⟩; (first | have th := there_on hbq (there_newd _ (cube T * 200 + cube S)) | have th := there_on hbq (there_new _ (cube T * 200 + cube S)) | have th := there_on hbq th | skip); have ta := there_new wq (cube T * 200 + cube S))
        | (go_at_call 103; with_reducible refine (rmost_c T S _).mono ?_; rintro e wq ⟨rfl, hbq⟩; (first | have th := there_on hbq (there_newd _ (cube T * 200 + cube S)) | have th := there_on hbq (there_new _ (cube T * 200 + cube S)) | have th := there_on hbq th | skip); have ta := there_new wq (cube T * 200 + cube S)))
    all_goals (go_wp2_with fail; go_meet)
    all_goals
      refine ⟨_, rfl, ?_, (‹Below W.heap.size W _ ∧ _›).1⟩
      exact World.rangeAt_setCells_same _ _ _ _ (by assumption)
  case rest =>
    obtain ⟨g6, rfl, R6, HB⟩ := hcut
    rename World => wx
    have R5x := rangeAt_on HB R5
    have HWx := below_then HW2 HW2.size HB
    clear R5 HB HW2
    go_wp2
    go_loopw [7, 8] (fun i j wr => ∃ a b : Nat, a ≤ q ∧ q ≤ b ∧ b ≤ 10000 ∧ i = .int .i64 a ∧ j = .int .i64 b ∧ Below wx.heap.size wx wr) (fun i j _ => (intOf j).toNat - (intOf i).toNat)
    case atStart => exact ⟨0, 10000, by omega, by omega, by omega, rfl, rfl, Below.refl _ _⟩
    case round =>
      obtain ⟨a, b, ha, hb, hb2, rfl, rfl, HB⟩ := hrel
      rename World => wr
      by_cases hlt : a < b
      · have R5r := rangeAt_on HB R5x
        have R6r := rangeAt_on HB R6
        have hm : (((a : Int) + b + 1) / 2) = (((a + b + 1) / 2 : Nat) : Int) := by omega
        have hm1 : a < (a + b + 1) / 2 := by omega
        have hm2 : (a + b + 1) / 2 ≤ b := by omega
        have HM := Lib.hid hm
        clear hm
        go_upto_region 13 with fail
        rw [HM.out]
        generalize (a + b + 1) / 2 = m at *
        clear HM
        have H2 : Hid (IntKind.i64.wrap (2 * (m : Int)) = ((2 * m : Nat) : Int)) := Lib.hid (by rw [IntKind.wrap_i64]; omega)
        have HBm : Hid (m ≤ 10000) := Lib.hid (by omega)
        obtain ⟨r, hr⟩ : ∃ r, Hid (decide (cube T * 200 + cube S < cube S * (2 * m)) = r) := ⟨_, Lib.hid rfl⟩
        have HK : Hid (∀ w', Below wr.heap.size wr w' → Below wr.heap.size wr w' ∧ w'.rangeAt g5 0 (limL (cube S)) ∧ w'.rangeAt g6 0 (limL (cube T * 200 + cube S))) := Lib.hid fun w' hb => ⟨hb, rangeAt_on hb R5r, rangeAt_on hb R6r⟩
        clear R5x R6 
        refine wp_region_noPanic ?_
        refine wp_region_held_drew (S := fun w' => Below wr.heap.size wr w' ∧ w'.rangeAt g5 0 (limL (cube S)) ∧ w'.rangeAt g6 0 (limL (cube T * 200 + cube S))) (by kernel_rfl) ?_ (fun hHeld => ?_)
        · exact HK.out _ (by repeat (first | (with_reducible exact Below.refl _ _) | (with_reducible apply below_drew) | (with_reducible refine below_join ?_ (by assumption))))
        refine' wpAnyH_take (i := 0) (oi := _) (v := _) rfl (by kernel_rfl) (by kernel_rfl) (by kernel_rfl) (fun _ _ _ h => h) (yieldsIf_load_mid (by rfl) _ _ rfl _ _ rfl _ _ ?_ hu rfl hi1) (by assumption) ?_
        · intro w hSw; (try dsimp only at hSw); go_split_ands; assumption
        try simp only [Act.put, List.setIfInBounds_toArray, List.set_cons_zero, List.set_cons_succ]
        refine' wpAnyH_take (i := 4) (oi := _) (v := _) rfl (by kernel_rfl) (by kernel_rfl) (by kernel_rfl) (fun _ _ _ h => h) (yieldsIf_load_mid (by rfl) _ _ rfl _ _ rfl _ _ ?_ hu rfl hi3) (by assumption) ?_
        · intro w hSw; (try dsimp only at hSw); go_split_ands; assumption
        try simp only [Act.put, List.setIfInBounds_toArray, List.set_cons_zero, List.set_cons_succ]
        refine wpAnyH_take (i := 1) (oi := _) (v := ?_) rfl (by kernel_rfl) (by kernel_rfl) (by kernel_rfl) (fun _ _ _ h => h) (Or.inl ⟨by rfl, ?_⟩) (by assumption) ?_
        rotate_left
        · intro w hSw; go_simp; with_reducible rfl
        try simp only [Act.put, List.setIfInBounds_toArray, List.set_cons_zero, List.set_cons_succ]
        refine wpAnyH_take (i := 2) (oi := _) (v := ?_) rfl (by kernel_rfl) (by kernel_rfl) (by kernel_rfl) (fun _ _ _ h => h) (Or.inl ⟨by rfl, ?_⟩) (by assumption) ?_
        rotate_left
        · intro w hSw; go_simp; with_reducible rfl
        try simp only [Act.put, List.setIfInBounds_toArray, List.set_cons_zero, List.set_cons_succ]
        refine wpAnyH_ready (rs := [3]) (by kernel_rfl) (by simp) ?_
        refine AllReadyH.cons (o := _) rfl (fun K hK => ?_) AllReadyH.nil
        go_simp
        (with_reducible refine (rtwice_c S m H2 HBm _).mono ?_); rintro e wq ⟨rfl, hbq⟩
        go_wp2_with fail
        refine hK.out _ _ ?_ (fun hHeld => ?_)
        · exact HK.out _ (by repeat (first | (with_reducible exact Below.refl _ _) | (with_reducible apply below_drew) | (with_reducible refine below_join ?_ (by assumption))))
        clear hK K
        try simp only [Act.put, List.setIfInBounds_toArray, List.set_cons_zero, List.set_cons_succ]
        refine wpAnyH_ready (rs := [5]) (by kernel_rfl) (by simp) ?_
        refine AllReadyH.cons (o := _) rfl (fun K hK => ?_) AllReadyH.nil
        go_simp
        (with_reducible refine (rabove_c T S m hr LT LS HBm _).mono ?_); rintro e wq2 ⟨rfl, hbq2⟩
        go_wp2_with fail
        refine hK.out _ _ ?_ (fun hHeld => ?_)
        · exact HK.out _ (by repeat (first | (with_reducible exact Below.refl _ _) | (with_reducible apply below_drew) | (with_reducible refine below_join ?_ (by assumption))))
        clear hK K
        try simp only [Act.put, List.setIfInBounds_toArray, List.set_cons_zero, List.set_cons_succ]
        refine wpAnyH_done (by kernel_rfl) ?_ _
        refine NoPanic.normal ?_
        have HB2 := below_join HB (‹Below wr.heap.size wr _ ∧ _›.1)
        cases r with
        | true =>
          have hmq : q < m := by
            rcases Nat.lt_or_ge q m with h | h
            · exact h
            · have := hlow.out m h; rw [hr.out] at this; cases this
          go_wp2
          go_roundw
          case rel => exact ⟨a, m - 1, by omega, by omega, by omega, rfl, by go_num, HB2⟩
          case measure => simp [intOf]; omega
        | false =>
          have hmq : m ≤ q := by
            rcases Nat.lt_or_ge q m with h | h
            · have := hhigh.out m h (by omega); rw [hr.out] at this; cases this
            · exact h
          go_wp2
          go_roundw
          case rel => exact ⟨m, b, by omega, by omega, by omega, rfl, rfl, HB2⟩
          case measure => simp [intOf]; omega
      · have e : a = q := by omega
        subst e
        go_wp2
        go_ret
        exact ⟨rfl, below_then HWx HWx.size HB⟩

end Go.Proofs.YtndpdbofoojkhaaGreat.Bad
