/- The statement BadHolds. -/
import Derived.Test.YtegmkabhmhbjpaaBadPlain
namespace Go.Proofs.Ytegmkabhmhbjpaa.Bad
open Go.RowKit Go.Proofs.Ytegmkabhmhbjpaa.Kit
set_option linter.unusedVariables false
set_option linter.unusedSimpArgs false

theorem badm (X Y : Nat) (hX : Hid (X ≤ 1073741823)) (hY : Hid (Y ≤ 1073741823)) {x y : Int} (hx : Hid (x = X)) (hy : Hid (y = Y)) {v : Nat} (hv : Hid (badP X Y = v)) (w : World) :
    Calls Try.prog 10 #[.int .i64 x, .int .i64 y] w fun e w' => e = .returned (.int .i64 v) ∧ Below w.heap.size w w' := by
  have e1 := hx.out; have e2 := hy.out
  subst e1; subst e2
  refine badc _ _ (Lib.hid ?_) w
  rw [cl_nat hX.out, cl_nat hY.out]
  exact hv.out

theorem wrap64_nat (n : Nat) (h : n ≤ 9223372036854775807) : wrap64 (n : Int) = n := by
  unfold wrap64; omega

set_option maxHeartbeats 4000000 in
theorem holds_walk (t s : Int) (h : Bool) (w : World) (ht : (Lit.int .u16 t).wf = true) (hs : (Lit.int .u16 s).wf = true) :
    Calls Try.prog 6 #[.int .u16 t, .int .u16 s, .bool h] w fun e w' => e = .returned (.bool true) ∧ Below w.heap.size w w' := by
  obtain ⟨t1, t2⟩ := u16_of ht
  obtain ⟨s1, s2⟩ := u16_of hs
  clear ht hs
  obtain ⟨x, hx⟩ : ∃ x : Nat, t % 16384 = x := ⟨(t % 16384).toNat, by omega⟩
  obtain ⟨y, hy⟩ : ∃ y : Nat, s % 16384 + 1 = y := ⟨(s % 16384 + 1).toNat, by omega⟩
  have x2 : x < 16384 := by omega
  have y1 : 0 < y := by omega
  have y2 : y ≤ 16384 := by omega
  have HX := Lib.hid hx
  have HY := Lib.hid hy
  clear hx hy
  have hc1 : y * y ≤ 16384 * 16384 := Nat.mul_le_mul y2 y2
  have hc2 : y * y * y ≤ 16384 * 16384 * 16384 := Nat.mul_le_mul hc1 y2
  have ha1 : x * x ≤ 16384 * 16384 := Nat.mul_le_mul (by omega) (by omega)
  have ha2 : x * x * x ≤ 16384 * 16384 * 16384 := Nat.mul_le_mul ha1 (by omega)
  obtain ⟨n, HN⟩ : ∃ n, Hid (badP x y = n) := ⟨_, Lib.hid rfl⟩
  have hn : n ≤ 10000 := by have := badP_le x y; rwa [HN.out] at this
  have hf := badP_fits (T := x) (S := y) (by omega)
  rw [HN.out] at hf
  unfold cube at hf
  obtain ⟨C, hC⟩ : ∃ C, y * y * y = C := ⟨_, rfl⟩
  obtain ⟨M, hM⟩ : ∃ M, x * x * x * 200 + C = M := ⟨_, rfl⟩
  rw [hC] at hf hc2
  rw [hM] at hf
  have EA : Hid (wrap64 (200 * (x : Int) * x) = ((x * x * 200 : Nat) : Int)) := Lib.hid (by
    have e : 200 * (x : Int) * x = ((x * x * 200 : Nat) : Int) := by simp only [Int.natCast_mul]; rw [Int.mul_assoc, Int.mul_comm]; rfl
    rw [e, wrap64_nat _ (by omega)])
  have EB : Hid (wrap64 (((x * x * 200 : Nat) : Int) * x) = ((x * x * x * 200 : Nat) : Int)) := Lib.hid (by
    have e : ((x * x * 200 : Nat) : Int) * x = ((x * x * x * 200 : Nat) : Int) := by rw [← Int.natCast_mul, Nat.mul_right_comm]
    rw [e, wrap64_nat _ (by omega)])
  have EY : Hid (wrap64 ((y : Int) * y) = (y : Int) * y) := Lib.hid (by
    have e : (y : Int) * y = ((y * y : Nat) : Int) := by simp only [Int.natCast_mul]
    rw [e, wrap64_nat _ (by omega)])
  have EC : Hid (wrap64 ((y : Int) * y * y) = (C : Int)) := Lib.hid (by
    have e : (y : Int) * y * y = (C : Int) := by rw [← hC]; simp only [Int.natCast_mul]
    rw [e, wrap64_nat _ (by omega)])
  have ED : Hid (wrap64 (((x * x * x * 200 : Nat) : Int) + (C : Int)) = (M : Int)) := Lib.hid (by
    have e : ((x * x * x * 200 : Nat) : Int) + (C : Int) = (M : Int) := by omega
    rw [e, wrap64_nat _ (by omega)])
  have hMb : M ≤ 9007199254740992 := by omega
  have hp1 : n * C ≤ 10000 * 4398046511104 := Nat.mul_le_mul hn (by omega)
  have EF : Hid (wrap64 (2 * (n : Int) * C) = ((2 * (n * C) : Nat) : Int)) := Lib.hid (by
    have e : 2 * (n : Int) * C = ((2 * (n * C) : Nat) : Int) := by simp only [Int.natCast_mul]; rw [Int.mul_assoc]; rfl
    rw [e, wrap64_nat _ (by omega)])
  have EG : Hid (wrap64 (2 * ((n : Int) + 1) * C) = ((2 * (n * C) + 2 * C : Nat) : Int)) := Lib.hid (by
    have e : 2 * ((n : Int) + 1) * C = ((2 * (n * C) + 2 * C : Nat) : Int) := by simp only [Int.natCast_mul, Int.natCast_add]; rw [Int.mul_assoc, Int.add_mul, Int.mul_add, Int.one_mul]; rfl
    rw [e, wrap64_nat _ (by omega)])
  have g1 : n * (2 * C) = 2 * (n * C) := Nat.mul_left_comm _ _ _
  have g2 : (n + 1) * (2 * C) = 2 * (n * C) + 2 * C := by rw [Nat.add_mul, g1, Nat.one_mul]
  rw [g1, g2] at hf
  have F1 : (wrap64 (2 * (n : Int) * C) ≤ (M : Int)) = True := eq_true (by rw [EF.out]; omega)
  have F2 : n = 10000 ∨ ((M : Int) < wrap64 (2 * ((n : Int) + 1) * C)) = True := by
    rw [EG.out]
    by_cases h : n = 10000
    · exact .inl h
    · exact .inr (eq_true (by omega))
  have b1 : Hid (x ≤ 1073741823) := Lib.hid (by omega)
  have b2 : Hid (y ≤ 1073741823) := Lib.hid (by omega)
  clear hf hp1 g1 g2 hM hC hMb ha1 ha2 hc1 hc2 EF EG
  cases h with
  | true =>
    rcases (by omega : n ≤ 12 ∨ (12 < n ∧ n ≤ 99) ∨ 99 < n) with c | c | c
    · have HF : Hid (fitP n true = 1) := Lib.hid (by simp only [fitP, Bool.false_eq_true, if_false, if_true]; (repeat (split <;> try omega)))
      have F3 : ((M : Int) < wrap64 (2 * ((n : Int) + 1) * C)) = True := by
        rcases F2 with h | h
        · omega
        · exact h
      have hn2 : ((n : Int) == 10000) = false := by simpa using (show ¬ (n : Int) = 10000 by omega)
      clear F2
      go_enter Try.func6, Try.ntmps6
      go_wp2_with fail
      refine (awake_any _).mono ?_; rintro e w1 ⟨rfl, h1⟩
      go_wp2_with fail
      rw [HX.out, HY.out]
      refine (badm x y b1 b2 (Lib.hid rfl) (Lib.hid rfl) HN _).mono ?_; rintro e w2 ⟨rfl, h2⟩
      go_wp2_with fail
      rw [EY.out, EC.out, EA.out, EB.out, ED.out]
      refine (fitc _ _ (1) HF _).mono ?_; rintro e w3 ⟨rfl, rfl⟩
      go_wp2
      go_ret
      exact ⟨ret_true rfl (by first | rfl | exact decide_eq_true (by omega)), by repeat (first | exact Below.refl _ _ | (refine below_join ?_ (by assumption)))⟩
    · have HF : Hid (fitP n true = 0) := Lib.hid (by simp only [fitP, Bool.false_eq_true, if_false, if_true]; (repeat (split <;> try omega)))
      have F3 : ((M : Int) < wrap64 (2 * ((n : Int) + 1) * C)) = True := by
        rcases F2 with h | h
        · omega
        · exact h
      have hn2 : ((n : Int) == 10000) = false := by simpa using (show ¬ (n : Int) = 10000 by omega)
      clear F2
      go_enter Try.func6, Try.ntmps6
      go_wp2_with fail
      refine (awake_any _).mono ?_; rintro e w1 ⟨rfl, h1⟩
      go_wp2_with fail
      rw [HX.out, HY.out]
      refine (badm x y b1 b2 (Lib.hid rfl) (Lib.hid rfl) HN _).mono ?_; rintro e w2 ⟨rfl, h2⟩
      go_wp2_with fail
      rw [EY.out, EC.out, EA.out, EB.out, ED.out]
      refine (fitc _ _ (0) HF _).mono ?_; rintro e w3 ⟨rfl, rfl⟩
      go_wp2
      go_ret
      exact ⟨ret_true rfl (by first | rfl | exact decide_eq_true (by omega)), by repeat (first | exact Below.refl _ _ | (refine below_join ?_ (by assumption)))⟩
    · have HF : Hid (fitP n true = 0) := Lib.hid (by simp only [fitP, Bool.false_eq_true, if_false, if_true]; (repeat (split <;> try omega)))
      rcases F2 with hn1 | F2
      · have hn2 : ((n : Int) == 10000) = true := by simpa using (show (n : Int) = 10000 by omega)
        clear hn1
        go_enter Try.func6, Try.ntmps6
        go_wp2_with fail
        refine (awake_any _).mono ?_; rintro e w1 ⟨rfl, h1⟩
        go_wp2_with fail
        rw [HX.out, HY.out]
        refine (badm x y b1 b2 (Lib.hid rfl) (Lib.hid rfl) HN _).mono ?_; rintro e w2 ⟨rfl, h2⟩
        go_wp2_with fail
        rw [EY.out, EC.out, EA.out, EB.out, ED.out]
        refine (fitc _ _ (0) HF _).mono ?_; rintro e w3 ⟨rfl, rfl⟩
        go_wp2
        go_ret
        exact ⟨ret_true rfl (by first | rfl | exact decide_eq_true (by omega)), by repeat (first | exact Below.refl _ _ | (refine below_join ?_ (by assumption)))⟩
      · by_cases hn1 : n = 10000
        · have hn2 : ((n : Int) == 10000) = true := by simpa using (show (n : Int) = 10000 by omega)
          clear hn1
          go_enter Try.func6, Try.ntmps6
          go_wp2_with fail
          refine (awake_any _).mono ?_; rintro e w1 ⟨rfl, h1⟩
          go_wp2_with fail
          rw [HX.out, HY.out]
          refine (badm x y b1 b2 (Lib.hid rfl) (Lib.hid rfl) HN _).mono ?_; rintro e w2 ⟨rfl, h2⟩
          go_wp2_with fail
          rw [EY.out, EC.out, EA.out, EB.out, ED.out]
          refine (fitc _ _ (0) HF _).mono ?_; rintro e w3 ⟨rfl, rfl⟩
          go_wp2
          go_ret
          exact ⟨ret_true rfl (by first | rfl | exact decide_eq_true (by omega)), by repeat (first | exact Below.refl _ _ | (refine below_join ?_ (by assumption)))⟩
        · have hn2 : ((n : Int) == 10000) = false := by simpa using (show ¬ (n : Int) = 10000 by omega)
          clear hn1
          go_enter Try.func6, Try.ntmps6
          go_wp2_with fail
          refine (awake_any _).mono ?_; rintro e w1 ⟨rfl, h1⟩
          go_wp2_with fail
          rw [HX.out, HY.out]
          refine (badm x y b1 b2 (Lib.hid rfl) (Lib.hid rfl) HN _).mono ?_; rintro e w2 ⟨rfl, h2⟩
          go_wp2_with fail
          rw [EY.out, EC.out, EA.out, EB.out, ED.out]
          refine (fitc _ _ (0) HF _).mono ?_; rintro e w3 ⟨rfl, rfl⟩
          go_wp2
          go_ret
          exact ⟨ret_true rfl (by first | rfl | exact decide_eq_true (by omega)), by repeat (first | exact Below.refl _ _ | (refine below_join ?_ (by assumption)))⟩
  | false =>
    rcases (by omega : n ≤ 12 ∨ (12 < n ∧ n ≤ 99) ∨ 99 < n) with c | c | c
    · have HF : Hid (fitP n false = 1) := Lib.hid (by simp only [fitP, Bool.false_eq_true, if_false, if_true]; (repeat (split <;> try omega)))
      have F3 : ((M : Int) < wrap64 (2 * ((n : Int) + 1) * C)) = True := by
        rcases F2 with h | h
        · omega
        · exact h
      have hn2 : ((n : Int) == 10000) = false := by simpa using (show ¬ (n : Int) = 10000 by omega)
      clear F2
      go_enter Try.func6, Try.ntmps6
      go_wp2_with fail
      refine (awake_any _).mono ?_; rintro e w1 ⟨rfl, h1⟩
      go_wp2_with fail
      rw [HX.out, HY.out]
      refine (badm x y b1 b2 (Lib.hid rfl) (Lib.hid rfl) HN _).mono ?_; rintro e w2 ⟨rfl, h2⟩
      go_wp2_with fail
      rw [EY.out, EC.out, EA.out, EB.out, ED.out]
      refine (fitc _ _ (1) HF _).mono ?_; rintro e w3 ⟨rfl, rfl⟩
      go_wp2
      go_ret
      exact ⟨ret_true rfl (by first | rfl | exact decide_eq_true (by omega)), by repeat (first | exact Below.refl _ _ | (refine below_join ?_ (by assumption)))⟩
    · have HF : Hid (fitP n false = 2) := Lib.hid (by simp only [fitP, Bool.false_eq_true, if_false, if_true]; (repeat (split <;> try omega)))
      have F3 : ((M : Int) < wrap64 (2 * ((n : Int) + 1) * C)) = True := by
        rcases F2 with h | h
        · omega
        · exact h
      have hn2 : ((n : Int) == 10000) = false := by simpa using (show ¬ (n : Int) = 10000 by omega)
      clear F2
      go_enter Try.func6, Try.ntmps6
      go_wp2_with fail
      refine (awake_any _).mono ?_; rintro e w1 ⟨rfl, h1⟩
      go_wp2_with fail
      rw [HX.out, HY.out]
      refine (badm x y b1 b2 (Lib.hid rfl) (Lib.hid rfl) HN _).mono ?_; rintro e w2 ⟨rfl, h2⟩
      go_wp2_with fail
      rw [EY.out, EC.out, EA.out, EB.out, ED.out]
      refine (fitc _ _ (2) HF _).mono ?_; rintro e w3 ⟨rfl, rfl⟩
      go_wp2
      go_ret
      exact ⟨ret_true rfl (by first | rfl | exact decide_eq_true (by omega)), by repeat (first | exact Below.refl _ _ | (refine below_join ?_ (by assumption)))⟩
    · have HF : Hid (fitP n false = 3) := Lib.hid (by simp only [fitP, Bool.false_eq_true, if_false, if_true]; (repeat (split <;> try omega)))
      rcases F2 with hn1 | F2
      · have hn2 : ((n : Int) == 10000) = true := by simpa using (show (n : Int) = 10000 by omega)
        clear hn1
        go_enter Try.func6, Try.ntmps6
        go_wp2_with fail
        refine (awake_any _).mono ?_; rintro e w1 ⟨rfl, h1⟩
        go_wp2_with fail
        rw [HX.out, HY.out]
        refine (badm x y b1 b2 (Lib.hid rfl) (Lib.hid rfl) HN _).mono ?_; rintro e w2 ⟨rfl, h2⟩
        go_wp2_with fail
        rw [EY.out, EC.out, EA.out, EB.out, ED.out]
        refine (fitc _ _ (3) HF _).mono ?_; rintro e w3 ⟨rfl, rfl⟩
        go_wp2
        go_ret
        exact ⟨ret_true rfl (by first | rfl | exact decide_eq_true (by omega)), by repeat (first | exact Below.refl _ _ | (refine below_join ?_ (by assumption)))⟩
      · by_cases hn1 : n = 10000
        · have hn2 : ((n : Int) == 10000) = true := by simpa using (show (n : Int) = 10000 by omega)
          clear hn1
          go_enter Try.func6, Try.ntmps6
          go_wp2_with fail
          refine (awake_any _).mono ?_; rintro e w1 ⟨rfl, h1⟩
          go_wp2_with fail
          rw [HX.out, HY.out]
          refine (badm x y b1 b2 (Lib.hid rfl) (Lib.hid rfl) HN _).mono ?_; rintro e w2 ⟨rfl, h2⟩
          go_wp2_with fail
          rw [EY.out, EC.out, EA.out, EB.out, ED.out]
          refine (fitc _ _ (3) HF _).mono ?_; rintro e w3 ⟨rfl, rfl⟩
          go_wp2
          go_ret
          exact ⟨ret_true rfl (by first | rfl | exact decide_eq_true (by omega)), by repeat (first | exact Below.refl _ _ | (refine below_join ?_ (by assumption)))⟩
        · have hn2 : ((n : Int) == 10000) = false := by simpa using (show ¬ (n : Int) = 10000 by omega)
          clear hn1
          go_enter Try.func6, Try.ntmps6
          go_wp2_with fail
          refine (awake_any _).mono ?_; rintro e w1 ⟨rfl, h1⟩
          go_wp2_with fail
          rw [HX.out, HY.out]
          refine (badm x y b1 b2 (Lib.hid rfl) (Lib.hid rfl) HN _).mono ?_; rintro e w2 ⟨rfl, h2⟩
          go_wp2_with fail
          rw [EY.out, EC.out, EA.out, EB.out, ED.out]
          refine (fitc _ _ (3) HF _).mono ?_; rintro e w3 ⟨rfl, rfl⟩
          go_wp2
          go_ret
          exact ⟨ret_true rfl (by first | rfl | exact decide_eq_true (by omega)), by repeat (first | exact Below.refl _ _ | (refine below_join ?_ (by assumption)))⟩

end Go.Proofs.Ytegmkabhmhbjpaa.Bad
