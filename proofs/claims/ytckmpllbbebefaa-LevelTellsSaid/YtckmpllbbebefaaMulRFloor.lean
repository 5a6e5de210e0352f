/- The reference of layer 2: its three calls. -/
import Derived.Test.YtckmpllbbebefaaMulRef2
import Derived.Test.YtckmpllbbebefaaMulRef3
import Derived.Test.YtckmpllbbebefaaMulFloor
namespace Go.Proofs.Ytckmpllbbebefaa.Mul
open Go.RowKit Go.Proofs.Ytckmpllbbebefaa.Kit
set_option linter.unusedVariables false
set_option linter.unusedSimpArgs false

theorem rmay_any (a b c : Int) (w : World) :
    Calls Try.prog 73 #[.int .i64 a, .int .i64 b, .int .i64 c] w fun e w' => e = .returned (.bool (mayP a b c)) ∧ w = w' := by
  have H : Hid (mayP a b c = (decide (-4611686018427387903 ≤ a) && decide (a ≤ 4611686018427387903) && decide (-4611686018427387903 ≤ b) && decide (b ≤ 4611686018427387903) && decide (1 ≤ c) && decide (c ≤ 4611686018427387903))) := Lib.hid (by
    unfold mayP; rw [Bool.eq_iff_iff]; simp only [decide_eq_true_eq, Bool.and_eq_true]; omega)
  rw [H.out]
  go_enter Try.func73, Try.ntmps73
  go_wp2
  all_goals
    go_ret
    exact ⟨ret_bool rfl (by simp_all <;> omega), rfl⟩
theorem rsize_any (n : Int) (x : Nat) (hx : Hid (max n (-n) = (x : Int))) (h : Hid (-4611686018427387904 ≤ n ∧ n ≤ 4611686018427387904)) (w : World) :
    Calls Try.prog 81 #[.int .i64 n] w fun e w' => e = .returned (.int .i64 x) ∧ w = w' := by
  by_cases h0 : n < 0
  · have E : Hid (-n = (x : Int)) := Lib.hid (by have := hx.out; omega)
    have h1 := h.out.1
    clear hx h
    go_enter Try.func81, Try.ntmps81
    go_wp2
    rw [E.out]
    go_ret
    exact ⟨rfl, rfl⟩
  · have E : Hid (n = (x : Int)) := Lib.hid (by have := hx.out; omega)
    clear hx h
    go_enter Try.func81, Try.ntmps81
    go_wp2
    rw [E.out]
    go_ret
    exact ⟨rfl, rfl⟩

def okS (F : Int) : Bool := decide (-4611686018427387904 ≤ F ∧ F ≤ 4611686018427387904)
def valS (F : Int) : Int := if okS F then F else 0
theorem kept_any (q : Int) (ok : Bool) (w : World) :
    Calls Try.prog 75 #[.int .i64 q, .bool ok] w fun e w' => e = .returned (.tuple #[.int .i64 (if ok then keptP q else (0, 20)).1, .int .i64 (if ok then keptP q else (0, 20)).2]) ∧ w = w' := by
  cases ok with
  | false =>
    go_enter Try.func75, Try.ntmps75
    go_wp2
    go_ret2
    exact ⟨rfl, rfl⟩
  | true =>
    have hk : (4611686018427387903 < q ∧ keptP q = (0, 20)) ∨ (¬ 4611686018427387903 < q ∧ q < -4611686018427387903 ∧ keptP q = (0, 20)) ∨ (¬ 4611686018427387903 < q ∧ ¬ q < -4611686018427387903 ∧ keptP q = (q, 0)) := by
      unfold keptP
      by_cases h2 : 4611686018427387903 < q
      · exact .inl ⟨h2, if_neg (by omega)⟩
      · by_cases h1 : q < -4611686018427387903
        · exact .inr (.inl ⟨h2, h1, if_neg (by omega)⟩)
        · exact .inr (.inr ⟨h2, h1, if_pos (by omega)⟩)
    rcases hk with ⟨k1, k3⟩ | ⟨k1, k2, k3⟩ | ⟨k1, k2, k3⟩
    all_goals
      rw [if_pos rfl, k3]
      clear k3
      go_enter Try.func75, Try.ntmps75
      go_wp2
      go_ret2
      exact ⟨rfl, rfl⟩

theorem divide_c (x y d : Nat) (hx : x ≤ 4611686018427387904) (hy : y ≤ 4611686018427387904) (hd0 : 0 < d) (hd : d ≤ 4611686018427387903) (w : World) :
    Calls Try.prog 79 #[.agg (arr8 (dg (x * y))), .int .i64 d] w fun e w' => Told (x * y) d w e w' := by
  have := Nat.mul_le_mul hx hy
  exact divide_any (x * y) d (by omega) hd0 hd w
theorem okS_far {F : Int} (h : F < -4611686018427387904 ∨ 4611686018427387904 < F) : valS F = 0 ∧ okS F = false := by
  have e : okS F = false := decide_eq_false (by omega)
  exact ⟨by unfold valS; rw [e]; rfl, e⟩
theorem okS_in {F : Int} (h1 : -4611686018427387904 ≤ F) (h2 : F ≤ 4611686018427387904) : valS F = F ∧ okS F = true := by
  have e : okS F = true := decide_eq_true ⟨h1, h2⟩
  exact ⟨by unfold valS; rw [e]; rfl, e⟩

set_option maxRecDepth 100000 in
set_option maxHeartbeats 4000000 in
theorem both_any (a b c : Int) (h : mayP a b c = true) (w : World) :
    Calls Try.prog 74 #[.int .i64 a, .int .i64 b, .int .i64 c] w fun e w' => e = .returned (.tuple #[.int .i64 (valS (a * b / c)), .bool (okS (a * b / c)), .int .i64 (a * b % c)]) ∧ Below w.heap.size w w' := by
  obtain ⟨x, y, d, m, hx, hy, hd, hd0, hd1, hm, hq, hr⟩ := parts_plain h
  obtain ⟨h1, h2, h3, h4, h5, h6⟩ := may_iff h
  subst hd
  rw [← hr]
  generalize a * b / (d : Int) = F at *
  obtain ⟨vF, hvF⟩ : ∃ v, valS F = v := ⟨_, rfl⟩
  obtain ⟨oF, hoF⟩ : ∃ v, okS F = v := ⟨_, rfl⟩
  rw [hvF, hoF]
  have HVF := Lib.hid hvF; have HOF := Lib.hid hoF
  clear hvF hoF
  have HX := Lib.hid hx; have HY := Lib.hid hy
  have HLA : Hid (-4611686018427387904 ≤ a ∧ a ≤ 4611686018427387904) := Lib.hid (by omega)
  have HLB : Hid (-4611686018427387904 ≤ b ∧ b ≤ 4611686018427387904) := Lib.hid (by omega)
  have hx3 : x ≤ 4611686018427387904 := by omega
  have hy3 : y ≤ 4611686018427387904 := by omega
  have HP : Hid (∀ w, _) := Lib.hid (product_any x y hx3 hy3)
  have HD : Hid (∀ w, _) := Lib.hid (divide_c x y d hx3 hy3 hd0 (by omega))
  clear hx hy h hr h1 h2 h3 h4 h5 h6 hx3 hy3
  generalize x * y = N at *
  have HM := Lib.hid (minus_cases hm)
  clear hm
  -- the answer, by the quotient's size
  obtain ⟨Q, hQ⟩ : ∃ Q, N / d = Q := ⟨_, rfl⟩
  obtain ⟨R, hR⟩ : ∃ R, N % d = R := ⟨_, rfl⟩
  have hRd : R < d := by rw [← hR]; exact Nat.mod_lt _ hd0
  have hcase : (m = false ∧ F = (Q : Int) ∧ rOf m N d = R) ∨ (m = true ∧ R = 0 ∧ F = -(Q : Int) ∧ rOf m N d = R) ∨ (m = true ∧ 0 < R ∧ F = -(Q : Int) - 1 ∧ rOf m N d = d - R) := by
    unfold qOf signed at hq
    unfold rOf
    rw [hQ, hR] at hq
    rw [hR]
    cases m with
    | false => simp at hq; simp; omega
    | true =>
      rcases Nat.eq_zero_or_pos R with hz | hz
      · simp [hz] at hq; simp [hz]; omega
      · simp [hz] at hq; simp [hz]; omega
  have hok : okB N d 0 = decide (Q < 9223372036854775808) := by rw [okB_last, hQ]
  obtain ⟨ok, hoke⟩ : ∃ ok, okB N d 0 = ok := ⟨_, rfl⟩
  have HCASE := Lib.hid hcase
  generalize rOf m N d = r' at *
  rw [hoke] at hok
  have HOK := Lib.hid hok
  have HQ := Lib.hid hQ; have HR := Lib.hid hR; have HE := Lib.hid hoke
  clear hq hcase hok hoke hQ hR
  go_enter Try.func74, Try.ntmps74
  go_wp2_with fail
  refine (rsize_any a x HX HLA _).mono ?_; rintro e w1 ⟨rfl, rfl⟩
  go_wp2_with fail
  refine (rsize_any b y HY HLB _).mono ?_; rintro e w1 ⟨rfl, rfl⟩
  go_wp2_with fail
  refine (HP.out _).mono ?_; rintro e w1 ⟨rfl, hb1⟩
  go_wp2_with fail
  refine (HD.out _).mono ?_; rintro e w2 ⟨q, hqq, rfl, hb2⟩
  rw [HE.out] at hqq
  rw [HE.out, HR.out]
  rw [HQ.out] at hqq
  have HB := below_join hb1 hb2
  have HQQ := Lib.hid hqq
  clear hqq hb1 hb2 HP HD HX HY HLA HLB HQ HR HE
  go_upto_region 2 with fail
  go_cut [12] (fun v wx => v = .bool m ∧ w2 = wx)
  case first =>
    rcases HM.out with ⟨rfl, h1, h2⟩ | ⟨rfl, h1, h2, h3⟩ | ⟨rfl, h1, h2, h3⟩ | ⟨rfl, h1, h2, h3⟩ | ⟨rfl, h1, h2⟩
    all_goals
      go_wp2
      go_meet
      exact ⟨by first | rfl | (rw [decide_eq_false (by omega)]), rfl⟩
  case rest =>
    obtain ⟨rfl, rfl⟩ := hcut
    clear HM
    cases ok with
    | false =>
      have hbig : 9223372036854775808 ≤ Q := by have := HOK.out; simp at this; omega
      obtain ⟨e1, e2⟩ := okS_far (F := F) (by rcases HCASE.out with ⟨_, h, _⟩ | ⟨_, _, h, _⟩ | ⟨_, _, h, _⟩ <;> omega)
      have e3 : vF = 0 := by rw [← HVF.out, e1]
      have e4 : oF = false := by rw [← HOF.out, e2]
      clear hbig HQQ HOK e1 e2 HVF HOF
      subst e3; subst e4
      rcases HCASE.out with ⟨rfl, hF, rfl⟩ | ⟨rfl, rfl, hF, rfl⟩ | ⟨rfl, hR, hF, hr⟩
      · clear HCASE hF
        go_wp2
        go_ret3
        exact ⟨rfl, HB⟩
      · clear HCASE hF
        go_wp2
        go_ret3
        exact ⟨rfl, HB⟩
      · have Hr : Hid ((d : Int) - R = (r' : Int)) := Lib.hid (by omega)
        clear HCASE hF hr
        go_wp2
        rw [Hr.out]
        go_ret3
        exact ⟨rfl, HB⟩
    | true =>
      have hq := HQQ.out rfl
      subst hq
      have hbd : Q < 9223372036854775808 := by have := HOK.out; simpa using this
      clear HQQ HOK
      by_cases hbig : 4611686018427387904 < Q
      · obtain ⟨e1, e2⟩ := okS_far (F := F) (by rcases HCASE.out with ⟨_, h, _⟩ | ⟨_, _, h, _⟩ | ⟨_, _, h, _⟩ <;> omega)
        have e3 : vF = 0 := by rw [← HVF.out, e1]
        have e4 : oF = false := by rw [← HOF.out, e2]
        have F1 : (4611686018427387904 < (Q : Int)) = True := eq_true (by omega)
        clear hbig e1 e2 HVF HOF hbd
        subst e3; subst e4
        rcases HCASE.out with ⟨rfl, hF, rfl⟩ | ⟨rfl, rfl, hF, rfl⟩ | ⟨rfl, hR, hF, hr⟩
        · clear HCASE hF
          go_wp2
          go_ret3
          exact ⟨rfl, HB⟩
        · clear HCASE hF
          go_wp2
          go_ret3
          exact ⟨rfl, HB⟩
        · have Hr : Hid ((d : Int) - R = (r' : Int)) := Lib.hid (by omega)
          clear HCASE hF hr
          go_wp2
          rw [Hr.out]
          go_ret3
          exact ⟨rfl, HB⟩
      · have F1 : (4611686018427387904 < (Q : Int)) = False := eq_false (by omega)
        have hb2 : (Q : Int) ≤ 4611686018427387904 := by omega
        rcases HCASE.out with ⟨rfl, hF, rfl⟩ | ⟨rfl, rfl, hF, rfl⟩ | ⟨rfl, hR, hF, hr⟩
        · obtain ⟨e1, e2⟩ := okS_in (F := F) (by omega) (by omega)
          have e3 : vF = (Q : Int) := by rw [← HVF.out, e1, hF]
          have e4 : oF = true := by rw [← HOF.out, e2]
          clear hbig e1 e2 HVF HOF hbd HCASE hF
          subst e3; subst e4
          go_wp2
          go_ret3
          exact ⟨rfl, HB⟩
        · obtain ⟨e1, e2⟩ := okS_in (F := F) (by omega) (by omega)
          have e3 : vF = -(Q : Int) := by rw [← HVF.out, e1, hF]
          have e4 : oF = true := by rw [← HOF.out, e2]
          clear hbig e1 e2 HVF HOF hbd HCASE hF
          subst e3; subst e4
          go_wp2
          go_ret3
          exact ⟨rfl, HB⟩
        · have Hr : Hid ((d : Int) - R = (r' : Int)) := Lib.hid (by omega)
          by_cases htop : Q = 4611686018427387904
          · obtain ⟨e1, e2⟩ := okS_far (F := F) (by omega)
            have e3 : vF = 0 := by rw [← HVF.out, e1]
            have e4 : oF = false := by rw [← HOF.out, e2]
            have F2 : ((Q : Int) == 4611686018427387904) = true := by rw [beq_iff_eq]; omega
            clear hbig e1 e2 HVF HOF hbd HCASE hF hr htop hb2
            subst e3; subst e4
            go_wp2
            rw [Hr.out]
            go_ret3
            exact ⟨rfl, HB⟩
          · obtain ⟨e1, e2⟩ := okS_in (F := F) (by omega) (by omega)
            have e3 : vF = -((Q : Int) + 1) := by rw [← HVF.out, e1, hF]; omega
            have e4 : oF = true := by rw [← HOF.out, e2]
            have F2 : ((Q : Int) == 4611686018427387904) = false := by rw [beq_eq_false_iff_ne]; omega
            have hb3 : (Q : Int) ≤ 4611686018427387903 := by omega
            clear hbig e1 e2 HVF HOF hbd HCASE hF hr htop hb2
            have E3 := Lib.hid e3
            clear e3
            subst e4
            go_wp2
            rw [Hr.out, ← E3.out]
            go_ret3
            exact ⟨rfl, HB⟩


theorem keep_one (F k : Int) (hk : k = 0 ∨ k = 1) : (if okS F then keptP (valS F + k) else (0, 20)) = keptP (F + k) := by
  by_cases h : -4611686018427387904 ≤ F ∧ F ≤ 4611686018427387904
  · obtain ⟨e1, e2⟩ := okS_in h.1 h.2
    rw [e1, e2]; rfl
  · obtain ⟨e1, e2⟩ := okS_far (F := F) (by omega)
    rw [e2, if_neg (by simp)]
    unfold keptP
    rw [if_neg (by omega)]

set_option maxHeartbeats 1000000 in
theorem rfloor_any (a b c : Int) (w : World) :
    Calls Try.prog 60 #[.int .i64 a, .int .i64 b, .int .i64 c] w fun e w' => e = .returned (.tuple #[.int .i64 (floorP a b c).1, .int .i64 (floorP a b c).2]) ∧ Below w.heap.size w w' := by
  unfold floorP
  have HM : Hid (∀ w, _) := Lib.hid (rmay_any a b c)
  cases hm : mayP a b c with
  | false =>
    rw [if_neg (by simp)]
    rw [hm] at HM
    clear hm
    go_enter Try.func60, Try.ntmps60
    go_wp2_with fail
    refine (HM.out _).mono ?_; rintro e w1 ⟨rfl, rfl⟩
    go_wp2
    go_ret2
    exact ⟨rfl, Below.refl _ _⟩
  | true =>
    rw [if_pos rfl]
    rw [hm] at HM
    have HP : Hid (∀ w, _) := Lib.hid (both_any a b c hm)
    have HK : Hid (∀ w, _) := Lib.hid (kept_any (valS (a * b / c)) (okS (a * b / c)))
    have e := keep_one (a * b / c) 0 (.inl rfl)
    rw [Int.add_zero, Int.add_zero] at e
    rw [e] at HK
    generalize valS (a * b / c) = v at *
    generalize okS (a * b / c) = o at *
    generalize keptP (a * b / c) = k at *
    generalize a * b % c = r at *
    clear hm e
    go_enter Try.func60, Try.ntmps60
    go_wp2_with fail
    refine (HM.out _).mono ?_; rintro e w1 ⟨rfl, rfl⟩
    go_wp2_with fail
    refine (HP.out _).mono ?_; rintro e w1 ⟨rfl, hb1⟩
    go_wp2_with fail
    refine (HK.out _).mono ?_; rintro e w1 ⟨rfl, rfl⟩
    go_wp2
    go_ret2
    exact ⟨rfl, hb1⟩
end Go.Proofs.Ytckmpllbbebefaa.Mul
