/- Words of lines' pieces again: the walk of piece.Whole. -/
import Derived.Test.YtbkfofmanpjbfaaBack4
import Derived.Deep.DeepCutAuto
namespace Go.Proofs.Ytbkfofmanpjbfaa.Bk
open Go.RowKit Go.Proofs.Ytbkfofmanpjbfaa.Kit Go.Proofs.Ytbkfofmanpjbfaa.Fo
open Go.Proofs.YtbkfofmanpjbfaaW.PrintWords (Kd)
set_option linter.unusedVariables false
set_option linter.unusedSimpArgs false

theorem clone_any (A : Option Addr) (c : Nat) (x : List Int) (w : World) (hC : kI.C w A x.length x) (hn : x.length ≤ 400000000) :
    Calls Try.prog 32 #[.slice A x.length c] w fun e w' => ∃ v, e = .returned v ∧ kI.R 3 w' w.heap.size anyK v x ∧ Below w.heap.size w w' := by
  cases x with
  | nil =>
    cases A with
    | none =>
      refine (Try.slices_Clone_int_nil 0 c w).mono ?_
      rintro e w' ⟨rfl, rfl⟩
      exact ⟨_, rfl, Kd.R_nil _ _ _ _ _, Below.refl _ _⟩
    | some ad =>
      refine (Try.slices_Clone_int_zero ad c w).mono ?_
      rintro e w' ⟨v, rfl, ho, _, hb⟩
      exact ⟨v, rfl, Kd.R_of_own (by exact ho) (fun _ _ => trivial), hb⟩
  | cons y x =>
    obtain ⟨b, o, u, rfl, _, _⟩ := kC_at hC rfl (i := 0) (x := y) rfl
    refine (Try.slices_Clone_int b o (y :: x).length c (y :: x) w (Nat.le_refl _) (by omega) (fun j hj => ?_)).mono ?_
    · obtain ⟨z, hz⟩ := at_lt hj
      obtain ⟨b', o', u', e, hc, hK⟩ := kC_at hC rfl hz
      cases e
      have : u' = .int .i64 z := by
        have : [u'] = [Value.int .i64 z] := hK
        simpa using this
      rw [hc, this, List.getD_eq_getElem?_getD, hz]; rfl
    · rintro e w' ⟨v, rfl, ho, _, hb⟩
      rw [List.take_length] at ho
      exact ⟨v, rfl, Kd.R_of_own (by exact ho) (fun _ _ => trivial), hb⟩

/-! ### The plain law -/
def hyB (k : Int) : Bool := k == 2 || k == 3
def cutP (last : Bool) (k : Int) (p : List Int) : List Int := if last && hyB k then p.take (p.length - 1) else p
def putP (first on : Bool) (out : List (List Int)) (p : List Int) : List (List Int) :=
  if first && on && !out.isEmpty then out.set (out.length - 1) (out.getD (out.length - 1) [] ++ p) else out ++ [p]
/-- The first pieces of a line, put behind what there is. -/
def putN (k : Int) (on : Bool) (l : List (List Int)) (out : List (List Int)) : Nat → List (List Int)
  | 0 => out
  | j + 1 => putP (j == 0) on (putN k on l out j) (cutP (decide (j + 1 = l.length)) k (l.getD j []))
def wholeN (ls : List (List (List Int))) (ks : List Int) : Nat → List (List Int) × Bool
  | 0 => ([], false)
  | i + 1 => (putN (ks.getD i 0) (wholeN ls ks i).2 (ls.getD i []) (wholeN ls ks i).1 (ls.getD i []).length, hyB (ks.getD i 0) || ks.getD i 0 == 4)
def wholeP (ls : List (List (List Int))) (ks : List Int) : List (List Int) := (wholeN ls ks ls.length).1

theorem hyphened_any (k : Int) (w : World) :
    Calls Try.prog 30 #[.int .i64 k] w fun e w' => e = .returned (.bool (hyB k)) ∧ w = w' := by
  obtain ⟨q, hq⟩ : ∃ q, Hid (hyB k = q) := ⟨_, Lib.hid rfl⟩
  rw [hq.out]
  have HE : Hid ((k == 2 || k == 3) = q) := Lib.hid hq.out
  clear hq
  cases h2 : k == 2 with
  | true =>
    have HQ : Hid (true = q) := Lib.hid (by rw [← HE.out, h2]; rfl)
    clear HE
    go_enter Try.func30, Try.ntmps30
    go_wp2
    go_ret
    exact ⟨ret_bool rfl HQ.out, rfl⟩
  | false =>
    cases h3 : k == 3 with
    | true =>
      have HQ : Hid (true = q) := Lib.hid (by rw [← HE.out, h2, h3]; rfl)
      clear HE
      go_enter Try.func30, Try.ntmps30
      go_wp2
      go_ret
      exact ⟨ret_bool rfl HQ.out, rfl⟩
    | false =>
      have HQ : Hid (false = q) := Lib.hid (by rw [← HE.out, h2, h3]; rfl)
      clear HE
      go_enter Try.func30, Try.ntmps30
      go_wp2
      go_ret
      exact ⟨ret_bool rfl HQ.out, rfl⟩
/-- Breaks one behind the other: their kinds. -/
def Kinds (w : World) (A : Option Addr) (ks : List Int) : Prop := ∀ (i : Nat) (k : Int), ks[i]? = some k → ∃ b o, A = some ⟨b, o, none⟩ ∧ w.cell? ⟨b, o + i * 3, none⟩ = some (.int .i64 k)
theorem Kinds.below {w W : World} {A : Option Addr} {ks : List Int} (h : Kinds w A ks) (hb : Below w.heap.size w W) : Kinds W A ks := fun i x hx => by
  obtain ⟨b, o, e, hc⟩ := h i x hx
  exact ⟨b, o, e, later hb hc⟩
theorem kM_at {w : World} {A : Option Addr} {n : Nat} {xs : List (List (List Int))} (hC : kM.C w A n xs) {i : Nat} {x : List (List Int)} (hx : xs[i]? = some x) :
    ∃ b o A' c', A = some ⟨b, o, none⟩ ∧ w.cell? ⟨b, o + i, none⟩ = some (.slice A' x.length c') ∧ x.length ≤ c' ∧ kL.C w A' x.length x := by
  obtain ⟨b, o, u, e, hc, hK⟩ := kC_at hC rfl hx
  obtain ⟨A', c', e2, h1, h2⟩ := hK
  simp only [List.cons.injEq, and_true] at e2
  subst e2
  exact ⟨b, o, A', c', e, hc, h1, h2⟩
theorem info_l : (Try.prog.info? 23).map (fun i => (i.zero, i.size, i.bytes)) = some (some (.slice none 0 0), 1, 24) := by kernel_rfl
theorem wpList_stop {P : Program} {ops : Array Oper} {Q : Exit → Act → World → Prop} {o : Oper} {rest : List Oper} {a : Act} {w : World} (h : Hid (wpList P ops Q (o :: rest) a w)) : wpList P ops Q (o :: rest) a w := h.out
theorem info_z : ((Try.prog.info? 23).map fun x => x.size) = some 1 := by kernel_rfl
/-- A box of two rows. -/
theorem box2_C {w : World} {A B : Option Addr} {ca cb e : Nat} {x y : List Int} (hx : kI.C w A x.length x) (hy : kI.C w B y.length y) (hca : x.length ≤ ca) (hcb : y.length ≤ cb) :
    kL.C (w.alloc (.cells #[.slice A x.length ca, .slice B y.length cb] e)) (some ⟨w.heap.size, 0, none⟩) 2 [x, y] := by
  refine ⟨rfl, by omega, fun _ => ⟨_, rfl, fun j p hp => ?_⟩⟩
  match j, hp with
  | 0, hp =>
    cases hp
    refine ⟨_, rfl, ⟨A, ca, rfl, hca, Kd.C_alloc hx _⟩, fun i u hu => ?_⟩
    match i, hu with
    | 0, hu => cases hu; exact new_cell _ _ _ 0 rfl
  | 1, hp =>
    cases hp
    refine ⟨_, rfl, ⟨B, cb, rfl, hcb, Kd.C_alloc hy _⟩, fun i u hu => ?_⟩
    match i, hu with
    | 0, hu => cases hu; exact new_cell _ _ _ 1 rfl
/-- A row of the call's own, as new from a block on. -/
theorem fresh_R {α : Type} {d : Kd α} {e base base' : Nat} {w : World} {v : Value} {xs : List α} (h : d.R e w base anyK v xs) (hb : base' ≤ base) : d.R e w base' (fun k => base ≤ k) v xs :=
  Kd.R_lower (Kd.R_mono (Kd.R_bound h) (fun _ hk => hk.2.1)) hb
set_option maxRecDepth 10000 in
set_option maxHeartbeats 4000000 in
theorem whole_any (A0 A1 : Option Addr) (c0 c1 : Nat) (ls : List (List (List Int))) (ks : List Int) (w : World) (hC : kM.C w A0 ls.length ls) (hK : Kinds w A1 ks) (hlen : ls.length = ks.length) (hn : ls.length ≤ 1000) (hm : ∀ l ∈ ls, l.length ≤ 2000) (hp : ∀ l ∈ ls, ∀ p ∈ l, p.length ≤ 100000000)
    (ho : ∀ i j, j ≤ (ls.getD i []).length → ((putN (ks.getD i 0) (wholeN ls ks i).2 (ls.getD i []) (wholeN ls ks i).1 j).length ≤ 400000000 ∧ ∀ p ∈ putN (ks.getD i 0) (wholeN ls ks i).2 (ls.getD i []) (wholeN ls ks i).1 j, p.length ≤ 100000000)) :
    Calls Try.prog 21 #[.slice A0 ls.length c0, .slice A1 ks.length c1] w fun e w' => ∃ v, e = .returned v ∧ kL.R 23 w' w.heap.size anyK v (wholeP ls ks) ∧ Below w.heap.size w w' := by
  have HC := Lib.hid hC
  have HK := Lib.hid hK
  have HM := Lib.hid hm
  have HP := Lib.hid hp
  have HO := Lib.hid ho
  have HLn := Lib.hid hlen
  have hn2 : ks.length ≤ 1000 := by omega
  clear hC hK hm hp ho hlen
  go_enter Try.func21, Try.ntmps21
  go_wp2
  go_step3
  go_wp2
  go_step3
  go_wp2
  go_loopw [5, 6, 14] (fun v o iv wr => ∃ i : Nat, iv = .int .i64 i ∧ i ≤ ls.length ∧ o = .bool (wholeN ls ks i).2 ∧ kL.R 23 wr w.heap.size anyK v (wholeN ls ks i).1 ∧ Below w.heap.size w wr) (fun _ _ iv _ => ls.length - (intOf iv).toNat)
  case atStart => exact ⟨0, rfl, by omega, rfl, Kd.R_nil _ _ _ _ _, Below.refl _ _⟩
  case round =>
    rename World => wq
    obtain ⟨i, rfl, hi, rfl, hR, HBq⟩ := hrel
    by_cases hlt : i < ls.length
    · obtain ⟨l, hl⟩ := at_lt hlt
      obtain ⟨k, hk⟩ := at_lt (l := ks) (i := i) (by have := HLn.out; omega)
      obtain ⟨b0, o0, A2, c2, rfl, hc2w, _, hCl⟩ := kM_at HC.out hl
      obtain ⟨b1, o1, rfl, hc1w⟩ := HK.out i k hk
      have hc2 := later HBq hc2w
      have hc1 := later HBq hc1w
      have hl2 := HM.out l (List.mem_of_getElem? hl)
      have HPl := Lib.hid (HP.out l (List.mem_of_getElem? hl))
      have hik : i < ks.length := by have := HLn.out; omega
      have el : ls.getD i [] = l := by rw [List.getD_eq_getElem?_getD, hl]; rfl
      have ek : ks.getD i 0 = k := by rw [List.getD_eq_getElem?_getD, hk]; rfl
      obtain ⟨on, hon⟩ : ∃ on, (wholeN ls ks i).2 = on := ⟨_, rfl⟩
      obtain ⟨T0, hT0⟩ : ∃ T, (wholeN ls ks i).1 = T := ⟨_, rfl⟩
      have HOi := Lib.hid (HO.out i)
      have HNx : Hid (wholeN ls ks (i + 1) = (putN k on l T0 l.length, hyB k || k == 4)) := Lib.hid (by rw [wholeN, el, ek, hon, hT0])
      rw [el, ek, hon, hT0] at HOi
      rw [hT0] at hR
      rw [hon]
      have HR0 := Lib.hid hR
      have HCl0 := Lib.hid hCl
      have hszq := HBq.size
      clear hl hk el ek hon hT0 hR hCl
      obtain ⟨dd, hdd⟩ : ∃ d, d = decide (ks.length ≤ i) := ⟨_, rfl⟩
      go_wp2_with fail
      try rw [← hdd]
      clear hdd
      go_loopw [5, 25] (fun v jv wr => ∃ j : Nat, jv = .int .i64 j ∧ j ≤ l.length ∧ kL.R 23 wr w.heap.size anyK v (putN k on l T0 j) ∧ Below w.heap.size w wr) (fun _ jv _ => l.length - (intOf jv).toNat)
      case atStart => exact ⟨0, rfl, by omega, HR0.out, HBq⟩
      case round =>
        rename World => wr
        obtain ⟨j, rfl, hj, hR, HB⟩ := hrel
        have kc := later HB hc1w
        by_cases hltj : j < l.length
        · obtain ⟨p, hpj⟩ := at_lt hltj
          obtain ⟨b3, o3, A3, c3, rfl, hc3, hp3, hCp⟩ := kL_at (Kd.C_below HCl0.out HB) hpj
          have hpl := HPl.out p (List.mem_of_getElem? hpj)
          obtain ⟨hTl, hTp⟩ := HOi.out j hj
          have HTp := Lib.hid hTp
          have ep : l.getD j [] = p := by rw [List.getD_eq_getElem?_getD, hpj]; rfl
          have HT1 : Hid (putN k on l T0 (j + 1) = putP (j == 0) on (putN k on l T0 j) (cutP (decide (j + 1 = l.length)) k p)) := Lib.hid (by rw [putN, ep])
          generalize putN k on l T0 j = T at *
          have HCp := Lib.hid hCp
          have HR := Lib.hid hR
          clear hpj ep hTp hR hCp
          go_upto_region 10 with fail
          go_cut [47] from 30 to 52 (fun v wx => v = .bool (decide (j + 1 = l.length) && !p.isEmpty && hyB k) ∧ wx = wr)
          case first =>
            clear HR HB hc3
            by_cases hla : j + 1 = l.length
            · have F1 : ((j : Int) == (l.length : Int) - 1) = true := by rw [beq_iff_eq]; omega
              cases p with
              | nil =>
                go_wp2_with fail
                all_goals (try (rename_i h1 h2; exact absurd h1 no_undef))
                all_goals
                  go_meet
                  exact ⟨by simp, rfl⟩
              | cons y p =>
                have HHy := hyphened_any k wr
                have HQ2 : Hid (hyB k = (decide (j + 1 = l.length) && !(y :: p).isEmpty && hyB k)) := Lib.hid (by rw [decide_eq_true hla]; rfl)
                have F2 : ((0 : Int) < ((y :: p).length : Int)) := by simp only [List.length_cons]; omega
                clear hla
                generalize y :: p = pp at *
                go_wp2_with fail
                refine HHy.mono ?_; rintro e w3 ⟨rfl, rfl⟩
                clear HHy
                go_wp2_with fail
                all_goals (try (rename_i h1 h2; exact absurd h1 no_undef))
                all_goals
                  go_meet
                  exact ⟨by rw [← HQ2.out], rfl⟩
            · have F1 : ((j : Int) == (l.length : Int) - 1) = false := by rw [beq_eq_false_iff_ne]; omega
              have HQ2 : Hid (false = (decide (j + 1 = l.length) && !p.isEmpty && hyB k)) := Lib.hid (by rw [decide_eq_false hla]; rfl)
              clear hla
              go_wp2_with fail
              all_goals (try (rename_i h1 h2; exact absurd h1 no_undef))
              all_goals
                go_meet
                exact ⟨by rw [← HQ2.out], rfl⟩
          case rest =>
          rename World => w3
          obtain ⟨rfl, hwx⟩ := hcut
          subst hwx
          rename World => wr
          with_reducible apply_assumption
          obtain ⟨q, hq⟩ : ∃ q, (decide (j + 1 = l.length) && !p.isEmpty && hyB k) = q := ⟨_, rfl⟩
          rw [hq]
          have HQq := Lib.hid hq
          clear hq
          go_cut [10] from 48 to 53 (fun v wx => ∃ A4 c4 p2, v = .slice A4 p2.length c4 ∧ p2 = cutP (decide (j + 1 = l.length)) k p ∧ kI.C wr A4 p2.length p2 ∧ p2.length ≤ c4 ∧ p2.length ≤ p.length ∧ wx = wr)
          case first =>
            clear HR HB hc3
            have hq := HQq.out
            cases q with
            | false =>
              have HQ2 : Hid (p = cutP (decide (j + 1 = l.length)) k p) := Lib.hid (by
                unfold cutP
                cases p with
                | nil => split <;> rfl
                | cons y p => rw [Bool.and_assoc] at hq; rw [if_neg]; simpa using hq)
              clear hq
              go_wp2_with fail
              go_meet
              exact ⟨_, _, p, rfl, HQ2.out, HCp.out, hp3, Nat.le_refl _, rfl⟩
            | true =>
              simp only [Bool.and_eq_true] at hq
              have HQ2 : Hid (p.take (p.length - 1) = cutP (decide (j + 1 = l.length)) k p) := Lib.hid (by unfold cutP; rw [if_pos]; simp only [Bool.and_eq_true]; exact ⟨hq.1.1, hq.2⟩)
              have F2 : 0 < p.length := by
                cases p with
                | nil => simp at hq
                | cons y p => simp
              clear hq
              go_wp2_with fail
              all_goals (try (rename_i h1 h2; exact absurd h1 no_undef))
              all_goals
                go_meet
                exact ⟨_, _, p.take (p.length - 1), by rw [List.length_take, Nat.min_eq_left (by omega)], HQ2.out, Kd.C_take HCp.out (by omega), by rw [List.length_take]; omega, by rw [List.length_take]; omega, rfl⟩
          case rest =>
            rename World => w3
            obtain ⟨A4, c4, p2, rfl, hp2, hC4, hc4, hl4, hwx⟩ := hcut
            subst hwx
            rename World => wr
            with_reducible apply_assumption
            have HP2 := Lib.hid hp2
            clear hp2
            have HT2 : Hid (putN k on l T0 (j + 1) = putP (j == 0) on T p2) := Lib.hid (by rw [HT1.out, HP2.out])
            have HCl := clone_any A4 c4 p2 wr hC4 (by omega)
            have HLt := Lib.hid (Kd.R_lt HR.out)
            obtain ⟨AT, cT, rfl⟩ := Kd.R_slice HR.out
            clear HT1 HP2
            go_upto_region 13 with fail
            go_cut [64] from 56 to 65 (fun v wx => v = .bool (decide (j = 0) && on && !T.isEmpty) ∧ wx = wr)
            case first =>
              clear HR HCl
              by_cases hj0 : j = 0
              · subst hj0
                cases on with
                | false =>
                  go_wp2_with fail
                  all_goals (try (rename_i h1 h2; exact absurd h1 no_undef))
                  all_goals
                    go_meet
                    exact ⟨by simp, rfl⟩
                | true =>
                  have HQ2 : Hid ((decide (1 ≤ (T.length : Int))) = !T.isEmpty) := Lib.hid (by
                    cases T with
                    | nil => simp
                    | cons y T => simp only [List.length_cons, List.isEmpty_cons, Bool.not_false, decide_eq_true_eq]; omega)
                  go_wp2_with fail
                  all_goals (try (rename_i h1 h2; exact absurd h1 no_undef))
                  all_goals
                    go_meet
                    exact ⟨by rw [HQ2.out]; simp, rfl⟩
              · have F1 : ((j : Int) == 0) = false := by rw [beq_eq_false_iff_ne]; omega
                have HQ2 : Hid (false = (decide (j = 0) && on && !T.isEmpty)) := Lib.hid (by rw [decide_eq_false hj0]; rfl)
                clear hj0
                go_wp2_with fail
                all_goals (try (rename_i h1 h2; exact absurd h1 no_undef))
                all_goals
                  go_meet
                  exact ⟨by rw [← HQ2.out], rfl⟩
            case rest =>
            rename World => w3
            obtain ⟨rfl, hwx⟩ := hcut
            subst hwx
            rename World => wr
            with_reducible apply_assumption
            obtain ⟨q2, hq⟩ : ∃ q, (decide (j = 0) && on && !T.isEmpty) = q := ⟨_, rfl⟩
            rw [hq]
            cases q2 with
            | true =>
              simp only [Bool.and_eq_true, decide_eq_true_eq, Bool.not_eq_true', List.isEmpty_eq_false_iff] at hq
              obtain ⟨⟨rfl, rfl⟩, hne⟩ := hq
              have hpos : 0 < T.length := List.length_pos_iff.mpr hne
              obtain ⟨n, hTn⟩ : ∃ n, T.length = n + 1 := ⟨T.length - 1, by omega⟩
              have HT3 : Hid (putN k true l T0 (0 + 1) = T.set n (T.getD n [] ++ p2)) := Lib.hid (by
                rw [HT2.out]; unfold putP; rw [if_pos (by simp [hne])]; simp [hTn])
              obtain ⟨g, cap, e, hg1, hg2, _⟩ := Kd.R_form HR.out hpos
              cases e
              obtain ⟨c, hcl, hM, hcc, hfr⟩ := Kd.R_elem HR.out [] (n : Int) (by omega) (by omega)
              obtain ⟨u, rfl⟩ : ∃ u, c = [u] := by
                match c, hcl with
                | [u], _ => exact ⟨u, rfl⟩
              simp only [Int.toNat_natCast] at hM hcc hfr
              obtain ⟨A6, c6, rfl, h6, hC6⟩ := kL_open (Kd.K_of_M kL hM)
              have hc6 := hcc 0 _ rfl
              have hfz := hfr 0
              have hxl : (T.getD n []).length ≤ 100000000 := HTp.out _ (by rw [List.getD_eq_getElem?_getD, List.getElem?_eq_getElem (by omega)]; simp)
              have es : kL.sz = 1 := rfl
              simp only [es, Nat.mul_one, Nat.add_zero] at hc6 hfz
              generalize hX : T.getD n [] = x at *
              have eI : ((T.length : Int) - 1) = (n : Int) := by omega
              rw [eI]
              clear HCl hne HT2 hcc hfr hM
              have hB2 := box2_C (e := 23) hC6 hC4 h6 hc4
              have HCc := concat_any _ 2 [x, p2] _ hB2 (by simp) (by simp [sumL]; omega)
              have hbA : Below w.heap.size w (wr.alloc (.cells #[.slice A6 x.length c6, .slice A4 p2.length c4] 23)) := below_alloc HB _
              have HRA := Lib.hid (Kd.R_below HR.out ((Below.refl wr.heap.size wr).alloc (Nat.le_refl _) (.cells #[.slice A6 x.length c6, .slice A4 p2.length c4] 23)))
              have hc6A := old_cell (.cells #[.slice A6 x.length c6, .slice A4 p2.length c4] 23) hc6
              clear hB2 hC6 hC4
              go_wp2_with fail
              refine HCc.mono ?_; rintro e w3 ⟨vc, rfl, hRc, hb3⟩
              have eF : [x, p2].flatten = x ++ p2 := by simp
              rw [eF] at hRc
              obtain ⟨Ac, cc, rfl⟩ := Kd.R_slice hRc
              generalize (x ++ p2).length = m at *
              have hszA : (wr.alloc (.cells #[.slice A6 x.length c6, .slice A4 p2.length c4] 23)).heap.size = wr.heap.size + 1 := by simp
              have hR3 := Lib.hid (Kd.R_below HRA.out hb3)
              have HB3 := hbA.trans (hb3.mono hbA.size)
              have hM3 := Lib.hid (Kd.M_row (fresh_R hRc hbA.size))
              have hc63 := later hb3 hc6A
              have hs3 := hb3.size
              clear HCc hRc hb3 HRA hc6A hc6 hfz
              have hcX : Hid (∀ (j : Nat) (u : Value), [Value.slice A6 x.length c6][j]? = some u → w3.cell? ⟨g, (n : Int).toNat * kL.sz + j, none⟩ = some u) := Lib.hid (fun j u hu => by
                match j, hu with
                | 0, hu => cases hu; rw [es]; simpa using hc63)
              have hMX : Hid (kL.M w3 w.heap.size (fun k => wr.heap.size + 1 ≤ k) (x ++ p2) (List.take 0 [Value.slice A6 x.length c6] ++ [Value.slice Ac m cc] ++ List.drop (0 + [Value.slice Ac m cc].length) [Value.slice A6 x.length c6])) := Lib.hid (by
                have := hM3.out
                rw [hszA] at this
                simpa using this)
              have HTn := Lib.hid hTn
              have hnT : n < T.length := by omega
              clear hc63 hM3 hTn eI
              go_wp2_with (with_reducible refine wpList_stop (o := ⟨none, .store _ _ _, _, _, _, _⟩) ?_)
              refine Lib.hid ?_
              refine Kd.R_store kL (w0 := w) w.heap.size rfl rfl 23 (.tmp 74) (.tmp 73) rfl 23 (g := g) (n := T.length) (cap := cT) (o' := n) (n : Int) 0 T (x ++ p2) (.slice Ac m cc) [.slice Ac m cc] [.slice A6 x.length c6] anyK (fun k => wr.heap.size + 1 ≤ k) (by rfl) (by rw [es]; simp) (by rfl) (by rfl) info_z (by simp [Value.oneCell']) hR3.out (by omega) (by omega) rfl hcX.out (by rw [es]; simp) hMX.out (fun k hk => ⟨trivial, by omega⟩) HB3 ?_
              intro w5 hR5 hb5 hg5
              have HR5 := Lib.hid hR5
              clear hR5 hg5
              go_wp2_with fail
              go_roundw
              case rel => exact ⟨0 + 1, by go_num, by omega, by rw [HT3.out]; simpa using HR5.out, hb5⟩
              case measure => simp [intOf]; omega
            | false =>
              have HT3 : Hid (putN k on l T0 (j + 1) = T ++ [p2]) := Lib.hid (by
                rw [HT2.out]; unfold putP; rw [if_neg]; intro h
                have e : (j == 0) = decide (j = 0) := by cases j <;> simp
                rw [e, hq] at h; cases h)
              clear hq HT2
              go_wp2_with fail
              refine HCl.mono ?_; rintro e w3 ⟨vc, rfl, hRc, hb3⟩
              obtain ⟨Ac, cc, rfl⟩ := Kd.R_slice hRc
              have hR3 := Lib.hid (Kd.R_below HR.out hb3)
              have HB3 := HB.trans (hb3.mono HB.size)
              have hM3 := Lib.hid (Kd.M_row (fresh_R hRc HB.size))
              have hs3 := hb3.size
              have hsw := HB.size
              clear HCl hRc hb3
              go_wp2_with (at_builtin
                           refine Kd.R_append kL (w0 := w) w.heap.size rfl (.tmp 75) (.tmp 78) _ 23 (.slice none 0 0) 24 rfl Try.underlying31 info_l rfl (by decide) (by decide) _ T p2 [.slice Ac p2.length cc] anyK (fun k => wr.heap.size ≤ k) rfl rfl hM3.out (fun k hk => ⟨trivial, fun e => by have := HLt.out k e.symm; omega⟩) (fun _ _ => trivial) hR3.out HB3 (by omega) (by omega) ?_
                           intro v5 w5 hR5 hb5 hg5 hat5
                           have HR5 := Lib.hid hR5
                           clear hR5 hg5 hat5)
              go_roundw
              case rel => exact ⟨j + 1, by go_num, by omega, by rw [HT3.out]; exact HR5.out, hb5⟩
              case measure => simp [intOf]; omega
        · have hje : j = l.length := by omega
          have HRe : Hid (kL.R 23 wr w.heap.size anyK u5 (wholeN ls ks (i + 1)).1) := Lib.hid (by rw [HNx.out]; rw [hje] at hR; exact hR)
          have HRb : Hid ((hyB k || k == 4) = (wholeN ls ks (i + 1)).2) := Lib.hid (by rw [HNx.out])
          have HHy := hyphened_any k wr
          clear hR hje HNx
          go_wp2_with fail
          refine HHy.mono ?_; rintro e w3 ⟨rfl, rfl⟩
          clear HHy
          obtain ⟨q, hq⟩ : ∃ q, hyB k = q := ⟨_, rfl⟩
          rw [hq] at HRb ⊢
          clear hq
          cases q with
          | true =>
            go_wp2_with fail
            exact ⟨⟨i + 1, by go_num, by omega, by rw [← HRb.out]; simp, HRe.out, HB⟩, by simp [intOf]; omega⟩
          | false =>
            go_wp2_with fail
            exact ⟨⟨i + 1, by go_num, by omega, by rw [← HRb.out]; simp, HRe.out, HB⟩, by simp [intOf]; omega⟩
    · have hie : i = ls.length := by omega
      have HE : Hid (kL.R 23 wq w.heap.size anyK u5 (wholeP ls ks)) := Lib.hid (by rw [hie] at hR; exact hR)
      clear hR hie
      go_wp2_with fail
      rw [Exit.noGoto_ret]
      go_ret
      exact ⟨_, rfl, HE.out, HBq⟩
end Go.Proofs.Ytbkfofmanpjbfaa.Bk
