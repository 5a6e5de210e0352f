/- The statement ScaledBack: what its calls answer. -/
import Derived.Test.YthoffhokfcgkoaaScaledLaws2
import Derived.Test.YthoffhokfcgkoaaGrow
namespace Go.Proofs.Ythoffhokfcgkoaa.Scaled
open Go.RowKit Go.Proofs.Ythoffhokfcgkoaa.Kit
set_option linter.unusedVariables false

/-! ### The plain law -/
theorem step_ok {acc x : Int} {xs : List Int} (h : Ok acc x (acc + x)) : sums acc (x :: xs) = sums (acc + x) xs := by
  rw [sums_ok h.v.2, h.v.1]
theorem step_no {acc x : Int} {xs : List Int} (h : ¬ Ok acc x (acc + x)) : sums acc (x :: xs) = (0, 10) := sums_no (by rw [(Ok.n h).2]; decide)
theorem sums_is (l : List Int) : ∀ acc, (sums acc l).2 = 0 ∧ (sums acc l).1 = acc + l.sum ∨ sums acc l = (0, 10) := by
  induction l with
  | nil => intro acc; left; simp [sums]
  | cons x xs ih =>
    intro acc
    rcases ok_or acc x (acc + x) with h | h
    · rw [step_ok h]
      rcases ih (acc + x) with ⟨h1, h2⟩ | h1
      · left; refine ⟨h1, ?_⟩; rw [h2, List.sum_cons]; omega
      · right; exact h1
    · right; exact step_no h
theorem sums_append (l m : List Int) : ∀ acc, sums acc (l ++ m) = if (sums acc l).2 = 0 then sums (sums acc l).1 m else (0, 10) := by
  induction l with
  | nil => intro acc; simp [sums]
  | cons x xs ih =>
    intro acc
    rcases ok_or acc x (acc + x) with h | h
    · rw [List.cons_append, step_ok h, step_ok h]; exact ih _
    · rw [List.cons_append, step_no h, step_no h]; simp
theorem sums_two (l : List Int) : ∃ x e, Hid (sums 0 l = (x, e)) ∧ ((e = 0 ∧ Hid (x = l.sum)) ∨ (e = 10 ∧ x = 0)) := by
  rcases sums_is l 0 with ⟨h1, h2⟩ | h
  · exact ⟨(sums 0 l).1, 0, Lib.hid (Prod.ext rfl h1), .inl ⟨rfl, Lib.hid (by rw [h2]; omega)⟩⟩
  · exact ⟨0, 10, Lib.hid h, .inr ⟨rfl, rfl⟩⟩
theorem sum_is {A : Option Addr} {c : Nat} {xs : List Int} {B : Nat} {v e0 : Int} (hs : Hid (sums 0 xs = (v, e0))) (w : World) (hx : Row (Rep.int .i64) w B A xs) (hl : xs.length ≤ 9223372036854775807) :
    Calls Try.prog 17 #[.slice A xs.length c] w fun e w' => e = .returned (.tuple #[.int .i64 v, .int .i64 e0]) ∧ w = w' := by
  have := sum_any A c xs w hx hl
  rw [hs.out] at this
  exact this
theorem sum_is' {A : Option Addr} {n c : Nat} {xs : List Int} {B : Nat} {v e0 : Int} (hs : Hid (sums 0 xs = (v, e0))) (w : World) (hn : Hid (xs.length = n)) (hx : Row (Rep.int .i64) w B A xs) (hl : xs.length ≤ 9223372036854775807) :
    Calls Try.prog 17 #[.slice A n c] w fun e w' => e = .returned (.tuple #[.int .i64 v, .int .i64 e0]) ∧ w = w' := by
  have h := hn.out
  subst h
  exact sum_is hs w hx hl
theorem addv {a b v e0 : Int} (h : Hid (sV a b (a + b) = v ∧ sE a b (a + b) = e0)) (w : World) : Calls Try.prog 9 #[.int .i64 a, .int .i64 b] w fun e w' => e = .returned (.tuple #[.int .i64 v, .int .i64 e0]) ∧ w = w' := addc _ _ _ _ _ h.out.1 h.out.2
theorem subv {a b v e0 : Int} (h : Hid (sV a b (a - b) = v ∧ sE a b (a - b) = e0)) (w : World) : Calls Try.prog 11 #[.int .i64 a, .int .i64 b] w fun e w' => e = .returned (.tuple #[.int .i64 v, .int .i64 e0]) ∧ w = w' := subc _ _ _ _ _ h.out.1 h.out.2
theorem timesv {a b v e0 : Int} (h : Hid (sV a b (a * b) = v ∧ sE a b (a * b) = e0)) (w : World) : Calls Try.prog 13 #[.int .i64 a, .int .i64 b] w fun e w' => e = .returned (.tuple #[.int .i64 v, .int .i64 e0]) ∧ w = w' := timesc _ _ _ _ _ h.out.1 h.out.2
/-- What is added, either way round, and taken away. -/
theorem add_three (a b : Int) : ∃ s e d g, Hid (sV a b (a + b) = s ∧ sE a b (a + b) = e) ∧ Hid (sV b a (b + a) = s ∧ sE b a (b + a) = e) ∧ Hid (sV s b (s - b) = d ∧ sE s b (s - b) = g) ∧ ((e = 0 ∧ g = 0 ∧ d = a) ∨ e = 10) := by
  rcases ok_or a b (a + b) with h | h
  · have h2 : Ok b a (b + a) := by unfold Ok at *; omega
    have h3 : Ok (a + b) b (a + b - b) := by unfold Ok at *; omega
    exact ⟨a + b, 0, a, 0, Lib.hid h.v, Lib.hid ⟨by rw [h2.v.1]; omega, h2.v.2⟩, Lib.hid ⟨by rw [h3.v.1]; omega, h3.v.2⟩, .inl ⟨rfl, rfl, rfl⟩⟩
  · have h2 : ¬ Ok b a (b + a) := by unfold Ok at *; omega
    exact ⟨0, 10, _, _, Lib.hid (Ok.n h), Lib.hid (Ok.n h2), Lib.hid ⟨rfl, rfl⟩, .inr rfl⟩
/-- The two sums, theirs, and that of all. -/
theorem sums_three (l m : List Int) : ∃ x h y i z j all k, Hid (sums 0 l = (x, h)) ∧ Hid (sums 0 m = (y, i)) ∧ Hid (sV x y (x + y) = z ∧ sE x y (x + y) = j) ∧ Hid (sums 0 (l ++ m) = (all, k)) ∧
    ((h = 10 ∧ k = 10) ∨ (h = 0 ∧ i = 10) ∨ (h = 0 ∧ i = 0 ∧ j = 10) ∨ (h = 0 ∧ i = 0 ∧ j = 0 ∧ k = 10) ∨ (h = 0 ∧ i = 0 ∧ j = 0 ∧ k = 0 ∧ all = z)) := by
  obtain ⟨x, h, hx, hx'⟩ := sums_two l
  obtain ⟨y, i, hy, hy'⟩ := sums_two m
  obtain ⟨all, k, ha, ha'⟩ := sums_two (l ++ m)
  have hj : sE x y (x + y) = 0 ∨ sE x y (x + y) = 10 := sE_cases _ _ _
  refine ⟨x, h, y, i, _, _, all, k, hx, hy, Lib.hid ⟨rfl, rfl⟩, ha, ?_⟩
  rcases hx' with ⟨rfl, hx'⟩ | ⟨rfl, rfl⟩
  · rcases hy' with ⟨rfl, hy'⟩ | ⟨rfl, rfl⟩
    · rcases hj with hj | hj
      · rcases ha' with ⟨rfl, ha'⟩ | ⟨rfl, rfl⟩
        · refine .inr (.inr (.inr (.inr ⟨rfl, rfl, hj, rfl, ?_⟩)))
          have hok : Ok x y (x + y) := by
            rcases ok_or x y (x + y) with h | h
            · exact h
            · rw [(Ok.n h).2] at hj; cases hj
          rw [hok.v.1, ha'.out, hx'.out, hy'.out, List.sum_append]
        · exact .inr (.inr (.inr (.inl ⟨rfl, rfl, hj, rfl⟩)))
      · exact .inr (.inr (.inl ⟨rfl, rfl, hj⟩))
    · exact .inr (.inl ⟨rfl, rfl⟩)
  · refine .inl ⟨rfl, ?_⟩
    have := sums_append l m 0
    rw [hx.out, ha.out] at this
    simp at this
    exact this.2

/-! ### The walks -/
theorem info_int : (Try.prog.info? 3).map (fun i => (i.zero, i.size, i.bytes)) = some (some (.int .i64 0), 1, 8) := by kernel_rfl

set_option maxRecDepth 100000 in
set_option maxHeartbeats 4000000 in
theorem back_walk (a b : Int) (A : Option Addr) (n c : Nat) (l : List Int) (A' : Option Addr) (n' c' : Nat) (m : List Int) (w : World) (wa : (Lit.int .i64 a).wf = true) (wb : (Lit.int .i64 b).wf = true)
    (h : (Rep.int .i64).slice.K w w.heap.size [.slice A n c] l) (h' : (Rep.int .i64).slice.K w w.heap.size [.slice A' n' c'] m) :
    Calls Try.prog 5 #[.int .i64 a, .int .i64 b, .slice A n c, .slice A' n' c'] w fun e w' => e = .returned (.bool true) ∧ Below w.heap.size w w' := by
  clear wa wb
  obtain ⟨rfl, h1, h2, hl⟩ := slice_of h
  obtain ⟨rfl, h1', h2', hm⟩ := slice_of h'
  have hml : l.length ≤ 9223372036854775807 := by omega
  have hmm : m.length ≤ 9223372036854775807 := by omega
  clear h h' h1 h2 h1' h2'
  by_cases hb1 : 100 < l.length
  · go_enter Try.func5, Try.ntmps5
    go_wp2_with (go_at_call 8; refine (awake_any _).mono ?_; rintro e w1 ⟨rfl, HB⟩)
    go_ret
    exact ⟨rfl, HB⟩
  by_cases hb2 : 100 < m.length
  · go_enter Try.func5, Try.ntmps5
    go_wp2_with (go_at_call 8; refine (awake_any _).mono ?_; rintro e w1 ⟨rfl, HB⟩)
    go_ret
    exact ⟨rfl, HB⟩
  obtain ⟨s, e, d, g, T1, T2, T3, hT⟩ := add_three a b
  obtain ⟨x, h, y, i, z, j, all, k, S1, S2, S3, S4, hS⟩ := sums_three l m
  rcases hT with ⟨rfl, rfl, rfl⟩ | rfl
  · rcases hS with ⟨rfl, rfl⟩ | ⟨rfl, rfl⟩ | ⟨rfl, rfl, rfl⟩ | ⟨rfl, rfl, rfl, rfl⟩ | ⟨rfl, rfl, rfl, rfl, rfl⟩
    all_goals
      go_enter Try.func5, Try.ntmps5
      go_wp2_with (first
        | (go_at_call 8; refine (awake_any _).mono ?_; rintro e w1 ⟨rfl, HB⟩; have hsz := HB.size)
        | (go_at_call 9; (first | with_reducible refine (addv T1 _).mono ?_ | with_reducible refine (addv T2 _).mono ?_ | with_reducible refine (addv S3 _).mono ?_); rintro e w' ⟨rfl, rfl⟩)
        | (go_at_call 11; with_reducible refine (subv T3 _).mono ?_; rintro e w' ⟨rfl, rfl⟩)
        | (go_at_call 17; (first | with_reducible refine (sum_is S1 _ (hl.mono HB) hml).mono ?_ | with_reducible refine (sum_is S2 _ (hm.mono HB) hmm).mono ?_ | with_reducible refine (sum_is' S4 _ (Lib.hid List.length_append) hrow3 hlen3).mono ?_); rintro e w' ⟨rfl, rfl⟩)
        | (at_builtin
           refine wpList_append_seen rfl (.tmp 71) (.tmp 72) _ rfl w1.heap.size 3 (.int .i64 0) 1 8 Try.underlying28 info_int rfl (by decide) (.slice (some ⟨w1.heap.size, 0, none⟩) 0 0) 0 [] rfl (own_none0 w1 _ _) A l.length c (l.map (Value.int .i64)) rfl (by simp) (sees_ints (hl.mono (HB.alloc hsz _))) (one_ints _ _) (by omega) (by omega) (by simp) (row_none hl) ?_
           intro v1 w2 hown1 hg1 _
           have HB2 := (HB.alloc hsz (.cells #[] 3)).grown hg1 (by simp; omega) (fun k hk => by simp [Value.ownBlock] at hk; omega)
           have hs2 := hg1.size
           simp only [World.size_alloc] at hs2
           clear hg1)
        | (at_builtin
           refine wpList_append_seen rfl (.tmp 73) (.tmp 74) _ rfl w1.heap.size 3 (.int .i64 0) 1 8 Try.underlying28 info_int rfl (by decide) v1 _ _ rfl hown1 A' m.length c' (m.map (Value.int .i64)) rfl (by simp) (sees_ints (hm.mono HB2)) (one_ints _ _) (by omega) (by omega) (by omega) (row_none hm) ?_
           intro v2 w3 hown2 hg2 _
           have HB3 := HB2.grown hg2 (by omega) (fun k hk => by have := own_base hown1 k hk; omega)
           obtain ⟨A2, c2, hv2, hn2, hrow3, hlen3⟩ := own_row (l := l ++ m) (by simpa using hown2) (wf_app (row_wf hl) (row_wf hm))
           rw [List.length_append] at hv2
           subst hv2
           clear hown1 hown2 hg2 hn2))
      all_goals
        go_ret
        exact ⟨rfl, HB3⟩
  · rcases hS with ⟨rfl, rfl⟩ | ⟨rfl, rfl⟩ | ⟨rfl, rfl, rfl⟩ | ⟨rfl, rfl, rfl, rfl⟩ | ⟨rfl, rfl, rfl, rfl, rfl⟩
    all_goals
      go_enter Try.func5, Try.ntmps5
      go_wp2_with (first
        | (go_at_call 8; refine (awake_any _).mono ?_; rintro e w1 ⟨rfl, HB⟩; have hsz := HB.size)
        | (go_at_call 9; (first | with_reducible refine (addv T1 _).mono ?_ | with_reducible refine (addv T2 _).mono ?_ | with_reducible refine (addv S3 _).mono ?_); rintro e w' ⟨rfl, rfl⟩)
        | (go_at_call 11; with_reducible refine (subv T3 _).mono ?_; rintro e w' ⟨rfl, rfl⟩)
        | (go_at_call 17; (first | with_reducible refine (sum_is S1 _ (hl.mono HB) hml).mono ?_ | with_reducible refine (sum_is S2 _ (hm.mono HB) hmm).mono ?_ | with_reducible refine (sum_is' S4 _ (Lib.hid List.length_append) hrow3 hlen3).mono ?_); rintro e w' ⟨rfl, rfl⟩)
        | (at_builtin
           refine wpList_append_seen rfl (.tmp 71) (.tmp 72) _ rfl w1.heap.size 3 (.int .i64 0) 1 8 Try.underlying28 info_int rfl (by decide) (.slice (some ⟨w1.heap.size, 0, none⟩) 0 0) 0 [] rfl (own_none0 w1 _ _) A l.length c (l.map (Value.int .i64)) rfl (by simp) (sees_ints (hl.mono (HB.alloc hsz _))) (one_ints _ _) (by omega) (by omega) (by simp) (row_none hl) ?_
           intro v1 w2 hown1 hg1 _
           have HB2 := (HB.alloc hsz (.cells #[] 3)).grown hg1 (by simp; omega) (fun k hk => by simp [Value.ownBlock] at hk; omega)
           have hs2 := hg1.size
           simp only [World.size_alloc] at hs2
           clear hg1)
        | (at_builtin
           refine wpList_append_seen rfl (.tmp 73) (.tmp 74) _ rfl w1.heap.size 3 (.int .i64 0) 1 8 Try.underlying28 info_int rfl (by decide) v1 _ _ rfl hown1 A' m.length c' (m.map (Value.int .i64)) rfl (by simp) (sees_ints (hm.mono HB2)) (one_ints _ _) (by omega) (by omega) (by omega) (row_none hm) ?_
           intro v2 w3 hown2 hg2 _
           have HB3 := HB2.grown hg2 (by omega) (fun k hk => by have := own_base hown1 k hk; omega)
           obtain ⟨A2, c2, hv2, hn2, hrow3, hlen3⟩ := own_row (l := l ++ m) (by simpa using hown2) (wf_app (row_wf hl) (row_wf hm))
           rw [List.length_append] at hv2
           subst hv2
           clear hown1 hown2 hg2 hn2))
      all_goals
        go_ret
        exact ⟨rfl, HB3⟩

end Go.Proofs.Ythoffhokfcgkoaa.Scaled
