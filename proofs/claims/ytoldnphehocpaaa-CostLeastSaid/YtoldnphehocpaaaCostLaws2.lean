/- The statements CostOrder, CostAdds, CostNone and CostRises: what their calls answer. -/
import Derived.Test.YtoldnphehocpaaaCostLaws1
namespace Go.Proofs.Ytoldnphehocpaaa.Cost
open Go.RowKit Go.Proofs.Ytoldnphehocpaaa.Kit
set_option linter.unusedVariables false
set_option linter.unusedSimpArgs false

theorem lessv {u d v e0 : Int} {r : Bool} (h : Hid (lt u d v e0 = r)) (w : World) :
    Calls Try.prog 14 #[.agg #[.int .i64 u, .int .i64 d], .agg #[.int .i64 v, .int .i64 e0]] w fun e w' => e = .returned (.bool r) ∧ Below w.heap.size w w' := lessc u d v e0 r w h
theorem checkv {u d : Int} {r : Bool} (h : Hid (ck u d = r)) (w : World) :
    Calls Try.prog 12 #[.agg #[.int .i64 u, .int .i64 d]] w fun e w' => e = .returned (.bool r) ∧ Below w.heap.size w w' := checkc u d r w h
theorem addv {u d v e0 a b c : Int} (h : Hid (sum u d v e0 = (a, b, c))) (w : World) :
    Calls Try.prog 10 #[.agg #[.int .i64 u, .int .i64 d], .agg #[.int .i64 v, .int .i64 e0]] w fun e w' => e = .returned (.tuple #[.agg #[.int .i64 a, .int .i64 b], .int .i64 c]) ∧ Below w.heap.size w w' := addc u d v e0 a b c w h

/-! ### The plain laws -/
theorem lt_t {u d v e : Int} (h : u < v ∨ u = v ∧ d < e) : lt u d v e = true := decide_eq_true h
theorem lt_f {u d v e : Int} (h : ¬ (u < v ∨ u = v ∧ d < e)) : lt u d v e = false := decide_eq_false h
theorem lt_tt {u d v e : Int} (h : lt u d v e = true) : u < v ∨ u = v ∧ d < e := of_decide_eq_true h
theorem lt_ff {u d v e : Int} (h : lt u d v e = false) : ¬ (u < v ∨ u = v ∧ d < e) := of_decide_eq_false h
theorem sum_cases (u d v e : Int) : (sum u d v e = (u + v, d + e, 0) ∧ ck u d = true ∧ ck v e = true ∧ ck (u + v) (d + e) = true) ∨ sum u d v e = (0, 0, 50) := by
  cases h1 : ck u d with
  | false => exact .inr (sum_f1 h1)
  | true => cases h2 : ck v e with
    | false => exact .inr (sum_f2 h2)
    | true => cases h3 : ck (u + v) (d + e) with
      | false => exact .inr (sum_f3 h3)
      | true => exact .inl ⟨sum_t h1 h2 h3, rfl, rfl, rfl⟩
theorem ok_comm (u d v e : Int) : ok u d v e = ok v e u d := by
  unfold ok
  rw [Int.add_comm u v, Int.add_comm d e, Bool.and_comm (ck u d)]
theorem sum_comm (u d v e : Int) : sum u d v e = sum v e u d := by
  unfold sum
  rw [ok_comm u d v e, Int.add_comm u v, Int.add_comm d e]


set_option maxRecDepth 100000 in
set_option maxHeartbeats 4000000 in
theorem order_walk (ca : Array Value) (a : Int × Int) (cb : Array Value) (b : Int × Int) (cc : Array Value) (c : Int × Int) (w : World) (ha : CostR.K w w.heap.size ca.toList a) (hb : CostR.K w w.heap.size cb.toList b) (hc : CostR.K w w.heap.size cc.toList c) :
    Calls Try.prog 4 #[.agg ca, .agg cb, .agg cc] w fun e w' => e = .returned (.bool true) ∧ Below w.heap.size w w' := by
  obtain ⟨rfl, _, _⟩ := cost_of ha
  obtain ⟨a0, a1⟩ := a
  obtain ⟨rfl, _, _⟩ := cost_of hb
  obtain ⟨b0, b1⟩ := b
  obtain ⟨rfl, _, _⟩ := cost_of hc
  obtain ⟨c0, c1⟩ := c
  clear ha hb hc
  by_cases hq : a0 = b0 ∧ a1 = b1
  · obtain ⟨hq1, hq2⟩ := hq
    subst hq1; subst hq2
    have H1 : Hid (lt a0 a1 a0 a1 = false) := Lib.hid (lt_f (by omega)); have H2 := H1; have H3 := H1; have H4 := H1
    go_enter Try.func4, Try.ntmps4
    go_wp2_with fail
    refine (awake_any _).mono ?_; rintro e w1 ⟨rfl, hb1⟩
    have Ba : Box w1 (w.heap.size) #[Value.int .i64 (a0), Value.int .i64 (a1)] 23 := by simpa using (((Box.new w #[Value.int .i64 (a0), Value.int .i64 (a1)] 23).alloc _).alloc _).below hb1
    have Bb : Box w1 (w.heap.size + 1) #[Value.int .i64 (a0), Value.int .i64 (a1)] 23 := by simpa using ((Box.new (w.alloc (.cells #[Value.int .i64 (a0), Value.int .i64 (a1)] 23)) #[Value.int .i64 (a0), Value.int .i64 (a1)] 23).alloc _).below hb1
    have Bc : Box w1 (w.heap.size + 1 + 1) #[Value.int .i64 (c0), Value.int .i64 (c1)] 23 := by simpa using (Box.new ((w.alloc (.cells #[Value.int .i64 (a0), Value.int .i64 (a1)] 23)).alloc (.cells #[Value.int .i64 (a0), Value.int .i64 (a1)] 23)) #[Value.int .i64 (c0), Value.int .i64 (c1)] 23).below hb1
    have HB := below_join (below_alloc (below_alloc (below_alloc (Below.refl _ w) _) _) _) hb1
    clear hb1
    have ea0 : _ = some (Value.int .i64 (a0)) := Ba.cell 0 rfl; have ea1 : _ = some (Value.int .i64 (a1)) := Ba.cell 1 rfl; have la := Ba.lt
    have eb0 : _ = some (Value.int .i64 (a0)) := Bb.cell 0 rfl; have eb1 : _ = some (Value.int .i64 (a1)) := Bb.cell 1 rfl; have lb := Bb.lt
    have ec0 : _ = some (Value.int .i64 (c0)) := Bc.cell 0 rfl; have ec1 : _ = some (Value.int .i64 (c1)) := Bc.cell 1 rfl; have lc := Bc.lt
    go_wp2_with fail
    obtain ⟨W, rfl⟩ : ∃ W : World, W = w1 := ⟨_, rfl⟩
    have HK : Hid (∀ w', Below W.heap.size W w' → Below W.heap.size W w' ∧ w'.cell? ⟨w.heap.size, 0, none⟩ = some (.int .i64 (a0)) ∧ w'.cell? ⟨w.heap.size, 1, none⟩ = some (.int .i64 (a1)) ∧ w'.cell? ⟨w.heap.size + 1, 0, none⟩ = some (.int .i64 (a0)) ∧ w'.cell? ⟨w.heap.size + 1, 1, none⟩ = some (.int .i64 (a1)) ∧ w'.cell? ⟨w.heap.size + 1 + 1, 0, none⟩ = some (.int .i64 (c0)) ∧ w'.cell? ⟨w.heap.size + 1 + 1, 1, none⟩ = some (.int .i64 (c1))) := Lib.hid fun w' hb => ⟨hb, later hb ea0, later hb ea1, later hb eb0, later hb eb1, later hb ec0, later hb ec1⟩
    go_region_held3 (fun w' => Below W.heap.size W w' ∧ w'.cell? ⟨w.heap.size, 0, none⟩ = some (.int .i64 (a0)) ∧ w'.cell? ⟨w.heap.size, 1, none⟩ = some (.int .i64 (a1)) ∧ w'.cell? ⟨w.heap.size + 1, 0, none⟩ = some (.int .i64 (a0)) ∧ w'.cell? ⟨w.heap.size + 1, 1, none⟩ = some (.int .i64 (a1)) ∧ w'.cell? ⟨w.heap.size + 1 + 1, 0, none⟩ = some (.int .i64 (c0)) ∧ w'.cell? ⟨w.heap.size + 1 + 1, 1, none⟩ = some (.int .i64 (c1)))
      (first | exact HK.out _ (below_drew (Below.refl _ _)) | exact HK.out _ (below_join (below_drew (Below.refl _ _)) hbq) | exact HK.out _ (below_join ‹Below W.heap.size W _ ∧ _›.1 hbq))
      (first | (go_at_call 14; (first | with_reducible refine (lessv H1 _).mono ?_ | with_reducible refine (lessv H2 _).mono ?_); rintro e wq ⟨rfl, hbq⟩))
    have HW := ‹Below W.heap.size W _ ∧ _›.1
    clear HK ea0 ea1 la eb0 eb1 lb ec0 ec1 lc
    replace Ba := Ba.below HW
    replace Bb := Bb.below HW
    replace Bc := Bc.below HW
    replace HB := below_join HB HW
    have ea0 : _ = some (Value.int .i64 (a0)) := Ba.cell 0 rfl; have ea1 : _ = some (Value.int .i64 (a1)) := Ba.cell 1 rfl; have la := Ba.lt
    have eb0 : _ = some (Value.int .i64 (a0)) := Bb.cell 0 rfl; have eb1 : _ = some (Value.int .i64 (a1)) := Bb.cell 1 rfl; have lb := Bb.lt
    have ec0 : _ = some (Value.int .i64 (c0)) := Bc.cell 0 rfl; have ec1 : _ = some (Value.int .i64 (c1)) := Bc.cell 1 rfl; have lc := Bc.lt
    go_wp2_with (go_at_call 14; (first | with_reducible refine (lessv H1 _).mono ?_ | with_reducible refine (lessv H3 _).mono ?_ | with_reducible refine (lessv H4 _).mono ?_); rintro e wq ⟨rfl, hbq⟩; replace Ba := Ba.below hbq; replace Bb := Bb.below hbq; replace Bc := Bc.below hbq; replace HB := below_join HB hbq; clear hbq ea0 ea1 la eb0 eb1 lb ec0 ec1 lc; (have ea0 : _ = some (Value.int .i64 (a0)) := Ba.cell 0 rfl; have ea1 : _ = some (Value.int .i64 (a1)) := Ba.cell 1 rfl; have la := Ba.lt); (have eb0 : _ = some (Value.int .i64 (a0)) := Bb.cell 0 rfl; have eb1 : _ = some (Value.int .i64 (a1)) := Bb.cell 1 rfl; have lb := Bb.lt); (have ec0 : _ = some (Value.int .i64 (c0)) := Bc.cell 0 rfl; have ec1 : _ = some (Value.int .i64 (c1)) := Bc.cell 1 rfl; have lc := Bc.lt))
    all_goals
      go_ret
      exact ⟨rfl, by first | exact HB | exact below_drewN HB _⟩
  · have hcase : (lt a0 a1 b0 b1 = true ∧ lt b0 b1 a0 a1 = false) ∨ (lt a0 a1 b0 b1 = false ∧ lt b0 b1 a0 a1 = true) := by
      by_cases h : a0 < b0 ∨ a0 = b0 ∧ a1 < b1
      · exact .inl ⟨lt_t h, lt_f (by omega)⟩
      · exact .inr ⟨lt_f h, lt_t (by omega)⟩
    have hne : a0 ≠ b0 ∨ (a0 = b0 ∧ a1 ≠ b1) := by omega
    clear hq
    have htr : lt a0 a1 b0 b1 = true → lt b0 b1 c0 c1 = true → lt a0 a1 c0 c1 = true := fun h1 h2 => lt_t (by have := lt_tt h1; have := lt_tt h2; omega)
    have h34 : ∃ r2 r3 r4, Hid (lt b0 b1 a0 a1 = !r2) ∧ Hid (lt b0 b1 c0 c1 = r3) ∧ Hid (lt a0 a1 c0 c1 = r4) ∧ Hid (lt a0 a1 b0 b1 = r2) ∧ (r2 = false ∨ (r2 = true ∧ r3 = false) ∨ (r2 = true ∧ r3 = true ∧ r4 = true)) := by
      rcases hcase with ⟨h1, h2⟩ | ⟨h1, h2⟩
      · refine ⟨true, _, _, Lib.hid h2, Lib.hid rfl, Lib.hid rfl, Lib.hid h1, ?_⟩
        cases hr : lt b0 b1 c0 c1 with
        | false => exact .inr (.inl ⟨rfl, rfl⟩)
        | true => exact .inr (.inr ⟨rfl, rfl, htr h1 hr⟩)
      · exact ⟨false, _, _, Lib.hid h2, Lib.hid rfl, Lib.hid rfl, Lib.hid h1, .inl rfl⟩
    clear hcase htr
    obtain ⟨r2, r3, r4, H2, H3, H4, H1, hr⟩ := h34
    rcases hne with hne | ⟨hq, hne⟩
    · have hne' : (a0 == b0) = false := by simpa using hne
      clear hne
      rcases hr with rfl | ⟨rfl, rfl⟩ | ⟨rfl, rfl, rfl⟩
      all_goals
        go_enter Try.func4, Try.ntmps4
        go_wp2_with fail
        refine (awake_any _).mono ?_; rintro e w1 ⟨rfl, hb1⟩
        have Ba : Box w1 (w.heap.size) #[Value.int .i64 (a0), Value.int .i64 (a1)] 23 := by simpa using (((Box.new w #[Value.int .i64 (a0), Value.int .i64 (a1)] 23).alloc _).alloc _).below hb1
        have Bb : Box w1 (w.heap.size + 1) #[Value.int .i64 (b0), Value.int .i64 (b1)] 23 := by simpa using ((Box.new (w.alloc (.cells #[Value.int .i64 (a0), Value.int .i64 (a1)] 23)) #[Value.int .i64 (b0), Value.int .i64 (b1)] 23).alloc _).below hb1
        have Bc : Box w1 (w.heap.size + 1 + 1) #[Value.int .i64 (c0), Value.int .i64 (c1)] 23 := by simpa using (Box.new ((w.alloc (.cells #[Value.int .i64 (a0), Value.int .i64 (a1)] 23)).alloc (.cells #[Value.int .i64 (b0), Value.int .i64 (b1)] 23)) #[Value.int .i64 (c0), Value.int .i64 (c1)] 23).below hb1
        have HB := below_join (below_alloc (below_alloc (below_alloc (Below.refl _ w) _) _) _) hb1
        clear hb1
        have ea0 : _ = some (Value.int .i64 (a0)) := Ba.cell 0 rfl; have ea1 : _ = some (Value.int .i64 (a1)) := Ba.cell 1 rfl; have la := Ba.lt
        have eb0 : _ = some (Value.int .i64 (b0)) := Bb.cell 0 rfl; have eb1 : _ = some (Value.int .i64 (b1)) := Bb.cell 1 rfl; have lb := Bb.lt
        have ec0 : _ = some (Value.int .i64 (c0)) := Bc.cell 0 rfl; have ec1 : _ = some (Value.int .i64 (c1)) := Bc.cell 1 rfl; have lc := Bc.lt
        go_wp2_with fail
        obtain ⟨W, rfl⟩ : ∃ W : World, W = w1 := ⟨_, rfl⟩
        have HK : Hid (∀ w', Below W.heap.size W w' → Below W.heap.size W w' ∧ w'.cell? ⟨w.heap.size, 0, none⟩ = some (.int .i64 (a0)) ∧ w'.cell? ⟨w.heap.size, 1, none⟩ = some (.int .i64 (a1)) ∧ w'.cell? ⟨w.heap.size + 1, 0, none⟩ = some (.int .i64 (b0)) ∧ w'.cell? ⟨w.heap.size + 1, 1, none⟩ = some (.int .i64 (b1)) ∧ w'.cell? ⟨w.heap.size + 1 + 1, 0, none⟩ = some (.int .i64 (c0)) ∧ w'.cell? ⟨w.heap.size + 1 + 1, 1, none⟩ = some (.int .i64 (c1))) := Lib.hid fun w' hb => ⟨hb, later hb ea0, later hb ea1, later hb eb0, later hb eb1, later hb ec0, later hb ec1⟩
        go_region_held3 (fun w' => Below W.heap.size W w' ∧ w'.cell? ⟨w.heap.size, 0, none⟩ = some (.int .i64 (a0)) ∧ w'.cell? ⟨w.heap.size, 1, none⟩ = some (.int .i64 (a1)) ∧ w'.cell? ⟨w.heap.size + 1, 0, none⟩ = some (.int .i64 (b0)) ∧ w'.cell? ⟨w.heap.size + 1, 1, none⟩ = some (.int .i64 (b1)) ∧ w'.cell? ⟨w.heap.size + 1 + 1, 0, none⟩ = some (.int .i64 (c0)) ∧ w'.cell? ⟨w.heap.size + 1 + 1, 1, none⟩ = some (.int .i64 (c1)))
          (first | exact HK.out _ (below_drew (Below.refl _ _)) | exact HK.out _ (below_join (below_drew (Below.refl _ _)) hbq) | exact HK.out _ (below_join ‹Below W.heap.size W _ ∧ _›.1 hbq))
          (first | (go_at_call 14; (first | with_reducible refine (lessv H1 _).mono ?_ | with_reducible refine (lessv H2 _).mono ?_); rintro e wq ⟨rfl, hbq⟩))
        have HW := ‹Below W.heap.size W _ ∧ _›.1
        clear HK ea0 ea1 la eb0 eb1 lb ec0 ec1 lc
        replace Ba := Ba.below HW
        replace Bb := Bb.below HW
        replace Bc := Bc.below HW
        replace HB := below_join HB HW
        have ea0 : _ = some (Value.int .i64 (a0)) := Ba.cell 0 rfl; have ea1 : _ = some (Value.int .i64 (a1)) := Ba.cell 1 rfl; have la := Ba.lt
        have eb0 : _ = some (Value.int .i64 (b0)) := Bb.cell 0 rfl; have eb1 : _ = some (Value.int .i64 (b1)) := Bb.cell 1 rfl; have lb := Bb.lt
        have ec0 : _ = some (Value.int .i64 (c0)) := Bc.cell 0 rfl; have ec1 : _ = some (Value.int .i64 (c1)) := Bc.cell 1 rfl; have lc := Bc.lt
        go_wp2_with (go_at_call 14; (first | with_reducible refine (lessv H1 _).mono ?_ | with_reducible refine (lessv H3 _).mono ?_ | with_reducible refine (lessv H4 _).mono ?_); rintro e wq ⟨rfl, hbq⟩; replace Ba := Ba.below hbq; replace Bb := Bb.below hbq; replace Bc := Bc.below hbq; replace HB := below_join HB hbq; clear hbq ea0 ea1 la eb0 eb1 lb ec0 ec1 lc; (have ea0 : _ = some (Value.int .i64 (a0)) := Ba.cell 0 rfl; have ea1 : _ = some (Value.int .i64 (a1)) := Ba.cell 1 rfl; have la := Ba.lt); (have eb0 : _ = some (Value.int .i64 (b0)) := Bb.cell 0 rfl; have eb1 : _ = some (Value.int .i64 (b1)) := Bb.cell 1 rfl; have lb := Bb.lt); (have ec0 : _ = some (Value.int .i64 (c0)) := Bc.cell 0 rfl; have ec1 : _ = some (Value.int .i64 (c1)) := Bc.cell 1 rfl; have lc := Bc.lt))
        all_goals
          go_ret
          exact ⟨rfl, by first | exact HB | exact below_drewN HB _⟩
    · have hne' : (a1 == b1) = false := by simpa using hne
      subst hq
      clear hne
      rcases hr with rfl | ⟨rfl, rfl⟩ | ⟨rfl, rfl, rfl⟩
      all_goals
        go_enter Try.func4, Try.ntmps4
        go_wp2_with fail
        refine (awake_any _).mono ?_; rintro e w1 ⟨rfl, hb1⟩
        have Ba : Box w1 (w.heap.size) #[Value.int .i64 (a0), Value.int .i64 (a1)] 23 := by simpa using (((Box.new w #[Value.int .i64 (a0), Value.int .i64 (a1)] 23).alloc _).alloc _).below hb1
        have Bb : Box w1 (w.heap.size + 1) #[Value.int .i64 (a0), Value.int .i64 (b1)] 23 := by simpa using ((Box.new (w.alloc (.cells #[Value.int .i64 (a0), Value.int .i64 (a1)] 23)) #[Value.int .i64 (a0), Value.int .i64 (b1)] 23).alloc _).below hb1
        have Bc : Box w1 (w.heap.size + 1 + 1) #[Value.int .i64 (c0), Value.int .i64 (c1)] 23 := by simpa using (Box.new ((w.alloc (.cells #[Value.int .i64 (a0), Value.int .i64 (a1)] 23)).alloc (.cells #[Value.int .i64 (a0), Value.int .i64 (b1)] 23)) #[Value.int .i64 (c0), Value.int .i64 (c1)] 23).below hb1
        have HB := below_join (below_alloc (below_alloc (below_alloc (Below.refl _ w) _) _) _) hb1
        clear hb1
        have ea0 : _ = some (Value.int .i64 (a0)) := Ba.cell 0 rfl; have ea1 : _ = some (Value.int .i64 (a1)) := Ba.cell 1 rfl; have la := Ba.lt
        have eb0 : _ = some (Value.int .i64 (a0)) := Bb.cell 0 rfl; have eb1 : _ = some (Value.int .i64 (b1)) := Bb.cell 1 rfl; have lb := Bb.lt
        have ec0 : _ = some (Value.int .i64 (c0)) := Bc.cell 0 rfl; have ec1 : _ = some (Value.int .i64 (c1)) := Bc.cell 1 rfl; have lc := Bc.lt
        go_wp2_with fail
        obtain ⟨W, rfl⟩ : ∃ W : World, W = w1 := ⟨_, rfl⟩
        have HK : Hid (∀ w', Below W.heap.size W w' → Below W.heap.size W w' ∧ w'.cell? ⟨w.heap.size, 0, none⟩ = some (.int .i64 (a0)) ∧ w'.cell? ⟨w.heap.size, 1, none⟩ = some (.int .i64 (a1)) ∧ w'.cell? ⟨w.heap.size + 1, 0, none⟩ = some (.int .i64 (a0)) ∧ w'.cell? ⟨w.heap.size + 1, 1, none⟩ = some (.int .i64 (b1)) ∧ w'.cell? ⟨w.heap.size + 1 + 1, 0, none⟩ = some (.int .i64 (c0)) ∧ w'.cell? ⟨w.heap.size + 1 + 1, 1, none⟩ = some (.int .i64 (c1))) := Lib.hid fun w' hb => ⟨hb, later hb ea0, later hb ea1, later hb eb0, later hb eb1, later hb ec0, later hb ec1⟩
        go_region_held3 (fun w' => Below W.heap.size W w' ∧ w'.cell? ⟨w.heap.size, 0, none⟩ = some (.int .i64 (a0)) ∧ w'.cell? ⟨w.heap.size, 1, none⟩ = some (.int .i64 (a1)) ∧ w'.cell? ⟨w.heap.size + 1, 0, none⟩ = some (.int .i64 (a0)) ∧ w'.cell? ⟨w.heap.size + 1, 1, none⟩ = some (.int .i64 (b1)) ∧ w'.cell? ⟨w.heap.size + 1 + 1, 0, none⟩ = some (.int .i64 (c0)) ∧ w'.cell? ⟨w.heap.size + 1 + 1, 1, none⟩ = some (.int .i64 (c1)))
          (first | exact HK.out _ (below_drew (Below.refl _ _)) | exact HK.out _ (below_join (below_drew (Below.refl _ _)) hbq) | exact HK.out _ (below_join ‹Below W.heap.size W _ ∧ _›.1 hbq))
          (first | (go_at_call 14; (first | with_reducible refine (lessv H1 _).mono ?_ | with_reducible refine (lessv H2 _).mono ?_); rintro e wq ⟨rfl, hbq⟩))
        have HW := ‹Below W.heap.size W _ ∧ _›.1
        clear HK ea0 ea1 la eb0 eb1 lb ec0 ec1 lc
        replace Ba := Ba.below HW
        replace Bb := Bb.below HW
        replace Bc := Bc.below HW
        replace HB := below_join HB HW
        have ea0 : _ = some (Value.int .i64 (a0)) := Ba.cell 0 rfl; have ea1 : _ = some (Value.int .i64 (a1)) := Ba.cell 1 rfl; have la := Ba.lt
        have eb0 : _ = some (Value.int .i64 (a0)) := Bb.cell 0 rfl; have eb1 : _ = some (Value.int .i64 (b1)) := Bb.cell 1 rfl; have lb := Bb.lt
        have ec0 : _ = some (Value.int .i64 (c0)) := Bc.cell 0 rfl; have ec1 : _ = some (Value.int .i64 (c1)) := Bc.cell 1 rfl; have lc := Bc.lt
        go_wp2_with (go_at_call 14; (first | with_reducible refine (lessv H1 _).mono ?_ | with_reducible refine (lessv H3 _).mono ?_ | with_reducible refine (lessv H4 _).mono ?_); rintro e wq ⟨rfl, hbq⟩; replace Ba := Ba.below hbq; replace Bb := Bb.below hbq; replace Bc := Bc.below hbq; replace HB := below_join HB hbq; clear hbq ea0 ea1 la eb0 eb1 lb ec0 ec1 lc; (have ea0 : _ = some (Value.int .i64 (a0)) := Ba.cell 0 rfl; have ea1 : _ = some (Value.int .i64 (a1)) := Ba.cell 1 rfl; have la := Ba.lt); (have eb0 : _ = some (Value.int .i64 (a0)) := Bb.cell 0 rfl; have eb1 : _ = some (Value.int .i64 (b1)) := Bb.cell 1 rfl; have lb := Bb.lt); (have ec0 : _ = some (Value.int .i64 (c0)) := Bc.cell 0 rfl; have ec1 : _ = some (Value.int .i64 (c1)) := Bc.cell 1 rfl; have lc := Bc.lt))
        all_goals
          go_ret
          exact ⟨rfl, by first | exact HB | exact below_drewN HB _⟩

set_option maxRecDepth 100000 in
set_option maxHeartbeats 4000000 in
theorem adds_walk (ca : Array Value) (a : Int × Int) (cb : Array Value) (b : Int × Int) (cc : Array Value) (c : Int × Int) (w : World) (ha : CostR.K w w.heap.size ca.toList a) (hb : CostR.K w w.heap.size cb.toList b) (hc : CostR.K w w.heap.size cc.toList c) :
    Calls Try.prog 5 #[.agg ca, .agg cb, .agg cc] w fun e w' => e = .returned (.bool true) ∧ Below w.heap.size w w' := by
  obtain ⟨rfl, _, _⟩ := cost_of ha
  obtain ⟨a0, a1⟩ := a
  obtain ⟨rfl, _, _⟩ := cost_of hb
  obtain ⟨b0, b1⟩ := b
  obtain ⟨rfl, _, _⟩ := cost_of hc
  obtain ⟨c0, c1⟩ := c
  clear ha hb hc
  obtain ⟨x0, x1, xe, H1, H2⟩ : ∃ x0 x1 xe, Hid (sum a0 a1 b0 b1 = (x0, x1, xe)) ∧ Hid (sum b0 b1 a0 a1 = (x0, x1, xe)) := ⟨_, _, _, Lib.hid rfl, Lib.hid (sum_comm _ _ _ _)⟩
  rcases sum_cases a0 a1 c0 c1 with ⟨h3, _⟩ | h3
  · have H3 := Lib.hid h3; clear h3
    rcases sum_cases b0 b1 c0 c1 with ⟨h4, _⟩ | h4
    · have H4 := Lib.hid h4; clear h4
      have H5 : Hid (lt (a0 + c0) (a1 + c1) (b0 + c0) (b1 + c1) = lt a0 a1 b0 b1) := Lib.hid (by unfold lt; rw [decide_eq_decide]; omega)
      obtain ⟨r, H6⟩ : ∃ r, Hid (lt a0 a1 b0 b1 = r) := ⟨_, Lib.hid rfl⟩
      replace H5 := Lib.hid (H5.out.trans H6.out)
      go_enter Try.func5, Try.ntmps5
      go_wp2_with fail
      refine (awake_any _).mono ?_; rintro e w1 ⟨rfl, hb1⟩
      have Ba : Box w1 (w.heap.size) #[Value.int .i64 (a0), Value.int .i64 (a1)] 23 := by simpa using (((Box.new w #[Value.int .i64 (a0), Value.int .i64 (a1)] 23).alloc _).alloc _).below hb1
      have Bb : Box w1 (w.heap.size + 1) #[Value.int .i64 (b0), Value.int .i64 (b1)] 23 := by simpa using ((Box.new (w.alloc (.cells #[Value.int .i64 (a0), Value.int .i64 (a1)] 23)) #[Value.int .i64 (b0), Value.int .i64 (b1)] 23).alloc _).below hb1
      have Bc : Box w1 (w.heap.size + 1 + 1) #[Value.int .i64 (c0), Value.int .i64 (c1)] 23 := by simpa using (Box.new ((w.alloc (.cells #[Value.int .i64 (a0), Value.int .i64 (a1)] 23)).alloc (.cells #[Value.int .i64 (b0), Value.int .i64 (b1)] 23)) #[Value.int .i64 (c0), Value.int .i64 (c1)] 23).below hb1
      have HB := below_join (below_alloc (below_alloc (below_alloc (Below.refl _ w) _) _) _) hb1
      clear hb1
      have ea0 : _ = some (Value.int .i64 (a0)) := Ba.cell 0 rfl; have ea1 : _ = some (Value.int .i64 (a1)) := Ba.cell 1 rfl; have la := Ba.lt
      have eb0 : _ = some (Value.int .i64 (b0)) := Bb.cell 0 rfl; have eb1 : _ = some (Value.int .i64 (b1)) := Bb.cell 1 rfl; have lb := Bb.lt
      have ec0 : _ = some (Value.int .i64 (c0)) := Bc.cell 0 rfl; have ec1 : _ = some (Value.int .i64 (c1)) := Bc.cell 1 rfl; have lc := Bc.lt
      go_wp2_with fail
      refine (addv H1 _).mono ?_; rintro e w2 ⟨rfl, hb2⟩
      replace Ba := Ba.below hb2
      replace Bb := Bb.below hb2
      replace Bc := Bc.below hb2
      replace HB := below_join HB hb2
      clear hb2 ea0 ea1 la eb0 eb1 lb ec0 ec1 lc
      have ea0 : _ = some (Value.int .i64 (a0)) := Ba.cell 0 rfl; have ea1 : _ = some (Value.int .i64 (a1)) := Ba.cell 1 rfl; have la := Ba.lt
      have eb0 : _ = some (Value.int .i64 (b0)) := Bb.cell 0 rfl; have eb1 : _ = some (Value.int .i64 (b1)) := Bb.cell 1 rfl; have lb := Bb.lt
      have ec0 : _ = some (Value.int .i64 (c0)) := Bc.cell 0 rfl; have ec1 : _ = some (Value.int .i64 (c1)) := Bc.cell 1 rfl; have lc := Bc.lt
      go_wp2_with fail
      refine (addv H2 _).mono ?_; rintro e w3 ⟨rfl, hb2⟩
      have Bx : Box w3 w2.heap.size #[Value.int .i64 (x0), Value.int .i64 (x1)] 23 := (Box.new w2 _ _).below hb2
      replace Ba := (Ba.alloc _).below hb2
      replace Bb := (Bb.alloc _).below hb2
      replace Bc := (Bc.alloc _).below hb2
      replace HB := below_join (below_alloc HB _) hb2
      clear hb2 ea0 ea1 la eb0 eb1 lb ec0 ec1 lc
      have ea0 : _ = some (Value.int .i64 (a0)) := Ba.cell 0 rfl; have ea1 : _ = some (Value.int .i64 (a1)) := Ba.cell 1 rfl; have la := Ba.lt
      have eb0 : _ = some (Value.int .i64 (b0)) := Bb.cell 0 rfl; have eb1 : _ = some (Value.int .i64 (b1)) := Bb.cell 1 rfl; have lb := Bb.lt
      have ec0 : _ = some (Value.int .i64 (c0)) := Bc.cell 0 rfl; have ec1 : _ = some (Value.int .i64 (c1)) := Bc.cell 1 rfl; have lc := Bc.lt
      have ex0 : _ = some (Value.int .i64 (x0)) := Bx.cell 0 rfl; have ex1 : _ = some (Value.int .i64 (x1)) := Bx.cell 1 rfl; have lx := Bx.lt
      go_wp2_with fail
      refine (addv H3 _).mono ?_; rintro e w4 ⟨rfl, hb2⟩
      have By : Box w4 w3.heap.size #[Value.int .i64 (x0), Value.int .i64 (x1)] 23 := (Box.new w3 _ _).below hb2
      replace Ba := (Ba.alloc _).below hb2
      replace Bb := (Bb.alloc _).below hb2
      replace Bc := (Bc.alloc _).below hb2
      replace Bx := (Bx.alloc _).below hb2
      replace HB := below_join (below_alloc HB _) hb2
      clear hb2 ea0 ea1 la eb0 eb1 lb ec0 ec1 lc ex0 ex1 lx
      have ea0 : _ = some (Value.int .i64 (a0)) := Ba.cell 0 rfl; have ea1 : _ = some (Value.int .i64 (a1)) := Ba.cell 1 rfl; have la := Ba.lt
      have eb0 : _ = some (Value.int .i64 (b0)) := Bb.cell 0 rfl; have eb1 : _ = some (Value.int .i64 (b1)) := Bb.cell 1 rfl; have lb := Bb.lt
      have ec0 : _ = some (Value.int .i64 (c0)) := Bc.cell 0 rfl; have ec1 : _ = some (Value.int .i64 (c1)) := Bc.cell 1 rfl; have lc := Bc.lt
      have ex0 : _ = some (Value.int .i64 (x0)) := Bx.cell 0 rfl; have ex1 : _ = some (Value.int .i64 (x1)) := Bx.cell 1 rfl; have lx := Bx.lt
      have ey0 : _ = some (Value.int .i64 (x0)) := By.cell 0 rfl; have ey1 : _ = some (Value.int .i64 (x1)) := By.cell 1 rfl; have ly := By.lt
      go_wp2_with fail
      refine (addv H4 _).mono ?_; rintro e w5 ⟨rfl, hb2⟩
      have Bp : Box w5 w4.heap.size #[Value.int .i64 (a0 + c0), Value.int .i64 (a1 + c1)] 23 := (Box.new w4 _ _).below hb2
      replace Ba := (Ba.alloc _).below hb2
      replace Bb := (Bb.alloc _).below hb2
      replace Bc := (Bc.alloc _).below hb2
      replace Bx := (Bx.alloc _).below hb2
      replace By := (By.alloc _).below hb2
      replace HB := below_join (below_alloc HB _) hb2
      clear hb2 ea0 ea1 la eb0 eb1 lb ec0 ec1 lc ex0 ex1 lx ey0 ey1 ly
      have ea0 : _ = some (Value.int .i64 (a0)) := Ba.cell 0 rfl; have ea1 : _ = some (Value.int .i64 (a1)) := Ba.cell 1 rfl; have la := Ba.lt
      have eb0 : _ = some (Value.int .i64 (b0)) := Bb.cell 0 rfl; have eb1 : _ = some (Value.int .i64 (b1)) := Bb.cell 1 rfl; have lb := Bb.lt
      have ec0 : _ = some (Value.int .i64 (c0)) := Bc.cell 0 rfl; have ec1 : _ = some (Value.int .i64 (c1)) := Bc.cell 1 rfl; have lc := Bc.lt
      have ex0 : _ = some (Value.int .i64 (x0)) := Bx.cell 0 rfl; have ex1 : _ = some (Value.int .i64 (x1)) := Bx.cell 1 rfl; have lx := Bx.lt
      have ey0 : _ = some (Value.int .i64 (x0)) := By.cell 0 rfl; have ey1 : _ = some (Value.int .i64 (x1)) := By.cell 1 rfl; have ly := By.lt
      have ep0 : _ = some (Value.int .i64 (a0 + c0)) := Bp.cell 0 rfl; have ep1 : _ = some (Value.int .i64 (a1 + c1)) := Bp.cell 1 rfl; have lp := Bp.lt
      go_wp2_with fail
      have Bq : Box (w5.alloc (.cells #[Value.int .i64 (b0 + c0), Value.int .i64 (b1 + c1)] 23)) w5.heap.size #[Value.int .i64 (b0 + c0), Value.int .i64 (b1 + c1)] 23 := Box.new w5 _ _
      replace Ba := Ba.alloc (.cells #[Value.int .i64 (b0 + c0), Value.int .i64 (b1 + c1)] 23)
      replace Bb := Bb.alloc (.cells #[Value.int .i64 (b0 + c0), Value.int .i64 (b1 + c1)] 23)
      replace Bc := Bc.alloc (.cells #[Value.int .i64 (b0 + c0), Value.int .i64 (b1 + c1)] 23)
      replace Bx := Bx.alloc (.cells #[Value.int .i64 (b0 + c0), Value.int .i64 (b1 + c1)] 23)
      replace By := By.alloc (.cells #[Value.int .i64 (b0 + c0), Value.int .i64 (b1 + c1)] 23)
      replace Bp := Bp.alloc (.cells #[Value.int .i64 (b0 + c0), Value.int .i64 (b1 + c1)] 23)
      replace HB := below_alloc HB (.cells #[Value.int .i64 (b0 + c0), Value.int .i64 (b1 + c1)] 23)
      clear ea0 ea1 la eb0 eb1 lb ec0 ec1 lc ex0 ex1 lx ey0 ey1 ly ep0 ep1 lp
      generalize w5.alloc (.cells #[Value.int .i64 (b0 + c0), Value.int .i64 (b1 + c1)] 23) = W at Ba Bb Bc Bx By Bp Bq HB ⊢
      have ea0 : _ = some (Value.int .i64 (a0)) := Ba.cell 0 rfl; have ea1 : _ = some (Value.int .i64 (a1)) := Ba.cell 1 rfl; have la := Ba.lt
      have eb0 : _ = some (Value.int .i64 (b0)) := Bb.cell 0 rfl; have eb1 : _ = some (Value.int .i64 (b1)) := Bb.cell 1 rfl; have lb := Bb.lt
      have ec0 : _ = some (Value.int .i64 (c0)) := Bc.cell 0 rfl; have ec1 : _ = some (Value.int .i64 (c1)) := Bc.cell 1 rfl; have lc := Bc.lt
      have ex0 : _ = some (Value.int .i64 (x0)) := Bx.cell 0 rfl; have ex1 : _ = some (Value.int .i64 (x1)) := Bx.cell 1 rfl; have lx := Bx.lt
      have ey0 : _ = some (Value.int .i64 (x0)) := By.cell 0 rfl; have ey1 : _ = some (Value.int .i64 (x1)) := By.cell 1 rfl; have ly := By.lt
      have ep0 : _ = some (Value.int .i64 (a0 + c0)) := Bp.cell 0 rfl; have ep1 : _ = some (Value.int .i64 (a1 + c1)) := Bp.cell 1 rfl; have lp := Bp.lt
      have eq0 : _ = some (Value.int .i64 (b0 + c0)) := Bq.cell 0 rfl; have eq1 : _ = some (Value.int .i64 (b1 + c1)) := Bq.cell 1 rfl; have lq := Bq.lt
      have HK : Hid (∀ w', Below W.heap.size W w' → Below W.heap.size W w' ∧ w'.cell? ⟨w.heap.size, 0, none⟩ = some (.int .i64 (a0)) ∧ w'.cell? ⟨w.heap.size, 1, none⟩ = some (.int .i64 (a1)) ∧ w'.cell? ⟨w.heap.size + 1, 0, none⟩ = some (.int .i64 (b0)) ∧ w'.cell? ⟨w.heap.size + 1, 1, none⟩ = some (.int .i64 (b1)) ∧ w'.cell? ⟨w.heap.size + 1 + 1, 0, none⟩ = some (.int .i64 (c0)) ∧ w'.cell? ⟨w.heap.size + 1 + 1, 1, none⟩ = some (.int .i64 (c1)) ∧ w'.cell? ⟨w2.heap.size, 0, none⟩ = some (.int .i64 (x0)) ∧ w'.cell? ⟨w2.heap.size, 1, none⟩ = some (.int .i64 (x1)) ∧ w'.cell? ⟨w3.heap.size, 0, none⟩ = some (.int .i64 (x0)) ∧ w'.cell? ⟨w3.heap.size, 1, none⟩ = some (.int .i64 (x1)) ∧ w'.cell? ⟨w4.heap.size, 0, none⟩ = some (.int .i64 (a0 + c0)) ∧ w'.cell? ⟨w4.heap.size, 1, none⟩ = some (.int .i64 (a1 + c1)) ∧ w'.cell? ⟨w5.heap.size, 0, none⟩ = some (.int .i64 (b0 + c0)) ∧ w'.cell? ⟨w5.heap.size, 1, none⟩ = some (.int .i64 (b1 + c1))) := Lib.hid fun w' hb => ⟨hb, later hb ea0, later hb ea1, later hb eb0, later hb eb1, later hb ec0, later hb ec1, later hb ex0, later hb ex1, later hb ey0, later hb ey1, later hb ep0, later hb ep1, later hb eq0, later hb eq1⟩
      go_region_held3 (fun w' => Below W.heap.size W w' ∧ w'.cell? ⟨w.heap.size, 0, none⟩ = some (.int .i64 (a0)) ∧ w'.cell? ⟨w.heap.size, 1, none⟩ = some (.int .i64 (a1)) ∧ w'.cell? ⟨w.heap.size + 1, 0, none⟩ = some (.int .i64 (b0)) ∧ w'.cell? ⟨w.heap.size + 1, 1, none⟩ = some (.int .i64 (b1)) ∧ w'.cell? ⟨w.heap.size + 1 + 1, 0, none⟩ = some (.int .i64 (c0)) ∧ w'.cell? ⟨w.heap.size + 1 + 1, 1, none⟩ = some (.int .i64 (c1)) ∧ w'.cell? ⟨w2.heap.size, 0, none⟩ = some (.int .i64 (x0)) ∧ w'.cell? ⟨w2.heap.size, 1, none⟩ = some (.int .i64 (x1)) ∧ w'.cell? ⟨w3.heap.size, 0, none⟩ = some (.int .i64 (x0)) ∧ w'.cell? ⟨w3.heap.size, 1, none⟩ = some (.int .i64 (x1)) ∧ w'.cell? ⟨w4.heap.size, 0, none⟩ = some (.int .i64 (a0 + c0)) ∧ w'.cell? ⟨w4.heap.size, 1, none⟩ = some (.int .i64 (a1 + c1)) ∧ w'.cell? ⟨w5.heap.size, 0, none⟩ = some (.int .i64 (b0 + c0)) ∧ w'.cell? ⟨w5.heap.size, 1, none⟩ = some (.int .i64 (b1 + c1)))
        (first | exact HK.out _ (below_drew (Below.refl _ _)) | exact HK.out _ (below_join (below_drew (Below.refl _ _)) hbq) | exact HK.out _ (below_join ‹Below W.heap.size W _ ∧ _›.1 hbq))
        (first | (go_at_call 14; (first | with_reducible refine (lessv H5 _).mono ?_ | with_reducible refine (lessv H6 _).mono ?_); rintro e wq ⟨rfl, hbq⟩))
      have HW := ‹Below W.heap.size W _ ∧ _›.1
      clear HK ea0 ea1 la eb0 eb1 lb ec0 ec1 lc ex0 ex1 lx ey0 ey1 ly ep0 ep1 lp eq0 eq1 lq
      replace Ba := Ba.below HW
      replace Bb := Bb.below HW
      replace Bc := Bc.below HW
      replace Bx := Bx.below HW
      replace By := By.below HW
      replace Bp := Bp.below HW
      replace Bq := Bq.below HW
      replace HB := below_join HB HW
      have ea0 : _ = some (Value.int .i64 (a0)) := Ba.cell 0 rfl; have ea1 : _ = some (Value.int .i64 (a1)) := Ba.cell 1 rfl; have la := Ba.lt
      have eb0 : _ = some (Value.int .i64 (b0)) := Bb.cell 0 rfl; have eb1 : _ = some (Value.int .i64 (b1)) := Bb.cell 1 rfl; have lb := Bb.lt
      have ec0 : _ = some (Value.int .i64 (c0)) := Bc.cell 0 rfl; have ec1 : _ = some (Value.int .i64 (c1)) := Bc.cell 1 rfl; have lc := Bc.lt
      have ex0 : _ = some (Value.int .i64 (x0)) := Bx.cell 0 rfl; have ex1 : _ = some (Value.int .i64 (x1)) := Bx.cell 1 rfl; have lx := Bx.lt
      have ey0 : _ = some (Value.int .i64 (x0)) := By.cell 0 rfl; have ey1 : _ = some (Value.int .i64 (x1)) := By.cell 1 rfl; have ly := By.lt
      have ep0 : _ = some (Value.int .i64 (a0 + c0)) := Bp.cell 0 rfl; have ep1 : _ = some (Value.int .i64 (a1 + c1)) := Bp.cell 1 rfl; have lp := Bp.lt
      have eq0 : _ = some (Value.int .i64 (b0 + c0)) := Bq.cell 0 rfl; have eq1 : _ = some (Value.int .i64 (b1 + c1)) := Bq.cell 1 rfl; have lq := Bq.lt
      go_wp2
      all_goals
        go_ret
        exact ⟨rfl, by first | exact HB | exact below_drewN HB _⟩
    · have H4 := Lib.hid h4; clear h4
      have H5 : True := trivial; have H6 : True := trivial
      go_enter Try.func5, Try.ntmps5
      go_wp2_with fail
      refine (awake_any _).mono ?_; rintro e w1 ⟨rfl, hb1⟩
      have Ba : Box w1 (w.heap.size) #[Value.int .i64 (a0), Value.int .i64 (a1)] 23 := by simpa using (((Box.new w #[Value.int .i64 (a0), Value.int .i64 (a1)] 23).alloc _).alloc _).below hb1
      have Bb : Box w1 (w.heap.size + 1) #[Value.int .i64 (b0), Value.int .i64 (b1)] 23 := by simpa using ((Box.new (w.alloc (.cells #[Value.int .i64 (a0), Value.int .i64 (a1)] 23)) #[Value.int .i64 (b0), Value.int .i64 (b1)] 23).alloc _).below hb1
      have Bc : Box w1 (w.heap.size + 1 + 1) #[Value.int .i64 (c0), Value.int .i64 (c1)] 23 := by simpa using (Box.new ((w.alloc (.cells #[Value.int .i64 (a0), Value.int .i64 (a1)] 23)).alloc (.cells #[Value.int .i64 (b0), Value.int .i64 (b1)] 23)) #[Value.int .i64 (c0), Value.int .i64 (c1)] 23).below hb1
      have HB := below_join (below_alloc (below_alloc (below_alloc (Below.refl _ w) _) _) _) hb1
      clear hb1
      have ea0 : _ = some (Value.int .i64 (a0)) := Ba.cell 0 rfl; have ea1 : _ = some (Value.int .i64 (a1)) := Ba.cell 1 rfl; have la := Ba.lt
      have eb0 : _ = some (Value.int .i64 (b0)) := Bb.cell 0 rfl; have eb1 : _ = some (Value.int .i64 (b1)) := Bb.cell 1 rfl; have lb := Bb.lt
      have ec0 : _ = some (Value.int .i64 (c0)) := Bc.cell 0 rfl; have ec1 : _ = some (Value.int .i64 (c1)) := Bc.cell 1 rfl; have lc := Bc.lt
      go_wp2_with fail
      refine (addv H1 _).mono ?_; rintro e w2 ⟨rfl, hb2⟩
      replace Ba := Ba.below hb2
      replace Bb := Bb.below hb2
      replace Bc := Bc.below hb2
      replace HB := below_join HB hb2
      clear hb2 ea0 ea1 la eb0 eb1 lb ec0 ec1 lc
      have ea0 : _ = some (Value.int .i64 (a0)) := Ba.cell 0 rfl; have ea1 : _ = some (Value.int .i64 (a1)) := Ba.cell 1 rfl; have la := Ba.lt
      have eb0 : _ = some (Value.int .i64 (b0)) := Bb.cell 0 rfl; have eb1 : _ = some (Value.int .i64 (b1)) := Bb.cell 1 rfl; have lb := Bb.lt
      have ec0 : _ = some (Value.int .i64 (c0)) := Bc.cell 0 rfl; have ec1 : _ = some (Value.int .i64 (c1)) := Bc.cell 1 rfl; have lc := Bc.lt
      go_wp2_with fail
      refine (addv H2 _).mono ?_; rintro e w3 ⟨rfl, hb2⟩
      have Bx : Box w3 w2.heap.size #[Value.int .i64 (x0), Value.int .i64 (x1)] 23 := (Box.new w2 _ _).below hb2
      replace Ba := (Ba.alloc _).below hb2
      replace Bb := (Bb.alloc _).below hb2
      replace Bc := (Bc.alloc _).below hb2
      replace HB := below_join (below_alloc HB _) hb2
      clear hb2 ea0 ea1 la eb0 eb1 lb ec0 ec1 lc
      have ea0 : _ = some (Value.int .i64 (a0)) := Ba.cell 0 rfl; have ea1 : _ = some (Value.int .i64 (a1)) := Ba.cell 1 rfl; have la := Ba.lt
      have eb0 : _ = some (Value.int .i64 (b0)) := Bb.cell 0 rfl; have eb1 : _ = some (Value.int .i64 (b1)) := Bb.cell 1 rfl; have lb := Bb.lt
      have ec0 : _ = some (Value.int .i64 (c0)) := Bc.cell 0 rfl; have ec1 : _ = some (Value.int .i64 (c1)) := Bc.cell 1 rfl; have lc := Bc.lt
      have ex0 : _ = some (Value.int .i64 (x0)) := Bx.cell 0 rfl; have ex1 : _ = some (Value.int .i64 (x1)) := Bx.cell 1 rfl; have lx := Bx.lt
      go_wp2_with fail
      refine (addv H3 _).mono ?_; rintro e w4 ⟨rfl, hb2⟩
      have By : Box w4 w3.heap.size #[Value.int .i64 (x0), Value.int .i64 (x1)] 23 := (Box.new w3 _ _).below hb2
      replace Ba := (Ba.alloc _).below hb2
      replace Bb := (Bb.alloc _).below hb2
      replace Bc := (Bc.alloc _).below hb2
      replace Bx := (Bx.alloc _).below hb2
      replace HB := below_join (below_alloc HB _) hb2
      clear hb2 ea0 ea1 la eb0 eb1 lb ec0 ec1 lc ex0 ex1 lx
      have ea0 : _ = some (Value.int .i64 (a0)) := Ba.cell 0 rfl; have ea1 : _ = some (Value.int .i64 (a1)) := Ba.cell 1 rfl; have la := Ba.lt
      have eb0 : _ = some (Value.int .i64 (b0)) := Bb.cell 0 rfl; have eb1 : _ = some (Value.int .i64 (b1)) := Bb.cell 1 rfl; have lb := Bb.lt
      have ec0 : _ = some (Value.int .i64 (c0)) := Bc.cell 0 rfl; have ec1 : _ = some (Value.int .i64 (c1)) := Bc.cell 1 rfl; have lc := Bc.lt
      have ex0 : _ = some (Value.int .i64 (x0)) := Bx.cell 0 rfl; have ex1 : _ = some (Value.int .i64 (x1)) := Bx.cell 1 rfl; have lx := Bx.lt
      have ey0 : _ = some (Value.int .i64 (x0)) := By.cell 0 rfl; have ey1 : _ = some (Value.int .i64 (x1)) := By.cell 1 rfl; have ly := By.lt
      go_wp2_with fail
      refine (addv H4 _).mono ?_; rintro e w5 ⟨rfl, hb2⟩
      have Bp : Box w5 w4.heap.size #[Value.int .i64 (a0 + c0), Value.int .i64 (a1 + c1)] 23 := (Box.new w4 _ _).below hb2
      replace Ba := (Ba.alloc _).below hb2
      replace Bb := (Bb.alloc _).below hb2
      replace Bc := (Bc.alloc _).below hb2
      replace Bx := (Bx.alloc _).below hb2
      replace By := (By.alloc _).below hb2
      replace HB := below_join (below_alloc HB _) hb2
      clear hb2 ea0 ea1 la eb0 eb1 lb ec0 ec1 lc ex0 ex1 lx ey0 ey1 ly
      have ea0 : _ = some (Value.int .i64 (a0)) := Ba.cell 0 rfl; have ea1 : _ = some (Value.int .i64 (a1)) := Ba.cell 1 rfl; have la := Ba.lt
      have eb0 : _ = some (Value.int .i64 (b0)) := Bb.cell 0 rfl; have eb1 : _ = some (Value.int .i64 (b1)) := Bb.cell 1 rfl; have lb := Bb.lt
      have ec0 : _ = some (Value.int .i64 (c0)) := Bc.cell 0 rfl; have ec1 : _ = some (Value.int .i64 (c1)) := Bc.cell 1 rfl; have lc := Bc.lt
      have ex0 : _ = some (Value.int .i64 (x0)) := Bx.cell 0 rfl; have ex1 : _ = some (Value.int .i64 (x1)) := Bx.cell 1 rfl; have lx := Bx.lt
      have ey0 : _ = some (Value.int .i64 (x0)) := By.cell 0 rfl; have ey1 : _ = some (Value.int .i64 (x1)) := By.cell 1 rfl; have ly := By.lt
      have ep0 : _ = some (Value.int .i64 (a0 + c0)) := Bp.cell 0 rfl; have ep1 : _ = some (Value.int .i64 (a1 + c1)) := Bp.cell 1 rfl; have lp := Bp.lt
      go_wp2_with fail
      have Bq : Box (w5.alloc (.cells #[Value.int .i64 (0), Value.int .i64 (0)] 23)) w5.heap.size #[Value.int .i64 (0), Value.int .i64 (0)] 23 := Box.new w5 _ _
      replace Ba := Ba.alloc (.cells #[Value.int .i64 (0), Value.int .i64 (0)] 23)
      replace Bb := Bb.alloc (.cells #[Value.int .i64 (0), Value.int .i64 (0)] 23)
      replace Bc := Bc.alloc (.cells #[Value.int .i64 (0), Value.int .i64 (0)] 23)
      replace Bx := Bx.alloc (.cells #[Value.int .i64 (0), Value.int .i64 (0)] 23)
      replace By := By.alloc (.cells #[Value.int .i64 (0), Value.int .i64 (0)] 23)
      replace Bp := Bp.alloc (.cells #[Value.int .i64 (0), Value.int .i64 (0)] 23)
      replace HB := below_alloc HB (.cells #[Value.int .i64 (0), Value.int .i64 (0)] 23)
      clear ea0 ea1 la eb0 eb1 lb ec0 ec1 lc ex0 ex1 lx ey0 ey1 ly ep0 ep1 lp
      generalize w5.alloc (.cells #[Value.int .i64 (0), Value.int .i64 (0)] 23) = W at Ba Bb Bc Bx By Bp Bq HB ⊢
      have ea0 : _ = some (Value.int .i64 (a0)) := Ba.cell 0 rfl; have ea1 : _ = some (Value.int .i64 (a1)) := Ba.cell 1 rfl; have la := Ba.lt
      have eb0 : _ = some (Value.int .i64 (b0)) := Bb.cell 0 rfl; have eb1 : _ = some (Value.int .i64 (b1)) := Bb.cell 1 rfl; have lb := Bb.lt
      have ec0 : _ = some (Value.int .i64 (c0)) := Bc.cell 0 rfl; have ec1 : _ = some (Value.int .i64 (c1)) := Bc.cell 1 rfl; have lc := Bc.lt
      have ex0 : _ = some (Value.int .i64 (x0)) := Bx.cell 0 rfl; have ex1 : _ = some (Value.int .i64 (x1)) := Bx.cell 1 rfl; have lx := Bx.lt
      have ey0 : _ = some (Value.int .i64 (x0)) := By.cell 0 rfl; have ey1 : _ = some (Value.int .i64 (x1)) := By.cell 1 rfl; have ly := By.lt
      have ep0 : _ = some (Value.int .i64 (a0 + c0)) := Bp.cell 0 rfl; have ep1 : _ = some (Value.int .i64 (a1 + c1)) := Bp.cell 1 rfl; have lp := Bp.lt
      have eq0 : _ = some (Value.int .i64 (0)) := Bq.cell 0 rfl; have eq1 : _ = some (Value.int .i64 (0)) := Bq.cell 1 rfl; have lq := Bq.lt
      go_quiet (fail)
      go_wp2
      all_goals
        go_ret
        exact ⟨rfl, by first | exact HB | exact below_drewN HB _⟩
  · have H3 := Lib.hid h3; clear h3
    obtain ⟨q0, q1, qe, H4⟩ : ∃ q0 q1 qe, Hid (sum b0 b1 c0 c1 = (q0, q1, qe)) := ⟨_, _, _, Lib.hid rfl⟩
    have H5 : True := trivial; have H6 : True := trivial
    go_enter Try.func5, Try.ntmps5
    go_wp2_with fail
    refine (awake_any _).mono ?_; rintro e w1 ⟨rfl, hb1⟩
    have Ba : Box w1 (w.heap.size) #[Value.int .i64 (a0), Value.int .i64 (a1)] 23 := by simpa using (((Box.new w #[Value.int .i64 (a0), Value.int .i64 (a1)] 23).alloc _).alloc _).below hb1
    have Bb : Box w1 (w.heap.size + 1) #[Value.int .i64 (b0), Value.int .i64 (b1)] 23 := by simpa using ((Box.new (w.alloc (.cells #[Value.int .i64 (a0), Value.int .i64 (a1)] 23)) #[Value.int .i64 (b0), Value.int .i64 (b1)] 23).alloc _).below hb1
    have Bc : Box w1 (w.heap.size + 1 + 1) #[Value.int .i64 (c0), Value.int .i64 (c1)] 23 := by simpa using (Box.new ((w.alloc (.cells #[Value.int .i64 (a0), Value.int .i64 (a1)] 23)).alloc (.cells #[Value.int .i64 (b0), Value.int .i64 (b1)] 23)) #[Value.int .i64 (c0), Value.int .i64 (c1)] 23).below hb1
    have HB := below_join (below_alloc (below_alloc (below_alloc (Below.refl _ w) _) _) _) hb1
    clear hb1
    have ea0 : _ = some (Value.int .i64 (a0)) := Ba.cell 0 rfl; have ea1 : _ = some (Value.int .i64 (a1)) := Ba.cell 1 rfl; have la := Ba.lt
    have eb0 : _ = some (Value.int .i64 (b0)) := Bb.cell 0 rfl; have eb1 : _ = some (Value.int .i64 (b1)) := Bb.cell 1 rfl; have lb := Bb.lt
    have ec0 : _ = some (Value.int .i64 (c0)) := Bc.cell 0 rfl; have ec1 : _ = some (Value.int .i64 (c1)) := Bc.cell 1 rfl; have lc := Bc.lt
    go_wp2_with fail
    refine (addv H1 _).mono ?_; rintro e w2 ⟨rfl, hb2⟩
    replace Ba := Ba.below hb2
    replace Bb := Bb.below hb2
    replace Bc := Bc.below hb2
    replace HB := below_join HB hb2
    clear hb2 ea0 ea1 la eb0 eb1 lb ec0 ec1 lc
    have ea0 : _ = some (Value.int .i64 (a0)) := Ba.cell 0 rfl; have ea1 : _ = some (Value.int .i64 (a1)) := Ba.cell 1 rfl; have la := Ba.lt
    have eb0 : _ = some (Value.int .i64 (b0)) := Bb.cell 0 rfl; have eb1 : _ = some (Value.int .i64 (b1)) := Bb.cell 1 rfl; have lb := Bb.lt
    have ec0 : _ = some (Value.int .i64 (c0)) := Bc.cell 0 rfl; have ec1 : _ = some (Value.int .i64 (c1)) := Bc.cell 1 rfl; have lc := Bc.lt
    go_wp2_with fail
    refine (addv H2 _).mono ?_; rintro e w3 ⟨rfl, hb2⟩
    have Bx : Box w3 w2.heap.size #[Value.int .i64 (x0), Value.int .i64 (x1)] 23 := (Box.new w2 _ _).below hb2
    replace Ba := (Ba.alloc _).below hb2
    replace Bb := (Bb.alloc _).below hb2
    replace Bc := (Bc.alloc _).below hb2
    replace HB := below_join (below_alloc HB _) hb2
    clear hb2 ea0 ea1 la eb0 eb1 lb ec0 ec1 lc
    have ea0 : _ = some (Value.int .i64 (a0)) := Ba.cell 0 rfl; have ea1 : _ = some (Value.int .i64 (a1)) := Ba.cell 1 rfl; have la := Ba.lt
    have eb0 : _ = some (Value.int .i64 (b0)) := Bb.cell 0 rfl; have eb1 : _ = some (Value.int .i64 (b1)) := Bb.cell 1 rfl; have lb := Bb.lt
    have ec0 : _ = some (Value.int .i64 (c0)) := Bc.cell 0 rfl; have ec1 : _ = some (Value.int .i64 (c1)) := Bc.cell 1 rfl; have lc := Bc.lt
    have ex0 : _ = some (Value.int .i64 (x0)) := Bx.cell 0 rfl; have ex1 : _ = some (Value.int .i64 (x1)) := Bx.cell 1 rfl; have lx := Bx.lt
    go_wp2_with fail
    refine (addv H3 _).mono ?_; rintro e w4 ⟨rfl, hb2⟩
    have By : Box w4 w3.heap.size #[Value.int .i64 (x0), Value.int .i64 (x1)] 23 := (Box.new w3 _ _).below hb2
    replace Ba := (Ba.alloc _).below hb2
    replace Bb := (Bb.alloc _).below hb2
    replace Bc := (Bc.alloc _).below hb2
    replace Bx := (Bx.alloc _).below hb2
    replace HB := below_join (below_alloc HB _) hb2
    clear hb2 ea0 ea1 la eb0 eb1 lb ec0 ec1 lc ex0 ex1 lx
    have ea0 : _ = some (Value.int .i64 (a0)) := Ba.cell 0 rfl; have ea1 : _ = some (Value.int .i64 (a1)) := Ba.cell 1 rfl; have la := Ba.lt
    have eb0 : _ = some (Value.int .i64 (b0)) := Bb.cell 0 rfl; have eb1 : _ = some (Value.int .i64 (b1)) := Bb.cell 1 rfl; have lb := Bb.lt
    have ec0 : _ = some (Value.int .i64 (c0)) := Bc.cell 0 rfl; have ec1 : _ = some (Value.int .i64 (c1)) := Bc.cell 1 rfl; have lc := Bc.lt
    have ex0 : _ = some (Value.int .i64 (x0)) := Bx.cell 0 rfl; have ex1 : _ = some (Value.int .i64 (x1)) := Bx.cell 1 rfl; have lx := Bx.lt
    have ey0 : _ = some (Value.int .i64 (x0)) := By.cell 0 rfl; have ey1 : _ = some (Value.int .i64 (x1)) := By.cell 1 rfl; have ly := By.lt
    go_wp2_with fail
    refine (addv H4 _).mono ?_; rintro e w5 ⟨rfl, hb2⟩
    have Bp : Box w5 w4.heap.size #[Value.int .i64 (0), Value.int .i64 (0)] 23 := (Box.new w4 _ _).below hb2
    replace Ba := (Ba.alloc _).below hb2
    replace Bb := (Bb.alloc _).below hb2
    replace Bc := (Bc.alloc _).below hb2
    replace Bx := (Bx.alloc _).below hb2
    replace By := (By.alloc _).below hb2
    replace HB := below_join (below_alloc HB _) hb2
    clear hb2 ea0 ea1 la eb0 eb1 lb ec0 ec1 lc ex0 ex1 lx ey0 ey1 ly
    have ea0 : _ = some (Value.int .i64 (a0)) := Ba.cell 0 rfl; have ea1 : _ = some (Value.int .i64 (a1)) := Ba.cell 1 rfl; have la := Ba.lt
    have eb0 : _ = some (Value.int .i64 (b0)) := Bb.cell 0 rfl; have eb1 : _ = some (Value.int .i64 (b1)) := Bb.cell 1 rfl; have lb := Bb.lt
    have ec0 : _ = some (Value.int .i64 (c0)) := Bc.cell 0 rfl; have ec1 : _ = some (Value.int .i64 (c1)) := Bc.cell 1 rfl; have lc := Bc.lt
    have ex0 : _ = some (Value.int .i64 (x0)) := Bx.cell 0 rfl; have ex1 : _ = some (Value.int .i64 (x1)) := Bx.cell 1 rfl; have lx := Bx.lt
    have ey0 : _ = some (Value.int .i64 (x0)) := By.cell 0 rfl; have ey1 : _ = some (Value.int .i64 (x1)) := By.cell 1 rfl; have ly := By.lt
    have ep0 : _ = some (Value.int .i64 (0)) := Bp.cell 0 rfl; have ep1 : _ = some (Value.int .i64 (0)) := Bp.cell 1 rfl; have lp := Bp.lt
    go_wp2_with fail
    have Bq : Box (w5.alloc (.cells #[Value.int .i64 (q0), Value.int .i64 (q1)] 23)) w5.heap.size #[Value.int .i64 (q0), Value.int .i64 (q1)] 23 := Box.new w5 _ _
    replace Ba := Ba.alloc (.cells #[Value.int .i64 (q0), Value.int .i64 (q1)] 23)
    replace Bb := Bb.alloc (.cells #[Value.int .i64 (q0), Value.int .i64 (q1)] 23)
    replace Bc := Bc.alloc (.cells #[Value.int .i64 (q0), Value.int .i64 (q1)] 23)
    replace Bx := Bx.alloc (.cells #[Value.int .i64 (q0), Value.int .i64 (q1)] 23)
    replace By := By.alloc (.cells #[Value.int .i64 (q0), Value.int .i64 (q1)] 23)
    replace Bp := Bp.alloc (.cells #[Value.int .i64 (q0), Value.int .i64 (q1)] 23)
    replace HB := below_alloc HB (.cells #[Value.int .i64 (q0), Value.int .i64 (q1)] 23)
    clear ea0 ea1 la eb0 eb1 lb ec0 ec1 lc ex0 ex1 lx ey0 ey1 ly ep0 ep1 lp
    generalize w5.alloc (.cells #[Value.int .i64 (q0), Value.int .i64 (q1)] 23) = W at Ba Bb Bc Bx By Bp Bq HB ⊢
    have ea0 : _ = some (Value.int .i64 (a0)) := Ba.cell 0 rfl; have ea1 : _ = some (Value.int .i64 (a1)) := Ba.cell 1 rfl; have la := Ba.lt
    have eb0 : _ = some (Value.int .i64 (b0)) := Bb.cell 0 rfl; have eb1 : _ = some (Value.int .i64 (b1)) := Bb.cell 1 rfl; have lb := Bb.lt
    have ec0 : _ = some (Value.int .i64 (c0)) := Bc.cell 0 rfl; have ec1 : _ = some (Value.int .i64 (c1)) := Bc.cell 1 rfl; have lc := Bc.lt
    have ex0 : _ = some (Value.int .i64 (x0)) := Bx.cell 0 rfl; have ex1 : _ = some (Value.int .i64 (x1)) := Bx.cell 1 rfl; have lx := Bx.lt
    have ey0 : _ = some (Value.int .i64 (x0)) := By.cell 0 rfl; have ey1 : _ = some (Value.int .i64 (x1)) := By.cell 1 rfl; have ly := By.lt
    have ep0 : _ = some (Value.int .i64 (0)) := Bp.cell 0 rfl; have ep1 : _ = some (Value.int .i64 (0)) := Bp.cell 1 rfl; have lp := Bp.lt
    have eq0 : _ = some (Value.int .i64 (q0)) := Bq.cell 0 rfl; have eq1 : _ = some (Value.int .i64 (q1)) := Bq.cell 1 rfl; have lq := Bq.lt
    go_quiet (fail)
    go_wp2
    all_goals
      go_ret
      exact ⟨rfl, by first | exact HB | exact below_drewN HB _⟩

set_option maxRecDepth 100000 in
set_option maxHeartbeats 4000000 in
theorem none_walk (ca : Array Value) (a : Int × Int) (cb : Array Value) (b : Int × Int) (w : World) (ha : CostR.K w w.heap.size ca.toList a) (hb : CostR.K w w.heap.size cb.toList b) :
    Calls Try.prog 7 #[.agg ca, .agg cb] w fun e w' => e = .returned (.bool true) ∧ Below w.heap.size w w' := by
  obtain ⟨rfl, _, _⟩ := cost_of ha
  obtain ⟨a0, a1⟩ := a
  obtain ⟨rfl, _, _⟩ := cost_of hb
  obtain ⟨b0, b1⟩ := b
  clear ha hb
  obtain ⟨rc, H5⟩ : ∃ r, Hid (ck a0 a1 = r) := ⟨_, Lib.hid rfl⟩
  obtain ⟨r3, r4, H3, H4, hr⟩ : ∃ r3 r4, Hid (lt b0 b1 0 0 = r3) ∧ Hid (lt (a0 + b0) (a1 + b1) a0 a1 = r4) ∧ (r3 = true ∨ (r3 = false ∧ r4 = false)) := by
    refine ⟨_, _, Lib.hid rfl, Lib.hid rfl, ?_⟩
    cases h : lt b0 b1 0 0 with
    | true => exact .inl rfl
    | false => exact .inr ⟨rfl, lt_f (by have := lt_ff h; omega)⟩
  have h1 : (rc = true ∧ Hid (sum a0 a1 0 0 = (a0, a1, 0))) ∨ (rc = false ∧ Hid (sum a0 a1 0 0 = (0, 0, 50))) := by
    cases rc with
    | true => refine .inl ⟨rfl, Lib.hid ?_⟩; rw [sum_t H5.out (by decide) (by rw [Int.add_zero, Int.add_zero]; exact H5.out), Int.add_zero, Int.add_zero]
    | false => exact .inr ⟨rfl, Lib.hid (sum_f1 H5.out)⟩
  have h2 : Hid (sum a0 a1 b0 b1 = (a0 + b0, a1 + b1, 0)) ∨ Hid (sum a0 a1 b0 b1 = (0, 0, 50)) := (sum_cases a0 a1 b0 b1).imp (fun h => Lib.hid h.1) Lib.hid
  rcases h1 with ⟨rfl, H1⟩ | ⟨rfl, H1⟩
  · rcases h2 with H2 | H2
    · rcases hr with rfl | ⟨rfl, rfl⟩
      all_goals
        go_enter Try.func7, Try.ntmps7
        go_wp2_with fail
        refine (awake_any _).mono ?_; rintro e w1 ⟨rfl, hb1⟩
        have Ba : Box w1 (w.heap.size) #[Value.int .i64 (a0), Value.int .i64 (a1)] 23 := by simpa using ((Box.new w #[Value.int .i64 (a0), Value.int .i64 (a1)] 23).alloc _).below hb1
        have Bb : Box w1 (w.heap.size + 1) #[Value.int .i64 (b0), Value.int .i64 (b1)] 23 := by simpa using (Box.new (w.alloc (.cells #[Value.int .i64 (a0), Value.int .i64 (a1)] 23)) #[Value.int .i64 (b0), Value.int .i64 (b1)] 23).below hb1
        have HB := below_join (below_alloc (below_alloc (Below.refl _ w) _) _) hb1
        clear hb1
        have ea0 : _ = some (Value.int .i64 (a0)) := Ba.cell 0 rfl; have ea1 : _ = some (Value.int .i64 (a1)) := Ba.cell 1 rfl; have la := Ba.lt
        have eb0 : _ = some (Value.int .i64 (b0)) := Bb.cell 0 rfl; have eb1 : _ = some (Value.int .i64 (b1)) := Bb.cell 1 rfl; have lb := Bb.lt
        go_wp2_with fail
        refine (addv H1 _).mono ?_; rintro e w2 ⟨rfl, hb2⟩
        replace Ba := Ba.below hb2
        replace Bb := Bb.below hb2
        replace HB := below_join HB hb2
        clear hb2 ea0 ea1 la eb0 eb1 lb
        have ea0 : _ = some (Value.int .i64 (a0)) := Ba.cell 0 rfl; have ea1 : _ = some (Value.int .i64 (a1)) := Ba.cell 1 rfl; have la := Ba.lt
        have eb0 : _ = some (Value.int .i64 (b0)) := Bb.cell 0 rfl; have eb1 : _ = some (Value.int .i64 (b1)) := Bb.cell 1 rfl; have lb := Bb.lt
        go_wp2_with fail
        refine (addv H2 _).mono ?_; rintro e w3 ⟨rfl, hb2⟩
        have Bx : Box w3 w2.heap.size #[Value.int .i64 (a0), Value.int .i64 (a1)] 23 := (Box.new w2 _ _).below hb2
        replace Ba := (Ba.alloc _).below hb2
        replace Bb := (Bb.alloc _).below hb2
        replace HB := below_join (below_alloc HB _) hb2
        clear hb2 ea0 ea1 la eb0 eb1 lb
        have ea0 : _ = some (Value.int .i64 (a0)) := Ba.cell 0 rfl; have ea1 : _ = some (Value.int .i64 (a1)) := Ba.cell 1 rfl; have la := Ba.lt
        have eb0 : _ = some (Value.int .i64 (b0)) := Bb.cell 0 rfl; have eb1 : _ = some (Value.int .i64 (b1)) := Bb.cell 1 rfl; have lb := Bb.lt
        have ex0 : _ = some (Value.int .i64 (a0)) := Bx.cell 0 rfl; have ex1 : _ = some (Value.int .i64 (a1)) := Bx.cell 1 rfl; have lx := Bx.lt
        go_wp2_with fail
        have By : Box (w3.alloc (.cells #[Value.int .i64 (a0 + b0), Value.int .i64 (a1 + b1)] 23)) w3.heap.size #[Value.int .i64 (a0 + b0), Value.int .i64 (a1 + b1)] 23 := Box.new w3 _ _
        replace Ba := Ba.alloc (.cells #[Value.int .i64 (a0 + b0), Value.int .i64 (a1 + b1)] 23)
        replace Bb := Bb.alloc (.cells #[Value.int .i64 (a0 + b0), Value.int .i64 (a1 + b1)] 23)
        replace Bx := Bx.alloc (.cells #[Value.int .i64 (a0 + b0), Value.int .i64 (a1 + b1)] 23)
        replace HB := below_alloc HB (.cells #[Value.int .i64 (a0 + b0), Value.int .i64 (a1 + b1)] 23)
        clear ea0 ea1 la eb0 eb1 lb ex0 ex1 lx
        generalize w3.alloc (.cells #[Value.int .i64 (a0 + b0), Value.int .i64 (a1 + b1)] 23) = W at Ba Bb Bx By HB ⊢
        have ea0 : _ = some (Value.int .i64 (a0)) := Ba.cell 0 rfl; have ea1 : _ = some (Value.int .i64 (a1)) := Ba.cell 1 rfl; have la := Ba.lt
        have eb0 : _ = some (Value.int .i64 (b0)) := Bb.cell 0 rfl; have eb1 : _ = some (Value.int .i64 (b1)) := Bb.cell 1 rfl; have lb := Bb.lt
        have ex0 : _ = some (Value.int .i64 (a0)) := Bx.cell 0 rfl; have ex1 : _ = some (Value.int .i64 (a1)) := Bx.cell 1 rfl; have lx := Bx.lt
        have ey0 : _ = some (Value.int .i64 (a0 + b0)) := By.cell 0 rfl; have ey1 : _ = some (Value.int .i64 (a1 + b1)) := By.cell 1 rfl; have ly := By.lt
        go_wp2_with (first | (go_at_call 14; (first | with_reducible refine (lessv H3 _).mono ?_ | with_reducible refine (lessv H4 _).mono ?_); rintro e wq ⟨rfl, hbq⟩; replace Ba := Ba.below hbq; replace Bb := Bb.below hbq; replace Bx := Bx.below hbq; replace By := By.below hbq; replace HB := below_join HB hbq; clear hbq ea0 ea1 la eb0 eb1 lb ex0 ex1 lx ey0 ey1 ly; (have ea0 : _ = some (Value.int .i64 (a0)) := Ba.cell 0 rfl; have ea1 : _ = some (Value.int .i64 (a1)) := Ba.cell 1 rfl; have la := Ba.lt); (have eb0 : _ = some (Value.int .i64 (b0)) := Bb.cell 0 rfl; have eb1 : _ = some (Value.int .i64 (b1)) := Bb.cell 1 rfl; have lb := Bb.lt); (have ex0 : _ = some (Value.int .i64 (a0)) := Bx.cell 0 rfl; have ex1 : _ = some (Value.int .i64 (a1)) := Bx.cell 1 rfl; have lx := Bx.lt); (have ey0 : _ = some (Value.int .i64 (a0 + b0)) := By.cell 0 rfl; have ey1 : _ = some (Value.int .i64 (a1 + b1)) := By.cell 1 rfl; have ly := By.lt)) | (go_at_call 12; (first | with_reducible refine (checkv H5 _).mono ?_); rintro e wq ⟨rfl, hbq⟩; replace Ba := Ba.below hbq; replace Bb := Bb.below hbq; replace Bx := Bx.below hbq; replace By := By.below hbq; replace HB := below_join HB hbq; clear hbq ea0 ea1 la eb0 eb1 lb ex0 ex1 lx ey0 ey1 ly; (have ea0 : _ = some (Value.int .i64 (a0)) := Ba.cell 0 rfl; have ea1 : _ = some (Value.int .i64 (a1)) := Ba.cell 1 rfl; have la := Ba.lt); (have eb0 : _ = some (Value.int .i64 (b0)) := Bb.cell 0 rfl; have eb1 : _ = some (Value.int .i64 (b1)) := Bb.cell 1 rfl; have lb := Bb.lt); (have ex0 : _ = some (Value.int .i64 (a0)) := Bx.cell 0 rfl; have ex1 : _ = some (Value.int .i64 (a1)) := Bx.cell 1 rfl; have lx := Bx.lt); (have ey0 : _ = some (Value.int .i64 (a0 + b0)) := By.cell 0 rfl; have ey1 : _ = some (Value.int .i64 (a1 + b1)) := By.cell 1 rfl; have ly := By.lt)))
        all_goals
          go_ret
          exact ⟨rfl, by first | exact HB | exact below_drewN HB _⟩
    · rcases hr with rfl | ⟨rfl, rfl⟩
      all_goals
        go_enter Try.func7, Try.ntmps7
        go_wp2_with fail
        refine (awake_any _).mono ?_; rintro e w1 ⟨rfl, hb1⟩
        have Ba : Box w1 (w.heap.size) #[Value.int .i64 (a0), Value.int .i64 (a1)] 23 := by simpa using ((Box.new w #[Value.int .i64 (a0), Value.int .i64 (a1)] 23).alloc _).below hb1
        have Bb : Box w1 (w.heap.size + 1) #[Value.int .i64 (b0), Value.int .i64 (b1)] 23 := by simpa using (Box.new (w.alloc (.cells #[Value.int .i64 (a0), Value.int .i64 (a1)] 23)) #[Value.int .i64 (b0), Value.int .i64 (b1)] 23).below hb1
        have HB := below_join (below_alloc (below_alloc (Below.refl _ w) _) _) hb1
        clear hb1
        have ea0 : _ = some (Value.int .i64 (a0)) := Ba.cell 0 rfl; have ea1 : _ = some (Value.int .i64 (a1)) := Ba.cell 1 rfl; have la := Ba.lt
        have eb0 : _ = some (Value.int .i64 (b0)) := Bb.cell 0 rfl; have eb1 : _ = some (Value.int .i64 (b1)) := Bb.cell 1 rfl; have lb := Bb.lt
        go_wp2_with fail
        refine (addv H1 _).mono ?_; rintro e w2 ⟨rfl, hb2⟩
        replace Ba := Ba.below hb2
        replace Bb := Bb.below hb2
        replace HB := below_join HB hb2
        clear hb2 ea0 ea1 la eb0 eb1 lb
        have ea0 : _ = some (Value.int .i64 (a0)) := Ba.cell 0 rfl; have ea1 : _ = some (Value.int .i64 (a1)) := Ba.cell 1 rfl; have la := Ba.lt
        have eb0 : _ = some (Value.int .i64 (b0)) := Bb.cell 0 rfl; have eb1 : _ = some (Value.int .i64 (b1)) := Bb.cell 1 rfl; have lb := Bb.lt
        go_wp2_with fail
        refine (addv H2 _).mono ?_; rintro e w3 ⟨rfl, hb2⟩
        have Bx : Box w3 w2.heap.size #[Value.int .i64 (a0), Value.int .i64 (a1)] 23 := (Box.new w2 _ _).below hb2
        replace Ba := (Ba.alloc _).below hb2
        replace Bb := (Bb.alloc _).below hb2
        replace HB := below_join (below_alloc HB _) hb2
        clear hb2 ea0 ea1 la eb0 eb1 lb
        have ea0 : _ = some (Value.int .i64 (a0)) := Ba.cell 0 rfl; have ea1 : _ = some (Value.int .i64 (a1)) := Ba.cell 1 rfl; have la := Ba.lt
        have eb0 : _ = some (Value.int .i64 (b0)) := Bb.cell 0 rfl; have eb1 : _ = some (Value.int .i64 (b1)) := Bb.cell 1 rfl; have lb := Bb.lt
        have ex0 : _ = some (Value.int .i64 (a0)) := Bx.cell 0 rfl; have ex1 : _ = some (Value.int .i64 (a1)) := Bx.cell 1 rfl; have lx := Bx.lt
        go_wp2_with fail
        have By : Box (w3.alloc (.cells #[Value.int .i64 (0), Value.int .i64 (0)] 23)) w3.heap.size #[Value.int .i64 (0), Value.int .i64 (0)] 23 := Box.new w3 _ _
        replace Ba := Ba.alloc (.cells #[Value.int .i64 (0), Value.int .i64 (0)] 23)
        replace Bb := Bb.alloc (.cells #[Value.int .i64 (0), Value.int .i64 (0)] 23)
        replace Bx := Bx.alloc (.cells #[Value.int .i64 (0), Value.int .i64 (0)] 23)
        replace HB := below_alloc HB (.cells #[Value.int .i64 (0), Value.int .i64 (0)] 23)
        clear ea0 ea1 la eb0 eb1 lb ex0 ex1 lx
        generalize w3.alloc (.cells #[Value.int .i64 (0), Value.int .i64 (0)] 23) = W at Ba Bb Bx By HB ⊢
        have ea0 : _ = some (Value.int .i64 (a0)) := Ba.cell 0 rfl; have ea1 : _ = some (Value.int .i64 (a1)) := Ba.cell 1 rfl; have la := Ba.lt
        have eb0 : _ = some (Value.int .i64 (b0)) := Bb.cell 0 rfl; have eb1 : _ = some (Value.int .i64 (b1)) := Bb.cell 1 rfl; have lb := Bb.lt
        have ex0 : _ = some (Value.int .i64 (a0)) := Bx.cell 0 rfl; have ex1 : _ = some (Value.int .i64 (a1)) := Bx.cell 1 rfl; have lx := Bx.lt
        have ey0 : _ = some (Value.int .i64 (0)) := By.cell 0 rfl; have ey1 : _ = some (Value.int .i64 (0)) := By.cell 1 rfl; have ly := By.lt
        go_wp2_with (first | (go_at_call 14; (first | with_reducible refine (lessv H3 _).mono ?_ | with_reducible refine (lessv H4 _).mono ?_); rintro e wq ⟨rfl, hbq⟩; replace Ba := Ba.below hbq; replace Bb := Bb.below hbq; replace Bx := Bx.below hbq; replace By := By.below hbq; replace HB := below_join HB hbq; clear hbq ea0 ea1 la eb0 eb1 lb ex0 ex1 lx ey0 ey1 ly; (have ea0 : _ = some (Value.int .i64 (a0)) := Ba.cell 0 rfl; have ea1 : _ = some (Value.int .i64 (a1)) := Ba.cell 1 rfl; have la := Ba.lt); (have eb0 : _ = some (Value.int .i64 (b0)) := Bb.cell 0 rfl; have eb1 : _ = some (Value.int .i64 (b1)) := Bb.cell 1 rfl; have lb := Bb.lt); (have ex0 : _ = some (Value.int .i64 (a0)) := Bx.cell 0 rfl; have ex1 : _ = some (Value.int .i64 (a1)) := Bx.cell 1 rfl; have lx := Bx.lt); (have ey0 : _ = some (Value.int .i64 (0)) := By.cell 0 rfl; have ey1 : _ = some (Value.int .i64 (0)) := By.cell 1 rfl; have ly := By.lt)) | (go_at_call 12; (first | with_reducible refine (checkv H5 _).mono ?_); rintro e wq ⟨rfl, hbq⟩; replace Ba := Ba.below hbq; replace Bb := Bb.below hbq; replace Bx := Bx.below hbq; replace By := By.below hbq; replace HB := below_join HB hbq; clear hbq ea0 ea1 la eb0 eb1 lb ex0 ex1 lx ey0 ey1 ly; (have ea0 : _ = some (Value.int .i64 (a0)) := Ba.cell 0 rfl; have ea1 : _ = some (Value.int .i64 (a1)) := Ba.cell 1 rfl; have la := Ba.lt); (have eb0 : _ = some (Value.int .i64 (b0)) := Bb.cell 0 rfl; have eb1 : _ = some (Value.int .i64 (b1)) := Bb.cell 1 rfl; have lb := Bb.lt); (have ex0 : _ = some (Value.int .i64 (a0)) := Bx.cell 0 rfl; have ex1 : _ = some (Value.int .i64 (a1)) := Bx.cell 1 rfl; have lx := Bx.lt); (have ey0 : _ = some (Value.int .i64 (0)) := By.cell 0 rfl; have ey1 : _ = some (Value.int .i64 (0)) := By.cell 1 rfl; have ly := By.lt)))
        all_goals
          go_ret
          exact ⟨rfl, by first | exact HB | exact below_drewN HB _⟩
  · rcases h2 with H2 | H2
    · rcases hr with rfl | ⟨rfl, rfl⟩
      all_goals
        go_enter Try.func7, Try.ntmps7
        go_wp2_with fail
        refine (awake_any _).mono ?_; rintro e w1 ⟨rfl, hb1⟩
        have Ba : Box w1 (w.heap.size) #[Value.int .i64 (a0), Value.int .i64 (a1)] 23 := by simpa using ((Box.new w #[Value.int .i64 (a0), Value.int .i64 (a1)] 23).alloc _).below hb1
        have Bb : Box w1 (w.heap.size + 1) #[Value.int .i64 (b0), Value.int .i64 (b1)] 23 := by simpa using (Box.new (w.alloc (.cells #[Value.int .i64 (a0), Value.int .i64 (a1)] 23)) #[Value.int .i64 (b0), Value.int .i64 (b1)] 23).below hb1
        have HB := below_join (below_alloc (below_alloc (Below.refl _ w) _) _) hb1
        clear hb1
        have ea0 : _ = some (Value.int .i64 (a0)) := Ba.cell 0 rfl; have ea1 : _ = some (Value.int .i64 (a1)) := Ba.cell 1 rfl; have la := Ba.lt
        have eb0 : _ = some (Value.int .i64 (b0)) := Bb.cell 0 rfl; have eb1 : _ = some (Value.int .i64 (b1)) := Bb.cell 1 rfl; have lb := Bb.lt
        go_wp2_with fail
        refine (addv H1 _).mono ?_; rintro e w2 ⟨rfl, hb2⟩
        replace Ba := Ba.below hb2
        replace Bb := Bb.below hb2
        replace HB := below_join HB hb2
        clear hb2 ea0 ea1 la eb0 eb1 lb
        have ea0 : _ = some (Value.int .i64 (a0)) := Ba.cell 0 rfl; have ea1 : _ = some (Value.int .i64 (a1)) := Ba.cell 1 rfl; have la := Ba.lt
        have eb0 : _ = some (Value.int .i64 (b0)) := Bb.cell 0 rfl; have eb1 : _ = some (Value.int .i64 (b1)) := Bb.cell 1 rfl; have lb := Bb.lt
        go_wp2_with fail
        refine (addv H2 _).mono ?_; rintro e w3 ⟨rfl, hb2⟩
        have Bx : Box w3 w2.heap.size #[Value.int .i64 (0), Value.int .i64 (0)] 23 := (Box.new w2 _ _).below hb2
        replace Ba := (Ba.alloc _).below hb2
        replace Bb := (Bb.alloc _).below hb2
        replace HB := below_join (below_alloc HB _) hb2
        clear hb2 ea0 ea1 la eb0 eb1 lb
        have ea0 : _ = some (Value.int .i64 (a0)) := Ba.cell 0 rfl; have ea1 : _ = some (Value.int .i64 (a1)) := Ba.cell 1 rfl; have la := Ba.lt
        have eb0 : _ = some (Value.int .i64 (b0)) := Bb.cell 0 rfl; have eb1 : _ = some (Value.int .i64 (b1)) := Bb.cell 1 rfl; have lb := Bb.lt
        have ex0 : _ = some (Value.int .i64 (0)) := Bx.cell 0 rfl; have ex1 : _ = some (Value.int .i64 (0)) := Bx.cell 1 rfl; have lx := Bx.lt
        go_wp2_with fail
        have By : Box (w3.alloc (.cells #[Value.int .i64 (a0 + b0), Value.int .i64 (a1 + b1)] 23)) w3.heap.size #[Value.int .i64 (a0 + b0), Value.int .i64 (a1 + b1)] 23 := Box.new w3 _ _
        replace Ba := Ba.alloc (.cells #[Value.int .i64 (a0 + b0), Value.int .i64 (a1 + b1)] 23)
        replace Bb := Bb.alloc (.cells #[Value.int .i64 (a0 + b0), Value.int .i64 (a1 + b1)] 23)
        replace Bx := Bx.alloc (.cells #[Value.int .i64 (a0 + b0), Value.int .i64 (a1 + b1)] 23)
        replace HB := below_alloc HB (.cells #[Value.int .i64 (a0 + b0), Value.int .i64 (a1 + b1)] 23)
        clear ea0 ea1 la eb0 eb1 lb ex0 ex1 lx
        generalize w3.alloc (.cells #[Value.int .i64 (a0 + b0), Value.int .i64 (a1 + b1)] 23) = W at Ba Bb Bx By HB ⊢
        have ea0 : _ = some (Value.int .i64 (a0)) := Ba.cell 0 rfl; have ea1 : _ = some (Value.int .i64 (a1)) := Ba.cell 1 rfl; have la := Ba.lt
        have eb0 : _ = some (Value.int .i64 (b0)) := Bb.cell 0 rfl; have eb1 : _ = some (Value.int .i64 (b1)) := Bb.cell 1 rfl; have lb := Bb.lt
        have ex0 : _ = some (Value.int .i64 (0)) := Bx.cell 0 rfl; have ex1 : _ = some (Value.int .i64 (0)) := Bx.cell 1 rfl; have lx := Bx.lt
        have ey0 : _ = some (Value.int .i64 (a0 + b0)) := By.cell 0 rfl; have ey1 : _ = some (Value.int .i64 (a1 + b1)) := By.cell 1 rfl; have ly := By.lt
        go_wp2_with (first | (go_at_call 14; (first | with_reducible refine (lessv H3 _).mono ?_ | with_reducible refine (lessv H4 _).mono ?_); rintro e wq ⟨rfl, hbq⟩; replace Ba := Ba.below hbq; replace Bb := Bb.below hbq; replace Bx := Bx.below hbq; replace By := By.below hbq; replace HB := below_join HB hbq; clear hbq ea0 ea1 la eb0 eb1 lb ex0 ex1 lx ey0 ey1 ly; (have ea0 : _ = some (Value.int .i64 (a0)) := Ba.cell 0 rfl; have ea1 : _ = some (Value.int .i64 (a1)) := Ba.cell 1 rfl; have la := Ba.lt); (have eb0 : _ = some (Value.int .i64 (b0)) := Bb.cell 0 rfl; have eb1 : _ = some (Value.int .i64 (b1)) := Bb.cell 1 rfl; have lb := Bb.lt); (have ex0 : _ = some (Value.int .i64 (0)) := Bx.cell 0 rfl; have ex1 : _ = some (Value.int .i64 (0)) := Bx.cell 1 rfl; have lx := Bx.lt); (have ey0 : _ = some (Value.int .i64 (a0 + b0)) := By.cell 0 rfl; have ey1 : _ = some (Value.int .i64 (a1 + b1)) := By.cell 1 rfl; have ly := By.lt)) | (go_at_call 12; (first | with_reducible refine (checkv H5 _).mono ?_); rintro e wq ⟨rfl, hbq⟩; replace Ba := Ba.below hbq; replace Bb := Bb.below hbq; replace Bx := Bx.below hbq; replace By := By.below hbq; replace HB := below_join HB hbq; clear hbq ea0 ea1 la eb0 eb1 lb ex0 ex1 lx ey0 ey1 ly; (have ea0 : _ = some (Value.int .i64 (a0)) := Ba.cell 0 rfl; have ea1 : _ = some (Value.int .i64 (a1)) := Ba.cell 1 rfl; have la := Ba.lt); (have eb0 : _ = some (Value.int .i64 (b0)) := Bb.cell 0 rfl; have eb1 : _ = some (Value.int .i64 (b1)) := Bb.cell 1 rfl; have lb := Bb.lt); (have ex0 : _ = some (Value.int .i64 (0)) := Bx.cell 0 rfl; have ex1 : _ = some (Value.int .i64 (0)) := Bx.cell 1 rfl; have lx := Bx.lt); (have ey0 : _ = some (Value.int .i64 (a0 + b0)) := By.cell 0 rfl; have ey1 : _ = some (Value.int .i64 (a1 + b1)) := By.cell 1 rfl; have ly := By.lt)))
        all_goals
          go_ret
          exact ⟨rfl, by first | exact HB | exact below_drewN HB _⟩
    · rcases hr with rfl | ⟨rfl, rfl⟩
      all_goals
        go_enter Try.func7, Try.ntmps7
        go_wp2_with fail
        refine (awake_any _).mono ?_; rintro e w1 ⟨rfl, hb1⟩
        have Ba : Box w1 (w.heap.size) #[Value.int .i64 (a0), Value.int .i64 (a1)] 23 := by simpa using ((Box.new w #[Value.int .i64 (a0), Value.int .i64 (a1)] 23).alloc _).below hb1
        have Bb : Box w1 (w.heap.size + 1) #[Value.int .i64 (b0), Value.int .i64 (b1)] 23 := by simpa using (Box.new (w.alloc (.cells #[Value.int .i64 (a0), Value.int .i64 (a1)] 23)) #[Value.int .i64 (b0), Value.int .i64 (b1)] 23).below hb1
        have HB := below_join (below_alloc (below_alloc (Below.refl _ w) _) _) hb1
        clear hb1
        have ea0 : _ = some (Value.int .i64 (a0)) := Ba.cell 0 rfl; have ea1 : _ = some (Value.int .i64 (a1)) := Ba.cell 1 rfl; have la := Ba.lt
        have eb0 : _ = some (Value.int .i64 (b0)) := Bb.cell 0 rfl; have eb1 : _ = some (Value.int .i64 (b1)) := Bb.cell 1 rfl; have lb := Bb.lt
        go_wp2_with fail
        refine (addv H1 _).mono ?_; rintro e w2 ⟨rfl, hb2⟩
        replace Ba := Ba.below hb2
        replace Bb := Bb.below hb2
        replace HB := below_join HB hb2
        clear hb2 ea0 ea1 la eb0 eb1 lb
        have ea0 : _ = some (Value.int .i64 (a0)) := Ba.cell 0 rfl; have ea1 : _ = some (Value.int .i64 (a1)) := Ba.cell 1 rfl; have la := Ba.lt
        have eb0 : _ = some (Value.int .i64 (b0)) := Bb.cell 0 rfl; have eb1 : _ = some (Value.int .i64 (b1)) := Bb.cell 1 rfl; have lb := Bb.lt
        go_wp2_with fail
        refine (addv H2 _).mono ?_; rintro e w3 ⟨rfl, hb2⟩
        have Bx : Box w3 w2.heap.size #[Value.int .i64 (0), Value.int .i64 (0)] 23 := (Box.new w2 _ _).below hb2
        replace Ba := (Ba.alloc _).below hb2
        replace Bb := (Bb.alloc _).below hb2
        replace HB := below_join (below_alloc HB _) hb2
        clear hb2 ea0 ea1 la eb0 eb1 lb
        have ea0 : _ = some (Value.int .i64 (a0)) := Ba.cell 0 rfl; have ea1 : _ = some (Value.int .i64 (a1)) := Ba.cell 1 rfl; have la := Ba.lt
        have eb0 : _ = some (Value.int .i64 (b0)) := Bb.cell 0 rfl; have eb1 : _ = some (Value.int .i64 (b1)) := Bb.cell 1 rfl; have lb := Bb.lt
        have ex0 : _ = some (Value.int .i64 (0)) := Bx.cell 0 rfl; have ex1 : _ = some (Value.int .i64 (0)) := Bx.cell 1 rfl; have lx := Bx.lt
        go_wp2_with fail
        have By : Box (w3.alloc (.cells #[Value.int .i64 (0), Value.int .i64 (0)] 23)) w3.heap.size #[Value.int .i64 (0), Value.int .i64 (0)] 23 := Box.new w3 _ _
        replace Ba := Ba.alloc (.cells #[Value.int .i64 (0), Value.int .i64 (0)] 23)
        replace Bb := Bb.alloc (.cells #[Value.int .i64 (0), Value.int .i64 (0)] 23)
        replace Bx := Bx.alloc (.cells #[Value.int .i64 (0), Value.int .i64 (0)] 23)
        replace HB := below_alloc HB (.cells #[Value.int .i64 (0), Value.int .i64 (0)] 23)
        clear ea0 ea1 la eb0 eb1 lb ex0 ex1 lx
        generalize w3.alloc (.cells #[Value.int .i64 (0), Value.int .i64 (0)] 23) = W at Ba Bb Bx By HB ⊢
        have ea0 : _ = some (Value.int .i64 (a0)) := Ba.cell 0 rfl; have ea1 : _ = some (Value.int .i64 (a1)) := Ba.cell 1 rfl; have la := Ba.lt
        have eb0 : _ = some (Value.int .i64 (b0)) := Bb.cell 0 rfl; have eb1 : _ = some (Value.int .i64 (b1)) := Bb.cell 1 rfl; have lb := Bb.lt
        have ex0 : _ = some (Value.int .i64 (0)) := Bx.cell 0 rfl; have ex1 : _ = some (Value.int .i64 (0)) := Bx.cell 1 rfl; have lx := Bx.lt
        have ey0 : _ = some (Value.int .i64 (0)) := By.cell 0 rfl; have ey1 : _ = some (Value.int .i64 (0)) := By.cell 1 rfl; have ly := By.lt
        go_wp2_with (first | (go_at_call 14; (first | with_reducible refine (lessv H3 _).mono ?_ | with_reducible refine (lessv H4 _).mono ?_); rintro e wq ⟨rfl, hbq⟩; replace Ba := Ba.below hbq; replace Bb := Bb.below hbq; replace Bx := Bx.below hbq; replace By := By.below hbq; replace HB := below_join HB hbq; clear hbq ea0 ea1 la eb0 eb1 lb ex0 ex1 lx ey0 ey1 ly; (have ea0 : _ = some (Value.int .i64 (a0)) := Ba.cell 0 rfl; have ea1 : _ = some (Value.int .i64 (a1)) := Ba.cell 1 rfl; have la := Ba.lt); (have eb0 : _ = some (Value.int .i64 (b0)) := Bb.cell 0 rfl; have eb1 : _ = some (Value.int .i64 (b1)) := Bb.cell 1 rfl; have lb := Bb.lt); (have ex0 : _ = some (Value.int .i64 (0)) := Bx.cell 0 rfl; have ex1 : _ = some (Value.int .i64 (0)) := Bx.cell 1 rfl; have lx := Bx.lt); (have ey0 : _ = some (Value.int .i64 (0)) := By.cell 0 rfl; have ey1 : _ = some (Value.int .i64 (0)) := By.cell 1 rfl; have ly := By.lt)) | (go_at_call 12; (first | with_reducible refine (checkv H5 _).mono ?_); rintro e wq ⟨rfl, hbq⟩; replace Ba := Ba.below hbq; replace Bb := Bb.below hbq; replace Bx := Bx.below hbq; replace By := By.below hbq; replace HB := below_join HB hbq; clear hbq ea0 ea1 la eb0 eb1 lb ex0 ex1 lx ey0 ey1 ly; (have ea0 : _ = some (Value.int .i64 (a0)) := Ba.cell 0 rfl; have ea1 : _ = some (Value.int .i64 (a1)) := Ba.cell 1 rfl; have la := Ba.lt); (have eb0 : _ = some (Value.int .i64 (b0)) := Bb.cell 0 rfl; have eb1 : _ = some (Value.int .i64 (b1)) := Bb.cell 1 rfl; have lb := Bb.lt); (have ex0 : _ = some (Value.int .i64 (0)) := Bx.cell 0 rfl; have ex1 : _ = some (Value.int .i64 (0)) := Bx.cell 1 rfl; have lx := Bx.lt); (have ey0 : _ = some (Value.int .i64 (0)) := By.cell 0 rfl; have ey1 : _ = some (Value.int .i64 (0)) := By.cell 1 rfl; have ly := By.lt)))
        all_goals
          go_ret
          exact ⟨rfl, by first | exact HB | exact below_drewN HB _⟩

theorem rises_tests (a0 a1 b0 b1 c0 c1 : Int) : ∃ p q r s, Hid (lt a0 a1 b0 b1 = p) ∧ Hid (lt b0 b1 c0 c1 = q) ∧ Hid (lt a0 a1 c0 c1 = r) ∧ Hid (lt a0 a1 a0 a1 = false) ∧ Hid (lt b0 b1 a0 a1 = s) ∧ (p = false ∨ (p = true ∧ s = false ∧ q = false) ∨ (p = true ∧ s = false ∧ q = true ∧ r = true)) := by
  refine ⟨_, _, _, _, Lib.hid rfl, Lib.hid rfl, Lib.hid rfl, Lib.hid (lt_f (by omega)), Lib.hid rfl, ?_⟩
  cases h1 : lt a0 a1 b0 b1 with
  | false => exact .inl rfl
  | true =>
    have hs : lt b0 b1 a0 a1 = false := lt_f (by have := lt_tt h1; omega)
    cases h2 : lt b0 b1 c0 c1 with
    | false => exact .inr (.inl ⟨rfl, hs, rfl⟩)
    | true => exact .inr (.inr ⟨rfl, hs, rfl, lt_t (by have := lt_tt h1; have := lt_tt h2; omega)⟩)
theorem rises_sums (a0 a1 b0 b1 c0 c1 : Int) : ∃ x0 x1 e z0 z1 g u0 u1 h v0 v1 i, Hid (sum a0 a1 b0 b1 = (x0, x1, e)) ∧ Hid (sum b0 b1 a0 a1 = (x0, x1, e)) ∧ Hid (sum b0 b1 c0 c1 = (z0, z1, g)) ∧ Hid (sum x0 x1 c0 c1 = (u0, u1, h)) ∧ Hid (sum a0 a1 z0 z1 = (v0, v1, i)) ∧
    (e = 50 ∨ (e = 0 ∧ g = 50) ∨ (e = 0 ∧ g = 0 ∧ h = 50) ∨ (e = 0 ∧ g = 0 ∧ h = 0 ∧ i = 50) ∨ (e = 0 ∧ g = 0 ∧ h = 0 ∧ i = 0 ∧ (u0 == v0) = true ∧ (u1 == v1) = true)) := by
  rcases sum_cases a0 a1 b0 b1 with ⟨h1, _⟩ | h1
  · rcases sum_cases b0 b1 c0 c1 with ⟨h2, _⟩ | h2
    · rcases sum_cases (a0 + b0) (a1 + b1) c0 c1 with ⟨h3, _⟩ | h3
      · rcases sum_cases a0 a1 (b0 + c0) (b1 + c1) with ⟨h4, _⟩ | h4
        · exact ⟨_, _, _, _, _, _, _, _, _, _, _, _, Lib.hid h1, Lib.hid ((sum_comm _ _ _ _).trans h1), Lib.hid h2, Lib.hid h3, Lib.hid h4, .inr (.inr (.inr (.inr ⟨rfl, rfl, rfl, rfl, by rw [beq_iff_eq]; omega, by rw [beq_iff_eq]; omega⟩)))⟩
        · exact ⟨_, _, _, _, _, _, _, _, _, _, _, _, Lib.hid h1, Lib.hid ((sum_comm _ _ _ _).trans h1), Lib.hid h2, Lib.hid h3, Lib.hid h4, .inr (.inr (.inr (.inl ⟨rfl, rfl, rfl, rfl⟩)))⟩
      · exact ⟨_, _, _, _, _, _, _, _, _, _, _, _, Lib.hid h1, Lib.hid ((sum_comm _ _ _ _).trans h1), Lib.hid h2, Lib.hid h3, Lib.hid rfl, .inr (.inr (.inl ⟨rfl, rfl, rfl⟩))⟩
    · exact ⟨_, _, _, _, _, _, _, _, _, _, _, _, Lib.hid h1, Lib.hid ((sum_comm _ _ _ _).trans h1), Lib.hid h2, Lib.hid rfl, Lib.hid rfl, .inr (.inl ⟨rfl, rfl⟩)⟩
  · exact ⟨_, _, _, _, _, _, _, _, _, _, _, _, Lib.hid h1, Lib.hid ((sum_comm _ _ _ _).trans h1), Lib.hid rfl, Lib.hid rfl, Lib.hid rfl, .inl rfl⟩

end Go.Proofs.Ytoldnphehocpaaa.Cost
