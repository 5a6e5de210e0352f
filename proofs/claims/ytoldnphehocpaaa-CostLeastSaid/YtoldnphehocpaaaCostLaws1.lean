/- The statement CostTells: what its calls answer. -/
import Derived.Test.YtoldnphehocpaaaCostAwake
namespace Go.Proofs.Ytoldnphehocpaaa.Cost
open Go.RowKit Go.Proofs.Ytoldnphehocpaaa.Kit
set_option linter.unusedVariables false
set_option linter.unusedSimpArgs false

theorem cost_of {w : World} {B : Nat} {cs : Array Value} {x : Int × Int} (h : CostR.K w B cs.toList x) : cs = #[.int .i64 x.1, .int .i64 x.2] ∧ (Lit.int .i64 x.1).wf = true ∧ (Lit.int .i64 x.2).wf = true := by
  obtain ⟨c1, c2, e, ⟨rfl, h1⟩, ⟨rfl, h2⟩⟩ := h
  exact ⟨arr_of e, h1, h2⟩

set_option maxRecDepth 100000 in
set_option maxHeartbeats 2000000 in
theorem tells_walk (ca : Array Value) (a : Int × Int) (cb : Array Value) (b : Int × Int) (A : Option Addr) (n c : Nat) (l : List (Int × Int)) (w : World)
    (ha : CostR.K w w.heap.size ca.toList a) (hb : CostR.K w w.heap.size cb.toList b) (h : CostR.slice.K w w.heap.size [.slice A n c] l) :
    Calls Try.prog 3 #[.agg ca, .agg cb, .slice A n c] w fun e w' => e = .returned (.bool true) ∧ Below w.heap.size w w' := by
  obtain ⟨rfl, _, _⟩ := cost_of ha
  obtain ⟨rfl, _, _⟩ := cost_of hb
  obtain ⟨rfl, h1, h2, hl⟩ := slice_of h
  have hm : l.length ≤ 9223372036854775807 := by omega
  obtain ⟨a0, a1⟩ := a
  obtain ⟨b0, b1⟩ := b
  clear h ha hb h1 h2
  by_cases h100 : 100 < l.length
  · go_enter Try.func3, Try.ntmps3
    go_wp2_with (go_at_call 9; refine (awake_any _).mono ?_; rintro e w1 ⟨rfl, hb⟩)
    go_ret
    refine ⟨rfl, ?_⟩
    repeat (first | exact Below.refl _ _ | apply below_alloc | (refine below_join ?_ (by assumption)))
  · go_enter Try.func3, Try.ntmps3
    go_wp2_with fail
    refine (awake_any _).mono ?_; rintro e w1 ⟨rfl, hb1⟩
    have Ba : Box w1 w.heap.size #[.int .i64 a0, .int .i64 a1] 23 := ((Box.new w _ _).alloc _).below hb1
    have Bb : Box w1 (w.heap.size + 1) #[.int .i64 b0, .int .i64 b1] 23 := by simpa using (Box.new (w.alloc (.cells #[.int .i64 a0, .int .i64 a1] 23)) _ _).below hb1
    have HB := below_join (below_alloc (below_alloc (Below.refl _ w) _) _) hb1
    clear hb1
    have ea0 : _ = some (Value.int .i64 a0) := Ba.cell 0 rfl; have ea1 : _ = some (Value.int .i64 a1) := Ba.cell 1 rfl; have la := Ba.lt
    have eb0 : _ = some (Value.int .i64 b0) := Bb.cell 0 rfl; have eb1 : _ = some (Value.int .i64 b1) := Bb.cell 1 rfl; have lb := Bb.lt
    go_wp2_with fail
    refine (add_any _ _ _ _ _).mono ?_; rintro e w2 ⟨rfl, hb2⟩
    replace Ba := Ba.below hb2; replace Bb := Bb.below hb2; replace HB := below_join HB hb2
    clear hb2; clear ea0 ea1 la eb0 eb1 lb
    have ea0 : _ = some (Value.int .i64 a0) := Ba.cell 0 rfl; have ea1 : _ = some (Value.int .i64 a1) := Ba.cell 1 rfl; have la := Ba.lt
    have eb0 : _ = some (Value.int .i64 b0) := Bb.cell 0 rfl; have eb1 : _ = some (Value.int .i64 b1) := Bb.cell 1 rfl; have lb := Bb.lt
    go_wp2_with fail
    refine (refadd_any _ _ _ _ _).mono ?_; rintro e w3 ⟨rfl, hb2⟩
    have Bc : Box w3 w2.heap.size #[.int .i64 (sum a0 a1 b0 b1).1, .int .i64 (sum a0 a1 b0 b1).2.1] 23 := (Box.new w2 _ _).below hb2
    replace Ba := (Ba.alloc _).below hb2; replace Bb := (Bb.alloc _).below hb2; replace HB := below_join (below_alloc HB _) hb2
    clear hb2; clear ea0 ea1 la eb0 eb1 lb
    have ea0 : _ = some (Value.int .i64 a0) := Ba.cell 0 rfl; have ea1 : _ = some (Value.int .i64 a1) := Ba.cell 1 rfl; have la := Ba.lt
    have eb0 : _ = some (Value.int .i64 b0) := Bb.cell 0 rfl; have eb1 : _ = some (Value.int .i64 b1) := Bb.cell 1 rfl; have lb := Bb.lt
    have ec0 : _ = some (Value.int .i64 (sum a0 a1 b0 b1).1) := Bc.cell 0 rfl; have ec1 : _ = some (Value.int .i64 (sum a0 a1 b0 b1).2.1) := Bc.cell 1 rfl; have lc := Bc.lt
    go_wp2_with fail
    have Bd : Box (w3.alloc (.cells #[.int .i64 (sum a0 a1 b0 b1).1, .int .i64 (sum a0 a1 b0 b1).2.1] 23)) w3.heap.size #[.int .i64 (sum a0 a1 b0 b1).1, .int .i64 (sum a0 a1 b0 b1).2.1] 23 := Box.new w3 _ _
    replace Ba := Ba.alloc (.cells #[.int .i64 (sum a0 a1 b0 b1).1, .int .i64 (sum a0 a1 b0 b1).2.1] 23); replace Bb := Bb.alloc (.cells #[.int .i64 (sum a0 a1 b0 b1).1, .int .i64 (sum a0 a1 b0 b1).2.1] 23); replace Bc := Bc.alloc (.cells #[.int .i64 (sum a0 a1 b0 b1).1, .int .i64 (sum a0 a1 b0 b1).2.1] 23)
    replace HB := below_alloc HB (.cells #[.int .i64 (sum a0 a1 b0 b1).1, .int .i64 (sum a0 a1 b0 b1).2.1] 23)
    clear ea0 ea1 la eb0 eb1 lb ec0 ec1 lc
    generalize w3.alloc (.cells #[.int .i64 (sum a0 a1 b0 b1).1, .int .i64 (sum a0 a1 b0 b1).2.1] 23) = W at Ba Bb Bc Bd HB ⊢
    have ea0 : _ = some (Value.int .i64 a0) := Ba.cell 0 rfl; have ea1 : _ = some (Value.int .i64 a1) := Ba.cell 1 rfl; have la := Ba.lt
    have eb0 : _ = some (Value.int .i64 b0) := Bb.cell 0 rfl; have eb1 : _ = some (Value.int .i64 b1) := Bb.cell 1 rfl; have lb := Bb.lt
    have ec0 : _ = some (Value.int .i64 (sum a0 a1 b0 b1).1) := Bc.cell 0 rfl; have ec1 : _ = some (Value.int .i64 (sum a0 a1 b0 b1).2.1) := Bc.cell 1 rfl; have lc := Bc.lt
    have ed0 : _ = some (Value.int .i64 (sum a0 a1 b0 b1).1) := Bd.cell 0 rfl; have ed1 : _ = some (Value.int .i64 (sum a0 a1 b0 b1).2.1) := Bd.cell 1 rfl; have ld := Bd.lt
    have HK : Hid (∀ w', Below W.heap.size W w' → Below W.heap.size W w' ∧ w'.cell? ⟨w.heap.size, 0, none⟩ = some (.int .i64 a0) ∧ w'.cell? ⟨w.heap.size, 1, none⟩ = some (.int .i64 a1) ∧ w'.cell? ⟨w.heap.size + 1, 0, none⟩ = some (.int .i64 b0) ∧ w'.cell? ⟨w.heap.size + 1, 1, none⟩ = some (.int .i64 b1) ∧ w'.cell? ⟨w2.heap.size, 0, none⟩ = some (.int .i64 (sum a0 a1 b0 b1).1) ∧ w'.cell? ⟨w2.heap.size, 1, none⟩ = some (.int .i64 (sum a0 a1 b0 b1).2.1) ∧ w'.cell? ⟨w3.heap.size, 0, none⟩ = some (.int .i64 (sum a0 a1 b0 b1).1) ∧ w'.cell? ⟨w3.heap.size, 1, none⟩ = some (.int .i64 (sum a0 a1 b0 b1).2.1)) := Lib.hid fun w' hb => ⟨hb, later hb ea0, later hb ea1, later hb eb0, later hb eb1, later hb ec0, later hb ec1, later hb ed0, later hb ed1⟩
    go_region_held3 (fun w' => Below W.heap.size W w' ∧ w'.cell? ⟨w.heap.size, 0, none⟩ = some (.int .i64 a0) ∧ w'.cell? ⟨w.heap.size, 1, none⟩ = some (.int .i64 a1) ∧ w'.cell? ⟨w.heap.size + 1, 0, none⟩ = some (.int .i64 b0) ∧ w'.cell? ⟨w.heap.size + 1, 1, none⟩ = some (.int .i64 b1) ∧ w'.cell? ⟨w2.heap.size, 0, none⟩ = some (.int .i64 (sum a0 a1 b0 b1).1) ∧ w'.cell? ⟨w2.heap.size, 1, none⟩ = some (.int .i64 (sum a0 a1 b0 b1).2.1) ∧ w'.cell? ⟨w3.heap.size, 0, none⟩ = some (.int .i64 (sum a0 a1 b0 b1).1) ∧ w'.cell? ⟨w3.heap.size, 1, none⟩ = some (.int .i64 (sum a0 a1 b0 b1).2.1))
      (first | exact HK.out _ (below_drew (Below.refl _ _)) | exact HK.out _ (below_join (below_drew (Below.refl _ _)) hbq) | exact HK.out _ (below_join ‹Below W.heap.size W _ ∧ _›.1 hbq))
      (first
        | (go_at_call 12; refine (check_any _ _ _).mono ?_; rintro e wq ⟨rfl, hbq⟩)
        | (go_at_call 13; refine (refcheck_any _ _ _).mono ?_; rintro e wq ⟨rfl, hbq⟩)
        | (go_at_call 14; refine (less_any _ _ _ _ _).mono ?_; rintro e wq ⟨rfl, hbq⟩)
        | (go_at_call 15; refine (refless_any _ _ _ _ _).mono ?_; rintro e wq ⟨rfl, hbq⟩)
        | (go_at_call 16; have hRl := (hl.mono (below_join HB ‹Below W.heap.size W _ ∧ _›.1)).up (below_join HB ‹Below W.heap.size W _ ∧ _›.1).size; refine (least_any _ _ _ _ hRl hm).mono ?_; clear hRl; rintro e wq ⟨rfl, hbq⟩)
        | (go_at_call 17; have hRl := (hl.mono (below_join HB ‹Below W.heap.size W _ ∧ _›.1)).up (below_join HB ‹Below W.heap.size W _ ∧ _›.1).size; refine (refleast_any _ _ _ _ hRl hm).mono ?_; clear hRl; rintro e wq ⟨rfl, hbq⟩))
    go_wp2
    go_ret
    refine ⟨rfl, ?_⟩
    exact below_join HB ‹Below W.heap.size W _ ∧ _›.1

end Go.Proofs.Ytoldnphehocpaaa.Cost
