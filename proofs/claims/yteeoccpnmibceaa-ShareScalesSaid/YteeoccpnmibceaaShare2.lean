/- Shares: the order of parts, and the sort by it. -/
import Derived.Test.YteeoccpnmibceaaShare
import Derived.Deep.RegionHeld3
import Derived.Sort.Grow
namespace Go.Proofs.Yteeoccpnmibceaa.Sh
open Go.RowKit Go.Proofs.Yteeoccpnmibceaa.Kit
set_option linter.unusedVariables false
set_option linter.unusedSimpArgs false

/-- So many draws, and blocks behind. -/
def Gr (w w' : World) : Prop := ∃ q os, w' = Go.Sort.grow (w.drewN q) os
theorem gr_refl (w : World) : Gr w w := ⟨0, #[], by simp [Go.Sort.grow, World.drewN]⟩
theorem gr_drew {w w' : World} (h : Gr w w') : Gr w w'.drew := by
  obtain ⟨q, os, rfl⟩ := h
  exact ⟨q + 1, os, rfl⟩
theorem gr_alloc {w w' : World} (h : Gr w w') (o : Obj) : Gr w (w'.alloc o) := by
  obtain ⟨q, os, rfl⟩ := h
  exact ⟨q, os ++ #[o], by rw [Go.Sort.alloc_eq_grow, Go.Sort.grow_grow]⟩
theorem gr_below {w w' : World} (h : Gr w w') : Below w.heap.size w w' := by
  obtain ⟨q, os, rfl⟩ := h
  refine ⟨rfl, rfl, rfl, by simp [Go.Sort.grow, World.drewN], fun k hk => ?_⟩
  simp only [Go.Sort.grow, World.drewN]
  rw [Array.getElem?_append_left hk]

def cf (x y : Nat × Nat) : Int := if cmpI y.2 x.2 = 0 then cmpI x.1 y.1 else cmpI y.2 x.2
theorem cf_lt (x y : Nat × Nat) : decide (cf x y < 0) = before x y := by
  unfold cf before cmpI
  rw [Bool.eq_iff_iff]
  simp only [decide_eq_true_eq, Bool.or_eq_true, Bool.and_eq_true]
  repeat' (first | omega | split)
theorem or_c {u v r : Int} (hr : Hid ((if u = 0 then v else u) = r)) (g : Nat) (w : World) (hu : w.cell? ⟨g, 0, none⟩ = some (.int .i64 u)) (hv : w.cell? ⟨g, 1, none⟩ = some (.int .i64 v)) :
    Calls Try.prog 29 #[.slice (some ⟨g, 0, none⟩) 2 2] w fun e w' => e = .returned (.int .i64 r) ∧ w = w' := by
  rw [← hr.out]; exact or_any u v g w hu hv
set_option maxHeartbeats 2000000 in
theorem ahead_any (x y : Nat × Nat) (w : World) :
    Calls Try.prog 18 #[.agg #[.int .i64 (x.1 : Nat), .int .i64 (x.2 : Nat)], .agg #[.int .i64 (y.1 : Nat), .int .i64 (y.2 : Nat)]] w fun e w' => e = .returned (.int .i64 (cf x y)) ∧ Gr w w' := by
  obtain ⟨x1, x2⟩ := x
  obtain ⟨y1, y2⟩ := y
  obtain ⟨r, hr⟩ : ∃ r, Hid (cf (x1, x2) (y1, y2) = r) := ⟨_, Lib.hid rfl⟩
  rw [hr.out]
  unfold cf at hr
  simp only at hr ⊢
  go_enter Try.func18, Try.ntmps18
  go_wp2
  have B0 : Box ((w.alloc (.cells #[.int .i64 (x1 : Int), .int .i64 (x2 : Int)] 37)).alloc (.cells #[.int .i64 (y1 : Int), .int .i64 (y2 : Int)] 37)) w.heap.size #[.int .i64 (x1 : Int), .int .i64 (x2 : Int)] 37 := (Box.new w _ _).alloc _
  have B1 : Box ((w.alloc (.cells #[.int .i64 (x1 : Int), .int .i64 (x2 : Int)] 37)).alloc (.cells #[.int .i64 (y1 : Int), .int .i64 (y2 : Int)] 37)) (w.heap.size + 1) #[.int .i64 (y1 : Int), .int .i64 (y2 : Int)] 37 := by
    have := Box.new (w.alloc (.cells #[.int .i64 (x1 : Int), .int .i64 (x2 : Int)] 37)) #[.int .i64 (y1 : Int), .int .i64 (y2 : Int)] 37
    simpa using this
  have HG : Gr w ((w.alloc (.cells #[.int .i64 (x1 : Int), .int .i64 (x2 : Int)] 37)).alloc (.cells #[.int .i64 (y1 : Int), .int .i64 (y2 : Int)] 37)) := gr_alloc (gr_alloc (gr_refl w) _) _
  generalize World.alloc (World.alloc w _) _ = W at *
  have x1c := B0.cell 0 rfl; have x2c := B0.cell 1 rfl; have y1c := B1.cell 0 rfl; have y2c := B1.cell 1 rfl
  have HK : Hid (∀ w', Gr w w' → Below W.heap.size W w' → Gr w w' ∧ Below W.heap.size W w' ∧ w'.cell? ⟨w.heap.size, 0, none⟩ = some (.int .i64 (x1 : Int)) ∧ w'.cell? ⟨w.heap.size, 1, none⟩ = some (.int .i64 (x2 : Int)) ∧ w'.cell? ⟨w.heap.size + 1, 0, none⟩ = some (.int .i64 (y1 : Int)) ∧ w'.cell? ⟨w.heap.size + 1, 1, none⟩ = some (.int .i64 (y2 : Int))) :=
    Lib.hid fun w' hg hb => ⟨hg, hb, later hb x1c, later hb x2c, later hb y1c, later hb y2c⟩
  clear B0 B1
  go_region_held3 (fun w' => Gr w w' ∧ Below W.heap.size W w' ∧ w'.cell? ⟨w.heap.size, 0, none⟩ = some (.int .i64 (x1 : Int)) ∧ w'.cell? ⟨w.heap.size, 1, none⟩ = some (.int .i64 (x2 : Int)) ∧ w'.cell? ⟨w.heap.size + 1, 0, none⟩ = some (.int .i64 (y1 : Int)) ∧ w'.cell? ⟨w.heap.size + 1, 1, none⟩ = some (.int .i64 (y2 : Int)))
    (first | exact HK.out _ (by repeat (first | (with_reducible exact gr_refl _) | (with_reducible assumption) | (with_reducible apply gr_drew) | (with_reducible apply gr_alloc) | exact (‹Gr w _ ∧ _›).1)) (by repeat (first | (with_reducible exact Below.refl _ _) | (with_reducible apply below_drew) | (with_reducible apply below_alloc) | exact (‹Gr w _ ∧ _›).2.1)))
    (first
      | (go_at_call 30; with_reducible refine (compare_any _ _ _).mono ?_; rintro e wq ⟨rfl, rfl⟩)
      | (go_at_call 29; refine (or_c hr _ _ (by first | exact new_cell _ _ _ 0 rfl | (simp; done)) (by first | exact new_cell _ _ _ 1 rfl | (simp; done))).mono ?_; rintro e wq ⟨rfl, rfl⟩))
  all_goals
    have HW := (‹Gr w _ ∧ _›).1
    go_wp2
    go_ret
    exact ⟨rfl, HW⟩

end Go.Proofs.Yteeoccpnmibceaa.Sh
