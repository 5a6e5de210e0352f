/- The statement CostRises: what its calls answer. -/
import Derived.Test.YtoldnphehocpaaaCostLaws2
namespace Go.Proofs.Ytoldnphehocpaaa.Cost
open Go.RowKit Go.Proofs.Ytoldnphehocpaaa.Kit
set_option linter.unusedVariables false
set_option linter.unusedSimpArgs false

set_option maxRecDepth 100000 in
set_option maxHeartbeats 4000000 in
theorem rises_walk (ca : Array Value) (a : Int × Int) (cb : Array Value) (b : Int × Int) (cc : Array Value) (c : Int × Int) (w : World) (ha : CostR.K w w.heap.size ca.toList a) (hb : CostR.K w w.heap.size cb.toList b) (hc : CostR.K w w.heap.size cc.toList c) :
    Calls Try.prog 8 #[.agg ca, .agg cb, .agg cc] w fun e w' => e = .returned (.bool true) ∧ Below w.heap.size w w' := by
  obtain ⟨rfl, _, _⟩ := cost_of ha
  obtain ⟨a0, a1⟩ := a
  obtain ⟨rfl, _, _⟩ := cost_of hb
  obtain ⟨b0, b1⟩ := b
  obtain ⟨rfl, _, _⟩ := cost_of hc
  obtain ⟨c0, c1⟩ := c
  clear ha hb hc
  obtain ⟨p, q, r, s, L1, L2, L3, L4, L5, hl⟩ := rises_tests a0 a1 b0 b1 c0 c1
  obtain ⟨x0, x1, e1, z0, z1, g1, u0, u1, h1, v0, v1, i1, H1, H2, H3, H4, H5, hs⟩ := rises_sums a0 a1 b0 b1 c0 c1
  rcases hl with rfl | ⟨rfl, rfl, rfl⟩ | ⟨rfl, rfl, rfl, rfl⟩
  all_goals
    rcases hs with rfl | ⟨rfl, rfl⟩ | ⟨rfl, rfl, rfl⟩ | ⟨rfl, rfl, rfl, rfl⟩ | ⟨rfl, rfl, rfl, rfl, hE1, hE2⟩
    all_goals
      go_enter Try.func8, Try.ntmps8
      go_wp2_with fail
      refine (awake_any _).mono ?_; rintro e w1 ⟨rfl, hb1⟩
      have Ba : Box w1 (w.heap.size) #[Value.int .i64 (a0), Value.int .i64 (a1)] 23 := by simpa using (((Box.new w #[Value.int .i64 (a0), Value.int .i64 (a1)] 23).alloc _).alloc _).below hb1
      have Bb : Box w1 (w.heap.size + 1) #[Value.int .i64 (b0), Value.int .i64 (b1)] 23 := by simpa using ((Box.new (w.alloc (.cells #[Value.int .i64 (a0), Value.int .i64 (a1)] 23)) #[Value.int .i64 (b0), Value.int .i64 (b1)] 23).alloc _).below hb1
      have Bc : Box w1 (w.heap.size + 1 + 1) #[Value.int .i64 (c0), Value.int .i64 (c1)] 23 := by simpa using (Box.new ((w.alloc (.cells #[Value.int .i64 (a0), Value.int .i64 (a1)] 23)).alloc (.cells #[Value.int .i64 (b0), Value.int .i64 (b1)] 23)) #[Value.int .i64 (c0), Value.int .i64 (c1)] 23).below hb1
      have HB := below_join (below_alloc (below_alloc (below_alloc (Below.refl _ w) _) _) _) hb1
      clear hb1
      have ea0 : _ = some (Value.int .i64 (a0)) := Ba.cell 0 rfl; have ea1 : _ = some (Value.int .i64 (a1)) := Ba.cell 1 rfl; have la := Ba.lt
      have eb0 : _ = some (Value.int .i64 (b0)) := Bb.cell 0 rfl; have eb1 : _ = some (Value.int .i64 (b1)) := Bb.cell 1 rfl; have lb := Bb.lt
      have ec0 : _ = some (Value.int .i64 (c0)) := Bc.cell 0 rfl; have ec1 : _ = some (Value.int .i64 (c1)) := Bc.cell 1 rfl; have lc := Bc.lt
      go_wp2_with (go_at_call 14; (first | with_reducible refine (lessv L1 _).mono ?_ | with_reducible refine (lessv L2 _).mono ?_ | with_reducible refine (lessv L3 _).mono ?_ | with_reducible refine (lessv L4 _).mono ?_ | with_reducible refine (lessv L5 _).mono ?_); rintro e wq ⟨rfl, hbq⟩; replace Ba := Ba.below hbq; replace Bb := Bb.below hbq; replace Bc := Bc.below hbq; replace HB := below_join HB hbq; clear hbq ea0 ea1 la eb0 eb1 lb ec0 ec1 lc; (have ea0 : _ = some (Value.int .i64 (a0)) := Ba.cell 0 rfl; have ea1 : _ = some (Value.int .i64 (a1)) := Ba.cell 1 rfl; have la := Ba.lt); (have eb0 : _ = some (Value.int .i64 (b0)) := Bb.cell 0 rfl; have eb1 : _ = some (Value.int .i64 (b1)) := Bb.cell 1 rfl; have lb := Bb.lt); (have ec0 : _ = some (Value.int .i64 (c0)) := Bc.cell 0 rfl; have ec1 : _ = some (Value.int .i64 (c1)) := Bc.cell 1 rfl; have lc := Bc.lt))
      refine (addv H1 _).mono ?_; rintro e w2 ⟨rfl, hb2⟩
      replace Ba := Ba.below hb2
      replace Bb := Bb.below hb2
      replace Bc := Bc.below hb2
      replace HB := below_join HB hb2
      clear hb2 ea0 ea1 la eb0 eb1 lb ec0 ec1 lc
      have ea0 : _ = some (Value.int .i64 (a0)) := Ba.cell 0 rfl; have ea1 : _ = some (Value.int .i64 (a1)) := Ba.cell 1 rfl; have la := Ba.lt
      have eb0 : _ = some (Value.int .i64 (b0)) := Bb.cell 0 rfl; have eb1 : _ = some (Value.int .i64 (b1)) := Bb.cell 1 rfl; have lb := Bb.lt
      have ec0 : _ = some (Value.int .i64 (c0)) := Bc.cell 0 rfl; have ec1 : _ = some (Value.int .i64 (c1)) := Bc.cell 1 rfl; have lc := Bc.lt
      go_wp2_with fail
      refine (addv H2 _).mono ?_; rintro e w3 ⟨rfl, hb2⟩
      have Bx : Box w3 w2.heap.size #[Value.int .i64 (x0), Value.int .i64 (x1)] 23 := (Box.new w2 _ _).below hb2
      replace Ba := (Ba.alloc _).below hb2
      replace Bb := (Bb.alloc _).below hb2
      replace Bc := (Bc.alloc _).below hb2
      replace HB := below_join (below_alloc HB _) hb2
      clear hb2 ea0 ea1 la eb0 eb1 lb ec0 ec1 lc
      have ea0 : _ = some (Value.int .i64 (a0)) := Ba.cell 0 rfl; have ea1 : _ = some (Value.int .i64 (a1)) := Ba.cell 1 rfl; have la := Ba.lt
      have eb0 : _ = some (Value.int .i64 (b0)) := Bb.cell 0 rfl; have eb1 : _ = some (Value.int .i64 (b1)) := Bb.cell 1 rfl; have lb := Bb.lt
      have ec0 : _ = some (Value.int .i64 (c0)) := Bc.cell 0 rfl; have ec1 : _ = some (Value.int .i64 (c1)) := Bc.cell 1 rfl; have lc := Bc.lt
      have ex0 : _ = some (Value.int .i64 (x0)) := Bx.cell 0 rfl; have ex1 : _ = some (Value.int .i64 (x1)) := Bx.cell 1 rfl; have lx := Bx.lt
      go_wp2_with fail
      refine (addv H3 _).mono ?_; rintro e w4 ⟨rfl, hb2⟩
      have By : Box w4 w3.heap.size #[Value.int .i64 (x0), Value.int .i64 (x1)] 23 := (Box.new w3 _ _).below hb2
      replace Ba := (Ba.alloc _).below hb2
      replace Bb := (Bb.alloc _).below hb2
      replace Bc := (Bc.alloc _).below hb2
      replace Bx := (Bx.alloc _).below hb2
      replace HB := below_join (below_alloc HB _) hb2
      clear hb2 ea0 ea1 la eb0 eb1 lb ec0 ec1 lc ex0 ex1 lx
      have ea0 : _ = some (Value.int .i64 (a0)) := Ba.cell 0 rfl; have ea1 : _ = some (Value.int .i64 (a1)) := Ba.cell 1 rfl; have la := Ba.lt
      have eb0 : _ = some (Value.int .i64 (b0)) := Bb.cell 0 rfl; have eb1 : _ = some (Value.int .i64 (b1)) := Bb.cell 1 rfl; have lb := Bb.lt
      have ec0 : _ = some (Value.int .i64 (c0)) := Bc.cell 0 rfl; have ec1 : _ = some (Value.int .i64 (c1)) := Bc.cell 1 rfl; have lc := Bc.lt
      have ex0 : _ = some (Value.int .i64 (x0)) := Bx.cell 0 rfl; have ex1 : _ = some (Value.int .i64 (x1)) := Bx.cell 1 rfl; have lx := Bx.lt
      have ey0 : _ = some (Value.int .i64 (x0)) := By.cell 0 rfl; have ey1 : _ = some (Value.int .i64 (x1)) := By.cell 1 rfl; have ly := By.lt
      go_wp2_with fail
      refine (addv H4 _).mono ?_; rintro e w5 ⟨rfl, hb2⟩
      have Bz : Box w5 w4.heap.size #[Value.int .i64 (z0), Value.int .i64 (z1)] 23 := (Box.new w4 _ _).below hb2
      replace Ba := (Ba.alloc _).below hb2
      replace Bb := (Bb.alloc _).below hb2
      replace Bc := (Bc.alloc _).below hb2
      replace Bx := (Bx.alloc _).below hb2
      replace By := (By.alloc _).below hb2
      replace HB := below_join (below_alloc HB _) hb2
      clear hb2 ea0 ea1 la eb0 eb1 lb ec0 ec1 lc ex0 ex1 lx ey0 ey1 ly
      have ea0 : _ = some (Value.int .i64 (a0)) := Ba.cell 0 rfl; have ea1 : _ = some (Value.int .i64 (a1)) := Ba.cell 1 rfl; have la := Ba.lt
      have eb0 : _ = some (Value.int .i64 (b0)) := Bb.cell 0 rfl; have eb1 : _ = some (Value.int .i64 (b1)) := Bb.cell 1 rfl; have lb := Bb.lt
      have ec0 : _ = some (Value.int .i64 (c0)) := Bc.cell 0 rfl; have ec1 : _ = some (Value.int .i64 (c1)) := Bc.cell 1 rfl; have lc := Bc.lt
      have ex0 : _ = some (Value.int .i64 (x0)) := Bx.cell 0 rfl; have ex1 : _ = some (Value.int .i64 (x1)) := Bx.cell 1 rfl; have lx := Bx.lt
      have ey0 : _ = some (Value.int .i64 (x0)) := By.cell 0 rfl; have ey1 : _ = some (Value.int .i64 (x1)) := By.cell 1 rfl; have ly := By.lt
      have ez0 : _ = some (Value.int .i64 (z0)) := Bz.cell 0 rfl; have ez1 : _ = some (Value.int .i64 (z1)) := Bz.cell 1 rfl; have lz := Bz.lt
      go_wp2_with fail
      refine (addv H5 _).mono ?_; rintro e w6 ⟨rfl, hb2⟩
      have Bu : Box w6 w5.heap.size #[Value.int .i64 (u0), Value.int .i64 (u1)] 23 := (Box.new w5 _ _).below hb2
      replace Ba := (Ba.alloc _).below hb2
      replace Bb := (Bb.alloc _).below hb2
      replace Bc := (Bc.alloc _).below hb2
      replace Bx := (Bx.alloc _).below hb2
      replace By := (By.alloc _).below hb2
      replace Bz := (Bz.alloc _).below hb2
      replace HB := below_join (below_alloc HB _) hb2
      clear hb2 ea0 ea1 la eb0 eb1 lb ec0 ec1 lc ex0 ex1 lx ey0 ey1 ly ez0 ez1 lz
      have ea0 : _ = some (Value.int .i64 (a0)) := Ba.cell 0 rfl; have ea1 : _ = some (Value.int .i64 (a1)) := Ba.cell 1 rfl; have la := Ba.lt
      have eb0 : _ = some (Value.int .i64 (b0)) := Bb.cell 0 rfl; have eb1 : _ = some (Value.int .i64 (b1)) := Bb.cell 1 rfl; have lb := Bb.lt
      have ec0 : _ = some (Value.int .i64 (c0)) := Bc.cell 0 rfl; have ec1 : _ = some (Value.int .i64 (c1)) := Bc.cell 1 rfl; have lc := Bc.lt
      have ex0 : _ = some (Value.int .i64 (x0)) := Bx.cell 0 rfl; have ex1 : _ = some (Value.int .i64 (x1)) := Bx.cell 1 rfl; have lx := Bx.lt
      have ey0 : _ = some (Value.int .i64 (x0)) := By.cell 0 rfl; have ey1 : _ = some (Value.int .i64 (x1)) := By.cell 1 rfl; have ly := By.lt
      have ez0 : _ = some (Value.int .i64 (z0)) := Bz.cell 0 rfl; have ez1 : _ = some (Value.int .i64 (z1)) := Bz.cell 1 rfl; have lz := Bz.lt
      have eu0 : _ = some (Value.int .i64 (u0)) := Bu.cell 0 rfl; have eu1 : _ = some (Value.int .i64 (u1)) := Bu.cell 1 rfl; have lu := Bu.lt
      go_wp2_with fail
      have Bv : Box (w6.alloc (.cells #[Value.int .i64 (v0), Value.int .i64 (v1)] 23)) w6.heap.size #[Value.int .i64 (v0), Value.int .i64 (v1)] 23 := Box.new w6 _ _
      replace Ba := Ba.alloc (.cells #[Value.int .i64 (v0), Value.int .i64 (v1)] 23)
      replace Bb := Bb.alloc (.cells #[Value.int .i64 (v0), Value.int .i64 (v1)] 23)
      replace Bc := Bc.alloc (.cells #[Value.int .i64 (v0), Value.int .i64 (v1)] 23)
      replace Bx := Bx.alloc (.cells #[Value.int .i64 (v0), Value.int .i64 (v1)] 23)
      replace By := By.alloc (.cells #[Value.int .i64 (v0), Value.int .i64 (v1)] 23)
      replace Bz := Bz.alloc (.cells #[Value.int .i64 (v0), Value.int .i64 (v1)] 23)
      replace Bu := Bu.alloc (.cells #[Value.int .i64 (v0), Value.int .i64 (v1)] 23)
      replace HB := below_alloc HB (.cells #[Value.int .i64 (v0), Value.int .i64 (v1)] 23)
      clear ea0 ea1 la eb0 eb1 lb ec0 ec1 lc ex0 ex1 lx ey0 ey1 ly ez0 ez1 lz eu0 eu1 lu
      generalize w6.alloc (.cells #[Value.int .i64 (v0), Value.int .i64 (v1)] 23) = W at Ba Bb Bc Bx By Bz Bu Bv HB ⊢
      have ea0 : _ = some (Value.int .i64 (a0)) := Ba.cell 0 rfl; have ea1 : _ = some (Value.int .i64 (a1)) := Ba.cell 1 rfl; have la := Ba.lt
      have eb0 : _ = some (Value.int .i64 (b0)) := Bb.cell 0 rfl; have eb1 : _ = some (Value.int .i64 (b1)) := Bb.cell 1 rfl; have lb := Bb.lt
      have ec0 : _ = some (Value.int .i64 (c0)) := Bc.cell 0 rfl; have ec1 : _ = some (Value.int .i64 (c1)) := Bc.cell 1 rfl; have lc := Bc.lt
      have ex0 : _ = some (Value.int .i64 (x0)) := Bx.cell 0 rfl; have ex1 : _ = some (Value.int .i64 (x1)) := Bx.cell 1 rfl; have lx := Bx.lt
      have ey0 : _ = some (Value.int .i64 (x0)) := By.cell 0 rfl; have ey1 : _ = some (Value.int .i64 (x1)) := By.cell 1 rfl; have ly := By.lt
      have ez0 : _ = some (Value.int .i64 (z0)) := Bz.cell 0 rfl; have ez1 : _ = some (Value.int .i64 (z1)) := Bz.cell 1 rfl; have lz := Bz.lt
      have eu0 : _ = some (Value.int .i64 (u0)) := Bu.cell 0 rfl; have eu1 : _ = some (Value.int .i64 (u1)) := Bu.cell 1 rfl; have lu := Bu.lt
      have ev0 : _ = some (Value.int .i64 (v0)) := Bv.cell 0 rfl; have ev1 : _ = some (Value.int .i64 (v1)) := Bv.cell 1 rfl; have lv := Bv.lt
      go_wp2
      all_goals
        go_ret
        exact ⟨rfl, by first | exact HB | exact below_drewN HB _⟩

end Go.Proofs.Ytoldnphehocpaaa.Cost
