/- joined for a claim: Fit22, Fit23 -/
import Derived.Test.YtndpdbofoojkhaaGreatFit17
import Derived.Deep.RegionHeld3
/- The face of the statements' own calls (compositorlaw18.Face); turned from BACK's texts. -/
namespace Go.Proofs.YtndpdbofoojkhaaGreat.Ft
open Go.RowKit Go.Proofs.YtndpdbofoojkhaaGreat.Kit Go.Proofs.YtndpdbofoojkhaaGreat.Fo Go.Proofs.YtndpdbofoojkhaaGreat.Lv Go.Shelf
set_option linter.unusedVariables false
set_option linter.unusedSimpArgs false

def charE (j : Nat) : CharT := (1, 0, 0, 0, if j = 69 then 1 else 0, 0)
def charsE (k : Nat) : List CharT := (List.range k).map charE
def fontE (k : Nat) : FontD := { sum := 0, design := 1048576, first := 33, chars := charsE k, widths := [0, 1048576], heights := [0], depths := [0], italics := [0], steps := [(128, 105, 0, 128)], kerns := [], params := [] }
def fontZ : FontD := { sum := 0, design := 0, first := 0, chars := [], widths := [], heights := [], depths := [], italics := [], steps := [], kerns := [], params := [] }
def fontAZ : FontA := { c := none, w := none, h := none, d := none, i := none, s := none, k := none, p := none, cc := 0, cw := 0, ch := 0, cd := 0, ci := 0, cs := 0, ck := 0, cp := 0 }
theorem chars_next (k : Nat) : charsE (k + 1) = charsE k ++ [charE k] := by unfold charsE; rw [List.range_succ, List.map_append]; rfl
theorem chars_len (k : Nat) : (charsE k).length = k := by unfold charsE; simp
theorem row_nil {α : Type} (R : Rep α) (w : World) (B : Nat) (A : Option Addr) : Row R w B A [] := fun i x hx => by simp at hx
theorem zero_in (w : World) (B : Nat) : FontIn w B fontZ fontAZ :=
  ⟨by decide, by decide, by decide, row_nil _ _ _ _, row_nil _ _ _ _, row_nil _ _ _ _, row_nil _ _ _ _, row_nil _ _ _ _, row_nil _ _ _ _, row_nil _ _ _ _, row_nil _ _ _ _, by decide, by decide, by decide, by decide, by decide, by decide, by decide, by decide⟩
theorem box_grown {w w' : World} {g : Nat} {cs : Array Value} {t : TypeId} {row : Option Nat} (h : Box w g cs t) (hg : w.grownBy w' row) (hne : some g ≠ row) : Box w' g cs t := (hg.block g h.lt hne).trans h
theorem own_ne {w : World} {base n g : Nat} {e t : TypeId} {size : Nat} {v : Value} {xs : List Value} {cs : Array Value} (h : w.ownsRow base e size v n xs) (hb : Box w g cs t) (ht : t ≠ e) : some g ≠ v.ownBlock := by
  rcases h.2 with ⟨rfl, _⟩ | ⟨g', cap, cur, rfl, _, hg, _⟩
  · simp [Value.ownBlock]
  · intro hk
    have : g = g' := by simpa [Value.ownBlock] using hk
    subst this
    unfold Box at hb
    rw [hg] at hb
    injection hb with hb
    injection hb with _ hb
    exact ht hb.symm
theorem own_move {w w1 : World} {base : Nat} {e : TypeId} {size n : Nat} {v : Value} {xs : List Value} (h : w.ownsRow base e size v n xs) (hm : ∀ k, v.ownBlock = some k → w1.heap[k]? = w.heap[k]?) : w1.ownsRow base e size v n xs := by
  obtain ⟨h1, h2⟩ := h
  rcases h2 with h2 | ⟨g, cap, cur, rfl, hg, hh, r⟩
  · exact ⟨h1, .inl h2⟩
  · exact ⟨h1, .inr ⟨g, cap, cur, rfl, hg, (hm g (by simp [Value.ownBlock])).trans hh, r⟩⟩
theorem step_box {w : World} {g : Nat} {t : TypeId} {a b c d : Int} (h : Box w g #[.int .i64 a, .int .i64 b, .int .i64 c, .int .i64 d] t) (hw : (Lit.int .i64 a).wf = true ∧ (Lit.int .i64 b).wf = true ∧ (Lit.int .i64 c).wf = true ∧ (Lit.int .i64 d).wf = true) :
    Row stepR w w.heap.size (some ⟨g, 0, none⟩) [(a, b, c, d)] := by
  intro i x hx
  obtain ⟨hi, rfl⟩ := List.getElem?_eq_some_iff.1 hx
  have hi0 : i = 0 := by simp at hi; exact hi
  subst hi0
  refine ⟨g, 0, [.int .i64 a, .int .i64 b, .int .i64 c, .int .i64 d], rfl, h.lt, ⟨[_], _, rfl, ⟨rfl, hw.1⟩, [_], _, rfl, ⟨rfl, hw.2.1⟩, [_], _, rfl, ⟨rfl, hw.2.2.1⟩, rfl, hw.2.2.2⟩, fun j v hv => ?_⟩
  rw [Nat.zero_add, Nat.zero_mul, Nat.zero_add]
  exact h.cell j (by simpa using hv)
abbrev z16' : Array Value := #[.int .i64 0, .int .i64 0, .int .i64 0, .slice none 0 0, .slice none 0 0, .slice none 0 0, .slice none 0 0, .slice none 0 0, .slice none 0 0, .slice none 0 0, .slice none 0 0, .int .i64 0, .int .i64 0, .int .i64 0, .int .i64 0, .slice none 0 0]
abbrev boxE (g : Nat) (v : Value) : Array Value := #[.int .i64 0, .int .i64 1048576, .int .i64 33, v, .slice (some ⟨g + 1, 0, none⟩) 2 2, .slice (some ⟨g + 1 + 1, 0, none⟩) 1 1, .slice (some ⟨g + 1 + 1 + 1, 0, none⟩) 1 1, .slice (some ⟨g + 1 + 1 + 1 + 1, 0, none⟩) 1 1, .slice (some ⟨g + 1 + 1 + 1 + 1 + 1, 0, none⟩) 1 1, .slice none 0 0, .slice none 0 0]
abbrev faceW (w : World) : World := (((((((w.alloc (.cells z16' 29)).alloc (.cells #[.int .i64 0, .int .i64 1048576] 3)).alloc (.cells #[.int .i64 0] 3)).alloc (.cells #[.int .i64 0] 3)).alloc (.cells #[.int .i64 0] 3)).alloc (.cells #[.int .i64 128, .int .i64 105, .int .i64 0, .int .i64 128] 79)).alloc (.cells (boxE w.heap.size (.slice none 0 0)) 26))
structure FaceW (w W : World) (g : Nat) : Prop where
  b0 : Box W g z16' 29
  b1 : Box W (g + 1) #[.int .i64 0, .int .i64 1048576] 3
  b2 : Box W (g + 1 + 1) #[.int .i64 0] 3
  b3 : Box W (g + 1 + 1 + 1) #[.int .i64 0] 3
  b4 : Box W (g + 1 + 1 + 1 + 1) #[.int .i64 0] 3
  b5 : Box W (g + 1 + 1 + 1 + 1 + 1) #[.int .i64 128, .int .i64 105, .int .i64 0, .int .i64 128] 79
  b6 : Box W (g + 1 + 1 + 1 + 1 + 1 + 1) (boxE g (.slice none 0 0)) 26
  hb : Below g w W
  hs : W.heap.size = g + 1 + 1 + 1 + 1 + 1 + 1 + 1
theorem face_w (w : World) : FaceW w (faceW w) w.heap.size where
  b0 := ((((((Box.new w _ _).alloc _).alloc _).alloc _).alloc _).alloc _).alloc _
  b1 := by have := (((((Box.new (w.alloc (.cells z16' 29)) #[.int .i64 0, .int .i64 1048576] 3).alloc (.cells #[.int .i64 0] 3)).alloc (.cells #[.int .i64 0] 3)).alloc (.cells #[.int .i64 0] 3)).alloc (.cells #[.int .i64 128, .int .i64 105, .int .i64 0, .int .i64 128] 79)).alloc (.cells (boxE w.heap.size (.slice none 0 0)) 26); simpa only [World.size_alloc] using this
  b2 := by have := ((((Box.new ((w.alloc (.cells z16' 29)).alloc (.cells #[.int .i64 0, .int .i64 1048576] 3)) #[.int .i64 0] 3).alloc (.cells #[.int .i64 0] 3)).alloc (.cells #[.int .i64 0] 3)).alloc (.cells #[.int .i64 128, .int .i64 105, .int .i64 0, .int .i64 128] 79)).alloc (.cells (boxE w.heap.size (.slice none 0 0)) 26); simpa only [World.size_alloc] using this
  b3 := by have := (((Box.new (((w.alloc (.cells z16' 29)).alloc (.cells #[.int .i64 0, .int .i64 1048576] 3)).alloc (.cells #[.int .i64 0] 3)) #[.int .i64 0] 3).alloc (.cells #[.int .i64 0] 3)).alloc (.cells #[.int .i64 128, .int .i64 105, .int .i64 0, .int .i64 128] 79)).alloc (.cells (boxE w.heap.size (.slice none 0 0)) 26); simpa only [World.size_alloc] using this
  b4 := by have := ((Box.new ((((w.alloc (.cells z16' 29)).alloc (.cells #[.int .i64 0, .int .i64 1048576] 3)).alloc (.cells #[.int .i64 0] 3)).alloc (.cells #[.int .i64 0] 3)) #[.int .i64 0] 3).alloc (.cells #[.int .i64 128, .int .i64 105, .int .i64 0, .int .i64 128] 79)).alloc (.cells (boxE w.heap.size (.slice none 0 0)) 26); simpa only [World.size_alloc] using this
  b5 := by have := (Box.new (((((w.alloc (.cells z16' 29)).alloc (.cells #[.int .i64 0, .int .i64 1048576] 3)).alloc (.cells #[.int .i64 0] 3)).alloc (.cells #[.int .i64 0] 3)).alloc (.cells #[.int .i64 0] 3)) #[.int .i64 128, .int .i64 105, .int .i64 0, .int .i64 128] 79).alloc (.cells (boxE w.heap.size (.slice none 0 0)) 26); simpa only [World.size_alloc] using this
  b6 := by have := Box.new ((((((w.alloc (.cells z16' 29)).alloc (.cells #[.int .i64 0, .int .i64 1048576] 3)).alloc (.cells #[.int .i64 0] 3)).alloc (.cells #[.int .i64 0] 3)).alloc (.cells #[.int .i64 0] 3)).alloc (.cells #[.int .i64 128, .int .i64 105, .int .i64 0, .int .i64 128] 79)) (boxE w.heap.size (.slice none 0 0)) 26; simpa only [World.size_alloc] using this
  hb := below_alloc (below_alloc (below_alloc (below_alloc (below_alloc (below_alloc (below_alloc (Below.refl _ _) _) _) _) _) _) _) _
  hs := by simp only [World.size_alloc]
abbrev faceV8 (d : FontD) (a : FontA) : Value := .agg #[.int .i64 d.sum, .int .i64 d.design, .int .i64 d.first, .slice a.c d.chars.length a.cc, .slice a.w d.widths.length a.cw, .slice a.h d.heights.length a.ch, .slice a.d d.depths.length a.cd, .slice a.i d.italics.length a.ci, .slice a.s d.steps.length a.cs, .slice a.k d.kerns.length a.ck, .slice a.p d.params.length a.cp, .int .i64 65536, .int .i64 0, .int .i64 0, .int .i64 0, .slice none 0 0]
def fontEA (g c : Nat) (A : Option Addr) : FontA := { c := A, w := some ⟨g + 1, 0, none⟩, h := some ⟨g + 1 + 1, 0, none⟩, d := some ⟨g + 1 + 1 + 1, 0, none⟩, i := some ⟨g + 1 + 1 + 1 + 1, 0, none⟩, s := some ⟨g + 1 + 1 + 1 + 1 + 1, 0, none⟩, k := none, p := none, cc := c, cw := 2, ch := 1, cd := 1, ci := 1, cs := 1, ck := 0, cp := 0 }
abbrev boxF (g gA cA : Nat) : Array Value := #[.int .i64 0, .int .i64 1048576, .int .i64 33, .slice (some ⟨gA, 0, none⟩) 96 cA, .slice (some ⟨g + 1, 0, none⟩) 2 2, .slice (some ⟨g + 1 + 1, 0, none⟩) 1 1, .slice (some ⟨g + 1 + 1 + 1, 0, none⟩) 1 1, .slice (some ⟨g + 1 + 1 + 1 + 1, 0, none⟩) 1 1, .slice (some ⟨g + 1 + 1 + 1 + 1 + 1, 0, none⟩) 1 1, .slice none 0 0, .slice none 0 0, .int .i64 65536, .int .i64 0, .int .i64 0, .int .i64 0, .slice none 0 0]
/-- What is so while the characters come in. -/
def FaceI (w W1 : World) (g k : Nat) (wr : World) : Prop := ∃ v, Box wr (g + 1 + 1 + 1 + 1 + 1 + 1) (boxE g v) 26 ∧ wr.ownsRow W1.heap.size 81 6 v k ((charsE k).flatMap fun c => (charCells c).toList) ∧
  (∀ j, j < W1.heap.size → j ≠ g + 1 + 1 + 1 + 1 + 1 + 1 → wr.heap[j]? = W1.heap[j]?) ∧ W1.heap.size ≤ wr.heap.size ∧ Below g w wr
theorem info_c : (Tryz.prog.info? 81).map (fun i => (i.zero, i.size, i.bytes)) = some (some (.agg #[.int .i64 0, .int .i64 0, .int .i64 0, .int .i64 0, .int .i64 0, .int .i64 0]), 6, 48) := by kernel_rfl

set_option maxRecDepth 10000 in
set_option maxHeartbeats 4000000 in
theorem face18_any (w : World) : Calls Tryz.prog 14 #[] w fun e W' => ∃ a, e = .returned (faceV8 (fontE 96) a) ∧ FontIn W' W'.heap.size (fontE 96) a ∧ Below w.heap.size w W' := by
  have HW := face_w w
  obtain ⟨W1, hW1⟩ : ∃ W, faceW w = W := ⟨_, rfl⟩
  rw [hW1] at HW
  unfold faceW at hW1
  have HW1 := Lib.hid hW1
  have HWr := Lib.hid HW
  clear hW1 HW
  go_enter Tryz.func14, Tryz.ntmps14
  go_upto_region 3 with fail
  rw [HW1.out]
  clear HW1
  generalize hg : w.heap.size = g at *
  have HG : Hid (w.heap.size = g) := Lib.hid hg
  clear hg
  go_loopw [2] (fun i wr => ∃ k : Nat, k ≤ 96 ∧ i = .int .i64 (33 + (k : Int)) ∧ Hid (FaceI w W1 g k wr)) (fun i _ => 129 - (intOf i).toNat)
  case atStart => exact ⟨0, by omega, rfl, Lib.hid ⟨_, HWr.out.b6, own_nil _ _ _ _, fun _ _ _ => rfl, Nat.le_refl _, HWr.out.hb⟩⟩
  case round =>
    rename World => wr
    obtain ⟨k, hk, rfl, HI⟩ := hrel
    obtain ⟨v, hb6, hown, hst, hsz, hbw⟩ := HI.out
    have HO := Lib.hid hown
    have HS := Lib.hid hst
    have k3 := hb6.cell 3 rfl
    clear HI hown hst
    by_cases hlt : k < 96
    · have F1 : ((33 : Int) + k ≤ 128) = True := eq_true (by omega)
      go_upto_if 17 with fail
      obtain ⟨q, hq⟩ : ∃ q, ((33 + (k : Int)) == 102) = q := ⟨_, rfl⟩
      rw [hq]
      have HQ : Hid (q = decide (k = 69)) := Lib.hid (by rw [← hq, Bool.eq_iff_iff]; simp; omega)
      clear hq F1
      have hbc := Box.new wr #[.int .i64 1, .int .i64 0, .int .i64 0, .int .i64 0, .int .i64 0, .int .i64 0] 81
      go_cut [17] from 17 to 19 (fun _ wx => Box wx wr.heap.size (charCells (charE k)) 81 ∧ Below wr.heap.size wr wx ∧ wx.heap.size = wr.heap.size + 1)
      case first =>
        have hfr := hbc.free 4
        cases q with
        | true =>
          have hk69 : k = 69 := of_decide_eq_true HQ.out.symm
          have HB : Hid (#[.int .i64 1, .int .i64 0, .int .i64 0, .int .i64 0, .int .i64 1, .int .i64 0] = charCells (charE k)) := Lib.hid (by rw [hk69]; rfl)
          clear hk69
          go_wp2_with fail
          go_meet
          exact ⟨by rw [← HB.out]; exact Box.new wr _ _, below_alloc (Below.refl _ _) _, by simp⟩
        | false =>
          have hk69 : k ≠ 69 := of_decide_eq_false HQ.out.symm
          have HB : Hid (charCells (charE k) = #[.int .i64 1, .int .i64 0, .int .i64 0, .int .i64 0, .int .i64 0, .int .i64 0]) := Lib.hid (by simp [charE, hk69])
          clear hk69
          go_wp2_with fail
          go_meet
          exact ⟨by rw [HB.out]; exact hbc, below_alloc (Below.refl _ _) _, by simp⟩
      case rest =>
      rename World => wx
      obtain ⟨hbC, hbx, hsx⟩ := hcut
      with_reducible apply_assumption
      have hb6x := hb6.below hbx
      have HOx := Lib.hid (own_setSize HO.out hbx)
      have HSx : Hid (∀ j, j < W1.heap.size → j ≠ g + 1 + 1 + 1 + 1 + 1 + 1 → wx.heap[j]? = W1.heap[j]?) := Lib.hid fun j h1 h2 => (hbx.block j (by omega)).trans (HS.out j h1 h2)
      have hbwx : Below g w wx := hbw.trans (hbx.mono (by have := hbw.size; have := HG.out; omega))
      have hszx : W1.heap.size ≤ wx.heap.size := by omega
      have HSX := Lib.hid hsx
      clear hb6 HO HS hbw hbx k3 HQ hbc hsx
      have k3 := hb6x.cell 3 rfl
      obtain ⟨c0, c1, c2, c3, c4, c5⟩ := char_cells hbC
      have hch := chars_next k
      have HCh : Hid ((charsE (k + 1)).flatMap (fun c => (charCells c).toList) = (charsE k).flatMap (fun c => (charCells c).toList) ++ (charCells (charE k)).toList) := Lib.hid (by rw [chars_next, List.flatMap_append]; simp)
      clear hch
      have hgs := HWr.out.hs
      have hne := own_ne HOx.out hb6x (by decide)
      have HNE := Lib.hid hne
      have hb6y := hb6x.alloc (.cells (charCells (charE k)) 81)
      have HOy := Lib.hid (own_setSize HOx.out (below_alloc (Below.refl _ _) (.cells (charCells (charE k)) 81)))
      generalize hX : charE k = X at *
      clear hX hne hb6x HOx
      go_wp2_with (at_builtin
                   refine wpList_append_seen rfl (.tmp 20) (.tmp 22) _ rfl W1.heap.size 81 _ 6 48 Tryz.underlying22 info_c rfl (by decide) v k _ rfl HOy.out (some ⟨wx.heap.size, 0, none⟩) 1 1 (charCells X).toList rfl rfl (sees_new _ _ _) (by simp [Value.oneCell']) (by omega) (by omega) (by simp; omega) (by simp) ?_
                   intro v5 w5 hown5 hg5 ha5
                   have hb65 : Box w5 (g + 1 + 1 + 1 + 1 + 1 + 1) (boxE g v) 26 := box_grown hb6y hg5 HNE.out
                   have hfr := hb65.free 3
                   have k5 := hb65.cell 3 rfl
                   obtain ⟨gA, cA, rfl, hA1, hA2⟩ := own_form hown5 (by omega)
                   have HO5 := Lib.hid hown5
                   have HG5 := Lib.hid hg5
                   have HA5 := Lib.hid ha5
                   clear hown5 hg5 ha5)
      go_roundw
      case rel =>
        have hst := HSx.out
        have hs1 := hbwx.size
        have hgg := HG.out
        have hsz2 : (wx.alloc (.cells (charCells X) 81)).heap.size = wx.heap.size + 1 := by simp
        have hs5 := HG5.out.size
        rw [World.size_alloc] at hs5
        refine ⟨k + 1, by omega, by go_num, Lib.hid ⟨_, hb65.set 3 _, ?_, fun j h1 h2 => ?_, ?_, ?_⟩⟩
        · rw [HCh.out]
          exact own_move HO5.out (fun j hj => Below.heap_setCell w5 ⟨g + 1 + 1 + 1 + 1 + 1 + 1, 3, none⟩ _ j (fun e => by
            have h1 := own_base HO5.out j hj
            have h2 : j = g + 1 + 1 + 1 + 1 + 1 + 1 := e
            omega))
        · refine (Below.heap_setCell w5 ⟨g + 1 + 1 + 1 + 1 + 1 + 1, 3, none⟩ _ j h2).trans ?_
          refine (HG5.out.block j (by rw [World.size_alloc]; omega) (fun e => ?_)).trans ?_
          · have := own_base HOy.out j e.symm
            omega
          · exact ((below_alloc (Below.refl wx.heap.size wx) (.cells (charCells X) 81)).block j (by omega)).trans (hst j h1 h2)
        · simp; omega
        · have b1 : Below g w (wx.alloc (.cells (charCells X) 81)) := hbwx.trans ((below_alloc (Below.refl wx.heap.size wx) (.cells (charCells X) 81)).mono (by omega))
          have b2 : Below g w w5 := b1.grown HG5.out (by rw [World.size_alloc]; omega) (fun j hj => by have := own_base HOy.out j hj; omega)
          exact b2.setCell (p := ⟨g + 1 + 1 + 1 + 1 + 1 + 1, 3, none⟩) (by show g ≤ g + 1 + 1 + 1 + 1 + 1 + 1; omega) _
      case measure => simp [intOf]; omega
    · have hk96 : k = 96 := by omega
      have F1 : ((33 : Int) + k ≤ 128) = False := eq_false (by omega)
      subst hk96
      have hgs := HWr.out.hs
      have hb0 : Box wr g z16' 29 := (HS.out g (by omega) (by omega)).trans HWr.out.b0
      have hlt0 := hb0.lt
      have r0 := hb0.cell 0 rfl
      have f0 := hb0.free 0
      obtain ⟨gA, cA, rfl, hA1, hA2⟩ := own_form HO.out (by omega)
      obtain ⟨c0, c1, c2, c3, c4, c5, c6, c7, c8, c9, c10⟩ : wr.cell? ⟨g + 1 + 1 + 1 + 1 + 1 + 1, 0, none⟩ = some (.int .i64 0) ∧ wr.cell? ⟨g + 1 + 1 + 1 + 1 + 1 + 1, 1, none⟩ = some (.int .i64 1048576) ∧ wr.cell? ⟨g + 1 + 1 + 1 + 1 + 1 + 1, 2, none⟩ = some (.int .i64 33) ∧ wr.cell? ⟨g + 1 + 1 + 1 + 1 + 1 + 1, 3, none⟩ = some (.slice (some ⟨gA, 0, none⟩) 96 cA) ∧ wr.cell? ⟨g + 1 + 1 + 1 + 1 + 1 + 1, 4, none⟩ = some (.slice (some ⟨g + 1, 0, none⟩) 2 2) ∧ wr.cell? ⟨g + 1 + 1 + 1 + 1 + 1 + 1, 5, none⟩ = some (.slice (some ⟨g + 1 + 1, 0, none⟩) 1 1) ∧ wr.cell? ⟨g + 1 + 1 + 1 + 1 + 1 + 1, 6, none⟩ = some (.slice (some ⟨g + 1 + 1 + 1, 0, none⟩) 1 1) ∧ wr.cell? ⟨g + 1 + 1 + 1 + 1 + 1 + 1, 7, none⟩ = some (.slice (some ⟨g + 1 + 1 + 1 + 1, 0, none⟩) 1 1) ∧ wr.cell? ⟨g + 1 + 1 + 1 + 1 + 1 + 1, 8, none⟩ = some (.slice (some ⟨g + 1 + 1 + 1 + 1 + 1, 0, none⟩) 1 1) ∧ wr.cell? ⟨g + 1 + 1 + 1 + 1 + 1 + 1, 9, none⟩ = some (.slice none 0 0) ∧ wr.cell? ⟨g + 1 + 1 + 1 + 1 + 1 + 1, 10, none⟩ = some (.slice none 0 0) :=
        ⟨hb6.cell 0 rfl, hb6.cell 1 rfl, hb6.cell 2 rfl, hb6.cell 3 rfl, hb6.cell 4 rfl, hb6.cell 5 rfl, hb6.cell 6 rfl, hb6.cell 7 rfl, hb6.cell 8 rfl, hb6.cell 9 rfl, hb6.cell 10 rfl⟩
      have hz16 : Hid (Box wr g z16' 29) := Lib.hid hb0
      clear hgs k3 hb0 r0 f0 hlt0
      go_wp2_with (with_reducible refine wpList_stop (o := ⟨none, .store _ _ _, _, _, _, _⟩) ?_)
      refine Lib.hid ?_
      refine wpList_store_row rfl _ _ _ rfl g (boxF g gA cA) rfl rfl 29 z16' hz16.out (by kernel_rfl) rfl (by simp [Value.oneCell']) ?_
      go_wp2_with fail
      (try simp only [Exit.inBlock, Exit.then])
      refine bodyPost_ret (by exact results_cell_row (p := 0) rfl _ _ g 29 _ (0, 0) _ rfl (setRow_heap wr g z16' _ _ _ hz16.out) Tryz.underlying29 rfl (by kernel_rfl)) rfl ?_
      have hgs := HWr.out.hs
      have hst := HS.out
      have hgg := HG.out
      have ho : (wr.setRow g (boxF g gA cA)).ownsRow W1.heap.size 81 6 (.slice (some ⟨gA, 0, none⟩) 96 cA) 96 ((charsE 96).flatMap fun c => (charCells c).toList) :=
        own_move HO.out (fun j hj => setRow_other wr g j _ (fun e => by have := own_base HO.out j hj; omega))
      obtain ⟨A5, c5', e5, _, hrow, _⟩ := own_rows (R := charR) (f := fun c => (charCells c).toList) (fun _ => rfl) (by decide) ho (fun x hx => by
        obtain ⟨j, _, rfl⟩ := List.mem_map.1 hx
        refine ⟨[_], _, rfl, ⟨rfl, show (Lit.int .i64 1).wf = true by decide⟩, [_], _, rfl, ⟨rfl, show (Lit.int .i64 0).wf = true by decide⟩, [_], _, rfl, ⟨rfl, show (Lit.int .i64 0).wf = true by decide⟩, [_], _, rfl, ⟨rfl, show (Lit.int .i64 0).wf = true by decide⟩, [_], _, rfl, ⟨rfl, ?_⟩, rfl, show (Lit.int .i64 0).wf = true by decide⟩
        show (Lit.int .i64 (if j = 69 then 1 else 0)).wf = true
        split <;> decide)
      injection e5 with e5 _ e6
      subst e5 e6
      have box : ∀ {j : Nat} {cs : Array Value} {t : TypeId}, Box W1 j cs t → j ≠ g → j ≠ g + 1 + 1 + 1 + 1 + 1 + 1 → Box (wr.setRow g (boxF g gA cA)) j cs t := fun {j cs t} hb h1 h2 => (setRow_other wr g j _ h1).trans ((hst j hb.lt h2).trans hb)
      have r1 := ints_box (k := .i64) [0, 1048576] (box HWr.out.b1 (by omega) (by omega)) (by decide) rfl
      have r2 := ints_box (k := .i64) [0] (box HWr.out.b2 (by omega) (by omega)) (by decide) rfl
      have r3 := ints_box (k := .i64) [0] (box HWr.out.b3 (by omega) (by omega)) (by decide) rfl
      have r4 := ints_box (k := .i64) [0] (box HWr.out.b4 (by omega) (by omega)) (by decide) rfl
      have r5 := step_box (box HWr.out.b5 (by omega) (by omega)) (by decide)
      refine ⟨fontEA g cA (some ⟨gA, 0, none⟩), rfl, ⟨by decide, by decide, by decide, hrow, r1, r2, r3, r4, r5, row_nil _ _ _ _, row_nil _ _ _ _, ?_, by decide, by decide, by decide, by decide, by decide, by decide, by decide⟩, ?_⟩
      · show (charsE 96).length ≤ _
        rw [chars_len]; omega
      · rw [hgg]
        exact ⟨hbw.os, hbw.tape, hbw.output, by simpa using hbw.size, fun k hk => (setRow_other wr g k _ (by omega)).trans (hbw.block k hk)⟩
end Go.Proofs.YtndpdbofoojkhaaGreat.Ft
/- Whether pieces are few; whether glyphs are the same ones. -/
namespace Go.Proofs.YtndpdbofoojkhaaGreat.Ft
open Go.RowKit Go.Proofs.YtndpdbofoojkhaaGreat.Kit Go.Proofs.YtndpdbofoojkhaaGreat.Fo Go.Proofs.YtndpdbofoojkhaaGreat.Lv
set_option linter.unusedVariables false
set_option linter.unusedSimpArgs false

def few18 (L : List (List Int)) : Bool := decide (L.length ≤ 110) && L.all fun x => decide (x.length ≤ 100)
theorem few18_all {L : List (List Int)} : few18 L = true ↔ L.length ≤ 110 ∧ ∀ x ∈ L, x.length ≤ 100 := by
  simp [few18, List.all_eq_true]
set_option maxHeartbeats 1000000 in
theorem few18_any (A : Option Addr) (c : Nat) (L : List (List Int)) (w : World) (hx : Heads w A L) (hl : L.length ≤ 9223372036854775807) :
    Calls Tryz.prog 6 #[.slice A L.length c] w fun e w' => e = .returned (.bool (few18 L)) ∧ w = w' := by
  obtain ⟨q, hq⟩ : ∃ q, Hid (few18 L = q) := ⟨_, Lib.hid rfl⟩
  rw [hq.out]
  have HH := Lib.hid hx
  clear hx
  by_cases h1 : 110 < (L.length : Int)
  · have F1 : (110 < (L.length : Int)) = True := eq_true h1
    have HV : Hid (false = q) := Lib.hid (by rw [← hq.out, few18, decide_eq_false (by omega)]; rfl)
    clear h1 hq
    go_enter Tryz.func6, Tryz.ntmps6
    go_wp2_with fail
    go_ret
    exact ⟨ret_bool rfl HV.out, rfl⟩
  · have F1 : (110 < (L.length : Int)) = False := eq_false h1
    have h1' := Lib.hid h1
    clear h1
    go_enter Tryz.func6, Tryz.ntmps6
    go_wp2_with fail
    go_loopw [3] (fun i wr => ∃ k : Nat, k ≤ L.length ∧ i = .int .i64 (k : Int) ∧ Hid (∀ j x, j < k → L[j]? = some x → x.length ≤ 100) ∧ w = wr) (fun i _ => L.length - (intOf i).toNat)
    case atStart => exact ⟨0, by omega, rfl, Lib.hid (fun j x hj => by omega), rfl⟩
    case round =>
      rename World => wr
      obtain ⟨k, hk, rfl, HS, rfl⟩ := hrel
      by_cases hlt : k < L.length
      · obtain ⟨x, hxk⟩ := at_lt hlt
        obtain ⟨b, o, A', c', rfl, _, hc⟩ := HH.out k x hxk
        have HXk := Lib.hid hxk
        by_cases h2 : 100 < (x.length : Int)
        · have F2 : (100 < (x.length : Int)) = True := eq_true h2
          have HV : Hid (false = q) := Lib.hid (by
            rw [← hq.out]
            symm
            rw [Bool.eq_false_iff]
            intro h
            have := (few18_all.1 h).2 x (List.mem_of_getElem? hxk)
            omega)
          clear h2 hxk
          go_wp2_with fail
          go_ret
          exact ⟨ret_bool rfl HV.out, rfl⟩
        · have F2 : (100 < (x.length : Int)) = False := eq_false h2
          have HS2 : Hid (∀ j y, j < k + 1 → L[j]? = some y → y.length ≤ 100) := Lib.hid (fun j y hj hy => by
            by_cases e : j = k
            · subst e; rw [hxk] at hy; cases hy; omega
            · exact HS.out j y (by omega) hy)
          clear h2 hxk
          go_wp2_with fail
          go_roundw
          case rel => exact ⟨k + 1, by omega, by go_num, HS2, trivial⟩
          case measure => simp [intOf]; omega
      · have HV : Hid (true = q) := Lib.hid (by
          rw [← hq.out]
          symm
          refine few18_all.2 ⟨by have := h1'.out; omega, fun x hx => ?_⟩
          obtain ⟨i, hi⟩ := List.mem_iff_getElem?.1 hx
          exact HS.out i x (by have := (List.getElem?_eq_some_iff.1 hi).1; omega) hi)
        go_wp2_with fail
        go_ret
        exact ⟨ret_bool rfl HV.out, rfl⟩
set_option maxHeartbeats 1000000 in
theorem same08_any {Q1 Q2 : Nat → Prop} (A B : Option Addr) (c e : Nat) (xs ys : List (Int × Int)) (w : World) (hx : GP Q1 w A xs) (hy : GP Q2 w B ys) (hl : xs.length ≤ 100000) (hm : ys.length ≤ 100000) :
    Calls Tryz.prog 31 #[.slice A xs.length c, .slice B ys.length e] w fun r w' => r = .returned (.bool (decide (xs = ys))) ∧ Below w.heap.size w w' := by
  obtain ⟨q, hq⟩ : ∃ q, Hid (decide (xs = ys) = q) := ⟨_, Lib.hid rfl⟩
  rw [hq.out]
  have HX := Lib.hid hx
  have HY := Lib.hid hy
  clear hx hy
  by_cases h1 : xs.length = ys.length
  · have HLn := Lib.hid h1
    have F1 : ((xs.length : Int) != (ys.length : Int)) = false := by simp [h1]
    clear h1
    go_enter Tryz.func31, Tryz.ntmps31
    go_wp2_with fail
    go_loopw [5] (fun i wr => ∃ k : Nat, k ≤ xs.length ∧ i = .int .i64 (k : Int) ∧ Hid (xs.take k = ys.take k) ∧ Below w.heap.size w wr) (fun i _ => xs.length - (intOf i).toNat)
    case atStart => exact ⟨0, by omega, rfl, Lib.hid (by simp), Below.refl _ _⟩
    case round =>
      rename World => wr
      obtain ⟨k, hk, rfl, HS, hb⟩ := hrel
      by_cases hlt : k < xs.length
      · obtain ⟨x, hxk⟩ := at_lt hlt
        obtain ⟨y, hyk⟩ := at_lt (l := ys) (i := k) (by rw [← HLn.out]; exact hlt)
        obtain ⟨b1, o1, rfl, _, p0, p1⟩ := gly_at (HX.out.below hb) hxk
        obtain ⟨b2, o2, rfl, _, q0, q1⟩ := gly_at (HY.out.below hb) hyk
        have hlt2 : k < ys.length := by rw [← HLn.out]; exact hlt
        have HXK := Lib.hid hxk
        have HYK := Lib.hid hyk
        clear hxk hyk
        by_cases e1 : x = y
        · have HS2 : Hid (xs.take (k + 1) = ys.take (k + 1)) := Lib.hid (by
            rw [List.take_add_one, List.take_add_one, HS.out, HXK.out, HYK.out, e1])
          subst e1
          go_upto_region 6 with fail
          go_region
          all_goals (go_wp2_with fail; go_roundw)
          all_goals first
            | (exact ⟨k + 1, by omega, by go_num, HS2, hb.drew⟩)
            | (simp [intOf]; omega)
        · have HV : Hid (false = q) := Lib.hid (by
            rw [← hq.out]; symm
            refine decide_eq_false (fun h => e1 ?_)
            have h2 := HXK.out
            rw [h, HYK.out] at h2
            exact (Option.some.inj h2).symm)
          have e2 : ¬ (x.1 = y.1 ∧ x.2 = y.2) := fun h => e1 (Prod.ext h.1 h.2)
          clear e1
          by_cases f1 : x.1 = y.1
          · have f2 : ¬ x.2 = y.2 := fun h => e2 ⟨f1, h⟩
            have F1 : (x.1 = y.1) = True := eq_true f1
            have F2 : (x.2 = y.2) = False := eq_false f2
            clear e2 f1 f2
            go_upto_region 6 with fail
            go_region
            all_goals (go_wp2_with fail; go_ret)
            all_goals exact ⟨ret_bool rfl HV.out, hb.drew⟩
          · have F1 : (x.1 = y.1) = False := eq_false f1
            clear e2 f1
            go_upto_region 6 with fail
            go_region
            all_goals (go_wp2_with fail; go_ret)
            all_goals exact ⟨ret_bool rfl HV.out, hb.drew⟩
      · have HV : Hid (true = q) := Lib.hid (by
          rw [← hq.out]; symm
          refine decide_eq_true ?_
          have h2 := HS.out
          rw [List.take_of_length_le (by omega), List.take_of_length_le (by have := HLn.out; omega)] at h2
          exact h2)
        go_wp2_with fail
        go_ret
        exact ⟨ret_bool rfl HV.out, hb⟩
  · have F1 : ((xs.length : Int) != (ys.length : Int)) = true := by simp; omega
    have HV : Hid (false = q) := Lib.hid (by rw [← hq.out]; symm; exact decide_eq_false (fun h => h1 (by rw [h])))
    clear h1 hq
    go_enter Tryz.func31, Tryz.ntmps31
    go_wp2_with fail
    go_ret
    exact ⟨ret_bool rfl HV.out, Below.refl _ _⟩
set_option maxHeartbeats 2000000 in
theorem same18_any {Q1 Q2 : Nat → Prop} (A B : Option Addr) (c e : Nat) (G H : List (List (Int × Int))) (w : World) (hx : GG Q1 w A G) (hy : GG Q2 w B H) (hl : G.length ≤ 100000) (hm : H.length ≤ 100000) (hgl : ∀ g ∈ G, g.length ≤ 100000) (hhl : ∀ g ∈ H, g.length ≤ 100000) :
    Calls Tryz.prog 13 #[.slice A G.length c, .slice B H.length e] w fun r w' => r = .returned (.bool (decide (G = H))) ∧ Below w.heap.size w w' := by
  obtain ⟨q, hq⟩ : ∃ q, Hid (decide (G = H) = q) := ⟨_, Lib.hid rfl⟩
  rw [hq.out]
  have HX := Lib.hid hx
  have HY := Lib.hid hy
  have HGl := Lib.hid hgl
  have HHl := Lib.hid hhl
  clear hx hy hgl hhl
  by_cases h1 : G.length = H.length
  · have HLn := Lib.hid h1
    have F1 : ((G.length : Int) != (H.length : Int)) = false := by simp [h1]
    clear h1
    go_enter Tryz.func13, Tryz.ntmps13
    go_wp2_with fail
    go_loopw [5] (fun i wr => ∃ k : Nat, k ≤ G.length ∧ i = .int .i64 (k : Int) ∧ Hid (G.take k = H.take k) ∧ Below w.heap.size w wr) (fun i _ => G.length - (intOf i).toNat)
    case atStart => exact ⟨0, by omega, rfl, Lib.hid (by simp), Below.refl _ _⟩
    case round =>
      rename World => wr
      obtain ⟨k, hk, rfl, HS, hb⟩ := hrel
      by_cases hlt : k < G.length
      · obtain ⟨x, hxk⟩ := at_lt hlt
        obtain ⟨y, hyk⟩ := at_lt (l := H) (i := k) (by rw [← HLn.out]; exact hlt)
        obtain ⟨b1, o1, A1, c1, rfl, _, _, p0, g1⟩ := (HX.out.below hb) k x hxk
        obtain ⟨b2, o2, A2, c2, rfl, _, _, q0, g2⟩ := (HY.out.below hb) k y hyk
        have hlt2 : k < H.length := by rw [← HLn.out]; exact hlt
        have HXK := Lib.hid hxk
        have HYK := Lib.hid hyk
        have hkb : k ≤ 100000 := by omega
        have HC : Hid (∀ W, Below wr.heap.size wr W → Calls Tryz.prog 31 #[.slice A1 x.length c1, .slice A2 y.length c2] W fun r w' => r = .returned (.bool (decide (x = y))) ∧ Below W.heap.size W w') := Lib.hid (fun W hbw => same08_any A1 A2 c1 c2 x y W (g1.below hbw) (g2.below hbw) (HGl.out x (List.mem_of_getElem? hxk)) (HHl.out y (List.mem_of_getElem? hyk)))
        have HK : Hid (∀ w', Below wr.heap.size wr w' → Below wr.heap.size wr w' ∧ w'.cell? ⟨b1, o1 + k, none⟩ = some (.slice A1 x.length c1) ∧ w'.cell? ⟨b2, o2 + k, none⟩ = some (.slice A2 y.length c2)) := Lib.hid fun w' hbw => ⟨hbw, later hbw p0, later hbw q0⟩
        clear hxk hyk p0 q0 g1 g2
        by_cases e1 : x = y
        · have HS2 : Hid (G.take (k + 1) = H.take (k + 1)) := Lib.hid (by
            rw [List.take_add_one, List.take_add_one, HS.out, HXK.out, HYK.out, e1])
          rw [decide_eq_true e1] at HC
          clear e1
          go_upto_region 6 with fail
          go_region_held3 (fun w' => Below wr.heap.size wr w' ∧ w'.cell? ⟨b1, o1 + k, none⟩ = some (.slice A1 x.length c1) ∧ w'.cell? ⟨b2, o2 + k, none⟩ = some (.slice A2 y.length c2))
            (first | exact HK.out _ (by repeat (first | (with_reducible exact Below.refl _ _) | (with_reducible apply below_drew) | (with_reducible refine below_join ?_ (by assumption)) | exact (‹Below wr.heap.size wr _ ∧ _›.1))))
            (first | (go_at_call 31; with_reducible refine (HC.out _ (by repeat (first | (with_reducible exact Below.refl _ _) | (with_reducible apply below_drew) | (with_reducible refine below_join ?_ (by assumption)) | exact (‹Below wr.heap.size wr _ ∧ _›.1)))).mono ?_; rintro e wq ⟨rfl, hbq⟩))
          all_goals
            have hend := below_join hb ‹Below wr.heap.size wr _ ∧ _›.1
            go_wp2_with fail
            go_roundw
          all_goals first
            | (exact ⟨k + 1, by omega, by go_num, HS2, hend⟩)
            | (simp [intOf]; omega)
        · have HV : Hid (false = q) := Lib.hid (by
            rw [← hq.out]; symm
            refine decide_eq_false (fun h => e1 ?_)
            have h2 := HXK.out
            rw [h, HYK.out] at h2
            exact (Option.some.inj h2).symm)
          rw [decide_eq_false e1] at HC
          clear e1
          go_upto_region 6 with fail
          go_region_held3 (fun w' => Below wr.heap.size wr w' ∧ w'.cell? ⟨b1, o1 + k, none⟩ = some (.slice A1 x.length c1) ∧ w'.cell? ⟨b2, o2 + k, none⟩ = some (.slice A2 y.length c2))
            (first | exact HK.out _ (by repeat (first | (with_reducible exact Below.refl _ _) | (with_reducible apply below_drew) | (with_reducible refine below_join ?_ (by assumption)) | exact (‹Below wr.heap.size wr _ ∧ _›.1))))
            (first | (go_at_call 31; with_reducible refine (HC.out _ (by repeat (first | (with_reducible exact Below.refl _ _) | (with_reducible apply below_drew) | (with_reducible refine below_join ?_ (by assumption)) | exact (‹Below wr.heap.size wr _ ∧ _›.1)))).mono ?_; rintro e wq ⟨rfl, hbq⟩))
          all_goals
            have hend := below_join hb ‹Below wr.heap.size wr _ ∧ _›.1
            go_wp2_with fail
            go_ret
          all_goals exact ⟨ret_bool rfl HV.out, hend⟩
      · have HV : Hid (true = q) := Lib.hid (by
          rw [← hq.out]; symm
          refine decide_eq_true ?_
          have h2 := HS.out
          rw [List.take_of_length_le (by omega), List.take_of_length_le (by have := HLn.out; omega)] at h2
          exact h2)
        go_wp2_with fail
        go_ret
        exact ⟨ret_bool rfl HV.out, hb⟩
  · have F1 : ((G.length : Int) != (H.length : Int)) = true := by simp; omega
    have HV : Hid (false = q) := Lib.hid (by rw [← hq.out]; symm; exact decide_eq_false (fun h => h1 (by rw [h])))
    clear h1 hq
    go_enter Tryz.func13, Tryz.ntmps13
    go_wp2_with fail
    go_ret
    exact ⟨ret_bool rfl HV.out, Below.refl _ _⟩
end Go.Proofs.YtndpdbofoojkhaaGreat.Ft
