/- The reference of layer 2: numbers of eight limbs. -/
import Derived.Test.YtckmpllbbebefaaKit
import Derived.Test.YtckmpllbbebefaaMulRefPlain
import Derived.Deep.DeepCutAuto
import Derived.Deep.QuietTactic
import Derived.BigQuiet
namespace Go.Proofs.Ytckmpllbbebefaa.Mul
open Go.RowKit Go.Proofs.Ytckmpllbbebefaa.Kit
set_option linter.unusedVariables false
set_option linter.unusedSimpArgs false

/-- Eight numbers as cells. -/
def arr8 (f : Nat → Nat) : Array Value := #[.int .i64 ((f 0 : Nat) : Int), .int .i64 ((f 1 : Nat) : Int), .int .i64 ((f 2 : Nat) : Int), .int .i64 ((f 3 : Nat) : Int), .int .i64 ((f 4 : Nat) : Int), .int .i64 ((f 5 : Nat) : Int), .int .i64 ((f 6 : Nat) : Int), .int .i64 ((f 7 : Nat) : Int)]
theorem arr8_at (f : Nat → Nat) (i : Nat) (h : i < 8) : (arr8 f)[i]? = some (.int .i64 ((f i : Nat) : Int)) := by
  match i, h with
  | 0, _ => rfl | 1, _ => rfl | 2, _ => rfl | 3, _ => rfl | 4, _ => rfl | 5, _ => rfl | 6, _ => rfl | 7, _ => rfl
theorem arr8_congr {f g : Nat → Nat} (h : ∀ j, j < 8 → f j = g j) : arr8 f = arr8 g := by
  unfold arr8
  rw [h 0 (by omega), h 1 (by omega), h 2 (by omega), h 3 (by omega), h 4 (by omega), h 5 (by omega), h 6 (by omega), h 7 (by omega)]
theorem arr8_set (f : Nat → Nat) (i v : Nat) (h : i < 8) : (arr8 f).setIfInBounds i (.int .i64 (v : Int)) = arr8 (fun j => if j = i then v else f j) := by
  match i, h with
  | 0, _ => rfl | 1, _ => rfl | 2, _ => rfl | 3, _ => rfl | 4, _ => rfl | 5, _ => rfl | 6, _ => rfl | 7, _ => rfl
theorem box_drewN {w : World} {g : Nat} {cs : Array Value} {t : TypeId} (h : Box w g cs t) (n : Nat) : Box (w.drewN n) g cs t := h
theorem set_eight {w W : World} {g : Nat} {t : TypeId} {u0 u1 u2 u3 u4 u5 u6 u7 v0 v1 v2 v3 v4 v5 v6 v7 : Value} (h : Box w g #[u0, u1, u2, u3, u4, u5, u6, u7] t) (hb : Below W.heap.size W w) (hg : W.heap.size ≤ g) :
    Box (((((((((w).setCell ⟨g, 0, none⟩ v0).setCell ⟨g, 1, none⟩ v1).setCell ⟨g, 2, none⟩ v2).setCell ⟨g, 3, none⟩ v3).setCell ⟨g, 4, none⟩ v4).setCell ⟨g, 5, none⟩ v5).setCell ⟨g, 6, none⟩ v6).setCell ⟨g, 7, none⟩ v7) g #[v0, v1, v2, v3, v4, v5, v6, v7] t ∧ Below W.heap.size W (((((((((w).setCell ⟨g, 0, none⟩ v0).setCell ⟨g, 1, none⟩ v1).setCell ⟨g, 2, none⟩ v2).setCell ⟨g, 3, none⟩ v3).setCell ⟨g, 4, none⟩ v4).setCell ⟨g, 5, none⟩ v5).setCell ⟨g, 6, none⟩ v6).setCell ⟨g, 7, none⟩ v7) := by
  have h0 : Box _ g #[v0, u1, u2, u3, u4, u5, u6, u7] t := h.set 0 v0
  have b0 := below_set hb (p := ⟨g, 0, none⟩) hg v0
  have h1 : Box _ g #[v0, v1, u2, u3, u4, u5, u6, u7] t := h0.set 1 v1
  have b1 := below_set b0 (p := ⟨g, 1, none⟩) hg v1
  have h2 : Box _ g #[v0, v1, v2, u3, u4, u5, u6, u7] t := h1.set 2 v2
  have b2 := below_set b1 (p := ⟨g, 2, none⟩) hg v2
  have h3 : Box _ g #[v0, v1, v2, v3, u4, u5, u6, u7] t := h2.set 3 v3
  have b3 := below_set b2 (p := ⟨g, 3, none⟩) hg v3
  have h4 : Box _ g #[v0, v1, v2, v3, v4, u5, u6, u7] t := h3.set 4 v4
  have b4 := below_set b3 (p := ⟨g, 4, none⟩) hg v4
  have h5 : Box _ g #[v0, v1, v2, v3, v4, v5, u6, u7] t := h4.set 5 v5
  have b5 := below_set b4 (p := ⟨g, 5, none⟩) hg v5
  have h6 : Box _ g #[v0, v1, v2, v3, v4, v5, v6, u7] t := h5.set 6 v6
  have b6 := below_set b5 (p := ⟨g, 6, none⟩) hg v6
  have h7 : Box _ g #[v0, v1, v2, v3, v4, v5, v6, v7] t := h6.set 7 v7
  have b7 := below_set b6 (p := ⟨g, 7, none⟩) hg v7
  exact ⟨h7, b7⟩

theorem two_boxes (w : World) (a b : Array Value) (t : TypeId) :
    Box ((w.alloc (.cells a t)).alloc (.cells b t)) w.heap.size a t ∧ Box ((w.alloc (.cells a t)).alloc (.cells b t)) (w.heap.size + 1) b t ∧ Below w.heap.size w ((w.alloc (.cells a t)).alloc (.cells b t)) := by
  refine ⟨(Box.new w a t).alloc _, ?_, below_alloc (below_alloc (Below.refl _ w) _) _⟩
  have := Box.new (w.alloc (.cells a t)) b t
  simpa using this

def low (N k j : Nat) : Nat := if j < k then dg N j else 0
theorem low_next (N k j : Nat) : low N (k + 1) j = if j = k then dg N k else low N k j := by
  unfold low
  by_cases h : j = k
  · subst h; rw [if_pos (by omega), if_pos rfl]
  · rw [if_neg h]
    by_cases h2 : j < k
    · rw [if_pos (by omega), if_pos h2]
    · rw [if_neg (by omega), if_neg h2]

set_option maxRecDepth 100000 in
set_option maxHeartbeats 1000000 in
theorem limbs_any (N : Nat) (hN : N ≤ 9223372036854775807) (w : World) :
    Calls Try.prog 83 #[.int .i64 N] w fun e w' => e = .returned (.agg (arr8 (dg N))) ∧ Below w.heap.size w w' := by
  obtain ⟨r, hr⟩ : ∃ r, Hid (arr8 (dg N) = r) := ⟨_, Lib.hid rfl⟩
  rw [hr.out]
  go_enter Try.func83, Try.ntmps83
  go_wp2
  obtain ⟨B2, B3', HB⟩ := two_boxes w #[.int .i64 0, .int .i64 0, .int .i64 0, .int .i64 0, .int .i64 0, .int .i64 0, .int .i64 0, .int .i64 0] #[.int .i64 0, .int .i64 0, .int .i64 0, .int .i64 0, .int .i64 0, .int .i64 0, .int .i64 0, .int .i64 0] 114
  have B3 : Box _ (w.heap.size + 1) (arr8 (low N 0)) 114 := B3'
  clear B3'
  generalize World.alloc (World.alloc w _) _ = W at B2 B3 HB ⊢
  go_loopw [0, 4] (fun n i wr => ∃ k : Nat, k ≤ 8 ∧ i = .int .i64 k ∧ n = .int .i64 ((N / 65536 ^ k : Nat) : Int) ∧ Box wr w.heap.size #[.int .i64 0, .int .i64 0, .int .i64 0, .int .i64 0, .int .i64 0, .int .i64 0, .int .i64 0, .int .i64 0] 114 ∧ Box wr (w.heap.size + 1) (arr8 (low N k)) 114 ∧ Below w.heap.size w wr) (fun _ i _ => 8 - (intOf i).toNat)
  case atStart => exact ⟨0, by omega, rfl, by simp, B2, B3, HB⟩
  case round =>
    obtain ⟨k, hk, rfl, rfl, C2, C3, HC⟩ := hrel
    clear B2 B3 HB
    by_cases hk2 : k < 8
    · have e3 := C3.cell k (arr8_at _ k hk2)
      have f3 := C3.free k
      have hn : N / 65536 ^ k ≤ 9223372036854775807 := Nat.le_trans (Nat.div_le_self _ _) hN
      have E1 : Hid (((N / 65536 ^ k : Nat) : Int) % 65536 = ((dg N k : Nat) : Int)) := Lib.hid (by unfold dg; omega)
      have E2 : Hid (((N / 65536 ^ k : Nat) : Int) / 65536 = ((N / 65536 ^ (k + 1) : Nat) : Int)) := Lib.hid (by rw [← div_next]; omega)
      generalize N / 65536 ^ k = M at *
      have hS : Hid ((arr8 (low N k)).setIfInBounds k (.int .i64 (dg N k : Nat)) = arr8 (low N (k + 1))) := Lib.hid (by
        rw [arr8_set _ _ _ hk2]; exact arr8_congr fun j _ => (low_next N k j).symm)
      go_wp2
      rw [E1.out, E2.out]
      go_roundw
      case rel =>
        refine ⟨k + 1, by omega, by go_num, rfl, C2.far (by first | (simp; done) | (simp; omega)) _, ?_, below_set HC (by first | (simp; done) | (simp; omega)) _⟩
        rw [← hS.out]
        exact C3.set k _
      case measure => simp [intOf]; omega
    · obtain rfl : k = 8 := by omega
      have C3' : Box _ (w.heap.size + 1) (arr8 (dg N)) 114 := C3
      have cx0 : _ = some (Value.int .i64 ((dg N 0 : Nat))) := C3'.cell 0 rfl
      have cx1 : _ = some (Value.int .i64 ((dg N 1 : Nat))) := C3'.cell 1 rfl
      have cx2 : _ = some (Value.int .i64 ((dg N 2 : Nat))) := C3'.cell 2 rfl
      have cx3 : _ = some (Value.int .i64 ((dg N 3 : Nat))) := C3'.cell 3 rfl
      have cx4 : _ = some (Value.int .i64 ((dg N 4 : Nat))) := C3'.cell 4 rfl
      have cx5 : _ = some (Value.int .i64 ((dg N 5 : Nat))) := C3'.cell 5 rfl
      have cx6 : _ = some (Value.int .i64 ((dg N 6 : Nat))) := C3'.cell 6 rfl
      have cx7 : _ = some (Value.int .i64 ((dg N 7 : Nat))) := C3'.cell 7 rfl
      have c2x0 : _ = some (Value.int .i64 (0)) := C2.cell 0 rfl
      have c2x1 : _ = some (Value.int .i64 (0)) := C2.cell 1 rfl
      have c2x2 : _ = some (Value.int .i64 (0)) := C2.cell 2 rfl
      have c2x3 : _ = some (Value.int .i64 (0)) := C2.cell 3 rfl
      have c2x4 : _ = some (Value.int .i64 (0)) := C2.cell 4 rfl
      have c2x5 : _ = some (Value.int .i64 (0)) := C2.cell 5 rfl
      have c2x6 : _ = some (Value.int .i64 (0)) := C2.cell 6 rfl
      have c2x7 : _ = some (Value.int .i64 (0)) := C2.cell 7 rfl
      have c2f0 := C2.free 0
      have c2f1 := C2.free 1
      have c2f2 := C2.free 2
      have c2f3 := C2.free 3
      have c2f4 := C2.free 4
      have c2f5 := C2.free 5
      have c2f6 := C2.free 6
      have c2f7 := C2.free 7
      go_wp2
      obtain ⟨C6, HC6⟩ := set_eight (v0 := .int .i64 ((dg N 0 : Nat) : Int)) (v1 := .int .i64 ((dg N 1 : Nat) : Int)) (v2 := .int .i64 ((dg N 2 : Nat) : Int)) (v3 := .int .i64 ((dg N 3 : Nat) : Int)) (v4 := .int .i64 ((dg N 4 : Nat) : Int)) (v5 := .int .i64 ((dg N 5 : Nat) : Int)) (v6 := .int .i64 ((dg N 6 : Nat) : Int)) (v7 := .int .i64 ((dg N 7 : Nat) : Int)) C2 HC (by omega)
      generalize World.setCell _ ⟨w.heap.size, 7, none⟩ _ = W' at C6 HC6 ⊢
      have c6x0 : _ = some (Value.int .i64 ((dg N 0 : Nat))) := C6.cell 0 rfl
      have c6x1 : _ = some (Value.int .i64 ((dg N 1 : Nat))) := C6.cell 1 rfl
      have c6x2 : _ = some (Value.int .i64 ((dg N 2 : Nat))) := C6.cell 2 rfl
      have c6x3 : _ = some (Value.int .i64 ((dg N 3 : Nat))) := C6.cell 3 rfl
      have c6x4 : _ = some (Value.int .i64 ((dg N 4 : Nat))) := C6.cell 4 rfl
      have c6x5 : _ = some (Value.int .i64 ((dg N 5 : Nat))) := C6.cell 5 rfl
      have c6x6 : _ = some (Value.int .i64 ((dg N 6 : Nat))) := C6.cell 6 rfl
      have c6x7 : _ = some (Value.int .i64 ((dg N 7 : Nat))) := C6.cell 7 rfl
      exact bodyPost_ret (v := .agg r) (by rw [← hr.out]; unfold arr8; simp [results, Try.results83, go_sem, c6x0, c6x1, c6x2, c6x3, c6x4, c6x5, c6x6, c6x7]) rfl ⟨rfl, HC6⟩

end Go.Proofs.Ytckmpllbbebefaa.Mul
