/- A search over a layout's shape; param.Check whole (under way). -/
import Derived.Test.YtndpdbofoojkhaaFit3
import Derived.Test.YtndpdbofoojkhaaFont3
namespace Go.Proofs.Ytndpdbofoojkhaa.Ft
open Go.RowKit Go.Proofs.Ytndpdbofoojkhaa.Kit Go.Proofs.Ytndpdbofoojkhaa.Fo
set_option linter.unusedVariables false
set_option linter.unusedSimpArgs false

abbrev lineR : Rep (Int × Int) := Rep.seq (Rep.int .i64) (Rep.int .i64)
abbrev lineV (x : Int × Int) : Value := .agg #[.int .i64 x.1, .int .i64 x.2]
theorem line_at {w : World} {B : Nat} {A : Option Addr} {l : List (Int × Int)} (h : Row lineR w B A l) {i : Nat} {x : Int × Int} (hx : l[i]? = some x) :
    ∃ b o, A = some ⟨b, o, none⟩ ∧ b < B ∧ w.cell? ⟨b, o + i * 2, none⟩ = some (.int .i64 x.1) ∧ w.cell? ⟨b, o + i * 2 + 1, none⟩ = some (.int .i64 x.2) := by
  obtain ⟨b, o, cs, rfl, hb, ⟨c1, r1, rfl, ⟨rfl, w1⟩, rfl, w2⟩, hc⟩ := h i x hx
  exact ⟨b, o, rfl, hb, hc 0 _ rfl, hc 1 _ rfl⟩
set_option maxHeartbeats 1000000 in
theorem index_line (g : Nat) (lb : Array Value) (p : (Int × Int) → Bool) (eg : ∀ args w, (callFunc g args).run Try.prog w = .ok (.enter g args) w) (A : Option Addr) (c : Nat) (l : List (Int × Int)) (w : World) {B : Nat} (hB : B ≤ w.heap.size) (hx : Row lineR w B A l) (hl : l.length ≤ 9223372036854775807) (hp : AsksV g lb lineV p l w) :
    Calls Try.prog 53 #[.slice A l.length c, .func (.func g) #[] lb] w fun e w' => e = .returned (.int .i64 (placeV p l 0)) ∧ Below w.heap.size w w' := by
  have HP := Lib.hid hp
  clear hp
  obtain ⟨r, hr⟩ : ∃ r, Hid (placeV p l 0 = r) := ⟨_, Lib.hid rfl⟩
  rw [hr.out]
  go_enter Try.func53, Try.ntmps53
  go_wp2
  go_loopw [5, 8] (fun _ i wr => ∃ k : Nat, k ≤ l.length ∧ i = .int .i64 k ∧ Hid (placeV p l 0 = placeV p (l.drop k) k) ∧ Below w.heap.size w wr) (fun _ i _ => l.length - (intOf i).toNat)
  case atStart => exact ⟨0, by omega, rfl, Lib.hid (by simp), Below.refl _ _⟩
  case round =>
    obtain ⟨k, hk, rfl, HS, HB⟩ := hrel
    rename World => wr
    by_cases hlt : k < l.length
    · obtain ⟨x, hxk⟩ := at_lt hlt
      have HD := Lib.hid (drop_cons hxk)
      have HM := Lib.hid hxk
      obtain ⟨b, o, hA, hb, h0, h1⟩ := line_at hx hxk
      clear hxk
      subst hA
      have hc0 : wr.cell? ⟨b, o + k * 2, none⟩ = _ := (HB.cell (p := ⟨b, o + k * 2, none⟩) (show b < w.heap.size by omega)).trans h0
      have hc1 : wr.cell? ⟨b, o + k * 2 + 1, none⟩ = _ := (HB.cell (p := ⟨b, o + k * 2 + 1, none⟩) (show b < w.heap.size by omega)).trans h1
      clear h0 h1
      have hcall := HP.out wr x HB (List.mem_of_getElem? HM.out)
      cases hq : p x with
      | true =>
        rw [hq] at hcall
        have HE := Lib.hid (show placeV p l 0 = k by rw [HS.out, HD.out]; simp [placeV, hq])
        clear hq
        go_wp2_with (go_at_fn g; refine hcall.mono ?_; rintro e w' ⟨rfl, hb2⟩)
        go_ret
        exact ⟨by rw [← hr.out, HE.out]; rfl, below_join HB hb2⟩
      | false =>
        rw [hq] at hcall
        have HE := Lib.hid (show placeV p l 0 = placeV p (l.drop (k + 1)) ((k + 1 : Nat) : Int) by rw [HS.out, HD.out]; simp [placeV, hq])
        clear hq
        go_wp2_with (go_at_fn g; refine hcall.mono ?_; rintro e w' ⟨rfl, hb2⟩)
        go_roundw
        case rel => exact ⟨k + 1, by omega, by go_num, HE, below_join HB hb2⟩
        case measure => simp [intOf]; omega
    · have HE := Lib.hid (show placeV p l 0 = -1 by rw [HS.out, List.drop_eq_nil_of_le (by omega)]; rfl)
      go_wp2
      go_ret
      exact ⟨by rw [← hr.out, HE.out]; rfl, HB⟩
set_option maxHeartbeats 1000000 in
theorem contains_line (g : Nat) (lb : Array Value) (p : (Int × Int) → Bool) (eg : ∀ args w, (callFunc g args).run Try.prog w = .ok (.enter g args) w) (A : Option Addr) (c : Nat) (l : List (Int × Int)) (w : World) {B : Nat} (hB : B ≤ w.heap.size) (hx : Row lineR w B A l) (hl : l.length ≤ 9223372036854775807) (hp : AsksV g lb lineV p l w) :
    Calls Try.prog 35 #[.slice A l.length c, .func (.func g) #[] lb] w fun e w' => e = .returned (.bool (l.any p)) ∧ Below w.heap.size w w' := by
  have H := Lib.hid (index_line g lb p eg A c l w hB hx hl hp)
  have HE := Lib.hid (placeV_any p l 0 (by omega))
  clear hx hp hl
  generalize placeV p l 0 = r at *
  obtain ⟨q, hq⟩ : ∃ q, Hid (l.any p = q) := ⟨_, Lib.hid rfl⟩
  rw [hq.out]
  go_enter Try.func35, Try.ntmps35
  go_wp2_with fail
  refine H.out.mono ?_; rintro e w' ⟨rfl, hb⟩
  go_wp2
  go_ret
  exact ⟨ret_bool rfl (by rw [← hq.out, ← HE.out]), hb⟩

/-- param.Check, whole. -/
theorem lay_any (l : LayD) (A : Option Addr) (c : Nat) (w : World) {B : Nat} (hB : B ≤ w.heap.size) (hx : Row lineR w B A l.shape) (hw : LayWf l) (hs : ∀ x ∈ l.shape, (Lit.int .i64 x.1).wf = true ∧ (Lit.int .i64 x.2).wf = true) (hl : l.shape.length ≤ 9223372036854775807) :
    Calls Try.prog 18 #[.agg (layCells l A c)] w fun e w' => e = .returned (.bool (layB l)) ∧ Below w.heap.size w w' := by
  have e1 : ∀ args w, (callFunc 36 args).run Try.prog w = .ok (.enter 36 args) w := enters_of Try.func36 (by kernel_rfl) rfl
  refine pcheck_any l A c w hw hl (fun V hb => ?_)
  have := contains_line _ #[] (fun x => !lineB x) e1 A c l.shape V (B := B) (Nat.le_trans hB hb.size) (hx.mono (hb.mono hB)) hl (fun W x hb hx => pline_any x W (hs x hx).1 (hs x hx).2)
  rw [show l.shape.any (fun x => !lineB x) = !(l.shape.all lineB) by rw [List.not_all_eq_any_not]] at this
  exact this
end Go.Proofs.Ytndpdbofoojkhaa.Ft
