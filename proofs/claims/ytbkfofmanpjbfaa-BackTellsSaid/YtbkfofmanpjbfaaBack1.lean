/- The codes of which glyphs' codes are made: the walk of lig.Expand. -/
import Derived.Test.YtbkfofmanpjbfaaFont9
import Derived.Test.YtbkfofmanpjbfaaBackPlain
import Derived.Test.YtbkfofmanpjbfaaGrow
import Derived.Test.YtbkfofmanpjbfaaOwn
import Derived.Test.YtbkfofmanpjbfaaSets
import Derived.Test.YtbkfofmanpjbfaaShelf
import Derived.Maps.OwnSet
import Derived.Deep.DeepCutAuto
import Derived.Deep.AppendLies
import Derived.Deep.RegionHeld3
namespace Go.Proofs.Ytbkfofmanpjbfaa.Bk
open Go.RowKit Go.Proofs.Ytbkfofmanpjbfaa.Kit Go.Proofs.Ytbkfofmanpjbfaa.Fo Go.Proofs.Ytbkfofmanpjbfaa.RFo
set_option linter.unusedVariables false
set_option linter.unusedSimpArgs false

def lookV (out : List LigT) (c : Int) : Int × Int × Bool := match lookP out c with
  | some (a, b) => (a, b, true)
  | none => (0, 0, false)
theorem Dof_at (c : Int) (z : DataW Unit) : ∀ out : List LigT, (Dof out).atKey (.int .i64 c) z = match lookP out c with | some p => pairD p | none => z
  | [] => rfl
  | x :: xs => by
    by_cases h : x.1 = c
    · subst h
      show ((Dof xs).put _ _).atKey _ _ = _
      rw [Maps.atKey_put_same (Dof_map xs) (show WideAt.IsKeyLit (.int .i64 x.1) from trivial)]
      simp [lookP]
    · show ((Dof xs).put _ _).atKey _ _ = _
      rw [Maps.atKey_put_other (by simpa using fun e => h e.symm), Dof_at c z xs]
      simp [lookP, h]
theorem Dof_is (c : Int) (out : List LigT) : Maps.has (Dof out) (.int .i64 c) = (lookP out c).isSome := by
  rw [Dof_has, lookP, Option.isSome_map, Bool.eq_iff_iff, List.any_eq_true, List.find?_isSome]
  simp
theorem look_law {w : World} {ops : Array Oper} {rest : List Oper} {o : Oper} {a : Act} {Q : Exit → Act → World → Prop} (hg : o.guard = none) (m x : Operand) (hop : o.op = Op.lookup 71 m x true) (b n : Nat) (out : List LigT)
    (hm : a.eval m = .map (some b)) (hown : w.ownsMap Try.prog 3 pairElem b n (Dof out)) (c : Int) (hx : a.eval x = .int .i64 c) (hw : (Lit.int .i64 c).wf = true) (p q : Int) (f : Bool) (hl : lookV out c = (p, q, f))
    (hK : wpList Try.prog ops Q rest (a.put o.dst (.tuple #[.agg #[.int .i64 p, .int .i64 q], .bool f])) w) : wpList Try.prog ops Q (o :: rest) a w := by
  refine wpList_lookup_own_ok w hg m x 71 hop 3 75 (Maps.int_keyed Try.underlying3) Try.underlying71 pairElem (Try.zeroValue75 _) (pairD (0, 0)) [] (pairElem_mk 0 0) b n _ hm hown _ _ hx (Maps.keyOf_int_mk Try.underlying3 hw) ?_
  intro v ps hv
  obtain ⟨va, vb, rfl, hz⟩ := pairElem_inv hv
  simp only [Prod.mk.injEq] at hz
  rw [Dof_at] at hz
  rw [Dof_is]
  unfold lookV at hl
  cases hq : lookP out c with
  | none =>
    rw [hq] at hz hl
    simp only [Prod.mk.injEq] at hl
    obtain ⟨rfl, rfl, rfl⟩ := hl
    obtain ⟨rfl, rfl⟩ := pairD_inj hz.1
    exact hK
  | some r =>
    obtain ⟨ra, rb⟩ := r
    rw [hq] at hz hl
    simp only [Prod.mk.injEq] at hl
    obtain ⟨rfl, rfl, rfl⟩ := hl
    obtain ⟨rfl, rfl⟩ := pairD_inj hz.1
    exact hK
theorem box_grown {w w' : World} {g : Nat} {cs : Array Value} {t : TypeId} {row : Option Nat} (h : Box w g cs t) (hg : w.grownBy w' row) (hne : some g ≠ row) : Box w' g cs t := (hg.block g h.lt hne).trans h
theorem own_ne {w : World} {base n g : Nat} {e t : TypeId} {size : Nat} {v : Value} {xs : List Value} {cs : Array Value} (h : w.ownsRow base e size v n xs) (hb : Box w g cs t) (ht : t ≠ e) : some g ≠ v.ownBlock := by
  rcases h.2 with ⟨rfl, _⟩ | ⟨g', cap, cur, rfl, _, hg, _⟩
  · simp [Value.ownBlock]
  · intro hk
    have : g = g' := by simpa [Value.ownBlock] using hk
    subst this
    unfold Box at hb
    rw [hg] at hb
    injection hb with hb
    injection hb with _ hb
    exact ht hb.symm
theorem own_map_ne {H : Type} {P : Program} {k : TypeId} {R : Value → Option (DataW H × List MemPlace)} {w : World} {base n b m : Nat} {e : TypeId} {size : Nat} {v : Value} {xs : List Value} {D : DataW H} (h : w.ownsRow base e size v n xs) (hm : w.ownsMap P k R b m D) : some b ≠ v.ownBlock := by
  rcases h.2 with ⟨rfl, _⟩ | ⟨g', cap, cur, rfl, _, hg, _⟩
  · simp [Value.ownBlock]
  · intro hk
    have : b = g' := by simpa [Value.ownBlock] using hk
    subst this
    obtain ⟨es, clock, hb, _⟩ := hm
    rw [hg] at hb
    cases hb
/-- A row of the call's own, laid open. -/
theorem own_open {w : World} {base n : Nat} {e : TypeId} {v : Value} {l : List Int} (h : w.ownsRow base e 1 v n (l.map (Value.int .i64))) (h0 : l ≠ []) :
    ∃ g c cur, v = .slice (some ⟨g, 0, none⟩) l.length c ∧ n = l.length ∧ base ≤ g ∧ Box w g cur e ∧ l.length ≤ 9223372036854775807 ∧ ∀ j, j < l.length → w.cell? ⟨g, 0 + j, none⟩ = some (.int .i64 (l.getD j 0)) := by
  have hl : n = l.length := by have := h.1; simp at this; exact this.symm
  subst hl
  have hlen : 0 < l.length := List.length_pos_iff.2 h0
  rcases h.2 with ⟨rfl, hz⟩ | ⟨g, cap, cur, rfl, hb, hg, h1, h2, h3, h4⟩
  · omega
  · refine ⟨g, cap, cur, rfl, rfl, hb, hg, by unfold maxLen at h2; omega, fun j hj => ?_⟩
    have := h.cellAt (g := g) (cap := cap) j (by omega)
    rw [Nat.zero_add, this, List.getElem?_map, List.getElem?_eq_getElem hj, List.getD_eq_getElem?_getD, List.getElem?_eq_getElem hj]
    rfl
theorem own_empty {w : World} {base n : Nat} {e : TypeId} {v : Value} {size : Nat} (h : w.ownsRow base e size v n []) (hs : 0 < size) : ∃ A c, v = .slice A 0 c ∧ n = 0 := by
  have hl : n = 0 := by
    have h1 := h.1
    rw [List.length_nil] at h1
    rcases Nat.mul_eq_zero.1 h1.symm with h | h
    · exact h
    · omega
  subst hl
  rcases h.2 with ⟨rfl, hz⟩ | ⟨g, cap, cur, rfl, _⟩
  · exact ⟨none, 0, rfl, rfl⟩
  · exact ⟨_, cap, rfl, rfl⟩
theorem own_shape {w : World} {base n : Nat} {e : TypeId} {v : Value} {l : List Int} (h : w.ownsRow base e 1 v n (l.map (Value.int .i64))) :
    ∃ A c, v = .slice A l.length c ∧ n = l.length ∧ (A = none → l.length = 0) ∧ ∀ ad, A = some ad → base ≤ ad.block ∧ ad.block < w.heap.size := by
  have hl : n = l.length := by have := h.1; simp at this; exact this.symm
  subst hl
  rcases h.2 with ⟨rfl, hz⟩ | ⟨g, cap, cur, rfl, hb, hg, _⟩
  · exact ⟨none, 0, by rw [hz], rfl, fun _ => hz, fun ad e => by cases e⟩
  · exact ⟨_, cap, rfl, rfl, (fun e => by cases e), (fun ad e => by cases e; exact ⟨hb, (Array.getElem?_eq_some_iff.1 hg).1⟩)⟩
theorem below_sets2 {W : World} {B g : Nat} (hg : B ≤ g) : ∀ (vs : List Value) (o : Nat) {w : World}, Below B W w → Below B W (w.setCells g o vs)
  | [], _, _, h => h
  | v :: r, o, _, h => below_sets2 hg r (o + 1) (h.setCell (p := ⟨g, o, none⟩) hg v)
theorem sets_size : ∀ (vs : List Value) (g o : Nat) (w : World), (w.setCells g o vs).heap.size = w.heap.size
  | [], _, _, _ => rfl
  | v :: r, g, o, w => by
    show ((w.setCell ⟨g, o, none⟩ v).setCells g (o + 1) r).heap.size = _
    rw [sets_size r]; simp

theorem take_one {α : Type} {l : List α} {i : Nat} {x : α} (h : l[i]? = some x) : l.take (i + 1) = l.take i ++ [x] := by
  rw [List.take_add_one, h]; rfl
/-- slices.Reverse of a row of the call's own. -/
theorem reverse_any {base : Nat} {A : Option Addr} {c : Nat} {l : List Int} {n : Nat} (w : World) (h : w.ownsRow base 3 1 (.slice A l.length c) n (l.map (Value.int .i64))) (hb : base ≤ w.heap.size) :
    Calls Try.prog 28 #[.slice A l.length c] w fun e w' => e = .returned (.tuple #[]) ∧ Below base w w' ∧ w.heap.size ≤ w'.heap.size ∧ Sees w' A (l.reverse.map (Value.int .i64)) := by
  by_cases h0 : l = []
  · subst h0
    refine (Try.slices_Reverse_int_empty A c w).mono ?_
    rintro e w' ⟨rfl, rfl⟩
    exact ⟨rfl, Below.refl _ _, Nat.le_refl _, fun j v hv => by simp at hv⟩
  · obtain ⟨g, c', cur, hv, hn, hg, hbx, hl, hc⟩ := own_open h h0
    simp only [Value.slice.injEq] at hv
    obtain ⟨rfl, _, rfl⟩ := hv
    refine (Try.slices_Reverse_int_cells g 0 l.length c l w (Nat.le_refl _) hl hc (fun j hj => by rw [Nat.zero_add]; exact hbx.free j)).mono ?_
    rintro e w' ⟨rfl, q, rfl⟩
    have hbq : Box (w.drewN q) g cur 3 := hbx.below (below_drewN (Below.refl _ _) q)
    have hth : (w.drewN q).there g 0 ((l.take l.length).reverse.map (Value.int .i64)).length := fun j hj => by
      have hj' : j < l.length := by simpa using hj
      refine ⟨?_, by rw [Nat.zero_add]; exact hbq.free j⟩
      have h1 := later (below_drewN (Below.refl w.heap.size w) q) (hc j hj')
      rw [h1]; rfl
    refine ⟨rfl, below_sets2 hg _ 0 (below_drewN (Below.refl _ _) q), by rw [sets_size]; simp, fun j v hv => ⟨g, 0, rfl, ?_⟩⟩
    rw [List.take_length] at hth ⊢
    exact World.rangeAt_setCells_same (w.drewN q) g 0 _ hth j v hv
def expandV (d : FontD) (l : List Int) : List Int := match madeP d with
  | none => []
  | some out => expandP out l
theorem info_i64 : (Try.prog.info? 3).map (fun i => (i.zero, i.size, i.bytes)) = some (some (.int .i64 0), 1, 8) := by kernel_rfl

theorem look_none {out : List LigT} {c p q : Int} (h : lookV out c = (p, q, false)) : lookP out c = none := by
  unfold lookV at h
  cases hq : lookP out c with
  | none => rfl
  | some r => obtain ⟨a, b⟩ := r; rw [hq] at h; simp at h
theorem look_some {out : List LigT} {c p q : Int} (h : lookV out c = (p, q, true)) : lookP out c = some (p, q) := by
  unfold lookV at h
  cases hq : lookP out c with
  | none => rw [hq] at h; simp at h
  | some r => obtain ⟨a, b⟩ := r; rw [hq] at h; simp at h; rw [h.1, h.2]

set_option maxRecDepth 10000 in
set_option maxHeartbeats 4000000 in
theorem expand_any (d : FontD) (a : FontA) (A1 : Option Addr) (c1 : Nat) (L : List Int) (w : World) {B : Nat} (hB : B ≤ w.heap.size) (hF : FontIn w B d a) (hL : Row (Rep.int .i64) w B A1 L) (hn : L.length ≤ 100000) :
    Calls Try.prog 18 #[fontV d a, .slice A1 L.length c1] w fun e w' => ∃ v, e = .returned (.tuple #[v, .int .i64 (if ligB d then 0 else 70)]) ∧ Below w.heap.size w w' ∧ w'.ownsRow w.heap.size 3 1 v (expandV d L).length ((expandV d L).map (Value.int .i64)) := by
  have hb0 := Box.new w (fontCells d a) 26
  have hbw := (Below.refl w.heap.size w).alloc (Nat.le_refl _) (.cells (fontCells d a) 26)
  obtain ⟨W1, hW⟩ : ∃ W1, w.alloc (.cells (fontCells d a) 26) = W1 := ⟨_, rfl⟩
  rw [hW] at hb0 hbw
  obtain ⟨c0, c1', c2, c3, c4, c5, c6, c7, c8, c9, c10⟩ := font_cells hb0
  have HM := made_any d a W1 (lt_of_below hB hbw) (hF.mono (hbw.mono hB))
  have HRow : Hid (∀ W, Below w.heap.size w W → Row (Rep.int .i64) W B A1 L) := Lib.hid fun W hb => hL.mono (hb.mono hB)
  have hWf : Hid (∀ x ∈ L, (Lit.int .i64 x).wf = true) := Lib.hid (row_wf hL)
  have HBw := Lib.hid hbw
  have hsz := hbw.size
  clear hF hL hbw hb0
  obtain ⟨R, hR⟩ : ∃ R, Hid (expandV d L = R) := ⟨_, Lib.hid rfl⟩
  rw [hR.out]
  cases hl : ligB d with
  | false =>
    rw [hl] at HM
    have hR0 : Hid (R = []) := Lib.hid (by rw [← hR.out]; unfold expandV; unfold ligB at hl; cases hm : madeP d with | none => rfl | some o => rw [hm] at hl; cases hl)
    clear hl hR
    go_enter Try.func18, Try.ntmps18
    go_wp2_with fail
    with_reducible refine HM.mono ?_; rintro e w1 ⟨mv, rfl, hb, _⟩
    have HB2 := Lib.hid (HBw.out.trans (hb.mono hsz))
    clear HM hW c0 c1' c2 c3 c4 c5 c6 c7 c8 c9 c10 hb
    go_wp2_with fail
    go_ret2
    exact ⟨_, rfl, HB2.out, by rw [hR0.out]; exact own_nil _ _ _ _⟩
  | true =>
    obtain ⟨out, ho⟩ : ∃ out, madeP d = some out := Option.isSome_iff_exists.1 hl
    have HOk := Lib.hid (made_ok ho)
    have hRe : Hid (expandP out L = R) := Lib.hid (by rw [← hR.out]; unfold expandV; rw [ho])
    have Ho := Lib.hid ho
    rw [hl] at HM
    clear hl hR ho
    go_enter Try.func18, Try.ntmps18
    go_wp2_with fail
    with_reducible refine HM.mono ?_; rintro e w1 ⟨mv, rfl, hb, hmp⟩
    obtain ⟨pm, hpm, rfl, hm⟩ := hmp out Ho.out
    have HB2 := Lib.hid (HBw.out.trans (hb.mono hsz))
    have hsz1 := HB2.out.size
    clear HM hW c0 c1' c2 c3 c4 c5 c6 c7 c8 c9 c10 hb hmp hpm
    go_wp2_with fail
    go_loopw [8, 23] (fun v i wr => ∃ k : Nat, i = .int .i64 k ∧ k ≤ L.length ∧ wr.ownsRow w.heap.size 3 1 v (expandP out (L.take k)).length ((expandP out (L.take k)).map (Value.int .i64)) ∧ wr.ownsMap Try.prog 3 pairElem pm 1000000 (Dof out) ∧ Below w.heap.size w wr) (fun _ i _ => L.length - (intOf i).toNat)
    case atStart => exact ⟨0, rfl, by omega, own_nil _ _ _ _, hm, HB2.out⟩
    case round =>
      clear hm HB2
      obtain ⟨k, rfl, hk, hown, hm, HB⟩ := hrel
      rename World => wr
      have hszr := HB.size
      by_cases hlt : k < L.length
      · obtain ⟨x, hx⟩ := at_lt hlt
        obtain ⟨b1, o1, rfl, hb1, hc1, hwx⟩ := int_at (HRow.out wr HB) hx
        have HTk : Hid (expandP out (L.take (k + 1)) = expandP out (L.take k) ++ expand1 out x) := Lib.hid (by rw [take_one hx]; unfold expandP; rw [List.flatMap_append]; simp)
        have hle1 : (expandP out (L.take k)).length ≤ 257 * k := by have := expandP_len HOk.out (L.take k); rw [List.length_take] at this; omega
        generalize expandP out (L.take k) = T at *
        obtain ⟨⟨p, q, f⟩, hlv⟩ : ∃ r, lookV out x = r := ⟨_, rfl⟩
        have Hlv := Lib.hid hlv
        have HO := Lib.hid hown
        have Hm := Lib.hid hm
        clear hx hown hm hlv
        go_wp2_with (at_lookup; refine look_law rfl _ _ rfl pm 1000000 out rfl Hm.out x rfl hwx p q f Hlv.out ?_)
        have hbp := Box.new wr #[.int .i64 p, .int .i64 q] 75
        have hbl := (Below.refl wr.heap.size wr).alloc (Nat.le_refl _) (.cells #[.int .i64 p, .int .i64 q] 75)
        generalize wr.alloc (.cells #[.int .i64 p, .int .i64 q] 75) = wp at *
        have hlenx := expand1_len HOk.out x
        have HE0 : Hid (∀ y l, expand1 out x = expand1 out y ++ l → l.length ≤ 257) := Lib.hid fun y l e => by rw [e] at hlenx; simp at hlenx; omega
        go_loopw [10, 11, 12, 13] (fun cv bv pv fv wx => ∃ (c : Int) (l : List Int) (g : Nat) (p q : Int) (f : Bool), cv = .int .i64 c ∧ pv = .pointer (some ⟨g, 0, none⟩) ∧ fv = .bool f ∧ wx.ownsRow wr.heap.size 3 1 bv l.length (l.map (Value.int .i64)) ∧ Box wx g #[.int .i64 p, .int .i64 q] 75 ∧ wr.heap.size ≤ g ∧ Hid (lookV out c = (p, q, f)) ∧ Hid (expand1 out x = expand1 out c ++ l.reverse) ∧ (Lit.int .i64 c).wf = true ∧ Hid (∀ y ∈ l, (Lit.int .i64 y).wf = true) ∧ Below wr.heap.size wr wx) (fun cv _ _ _ _ => (intOf cv).toNat)
        case atStart => exact ⟨x, [], wr.heap.size, p, q, f, rfl, rfl, rfl, own_nil _ _ _ _, hbp, Nat.le_refl _, Hlv, Lib.hid (by simp), hwx, Lib.hid (by simp), hbl⟩
        case round =>
          clear hbp hbl Hlv hc1 hwx
          obtain ⟨c, l, g, p, q, f, rfl, rfl, rfl, hown, hbg, hg, Hlv, HEx, hwc, HwL, HX⟩ := hrel
          rename World => wx
          have hszx := HX.size
          cases f with
          | true =>
            have hlk := look_some Hlv.out
            obtain ⟨k1, k2, k3⟩ := look_ok HOk.out hlk
            have HEn : Hid (expand1 out x = expand1 out p ++ (l ++ [q]).reverse) := Lib.hid (by rw [HEx.out, expand_step HOk.out hlk]; simp)
            have hll : (l ++ [q]).length ≤ 257 := by have := HE0.out _ _ HEn.out; simpa using this
            have HwN : Hid (∀ y ∈ l ++ [q], (Lit.int .i64 y).wf = true) := Lib.hid fun y hy => by
              rcases List.mem_append.1 hy with hy | hy
              · exact HwL.out y hy
              · rw [List.mem_singleton.1 hy]; exact wf_i64 (by omega) (by omega)
            obtain ⟨⟨p2, q2, f2⟩, hl2⟩ : ∃ r, lookV out p = r := ⟨_, rfl⟩
            have Hl2 := Lib.hid hl2
            have hne := own_ne hown hbg (by decide)
            have Hm2 := Lib.hid (Hm.out.kept (show wr.grownBy wx none from ⟨HX.os, HX.tape, HX.output, HX.size, fun k hk _ => HX.block k hk⟩) (by simp))
            have hmn := own_map_ne hown Hm2.out
            have f0 : wx.cell? ⟨g, 0, none⟩ = some (.int .i64 p) := hbg.cell 0 rfl
            have f1 : wx.cell? ⟨g, 1, none⟩ = some (.int .i64 q) := hbg.cell 1 rfl
            have hwp2 : (Lit.int .i64 p).wf = true := wf_i64 (by omega) (by omega)
            have hgl := hbg.lt
            have Hobg := Lib.hid (And.intro hown (And.intro hbg hne))
            simp only [List.length_append, List.length_singleton] at hll
            have hlt2 : (intOf (.int .i64 p)).toNat < (intOf (.int .i64 c)).toNat := by simp [intOf]; omega
            clear hlk Hlv HEx hl2 hown hbg hne hwc
            go_upto_region 12 with fail
            obtain ⟨i0, hi0, hz0, hz1, hz2⟩ := info_parts info_i64
            obtain ⟨hown, hbg, hne⟩ := Hobg.out
            go_region_held3 (fun w' => w'.cell? ⟨g, 0, none⟩ = some (.int .i64 p) ∧ w'.cell? ⟨g, 1, none⟩ = some (.int .i64 q))
              (first | go_keep | (have hq := box_grown (hbg.alloc _).drew hgrow hne; exact ⟨hq.cell 0 rfl, hq.cell 1 rfl⟩))
              ((refine step_append_lies _ (by rfl) _ _ _ (by rfl) wr.heap.size 3 i0 _ 1 8 Try.underlying23 hi0 hz0 hz1 hz2 rfl (by omega) _ l.length _ (by rfl) ((hown.alloc _).drew)
                  ⟨wx.heap.size, 0, none⟩ 1 1 [.int .i64 q] (by rfl) (by rfl) (World.news_of_block (cs := #[.int .i64 q]) (t := 3) (fr := (0, 0)) (heap_alloc_new wx _)) (by simp [Value.oneCell'])
                  (by omega) (by unfold maxLen; omega) (by omega) (by simp; omega) (wx.heap.size + 1) (by simp) ?_; intro gg cap w5 hown5 hgrow hat hlt5))
            have hbg5 := box_grown (hbg.alloc _).drew hgrow hne
            have HB5 : Below wr.heap.size wr w5 := Below.grown (below_drew (below_alloc HX (.cells #[.int .i64 q] 3))) hgrow (by simp; omega) (fun j e => by have := (hown.lt j e).1; omega)
            have Hm5 := Lib.hid ((Hm2.out.alloc (.cells #[.int .i64 q] 3)).drew.kept hgrow hmn)
            have g0 : w5.cell? ⟨g, 0, none⟩ = some (.int .i64 p) := hbg5.cell 0 rfl
            have g1 : w5.cell? ⟨g, 1, none⟩ = some (.int .i64 q) := hbg5.cell 1 rfl
            have H5 := Lib.hid hown5
            have hsz5 := HB5.size
            have Hfin := Lib.hid (Box.new w5 #[.int .i64 p2, .int .i64 q2] 75)
            clear hgrow hat hown5 hown hbg hne hbg5 hmn Hm2 f0 f1 Hobg hi0 hz0 hz1 hz2 HX
            go_wp2_with (at_lookup; refine look_law rfl _ _ rfl pm 1000000 out rfl (Hm5.out.alloc _) p rfl hwp2 p2 q2 f2 Hl2.out ?_)
            go_roundw
            case rel =>
              refine ⟨p, l ++ [q], w5.heap.size, p2, q2, f2, rfl, rfl, rfl, ?_, Hfin.out, by omega, Hl2, HEn, hwp2, HwN, below_alloc HB5 _⟩
              have := H5.out.alloc (.cells #[.int .i64 p2, .int .i64 q2] 75)
              simpa using this
            case measure => simpa using hlt2
          | false =>
            have HEn : Hid (expand1 out x = c :: l.reverse) := Lib.hid (by rw [HEx.out, expand_none (look_none Hlv.out)]; rfl)
            have hll : l.length ≤ 257 := by rw [HEn.out] at hlenx; simp at hlenx; omega
            obtain ⟨A2, c2, rfl, _, hA0, hAb⟩ := own_shape hown
            have HRv := reverse_any wx hown hszx
            have Hsz := Lib.hid (HO.out.lt)
            clear Hlv HEx hown hbg hlenx HE0
            go_wp2_with fail
            with_reducible refine HRv.mono ?_; rintro e wv ⟨rfl, hbv, hsv, hsee⟩
            have HXv : Below wr.heap.size wr wv := HX.trans hbv
            have HOv := Lib.hid (own_setSize HO.out HXv)
            have Hmv := Lib.hid (Hm.out.kept (show wr.grownBy wv none from ⟨HXv.os, HXv.tape, HXv.output, HXv.size, fun k hk _ => HXv.block k hk⟩) (by simp))
            have HBv : Below w.heap.size w wv := HB.trans (HXv.mono hszr)
            have Hsee := Lib.hid hsee
            have hszv := HXv.size
            clear HRv hbv hsee HX HXv HO Hm
            go_wp2_with (first
              | (at_builtin
                 refine wpList_append_seen rfl (.tmp 50) (.tmp 52) _ rfl w.heap.size 3 (.int .i64 0) 1 8 Try.underlying23 info_i64 rfl (by decide) _ _ _ rfl (HOv.out.alloc _) (some ⟨wv.heap.size, 0, none⟩) 1 1 [.int .i64 c] rfl (by simp) (sees_new _ _ _) (one_ints .i64 [c]) (by omega) (by omega) (by simp; omega) (fun h => by cases h) ?_
                 intro v3 w3 hown3 hg3 hgb3
                 have HB3 : Below w.heap.size w w3 := Below.grown (below_alloc HBv (.cells #[.int .i64 c] 3)) hg3 (by simp; omega) (fun j e => by have := (HOv.out.lt j e).1; omega)
                 have Hm3 := Lib.hid ((Hmv.out.alloc (.cells #[.int .i64 c] 3)).kept hg3 (own_map_ne HOv.out Hmv.out))
                 have hne3 : ∀ ad, A2 = some ad → some ad.block ≠ v3.ownBlock ∧ some ad.block ≠ u8.ownBlock ∧ ad.block < wv.heap.size := fun ad e => by
                   have h1 := hAb ad e
                   have h3 : some ad.block ≠ u8.ownBlock := fun e2 => by have := (Hsz.out _ e2.symm).2; omega
                   refine ⟨?_, h3, by omega⟩
                   rcases hgb3 with h | h
                   · rw [h]; exact h3
                   · rw [h]; simp; omega
                 have hsee3 : Hid (Sees w3 A2 (l.reverse.map (Value.int .i64))) := Lib.hid fun j v hv => by
                   obtain ⟨b, o, rfl, hc⟩ := Hsee.out j v hv
                   obtain ⟨h1, h2, h3⟩ := hne3 _ rfl
                   refine ⟨b, o, rfl, ?_⟩
                   rw [← hc]
                   have e1 := World.cell?_of_block (a := ⟨b, o + j, none⟩) (hg3.block b (by have h3' : b < wv.heap.size := h3; simp; omega) h2)
                   exact e1.trans (old_cell _ hc |>.trans hc.symm)
                 have HO3 := Lib.hid hown3
                 have hs3 := hg3.size
                 simp only [World.size_alloc] at hs3
                 clear hown3 hg3 hgb3 hne3)
              | (at_builtin
                 refine wpList_append_seen rfl (.tmp 53) (.tmp 54) _ rfl w.heap.size 3 (.int .i64 0) 1 8 Try.underlying23 info_i64 rfl (by decide) _ _ _ rfl HO3.out A2 l.length c2 (l.reverse.map (Value.int .i64)) rfl (by simp) hsee3.out (one_ints .i64 l.reverse) (by omega) (by omega) (by omega) hA0 ?_
                 intro v4 w4 hown4 hg4 hgb4
                 have HB4 : Below w.heap.size w w4 := Below.grown HB3 hg4 (by omega) (fun j e => by have := (HO3.out.lt j e).1; omega)
                 have Hm4 := Lib.hid (Hm3.out.kept hg4 (own_map_ne HO3.out Hm3.out))
                 have HO4 := Lib.hid hown4
                 clear hown4 hg4 hgb4))
            go_roundw
            case rel =>
              refine ⟨k + 1, by go_num, by omega, ?_, Hm4.out, HB4⟩
              rw [HTk.out, HEn.out]
              have e : (T ++ c :: l.reverse).length = T.length + 1 + l.length := by simp; omega
              rw [e]
              have := HO4.out
              simpa using this
            case measure => simp [intOf]; omega
      · have hke : k = L.length := by omega
        have HO : Hid (wr.ownsRow w.heap.size 3 1 u8 R.length (R.map (Value.int .i64))) := Lib.hid (by rw [hke, List.take_length, hRe.out] at hown; exact hown)
        clear hown hm hke
        go_wp2_with fail
        go_ret2
        exact ⟨_, rfl, HB, HO.out⟩
end Go.Proofs.Ytbkfofmanpjbfaa.Bk
