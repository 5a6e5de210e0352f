/- Rows as cells; rows of the call's own; the font as an argument; few of each. -/
import Derived.Test.YtbkfofmanpjbfaaBack11
import Derived.Test.YtbkfofmanpjbfaaBack12P
namespace Go.Proofs.Ytbkfofmanpjbfaa.Bk
open Go.RowKit Go.Proofs.Ytbkfofmanpjbfaa.Kit Go.Proofs.Ytbkfofmanpjbfaa.Fo Go.Shelf
open Go.Proofs.YtbkfofmanpjbfaaW.PrintWords (Kd)
set_option linter.unusedVariables false
set_option linter.unusedSimpArgs false

abbrev RowZ := RowD × Option Addr × Nat
def rowL (z : RowZ) : List Value := (rowCells z.1 z.2.1 z.2.2).toList
theorem rowL_len (z : RowZ) : (rowL z).length = 5 := rfl
theorem rows_cells {w : World} {B : Nat} {Ar : Option Addr} {rows : List RowD} (h : RowsAt w B Ar rows) : ∃ zs : List RowZ, zs.map (·.1) = rows ∧ (∀ z ∈ zs, Row placedR w B z.2.1 z.1.items) ∧ Sees w Ar (zs.flatMap rowL) := by
  have key : ∀ k, k ≤ rows.length → ∃ zs : List RowZ, zs.map (·.1) = rows.take k ∧ (∀ z ∈ zs, Row placedR w B z.2.1 z.1.items) ∧ Sees w Ar (zs.flatMap rowL) := by
    intro k
    induction k with
    | zero => intro _; exact ⟨[], by simp, by simp, fun j v hv => by simp at hv⟩
    | succ k ih =>
      intro hk
      obtain ⟨zs, h1, h2, h3⟩ := ih (by omega)
      obtain ⟨r, hr⟩ := at_lt (show k < rows.length by omega)
      obtain ⟨b, o, A, c, e, hc, hrow, _⟩ := h k r hr
      have hl : zs.length = k := by have := congrArg List.length h1; simpa [Nat.min_eq_left (show k ≤ rows.length by omega)] using this
      refine ⟨zs ++ [(r, A, c)], by rw [List.map_append, h1, take_one hr]; rfl, fun z hz => ?_, fun j v hv => ?_⟩
      · rcases List.mem_append.1 hz with hz | hz
        · exact h2 z hz
        · rw [List.mem_singleton.1 hz]; exact hrow
      · rw [List.flatMap_append, List.flatMap_singleton] at hv
        have hfl : (zs.flatMap rowL).length = k * 5 := by rw [flat_len rowL_len, hl]
        by_cases hj : j < k * 5
        · rw [List.getElem?_append_left (by omega)] at hv
          exact h3 j v hv
        · rw [List.getElem?_append_right (by omega), hfl] at hv
          have := hc (j - k * 5) v (by rw [← Array.getElem?_toList]; exact hv)
          refine ⟨b, o, e, ?_⟩
          rw [show o + j = o + k * 5 + (j - k * 5) by omega]
          exact this
  obtain ⟨zs, h1, h2, h3⟩ := key rows.length (Nat.le_refl _)
  exact ⟨zs, by rw [h1, List.take_length], h2, h3⟩
theorem own_rows_in {w : World} {base n B : Nat} {v : Value} {zs : List RowZ} {e : TypeId} (h : w.ownsRow base e 5 v n (zs.flatMap rowL)) (hz : ∀ z ∈ zs, Row placedR w B z.2.1 z.1.items) :
    ∃ A c, v = .slice A zs.length c ∧ n = zs.length ∧ ∀ rows, zs.map (·.1) = rows → (∀ r ∈ rows, r.items.length ≤ 100000) → RowsIn w B A rows := by
  have hl : n = zs.length := by
    have := h.1
    rw [flat_len rowL_len] at this
    exact (Nat.eq_of_mul_eq_mul_right (by decide) this).symm
  subst hl
  rcases h.2 with ⟨rfl, h0⟩ | ⟨g, cap, cur, rfl, hb, hg, h1, h2, h3, h4⟩
  · have : zs = [] := List.eq_nil_of_length_eq_zero h0
    subst this
    exact ⟨none, 0, rfl, rfl, fun rows e _ => by subst e; exact rows_none _ _ _⟩
  · refine ⟨_, cap, rfl, rfl, fun rows e hi i r hr => ?_⟩
    subst e
    rw [List.getElem?_map, Option.map_eq_some_iff] at hr
    obtain ⟨z, hzi, rfl⟩ := hr
    refine ⟨g, 0, z.2.1, z.2.2, rfl, fun j v hv => ?_, hz z (List.mem_of_getElem? hzi), hi _ (List.mem_map_of_mem (List.mem_of_getElem? hzi))⟩
    have hj : j < 5 := (Array.getElem?_eq_some_iff.1 hv).1
    have hi : i < zs.length := (List.getElem?_eq_some_iff.1 hzi).1
    have := h.cellAt (g := g) (cap := cap) (i * 5 + j) (by omega)
    rw [flat_at rowL_len zs i z j hzi hj] at this
    rw [show 0 + i * 5 + j = i * 5 + j by omega]
    refine Eq.trans ?_ (Eq.trans this ?_)
    · simp
    · rw [← hv]; unfold rowL; rw [Array.getElem?_toList]
theorem C_cells {w : World} {A : Option Addr} {xs : List (List Int)} (h : kL.C w A xs.length xs) : ∃ us : List Value, us.length = xs.length ∧ Sees w A us ∧ (∀ u ∈ us, u.oneCell' = true) ∧ ∀ (i : Nat) (x : List Int), xs[i]? = some x → ∃ u, us[i]? = some u ∧ kL.K w x [u] := by
  have key : ∀ k, k ≤ xs.length → ∃ us : List Value, us.length = k ∧ Sees w A us ∧ (∀ u ∈ us, u.oneCell' = true) ∧ ∀ (i : Nat) (x : List Int), i < k → xs[i]? = some x → ∃ u, us[i]? = some u ∧ kL.K w x [u] := by
    intro k
    induction k with
    | zero => intro _; exact ⟨[], rfl, fun j v hv => by simp at hv, by simp, fun i x hi => by omega⟩
    | succ k ih =>
      intro hk
      obtain ⟨us, h1, h2, h3, h4⟩ := ih (by omega)
      obtain ⟨x, hx⟩ := at_lt (show k < xs.length by omega)
      obtain ⟨b, o, A', c', e, hc, hl, hC⟩ := kL_at h hx
      refine ⟨us ++ [.slice A' x.length c'], by simp [h1], fun j v hv => ?_, fun u hu => ?_, fun i y hi hy => ?_⟩
      · by_cases hj : j < k
        · rw [List.getElem?_append_left (by omega)] at hv
          exact h2 j v hv
        · rw [List.getElem?_append_right (by omega), h1] at hv
          have hj2 : j = k := by
            have := (List.getElem?_eq_some_iff.1 hv).1
            simp at this
            omega
          subst hj2
          rw [Nat.sub_self] at hv
          cases hv
          exact ⟨b, o, e, hc⟩
      · rcases List.mem_append.1 hu with hu | hu
        · exact h3 u hu
        · rw [List.mem_singleton.1 hu]; rfl
      · by_cases hi2 : i < k
        · obtain ⟨u, h5, h6⟩ := h4 i y hi2 hy
          exact ⟨u, by rw [List.getElem?_append_left (by omega)]; exact h5, h6⟩
        · have : i = k := by omega
          subst this
          rw [hx] at hy
          cases hy
          exact ⟨_, by rw [List.getElem?_append_right (by omega), h1, Nat.sub_self]; rfl, A', c', rfl, hl, hC⟩
  obtain ⟨us, h1, h2, h3, h4⟩ := key xs.length (Nat.le_refl _)
  exact ⟨us, h1, h2, h3, fun i x hx => h4 i x (List.getElem?_eq_some_iff.1 hx).1 hx⟩
theorem cells_C {w : World} {base n : Nat} {e : TypeId} {v : Value} {us : List Value} {xs : List (List Int)} (h : w.ownsRow base e 1 v n us) (hl : us.length = xs.length) (hk : ∀ (i : Nat) (x : List Int), xs[i]? = some x → ∃ u, us[i]? = some u ∧ kL.K w x [u]) :
    ∃ A c, v = .slice A xs.length c ∧ kL.C w A xs.length xs := by
  have hn : n = xs.length := by have := h.1; omega
  subst hn
  rcases h.2 with ⟨rfl, h0⟩ | ⟨g, cap, cur, rfl, hb, hg, h1, h2, h3, h4⟩
  · have : xs = [] := List.eq_nil_of_length_eq_zero h0
    subst this
    exact ⟨none, 0, rfl, Kd.C_nil _ _⟩
  · refine ⟨_, cap, rfl, rfl, by unfold maxLen at h2; omega, fun _ => ⟨_, rfl, fun j p hp => ?_⟩⟩
    obtain ⟨u, hu, hK⟩ := hk j p hp
    refine ⟨[u], rfl, hK, fun i q hq => ?_⟩
    have hi : i = 0 := by have := (List.getElem?_eq_some_iff.1 hq).1; simp at this; exact this
    subst hi
    cases hq
    have hj : j < xs.length := (List.getElem?_eq_some_iff.1 hp).1
    have hc := h.cellAt (g := g) (cap := cap) j (by omega)
    rw [hu] at hc
    have hadd : (⟨g, 0, none⟩ : Addr).add (j * kL.sz + 0) = ⟨g, j, none⟩ := by
      have : j * kL.sz + 0 = j := by rw [show kL.sz = 1 from rfl]; omega
      rw [this]
      unfold Addr.add
      split <;> simp_all
    rw [hadd]
    exact hc
theorem own_lit0 (w : World) (e : TypeId) : (w.alloc (.cells #[] e)).ownsRow w.heap.size e 1 (.slice (some ⟨w.heap.size, 0, none⟩) 0 0) 0 [] :=
  ⟨rfl, .inr ⟨w.heap.size, 0, #[], rfl, Nat.le_refl _, heap_alloc_new w _, Nat.le_refl _, by unfold maxLen; omega, rfl, rfl⟩⟩
theorem wpList_append_g {P : Program} {ops : Array Oper} {rest : List Oper} {o : Oper} {a : Act} {w : World} {Q : Exit → Act → World → Prop} (hw : Region.wanted o (yielded ops a.tmps) = true) (s x : Operand) (t : TypeId)
    (ho : o.op = .call { callee := .builtin .append, args := #[s, x], argTypes := #[t, t] })
    (base : Nat) (e : TypeId) (z : Value) (size bytes : Nat) (ht : P.underlying t = some (.slice e)) (hi : (P.info? e).map (fun i => (i.zero, i.size, i.bytes)) = some (some z, size, bytes))
    (hzs : z.cells.size = size) (hsz : 0 < size)
    (v : Value) (n : Nat) (xs : List Value) (hs : a.eval s = v) (hown : w.ownsRow base e size v n xs) (A : Option Addr) (m c : Nat) (news : List Value) (hx : a.eval x = .slice A m c) (hl : news.length = m * size) (hr : Sees w A news) (h1 : ∀ u ∈ news, u.oneCell' = true)
    (h63 : n + m ≤ 9223372036854775807) (hbytes : (n + m) * bytes ≤ 140737488355328) (hbase : base ≤ w.heap.size) (hA : A = none → m = 0)
    (h : ∀ v' w', w'.ownsRow base e size v' (n + m) (xs ++ news) → w.grownBy w' v.ownBlock → (v'.ownBlock = v.ownBlock ∨ v'.ownBlock = some w.heap.size) → wpList P ops Q rest (a.put o.dst v') w') : wpList P ops Q (o :: rest) a w := by
  rw [wpList, if_pos hw]
  exact .inl (wp_append_seen s x t ho base e z size bytes ht hi hzs hsz v n xs hs hown A m c news hx hl hr h1 h63 hbytes hbase hA h)
abbrev FontT := Int × Int × Int × List CharT × List Int × List Int × List Int × List Int × List StepT × List Int × List Int
abbrev fontR : Rep FontT := (Rep.seq (Rep.int .i64) (Rep.seq (Rep.int .i64) (Rep.seq (Rep.int .i64) (Rep.seq (Rep.slice charR) (Rep.seq (Rep.slice (Rep.int .i64)) (Rep.seq (Rep.slice (Rep.int .i64)) (Rep.seq (Rep.slice (Rep.int .i64)) (Rep.seq (Rep.slice (Rep.int .i64)) (Rep.seq (Rep.slice stepR) (Rep.seq (Rep.slice (Rep.int .i64)) (Rep.slice (Rep.int .i64))))))))))))
theorem font_of {w : World} {B : Nat} {cs : Array Value} {x : FontT} (h : fontR.K w B cs.toList x) : ∃ d a, cs = fontCells d a ∧ FontIn w B d a := by
  obtain ⟨x0, x1, x2, x3, x4, x5, x6, x7, x8, x9, x10⟩ := x
  obtain ⟨fu0, fv0, hcs, ⟨rfl, fw0⟩, fu1, fv1, rfl, ⟨rfl, fw1⟩, fu2, fv2, rfl, ⟨rfl, fw2⟩, fu3, fv3, rfl, ⟨fA3, fc3, rfl, fl3, fm3, fr3⟩, fu4, fv4, rfl, ⟨fA4, fc4, rfl, fl4, fm4, fr4⟩, fu5, fv5, rfl, ⟨fA5, fc5, rfl, fl5, fm5, fr5⟩, fu6, fv6, rfl, ⟨fA6, fc6, rfl, fl6, fm6, fr6⟩, fu7, fv7, rfl, ⟨fA7, fc7, rfl, fl7, fm7, fr7⟩, fu8, fv8, rfl, ⟨fA8, fc8, rfl, fl8, fm8, fr8⟩, fu9, fv9, rfl, ⟨fA9, fc9, rfl, fl9, fm9, fr9⟩, fA10, fc10, rfl, fl10, fm10, fr10⟩ := h
  refine ⟨{ sum := x0, design := x1, first := x2, chars := x3, widths := x4, heights := x5, depths := x6, italics := x7, steps := x8, kerns := x9, params := x10 },
    { c := fA3, w := fA4, h := fA5, d := fA6, i := fA7, s := fA8, k := fA9, p := fA10, cc := fc3, cw := fc4, ch := fc5, cd := fc6, ci := fc7, cs := fc8, ck := fc9, cp := fc10 }, arr_of hcs, ?_⟩
  exact ⟨fw0, fw1, fw2, fr3, fr4, fr5, fr6, fr7, fr8, fr9, fr10, Nat.le_trans fl3 fm3, Nat.le_trans fl4 fm4, Nat.le_trans fl5 fm5, Nat.le_trans fl6 fm6, Nat.le_trans fl7 fm7, Nat.le_trans fl8 fm8, Nat.le_trans fl9 fm9, Nat.le_trans fl10 fm10⟩
abbrev RowT := Int × Int × Int × Int × List (Int × Int)
abbrev rowR : Rep RowT := Rep.seq (Rep.int .i64) (Rep.seq (Rep.int .i64) (Rep.seq (Rep.int .i64) (Rep.seq (Rep.int .i64) (Rep.slice placedR))))
def rowOf (x : RowT) : RowD := { level := x.1, kind := x.2.1, fin := x.2.2.1, defect := x.2.2.2.1, items := x.2.2.2.2 }
theorem rows_at {w : World} {B : Nat} {A : Option Addr} {l : List RowT} (h : Row rowR w B A l) : RowsAt w B A (l.map rowOf) := fun i r hr => by
  rw [List.getElem?_map, Option.map_eq_some_iff] at hr
  obtain ⟨⟨x0, x1, x2, x3, x4⟩, hx, rfl⟩ := hr
  obtain ⟨b, o, cs, e, _, hK, hc⟩ := h i _ hx
  obtain ⟨c0, d0, rfl, ⟨rfl, _⟩, c1, d1, rfl, ⟨rfl, _⟩, c2, d2, rfl, ⟨rfl, _⟩, c3, d3, rfl, ⟨rfl, _⟩, A4, c4, rfl, h1, h2, h3⟩ := hK
  refine ⟨b, o, A4, c4, e, fun j v hv => ?_, h3, h1, h2⟩
  rw [show o + i * 5 + j = o + (i * rowR.n + j) by rw [show rowR.n = 5 from rfl]; omega]
  exact hc j v (by rw [← hv, ← Array.getElem?_toList]; rfl)
/-! ### Few of each -/
def fewF (d : FontD) : Bool := decide (d.chars.length ≤ 300) && decide (d.steps.length ≤ 300) && decide (d.widths.length ≤ 300) && decide (d.heights.length ≤ 300) && decide (d.depths.length ≤ 300) && decide (d.italics.length ≤ 300) && decide (d.kerns.length ≤ 300) && decide (d.params.length ≤ 300)
set_option maxHeartbeats 2000000 in
theorem fewf_any (d : FontD) (a : FontA) (w : World) :
    Calls Try.prog 7 #[fontV d a] w fun e w' => e = .returned (.bool (fewF d)) ∧ Below w.heap.size w w' := by
  have hbx := Box.new w (fontCells d a) 26
  have hbw := (Below.refl w.heap.size w).alloc (Nat.le_refl _) (.cells (fontCells d a) 26)
  obtain ⟨W, hW⟩ : ∃ W, w.alloc (.cells (fontCells d a) 26) = W := ⟨_, rfl⟩
  rw [hW] at hbx hbw
  obtain ⟨c0, c1, c2, c3, c4, c5, c6, c7, c8, c9, c10⟩ := font_cells hbx
  obtain ⟨res, hres⟩ : ∃ r, Hid (fewF d = r) := ⟨_, Lib.hid rfl⟩
  have HR : Hid _ := Lib.hid hres.out
  rw [hres.out]
  unfold fewF at HR
  clear hres
  by_cases h0 : d.chars.length ≤ 300
  · have F0 : ((d.chars.length : Int) ≤ 300) = True := eq_true (by omega)
    by_cases h1 : d.steps.length ≤ 300
    · have F1 : ((d.steps.length : Int) ≤ 300) = True := eq_true (by omega)
      by_cases h2 : d.widths.length ≤ 300
      · have F2 : ((d.widths.length : Int) ≤ 300) = True := eq_true (by omega)
        by_cases h3 : d.heights.length ≤ 300
        · have F3 : ((d.heights.length : Int) ≤ 300) = True := eq_true (by omega)
          by_cases h4 : d.depths.length ≤ 300
          · have F4 : ((d.depths.length : Int) ≤ 300) = True := eq_true (by omega)
            by_cases h5 : d.italics.length ≤ 300
            · have F5 : ((d.italics.length : Int) ≤ 300) = True := eq_true (by omega)
              by_cases h6 : d.kerns.length ≤ 300
              · have F6 : ((d.kerns.length : Int) ≤ 300) = True := eq_true (by omega)
                by_cases h7 : d.params.length ≤ 300
                · have F7 : ((d.params.length : Int) ≤ 300) = True := eq_true (by omega)
                  go_enter Try.func7, Try.ntmps7
                  go_wp2_with fail
                  go_ret
                  exact ⟨ret_bool rfl (by rw [← HR.out]; simp; try omega), hbw⟩
                · have F7 : ((d.params.length : Int) ≤ 300) = False := eq_false (by omega)
                  go_enter Try.func7, Try.ntmps7
                  go_wp2_with fail
                  go_ret
                  exact ⟨ret_bool rfl (by rw [← HR.out]; simp; try omega), hbw⟩
              · have F6 : ((d.kerns.length : Int) ≤ 300) = False := eq_false (by omega)
                go_enter Try.func7, Try.ntmps7
                go_wp2_with fail
                go_ret
                exact ⟨ret_bool rfl (by rw [← HR.out]; simp; try omega), hbw⟩
            · have F5 : ((d.italics.length : Int) ≤ 300) = False := eq_false (by omega)
              go_enter Try.func7, Try.ntmps7
              go_wp2_with fail
              go_ret
              exact ⟨ret_bool rfl (by rw [← HR.out]; simp; try omega), hbw⟩
          · have F4 : ((d.depths.length : Int) ≤ 300) = False := eq_false (by omega)
            go_enter Try.func7, Try.ntmps7
            go_wp2_with fail
            go_ret
            exact ⟨ret_bool rfl (by rw [← HR.out]; simp; try omega), hbw⟩
        · have F3 : ((d.heights.length : Int) ≤ 300) = False := eq_false (by omega)
          go_enter Try.func7, Try.ntmps7
          go_wp2_with fail
          go_ret
          exact ⟨ret_bool rfl (by rw [← HR.out]; simp; try omega), hbw⟩
      · have F2 : ((d.widths.length : Int) ≤ 300) = False := eq_false (by omega)
        go_enter Try.func7, Try.ntmps7
        go_wp2_with fail
        go_ret
        exact ⟨ret_bool rfl (by rw [← HR.out]; simp; try omega), hbw⟩
    · have F1 : ((d.steps.length : Int) ≤ 300) = False := eq_false (by omega)
      go_enter Try.func7, Try.ntmps7
      go_wp2_with fail
      go_ret
      exact ⟨ret_bool rfl (by rw [← HR.out]; simp; try omega), hbw⟩
  · have F0 : ((d.chars.length : Int) ≤ 300) = False := eq_false (by omega)
    go_enter Try.func7, Try.ntmps7
    go_wp2_with fail
    go_ret
    exact ⟨ret_bool rfl (by rw [← HR.out]; simp; try omega), hbw⟩
end Go.Proofs.Ytbkfofmanpjbfaa.Bk
