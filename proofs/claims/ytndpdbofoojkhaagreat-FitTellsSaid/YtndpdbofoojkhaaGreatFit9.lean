/- joined for a claim: Fit7, Fit8, Fit9 -/
import Derived.Test.YtndpdbofoojkhaaGreatFont6b
import Derived.Test.YtndpdbofoojkhaaGreatOwn
import Derived.Test.YtndpdbofoojkhaaGreatShelf
import Derived.Lib.SliceRun
import Derived.Test.YtndpdbofoojkhaaGreatFit6
import Derived.Test.YtndpdbofoojkhaaGreatLevel2
/- Copies of tables of structs (slices.Clone of characters, steps, traits). -/
namespace Go.Proofs.YtndpdbofoojkhaaGreat.Ft
open Go.RowKit Go.Proofs.YtndpdbofoojkhaaGreat.Kit Go.Proofs.YtndpdbofoojkhaaGreat.Fo
set_option linter.unusedVariables false
set_option linter.unusedSimpArgs false

theorem sees_row {α : Type} {R : Rep α} {f : α → List Value} (hf : ∀ x, (f x).length = R.n) (hR : 0 < R.n) (hk : ∀ w B cs x, R.K w B cs x → cs = f x) {w : World} {B : Nat} {A : Option Addr} {l : List α} (h : Row R w B A l) : Sees w A (l.flatMap f) := by
  intro j v hv
  have hlen := flat_len hf l
  have hj : j < l.length * R.n := by rw [← hlen]; exact (List.getElem?_eq_some_iff.1 hv).1
  have hi : j / R.n < l.length := by rw [Nat.div_lt_iff_lt_mul hR]; exact hj
  obtain ⟨x, hx⟩ := at_lt hi
  obtain ⟨b, o, cs, rfl, hb, hK, hc⟩ := h _ x hx
  have hm : j % R.n < R.n := Nat.mod_lt _ hR
  have e := flat_at hf l _ x (j % R.n) hx hm
  have e2 : j / R.n * R.n + j % R.n = j := by rw [Nat.mul_comm]; exact Nat.div_add_mod j R.n
  rw [e2] at e
  rw [hv] at e
  refine ⟨b, o, rfl, ?_⟩
  have := hc (j % R.n) v (by rw [hk _ _ _ _ hK]; exact e.symm)
  rw [← e2]
  exact this
abbrev stepL (s : StepT) : List Value := [.int .i64 s.1, .int .i64 s.2.1, .int .i64 s.2.2.1, .int .i64 s.2.2.2]
abbrev charL (c : CharT) : List Value := [.int .i64 c.1, .int .i64 c.2.1, .int .i64 c.2.2.1, .int .i64 c.2.2.2.1, .int .i64 c.2.2.2.2.1, .int .i64 c.2.2.2.2.2]
theorem step_K (w : World) (B : Nat) (cs : List Value) (x : StepT) (h : stepR.K w B cs x) : cs = stepL x ∧ ∀ w' B', stepR.K w' B' (stepL x) x := by
  obtain ⟨_, _, rfl, ⟨rfl, h1⟩, _, _, rfl, ⟨rfl, h2⟩, _, _, rfl, ⟨rfl, h3⟩, rfl, h4⟩ := h
  exact ⟨rfl, fun _ _ => ⟨_, _, rfl, ⟨rfl, h1⟩, _, _, rfl, ⟨rfl, h2⟩, _, _, rfl, ⟨rfl, h3⟩, rfl, h4⟩⟩
theorem char_K (w : World) (B : Nat) (cs : List Value) (x : CharT) (h : charR.K w B cs x) : cs = charL x ∧ ∀ w' B', charR.K w' B' (charL x) x := by
  obtain ⟨_, _, rfl, ⟨rfl, h1⟩, _, _, rfl, ⟨rfl, h2⟩, _, _, rfl, ⟨rfl, h3⟩, _, _, rfl, ⟨rfl, h4⟩, _, _, rfl, ⟨rfl, h5⟩, rfl, h6⟩ := h
  exact ⟨rfl, fun _ _ => ⟨_, _, rfl, ⟨rfl, h1⟩, _, _, rfl, ⟨rfl, h2⟩, _, _, rfl, ⟨rfl, h3⟩, _, _, rfl, ⟨rfl, h4⟩, _, _, rfl, ⟨rfl, h5⟩, rfl, h6⟩⟩
theorem one_flat {α : Type} {f : α → List Value} (hf : ∀ x, ∀ u ∈ f x, u.oneCell' = true) (l : List α) : ∀ u ∈ l.flatMap f, u.oneCell' = true := by
  intro u hu
  obtain ⟨x, _, hx⟩ := List.mem_flatMap.1 hu
  exact hf x u hx
theorem row_K {α : Type} {R : Rep α} {f : α → List Value} (hk : ∀ w B cs x, R.K w B cs x → cs = f x ∧ ∀ w' B', R.K w' B' (f x) x) {w : World} {B : Nat} {A : Option Addr} {l : List α} (h : Row R w B A l) (w' : World) (B' : Nat) : ∀ x ∈ l, R.K w' B' (f x) x := by
  intro x hx
  obtain ⟨i, hi⟩ := List.mem_iff_getElem?.1 hx
  obtain ⟨_, _, cs, _, _, hK, _⟩ := h i x hi
  exact (hk _ _ _ _ hK).2 _ _
theorem info_ch : (Tryz.prog.info? 81).map (fun i => (i.zero, i.size, i.bytes)) = some (some (.agg #[.int .i64 0, .int .i64 0, .int .i64 0, .int .i64 0, .int .i64 0, .int .i64 0]), 6, 48) := by kernel_rfl
theorem info_st : (Tryz.prog.info? 79).map (fun i => (i.zero, i.size, i.bytes)) = some (some (.agg #[.int .i64 0, .int .i64 0, .int .i64 0, .int .i64 0]), 4, 32) := by kernel_rfl
theorem info_tr : (Tryz.prog.info? 63).map (fun i => (i.zero, i.size, i.bytes)) = some (some (.agg #[.int .i64 0, .int .i64 0, .int .i64 0, .int .i64 0]), 4, 32) := by kernel_rfl

set_option maxRecDepth 100000 in
set_option maxHeartbeats 1000000 in
theorem clone_char (A : Option Addr) (c : Nat) (l : List CharT) (w : World) {B : Nat} (hx : Row charR w B A l) (hn : l.length ≤ 100000000) :
    Calls Tryz.prog 37 #[.slice A l.length c] w fun e w' => ∃ A' c', e = .returned (.slice A' l.length c') ∧ Row charR w' w'.heap.size A' l ∧ (∀ b o, A' = some ⟨b, o, none⟩ → w.heap.size ≤ b) ∧ Below w.heap.size w w' := by
  have HS := Lib.hid (sees_row (f := charL) (fun _ => rfl) (by decide) (fun w B cs x h => (char_K w B cs x h).1) hx)
  have HK := Lib.hid (row_K char_K hx)
  have HL : Hid ((l.flatMap charL).length = l.length * 6) := Lib.hid (flat_len (f := charL) (N := 6) (fun _ => rfl) l)
  have HO := Lib.hid (one_flat (f := charL) (fun x u hu => by
    simp only [charL, List.mem_cons, List.not_mem_nil, or_false] at hu
    rcases hu with rfl | rfl | rfl | rfl | rfl | rfl <;> rfl) l)
  have hql : ∀ (w : World) (a : Option Addr) (n c n' c' : Nat), (binOp .eql 22 (.slice a n c) (.slice none n' c')).run Tryz.prog w = .ok (.bool a.isNone) w := fun w a n c n' c' => Lib.run_eql_slice_nil w _ _ a n c n' c' Tryz.underlying22
  cases A with
  | none =>
    have h0 := row_none hx rfl
    have hl : l = [] := List.eq_nil_of_length_eq_zero h0
    subst hl
    clear HS HK HL HO
    go_enter Tryz.func37, Tryz.ntmps37
    go_wp2
    go_ret
    exact ⟨none, 0, rfl, fun i x hx => by simp at hx, (by intro b o e; cases e), Below.refl _ _⟩
  | some ad =>
    clear hx
    have HS2 : Hid (Sees (w.alloc (.cells #[] 81)) (some ad) (l.flatMap charL)) := Lib.hid (fun j v hv => by
      obtain ⟨b, o, e, hc⟩ := HS.out j v hv
      exact ⟨b, o, e, old_cell _ hc⟩)
    generalize hq : l.length = q at *
    go_enter Tryz.func37, Tryz.ntmps37
    go_wp2_with (at_builtin
                 go_must (refine wpList_append_seen rfl (.tmp 5) (.tmp 6) _ rfl w.heap.size 81 _ 6 48 Tryz.underlying22 info_ch rfl (by decide) _ 0 [] rfl (World.ownsRow_made w #[] 0 (Nat.le_refl _) (Nat.zero_le _) rfl) (some ad) q c (l.flatMap charL) rfl HL.out HS2.out HO.out (by omega) (by omega) (by simp) (by simp) ?_)
                 intro v5 w5 hown5 hg5 ha5
                 have HO5 := Lib.hid hown5
                 have HG5 := Lib.hid hg5
                 have HA5 := Lib.hid ha5
                 clear hown5 hg5 ha5)
    go_ret
    have ho := HO5.out
    rw [List.nil_append] at ho
    obtain ⟨A', c', rfl, _, hrow, _⟩ := own_rows (R := charR) (f := charL) (fun _ => rfl) (by decide) ho (fun x hx => HK.out _ _ x hx)
    exact ⟨A', c', by subst hq; rfl, hrow, (by intro b o e; subst e; exact own_base ho b rfl), (below_alloc (Below.refl _ _) _).grown HG5.out (by simp) (fun k hk => by
      have : w.heap.size = k := Option.some.inj (show some w.heap.size = some k from hk)
      omega)⟩
set_option maxRecDepth 100000 in
set_option maxHeartbeats 1000000 in
theorem clone_step (A : Option Addr) (c : Nat) (l : List StepT) (w : World) {B : Nat} (hx : Row stepR w B A l) (hn : l.length ≤ 100000000) :
    Calls Tryz.prog 38 #[.slice A l.length c] w fun e w' => ∃ A' c', e = .returned (.slice A' l.length c') ∧ Row stepR w' w'.heap.size A' l ∧ (∀ b o, A' = some ⟨b, o, none⟩ → w.heap.size ≤ b) ∧ Below w.heap.size w w' := by
  have HS := Lib.hid (sees_row (f := stepL) (fun _ => rfl) (by decide) (fun w B cs x h => (step_K w B cs x h).1) hx)
  have HK := Lib.hid (row_K step_K hx)
  have HL : Hid ((l.flatMap stepL).length = l.length * 4) := Lib.hid (flat_len (f := stepL) (N := 4) (fun _ => rfl) l)
  have HO := Lib.hid (one_flat (f := stepL) (fun x u hu => by
    simp only [stepL, List.mem_cons, List.not_mem_nil, or_false] at hu
    rcases hu with rfl | rfl | rfl | rfl <;> rfl) l)
  have hql : ∀ (w : World) (a : Option Addr) (n c n' c' : Nat), (binOp .eql 24 (.slice a n c) (.slice none n' c')).run Tryz.prog w = .ok (.bool a.isNone) w := fun w a n c n' c' => Lib.run_eql_slice_nil w _ _ a n c n' c' Tryz.underlying24
  cases A with
  | none =>
    have h0 := row_none hx rfl
    have hl : l = [] := List.eq_nil_of_length_eq_zero h0
    subst hl
    clear HS HK HL HO
    go_enter Tryz.func38, Tryz.ntmps38
    go_wp2
    go_ret
    exact ⟨none, 0, rfl, fun i x hx => by simp at hx, (by intro b o e; cases e), Below.refl _ _⟩
  | some ad =>
    clear hx
    have HS2 : Hid (Sees (w.alloc (.cells #[] 79)) (some ad) (l.flatMap stepL)) := Lib.hid (fun j v hv => by
      obtain ⟨b, o, e, hc⟩ := HS.out j v hv
      exact ⟨b, o, e, old_cell _ hc⟩)
    generalize hq : l.length = q at *
    go_enter Tryz.func38, Tryz.ntmps38
    go_wp2_with (at_builtin
                 go_must (refine wpList_append_seen rfl (.tmp 5) (.tmp 6) _ rfl w.heap.size 79 _ 4 32 Tryz.underlying24 info_st rfl (by decide) _ 0 [] rfl (World.ownsRow_made w #[] 0 (Nat.le_refl _) (Nat.zero_le _) rfl) (some ad) q c (l.flatMap stepL) rfl HL.out HS2.out HO.out (by omega) (by omega) (by simp) (by simp) ?_)
                 intro v5 w5 hown5 hg5 ha5
                 have HO5 := Lib.hid hown5
                 have HG5 := Lib.hid hg5
                 have HA5 := Lib.hid ha5
                 clear hown5 hg5 ha5)
    go_ret
    have ho := HO5.out
    rw [List.nil_append] at ho
    obtain ⟨A', c', rfl, _, hrow, _⟩ := own_rows (R := stepR) (f := stepL) (fun _ => rfl) (by decide) ho (fun x hx => HK.out _ _ x hx)
    exact ⟨A', c', by subst hq; rfl, hrow, (by intro b o e; subst e; exact own_base ho b rfl), (below_alloc (Below.refl _ _) _).grown HG5.out (by simp) (fun k hk => by
      have : w.heap.size = k := Option.some.inj (show some w.heap.size = some k from hk)
      omega)⟩
set_option maxRecDepth 100000 in
set_option maxHeartbeats 1000000 in
theorem clone_trait (A : Option Addr) (c : Nat) (l : List StepT) (w : World) {B : Nat} (hx : Row stepR w B A l) (hn : l.length ≤ 100000000) :
    Calls Tryz.prog 36 #[.slice A l.length c] w fun e w' => ∃ A' c', e = .returned (.slice A' l.length c') ∧ Row stepR w' w'.heap.size A' l ∧ (∀ b o, A' = some ⟨b, o, none⟩ → w.heap.size ≤ b) ∧ Below w.heap.size w w' := by
  have HS := Lib.hid (sees_row (f := stepL) (fun _ => rfl) (by decide) (fun w B cs x h => (step_K w B cs x h).1) hx)
  have HK := Lib.hid (row_K step_K hx)
  have HL : Hid ((l.flatMap stepL).length = l.length * 4) := Lib.hid (flat_len (f := stepL) (N := 4) (fun _ => rfl) l)
  have HO := Lib.hid (one_flat (f := stepL) (fun x u hu => by
    simp only [stepL, List.mem_cons, List.not_mem_nil, or_false] at hu
    rcases hu with rfl | rfl | rfl | rfl <;> rfl) l)
  have hql : ∀ (w : World) (a : Option Addr) (n c n' c' : Nat), (binOp .eql 27 (.slice a n c) (.slice none n' c')).run Tryz.prog w = .ok (.bool a.isNone) w := fun w a n c n' c' => Lib.run_eql_slice_nil w _ _ a n c n' c' Tryz.underlying27
  cases A with
  | none =>
    have h0 := row_none hx rfl
    have hl : l = [] := List.eq_nil_of_length_eq_zero h0
    subst hl
    clear HS HK HL HO
    go_enter Tryz.func36, Tryz.ntmps36
    go_wp2
    go_ret
    exact ⟨none, 0, rfl, fun i x hx => by simp at hx, (by intro b o e; cases e), Below.refl _ _⟩
  | some ad =>
    clear hx
    have HS2 : Hid (Sees (w.alloc (.cells #[] 63)) (some ad) (l.flatMap stepL)) := Lib.hid (fun j v hv => by
      obtain ⟨b, o, e, hc⟩ := HS.out j v hv
      exact ⟨b, o, e, old_cell _ hc⟩)
    generalize hq : l.length = q at *
    go_enter Tryz.func36, Tryz.ntmps36
    go_wp2_with (at_builtin
                 go_must (refine wpList_append_seen rfl (.tmp 5) (.tmp 6) _ rfl w.heap.size 63 _ 4 32 Tryz.underlying27 info_tr rfl (by decide) _ 0 [] rfl (World.ownsRow_made w #[] 0 (Nat.le_refl _) (Nat.zero_le _) rfl) (some ad) q c (l.flatMap stepL) rfl HL.out HS2.out HO.out (by omega) (by omega) (by simp) (by simp) ?_)
                 intro v5 w5 hown5 hg5 ha5
                 have HO5 := Lib.hid hown5
                 have HG5 := Lib.hid hg5
                 have HA5 := Lib.hid ha5
                 clear hown5 hg5 ha5)
    go_ret
    have ho := HO5.out
    rw [List.nil_append] at ho
    obtain ⟨A', c', rfl, _, hrow, _⟩ := own_rows (R := stepR) (f := stepL) (fun _ => rfl) (by decide) ho (fun x hx => HK.out _ _ x hx)
    exact ⟨A', c', by subst hq; rfl, hrow, (by intro b o e; subst e; exact own_base ho b rfl), (below_alloc (Below.refl _ _) _).grown HG5.out (by simp) (fun k hk => by
      have : w.heap.size = k := Option.some.inj (show some w.heap.size = some k from hk)
      omega)⟩
theorem clone_int (A : Option Addr) (c : Nat) (l : List Int) (w : World) {B : Nat} (hx : Row (Rep.int .i64) w B A l) (hn : l.length ≤ 100000000) :
    Calls Tryz.prog 39 #[.slice A l.length c] w fun e w' => ∃ A' c', e = .returned (.slice A' l.length c') ∧ Row (Rep.int .i64) w' w'.heap.size A' l ∧ (∀ b o, A' = some ⟨b, o, none⟩ → w.heap.size ≤ b) ∧ Below w.heap.size w w' := by
  cases A with
  | none =>
    have h0 := row_none hx rfl
    have hl : l = [] := List.eq_nil_of_length_eq_zero h0
    subst hl
    refine (Tryz.slices_Clone_int_nil 0 c w).mono ?_
    rintro e w' ⟨rfl, rfl⟩
    exact ⟨none, 0, rfl, fun i x hx => by simp at hx, (by intro b o e; cases e), Below.refl _ _⟩
  | some ad =>
    cases l with
    | nil =>
      refine (Tryz.slices_Clone_int_zero ad c w).mono ?_
      rintro e w' ⟨v, rfl, ho, _, hb⟩
      obtain ⟨A', c', rfl, _, hrow, _⟩ := own_row (l := []) ho (by simp)
      exact ⟨A', c', rfl, hrow, (by intro b o e; subst e; exact own_base ho b rfl), hb⟩
    | cons y l =>
      obtain ⟨b, o, e, _, _, _⟩ := int_at hx (i := 0) (x := y) rfl
      cases e
      refine (Tryz.slices_Clone_int b o (y :: l).length c (y :: l) w (Nat.le_refl _) (by omega) (fun j hj => ?_)).mono ?_
      · obtain ⟨z, hz⟩ := at_lt hj
        obtain ⟨b', o', e, _, hc, _⟩ := int_at hx hz
        cases e
        rw [hc, List.getD_eq_getElem?_getD, hz]; rfl
      · rintro e w' ⟨v, rfl, ho, _, hb⟩
        rw [List.take_length] at ho
        obtain ⟨A', c', rfl, _, hrow, _⟩ := own_row ho (row_wf hx)
        exact ⟨A', c', rfl, hrow, (by intro b o e; subst e; exact own_base ho b rfl), hb⟩
end Go.Proofs.YtndpdbofoojkhaaGreat.Ft
/- The glyphs of codes (lig.Set). -/
namespace Go.Proofs.YtndpdbofoojkhaaGreat.Ft
open Go.RowKit Go.Proofs.YtndpdbofoojkhaaGreat.Kit Go.Proofs.YtndpdbofoojkhaaGreat.Fo Go.Proofs.YtndpdbofoojkhaaGreat.Lv
set_option linter.unusedVariables false
set_option linter.unusedSimpArgs false

/-- Glyphs one behind the other, in blocks from one on. -/
def GRow (n : Nat) (w : World) (A : Option Addr) (xs : List (Int × Int)) : Prop := ∀ (i : Nat) (x : Int × Int), xs[i]? = some x → ∃ b o, A = some ⟨b, o, none⟩ ∧ n ≤ b ∧ b < w.heap.size ∧ w.cell? ⟨b, o + i * 2, none⟩ = some (.int .i64 x.1) ∧ w.cell? ⟨b, o + i * 2 + 1, none⟩ = some (.int .i64 x.2)
abbrev glyL (x : Int × Int) : List Value := [.int .i64 x.1, .int .i64 x.2]
abbrev glyV (x : Int × Int) : Value := .agg #[.int .i64 x.1, .int .i64 x.2]
theorem gly_own {w : World} {base n : Nat} {e : TypeId} {v : Value} {xs : List (Int × Int)} (h : w.ownsRow base e 2 v n (xs.flatMap glyL)) : ∃ A c, v = .slice A xs.length c ∧ n = xs.length ∧ GRow base w A xs := by
  have hl : n = xs.length := by
    have := h.1
    rw [flat_len (f := glyL) (N := 2) (fun _ => rfl)] at this
    omega
  subst hl
  rcases h.2 with ⟨rfl, h0⟩ | ⟨g, cap, cur, rfl, hb, hg, h1, h2, h3, h4⟩
  · have : xs = [] := List.eq_nil_of_length_eq_zero h0
    subst this
    exact ⟨none, 0, rfl, rfl, fun i x hx => by simp at hx⟩
  · refine ⟨_, cap, rfl, rfl, fun i x hx => ?_⟩
    have hi : i < xs.length := (List.getElem?_eq_some_iff.1 hx).1
    have hlt : g < w.heap.size := (Array.getElem?_eq_some_iff.1 hg).1
    refine ⟨g, 0, rfl, hb, hlt, ?_, ?_⟩
    · have := h.cellAt (g := g) (cap := cap) (i * 2 + 0) (by omega)
      rw [flat_at (f := glyL) (N := 2) (fun _ => rfl) xs i x 0 hx (by omega)] at this
      rw [Nat.zero_add]; exact this
    · have := h.cellAt (g := g) (cap := cap) (i * 2 + 1) (by omega)
      rw [flat_at (f := glyL) (N := 2) (fun _ => rfl) xs i x 1 hx (by omega)] at this
      rw [Nat.zero_add]; exact this
theorem info_gl : (Tryz.prog.info? 54).map (fun i => (i.zero, i.size, i.bytes)) = some (some (.agg #[.int .i64 0, .int .i64 0]), 2, 16) := by kernel_rfl
theorem has_wf {d : FontD} (ht : tfmB d = true) {c : Int} (h : hasB d c = true) : 0 ≤ c ∧ c < 512 := by
  have := tfm_sizes ht
  simp only [hasB, Bool.and_eq_true, decide_eq_true_eq] at h
  omega
theorem gly_last (pre : List (Int × Int)) (a b u : Int) : ((pre ++ [(a, b)]).flatMap glyL).set (pre.length * 2) (.int .i64 u) = (pre ++ [(u, b)]).flatMap glyL := by
  have hl := flat_len (f := glyL) (N := 2) (fun _ => rfl) pre
  rw [List.flatMap_append, List.flatMap_append, List.set_append_right _ _ (by omega), hl, Nat.sub_self]
  rfl
theorem gly_last1 (pre : List (Int × Int)) (a b u : Int) : ((pre ++ [(a, b)]).flatMap glyL).set (pre.length * 2 + 1) (.int .i64 u) = (pre ++ [(a, u)]).flatMap glyL := by
  have hl := flat_len (f := glyL) (N := 2) (fun _ => rfl) pre
  rw [List.flatMap_append, List.flatMap_append, List.set_append_right _ _ (by omega), hl, show pre.length * 2 + 1 - pre.length * 2 = 1 by omega]
  rfl
theorem gly_one (l : List (Int × Int)) : ∀ u ∈ l.flatMap glyL, u.oneCell' = true := one_flat (f := glyL) (fun x u hu => by
  simp only [glyL, List.mem_cons, List.not_mem_nil, or_false] at hu
  rcases hu with rfl | rfl <;> rfl) l

theorem badc_any (d : FontD) (a : FontA) (x : Int) (g : Nat) (W : World) {B : Nat} (hB : B ≤ W.heap.size) (hF : FontIn W B d a) (ht : tfmB d = true) (hbx : Box W g (fontCells d a) 26) :
    Calls Tryz.prog 47 #[.int .i64 x, .pointer (some ⟨g, 0, none⟩)] W fun e w' => e = .returned (.bool (badC d x)) ∧ Below W.heap.size W w' := by
  obtain ⟨q, hq⟩ : ∃ q, Hid (badC d x = q) := ⟨_, Lib.hid rfl⟩
  rw [hq.out]
  by_cases h1 : x < 33
  · have HV : Hid (true = q) := Lib.hid (by rw [← hq.out, badC, decide_eq_true h1]; rfl)
    have F1 : (x < 33) = True := eq_true h1
    clear h1 hF ht hbx hq
    go_enter Tryz.func47, Tryz.ntmps47
    go_wp2_with fail
    go_ret
    exact ⟨ret_bool rfl HV.out, Below.refl _ _⟩
  · by_cases h2 : 126 < x
    · have HV : Hid (true = q) := Lib.hid (by rw [← hq.out, badC, decide_eq_true h2]; simp)
      have F1 : (x < 33) = False := eq_false h1
      have F2 : (126 < x) = True := eq_true h2
      clear h1 h2 hF ht hbx hq
      go_enter Tryz.func47, Tryz.ntmps47
      go_wp2_with fail
      go_ret
      exact ⟨ret_bool rfl HV.out, Below.refl _ _⟩
    · have H := Lib.hid (has_any d a x W hB hF ht (by simp only [Lit.wf, Bool.and_eq_true, decide_eq_true_eq]; have hmin : IntKind.i64.min = -9223372036854775808 := rfl; have hmax : IntKind.i64.max = 9223372036854775807 := rfl; omega))
      have HV : Hid ((!hasB d x) = q) := Lib.hid (by rw [← hq.out, badC, decide_eq_false h1, decide_eq_false h2]; rfl)
      have F1 : (x < 33) = False := eq_false h1
      have F2 : (126 < x) = False := eq_false h2
      obtain ⟨c0, c1, c2, c3, c4, c5, c6, c7, c8, c9, c10⟩ := font_cells hbx
      generalize hasB d x = z at *
      clear h1 h2 hF ht hbx hq
      go_enter Tryz.func47, Tryz.ntmps47
      go_wp2_with fail
      with_reducible refine H.out.mono ?_
      rintro e w' ⟨rfl, hb⟩
      clear c0 c1 c2 c3 c4 c5 c6 c7 c8 c9 c10
      go_wp2_with fail
      go_ret
      exact ⟨ret_bool rfl HV.out, hb⟩
/-- What the loop of lig.Set holds. -/
def SetI (d : FontD) (L : List Int) (k : Nat) (xs : List (Int × Int)) : Prop := (k = 0 ∧ xs = []) ∨ (0 < k ∧ ∃ pre cur, xs = pre ++ [(cur, 0)] ∧ setG d L = pre ++ setFrom d cur (L.drop k) ∧ hasB d cur = true ∧ pre.length < k)
theorem set_first {d : FontD} {L : List Int} {c : Int} (hc : L[0]? = some c) (hh : hasB d c = true) : SetI d L 1 [(c, 0)] := by
  cases L with
  | nil => simp at hc
  | cons y L =>
    simp at hc
    subst hc
    exact .inr ⟨by omega, [], y, rfl, rfl, hh, by simp⟩
end Go.Proofs.YtndpdbofoojkhaaGreat.Ft
/- The glyphs of codes: lig.Set whole. -/
namespace Go.Proofs.YtndpdbofoojkhaaGreat.Ft
open Go.RowKit Go.Proofs.YtndpdbofoojkhaaGreat.Kit Go.Proofs.YtndpdbofoojkhaaGreat.Fo Go.Proofs.YtndpdbofoojkhaaGreat.Lv
set_option linter.unusedVariables false
set_option linter.unusedSimpArgs false

def setV (d : FontD) (L : List Int) : List (Int × Int) := if setE d L = 0 then setG d L else []
theorem app_keep {w W w5 : World} {g n sz : Nat} {e t : TypeId} {v : Value} {xs : List Value} {cs : Array Value} (ho : W.ownsRow (g + 1) e sz v n xs) (hg : W.grownBy w5 v.ownBlock) (hbx : Box W g cs t) (hb : Below w.heap.size w W) (hw : w.heap.size = g) (hs : g + 1 ≤ W.heap.size) :
    Box w5 g cs t ∧ Below w.heap.size w w5 ∧ g + 1 ≤ w5.heap.size := by
  have hk : ∀ k, v.ownBlock = some k → g + 1 ≤ k := fun k hk => own_base ho k hk
  refine ⟨(hg.block g hbx.lt (fun e => ?_)).trans hbx, hb.grown hg (by omega) (fun k e => by have := hk k e; omega), Nat.le_trans hs hg.size⟩
  have := hk g e.symm
  omega
theorem own_form {w : World} {base n sz : Nat} {e : TypeId} {v : Value} {xs : List Value} (h : w.ownsRow base e sz v n xs) (hn : 0 < n) : ∃ gA cA, v = .slice (some ⟨gA, 0, none⟩) n cA ∧ base ≤ gA ∧ gA < w.heap.size := by
  rcases h.2 with ⟨_, h0⟩ | ⟨g, cap, cur, rfl, hb, hg, _⟩
  · omega
  · exact ⟨g, cap, rfl, hb, (Array.getElem?_eq_some_iff.1 hg).1⟩
theorem gly_snoc (l : List (Int × Int)) (x : Int × Int) : (l ++ [x]).flatMap glyL = l.flatMap glyL ++ glyL x := by simp
theorem own_last {w : World} {base gA cA : Nat} {e : TypeId} {pre : List (Int × Int)} {cur z : Int} (h : w.ownsRow base e 2 (.slice (some ⟨gA, 0, none⟩) (pre.length + 1) cA) (pre.length + 1) ((pre ++ [(cur, z)]).flatMap glyL)) :
    w.cell? ⟨gA, pre.length * 2, none⟩ = some (.int .i64 cur) ∧ w.cell? ⟨gA, pre.length * 2 + 1, none⟩ = some (.int .i64 z) := by
  have hx : (pre ++ [(cur, z)])[pre.length]? = some (cur, z) := by simp
  refine ⟨?_, ?_⟩
  · have := h.cellAt (g := gA) (cap := cA) (pre.length * 2 + 0) (by omega)
    rw [flat_at (f := glyL) (N := 2) (fun _ => rfl) _ _ _ 0 hx (by omega)] at this
    exact this
  · have := h.cellAt (g := gA) (cap := cA) (pre.length * 2 + 1) (by omega)
    rw [flat_at (f := glyL) (N := 2) (fun _ => rfl) _ _ _ 1 hx (by omega)] at this
    exact this
theorem box_set4 {w : World} {g : Nat} {a b c d x y z u : Value} {t : TypeId} (h : Box w g #[a, b, c, d] t) : Box ((((w.setCell ⟨g, 0, none⟩ x).setCell ⟨g, 1, none⟩ y).setCell ⟨g, 2, none⟩ z).setCell ⟨g, 3, none⟩ u) g #[x, y, z, u] t := by
  simpa using (((h.set 0 x).set 1 y).set 2 z).set 3 u
theorem set_next {d : FontD} {L : List Int} {k : Nat} {pre : List (Int × Int)} {cur cd : Int} (hL : ligB d = true) (hcd : L[k]? = some cd) (hc : hasB d cd = true) (hset : setG d L = pre ++ setFrom d cur (L.drop k)) (hpre : pre.length < k) :
    (∀ s, ruleP d cur cd = some s → s.2.2.1 = 0 → SetI d L (k + 1) (pre ++ [(s.2.2.2, 0)])) ∧
    (∀ s, ruleP d cur cd = some s → s.2.2.1 ≠ 0 → SetI d L (k + 1) (pre ++ [(cur, d.kerns.getD (kernAt s).toNat 0)] ++ [(cd, 0)])) ∧
    (ruleP d cur cd = none → SetI d L (k + 1) (pre ++ [(cur, 0)] ++ [(cd, 0)])) := by
  have hd := drop_cons hcd
  rw [hd, setFrom] at hset
  refine ⟨fun s hs h0 => .inr ⟨by omega, pre, _, rfl, ?_, (rule_ok hL hs).1 h0, by omega⟩, fun s hs h0 => .inr ⟨by omega, _, cd, rfl, ?_, hc, by simp; omega⟩, fun hs => .inr ⟨by omega, _, cd, rfl, ?_, hc, by simp; omega⟩⟩
  · rw [hs] at hset
    simpa [h0] using hset
  · rw [hs] at hset
    simpa [h0] using hset
  · rw [hs] at hset
    simpa using hset
set_option maxRecDepth 100000 in
set_option maxHeartbeats 8000000 in
theorem set_any (d : FontD) (a : FontA) (A : Option Addr) (c : Nat) (L : List Int) (w : World) {B : Nat} (hB : B ≤ w.heap.size) (hF : FontIn w B d a) (hx : Row (Rep.int .i64) w B A L) (hl : L.length ≤ 1000) :
    Calls Tryz.prog 21 #[fontV d a, .slice A L.length c] w fun e w' => ∃ Ag cg, e = .returned (.tuple #[.slice Ag (setV d L).length cg, .int .i64 (setE d L)]) ∧ GRow w.heap.size w' Ag (setV d L) ∧ Below w.heap.size w w' := by
  have hbx := Box.new w (fontCells d a) 26
  have hbw := (Below.refl w.heap.size w).alloc (Nat.le_refl _) (.cells (fontCells d a) 26)
  obtain ⟨W1, hW⟩ : ∃ W1, w.alloc (.cells (fontCells d a) 26) = W1 := ⟨_, rfl⟩
  have hW1s : W1.heap.size = w.heap.size + 1 := by rw [← hW]; simp
  rw [hW] at hbx hbw
  have HC := Lib.hid (lig_any d a W1 (Nat.le_trans hB hbw.size) (hF.mono (hbw.mono hB)))
  have e1 : ∀ args w, (callFunc 47 args).run Tryz.prog w = .ok (.enter 47 args) w := enters_of Tryz.func47 (by kernel_rfl) rfl
  have HCon : Hid (∀ W, tfmB d = true → Below w.heap.size w W → Box W w.heap.size (fontCells d a) 26 → Calls Tryz.prog 46 #[.slice A L.length c, .func (.func 47) #[] #[.pointer (some ⟨w.heap.size, 0, none⟩)]] W fun e w' => e = .returned (.bool (L.any (badC d))) ∧ Below W.heap.size W w') :=
    Lib.hid fun W ht hb hbx => contains_any _ #[.pointer (some ⟨w.heap.size, 0, none⟩)] (badC d) e1 A c L W (B := B) (Nat.le_trans hB hb.size) (hx.mono (hb.mono hB)) (by omega) (fun V x hv => badc_any d a x w.heap.size V (Nat.le_trans hB (Nat.le_trans hb.size hv.size)) ((hF.mono (hb.mono hB)).mono (hv.mono (Nat.le_trans hB hb.size))) ht (hbx.below hv))
  have hmf : ∀ fn first cap w, (Instr.makeFunc fn first cap).run Tryz.prog w = .ok (.func fn first cap) w := fun _ _ _ _ => rfl
  obtain ⟨c0, c1, c2, c3, c4, c5, c6, c7, c8, c9, c10⟩ := font_cells hbx
  obtain ⟨E, hE⟩ : ∃ E, Hid (setE d L = E) := ⟨_, Lib.hid rfl⟩
  obtain ⟨XS, hXS⟩ : ∃ XS, Hid (setV d L = XS) := ⟨_, Lib.hid rfl⟩
  rw [hE.out, hXS.out]
  clear e1
  cases hl1 : ligB d with
  | false =>
    rw [hl1] at HC
    have H1 : Hid (E = 70 ∧ XS = []) := Lib.hid (by
      have : setE d L = 70 := by rw [setE, hl1]; rfl
      rw [← hE.out, ← hXS.out, setV, this]; simp)
    obtain ⟨rfl, rfl⟩ := H1.out
    clear HCon hl1 H1 hE hXS
    go_enter Tryz.func21, Tryz.ntmps21
    go_wp2_with fail
    with_reducible refine HC.out.mono ?_
    rintro e w2 ⟨rfl, hb⟩
    clear c0 c1 c2 c3 c4 c5 c6 c7 c8 c9 c10
    go_wp2_with fail
    go_ret2
    exact ⟨none, 0, rfl, fun i x hx => by simp at hx, hbw.trans (hb.mono hbw.size)⟩
  | true =>
    rw [hl1] at HC
    have HT := Lib.hid (lig_made hl1).1
    have HL := Lib.hid hl1
    clear hl1
    go_enter Tryz.func21, Tryz.ntmps21
    go_wp2_with fail
    with_reducible refine HC.out.mono ?_
    rintro e w2 ⟨rfl, hb⟩
    clear c0 c1 c2 c3 c4 c5 c6 c7 c8 c9 c10 HC
    have hbw2 := hbw.trans (hb.mono hbw.size)
    have hbx2 := hbx.below hb
    have hs2 := hb.size
    clear hbx hbw hW hb
    have HC2 := Lib.hid (HCon.out w2 HT.out hbw2 hbx2)
    clear HCon
    cases hq : L.any (badC d) with
    | true =>
      rw [hq] at HC2
      have H1 : Hid (E = 80 ∧ XS = []) := Lib.hid (by
        have : setE d L = 80 := by rw [setE, if_pos HL.out, if_pos hq]
        rw [← hE.out, ← hXS.out, setV, this]; simp)
      obtain ⟨rfl, rfl⟩ := H1.out
      clear hq H1 hE hXS
      go_wp2_with fail
      with_reducible refine HC2.out.mono ?_
      rintro e w3 ⟨rfl, hb3⟩
      go_wp2_with fail
      go_ret2
      exact ⟨none, 0, rfl, fun i x hx => by simp at hx, below_join hbw2 hb3⟩
    | false =>
      rw [hq] at HC2
      have H1 : Hid (E = 0 ∧ XS = setG d L) := Lib.hid (by
        have : setE d L = 0 := by rw [setE, if_pos HL.out, hq]; rfl
        rw [← hE.out, ← hXS.out, setV, this]; simp)
      have HH : Hid (∀ x ∈ L, hasB d x = true) := Lib.hid (fun x hxL => by
        have h1 := List.any_eq_false.1 hq x hxL
        simp [badC] at h1
        exact h1.2)
      obtain ⟨hE0, hXS0⟩ := H1.out
      subst hE0
      have HX := Lib.hid hXS0
      clear hq H1 hE hXS hXS0
      go_wp2_with fail
      with_reducible refine HC2.out.mono ?_
      rintro e w3 ⟨rfl, hb3⟩
      clear HC2
      have hbw3 := below_join hbw2 hb3
      have hbx3 := hbx2.below hb3
      have hs3 := hb3.size
      clear hbx2 hbw2 hb3
      have HXX := Lib.hid hx
      have HFF := Lib.hid hF
      clear hx hF
      go_upto_region 7 with fail
      obtain ⟨g, hg⟩ : ∃ g, w.heap.size = g := ⟨_, rfl⟩
      have HG := Lib.hid hg
      rw [hg] at hbx3 ⊢
      go_loopw [6, 20] (fun v i wr => ∃ (k : Nat) (xs : List (Int × Int)), k ≤ L.length ∧ i = .int .i64 (k : Int) ∧ Hid (SetI d L k xs) ∧ Hid (wr.ownsRow (g + 1) 54 2 v xs.length (xs.flatMap glyL)) ∧ Box wr g (fontCells d a) 26 ∧ Below w.heap.size w wr ∧ g + 1 ≤ wr.heap.size) (fun _ i _ => L.length - (intOf i).toNat)
      case atStart => exact ⟨0, [], by omega, rfl, Lib.hid (.inl ⟨rfl, rfl⟩), Lib.hid (own_nil _ _ _ _), hbx3, hbw3, by omega⟩
      case round =>
        rename World => wr
        obtain ⟨k, xs, hk, rfl, HI, HO, hbr, hbwr, hsr⟩ := hrel
        clear hbx3 hbw3 hs3
        by_cases hlt : k < L.length
        · obtain ⟨cd, hcd⟩ := at_lt hlt
          obtain ⟨b, o, rfl, hb0, hcc, hwc⟩ := int_at (HXX.out.mono (hbwr.mono hB)) hcd
          have hcc' : wr.cell? ⟨b, o + k, none⟩ = some (.int .i64 cd) := hcc
          have HCD := Lib.hid hcd
          have HHc := Lib.hid (HH.out cd (List.mem_of_getElem? hcd))
          clear hcd hcc
          rcases Nat.eq_zero_or_pos k with hk0 | hk0
          · subst hk0
            have hxs : xs = [] := by
              rcases HI.out with ⟨_, h⟩ | ⟨h, _⟩
              · exact h
              · omega
            subst hxs
            rw [Nat.add_zero] at hcc'
            have HSF := Lib.hid (set_first HCD.out HHc.out)
            have hf0 : Below w.heap.size w (wr.alloc (.cells #[.int .i64 cd, .int .i64 0] 54)) := below_alloc hbwr _
            have hbf0 := hbr.alloc (.cells #[.int .i64 cd, .int .i64 0] 54)
            clear hbwr hbr
            go_wp2_with (at_builtin
                         go_must (refine wpList_append_seen rfl (.tmp 27) (.tmp 30) _ rfl (g + 1) 54 _ 2 16 Tryz.underlying55 info_gl rfl (by decide) _ 0 [] rfl (own_setSize HO.out (below_alloc (Below.refl _ _) _)) (some ⟨wr.heap.size, 0, none⟩) 1 1 (glyL (cd, 0)) rfl rfl (sees_new _ _ _) (by simp [Value.oneCell']) (by omega) (by omega) (by simp; omega) (by simp) ?_)
                         intro v5 w5 hown5 hg5 ha5
                         have HO5 := Lib.hid hown5
                         have HG5 := Lib.hid hg5
                         clear hown5 hg5 ha5)
            go_roundw
            case rel =>
              obtain ⟨i1, i2, i3⟩ := app_keep (own_setSize HO.out (below_alloc (Below.refl _ _) _)) HG5.out hbf0 hf0 HG.out (by simp; omega)
              exact ⟨1, [(cd, 0)], by omega, by go_num, HSF, HO5, i1, i2, i3⟩
            case measure => simp [intOf]; omega
          · obtain ⟨pre, cur, hxs, hset, hcur, hpre⟩ : ∃ pre cur, xs = pre ++ [(cur, 0)] ∧ setG d L = pre ++ setFrom d cur (L.drop k) ∧ hasB d cur = true ∧ pre.length < k := by
              rcases HI.out with ⟨h, _⟩ | ⟨_, h⟩
              · omega
              · exact h
            have HSet := Lib.hid hset
            have HCur := Lib.hid hcur
            subst hxs
            obtain ⟨gA, cA, hv, hA1, hA2⟩ := own_form HO.out (by simp)
            have hlen : List.length (pre ++ [(cur, (0 : Int))]) = pre.length + 1 := by simp
            rw [hlen] at hv HO
            clear hlen
            subst hv
            have HO2 := Lib.hid HO.out
            obtain ⟨q0, q1⟩ := own_last HO.out
            have hfr0 := HO.out.frozenAt (pre.length * 2)
            have hfr1 := HO.out.frozenAt (pre.length * 2 + 1)
            clear hset hcur HI HO
            obtain ⟨c0, c1, c2, c3, c4, c5, c6, c7, c8, c9, c10⟩ := font_cells hbr
            have F1 : ((k : Int) == 0) = false := by rw [beq_eq_false_iff_ne]; omega
            go_upto_region 12 with fail
            obtain ⟨i1, i2⟩ := has_wf HT.out HCur.out
            have hwcur : (Lit.int .i64 cur).wf = true := wf64 (by omega)
            obtain ⟨r, hr⟩ : ∃ r, Hid (ruleP d cur cd = r) := ⟨_, Lib.hid rfl⟩
            have HR : Hid (∀ W, Below wr.heap.size wr W → Calls Tryz.prog 49 #[fontV d a, .int .i64 cur, .int .i64 cd] W fun e W' => e = .returned (.tuple #[stepV (r.getD (0, 0, 0, 0)), .bool r.isSome]) ∧ Below W.heap.size W W') := Lib.hid (fun W hb => (rule_any d a cur cd W (B := B) (by have := hb.size; have := hbwr.size; omega) ((HFF.out.mono (hbwr.mono hB)).mono (hb.mono (by have := hbwr.size; omega))) HT.out hwcur).mono (by
              rintro e W' ⟨r', hr', rfl, hb'⟩
              rw [hr.out] at hr'
              subst hr'
              exact ⟨rfl, hb'⟩))
            have HK : Hid (∀ w', Below wr.heap.size wr w' → Below wr.heap.size wr w' ∧ w'.cell? ⟨g, 0, none⟩ = some (.int .i64 d.sum) ∧ w'.cell? ⟨g, 1, none⟩ = some (.int .i64 d.design) ∧ w'.cell? ⟨g, 2, none⟩ = some (.int .i64 d.first) ∧ w'.cell? ⟨g, 3, none⟩ = some (.slice a.c d.chars.length a.cc) ∧ w'.cell? ⟨g, 4, none⟩ = some (.slice a.w d.widths.length a.cw) ∧ w'.cell? ⟨g, 5, none⟩ = some (.slice a.h d.heights.length a.ch) ∧ w'.cell? ⟨g, 6, none⟩ = some (.slice a.d d.depths.length a.cd) ∧ w'.cell? ⟨g, 7, none⟩ = some (.slice a.i d.italics.length a.ci) ∧ w'.cell? ⟨g, 8, none⟩ = some (.slice a.s d.steps.length a.cs) ∧ w'.cell? ⟨g, 9, none⟩ = some (.slice a.k d.kerns.length a.ck) ∧ w'.cell? ⟨g, 10, none⟩ = some (.slice a.p d.params.length a.cp) ∧ w'.cell? ⟨gA, pre.length * 2, none⟩ = some (.int .i64 cur)) := Lib.hid fun w' hb => ⟨hb, later hb c0, later hb c1, later hb c2, later hb c3, later hb c4, later hb c5, later hb c6, later hb c7, later hb c8, later hb c9, later hb c10, later hb q0⟩
            have HQ1 := Lib.hid q1
            have HF0 := Lib.hid hfr0
            have HF1 := Lib.hid hfr1
            clear c0 c1 c2 c3 c4 c5 c6 c7 c8 c9 c10 q0 q1 hfr0 hfr1 hcc' i1 i2 hwcur F1
            go_cut [10, 11] from 37 to 47 (fun v l wx => ∃ g6, v = .pointer (some ⟨g6, 0, none⟩) ∧ l = .bool r.isSome ∧ Box wx g6 (stepC (r.getD (0, 0, 0, 0))) 79 ∧ Below wr.heap.size wr wx)
            case first =>
              generalize hr0 : r.getD (0, 0, 0, 0) = s at *
              obtain ⟨sa, sb, sc, sd⟩ := s
              generalize hr1 : r.isSome = ri at *
              clear hr0 hr1 hr
              go_region_held3 (fun w' => Below wr.heap.size wr w' ∧ w'.cell? ⟨g, 0, none⟩ = some (.int .i64 d.sum) ∧ w'.cell? ⟨g, 1, none⟩ = some (.int .i64 d.design) ∧ w'.cell? ⟨g, 2, none⟩ = some (.int .i64 d.first) ∧ w'.cell? ⟨g, 3, none⟩ = some (.slice a.c d.chars.length a.cc) ∧ w'.cell? ⟨g, 4, none⟩ = some (.slice a.w d.widths.length a.cw) ∧ w'.cell? ⟨g, 5, none⟩ = some (.slice a.h d.heights.length a.ch) ∧ w'.cell? ⟨g, 6, none⟩ = some (.slice a.d d.depths.length a.cd) ∧ w'.cell? ⟨g, 7, none⟩ = some (.slice a.i d.italics.length a.ci) ∧ w'.cell? ⟨g, 8, none⟩ = some (.slice a.s d.steps.length a.cs) ∧ w'.cell? ⟨g, 9, none⟩ = some (.slice a.k d.kerns.length a.ck) ∧ w'.cell? ⟨g, 10, none⟩ = some (.slice a.p d.params.length a.cp) ∧ w'.cell? ⟨gA, pre.length * 2, none⟩ = some (.int .i64 cur))
                (first | exact HK.out _ (by repeat (first | (with_reducible exact Below.refl _ _) | (with_reducible apply below_drew) | (with_reducible apply below_alloc) | (with_reducible refine below_set ?_ (by first | (simp; done) | exact (show Below wr.heap.size wr _ from by repeat (first | (with_reducible exact Below.refl _ _) | (with_reducible apply below_drew) | (with_reducible apply below_alloc) | (with_reducible refine below_join ?_ (by assumption)))).size) _) | (with_reducible refine below_join ?_ (by assumption)) | exact (‹Below wr.heap.size wr _ ∧ _›.1))))
                (first
                  | (go_at_call 49; with_reducible refine (HR.out _ (by repeat (first | (with_reducible exact Below.refl _ _) | (with_reducible apply below_drew) | (with_reducible apply below_alloc) | (with_reducible refine below_set ?_ (by first | (simp; done) | exact (show Below wr.heap.size wr _ from by repeat (first | (with_reducible exact Below.refl _ _) | (with_reducible apply below_drew) | (with_reducible apply below_alloc) | (with_reducible refine below_join ?_ (by assumption)))).size) _) | (with_reducible refine below_join ?_ (by assumption)) | exact (‹Below wr.heap.size wr _ ∧ _›.1)))).mono ?_; rintro e wq ⟨rfl, hbq⟩; (first | (have B6 := (Box.new _ _ _).below hbq; have z0 := B6.cell 0 rfl; have z1 := B6.cell 1 rfl; have z2 := B6.cell 2 rfl; have z3 := B6.cell 3 rfl; have z4 := B6.free 0; have z5 := B6.free 1; have z6 := B6.free 2; have z7 := B6.free 3) | (have B6 := (Box.new _ _ _).drew.below hbq; have z0 := B6.cell 0 rfl; have z1 := B6.cell 1 rfl; have z2 := B6.cell 2 rfl; have z3 := B6.cell 3 rfl; have z4 := B6.free 0; have z5 := B6.free 1; have z6 := B6.free 2; have z7 := B6.free 3) | skip)))
              all_goals (go_wp2_with fail; go_meet)
              all_goals
                refine ⟨_, rfl, rfl, ?_, ?_⟩
                · first | (with_reducible exact box_set4 B6) | (with_reducible exact Box.new _ _ _) | (apply Box.drew; with_reducible exact Box.new _ _ _) | (apply Box.drew; with_reducible exact box_set4 B6)
                · first | exact (‹Below wr.heap.size wr _ ∧ _›).1
            case rest =>
            rename World => wx
            obtain ⟨g6, rfl, rfl, B6, hbx⟩ := hcut
            with_reducible apply_assumption
            have HO3 := Lib.hid (own_setSize HO2.out hbx)
            have hbrx := hbr.below hbx
            have hbwx := below_join hbwr hbx
            have hsx := hbx.size
            obtain ⟨q0, q1⟩ := own_last HO3.out
            have hfr0 := HO3.out.frozenAt (pre.length * 2)
            have hfr1 := HO3.out.frozenAt (pre.length * 2 + 1)
            have b0 := B6.cell 0 rfl
            have b1 := B6.cell 1 rfl
            have b2 := B6.cell 2 rfl
            have b3 := B6.cell 3 rfl
            have F1 : ((k : Int) == 0) = false := by rw [beq_eq_false_iff_ne]; omega
            clear hbr hbwr HK HR HQ1 HF0 HF1 HO2
            have HN := Lib.hid (set_next HL.out HCD.out HHc.out HSet.out hpre)
            cases r with
            | none =>
              have HI2 := Lib.hid (HN.out.2.2 hr.out)
              have hba : Below w.heap.size w (wx.alloc (.cells #[.int .i64 cd, .int .i64 0] 54)) := below_alloc hbwx _
              have hbfa := hbrx.alloc (.cells #[.int .i64 cd, .int .i64 0] 54)
              have HOa := Lib.hid (own_setSize HO3.out (below_alloc (Below.refl _ _) (.cells #[.int .i64 cd, .int .i64 0] 54)))
              clear hbwx hbrx q0 q1 hfr0 hfr1 b0 b1 b2 b3 HN B6
              go_wp2_with (at_builtin
                           go_must (refine wpList_append_seen rfl (.tmp 75) (.tmp 78) _ rfl (g + 1) 54 _ 2 16 Tryz.underlying55 info_gl rfl (by decide) _ (pre.length + 1) _ rfl HOa.out (some ⟨wx.heap.size, 0, none⟩) 1 1 (glyL (cd, 0)) rfl rfl (sees_new _ _ _) (by simp [Value.oneCell']) (by omega) (by omega) (by simp; omega) (by simp) ?_)
                           intro v5 w5 hown5 hg5 ha5
                           have HO5 := Lib.hid hown5
                           have HG5 := Lib.hid hg5
                           clear hown5 hg5 ha5)
              go_roundw
              case rel =>
                obtain ⟨i1, i2, i3⟩ := app_keep HOa.out HG5.out hbfa hba HG.out (by simp; omega)
                refine ⟨k + 1, _, by omega, by go_num, HI2, Lib.hid ?_, i1, i2, i3⟩
                have ho := HO5.out
                rw [← gly_snoc] at ho
                rw [show List.length (pre ++ [(cur, 0)] ++ [(cd, (0 : Int))]) = pre.length + 1 + 1 by simp]
                exact ho
              case measure => simp [intOf]; omega
            | some s =>
              obtain ⟨sa, sb, sc, sd⟩ := s
              have HRO := Lib.hid (rule_ok HL.out hr.out)
              by_cases h0 : sc = 0
              · have HI2 := Lib.hid (HN.out.1 _ hr.out h0)
                subst h0
                clear HN hbx
                have b2' : wx.cell? ⟨g6, 2, none⟩ = some (.int .i64 0) := b2
                have b3' : wx.cell? ⟨g6, 3, none⟩ = some (.int .i64 sd) := b3
                clear b2 b3 q1 hfr1
                go_wp2_with fail
                go_roundw
                case rel =>
                  obtain ⟨o1, o2⟩ := HO3.out.stored (pre.length * 2) (.int .i64 sd)
                  refine ⟨k + 1, _, by omega, by go_num, HI2, Lib.hid ?_, ?_, ?_, by simpa using Nat.le_trans hsr hsx⟩
                  · rw [gly_last] at o1
                    rw [show List.length (pre ++ [(sd, (0 : Int))]) = pre.length + 1 by simp]
                    exact o1
                  · exact hbrx.far (p := ⟨gA, pre.length * 2, none⟩) (by show g ≠ gA; omega) _
                  · exact hbwx.setCell (p := ⟨gA, pre.length * 2, none⟩) (by have := HG.out; show w.heap.size ≤ gA; omega) _
                case measure => simp [intOf]; omega
              · have HI2 := Lib.hid (HN.out.2.1 _ hr.out h0)
                obtain ⟨k1, k2⟩ := HRO.out.2.1 h0
                obtain ⟨kk1, kk2, kk3, kk4⟩ := HRO.out.2.2
                dsimp only [kernAt] at k1 k2
                dsimp only at kk3 kk4
                have F2 : (sc == 0) = false := by simpa using h0
                obtain ⟨kv, hkv⟩ := at_lt (l := d.kerns) (i := (256 * (sc - 128) + sd).toNat) (by omega)
                have HKV : Hid (d.kerns.getD (kernAt (sa, sb, sc, sd)).toNat 0 = kv) := Lib.hid (by rw [List.getD_eq_getElem?_getD]; show (d.kerns[(256 * (sc - 128) + sd).toNat]?).getD 0 = kv; rw [hkv]; rfl)
                obtain ⟨bk, ok, hak, hbk, hck, _⟩ := int_at (HFF.out.kerns.mono (hbwx.mono hB)) hkv
                have c9 := (font_cells hbrx).2.2.2.2.2.2.2.2.2.1
                rw [hak] at c9
                have b2' : wx.cell? ⟨g6, 2, none⟩ = some (.int .i64 sc) := b2
                have b3' : wx.cell? ⟨g6, 3, none⟩ = some (.int .i64 sd) := b3
                obtain ⟨o1, o2⟩ := HO3.out.stored (pre.length * 2 + 1) (.int .i64 kv)
                rw [gly_last1] at o1
                have hba : Below w.heap.size w ((wx.setCell ⟨gA, pre.length * 2 + 1, none⟩ (.int .i64 kv)).alloc (.cells #[.int .i64 cd, .int .i64 0] 54)) := below_alloc (hbwx.setCell (p := ⟨gA, pre.length * 2 + 1, none⟩) (by have := HG.out; show w.heap.size ≤ gA; omega) _) _
                have hbfa := (hbrx.far (p := ⟨gA, pre.length * 2 + 1, none⟩) (by show g ≠ gA; omega) (.int .i64 kv)).alloc (.cells #[.int .i64 cd, .int .i64 0] 54)
                have HOa := Lib.hid (own_setSize o1 (below_alloc (Below.refl _ _) (.cells #[.int .i64 cd, .int .i64 0] 54)))
                rw [HKV.out] at HI2
                have HSN : Hid (Sees ((wx.setCell ⟨gA, pre.length * 2 + 1, none⟩ (.int .i64 kv)).alloc (.cells #[.int .i64 cd, .int .i64 0] 54)) (some ⟨wx.heap.size, 0, none⟩) (glyL (cd, 0))) := Lib.hid (by
                  have h := sees_new (wx.setCell ⟨gA, pre.length * 2 + 1, none⟩ (.int .i64 kv)) #[.int .i64 cd, .int .i64 0] 54
                  have hse : (wx.setCell ⟨gA, pre.length * 2 + 1, none⟩ (.int .i64 kv)).heap.size = wx.heap.size := by simp [World.setCell]
                  rw [hse] at h
                  exact h)
                clear HN hbx h0 hak hkv b2 b3 b0 b1 q0 hfr0 o1 o2 hbwx hbrx
                go_wp2_with (at_builtin
                             go_must (refine wpList_append_seen rfl (.tmp 75) (.tmp 78) _ rfl (g + 1) 54 _ 2 16 Tryz.underlying55 info_gl rfl (by decide) _ (pre.length + 1) _ rfl HOa.out (some ⟨wx.heap.size, 0, none⟩) 1 1 (glyL (cd, 0)) rfl rfl HSN.out (by simp [Value.oneCell']) (by omega) (by omega) (by simp; omega) (by simp) ?_)
                             intro v5 w5 hown5 hg5 ha5
                             have HO5 := Lib.hid hown5
                             have HG5 := Lib.hid hg5
                             clear hown5 hg5 ha5)
                go_roundw
                case rel =>
                  obtain ⟨i1, i2, i3⟩ := app_keep HOa.out HG5.out hbfa hba HG.out (by simp; omega)
                  refine ⟨k + 1, _, by omega, by go_num, HI2, Lib.hid ?_, i1, i2, i3⟩
                  have ho := HO5.out
                  rw [← gly_snoc] at ho
                  rw [show List.length (pre ++ [(cur, kv)] ++ [(cd, (0 : Int))]) = pre.length + 1 + 1 by simp]
                  exact ho
                case measure => simp [intOf]; omega
        · have hxs : xs = setG d L := by
            have hk2 : k = L.length := by omega
            rcases HI.out with ⟨h1, h2⟩ | ⟨_, pre, cur, h1, h2, _⟩
            · have : L = [] := List.eq_nil_of_length_eq_zero (by omega)
              rw [h2, this]; rfl
            · rw [h1, h2, List.drop_eq_nil_of_le (by omega)]; rfl
          subst hxs
          obtain ⟨Ag, cg, rfl, hn, hgr⟩ := gly_own HO.out
          clear hn
          go_wp2_with fail
          go_ret2
          rw [HX.out]
          refine ⟨Ag, cg, rfl, fun i x hx => ?_, hbwr⟩
          obtain ⟨b, o, h1, h2, h3, h4⟩ := hgr i x hx
          exact ⟨b, o, h1, by have := HG.out; omega, h3, h4⟩
end Go.Proofs.YtndpdbofoojkhaaGreat.Ft
