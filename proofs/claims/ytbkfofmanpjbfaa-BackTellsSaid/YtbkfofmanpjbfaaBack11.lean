/- The calls at the head of all statements. -/
import Derived.Test.YtbkfofmanpjbfaaBack10
import Derived.Deep.MidRow
namespace Go.Proofs.Ytbkfofmanpjbfaa.Bk
open Go.RowKit Go.Proofs.Ytbkfofmanpjbfaa.Kit Go.Proofs.Ytbkfofmanpjbfaa.Fo Go.Shelf
open Go.Proofs.YtbkfofmanpjbfaaW.PrintWords (Kd)
set_option linter.unusedVariables false
set_option linter.unusedSimpArgs false

theorem rangeAt_box {w : World} {g : Nat} {cs : List Value} {t : TypeId} (h : Box w g cs.toArray t) : w.rangeAt g 0 cs := fun j v hv => by
  rw [Nat.zero_add]
  exact h.cell j (by simpa using hv)
theorem load_font {W : World} {g : Nat} {d : FontD} {a : FontA} {t : TypeId} (h : Box W g (fontCells d a) t) : (Instr.loadAt 26 (.pointer (some ⟨g, 0, none⟩))).run Try.prog W = .ok (fontV d a) W :=
  run_loadAt_mid W g 0 26 (fontCells d a).toList _ (rangeAt_box h) Try.underlying26 rfl (by kernel_rfl)
theorem ld_law {ops : Array Oper} {rest : List Oper} {op : Oper} {a : Act} {w : World} {Q : Exit → Act → World → Prop} {g : Nat} {fv : Value} (hld : (Instr.loadAt 26 (.pointer (some ⟨g, 0, none⟩))).run Try.prog w = .ok fv w) (hgd : op.guard = none) (x : Operand) (ho : op.op = .load 26 x)
    (hx : a.eval x = .pointer (some ⟨g, 0, none⟩)) (h : wpList Try.prog ops Q rest (a.put op.dst fv) w) : wpList Try.prog ops Q (op :: rest) a w :=
  wpList_plain hgd fun _ hK => by
    unfold Oper.wp execOp
    simp only [ho, hx, Sem.run_bind, hld, Sem.run_pure, Result.andThen_ok]
    exact hK _ _ h
theorem placed_box {w : World} {g : Nat} {cs : Array Value} {t : TypeId} (l : List (Int × Int)) (h : Box w g cs t) (hw : ∀ x ∈ l, (Lit.int .i64 x.1).wf = true ∧ (Lit.int .i64 x.2).wf = true) (hc : cs = (l.flatMap fun x => [Value.int .i64 x.1, .int .i64 x.2]).toArray) : Row placedR w w.heap.size (some ⟨g, 0, none⟩) l := by
  intro i x hx
  have hm := hw x (List.mem_of_getElem? hx)
  refine ⟨g, 0, [.int .i64 x.1, .int .i64 x.2], rfl, h.lt, ⟨[_], _, rfl, ⟨rfl, hm.1⟩, rfl, hm.2⟩, fun j v hv => ?_⟩
  refine h.cell _ ?_
  subst hc
  have hj : j < 2 := (List.getElem?_eq_some_iff.1 hv).1
  have := flat_at (f := fun x : Int × Int => [Value.int .i64 x.1, .int .i64 x.2]) (N := 2) (fun _ => rfl) l i x j hx hj
  rw [List.getElem?_toArray, Nat.zero_add, show placedR.n = 2 from rfl, this]
  exact hv
abbrev rowsCells (g1 g2 : Nat) : Array Value := #[.int .i64 0, .int .i64 2, .int .i64 0, .int .i64 0, .slice (some ⟨g1, 0, none⟩) 4 4, .int .i64 0, .int .i64 5, .int .i64 0, .int .i64 0, .slice (some ⟨g2, 0, none⟩) 1 1]
theorem rows_lit {W : World} {g1 g2 g3 : Nat} {t : TypeId} (q1 : Box W g1 #[.int .i64 128, .int .i64 0, .int .i64 32, .int .i64 0, .int .i64 97, .int .i64 0, .int .i64 45, .int .i64 0] t) (q2 : Box W g2 #[.int .i64 98, .int .i64 0] t) {t3 : TypeId} (q3 : Box W g3 (rowsCells g1 g2) t3) :
    RowsIn W W.heap.size (some ⟨g3, 0, none⟩) [rowE1, rowE2] := by
  have r1 := placed_box rowE1.items q1 (by decide) rfl
  have r2 := placed_box rowE2.items q2 (by decide) rfl
  intro i r hr
  match i, hr with
  | 0, hr =>
    cases hr
    refine ⟨g3, 0, some ⟨g1, 0, none⟩, 4, rfl, fun j v hv => ?_, r1, by decide⟩
    match j, hv with
    | 0, hv => cases hv; exact q3.cell 0 rfl
    | 1, hv => cases hv; exact q3.cell 1 rfl
    | 2, hv => cases hv; exact q3.cell 2 rfl
    | 3, hv => cases hv; exact q3.cell 3 rfl
    | 4, hv => cases hv; exact q3.cell 4 rfl
  | 1, hr =>
    cases hr
    refine ⟨g3, 0, some ⟨g2, 0, none⟩, 1, rfl, fun j v hv => ?_, r2, by decide⟩
    match j, hv with
    | 0, hv => cases hv; exact q3.cell 5 rfl
    | 1, hv => cases hv; exact q3.cell 6 rfl
    | 2, hv => cases hv; exact q3.cell 7 rfl
    | 3, hv => cases hv; exact q3.cell 8 rfl
    | 4, hv => cases hv; exact q3.cell 9 rfl
theorem RowsIn.up {w : World} {B B' : Nat} {Ar : Option Addr} {rows : List RowD} (h : RowsIn w B Ar rows) (hb : B ≤ B') : RowsIn w B' Ar rows := fun i r hr => by
  obtain ⟨b, o, A, c, e, h1, h2, h3⟩ := h i r hr
  exact ⟨b, o, A, c, e, h1, h2.up hb, h3⟩
theorem rows_one {W : World} {B : Nat} {A : Option Addr} {r : RowD} {rs : List RowD} (h : RowsIn W B A (r :: rs)) : RowsIn W B A [r] := fun i q hq => by
  match i, hq with
  | 0, hq => exact h 0 q hq
theorem rows_none (W : World) (B : Nat) (A : Option Addr) : RowsIn W B A [] := fun i q hq => by simp at hq
abbrev litZ : Value := .agg #[.int .i64 0, .int .i64 0, .int .i64 0, .slice none 0 0, .slice none 0 0, .slice none 0 0, .slice none 0 0, .slice none 0 0, .slice none 0 0, .slice none 0 0, .slice none 0 0]
theorem box2_I {w : World} {g : Nat} {a b : Int} {t : TypeId} (h : Box w g #[.int .i64 a, .int .i64 b] t) : kI.C w (some ⟨g, 0, none⟩) 2 [a, b] := by
  refine ⟨rfl, by omega, fun _ => ⟨_, rfl, fun j p hp => ?_⟩⟩
  match j, hp with
  | 0, hp =>
    cases hp
    refine ⟨_, rfl, rfl, fun i u hu => ?_⟩
    match i, hu with
    | 0, hu => cases hu; exact h.cell 0 rfl
  | 1, hp =>
    cases hp
    refine ⟨_, rfl, rfl, fun i u hu => ?_⟩
    match i, hu with
    | 0, hu => cases hu; exact h.cell 1 rfl
theorem field_font (d : FontD) (a : FontA) (w : World) : (Instr.field 49 (faceV8 d a) 0).run Try.prog w = .ok (fontV d a) w := by kernel_rfl
set_option maxRecDepth 10000 in
set_option maxHeartbeats 4000000 in
theorem awake_any (w : World) : Calls Try.prog 6 #[] w fun e w' => e = .returned (.bool true) ∧ Below w.heap.size w w' := by
  have HFace := face18_any w
  have E1 := words_1
  have E2 := text_1
  have E3 := words_3
  have E4 := text_2
  generalize fontE 96 = dE at *
  have E1 := Lib.hid E1
  have E2 := Lib.hid E2
  have E3 := Lib.hid E3
  have E4 := Lib.hid E4
  rename_i F1 F2 F3 F4
  clear F1 F2 F3 F4
  go_enter Try.func6, Try.ntmps6
  go_wp2_with fail
  with_reducible refine HFace.mono ?_
  rintro e w1 ⟨aE, rfl, hF, hb1⟩
  clear HFace
  have hfd := field_font dE aE w1
  go_upto_region 3 with fail
  have q0 := ((Box.new w1 (fontCells dE aE) 26).alloc (.cells #[.int .i64 128, .int .i64 0, .int .i64 32, .int .i64 0, .int .i64 97, .int .i64 0, .int .i64 45, .int .i64 0] 44)).alloc (.cells #[.int .i64 98, .int .i64 0] 44) |>.alloc (.cells (rowsCells (w1.heap.size + 1) (w1.heap.size + 1 + 1)) 42)
  have q1 := ((Box.new (w1.alloc (.cells (fontCells dE aE) 26)) #[.int .i64 128, .int .i64 0, .int .i64 32, .int .i64 0, .int .i64 97, .int .i64 0, .int .i64 45, .int .i64 0] 44).alloc (.cells #[.int .i64 98, .int .i64 0] 44)).alloc (.cells (rowsCells (w1.heap.size + 1) (w1.heap.size + 1 + 1)) 42)
  have q2 := (Box.new ((w1.alloc (.cells (fontCells dE aE) 26)).alloc (.cells #[.int .i64 128, .int .i64 0, .int .i64 32, .int .i64 0, .int .i64 97, .int .i64 0, .int .i64 45, .int .i64 0] 44)) #[.int .i64 98, .int .i64 0] 44).alloc (.cells (rowsCells (w1.heap.size + 1) (w1.heap.size + 1 + 1)) 42)
  have q3 := Box.new (((w1.alloc (.cells (fontCells dE aE) 26)).alloc (.cells #[.int .i64 128, .int .i64 0, .int .i64 32, .int .i64 0, .int .i64 97, .int .i64 0, .int .i64 45, .int .i64 0] 44)).alloc (.cells #[.int .i64 98, .int .i64 0] 44)) (rowsCells (w1.heap.size + 1) (w1.heap.size + 1 + 1)) 42
  have hbw : Below w1.heap.size w1 ((((w1.alloc (.cells (fontCells dE aE) 26)).alloc (.cells #[.int .i64 128, .int .i64 0, .int .i64 32, .int .i64 0, .int .i64 97, .int .i64 0, .int .i64 45, .int .i64 0] 44)).alloc (.cells #[.int .i64 98, .int .i64 0] 44)).alloc (.cells (rowsCells (w1.heap.size + 1) (w1.heap.size + 1 + 1)) 42)) := below_alloc (below_alloc (below_alloc (below_alloc (Below.refl _ _) _) _) _) _
  simp only [World.size_alloc] at q1 q2 q3
  generalize hW : (((w1.alloc (.cells (fontCells dE aE) 26)).alloc (.cells #[.int .i64 128, .int .i64 0, .int .i64 32, .int .i64 0, .int .i64 97, .int .i64 0, .int .i64 45, .int .i64 0] 44)).alloc (.cells #[.int .i64 98, .int .i64 0] 44)).alloc (.cells (rowsCells (w1.heap.size + 1) (w1.heap.size + 1 + 1)) 42) = W at *
  clear hW
  have hR := rows_lit q1 q2 q3
  have hsz := hbw.size
  have hFW := (hF.mono hbw).up hsz
  clear hF
  have b00 := below_join hb1 hbw
  generalize hg : w1.heap.size = g at *
  clear hg
  obtain ⟨fv, hfv⟩ : ∃ v, fontV dE aE = v := ⟨_, rfl⟩
  have h1 : Hid (∀ V, Below W.heap.size W V → Calls Try.prog 9 #[fv, .slice (some ⟨g + 1 + 1 + 1, 0, none⟩) 2 2] V fun e W' => ∃ v, e = .returned (.tuple #[v, .int .i64 0]) ∧ kL.R 23 W' V.heap.size anyK v [[102, 105], [97, 98]] ∧ Below V.heap.size V W') := Lib.hid fun V hb => by
    have := words_s (cr := 2) (w := V) hb.size (hFW.mono hb) (hR.below (Nat.le_refl _) hb) (show Small [rowE1, rowE2] from ⟨by decide, by decide⟩)
    rw [E1.out, hfv] at this
    exact this
  have h2 : Hid (∀ V, Below W.heap.size W V → Calls Try.prog 11 #[fv, .slice (some ⟨g + 1 + 1 + 1, 0, none⟩) 2 2] V fun e W' => ∃ v, e = .returned (.tuple #[v, .int .i64 0]) ∧ kU.R 5 W' V.heap.size anyK v [102, 105, 32, 97, 98] ∧ Below V.heap.size V W') := Lib.hid fun V hb => by
    have := text_any dE aE [rowE1, rowE2] (some ⟨g + 1 + 1 + 1, 0, none⟩) 2 V hb.size (hFW.mono hb) (hR.below (Nat.le_refl _) hb) (show Small [rowE1, rowE2] from ⟨by decide, by decide⟩)
    rw [E2.out, hfv] at this
    exact this
  have h3 : Hid (∀ V, Below W.heap.size W V → Calls Try.prog 9 #[litZ, .slice (some ⟨g + 1 + 1 + 1, 0, none⟩) 2 2] V fun e W' => ∃ v, e = .returned (.tuple #[v, .int .i64 70]) ∧ Below V.heap.size V W') := Lib.hid fun V hb => by
    have := words_s (d := fontZ) (a := fontAZ) (cr := 2) (w := V) (B := V.heap.size) (Nat.le_refl _) (zero_in _ _) ((hR.below (Nat.le_refl _) hb).up hb.size) (show Small [rowE1, rowE2] from ⟨by decide, by decide⟩)
    rw [words_2] at this
    exact this.mono fun e W' h => by
      obtain ⟨v, e1, _, e3⟩ := h
      exact ⟨v, e1, e3⟩
  have h4 : Hid (∀ V, Below W.heap.size W V → Calls Try.prog 9 #[fv, .slice (some ⟨g + 1 + 1 + 1, 0, none⟩) 1 2] V fun e W' => ∃ v, e = .returned (.tuple #[v, .int .i64 230]) ∧ Below V.heap.size V W') := Lib.hid fun V hb => by
    have := words_s (cr := 2) (w := V) hb.size (hFW.mono hb) (rows_one (hR.below (Nat.le_refl _) hb)) (show Small [rowE1] from ⟨by decide, by decide⟩)
    rw [E3.out, hfv] at this
    exact this.mono fun e W' h => by
      obtain ⟨v, e1, _, e3⟩ := h
      exact ⟨v, e1, e3⟩
  have h5 : Hid (∀ V, Below W.heap.size W V → Calls Try.prog 11 #[fv, .slice none 0 0] V fun e W' => ∃ v, e = .returned (.tuple #[v, .int .i64 230]) ∧ Below V.heap.size V W') := Lib.hid fun V hb => by
    have := text_any dE aE [] none 0 V hb.size (hFW.mono hb) (rows_none _ _ _) (show Small [] from ⟨by decide, by decide⟩)
    rw [E4.out, hfv] at this
    exact this.mono fun e W' h => by
      obtain ⟨v, e1, _, e3⟩ := h
      exact ⟨v, e1, e3⟩
  have HLd : Hid (∀ V, Below W.heap.size W V → (Instr.loadAt 26 (.pointer (some ⟨g, 0, none⟩))).run Try.prog V = .ok fv V) := Lib.hid fun V hb => by rw [← hfv]; exact load_font (q0.below hb)
  have HQ0 := Lib.hid q0
  have HFV := Lib.hid hfv
  clear E1 E2 E3 E4 hFW hR q0 q1 q2 q3 hfv hfd
  have b0 : Below W.heap.size W W := Below.refl _ _
  have ld := HLd.out W b0
  go_wp2_with (refine ld_law ld rfl _ rfl rfl ?_)
  with_reducible refine (h1.out _ b0).mono ?_; rintro e w2 ⟨v1, rfl, hR1, hb⟩
  have b1 := below_join b0 hb
  clear hb b0 h1 ld
  have ld := HLd.out _ b1
  go_wp2_with (refine ld_law ld rfl _ rfl rfl ?_)
  with_reducible refine (h2.out _ b1).mono ?_; rintro e w3 ⟨v2, rfl, hR2, hb⟩
  have b2 := below_join b1 hb
  have hR1 := Kd.R_below hR1 hb
  clear hb b1 h2 ld
  go_wp2_with fail
  with_reducible refine (h3.out _ b2).mono ?_; rintro e w4 ⟨v3, rfl, hb⟩
  have b3 := below_join b2 hb
  have hR1 := Kd.R_below hR1 hb
  have hR2 := Kd.R_below hR2 hb
  clear hb b2 h3
  go_upto_region 6 with fail
  have HK : Hid (∀ w', Below w4.heap.size w4 w' → Below w4.heap.size w4 w' ∧ w'.cell? ⟨g, 0, none⟩ = some (.int .i64 dE.sum) ∧ w'.cell? ⟨g, 1, none⟩ = some (.int .i64 dE.design) ∧ w'.cell? ⟨g, 2, none⟩ = some (.int .i64 dE.first) ∧ w'.cell? ⟨g, 3, none⟩ = some (.slice aE.c dE.chars.length aE.cc) ∧ w'.cell? ⟨g, 4, none⟩ = some (.slice aE.w dE.widths.length aE.cw) ∧ w'.cell? ⟨g, 5, none⟩ = some (.slice aE.h dE.heights.length aE.ch) ∧ w'.cell? ⟨g, 6, none⟩ = some (.slice aE.d dE.depths.length aE.cd) ∧ w'.cell? ⟨g, 7, none⟩ = some (.slice aE.i dE.italics.length aE.ci) ∧ w'.cell? ⟨g, 8, none⟩ = some (.slice aE.s dE.steps.length aE.cs) ∧ w'.cell? ⟨g, 9, none⟩ = some (.slice aE.k dE.kerns.length aE.ck) ∧ w'.cell? ⟨g, 10, none⟩ = some (.slice aE.p dE.params.length aE.cp)) := Lib.hid fun w' hb => ⟨hb, font_cells ((HQ0.out.below b3).below hb)⟩
  rw [← HFV.out] at h4
  go_region_held3 (fun w' => Below w4.heap.size w4 w' ∧ w'.cell? ⟨g, 0, none⟩ = some (.int .i64 dE.sum) ∧ w'.cell? ⟨g, 1, none⟩ = some (.int .i64 dE.design) ∧ w'.cell? ⟨g, 2, none⟩ = some (.int .i64 dE.first) ∧ w'.cell? ⟨g, 3, none⟩ = some (.slice aE.c dE.chars.length aE.cc) ∧ w'.cell? ⟨g, 4, none⟩ = some (.slice aE.w dE.widths.length aE.cw) ∧ w'.cell? ⟨g, 5, none⟩ = some (.slice aE.h dE.heights.length aE.ch) ∧ w'.cell? ⟨g, 6, none⟩ = some (.slice aE.d dE.depths.length aE.cd) ∧ w'.cell? ⟨g, 7, none⟩ = some (.slice aE.i dE.italics.length aE.ci) ∧ w'.cell? ⟨g, 8, none⟩ = some (.slice aE.s dE.steps.length aE.cs) ∧ w'.cell? ⟨g, 9, none⟩ = some (.slice aE.k dE.kerns.length aE.ck) ∧ w'.cell? ⟨g, 10, none⟩ = some (.slice aE.p dE.params.length aE.cp))
    (first | exact HK.out _ (below_drew (Below.refl _ _)) | exact HK.out _ (below_join ‹Below w4.heap.size w4 _ ∧ _›.1 hb))
    (first | (go_at_call 9; with_reducible refine (h4.out _ (below_join b3 ‹Below w4.heap.size w4 _ ∧ _›.1)).mono ?_; rintro e w5 ⟨v4, rfl, hb⟩))
  obtain ⟨b5, -⟩ := ‹Below w4.heap.size w4 w5 ∧ _›
  have b4 := below_join b3 b5
  have hR1 := Kd.R_below hR1 b5
  have hR2 := Kd.R_below hR2 b5
  clear HK hb b5 b3 h4
  have ld := HLd.out _ b4
  go_wp2_with (refine ld_law ld rfl _ rfl rfl ?_)
  with_reducible refine (h5.out _ b4).mono ?_; rintro e w6 ⟨v5, rfl, hb⟩
  have b6 := below_join b4 hb
  have hR1 := Kd.R_below hR1 hb
  have hR2 := Kd.R_below hR2 hb
  clear hb b4 h5 ld HLd HQ0 HFV
  obtain ⟨A1, c1, rfl, hc1, hC1⟩ := Kd.R_reads hR1
  obtain ⟨A2, c2, rfl, hc2, hC2⟩ := Kd.R_reads hR2
  have bV := below_alloc (below_alloc (below_alloc (Below.refl w6.heap.size w6) (.cells #[.int .i64 102, .int .i64 105] 3)) (.cells #[.int .i64 97, .int .i64 98] 3)) (.cells #[.slice (some ⟨w6.heap.size, 0, none⟩) 2 2, .slice (some ⟨w6.heap.size + 1, 0, none⟩) 2 2] 23)
  have p1 := box2_I ((Box.new w6 #[.int .i64 102, .int .i64 105] 3).alloc (.cells #[.int .i64 97, .int .i64 98] 3))
  have p2 := box2_I (Box.new (w6.alloc (.cells #[.int .i64 102, .int .i64 105] 3)) #[.int .i64 97, .int .i64 98] 3)
  have p3 := box2_C (e := 23) (ca := 2) (cb := 2) p1 p2 (by decide) (by decide)
  simp only [World.size_alloc] at p3
  have HSame := same_any A1 (some ⟨w6.heap.size + 1 + 1, 0, none⟩) c1 2 [[102, 105], [97, 98]] [[102, 105], [97, 98]] _ (Kd.C_below hC1 bV) p3 (by decide) (by decide) (by decide) (by decide)
  have HC2 := Lib.hid (Kd.C_below hC2 bV)
  rw [decide_eq_true rfl] at HSame
  clear hC1 hC2 hR1 hR2 p1 p2 p3
  go_wp2_with fail
  refine HSame.mono ?_; rintro e w7 ⟨rfl, hb⟩
  have b7 := below_join b6 (below_join bV hb)
  have hstr : (convert 35 9 (.slice A2 5 c2)).run Try.prog w7 = .ok (.string ⟨#[102, 105, 32, 97, 98]⟩) w7 :=
    Go.Proofs.YtbkfofmanpjbfaaW.PrintWords.Kd.C_string Try.underlying35 Try.underlying5 Try.underlying9 (Kd.C_below HC2.out hb)
  clear HSame hb bV b6
  go_wp2_with fail
  go_ret
  exact ⟨rfl, below_join b00 b7⟩
end Go.Proofs.Ytbkfofmanpjbfaa.Bk
