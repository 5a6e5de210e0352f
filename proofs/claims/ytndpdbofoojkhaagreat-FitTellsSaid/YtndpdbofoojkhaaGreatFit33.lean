/- The reference: how long glyphs are (Length). -/
import Derived.Test.YtndpdbofoojkhaaGreatFit32
namespace Go.Proofs.YtndpdbofoojkhaaGreat.Ft
open Go.RowKit Go.Proofs.YtndpdbofoojkhaaGreat.Kit Go.Proofs.YtndpdbofoojkhaaGreat.Fo Go.Proofs.YtndpdbofoojkhaaGreat.Lv Go.Proofs.YtndpdbofoojkhaaGreat.Bad
set_option linter.unusedVariables false
set_option linter.unusedSimpArgs false

theorem yields_any {t : TypeId} {ops : Array Oper} {S : World → Prop} {op : Oper} {a : Act} {fv : Value} {g o : Nat} (hw : Region.wanted op (yielded ops a.tmps) = true) (x : Operand) (ho : op.op = .load t x) (hx : a.eval x = .pointer (some ⟨g, o, none⟩))
    (hS : ∀ w, S w → (Instr.loadAt t (.pointer (some ⟨g, o, none⟩))).run Tryz.prog w = .ok fv w) : YieldsIf Tryz.prog ops S op fv a :=
  .inl ⟨hw, fun w hw' => by
    unfold execOp
    simp only [ho, hx, Sem.run_bind, hS w hw', Sem.run_pure, Result.andThen_ok]⟩
def lenS (d : FaceD) (lev : Int) : Int → List (Int × Int) → Int
  | acc, [] => acc
  | acc, x :: xs => lenS d lev (IntKind.i64.wrap (IntKind.i64.wrap (acc + wideP d x.1 lev) + kernP d x.2 lev)) xs
theorem len_sum {d : FaceD} (hf : faceB d = true) (lev : Int) : ∀ (xs : List (Int × Int)) (acc : Int), (∀ x ∈ xs, hasB d.font x.1 = true ∧ fixB x.2 = true) → wsum d lev acc xs = some (lenS d lev acc xs)
  | [], acc, _ => rfl
  | x :: xs, acc, h => by
    obtain ⟨h1, h2⟩ := h x (by simp)
    have e0 : tellS d 0 x.1 lev = (wideP d x.1 lev, 0) := by simp [tellS, widthV, hf, h1]
    have e1 : tellS d 1 x.2 lev = (kernP d x.2 lev, 0) := by simp [tellS, kernV, hf, h2]
    rw [wsum, e0, e1, if_pos ⟨rfl, rfl⟩, lenS, ← len_sum hf lev xs _ (fun y hy => h y (by simp [hy]))]
    congr 1
    simp only [wrap64, IntKind.wrap_i64]
    omega
theorem glyph_wf {d : FontD} (ht : tfmB d = true) {x : Int × Int} (h : hasB d x.1 = true ∧ fixB x.2 = true) : (Lit.int .i64 x.1).wf = true := by
  obtain ⟨i1, i2⟩ := has_wf ht h.1
  exact wf64 (by omega)
set_option maxRecDepth 100000 in
set_option maxHeartbeats 8000000 in
theorem rlength_any (d : FaceD) (a : FaceA) (sp lev : Int) (Ag : Option Addr) (cg : Nat) (G : List (List (Int × Int))) (w : World) {B : Nat} (hB : B ≤ w.heap.size) (hF : FaceIn w B d a) (hf : faceB d = true) {Q : Nat → Prop} (hG : GG Q w Ag G) (hg : ∀ g ∈ G, ∀ x ∈ g, hasB d.font x.1 = true ∧ fixB x.2 = true) (hl : G.length ≤ 1000) (hgl : ∀ g ∈ G, g.length ≤ 2000) :
    Calls Tryz.prog 85 #[faceV d a, .int .i64 sp, .slice Ag G.length cg, .int .i64 lev] w fun e w' => e = .returned (.int .i64 (wideS d sp G lev)) ∧ Below w.heap.size w w' := by
  have hbx := Box.new w (faceCells d a) 29
  have hbw := below_alloc (Below.refl w.heap.size w) (.cells (faceCells d a) 29)
  obtain ⟨W1, hW⟩ : ∃ W1, w.alloc (.cells (faceCells d a) 29) = W1 := ⟨_, rfl⟩
  rw [hW] at hbx hbw
  obtain ⟨fv, hfv⟩ : ∃ fv, Hid (faceV d a = fv) := ⟨_, Lib.hid rfl⟩
  have HFF : Hid (∀ V, Below w.heap.size w V → FaceIn V B d a) := Lib.hid fun V hb => hF.mono (hb.mono hB)
  obtain ⟨hlig, hsz, hst, hu, hd, hwt⟩ := face_ok hf
  have HW9 : Hid (∀ V x, Below w.heap.size w V → hasB d.font x = true → (Lit.int .i64 x).wf = true → Calls Tryz.prog 96 #[fv, .int .i64 x, .int .i64 lev] V fun e w' => e = .returned (.int .i64 (wideP d x lev)) ∧ Below V.heap.size V w') := Lib.hid fun V x hb hq hx => by
    rw [← hfv.out]
    exact RLv.wide9_any d a x lev V (B := B) (Nat.le_trans hB hb.size) (HFF.out V hb) hx hf hq
  have HK9 : Hid (∀ V x, Calls Tryz.prog 97 #[fv, .int .i64 x, .int .i64 lev] V fun e w' => e = .returned (.int .i64 (kernP d x lev)) ∧ Below V.heap.size V w') := Lib.hid fun V x => by
    rw [← hfv.out]
    exact RLv.kerned9_any d a x lev V hu hd
  have HLd0 : Hid (∀ V, Below W1.heap.size W1 V → (Instr.loadAt 29 (.pointer (some ⟨w.heap.size, 0, none⟩))).run Tryz.prog V = .ok fv V) := Lib.hid fun V hb => by
    rw [← hfv.out]
    exact load_face (hbx.below hb)
  have HBW := Lib.hid hbw
  have HG := Lib.hid hG
  have HGl := Lib.hid hgl
  have HGo := Lib.hid hg
  have HTf := Lib.hid (lig_tfm hlig)
  obtain ⟨X, hX⟩ : ∃ X, Hid (wideS d sp G lev = X) := ⟨_, Lib.hid rfl⟩
  rw [hX.out]
  obtain ⟨I, hI⟩ : ∃ I, Hid (wideI sp G.length = I) := ⟨_, Lib.hid rfl⟩
  have HI : Hid (wrap64 (sp * max ((G.length : Int) - 1) 0) = I) := Lib.hid hI.out
  have HXd : Hid (lenS d lev I G.flatten = X) := Lib.hid (by
    have h := len_sum hf lev G.flatten I (fun x hx => by
      obtain ⟨g, h1, h2⟩ := List.mem_flatten.1 hx
      exact hg g h1 x h2)
    rw [← hX.out, wideS, hI.out, h]; rfl)
  clear hF hG hg hgl hX hI hbx hf hlig hsz hst hu hd hwt
  go_enter Tryz.func85, Tryz.ntmps85
  go_upto_region 3 with fail
  rw [HI.out]
  clear hW hbw
  go_loopw [9, 10] (fun v i wr => ∃ (k : Nat) (acc : Int), k ≤ G.length ∧ v = .int .i64 acc ∧ i = .int .i64 (k : Int) ∧ Hid (lenS d lev I G.flatten = lenS d lev acc (G.drop k).flatten) ∧ Below W1.heap.size W1 wr) (fun _ i _ => G.length - (intOf i).toNat)
  case atStart => exact ⟨0, I, by omega, rfl, rfl, Lib.hid (by simp), Below.refl _ _⟩
  case round =>
    rename World => wr
    obtain ⟨k, acc, hk, rfl, rfl, HS, hbr⟩ := hrel
    by_cases hlt : k < G.length
    · obtain ⟨g, hg⟩ := at_lt hlt
      obtain ⟨b, o, A', c', rfl, hPb, hbl, hcc, hgp⟩ := (HG.out.below (below_join HBW.out hbr)) k g hg
      have HCc := Lib.hid hcc
      have HGP := Lib.hid hgp
      have HD : Hid ((G.drop k).flatten = g ++ (G.drop (k + 1)).flatten) := Lib.hid (by rw [drop_cons hg]; rfl)
      have HGm := Lib.hid (List.mem_of_getElem? hg)
      have hgl := HGl.out g (List.mem_of_getElem? hg)
      obtain ⟨rest, hrest⟩ : ∃ rest, Hid ((G.drop (k + 1)).flatten = rest) := ⟨_, Lib.hid rfl⟩
      have HS2 : Hid (lenS d lev I G.flatten = lenS d lev acc (g ++ rest)) := Lib.hid (by rw [HS.out, HD.out, hrest.out])
      have HBr := Lib.hid hbr
      clear hgp hg hcc
      go_wp2_with fail
      go_loopw [9, 11] (fun v i ws => ∃ (j : Nat) (acc' : Int), j ≤ g.length ∧ v = .int .i64 acc' ∧ i = .int .i64 (j : Int) ∧ Hid (lenS d lev I G.flatten = lenS d lev acc' (g.drop j ++ rest)) ∧ Below wr.heap.size wr ws) (fun _ i _ => g.length - (intOf i).toNat)
      case atStart => exact ⟨0, acc, by omega, rfl, rfl, Lib.hid (by rw [HS2.out, List.drop_zero]), Below.refl _ _⟩
      case round =>
        rename World => ws
        obtain ⟨j, acc', hj, rfl, rfl, HS3, hbs⟩ := hrel
        have hcc := later hbs HCc.out
        by_cases hlt2 : j < g.length
        · obtain ⟨x, hx⟩ := at_lt hlt2
          obtain ⟨b2, o2, rfl, hQ2, q0, q1⟩ := gly_at (HGP.out.below hbs) hx
          have HDx : Hid (g.drop j ++ rest = x :: (g.drop (j + 1) ++ rest)) := Lib.hid (by rw [drop_cons hx]; rfl)
          have HGx := Lib.hid (HGo.out g HGm.out x (List.mem_of_getElem? hx))
          have HBs : Hid (Below w.heap.size w ws) := Lib.hid (below_join (below_join HBW.out HBr.out) hbs)
          have HW : Hid (∀ V, Below ws.heap.size ws V → _) := Lib.hid fun V (hb : Below ws.heap.size ws V) => HW9.out V x.1 (below_join HBs.out hb) HGx.out.1 (glyph_wf HTf.out HGx.out)
          have HKn : Hid (∀ V, Below ws.heap.size ws V → _) := Lib.hid fun V (hb : Below ws.heap.size ws V) => HK9.out V x.2
          have HLd : Hid (∀ w', Below ws.heap.size ws w' → _) := Lib.hid fun w' (hb : Below ws.heap.size ws w') => HLd0.out w' (below_join (below_join HBr.out hbs) hb)
          have HS4 : Hid (lenS d lev I G.flatten = lenS d lev (IntKind.i64.wrap (IntKind.i64.wrap (acc' + wideP d x.1 lev) + kernP d x.2 lev)) (g.drop (j + 1) ++ rest)) := Lib.hid (by rw [HS3.out, HDx.out, lenS])
          have HKe : Hid (∀ w', Below ws.heap.size ws w' → Below ws.heap.size ws w' ∧ w'.cell? ⟨b, o + k, none⟩ = some (.slice (some ⟨b2, o2, none⟩) g.length c') ∧ w'.cell? ⟨b2, o2 + j * 2, none⟩ = some (.int .i64 x.1) ∧ w'.cell? ⟨b2, o2 + j * 2 + 1, none⟩ = some (.int .i64 x.2)) := Lib.hid fun w' hb => ⟨hb, later hb hcc, later hb q0, later hb q1⟩
          generalize wideP d x.1 lev = pw at *
          generalize kernP d x.2 lev = pk at *
          clear hx
          go_upto_region 8 with fail
          clear hcc q0 q1
          refine wp_region_held_drew (S := fun w' => Below ws.heap.size ws w' ∧ w'.cell? ⟨b, o + k, none⟩ = some (.slice (some ⟨b2, o2, none⟩) g.length c') ∧ w'.cell? ⟨b2, o2 + j * 2, none⟩ = some (.int .i64 x.1) ∧ w'.cell? ⟨b2, o2 + j * 2 + 1, none⟩ = some (.int .i64 x.2)) (by kernel_rfl) ?r1hS0 (fun hHeld => ?_)
          case r1hS0 => (try dsimp only); exact HKe.out _ (by repeat (first | (with_reducible exact Below.refl _ _) | (with_reducible apply below_drew) | (with_reducible refine below_join ?_ (by assumption)) | exact hHeld.1))
          (refine take_at (i := 0) (d := (some 33)) (v := ?r1_0v) (a' := ?r1_0b) (l' := #[true, false, false, false, false, false, false, false, false, false, false, false, false, false, false, false, false, false, false, false, false, false, false, false, false, false]) rfl rfl (by kernel_rfl) (by kernel_rfl) (by kernel_rfl) (fun _ _ _ h => h) (by rfl) hHeld (Or.inl ⟨by rfl, ?r1_0hy⟩) ?r1_0a ?r1_0rest; (case r1_0hy => intro w' hSw; (try dsimp only at hSw); go_simp; (try with_reducible rfl)); (case r1_0a => (simp only [Act.put, List.setIfInBounds_toArray, List.set_cons_zero, List.set_cons_succ]; rfl)))
          (refine take_at (i := 1) (d := (some 34)) (v := fv) (a' := ?r1_1b) (l' := #[true, true, false, false, false, false, false, false, false, false, false, false, false, false, false, false, false, false, false, false, false, false, false, false, false, false]) rfl rfl (by kernel_rfl) (by kernel_rfl) (by kernel_rfl) (fun _ _ _ h => h) (by rfl) hHeld (yields_any (by rfl) _ rfl rfl ?r1_1hy) ?r1_1a ?r1_1rest; (case r1_1hy => intro w' hSw; exact HLd.out w' hSw.1); (case r1_1a => (simp only [Act.put, List.setIfInBounds_toArray, List.set_cons_zero, List.set_cons_succ]; rfl)))
          (refine take_at (i := 2) (d := (some 35)) (v := ?r1_2v) (a' := ?r1_2b) (l' := #[true, true, true, false, false, false, false, false, false, false, false, false, false, false, false, false, false, false, false, false, false, false, false, false, false, false]) rfl rfl (by kernel_rfl) (by kernel_rfl) (by kernel_rfl) (fun _ _ _ h => h) (by rfl) hHeld (Or.inl ⟨by rfl, ?r1_2hy⟩) ?r1_2a ?r1_2rest; (case r1_2hy => intro w' hSw; (try dsimp only at hSw); go_simp; (try with_reducible rfl)); (case r1_2a => (simp only [Act.put, List.setIfInBounds_toArray, List.set_cons_zero, List.set_cons_succ]; rfl)))
          (refine take_at (i := 3) (d := (some 36)) (v := ?r1_3v) (a' := ?r1_3b) (l' := #[true, true, true, true, false, false, false, false, false, false, false, false, false, false, false, false, false, false, false, false, false, false, false, false, false, false]) rfl rfl (by kernel_rfl) (by kernel_rfl) (by kernel_rfl) (fun _ _ _ h => h) (by rfl) hHeld (Or.inl ⟨by rfl, ?r1_3hy⟩) ?r1_3a ?r1_3rest; (case r1_3hy => intro w' hSw; (try dsimp only at hSw); go_simp; (try with_reducible rfl)); (case r1_3a => (simp only [Act.put, List.setIfInBounds_toArray, List.set_cons_zero, List.set_cons_succ]; rfl)))
          (refine take_at (i := 4) (d := (some 37)) (v := ?r1_4v) (a' := ?r1_4b) (l' := #[true, true, true, true, true, false, false, false, false, false, false, false, false, false, false, false, false, false, false, false, false, false, false, false, false, false]) rfl rfl (by kernel_rfl) (by kernel_rfl) (by kernel_rfl) (fun _ _ _ h => h) (by rfl) hHeld (Or.inl ⟨by rfl, ?r1_4hy⟩) ?r1_4a ?r1_4rest; (case r1_4hy => intro w' hSw; (try dsimp only at hSw); go_simp; (try with_reducible rfl)); (case r1_4a => (simp only [Act.put, List.setIfInBounds_toArray, List.set_cons_zero, List.set_cons_succ]; rfl)))
          (refine take_at (i := 5) (d := (some 38)) (v := ?r1_5v) (a' := ?r1_5b) (l' := #[true, true, true, true, true, true, false, false, false, false, false, false, false, false, false, false, false, false, false, false, false, false, false, false, false, false]) rfl rfl (by kernel_rfl) (by kernel_rfl) (by kernel_rfl) (fun _ _ _ h => h) (by rfl) hHeld (Or.inl ⟨by rfl, ?r1_5hy⟩) ?r1_5a ?r1_5rest; (case r1_5hy => intro w' hSw; (try dsimp only at hSw); go_simp; (try with_reducible rfl)); (case r1_5a => (simp only [Act.put, List.setIfInBounds_toArray, List.set_cons_zero, List.set_cons_succ]; rfl)))
          (refine take_at (i := 6) (d := (some 39)) (v := ?r1_6v) (a' := ?r1_6b) (l' := #[true, true, true, true, true, true, true, false, false, false, false, false, false, false, false, false, false, false, false, false, false, false, false, false, false, false]) rfl rfl (by kernel_rfl) (by kernel_rfl) (by kernel_rfl) (fun _ _ _ h => h) (by rfl) hHeld (Or.inl ⟨by rfl, ?r1_6hy⟩) ?r1_6a ?r1_6rest; (case r1_6hy => intro w' hSw; (try dsimp only at hSw); go_simp; (try with_reducible rfl)); (case r1_6a => (simp only [Act.put, List.setIfInBounds_toArray, List.set_cons_zero, List.set_cons_succ]; rfl)))
          (refine take_at (i := 7) (d := (some 40)) (v := ?r1_7v) (a' := ?r1_7b) (l' := #[true, true, true, true, true, true, true, true, false, false, false, false, false, false, false, false, false, false, false, false, false, false, false, false, false, false]) rfl rfl (by kernel_rfl) (by kernel_rfl) (by kernel_rfl) (fun _ _ _ h => h) (by rfl) hHeld (Or.inl ⟨by rfl, ?r1_7hy⟩) ?r1_7a ?r1_7rest; (case r1_7hy => intro w' hSw; (try dsimp only at hSw); go_simp; (try with_reducible rfl)); (case r1_7a => (simp only [Act.put, List.setIfInBounds_toArray, List.set_cons_zero, List.set_cons_succ]; rfl)))
          (refine take_at (i := 8) (d := (some 41)) (v := ?r1_8v) (a' := ?r1_8b) (l' := #[true, true, true, true, true, true, true, true, true, false, false, false, false, false, false, false, false, false, false, false, false, false, false, false, false, false]) rfl rfl (by kernel_rfl) (by kernel_rfl) (by kernel_rfl) (fun _ _ _ h => h) (by rfl) hHeld (Or.inl ⟨by rfl, ?r1_8hy⟩) ?r1_8a ?r1_8rest; (case r1_8hy => intro w' hSw; (try dsimp only at hSw); go_simp; (try with_reducible rfl)); (case r1_8a => (simp only [Act.put, List.setIfInBounds_toArray, List.set_cons_zero, List.set_cons_succ]; rfl)))
          (refine take_at (i := 9) (d := (some 42)) (v := ?r1_9v) (a' := ?r1_9b) (l' := #[true, true, true, true, true, true, true, true, true, true, false, false, false, false, false, false, false, false, false, false, false, false, false, false, false, false]) rfl rfl (by kernel_rfl) (by kernel_rfl) (by kernel_rfl) (fun _ _ _ h => h) (by rfl) hHeld (Or.inl ⟨by rfl, ?r1_9hy⟩) ?r1_9a ?r1_9rest; (case r1_9hy => intro w' hSw; (try dsimp only at hSw); go_simp; (try with_reducible rfl)); (case r1_9a => (simp only [Act.put, List.setIfInBounds_toArray, List.set_cons_zero, List.set_cons_succ]; rfl)))
          (refine take_at (i := 10) (d := (some 43)) (v := ?r1_10v) (a' := ?r1_10b) (l' := #[true, true, true, true, true, true, true, true, true, true, true, false, false, false, false, false, false, false, false, false, false, false, false, false, false, false]) rfl rfl (by kernel_rfl) (by kernel_rfl) (by kernel_rfl) (fun _ _ _ h => h) (by rfl) hHeld (Or.inl ⟨by rfl, ?r1_10hy⟩) ?r1_10a ?r1_10rest; (case r1_10hy => intro w' hSw; (try dsimp only at hSw); go_simp; (try with_reducible rfl)); (case r1_10a => (simp only [Act.put, List.setIfInBounds_toArray, List.set_cons_zero, List.set_cons_succ]; rfl)))
          (refine take_at (i := 13) (d := (some 46)) (v := fv) (a' := ?r1_13b) (l' := #[true, true, true, true, true, true, true, true, true, true, true, false, false, true, false, false, false, false, false, false, false, false, false, false, false, false]) rfl rfl (by kernel_rfl) (by kernel_rfl) (by kernel_rfl) (fun _ _ _ h => h) (by rfl) hHeld (yields_any (by rfl) _ rfl rfl ?r1_13hy) ?r1_13a ?r1_13rest; (case r1_13hy => intro w' hSw; exact HLd.out w' hSw.1); (case r1_13a => (simp only [Act.put, List.setIfInBounds_toArray, List.set_cons_zero, List.set_cons_succ]; rfl)))
          (refine take_at (i := 14) (d := (some 47)) (v := ?r1_14v) (a' := ?r1_14b) (l' := #[true, true, true, true, true, true, true, true, true, true, true, false, false, true, true, false, false, false, false, false, false, false, false, false, false, false]) rfl rfl (by kernel_rfl) (by kernel_rfl) (by kernel_rfl) (fun _ _ _ h => h) (by rfl) hHeld (Or.inl ⟨by rfl, ?r1_14hy⟩) ?r1_14a ?r1_14rest; (case r1_14hy => intro w' hSw; (try dsimp only at hSw); go_simp; (try with_reducible rfl)); (case r1_14a => (simp only [Act.put, List.setIfInBounds_toArray, List.set_cons_zero, List.set_cons_succ]; rfl)))
          (refine take_at (i := 15) (d := (some 48)) (v := ?r1_15v) (a' := ?r1_15b) (l' := #[true, true, true, true, true, true, true, true, true, true, true, false, false, true, true, true, false, false, false, false, false, false, false, false, false, false]) rfl rfl (by kernel_rfl) (by kernel_rfl) (by kernel_rfl) (fun _ _ _ h => h) (by rfl) hHeld (Or.inl ⟨by rfl, ?r1_15hy⟩) ?r1_15a ?r1_15rest; (case r1_15hy => intro w' hSw; (try dsimp only at hSw); go_simp; (try with_reducible rfl)); (case r1_15a => (simp only [Act.put, List.setIfInBounds_toArray, List.set_cons_zero, List.set_cons_succ]; rfl)))
          (refine take_at (i := 16) (d := (some 49)) (v := ?r1_16v) (a' := ?r1_16b) (l' := #[true, true, true, true, true, true, true, true, true, true, true, false, false, true, true, true, true, false, false, false, false, false, false, false, false, false]) rfl rfl (by kernel_rfl) (by kernel_rfl) (by kernel_rfl) (fun _ _ _ h => h) (by rfl) hHeld (Or.inl ⟨by rfl, ?r1_16hy⟩) ?r1_16a ?r1_16rest; (case r1_16hy => intro w' hSw; (try dsimp only at hSw); go_simp; (try with_reducible rfl)); (case r1_16a => (simp only [Act.put, List.setIfInBounds_toArray, List.set_cons_zero, List.set_cons_succ]; rfl)))
          (refine take_at (i := 17) (d := (some 50)) (v := ?r1_17v) (a' := ?r1_17b) (l' := #[true, true, true, true, true, true, true, true, true, true, true, false, false, true, true, true, true, true, false, false, false, false, false, false, false, false]) rfl rfl (by kernel_rfl) (by kernel_rfl) (by kernel_rfl) (fun _ _ _ h => h) (by rfl) hHeld (Or.inl ⟨by rfl, ?r1_17hy⟩) ?r1_17a ?r1_17rest; (case r1_17hy => intro w' hSw; (try dsimp only at hSw); go_simp; (try with_reducible rfl)); (case r1_17a => (simp only [Act.put, List.setIfInBounds_toArray, List.set_cons_zero, List.set_cons_succ]; rfl)))
          (refine take_at (i := 18) (d := (some 51)) (v := ?r1_18v) (a' := ?r1_18b) (l' := #[true, true, true, true, true, true, true, true, true, true, true, false, false, true, true, true, true, true, true, false, false, false, false, false, false, false]) rfl rfl (by kernel_rfl) (by kernel_rfl) (by kernel_rfl) (fun _ _ _ h => h) (by rfl) hHeld (Or.inl ⟨by rfl, ?r1_18hy⟩) ?r1_18a ?r1_18rest; (case r1_18hy => intro w' hSw; (try dsimp only at hSw); go_simp; (try with_reducible rfl)); (case r1_18a => (simp only [Act.put, List.setIfInBounds_toArray, List.set_cons_zero, List.set_cons_succ]; rfl)))
          (refine take_at (i := 19) (d := (some 52)) (v := ?r1_19v) (a' := ?r1_19b) (l' := #[true, true, true, true, true, true, true, true, true, true, true, false, false, true, true, true, true, true, true, true, false, false, false, false, false, false]) rfl rfl (by kernel_rfl) (by kernel_rfl) (by kernel_rfl) (fun _ _ _ h => h) (by rfl) hHeld (Or.inl ⟨by rfl, ?r1_19hy⟩) ?r1_19a ?r1_19rest; (case r1_19hy => intro w' hSw; (try dsimp only at hSw); go_simp; (try with_reducible rfl)); (case r1_19a => (simp only [Act.put, List.setIfInBounds_toArray, List.set_cons_zero, List.set_cons_succ]; rfl)))
          (refine take_at (i := 20) (d := (some 53)) (v := ?r1_20v) (a' := ?r1_20b) (l' := #[true, true, true, true, true, true, true, true, true, true, true, false, false, true, true, true, true, true, true, true, true, false, false, false, false, false]) rfl rfl (by kernel_rfl) (by kernel_rfl) (by kernel_rfl) (fun _ _ _ h => h) (by rfl) hHeld (Or.inl ⟨by rfl, ?r1_20hy⟩) ?r1_20a ?r1_20rest; (case r1_20hy => intro w' hSw; (try dsimp only at hSw); go_simp; (try with_reducible rfl)); (case r1_20a => (simp only [Act.put, List.setIfInBounds_toArray, List.set_cons_zero, List.set_cons_succ]; rfl)))
          (refine take_at (i := 21) (d := (some 54)) (v := ?r1_21v) (a' := ?r1_21b) (l' := #[true, true, true, true, true, true, true, true, true, true, true, false, false, true, true, true, true, true, true, true, true, true, false, false, false, false]) rfl rfl (by kernel_rfl) (by kernel_rfl) (by kernel_rfl) (fun _ _ _ h => h) (by rfl) hHeld (Or.inl ⟨by rfl, ?r1_21hy⟩) ?r1_21a ?r1_21rest; (case r1_21hy => intro w' hSw; (try dsimp only at hSw); go_simp; (try with_reducible rfl)); (case r1_21a => (simp only [Act.put, List.setIfInBounds_toArray, List.set_cons_zero, List.set_cons_succ]; rfl)))
          (refine take_at (i := 22) (d := (some 55)) (v := ?r1_22v) (a' := ?r1_22b) (l' := #[true, true, true, true, true, true, true, true, true, true, true, false, false, true, true, true, true, true, true, true, true, true, true, false, false, false]) rfl rfl (by kernel_rfl) (by kernel_rfl) (by kernel_rfl) (fun _ _ _ h => h) (by rfl) hHeld (Or.inl ⟨by rfl, ?r1_22hy⟩) ?r1_22a ?r1_22rest; (case r1_22hy => intro w' hSw; (try dsimp only at hSw); go_simp; (try with_reducible rfl)); (case r1_22a => (simp only [Act.put, List.setIfInBounds_toArray, List.set_cons_zero, List.set_cons_succ]; rfl)))
          (refine call_at (i := 11) (l' := #[true, true, true, true, true, true, true, true, true, true, true, true, false, true, true, true, true, true, true, true, true, true, true, false, false, false]) rfl (by kernel_rfl) (by rfl) (fun K hK => ?_); go_simp; (first | (with_reducible refine (HW.out _ (by repeat (first | (with_reducible exact Below.refl _ _) | (with_reducible apply below_drew) | (with_reducible refine below_join ?_ (by assumption)) | exact hHeld.1))).mono ?_; rintro e wq ⟨rfl, hbq⟩; go_wp2_with fail) | (with_reducible refine (HKn.out _ (by repeat (first | (with_reducible exact Below.refl _ _) | (with_reducible apply below_drew) | (with_reducible refine below_join ?_ (by assumption)) | exact hHeld.1))).mono ?_; rintro e wq ⟨rfl, hbq⟩; go_wp2_with fail)); refine hK.out _ _ ?r1_11hS ?r1_11hR; (case r1_11hS => (try dsimp only); exact HKe.out _ (by repeat (first | (with_reducible exact Below.refl _ _) | (with_reducible apply below_drew) | (with_reducible refine below_join ?_ (by assumption)) | exact hHeld.1))); clear hK K hHeld; intro hHeld; (try simp only [Act.put, List.setIfInBounds_toArray, List.set_cons_zero, List.set_cons_succ]))
          (refine take_at (i := 12) (d := (some 45)) (v := ?r1_12v) (a' := ?r1_12b) (l' := #[true, true, true, true, true, true, true, true, true, true, true, true, true, true, true, true, true, true, true, true, true, true, true, false, false, false]) rfl rfl (by kernel_rfl) (by kernel_rfl) (by kernel_rfl) (fun _ _ _ h => h) (by rfl) hHeld (Or.inl ⟨by rfl, ?r1_12hy⟩) ?r1_12a ?r1_12rest; (case r1_12hy => intro w' hSw; (try dsimp only at hSw); go_simp; (try with_reducible rfl)); (case r1_12a => (simp only [Act.put, List.setIfInBounds_toArray, List.set_cons_zero, List.set_cons_succ]; rfl)))
          (refine call_at (i := 23) (l' := #[true, true, true, true, true, true, true, true, true, true, true, true, true, true, true, true, true, true, true, true, true, true, true, true, false, false]) rfl (by kernel_rfl) (by rfl) (fun K hK => ?_); go_simp; (first | (with_reducible refine (HW.out _ (by repeat (first | (with_reducible exact Below.refl _ _) | (with_reducible apply below_drew) | (with_reducible refine below_join ?_ (by assumption)) | exact hHeld.1))).mono ?_; rintro e wq ⟨rfl, hbq⟩; go_wp2_with fail) | (with_reducible refine (HKn.out _ (by repeat (first | (with_reducible exact Below.refl _ _) | (with_reducible apply below_drew) | (with_reducible refine below_join ?_ (by assumption)) | exact hHeld.1))).mono ?_; rintro e wq ⟨rfl, hbq⟩; go_wp2_with fail)); refine hK.out _ _ ?r1_23hS ?r1_23hR; (case r1_23hS => (try dsimp only); exact HKe.out _ (by repeat (first | (with_reducible exact Below.refl _ _) | (with_reducible apply below_drew) | (with_reducible refine below_join ?_ (by assumption)) | exact hHeld.1))); clear hK K hHeld; intro hHeld; (try simp only [Act.put, List.setIfInBounds_toArray, List.set_cons_zero, List.set_cons_succ]))
          (refine take_at (i := 24) (d := (some 57)) (v := ?r1_24v) (a' := ?r1_24b) (l' := #[true, true, true, true, true, true, true, true, true, true, true, true, true, true, true, true, true, true, true, true, true, true, true, true, true, false]) rfl rfl (by kernel_rfl) (by kernel_rfl) (by kernel_rfl) (fun _ _ _ h => h) (by rfl) hHeld (Or.inl ⟨by rfl, ?r1_24hy⟩) ?r1_24a ?r1_24rest; (case r1_24hy => intro w' hSw; (try dsimp only at hSw); go_simp; (try with_reducible rfl)); (case r1_24a => (simp only [Act.put, List.setIfInBounds_toArray, List.set_cons_zero, List.set_cons_succ]; rfl)))
          (refine take_at (i := 25) (d := (some 9)) (v := ?r1_25v) (a' := ?r1_25b) (l' := #[true, true, true, true, true, true, true, true, true, true, true, true, true, true, true, true, true, true, true, true, true, true, true, true, true, true]) rfl rfl (by kernel_rfl) (by kernel_rfl) (by kernel_rfl) (fun _ _ _ h => h) (by rfl) hHeld (Or.inl ⟨by rfl, ?r1_25hy⟩) ?r1_25a ?r1_25rest; (case r1_25hy => intro w' hSw; (try dsimp only at hSw); go_simp; (try with_reducible rfl)); (case r1_25a => (simp only [Act.put, List.setIfInBounds_toArray, List.set_cons_zero, List.set_cons_succ]; rfl)))
          refine wpAnyH_done (by kernel_rfl) ?_ _
          have hend := below_join hbs hHeld.1
          go_wp2_with fail
          go_roundw
          case rel => exact ⟨j + 1, _, by omega, rfl, by go_num, HS4, hend⟩
          case measure => simp [intOf]; omega
        · have hj2 : j = g.length := by omega
          subst hj2
          have HS4 : Hid (lenS d lev I G.flatten = lenS d lev acc' rest) := Lib.hid (by rw [HS3.out, List.drop_length]; rfl)
          have hend := below_join hbr hbs
          go_wp2_with fail
          go_roundw
          case rel => exact ⟨k + 1, acc', by omega, rfl, by go_num, Lib.hid (by rw [HS4.out, hrest.out]), hend⟩
          case measure => simp [intOf]; omega
    · have hk2 : k = G.length := by omega
      subst hk2
      have HX0 : Hid (acc = X) := Lib.hid (by rw [← HXd.out, HS.out, List.drop_length]; rfl)
      have hend := below_join HBW.out hbr
      go_wp2_with fail
      go_ret
      exact ⟨by rw [← HX0.out]; rfl, hend⟩
end Go.Proofs.YtndpdbofoojkhaaGreat.Ft
