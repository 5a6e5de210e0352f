/- The text of words, by the reference: the walk of compositorref24.Text. -/
import Derived.Test.YtbkfofmanpjbfaaBack19
namespace Go.Proofs.Ytbkfofmanpjbfaa.Bk
open Go.RowKit Go.Proofs.Ytbkfofmanpjbfaa.Kit Go.Proofs.Ytbkfofmanpjbfaa.Fo Go.Shelf
open Go.Proofs.YtbkfofmanpjbfaaW.PrintWords (Kd)
set_option linter.unusedVariables false
set_option linter.unusedSimpArgs false

set_option maxHeartbeats 4000000 in
theorem rtext_any (d : FontD) (a : FontA) (rows : List RowD) (Ar : Option Addr) (cr : Nat) (w : World) {B : Nat} (hB : B ≤ w.heap.size) (hF : FontIn w B d a) (hR : RowsIn w B Ar rows) (hS : Small rows) :
    Calls Try.prog 12 #[fontV d a, .slice Ar rows.length cr] w fun e W' => ∃ v, e = .returned (.tuple #[v, .int .i64 (textV d rows).2]) ∧ kU.R 5 W' w.heap.size anyK v (textV d rows).1 ∧ Below w.heap.size w W' := by
  have hbx := Box.new w (fontCells d a) 26
  have hbw := (Below.refl w.heap.size w).alloc (Nat.le_refl _) (.cells (fontCells d a) 26)
  obtain ⟨W, hW⟩ : ∃ W, w.alloc (.cells (fontCells d a) 26) = W := ⟨_, rfl⟩
  have hbW : Below w.heap.size w W := hW ▸ hbw
  have HC := rwords_any d a rows Ar cr W (B := B) (by have := hbW.size; omega) (hF.mono (hbW.mono hB)) (hR.below hB hbW) hS
  have HSm := Lib.hid (words_small (d := d) hS)
  obtain ⟨res, hres⟩ : ∃ r, Hid (textV d rows = r) := ⟨_, Lib.hid rfl⟩
  rw [hres.out]
  have HT : Hid (textP (wordsP d rows).1 (wordsP d rows).2 = res) := Lib.hid hres.out
  clear hres hF hR hS
  obtain ⟨⟨ws, er⟩, hwp⟩ : ∃ p, wordsP d rows = p := ⟨_, rfl⟩
  rw [hwp] at HC HSm HT
  rw [hW] at hbx hbw
  obtain ⟨c0, c1, c2, c3, c4, c5, c6, c7, c8, c9, c10⟩ := font_cells hbx
  have hsW := hbW.size
  clear hwp hbx hbw
  go_enter Try.func12, Try.ntmps12
  go_wp2_with fail
  with_reducible refine HC.mono ?_
  rintro e w1 ⟨v, rfl, hR, hb⟩
  have HRr := Lib.hid (Kd.R_lt hR)
  obtain ⟨A, c, rfl, hcap, hC⟩ := Kd.R_reads hR
  have HCw := Lib.hid hC
  have hb1 : Below w.heap.size w w1 := hbW.trans (hb.mono hsW)
  have hs1 := hb1.size
  have hlen : ws.length ≤ 1000000 := HSm.out.2
  have hsum : Hid (sumL ws ≤ 100000000) := Lib.hid HSm.out.1
  clear hR hC hb hW hbW hsW c0 c1 c2 c3 c4 c5 c6 c7 c8 c9 c10 HSm HC
  by_cases he : er = 0
  · subst he
    go_upto_region 6 with fail
    go_loopw [8, 9] (fun v iv wr => ∃ i : Nat, iv = .int .i64 i ∧ i ≤ ws.length ∧ Hid (∀ x ∈ ws.take i, x.all okC = true) ∧ kU.R 5 wr w1.heap.size anyK v (joinN ws i) ∧ Below w1.heap.size w1 wr) (fun _ iv _ => ws.length - (intOf iv).toNat)
    case atStart => exact ⟨0, rfl, by omega, Lib.hid (by simp), Kd.R_nil _ _ _ _ _, Below.refl _ _⟩
    case round =>
      rename World => wr
      obtain ⟨i, rfl, hi, HS, hR, HB⟩ := hrel
      have hsz := HB.size
      by_cases hlt : i < ws.length
      · obtain ⟨x, hx⟩ := at_lt hlt
        obtain ⟨b, o, A', c', rfl, hc1, hcx, hCx⟩ := kL_at HCw.out hx
        have hc := later HB hc1
        have HJ : Hid (joinN ws (i + 1) = joinN ws i ++ sepW i ++ x) := Lib.hid (by rw [joinN, List.getD_eq_getElem?_getD, hx]; rfl)
        have HX : Hid (x.all okC = true → ∀ y ∈ ws.take (i + 1), y.all okC = true) := Lib.hid (fun h y hy => by
          rw [take_one hx] at hy
          rcases List.mem_append.1 hy with hy | hy
          · exact HS.out y hy
          · rw [List.mem_singleton.1 hy]; exact h)
        have HN : Hid (∀ y ∈ x, okC y = false → ([], 230) = res) := Lib.hid (fun y hy h => by
          rw [← HT.out, textP, if_neg (by simp), if_neg]
          intro hp
          unfold plainW at hp
          rw [List.all_eq_true] at hp
          have h1 := hp x (List.mem_of_getElem? hx)
          rw [List.all_eq_true] at h1
          rw [h1 y hy] at h
          cases h)
        have HLen : Hid ((joinN ws i).length ≤ 100000000 + i ∧ x.length ≤ 100000000) := Lib.hid (by
          have h1 := join_len ws i (by omega)
          have h2 := sumL_le ws i
          have h3 := mem_sum (List.mem_of_getElem? hx)
          have h4 := hsum.out
          omega)
        have HR := Lib.hid hR
        generalize joinN ws i = T at *
        have HCx := Lib.hid hCx
        have HCq := Lib.hid hc1
        clear hx hR hCx hc1
        go_upto_if 27 with fail
        obtain ⟨q, hq⟩ : ∃ q, decide (0 < i) = q := ⟨_, rfl⟩
        rw [hq]
        have HQ := Lib.hid hq
        clear hq
        go_cut [8] from 27 to 31 (fun v wx => kU.R 5 wx w1.heap.size anyK v (T ++ sepW i) ∧ Below w1.heap.size w1 wx)
        case first =>
          cases q with
          | false =>
            have hi0 : i = 0 := by have := of_decide_eq_false HQ.out; omega
            subst hi0
            go_wp2_with fail
            go_meet
            exact ⟨by rw [sepW, if_pos rfl, List.append_nil]; exact HR.out, HB⟩
          | true =>
            have hi0 : i ≠ 0 := by have := of_decide_eq_true HQ.out; omega
            have HSp : Hid (sepW i = [32]) := Lib.hid (by rw [sepW, if_neg hi0])
            have hT := HLen.out.1
            clear hi0
            go_wp2_with (at_builtin
                         refine Kd.R_append kU (w0 := w1) w1.heap.size rfl (.tmp 28) (.tmp 29) _ 5 (.int .u8 0) 1 rfl Try.underlying35 info_u8 rfl (by decide) (by decide) _ T 32 [.int .u8 32] anyK (fun _ => False) rfl rfl rfl (fun _ h => h.elim) (fun _ _ => trivial) HR.out HB hsz (by omega) ?_
                         intro v3 w3 hR3 hb3 hg3 hat3
                         have HR3 := Lib.hid hR3
                         clear hR3 hg3 hat3)
            go_meet
            exact ⟨by rw [HSp.out]; exact HR3.out, hb3⟩
        case rest =>
        rename World => w3
        obtain ⟨hR3, HB3⟩ := hcut
        have HR3 := Lib.hid hR3
        have hl3 : (T ++ sepW i).length ≤ 101000001 := by
          have h2 : (sepW i).length ≤ 1 := by unfold sepW; split <;> simp
          have h1 := HLen.out.1
          rw [List.length_append]; omega
        have hxl := HLen.out.2
        clear hR3 HR HB hsz HLen
        with_reducible apply_assumption
        generalize T ++ sepW i = T3 at *
        go_upto_region 11 with fail
        go_loopw [8, 10] (fun v jv wr => ∃ j : Nat, jv = .int .i64 j ∧ j ≤ x.length ∧ Hid ((x.take j).all okC = true) ∧ kU.R 5 wr w1.heap.size anyK v (T3 ++ x.take j) ∧ Below w1.heap.size w1 wr) (fun _ jv _ => x.length - (intOf jv).toNat)
        case atStart => exact ⟨0, rfl, by omega, Lib.hid (by simp), by rw [List.take_zero, List.append_nil]; exact HR3.out, HB3⟩
        case round =>
          clear HR3 HB3
          rename World => wr
          obtain ⟨j, rfl, hj, HA, hR, HB⟩ := hrel
          have hc := later HB HCq.out
          have hsz := HB.size
          by_cases hlt2 : j < x.length
          · obtain ⟨y, hy⟩ := at_lt hlt2
            obtain ⟨by', oy, rfl, hcy1⟩ := kI_at HCx.out hy
            have hcy := later HB hcy1
            have HT4 : Hid (T3 ++ x.take (j + 1) = T3 ++ x.take j ++ [y]) := Lib.hid (by rw [take_one hy, List.append_assoc])
            have HR := Lib.hid hR
            have HN2 := Lib.hid (HN.out y (List.mem_of_getElem? hy))
            have HA2 : Hid (okC y = true → (x.take (j + 1)).all okC = true) := Lib.hid (fun h => by rw [take_one hy, List.all_append, HA.out, Bool.true_and]; simpa using h)
            have hl4 : (T3 ++ x.take j).length ≤ 201000001 := by rw [List.length_append, List.length_take]; omega
            generalize T3 ++ x.take j = T4 at *
            clear hR hcy1 hy
            by_cases h0 : y < 0
            · have F1 : (y < 0) = True := eq_true h0
              have HE := Lib.hid (HN2.out (by unfold okC; rw [decide_eq_false (by omega : ¬ 0 ≤ y)]; rfl))
              clear h0 HN2 HA2
              go_wp2_with fail
              go_ret2
              exact ⟨.slice none 0 0, by rw [← HE.out]; rfl, by rw [← HE.out]; exact Kd.R_nil _ _ _ _ _, hb1.trans (HB.mono hs1)⟩
            · have F1 : (y < 0) = False := eq_false h0
              by_cases h1 : 255 < y
              · have F2 : ((255 : Int) < y) = True := eq_true h1
                have HE := Lib.hid (HN2.out (by unfold okC; rw [decide_eq_false (by omega : ¬ y ≤ 255)]; simp))
                clear h0 h1 HN2 HA2
                go_wp2_with fail
                go_ret2
                exact ⟨.slice none 0 0, by rw [← HE.out]; rfl, by rw [← HE.out]; exact Kd.R_nil _ _ _ _ _, hb1.trans (HB.mono hs1)⟩
              · have F2 : ((255 : Int) < y) = False := eq_false h1
                have HAn := Lib.hid (HA2.out (by unfold okC; rw [decide_eq_true (by omega : 0 ≤ y), decide_eq_true (by omega : y ≤ 255)]; rfl))
                have HW : IntKind.u8.wrap y = y := wrap_u8 (by omega) (by omega)
                clear HN2 HA2
                go_wp2_with (at_builtin
                             refine Kd.R_append kU (w0 := w1) w1.heap.size rfl (.tmp 58) (.tmp 67) _ 5 (.int .u8 0) 1 rfl Try.underlying35 info_u8 rfl (by decide) (by decide) _ T4 y [.int .u8 y] anyK (fun _ => False) rfl rfl rfl (fun _ h => h.elim) (fun _ _ => trivial) HR.out HB hsz (by omega) ?_
                             intro v3 w3 hR3 hb3 hg3 hat3
                             have HR3 := Lib.hid hR3
                             clear hR3 hg3 hat3)
                go_roundw
                case rel => exact ⟨j + 1, by go_num, by omega, HAn, by rw [HT4.out]; exact HR3.out, hb3⟩
                case measure => simp [intOf]; omega
          · have hje : x.take j = x := List.take_of_length_le (by omega)
            have HXn := Lib.hid (HX.out (by rw [← hje]; exact HA.out))
            have HRn : Hid (kU.R 5 wr w1.heap.size anyK u8 (joinN ws (i + 1))) := Lib.hid (by rw [HJ.out, ← hje]; rw [hje]; rw [hje] at hR; exact hR)
            clear hje hR
            go_wp2_with fail
            go_roundw
            case rel => exact ⟨i + 1, by go_num, by omega, HXn, HRn.out, HB⟩
            case measure => simp [intOf]; omega
      · have hie : i = ws.length := by omega
        have HE : Hid ((joinW ws, 0) = res) := Lib.hid (by
          have h := HS.out
          rw [hie, List.take_of_length_le (Nat.le_refl _)] at h
          have hp : plainW ws = true := by
            unfold plainW
            rw [List.all_eq_true]
            exact h
          rw [← HT.out, textP, if_neg (by simp), if_pos hp])
        have HR : Hid (kU.R 5 wr w1.heap.size anyK u8 (joinW ws)) := Lib.hid (by rw [hie] at hR; exact hR)
        clear hR hie
        go_wp2_with fail
        go_ret2
        exact ⟨_, by rw [← HE.out]; rfl, by rw [← HE.out]; exact Kd.R_lower HR.out hs1, hb1.trans (HB.mono hs1)⟩
  · have F1 : (er != 0) = true := by simpa using he
    have HE : Hid (([], er) = res) := Lib.hid (by rw [← HT.out, textP, if_pos he])
    clear he
    go_wp2_with fail
    go_ret2
    exact ⟨.slice none 0 0, by rw [← HE.out]; rfl, by rw [← HE.out]; exact Kd.R_nil _ _ _ _ _, hb1⟩
end Go.Proofs.Ytbkfofmanpjbfaa.Bk
