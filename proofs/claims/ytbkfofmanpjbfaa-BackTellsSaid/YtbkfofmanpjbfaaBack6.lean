/- Words of rows: the walk of back.Words. -/
import Derived.Test.YtbkfofmanpjbfaaBack6P
import Derived.Deep.RegionLaw
import Derived.Sort.CutIn
namespace Go.Proofs.Ytbkfofmanpjbfaa.Bk
open Go.RowKit Go.Proofs.Ytbkfofmanpjbfaa.Kit Go.Proofs.Ytbkfofmanpjbfaa.Fo Go.Shelf
open Go.Proofs.YtbkfofmanpjbfaaW.PrintWords (Kd)
set_option linter.unusedVariables false
set_option linter.unusedSimpArgs false
attribute [local go_sem] Oper.semAt_some
set_option maxRecDepth 100000 in
set_option maxHeartbeats 8000000 in
theorem words_any (d : FontD) (a : FontA) (rows : List RowD) (Ar : Option Addr) (cr : Nat) (w : World) {B : Nat} (hB : B ≤ w.heap.size) (hF : FontIn w B d a) (hR : RowsIn w B Ar rows) (hn : rows.length ≤ 1000) (hi : ∀ r ∈ rows, r.items.length ≤ 1000)
    (hs : ∀ r ∈ rows, ∀ p ∈ lineP d r, p.length ≤ 100000000)
    (ho : ∀ i j, j ≤ ((rows.map (lineP d)).getD i []).length → ((putN ((rows.map (·.kind)).getD i 0) (wholeN (rows.map (lineP d)) (rows.map (·.kind)) i).2 ((rows.map (lineP d)).getD i []) (wholeN (rows.map (lineP d)) (rows.map (·.kind)) i).1 j).length ≤ 400000000 ∧ ∀ p ∈ putN ((rows.map (·.kind)).getD i 0) (wholeN (rows.map (lineP d)) (rows.map (·.kind)) i).2 ((rows.map (lineP d)).getD i []) (wholeN (rows.map (lineP d)) (rows.map (·.kind)) i).1 j, p.length ≤ 100000000)) :
    Calls Try.prog 9 #[fontV d a, .slice Ar rows.length cr] w fun e W' => ∃ v, e = .returned (.tuple #[v, .int .i64 (wordsP d rows).2]) ∧ kL.R 23 W' w.heap.size anyK v (wordsP d rows).1 ∧ Below w.heap.size w W' := by
  refine (callsIn_wide (n := 6)).1 ?_
  have HC := Lib.hid fun (W : World) (hb : Below w.heap.size w W) => lig_any d a W (lt_of_below hB hb) (hF.mono (hb.mono hB))
  refine callsIn_of_wp_marks Try.func9 rfl trivial ?_ rfl
  have hRW := Lib.hid hR
  have HS := Lib.hid hs
  have HO := Lib.hid ho
  have HIt := Lib.hid hi
  clear hR hs ho hi
  simp only [Try.ntmps9, List.size_toArray, List.length_cons, List.length_nil, Nat.reduceAdd, Nat.reduceSub, Array.replicate_succ, Array.replicate_zero, List.push_toArray, List.append_toArray, List.nil_append, List.cons_append]
  gi_wp2_with fail
  have hbx := (Box.new w (fontCells d a) 26).alloc (.cells #[.slice Ar rows.length cr] 27)
  have hb3 := Box.new (w.alloc (.cells (fontCells d a) 26)) #[.slice Ar rows.length cr] 27
  have hbw : Below w.heap.size w ((w.alloc (.cells (fontCells d a) 26)).alloc (.cells #[.slice Ar rows.length cr] 27)) := below_alloc ((Below.refl w.heap.size w).alloc (Nat.le_refl _) _) _
  simp only [World.size_alloc] at hb3
  obtain ⟨c0, c1, c2, c3, c4, c5, c6, c7, c8, c9, c10⟩ := font_cells hbx
  generalize hW1 : (w.alloc (.cells (fontCells d a) 26)).alloc (.cells #[.slice Ar rows.length cr] 27) = W1 at *
  clear hW1
  refine ⟨trivial, ?_⟩
  have HC1 := HC.out W1 hbw
  clear HC
  with_reducible refine (callsIn_wide.2 HC1).mono ?_
  rintro e w1 ⟨rfl, hb⟩
  clear HC1 c0 c1 c2 c3 c4 c5 c6 c7 c8 c9 c10
  replace hbx := hbx.below hb
  replace hb3 := hb3.below hb
  replace hbw := hbw.trans (hb.mono hbw.size)
  clear hb W1
  generalize hp3 : w.heap.size + 1 = p3 at *
  have HP : Hid (w.heap.size + 1 = p3) := Lib.hid hp3
  clear hp3
  have k3 : w1.cell? ⟨p3, 0, none⟩ = some (.slice Ar rows.length cr) := hb3.cell 0 rfl
  cases hl : ligB d with
  | false =>
    have HN : Hid (wordsP d rows = ([], 70)) := Lib.hid (by rw [wordsP, if_pos hl])
    clear hl
    gi_wp2_with fail
    refine ⟨.tuple #[.slice none 0 0, .int .i64 70], ?_, .slice none 0 0, by rw [HN.out], by rw [HN.out]; exact Kd.R_nil _ _ _ _ _, hbw⟩
    simp [results, Try.f9, go_sem]
  | true =>
    have HT := Lib.hid hl
    clear hl
    gi_wp2_with fail
    clear k3
    refine wpIn_loop (fun a' wr => ∃ (u6 u7 u9 u10 u11 u12 u13 u14 u15 u16 u17 u24 u25 u26 u27 u28 u29 u30 u31 u32 u33 u34 u35 u36 u37 u38 u39 u40 u41 u42 u43 u44 u45 u46 u47 u48 u49 u50 u51 u52 u53 u54 u55 u56 u57 u58 u59 u60 u61 u62 u63 u64 u65 u66 u67 u68 u69 u70 u71 u72 u73 u74 u75 u76 u77 u78 u79 u80 u81 u82 u83 u84 u85 u86 u87 u88 u89 u90 u91 u92 : Value) (U : List Deferred), (∃ (i : Nat) (Ds : List Nat), u24 = .int .i64 (i : Int) ∧ U = marksOf Ds ∧ Hid (i ≤ rows.length) ∧ Hid (∀ k r, k < i → rows[k]? = some r → badR d rows.length k r = false) ∧ Hid (kM.R 31 wr w.heap.size anyK u6 ((rows.map (lineP d)).take i)) ∧ Hid (kB.R 62 wr w.heap.size anyK u7 ((rows.map fun r => (r.kind, (0 : Int), (0 : Int))).take i)) ∧
        Box wr w.heap.size (fontCells d a) 26 ∧ Box wr p3 #[.slice Ar rows.length cr] 27 ∧ Hid (Ds.Nodup ∧ ∀ D ∈ Ds, p3 < D ∧ wr.heap[D]? = some (.deferred (some []))) ∧ Below w.heap.size w wr) ∧
        a' = { tmps := #[fontV d a, .slice Ar rows.length cr, .pointer (some ⟨w.heap.size, 0, none⟩), .pointer (some ⟨p3, 0, none⟩), .slice none 0 0, .int .i64 0, u6, u7, .func (.func 16) #[] #[.pointer (some ⟨p3, 0, none⟩)], u9, u10, u11, u12, u13, u14, u15, u16, u17, fontV d a, .bool true, .bool false, .func (.func 16) #[] #[.pointer (some ⟨p3, 0, none⟩)], .slice Ar rows.length cr, .int .i64 (rows.length : Int), u24, u25, u26, u27, u28, u29, u30, u31, u32, u33, u34, u35, u36, u37, u38, u39, u40, u41, u42, u43, u44, u45, u46, u47, u48, u49, u50, u51, u52, u53, u54, u55, u56, u57, u58, u59, u60, u61, u62, u63, u64, u65, u66, u67, u68, u69, u70, u71, u72, u73, u74, u75, u76, u77, u78, u79, u80, u81, u82, u83, u84, u85, u86, u87, u88, u89, u90, u91, u92], defers := U })
      (fun a' _ => rows.length - (intOf (a'.tmps.getD 24 undef)).toNat) ?_ ?_
    · (repeat apply Exists.intro); refine ⟨?_, rfl⟩
      exact ⟨0, [], rfl, rfl, Lib.hid (by omega), Lib.hid (fun k r h _ => absurd h (Nat.not_lt_zero _)), Lib.hid (Kd.R_nil _ _ _ _ _), Lib.hid (Kd.R_nil _ _ _ _ _), hbx, hb3, Lib.hid ⟨by simp, by simp⟩, hbw⟩
    · clear hbx hb3 hbw w1
      intro _ wr hinv
      obtain ⟨u6, hinv⟩ := hinv
      obtain ⟨u7, hinv⟩ := hinv
      obtain ⟨u9, hinv⟩ := hinv
      obtain ⟨u10, hinv⟩ := hinv
      obtain ⟨u11, hinv⟩ := hinv
      obtain ⟨u12, hinv⟩ := hinv
      obtain ⟨u13, hinv⟩ := hinv
      obtain ⟨u14, hinv⟩ := hinv
      obtain ⟨u15, hinv⟩ := hinv
      obtain ⟨u16, hinv⟩ := hinv
      obtain ⟨u17, hinv⟩ := hinv
      obtain ⟨u24, hinv⟩ := hinv
      obtain ⟨u25, hinv⟩ := hinv
      obtain ⟨u26, hinv⟩ := hinv
      obtain ⟨u27, hinv⟩ := hinv
      obtain ⟨u28, hinv⟩ := hinv
      obtain ⟨u29, hinv⟩ := hinv
      obtain ⟨u30, hinv⟩ := hinv
      obtain ⟨u31, hinv⟩ := hinv
      obtain ⟨u32, hinv⟩ := hinv
      obtain ⟨u33, hinv⟩ := hinv
      obtain ⟨u34, hinv⟩ := hinv
      obtain ⟨u35, hinv⟩ := hinv
      obtain ⟨u36, hinv⟩ := hinv
      obtain ⟨u37, hinv⟩ := hinv
      obtain ⟨u38, hinv⟩ := hinv
      obtain ⟨u39, hinv⟩ := hinv
      obtain ⟨u40, hinv⟩ := hinv
      obtain ⟨u41, hinv⟩ := hinv
      obtain ⟨u42, hinv⟩ := hinv
      obtain ⟨u43, hinv⟩ := hinv
      obtain ⟨u44, hinv⟩ := hinv
      obtain ⟨u45, hinv⟩ := hinv
      obtain ⟨u46, hinv⟩ := hinv
      obtain ⟨u47, hinv⟩ := hinv
      obtain ⟨u48, hinv⟩ := hinv
      obtain ⟨u49, hinv⟩ := hinv
      obtain ⟨u50, hinv⟩ := hinv
      obtain ⟨u51, hinv⟩ := hinv
      obtain ⟨u52, hinv⟩ := hinv
      obtain ⟨u53, hinv⟩ := hinv
      obtain ⟨u54, hinv⟩ := hinv
      obtain ⟨u55, hinv⟩ := hinv
      obtain ⟨u56, hinv⟩ := hinv
      obtain ⟨u57, hinv⟩ := hinv
      obtain ⟨u58, hinv⟩ := hinv
      obtain ⟨u59, hinv⟩ := hinv
      obtain ⟨u60, hinv⟩ := hinv
      obtain ⟨u61, hinv⟩ := hinv
      obtain ⟨u62, hinv⟩ := hinv
      obtain ⟨u63, hinv⟩ := hinv
      obtain ⟨u64, hinv⟩ := hinv
      obtain ⟨u65, hinv⟩ := hinv
      obtain ⟨u66, hinv⟩ := hinv
      obtain ⟨u67, hinv⟩ := hinv
      obtain ⟨u68, hinv⟩ := hinv
      obtain ⟨u69, hinv⟩ := hinv
      obtain ⟨u70, hinv⟩ := hinv
      obtain ⟨u71, hinv⟩ := hinv
      obtain ⟨u72, hinv⟩ := hinv
      obtain ⟨u73, hinv⟩ := hinv
      obtain ⟨u74, hinv⟩ := hinv
      obtain ⟨u75, hinv⟩ := hinv
      obtain ⟨u76, hinv⟩ := hinv
      obtain ⟨u77, hinv⟩ := hinv
      obtain ⟨u78, hinv⟩ := hinv
      obtain ⟨u79, hinv⟩ := hinv
      obtain ⟨u80, hinv⟩ := hinv
      obtain ⟨u81, hinv⟩ := hinv
      obtain ⟨u82, hinv⟩ := hinv
      obtain ⟨u83, hinv⟩ := hinv
      obtain ⟨u84, hinv⟩ := hinv
      obtain ⟨u85, hinv⟩ := hinv
      obtain ⟨u86, hinv⟩ := hinv
      obtain ⟨u87, hinv⟩ := hinv
      obtain ⟨u88, hinv⟩ := hinv
      obtain ⟨u89, hinv⟩ := hinv
      obtain ⟨u90, hinv⟩ := hinv
      obtain ⟨u91, hinv⟩ := hinv
      obtain ⟨u92, hinv⟩ := hinv
      obtain ⟨U, ⟨i, Ds, rfl, rfl, HI, HG, HL6, HL7, hbx, hb3, HD, hbw⟩, rfl⟩ := hinv
      by_cases hlt : i < rows.length
      · obtain ⟨r, hr⟩ := at_lt hlt
        obtain ⟨b0, o0, A0, cc0, rfl, hcells, hrow, hil⟩ := hRW.out i r hr
        have c0 : wr.cell? ⟨b0, o0 + i * 5, none⟩ = some (.int .i64 r.level) := later hbw (hcells 0 _ rfl)
        have c1 := later hbw (hcells 1 _ rfl)
        have c2 := later hbw (hcells 2 _ rfl)
        have c3 := later hbw (hcells 3 _ rfl)
        have c4 := later hbw (hcells 4 _ rfl)
        clear hcells
        gi_wp2_with fail
        refine ⟨trivial, ?_⟩
        with_reducible refine (callsIn_wide.2 (pieces_any r A0 cc0 _)).mono ?_
        rintro e W2 ⟨rfl, hW2⟩
        have hg10 := ((Box.new wr (rowCells r A0 cc0) 42).alloc (.cells #[.slice none 0 0] 31)).alloc (.cells (rowCells r A0 cc0) 42)
        have hg11 := (Box.new (wr.alloc (.cells (rowCells r A0 cc0) 42)) #[.slice none 0 0] 31).alloc (.cells (rowCells r A0 cc0) 42)
        have hg12 := Box.new ((wr.alloc (.cells (rowCells r A0 cc0) 42)).alloc (.cells #[.slice none 0 0] 31)) (rowCells r A0 cc0) 42
        have hb2 : Below wr.heap.size wr W2 := by rw [← hW2]; exact below_alloc (below_alloc ((Below.refl _ wr).alloc (Nat.le_refl _) _) _) _
        rw [hW2] at hg10 hg11 hg12
        have hsz2 : W2.heap.size ≤ wr.heap.size + 3 := by rw [← hW2]; simp
        have hsz3 : wr.heap.size + 3 ≤ W2.heap.size := by rw [← hW2]; simp
        simp only [World.size_alloc] at hg11 hg12
        have HQ : Hid (w.heap.size + 1 < wr.heap.size ∧ p3 < wr.heap.size) := Lib.hid (by have h1 := hb3.lt; have h2 := HP.out; omega)
        simp only [World.size_alloc] 
        generalize hg : wr.heap.size = g10 at *
        clear hW2 c0 c1 c2 c3 c4
        gi_wp2_with fail
        have hbw2 : Below w.heap.size w W2 := hbw.trans (hb2.mono (by have := hbw.size; omega))
        have hn2 : w.heap.size ≤ W2.heap.size := hbw2.size
        refine wpIn_range_all rfl (by decide) (gf := 27) (lb := #[.pointer (some ⟨g10 + 1 + 1, 0, none⟩)]) rfl trivial (enters_of Try.func27 (by kernel_rfl) rfl)
          (pieces1_all Fence.wide 5 trivial rfl (by decide) (g10 + 1 + 1) w.heap.size r A0 cc0 W2 hn2 hg12 ((hrow.up hB).mono hbw2) hil) (fun h k => h.trans k) ?hKb (Below.refl _ _) (fun _ => rfl)
          (LineI d W2.heap.size (g10 + 1) w W2) (line_lasts _ _ _ _ _) (line_settles _ _ _ _ _ (by omega) hn2) (fact_put _) ⟨_, hg11, Kd.R_nil _ _ _ _ _, fun _ _ _ => rfl, hbw2, Nat.le_refl _⟩
          (fun x => { tmps := #[fontV d a, .slice (some ⟨b0, o0, none⟩) rows.length cr, .pointer (some ⟨w.heap.size, 0, none⟩), .pointer (some ⟨p3, 0, none⟩), .slice none 0 0, .int .i64 0, u6, u7, .func (.func 16) #[] #[.pointer (some ⟨p3, 0, none⟩)], .int .i64 (i : Int), .pointer (some ⟨g10, 0, none⟩), .pointer (some ⟨g10 + 1, 0, none⟩), .slice x.A x.l.length x.c, u13, u14, u15, u16, u17, fontV d a, .bool true, .bool false, .func (.func 16) #[] #[.pointer (some ⟨p3, 0, none⟩)], .slice (some ⟨b0, o0, none⟩) rows.length cr, .int .i64 (rows.length : Int), .int .i64 (i : Int), .bool true, .int .i64 (i : Int), .pointer (some ⟨b0, o0 + i * 5, none⟩), rowV r A0 cc0, rowV r A0 cc0, .func (.func 27) #[] #[.pointer (some ⟨g10 + 1 + 1, 0, none⟩)], .slice x.A x.l.length x.c, u32, u33, u34, u35, u36, u37, u38, u39, u40, u41, u42, u43, u44, u45, u46, u47, u48, u49, u50, u51, u52, u53, u54, u55, u56, u57, u58, u59, u60, u61, u62, u63, u64, u65, u66, u67, u68, u69, u70, u71, u72, u73, u74, u75, u76, u77, u78, u79, u80, u81, u82, u83, u84, u85, u86, u87, u88, u89, u90, u91, u92], defers := [] })
          ?assign ?body ?done
        case hKb => exact fun W l o o' hl hlo hc => ⟨below_put (Below.refl _ _) (by omega) _, World.putObj_heap_other (by omega)⟩
        case assign =>
          intro l x W K hK
          gi_wp2
          exact hK
        case body =>
          rintro l pre x W hl ⟨vl, h1, h2, h3, h4, h5⟩ hx hlen
          have hbxW : Box W w.heap.size (fontCells d a) 26 := (h3 _ (by have := HQ.out; omega) (by have := HQ.out; omega)).trans (hbx.below (hg ▸ hb2))
          obtain ⟨f0, f1, f2, f3, f4, f5, f6, f7, f8, f9, f10⟩ := font_cells hbxW
          have HE := expand_any d a x.A x.c x.l W (Nat.le_refl _) (((hF.up hB).mono h4).up h4.size) hx.2 hx.1
          have HX := Lib.hid hx
          have HS3 := Lib.hid h3
          have H2 := Lib.hid h2
          clear hx h3 h2
          gi_wp2_with fail
          refine ⟨trivial, ?_⟩
          with_reducible refine (CallsIn.inRound l (callsIn_wide.2 HE)).mono ?_
          rintro e W3 ⟨ve, rfl, hbe, hoe⟩
          clear HE f0 f1 f2 f3 f4 f5 f6 f7 f8 f9 f10
          obtain ⟨T, hT⟩ : ∃ T, Hid ((pre.map fun x => expandV d x.l) = T) := ⟨_, Lib.hid rfl⟩
          rw [hT.out] at H2
          have hTl : T.length ≤ 100001 := by rw [← hT.out, List.length_map]; omega
          obtain ⟨E, hE⟩ : ∃ E, Hid (expandV d x.l = E) := ⟨_, Lib.hid rfl⟩
          rw [hE.out] at hoe
          have hRe : kI.R 3 W3 W.heap.size anyK ve E := Kd.R_of_own (by exact hoe) (fun _ _ => trivial)
          obtain ⟨Ae, ce, rfl⟩ := Kd.R_slice hRe
          obtain ⟨Al, cl, rfl⟩ := Kd.R_slice H2.out
          have b4 : Below W3.heap.size W3 (W3.alloc (.cells #[.slice Ae E.length ce] 23)) := (Below.refl _ _).alloc (Nat.le_refl _) _
          have hM4 := Kd.M_below (Kd.M_row (fresh_R hRe h5)) b4
          obtain ⟨hok, inner, hown, hreps⟩ := Kd.R_below H2.out (hbe.trans (b4.mono hbe.size))
          have HOwn := Lib.hid hown
          have HBd := Lib.hid (Kd.R_bound H2.out).1
          have hbox3 := h1.below hbe
          have k11 := hbox3.cell 0 rfl
          have hbox4 := hbox3.alloc (.cells #[.slice Ae E.length ce] 23)
          have HT4 : Hid (Fo.Touch (fun k => k = g10 + 1 ∨ (Value.slice Al T.length cl).ownBlock = some k) W (W3.alloc (.cells #[.slice Ae E.length ce] 23))) := Lib.hid (((Fo.Touch.refl _ W).below hbe).alloc _)
          have HRA : Hid (∀ v5 w5, w5.ownsRow W2.heap.size 23 1 v5 (T.length + 1) (inner ++ [Value.slice Ae E.length ce]) → (W3.alloc (.cells #[.slice Ae E.length ce] 23)).grownBy w5 (Value.slice Al T.length cl).ownBlock → (v5.ownBlock = (Value.slice Al T.length cl).ownBlock ∨ v5.ownBlock = some (W3.alloc (.cells #[.slice Ae E.length ce] 23)).heap.size) → kL.R 23 w5 W2.heap.size anyK v5 (T ++ [E])) := Lib.hid (fun v5 w5 ho hg ha => Kd.R_appended hok hreps hM4 (fun k hk => ⟨trivial, fun e => by have := (HBd.out k e.symm).2.2.1; omega⟩) (fun _ _ => trivial) ho hg (ha.imp_right fun e => ⟨_, e, Nat.le_refl _⟩))
          obtain ⟨i0, hi0, hz0, hz1, hz2⟩ := info_parts info_l
          have hs3 := hbe.size
          clear hok hreps hown hM4 hRe hoe hbox3 b4
          gi_wp2_with (gi_at_builtin
                       refine wpListIn_append_own_at _ rfl _ _ _ rfl W2.heap.size 23 i0 (.slice none 0 0) 1 24 Try.underlying31 hi0 hz0 hz1 hz2 rfl (by decide) _ T.length _ rfl HOwn.out ⟨W3.heap.size, 0, none⟩ 1 1 [.slice Ae E.length ce] rfl rfl (World.news_of_block (cs := #[.slice Ae E.length ce]) (t := 23) (fr := (0, 0)) (by have := heap_alloc_new W3 (.cells #[.slice Ae E.length ce] 23); simpa using this)) (by simp [Value.oneCell']) (by unfold maxLen; omega) (by omega) (by simp; omega) ?_
                       intro v5 w5 hown5 hg5 _ ha5
                       have hR5 := Lib.hid (HRA.out v5 w5 hown5 hg5 ha5)
                       have hT5 := Lib.hid (touch_grown HT4.out hg5 (fun k e => .inr e))
                       have hb5 : Box w5 (g10 + 1) #[.slice Al T.length cl] 31 := (hg5.block _ hbox4.lt (fun e => by have := (HBd.out _ e.symm).2.1; omega)).trans hbox4
                       have hf5 := hb5.free 0
                       have k5 := hb5.cell 0 rfl
                       obtain ⟨A5, c5, rfl⟩ := Kd.R_slice hR5.out
                       clear hown5 hg5 ha5)
          have hTz := hT5.out.set ⟨g10 + 1, 0, none⟩ (.slice A5 (T.length + 1) c5) (.inl rfl)
          have h4s := h4.size
          have hq := HQ.out
          refine ⟨⟨hTz.size, fun k o hk ho hc => hTz.obj ho (fun hs => ?_)⟩, ⟨hTz.toBelow (by omega) (fun k hk => ?_), hTz.block _ (by omega) (fun hs => ?_)⟩, _, hb5.set 0 _, ?_, fun k hk hg => (hTz.block k (by omega) (fun hs => ?_)).trans (HS3.out k (by omega) hg), h4.trans (hTz.toBelow h4.size (fun k hk => ?_)), by have := hTz.size; omega⟩
          · rcases hs with e | e
            · omega
            · obtain ⟨_, _, _, q, _, cells, hq⟩ := HBd.out _ e
              rw [ho] at hq
              cases hq
              cases hc
          · rcases hk with e | e
            · omega
            · have := (HBd.out _ e).2.1
              omega
          · rcases hs with e | e
            · omega
            · have := (HBd.out _ e).2.1
              omega
          · rw [List.map_append, hT.out]
            show kL.R _ _ _ _ _ (T ++ [expandV d x.l])
            rw [hE.out]
            exact Kd.R_mono (Kd.R_move (Kd.R_bound (by simpa using hR5.out)) (fun k hk => Below.heap_setCell w5 ⟨g10 + 1, 0, none⟩ _ k (by have := hk.2.1; show k ≠ g10 + 1; omega))) (fun _ _ => trivial)
          · rcases hs with e | e
            · omega
            · have := (HBd.out _ e).2.1
              omega
          · rcases hk with e | e
            · omega
            · have := (HBd.out _ e).2.1
              omega
        case done =>
          rintro D xs W hD hS ⟨vl, h1, h2, h3, h4, h5⟩ hK
          have HLn : Hid ((xs.map fun x => expandV d x.l) = lineP d r) := Lib.hid (by unfold lineP; rw [← hS, List.map_map]; rfl)
          rw [HLn.out] at h2
          have H2 := Lib.hid h2
          have HS3 := Lib.hid h3
          obtain ⟨Al, cl, rfl, hcap, hCl⟩ := Kd.R_reads h2
          have HCl := Lib.hid hCl
          have hln : (lineP d r).length ≤ 1001 := Nat.le_trans (line_len d r) (by have := HIt.out r (List.mem_of_getElem? hr); omega)
          have hlp := HS.out r (List.mem_of_getElem? hr)
          have hne := Lib.hid (line_ne d r)
          have HCon := containsE_any Al cl (lineP d r) W (heads_of hCl) (by omega) (fun x hx => by have := hlp x hx; omega)
          have HLp := Lib.hid hlp
          have k11 := h1.cell 0 rfl
          clear hlp hCl
          have hbxW : Box W w.heap.size (fontCells d a) 26 := (h3 _ (by have := HQ.out; omega) (by have := HQ.out; omega)).trans (hbx.below (hg ▸ hb2))
          have hb3W : Box W p3 #[.slice (some ⟨b0, o0, none⟩) rows.length cr] 27 := (h3 _ (by have := HQ.out; omega) (by have := HQ.out; omega)).trans (hb3.below (hg ▸ hb2))
          have hg10W : Box W g10 (rowCells r A0 cc0) 42 := (h3 _ (by omega) (by omega)).trans hg10
          have HL6W := Lib.hid (R_stay HL6.out (by omega) (show g10 + 1 < W2.heap.size by omega) W2 (hg ▸ hb2) h3)
          have HL7W := Lib.hid (R_stay HL7.out (by omega) (show g10 + 1 < W2.heap.size by omega) W2 (hg ▸ hb2) h3)
          have HDD : Hid ((D :: Ds).Nodup ∧ ∀ E ∈ D :: Ds, p3 < E ∧ W.heap[E]? = some (.deferred (some []))) := Lib.hid (by
            have hDs : ∀ E ∈ Ds, E < g10 := fun E hE => by have := (Array.getElem?_eq_some_iff.1 (HD.out.2 E hE).2).1; omega
            refine ⟨List.nodup_cons.2 ⟨fun hm => by have := hDs D hm; omega, HD.out.1⟩, fun E hE => ?_⟩
            rcases List.mem_cons.1 hE with rfl | hE
            · exact ⟨by have := HQ.out; omega, hK⟩
            · have h7 := hDs E hE
              exact ⟨(HD.out.2 E hE).1, (h3 E (by omega) (by omega)).trans (((hg ▸ hb2 : Below wr.heap.size wr W2)).block E (by omega) |>.trans (HD.out.2 E hE).2)⟩)
          clear hS h2 h3 hK
          gi_wp2_with fail
          refine ⟨trivial, ?_⟩
          with_reducible refine (callsIn_wide.2 HCon).mono ?_
          rintro e W4 ⟨rfl, hb4⟩
          clear HCon
          have hs4 := hb4.size
          have hDW : ∀ E ∈ D :: Ds, E < W.heap.size := fun E hE => (Array.getElem?_eq_some_iff.1 (HDD.out.2 E hE).2).1
          replace HDD : Hid ((D :: Ds).Nodup ∧ ∀ E ∈ D :: Ds, p3 < E ∧ W4.heap[E]? = some (.deferred (some []))) := Lib.hid ⟨HDD.out.1, fun E hE => ⟨(HDD.out.2 E hE).1, (hb4.block E (hDW E hE)).trans (HDD.out.2 E hE).2⟩⟩
          replace hbxW := hbxW.below hb4
          replace hb3W := hb3W.below hb4
          replace hg10W := hg10W.below hb4
          replace h1 := h1.below hb4
          replace HL6W := Lib.hid (Kd.R_below HL6W.out hb4)
          replace HL7W := Lib.hid (Kd.R_below HL7W.out hb4)
          replace H2 := Lib.hid (Kd.R_below H2.out hb4)
          replace h4 := h4.trans (hb4.mono h4.size)
          replace HCl := Lib.hid (Kd.C_below HCl.out hb4)
          have hn4 : W2.heap.size ≤ W4.heap.size := Nat.le_trans h5 hs4
          clear HS3 h5 hDW hD hb4 hs4 k11 W
          have k11 := h1.cell 0 rfl
          obtain ⟨y0, y1, y2, y3, y4⟩ := row_box hg10W
          have k3 := hb3W.cell 0 rfl
          have HBad : Hid (badR d rows.length i r = true → wordsP d rows = ([], 230)) := Lib.hid (by
            intro hb; rw [wordsP, if_neg (by rw [HT.out]; simp), badN_at d rows.length 0 rows i r hr (by simpa using hb)]; rfl)
          have HEnd := ended_any i rows.length r A0 (some ⟨b0, o0, none⟩) cc0 cr p3 W4 hb3W hlt (by omega)
          cases ha : (lineP d r).any (fun x => x.isEmpty) with
          | true =>
            have HN := HBad.out (by unfold badR; rw [ha]; rfl)
            have HN := Lib.hid HN
            clear ha HBad HEnd
            gi_wp2_with fail
            refine ⟨fun f hf => (by cases hf), ?_⟩
            gi_wp2_with fail
            refine leaves_marks (D :: Ds) _ HDD.out.1 (fun E hE => (HDD.out.2 E hE).2) ?_
            refine ⟨.tuple #[.slice none 0 0, .int .i64 230], ?_, .slice none 0 0, by rw [HN.out], by rw [HN.out]; exact Kd.R_nil _ _ _ _ _, shut_below h4 (fun E hE => by have := (HDD.out.2 E hE).1; have := HP.out; omega)⟩
            simp [results, Try.f9, go_sem]
          | false =>
            have Hany := Lib.hid ha
            clear ha
            gi_wp2_with fail
            refine ⟨trivial, ?_⟩
            with_reducible refine (callsIn_wide.2 HEnd).mono ?_
            rintro e W ⟨rfl, hb5⟩
            have hs5 := hb5.size
            have hDW : ∀ E ∈ D :: Ds, E < W4.heap.size := fun E hE => (Array.getElem?_eq_some_iff.1 (HDD.out.2 E hE).2).1
            replace HDD : Hid ((D :: Ds).Nodup ∧ ∀ E ∈ D :: Ds, p3 < E ∧ W.heap[E]? = some (.deferred (some []))) := Lib.hid ⟨HDD.out.1, fun E hE => ⟨(HDD.out.2 E hE).1, (hb5.block E (hDW E hE)).trans (HDD.out.2 E hE).2⟩⟩
            replace hbxW := hbxW.below hb5
            replace hb3W := hb3W.below hb5
            replace hg10W := hg10W.below hb5
            replace h1 := h1.below hb5
            replace HL6W := Lib.hid (Kd.R_below HL6W.out hb5)
            replace HL7W := Lib.hid (Kd.R_below HL7W.out hb5)
            replace H2 := Lib.hid (Kd.R_below H2.out hb5)
            replace h4 := h4.trans (hb5.mono h4.size)
            replace HCl := Lib.hid (Kd.C_below HCl.out hb5)
            replace hn4 := Nat.le_trans hn4 hs5
            clear HEnd hDW hb5 hs5 k11 k3 y0 y1 y2 y3 y4 W4
            have k11 := h1.cell 0 rfl
            obtain ⟨y0, y1, y2, y3, y4⟩ := row_box hg10W
            have k3 := hb3W.cell 0 rfl
            obtain ⟨q2, hq2⟩ : ∃ q, ((r.kind == 5) == decide (i + 1 = rows.length)) = q := ⟨_, rfl⟩
            rw [hq2]
            cases q2 with
            | false =>
              have HN := HBad.out (by unfold badR; rw [hq2]; simp)
              have HN := Lib.hid HN
              clear hq2 HBad
              gi_wp2_with fail
              refine leaves_marks (D :: Ds) _ HDD.out.1 (fun E hE => (HDD.out.2 E hE).2) ?_
              refine ⟨.tuple #[.slice none 0 0, .int .i64 230], ?_, .slice none 0 0, by rw [HN.out], by rw [HN.out]; exact Kd.R_nil _ _ _ _ _, shut_below h4 (fun E hE => by have := (HDD.out.2 E hE).1; have := HP.out; omega)⟩
              simp [results, Try.f9, go_sem]
            | true =>
              have Hq2 := Lib.hid hq2
              clear hq2
              obtain ⟨n, hnn⟩ : ∃ n, (lineP d r).length = n + 1 := ⟨(lineP d r).length - 1, by have := List.length_pos_iff.2 hne.out; omega⟩
              obtain ⟨z, hz⟩ := at_lt (l := lineP d r) (i := n) (by omega)
              obtain ⟨bl, ol, Az, cz, rfl, kz, hcz, hCz⟩ := kL_at HCl.out hz
              have hzl := HLp.out z (List.mem_of_getElem? hz)
              have hzn : z ≠ [] := fun e => by
                have h7 := Hany.out
                rw [List.any_eq_false] at h7
                exact h7 z (List.mem_of_getElem? hz) (by rw [e]; rfl)
              have HZ : Hid ((lineP d r).getD ((lineP d r).length - 1) [] = z) := Lib.hid (by rw [hnn, List.getD_eq_getElem?_getD]; simp [hz])
              obtain ⟨m, hmm⟩ : ∃ m, z.length = m + 1 := ⟨z.length - 1, by have := List.length_pos_iff.2 hzn; omega⟩
              obtain ⟨y, hy⟩ := at_lt (l := z) (i := m) (by omega)
              obtain ⟨bz, oz, uz, rfl, ky, hKy⟩ := kC_at hCz rfl hy
              have huz : uz = .int .i64 y := by
                have : [uz] = [Value.int .i64 y] := hKy
                simpa using this
              subst huz
              have HY : Hid (lastC z = y) := Lib.hid (by unfold lastC; rw [hmm, List.getD_eq_getElem?_getD]; simp [hy])
              have kz2 : W.cell? ⟨bl, ol + ((lineP d r).length - 1), none⟩ = some (.slice (some ⟨bz, oz, none⟩) z.length cz) := by rw [hnn]; exact kz
              have ky2 : W.cell? ⟨bz, oz + (z.length - 1), none⟩ = some (.int .i64 y) := by rw [hmm]; exact ky
              have hz1 : 0 < z.length := by omega
              have hl1 : 0 < (lineP d r).length := by omega
              clear hnn hmm hz hy hKy hzn hcz hCz kz ky
              have HB5 : Hid (badR d rows.length i r = ((r.kind == 2 || r.kind == 3) && y != 45)) := Lib.hid (by unfold badR; rw [HZ.out, HY.out, Hany.out, Hq2.out]; rfl)
              have HGo : Hid (badR d rows.length i r = false → ∀ k q, k < i + 1 → rows[k]? = some q → badR d rows.length k q = false) := Lib.hid (fun hb k q hk hq => by
                by_cases e : k = i
                · subst e; rw [hr] at hq; cases hq; exact hb
                · exact HG.out k q (by omega) hq)
              obtain ⟨bb, hbb⟩ : ∃ q, ((r.kind == 2 || r.kind == 3) && y != 45) = q := ⟨_, rfl⟩
              cases bb with
              | true =>
                have HN := HBad.out (by rw [HB5.out]; exact hbb)
                have HN := Lib.hid HN
                simp only [Bool.and_eq_true] at hbb
                obtain ⟨hbk, FY⟩ := hbb
                by_cases hk2 : r.kind = 2
                · have F1 : (r.kind == 2) = true := by simp [hk2]
                  clear hk2 hbk HGo HB5 HBad
                  gi_wp2_with fail
                  refine leaves_marks (D :: Ds) _ HDD.out.1 (fun E hE => (HDD.out.2 E hE).2) ?_
                  refine ⟨.tuple #[.slice none 0 0, .int .i64 230], ?_, .slice none 0 0, by rw [HN.out], by rw [HN.out]; exact Kd.R_nil _ _ _ _ _, shut_below h4 (fun E hE => by have := (HDD.out.2 E hE).1; have := HP.out; omega)⟩
                  simp [results, Try.f9, go_sem]
                · have F1 : (r.kind == 2) = false := by simp [hk2]
                  have F2 : (r.kind == 3) = true := by rw [F1] at hbk; simpa using hbk
                  clear hk2 hbk HGo HB5 HBad
                  gi_wp2_with fail
                  refine leaves_marks (D :: Ds) _ HDD.out.1 (fun E hE => (HDD.out.2 E hE).2) ?_
                  refine ⟨.tuple #[.slice none 0 0, .int .i64 230], ?_, .slice none 0 0, by rw [HN.out], by rw [HN.out]; exact Kd.R_nil _ _ _ _ _, shut_below h4 (fun E hE => by have := (HDD.out.2 E hE).1; have := HP.out; omega)⟩
                  simp [results, Try.f9, go_sem]
              | false =>
                have HGn := HGo.out (by rw [HB5.out]; exact hbb)
                have HGn := Lib.hid HGn
                clear HGo HB5 HBad
                have Hbb := Lib.hid hbb
                clear hbb
                gi_upto_region 18 with fail
                gi_cut [17] from 58 (fun v wx => v = .bool (r.kind == 2 || r.kind == 3) ∧ wx = W)
                case first =>
                  by_cases hk2 : r.kind = 2
                  · have F1 : (r.kind == 2) = true := by simp [hk2]
                    clear hk2
                    gi_wp2_with fail
                    gi_meet
                    exact ⟨by rw [F1]; rfl, rfl⟩
                  · have F1 : (r.kind == 2) = false := by simp [hk2]
                    clear hk2
                    gi_wp2_with fail
                    gi_meet
                    exact ⟨by rw [F1, Bool.false_or], rfl⟩
                case rest =>
                rename World => w3
                obtain ⟨rfl, hwx⟩ := hcut
                subst hwx
                rename World => W
                with_reducible apply_assumption
                obtain ⟨q3, hq3⟩ : ∃ q, (r.kind == 2 || r.kind == 3) = q := ⟨_, rfl⟩
                rw [hq3]
                have Hq3 := Lib.hid hq3
                clear hq3
                gi_cut [4, 5, 75] from 66 (fun v4 v5 v wx => v4 = .slice none 0 0 ∧ v5 = .int .i64 0 ∧ v = .bool false ∧ wx = W)
                case first =>
                  cases q3 with
                  | true =>
                    have FY : (y != 45) = false := by have := Hbb.out; rw [Hq3.out, Bool.true_and] at this; exact this
                    gi_wp2_with fail
                    gi_meet
                    exact ⟨rfl, rfl, rfl, rfl⟩
                  | false =>
                    gi_wp2_with fail
                    gi_meet
                    exact ⟨rfl, rfl, rfl, rfl⟩
                case rest =>
                rename World => w3
                obtain ⟨rfl, rfl, rfl, hwx⟩ := hcut
                subst hwx
                rename World => W
                with_reducible apply_assumption
                gi_upto_region 21 with fail
                refine wpIn_onlyN ?_
                have S1 : W.cell? ⟨g10, 1, none⟩ = some (.int .i64 r.kind) := y1
                have S2 : W.cell? ⟨g10 + 1, 0, none⟩ = some (.slice (some ⟨bl, ol, none⟩) (lineP d r).length cl) := k11
                clear y0 y1 y2 y3 y4 k11 k3 kz2 ky2 hg10W h1 HCl Hbb Hq3 Hany Hq2 HZ HY
                obtain ⟨T6, hT6⟩ : ∃ T, Hid ((rows.map (lineP d)).take i = T) := ⟨_, Lib.hid rfl⟩
                obtain ⟨T7, hT7⟩ : ∃ T, Hid ((rows.map fun r => (r.kind, (0 : Int), (0 : Int))).take i = T) := ⟨_, Lib.hid rfl⟩
                have HT6n : Hid ((rows.map (lineP d)).take (i + 1) = T6 ++ [lineP d r]) := Lib.hid (by rw [take_one (l := rows.map (lineP d)) (x := lineP d r) (by simp [hr]), hT6.out])
                have HT7n : Hid ((rows.map fun r => (r.kind, (0 : Int), (0 : Int))).take (i + 1) = T7 ++ [(r.kind, 0, 0)]) := Lib.hid (by rw [take_one (l := rows.map fun r => (r.kind, (0 : Int), (0 : Int))) (x := (r.kind, 0, 0)) (by simp [hr]), hT7.out])
                have hn6 : T6.length ≤ 1000 := by rw [← hT6.out, List.length_take, List.length_map]; omega
                have hn7 : T7.length ≤ 1000 := by rw [← hT7.out, List.length_take, List.length_map]; omega
                rw [hT6.out] at HL6W
                rw [hT7.out] at HL7W
                obtain ⟨hok6, inner6, hown6, hreps6⟩ := HL6W.out
                obtain ⟨hok7, inner7, hown7, hreps7⟩ := HL7W.out
                obtain ⟨i6, hi6, hz60, hz61, hz62⟩ := info_parts info_m
                obtain ⟨i7, hi7, hz70, hz71, hz72⟩ := info_parts info_b
                have hne76' : u6.ownBlock = none ∨ u6.ownBlock ≠ u7.ownBlock := by
                  rcases e : u6.ownBlock with _ | k
                  · exact .inl rfl
                  · right
                    obtain ⟨c1, hc1⟩ := Go.Proofs.YtbkfofmanpjbfaaW.PrintWords.own_typed hown6 k e
                    exact Kd.R_ne HL7W.out hc1 (by decide)
                have hne76 : u7.ownBlock = none ∨ u7.ownBlock ≠ u6.ownBlock := hne76'.elim (fun e => by
                  rcases e7 : u7.ownBlock with _ | k
                  · exact .inl rfl
                  · right; rw [e]; simp) (fun h => .inr (Ne.symm h))
                clear hne76'
                have hwW := h4.size
                have hl6 : ∀ k, u6.ownBlock = some k → k < g10 := fun k e => by have := Kd.R_lt HL6.out k e; omega
                have hl7 : ∀ k, u7.ownBlock = some k → k < g10 := fun k e => by have := Kd.R_lt HL7.out k e; omega
                have D1 : W.drew.cell? ⟨g10, 1, none⟩ = some (.int .i64 r.kind) := S1
                have D2 : W.drew.cell? ⟨g10 + 1, 0, none⟩ = some (.slice (some ⟨bl, ol, none⟩) (lineP d r).length cl) := S2
                have hgW : g10 + 1 < W.heap.size := by omega
                generalize (lineP d r).length = nl at *
                have D1a : ((W.alloc (.cells #[.slice (some ⟨bl, ol, none⟩) nl cl] 31)).drew).cell? ⟨g10, 1, none⟩ = some (.int .i64 r.kind) := old_cell _ S1
                have D2a : ((W.alloc (.cells #[.int .i64 r.kind, .int .i64 0, .int .i64 0] 62)).drew).cell? ⟨g10 + 1, 0, none⟩ = some (.slice (some ⟨bl, ol, none⟩) nl cl) := old_cell _ S2
                have hT0 : ∀ o, (W.alloc o).drew.heap[W.heap.size]? = some o := fun o => heap_alloc_new W o
                have hT1 : ∀ o o', ((W.alloc o).alloc o').drew.heap[W.heap.size]? = some o := fun o o' => (Below.heap_alloc (W.alloc o) o' _ (by simp)).trans (heap_alloc_new W o)
                have hT2 : ∀ o o', ((W.alloc o).alloc o').drew.heap[W.heap.size + 1]? = some o' := fun o o' => by have h := heap_alloc_new (W.alloc o) o'; rw [World.size_alloc] at h; exact h
                go_region_law? (first
                  | (refine step_append_lies _ (by rfl) _ _ _ (by rfl) w.heap.size 31 i6 (.slice none 0 0) 1 24 Try.underlying51 hi6 hz60 hz61 hz62 rfl (by omega) u6 T6.length inner6 (by rfl) (by first | exact hown6.drew.alloc _ | exact (hown6.drew.alloc _).alloc _) ⟨W.heap.size, 0, none⟩ 1 1 [.slice (some ⟨bl, ol, none⟩) nl cl] (by rfl) (by rfl) (World.news_of_block (cs := #[.slice (some ⟨bl, ol, none⟩) nl cl]) (t := 31) (fr := (0, 0)) (by first | exact hT0 _ | exact hT1 _ _ | exact hT2 _ _)) (by simp [Value.oneCell']) (by omega) (by unfold maxLen; omega) (by omega) (by simp; omega) _ rfl ?_; intro gA capA WA hownA hgA hatA hltA
                     have EA1 : WA.cell? ⟨g10, 1, none⟩ = some (.int .i64 r.kind) := by
                       rw [hgA.cell_far _ (by simp; omega) (by intro e; exact absurd (hl6 g10 e.symm) (by omega))]
                       first | exact old_cell _ D1 | exact old_cell _ (old_cell _ D1)
                     have EA2 : WA.cell? ⟨g10 + 1, 0, none⟩ = some (.slice (some ⟨bl, ol, none⟩) nl cl) := by
                       rw [hgA.cell_far _ (by simp; omega) (by intro e; exact absurd (hl6 (g10 + 1) e.symm) (by omega))]
                       first | exact old_cell _ D2 | exact old_cell _ (old_cell _ D2))
                  | (refine step_append_lies _ (by rfl) _ _ _ (by rfl) w.heap.size 31 i6 (.slice none 0 0) 1 24 Try.underlying51 hi6 hz60 hz61 hz62 rfl (by omega) u6 T6.length inner6 (by rfl) (by first | exact hown6.drew.alloc _ | exact (hown6.drew.alloc _).alloc _) ⟨W.heap.size + 1, 0, none⟩ 1 1 [.slice (some ⟨bl, ol, none⟩) nl cl] (by rfl) (by rfl) (World.news_of_block (cs := #[.slice (some ⟨bl, ol, none⟩) nl cl]) (t := 31) (fr := (0, 0)) (by first | exact hT0 _ | exact hT1 _ _ | exact hT2 _ _)) (by simp [Value.oneCell']) (by omega) (by unfold maxLen; omega) (by omega) (by simp; omega) _ rfl ?_; intro gA capA WA hownA hgA hatA hltA
                     have EA1 : WA.cell? ⟨g10, 1, none⟩ = some (.int .i64 r.kind) := by
                       rw [hgA.cell_far _ (by simp; omega) (by intro e; exact absurd (hl6 g10 e.symm) (by omega))]
                       first | exact old_cell _ D1 | exact old_cell _ (old_cell _ D1)
                     have EA2 : WA.cell? ⟨g10 + 1, 0, none⟩ = some (.slice (some ⟨bl, ol, none⟩) nl cl) := by
                       rw [hgA.cell_far _ (by simp; omega) (by intro e; exact absurd (hl6 (g10 + 1) e.symm) (by omega))]
                       first | exact old_cell _ D2 | exact old_cell _ (old_cell _ D2))
                  | (refine step_append_lies _ (by rfl) _ _ _ (by rfl) w.heap.size 62 i7 (.agg #[.int .i64 0, .int .i64 0, .int .i64 0]) 3 24 Try.underlying52 hi7 hz70 hz71 hz72 rfl (by omega) u7 T7.length inner7 (by rfl) (((hown7.drew.alloc _).kept hgA hne76).alloc _) ⟨WA.heap.size, 0, none⟩ 1 1 [.int .i64 r.kind, .int .i64 0, .int .i64 0] (by rfl) (by rfl) (World.news_of_block (cs := #[.int .i64 r.kind, .int .i64 0, .int .i64 0]) (t := 62) (fr := (0, 0)) (heap_alloc_new WA _)) (by simp [Value.oneCell']) (by omega) (by unfold maxLen; omega) (by omega) (by first | (simp; omega) | (have := hgA.size; simp at this ⊢; omega)) _ rfl ?_; intro gB capB WB hownB hgB hatB hltB)
                  | (refine step_append_lies _ (by rfl) _ _ _ (by rfl) w.heap.size 62 i7 (.agg #[.int .i64 0, .int .i64 0, .int .i64 0]) 3 24 Try.underlying52 hi7 hz70 hz71 hz72 rfl (by omega) u7 T7.length inner7 (by rfl) (((hown7.drew.alloc _).alloc _).kept hgA hne76) ⟨W.heap.size + 1, 0, none⟩ 1 1 [.int .i64 r.kind, .int .i64 0, .int .i64 0] (by rfl) (by rfl) (World.news_of_block (cs := #[.int .i64 r.kind, .int .i64 0, .int .i64 0]) (t := 62) (fr := (0, 0)) ((hgA.block _ (by simp) (by intro e; have := hl6 _ e.symm; omega)).trans (hT2 _ _))) (by simp [Value.oneCell']) (by omega) (by unfold maxLen; omega) (by omega) (by first | (simp; omega) | (have := hgA.size; simp at this ⊢; omega)) _ rfl ?_; intro gB capB WB hownB hgB hatB hltB)
                  | (refine step_append_lies _ (by rfl) _ _ _ (by rfl) w.heap.size 62 i7 (.agg #[.int .i64 0, .int .i64 0, .int .i64 0]) 3 24 Try.underlying52 hi7 hz70 hz71 hz72 rfl (by omega) u7 T7.length inner7 (by rfl) (((hown7.drew.alloc _).alloc _).kept hgA hne76) ⟨W.heap.size, 0, none⟩ 1 1 [.int .i64 r.kind, .int .i64 0, .int .i64 0] (by rfl) (by rfl) (World.news_of_block (cs := #[.int .i64 r.kind, .int .i64 0, .int .i64 0]) (t := 62) (fr := (0, 0)) ((hgA.block _ (by simp; omega) (by intro e; have := hl6 _ e.symm; omega)).trans (hT1 _ _))) (by simp [Value.oneCell']) (by omega) (by unfold maxLen; omega) (by omega) (by first | (simp; omega) | (have := hgA.size; simp at this ⊢; omega)) _ rfl ?_; intro gB capB WB hownB hgB hatB hltB))
                all_goals
                  have HE := Lib.hid (reg_ends HL6W.out hreps6 HL7W.out hreps7 H2.out hn2 (fun k e => by have := hl6 k e; omega) h4 h4.size
                    (by first | exact below_drew (below_alloc (Below.refl _ _) _) | exact below_drew (below_alloc (below_alloc (Below.refl _ _) _) _) | exact below_alloc (Below.refl _ _) _) hgA
                    (by first | exact below_alloc (Below.refl _ _) _ | exact Below.refl _ _ | exact below_drew (below_alloc (Below.refl _ _) _) | exact below_drew (Below.refl _ _)) hgB hownA hownB hatA hatB)
                  clear hgA hgB hownA hownB hatA hatB hltA hltB EA1 EA2 hown6 hreps6 hok6 hown7 hreps7 hok7 S1 S2 D1 D2 D1a D2a hT0 hT1 hT2
                  dsimp only [onlyN]
                  gi_wp2_with fail
                  obtain ⟨E6, E7, E8, E9⟩ := HE.out
                  refine ⟨?_, ?_⟩
                  · (repeat apply Exists.intro); refine ⟨?_, rfl⟩
                    exact ⟨i + 1, D :: Ds, rfl, rfl, Lib.hid (by omega), HGn, Lib.hid (by rw [HT6n.out]; exact E6), Lib.hid (by rw [HT7n.out]; exact E7), E9 _ _ hbxW (fun cs e => by cases e) (fun cs e => by cases e), E9 _ _ hb3W (fun cs e => by cases e) (fun cs e => by cases e), Lib.hid ⟨HDD.out.1, fun E hE => ⟨(HDD.out.2 E hE).1, E9 _ _ (HDD.out.2 E hE).2 (fun cs e => by cases e) (fun cs e => by cases e)⟩⟩, E8⟩
                  · show rows.length - (intOf (.int .i64 ((i : Int) + 1))).toNat < rows.length - (intOf (.int .i64 (i : Int))).toNat
                    simp only [intOf]
                    omega
      · have hie : i = rows.length := by have := HI.out; omega
        have HBn : Hid (badN d rows.length 0 rows = false) := Lib.hid (badN_none d rows.length 0 rows (fun k r hk => by rw [Nat.zero_add]; exact HG.out k r (by have := (List.getElem?_eq_some_iff.1 hk).1; omega) hk))
        have k3 := hb3.cell 0 rfl
        have L6 := HL6.out
        have L7 := HL7.out
        rw [hie, List.take_of_length_le (by simp)] at L6 L7
        obtain ⟨A6, c6, rfl, hc6, hC6⟩ := Kd.R_reads L6
        obtain ⟨A7, c7, rfl, hc7, hC7⟩ := Kd.R_reads L7
        by_cases hr0 : rows = []
        · have HN : Hid (wordsP d rows = ([], 230)) := Lib.hid (by rw [wordsP, if_neg (by rw [HT.out]; simp), HBn.out, hr0]; rfl)
          have F1 : ((rows.length : Int) == 0) = true := by rw [hr0]; rfl
          clear hr0
          clear hie HBn HL6 HL7 L6 L7 hC6 hC7
          gi_wp2_with fail
          refine leaves_marks Ds _ HD.out.1 (fun E hE => (HD.out.2 E hE).2) ?_
          refine ⟨.tuple #[.slice none 0 0, .int .i64 230], ?_, .slice none 0 0, by rw [HN.out], by rw [HN.out]; exact Kd.R_nil _ _ _ _ _, shut_below hbw (fun E hE => by have := (HD.out.2 E hE).1; have := HP.out; omega)⟩
          simp [results, Try.f9, go_sem]
        · have HN : Hid (wordsP d rows = (wholeP (rows.map (lineP d)) (rows.map (·.kind)), 0)) := Lib.hid (by rw [wordsP, if_neg (by rw [HT.out]; simp), HBn.out, if_neg (by simpa using hr0)])
          have hne0 : 0 < rows.length := List.length_pos_iff.2 hr0
          clear hr0
          have el1 : (rows.map (lineP d)).length = rows.length := by simp
          have el2 : (rows.map fun r => (r.kind, (0 : Int), (0 : Int))).length = rows.length := by simp
          have el3 : (rows.map (·.kind)).length = rows.length := by simp
          have hKi := kinds_of hC7
          have em : ((rows.map fun r => (r.kind, (0 : Int), (0 : Int))).map (·.1)) = rows.map (·.kind) := by rw [List.map_map]; rfl
          rw [em] at hKi
          have HW := whole_any A6 A7 c6 c7 (rows.map (lineP d)) (rows.map (·.kind)) wr hC6 hKi (by rw [el1, el3]) (by rw [el1]; exact hn)
            (fun l hl => by
              obtain ⟨q, hq, rfl⟩ := List.mem_map.1 hl
              have h8 := line_len d q
              have h9 := HIt.out q hq
              omega)
            (fun l hl => by
              obtain ⟨q, hq, rfl⟩ := List.mem_map.1 hl
              exact HS.out q hq)
            HO.out
          have F1 : ((rows.length : Int) == 0) = false := by rw [beq_eq_false_iff_ne]; omega
          rw [el1] at *
          rw [el2] at *
          rw [el3] at HW
          clear hie HBn HL6 HL7 L6 L7 hC6 hC7 hKi em el1 el2 el3
          gi_wp2_with fail
          refine ⟨trivial, ?_⟩
          with_reducible refine (callsIn_wide.2 HW).mono ?_
          rintro e W5 ⟨v5, rfl, hR5, hb5⟩
          have hd5 : ∀ E ∈ Ds, p3 < E ∧ W5.heap[E]? = some (.deferred (some [])) := fun E hE => ⟨(HD.out.2 E hE).1, below_obj (HD.out.2 E hE).2 hb5⟩
          have HR5 := Lib.hid (R_shut hR5 (Ds := Ds) (fun E hE => (hd5 E hE).2))
          have hbw5 := hbw.trans (hb5.mono hbw.size)
          have HD5 := Lib.hid hd5
          clear HW hR5 hb5 hd5
          gi_wp2_with fail
          refine leaves_marks Ds _ HD.out.1 (fun E hE => (HD5.out E hE).2) ?_
          refine ⟨.tuple #[v5, .int .i64 0], ?_, v5, by rw [HN.out], by rw [HN.out]; exact Kd.R_lower HR5.out hbw.size, shut_below hbw5 (fun E hE => by have := (HD5.out E hE).1; have := HP.out; omega)⟩
          simp [results, Try.f9, go_sem]
end Go.Proofs.Ytbkfofmanpjbfaa.Bk
