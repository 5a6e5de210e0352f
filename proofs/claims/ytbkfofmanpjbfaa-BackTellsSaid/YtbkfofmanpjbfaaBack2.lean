/- A row's codes, parted at each gap, as an iterator. -/
import Derived.Test.YtbkfofmanpjbfaaBack1
import Derived.Test.YtbkfofmanpjbfaaRangeOwn
import Derived.OwnWalkIn
import Derived.Maps.OwnIn
import Derived.TacticsInMore
import Derived.LoopNIn
import Derived.LoopIn
namespace Go.Proofs.Ytbkfofmanpjbfaa.Bk
open Go.RowKit Go.Proofs.Ytbkfofmanpjbfaa.Kit Go.Proofs.Ytbkfofmanpjbfaa.Fo Go.Shelf
set_option linter.unusedVariables false
set_option linter.unusedSimpArgs false
attribute [local go_sem] Oper.semAt_some

abbrev placedR : Rep (Int × Int) := Rep.seq (Rep.int .i64) (Rep.int .i64)
structure RowD where
  level : Int
  kind : Int
  fin : Int
  defect : Int
  items : List (Int × Int)
abbrev rowCells (d : RowD) (A : Option Addr) (c : Nat) : Array Value := #[.int .i64 d.level, .int .i64 d.kind, .int .i64 d.fin, .int .i64 d.defect, .slice A d.items.length c]
abbrev rowV (d : RowD) (A : Option Addr) (c : Nat) : Value := .agg (rowCells d A c)
def codesOf (d : RowD) : List Int := d.items.map (·.1)
/-- Codes, parted at each gap, behind some. -/
def splitG : List Int → List Int → List (List Int)
  | L, [] => [L]
  | L, c :: cs => if c = 32 then L :: splitG [] cs else splitG (L ++ [c]) cs
theorem split_gap {L : List Int} {c : Int} {cs : List Int} (h : c = 32) : splitG L (c :: cs) = L :: splitG [] cs := by rw [splitG, if_pos h]
theorem split_on {L : List Int} {c : Int} {cs : List Int} (h : ¬ c = 32) : splitG L (c :: cs) = splitG (L ++ [c]) cs := by rw [splitG, if_neg h]
/-- A piece, and where it lies. -/
structure PieceX where
  A : Option Addr
  c : Nat
  l : List Int
abbrev pieceV (x : PieceX) : Array Value := #[.slice x.A x.l.length x.c]
def pieceFact (x : PieceX) (W : World) : Prop := x.l.length ≤ 100000 ∧ Row (Rep.int .i64) W W.heap.size x.A x.l
def KeepR (n₀ gr : Nat) (W W' : World) : Prop := Below n₀ W W' ∧ W'.heap[gr]? = W.heap[gr]?
theorem KeepR.refl (n₀ gr : Nat) (W : World) : KeepR n₀ gr W W := ⟨Below.refl _ _, rfl⟩
theorem KeepR.trans {n₀ gr : Nat} {A B C : World} (h : KeepR n₀ gr A B) (k : KeepR n₀ gr B C) : KeepR n₀ gr A C := ⟨h.1.trans k.1, k.2.trans h.2⟩
theorem placed_at {w : World} {B : Nat} {A : Option Addr} {l : List (Int × Int)} (h : Row placedR w B A l) {i : Nat} {x : Int × Int} (hx : l[i]? = some x) :
    ∃ b o, A = some ⟨b, o, none⟩ ∧ b < B ∧ w.cell? ⟨b, o + i * 2, none⟩ = some (.int .i64 x.1) ∧ w.cell? ⟨b, o + i * 2 + 1, none⟩ = some (.int .i64 x.2) ∧ (Lit.int .i64 x.1).wf = true := by
  obtain ⟨b, o, cs, rfl, hb, ⟨c1, r1, rfl, ⟨rfl, w1⟩, rfl, w2⟩, hc⟩ := h i x hx
  exact ⟨b, o, rfl, hb, hc 0 _ rfl, hc 1 _ rfl, w1⟩
theorem row_box {w : World} {g : Nat} {d : RowD} {A : Option Addr} {c : Nat} {t : TypeId} (h : Box w g (rowCells d A c) t) :
    w.cell? ⟨g, 0, none⟩ = some (.int .i64 d.level) ∧ w.cell? ⟨g, 1, none⟩ = some (.int .i64 d.kind) ∧ w.cell? ⟨g, 2, none⟩ = some (.int .i64 d.fin) ∧ w.cell? ⟨g, 3, none⟩ = some (.int .i64 d.defect) ∧ w.cell? ⟨g, 4, none⟩ = some (.slice A d.items.length c) :=
  ⟨h.cell 0 rfl, h.cell 1 rfl, h.cell 2 rfl, h.cell 3 rfl, h.cell 4 rfl⟩

set_option maxRecDepth 10000 in
set_option maxHeartbeats 4000000 in
theorem pieces1_all (F : Fence) (n : Nat) (hfn : F.fn 27) (hro : F.round = none) (hn : 1 ≤ n) (gr n₀ : Nat) (d : RowD) (A : Option Addr) (c : Nat) (w : World) (hn₀ : n₀ ≤ w.heap.size) (hbx : Box w gr (rowCells d A c) 42) (hI : Row placedR w n₀ A d.items) (hlen : d.items.length ≤ 100000) :
    GivesAll F n Try.prog 27 #[.pointer (some ⟨gr, 0, none⟩)] pieceV (KeepR n₀ gr) pieceFact (fun xs => xs.map (·.l) = splitG [] (codesOf d)) (d.items.length + 1) w := by
  intro l J W hW hJl hY h0
  have HY := Lib.hid hY
  have HJ := Lib.hid hJl
  have hbxW := hbx.below hW
  have HIW : Hid (∀ V, KeepR n₀ gr W V → Row placedR V n₀ A d.items ∧ Box V gr (rowCells d A c) 42) := Lib.hid fun V hk => ⟨hI.mono ((hW.mono hn₀).trans hk.1), hk.2.trans hbxW⟩
  have hszW : n₀ ≤ W.heap.size := Nat.le_trans hn₀ hW.size
  have hgrl : gr < W.heap.size := hbxW.lt
  clear hY hJl hbx hI hW
  obtain ⟨r, hr⟩ : ∃ r, Hid (splitG [] (codesOf d) = r) := ⟨_, Lib.hid rfl⟩
  rw [hr.out]
  obtain ⟨f0, f1, f2, f3, f4⟩ := row_box hbxW
  refine callsIn_of_wp Try.func27 rfl hfn ?_ hro
  simp only [Try.ntmps27, List.size_toArray, List.length_cons, List.length_nil, Nat.reduceAdd, Nat.reduceSub, Array.replicate_succ, Array.replicate_zero, List.push_toArray, List.append_toArray, List.nil_append, List.cons_append]
  gi_wp2
  clear f0 f1 f2 f3 f4 hbxW
  gi_loopw [3, 9] (fun v i wr => ∃ (k : Nat) (L : List Int) (pre : List PieceX) (Wy : World), i = .int .i64 k ∧ k ≤ d.items.length ∧ L.length ≤ k ∧ pre.length ≤ k ∧ J pre Wy ∧ Below Wy.heap.size Wy wr ∧ wr.ownsRow Wy.heap.size 3 1 v L.length (L.map (Value.int .i64)) ∧ KeepR n₀ gr W wr ∧ n₀ ≤ Wy.heap.size ∧ gr < Wy.heap.size ∧ Hid (r = pre.map (·.l) ++ splitG L ((codesOf d).drop k)) ∧ Hid (∀ x ∈ L, (Lit.int .i64 x).wf = true)) (fun _ i _ => d.items.length - (intOf i).toNat)
  case atStart => exact ⟨0, [], [], W, rfl, by omega, by simp, by simp, h0, Below.refl _ _, own_nil _ _ _ _, KeepR.refl _ _ _, hszW, hgrl, Lib.hid (by rw [← hr.out]; rfl), Lib.hid (by simp)⟩
  case round =>
    rename World => wr
    obtain ⟨k, L, pre, Wy, rfl, hk, hL, hp, hJ, hB, hown, hK, hsy, hgy, HR, HwL⟩ := hrel
    by_cases hlt : k < d.items.length
    · obtain ⟨x, hx⟩ := at_lt hlt
      obtain ⟨hIr, hbr⟩ := HIW.out wr hK
      obtain ⟨b, o, rfl, hbl, y0, y1, hwx⟩ := placed_at hIr hx
      have HD : Hid ((codesOf d).drop k = x.1 :: (codesOf d).drop (k + 1)) := Lib.hid (drop_cons (by simp [codesOf, hx]))
      clear hx hIr
      by_cases hg : x.1 = 32
      · have HRn : Hid (r = pre.map (·.l) ++ (L :: splitG [] ((codesOf d).drop (k + 1)))) := Lib.hid (by rw [HR.out, HD.out, split_gap hg])
        have F1 : (x.1 != 32) = false := by simp [hg]
        obtain ⟨Ax, cx, hv, _, hrow, _⟩ := own_row (l := L) hown HwL.out
        subst hv
        have hbl2 := below_alloc hB (.cells #[.int .i64 x.1, .int .i64 x.2] 44)
        have hJr := HJ.out pre Wy _ hJ hbl2
        have hfx : pieceFact ⟨Ax, cx, L⟩ (wr.alloc (.cells #[.int .i64 x.1, .int .i64 x.2] 44)) := ⟨by show L.length ≤ 100000; omega, (hrow.mono ((Below.refl _ wr).alloc (Nat.le_refl _) _)).up (by simp)⟩
        obtain ⟨fn, tmps, assign, body, hy, hRd⟩ := HY.out pre ⟨Ax, cx, L⟩ _ hJr hfx (by omega)
        have hy' : (Instr.yield l #[.slice Ax L.length cx]).run Try.prog (wr.alloc (.cells #[.int .i64 x.1, .int .i64 x.2] 44)) = _ := hy
        have hKa : KeepR n₀ gr W (wr.alloc (.cells #[.int .i64 x.1, .int .i64 x.2] 44)) := hK.trans ⟨(Below.refl _ _).alloc (Nat.le_trans hsy hB.size) _, ((Below.refl wr.heap.size wr).alloc (Nat.le_refl _) _).block gr hbr.lt⟩
        have hsz0 : Wy.heap.size ≤ wr.heap.size := hB.size
        clear hy hown hrow hfx hJr hbl2 hB hJ hK HR HD hg hbr
        gi_wp2
        refine hRd.mono ?_
        rintro e W3 ⟨rfl, hJ3, hk3⟩
        have hs3 := hk3.1.size
        simp only [World.size_alloc] at hs3
        clear y0 y1 hy'
        gi_wp2
        refine ⟨⟨k + 1, [], pre ++ [⟨Ax, cx, L⟩], W3, by simp, by omega, by simp, by simp; omega, hJ3, Below.refl _ _, own_nil _ _ _ _, hKa.trans hk3, by omega, by omega, Lib.hid (by rw [HRn.out]; simp), Lib.hid (by simp)⟩, by simp [intOf]; omega⟩
      · have HRn : Hid (r = pre.map (·.l) ++ splitG (L ++ [x.1]) ((codesOf d).drop (k + 1))) := Lib.hid (by rw [HR.out, HD.out, split_on hg])
        have F1 : (x.1 != 32) = true := by simp [hg]
        have HwN : Hid (∀ y ∈ L ++ [x.1], (Lit.int .i64 y).wf = true) := Lib.hid fun y hy => by
          rcases List.mem_append.1 hy with hy | hy
          · exact HwL.out y hy
          · rw [List.mem_singleton.1 hy]; exact hwx
        have hsz0 : Wy.heap.size ≤ wr.heap.size := hB.size
        obtain ⟨i0, hi0, hz0, hz1, hz2⟩ := info_parts info_i64
        have hbl2 := below_alloc (below_alloc hB (.cells #[.int .i64 x.1, .int .i64 x.2] 44)) (.cells #[.int .i64 x.1] 3)
        have hown2 := (hown.alloc (.cells #[.int .i64 x.1, .int .i64 x.2] 44)).alloc (.cells #[.int .i64 x.1] 3)
        have hKa : KeepR n₀ gr W ((wr.alloc (.cells #[.int .i64 x.1, .int .i64 x.2] 44)).alloc (.cells #[.int .i64 x.1] 3)) := hK.trans ⟨((Below.refl _ _).alloc (by omega) _).alloc (by simp; omega) _, (below_alloc ((Below.refl wr.heap.size wr).alloc (Nat.le_refl _) _) _).block gr hbr.lt⟩
        have HO := Lib.hid hown2
        clear hown hB hK HR HD hg hbr
        gi_wp2_with (gi_at_builtin
                     (refine wpListIn_append_own_at _ rfl _ _ _ rfl Wy.heap.size 3 i0 (.int .i64 0) 1 8 Try.underlying23 hi0 hz0 hz1 hz2 rfl (by decide) _ L.length _ rfl HO.out ⟨wr.heap.size + 1, 0, none⟩ 1 1 [.int .i64 x.1] rfl rfl (World.news_of_block (cs := #[.int .i64 x.1]) (t := 3) (fr := (0, 0)) (by have := heap_alloc_new (wr.alloc (.cells #[.int .i64 x.1, .int .i64 x.2] 44)) (.cells #[.int .i64 x.1] 3); simpa using this)) (by simp [Value.oneCell']) (by unfold maxLen; omega) (by omega) (by simp; omega) ?_)
                     intro v5 w5 hown5 hg5 _ _)
        have HB5 : Below Wy.heap.size Wy w5 := Below.grown hbl2 hg5 (by simp; omega) (fun j e => by have := (HO.out.lt j e).1; omega)
        have hK5 : KeepR n₀ gr W w5 := hKa.trans ⟨Below.grown (Below.refl _ _) hg5 (by simp; omega) (fun j e => by have := (HO.out.lt j e).1; omega), hg5.block gr (by simp; omega) (fun e => by have := (HO.out.lt gr e.symm).1; omega)⟩
        clear hi0 hz0 hz1 hz2 hg5 y0 y1
        gi_wp2
        refine ⟨⟨k + 1, L ++ [x.1], pre, Wy, by simp, by omega, by simp; omega, by omega, hJ, HB5, by simpa using hown5, hK5, hsy, hgy, HRn, HwN⟩, by simp [intOf]; omega⟩
    · have hke : k = d.items.length := by omega
      have HRn : Hid (r = pre.map (·.l) ++ [L]) := Lib.hid (by rw [HR.out, List.drop_eq_nil_of_le (by simp [codesOf]; omega)]; rfl)
      obtain ⟨Ax, cx, hv, _, hrow, _⟩ := own_row (l := L) hown HwL.out
      subst hv
      have hJr := HJ.out pre Wy _ hJ hB
      have hfx : pieceFact ⟨Ax, cx, L⟩ wr := ⟨by show L.length ≤ 100000; omega, hrow⟩
      obtain ⟨fn, tmps, assign, body, hy, hRd⟩ := HY.out pre ⟨Ax, cx, L⟩ _ hJr hfx (by omega)
      have hy' : (Instr.yield l #[.slice Ax L.length cx]).run Try.prog wr = _ := hy
      clear hy hown hrow hfx hJr hB hJ HR hke
      gi_wp2
      refine hRd.mono ?_
      rintro e W3 ⟨rfl, hJ3, hk3⟩
      clear hy'
      gi_wp2
      go_end0
      exact ⟨⟨_, rfl⟩, pre ++ [⟨Ax, cx, L⟩], by rw [HRn.out]; simp, hJ3⟩
end Go.Proofs.Ytbkfofmanpjbfaa.Bk
