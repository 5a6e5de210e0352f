/- Rows with their items, made by the call: their kind, and how they are read. -/
import Derived.Test.YtbkfofmanpjbfaaBack12
import Derived.Test.YtbkfofmanpjbfaaBack14P
namespace Go.Proofs.Ytbkfofmanpjbfaa.Bk
open Go.RowKit Go.Proofs.Ytbkfofmanpjbfaa.Kit Go.Proofs.Ytbkfofmanpjbfaa.Fo Go.Shelf
open Go.Proofs.YtbkfofmanpjbfaaW.PrintWords (Kd)
set_option linter.unusedVariables false
set_option linter.unusedSimpArgs false

abbrev kP : Kd (Int × Int) := Kd.pair kI kI
abbrev kR : Kd (Int × Int × Int × Int × List (Int × Int)) := Kd.pair kI (Kd.pair kI (Kd.pair kI (Kd.pair kI (Kd.slice 44 kP))))
def rowT (r : RowD) : Int × Int × Int × Int × List (Int × Int) := (r.level, r.kind, r.fin, r.defect, r.items)
theorem C_spot {α : Type} {d : Kd α} {w : World} {A : Option Addr} {n : Nat} {xs : List α} (hC : d.C w A n xs) (hs : 0 < d.sz) {i : Nat} {x : α} (hx : xs[i]? = some x) :
    ∃ b o cs, A = some ⟨b, o, none⟩ ∧ d.K w x cs ∧ cs.length = d.sz ∧ ∀ j u, cs[j]? = some u → w.cell? ⟨b, o + (i * d.sz + j), none⟩ = some u := by
  have hn : xs.length = n := hC.1
  have hi : i < xs.length := (List.getElem?_eq_some_iff.1 hx).1
  have hg : xs.getD i x = x := by rw [List.getD_eq_getElem?_getD, hx]; rfl
  obtain ⟨ad, c, rfl, hcl, hK, hc⟩ := Kd.C_get hC x (i : Int) (by omega) (by omega)
  rw [Int.toNat_natCast, hg] at hK
  obtain ⟨ad', c0, e0, hcl0, _, hc0⟩ := Kd.C_get hC x (0 : Int) (by omega) (by omega)
  cases e0
  obtain ⟨u0, hu0⟩ := at_lt (show 0 < c0.length by omega)
  have h0 := hc0 0 u0 hu0
  have e1 : ad.add ((0 : Int).toNat * d.sz + 0) = ad := by simp [Addr.add]
  rw [e1] at h0
  have hsp := World.cell?_spot h0
  refine ⟨ad.block, ad.off, c, ?_, hK, hcl, fun j u hu => ?_⟩
  · cases ad; simp_all
  · have h1 := hc j u hu
    rw [Int.toNat_natCast] at h1
    rw [← h1, add_spot h1]
theorem placed_of_C {w : World} {A : Option Addr} {l : List (Int × Int)} (hC : kP.C w A l.length l) (hw : ∀ p ∈ l, (Lit.int .i64 p.1).wf = true ∧ (Lit.int .i64 p.2).wf = true) : Row placedR w w.heap.size A l := by
  intro i x hx
  obtain ⟨b, o, cs, rfl, hK, hl, hc⟩ := C_spot hC (by decide) hx
  obtain ⟨c0, c1, rfl, h0, h1⟩ := hK
  have e0 : c0 = [Value.int .i64 x.1] := h0
  have e1 : c1 = [Value.int .i64 x.2] := h1
  subst e0 e1
  have hm := hw x (List.mem_of_getElem? hx)
  refine ⟨b, o, _, rfl, ?_, ⟨[_], _, rfl, ⟨rfl, hm.1⟩, rfl, hm.2⟩, hc⟩
  have h5 := hc 0 _ rfl
  exact World.block_lt_of_cell? w _ h5
theorem rows_of_C {w : World} {A : Option Addr} {rows : List RowD} (hC : kR.C w A rows.length (rows.map rowT)) (hw : ∀ r ∈ rows, ∀ p ∈ r.items, (Lit.int .i64 p.1).wf = true ∧ (Lit.int .i64 p.2).wf = true) (hi : ∀ r ∈ rows, r.items.length ≤ 100000) : RowsIn w w.heap.size A rows := by
  intro i r hr
  obtain ⟨b, o, cs, rfl, hK, hl, hc⟩ := C_spot hC (by decide) (x := rowT r) (i := i) (by rw [List.getElem?_map, hr]; rfl)
  obtain ⟨c0, d0, rfl, h0, c1, d1, rfl, h1, c2, d2, rfl, h2, c3, d3, rfl, h3, A4, c4, rfl, h4, h5⟩ := hK
  have e0 : c0 = [Value.int .i64 r.level] := h0
  have e1 : c1 = [Value.int .i64 r.kind] := h1
  have e2 : c2 = [Value.int .i64 r.fin] := h2
  have e3 : c3 = [Value.int .i64 r.defect] := h3
  subst e0 e1 e2 e3
  refine ⟨b, o, A4, c4, rfl, fun j v hv => ?_, placed_of_C h5 (hw r (List.mem_of_getElem? hr)), hi r (List.mem_of_getElem? hr)⟩
  have := hc j v (by rw [← hv, ← Array.getElem?_toList]; rfl)
  rw [show o + i * 5 + j = o + (i * kR.sz + j) by rw [show kR.sz = 5 from rfl]; omega]
  exact this
/-- What is so while the items of a moved row come in. -/
def ItemI (wx W0 : World) (g : Nat) (c0 c1 c2 c3 : Int) (l : List (Int × Int)) (wr : World) : Prop := ∃ v, Box wr g #[.int .i64 c0, .int .i64 c1, .int .i64 c2, .int .i64 c3, v] 42 ∧ kP.R 44 wr W0.heap.size anyK v l ∧
  (∀ j, j < W0.heap.size → j ≠ g → wr.heap[j]? = W0.heap[j]?) ∧ W0.heap.size ≤ wr.heap.size ∧ Below wx.heap.size wx wr
theorem info_p : (Try.prog.info? 44).map (fun i => (i.zero, i.size, i.bytes)) = some (some (.agg #[.int .i64 0, .int .i64 0]), 2, 16) := by kernel_rfl
theorem wf_wrap (n : Int) : (Lit.int .i64 (IntKind.i64.wrap n)).wf = true := by
  rw [IntKind.wrap_i64]
  exact Go.Proofs.Ytbkfofmanpjbfaa.RFo.wf_i64 (by omega) (by omega)
/-- Behind one item more. -/
theorem item_next {wx W0 wr V w5 : World} {g gA capA : Nat} {c0 c1 c2 c3 x y : Int} {l : List (Int × Int)} {v : Value} {inner : List Value}
    (hb : Box wr g #[.int .i64 c0, .int .i64 c1, .int .i64 c2, .int .i64 c3, v] 42) (hR : kP.R 44 wr W0.heap.size anyK v l) (hr : Go.Proofs.YtbkfofmanpjbfaaW.PrintWords.Reps (kP.M wr W0.heap.size (fun k => anyK k ∧ some k ≠ v.ownBlock)) kP.sz l inner)
    (hst : ∀ j, j < W0.heap.size → j ≠ g → wr.heap[j]? = W0.heap[j]?) (hsz : W0.heap.size ≤ wr.heap.size) (hB : Below wx.heap.size wx wr) (hgx : wx.heap.size ≤ g) (hg0 : g < W0.heap.size)
    (hV : Below wr.heap.size wr V) (hown : w5.ownsRow W0.heap.size 44 2 (.slice (some ⟨gA, 0, none⟩) (l.length + 1) capA) (l.length + 1) (inner ++ [.int .i64 x, .int .i64 y])) (hg : V.grownBy w5 v.ownBlock) (hat : v.ownBlock = some gA ∨ gA = V.heap.size) :
    Box w5 g #[.int .i64 c0, .int .i64 c1, .int .i64 c2, .int .i64 c3, v] 42 ∧ ItemI wx W0 g c0 c1 c2 c3 (l ++ [(x, y)]) (w5.setCell ⟨g, 4, none⟩ (.slice (some ⟨gA, 0, none⟩) (l.length + 1) capA)) ∧ Below wx.heap.size wx w5 := by
  obtain ⟨i0, ho⟩ := Kd.R_own hR
  have hsv := hV.size
  have hne : some g ≠ v.ownBlock := own_ne ho hb (by decide)
  have hb5 : Box w5 g #[.int .i64 c0, .int .i64 c1, .int .i64 c2, .int .i64 c3, v] 42 := box_grown (hb.below hV) hg hne
  have hRV := Kd.R_below hR hV
  have hR5 : kP.R 44 w5 W0.heap.size anyK (.slice (some ⟨gA, 0, none⟩) (l.length + 1) capA) (l ++ [(x, y)]) :=
    Kd.R_appended (W := V) (okp := fun _ => False) (fun _ _ => trivial) (hr.imp_ (fun _ _ hp => Kd.M_below hp hV)) ⟨[_], [_], rfl, rfl, rfl⟩ (fun k hk => hk.elim) (fun _ _ => trivial) hown hg (hat.imp (fun e => e.symm) (fun e => ⟨gA, rfl, by omega⟩))
  have hB5 : Below wx.heap.size wx w5 := Below.grown (hB.trans (hV.mono hB.size)) hg (by omega) (fun k hk => by have := Go.Proofs.YtbkfofmanpjbfaaW.PrintWords.own_base ho k hk; omega)
  have s5 := hg.size
  refine ⟨hb5, ⟨_, hb5.set 4 _, Kd.R_mono (Kd.R_far (p := ⟨g, 4, none⟩) (Kd.R_bound hR5) (fun k hk => ?_) _) (fun _ _ => trivial), fun j h1 h2 => ?_, ?_, ?_⟩, hB5⟩
  · have := hk.2.1
    show k ≠ g
    omega
  · refine (Below.heap_setCell w5 ⟨g, 4, none⟩ _ j h2).trans ?_
    refine (hg.block j (by omega) (fun e => ?_)).trans ((hV.block j (by omega)).trans (hst j h1 h2))
    have := Go.Proofs.YtbkfofmanpjbfaaW.PrintWords.own_base ho j e.symm
    omega
  · simp; omega
  · exact hB5.setCell (p := ⟨g, 4, none⟩) hgx _
end Go.Proofs.Ytbkfofmanpjbfaa.Bk
