/- Shares: a total in parts, as the program makes them. -/
import Derived.Test.YteeoccpnmibceaaShare3
import Derived.Test.YteeoccpnmibceaaMulRest
import Derived.Laws.MakeOwn
import Derived.Laws.OwnMore
import Derived.Deep.AppendLies
import Derived.Deep.CutBlock
namespace Go.Proofs.Yteeoccpnmibceaa.Sh
open Go.RowKit Go.Proofs.Yteeoccpnmibceaa.Kit
set_option linter.unusedVariables false
set_option linter.unusedSimpArgs false

/-- Numbers as cells. -/
def ic (l : List Int) : Array Value := (l.map (Value.int .i64)).toArray
theorem ic_at {l : List Int} {i : Nat} {x : Int} (h : l[i]? = some x) : (ic l)[i]? = some (.int .i64 x) := by simp [ic, h]
theorem ic_set (l : List Int) (i : Nat) (x : Int) : (ic l).setIfInBounds i (.int .i64 x) = ic (l.set i x) := by simp [ic, List.map_set]
/-- A slice of numbers in a block of the call's own, or none. -/
def Own (w0 w' : World) (v : Value) (l : List Int) : Prop := (v = .slice none 0 0 ∧ l = []) ∨ ∃ g, v = .slice (some ⟨g, 0, none⟩) l.length l.length ∧ w0.heap.size ≤ g ∧ Box w' g (ic l) 3
theorem box_row {w : World} {g : Nat} {l : List Int} (h : Box w g (ic l) 3) (hw : ∀ x ∈ l, (Lit.int .i64 x).wf = true) : Row (Rep.int .i64) w w.heap.size (some ⟨g, 0, none⟩) l := by
  intro i x hx
  refine ⟨g, 0, [.int .i64 x], rfl, h.lt, ⟨rfl, hw x (List.mem_of_getElem? hx)⟩, fun j v hv => ?_⟩
  obtain ⟨hj, rfl⟩ := List.getElem?_eq_some_iff.1 hv
  have hj0 : j = 0 := by simp at hj; exact hj
  subst hj0
  have := h.cell i (ic_at hx)
  simpa [show (Rep.int .i64).n = 1 from rfl] using this
theorem run_make (n : Nat) (hn : n ≤ 1000) (w : World) :
    (Instr.makeSlice 22 (.int .i64 (n : Int)) (.int .i64 (n : Int))).run Try.prog w = .ok (.slice (some ⟨w.heap.size, 0, none⟩) n n) (w.alloc (.cells (ic (List.replicate n 0)) 3)) := by
  have hi : (Try.prog.info? 3).map (fun i => (i.zero, i.size, i.bytes)) = some (some (.int .i64 0), 1, 8) := by kernel_rfl
  obtain ⟨i, hi1, hz, hs, hb⟩ := info_parts hi
  have hr := Go.run_make (P := Try.prog) w 22 3 i (.int .i64 0) Try.underlying22 hi1 hz .i64 .i64 n n (by omega) (by omega) (by rw [hb]; omega) (by omega)
  simp only [Int.toNat_natCast] at hr
  rw [hr, hs]
  have e : madeCells (Value.int .i64 0).cells (n * 1) = ic (List.replicate n 0) := by
    apply Array.toList_inj.1
    rw [show (Value.int .i64 0).cells = #[.int .i64 0] from rfl, toList_madeCells_one]
    simp [ic]
  rw [e]

/-! ### What it is -/
def ints (l : List Nat) : List Int := l.map fun n : Nat => (n : Int)
def nats (L : List Int) : List Nat := L.map Int.toNat
theorem may_true {T : Int} {L : List Int} (h : mayS T L = true) : (0 ≤ T ∧ T ≤ 1073741823) ∧ L.length ≤ 300 ∧ (∀ x ∈ L, 0 ≤ x ∧ x ≤ 1073741823) ∧ (T = 0 ∨ 0 < (nats L).sum) := by
  unfold mayS wrongB someB at h
  simp only [Bool.and_eq_true, Bool.not_eq_true', Bool.or_eq_false_iff, decide_eq_false_iff_not, decide_eq_true_eq, List.any_eq_false, Bool.or_eq_true, List.any_eq_true] at h
  obtain ⟨h1, h2, h3, h4⟩ := h
  have hall : ∀ x ∈ L, 0 ≤ x ∧ x ≤ 1073741823 := fun x hx => by have := h3 x hx; omega
  refine ⟨by omega, h2, hall, h4.imp id fun ⟨x, hx, h0⟩ => ?_⟩
  have : x.toNat ≤ (nats L).sum := mem_le_sum (List.mem_map.2 ⟨x, hx, rfl⟩)
  omega
theorem nats_back {L : List Int} (h : ∀ x ∈ L, 0 ≤ x) : L = ints (nats L) := by
  unfold nats ints
  rw [List.map_map]
  conv => lhs; rw [← List.map_id L]
  exact List.map_congr_left fun x hx => by have := h x hx; simp; omega
/-- The parts; none where they may not be. -/
def splitV (T : Int) (L : List Int) : List Int :=
  if mayS T L then (if T = 0 then List.replicate L.length 0 else ints (splitN T.toNat (nats L))) else []
def splitE (T : Int) (L : List Int) : Int := if mayS T L then 0 else 1

theorem own_below {w w' : World} {base : Nat} {e : TypeId} {size n : Nat} {v : Value} {xs : List Value} (h : w.ownsRow base e size v n xs) (hb : Below w.heap.size w w') : w'.ownsRow base e size v n xs :=
  h.kept (show w.grownBy w' none from ⟨hb.os, hb.tape, hb.output, hb.size, fun k hk _ => hb.block k hk⟩) (by cases v.ownBlock <;> simp)
theorem box_grown {w w' : World} {g : Nat} {cs : Array Value} {t : TypeId} {row : Option Nat} (h : Box w g cs t) (hg : w.grownBy w' row) (hne : some g ≠ row) : Box w' g cs t := (hg.block g h.lt hne).trans h
theorem own_set {w : World} {base : Nat} {e : TypeId} {size n : Nat} {v : Value} {xs : List Value} (h : w.ownsRow base e size v n xs) {p : Addr} (hp : some p.block ≠ v.ownBlock) (u : Value) : (w.setCell p u).ownsRow base e size v n xs :=
  h.kept (show w.grownBy (w.setCell p u) (some p.block) from ⟨rfl, rfl, rfl, by simp [World.setCell], fun k hk hne => Below.heap_setCell w p u k (fun e => hne (by rw [e]))⟩) (.inr (Ne.symm hp))
theorem far_of {w : World} {base : Nat} {e : TypeId} {size n g : Nat} {v : Value} {xs : List Value} (h : w.ownsRow base e size v n xs) (hg : g < base) : some g ≠ v.ownBlock := by
  intro e
  have := (h.lt g e.symm).1
  omega
/-- Some floors are laid. -/
def mixL (t : Nat) (ws : List Nat) (k : Nat) : List Int := ints ((ws.map (fl t ws.sum)).take k ++ List.replicate (ws.length - k) 0)
theorem mixL_zero (t : Nat) (ws : List Nat) : List.replicate ws.length 0 = mixL t ws 0 := by simp [mixL, ints]
theorem mixL_all (t : Nat) (ws : List Nat) : mixL t ws ws.length = ints (outs t ws 0) := by
  unfold mixL
  rw [outs_zero, Nat.sub_self, List.replicate_zero, List.append_nil, List.take_of_length_le (by simp)]
theorem mixL_step {t : Nat} {ws : List Nat} {k x : Nat} (h : ws[k]? = some x) : (mixL t ws k).set k ((fl t ws.sum x : Nat) : Int) = mixL t ws (k + 1) := by
  obtain ⟨hk, hx⟩ := List.getElem?_eq_some_iff.1 h
  unfold mixL ints
  have e : ws.length - k = (ws.length - (k + 1)) + 1 := by omega
  rw [List.take_succ_eq_append_getElem (by simpa using hk), e, List.replicate_succ]
  simp only [List.map_append, List.map_cons, List.map_nil, List.append_assoc, List.cons_append, List.nil_append]
  rw [List.set_append_right _ _ (by simp; omega)]
  simp only [List.length_map, List.length_take]
  rw [show k - min k ws.length = 0 by omega, List.set_cons_zero]
  simp [hx]
theorem mixL_at {t : Nat} {ws : List Nat} {k : Nat} (hk : k < ws.length) : ∃ y, (mixL t ws k)[k]? = some y := ⟨_, List.getElem?_eq_getElem (by unfold mixL ints; simp; omega)⟩
def flat (l : List (Nat × Nat)) : List Value := l.flatMap encP
theorem parts_take {t : Nat} {ws : List Nat} {k x : Nat} (h : ws[k]? = some x) : flat ((partsOf t ws).take (k + 1)) = flat ((partsOf t ws).take k) ++ [.int .i64 (k : Nat), .int .i64 (rs t ws.sum x : Nat)] := by
  have hk : k < ws.length := (List.getElem?_eq_some_iff.1 h).1
  have hp : (partsOf t ws)[k]? = some (k, rs t ws.sum x) := by rw [parts_at, h]; rfl
  obtain ⟨_, hp2⟩ := List.getElem?_eq_some_iff.1 hp
  unfold flat
  rw [List.take_succ_eq_append_getElem (by rw [parts_len]; exact hk), List.flatMap_append, hp2]
  rfl
theorem flat_at : ∀ (l : List (Nat × Nat)) (i : Nat) (x : Nat × Nat), l[i]? = some x → (flat l)[i * 2]? = some (.int .i64 (x.1 : Nat)) ∧ (flat l)[i * 2 + 1]? = some (.int .i64 (x.2 : Nat))
  | [], i, x, h => by simp at h
  | a :: l, 0, x, h => by simp at h; subst h; exact ⟨rfl, rfl⟩
  | a :: l, i + 1, x, h => by
    have := flat_at l i x (by simpa using h)
    have e : (i + 1) * 2 = i * 2 + 2 := by omega
    rw [e]
    exact this
theorem flat_len (l : List (Nat × Nat)) : (flat l).length = l.length * 2 := by
  induction l with
  | nil => rfl
  | cons a l ih => unfold flat at *; rw [List.flatMap_cons, List.length_append, ih]; simp [encP]; omega
/-- The cells of a row of parts. -/
theorem parts_cells {w : World} {base g cap : Nat} {t : Nat} {ws : List Nat} (h : w.ownsRow base 37 2 (.slice (some ⟨g, 0, none⟩) ws.length cap) ws.length (flat (partsOf t ws))) :
    (∀ i x, (partsOf t ws)[i]? = some x → w.cell? ⟨g, i * 2, none⟩ = some (.int .i64 (x.1 : Nat)) ∧ w.cell? ⟨g, i * 2 + 1, none⟩ = some (.int .i64 (x.2 : Nat))) ∧ ∀ j, w.frozen? ⟨g, j, none⟩ = false := by
  refine ⟨fun i x hx => ?_, fun j => h.frozenAt j⟩
  have hi : i < ws.length := by rw [← parts_len t ws]; exact (List.getElem?_eq_some_iff.1 hx).1
  obtain ⟨h1, h2⟩ := flat_at _ i x hx
  exact ⟨(h.cellAt (i * 2) (by omega)).trans h1, (h.cellAt (i * 2 + 1) (by omega)).trans h2⟩

set_option maxRecDepth 100000 in
set_option maxHeartbeats 4000000 in
theorem split_any (T : Int) (A : Option Addr) (c : Nat) (L : List Int) (w : World) {B : Nat} (hB : B ≤ w.heap.size) (hx : Row (Rep.int .i64) w B A L) (hl : L.length ≤ 9223372036854775807) :
    Calls Try.prog 9 #[.int .i64 T, .slice A L.length c] w fun e w' => ∃ v, e = .returned (.tuple #[v, .int .i64 (splitE T L)]) ∧ Own w w' v (splitV T L) ∧ Below w.heap.size w w' := by
  have HM := Lib.hid (may_any T A c L w hB hx hl)
  cases hm : mayS T L with
  | false =>
    have e1 : splitV T L = [] := by unfold splitV; rw [hm]; rfl
    have e2 : splitE T L = 1 := by unfold splitE; rw [hm]; rfl
    rw [e1, e2]
    rw [hm] at HM
    clear hm e1 e2 hx
    go_enter Try.func9, Try.ntmps9
    go_wp2_with fail
    refine HM.out.mono ?_; rintro e w1 ⟨rfl, hb⟩
    go_wp2
    go_ret2
    exact ⟨_, rfl, .inl ⟨rfl, rfl⟩, hb⟩
  | true =>
    obtain ⟨hT, hlen, hall, hpos⟩ := may_true hm
    have e2 : splitE T L = 0 := by unfold splitE; rw [hm]; rfl
    rw [e2]
    rw [hm] at HM
    have HMK := Lib.hid (run_make L.length (by omega))
    by_cases h0 : T = 0
    · have e1 : splitV T L = List.replicate L.length 0 := by unfold splitV; rw [hm, if_pos rfl, if_pos h0]
      rw [e1]
      subst h0
      clear hm e1 e2 hx hall hpos hT
      go_enter Try.func9, Try.ntmps9
      go_wp2_with fail
      refine HM.out.mono ?_; rintro e w1 ⟨rfl, hb⟩
      have hmk := HMK.out
      go_wp2
      go_ret2
      exact ⟨_, rfl, .inr ⟨w1.heap.size, by simp, hb.size, Box.new _ _ _⟩, below_alloc hb _⟩
    · have e1 : splitV T L = ints (splitN T.toNat (nats L)) := by unfold splitV; rw [hm, if_pos rfl, if_neg h0]
      have hsum : 0 < (nats L).sum := by omega
      have hback := nats_back fun x hx => (hall x hx).1
      obtain ⟨ws, hws⟩ : ∃ ws, nats L = ws := ⟨_, rfl⟩
      obtain ⟨t, rfl⟩ : ∃ t : Nat, T = t := ⟨T.toNat, by omega⟩
      rw [hws] at e1 hback hsum
      rw [Int.toNat_natCast] at e1
      rw [e1]
      have hwl : ws.length = L.length := by rw [← hws]; simp [nats]
      have hwb : ∀ n ∈ ws, n ≤ 1073741823 := fun n hn => by
        rw [← hws] at hn
        obtain ⟨x, hx, rfl⟩ := List.mem_map.1 hn
        have := hall x hx; omega
      clear hm e1 e2 hall hpos hws
      subst hback
      rw [← hwl] at HM HMK hl hlen ⊢
      have ht : t ≤ 1073741823 := by omega
      have h0' : ((t : Int) == 0) = false := by simpa using h0
      clear hT h0 hwl
      go_enter Try.func9, Try.ntmps9
      go_wp2_with fail
      refine HM.out.mono ?_; rintro e w1 ⟨rfl, hb⟩
      have hmk := HMK.out
      go_upto_block 0 with fail
      have BO : Box (w1.alloc (.cells (ic (List.replicate ws.length 0)) 3)) w1.heap.size (ic (mixL t ws 0)) 3 := by rw [← mixL_zero]; exact Box.new _ _ _
      have HBW := below_alloc hb (.cells (ic (List.replicate ws.length 0)) 3)
      have hgo := hb.size
      clear hmk hb
      generalize (w1.alloc (.cells (ic (List.replicate ws.length 0)) 3)) = W at *
      generalize w1.heap.size = go at *
      have hxW := hx.mono (HBW.mono hB)
      obtain ⟨S, hS⟩ : ∃ S, ws.sum = S := ⟨_, rfl⟩
      have hSb : S ≤ 322122546900 := by
        have := sum_le_mul hwb
        have h2 := Nat.mul_le_mul_right 1073741823 hlen
        omega
      have HS := Lib.hid hS
      go_cut [7] (fun v wx => v = .int .i64 (S : Nat) ∧ W = wx)
      case first =>
        go_wp2
        go_loop [7, 29] (fun a i => ∃ k : Nat, k ≤ ws.length ∧ i = .int .i64 k ∧ a = .int .i64 ((ws.take k).sum : Nat)) (fun _ i => ws.length - (intOf i).toNat)
        case atStart => exact ⟨0, by omega, rfl, rfl⟩
        case round =>
          obtain ⟨k, hk, rfl, rfl⟩ := hrel
          by_cases hlt : k < ws.length
          · obtain ⟨x, hxk⟩ := at_lt hlt
            have hxk2 : (ints ws)[k]? = some (x : Int) := by simp [ints, hxk]
            obtain ⟨b, o, hA, _, hc, _⟩ := int_at hxW hxk2
            obtain ⟨hk0, hk1⟩ := List.getElem?_eq_some_iff.1 hxk
            have hsum2 : (ws.take (k + 1)).sum = (ws.take k).sum + x := by
              rw [List.take_succ_eq_append_getElem hk0, List.sum_append, hk1]; simp
            have hle : (ws.take (k + 1)).sum ≤ 322122546900 := by
              have := sum_le_mul (l := ws.take (k + 1)) (B := 1073741823) (fun y hy => hwb y (List.mem_of_mem_take hy))
              have h2 := Nat.mul_le_mul_right 1073741823 (show (ws.take (k + 1)).length ≤ 300 by simp; omega)
              omega
            have hS1 : (ws.take k).sum + x ≤ 322122546900 := by omega
            have HN := Lib.hid hsum2
            clear hsum2 hle hxk hxk2 hk0 hk1
            subst hA
            go_wp2
            go_round
            case rel => exact ⟨k + 1, by omega, by go_num, by rw [HN.out]; go_num⟩
            case measure => simp [intOf]; omega
          · have e : k = ws.length := by omega
            subst e
            have HE : Hid ((ws.take ws.length).sum = S) := Lib.hid (by rw [List.take_length]; exact hS)
            go_wp2
            try rw [HE.out]
            go_meet
            exact ⟨rfl, rfl⟩
      case rest =>
        obtain ⟨rfl, rfl⟩ := hcut
        subst hS
        clear HS hxW
        obtain ⟨HI⟩ : Nonempty (Hid ((Try.prog.info? 37).map (fun i => (i.zero, i.size, i.bytes)) = some (some (.agg #[.int .i64 0, .int .i64 0]), 2, 16))) := ⟨Lib.hid (by kernel_rfl)⟩
        have HFL : Hid (∀ x, x ∈ ws → Mul.floorP (t : Int) (x : Int) ((ws.sum : Nat) : Int) = (((fl t ws.sum x : Nat) : Int), 0) ∧ Mul.restP (t : Int) (x : Int) ((ws.sum : Nat) : Int) = (((rs t ws.sum x : Nat) : Int), 0) ∧ fl t ws.sum x ≤ t) := Lib.hid fun x hx => by
          have h1 := hwb x hx
          have h2 := mem_le_sum hx
          have hm : Mul.mayP (t : Int) (x : Int) ((ws.sum : Nat) : Int) = true := decide_eq_true (by omega)
          have h3 : fl t ws.sum x ≤ t := by
            unfold fl
            have := Nat.mul_le_mul_left t h2
            exact Nat.le_trans (Nat.div_le_div_right this) (by rw [Nat.mul_div_cancel _ hsum]; exact Nat.le_refl _)
          have e1 : (t : Int) * x / ((ws.sum : Nat) : Int) = ((fl t ws.sum x : Nat) : Int) := by unfold fl; rw [← Int.natCast_mul, ← Int.natCast_ediv]
          have e2 : (t : Int) * x % ((ws.sum : Nat) : Int) = ((rs t ws.sum x : Nat) : Int) := by unfold rs; rw [← Int.natCast_mul, ← Int.natCast_emod]
          exact ⟨by rw [Mul.floor_in hm (by rw [e1]; omega) (by rw [e1]; omega), e1], by rw [Mul.rest_in hm, e2], h3⟩
        obtain ⟨hleft1, hleft2⟩ := left_eq t ws hsum
        have hleft3 := left_lt t ws hsum
        go_upto_block 2 with fail
        go_cut [10, 11] (fun v l wx => ∃ g cap, v = .slice (some ⟨g, 0, none⟩) ws.length cap ∧ l = .int .i64 (leftOf t ws : Nat) ∧ wx.ownsRow (go + 1) 37 2 v ws.length (flat (partsOf t ws)) ∧ Box wx go (ic (ints (outs t ws 0))) 3 ∧ Below w.heap.size w wx)
        case first =>
          go_wp2
          go_loopw [10, 11, 40] (fun vs l i wr => ∃ (k : Nat) (v : Value), k ≤ ws.length ∧ v = vs ∧ i = .int .i64 k ∧ l = .int .i64 ((t : Int) - (((ws.take k).map (fl t ws.sum)).sum : Nat)) ∧ wr.ownsRow (go + 1) 37 2 v k (flat ((partsOf t ws).take k)) ∧ Box wr go (ic (mixL t ws k)) 3 ∧ Below w.heap.size w wr) (fun _ _ i _ => ws.length - (intOf i).toNat)
          case atStart => exact ⟨0, _, by omega, rfl, rfl, by simp, World.ownsRow_nil _ _ _ _, BO, HBW⟩
          case round =>
            obtain ⟨k, v, hk, rfl, rfl, rfl, hown, BK, HBK⟩ := hrel
            rename World => wr
            by_cases hlt : k < ws.length
            · obtain ⟨x, hxk⟩ := at_lt hlt
              have hxk2 : (ints ws)[k]? = some (x : Int) := by simp [ints, hxk]
              obtain ⟨hf1, hf2, hf3⟩ := HFL.out x (List.mem_of_getElem? hxk)
              have HF1 := Lib.hid hf1; have HF2 := Lib.hid hf2
              have HST := Lib.hid (mixL_step (t := t) hxk)
              have HPT := Lib.hid (parts_take (t := t) hxk)
              obtain ⟨y, hy⟩ := mixL_at (t := t) hlt
              obtain ⟨hk0, hk1⟩ := List.getElem?_eq_some_iff.1 hxk
              have HL : Hid (((ws.take (k + 1)).map (fl t ws.sum)).sum = ((ws.take k).map (fl t ws.sum)).sum + fl t ws.sum x) := Lib.hid (by
                rw [List.take_succ_eq_append_getElem hk0, List.map_append, List.sum_append, hk1]; simp)
              have hLle : ((ws.take k).map (fl t ws.sum)).sum + fl t ws.sum x ≤ t := by
                rw [← HL.out]
                have h : ((ws.take (k + 1)).map (fl t ws.sum)).sum + ((ws.drop (k + 1)).map (fl t ws.sum)).sum = (ws.map (fl t ws.sum)).sum := by rw [← List.sum_append, ← List.map_append, List.take_append_drop]
                omega
              generalize ((ws.take k).map (fl t ws.sum)).sum = la at *
              generalize hqe : fl t ws.sum x = q at *
              generalize hre : rs t ws.sum x = r at *
              have hxr := hx.mono ((HBK.mono hB))
              obtain ⟨b, o, hA, hbB, hc, _⟩ := int_at hxr hxk2
              have hq2 : (mixL t ws (k + 1))[k]? = some (q : Int) := by
                rw [← HST.out, List.getElem?_set_self (by
                  obtain ⟨h, _⟩ := List.getElem?_eq_some_iff.1 hy
                  exact h)]
              clear hxr hxk hxk2 hk0 hk1 hf1 hf2 hqe hre
              subst hA
              have hgo2 : some go ≠ v.ownBlock := far_of hown (by omega)
              go_wp2_with fail
              refine (Mul.floorc _ _ _ HF1 _).mono ?_; rintro e w2 ⟨rfl, hb2⟩
              have BK2 := BK.below hb2
              have hown2 := own_below hown hb2
              have HBK2 := below_join HBK hb2
              have cy := BK2.cell k (ic_at hy)
              have cf := BK2.free k
              clear BK hown HBK hb2 hc
              go_wp2_with fail
              have BK3 := BK2.set k (.int .i64 (q : Nat))
              rw [ic_set, HST.out] at BK3
              have hown3 := own_set hown2 (p := ⟨go, k, none⟩) hgo2 (.int .i64 (q : Nat))
              have HBK3 := below_set HBK2 (p := ⟨go, k, none⟩) hgo (.int .i64 (q : Nat))
              generalize (w2.setCell ⟨go, k, none⟩ (.int .i64 (q : Nat))) = w3 at *
              clear BK2 hown2 HBK2 cy cf hy
              refine (Mul.restc _ _ _ HF2 _).mono ?_; rintro e w4 ⟨rfl, hb4⟩
              have BK4 := BK3.below hb4
              have hown4 := own_below hown3 hb4
              have HBK4 := below_join HBK3 hb4
              have cq := BK4.cell k (ic_at hq2)
              have hlt4 := BK4.lt
              clear BK3 hown3 HBK3 hb4 hq2
              go_upto_region 19 with fail
              obtain ⟨i0, hi0, hz0, hz1, hz2⟩ := info_parts HI.out
              go_region_held3 (fun w' => w'.cell? ⟨go, k, none⟩ = some (.int .i64 (q : Nat)))
                (first | go_keep | (rw [hgrow.cell_far _ (by simp; omega) hgo2]; assumption))
                ((refine step_append_lies _ (by rfl) _ _ _ (by rfl) (go + 1) 37 i0 _ 2 16 Try.underlying33 hi0 hz0 hz1 hz2 rfl (by omega) v k _ (by rfl) ((hown4.alloc _).drew)
                    ⟨w4.heap.size, 0, none⟩ 1 1 [.int .i64 (k : Nat), .int .i64 (r : Nat)] (by rfl) (by rfl) (World.news_of_block (cs := #[.int .i64 (k : Nat), .int .i64 (r : Nat)]) (t := 37) (fr := (0, 0)) (heap_alloc_new w4 _)) (by simp [Value.oneCell'])
                    (by omega) (by unfold maxLen; omega) (by omega) (by simp; omega) (w4.heap.size + 1) (by simp) ?_; intro gg cap w5 hown5 hgrow hat hlt5))
              have BK5 := box_grown (BK4.alloc _).drew hgrow hgo2
              have HB5 := Below.grown (below_drew (below_alloc HBK4 (.cells #[.int .i64 (k : Nat), .int .i64 (r : Nat)] 37))) hgrow (by have := HBK4.size; simp; omega) (fun j e => by have := (hown4.lt j e).1; omega)
              rw [← HPT.out] at hown5
              clear hgrow hat BK4 hown4 HBK4 cq hlt4
              have EW : Hid (IntKind.i64.wrap ((t : Int) - la - q) = (t : Int) - ((la + q : Nat) : Int)) := Lib.hid (by rw [IntKind.wrap_i64]; omega)
              go_wp2
              go_roundw
              case rel => exact ⟨k + 1, _, by omega, rfl, by go_num, by rw [HL.out, ← EW.out], hown5, BK5, HB5⟩
              case measure => simp [intOf]; omega
            · have e : k = ws.length := by omega
              subst e
              obtain ⟨g, cap, rfl, _, _⟩ := hown.form (by omega)
              have e1 : (partsOf t ws).take ws.length = partsOf t ws := List.take_of_length_le (by rw [parts_len]; exact Nat.le_refl _)
              rw [e1] at hown
              have HE : Hid ((t : Int) - (((ws.take ws.length).map (fl t ws.sum)).sum : Nat) = (leftOf t ws : Nat)) := Lib.hid (by
                rw [List.take_length]; unfold leftOf; omega)
              rw [HE.out]
              rw [mixL_all] at BK
              clear HE
              go_wp2
              go_meet
              exact ⟨g, cap, rfl, rfl, hown, BK, HBK⟩
        case rest =>
          obtain ⟨g, cap, rfl, rfl, hown, BO2, HB2⟩ := hcut
          rename World => w2
          have hgg := hown.lt g rfl
          obtain ⟨hc2, hf2⟩ := parts_cells hown
          have HFT : Hid (∀ x, x ∈ ws → fl t ws.sum x ≤ t) := Lib.hid fun x hx => (HFL.out x hx).2.2
          clear BO HBW HFL hleft1 hleft2 HI hwb hx
          go_wp2_with fail
          refine (sort_any t ws g cap _ (by omega) hc2 hf2 hgg.2).mono ?_
          rintro e w3 ⟨rfl, D, hD, hgrow, hcD⟩
          have BO3 := box_grown BO2 hgrow (by intro e; cases e; omega)
          have HB3 := Below.grown HB2 hgrow HB2.size (fun j e => by cases e; omega)
          have HD := Lib.hid hD
          have hDl : D.length = ws.length := by rw [hD.1.length_eq, parts_len]
          have HCD := Lib.hid hcD
          have hgo3 : g ≠ go := by omega
          have HMIN : Hid (min ((leftOf t ws : Nat) : Int) ((ws.length : Nat) : Int) = ((leftOf t ws : Nat) : Int)) := Lib.hid (by omega)
          clear hcD hc2 hf2 hgrow BO2 HB2 hown hD hgg
          go_upto_region 23 with fail
          rw [HMIN.out]
          clear HMIN
          go_loopw [81] (fun i wr => ∃ k : Nat, k ≤ leftOf t ws ∧ i = .int .i64 k ∧ Box wr go (ic (ints (outs t ws k))) 3 ∧ Hid (∀ i x, D[i]? = some x → wr.cell? ⟨g, i * 2, none⟩ = some (.int .i64 (x.1 : Nat))) ∧ Below w.heap.size w wr) (fun i _ => leftOf t ws - (intOf i).toNat)
          case atStart => exact ⟨0, by omega, rfl, BO3, HCD, HB3⟩
          case round =>
            obtain ⟨k, hk, rfl, BK, HC, HBK⟩ := hrel
            rename World => wr
            clear BO3 HB3 HCD
            by_cases hlt : k < leftOf t ws
            · obtain ⟨⟨p, rr⟩, hxk⟩ := at_lt (l := D) (i := k) (by omega)
              obtain ⟨n, hn, ho, hs⟩ := outs_step HD.out.1 HD.out.2 hxk
              have hp : p < ws.length := (List.getElem?_eq_some_iff.1 hn).1
              have hcp := HC.out k _ hxk
              have ho2 : (ints (outs t ws k))[p]? = some ((given t ws k p n : Nat) : Int) := by unfold ints; rw [List.getElem?_map, ho]; rfl
              have hgb : given t ws k p n ≤ t + 1 := by
                have := HFT.out n (List.mem_of_getElem? hn)
                unfold given; split <;> omega
              have cp := BK.cell p (ic_at ho2)
              have fp := BK.free p
              have hS : Hid ((ic (ints (outs t ws k))).setIfInBounds p (.int .i64 ((given t ws k p n : Nat) + 1 : Int)) = ic (ints (outs t ws (k + 1)))) := Lib.hid (by
                rw [ic_set, hs]
                unfold ints
                rw [List.map_set]
                rfl)
              simp only at hcp
              generalize given t ws k p n = y at *
              clear hxk hn ho hs ho2
              go_wp2
              go_roundw
              case rel =>
                refine ⟨k + 1, by omega, by go_num, ?_, Lib.hid fun i x hx => ?_, below_set HBK (p := ⟨go, p, none⟩) hgo _⟩
                · rw [← hS.out]; exact BK.set p _
                · exact (World.cell?_of_block (Below.heap_setCell wr ⟨go, p, none⟩ _ g hgo3)).trans (HC.out i x hx)
              case measure => simp [intOf]; omega
            · have e : k = leftOf t ws := by omega
              subst e
              go_wp2
              go_ret2
              refine ⟨_, rfl, .inr ⟨go, ?_, hgo, BK⟩, HBK⟩
              have hl2 : (ints (splitN t ws)).length = ws.length := by simp [ints, split_len]
              rw [hl2]; rfl

end Go.Proofs.Yteeoccpnmibceaa.Sh
