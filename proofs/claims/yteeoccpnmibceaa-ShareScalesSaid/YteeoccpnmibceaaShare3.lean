/- Shares: the sort of parts. -/
import Derived.Test.YteeoccpnmibceaaShare2
import Derived.Test.YteeoccpnmibceaaShelf
import Derived.Shelf.SlSortCmp.NoneTotal
namespace Go.Proofs.Yteeoccpnmibceaa.Sh
open Go.RowKit Go.Proofs.Yteeoccpnmibceaa.Kit
open Go.Sort (grow putRow putRowK HoldsK SWO putCells mapBlock)
open Go.Proofs (ltOf CmpLays sortWorldK)
set_option linter.unusedVariables false
set_option linter.unusedSimpArgs false

def encP (x : Nat × Nat) : List Value := [.int .i64 (x.1 : Nat), .int .i64 (x.2 : Nat)]
theorem ltOf_eq : (ltOf cf) = before := by
  funext x y
  exact cf_lt x y
theorem swo : SWO (ltOf cf) := by
  rw [ltOf_eq]
  refine ⟨before_irrefl, fun x y z h1 h2 => ?_, fun x y z h1 h2 => ?_⟩
  · rw [before_iff] at *; omega
  · rw [← Bool.not_eq_true, before_iff] at *; omega
theorem total (x y : Nat × Nat) (h1 : ltOf cf x y = false) (h2 : ltOf cf y x = false) : x = y := by
  rw [ltOf_eq] at *
  rw [← Bool.not_eq_true, before_iff] at *
  have : x.1 = y.1 ∧ x.2 = y.2 := by omega
  cases x; cases y; simp_all
theorem cmpLays (blk off size : Nat) (w : World) : CmpLays Try.prog 18 #[] encP 2 cf blk off size w :=
  fun _ _ _ _ x y => (ahead_any x y _).mono fun e w' ⟨h1, q, os, h2⟩ => ⟨h1, q, os, h2⟩
theorem grownBy_sorted {w : World} {g n : Nat} {os : Array Obj} (d : Array (Nat × Nat)) : w.grownBy (sortWorldK encP 2 w g 0 n d os) (some g) := by
  refine ⟨rfl, rfl, rfl, by simp [sortWorldK, putRowK, grow, putRow, mapBlock, Go.Sort.ahead], fun k hk hne => ?_⟩
  have : g ≠ k := fun e => hne (by rw [e])
  simp only [sortWorldK, putRowK, grow, putRow, mapBlock, Go.Sort.ahead]
  rw [Array.getElem?_append_left (by simpa using hk)]
  simp [Array.getElem?_modify, this]

set_option maxHeartbeats 1000000 in
theorem sort_any (T : Nat) (ws : List Nat) (g cap : Nat) (w : World) (hn : ws.length ≤ 1000) (hc : ∀ i x, (partsOf T ws)[i]? = some x → w.cell? ⟨g, i * 2, none⟩ = some (.int .i64 (x.1 : Nat)) ∧ w.cell? ⟨g, i * 2 + 1, none⟩ = some (.int .i64 (x.2 : Nat))) (hf : ∀ j, w.frozen? ⟨g, j, none⟩ = false) (hg : g < w.heap.size) :
    Calls Try.prog 17 #[.slice (some ⟨g, 0, none⟩) ws.length cap, .func (.func 18) #[] #[]] w fun e w' => e = .returned (.tuple #[]) ∧ ∃ D : List (Nat × Nat), (D.Perm (partsOf T ws) ∧ D.Pairwise fun a b => before a b = true) ∧ w.grownBy w' (some g) ∧ ∀ i x, D[i]? = some x → w'.cell? ⟨g, i * 2, none⟩ = some (.int .i64 (x.1 : Nat)) := by
  have eg : ∀ args w, (callFunc 18 args).run Try.prog w = .ok (.enter 18 args) w := enters_of Try.func18 (by kernel_rfl) rfl
  have hd : (partsOf T ws).toArray.size = ws.length := by simp [parts_len]
  have hH : HoldsK encP 2 w g 0 (partsOf T ws).toArray := by
    intro j hj
    rw [Go.Sort.size_flatK, hd] at hj
    have hx : j / 2 < ws.length := by omega
    have hp : (partsOf T ws)[j / 2]? = some (partsOf T ws).toArray[j / 2]! := by
      rw [getElem!_pos _ _ (by rw [hd]; exact hx)]
      simp [parts_len, hx]
    obtain ⟨h1, h2⟩ := hc _ _ hp
    refine ⟨?_, hf _⟩
    rw [Go.Sort.get_flatK _ _ _ _ (by rw [hd]; exact hj)]
    generalize (partsOf T ws).toArray[j / 2]! = x at *
    rw [Nat.zero_add]
    rcases Nat.mod_two_eq_zero_or_one j with hm | hm
    · have e : j = j / 2 * 2 := by omega
      rw [hm, e, h1] 
      simp [encP]
    · have e : j = j / 2 * 2 + 1 := by omega
      rw [hm, e, h2]
      simp [encP]
  have hcon := AnyQ.slices_SortFunc_total Try.laysSort 2 Try.isAgg37 Try.sizeOf37 encP (fun _ => rfl) (fun x v hv => by simp [encP] at hv; rcases hv with rfl | rfl <;> rfl) cf swo 18 #[] g 0 cap (partsOf T ws).toArray w eg (cmpLays _ _ _ _) hH hg (by rw [hd]; omega) total
  rw [hd] at hcon
  refine hcon.mono fun e w' ⟨h1, n, os, h2⟩ => ⟨h1, (partsOf T ws).mergeSort fun a b => !before b a, exists_sorted T ws, ?_, fun i x hx => ?_⟩
  · rw [h2]; exact grownBy_sorted _
  · have e1 : ((partsOf T ws).toArray.toList.mergeSort fun x y => !(ltOf cf) y x) = ((partsOf T ws).mergeSort fun a b => !before b a) := by rw [ltOf_eq]
    rw [e1] at h2
    have hD : ((partsOf T ws).mergeSort fun a b => !before b a).length = ws.length := by rw [(exists_sorted T ws).1.length_eq, parts_len]
    have hH2 := Go.Proofs.holdsK_sortWorldK_c encP 2 w g 0 (partsOf T ws).toArray ((partsOf T ws).mergeSort fun a b => !before b a).toArray n os hH hg (by simp [hD, parts_len])
    rw [← h2] at hH2
    have hi : i < ws.length := by rw [← hD]; exact (List.getElem?_eq_some_iff.1 hx).1
    have := (hH2.cell (i := i) (c := 0) (by simp [hD, hi]) (by omega)).1
    rw [Nat.zero_add, Nat.add_zero] at this
    rw [this]
    have e2 : ((partsOf T ws).mergeSort fun a b => !before b a).toArray[i]! = x := by
      rw [getElem!_pos _ _ (by simp [hD, hi])]
      obtain ⟨_, h⟩ := List.getElem?_eq_some_iff.1 hx
      simpa using h
    rw [e2]; rfl

end Go.Proofs.Yteeoccpnmibceaa.Sh
