/- Stores and loads of many cells at once. -/
import Derived.Test.YtbkfofmanpjbfaaKit
import Derived.Deep.MidRow
import Derived.Deep.RegionHeld3
import Derived.Deep.DeepCutAuto
namespace Go.Proofs.Ytbkfofmanpjbfaa.Kit
open Go.RowKit
set_option linter.unusedVariables false
set_option linter.unusedSimpArgs false

theorem rangeAt_box {w : World} {g : Nat} {cs : List Value} {t : TypeId} (h : Box w g cs.toArray t) : w.rangeAt g 0 cs := fun j v hv => by
  rw [Nat.zero_add]
  exact h.cell j (by simpa using hv)
theorem rangeAt_on {W w : World} {g : Nat} {cs : List Value} (hb : Below W.heap.size W w) (h : W.rangeAt g 0 cs) : w.rangeAt g 0 cs := fun j v hv => later hb (h j v hv)
theorem there_on {W w : World} {g n : Nat} (hb : Below W.heap.size W w) (h : W.there g 0 n) : w.there g 0 n := fun j hj => by
  obtain ⟨h1, h2⟩ := h j hj
  obtain ⟨v, hv⟩ := Option.isSome_iff_exists.1 h1
  obtain ⟨hc, hf⟩ := bcell hb
  have hl := World.block_lt_of_cell? W _ hv
  rw [hc _ _ hl, hf _ _ hl]
  exact ⟨h1, h2⟩
theorem there_box {w : World} {g : Nat} {cs : Array Value} {t : TypeId} (h : Box w g cs t) : w.there g 0 cs.size := fun j hj => by
  rw [Nat.zero_add]
  refine ⟨?_, h.free j⟩
  rw [h.cell j (Array.getElem?_eq_getElem hj)]
  rfl
theorem there_box2 {w : World} {g n : Nat} {cs : Array Value} {t : TypeId} (h : Box w g cs t) (hn : cs.size = n) : w.there g 0 n := hn ▸ there_box h
theorem below_sets {W : World} {g : Nat} (hg : W.heap.size ≤ g) : ∀ (vs : List Value) (o : Nat) {w : World}, Below W.heap.size W w → Below W.heap.size W (w.setCells g o vs)
  | [], _, _, h => h
  | v :: r, o, _, h => below_sets hg r (o + 1) (below_set h hg v)
def setR : Array Value → Nat → List Value → Array Value
  | cs, _, [] => cs
  | cs, o, v :: r => setR (cs.setIfInBounds o v) (o + 1) r
theorem Box.sets {g : Nat} {t : TypeId} : ∀ (vs : List Value) (o : Nat) (cs : Array Value) (w : World), Box w g cs t → Box (w.setCells g o vs) g (setR cs o vs) t
  | [], _, _, _, h => h
  | v :: r, o, cs, w, h => Box.sets r (o + 1) _ _ (h.set o v)
end Go.Proofs.Ytbkfofmanpjbfaa.Kit
