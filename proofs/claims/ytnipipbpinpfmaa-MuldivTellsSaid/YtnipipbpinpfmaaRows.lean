/-
  No cell of these rows narrows 'for every input' (looked for: loops, veiled, ifaces, maps, wideKeys, modest, calm, conditions, laid).
  DERIVED. THE GIVEN ROWS OF THIS SEAT. 7 by the template 'for every input the law returns true; each argument reads behind the call as it read before'; 0 by the template 'total and deterministic' (their statements: YtnipipbpinpfmaaTotals.lean).
  GIVEN WITH THE SEED: the statements are not yours to turn. If you find one false, say at which input.
  Laid BY PROGRAM, IN A SANDBOX (cutbox-rows.mjs): the forced cells as the released guide's own fill.sh prints them over the translation 6ffa4bf1f327f103… (all of the seat's roots in one cut). By AI agents, Wed Nov 11 2026. No macro, syntax, notation, axiom, sorry.
-/
import Derived.Test.YtnipipbpinpfmaaChecked
import GoSem.Claim
import GoSem.ClaimJoined
import GoSem.ClaimMapViews
import Derived.JoinedTies
import Derived.KernelRfl
namespace Go.Proofs.Ytnipipbpinpfmaa
/- THE CELL 'sum', in the pinned program and in every row, IS THE sha256 OF THE DUMP (.gsa) THAT YtnipipbpinpfmaaProg.lean LOADS. Nothing in Lean hashes anything: it is a label: what it is worth is what the hold of that sum in a sandbox is worth. -/
noncomputable def Try.pinned : Pinned := { name := "ytnipipbpinpfmaa", sum := "6ffa4bf1f327f1039a1da9088baa9c2e255df9ca576b0335368b1972ffdf3013", checked := Try.checked }
namespace Rows
def none {H : Type} : Left H := { results := [], args := [] }

/-- 'compositorlaw02.MuldivTells': WHATEVER THE INPUT: true; the input reads as it did. -/
def muldivTellsSpec : ChangeSpec := { name := "muldivTells", fn := fun _ => fun
  | [d1, d2, d3] => { results := [.lit (.bool true)], args := [d1, d2, d3] }
  | _ => none }
def muldivTellsRow : OpenClaim := { program := "ytnipipbpinpfmaa", sum := "6ffa4bf1f327f1039a1da9088baa9c2e255df9ca576b0335368b1972ffdf3013", func := "compositor/compositorlaw02.MuldivTells", spec := "muldivTells", inPlace := ["math/bits.Add64"], named := ["math/bits.divideError", "math/bits.overflowError"], apart := false }
def MuldivTellsSaid : Prop := muldivTellsRow.holds Try.pinned (OpenSpec.ofChange muldivTellsSpec)

/-- ITS FALSE NEIGHBOUR: 'it returns false'. Refute it at one input. -/
def muldivTellsWrong : ChangeSpec := { name := "muldivTells", fn := fun _ => fun
  | [d1, d2, d3] => { results := [.lit (.bool false)], args := [d1, d2, d3] }
  | _ => none }
def MuldivTellsWrongFalsely : Prop := muldivTellsRow.holds Try.pinned (OpenSpec.ofChange muldivTellsWrong)

/-- 'compositorlaw02.MuldivMakes': WHATEVER THE INPUT: true; the input reads as it did. -/
def muldivMakesSpec : ChangeSpec := { name := "muldivMakes", fn := fun _ => fun
  | [d1, d2, d3] => { results := [.lit (.bool true)], args := [d1, d2, d3] }
  | _ => none }
def muldivMakesRow : OpenClaim := { program := "ytnipipbpinpfmaa", sum := "6ffa4bf1f327f1039a1da9088baa9c2e255df9ca576b0335368b1972ffdf3013", func := "compositor/compositorlaw02.MuldivMakes", spec := "muldivMakes", inPlace := ["math/bits.Add64"], named := ["math/bits.divideError", "math/bits.overflowError"], apart := false }
def MuldivMakesSaid : Prop := muldivMakesRow.holds Try.pinned (OpenSpec.ofChange muldivMakesSpec)

/-- ITS FALSE NEIGHBOUR: 'it returns false'. Refute it at one input. -/
def muldivMakesWrong : ChangeSpec := { name := "muldivMakes", fn := fun _ => fun
  | [d1, d2, d3] => { results := [.lit (.bool false)], args := [d1, d2, d3] }
  | _ => none }
def MuldivMakesWrongFalsely : Prop := muldivMakesRow.holds Try.pinned (OpenSpec.ofChange muldivMakesWrong)

/-- 'compositorlaw02.MuldivTurns': WHATEVER THE INPUT: true; the input reads as it did. -/
def muldivTurnsSpec : ChangeSpec := { name := "muldivTurns", fn := fun _ => fun
  | [d1, d2, d3] => { results := [.lit (.bool true)], args := [d1, d2, d3] }
  | _ => none }
def muldivTurnsRow : OpenClaim := { program := "ytnipipbpinpfmaa", sum := "6ffa4bf1f327f1039a1da9088baa9c2e255df9ca576b0335368b1972ffdf3013", func := "compositor/compositorlaw02.MuldivTurns", spec := "muldivTurns", inPlace := ["math/bits.Add64"], named := ["math/bits.divideError", "math/bits.overflowError"], apart := false }
def MuldivTurnsSaid : Prop := muldivTurnsRow.holds Try.pinned (OpenSpec.ofChange muldivTurnsSpec)

/-- ITS FALSE NEIGHBOUR: 'it returns false'. Refute it at one input. -/
def muldivTurnsWrong : ChangeSpec := { name := "muldivTurns", fn := fun _ => fun
  | [d1, d2, d3] => { results := [.lit (.bool false)], args := [d1, d2, d3] }
  | _ => none }
def MuldivTurnsWrongFalsely : Prop := muldivTurnsRow.holds Try.pinned (OpenSpec.ofChange muldivTurnsWrong)

/-- 'compositorlaw02.MuldivSigns': WHATEVER THE INPUT: true; the input reads as it did. -/
def muldivSignsSpec : ChangeSpec := { name := "muldivSigns", fn := fun _ => fun
  | [d1, d2, d3] => { results := [.lit (.bool true)], args := [d1, d2, d3] }
  | _ => none }
def muldivSignsRow : OpenClaim := { program := "ytnipipbpinpfmaa", sum := "6ffa4bf1f327f1039a1da9088baa9c2e255df9ca576b0335368b1972ffdf3013", func := "compositor/compositorlaw02.MuldivSigns", spec := "muldivSigns", inPlace := ["math/bits.Add64"], named := ["math/bits.divideError", "math/bits.overflowError"], apart := false }
def MuldivSignsSaid : Prop := muldivSignsRow.holds Try.pinned (OpenSpec.ofChange muldivSignsSpec)

/-- ITS FALSE NEIGHBOUR: 'it returns false'. Refute it at one input. -/
def muldivSignsWrong : ChangeSpec := { name := "muldivSigns", fn := fun _ => fun
  | [d1, d2, d3] => { results := [.lit (.bool false)], args := [d1, d2, d3] }
  | _ => none }
def MuldivSignsWrongFalsely : Prop := muldivSignsRow.holds Try.pinned (OpenSpec.ofChange muldivSignsWrong)

/-- 'compositorlaw02.MuldivParts': WHATEVER THE INPUT: true; the input reads as it did. -/
def muldivPartsSpec : ChangeSpec := { name := "muldivParts", fn := fun _ => fun
  | [d1, d2, d3, d4] => { results := [.lit (.bool true)], args := [d1, d2, d3, d4] }
  | _ => none }
def muldivPartsRow : OpenClaim := { program := "ytnipipbpinpfmaa", sum := "6ffa4bf1f327f1039a1da9088baa9c2e255df9ca576b0335368b1972ffdf3013", func := "compositor/compositorlaw02.MuldivParts", spec := "muldivParts", inPlace := ["math/bits.Add64"], named := ["math/bits.divideError", "math/bits.overflowError"], apart := false }
def MuldivPartsSaid : Prop := muldivPartsRow.holds Try.pinned (OpenSpec.ofChange muldivPartsSpec)

/-- ITS FALSE NEIGHBOUR: 'it returns false'. Refute it at one input. -/
def muldivPartsWrong : ChangeSpec := { name := "muldivParts", fn := fun _ => fun
  | [d1, d2, d3, d4] => { results := [.lit (.bool false)], args := [d1, d2, d3, d4] }
  | _ => none }
def MuldivPartsWrongFalsely : Prop := muldivPartsRow.holds Try.pinned (OpenSpec.ofChange muldivPartsWrong)

/-- 'compositorlaw02.MuldivNear': WHATEVER THE INPUT: true; the input reads as it did. -/
def muldivNearSpec : ChangeSpec := { name := "muldivNear", fn := fun _ => fun
  | [d1, d2, d3] => { results := [.lit (.bool true)], args := [d1, d2, d3] }
  | _ => none }
def muldivNearRow : OpenClaim := { program := "ytnipipbpinpfmaa", sum := "6ffa4bf1f327f1039a1da9088baa9c2e255df9ca576b0335368b1972ffdf3013", func := "compositor/compositorlaw02.MuldivNear", spec := "muldivNear", inPlace := ["math/bits.Add64"], named := ["math/bits.divideError", "math/bits.overflowError"], apart := false }
def MuldivNearSaid : Prop := muldivNearRow.holds Try.pinned (OpenSpec.ofChange muldivNearSpec)

/-- ITS FALSE NEIGHBOUR: 'it returns false'. Refute it at one input. -/
def muldivNearWrong : ChangeSpec := { name := "muldivNear", fn := fun _ => fun
  | [d1, d2, d3] => { results := [.lit (.bool false)], args := [d1, d2, d3] }
  | _ => none }
def MuldivNearWrongFalsely : Prop := muldivNearRow.holds Try.pinned (OpenSpec.ofChange muldivNearWrong)

/-- 'compositorlaw02.MuldivOrder': WHATEVER THE INPUT: true; the input reads as it did. -/
def muldivOrderSpec : ChangeSpec := { name := "muldivOrder", fn := fun _ => fun
  | [d1, d2, d3, d4] => { results := [.lit (.bool true)], args := [d1, d2, d3, d4] }
  | _ => none }
def muldivOrderRow : OpenClaim := { program := "ytnipipbpinpfmaa", sum := "6ffa4bf1f327f1039a1da9088baa9c2e255df9ca576b0335368b1972ffdf3013", func := "compositor/compositorlaw02.MuldivOrder", spec := "muldivOrder", inPlace := ["math/bits.Add64"], named := ["math/bits.divideError", "math/bits.overflowError"], apart := false }
def MuldivOrderSaid : Prop := muldivOrderRow.holds Try.pinned (OpenSpec.ofChange muldivOrderSpec)

/-- ITS FALSE NEIGHBOUR: 'it returns false'. Refute it at one input. -/
def muldivOrderWrong : ChangeSpec := { name := "muldivOrder", fn := fun _ => fun
  | [d1, d2, d3, d4] => { results := [.lit (.bool false)], args := [d1, d2, d3, d4] }
  | _ => none }
def MuldivOrderWrongFalsely : Prop := muldivOrderRow.holds Try.pinned (OpenSpec.ofChange muldivOrderWrong)

/- THE SECOND FORM. 'bulk': how many values and letters a reading holds, each counted each time it is reached (what is shared counts as often as it is met; a slice's spare places count too). A statement '..UptoSaid' is the law's where the arguments, and the package variables that the reading takes, are together of bulk at most 1048576: NARROWER than '..Said'. Prove '..Said' where nothing that the law and all that it calls make is longer than what came in: it says more and counts as full. Else prove '..UptoSaid'. A law counts once. -/
mutual
def uptoBulk {H : Type} : DataW H → Nat
  | .lit (.string bytes) => bytes.length + 1
  | .lit _ => 1
  | .nil => 1
  | .ptr d => uptoBulk d + 1
  | .slice elems spare => uptoBulkAll elems + uptoBulkAll spare + 1
  | .agg parts => uptoBulkAll parts + 1
  | .iface _ d => uptoBulk d + 1
  | .map entries => uptoBulkEntries entries + 1
  | .held _ => 1
def uptoBulkAll {H : Type} : List (DataW H) → Nat
  | [] => 0
  | d :: r => uptoBulk d + uptoBulkAll r
def uptoBulkEntries {H : Type} : List (Lit × DataW H) → Nat
  | [] => 0
  | x :: r => uptoBulkEntry x + uptoBulkEntries r
def uptoBulkEntry {H : Type} : Lit × DataW H → Nat
  | (.string bytes, d) => bytes.length + uptoBulk d + 1
  | (_, d) => uptoBulk d + 1
 end
def uptoSmall : (H : Type) → List (DataW H) → Bool := fun _ ds => decide (uptoBulkAll ds ≤ 1048576)
def OpenSpec.upto (s : _root_.Go.ChangeSpec) : _root_.Go.OpenSpec := { _root_.Go.OpenSpec.ofChange s with cond := some uptoSmall }

/-- 'compositorlaw02.MuldivTells', WHERE WHAT IT READS IS OF BULK AT MOST 1048576: true; the input reads as it did. -/
def muldivTellsUptoRow : OpenClaim := { program := "ytnipipbpinpfmaa", sum := "6ffa4bf1f327f1039a1da9088baa9c2e255df9ca576b0335368b1972ffdf3013", func := "compositor/compositorlaw02.MuldivTells", spec := "muldivTells", inPlace := ["math/bits.Add64"], named := ["math/bits.divideError", "math/bits.overflowError"], apart := false, narrowed := true }
def MuldivTellsUptoSaid : Prop := muldivTellsUptoRow.holds Try.pinned (OpenSpec.upto muldivTellsSpec)

/-- 'compositorlaw02.MuldivMakes', WHERE WHAT IT READS IS OF BULK AT MOST 1048576: true; the input reads as it did. -/
def muldivMakesUptoRow : OpenClaim := { program := "ytnipipbpinpfmaa", sum := "6ffa4bf1f327f1039a1da9088baa9c2e255df9ca576b0335368b1972ffdf3013", func := "compositor/compositorlaw02.MuldivMakes", spec := "muldivMakes", inPlace := ["math/bits.Add64"], named := ["math/bits.divideError", "math/bits.overflowError"], apart := false, narrowed := true }
def MuldivMakesUptoSaid : Prop := muldivMakesUptoRow.holds Try.pinned (OpenSpec.upto muldivMakesSpec)

/-- 'compositorlaw02.MuldivTurns', WHERE WHAT IT READS IS OF BULK AT MOST 1048576: true; the input reads as it did. -/
def muldivTurnsUptoRow : OpenClaim := { program := "ytnipipbpinpfmaa", sum := "6ffa4bf1f327f1039a1da9088baa9c2e255df9ca576b0335368b1972ffdf3013", func := "compositor/compositorlaw02.MuldivTurns", spec := "muldivTurns", inPlace := ["math/bits.Add64"], named := ["math/bits.divideError", "math/bits.overflowError"], apart := false, narrowed := true }
def MuldivTurnsUptoSaid : Prop := muldivTurnsUptoRow.holds Try.pinned (OpenSpec.upto muldivTurnsSpec)

/-- 'compositorlaw02.MuldivSigns', WHERE WHAT IT READS IS OF BULK AT MOST 1048576: true; the input reads as it did. -/
def muldivSignsUptoRow : OpenClaim := { program := "ytnipipbpinpfmaa", sum := "6ffa4bf1f327f1039a1da9088baa9c2e255df9ca576b0335368b1972ffdf3013", func := "compositor/compositorlaw02.MuldivSigns", spec := "muldivSigns", inPlace := ["math/bits.Add64"], named := ["math/bits.divideError", "math/bits.overflowError"], apart := false, narrowed := true }
def MuldivSignsUptoSaid : Prop := muldivSignsUptoRow.holds Try.pinned (OpenSpec.upto muldivSignsSpec)

/-- 'compositorlaw02.MuldivParts', WHERE WHAT IT READS IS OF BULK AT MOST 1048576: true; the input reads as it did. -/
def muldivPartsUptoRow : OpenClaim := { program := "ytnipipbpinpfmaa", sum := "6ffa4bf1f327f1039a1da9088baa9c2e255df9ca576b0335368b1972ffdf3013", func := "compositor/compositorlaw02.MuldivParts", spec := "muldivParts", inPlace := ["math/bits.Add64"], named := ["math/bits.divideError", "math/bits.overflowError"], apart := false, narrowed := true }
def MuldivPartsUptoSaid : Prop := muldivPartsUptoRow.holds Try.pinned (OpenSpec.upto muldivPartsSpec)

/-- 'compositorlaw02.MuldivNear', WHERE WHAT IT READS IS OF BULK AT MOST 1048576: true; the input reads as it did. -/
def muldivNearUptoRow : OpenClaim := { program := "ytnipipbpinpfmaa", sum := "6ffa4bf1f327f1039a1da9088baa9c2e255df9ca576b0335368b1972ffdf3013", func := "compositor/compositorlaw02.MuldivNear", spec := "muldivNear", inPlace := ["math/bits.Add64"], named := ["math/bits.divideError", "math/bits.overflowError"], apart := false, narrowed := true }
def MuldivNearUptoSaid : Prop := muldivNearUptoRow.holds Try.pinned (OpenSpec.upto muldivNearSpec)

/-- 'compositorlaw02.MuldivOrder', WHERE WHAT IT READS IS OF BULK AT MOST 1048576: true; the input reads as it did. -/
def muldivOrderUptoRow : OpenClaim := { program := "ytnipipbpinpfmaa", sum := "6ffa4bf1f327f1039a1da9088baa9c2e255df9ca576b0335368b1972ffdf3013", func := "compositor/compositorlaw02.MuldivOrder", spec := "muldivOrder", inPlace := ["math/bits.Add64"], named := ["math/bits.divideError", "math/bits.overflowError"], apart := false, narrowed := true }
def MuldivOrderUptoSaid : Prop := muldivOrderUptoRow.holds Try.pinned (OpenSpec.upto muldivOrderSpec)

end Rows
end Go.Proofs.Ytnipipbpinpfmaa
