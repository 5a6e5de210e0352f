/-
  No cell of these rows narrows 'for every input' (looked for: loops, veiled, ifaces, maps, wideKeys, modest, calm, conditions, laid).
  DERIVED. THE GIVEN ROWS OF THIS SEAT. 5 by the template 'for every input the law returns true; each argument reads behind the call as it read before'; 0 by the template 'total and deterministic' (their statements: YthoffhokfcgkoaaTotals.lean).
  GIVEN WITH THE SEED: the statements are not yours to turn. If you find one false, say at which input.
  Laid BY PROGRAM, IN A SANDBOX (cutbox-rows.mjs): the forced cells as the released guide's own fill.sh prints them over the translation 1d28113365d8f565… (all of the seat's roots in one cut). By AI agents, Wed Nov 11 2026. No macro, syntax, notation, axiom, sorry.
-/
import Derived.Test.YthoffhokfcgkoaaChecked
import GoSem.Claim
import GoSem.ClaimJoined
import GoSem.ClaimMapViews
import Derived.JoinedTies
import Derived.KernelRfl
namespace Go.Proofs.Ythoffhokfcgkoaa
/- THE CELL 'sum', in the pinned program and in every row, IS THE sha256 OF THE DUMP (.gsa) THAT YthoffhokfcgkoaaProg.lean LOADS. Nothing in Lean hashes anything: it is a label: what it is worth is what the hold of that sum in a sandbox is worth. -/
noncomputable def Try.pinned : Pinned := { name := "ythoffhokfcgkoaa", sum := "1d28113365d8f5658d36f2245547a5236531da30a009097e35dfbb474527b1c3", checked := Try.checked }
namespace Rows
def none {H : Type} : Left H := { results := [], args := [] }

/-- 'compositorlaw01.ScaledTells': WHATEVER THE INPUT: true; the input reads as it did. -/
def scaledTellsSpec : ChangeSpec := { name := "scaledTells", fn := fun _ => fun
  | [d1, d2] => { results := [.lit (.bool true)], args := [d1, d2] }
  | _ => none }
def scaledTellsRow : OpenClaim := { program := "ythoffhokfcgkoaa", sum := "1d28113365d8f5658d36f2245547a5236531da30a009097e35dfbb474527b1c3", func := "compositor/compositorlaw01.ScaledTells", spec := "scaledTells", unfollowed := true, recurses := true, apart := false }
def ScaledTellsSaid : Prop := scaledTellsRow.holds Try.pinned (OpenSpec.ofChange scaledTellsSpec)

/-- ITS FALSE NEIGHBOUR: 'it returns false'. Refute it at one input. -/
def scaledTellsWrong : ChangeSpec := { name := "scaledTells", fn := fun _ => fun
  | [d1, d2] => { results := [.lit (.bool false)], args := [d1, d2] }
  | _ => none }
def ScaledTellsWrongFalsely : Prop := scaledTellsRow.holds Try.pinned (OpenSpec.ofChange scaledTellsWrong)

/-- 'compositorlaw01.ScaledSums': WHATEVER THE INPUT: true; the input reads as it did. -/
def scaledSumsSpec : ChangeSpec := { name := "scaledSums", fn := fun _ => fun
  | [d] => { results := [.lit (.bool true)], args := [d] }
  | _ => none }
def scaledSumsRow : OpenClaim := { program := "ythoffhokfcgkoaa", sum := "1d28113365d8f5658d36f2245547a5236531da30a009097e35dfbb474527b1c3", func := "compositor/compositorlaw01.ScaledSums", spec := "scaledSums", unfollowed := true, recurses := true, apart := false }
def ScaledSumsSaid : Prop := scaledSumsRow.holds Try.pinned (OpenSpec.ofChange scaledSumsSpec)

/-- ITS FALSE NEIGHBOUR: 'it returns false'. Refute it at one input. -/
def scaledSumsWrong : ChangeSpec := { name := "scaledSums", fn := fun _ => fun
  | [d] => { results := [.lit (.bool false)], args := [d] }
  | _ => none }
def ScaledSumsWrongFalsely : Prop := scaledSumsRow.holds Try.pinned (OpenSpec.ofChange scaledSumsWrong)

/-- 'compositorlaw01.ScaledBack': WHATEVER THE INPUT: true; the input reads as it did. -/
def scaledBackSpec : ChangeSpec := { name := "scaledBack", fn := fun _ => fun
  | [d1, d2, d3, d4] => { results := [.lit (.bool true)], args := [d1, d2, d3, d4] }
  | _ => none }
def scaledBackRow : OpenClaim := { program := "ythoffhokfcgkoaa", sum := "1d28113365d8f5658d36f2245547a5236531da30a009097e35dfbb474527b1c3", func := "compositor/compositorlaw01.ScaledBack", spec := "scaledBack", unfollowed := true, recurses := true, apart := false }
def ScaledBackSaid : Prop := scaledBackRow.holds Try.pinned (OpenSpec.ofChange scaledBackSpec)

/-- ITS FALSE NEIGHBOUR: 'it returns false'. Refute it at one input. -/
def scaledBackWrong : ChangeSpec := { name := "scaledBack", fn := fun _ => fun
  | [d1, d2, d3, d4] => { results := [.lit (.bool false)], args := [d1, d2, d3, d4] }
  | _ => none }
def ScaledBackWrongFalsely : Prop := scaledBackRow.holds Try.pinned (OpenSpec.ofChange scaledBackWrong)

/-- 'compositorlaw01.ScaledTimes': WHATEVER THE INPUT: true; the input reads as it did. -/
def scaledTimesSpec : ChangeSpec := { name := "scaledTimes", fn := fun _ => fun
  | [d1, d2] => { results := [.lit (.bool true)], args := [d1, d2] }
  | _ => none }
def scaledTimesRow : OpenClaim := { program := "ythoffhokfcgkoaa", sum := "1d28113365d8f5658d36f2245547a5236531da30a009097e35dfbb474527b1c3", func := "compositor/compositorlaw01.ScaledTimes", spec := "scaledTimes", unfollowed := true, recurses := true, apart := false }
def ScaledTimesSaid : Prop := scaledTimesRow.holds Try.pinned (OpenSpec.ofChange scaledTimesSpec)

/-- ITS FALSE NEIGHBOUR: 'it returns false'. Refute it at one input. -/
def scaledTimesWrong : ChangeSpec := { name := "scaledTimes", fn := fun _ => fun
  | [d1, d2] => { results := [.lit (.bool false)], args := [d1, d2] }
  | _ => none }
def ScaledTimesWrongFalsely : Prop := scaledTimesRow.holds Try.pinned (OpenSpec.ofChange scaledTimesWrong)

/-- 'compositorlaw01.ScaledOrder': WHATEVER THE INPUT: true; the input reads as it did. -/
def scaledOrderSpec : ChangeSpec := { name := "scaledOrder", fn := fun _ => fun
  | [d1, d2, d3] => { results := [.lit (.bool true)], args := [d1, d2, d3] }
  | _ => none }
def scaledOrderRow : OpenClaim := { program := "ythoffhokfcgkoaa", sum := "1d28113365d8f5658d36f2245547a5236531da30a009097e35dfbb474527b1c3", func := "compositor/compositorlaw01.ScaledOrder", spec := "scaledOrder", unfollowed := true, recurses := true, apart := false }
def ScaledOrderSaid : Prop := scaledOrderRow.holds Try.pinned (OpenSpec.ofChange scaledOrderSpec)

/-- ITS FALSE NEIGHBOUR: 'it returns false'. Refute it at one input. -/
def scaledOrderWrong : ChangeSpec := { name := "scaledOrder", fn := fun _ => fun
  | [d1, d2, d3] => { results := [.lit (.bool false)], args := [d1, d2, d3] }
  | _ => none }
def ScaledOrderWrongFalsely : Prop := scaledOrderRow.holds Try.pinned (OpenSpec.ofChange scaledOrderWrong)

/- THE SECOND FORM. 'bulk': how many values and letters a reading holds, each counted each time it is reached (what is shared counts as often as it is met; a slice's spare places count too). A statement '..UptoSaid' is the law's where the arguments, and the package variables that the reading takes, are together of bulk at most 1048576: NARROWER than '..Said'. Prove '..Said' where nothing that the law and all that it calls make is longer than what came in: it says more and counts as full. Else prove '..UptoSaid'. A law counts once. -/
mutual
def uptoBulk {H : Type} : DataW H → Nat
  | .lit (.string bytes) => bytes.length + 1
  | .lit _ => 1
  | .nil => 1
  | .ptr d => uptoBulk d + 1
  | .slice elems spare => uptoBulkAll elems + uptoBulkAll spare + 1
  | .agg parts => uptoBulkAll parts + 1
  | .iface _ d => uptoBulk d + 1
  | .map entries => uptoBulkEntries entries + 1
  | .held _ => 1
def uptoBulkAll {H : Type} : List (DataW H) → Nat
  | [] => 0
  | d :: r => uptoBulk d + uptoBulkAll r
def uptoBulkEntries {H : Type} : List (Lit × DataW H) → Nat
  | [] => 0
  | x :: r => uptoBulkEntry x + uptoBulkEntries r
def uptoBulkEntry {H : Type} : Lit × DataW H → Nat
  | (.string bytes, d) => bytes.length + uptoBulk d + 1
  | (_, d) => uptoBulk d + 1
 end
def uptoSmall : (H : Type) → List (DataW H) → Bool := fun _ ds => decide (uptoBulkAll ds ≤ 1048576)
def OpenSpec.upto (s : _root_.Go.ChangeSpec) : _root_.Go.OpenSpec := { _root_.Go.OpenSpec.ofChange s with cond := some uptoSmall }

/-- 'compositorlaw01.ScaledTells', WHERE WHAT IT READS IS OF BULK AT MOST 1048576: true; the input reads as it did. -/
def scaledTellsUptoRow : OpenClaim := { program := "ythoffhokfcgkoaa", sum := "1d28113365d8f5658d36f2245547a5236531da30a009097e35dfbb474527b1c3", func := "compositor/compositorlaw01.ScaledTells", spec := "scaledTells", unfollowed := true, recurses := true, apart := false, narrowed := true }
def ScaledTellsUptoSaid : Prop := scaledTellsUptoRow.holds Try.pinned (OpenSpec.upto scaledTellsSpec)

/-- 'compositorlaw01.ScaledSums', WHERE WHAT IT READS IS OF BULK AT MOST 1048576: true; the input reads as it did. -/
def scaledSumsUptoRow : OpenClaim := { program := "ythoffhokfcgkoaa", sum := "1d28113365d8f5658d36f2245547a5236531da30a009097e35dfbb474527b1c3", func := "compositor/compositorlaw01.ScaledSums", spec := "scaledSums", unfollowed := true, recurses := true, apart := false, narrowed := true }
def ScaledSumsUptoSaid : Prop := scaledSumsUptoRow.holds Try.pinned (OpenSpec.upto scaledSumsSpec)

/-- 'compositorlaw01.ScaledBack', WHERE WHAT IT READS IS OF BULK AT MOST 1048576: true; the input reads as it did. -/
def scaledBackUptoRow : OpenClaim := { program := "ythoffhokfcgkoaa", sum := "1d28113365d8f5658d36f2245547a5236531da30a009097e35dfbb474527b1c3", func := "compositor/compositorlaw01.ScaledBack", spec := "scaledBack", unfollowed := true, recurses := true, apart := false, narrowed := true }
def ScaledBackUptoSaid : Prop := scaledBackUptoRow.holds Try.pinned (OpenSpec.upto scaledBackSpec)

/-- 'compositorlaw01.ScaledTimes', WHERE WHAT IT READS IS OF BULK AT MOST 1048576: true; the input reads as it did. -/
def scaledTimesUptoRow : OpenClaim := { program := "ythoffhokfcgkoaa", sum := "1d28113365d8f5658d36f2245547a5236531da30a009097e35dfbb474527b1c3", func := "compositor/compositorlaw01.ScaledTimes", spec := "scaledTimes", unfollowed := true, recurses := true, apart := false, narrowed := true }
def ScaledTimesUptoSaid : Prop := scaledTimesUptoRow.holds Try.pinned (OpenSpec.upto scaledTimesSpec)

/-- 'compositorlaw01.ScaledOrder', WHERE WHAT IT READS IS OF BULK AT MOST 1048576: true; the input reads as it did. -/
def scaledOrderUptoRow : OpenClaim := { program := "ythoffhokfcgkoaa", sum := "1d28113365d8f5658d36f2245547a5236531da30a009097e35dfbb474527b1c3", func := "compositor/compositorlaw01.ScaledOrder", spec := "scaledOrder", unfollowed := true, recurses := true, apart := false, narrowed := true }
def ScaledOrderUptoSaid : Prop := scaledOrderUptoRow.holds Try.pinned (OpenSpec.upto scaledOrderSpec)

end Rows
end Go.Proofs.Ythoffhokfcgkoaa
