/-
  No cell of these rows narrows 'for every input' (looked for: loops, veiled, ifaces, maps, wideKeys, modest, calm, conditions, laid).
  DERIVED. THE GIVEN ROWS OF THIS SEAT. 6 by the template 'for every input the law returns true; each argument reads behind the call as it read before'; 0 by the template 'total and deterministic' (their statements: YtegmkabhmhbjpaaTotals.lean).
  GIVEN WITH THE SEED: the statements are not yours to turn. If you find one false, say at which input.
  Laid BY PROGRAM, IN A SANDBOX (cutbox-rows.mjs): the forced cells as the released guide's own fill.sh prints them over the translation fe459c30b4bb966b… (all of the seat's roots in one cut). By AI agents, Wed Nov 11 2026. No macro, syntax, notation, axiom, sorry.
-/
import Derived.Test.YtegmkabhmhbjpaaChecked
import GoSem.Claim
import GoSem.ClaimJoined
import GoSem.ClaimMapViews
import Derived.JoinedTies
import Derived.KernelRfl
namespace Go.Proofs.Ytegmkabhmhbjpaa
/- THE CELL 'sum', in the pinned program and in every row, IS THE sha256 OF THE DUMP (.gsa) THAT YtegmkabhmhbjpaaProg.lean LOADS. Nothing in Lean hashes anything: it is a label: what it is worth is what the hold of that sum in a sandbox is worth. -/
noncomputable def Try.pinned : Pinned := { name := "ytegmkabhmhbjpaa", sum := "fe459c30b4bb966beae01455821fb230207a0c2c7faff3f6ade03f0bc48b51f1", checked := Try.checked }
namespace Rows
def none {H : Type} : Left H := { results := [], args := [] }

/-- 'compositorlaw03.BadTells': WHATEVER THE INPUT: true; the input reads as it did. -/
def badTellsSpec : ChangeSpec := { name := "badTells", fn := fun _ => fun
  | [d1, d2, d3] => { results := [.lit (.bool true)], args := [d1, d2, d3] }
  | _ => none }
def badTellsRow : OpenClaim := { program := "ytegmkabhmhbjpaa", sum := "fe459c30b4bb966beae01455821fb230207a0c2c7faff3f6ade03f0bc48b51f1", func := "compositor/compositorlaw03.BadTells", spec := "badTells", inPlace := ["math/bits.Add64"], unfollowed := true, recurses := true, apart := false }
def BadTellsSaid : Prop := badTellsRow.holds Try.pinned (OpenSpec.ofChange badTellsSpec)

/-- ITS FALSE NEIGHBOUR: 'it returns false'. Refute it at one input. -/
def badTellsWrong : ChangeSpec := { name := "badTells", fn := fun _ => fun
  | [d1, d2, d3] => { results := [.lit (.bool false)], args := [d1, d2, d3] }
  | _ => none }
def BadTellsWrongFalsely : Prop := badTellsRow.holds Try.pinned (OpenSpec.ofChange badTellsWrong)

/-- 'compositorlaw03.BadRises': WHATEVER THE INPUT: true; the input reads as it did. -/
def badRisesSpec : ChangeSpec := { name := "badRises", fn := fun _ => fun
  | [d1, d2, d3] => { results := [.lit (.bool true)], args := [d1, d2, d3] }
  | _ => none }
def badRisesRow : OpenClaim := { program := "ytegmkabhmhbjpaa", sum := "fe459c30b4bb966beae01455821fb230207a0c2c7faff3f6ade03f0bc48b51f1", func := "compositor/compositorlaw03.BadRises", spec := "badRises", inPlace := ["math/bits.Add64"], unfollowed := true, recurses := true, apart := false }
def BadRisesSaid : Prop := badRisesRow.holds Try.pinned (OpenSpec.ofChange badRisesSpec)

/-- ITS FALSE NEIGHBOUR: 'it returns false'. Refute it at one input. -/
def badRisesWrong : ChangeSpec := { name := "badRises", fn := fun _ => fun
  | [d1, d2, d3] => { results := [.lit (.bool false)], args := [d1, d2, d3] }
  | _ => none }
def BadRisesWrongFalsely : Prop := badRisesRow.holds Try.pinned (OpenSpec.ofChange badRisesWrong)

/-- 'compositorlaw03.BadScales': WHATEVER THE INPUT: true; the input reads as it did. -/
def badScalesSpec : ChangeSpec := { name := "badScales", fn := fun _ => fun
  | [d1, d2] => { results := [.lit (.bool true)], args := [d1, d2] }
  | _ => none }
def badScalesRow : OpenClaim := { program := "ytegmkabhmhbjpaa", sum := "fe459c30b4bb966beae01455821fb230207a0c2c7faff3f6ade03f0bc48b51f1", func := "compositor/compositorlaw03.BadScales", spec := "badScales", inPlace := ["math/bits.Add64"], unfollowed := true, recurses := true, apart := false }
def BadScalesSaid : Prop := badScalesRow.holds Try.pinned (OpenSpec.ofChange badScalesSpec)

/-- ITS FALSE NEIGHBOUR: 'it returns false'. Refute it at one input. -/
def badScalesWrong : ChangeSpec := { name := "badScales", fn := fun _ => fun
  | [d1, d2] => { results := [.lit (.bool false)], args := [d1, d2] }
  | _ => none }
def BadScalesWrongFalsely : Prop := badScalesRow.holds Try.pinned (OpenSpec.ofChange badScalesWrong)

/-- 'compositorlaw03.BadHolds': WHATEVER THE INPUT: true; the input reads as it did. -/
def badHoldsSpec : ChangeSpec := { name := "badHolds", fn := fun _ => fun
  | [d1, d2, d3] => { results := [.lit (.bool true)], args := [d1, d2, d3] }
  | _ => none }
def badHoldsRow : OpenClaim := { program := "ytegmkabhmhbjpaa", sum := "fe459c30b4bb966beae01455821fb230207a0c2c7faff3f6ade03f0bc48b51f1", func := "compositor/compositorlaw03.BadHolds", spec := "badHolds", inPlace := ["math/bits.Add64"], unfollowed := true, recurses := true, apart := false }
def BadHoldsSaid : Prop := badHoldsRow.holds Try.pinned (OpenSpec.ofChange badHoldsSpec)

/-- ITS FALSE NEIGHBOUR: 'it returns false'. Refute it at one input. -/
def badHoldsWrong : ChangeSpec := { name := "badHolds", fn := fun _ => fun
  | [d1, d2, d3] => { results := [.lit (.bool false)], args := [d1, d2, d3] }
  | _ => none }
def BadHoldsWrongFalsely : Prop := badHoldsRow.holds Try.pinned (OpenSpec.ofChange badHoldsWrong)

/-- 'compositorlaw03.BadEnds': WHATEVER THE INPUT: true; the input reads as it did. -/
def badEndsSpec : ChangeSpec := { name := "badEnds", fn := fun _ => fun
  | [d1, d2] => { results := [.lit (.bool true)], args := [d1, d2] }
  | _ => none }
def badEndsRow : OpenClaim := { program := "ytegmkabhmhbjpaa", sum := "fe459c30b4bb966beae01455821fb230207a0c2c7faff3f6ade03f0bc48b51f1", func := "compositor/compositorlaw03.BadEnds", spec := "badEnds", inPlace := ["math/bits.Add64"], unfollowed := true, recurses := true, apart := false }
def BadEndsSaid : Prop := badEndsRow.holds Try.pinned (OpenSpec.ofChange badEndsSpec)

/-- ITS FALSE NEIGHBOUR: 'it returns false'. Refute it at one input. -/
def badEndsWrong : ChangeSpec := { name := "badEnds", fn := fun _ => fun
  | [d1, d2] => { results := [.lit (.bool false)], args := [d1, d2] }
  | _ => none }
def BadEndsWrongFalsely : Prop := badEndsRow.holds Try.pinned (OpenSpec.ofChange badEndsWrong)

/-- 'compositorlaw03.BadClasses': WHATEVER THE INPUT: true; the input reads as it did. -/
def badClassesSpec : ChangeSpec := { name := "badClasses", fn := fun _ => fun
  | [d1, d2] => { results := [.lit (.bool true)], args := [d1, d2] }
  | _ => none }
def badClassesRow : OpenClaim := { program := "ytegmkabhmhbjpaa", sum := "fe459c30b4bb966beae01455821fb230207a0c2c7faff3f6ade03f0bc48b51f1", func := "compositor/compositorlaw03.BadClasses", spec := "badClasses", inPlace := ["math/bits.Add64"], unfollowed := true, recurses := true, apart := false }
def BadClassesSaid : Prop := badClassesRow.holds Try.pinned (OpenSpec.ofChange badClassesSpec)

/-- ITS FALSE NEIGHBOUR: 'it returns false'. Refute it at one input. -/
def badClassesWrong : ChangeSpec := { name := "badClasses", fn := fun _ => fun
  | [d1, d2] => { results := [.lit (.bool false)], args := [d1, d2] }
  | _ => none }
def BadClassesWrongFalsely : Prop := badClassesRow.holds Try.pinned (OpenSpec.ofChange badClassesWrong)

/- THE SECOND FORM. 'bulk': how many values and letters a reading holds, each counted each time it is reached (what is shared counts as often as it is met; a slice's spare places count too). A statement '..UptoSaid' is the law's where the arguments, and the package variables that the reading takes, are together of bulk at most 1048576: NARROWER than '..Said'. Prove '..Said' where nothing that the law and all that it calls make is longer than what came in: it says more and counts as full. Else prove '..UptoSaid'. A law counts once. -/
mutual
def uptoBulk {H : Type} : DataW H → Nat
  | .lit (.string bytes) => bytes.length + 1
  | .lit _ => 1
  | .nil => 1
  | .ptr d => uptoBulk d + 1
  | .slice elems spare => uptoBulkAll elems + uptoBulkAll spare + 1
  | .agg parts => uptoBulkAll parts + 1
  | .iface _ d => uptoBulk d + 1
  | .map entries => uptoBulkEntries entries + 1
  | .held _ => 1
def uptoBulkAll {H : Type} : List (DataW H) → Nat
  | [] => 0
  | d :: r => uptoBulk d + uptoBulkAll r
def uptoBulkEntries {H : Type} : List (Lit × DataW H) → Nat
  | [] => 0
  | x :: r => uptoBulkEntry x + uptoBulkEntries r
def uptoBulkEntry {H : Type} : Lit × DataW H → Nat
  | (.string bytes, d) => bytes.length + uptoBulk d + 1
  | (_, d) => uptoBulk d + 1
 end
def uptoSmall : (H : Type) → List (DataW H) → Bool := fun _ ds => decide (uptoBulkAll ds ≤ 1048576)
def OpenSpec.upto (s : _root_.Go.ChangeSpec) : _root_.Go.OpenSpec := { _root_.Go.OpenSpec.ofChange s with cond := some uptoSmall }

/-- 'compositorlaw03.BadTells', WHERE WHAT IT READS IS OF BULK AT MOST 1048576: true; the input reads as it did. -/
def badTellsUptoRow : OpenClaim := { program := "ytegmkabhmhbjpaa", sum := "fe459c30b4bb966beae01455821fb230207a0c2c7faff3f6ade03f0bc48b51f1", func := "compositor/compositorlaw03.BadTells", spec := "badTells", inPlace := ["math/bits.Add64"], unfollowed := true, recurses := true, apart := false, narrowed := true }
def BadTellsUptoSaid : Prop := badTellsUptoRow.holds Try.pinned (OpenSpec.upto badTellsSpec)

/-- 'compositorlaw03.BadRises', WHERE WHAT IT READS IS OF BULK AT MOST 1048576: true; the input reads as it did. -/
def badRisesUptoRow : OpenClaim := { program := "ytegmkabhmhbjpaa", sum := "fe459c30b4bb966beae01455821fb230207a0c2c7faff3f6ade03f0bc48b51f1", func := "compositor/compositorlaw03.BadRises", spec := "badRises", inPlace := ["math/bits.Add64"], unfollowed := true, recurses := true, apart := false, narrowed := true }
def BadRisesUptoSaid : Prop := badRisesUptoRow.holds Try.pinned (OpenSpec.upto badRisesSpec)

/-- 'compositorlaw03.BadScales', WHERE WHAT IT READS IS OF BULK AT MOST 1048576: true; the input reads as it did. -/
def badScalesUptoRow : OpenClaim := { program := "ytegmkabhmhbjpaa", sum := "fe459c30b4bb966beae01455821fb230207a0c2c7faff3f6ade03f0bc48b51f1", func := "compositor/compositorlaw03.BadScales", spec := "badScales", inPlace := ["math/bits.Add64"], unfollowed := true, recurses := true, apart := false, narrowed := true }
def BadScalesUptoSaid : Prop := badScalesUptoRow.holds Try.pinned (OpenSpec.upto badScalesSpec)

/-- 'compositorlaw03.BadHolds', WHERE WHAT IT READS IS OF BULK AT MOST 1048576: true; the input reads as it did. -/
def badHoldsUptoRow : OpenClaim := { program := "ytegmkabhmhbjpaa", sum := "fe459c30b4bb966beae01455821fb230207a0c2c7faff3f6ade03f0bc48b51f1", func := "compositor/compositorlaw03.BadHolds", spec := "badHolds", inPlace := ["math/bits.Add64"], unfollowed := true, recurses := true, apart := false, narrowed := true }
def BadHoldsUptoSaid : Prop := badHoldsUptoRow.holds Try.pinned (OpenSpec.upto badHoldsSpec)

/-- 'compositorlaw03.BadEnds', WHERE WHAT IT READS IS OF BULK AT MOST 1048576: true; the input reads as it did. -/
def badEndsUptoRow : OpenClaim := { program := "ytegmkabhmhbjpaa", sum := "fe459c30b4bb966beae01455821fb230207a0c2c7faff3f6ade03f0bc48b51f1", func := "compositor/compositorlaw03.BadEnds", spec := "badEnds", inPlace := ["math/bits.Add64"], unfollowed := true, recurses := true, apart := false, narrowed := true }
def BadEndsUptoSaid : Prop := badEndsUptoRow.holds Try.pinned (OpenSpec.upto badEndsSpec)

/-- 'compositorlaw03.BadClasses', WHERE WHAT IT READS IS OF BULK AT MOST 1048576: true; the input reads as it did. -/
def badClassesUptoRow : OpenClaim := { program := "ytegmkabhmhbjpaa", sum := "fe459c30b4bb966beae01455821fb230207a0c2c7faff3f6ade03f0bc48b51f1", func := "compositor/compositorlaw03.BadClasses", spec := "badClasses", inPlace := ["math/bits.Add64"], unfollowed := true, recurses := true, apart := false, narrowed := true }
def BadClassesUptoSaid : Prop := badClassesUptoRow.holds Try.pinned (OpenSpec.upto badClassesSpec)

end Rows
end Go.Proofs.Ytegmkabhmhbjpaa
