/-
  No cell of these rows narrows 'for every input' (looked for: loops, veiled, ifaces, maps, wideKeys, modest, calm, conditions, laid).
  DERIVED. THE GIVEN ROWS OF THIS SEAT. 6 by the template 'for every input the law returns true; each argument reads behind the call as it read before'; 0 by the template 'total and deterministic' (their statements: YtckmpllbbebefaaTotals.lean).
  GIVEN WITH THE SEED: the statements are not yours to turn. If you find one false, say at which input.
  Laid BY PROGRAM, IN A SANDBOX (cutbox-rows.mjs): the forced cells as the released guide's own fill.sh prints them over the translation 64501eaad6ac8561… (all of the seat's roots in one cut). By AI agents, Wed Nov 11 2026. No macro, syntax, notation, axiom, sorry.
-/
import Derived.Test.YtckmpllbbebefaaChecked
import GoSem.Claim
import GoSem.ClaimJoined
import GoSem.ClaimMapViews
import Derived.JoinedTies
import Derived.KernelRfl
namespace Go.Proofs.Ytckmpllbbebefaa
/- THE CELL 'sum', in the pinned program and in every row, IS THE sha256 OF THE DUMP (.gsa) THAT YtckmpllbbebefaaProg.lean LOADS. Nothing in Lean hashes anything: it is a label: what it is worth is what the hold of that sum in a sandbox is worth. -/
noncomputable def Try.pinned : Pinned := { name := "ytckmpllbbebefaa", sum := "64501eaad6ac856144afc3b519eda08db6dd64c742c8fb9f2990afabc823d41a", checked := Try.checked }
namespace Rows
def none {H : Type} : Left H := { results := [], args := [] }

/-- 'compositorlaw09.LevelTells': WHATEVER THE INPUT: true; the input reads as it did. -/
def levelTellsSpec : ChangeSpec := { name := "levelTells", fn := fun _ => fun
  | [d1, d2, d3, d4] => { results := [.lit (.bool true)], args := [d1, d2, d3, d4] }
  | _ => none }
def levelTellsRow : OpenClaim := { program := "ytckmpllbbebefaa", sum := "64501eaad6ac856144afc3b519eda08db6dd64c742c8fb9f2990afabc823d41a", func := "compositor/compositorlaw09.LevelTells", spec := "levelTells", inPlace := ["math/bits.Add64"], unfollowed := true, recurses := true, named := ["math/bits.divideError", "math/bits.overflowError"], apart := false }
def LevelTellsSaid : Prop := levelTellsRow.holds Try.pinned (OpenSpec.ofChange levelTellsSpec)

/-- ITS FALSE NEIGHBOUR: 'it returns false'. Refute it at one input. -/
def levelTellsWrong : ChangeSpec := { name := "levelTells", fn := fun _ => fun
  | [d1, d2, d3, d4] => { results := [.lit (.bool false)], args := [d1, d2, d3, d4] }
  | _ => none }
def LevelTellsWrongFalsely : Prop := levelTellsRow.holds Try.pinned (OpenSpec.ofChange levelTellsWrong)

/-- 'compositorlaw09.LevelRises': WHATEVER THE INPUT: true; the input reads as it did. -/
def levelRisesSpec : ChangeSpec := { name := "levelRises", fn := fun _ => fun
  | [d1, d2, d3, d4, d5] => { results := [.lit (.bool true)], args := [d1, d2, d3, d4, d5] }
  | _ => none }
def levelRisesRow : OpenClaim := { program := "ytckmpllbbebefaa", sum := "64501eaad6ac856144afc3b519eda08db6dd64c742c8fb9f2990afabc823d41a", func := "compositor/compositorlaw09.LevelRises", spec := "levelRises", inPlace := ["math/bits.Add64"], unfollowed := true, recurses := true, named := ["math/bits.divideError", "math/bits.overflowError"], apart := false }
def LevelRisesSaid : Prop := levelRisesRow.holds Try.pinned (OpenSpec.ofChange levelRisesSpec)

/-- ITS FALSE NEIGHBOUR: 'it returns false'. Refute it at one input. -/
def levelRisesWrong : ChangeSpec := { name := "levelRises", fn := fun _ => fun
  | [d1, d2, d3, d4, d5] => { results := [.lit (.bool false)], args := [d1, d2, d3, d4, d5] }
  | _ => none }
def LevelRisesWrongFalsely : Prop := levelRisesRow.holds Try.pinned (OpenSpec.ofChange levelRisesWrong)

/-- 'compositorlaw09.LevelPlain': WHATEVER THE INPUT: true; the input reads as it did. -/
def levelPlainSpec : ChangeSpec := { name := "levelPlain", fn := fun _ => fun
  | [d1, d2, d3] => { results := [.lit (.bool true)], args := [d1, d2, d3] }
  | _ => none }
def levelPlainRow : OpenClaim := { program := "ytckmpllbbebefaa", sum := "64501eaad6ac856144afc3b519eda08db6dd64c742c8fb9f2990afabc823d41a", func := "compositor/compositorlaw09.LevelPlain", spec := "levelPlain", inPlace := ["math/bits.Add64"], unfollowed := true, recurses := true, named := ["math/bits.divideError", "math/bits.overflowError"], apart := false }
def LevelPlainSaid : Prop := levelPlainRow.holds Try.pinned (OpenSpec.ofChange levelPlainSpec)

/-- ITS FALSE NEIGHBOUR: 'it returns false'. Refute it at one input. -/
def levelPlainWrong : ChangeSpec := { name := "levelPlain", fn := fun _ => fun
  | [d1, d2, d3] => { results := [.lit (.bool false)], args := [d1, d2, d3] }
  | _ => none }
def LevelPlainWrongFalsely : Prop := levelPlainRow.holds Try.pinned (OpenSpec.ofChange levelPlainWrong)

/-- 'compositorlaw09.LevelSizes': WHATEVER THE INPUT: true; the input reads as it did. -/
def levelSizesSpec : ChangeSpec := { name := "levelSizes", fn := fun _ => fun
  | [d1, d2, d3] => { results := [.lit (.bool true)], args := [d1, d2, d3] }
  | _ => none }
def levelSizesRow : OpenClaim := { program := "ytckmpllbbebefaa", sum := "64501eaad6ac856144afc3b519eda08db6dd64c742c8fb9f2990afabc823d41a", func := "compositor/compositorlaw09.LevelSizes", spec := "levelSizes", inPlace := ["math/bits.Add64"], unfollowed := true, recurses := true, named := ["math/bits.divideError", "math/bits.overflowError"], apart := false }
def LevelSizesSaid : Prop := levelSizesRow.holds Try.pinned (OpenSpec.ofChange levelSizesSpec)

/-- ITS FALSE NEIGHBOUR: 'it returns false'. Refute it at one input. -/
def levelSizesWrong : ChangeSpec := { name := "levelSizes", fn := fun _ => fun
  | [d1, d2, d3] => { results := [.lit (.bool false)], args := [d1, d2, d3] }
  | _ => none }
def LevelSizesWrongFalsely : Prop := levelSizesRow.holds Try.pinned (OpenSpec.ofChange levelSizesWrong)

/-- 'compositorlaw09.LevelEdges': WHATEVER THE INPUT: true; the input reads as it did. -/
def levelEdgesSpec : ChangeSpec := { name := "levelEdges", fn := fun _ => fun
  | [d1, d2, d3] => { results := [.lit (.bool true)], args := [d1, d2, d3] }
  | _ => none }
def levelEdgesRow : OpenClaim := { program := "ytckmpllbbebefaa", sum := "64501eaad6ac856144afc3b519eda08db6dd64c742c8fb9f2990afabc823d41a", func := "compositor/compositorlaw09.LevelEdges", spec := "levelEdges", inPlace := ["math/bits.Add64"], unfollowed := true, recurses := true, named := ["math/bits.divideError", "math/bits.overflowError"], apart := false }
def LevelEdgesSaid : Prop := levelEdgesRow.holds Try.pinned (OpenSpec.ofChange levelEdgesSpec)

/-- ITS FALSE NEIGHBOUR: 'it returns false'. Refute it at one input. -/
def levelEdgesWrong : ChangeSpec := { name := "levelEdges", fn := fun _ => fun
  | [d1, d2, d3] => { results := [.lit (.bool false)], args := [d1, d2, d3] }
  | _ => none }
def LevelEdgesWrongFalsely : Prop := levelEdgesRow.holds Try.pinned (OpenSpec.ofChange levelEdgesWrong)

/-- 'compositorlaw09.LevelClamps': WHATEVER THE INPUT: true; the input reads as it did. -/
def levelClampsSpec : ChangeSpec := { name := "levelClamps", fn := fun _ => fun
  | [d1, d2, d3, d4] => { results := [.lit (.bool true)], args := [d1, d2, d3, d4] }
  | _ => none }
def levelClampsRow : OpenClaim := { program := "ytckmpllbbebefaa", sum := "64501eaad6ac856144afc3b519eda08db6dd64c742c8fb9f2990afabc823d41a", func := "compositor/compositorlaw09.LevelClamps", spec := "levelClamps", inPlace := ["math/bits.Add64"], unfollowed := true, recurses := true, named := ["math/bits.divideError", "math/bits.overflowError"], apart := false }
def LevelClampsSaid : Prop := levelClampsRow.holds Try.pinned (OpenSpec.ofChange levelClampsSpec)

/-- ITS FALSE NEIGHBOUR: 'it returns false'. Refute it at one input. -/
def levelClampsWrong : ChangeSpec := { name := "levelClamps", fn := fun _ => fun
  | [d1, d2, d3, d4] => { results := [.lit (.bool false)], args := [d1, d2, d3, d4] }
  | _ => none }
def LevelClampsWrongFalsely : Prop := levelClampsRow.holds Try.pinned (OpenSpec.ofChange levelClampsWrong)

/- THE SECOND FORM. 'bulk': how many values and letters a reading holds, each counted each time it is reached (what is shared counts as often as it is met; a slice's spare places count too). A statement '..UptoSaid' is the law's where the arguments, and the package variables that the reading takes, are together of bulk at most 1048576: NARROWER than '..Said'. Prove '..Said' where nothing that the law and all that it calls make is longer than what came in: it says more and counts as full. Else prove '..UptoSaid'. A law counts once. -/
mutual
def uptoBulk {H : Type} : DataW H → Nat
  | .lit (.string bytes) => bytes.length + 1
  | .lit _ => 1
  | .nil => 1
  | .ptr d => uptoBulk d + 1
  | .slice elems spare => uptoBulkAll elems + uptoBulkAll spare + 1
  | .agg parts => uptoBulkAll parts + 1
  | .iface _ d => uptoBulk d + 1
  | .map entries => uptoBulkEntries entries + 1
  | .held _ => 1
def uptoBulkAll {H : Type} : List (DataW H) → Nat
  | [] => 0
  | d :: r => uptoBulk d + uptoBulkAll r
def uptoBulkEntries {H : Type} : List (Lit × DataW H) → Nat
  | [] => 0
  | x :: r => uptoBulkEntry x + uptoBulkEntries r
def uptoBulkEntry {H : Type} : Lit × DataW H → Nat
  | (.string bytes, d) => bytes.length + uptoBulk d + 1
  | (_, d) => uptoBulk d + 1
 end
def uptoSmall : (H : Type) → List (DataW H) → Bool := fun _ ds => decide (uptoBulkAll ds ≤ 1048576)
def OpenSpec.upto (s : _root_.Go.ChangeSpec) : _root_.Go.OpenSpec := { _root_.Go.OpenSpec.ofChange s with cond := some uptoSmall }

/-- 'compositorlaw09.LevelTells', WHERE WHAT IT READS IS OF BULK AT MOST 1048576: true; the input reads as it did. -/
def levelTellsUptoRow : OpenClaim := { program := "ytckmpllbbebefaa", sum := "64501eaad6ac856144afc3b519eda08db6dd64c742c8fb9f2990afabc823d41a", func := "compositor/compositorlaw09.LevelTells", spec := "levelTells", inPlace := ["math/bits.Add64"], unfollowed := true, recurses := true, named := ["math/bits.divideError", "math/bits.overflowError"], apart := false, narrowed := true }
def LevelTellsUptoSaid : Prop := levelTellsUptoRow.holds Try.pinned (OpenSpec.upto levelTellsSpec)

/-- 'compositorlaw09.LevelRises', WHERE WHAT IT READS IS OF BULK AT MOST 1048576: true; the input reads as it did. -/
def levelRisesUptoRow : OpenClaim := { program := "ytckmpllbbebefaa", sum := "64501eaad6ac856144afc3b519eda08db6dd64c742c8fb9f2990afabc823d41a", func := "compositor/compositorlaw09.LevelRises", spec := "levelRises", inPlace := ["math/bits.Add64"], unfollowed := true, recurses := true, named := ["math/bits.divideError", "math/bits.overflowError"], apart := false, narrowed := true }
def LevelRisesUptoSaid : Prop := levelRisesUptoRow.holds Try.pinned (OpenSpec.upto levelRisesSpec)

/-- 'compositorlaw09.LevelPlain', WHERE WHAT IT READS IS OF BULK AT MOST 1048576: true; the input reads as it did. -/
def levelPlainUptoRow : OpenClaim := { program := "ytckmpllbbebefaa", sum := "64501eaad6ac856144afc3b519eda08db6dd64c742c8fb9f2990afabc823d41a", func := "compositor/compositorlaw09.LevelPlain", spec := "levelPlain", inPlace := ["math/bits.Add64"], unfollowed := true, recurses := true, named := ["math/bits.divideError", "math/bits.overflowError"], apart := false, narrowed := true }
def LevelPlainUptoSaid : Prop := levelPlainUptoRow.holds Try.pinned (OpenSpec.upto levelPlainSpec)

/-- 'compositorlaw09.LevelSizes', WHERE WHAT IT READS IS OF BULK AT MOST 1048576: true; the input reads as it did. -/
def levelSizesUptoRow : OpenClaim := { program := "ytckmpllbbebefaa", sum := "64501eaad6ac856144afc3b519eda08db6dd64c742c8fb9f2990afabc823d41a", func := "compositor/compositorlaw09.LevelSizes", spec := "levelSizes", inPlace := ["math/bits.Add64"], unfollowed := true, recurses := true, named := ["math/bits.divideError", "math/bits.overflowError"], apart := false, narrowed := true }
def LevelSizesUptoSaid : Prop := levelSizesUptoRow.holds Try.pinned (OpenSpec.upto levelSizesSpec)

/-- 'compositorlaw09.LevelEdges', WHERE WHAT IT READS IS OF BULK AT MOST 1048576: true; the input reads as it did. -/
def levelEdgesUptoRow : OpenClaim := { program := "ytckmpllbbebefaa", sum := "64501eaad6ac856144afc3b519eda08db6dd64c742c8fb9f2990afabc823d41a", func := "compositor/compositorlaw09.LevelEdges", spec := "levelEdges", inPlace := ["math/bits.Add64"], unfollowed := true, recurses := true, named := ["math/bits.divideError", "math/bits.overflowError"], apart := false, narrowed := true }
def LevelEdgesUptoSaid : Prop := levelEdgesUptoRow.holds Try.pinned (OpenSpec.upto levelEdgesSpec)

/-- 'compositorlaw09.LevelClamps', WHERE WHAT IT READS IS OF BULK AT MOST 1048576: true; the input reads as it did. -/
def levelClampsUptoRow : OpenClaim := { program := "ytckmpllbbebefaa", sum := "64501eaad6ac856144afc3b519eda08db6dd64c742c8fb9f2990afabc823d41a", func := "compositor/compositorlaw09.LevelClamps", spec := "levelClamps", inPlace := ["math/bits.Add64"], unfollowed := true, recurses := true, named := ["math/bits.divideError", "math/bits.overflowError"], apart := false, narrowed := true }
def LevelClampsUptoSaid : Prop := levelClampsUptoRow.holds Try.pinned (OpenSpec.upto levelClampsSpec)

end Rows
end Go.Proofs.Ytckmpllbbebefaa
