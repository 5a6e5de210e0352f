/-
  No cell of these rows narrows 'for every input' (looked for: loops, veiled, ifaces, maps, wideKeys, modest, calm, conditions, laid).
  DERIVED. THE GIVEN ROWS OF THIS SEAT. 3 by the template 'for every input the law returns true; each argument reads behind the call as it read before'; 0 by the template 'total and deterministic' (their statements: YtbkfofmanpjbfaaTotals.lean).
  GIVEN WITH THE SEED: the statements are not yours to turn. If you find one false, say at which input.
  Laid BY PROGRAM, IN A SANDBOX (cutbox-rows.mjs): the forced cells as the released guide's own fill.sh prints them over the translation d3ddbc5161c6d360… (all of the seat's roots in one cut). By AI agents, Wed Nov 11 2026. No macro, syntax, notation, axiom, sorry.
-/
import Derived.Test.YtbkfofmanpjbfaaChecked
import GoSem.Claim
import GoSem.ClaimJoined
import GoSem.ClaimMapViews
import Derived.JoinedTies
import Derived.KernelRfl
namespace Go.Proofs.Ytbkfofmanpjbfaa
/- THE CELL 'sum', in the pinned program and in every row, IS THE sha256 OF THE DUMP (.gsa) THAT YtbkfofmanpjbfaaProg.lean LOADS. Nothing in Lean hashes anything: it is a label: what it is worth is what the hold of that sum in a sandbox is worth. -/
noncomputable def Try.pinned : Pinned := { name := "ytbkfofmanpjbfaa", sum := "d3ddbc5161c6d360c0d31762c59cd31dd5003948024fd8a2389e28d9da2b2e69", checked := Try.checked }
namespace Rows
def none {H : Type} : Left H := { results := [], args := [] }

/-- 'compositorlaw24.BackTells': WHATEVER THE INPUT: true; the input reads as it did. -/
def backTellsSpec : ChangeSpec := { name := "backTells", fn := fun _ => fun
  | [d1, d2] => { results := [.lit (.bool true)], args := [d1, d2] }
  | _ => none }
def backTellsRow : OpenClaim := { program := "ytbkfofmanpjbfaa", sum := "d3ddbc5161c6d360c0d31762c59cd31dd5003948024fd8a2389e28d9da2b2e69", func := "compositor/compositorlaw24.BackTells", spec := "backTells", unfollowed := true, recurses := true, apart := false }
def BackTellsSaid : Prop := backTellsRow.holds Try.pinned (OpenSpec.ofChange backTellsSpec)

/-- ITS FALSE NEIGHBOUR: 'it returns false'. Refute it at one input. -/
def backTellsWrong : ChangeSpec := { name := "backTells", fn := fun _ => fun
  | [d1, d2] => { results := [.lit (.bool false)], args := [d1, d2] }
  | _ => none }
def BackTellsWrongFalsely : Prop := backTellsRow.holds Try.pinned (OpenSpec.ofChange backTellsWrong)

/-- 'compositorlaw24.BackMoves': WHATEVER THE INPUT: true; the input reads as it did. -/
def backMovesSpec : ChangeSpec := { name := "backMoves", fn := fun _ => fun
  | [d1, d2, d3] => { results := [.lit (.bool true)], args := [d1, d2, d3] }
  | _ => none }
def backMovesRow : OpenClaim := { program := "ytbkfofmanpjbfaa", sum := "d3ddbc5161c6d360c0d31762c59cd31dd5003948024fd8a2389e28d9da2b2e69", func := "compositor/compositorlaw24.BackMoves", spec := "backMoves", unfollowed := true, recurses := true, apart := false }
def BackMovesSaid : Prop := backMovesRow.holds Try.pinned (OpenSpec.ofChange backMovesSpec)

/-- ITS FALSE NEIGHBOUR: 'it returns false'. Refute it at one input. -/
def backMovesWrong : ChangeSpec := { name := "backMoves", fn := fun _ => fun
  | [d1, d2, d3] => { results := [.lit (.bool false)], args := [d1, d2, d3] }
  | _ => none }
def BackMovesWrongFalsely : Prop := backMovesRow.holds Try.pinned (OpenSpec.ofChange backMovesWrong)

/-- 'compositorlaw24.BackParts': WHATEVER THE INPUT: true; the input reads as it did. -/
def backPartsSpec : ChangeSpec := { name := "backParts", fn := fun _ => fun
  | [d1, d2, d3] => { results := [.lit (.bool true)], args := [d1, d2, d3] }
  | _ => none }
def backPartsRow : OpenClaim := { program := "ytbkfofmanpjbfaa", sum := "d3ddbc5161c6d360c0d31762c59cd31dd5003948024fd8a2389e28d9da2b2e69", func := "compositor/compositorlaw24.BackParts", spec := "backParts", unfollowed := true, recurses := true, apart := false }
def BackPartsSaid : Prop := backPartsRow.holds Try.pinned (OpenSpec.ofChange backPartsSpec)

/-- ITS FALSE NEIGHBOUR: 'it returns false'. Refute it at one input. -/
def backPartsWrong : ChangeSpec := { name := "backParts", fn := fun _ => fun
  | [d1, d2, d3] => { results := [.lit (.bool false)], args := [d1, d2, d3] }
  | _ => none }
def BackPartsWrongFalsely : Prop := backPartsRow.holds Try.pinned (OpenSpec.ofChange backPartsWrong)

/- THE SECOND FORM. 'bulk': how many values and letters a reading holds, each counted each time it is reached (what is shared counts as often as it is met; a slice's spare places count too). A statement '..UptoSaid' is the law's where the arguments, and the package variables that the reading takes, are together of bulk at most 1048576: NARROWER than '..Said'. Prove '..Said' where nothing that the law and all that it calls make is longer than what came in: it says more and counts as full. Else prove '..UptoSaid'. A law counts once. -/
mutual
def uptoBulk {H : Type} : DataW H → Nat
  | .lit (.string bytes) => bytes.length + 1
  | .lit _ => 1
  | .nil => 1
  | .ptr d => uptoBulk d + 1
  | .slice elems spare => uptoBulkAll elems + uptoBulkAll spare + 1
  | .agg parts => uptoBulkAll parts + 1
  | .iface _ d => uptoBulk d + 1
  | .map entries => uptoBulkEntries entries + 1
  | .held _ => 1
def uptoBulkAll {H : Type} : List (DataW H) → Nat
  | [] => 0
  | d :: r => uptoBulk d + uptoBulkAll r
def uptoBulkEntries {H : Type} : List (Lit × DataW H) → Nat
  | [] => 0
  | x :: r => uptoBulkEntry x + uptoBulkEntries r
def uptoBulkEntry {H : Type} : Lit × DataW H → Nat
  | (.string bytes, d) => bytes.length + uptoBulk d + 1
  | (_, d) => uptoBulk d + 1
 end
def uptoSmall : (H : Type) → List (DataW H) → Bool := fun _ ds => decide (uptoBulkAll ds ≤ 1048576)
def OpenSpec.upto (s : _root_.Go.ChangeSpec) : _root_.Go.OpenSpec := { _root_.Go.OpenSpec.ofChange s with cond := some uptoSmall }

/-- 'compositorlaw24.BackTells', WHERE WHAT IT READS IS OF BULK AT MOST 1048576: true; the input reads as it did. -/
def backTellsUptoRow : OpenClaim := { program := "ytbkfofmanpjbfaa", sum := "d3ddbc5161c6d360c0d31762c59cd31dd5003948024fd8a2389e28d9da2b2e69", func := "compositor/compositorlaw24.BackTells", spec := "backTells", unfollowed := true, recurses := true, apart := false, narrowed := true }
def BackTellsUptoSaid : Prop := backTellsUptoRow.holds Try.pinned (OpenSpec.upto backTellsSpec)

/-- 'compositorlaw24.BackMoves', WHERE WHAT IT READS IS OF BULK AT MOST 1048576: true; the input reads as it did. -/
def backMovesUptoRow : OpenClaim := { program := "ytbkfofmanpjbfaa", sum := "d3ddbc5161c6d360c0d31762c59cd31dd5003948024fd8a2389e28d9da2b2e69", func := "compositor/compositorlaw24.BackMoves", spec := "backMoves", unfollowed := true, recurses := true, apart := false, narrowed := true }
def BackMovesUptoSaid : Prop := backMovesUptoRow.holds Try.pinned (OpenSpec.upto backMovesSpec)

/-- 'compositorlaw24.BackParts', WHERE WHAT IT READS IS OF BULK AT MOST 1048576: true; the input reads as it did. -/
def backPartsUptoRow : OpenClaim := { program := "ytbkfofmanpjbfaa", sum := "d3ddbc5161c6d360c0d31762c59cd31dd5003948024fd8a2389e28d9da2b2e69", func := "compositor/compositorlaw24.BackParts", spec := "backParts", unfollowed := true, recurses := true, apart := false, narrowed := true }
def BackPartsUptoSaid : Prop := backPartsUptoRow.holds Try.pinned (OpenSpec.upto backPartsSpec)

end Rows
end Go.Proofs.Ytbkfofmanpjbfaa
