/-
  No cell of these rows narrows 'for every input' (looked for: loops, veiled, ifaces, maps, wideKeys, modest, calm, conditions, laid).
  DERIVED. THE GIVEN ROWS OF THIS SEAT. 6 by the template 'for every input the law returns true; each argument reads behind the call as it read before'; 0 by the template 'total and deterministic' (their statements: YtoldnphehocpaaaTotals.lean).
  GIVEN WITH THE SEED: the statements are not yours to turn. If you find one false, say at which input.
  Laid BY PROGRAM, IN A SANDBOX (cutbox-rows.mjs): the forced cells as the released guide's own fill.sh prints them over the translation 583f073929ac277c… (all of the seat's roots in one cut). By AI agents, Wed Nov 11 2026. No macro, syntax, notation, axiom, sorry.
-/
import Derived.Test.YtoldnphehocpaaaChecked
import GoSem.Claim
import GoSem.ClaimJoined
import GoSem.ClaimMapViews
import Derived.JoinedTies
import Derived.KernelRfl
namespace Go.Proofs.Ytoldnphehocpaaa
/- THE CELL 'sum', in the pinned program and in every row, IS THE sha256 OF THE DUMP (.gsa) THAT YtoldnphehocpaaaProg.lean LOADS. Nothing in Lean hashes anything: it is a label: what it is worth is what the hold of that sum in a sandbox is worth. -/
noncomputable def Try.pinned : Pinned := { name := "ytoldnphehocpaaa", sum := "583f073929ac277c2a43e49c8fe4e2405b47ce4fad5b8b615af13311a2b4747f", checked := Try.checked }
namespace Rows
def none {H : Type} : Left H := { results := [], args := [] }

/-- 'compositorlaw05.CostTells': WHATEVER THE INPUT: true; the input reads as it did. -/
def costTellsSpec : ChangeSpec := { name := "costTells", fn := fun _ => fun
  | [d1, d2, d3] => { results := [.lit (.bool true)], args := [d1, d2, d3] }
  | _ => none }
def costTellsRow : OpenClaim := { program := "ytoldnphehocpaaa", sum := "583f073929ac277c2a43e49c8fe4e2405b47ce4fad5b8b615af13311a2b4747f", func := "compositor/compositorlaw05.CostTells", spec := "costTells", apart := false }
def CostTellsSaid : Prop := costTellsRow.holds Try.pinned (OpenSpec.ofChange costTellsSpec)

/-- ITS FALSE NEIGHBOUR: 'it returns false'. Refute it at one input. -/
def costTellsWrong : ChangeSpec := { name := "costTells", fn := fun _ => fun
  | [d1, d2, d3] => { results := [.lit (.bool false)], args := [d1, d2, d3] }
  | _ => none }
def CostTellsWrongFalsely : Prop := costTellsRow.holds Try.pinned (OpenSpec.ofChange costTellsWrong)

/-- 'compositorlaw05.CostOrder': WHATEVER THE INPUT: true; the input reads as it did. -/
def costOrderSpec : ChangeSpec := { name := "costOrder", fn := fun _ => fun
  | [d1, d2, d3] => { results := [.lit (.bool true)], args := [d1, d2, d3] }
  | _ => none }
def costOrderRow : OpenClaim := { program := "ytoldnphehocpaaa", sum := "583f073929ac277c2a43e49c8fe4e2405b47ce4fad5b8b615af13311a2b4747f", func := "compositor/compositorlaw05.CostOrder", spec := "costOrder", apart := false }
def CostOrderSaid : Prop := costOrderRow.holds Try.pinned (OpenSpec.ofChange costOrderSpec)

/-- ITS FALSE NEIGHBOUR: 'it returns false'. Refute it at one input. -/
def costOrderWrong : ChangeSpec := { name := "costOrder", fn := fun _ => fun
  | [d1, d2, d3] => { results := [.lit (.bool false)], args := [d1, d2, d3] }
  | _ => none }
def CostOrderWrongFalsely : Prop := costOrderRow.holds Try.pinned (OpenSpec.ofChange costOrderWrong)

/-- 'compositorlaw05.CostAdds': WHATEVER THE INPUT: true; the input reads as it did. -/
def costAddsSpec : ChangeSpec := { name := "costAdds", fn := fun _ => fun
  | [d1, d2, d3] => { results := [.lit (.bool true)], args := [d1, d2, d3] }
  | _ => none }
def costAddsRow : OpenClaim := { program := "ytoldnphehocpaaa", sum := "583f073929ac277c2a43e49c8fe4e2405b47ce4fad5b8b615af13311a2b4747f", func := "compositor/compositorlaw05.CostAdds", spec := "costAdds", apart := false }
def CostAddsSaid : Prop := costAddsRow.holds Try.pinned (OpenSpec.ofChange costAddsSpec)

/-- ITS FALSE NEIGHBOUR: 'it returns false'. Refute it at one input. -/
def costAddsWrong : ChangeSpec := { name := "costAdds", fn := fun _ => fun
  | [d1, d2, d3] => { results := [.lit (.bool false)], args := [d1, d2, d3] }
  | _ => none }
def CostAddsWrongFalsely : Prop := costAddsRow.holds Try.pinned (OpenSpec.ofChange costAddsWrong)

/-- 'compositorlaw05.CostLeast': WHATEVER THE INPUT: true; the input reads as it did. -/
def costLeastSpec : ChangeSpec := { name := "costLeast", fn := fun _ => fun
  | [d] => { results := [.lit (.bool true)], args := [d] }
  | _ => none }
def costLeastRow : OpenClaim := { program := "ytoldnphehocpaaa", sum := "583f073929ac277c2a43e49c8fe4e2405b47ce4fad5b8b615af13311a2b4747f", func := "compositor/compositorlaw05.CostLeast", spec := "costLeast", apart := false }
def CostLeastSaid : Prop := costLeastRow.holds Try.pinned (OpenSpec.ofChange costLeastSpec)

/-- ITS FALSE NEIGHBOUR: 'it returns false'. Refute it at one input. -/
def costLeastWrong : ChangeSpec := { name := "costLeast", fn := fun _ => fun
  | [d] => { results := [.lit (.bool false)], args := [d] }
  | _ => none }
def CostLeastWrongFalsely : Prop := costLeastRow.holds Try.pinned (OpenSpec.ofChange costLeastWrong)

/-- 'compositorlaw05.CostNone': WHATEVER THE INPUT: true; the input reads as it did. -/
def costNoneSpec : ChangeSpec := { name := "costNone", fn := fun _ => fun
  | [d1, d2] => { results := [.lit (.bool true)], args := [d1, d2] }
  | _ => none }
def costNoneRow : OpenClaim := { program := "ytoldnphehocpaaa", sum := "583f073929ac277c2a43e49c8fe4e2405b47ce4fad5b8b615af13311a2b4747f", func := "compositor/compositorlaw05.CostNone", spec := "costNone", apart := false }
def CostNoneSaid : Prop := costNoneRow.holds Try.pinned (OpenSpec.ofChange costNoneSpec)

/-- ITS FALSE NEIGHBOUR: 'it returns false'. Refute it at one input. -/
def costNoneWrong : ChangeSpec := { name := "costNone", fn := fun _ => fun
  | [d1, d2] => { results := [.lit (.bool false)], args := [d1, d2] }
  | _ => none }
def CostNoneWrongFalsely : Prop := costNoneRow.holds Try.pinned (OpenSpec.ofChange costNoneWrong)

/-- 'compositorlaw05.CostRises': WHATEVER THE INPUT: true; the input reads as it did. -/
def costRisesSpec : ChangeSpec := { name := "costRises", fn := fun _ => fun
  | [d1, d2, d3] => { results := [.lit (.bool true)], args := [d1, d2, d3] }
  | _ => none }
def costRisesRow : OpenClaim := { program := "ytoldnphehocpaaa", sum := "583f073929ac277c2a43e49c8fe4e2405b47ce4fad5b8b615af13311a2b4747f", func := "compositor/compositorlaw05.CostRises", spec := "costRises", apart := false }
def CostRisesSaid : Prop := costRisesRow.holds Try.pinned (OpenSpec.ofChange costRisesSpec)

/-- ITS FALSE NEIGHBOUR: 'it returns false'. Refute it at one input. -/
def costRisesWrong : ChangeSpec := { name := "costRises", fn := fun _ => fun
  | [d1, d2, d3] => { results := [.lit (.bool false)], args := [d1, d2, d3] }
  | _ => none }
def CostRisesWrongFalsely : Prop := costRisesRow.holds Try.pinned (OpenSpec.ofChange costRisesWrong)

/- THE SECOND FORM. 'bulk': how many values and letters a reading holds, each counted each time it is reached (what is shared counts as often as it is met; a slice's spare places count too). A statement '..UptoSaid' is the law's where the arguments, and the package variables that the reading takes, are together of bulk at most 1048576: NARROWER than '..Said'. Prove '..Said' where nothing that the law and all that it calls make is longer than what came in: it says more and counts as full. Else prove '..UptoSaid'. A law counts once. -/
mutual
def uptoBulk {H : Type} : DataW H → Nat
  | .lit (.string bytes) => bytes.length + 1
  | .lit _ => 1
  | .nil => 1
  | .ptr d => uptoBulk d + 1
  | .slice elems spare => uptoBulkAll elems + uptoBulkAll spare + 1
  | .agg parts => uptoBulkAll parts + 1
  | .iface _ d => uptoBulk d + 1
  | .map entries => uptoBulkEntries entries + 1
  | .held _ => 1
def uptoBulkAll {H : Type} : List (DataW H) → Nat
  | [] => 0
  | d :: r => uptoBulk d + uptoBulkAll r
def uptoBulkEntries {H : Type} : List (Lit × DataW H) → Nat
  | [] => 0
  | x :: r => uptoBulkEntry x + uptoBulkEntries r
def uptoBulkEntry {H : Type} : Lit × DataW H → Nat
  | (.string bytes, d) => bytes.length + uptoBulk d + 1
  | (_, d) => uptoBulk d + 1
 end
def uptoSmall : (H : Type) → List (DataW H) → Bool := fun _ ds => decide (uptoBulkAll ds ≤ 1048576)
def OpenSpec.upto (s : _root_.Go.ChangeSpec) : _root_.Go.OpenSpec := { _root_.Go.OpenSpec.ofChange s with cond := some uptoSmall }

/-- 'compositorlaw05.CostTells', WHERE WHAT IT READS IS OF BULK AT MOST 1048576: true; the input reads as it did. -/
def costTellsUptoRow : OpenClaim := { program := "ytoldnphehocpaaa", sum := "583f073929ac277c2a43e49c8fe4e2405b47ce4fad5b8b615af13311a2b4747f", func := "compositor/compositorlaw05.CostTells", spec := "costTells", apart := false, narrowed := true }
def CostTellsUptoSaid : Prop := costTellsUptoRow.holds Try.pinned (OpenSpec.upto costTellsSpec)

/-- 'compositorlaw05.CostOrder', WHERE WHAT IT READS IS OF BULK AT MOST 1048576: true; the input reads as it did. -/
def costOrderUptoRow : OpenClaim := { program := "ytoldnphehocpaaa", sum := "583f073929ac277c2a43e49c8fe4e2405b47ce4fad5b8b615af13311a2b4747f", func := "compositor/compositorlaw05.CostOrder", spec := "costOrder", apart := false, narrowed := true }
def CostOrderUptoSaid : Prop := costOrderUptoRow.holds Try.pinned (OpenSpec.upto costOrderSpec)

/-- 'compositorlaw05.CostAdds', WHERE WHAT IT READS IS OF BULK AT MOST 1048576: true; the input reads as it did. -/
def costAddsUptoRow : OpenClaim := { program := "ytoldnphehocpaaa", sum := "583f073929ac277c2a43e49c8fe4e2405b47ce4fad5b8b615af13311a2b4747f", func := "compositor/compositorlaw05.CostAdds", spec := "costAdds", apart := false, narrowed := true }
def CostAddsUptoSaid : Prop := costAddsUptoRow.holds Try.pinned (OpenSpec.upto costAddsSpec)

/-- 'compositorlaw05.CostLeast', WHERE WHAT IT READS IS OF BULK AT MOST 1048576: true; the input reads as it did. -/
def costLeastUptoRow : OpenClaim := { program := "ytoldnphehocpaaa", sum := "583f073929ac277c2a43e49c8fe4e2405b47ce4fad5b8b615af13311a2b4747f", func := "compositor/compositorlaw05.CostLeast", spec := "costLeast", apart := false, narrowed := true }
def CostLeastUptoSaid : Prop := costLeastUptoRow.holds Try.pinned (OpenSpec.upto costLeastSpec)

/-- 'compositorlaw05.CostNone', WHERE WHAT IT READS IS OF BULK AT MOST 1048576: true; the input reads as it did. -/
def costNoneUptoRow : OpenClaim := { program := "ytoldnphehocpaaa", sum := "583f073929ac277c2a43e49c8fe4e2405b47ce4fad5b8b615af13311a2b4747f", func := "compositor/compositorlaw05.CostNone", spec := "costNone", apart := false, narrowed := true }
def CostNoneUptoSaid : Prop := costNoneUptoRow.holds Try.pinned (OpenSpec.upto costNoneSpec)

/-- 'compositorlaw05.CostRises', WHERE WHAT IT READS IS OF BULK AT MOST 1048576: true; the input reads as it did. -/
def costRisesUptoRow : OpenClaim := { program := "ytoldnphehocpaaa", sum := "583f073929ac277c2a43e49c8fe4e2405b47ce4fad5b8b615af13311a2b4747f", func := "compositor/compositorlaw05.CostRises", spec := "costRises", apart := false, narrowed := true }
def CostRisesUptoSaid : Prop := costRisesUptoRow.holds Try.pinned (OpenSpec.upto costRisesSpec)

end Rows
end Go.Proofs.Ytoldnphehocpaaa
