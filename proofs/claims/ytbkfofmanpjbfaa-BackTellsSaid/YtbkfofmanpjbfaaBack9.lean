/- The font of the statements' own calls, as plain data, and what is made of it. -/
import Derived.Test.YtbkfofmanpjbfaaBack8
namespace Go.Proofs.Ytbkfofmanpjbfaa.Bk
open Go.RowKit Go.Proofs.Ytbkfofmanpjbfaa.Kit Go.Proofs.Ytbkfofmanpjbfaa.Fo Go.Shelf
open Go.Proofs.YtbkfofmanpjbfaaW.PrintWords (Kd)
set_option linter.unusedVariables false
set_option linter.unusedSimpArgs false

def charE (j : Nat) : CharT := (1, 0, 0, 0, if j = 69 then 1 else 0, 0)
def charsE (k : Nat) : List CharT := (List.range k).map charE
def fontE (k : Nat) : FontD := { sum := 0, design := 1048576, first := 33, chars := charsE k, widths := [0, 1048576], heights := [0], depths := [0], italics := [0], steps := [(128, 105, 0, 128)], kerns := [], params := [] }
def fontZ : FontD := { sum := 0, design := 0, first := 0, chars := [], widths := [], heights := [], depths := [], italics := [], steps := [], kerns := [], params := [] }
def fontAZ : FontA := { c := none, w := none, h := none, d := none, i := none, s := none, k := none, p := none, cc := 0, cw := 0, ch := 0, cd := 0, ci := 0, cs := 0, ck := 0, cp := 0 }
def rowE1 : RowD := { level := 0, kind := 2, fin := 0, defect := 0, items := [(128, 0), (32, 0), (97, 0), (45, 0)] }
def rowE2 : RowD := { level := 0, kind := 5, fin := 0, defect := 0, items := [(98, 0)] }
theorem words_1 : wordsP (fontE 96) [rowE1, rowE2] = ([[102, 105], [97, 98]], 0) := by decide +kernel
theorem text_1 : textV (fontE 96) [rowE1, rowE2] = ([102, 105, 32, 97, 98], 0) := by decide +kernel
theorem words_2 : wordsP fontZ [rowE1, rowE2] = ([], 70) := by decide +kernel
theorem words_3 : wordsP (fontE 96) [rowE1] = ([], 230) := by decide +kernel
theorem text_2 : textV (fontE 96) [] = ([], 230) := by decide +kernel
theorem chars_next (k : Nat) : charsE (k + 1) = charsE k ++ [charE k] := by unfold charsE; rw [List.range_succ, List.map_append]; rfl
theorem chars_len (k : Nat) : (charsE k).length = k := by unfold charsE; simp
theorem row_nil {α : Type} (R : Rep α) (w : World) (B : Nat) (A : Option Addr) : Row R w B A [] := fun i x hx => by simp at hx
theorem zero_in (w : World) (B : Nat) : FontIn w B fontZ fontAZ :=
  ⟨by decide, by decide, by decide, row_nil _ _ _ _, row_nil _ _ _ _, row_nil _ _ _ _, row_nil _ _ _ _, row_nil _ _ _ _, row_nil _ _ _ _, row_nil _ _ _ _, row_nil _ _ _ _, by decide, by decide, by decide, by decide, by decide, by decide, by decide, by decide⟩
end Go.Proofs.Ytbkfofmanpjbfaa.Bk
