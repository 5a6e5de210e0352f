/- An array of 256 false ones, by a name (a small dump's loader gives none). -/
import Derived.Test.YtbkfofmanpjbfaaKit
namespace Go.Proofs
set_option linter.unusedVariables false
def Try.zeroCells86 : Array Value := (List.replicate 256 (Value.bool false)).toArray
theorem Try.zeroValue86 (w : World) : (zeroValue 86).run Try.prog w = .ok (.agg Try.zeroCells86) w := by kernel_rfl
theorem Try.zeroCells86_size : Try.zeroCells86.size = 256 := by kernel_rfl
theorem Try.zeroCells86_ne : ¬ Try.zeroCells86 = #[] := fun h => by have := congrArg Array.size h; rw [Try.zeroCells86_size] at this; cases this
end Go.Proofs
