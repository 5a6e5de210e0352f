/- Regions that draw their order, operation by operation, where all but the calls only read. -/
import Derived.Test.YtndpdbofoojkhaaGreatKit
import Derived.Deep.RegionHeld3
import Derived.BigQuiet
namespace Go.Proofs.YtndpdbofoojkhaaGreat.Kit
open Go.RowKit
set_option linter.unusedVariables false
set_option linter.unusedSimpArgs false

section
variable {P : Program} {ops : Array Oper} {Q : Exit → Act → World → Prop} {md : Region.Mode} {S : World → Prop}
/-- An operation that may come up is taken; the frame behind it is written out. -/
theorem take_at {i : Nat} {oi : Oper} {v : Value} {d : Option Tmp} {a a' : Act} {fuel : Nat} {listed l' : Array Bool} {w : World} (hi : ops[i]? = some oi) (hd : oi.dst = d)
    (hs : Region.noSelect ops = true) (hf : Region.free md ops listed i = true) (hr : (Region.ready md ops listed).contains i = true)
    (hQ : ∀ c a w, Q (.panic c) (a.put d v) w → Q (.panic c) a w) (hl : listed.setIfInBounds i true = l') (hS : S w)
    (hy : YieldsIf P ops S oi v a) (ha : a.put d v = a') (h : wpAnyH P md ops Q S fuel l' a' w) : wpAnyH P md ops Q S (fuel + 1) listed a w := by
  subst hd; subst ha; subst hl
  exact wpAnyH_take hi hs hf hr hQ hy hS h
/-- A call is met by its contract; behind it S is shown anew. -/
theorem call_at {i : Nat} {oi : Oper} {a : Act} {fuel : Nat} {listed l' : Array Bool} {w : World} (hi : ops[i]? = some oi) (hr : Region.ready md ops listed = [i]) (hl : listed.setIfInBounds i true = l')
    (h : ∀ K' : Act → World → Prop, Shut (∀ a w, S w → (S w → wpAnyH P md ops Q S fuel l' a w) → K' a w) → if Region.wanted oi (yielded ops a.tmps) = true then Oper.wp P oi a w K' Q else K' (a.put oi.dst undef) w) : wpAnyH P md ops Q S (fuel + 1) listed a w := by
  subst hl
  exact wpAnyH_ready hr (by simp) (AllReadyH.cons hi h AllReadyH.nil)
/-- Two calls may come up: each way round. -/
theorem call2_at {i j : Nat} {oi oj : Oper} {a : Act} {fuel : Nat} {listed l1 l2 : Array Bool} {w : World} (hi : ops[i]? = some oi) (hj : ops[j]? = some oj) (hr : Region.ready md ops listed = [i, j]) (hl1 : listed.setIfInBounds i true = l1) (hl2 : listed.setIfInBounds j true = l2)
    (h1 : ∀ K' : Act → World → Prop, Shut (∀ a w, S w → (S w → wpAnyH P md ops Q S fuel l1 a w) → K' a w) → if Region.wanted oi (yielded ops a.tmps) = true then Oper.wp P oi a w K' Q else K' (a.put oi.dst undef) w)
    (h2 : ∀ K' : Act → World → Prop, Shut (∀ a w, S w → (S w → wpAnyH P md ops Q S fuel l2 a w) → K' a w) → if Region.wanted oj (yielded ops a.tmps) = true then Oper.wp P oj a w K' Q else K' (a.put oj.dst undef) w) : wpAnyH P md ops Q S (fuel + 1) listed a w := by
  subst hl1; subst hl2
  exact wpAnyH_ready hr (by simp) (AllReadyH.cons hi h1 (AllReadyH.cons hj h2 AllReadyH.nil))
end
end Go.Proofs.YtndpdbofoojkhaaGreat.Kit
