/- The statement BackTells: for every input the call returns true, and each argument reads behind it as it did. -/
import Derived.Test.YtbkfofmanpjbfaaRows
import Derived.Test.YtbkfofmanpjbfaaBack21
import Derived.Test.YtbkfofmanpjbfaaKit
import Derived.WalkKit
import Derived.ProofKit
import Derived.OpenShut
import Derived.ShutString
import Derived.ChangeOld
import Derived.Below
namespace Go.Proofs.Ytbkfofmanpjbfaa.backTells
open Go.ChangeShapes Go.WideShapes Go.ChangeAt Go.RowKit Go.Proofs.Ytbkfofmanpjbfaa.Kit
open Go.ChangeMaps (open_string shut_string)
set_option linter.unusedVariables false
theorem own : ownKnob Try.prog.godebug = none := by kernel_rfl
theorem laidOut : laidOutB Try.prog = true := by kernel_rfl
set_option maxRecDepth 100000 in
theorem lifted (os : Os) (started : os.Started) (H : Type) (enc : TypeId × Value → H) :
    ReturnsInHanded {} Try.checked os 3 .any (Rows.backTellsSpec.pre6 enc Try.prog Try.f3 Rows.backTellsRow.domain false) (Rows.backTellsSpec.post enc Try.prog Try.f3 false true false false) := by
  refine returnsInHanded_of_change (C := Try.checked) own started (by kernel_rfl) Try.func3
    (ChangeSpec.witness6 (enc := enc) (C := Try.checked) false ⟨#[], #[.agg #[.int .i64 0, .int .i64 0, .int .i64 0, .slice none 0 0, .slice none 0 0, .slice none 0 0, .slice none 0 0, .slice none 0 0, .slice none 0 0, .slice none 0 0, .slice none 0 0], .slice none 0 0], []⟩ 8 (by kernel_rfl) (by kernel_rfl) (by kernel_rfl) (by kernel_rfl)) ?_
  intro W base args ds gs before hval0 hW hcnd _
  have hval : ∀ (j : Nat) t v, Try.f3.params[j]? = some t → args[j]? = some v → Value.okWide Try.prog W .any base t v := hval0
  have hW' := hW
  obtain ⟨p, q, hA0, hV, rfl, hfz, hnd⟩ := hW
  have hA : DataW.TrodAll enc Try.prog W 0 (fun _ => true) true Try.f3.params.toList args.toList ds p := hA0
  rw [Try.params3] at hA hval
  obtain ⟨v0, vs0, d0, ds0, p0, q0, hargs, rfl, rfl, h0, r0⟩ := trodAll_cons hA
  obtain ⟨v1, vs1, d1, ds1, p1, q1, rfl, rfl, rfl, h1, r1⟩ := trodAll_cons r0
  obtain ⟨rfl, rfl, rfl⟩ := trodAll_nil r1
  obtain rfl : args = #[v0, v1] := by cases args; simp_all
  obtain ⟨rfl, rfl⟩ := trodVars_none hV
  have k0 := h0
  have lt0 : ∀ x ∈ p0, x.block < W.heap.size := by obtain ⟨m, hm⟩ := k0; exact DataW.trod_lt m _ _ _ hm
  obtain ⟨c0, rfl, _⟩ := okWide_struct Try.underlying26 (hval 0 26 v0 rfl rfl)
  obtain ⟨x0, w0⟩ : ∃ x, ((Rep.seq (Rep.int .i64) (Rep.seq (Rep.int .i64) (Rep.seq (Rep.int .i64) (Rep.seq (Rep.slice (Rep.seq (Rep.int .i64) (Rep.seq (Rep.int .i64) (Rep.seq (Rep.int .i64) (Rep.seq (Rep.int .i64) (Rep.seq (Rep.int .i64) (Rep.int .i64))))))) (Rep.seq (Rep.slice (Rep.int .i64)) (Rep.seq (Rep.slice (Rep.int .i64)) (Rep.seq (Rep.slice (Rep.int .i64)) (Rep.seq (Rep.slice (Rep.int .i64)) (Rep.seq (Rep.slice (Rep.seq (Rep.int .i64) (Rep.seq (Rep.int .i64) (Rep.seq (Rep.int .i64) (Rep.int .i64))))) (Rep.seq (Rep.slice (Rep.int .i64)) (Rep.slice (Rep.int .i64))))))))))))).K W W.heap.size c0.toList x := by
    obtain ⟨fuel, hf⟩ := k0
    exact (Opens.struct Try.underlying26 (by kernel_rfl) (OpensFs.cons rfl (Opens.int Try.underlying3 (by kernel_rfl)) (OpensFs.cons rfl (Opens.int Try.underlying3 (by kernel_rfl)) (OpensFs.cons rfl (Opens.int Try.underlying3 (by kernel_rfl)) (OpensFs.cons rfl (Opens.slice Try.underlying22 (by kernel_rfl) (by decide) (Opens.struct Try.underlying70 (by kernel_rfl) (OpensFs.cons rfl (Opens.int Try.underlying3 (by kernel_rfl)) (OpensFs.cons rfl (Opens.int Try.underlying3 (by kernel_rfl)) (OpensFs.cons rfl (Opens.int Try.underlying3 (by kernel_rfl)) (OpensFs.cons rfl (Opens.int Try.underlying3 (by kernel_rfl)) (OpensFs.cons rfl (Opens.int Try.underlying3 (by kernel_rfl)) (OpensFs.one rfl (Opens.int Try.underlying3 (by kernel_rfl)))))))))) (OpensFs.cons rfl (Opens.slice Try.underlying23 (by kernel_rfl) (by decide) (Opens.int Try.underlying3 (by kernel_rfl))) (OpensFs.cons rfl (Opens.slice Try.underlying23 (by kernel_rfl) (by decide) (Opens.int Try.underlying3 (by kernel_rfl))) (OpensFs.cons rfl (Opens.slice Try.underlying23 (by kernel_rfl) (by decide) (Opens.int Try.underlying3 (by kernel_rfl))) (OpensFs.cons rfl (Opens.slice Try.underlying23 (by kernel_rfl) (by decide) (Opens.int Try.underlying3 (by kernel_rfl))) (OpensFs.cons rfl (Opens.slice Try.underlying24 (by kernel_rfl) (by decide) (Opens.struct Try.underlying68 (by kernel_rfl) (OpensFs.cons rfl (Opens.int Try.underlying3 (by kernel_rfl)) (OpensFs.cons rfl (Opens.int Try.underlying3 (by kernel_rfl)) (OpensFs.cons rfl (Opens.int Try.underlying3 (by kernel_rfl)) (OpensFs.one rfl (Opens.int Try.underlying3 (by kernel_rfl)))))))) (OpensFs.cons rfl (Opens.slice Try.underlying23 (by kernel_rfl) (by decide) (Opens.int Try.underlying3 (by kernel_rfl))) (OpensFs.one rfl (Opens.slice Try.underlying23 (by kernel_rfl) (by decide) (Opens.int Try.underlying3 (by kernel_rfl))))))))))))))).2 enc W fuel _ _ hf
  have k1 := h1
  have lt1 : ∀ x ∈ p1, x.block < W.heap.size := by obtain ⟨m, hm⟩ := k1; exact DataW.trod_lt m _ _ _ hm
  obtain ⟨A1, n1, c1, rfl⟩ := okWide_slice Try.underlying27 (hval 1 27 v1 rfl rfl)
  obtain ⟨x1, w1⟩ : ∃ x, ((Rep.slice (Rep.seq (Rep.int .i64) (Rep.seq (Rep.int .i64) (Rep.seq (Rep.int .i64) (Rep.seq (Rep.int .i64) (Rep.slice (Rep.seq (Rep.int .i64) (Rep.int .i64))))))))).K W W.heap.size [.slice A1 n1 c1] x := by
    obtain ⟨fuel, hf⟩ := k1
    exact (Opens.slice Try.underlying27 (by kernel_rfl) (by decide) (Opens.struct Try.underlying42 (by kernel_rfl) (OpensFs.cons rfl (Opens.int Try.underlying3 (by kernel_rfl)) (OpensFs.cons rfl (Opens.int Try.underlying3 (by kernel_rfl)) (OpensFs.cons rfl (Opens.int Try.underlying3 (by kernel_rfl)) (OpensFs.cons rfl (Opens.int Try.underlying3 (by kernel_rfl)) (OpensFs.one rfl (Opens.slice Try.underlying40 (by kernel_rfl) (by decide) (Opens.struct Try.underlying44 (by kernel_rfl) (OpensFs.cons rfl (Opens.int Try.underlying3 (by kernel_rfl)) (OpensFs.one rfl (Opens.int Try.underlying3 (by kernel_rfl))))))))))))).2 enc W fuel _ _ hf
  clear hA0 hval0
  refine (Bk.tells_walk c0 x0 A1 n1 c1 x1 W w0 w1).mono fun e W' ⟨he, bel⟩ => ?_
  subst he
  exact ⟨_, rfl, _, _, _, [], _, [], hW', trodAll_mk1 (shut_bool Try.underlying4 _), (trodAll_cons_mk (Below.trod laidOut (by kernel_rfl) (of_decide_eq_true (by kernel_rfl)) k0 bel lt0) (trodAll_cons_mk (Below.trod laidOut (by kernel_rfl) (of_decide_eq_true (by kernel_rfl)) k1 bel lt1) trodAll_mk0)), rfl, bel.frame _, fun h => by cases h⟩
theorem over : Rows.backTellsRow.holds Try.pinned (OpenSpec.ofChange Rows.backTellsSpec) :=
  OpenClaim.holds_of_wide 3 Try.f3 rfl rfl rfl rfl rfl rfl rfl ⟨rfl, rfl, rfl, rfl, rfl⟩ rfl rfl rfl rfl rfl (by kernel_rfl) Try.func3 (by kernel_rfl)
    (of_decide_eq_true (by kernel_rfl)) (by unfold Func.isWrapper; first | (rw [if_pos (by decide +kernel)]; kernel_rfl) | (rw [if_neg (by decide +kernel)]; exact ⟨rfl, rfl⟩))
    (fun os started H enc _ => lifted os started H enc)
theorem proved : Rows.BackTellsSaid := over
#print axioms proved
end Go.Proofs.Ytbkfofmanpjbfaa.backTells
namespace Go.Proofs.Ytbkfofmanpjbfaa
/-- The statement. -/
theorem backTells_holds : Rows.BackTellsSaid := backTells.proved
end Go.Proofs.Ytbkfofmanpjbfaa
