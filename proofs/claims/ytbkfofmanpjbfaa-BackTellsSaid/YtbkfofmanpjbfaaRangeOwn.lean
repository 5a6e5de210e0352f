/- A range over a function whose iterator makes memory of its own and whose body always goes on. -/
import Derived.Test.YtbkfofmanpjbfaaKit
import Derived.RangeFuncNested
import Derived.RangeFuncBound
namespace Go.Proofs.Ytbkfofmanpjbfaa.Kit
open Go.RowKit
set_option linter.unusedVariables false
set_option linter.unusedSimpArgs false

/-- What holds goes on holding while new memory is made. -/
def Lasts {β : Type} (J : β → World → Prop) : Prop := ∀ s A B, J s A → Below A.heap.size A B → J s B
/-- .. and while a loop's own record is turned. -/
def Settles {β : Type} (n₀ : Nat) (J : β → World → Prop) : Prop := ∀ s A (l : Nat) (o o' : Obj), J s A → n₀ ≤ l → A.heap[l]? = some o → o.isCells = false → J s (A.putObj l o')
/-- An iterator that makes memory of its own, tells a fact of each element, and comes to its end. -/
def GivesAll {α : Type} (F : Fence) (n : Nat) (P : Program) (g : Nat) (lb : Array Value) (encs : α → Array Value) (Kp : World → World → Prop) (Fact : α → World → Prop) (S : List α → Prop) (N : Nat) (w : World) : Prop :=
  ∀ (l : Nat) (J : List α → World → Prop) (W : World), Below w.heap.size w W → Lasts J →
    (∀ pre x W1, J pre W1 → Fact x W1 → pre.length < N → YieldAt F (n - 1) P l (encs x) W1 fun e W' => e = .returned (.bool true) ∧ J (pre ++ [x]) W' ∧ Kp W1 W') →
    J [] W → CallsIn F n P g (#[.func (.yield l) #[] #[]] ++ lb) W fun e W' => (∃ v, e = .returned v) ∧ ∃ xs, S xs ∧ J xs W'
/-- What the body has to leave: it goes on, and keeps what is to be kept. -/
def goesOn {α : Type} (n₀ : Nat) (Kp : World → World → Prop) (I : List α → World → Prop) (xs : List α) (W : World) : Exit → Act → World → Prop
  | .normal, _, W' => KeepsFrom n₀ W W' ∧ Kp W W' ∧ I xs W'
  | _, _, _ => False
theorem below_obj {A B : World} {k : Nat} {o : Obj} (h : A.heap[k]? = some o) (hb : Below A.heap.size A B) : B.heap[k]? = some o := (hb.block k (Array.getElem?_eq_some_iff.1 h).1).trans h

variable {F : Fence} {n : Nat} {P : Program} {w : World}
theorem wpIn_range_all {α : Type} {g : Operand} {ps : Array Tmp} {assign body : Code} {Q : Exit → Act → World → Prop} {a : Act} (hro : F.round = none) (h1 : 1 ≤ n) {gf : Nat} {lb : Array Value} (hg : a.eval g = .func (.func gf) #[] lb) (hFg : F.fn gf)
    (eg : ∀ args w, (callFunc gf args).run P w = .ok (.enter gf args) w) {encs : α → Array Value} {Kp : World → World → Prop} {Fact : α → World → Prop} {S : List α → Prop} {N : Nat} {w0 : World} (hseq : GivesAll F (n - 1) P gf lb encs Kp Fact S N w0)
    (hKt : ∀ {A B C : World}, Kp A B → Kp B C → Kp A C) (hKb : ∀ (W : World) (l : Nat) (o o' : Obj), w.heap.size ≤ l → W.heap[l]? = some o → o.isCells = false → Kp W (W.putObj l o')) (hb0 : Below w0.heap.size w0 w) (hps : ∀ x, (encs x).size = ps.size)
    (I : List α → World → Prop) (hIl : Lasts I) (hIs : Settles w.heap.size I) (hFs : Settles w.heap.size Fact) (h0 : I [] w) (asg : α → Act)
    (hassign : ∀ (l : Nat) (x : α) (W : World) (K : Act → World → Prop), K (asg x) W → assign.wpIn (F.inRound l) (n - 1 - 1) P (Exit.then K (fun _ _ _ => False)) { tmps := (ps.zip (encs x)).foldl (fun t (p, v) => t.setIfInBounds p v) a.tmps, defers := [] } W)
    (hbody : ∀ (l : Nat) (pre : List α) (x : α) (W : World), w.heap.size ≤ l → I pre W → Fact x W → pre.length < N → body.wpIn (F.inRound l) (n - 1 - 1) P (goesOn w.heap.size Kp I (pre ++ [x]) W) (asg x) W)
    (hdone : ∀ (D : Nat) (xs : List α) (W : World), w.heap.size ≤ D → S xs → I xs W → W.heap[D]? = some (.deferred (some [])) → Q .normal { a with defers := { target := .collected D, args := #[] } :: a.defers } W) :
    (Code.rangeFunc g ps assign body).wpIn F n P Q a w := by
  refine wpIn_rangeFunc fun fn hfn => ?_
  rw [hro]
  obtain ⟨r0, hr0⟩ : ∃ r0 : Loop, r0 = { state := .ready, pending := none, fn, tmps := a.tmps, params := ps, assign, body, defers := w.heap.size } := ⟨_, rfl⟩
  have hrun := run_enterLoop_outer (P := P) (w := w) fn a.tmps ps assign body
  rw [← hr0] at hrun
  obtain ⟨l, hl⟩ : ∃ l, w.heap.size + 1 = l := ⟨_, rfl⟩
  rw [hl] at hrun
  obtain ⟨W1, hW1⟩ : ∃ W1, (w.alloc (.deferred (some []))).alloc (.loop r0) = W1 := ⟨_, rfl⟩
  have hbW : Below w.heap.size w W1 := by rw [← hW1]; exact ((Below.refl _ w).alloc (Nat.le_refl _) _).alloc (by simp) _
  have hL1 : W1.heap[l]? = some (.loop r0) := by
    have := World.alloc_heap_new (w.alloc (.deferred (some []))) (.loop r0)
    rw [World.size_alloc, hl, hW1] at this
    exact this
  have hK1 : W1.heap[w.heap.size]? = some (.deferred (some [])) := by
    rw [← hW1]; exact (Below.heap_alloc _ _ _ (by simp)).trans (World.alloc_heap_new w _)
  rw [hW1] at hrun
  refine ⟨l, [{ target := .collected w.heap.size, args := #[] }], W1, { target := .fn (.func gf) lb, args := #[.func (.yield l) #[] #[]] }, W1, gf, #[.func (.yield l) #[] #[]] ++ lb, W1, hrun, ?_, ?_, ?_, fun _ => h1, ?_⟩
  · simp only [resolve, hg]
    simp [go_sem]
  · intro f' hf'
    simp [Target.leads] at hf'
    subst hf'; exact hFg
  · simp [invoke, go_sem, eg]
  obtain ⟨J, hJ⟩ : ∃ J : List α → World → Prop, J = fun pre W => I pre W ∧ W.heap[l]? = some (.loop r0) ∧ W.heap[w.heap.size]? = some (.deferred (some [])) := ⟨_, rfl⟩
  have hJl : Lasts J := by
    subst hJ
    rintro s A B ⟨h2, h3, h4⟩ hb
    exact ⟨hIl s A B h2 hb, below_obj h3 hb, below_obj h4 hb⟩
  refine (hseq l J W1 (hb0.trans (hbW.mono hb0.size)) hJl ?_ ?_).mono ?_
  · rintro pre x W hj hx hlen
    rw [hJ] at hj
    obtain ⟨hi, hlp, hkp⟩ := hj
    have hlt : l < W.heap.size := (Array.getElem?_eq_some_iff.1 hlp).1
    have hy := run_yield (P := P) (args := encs x) hlp (by rw [hr0]; exact hps x)
    have er : r0.fn = fn ∧ r0.tmps = a.tmps ∧ r0.assign = assign ∧ r0.body = body ∧ r0.params = ps ∧ r0.state = .ready ∧ r0.pending = none := by rw [hr0]; exact ⟨rfl, rfl, rfl, rfl, rfl, rfl, rfl⟩
    obtain ⟨er1, er2, er3, er4, er5, er6, er7⟩ := er
    rw [er1, er2, er3, er4, er5] at hy
    refine ⟨fn, _, assign, body, hy, roundIn_of_wpIn hfn (hassign l x W _ ⟨_, run_beginRound hlp er6, ?_⟩)⟩
    obtain ⟨rb, hrb⟩ : ∃ rb : Loop, rb = { r0 with state := .busy } := ⟨_, rfl⟩
    rw [← hrb]
    have hl2 : (W.putObj l (.loop rb)).heap[l]? = some (.loop rb) := World.putObj_heap_same hlt
    have hk2 : (W.putObj l (.loop rb)).heap[w.heap.size]? = some (.deferred (some [])) := (World.putObj_heap_other (by omega)).trans hkp
    have hp2 : Kp W (W.putObj l (.loop rb)) := hKb W l _ _ (by omega) hlp rfl
    refine wpIn_mono (hbody l pre x _ (by omega) (hIs pre W l _ _ hi (by omega) hlp rfl) (hFs x W l _ _ hx (by omega) hlp rfl) hlen) ?_
    rintro e a3 W3 hp
    cases e with
    | normal =>
      obtain ⟨hk3, hkp3, hi3⟩ := hp
      have hl3 := hk3.same l _ (by omega) hl2 rfl
      have hd3 := hk3.same w.heap.size _ (Nat.le_refl _) hk2 rfl
      have he := run_endRound (P := P) none hl3
      have hrr : ({ rb with state := (if (none : Option Code).isNone then .ready else .done), pending := none } : Loop) = r0 := by
        rw [hrb, hr0]; rfl
      rw [hrr] at he
      have hlt3 : l < W3.heap.size := (Array.getElem?_eq_some_iff.1 hl3).1
      refine ⟨_, _, he, rfl, ?_, hKt hp2 (hKt hkp3 (hKb W3 l _ _ (by omega) hl3 rfl))⟩
      rw [hJ]
      exact ⟨hIs _ W3 l _ _ hi3 (by omega) hl3 rfl, World.putObj_heap_same hlt3, (World.putObj_heap_other (by omega)).trans hd3⟩
    | ret => exact hp.elim
    | exit id => exact hp.elim
    | goto t => exact hp.elim
    | panic ch => exact hp.elim
    | outgrown => exact hp.elim
  · rw [hJ]
    exact ⟨hIl _ _ _ h0 hbW, hL1, hK1⟩
  · rintro e W2 ⟨⟨v, rfl⟩, xs, hS, hj⟩
    rw [hJ] at hj
    obtain ⟨hi, hlp, hkp⟩ := hj
    have he := run_endLoop (P := P) hlp (by rw [hr0]; simp)
    have ep : r0.pending = none := by rw [hr0]
    rw [ep] at he
    exact ⟨none, _, he, hdone _ xs _ (Nat.le_refl _) hS (hIs _ W2 l _ _ hi (by omega) hlp rfl) ((World.putObj_heap_other (by omega)).trans hkp)⟩
end Go.Proofs.Ytbkfofmanpjbfaa.Kit
