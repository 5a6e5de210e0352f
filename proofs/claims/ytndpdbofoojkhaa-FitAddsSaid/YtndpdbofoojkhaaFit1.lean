/- Whether numbers are from one to another one (param.to); small functions of fit. -/
import Derived.Test.YtndpdbofoojkhaaFont1
namespace Go.Proofs.Ytndpdbofoojkhaa.Ft
open Go.RowKit Go.Proofs.Ytndpdbofoojkhaa.Kit Go.Proofs.Ytndpdbofoojkhaa.Fo
set_option linter.unusedVariables false
set_option linter.unusedSimpArgs false

def outB (least most n : Int) : Bool := decide (n < least) || decide (most < n)
theorem out1_any (n least most : Int) (g : Nat) (w : World) (h0 : Box w g #[.int .i64 least] 3) (h1 : Box w (g + 1) #[.int .i64 most] 3) :
    Calls Try.prog 52 #[.int .i64 n, .pointer (some ⟨g, 0, none⟩), .pointer (some ⟨g + 1, 0, none⟩)] w fun e w' => e = .returned (.bool (outB least most n)) ∧ Below w.heap.size w w' := by
  have c0 := h0.cell 0 rfl
  have c1 := h1.cell 0 rfl
  obtain ⟨q, hq⟩ : ∃ q, Hid (outB least most n = q) := ⟨_, Lib.hid rfl⟩
  rw [hq.out]
  by_cases h : n < least
  · have F1 : (n < least) = True := eq_true h
    have HV : Hid (true = q) := Lib.hid (by rw [← hq.out, outB, decide_eq_true h]; rfl)
    clear hq h
    go_enter Try.func52, Try.ntmps52
    go_wp2_with fail
    go_ret
    exact ⟨ret_bool rfl HV.out, Below.refl _ _⟩
  · have F1 : (n < least) = False := eq_false h
    by_cases h2 : most < n
    · have F2 : (most < n) = True := eq_true h2
      have HV : Hid (true = q) := Lib.hid (by rw [← hq.out, outB, decide_eq_true h2]; simp)
      clear hq h h2
      go_enter Try.func52, Try.ntmps52
      go_wp2_with fail
      go_ret
      exact ⟨ret_bool rfl HV.out, Below.refl _ _⟩
    · have F2 : (most < n) = False := eq_false h2
      have HV : Hid (false = q) := Lib.hid (by rw [← hq.out, outB, decide_eq_false h, decide_eq_false h2]; rfl)
      clear hq h h2
      go_enter Try.func52, Try.ntmps52
      go_wp2_with fail
      go_ret
      exact ⟨ret_bool rfl HV.out, Below.refl _ _⟩
theorem pto_any (least most : Int) (A : Option Addr) (c : Nat) (l : List Int) (w : World) {B : Nat} (hB : B ≤ w.heap.size) (hx : Row (Rep.int .i64) w B A l) (hl : l.length ≤ 9223372036854775807) :
    Calls Try.prog 34 #[.int .i64 least, .int .i64 most, .slice A l.length c] w fun e w' => e = .returned (.bool (!(l.any (outB least most)))) ∧ Below w.heap.size w w' := by
  have b0 := (Box.new w #[.int .i64 least] 3).alloc (.cells #[.int .i64 most] 3)
  have b1 := Box.new (w.alloc (.cells #[.int .i64 least] 3)) #[.int .i64 most] 3
  have hbw := below_alloc (below_alloc (Below.refl w.heap.size w) (.cells #[.int .i64 least] 3)) (.cells #[.int .i64 most] 3)
  simp only [World.size_alloc] at b1
  have e1 : ∀ args w, (callFunc 52 args).run Try.prog w = .ok (.enter 52 args) w := enters_of Try.func52 (by kernel_rfl) rfl
  have HC := Lib.hid (contains_any _ #[.pointer (some ⟨w.heap.size, 0, none⟩), .pointer (some ⟨w.heap.size + 1, 0, none⟩)] (outB least most) e1 A c l _ (by have := hbw.size; omega) (hx.mono (hbw.mono hB)) hl (fun V x hb => out1_any x least most w.heap.size V (b0.below hb) (b1.below hb)))
  have hmf : ∀ fn first cap w, (Instr.makeFunc fn first cap).run Try.prog w = .ok (.func fn first cap) w := fun _ _ _ _ => rfl
  generalize l.any (outB least most) = q at *
  clear e1 hx b0 b1
  go_enter Try.func34, Try.ntmps34
  go_wp2_with fail
  refine HC.out.mono ?_
  rintro e w2 ⟨rfl, hb⟩
  go_wp2_with fail
  go_ret
  exact ⟨rfl, below_join hbw hb⟩
theorem ints_box {k : IntKind} {w : World} {g : Nat} {cs : Array Value} {t : TypeId} (xs : List Int) (h : Box w g cs t) (hw : ∀ x ∈ xs, (Lit.int k x).wf = true) (hc : cs = (xs.map fun x => Value.int k x).toArray) : Row (Rep.int k) w w.heap.size (some ⟨g, 0, none⟩) xs := by
  intro i x hx
  refine ⟨g, 0, [.int k x], rfl, h.lt, ⟨rfl, hw x (List.mem_of_getElem? hx)⟩, fun j v hv => ?_⟩
  obtain ⟨hj, rfl⟩ := List.getElem?_eq_some_iff.1 hv
  have hj0 : j = 0 := by simp at hj; exact hj
  subst hj0
  refine h.cell _ ?_
  subst hc
  simp [show (Rep.int k).n = 1 from rfl, hx]
/-- param.to at numbers that were put into a new block. -/
theorem pto_box (least most : Int) (xs : List Int) {g c : Nat} {t : TypeId} {V : World} (hb : Box V g (xs.map fun x => Value.int .i64 x).toArray t) (hw : ∀ x ∈ xs, (Lit.int .i64 x).wf = true) (hl : xs.length ≤ 100) :
    Calls Try.prog 34 #[.int .i64 least, .int .i64 most, .slice (some ⟨g, 0, none⟩) xs.length c] V fun e w' => e = .returned (.bool (!(xs.any (outB least most)))) ∧ Below V.heap.size V w' :=
  pto_any least most _ c xs V (Nat.le_refl _) (ints_box xs hb hw rfl) (by omega)
/-- A layout, and whether it may be. -/
structure LayD where
  width : Int
  space : Int
  stretch : Int
  shrink : Int
  shape : List (Int × Int)
  hang : Int
  after : Int
  left : Int
  right : Int
  first : Int
  second : Int
  extra : Int
  linePen : Int
  hyphPen : Int
  dashPen : Int
  jump : Int
  double : Int
  final : Int
  river : Int
  ladder : Int
  loose : Int
abbrev layCells (l : LayD) (A : Option Addr) (c : Nat) : Array Value := #[.int .i64 l.width, .int .i64 l.space, .int .i64 l.stretch, .int .i64 l.shrink, .slice A l.shape.length c, .int .i64 l.hang, .int .i64 l.after, .int .i64 l.left, .int .i64 l.right, .int .i64 l.first, .int .i64 l.second, .int .i64 l.extra, .int .i64 l.linePen, .int .i64 l.hyphPen, .int .i64 l.dashPen, .int .i64 l.jump, .int .i64 l.double, .int .i64 l.final, .int .i64 l.river, .int .i64 l.ladder, .int .i64 l.loose]
def inB (least most : Int) (xs : List Int) : Bool := !(xs.any (outB least most))
def layB (l : LayD) : Bool :=
  inB 1 67108864 [l.width] && inB 0 4194304 [l.space, l.stretch, l.shrink] && decide (l.shape.length ≤ 40) &&
  inB (1 - l.width) (l.width - 1) [l.hang] && inB (-100) 100 [l.after] && inB 0 40 [l.left, l.right] &&
  inB (-1) 10000 [l.first] && inB 0 10000 [l.second] && inB 0 67108864 [l.extra] &&
  inB 0 1000 [l.linePen] && inB (-1000) 1000 [l.hyphPen, l.dashPen] && inB (-5) 5 [l.loose] &&
  inB 0 10000 [l.jump, l.double, l.final, l.river, l.ladder] &&
  l.shape.all fun x => inB 0 67108864 [x.1] && inB 1 67108864 [x.2]
theorem flag_any (b : Bool) (w : World) : Calls Try.prog 43 #[.bool b] w fun e w' => e = .returned (.int .i64 (if b then 1 else 0)) ∧ w = w' := by
  cases b
  all_goals
    go_enter Try.func43, Try.ntmps43
    go_wp2_with fail
    go_ret
    exact ⟨rfl, rfl⟩
theorem none_any (A : Option Addr) (n c : Nat) (w : World) : Calls Try.prog 44 #[.slice A n c] w fun e w' => e = .returned (.bool ((n : Int) == 0)) ∧ w = w' := by
  go_enter Try.func44, Try.ntmps44
  go_wp2_with fail
  go_ret
  exact ⟨ret_bool rfl (by simp), rfl⟩
end Go.Proofs.Ytndpdbofoojkhaa.Ft
