/- joined for a claim: Fit25P, Fit25, Fit26 -/
import Derived.Test.YtndpdbofoojkhaaGreatFit21
import Derived.Test.YtndpdbofoojkhaaGreatFit23
import Derived.Test.YtndpdbofoojkhaaGreatFit17
import Derived.Test.YtndpdbofoojkhaaGreatFit24
import Derived.Deep.WholeRow
/- What the statements' own calls answer, reckoned. -/
namespace Go.Proofs.YtndpdbofoojkhaaGreat.Ft
open Go.RowKit Go.Proofs.YtndpdbofoojkhaaGreat.Kit Go.Proofs.YtndpdbofoojkhaaGreat.Fo Go.Proofs.YtndpdbofoojkhaaGreat.Lv Go.Proofs.YtndpdbofoojkhaaGreat.Bad
set_option linter.unusedVariables false
set_option linter.unusedSimpArgs false

def faceE : FaceD := { font := fontE 96, size := 65536, step := 0, up := 0, down := 0, traits := [] }
def faceEA (a : FontA) : FaceA := { font := a, t := none, ct := 0 }
def faceZ : FaceD := { font := fontZ, size := 0, step := 0, up := 0, down := 0, traits := [] }
def faceAZ : FaceA := { font := fontAZ, t := none, ct := 0 }
def layT : LayD := { width := 1, space := 10, stretch := 4, shrink := 2, shape := [], hang := 0, after := 0, left := 0, right := 0, first := 0, second := 0, extra := 0, linePen := 0, hyphPen := 0, dashPen := 0, jump := 0, double := 0, final := 0, river := 0, ladder := 0, loose := 0 }
def layZ : LayD := { width := 0, space := 0, stretch := 0, shrink := 0, shape := [], hang := 0, after := 0, left := 0, right := 0, first := 0, second := 0, extra := 0, linePen := 0, hyphPen := 0, dashPen := 0, jump := 0, double := 0, final := 0, river := 0, ladder := 0, loose := 0 }
theorem face_e : faceB faceE = true := by decide +kernel
theorem face_z : faceB faceZ = false := by decide +kernel
theorem small_e : SmallF faceE := ⟨by decide +kernel, by decide +kernel, by decide +kernel, six (by decide) (by decide) (by decide) (by decide) (by decide) (by decide)⟩
theorem small_z : SmallF faceZ := ⟨by decide, by decide, by decide, six (by decide) (by decide) (by decide) (by decide) (by decide) (by decide)⟩
theorem gly_1 : allE (fontE 96) [[102, 105], [97]] = 0 ∧ allG (fontE 96) [[102, 105], [97]] = [[(128, 0)], [(97, 0)]] := by decide +kernel
theorem wide_1 : wideS faceE 7 [[(128, 0)], [(97, 0)]] 0 = 131079 := by decide +kernel
theorem line_xE : lineE faceE layT [[97], [98]] 131086 0 = 0 := by decide +kernel
theorem line_x : (lineF faceE layT [[97], [98]] 131086 false 0).nat = 131082 ∧ (lineF faceE layT [[97], [98]] 131086 false 0).bad = 100 ∧ (lineF faceE layT [[97], [98]] 131086 false 0).cls = 3 ∧ (lineF faceE layT [[97], [98]] 131086 false 0).unset = false := by decide +kernel
theorem line_yE : lineE faceE layT [[97], [98]] 131079 0 = 0 := by decide +kernel
theorem line_y : (lineF faceE layT [[97], [98]] 131079 false 0).unset = true ∧ (lineF faceE layT [[97], [98]] 131079 false 0).defect = -1 ∧ (lineF faceE layT [[97], [98]] 131079 false 0).bad = 10000 := by decide +kernel
theorem line_zE : lineE faceE layT [[97]] 131072 0 = 0 := by decide +kernel
theorem line_z : (lineF faceE layT [[97]] 131072 true 0).bad = 0 ∧ (lineF faceE layT [[97]] 131072 true 0).cls = 1 := by decide +kernel
theorem line_mE : lineE faceE layZ [[97]] 9 0 = 140 := by decide +kernel
theorem face_in {w : World} {B : Nat} {a : FontA} (h : FontIn w B (fontE 96) a) : FaceIn w B faceE (faceEA a) := ⟨h, by decide, by decide, by decide, by decide, row_nil _ _ _ _, by decide⟩
theorem face_zin (w : World) (B : Nat) : FaceIn w B faceZ faceAZ := ⟨zero_in w B, by decide, by decide, by decide, by decide, row_nil _ _ _ _, by decide⟩
theorem piece_row {w : World} {g : Nat} {t : TypeId} {cs : Array Value} (P : List (List Int)) (h : Box w g cs t) (hp : ∀ (i : Nat) (p : List Int), P[i]? = some p → ∃ A c, cs[i]? = some (Value.slice A p.length c) ∧ p.length ≤ c ∧ c ≤ 9223372036854775807 ∧ Row (Rep.int .i64) w w.heap.size A p) : Row (Rep.int .i64).slice w w.heap.size (some ⟨g, 0, none⟩) P := by
  intro i p hx
  obtain ⟨A, c, h1, h2, h3, h4⟩ := hp i p hx
  refine ⟨g, 0, [.slice A p.length c], rfl, h.lt, ⟨A, c, rfl, h2, h3, h4⟩, fun j v hv => ?_⟩
  obtain ⟨hj, rfl⟩ := List.getElem?_eq_some_iff.1 hv
  have hj0 : j = 0 := by simp at hj; exact hj
  subst hj0
  rw [show (Rep.int .i64).slice.n = 1 from rfl, Nat.mul_one, Nat.add_zero, Nat.zero_add]
  exact h.cell i h1
theorem pieces2 {w : World} {g1 g2 g3 : Nat} {t1 t2 t3 : TypeId} (xs ys : List Int) (h1 : Box w g1 (xs.map fun x => Value.int .i64 x).toArray t1) (h2 : Box w g2 (ys.map fun x => Value.int .i64 x).toArray t2) (h3 : Box w g3 #[.slice (some ⟨g1, 0, none⟩) xs.length xs.length, .slice (some ⟨g2, 0, none⟩) ys.length ys.length] t3)
    (w1 : ∀ x ∈ xs, (Lit.int .i64 x).wf = true) (w2 : ∀ x ∈ ys, (Lit.int .i64 x).wf = true) (l1 : xs.length ≤ 1000) (l2 : ys.length ≤ 1000) : Row (Rep.int .i64).slice w w.heap.size (some ⟨g3, 0, none⟩) [xs, ys] := by
  refine piece_row _ h3 (fun i p hp => ?_)
  have hi : i < 2 := (List.getElem?_eq_some_iff.1 hp).1
  have : i = 0 ∨ i = 1 := by omega
  rcases this with rfl | rfl
  · cases hp
    exact ⟨_, _, rfl, Nat.le_refl _, by omega, ints_box _ h1 w1 rfl⟩
  · cases hp
    exact ⟨_, _, rfl, Nat.le_refl _, by omega, ints_box _ h2 w2 rfl⟩
theorem pieces1 {w : World} {g1 g3 : Nat} {t1 t3 : TypeId} (xs : List Int) (h1 : Box w g1 (xs.map fun x => Value.int .i64 x).toArray t1) (h3 : Box w g3 #[.slice (some ⟨g1, 0, none⟩) xs.length xs.length] t3)
    (w1 : ∀ x ∈ xs, (Lit.int .i64 x).wf = true) (l1 : xs.length ≤ 1000) : Row (Rep.int .i64).slice w w.heap.size (some ⟨g3, 0, none⟩) [xs] := by
  refine piece_row _ h3 (fun i p hp => ?_)
  have hi : i < 1 := (List.getElem?_eq_some_iff.1 hp).1
  have : i = 0 := by omega
  subst this
  cases hp
  exact ⟨_, _, rfl, Nat.le_refl _, by omega, ints_box _ h1 w1 rfl⟩
end Go.Proofs.YtndpdbofoojkhaaGreat.Ft
/- The statements' own calls (awake). -/
namespace Go.Proofs.YtndpdbofoojkhaaGreat.Ft
open Go.RowKit Go.Proofs.YtndpdbofoojkhaaGreat.Kit Go.Proofs.YtndpdbofoojkhaaGreat.Fo Go.Proofs.YtndpdbofoojkhaaGreat.Lv Go.Proofs.YtndpdbofoojkhaaGreat.Bad
set_option linter.unusedVariables false
set_option linter.unusedSimpArgs false

theorem new_yes (d : FaceD) (a : FaceA) (w : World) {B : Nat} (hB : B ≤ w.heap.size) (hF : FaceIn w B d a) (hs : SmallF d) (hf : faceB d = true) :
    Calls Tryz.prog 7 #[faceV d a] w fun e w' => ∃ r m a', e = .returned (.tuple #[.pointer (some ⟨r, 0, none⟩), .int .i64 0]) ∧ Rul d a' r m 0 w' ∧ w.heap.size ≤ m ∧ m < r ∧ Below w.heap.size w w' :=
  (new_any d a w hB hF hs).mono (by
    rintro e w' ⟨_, h, hb⟩
    obtain ⟨r, m, a', h1, h2, h3, h4⟩ := h hf
    exact ⟨r, m, a', h1, h2, h3, h4, hb⟩)
theorem new_no (d : FaceD) (a : FaceA) (w : World) {B : Nat} (hB : B ≤ w.heap.size) (hF : FaceIn w B d a) (hs : SmallF d) (hf : faceB d = false) :
    Calls Tryz.prog 7 #[faceV d a] w fun e w' => e = .returned (.tuple #[.pointer none, .int .i64 90]) ∧ Below w.heap.size w w' :=
  (new_any d a w hB hF hs).mono (by
    rintro e w' ⟨h, _, hb⟩
    exact ⟨h hf, hb⟩)
theorem glyphs_nil (A : Option Addr) (n c : Nat) (w : World) : Calls Tryz.prog 9 #[.pointer none, .slice A n c] w fun e w' => e = .returned (.tuple #[.slice none 0 0, .int .i64 1]) ∧ Below w.heap.size w w' := by
  go_enter Tryz.func9, Tryz.ntmps9
  go_wp2_with fail
  go_ret2
  exact ⟨rfl, Below.refl _ _⟩
theorem wide_nil (sp lev : Int) (A : Option Addr) (n c : Nat) (w : World) : Calls Tryz.prog 15 #[.pointer none, .int .i64 sp, .slice A n c, .int .i64 lev] w fun e w' => e = .returned (.int .i64 0) ∧ Below w.heap.size w w' := by
  go_enter Tryz.func15, Tryz.ntmps15
  go_wp2_with fail
  go_ret
  exact ⟨rfl, Below.refl _ _⟩
theorem new_zero (w : World) : Calls Tryz.prog 7 #[.agg #[.int .i64 0, .int .i64 0, .int .i64 0, .slice none 0 0, .slice none 0 0, .slice none 0 0, .slice none 0 0, .slice none 0 0, .slice none 0 0, .slice none 0 0, .slice none 0 0, .int .i64 0, .int .i64 0, .int .i64 0, .int .i64 0, .slice none 0 0]] w fun e w' => e = .returned (.tuple #[.pointer none, .int .i64 90]) ∧ Below w.heap.size w w' :=
  new_no faceZ faceAZ w (Nat.le_refl _) (face_zin _ _) small_z face_z
theorem new_e (a : FontA) (w : World) (hF : FontIn w w.heap.size (fontE 96) a) : Calls Tryz.prog 7 #[faceV8 (fontE 96) a] w fun e w' => ∃ r m a', e = .returned (.tuple #[.pointer (some ⟨r, 0, none⟩), .int .i64 0]) ∧ Rul faceE a' r m 0 w' ∧ w.heap.size ≤ m ∧ m < r ∧ Below w.heap.size w w' :=
  new_yes faceE (faceEA a) w (Nat.le_refl _) (face_in hF) small_e face_e
abbrev layTC : Array Value := #[.int .i64 1, .int .i64 10, .int .i64 4, .int .i64 2, .slice none 0 0, .int .i64 0, .int .i64 0, .int .i64 0, .int .i64 0, .int .i64 0, .int .i64 0, .int .i64 0, .int .i64 0, .int .i64 0, .int .i64 0, .int .i64 0, .int .i64 0, .int .i64 0, .int .i64 0, .int .i64 0, .int .i64 0]
abbrev layZC : Array Value := #[.int .i64 0, .int .i64 0, .int .i64 0, .int .i64 0, .slice none 0 0, .int .i64 0, .int .i64 0, .int .i64 0, .int .i64 0, .int .i64 0, .int .i64 0, .int .i64 0, .int .i64 0, .int .i64 0, .int .i64 0, .int .i64 0, .int .i64 0, .int .i64 0, .int .i64 0, .int .i64 0, .int .i64 0]
theorem lay_in (w : World) (B : Nat) (l : LayD) (hs : l.shape = []) (hw : LayWf l) : LayIn w B l none := ⟨by rw [hs]; exact row_nil _ _ _ _, hw, by rw [hs]; simp, by rw [hs]; simp⟩
theorem wf_t : LayWf layT := by constructor <;> decide
theorem wf_z : LayWf layZ := by constructor <;> decide
theorem glyphs_at {d : FaceD} {a : FaceA} {r m n : Nat} {Ap : Option Addr} {c : Nat} {P : List (List Int)} {w : World} (hR : Rul d a r m n w) (hx : Row (Rep.int .i64).slice w w.heap.size Ap P) {N K : Nat} {E : Int} {G : List (List (Int × Int))} (hN : P.length = N) (hE : allE d.font P = E) (hG : allG d.font P = G) (hK : G.length = K) (hl : P.length ≤ 1000) (hs : ∀ x ∈ P, x.length ≤ 1000) :
    Calls Tryz.prog 9 #[.pointer (some ⟨r, 0, none⟩), .slice Ap N c] w fun e w' => ∃ Ag cg, e = .returned (.tuple #[.slice Ag K cg, .int .i64 E]) ∧ GG (fun b => w.heap.size ≤ b) w' Ag G ∧ Below w.heap.size w w' := by
  subst hN hE hG hK
  exact glyphs_any d a r m n Ap c P w hR (Nat.le_refl _) hx hl hs
theorem line_at' {d : FaceD} {a : FaceA} {r m n : Nat} {l : LayD} {Ap : Option Addr} {c : Nat} {P : List (List Int)} {long : Int} {last : Bool} {ex : Int} {w : World} (hf : faceB d = true) (hR : Rul d a r m n w) (hL : LayIn w w.heap.size l none) (hx : Row (Rep.int .i64).slice w w.heap.size Ap P) {N : Nat} {V : Value} {X : FitD} (hN : P.length = N) (hV : Value.agg (layCells l none 0) = V) (hE : lineE d l P long ex = 0) (hX : lineF d l P long last ex = X) (hl : P.length ≤ 1000) (hs : ∀ x ∈ P, x.length ≤ 1000) (hn : n < 100000000) :
    Calls Tryz.prog 11 #[.pointer (some ⟨r, 0, none⟩), V, .slice Ap N c, .int .i64 long, .bool last, .int .i64 ex] w fun e w' => e = .returned (.tuple #[fitV X, .int .i64 0]) ∧ Rul d a r m (n + 20000) w' ∧ Off m w w' := by
  subst hN hV hX
  exact line_main d a r m n l none 0 Ap c P long last ex w hf hR hR.box.lt (Nat.le_refl _) hL hx hl hs hE hn
theorem line_no' {d : FaceD} {a : FaceA} {r m n : Nat} {l : LayD} {Ap : Option Addr} {c : Nat} {P : List (List Int)} {long : Int} {last : Bool} {ex : Int} {w : World} (hf : faceB d = true) (hR : Rul d a r m n w) (hL : LayIn w w.heap.size l none) (hx : Row (Rep.int .i64).slice w w.heap.size Ap P) {N : Nat} {V : Value} {E : Int} (hN : P.length = N) (hV : Value.agg (layCells l none 0) = V) (hE : lineE d l P long ex = E) (hE0 : E ≠ 0) (hl : P.length ≤ 1000) (hs : ∀ x ∈ P, x.length ≤ 1000) :
    Calls Tryz.prog 11 #[.pointer (some ⟨r, 0, none⟩), V, .slice Ap N c, .int .i64 long, .bool last, .int .i64 ex] w fun e w' => e = .returned (.tuple #[fitV fitZ, .int .i64 E]) ∧ Below w.heap.size w w' := by
  subst hN hV hE
  exact line_head d a r m n l none 0 Ap c P long last ex w hf hR (Nat.le_refl _) hL hx hl hs hE0
theorem gg_lit {w : World} {b1 b2 b3 : Nat} {t1 t2 t3 : TypeId} (h1 : Box w b1 #[.int .i64 128, .int .i64 0] t1) (h2 : Box w b2 #[.int .i64 97, .int .i64 0] t2) (h3 : Box w b3 #[.slice (some ⟨b1, 0, none⟩) 1 1, .slice (some ⟨b2, 0, none⟩) 1 1] t3) : GG (fun _ => True) w (some ⟨b3, 0, none⟩) [[(128, 0)], [(97, 0)]] := by
  intro i g hg
  have hi : i < 2 := (List.getElem?_eq_some_iff.1 hg).1
  have : i = 0 ∨ i = 1 := by omega
  rcases this with rfl | rfl
  · cases hg
    refine ⟨b3, 0, _, _, rfl, trivial, h3.lt, h3.cell 0 rfl, fun j x hx => ?_⟩
    have hj : j < 1 := (List.getElem?_eq_some_iff.1 hx).1
    have : j = 0 := by omega
    subst this
    cases hx
    exact ⟨b1, 0, rfl, trivial, h1.lt, h1.cell 0 rfl, h1.cell 1 rfl⟩
  · cases hg
    refine ⟨b3, 0, _, _, rfl, trivial, h3.lt, h3.cell 1 rfl, fun j x hx => ?_⟩
    have hj : j < 1 := (List.getElem?_eq_some_iff.1 hx).1
    have : j = 0 := by omega
    subst this
    cases hx
    exact ⟨b2, 0, rfl, trivial, h2.lt, h2.cell 0 rfl, h2.cell 1 rfl⟩
theorem same_at {Q1 Q2 : Nat → Prop} {A B : Option Addr} {c e N : Nat} {G : List (List (Int × Int))} {w : World} (hx : GG Q1 w A G) (hy : GG Q2 w B G) (hN : G.length = N) (hl : G.length ≤ 100000) (hgl : ∀ g ∈ G, g.length ≤ 100000) :
    Calls Tryz.prog 13 #[.slice A N c, .slice B N e] w fun r w' => r = .returned (.bool true) ∧ Below w.heap.size w w' := by
  subst hN
  have := same18_any A B c e G G w hx hy hl hl hgl hgl
  rwa [decide_eq_true rfl] at this
theorem wide_at {d : FaceD} {a : FaceA} {r m n : Nat} {sp lev : Int} {Ag : Option Addr} {cg N : Nat} {G : List (List (Int × Int))} {w : World} {Q : Nat → Prop} {X : Int} (hf : faceB d = true) (hR : Rul d a r m n w) (hQ : ∀ b, Q b → b ≠ m) (hG : GG Q w Ag G) (hN : G.length = N) (hX : wideS d sp G lev = X) (hw : WfG G) (hle : (Lit.int .i64 lev).wf = true) (hl : G.length ≤ 1000) (hgl : ∀ g ∈ G, g.length ≤ 2000) (hn : n + 2 * G.flatten.length < 1000000000) :
    Calls Tryz.prog 15 #[.pointer (some ⟨r, 0, none⟩), .int .i64 sp, .slice Ag N cg, .int .i64 lev] w fun e w' => e = .returned (.int .i64 X) ∧ Off m w w' := by
  subst hN hX
  refine (wide_any d a r m n sp lev Ag cg G w hf hR hQ hG hw hle hl hgl hn).mono ?_
  rintro e w' ⟨h1, _, h2⟩
  exact ⟨h1, h2⟩
set_option maxRecDepth 100000 in
set_option maxHeartbeats 8000000 in
theorem awake_any (w : World) : Calls Tryz.prog 4 #[] w fun e w' => e = .returned (.bool true) ∧ Below w.heap.size w w' := by
  go_enter Tryz.func4, Tryz.ntmps4
  go_wp2_with fail
  with_reducible refine (face18_any w).mono ?_
  rintro e w1 ⟨a, rfl, hF, hb1⟩
  have HN := Lib.hid (new_e a w1 hF)
  have hs1 := hb1.size
  clear hF
  go_wp2_with fail
  with_reducible refine HN.out.mono ?_
  rintro e w2 ⟨r, m, fa, rfl, hR, hm1, hmr, hb2⟩
  have hw2 := below_join hb1 hb2
  have HN2 := Lib.hid (new_zero w2)
  clear hb1 hb2 HN
  go_wp2_with fail
  with_reducible refine HN2.out.mono ?_
  rintro e w3 ⟨rfl, hb3⟩
  have hw3 := below_join hw2 hb3
  have HR3 := Lib.hid (hR.off hb3)
  have hmw : w.heap.size ≤ m := by have := hw2.size; omega
  clear HN2 hb3 hw2 hR
  -- the layout, and the first pieces
  go_wp2_with (with_reducible refine wpList_stop (o := ⟨none, .store _ _ _, _, _, _, _⟩) ?_)
  refine Lib.hid ?_
  refine wpList_store_row rfl _ _ _ rfl w3.heap.size layTC rfl rfl 32 layZC (Box.new w3 layZC 32) (by kernel_rfl) rfl (by simp [Value.oneCell']) ?_
  rw [World.setRow_alloc_new]
  have hbl := ((((Box.new w3 layTC 32).alloc (.cells #[.int .i64 102, .int .i64 105] 3)).alloc (.cells #[.int .i64 97] 3)).alloc (.cells #[.slice (some ⟨w3.heap.size + 1, 0, none⟩) 2 2, .slice (some ⟨w3.heap.size + 1 + 1, 0, none⟩) 1 1] 23))
  have hp1 := ((Box.new (w3.alloc (.cells layTC 32)) #[.int .i64 102, .int .i64 105] 3).alloc (.cells #[.int .i64 97] 3)).alloc (.cells #[.slice (some ⟨w3.heap.size + 1, 0, none⟩) 2 2, .slice (some ⟨w3.heap.size + 1 + 1, 0, none⟩) 1 1] 23)
  have hp2 := (Box.new ((w3.alloc (.cells layTC 32)).alloc (.cells #[.int .i64 102, .int .i64 105] 3)) #[.int .i64 97] 3).alloc (.cells #[.slice (some ⟨w3.heap.size + 1, 0, none⟩) 2 2, .slice (some ⟨w3.heap.size + 1 + 1, 0, none⟩) 1 1] 23)
  have hp3 := Box.new (((w3.alloc (.cells layTC 32)).alloc (.cells #[.int .i64 102, .int .i64 105] 3)).alloc (.cells #[.int .i64 97] 3)) #[.slice (some ⟨w3.heap.size + 1, 0, none⟩) 2 2, .slice (some ⟨w3.heap.size + 1 + 1, 0, none⟩) 1 1] 23
  have hb4 : Below w3.heap.size w3 ((((w3.alloc (.cells layTC 32)).alloc (.cells #[.int .i64 102, .int .i64 105] 3)).alloc (.cells #[.int .i64 97] 3)).alloc (.cells #[.slice (some ⟨w3.heap.size + 1, 0, none⟩) 2 2, .slice (some ⟨w3.heap.size + 1 + 1, 0, none⟩) 1 1] 23)) := below_alloc (below_alloc (below_alloc (below_alloc (Below.refl _ _) _) _) _) _
  simp only [World.size_alloc] at hp1 hp2 hp3
  obtain ⟨W4, hW4⟩ : ∃ W, ((((w3.alloc (.cells layTC 32)).alloc (.cells #[.int .i64 102, .int .i64 105] 3)).alloc (.cells #[.int .i64 97] 3)).alloc (.cells #[.slice (some ⟨w3.heap.size + 1, 0, none⟩) 2 2, .slice (some ⟨w3.heap.size + 1 + 1, 0, none⟩) 1 1] 23)) = W := ⟨_, rfl⟩
  rw [hW4] at hbl hp1 hp2 hp3 hb4
  have HW4 := Lib.hid hW4
  have hrow := pieces2 [102, 105] [97] hp1 hp2 hp3 (by decide) (by decide) (by decide) (by decide)
  have HR4 := Lib.hid (HR3.out.off hb4)
  have HG := Lib.hid (glyphs_at (c := 2) HR4.out hrow (N := 2) (K := 2) rfl gly_1.1 gly_1.2 rfl (by decide) (by decide))
  have hw4 := below_join hw3 hb4
  clear hp1 hp2 hp3 hrow hb4 hW4
  go_wp2_with fail
  rw [HW4.out]
  with_reducible refine HG.out.mono ?_
  rintro e w5 ⟨Ag, cg, rfl, hgg, hb5⟩
  have HGG := Lib.hid hgg
  have hbl5 := hbl.below hb5
  have HR5 := Lib.hid (HR4.out.off hb5)
  have HO5 := Lib.hid (below_join hw4 hb5)
  have hml : m < w3.heap.size := HR3.out.lt
  have hs45 := hb5.size
  have HS4 : Hid (w3.heap.size < W4.heap.size ∧ m < W4.heap.size) := Lib.hid ⟨hbl.lt, HR4.out.lt⟩
  obtain ⟨gl, hgl⟩ : ∃ gl, w3.heap.size = gl := ⟨_, rfl⟩
  rw [hgl] at hbl5 hml HS4 ⊢
  clear hgl hbl hgg hb5 HG HW4 hw4 hw3 HR4 HR3
  -- the first line
  have hld5 := lay_load (l := layT) (A := none) (c := 0) hbl5
  obtain ⟨lv, hlv⟩ : ∃ lv, Hid ((Value.agg (layCells layT none 0)) = lv) := ⟨_, Lib.hid rfl⟩
  rw [hlv.out] at hld5
  have hq1 := ((Box.new w5 #[.int .i64 97] 3).alloc (.cells #[.int .i64 98] 3)).alloc (.cells #[.slice (some ⟨w5.heap.size, 0, none⟩) 1 1, .slice (some ⟨w5.heap.size + 1, 0, none⟩) 1 1] 23)
  have hq2 := (Box.new (w5.alloc (.cells #[.int .i64 97] 3)) #[.int .i64 98] 3).alloc (.cells #[.slice (some ⟨w5.heap.size, 0, none⟩) 1 1, .slice (some ⟨w5.heap.size + 1, 0, none⟩) 1 1] 23)
  have hq3 := Box.new ((w5.alloc (.cells #[.int .i64 97] 3)).alloc (.cells #[.int .i64 98] 3)) #[.slice (some ⟨w5.heap.size, 0, none⟩) 1 1, .slice (some ⟨w5.heap.size + 1, 0, none⟩) 1 1] 23
  have hb6 : Below w5.heap.size w5 (((w5.alloc (.cells #[.int .i64 97] 3)).alloc (.cells #[.int .i64 98] 3)).alloc (.cells #[.slice (some ⟨w5.heap.size, 0, none⟩) 1 1, .slice (some ⟨w5.heap.size + 1, 0, none⟩) 1 1] 23)) := below_alloc (below_alloc (below_alloc (Below.refl _ _) _) _) _
  simp only [World.size_alloc] at hq2 hq3
  obtain ⟨W6, hW6⟩ : ∃ W, (((w5.alloc (.cells #[.int .i64 97] 3)).alloc (.cells #[.int .i64 98] 3)).alloc (.cells #[.slice (some ⟨w5.heap.size, 0, none⟩) 1 1, .slice (some ⟨w5.heap.size + 1, 0, none⟩) 1 1] 23)) = W := ⟨_, rfl⟩
  rw [hW6] at hq1 hq2 hq3 hb6
  have HW6 := Lib.hid hW6
  obtain ⟨X, hX⟩ : ∃ X, Hid (lineF faceE layT [[97], [98]] 131086 false 0 = X) := ⟨_, Lib.hid rfl⟩
  have HL6 := Lib.hid (line_at' (c := 2) face_e (HR5.out.off hb6) (lay_in W6 _ layT rfl wf_t) (pieces2 [97] [98] hq1 hq2 hq3 (by decide) (by decide) (by decide) (by decide)) (N := 2) rfl hlv.out line_xE hX.out (by decide) (by decide) (by decide))
  have HB6 := Lib.hid hb6
  clear hq1 hq2 hq3 hb6 hW6
  go_wp2_with (refine ld_any hld5 rfl _ rfl rfl ?_)
  rw [HW6.out]
  with_reducible refine HL6.out.mono ?_
  rintro e w7 ⟨rfl, hR7, hO7⟩
  have hmW : m < w7.heap.size := hR7.lt
  have hOff7 := (Off.of HB6.out).trans hO7
  have hbx8 := Box.new w7 (fitB X) 46
  have hb8 := below_alloc (Below.refl w7.heap.size w7) (.cells (fitB X) 46)
  have HR8 := Lib.hid (hR7.off hb8)
  have HO8 := Lib.hid ((Off.of HB6.out).trans (hO7.trans (Off.of hb8)))
  have hgm : gl ≠ m := by omega
  have hbl8 := HO8.out.box hbl5 hgm
  have HGG8 := Lib.hid (HGG.out.off HO8.out (fun b hb => by have := HS4.out; omega))
  have HBw8 := Lib.hid (Off.below HO5.out HO8.out hmw (HO5.out.size))
  obtain ⟨gx, hgx⟩ : ∃ g, w7.heap.size = g := ⟨_, rfl⟩
  obtain ⟨w8, hw8⟩ : ∃ W, w7.alloc (.cells (fitB X) 46) = W := ⟨_, rfl⟩
  rw [hw8] at hbx8 HR8 hbl8 HGG8 HBw8
  rw [hgx] at hbx8 hmW
  have HWW8 := Lib.hid hw8
  have HGgx := Lib.hid hgx
  have HBX8 := Lib.hid hbx8
  clear hR7 hO7 hOff7 hb8 hw8 hgx HL6 HW6 HB6 hld5 HO5 HR5 HGG hbl5 HO8 hs45 hbx8
  have hmgx : gx ≠ m := by omega
  have hld8 := lay_load (l := layT) (A := none) (c := 0) hbl8
  rw [hlv.out] at hld8
  have q1 := ((Box.new w8 #[.int .i64 97] 3).alloc (.cells #[.int .i64 98] 3)).alloc (.cells #[.slice (some ⟨w8.heap.size, 0, none⟩) 1 1, .slice (some ⟨w8.heap.size + 1, 0, none⟩) 1 1] 23)
  have q2 := (Box.new (w8.alloc (.cells #[.int .i64 97] 3)) #[.int .i64 98] 3).alloc (.cells #[.slice (some ⟨w8.heap.size, 0, none⟩) 1 1, .slice (some ⟨w8.heap.size + 1, 0, none⟩) 1 1] 23)
  have q3 := Box.new ((w8.alloc (.cells #[.int .i64 97] 3)).alloc (.cells #[.int .i64 98] 3)) #[.slice (some ⟨w8.heap.size, 0, none⟩) 1 1, .slice (some ⟨w8.heap.size + 1, 0, none⟩) 1 1] 23
  have hbb8 : Below w8.heap.size w8 (((w8.alloc (.cells #[.int .i64 97] 3)).alloc (.cells #[.int .i64 98] 3)).alloc (.cells #[.slice (some ⟨w8.heap.size, 0, none⟩) 1 1, .slice (some ⟨w8.heap.size + 1, 0, none⟩) 1 1] 23)) := (below_alloc (below_alloc (below_alloc (Below.refl _ _) _) _) _)
  simp only [World.size_alloc] at q2 q3
  obtain ⟨V8, hV8⟩ : ∃ V, (((w8.alloc (.cells #[.int .i64 97] 3)).alloc (.cells #[.int .i64 98] 3)).alloc (.cells #[.slice (some ⟨w8.heap.size, 0, none⟩) 1 1, .slice (some ⟨w8.heap.size + 1, 0, none⟩) 1 1] 23)) = V := ⟨_, rfl⟩
  rw [hV8] at q1 q2 q3 hbb8
  have HV8 := Lib.hid hV8
  obtain ⟨Y, hY⟩ : ∃ X, Hid (lineF faceE layT [[97], [98]] 131079 false 0 = X) := ⟨_, Lib.hid rfl⟩
  have HLn8 := Lib.hid (line_at' (c := 2) face_e (HR8.out.off hbb8) (lay_in V8 _ layT rfl wf_t) (pieces2 [97] [98] q1 q2 q3 (by decide) (by decide) (by decide) (by decide)) (N := 2) rfl hlv.out line_yE hY.out (by decide) (by decide) (by decide))
  have HB8 := Lib.hid hbb8
  clear q1 q2 q3 hbb8 hV8
  go_upto_region 8 with fail
  rw [HWW8.out, HGgx.out]
  go_wp2_with (refine ld_any hld8 rfl _ rfl rfl ?_)
  rw [HV8.out]
  with_reducible refine HLn8.out.mono ?_
  rintro e u8 ⟨rfl, hR, hO⟩
  have hmW2 : m < u8.heap.size := hR.lt
  have hbx := Box.new u8 (fitB Y) 46
  have hb := below_alloc (Below.refl u8.heap.size u8) (.cells (fitB Y) 46)
  have HR9 := Lib.hid (hR.off hb)
  have HO := Lib.hid ((Off.of HB8.out).trans (hO.trans (Off.of hb)))
  have hbl9 := HO.out.box hbl8 hgm
  have HGG9 := Lib.hid (HGG8.out.off HO.out (fun b hb => by have := HS4.out; omega))
  have HBw9 := Lib.hid (Off.below HBw8.out HO.out hmw (HBw8.out.size))
  have HBX9 := Lib.hid (HO.out.box HBX8.out (show gx ≠ m by omega))
  obtain ⟨gy, hgy⟩ : ∃ g, u8.heap.size = g := ⟨_, rfl⟩
  obtain ⟨w9, hw9⟩ : ∃ W, u8.alloc (.cells (fitB Y) 46) = W := ⟨_, rfl⟩
  rw [hw9] at hbx HR9 hbl9 HGG9 HBw9 HBX9
  rw [hgy] at hbx hmW2
  have HWW9 := Lib.hid hw9
  have HGgy := Lib.hid hgy
  have HBY9 := Lib.hid hbx
  have hmgy : gy ≠ m := by omega
  clear hR hO hb hw9 hgy hbx HLn8 HV8 HB8 hld8 HO hmW2 HR8 hbl8 HGG8 HBw8 HBX8
  have hld9 := lay_load (l := layT) (A := none) (c := 0) hbl9
  rw [hlv.out] at hld9
  have q1 := (Box.new w9 #[.int .i64 97] 3).alloc (.cells #[.slice (some ⟨w9.heap.size, 0, none⟩) 1 1] 23)
  have q2 := Box.new (w9.alloc (.cells #[.int .i64 97] 3)) #[.slice (some ⟨w9.heap.size, 0, none⟩) 1 1] 23
  have hbb9 : Below w9.heap.size w9 ((w9.alloc (.cells #[.int .i64 97] 3)).alloc (.cells #[.slice (some ⟨w9.heap.size, 0, none⟩) 1 1] 23)) := (below_alloc (below_alloc (Below.refl _ _) _) _)
  simp only [World.size_alloc] at q2
  obtain ⟨V9, hV9⟩ : ∃ V, ((w9.alloc (.cells #[.int .i64 97] 3)).alloc (.cells #[.slice (some ⟨w9.heap.size, 0, none⟩) 1 1] 23)) = V := ⟨_, rfl⟩
  rw [hV9] at q1 q2 hbb9
  have HV9 := Lib.hid hV9
  obtain ⟨Z, hZ⟩ : ∃ X, Hid (lineF faceE layT [[97]] 131072 true 0 = X) := ⟨_, Lib.hid rfl⟩
  have HLn9 := Lib.hid (line_at' (c := 1) face_e (HR9.out.off hbb9) (lay_in V9 _ layT rfl wf_t) (pieces1 [97] q1 q2 (by decide) (by decide)) (N := 1) rfl hlv.out line_zE hZ.out (by decide) (by decide) (by decide))
  have HB9 := Lib.hid hbb9
  clear q1 q2 hbb9 hV9
  go_upto_region 9 with fail
  rw [HWW9.out, HGgy.out]
  go_wp2_with (refine ld_any hld9 rfl _ rfl rfl ?_)
  rw [HV9.out]
  with_reducible refine HLn9.out.mono ?_
  rintro e u9 ⟨rfl, hR, hO⟩
  have hmW2 : m < u9.heap.size := hR.lt
  have hbx := Box.new u9 (fitB Z) 46
  have hb := below_alloc (Below.refl u9.heap.size u9) (.cells (fitB Z) 46)
  have HR10 := Lib.hid (hR.off hb)
  have HO := Lib.hid ((Off.of HB9.out).trans (hO.trans (Off.of hb)))
  have hbl10 := HO.out.box hbl9 hgm
  have HGG10 := Lib.hid (HGG9.out.off HO.out (fun b hb => by have := HS4.out; omega))
  have HBw10 := Lib.hid (Off.below HBw9.out HO.out hmw (HBw9.out.size))
  have HBX10 := Lib.hid (HO.out.box HBX9.out (show gx ≠ m by omega))
  have HBY10 := Lib.hid (HO.out.box HBY9.out (show gy ≠ m by omega))
  obtain ⟨gz, hgz⟩ : ∃ g, u9.heap.size = g := ⟨_, rfl⟩
  obtain ⟨w10, hw10⟩ : ∃ W, u9.alloc (.cells (fitB Z) 46) = W := ⟨_, rfl⟩
  rw [hw10] at hbx HR10 hbl10 HGG10 HBw10 HBX10 HBY10
  rw [hgz] at hbx hmW2
  have HWW10 := Lib.hid hw10
  have HGgz := Lib.hid hgz
  have HBZ10 := Lib.hid hbx
  have hmgz : gz ≠ m := by omega
  clear hR hO hb hw10 hgz hbx HLn9 HV9 HB9 hld9 HO hmW2 HR9 hbl9 HGG9 HBw9 HBX9 HBY9
  have hld10 := lay_load (l := layT) (A := none) (c := 0) hbl10
  rw [hlv.out] at hld10
  have q1 := (Box.new w10 #[.int .i64 97] 3).alloc (.cells #[.slice (some ⟨w10.heap.size, 0, none⟩) 1 1] 23)
  have q2 := Box.new (w10.alloc (.cells #[.int .i64 97] 3)) #[.slice (some ⟨w10.heap.size, 0, none⟩) 1 1] 23
  have hbb10 : Below w10.heap.size w10 ((w10.alloc (.cells #[.int .i64 97] 3)).alloc (.cells #[.slice (some ⟨w10.heap.size, 0, none⟩) 1 1] 23)) := (below_alloc (below_alloc (Below.refl _ _) _) _)
  simp only [World.size_alloc] at q2
  obtain ⟨V10, hV10⟩ : ∃ V, ((w10.alloc (.cells #[.int .i64 97] 3)).alloc (.cells #[.slice (some ⟨w10.heap.size, 0, none⟩) 1 1] 23)) = V := ⟨_, rfl⟩
  rw [hV10] at q1 q2 hbb10
  have HV10 := Lib.hid hV10
  have HLn10 := Lib.hid (line_no' (V := .agg layZC) (c := 1) (long := 9) (last := true) (ex := 0) face_e (HR10.out.off hbb10) (lay_in V10 _ layZ rfl wf_z) (pieces1 [97] q1 q2 (by decide) (by decide)) (N := 1) rfl rfl line_mE (by decide) (by decide) (by decide))
  have HB10 := Lib.hid hbb10
  clear q1 q2 hbb10 hV10
  go_upto_region 10 with fail
  rw [HWW10.out, HGgz.out]
  go_wp2_with fail
  rw [HV10.out]
  with_reducible refine HLn10.out.mono ?_
  rintro e u10 ⟨rfl, hbu⟩
  have hO := Off.of (m := m) hbu
  have hR := ((HR10.out.off HB10.out).off hbu)
  have hmW2 : m < u10.heap.size := hR.lt
  have hbx := Box.new u10 (fitB fitZ) 46
  have hb := below_alloc (Below.refl u10.heap.size u10) (.cells (fitB fitZ) 46)
  have HR11 := Lib.hid (hR.off hb)
  have HO := Lib.hid ((Off.of HB10.out).trans (hO.trans (Off.of hb)))
  have hbl11 := HO.out.box hbl10 hgm
  have HGG11 := Lib.hid (HGG10.out.off HO.out (fun b hb => by have := HS4.out; omega))
  have HBw11 := Lib.hid (Off.below HBw10.out HO.out hmw (HBw10.out.size))
  have HBX11 := Lib.hid (HO.out.box HBX10.out (show gx ≠ m by omega))
  have HBY11 := Lib.hid (HO.out.box HBY10.out (show gy ≠ m by omega))
  have HBZ11 := Lib.hid (HO.out.box HBZ10.out (show gz ≠ m by omega))
  obtain ⟨gm', hgm''⟩ : ∃ g, u10.heap.size = g := ⟨_, rfl⟩
  obtain ⟨w11, hw11⟩ : ∃ W, u10.alloc (.cells (fitB fitZ) 46) = W := ⟨_, rfl⟩
  rw [hw11] at hbx HR11 hbl11 HGG11 HBw11 HBX11 HBY11 HBZ11
  rw [hgm''] at hbx hmW2
  have HWW11 := Lib.hid hw11
  have HGgm' := Lib.hid hgm''
  have HBZ011 := Lib.hid hbx
  have hmgm2 : gm' ≠ m := by omega
  clear hR hO hb hw11 hgm'' hbx HLn10 HV10 HB10 hld10 HO hmW2 HR10 hbl10 HGG10 HBw10 HBX10 HBY10 HBZ10
  go_upto_region 11 with fail
  rw [HWW11.out]
  have HNg := Lib.hid (glyphs_nil none 0 0 w11)
  clear HWW11 HWW10 HWW9 HWW8
  go_wp2_with fail
  with_reducible refine HNg.out.mono ?_
  rintro e w12 ⟨rfl, hb12⟩
  have HO := Lib.hid (Off.of (m := m) hb12)
  have HR12 := Lib.hid (HR11.out.off hb12)
  have HGG12 := Lib.hid (HGG11.out.below hb12)
  have HBw12 := Lib.hid (below_then HBw11.out HBw11.out.size hb12)
  have HX12 := Lib.hid (HBX11.out.below hb12)
  have HY12 := Lib.hid (HBY11.out.below hb12)
  have HZ12 := Lib.hid (HBZ11.out.below hb12)
  clear HR11 HGG11 HBw11 HBX11 HBY11 HBZ11 HO hb12 hbl11 HNg HBZ011
  have s1 := (Box.new w12 #[.int .i64 128, .int .i64 0] 54).alloc (.cells #[.int .i64 97, .int .i64 0] 54) |>.alloc (.cells #[.slice (some ⟨w12.heap.size, 0, none⟩) 1 1, .slice (some ⟨w12.heap.size + 1, 0, none⟩) 1 1] 55)
  have s2 := (Box.new (w12.alloc (.cells #[.int .i64 128, .int .i64 0] 54)) #[.int .i64 97, .int .i64 0] 54).alloc (.cells #[.slice (some ⟨w12.heap.size, 0, none⟩) 1 1, .slice (some ⟨w12.heap.size + 1, 0, none⟩) 1 1] 55)
  have s3 := Box.new ((w12.alloc (.cells #[.int .i64 128, .int .i64 0] 54)).alloc (.cells #[.int .i64 97, .int .i64 0] 54)) #[.slice (some ⟨w12.heap.size, 0, none⟩) 1 1, .slice (some ⟨w12.heap.size + 1, 0, none⟩) 1 1] 55
  have hbs : Below w12.heap.size w12 (((w12.alloc (.cells #[.int .i64 128, .int .i64 0] 54)).alloc (.cells #[.int .i64 97, .int .i64 0] 54)).alloc (.cells #[.slice (some ⟨w12.heap.size, 0, none⟩) 1 1, .slice (some ⟨w12.heap.size + 1, 0, none⟩) 1 1] 55)) := below_alloc (below_alloc (below_alloc (Below.refl _ _) _) _) _
  simp only [World.size_alloc] at s2 s3
  obtain ⟨W13, hW13⟩ : ∃ W, (((w12.alloc (.cells #[.int .i64 128, .int .i64 0] 54)).alloc (.cells #[.int .i64 97, .int .i64 0] 54)).alloc (.cells #[.slice (some ⟨w12.heap.size, 0, none⟩) 1 1, .slice (some ⟨w12.heap.size + 1, 0, none⟩) 1 1] 55)) = W := ⟨_, rfl⟩
  rw [hW13] at s1 s2 s3 hbs
  have HW13 := Lib.hid hW13
  have HSm := Lib.hid (same_at (c := cg) (e := 2) (HGG12.out.below hbs) (gg_lit s1 s2 s3) (N := 2) rfl (by decide) (by decide))
  have HBS := Lib.hid hbs
  clear s1 s2 s3 hbs hW13
  go_wp2_with fail
  rw [HW13.out]
  with_reducible refine HSm.out.mono ?_
  rintro e w14 ⟨rfl, hb14⟩
  have hb15 := below_join HBS.out hb14
  have HR14 := Lib.hid (HR12.out.off hb15)
  have HGG14 := Lib.hid (HGG12.out.below hb15)
  have HBw14 := Lib.hid (below_then HBw12.out HBw12.out.size hb15)
  have hx := HX12.out.below hb15
  have hy := HY12.out.below hb15
  have hz := HZ12.out.below hb15
  obtain ⟨x1, x2, x3, x4⟩ := line_x
  rw [hX.out] at x1 x2 x3 x4
  obtain ⟨y1, y2, y3⟩ := line_y
  rw [hY.out] at y1 y2 y3
  obtain ⟨z1, z2⟩ := line_z
  rw [hZ.out] at z1 z2
  have xa : w14.cell? ⟨gx, 4, none⟩ = some (.int .i64 100) := by rw [← x2]; exact hx.cell 4 rfl
  have xb : w14.cell? ⟨gx, 1, none⟩ = some (.int .i64 131082) := by rw [← x1]; exact hx.cell 1 rfl
  have xc : w14.cell? ⟨gx, 5, none⟩ = some (.int .i64 3) := by rw [← x3]; exact hx.cell 5 rfl
  have xd : w14.cell? ⟨gx, 6, none⟩ = some (.bool false) := by rw [← x4]; exact hx.cell 6 rfl
  have ya : w14.cell? ⟨gy, 6, none⟩ = some (.bool true) := by rw [← y1]; exact hy.cell 6 rfl
  have yb : w14.cell? ⟨gy, 7, none⟩ = some (.int .i64 (-1)) := by rw [← y2]; exact hy.cell 7 rfl
  have yc : w14.cell? ⟨gy, 4, none⟩ = some (.int .i64 10000) := by rw [← y3]; exact hy.cell 4 rfl
  have za : w14.cell? ⟨gz, 4, none⟩ = some (.int .i64 0) := by rw [← z1]; exact hz.cell 4 rfl
  have zb : w14.cell? ⟨gz, 5, none⟩ = some (.int .i64 1) := by rw [← z2]; exact hz.cell 5 rfl
  clear x1 x2 x3 x4 y1 y2 y3 z1 z2 hx hy hz HSm HW13 HBS hb14 hb15 HX12 HY12 HZ12 HR12 HGG12 HBw12
  have HWn := Lib.hid (wide_nil 1 0 none 0 0 w14)
  go_wp2_with fail
  with_reducible refine HWn.out.mono ?_
  rintro e w15 ⟨rfl, hb16⟩
  clear xa xb xc xd ya yb yc za zb
  have HWd := Lib.hid (wide_at (sp := 7) (lev := 0) (cg := cg) face_e (HR14.out.off hb16) (Q := fun b => W4.heap.size ≤ b) (fun b hb => by have := HS4.out; omega) (HGG14.out.below hb16) (N := 2) rfl wide_1 (by intro g hg x hx; simp at hg; rcases hg with rfl | rfl <;> (simp at hx; subst hx; exact ⟨by decide, by decide⟩)) (by decide) (by decide) (by decide) (by simp))
  have HBw15 := Lib.hid (below_then HBw14.out HBw14.out.size hb16)
  clear HWn hb16
  go_wp2_with fail
  with_reducible refine HWd.out.mono ?_
  rintro e w16 ⟨rfl, hO16⟩
  go_wp2_with fail
  go_ret
  exact ⟨rfl, Off.below HBw15.out hO16 hmw HBw15.out.size⟩
end Go.Proofs.YtndpdbofoojkhaaGreat.Ft
/- A face as an argument; few of each. -/
namespace Go.Proofs.YtndpdbofoojkhaaGreat.Ft
open Go.RowKit Go.Proofs.YtndpdbofoojkhaaGreat.Kit Go.Proofs.YtndpdbofoojkhaaGreat.Fo Go.Proofs.YtndpdbofoojkhaaGreat.Lv Go.Proofs.YtndpdbofoojkhaaGreat.Bad
set_option linter.unusedVariables false
set_option linter.unusedSimpArgs false

abbrev FontT := Int × Int × Int × List CharT × List Int × List Int × List Int × List Int × List StepT × List Int × List Int
abbrev FaceT := FontT × Int × Int × Int × Int × List StepT
abbrev fontR : Rep FontT := (Rep.seq (Rep.int .i64) (Rep.seq (Rep.int .i64) (Rep.seq (Rep.int .i64) (Rep.seq (Rep.slice (Rep.seq (Rep.int .i64) (Rep.seq (Rep.int .i64) (Rep.seq (Rep.int .i64) (Rep.seq (Rep.int .i64) (Rep.seq (Rep.int .i64) (Rep.int .i64))))))) (Rep.seq (Rep.slice (Rep.int .i64)) (Rep.seq (Rep.slice (Rep.int .i64)) (Rep.seq (Rep.slice (Rep.int .i64)) (Rep.seq (Rep.slice (Rep.int .i64)) (Rep.seq (Rep.slice (Rep.seq (Rep.int .i64) (Rep.seq (Rep.int .i64) (Rep.seq (Rep.int .i64) (Rep.int .i64))))) (Rep.seq (Rep.slice (Rep.int .i64)) (Rep.slice (Rep.int .i64))))))))))))
abbrev faceR : Rep FaceT := (Rep.seq fontR (Rep.seq (Rep.int .i64) (Rep.seq (Rep.int .i64) (Rep.seq (Rep.int .i64) (Rep.seq (Rep.int .i64) (Rep.slice (Rep.seq (Rep.int .i64) (Rep.seq (Rep.int .i64) (Rep.seq (Rep.int .i64) (Rep.int .i64))))))))))
theorem face_of {w : World} {B : Nat} {cs : Array Value} {x : FaceT} (h : faceR.K w B cs.toList x) : ∃ d a, cs = faceCells d a ∧ FaceIn w B d a := by
  obtain ⟨⟨x0, x1, x2, x3, x4, x5, x6, x7, x8, x9, x10⟩, y0, y1, y2, y3, y4⟩ := x
  obtain ⟨p, q, hcs, hp, hq⟩ := h
  obtain ⟨fu0, fv0, rfl, ⟨rfl, fw0⟩, ⟨fu1, fv1, rfl, ⟨rfl, fw1⟩, ⟨fu2, fv2, rfl, ⟨rfl, fw2⟩, ⟨fu3, fv3, rfl, ⟨fA3, fc3, rfl, fl3, fm3, fr3⟩, ⟨fu4, fv4, rfl, ⟨fA4, fc4, rfl, fl4, fm4, fr4⟩, ⟨fu5, fv5, rfl, ⟨fA5, fc5, rfl, fl5, fm5, fr5⟩, ⟨fu6, fv6, rfl, ⟨fA6, fc6, rfl, fl6, fm6, fr6⟩, ⟨fu7, fv7, rfl, ⟨fA7, fc7, rfl, fl7, fm7, fr7⟩, ⟨fu8, fv8, rfl, ⟨fA8, fc8, rfl, fl8, fm8, fr8⟩, ⟨fu9, fv9, rfl, ⟨fA9, fc9, rfl, fl9, fm9, fr9⟩, ⟨fA10, fc10, rfl, fl10, fm10, fr10⟩⟩⟩⟩⟩⟩⟩⟩⟩⟩⟩ := hp
  obtain ⟨gu0, gv0, rfl, ⟨rfl, gw0⟩, ⟨gu1, gv1, rfl, ⟨rfl, gw1⟩, ⟨gu2, gv2, rfl, ⟨rfl, gw2⟩, ⟨gu3, gv3, rfl, ⟨rfl, gw3⟩, ⟨gA4, gc4, rfl, gl4, gm4, gr4⟩⟩⟩⟩⟩ := hq
  refine ⟨{ font := { sum := x0, design := x1, first := x2, chars := x3, widths := x4, heights := x5, depths := x6, italics := x7, steps := x8, kerns := x9, params := x10 }, size := y0, step := y1, up := y2, down := y3, traits := y4 },
    { font := { c := fA3, w := fA4, h := fA5, d := fA6, i := fA7, s := fA8, k := fA9, p := fA10, cc := fc3, cw := fc4, ch := fc5, cd := fc6, ci := fc7, cs := fc8, ck := fc9, cp := fc10 }, t := gA4, ct := gc4 }, arr_of hcs, ?_⟩
  exact ⟨⟨fw0, fw1, fw2, fr3, fr4, fr5, fr6, fr7, fr8, fr9, fr10, Nat.le_trans fl3 fm3, Nat.le_trans fl4 fm4, Nat.le_trans fl5 fm5, Nat.le_trans fl6 fm6, Nat.le_trans fl7 fm7, Nat.le_trans fl8 fm8, Nat.le_trans fl9 fm9, Nat.le_trans fl10 fm10⟩, gw0, gw1, gw2, gw3, gr4, Nat.le_trans gl4 gm4⟩

/-! ### Few of each -/
def fewF (d : FontD) : Bool := decide (d.chars.length ≤ 300) && decide (d.steps.length ≤ 300) && decide (d.widths.length ≤ 300) && decide (d.heights.length ≤ 300) && decide (d.depths.length ≤ 300) && decide (d.italics.length ≤ 300) && decide (d.kerns.length ≤ 300) && decide (d.params.length ≤ 300)
def fewB (d : FaceD) : Bool := fewF d.font && decide (d.traits.length ≤ 300)
set_option maxHeartbeats 2000000 in
theorem fewf_any (d : FontD) (a : FontA) (w : World) :
    Calls Tryz.prog 16 #[fontV d a] w fun e w' => e = .returned (.bool (fewF d)) ∧ Below w.heap.size w w' := by
  have hbx := Box.new w (fontCells d a) 26
  have hbw := (Below.refl w.heap.size w).alloc (Nat.le_refl _) (.cells (fontCells d a) 26)
  obtain ⟨W, hW⟩ : ∃ W, w.alloc (.cells (fontCells d a) 26) = W := ⟨_, rfl⟩
  rw [hW] at hbx hbw
  obtain ⟨c0, c1, c2, c3, c4, c5, c6, c7, c8, c9, c10⟩ := font_cells hbx
  obtain ⟨res, hres⟩ : ∃ r, Hid (fewF d = r) := ⟨_, Lib.hid rfl⟩
  have HR : Hid _ := Lib.hid hres.out
  rw [hres.out]
  unfold fewF at HR
  clear hres
  by_cases h0 : d.chars.length ≤ 300
  · have F0 : ((d.chars.length : Int) ≤ 300) = True := eq_true (by omega)
    by_cases h1 : d.steps.length ≤ 300
    · have F1 : ((d.steps.length : Int) ≤ 300) = True := eq_true (by omega)
      by_cases h2 : d.widths.length ≤ 300
      · have F2 : ((d.widths.length : Int) ≤ 300) = True := eq_true (by omega)
        by_cases h3 : d.heights.length ≤ 300
        · have F3 : ((d.heights.length : Int) ≤ 300) = True := eq_true (by omega)
          by_cases h4 : d.depths.length ≤ 300
          · have F4 : ((d.depths.length : Int) ≤ 300) = True := eq_true (by omega)
            by_cases h5 : d.italics.length ≤ 300
            · have F5 : ((d.italics.length : Int) ≤ 300) = True := eq_true (by omega)
              by_cases h6 : d.kerns.length ≤ 300
              · have F6 : ((d.kerns.length : Int) ≤ 300) = True := eq_true (by omega)
                by_cases h7 : d.params.length ≤ 300
                · have F7 : ((d.params.length : Int) ≤ 300) = True := eq_true (by omega)
                  go_enter Tryz.func16, Tryz.ntmps16
                  go_wp2_with fail
                  go_ret
                  exact ⟨ret_bool rfl (by rw [← HR.out]; simp; try omega), hbw⟩
                · have F7 : ((d.params.length : Int) ≤ 300) = False := eq_false (by omega)
                  go_enter Tryz.func16, Tryz.ntmps16
                  go_wp2_with fail
                  go_ret
                  exact ⟨ret_bool rfl (by rw [← HR.out]; simp; try omega), hbw⟩
              · have F6 : ((d.kerns.length : Int) ≤ 300) = False := eq_false (by omega)
                go_enter Tryz.func16, Tryz.ntmps16
                go_wp2_with fail
                go_ret
                exact ⟨ret_bool rfl (by rw [← HR.out]; simp; try omega), hbw⟩
            · have F5 : ((d.italics.length : Int) ≤ 300) = False := eq_false (by omega)
              go_enter Tryz.func16, Tryz.ntmps16
              go_wp2_with fail
              go_ret
              exact ⟨ret_bool rfl (by rw [← HR.out]; simp; try omega), hbw⟩
          · have F4 : ((d.depths.length : Int) ≤ 300) = False := eq_false (by omega)
            go_enter Tryz.func16, Tryz.ntmps16
            go_wp2_with fail
            go_ret
            exact ⟨ret_bool rfl (by rw [← HR.out]; simp; try omega), hbw⟩
        · have F3 : ((d.heights.length : Int) ≤ 300) = False := eq_false (by omega)
          go_enter Tryz.func16, Tryz.ntmps16
          go_wp2_with fail
          go_ret
          exact ⟨ret_bool rfl (by rw [← HR.out]; simp; try omega), hbw⟩
      · have F2 : ((d.widths.length : Int) ≤ 300) = False := eq_false (by omega)
        go_enter Tryz.func16, Tryz.ntmps16
        go_wp2_with fail
        go_ret
        exact ⟨ret_bool rfl (by rw [← HR.out]; simp; try omega), hbw⟩
    · have F1 : ((d.steps.length : Int) ≤ 300) = False := eq_false (by omega)
      go_enter Tryz.func16, Tryz.ntmps16
      go_wp2_with fail
      go_ret
      exact ⟨ret_bool rfl (by rw [← HR.out]; simp; try omega), hbw⟩
  · have F0 : ((d.chars.length : Int) ≤ 300) = False := eq_false (by omega)
    go_enter Tryz.func16, Tryz.ntmps16
    go_wp2_with fail
    go_ret
    exact ⟨ret_bool rfl (by rw [← HR.out]; simp; try omega), hbw⟩
theorem few_any (d : FaceD) (a : FaceA) (w : World) :
    Calls Tryz.prog 5 #[faceV d a] w fun e w' => e = .returned (.bool (fewB d)) ∧ Below w.heap.size w w' := by
  have hbx := Box.new w (faceCells d a) 29
  have hbw := (Below.refl w.heap.size w).alloc (Nat.le_refl _) (.cells (faceCells d a) 29)
  obtain ⟨W1, hW⟩ : ∃ W1, w.alloc (.cells (faceCells d a) 29) = W1 := ⟨_, rfl⟩
  rw [hW] at hbx hbw
  obtain ⟨⟨c0, c1, c2, c3, c4, c5, c6, c7, c8, c9, c10⟩, c11, c12, c13, c14, c15⟩ := face_cells hbx
  have H := Lib.hid (fewf_any d.font a.font W1)
  unfold fewB
  generalize fewF d.font = q at *
  go_enter Tryz.func5, Tryz.ntmps5
  go_wp2_with fail
  with_reducible refine H.out.mono ?_; rintro e w1 ⟨rfl, hb⟩
  have hw1 := hbw.trans (hb.mono hbw.size)
  have hbx1 := hbx.below hb
  clear hW H hb c0 c1 c2 c3 c4 c5 c6 c7 c8 c9 c10 c11 c12 c13 c14 c15 hbw hbx
  have c15 : w1.cell? ⟨w.heap.size, 15, none⟩ = some (.slice a.t d.traits.length a.ct) := hbx1.cell 15 rfl
  clear hbx1
  cases q with
  | false =>
    go_wp2_with fail
    go_ret
    exact ⟨ret_bool rfl (by simp), hw1⟩
  | true =>
    go_wp2_with fail
    go_ret
    exact ⟨ret_bool rfl (by simp; omega), hw1⟩
theorem small_few {d : FaceD} (h : fewB d = true) : SmallF d := by
  simp only [fewB, fewF, Bool.and_eq_true, decide_eq_true_eq] at h
  obtain ⟨⟨⟨⟨⟨⟨⟨⟨h1, h2⟩, h3⟩, h4⟩, h5⟩, h6⟩, h7⟩, h8⟩, h9⟩ := h
  exact ⟨by omega, by omega, by omega, six (show d.font.widths.length ≤ _ by omega) (show d.font.heights.length ≤ _ by omega) (show d.font.depths.length ≤ _ by omega) (show d.font.italics.length ≤ _ by omega) (show d.font.kerns.length ≤ _ by omega) (show d.font.params.length ≤ _ by omega)⟩
/-! ### How long glyphs are, added -/
def tOf (d : FaceD) (lev : Int) (xs : List (Int × Int)) : Int := (xs.map fun x => (tellS d 0 x.1 lev).1 + (tellS d 1 x.2 lev).1).sum
theorem tell_ok {d : FaceD} (hf : faceB d = true) {x : Int × Int} (h : hasB d.font x.1 = true ∧ fixB x.2 = true) (lev : Int) : (tellS d 0 x.1 lev).2 = 0 ∧ (tellS d 1 x.2 lev).2 = 0 := by
  constructor
  · show (widthV d x.1 lev).2 = 0
    rw [widthV, if_pos hf, if_pos h.1]
  · show (kernV d x.2 lev).2 = 0
    rw [kernV, hf, h.2]; rfl
theorem wsum_eq {d : FaceD} (hf : faceB d = true) (lev : Int) : ∀ (xs : List (Int × Int)) (acc : Int) (N : Nat), (∀ x ∈ xs, hasB d.font x.1 = true ∧ fixB x.2 = true) → acc.natAbs + xs.length * 30000000000000 ≤ N → N ≤ 4000000000000000000 → wsum d lev acc xs = some (acc + tOf d lev xs) ∧ (acc + tOf d lev xs).natAbs ≤ N
  | [], acc, N, hx, h, hN => by simp [wsum, tOf] at h ⊢; omega
  | x :: xs, acc, N, hx, h, hN => by
    have h1 : (tellS d 0 x.1 lev).1.natAbs ≤ 26843613108865 := width_abs hf x.1 lev
    have h2 : (tellS d 1 x.2 lev).1.natAbs ≤ 26910654865 := kern_abs hf x.2 lev
    rw [List.length_cons, Nat.add_mul] at h
    have e1 : wrap64 ((tellS d 0 x.1 lev).1 + (tellS d 1 x.2 lev).1) = (tellS d 0 x.1 lev).1 + (tellS d 1 x.2 lev).1 := wrap64_at (by omega)
    have e2 : wrap64 (acc + ((tellS d 0 x.1 lev).1 + (tellS d 1 x.2 lev).1)) = acc + ((tellS d 0 x.1 lev).1 + (tellS d 1 x.2 lev).1) := wrap64_at (by omega)
    obtain ⟨i1, i2⟩ := wsum_eq hf lev xs (acc + ((tellS d 0 x.1 lev).1 + (tellS d 1 x.2 lev).1)) N (fun y hy => hx y (by simp [hy])) (by omega) hN
    have e3 : tOf d lev (x :: xs) = ((tellS d 0 x.1 lev).1 + (tellS d 1 x.2 lev).1) + tOf d lev xs := by simp [tOf]
    rw [wsum, if_pos (tell_ok hf (hx x (by simp)) lev), e1, e2, i1, e3]
    rw [Int.add_assoc] at i2 ⊢
    exact ⟨rfl, i2⟩
theorem wide_eq {d : FaceD} (hf : faceB d = true) {s lev : Int} {G : List (List (Int × Int))} (hs : 0 ≤ s ∧ s ≤ 4194304) (hg : GlyOk d.font G) : wideS d s G lev = s * ((G.length : Int) - 1) + tOf d lev G.flatten ∧ (wideS d s G lev).natAbs ≤ 15001000000000000 := by
  have h1 := hg.one
  have hm := hg.most
  have hmax : max ((G.length : Int) - 1) 0 = (G.length : Int) - 1 := by omega
  have h2 : (s * ((G.length : Int) - 1)).natAbs ≤ 4194304 * 110 := mul_abs (by omega) (by omega)
  have hI : wideI s G.length = s * ((G.length : Int) - 1) := by rw [wideI, hmax, wrap64_at (by omega)]
  have hfl := hg.flat
  obtain ⟨i1, i2⟩ := wsum_eq hf lev G.flatten (s * ((G.length : Int) - 1)) 15001000000000000 (fun x hx => by
    obtain ⟨g, hg1, hg2⟩ := List.mem_flatten.1 hx
    exact hg.has g hg1 x hg2) (by omega) (by omega)
  rw [wideS, hI, i1]
  exact ⟨rfl, i2⟩
theorem t_app (d : FaceD) (lev : Int) (xs ys : List (Int × Int)) : tOf d lev (xs ++ ys) = tOf d lev xs + tOf d lev ys := by simp [tOf]
/-- Pieces, one behind the other. -/
theorem adds_eq {d : FaceD} (hf : faceB d = true) {s lev : Int} {X Y : List (List (Int × Int))} (hs : 0 ≤ s ∧ s < 4194304) (hX : GlyOk d.font X) (hY : GlyOk d.font Y) (hZ : GlyOk d.font (X ++ Y)) :
    wideS d s (X ++ Y) lev = wrap64 (wrap64 (wideS d s X lev + s) + wideS d s Y lev) ∧ wideS d s X lev = wrap64 (wideS d 0 X lev + wrap64 (s * ((X.length : Int) - 1))) := by
  obtain ⟨x1, x2⟩ := wide_eq hf (lev := lev) (show 0 ≤ s ∧ s ≤ 4194304 by omega) hX
  obtain ⟨y1, y2⟩ := wide_eq hf (lev := lev) (show 0 ≤ s ∧ s ≤ 4194304 by omega) hY
  obtain ⟨z1, z2⟩ := wide_eq hf (lev := lev) (show 0 ≤ s ∧ s ≤ 4194304 by omega) hZ
  obtain ⟨o1, o2⟩ := wide_eq hf (lev := lev) (show 0 ≤ (0 : Int) ∧ (0 : Int) ≤ 4194304 by omega) hX
  have m1 := hX.one
  have m2 := hX.most
  have h2 : (s * ((X.length : Int) - 1)).natAbs ≤ 4194304 * 110 := mul_abs (by omega) (by omega)
  refine ⟨?_, ?_⟩
  · rw [wrap64_at (x := wideS d s X lev + s) (by omega), wrap64_at (by omega), z1, x1, y1, List.flatten_append, t_app, List.length_append]
    push_cast
    have : s * ((X.length : Int) + (Y.length : Int) - 1) = s * ((X.length : Int) - 1) + s + s * ((Y.length : Int) - 1) := by
      rw [Int.mul_sub, Int.mul_sub, Int.mul_sub, Int.mul_add]; omega
    rw [this]
    omega
  · rw [wrap64_at (x := s * ((X.length : Int) - 1)) (by omega), wrap64_at (by omega), x1, o1]
    omega
end Go.Proofs.YtndpdbofoojkhaaGreat.Ft
