/- Rows that are moved: the plain law. -/
import Derived.Test.YtbkfofmanpjbfaaBack8
namespace Go.Proofs.Ytbkfofmanpjbfaa.Bk
open Go.RowKit Go.Proofs.Ytbkfofmanpjbfaa.Kit Go.Proofs.Ytbkfofmanpjbfaa.Fo Go.Shelf
set_option linter.unusedVariables false
set_option linter.unusedSimpArgs false

def moveI (n : Int) (l : List (Int × Int)) : List (Int × Int) := l.mapIdx fun k p => (p.1, IntKind.i64.wrap (n * k))
/-- A row, moved. -/
def moveR (n : Int) (i : Nat) (r : RowD) : RowD := { level := IntKind.i64.wrap (r.level + n), kind := r.kind, fin := n, defect := i, items := moveI n r.items }
def moved (n : Int) (rows : List RowD) : List RowD := rows.mapIdx (moveR n)
theorem moved_len (n : Int) (rows : List RowD) : (moved n rows).length = rows.length := by simp [moved]
theorem moved_at {n : Int} {rows : List RowD} {i : Nat} {r : RowD} (h : rows[i]? = some r) : (moved n rows)[i]? = some (moveR n i r) := by simp [moved, h]
theorem moveI_len (n : Int) (l : List (Int × Int)) : (moveI n l).length = l.length := by simp [moveI]
theorem moveI_at {n : Int} {l : List (Int × Int)} {i : Nat} {p : Int × Int} (h : l[i]? = some p) : (moveI n l)[i]? = some (p.1, IntKind.i64.wrap (n * i)) := by simp [moveI, h]
theorem codes_moved (n : Int) (i : Nat) (r : RowD) : codesOf (moveR n i r) = codesOf r := by
  unfold codesOf moveR moveI
  apply List.ext_getElem?
  intro j
  simp only [List.getElem?_map, List.getElem?_mapIdx, Option.map_map]
  cases r.items[j]? <;> rfl
theorem line_moved (d : FontD) (n : Int) (i : Nat) (r : RowD) : lineP d (moveR n i r) = lineP d r := by unfold lineP; rw [codes_moved]
theorem bad_moved (d : FontD) (n : Int) (m j i : Nat) (r : RowD) : badR d m i (moveR n j r) = badR d m i r := by unfold badR; rw [line_moved]; rfl
theorem badN_moved (d : FontD) (n : Int) (m : Nat) : ∀ (i : Nat) (f : Nat → Nat) (rs : List RowD), badN d m i (rs.mapIdx fun k r => moveR n (f k) r) = badN d m i rs
  | i, f, [] => rfl
  | i, f, r :: rs => by
    rw [List.mapIdx_cons, badN, badN, bad_moved]
    have := badN_moved d n m (i + 1) (fun k => f (k + 1)) rs
    rw [← this]
theorem words_moved (d : FontD) (n : Int) (rows : List RowD) : wordsP d (moved n rows) = wordsP d rows := by
  have h1 : (moved n rows).map (lineP d) = rows.map (lineP d) := by
    apply List.ext_getElem?
    intro i
    rw [List.getElem?_map, List.getElem?_map]
    by_cases hi : i < rows.length
    · obtain ⟨r, hr⟩ := at_lt hi
      rw [moved_at hr, hr]
      simp [line_moved]
    · rw [List.getElem?_eq_none (by rw [moved_len]; omega), List.getElem?_eq_none (by omega)]
  have h2 : (moved n rows).map (·.kind) = rows.map (·.kind) := by
    apply List.ext_getElem?
    intro i
    rw [List.getElem?_map, List.getElem?_map]
    by_cases hi : i < rows.length
    · obtain ⟨r, hr⟩ := at_lt hi
      rw [moved_at hr, hr]
      rfl
    · rw [List.getElem?_eq_none (by rw [moved_len]; omega), List.getElem?_eq_none (by omega)]
  have h3 : badN d (moved n rows).length 0 (moved n rows) = badN d rows.length 0 rows := by
    rw [moved_len]
    exact badN_moved d n rows.length 0 (fun k => k) rows
  have h4 : (moved n rows).isEmpty = rows.isEmpty := by cases rows <;> simp [moved]
  unfold wordsP
  rw [h1, h2, h3, h4]
theorem text_moved (d : FontD) (n : Int) (rows : List RowD) : textV d (moved n rows) = textV d rows := by unfold textV; rw [words_moved]
theorem small_moved {n : Int} {rows : List RowD} (h : Small rows) : Small (moved n rows) :=
  ⟨by rw [moved_len]; exact h.1, fun q hq => by
    obtain ⟨i, hi⟩ := List.getElem?_of_mem hq
    have hlt : i < rows.length := by have := (List.getElem?_eq_some_iff.1 hi).1; rwa [moved_len] at this
    obtain ⟨r, hr⟩ := at_lt hlt
    rw [moved_at hr] at hi
    cases hi
    show (moveI n r.items).length ≤ 700
    rw [moveI_len]
    exact h.2 r (List.mem_of_getElem? hr)⟩

/-- A text of words, byte by byte, whatever their codes. -/
def joinB (ws : List (List Int)) : Nat → List Int
  | 0 => []
  | i + 1 => joinB ws i ++ sepW i ++ (ws.getD i []).map IntKind.u8.wrap
theorem wrap_plain {p : List Int} (h : p.all okC = true) : p.map IntKind.u8.wrap = p := by
  rw [List.all_eq_true] at h
  conv => rhs; rw [← List.map_id p]
  refine List.map_congr_left (fun c hc => ?_)
  have := h c hc
  unfold okC at this
  simp only [Bool.and_eq_true, decide_eq_true_eq] at this
  exact wrap_u8 this.1 this.2
theorem joinB_plain (ws : List (List Int)) : ∀ i, i ≤ ws.length → (∀ p ∈ ws.take i, p.all okC = true) → joinB ws i = joinN ws i
  | 0, _, _ => rfl
  | i + 1, h, hp => by
    have e : ws[i]? = some (ws.getD i []) := by rw [List.getD_eq_getElem?_getD, List.getElem?_eq_getElem (by omega)]; rfl
    rw [take_one e] at hp
    rw [joinB, joinN, joinB_plain ws i (by omega) (fun p h => hp p (List.mem_append_left _ h)), wrap_plain (hp _ (List.mem_append_right _ (List.mem_singleton.2 rfl)))]
theorem joinB_len (ws : List (List Int)) : ∀ i, i ≤ ws.length → (joinB ws i).length ≤ sumL (ws.take i) + i
  | 0, _ => by simp [joinB]
  | i + 1, h => by
    have ih := joinB_len ws i (by omega)
    have e : ws[i]? = some (ws.getD i []) := by rw [List.getD_eq_getElem?_getD, List.getElem?_eq_getElem (by omega)]; rfl
    have h1 := sumL_take e
    have h2 : (sepW i).length ≤ 1 := by unfold sepW; split <;> simp
    simp only [joinB, List.length_append, List.length_map]
    omega
end Go.Proofs.Ytbkfofmanpjbfaa.Bk
