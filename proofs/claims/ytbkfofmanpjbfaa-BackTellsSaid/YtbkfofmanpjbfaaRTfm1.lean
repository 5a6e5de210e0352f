/- The reference's fonts: places, and tables of fixes. -/
import Derived.Test.YtbkfofmanpjbfaaFont6
namespace Go.Proofs.Ytbkfofmanpjbfaa.RFo
open Go.RowKit Go.Proofs.Ytbkfofmanpjbfaa.Kit Go.Proofs.Ytbkfofmanpjbfaa.Fo
set_option linter.unusedVariables false
set_option linter.unusedSimpArgs false

theorem in_any (n m : Int) (w : World) :
    Calls Try.prog 42 #[.int .i64 n, .int .i64 m] w fun e w' => e = .returned (.bool (ofB n m)) ∧ w = w' := by
  unfold ofB
  by_cases h : 0 ≤ n
  · go_enter Try.func42, Try.ntmps42
    go_wp2
    go_ret
    exact ⟨ret_bool rfl (by simp [h]), rfl⟩
  · go_enter Try.func42, Try.ntmps42
    go_wp2
    go_ret
    exact ⟨ret_bool rfl (by simp; omega), rfl⟩

set_option maxHeartbeats 1000000 in
theorem fixes_any (A : Option Addr) (c : Nat) (l : List Int) (least most : Int) (nought : Bool) (h0 : 0 ≤ least) (hno : nought = !decide (least = 0)) (w : World) {B : Nat} (hB : B ≤ w.heap.size) (hx : Row (Rep.int .i64) w B A l) (hl : l.length ≤ 9223372036854775807) :
    Calls Try.prog 43 #[.slice A l.length c, .int .i64 least, .int .i64 most, .bool nought] w fun e w' => e = .returned (.bool (tableB l least most)) ∧ Below w.heap.size w w' := by
  obtain ⟨res, hres⟩ : ∃ r, Hid (tableB l least most = r) := ⟨_, Lib.hid rfl⟩
  rw [hres.out]
  have HE : Hid _ := Lib.hid hres.out
  clear hres
  unfold tableB at HE
  have HX := Lib.hid hx
  by_cases h1 : least ≤ l.length
  · have F1 : ((l.length : Int) < least) = False := eq_false (by omega)
    by_cases h2 : (l.length : Int) ≤ most
    · have F2 : ((l.length : Int) > most) = False := eq_false (by omega)
      by_cases h3 : least = 0
      · subst h3
        have HR : Hid ((!(l.any fun n => !fixB n)) = res) := Lib.hid (by rw [← HE.out]; simp [h2])
        subst hno
        clear HE h1 h2 hx
        go_enter Try.func43, Try.ntmps43
        go_wp2_with fail
        go_loop [9] (fun i => ∃ k : Nat, k ≤ l.length ∧ i = .int .i64 k ∧ Hid ((l.any fun n => !fixB n) = ((l.drop k).any fun n => !fixB n))) (fun i => l.length - (intOf i).toNat)
        case atStart => exact ⟨0, by omega, rfl, Lib.hid (by simp)⟩
        case round =>
          obtain ⟨k, hk, rfl, HS⟩ := hrel
          by_cases hlt : k < l.length
          · obtain ⟨y, hy⟩ := at_lt hlt
            obtain ⟨b', o', hA, hb', hcy, _⟩ := int_at HX.out hy
            subst hA
            have HD := Lib.hid (drop_cons hy)
            clear hy
            by_cases g1 : y < -16777216
            · have HQ : Hid (false = res) := Lib.hid (by rw [← HR.out, HS.out, HD.out]; simp [fixB]; omega)
              clear HR HS HD
              go_wp2_with fail
              go_ret
              exact ⟨ret_bool rfl HQ.out, Below.refl _ _⟩
            · by_cases g2 : y > 16777215
              · have HQ : Hid (false = res) := Lib.hid (by rw [← HR.out, HS.out, HD.out]; simp [fixB]; omega)
                clear HR HS HD
                go_wp2_with fail
                go_ret
                exact ⟨ret_bool rfl HQ.out, Below.refl _ _⟩
              · have HN : Hid ((l.any fun n => !fixB n) = ((l.drop (k + 1)).any fun n => !fixB n)) := Lib.hid (by rw [HS.out, HD.out]; simp [fixB]; omega)
                clear HS HD
                go_wp2_with fail
                go_round
                case rel => exact ⟨k + 1, by omega, by go_num, HN⟩
                case measure => simp [intOf]; omega
          · have HQ : Hid (true = res) := Lib.hid (by rw [← HR.out, HS.out, List.drop_eq_nil_of_le (by omega)]; rfl)
            clear HR HS
            go_wp2_with fail
            go_ret
            exact ⟨ret_bool rfl HQ.out, Below.refl _ _⟩
      · have hn : nought = true := by rw [hno]; simp [h3]
        subst hn
        obtain ⟨x, hx0⟩ := at_lt (l := l) (i := 0) (by omega)
        obtain ⟨b, o, rfl, hbb, hc, _⟩ := int_at hx hx0
        have hc : w.cell? ⟨b, o, none⟩ = some (.int .i64 x) := hc
        have F3 : ((l.length : Int) == 0) = false := by simp only [beq_eq_false_iff_ne]; omega
        by_cases h4 : x = 0
        · have HR : Hid ((!(l.any fun n => !fixB n)) = res) := Lib.hid (by rw [← HE.out]; simp [h1, h2, List.getD_eq_getElem?_getD, hx0, h4])
          subst h4
          have h5 : 0 < l.length := by omega
          clear HE h1 h2 h3 hx hx0 hno
          go_enter Try.func43, Try.ntmps43
          go_wp2_with fail
          go_loop [9] (fun i => ∃ k : Nat, k ≤ l.length ∧ i = .int .i64 k ∧ Hid ((l.any fun n => !fixB n) = ((l.drop k).any fun n => !fixB n))) (fun i => l.length - (intOf i).toNat)
          case atStart => exact ⟨0, by omega, rfl, Lib.hid (by simp)⟩
          case round =>
            obtain ⟨k, hk, rfl, HS⟩ := hrel
            by_cases hlt : k < l.length
            · obtain ⟨y, hy⟩ := at_lt hlt
              obtain ⟨b', o', hA, hb', hcy, _⟩ := int_at HX.out hy
              cases hA
              have HD := Lib.hid (drop_cons hy)
              clear hy
              by_cases g1 : y < -16777216
              · have HQ : Hid (false = res) := Lib.hid (by rw [← HR.out, HS.out, HD.out]; simp [fixB]; omega)
                clear HR HS HD
                go_wp2_with fail
                go_ret
                exact ⟨ret_bool rfl HQ.out, Below.refl _ _⟩
              · by_cases g2 : y > 16777215
                · have HQ : Hid (false = res) := Lib.hid (by rw [← HR.out, HS.out, HD.out]; simp [fixB]; omega)
                  clear HR HS HD
                  go_wp2_with fail
                  go_ret
                  exact ⟨ret_bool rfl HQ.out, Below.refl _ _⟩
                · have HN : Hid ((l.any fun n => !fixB n) = ((l.drop (k + 1)).any fun n => !fixB n)) := Lib.hid (by rw [HS.out, HD.out]; simp [fixB]; omega)
                  clear HS HD
                  go_wp2_with fail
                  go_round
                  case rel => exact ⟨k + 1, by omega, by go_num, HN⟩
                  case measure => simp [intOf]; omega
            · have HQ : Hid (true = res) := Lib.hid (by rw [← HR.out, HS.out, List.drop_eq_nil_of_le (by omega)]; rfl)
              clear HR HS
              go_wp2_with fail
              go_ret
              exact ⟨ret_bool rfl HQ.out, Below.refl _ _⟩
        · have HR : Hid (false = res) := Lib.hid (by rw [← HE.out]; simp [h3, List.getD_eq_getElem?_getD, hx0, h4])
          have F4 : (x != 0) = true := by simpa using h4
          have h5 : 0 < l.length := by omega
          clear HE h1 h2 h3 hx hx0 hno h4 HX
          go_enter Try.func43, Try.ntmps43
          go_wp2_with fail
          go_ret
          exact ⟨ret_bool rfl HR.out, Below.refl _ _⟩
    · have F2 : ((l.length : Int) > most) = True := eq_true (by omega)
      have HR : Hid (false = res) := Lib.hid (by rw [← HE.out]; simp [h2])
      clear HE h1 h2 hx HX hno
      go_enter Try.func43, Try.ntmps43
      go_wp2_with fail
      go_ret
      exact ⟨ret_bool rfl HR.out, Below.refl _ _⟩
  · have F1 : ((l.length : Int) < least) = True := eq_true (by omega)
    have HR : Hid (false = res) := Lib.hid (by rw [← HE.out]; simp [h1])
    clear HE h1 hx HX hno
    go_enter Try.func43, Try.ntmps43
    go_wp2_with fail
    go_ret
    exact ⟨ret_bool rfl HR.out, Below.refl _ _⟩
end Go.Proofs.Ytbkfofmanpjbfaa.RFo
