/- Walk of the reference's prefix. -/
import Derived.Test.YtagihjchhpiipaaRunK
set_option linter.unusedSimpArgs false
set_option linter.unusedVariables false
namespace Go.Proofs.Ytagihjchhpiipaa
open Go.RowKit

theorem ret_bool2 {a b c d : Bool} (h : a = b) (h2 : c = d) : Ending.returned (.tuple #[.bool a, .bool c]) = .returned (.tuple #[.bool b, .bool d]) := by rw [h, h2]

theorem refprefix_long (g o n cap : Nat) (b : Int) (w : World) (h0 : w.cell? ⟨g, o, none⟩ = some (.int .u8 b)) (hn : 0 < n) (hl : rsize b < n) (hs : 0 ≤ rsize b) :
    Calls Try.prog 28 #[.slice (some ⟨g, o, none⟩) n cap] w fun e w' => e = .returned (.tuple #[.bool false, .bool false]) ∧ w = w' := by
  have e1 : (0 : Int) < n := by omega
  by_cases hz : rsize b = 0
  · have HZ := Lib.hid hz
    clear hz hl hs
    go_enter Try.func28, Try.ntmps28
    go_wp2_with (go_at_call 33; refine (refsize_any _ _).mono ?_; rintro ee ww ⟨rfl, rfl⟩; rw [HZ.out])
    go_ret2
    exact ⟨rfl, rfl⟩
  · have e2 : (rsize b == 0) = false := by rw [beq_eq_false_iff_ne]; exact hz
    have hl' : rsize b < (n : Int) := hl
    go_enter Try.func28, Try.ntmps28
    go_wp2_with (go_at_call 33; refine (refsize_any _ _).mono ?_; rintro ee ww ⟨rfl, rfl⟩)
    go_ret2
    exact ⟨rfl, rfl⟩
theorem refprefix_nil (A : Option Addr) (cap : Nat) (w : World) :
    Calls Try.prog 28 #[.slice A 0 cap] w fun e w' => e = .returned (.tuple #[.bool false, .bool false]) ∧ w = w' := by
  go_enter Try.func28, Try.ntmps28
  go_wp2
  go_ret2
  exact ⟨rfl, rfl⟩
end Go.Proofs.Ytagihjchhpiipaa
