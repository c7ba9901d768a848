/- Walks of the reference's Valid and Right. -/
import Derived.Test.YtnfddakginimkaaCurA
set_option linter.unusedSimpArgs false
set_option linter.unusedVariables false
namespace Go.Proofs.Ytnfddakginimkaa
open Go.RowKit

theorem rvalid_any (r c rows cols : Int) (b : Bool) (w : World) :
    Calls Try.prog 12 #[.agg #[.int .i64 r, .int .i64 c, .bool b], .int .i64 rows, .int .i64 cols] w fun e w' => e = .returned (.bool (vldB r c rows cols)) ∧ w.alloc (.cells #[.int .i64 r, .int .i64 c, .bool b] 24) = w' := by
  go_enter Try.func12, Try.ntmps12
  go_wp2
  all_goals go_ret
  all_goals refine ⟨ret_bool ?_, rfl⟩
  all_goals (rw [Bool.eq_iff_iff]; simp [vldB]; omega)

theorem rright_any (t b rows : Int) (w : World) :
    Calls Try.prog 18 #[.agg #[.int .i64 t, .int .i64 b], .int .i64 rows] w fun e w' => e = .returned (.bool (rgtB t b rows)) ∧ w.alloc (.cells #[.int .i64 t, .int .i64 b] 26) = w' := by
  go_enter Try.func18, Try.ntmps18
  go_wp2
  all_goals go_ret
  all_goals refine ⟨ret_bool ?_, rfl⟩
  all_goals (rw [Bool.eq_iff_iff]; simp [rgtB]; omega)

end Go.Proofs.Ytnfddakginimkaa
