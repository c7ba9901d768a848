/- The sanity check of the cursor's laws answers true. -/
import Derived.Test.YtnfddakginimkaaCurB
import Derived.Test.YtnfddakginimkaaCurL
set_option linter.unusedSimpArgs false
set_option linter.unusedVariables false
namespace Go.Proofs.Ytnfddakginimkaa
open Go.RowKit

set_option maxRecDepth 100000 in
set_option maxHeartbeats 4000000 in
theorem sane17b_any (w : World) : Calls Try.prog 6 #[] w fun e w' => e = .returned (.bool true) ∧ Bw w w' := by
  have e1 : mv 0 3 false 8 2 0 0 1 40 = (0, 16, false) := by decide
  have e2 : vldB 0 3 1 4 = true := by decide
  have H1 := Lib.hid e1
  have H2 := Lib.hid e2
  clear e1 e2
  go_enter Try.func6, Try.ntmps6
  go_wp2_with (first | (go_at_call 9; refine (cmove_any _ _ _ _ _ _ _ _ _ _ (by omega) (by omega) (by omega)).mono ?_; rintro ee ww ⟨rfl, hb1⟩; (first | obtain ⟨L1, d1, rfl⟩ := Bw.isPlus (Bw.un hb1) | obtain ⟨L1, d1, rfl⟩ := Bw.isPlus hb1); clear hb1; rw [H1.out]; dsimp only [curV]) | (go_at_call 11; refine (cvalid_any _ _ _ _ _ _).mono ?_; rintro ee ww ⟨rfl, rfl⟩; rw [H2.out]))
  go_ret
  exact ⟨rfl, (by repeat (first | with_reducible assumption | with_reducible exact Bw.refl _ | with_reducible refine Bw.alloc ?_ _ | with_reducible refine Bw.more ?_ _ _ | with_reducible refine Bw.drew ?_ | with_reducible refine Bw.drewN ?_ _ | ((with_reducible refine Bw.set2 ?_ ?_ _); (focus (first | omega | (simp only [szA, szS, szD, szN, plus_size] <;> omega)))) | with_reducible refine Bw.trans ?_ (by with_reducible assumption)))⟩

end Go.Proofs.Ytnfddakginimkaa
