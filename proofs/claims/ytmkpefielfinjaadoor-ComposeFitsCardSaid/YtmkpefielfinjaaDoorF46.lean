/- Parts of the proof, one after the other. -/
import Derived.Test.YtmkpefielfinjaaDoorF40
import Derived.Test.YtmkpefielfinjaaDoorF41
import Derived.Test.YtmkpefielfinjaaDoorF07
import Derived.Test.YtmkpefielfinjaaDoorF34
import Derived.Test.YtmkpefielfinjaaDoorF12
import Derived.Test.YtmkpefielfinjaaDoorF45
set_option linter.unusedSimpArgs false
set_option linter.unusedVariables false
/- Lines without the spaces at their end; trim. -/
namespace Go.Proofs.YtmkpefielfinjaaDoor
open Go.RowKit Go.PlainAid

end Go.Proofs.YtmkpefielfinjaaDoor

/- The reference's Text, at grids of plain characters. -/
namespace Go.Proofs.YtmkpefielfinjaaDoor
open Go.RowKit

end Go.Proofs.YtmkpefielfinjaaDoor

/- Compose: the cells are valid; a row's text is the line of its job. -/
namespace Go.Proofs.YtmkpefielfinjaaDoor
open Go.RowKit

theorem rune_ok (x : Int) (h : 32 ≤ x ∧ x ≤ 126) : runeB x = true := decide_eq_true (.inl h)
theorem cell_ok (x : Int) (h : 32 ≤ x ∧ x ≤ 126) : cellB (x, 4, 0, 0) = true ∧ cellB (x, 0, 0, 0) = true := by
  unfold cellB
  simp only [rune_ok x h, Bool.true_and]
  exact ⟨rfl, rfl⟩
theorem jobF_ok (sts : List St) (first sh r c : Nat) : cellB (jobF sts first sh r c) = true ∧ 32 ≤ (jobF sts first sh r c).1 ∧ (jobF sts first sh r c).1 ≤ 126 := by
  have hb : 32 ≤ (if c < (lineS (sts.getD (first + r) st0) (decide (first + r = sh))).length then chrN (lineS (sts.getD (first + r) st0) (decide (first + r = sh))) c else 32) ∧ (if c < (lineS (sts.getD (first + r) st0) (decide (first + r = sh))).length then chrN (lineS (sts.getD (first + r) st0) (decide (first + r = sh))) c else 32) ≤ 126 := by
    split
    · rename_i h
      exact chrN_bd _ _ _ _ _ _ h
    · omega
  unfold jobF
  refine ⟨?_, hb⟩
  by_cases h : first + r = sh
  · rw [if_pos h]
    exact (cell_ok _ hb).1
  · rw [if_neg h]
    exact (cell_ok _ hb).2
theorem baseF_ok (kk : Nat) (sts : List St) (first sh r c : Nat) : cellB (baseF kk sts first sh r c) = true ∧ 32 ≤ (baseF kk sts first sh r c).1 ∧ (baseF kk sts first sh r c).1 ≤ 126 := by
  unfold baseF
  split
  · exact jobF_ok _ _ _ _ _
  · split
    · exact ⟨rfl, by decide, by decide⟩
    · exact ⟨rfl, by decide, by decide⟩
end Go.Proofs.YtmkpefielfinjaaDoor
