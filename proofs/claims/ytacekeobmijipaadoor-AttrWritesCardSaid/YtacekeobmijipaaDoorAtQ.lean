/- Attributes: parameters keep attributes valid. -/
import Derived.Test.YtacekeobmijipaaDoorAtG
import Derived.Test.YtacekeobmijipaaDoorAtP
set_option linter.unusedSimpArgs false
set_option linter.unusedVariables false
namespace Go.Proofs.YtacekeobmijipaaDoor
open Go.RowKit

theorem ext_col (t : List Int) : 0 ≤ (ext t).2 ∧ (ext t).2 ≤ 16 := by
  match t with
  | [] => exact ⟨Int.le_refl _, by decide⟩
  | [x] => unfold ext; dsimp only; split <;> exact ⟨by decide, by decide⟩
  | x :: y :: r =>
    unfold ext
    dsimp only
    by_cases h5 : x = 5
    · rw [if_pos h5]
      dsimp only
      split <;> omega
    · rw [if_neg h5]
      split <;> (dsimp only; omega)
theorem setc_valid (p c : Int) (a : Int × Int × Int) (hc : 0 ≤ c ∧ c ≤ 16) (h : avB a.1 a.2.1 a.2.2 = true) : avB (setc p c a).1 (setc p c a).2.1 (setc p c a).2.2 = true := by
  have hv : 0 ≤ a.1 ∧ a.1 ≤ 7 ∧ 0 ≤ a.2.1 ∧ a.2.1 ≤ 16 ∧ 0 ≤ a.2.2 ∧ a.2.2 ≤ 16 := of_decide_eq_true h
  have hA : AV (setc p c a) := by
    unfold setc
    refine AV.ite (fun hc => ⟨⟨hv.1, hv.2.1⟩, ⟨hv.2.2.1, hv.2.2.2.1⟩, hv.2.2.2.2⟩) (fun hc => AV.ite (fun hc => ?_) (fun hc => ?_))
    all_goals (refine ⟨?_, ?_, ?_⟩ <;> dsimp only <;> omega)
  generalize setc p c a = s at hA
  unfold AV at hA
  unfold avB
  apply decide_eq_true
  omega
theorem appl_valid : ∀ (k : Nat) (t : List Int) (a : Int × Int × Int), avB a.1 a.2.1 a.2.2 = true → avB (appl k t a).1 (appl k t a).2.1 (appl k t a).2.2 = true
  | 0, _, a, h => h
  | k + 1, [], a, h => h
  | k + 1, p :: t, a, h => by
    unfold appl
    split
    · exact appl_valid k _ _ (setc_valid _ _ _ (ext_col t) h)
    · exact appl_valid k _ _ (single_valid _ _ _ _ h)
theorem applA_keeps (t : List Int) (a : Int × Int × Int) (h : avB a.1 a.2.1 a.2.2 = true) : avB (applA t a).1 (applA t a).2.1 (applA t a).2.2 = true := appl_valid _ t a h
end Go.Proofs.YtacekeobmijipaaDoor
