/- Parts of the proof, one after the other. -/
import Derived.Test.YteebdjmjeahccaaGreatDoorC38
import Derived.Test.YteebdjmjeahccaaGreatDoorC09
set_option linter.unusedSimpArgs false
set_option linter.unusedVariables false
namespace Go.Proofs.YteebdjmjeahccaaGreatDoor
open Go.RowKit
theorem Wc.same {w' : World} {g o : Nat} {cs : List C4} {sp : List Value} (h : w'.heap[g]? = some (.cells ((flat cs ++ sp).toArray.toList.take o ++ [] ++ (flat cs ++ sp).toArray.toList.drop (o + ([] : List Value).length)).toArray 70 (0,0))) : Wc w' g cs sp:=by
 unfold Wc
 rw [h]
 simp
end Go.Proofs.YteebdjmjeahccaaGreatDoor
