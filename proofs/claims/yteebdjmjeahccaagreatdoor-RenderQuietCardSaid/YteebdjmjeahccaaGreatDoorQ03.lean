/- Parts of the proof, one after the other. -/
import Derived.Test.YteebdjmjeahccaaGreatDoorQ02
set_option linter.unusedSimpArgs false
set_option linter.unusedVariables false
/- attr.single: its cases (made by gen_atA.py). -/
namespace Go.Proofs.YteebdjmjeahccaaGreatDoor
open Go.RowKit



end Go.Proofs.YteebdjmjeahccaaGreatDoor
