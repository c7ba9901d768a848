/- Parts of the proof, one after the other. -/
import Derived.Test.YteebdjmjeahccaaGreatDoorW34
import Derived.Laws.CopyRow
set_option linter.unusedSimpArgs false
set_option linter.unusedVariables false
namespace Go.Proofs.YteebdjmjeahccaaGreatDoor
open Go.RowKit
end Go.Proofs.YteebdjmjeahccaaGreatDoor
