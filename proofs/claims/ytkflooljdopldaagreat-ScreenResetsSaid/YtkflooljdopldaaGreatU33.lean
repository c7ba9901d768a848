/- Parts of the proof, one after the other. -/
import Derived.Test.YtkflooljdopldaaGreatU32
set_option linter.unusedSimpArgs false
set_option linter.unusedVariables false
/- Walk of runes.Decode where the rest is valid (made by gen_runG.py out of XRunF). -/
namespace Go.Proofs.YtkflooljdopldaaGreat
open Go.RowKit

end Go.Proofs.YtkflooljdopldaaGreat

/- runes.Decode whole, and runes.Flush. -/
namespace Go.Proofs.YtkflooljdopldaaGreat
open Go.RowKit

def restB (r0 : List Int) : List Int := if validB r0 then r0 else []
end Go.Proofs.YtkflooljdopldaaGreat

/- Walk of runes.Encode. -/
namespace Go.Proofs.YtkflooljdopldaaGreat
open Go.RowKit

theorem and63 (r : Int) (h0 : 0 ≤ r) (h1 : r ≤ 1114111) : bits .and .i64 r 63 = r % 64 := bits_mask .i64 63 (by decide) wraps_i64 6 (by decide) r h0 (by omega)
end Go.Proofs.YtkflooljdopldaaGreat
