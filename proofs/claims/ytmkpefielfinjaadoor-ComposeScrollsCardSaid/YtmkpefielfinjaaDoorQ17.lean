/- Parts of the proof, one after the other. -/
import Derived.Test.YtmkpefielfinjaaDoorQ16
set_option linter.unusedSimpArgs false
set_option linter.unusedVariables false
/- Screens: the reference's escape. -/
namespace Go.Proofs.YtmkpefielfinjaaDoor
open Go.RowKit

end Go.Proofs.YtmkpefielfinjaaDoor

/- Screens: the reference's modes. -/
namespace Go.Proofs.YtmkpefielfinjaaDoor
open Go.RowKit

/-- The screen with other modes. -/
def Scr.md (s : Scr) (p q : Bool) : Scr := { s with hid := p, now := q }
theorem Scr.Ok.md {w : World} {s : Scr} (h : s.Ok w) (p q : Bool) : (s.md p q).Ok w := h

end Go.Proofs.YtmkpefielfinjaaDoor

/- Screens: the reference's control sequences. -/
namespace Go.Proofs.YtmkpefielfinjaaDoor
open Go.RowKit

end Go.Proofs.YtmkpefielfinjaaDoor
