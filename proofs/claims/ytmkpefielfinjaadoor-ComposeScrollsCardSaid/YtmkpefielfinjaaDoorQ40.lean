/- Parts of the proof, one after the other. -/
import Derived.Test.YtmkpefielfinjaaDoorQ39
set_option linter.unusedSimpArgs false
set_option linter.unusedVariables false
/- Walk of runes.Decode: it is the plain function dec. -/
namespace Go.Proofs.YtmkpefielfinjaaDoor
open Go.RowKit

end Go.Proofs.YtmkpefielfinjaaDoor

/- Walk of runes.Decode where the rest is valid (made by gen_runG.py out of XRunF). -/
namespace Go.Proofs.YtmkpefielfinjaaDoor
open Go.RowKit

end Go.Proofs.YtmkpefielfinjaaDoor

/- runes.Decode whole, and runes.Flush. -/
namespace Go.Proofs.YtmkpefielfinjaaDoor
open Go.RowKit

end Go.Proofs.YtmkpefielfinjaaDoor
