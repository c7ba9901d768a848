/- Parts of the proof, one after the other. -/
import Derived.Test.YtmkpefielfinjaaDoorQ35
import Derived.Test.YtmkpefielfinjaaDoorQ36
set_option linter.unusedSimpArgs false
set_option linter.unusedVariables false
/- Scanners: the reference's Next: 5x7, 5s, 6x24, 6x26, 6x27, 6x92. -/
namespace Go.Proofs.YtmkpefielfinjaaDoor
open Go.RowKit
end Go.Proofs.YtmkpefielfinjaaDoor

/- Scanners: the reference's Next: the end of an escape sequence. -/
namespace Go.Proofs.YtmkpefielfinjaaDoor
open Go.RowKit
end Go.Proofs.YtmkpefielfinjaaDoor

/- Scanners: the reference's Next: at every valid scanner and character. -/
namespace Go.Proofs.YtmkpefielfinjaaDoor
open Go.RowKit
end Go.Proofs.YtmkpefielfinjaaDoor
