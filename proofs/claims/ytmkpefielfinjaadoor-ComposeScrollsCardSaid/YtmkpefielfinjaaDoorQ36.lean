/- Parts of the proof, one after the other. -/
import Derived.Test.YtmkpefielfinjaaDoorQ35
set_option linter.unusedSimpArgs false
set_option linter.unusedVariables false
/- Scanners: the reference's Next: 1x91, 1x80, 1x88, 1str. -/
namespace Go.Proofs.YtmkpefielfinjaaDoor
open Go.RowKit
end Go.Proofs.YtmkpefielfinjaaDoor

/- Scanners: the reference's Next: 1skip, 1esc, 2a, 2b. -/
namespace Go.Proofs.YtmkpefielfinjaaDoor
open Go.RowKit
end Go.Proofs.YtmkpefielfinjaaDoor

/- Scanners: the reference's Next: 4a, 4b, 5x24, 5x26, 5x27. -/
namespace Go.Proofs.YtmkpefielfinjaaDoor
open Go.RowKit
end Go.Proofs.YtmkpefielfinjaaDoor
