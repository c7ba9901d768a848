/- Parts of the proof, one after the other. -/
import Derived.Test.YtmkpefielfinjaaDoorQ27
set_option linter.unusedSimpArgs false
set_option linter.unusedVariables false
/- Scanners: the reference's csi: digit. -/
namespace Go.Proofs.YtmkpefielfinjaaDoor
open Go.RowKit
end Go.Proofs.YtmkpefielfinjaaDoor

/- Scanners: the reference's csi: colon. -/
namespace Go.Proofs.YtmkpefielfinjaaDoor
open Go.RowKit
end Go.Proofs.YtmkpefielfinjaaDoor

/- Scanners: the reference's csi: full, other. -/
namespace Go.Proofs.YtmkpefielfinjaaDoor
open Go.RowKit
end Go.Proofs.YtmkpefielfinjaaDoor
