/- Parts of the proof, one after the other. -/
import Derived.Test.YtmkpefielfinjaaDoorQ27
set_option linter.unusedSimpArgs false
set_option linter.unusedVariables false
/- Scanners: the reference's csi: priv, noprivA. -/
namespace Go.Proofs.YtmkpefielfinjaaDoor
open Go.RowKit
end Go.Proofs.YtmkpefielfinjaaDoor

/- Scanners: the reference's csi: noprivB, noprivC. -/
namespace Go.Proofs.YtmkpefielfinjaaDoor
open Go.RowKit
end Go.Proofs.YtmkpefielfinjaaDoor

/- Scanners: the reference's csi: final. -/
namespace Go.Proofs.YtmkpefielfinjaaDoor
open Go.RowKit
end Go.Proofs.YtmkpefielfinjaaDoor
