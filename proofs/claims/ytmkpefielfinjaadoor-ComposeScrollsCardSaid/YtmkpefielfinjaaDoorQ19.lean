/- Parts of the proof, one after the other. -/
import Derived.Test.YtmkpefielfinjaaDoorQ17
set_option linter.unusedSimpArgs false
set_option linter.unusedVariables false
/- Screens: the reference's control sequences, by their final bytes: 70. -/
namespace Go.Proofs.YtmkpefielfinjaaDoor
open Go.RowKit
end Go.Proofs.YtmkpefielfinjaaDoor

/- Screens: the reference's control sequences, by their final bytes: 71, 96, 100. -/
namespace Go.Proofs.YtmkpefielfinjaaDoor
open Go.RowKit
end Go.Proofs.YtmkpefielfinjaaDoor

/- Screens: the reference's control sequences, by their final bytes: 72. -/
namespace Go.Proofs.YtmkpefielfinjaaDoor
open Go.RowKit
end Go.Proofs.YtmkpefielfinjaaDoor
