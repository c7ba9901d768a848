/- Parts of the proof, one after the other. -/
import Derived.Test.YtmkpefielfinjaaDoorQ17
set_option linter.unusedSimpArgs false
set_option linter.unusedVariables false
/- Screens: the reference's control sequences, by their final bytes: 102. -/
namespace Go.Proofs.YtmkpefielfinjaaDoor
open Go.RowKit
end Go.Proofs.YtmkpefielfinjaaDoor

/- Screens: the reference's control sequences, by their final bytes: 76, 77. -/
namespace Go.Proofs.YtmkpefielfinjaaDoor
open Go.RowKit
end Go.Proofs.YtmkpefielfinjaaDoor

/- Screens: the reference's control sequences, by their final bytes: 83. -/
namespace Go.Proofs.YtmkpefielfinjaaDoor
open Go.RowKit
end Go.Proofs.YtmkpefielfinjaaDoor
