/- Parts of the proof, one after the other. -/
import Derived.Test.YtmkpefielfinjaaDoorQ23
import Derived.Test.YtmkpefielfinjaaDoorQ18
import Derived.Test.YtmkpefielfinjaaDoorQ19
import Derived.Test.YtmkpefielfinjaaDoorQ20
import Derived.Test.YtmkpefielfinjaaDoorQ21
import Derived.Test.YtmkpefielfinjaaDoorQ22
set_option linter.unusedSimpArgs false
set_option linter.unusedVariables false
/- Screens: the reference's control sequences, final byte 75. -/
namespace Go.Proofs.YtmkpefielfinjaaDoor
open Go.RowKit
end Go.Proofs.YtmkpefielfinjaaDoor

/- Screens: the reference's control sequences, final byte 114. -/
namespace Go.Proofs.YtmkpefielfinjaaDoor
open Go.RowKit
end Go.Proofs.YtmkpefielfinjaaDoor

/- Screens: the reference's control sequences, at every final byte; its test of parameters. -/
namespace Go.Proofs.YtmkpefielfinjaaDoor
open Go.RowKit

end Go.Proofs.YtmkpefielfinjaaDoor
