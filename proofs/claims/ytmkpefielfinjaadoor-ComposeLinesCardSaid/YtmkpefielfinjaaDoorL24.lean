/- Parts of the proof, one after the other. -/
import Derived.Test.YtmkpefielfinjaaDoorL23
import Derived.Test.YtmkpefielfinjaaDoorL18
import Derived.Test.YtmkpefielfinjaaDoorL19
import Derived.Test.YtmkpefielfinjaaDoorL20
import Derived.Test.YtmkpefielfinjaaDoorL21
import Derived.Test.YtmkpefielfinjaaDoorL22
set_option linter.unusedSimpArgs false
set_option linter.unusedVariables false
/- Screens: the reference's control sequences, final byte 75. -/
namespace Go.Proofs.YtmkpefielfinjaaDoor
open Go.RowKit
end Go.Proofs.YtmkpefielfinjaaDoor

/- Screens: the reference's control sequences, final byte 114. -/
namespace Go.Proofs.YtmkpefielfinjaaDoor
open Go.RowKit
end Go.Proofs.YtmkpefielfinjaaDoor

/- Screens: the reference's control sequences, at every final byte; its test of parameters. -/
namespace Go.Proofs.YtmkpefielfinjaaDoor
open Go.RowKit

end Go.Proofs.YtmkpefielfinjaaDoor
