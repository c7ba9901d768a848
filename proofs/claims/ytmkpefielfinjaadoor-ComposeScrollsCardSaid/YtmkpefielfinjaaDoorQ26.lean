/- Parts of the proof, one after the other. -/
import Derived.Test.YtmkpefielfinjaaDoorQ24
import Derived.Test.YtmkpefielfinjaaDoorQ25
set_option linter.unusedSimpArgs false
set_option linter.unusedVariables false
/- Screens: the reference's Apply: set, reset. -/
namespace Go.Proofs.YtmkpefielfinjaaDoor
open Go.RowKit
end Go.Proofs.YtmkpefielfinjaaDoor

/- Screens: the reference's Apply: nomode, nopriv, nokind. -/
namespace Go.Proofs.YtmkpefielfinjaaDoor
open Go.RowKit
end Go.Proofs.YtmkpefielfinjaaDoor

/- Screens: the reference's Apply keeps valid screens valid, at every operation. -/
namespace Go.Proofs.YtmkpefielfinjaaDoor
open Go.RowKit

end Go.Proofs.YtmkpefielfinjaaDoor
