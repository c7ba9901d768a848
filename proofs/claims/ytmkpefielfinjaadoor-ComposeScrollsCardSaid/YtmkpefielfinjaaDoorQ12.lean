/- Parts of the proof, one after the other. -/
import Derived.Test.YtmkpefielfinjaaDoorQ11
import Derived.Test.YtmkpefielfinjaaDoorQ06
import Derived.Laws.BitsLemmas
set_option linter.unusedSimpArgs false
set_option linter.unusedVariables false
/- ref17.Move returns what the plain function mv says. -/
namespace Go.Proofs.YtmkpefielfinjaaDoor
open Go.RowKit

end Go.Proofs.YtmkpefielfinjaaDoor

/- Attributes: one parameter in the reference. -/
namespace Go.Proofs.YtmkpefielfinjaaDoor
open Go.RowKit

end Go.Proofs.YtmkpefielfinjaaDoor

/- Attributes: one parameter in the reference is one parameter of the program. -/
namespace Go.Proofs.YtmkpefielfinjaaDoor
open Go.RowKit

end Go.Proofs.YtmkpefielfinjaaDoor
