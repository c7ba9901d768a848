/- Parts of the proof, one after the other. -/
import Derived.Test.YtmkpefielfinjaaDoorQ24
set_option linter.unusedSimpArgs false
set_option linter.unusedVariables false
/- Screens: the reference's Apply: put, noput. -/
namespace Go.Proofs.YtmkpefielfinjaaDoor
open Go.RowKit
end Go.Proofs.YtmkpefielfinjaaDoor

/- Screens: the reference's Apply: control, escape. -/
namespace Go.Proofs.YtmkpefielfinjaaDoor
open Go.RowKit
end Go.Proofs.YtmkpefielfinjaaDoor

/- Screens: the reference's Apply: improper, csi. -/
namespace Go.Proofs.YtmkpefielfinjaaDoor
open Go.RowKit
end Go.Proofs.YtmkpefielfinjaaDoor
