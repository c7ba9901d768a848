/- Parts of the proof, one after the other. -/
import Derived.Test.YtmkpefielfinjaaDoorQ41
import Derived.Test.YtmkpefielfinjaaDoorQ39
import Derived.Test.YtmkpefielfinjaaDoorQ40
set_option linter.unusedSimpArgs false
set_option linter.unusedVariables false
/- Walk of the reference's prefix. -/
namespace Go.Proofs.YtmkpefielfinjaaDoor
open Go.RowKit

end Go.Proofs.YtmkpefielfinjaaDoor

/- Walk of the reference's prefix: the same plain function as the program's. -/
namespace Go.Proofs.YtmkpefielfinjaaDoor
open Go.RowKit

end Go.Proofs.YtmkpefielfinjaaDoor

/- Walk of the reference's prefix, Valid and Flush. -/
namespace Go.Proofs.YtmkpefielfinjaaDoor
open Go.RowKit

theorem Rd.drewN {α : Type} {f : α → Value} {w : World} {A : Option Addr} {n : Nat} {xs : List α} (h : Rd f w A n xs) (q : Nat) : Rd f (w.drewN q) A n xs := h.up BWX

end Go.Proofs.YtmkpefielfinjaaDoor
