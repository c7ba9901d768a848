/- Parts of the proof, one after the other. -/
import Derived.Test.YtmkpefielfinjaaDoorF42
set_option linter.unusedSimpArgs false
set_option linter.unusedVariables false
/- The program's slide: the plain law. -/
namespace Go.Proofs.YtmkpefielfinjaaDoor
open Go.RowKit

end Go.Proofs.YtmkpefielfinjaaDoor

/- The program's slide. -/
namespace Go.Proofs.YtmkpefielfinjaaDoor
open Go.RowKit

theorem infoCs : (Tryd.prog.info? 64).map (·.size) = some 4 := by kernel_rfl
end Go.Proofs.YtmkpefielfinjaaDoor

/- The program's slide, where all the places are left. -/
namespace Go.Proofs.YtmkpefielfinjaaDoor
open Go.RowKit

theorem Wc.same {w' : World} {g o : Nat} {cs : List C4} {sp : List Value} (h : w'.heap[g]? = some (.cells ((flat cs ++ sp).toArray.toList.take o ++ [] ++ (flat cs ++ sp).toArray.toList.drop (o + ([] : List Value).length)).toArray 64 (0, 0))) : Wc w' g cs sp := by
  unfold Wc
  rw [h]
  simp
end Go.Proofs.YtmkpefielfinjaaDoor
