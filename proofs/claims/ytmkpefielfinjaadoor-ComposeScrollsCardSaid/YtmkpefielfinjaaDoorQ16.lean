/- Parts of the proof, one after the other. -/
import Derived.Test.YtmkpefielfinjaaDoorQ15
set_option linter.unusedSimpArgs false
set_option linter.unusedVariables false
/- Screens: the reference's lines, clear. -/
namespace Go.Proofs.YtmkpefielfinjaaDoor
open Go.RowKit

end Go.Proofs.YtmkpefielfinjaaDoor

/- Screens: the reference's erase, or, proper, modes. -/
namespace Go.Proofs.YtmkpefielfinjaaDoor
open Go.RowKit

end Go.Proofs.YtmkpefielfinjaaDoor

/- Screens: the reference's new screen. -/
namespace Go.Proofs.YtmkpefielfinjaaDoor
open Go.RowKit

theorem sb1 {w w1 : World} {a : Array Value} {T : TypeId} (h : w.alloc (.cells a T) = w1) : Sb w1 w.heap.size a T ∧ Bw w w1 ∧ w1.heap.size = w.heap.size + 1 := by
  subst h
  exact ⟨heap_at rfl, BWX, by simp⟩

end Go.Proofs.YtmkpefielfinjaaDoor
