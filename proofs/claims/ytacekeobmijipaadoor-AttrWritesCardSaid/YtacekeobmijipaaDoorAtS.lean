/- attr.single: its cases (made by gen_atA.py). -/
import Derived.Test.YtacekeobmijipaaDoorAtS1
import Derived.Test.YtacekeobmijipaaDoorAtS2
set_option linter.unusedSimpArgs false
set_option linter.unusedVariables false
namespace Go.Proofs.YtacekeobmijipaaDoor
open Go.RowKit

theorem single_any (f g b p : Int) (w : World) : Calls Tryd.prog 25 #[atV f g b, .int .i64 p] w (AtP w (single f g b p)) := by
  rcases p_cases p with rfl | rfl | rfl | rfl | rfl | rfl | rfl | ⟨h1, h2⟩ | ⟨h1, h2⟩ | rfl | ⟨h1, h2⟩ | ⟨h1, h2⟩ | rfl | h1 | ⟨h1, h2⟩ | ⟨h1, h2⟩ | ⟨h1, h2⟩ | rfl | ⟨h1, h2⟩ | ⟨h1, h2⟩ | rfl | rfl | ⟨h1, h2⟩ | ⟨h1, h2⟩ | h1
  · exact single_l0 f g b w
  · exact single_l1 f g b w
  · exact single_l4 f g b w
  · exact single_l7 f g b w
  · exact single_l22 f g b w
  · exact single_l24 f g b w
  · exact single_l27 f g b w
  · exact single_r0 f g b p w h1 h2
  · exact single_r1 f g b p w h1 h2
  · exact single_l39 f g b w
  · exact single_r2 f g b p w h1 h2
  · exact single_r3 f g b p w h1 h2
  · exact single_l49 f g b w
  · exact single_r4 f g b p w (by omega)
  · exact single_r5 f g b p w h1 h2
  · exact single_r6 f g b p w h1 h2
  · exact single_r7 f g b p w h1 h2
  · exact single_l23 f g b w
  · exact single_r8 f g b p w h1 h2
  · exact single_r9 f g b p w h1 h2
  · exact single_l38 f g b w
  · exact single_l48 f g b w
  · exact single_r10 f g b p w h1 h2
  · exact single_r11 f g b p w h1 h2
  · exact single_r12 f g b p w h1
end Go.Proofs.YtacekeobmijipaaDoor
