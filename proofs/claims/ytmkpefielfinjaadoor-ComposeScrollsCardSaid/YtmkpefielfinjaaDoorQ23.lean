/- Parts of the proof, one after the other. -/
import Derived.Test.YtmkpefielfinjaaDoorQ17
set_option linter.unusedSimpArgs false
set_option linter.unusedVariables false
/- Screens: the reference's control sequences, every other final byte. -/
namespace Go.Proofs.YtmkpefielfinjaaDoor
open Go.RowKit
end Go.Proofs.YtmkpefielfinjaaDoor

/- Screens: loads within drawn regions. -/
namespace Go.Proofs.YtmkpefielfinjaaDoor
open Go.RowKit

theorem cell_far {w w' : World} {g i : Nat} {v : Value} {row : Option Nat} (h : w.cell? ⟨g, i, none⟩ = some v) (hg : w.grownBy w' row) (hne : some g ≠ row) : w'.cell? ⟨g, i, none⟩ = some v := by
  have h1 := hg.block g (lt_of_cell h) hne
  simp only [World.cell?] at h ⊢
  rw [h1]
  exact h
end Go.Proofs.YtmkpefielfinjaaDoor

/- Screens: the reference's control sequences, final byte 74. -/
namespace Go.Proofs.YtmkpefielfinjaaDoor
open Go.RowKit
end Go.Proofs.YtmkpefielfinjaaDoor
