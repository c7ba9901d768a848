/- Parts of the proof, one after the other. -/
import Derived.Test.YtmkpefielfinjaaDoorQ33
import Derived.Test.YtmkpefielfinjaaDoorQ34
set_option linter.unusedSimpArgs false
set_option linter.unusedVariables false
/- Scanners: the reference's csi. -/
namespace Go.Proofs.YtmkpefielfinjaaDoor
open Go.RowKit

theorem Rd.far0 {α : Type} {f : α → Value} {w w' : World} {A : Option Addr} {n : Nat} {xs : List α} {row : Option Nat} (h : Rd f w A n xs) (hg : w.grownBy w' row) (hne : 0 < n → ∀ ad, A = some ad → some ad.block ≠ row) : Rd f w' A n xs := by
  by_cases h0 : 0 < n
  · exact h.far hg (hne h0)
  · exact ⟨h.1, fun h1 => absurd h1 h0⟩
theorem ScnOk.far0 {w w' : World} {md pv : Int} {A : Option Addr} {n c : Nat} {xs : List Int} {row : Option Nat} (h : ScnOk w md pv A n c xs) (hg : w.grownBy w' row) (hne : 0 < n → ∀ ad, A = some ad → some ad.block ≠ row) : ScnOk w' md pv A n c xs := ⟨h.1.far0 hg hne, h.2⟩
end Go.Proofs.YtmkpefielfinjaaDoor

/- Scanners: the reference's Next: g24, g26, g27, g127, gneg. -/
namespace Go.Proofs.YtmkpefielfinjaaDoor
open Go.RowKit
end Go.Proofs.YtmkpefielfinjaaDoor

/- Scanners: the reference's Next: gctl, ghi, 0c1, 0p1, 0p2. -/
namespace Go.Proofs.YtmkpefielfinjaaDoor
open Go.RowKit
end Go.Proofs.YtmkpefielfinjaaDoor
