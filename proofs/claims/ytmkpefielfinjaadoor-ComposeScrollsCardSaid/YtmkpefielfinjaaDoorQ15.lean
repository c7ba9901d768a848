/- Parts of the proof, one after the other. -/
import Derived.Test.YtmkpefielfinjaaDoorQ14
set_option linter.unusedSimpArgs false
set_option linter.unusedVariables false
/- Screens: the reference's feed, put. -/
namespace Go.Proofs.YtmkpefielfinjaaDoor
open Go.RowKit

theorem Scr.Ok.away {w : World} {s : Scr} {h : Nat} (hs : s.Ok w) (hne : ∀ ad, s.A = some ad → ad.block ≠ h) (j : Nat) (v : Value) : s.Ok (w.setCell ⟨h, j, none⟩ v) := ⟨hs.1.away hne j v, hs.2⟩
theorem Scr.Ok.far {w w' : World} {s : Scr} {row : Option Nat} (hs : s.Ok w) (hg : w.grownBy w' row) (hne : ∀ ad, s.A = some ad → some ad.block ≠ row) : s.Ok w' := ⟨hs.1.far hg hne, hs.2⟩
theorem ne_some {A : Option Addr} {B : Nat} (h : ∀ ad, A = some ad → ad.block ≠ B) : ∀ ad, A = some ad → some ad.block ≠ some B := fun ad e e2 => h ad e (Option.some.inj e2)

end Go.Proofs.YtmkpefielfinjaaDoor

/- Screens: the reference's put. -/
namespace Go.Proofs.YtmkpefielfinjaaDoor
open Go.RowKit

theorem Ls.away {w : World} {L : Option Addr} {m h : Nat} (hl : Ls w L m) (hne : ∀ ad, L = some ad → ad.block ≠ h) (j : Nat) (v : Value) : Ls (w.setCell ⟨h, j, none⟩ v) L m := hl.far (grown_set (grown_refl w (some h)) j v) (ne_some hne)
end Go.Proofs.YtmkpefielfinjaaDoor

/- Screens: the reference's control, margins, modes. -/
namespace Go.Proofs.YtmkpefielfinjaaDoor
open Go.RowKit

end Go.Proofs.YtmkpefielfinjaaDoor
