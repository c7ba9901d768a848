/- Parts of the proof, one after the other. -/
import Derived.Test.YteebdjmjeahccaaGreatDoorC37
import Derived.Test.YteebdjmjeahccaaGreatDoorC09
import Derived.Test.YteebdjmjeahccaaGreatDoorC17
import Derived.Test.YteebdjmjeahccaaGreatDoorC15
import Derived.Test.YteebdjmjeahccaaGreatDoorC20
import Derived.Laws.CopyRow
set_option linter.unusedSimpArgs false
set_option linter.unusedVariables false
namespace Go.Proofs.YteebdjmjeahccaaGreatDoor
open Go.RowKit
theorem Ce.far {w w' : World} {g o : Nat} {c : C4} {row : Option Nat} (h : Ce w g o c) (hg : w.grownBy w' row) (hne : some g ≠ row) : Ce w' g o c:=⟨cell_far h.1 hg hne,cell_far h.2.1 hg hne,cell_far h.2.2.1 hg hne,cell_far h.2.2.2 hg hne⟩
theorem Rg.far {w w' : World} {A : Option Addr} {n : Nat} {cs : List C4} {row : Option Nat} (h : Rg w A n cs) (hg : w.grownBy w' row) (hne : ∀ ad,A = some ad → some ad.block ≠ row) : Rg w' A n cs:=by
 refine ⟨h.1,fun h0 => ?_⟩
 obtain ⟨g,o,e,hx⟩:=h.2 h0
 exact ⟨g,o,e,fun i hi => (hx i hi).far hg (by have:=hne ⟨g,o,none⟩ e;exact this)⟩
end Go.Proofs.YteebdjmjeahccaaGreatDoor
