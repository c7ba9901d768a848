/- Parts of the proof, one after the other. -/
import Derived.Test.YtmkpefielfinjaaDoorV37
import Derived.Test.YtmkpefielfinjaaDoorV39
import Derived.Test.YtmkpefielfinjaaDoorV30
import Derived.Deep.RegionHeld3
set_option linter.unusedSimpArgs false
set_option linter.unusedVariables false
/- The law ComposeFits. -/
namespace Go.Proofs.YtmkpefielfinjaaDoor
open Go.RowKit

theorem Se.far {w w' : World} {g o : Nat} {s : St} {row : Option Nat} (h : Se w g o s) (hg : w.grownBy w' row) (hne : some g ≠ row) : Se w' g o s := ⟨cell_far h.1 hg hne, cell_far h.2.1 hg hne, cell_far h.2.2.1 hg hne, cell_far h.2.2.2 hg hne⟩
theorem RS.far {w w' : World} {A : Option Addr} {n : Nat} {sts : List St} {row : Option Nat} (h : RS w A n sts) (hg : w.grownBy w' row) (hne : ∀ ad, A = some ad → some ad.block ≠ row) : RS w' A n sts := by
 refine ⟨h.1, fun h0 => ?_⟩
 obtain ⟨g, o, e, hx⟩ := h.2 h0
 exact ⟨g, o, e, fun i hi => (hx i hi).far hg (by have := hne ⟨g, o, none⟩ e; exact this)⟩
theorem Wb.at {w : World} {g i : Nat} {cs : List C4} {x : C4} (h : Wb w g cs) (hi : i < cs.length) (hx : cs.getD i blk = x) : Ce w g (i * 4) x := by
 have := h.cells i hi
 rw [List.getD_eq_getElem?_getD, List.getElem?_eq_getElem hi] at hx
 simp only [Option.getD_some] at hx
 rw [← hx]
 exact this

end Go.Proofs.YtmkpefielfinjaaDoor
