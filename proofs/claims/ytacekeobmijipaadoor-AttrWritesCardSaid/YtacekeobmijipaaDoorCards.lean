/-
  DERIVED. GIVEN WITH THE SEED: THE CARDS: each row of YtacekeobmijipaaDoorRows.lean that lists a variable, with what it lists TIED to the program's text (the seventh form; the later family's looks); each row that meets fmt, with fmt's text TOLD by the authors' own Lean function (tested against real Go, not proved from fmt's source: count such statements apart). THE CARD IS WHAT COUNTS. Prove the row's statement (the work); the ties are given (YtacekeobmijipaaDoorTie.lean); close each card by the builder's one call (the guide's Derived/Test/ToyasCard.lean, 'card_holds'). Laid BY PROGRAM, IN A SANDBOX (cutbox-door.mjs). By AI agents, Wed Nov 11 2026. No macro, syntax, notation, axiom, sorry.
-/
import Derived.Test.YtacekeobmijipaaDoorRows
import GoSem.ClaimSeven
namespace Go.Proofs.YtacekeobmijipaaDoor
namespace Rows

/-- THE TIED CARD OF 'jobmuxlaw15.AttrWrites'. -/
def attrWritesCard : Claim7 := { stood := { row := attrWritesRow, standIns := [], harness := (true, "cebc9401327f075fd8c13b7db06a7f52caad5a5bca36a5f06af74748107b9cc2"), looks := false }, kinds := [], alts := [], laidByText := true, laidKinds := [.data, .data, .data], laidTests := true, laidLooks := .later }
def AttrWritesCardSaid : Prop := Claim7.holds Tryd.pinned (.plain (OpenSpec.ofChange attrWritesSpec)) attrWritesCard

/-- THE TIED CARD OF 'jobmuxlaw15.AttrApplies'. -/
def attrAppliesCard : Claim7 := { stood := { row := attrAppliesRow, standIns := [], harness := (true, "cebc9401327f075fd8c13b7db06a7f52caad5a5bca36a5f06af74748107b9cc2"), looks := false }, kinds := [], alts := [], laidByText := true, laidKinds := [.data, .data, .data], laidTests := true, laidLooks := .later }
def AttrAppliesCardSaid : Prop := Claim7.holds Tryd.pinned (.plain (OpenSpec.ofChange attrAppliesSpec)) attrAppliesCard

/-- THE TIED CARD OF 'jobmuxlaw15.AttrBack'. -/
def attrBackCard : Claim7 := { stood := { row := attrBackRow, standIns := [], harness := (true, "cebc9401327f075fd8c13b7db06a7f52caad5a5bca36a5f06af74748107b9cc2"), looks := false }, kinds := [], alts := [], laidByText := true, laidKinds := [.data, .data, .data], laidTests := true, laidLooks := .later }
def AttrBackCardSaid : Prop := Claim7.holds Tryd.pinned (.plain (OpenSpec.ofChange attrBackSpec)) attrBackCard

/-- THE TIED CARD OF 'jobmuxlaw15.AttrJoins'. -/
def attrJoinsCard : Claim7 := { stood := { row := attrJoinsRow, standIns := [], harness := (true, "cebc9401327f075fd8c13b7db06a7f52caad5a5bca36a5f06af74748107b9cc2"), looks := false }, kinds := [], alts := [], laidByText := true, laidKinds := [.data, .data, .data], laidTests := true, laidLooks := .later }
def AttrJoinsCardSaid : Prop := Claim7.holds Tryd.pinned (.plain (OpenSpec.ofChange attrJoinsSpec)) attrJoinsCard

/-- THE SECOND FORM's CARD OF 'jobmuxlaw15.AttrWrites'. -/
def attrWritesUptoCard : Claim7 := { stood := { row := attrWritesUptoRow, standIns := [], harness := (true, "cebc9401327f075fd8c13b7db06a7f52caad5a5bca36a5f06af74748107b9cc2"), looks := false }, kinds := [], alts := [], laidByText := true, laidKinds := [.data, .data, .data], laidTests := true, laidLooks := .later }
def AttrWritesUptoCardSaid : Prop := Claim7.holds Tryd.pinned (.plain (OpenSpec.upto attrWritesSpec)) attrWritesUptoCard

/-- THE SECOND FORM's CARD OF 'jobmuxlaw15.AttrApplies'. -/
def attrAppliesUptoCard : Claim7 := { stood := { row := attrAppliesUptoRow, standIns := [], harness := (true, "cebc9401327f075fd8c13b7db06a7f52caad5a5bca36a5f06af74748107b9cc2"), looks := false }, kinds := [], alts := [], laidByText := true, laidKinds := [.data, .data, .data], laidTests := true, laidLooks := .later }
def AttrAppliesUptoCardSaid : Prop := Claim7.holds Tryd.pinned (.plain (OpenSpec.upto attrAppliesSpec)) attrAppliesUptoCard

/-- THE SECOND FORM's CARD OF 'jobmuxlaw15.AttrBack'. -/
def attrBackUptoCard : Claim7 := { stood := { row := attrBackUptoRow, standIns := [], harness := (true, "cebc9401327f075fd8c13b7db06a7f52caad5a5bca36a5f06af74748107b9cc2"), looks := false }, kinds := [], alts := [], laidByText := true, laidKinds := [.data, .data, .data], laidTests := true, laidLooks := .later }
def AttrBackUptoCardSaid : Prop := Claim7.holds Tryd.pinned (.plain (OpenSpec.upto attrBackSpec)) attrBackUptoCard

/-- THE SECOND FORM's CARD OF 'jobmuxlaw15.AttrJoins'. -/
def attrJoinsUptoCard : Claim7 := { stood := { row := attrJoinsUptoRow, standIns := [], harness := (true, "cebc9401327f075fd8c13b7db06a7f52caad5a5bca36a5f06af74748107b9cc2"), looks := false }, kinds := [], alts := [], laidByText := true, laidKinds := [.data, .data, .data], laidTests := true, laidLooks := .later }
def AttrJoinsUptoCardSaid : Prop := Claim7.holds Tryd.pinned (.plain (OpenSpec.upto attrJoinsSpec)) attrJoinsUptoCard
end Rows
end Go.Proofs.YtacekeobmijipaaDoor
