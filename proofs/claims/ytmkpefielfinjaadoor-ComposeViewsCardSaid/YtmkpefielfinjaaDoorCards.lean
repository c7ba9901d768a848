/-
  DERIVED. GIVEN WITH THE SEED: THE CARDS: each row of YtmkpefielfinjaaDoorRows.lean that lists a variable, with what it lists TIED to the program's text (the seventh form; the later family's looks); each row that meets fmt, with fmt's text TOLD by the authors' own Lean function (tested against real Go, not proved from fmt's source: count such statements apart). THE CARD IS WHAT COUNTS. Prove the row's statement (the work); the ties are given (YtmkpefielfinjaaDoorTie.lean); close each card by the builder's one call (the guide's Derived/Test/ToyasCard.lean, 'card_holds'). Laid BY PROGRAM, IN A SANDBOX (cutbox-door.mjs). By AI agents, Wed Nov 11 2026. No macro, syntax, notation, axiom, sorry.
-/
import Derived.Test.YtmkpefielfinjaaDoorRows
import GoSem.ClaimSeven
namespace Go.Proofs.YtmkpefielfinjaaDoor
namespace Rows

/-- THE TIED CARD OF 'jobmuxlaw30.ComposeLines'. -/
def composeLinesCard : Claim7 := { stood := { row := composeLinesRow, standIns := [], harness := (true, "d1139c41395f0b6bfe042b8f9157860a06144ab31bd543af239ba0e9277966b6"), looks := false }, kinds := [], alts := [], laidByText := true, laidKinds := [.data, .data, .data, .data], laidTests := true, laidLooks := .later }
def ComposeLinesCardSaid : Prop := Claim7.holds Tryd.pinned (.plain (OpenSpec.ofChange composeLinesSpec)) composeLinesCard

/-- THE TIED CARD OF 'jobmuxlaw30.ComposeViews'. -/
def composeViewsCard : Claim7 := { stood := { row := composeViewsRow, standIns := [], harness := (true, "d1139c41395f0b6bfe042b8f9157860a06144ab31bd543af239ba0e9277966b6"), looks := false }, kinds := [], alts := [], laidByText := true, laidKinds := [.data, .data, .data, .data], laidTests := true, laidLooks := .later }
def ComposeViewsCardSaid : Prop := Claim7.holds Tryd.pinned (.plain (OpenSpec.ofChange composeViewsSpec)) composeViewsCard

/-- THE TIED CARD OF 'jobmuxlaw30.ComposeFits'. -/
def composeFitsCard : Claim7 := { stood := { row := composeFitsRow, standIns := [], harness := (true, "d1139c41395f0b6bfe042b8f9157860a06144ab31bd543af239ba0e9277966b6"), looks := false }, kinds := [], alts := [], laidByText := true, laidKinds := [.data, .data, .data, .data], laidTests := true, laidLooks := .later }
def ComposeFitsCardSaid : Prop := Claim7.holds Tryd.pinned (.plain (OpenSpec.ofChange composeFitsSpec)) composeFitsCard

/-- THE TIED CARD OF 'jobmuxlaw30.ComposeScrolls'. -/
def composeScrollsCard : Claim7 := { stood := { row := composeScrollsRow, standIns := [], harness := (true, "d1139c41395f0b6bfe042b8f9157860a06144ab31bd543af239ba0e9277966b6"), looks := false }, kinds := [], alts := [], laidByText := true, laidKinds := [.data, .data, .data, .data], laidTests := true, laidLooks := .later }
def ComposeScrollsCardSaid : Prop := Claim7.holds Tryd.pinned (.plain (OpenSpec.ofChange composeScrollsSpec)) composeScrollsCard

/-- THE SECOND FORM's CARD OF 'jobmuxlaw30.ComposeLines'. -/
def composeLinesUptoCard : Claim7 := { stood := { row := composeLinesUptoRow, standIns := [], harness := (true, "d1139c41395f0b6bfe042b8f9157860a06144ab31bd543af239ba0e9277966b6"), looks := false }, kinds := [], alts := [], laidByText := true, laidKinds := [.data, .data, .data, .data], laidTests := true, laidLooks := .later }
def ComposeLinesUptoCardSaid : Prop := Claim7.holds Tryd.pinned (.plain (OpenSpec.upto composeLinesSpec)) composeLinesUptoCard

/-- THE SECOND FORM's CARD OF 'jobmuxlaw30.ComposeViews'. -/
def composeViewsUptoCard : Claim7 := { stood := { row := composeViewsUptoRow, standIns := [], harness := (true, "d1139c41395f0b6bfe042b8f9157860a06144ab31bd543af239ba0e9277966b6"), looks := false }, kinds := [], alts := [], laidByText := true, laidKinds := [.data, .data, .data, .data], laidTests := true, laidLooks := .later }
def ComposeViewsUptoCardSaid : Prop := Claim7.holds Tryd.pinned (.plain (OpenSpec.upto composeViewsSpec)) composeViewsUptoCard

/-- THE SECOND FORM's CARD OF 'jobmuxlaw30.ComposeFits'. -/
def composeFitsUptoCard : Claim7 := { stood := { row := composeFitsUptoRow, standIns := [], harness := (true, "d1139c41395f0b6bfe042b8f9157860a06144ab31bd543af239ba0e9277966b6"), looks := false }, kinds := [], alts := [], laidByText := true, laidKinds := [.data, .data, .data, .data], laidTests := true, laidLooks := .later }
def ComposeFitsUptoCardSaid : Prop := Claim7.holds Tryd.pinned (.plain (OpenSpec.upto composeFitsSpec)) composeFitsUptoCard

/-- THE SECOND FORM's CARD OF 'jobmuxlaw30.ComposeScrolls'. -/
def composeScrollsUptoCard : Claim7 := { stood := { row := composeScrollsUptoRow, standIns := [], harness := (true, "d1139c41395f0b6bfe042b8f9157860a06144ab31bd543af239ba0e9277966b6"), looks := false }, kinds := [], alts := [], laidByText := true, laidKinds := [.data, .data, .data, .data], laidTests := true, laidLooks := .later }
def ComposeScrollsUptoCardSaid : Prop := Claim7.holds Tryd.pinned (.plain (OpenSpec.upto composeScrollsSpec)) composeScrollsUptoCard
end Rows
end Go.Proofs.YtmkpefielfinjaaDoor
