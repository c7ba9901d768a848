/-
  DERIVED. GIVEN WITH THE SEED: THE CARDS: each row of YteebdjmjeahccaaGreatDoorRows.lean that lists a variable, with what it lists TIED to the program's text (the seventh form; the later family's looks); each row that meets fmt, with fmt's text TOLD by the authors' own Lean function (tested against real Go, not proved from fmt's source: count such statements apart). THE CARD IS WHAT COUNTS. Prove the row's statement (the work); the ties are given (YteebdjmjeahccaaGreatDoorTie.lean); close each card by the builder's one call (the guide's Derived/Test/ToyasCard.lean, 'card_holds'). Laid BY PROGRAM, IN A SANDBOX (cutbox-door.mjs). By AI agents, Wed Nov 11 2026. No macro, syntax, notation, axiom, sorry.
-/
import Derived.Test.YteebdjmjeahccaaGreatDoorRows
import GoSem.ClaimSeven
namespace Go.Proofs.YteebdjmjeahccaaGreatDoor
namespace Rows

/-- THE TIED CARD OF 'jobmuxlaw20.RenderWrites'. -/
def renderWritesCard : Claim7 := { stood := { row := renderWritesRow, standIns := [], harness := (true, "cba7bcc51bbe369f0aa8d9a69c39fb9b9ccc13652acd179ac9fcdff5869b97f0"), looks := false }, kinds := [], alts := [], laidByText := true, laidKinds := [.data, .data, .data, .sentinel], laidTests := true, laidLooks := .later }
def RenderWritesCardSaid : Prop := Claim7.holds Tryz.pinned (.plain (OpenSpec.ofChange renderWritesSpec)) renderWritesCard

/-- THE TIED CARD OF 'jobmuxlaw20.RenderShows'. -/
def renderShowsCard : Claim7 := { stood := { row := renderShowsRow, standIns := [], harness := (true, "cba7bcc51bbe369f0aa8d9a69c39fb9b9ccc13652acd179ac9fcdff5869b97f0"), looks := false }, kinds := [], alts := [], laidByText := true, laidKinds := [.data, .data, .data, .sentinel], laidTests := true, laidLooks := .later }
def RenderShowsCardSaid : Prop := Claim7.holds Tryz.pinned (.plain (OpenSpec.ofChange renderShowsSpec)) renderShowsCard

/-- THE TIED CARD OF 'jobmuxlaw20.RenderFollows'. -/
def renderFollowsCard : Claim7 := { stood := { row := renderFollowsRow, standIns := [], harness := (true, "cba7bcc51bbe369f0aa8d9a69c39fb9b9ccc13652acd179ac9fcdff5869b97f0"), looks := false }, kinds := [], alts := [], laidByText := true, laidKinds := [.data, .data, .data, .sentinel], laidTests := true, laidLooks := .later }
def RenderFollowsCardSaid : Prop := Claim7.holds Tryz.pinned (.plain (OpenSpec.ofChange renderFollowsSpec)) renderFollowsCard

/-- THE TIED CARD OF 'jobmuxlaw20.RenderCuts'. -/
def renderCutsCard : Claim7 := { stood := { row := renderCutsRow, standIns := [], harness := (true, "cba7bcc51bbe369f0aa8d9a69c39fb9b9ccc13652acd179ac9fcdff5869b97f0"), looks := false }, kinds := [], alts := [], laidByText := true, laidKinds := [.data, .data, .data, .sentinel], laidTests := true, laidLooks := .later }
def RenderCutsCardSaid : Prop := Claim7.holds Tryz.pinned (.plain (OpenSpec.ofChange renderCutsSpec)) renderCutsCard

/-- THE TIED CARD OF 'jobmuxlaw20.RenderQuiet'. -/
def renderQuietCard : Claim7 := { stood := { row := renderQuietRow, standIns := [], harness := (true, "cba7bcc51bbe369f0aa8d9a69c39fb9b9ccc13652acd179ac9fcdff5869b97f0"), looks := false }, kinds := [], alts := [], laidByText := true, laidKinds := [.data, .data, .data, .sentinel], laidTests := true, laidLooks := .later }
def RenderQuietCardSaid : Prop := Claim7.holds Tryz.pinned (.plain (OpenSpec.ofChange renderQuietSpec)) renderQuietCard

/-- THE SECOND FORM's CARD OF 'jobmuxlaw20.RenderWrites'. -/
def renderWritesUptoCard : Claim7 := { stood := { row := renderWritesUptoRow, standIns := [], harness := (true, "cba7bcc51bbe369f0aa8d9a69c39fb9b9ccc13652acd179ac9fcdff5869b97f0"), looks := false }, kinds := [], alts := [], laidByText := true, laidKinds := [.data, .data, .data, .sentinel], laidTests := true, laidLooks := .later }
def RenderWritesUptoCardSaid : Prop := Claim7.holds Tryz.pinned (.plain (OpenSpec.upto renderWritesSpec)) renderWritesUptoCard

/-- THE SECOND FORM's CARD OF 'jobmuxlaw20.RenderShows'. -/
def renderShowsUptoCard : Claim7 := { stood := { row := renderShowsUptoRow, standIns := [], harness := (true, "cba7bcc51bbe369f0aa8d9a69c39fb9b9ccc13652acd179ac9fcdff5869b97f0"), looks := false }, kinds := [], alts := [], laidByText := true, laidKinds := [.data, .data, .data, .sentinel], laidTests := true, laidLooks := .later }
def RenderShowsUptoCardSaid : Prop := Claim7.holds Tryz.pinned (.plain (OpenSpec.upto renderShowsSpec)) renderShowsUptoCard

/-- THE SECOND FORM's CARD OF 'jobmuxlaw20.RenderFollows'. -/
def renderFollowsUptoCard : Claim7 := { stood := { row := renderFollowsUptoRow, standIns := [], harness := (true, "cba7bcc51bbe369f0aa8d9a69c39fb9b9ccc13652acd179ac9fcdff5869b97f0"), looks := false }, kinds := [], alts := [], laidByText := true, laidKinds := [.data, .data, .data, .sentinel], laidTests := true, laidLooks := .later }
def RenderFollowsUptoCardSaid : Prop := Claim7.holds Tryz.pinned (.plain (OpenSpec.upto renderFollowsSpec)) renderFollowsUptoCard

/-- THE SECOND FORM's CARD OF 'jobmuxlaw20.RenderCuts'. -/
def renderCutsUptoCard : Claim7 := { stood := { row := renderCutsUptoRow, standIns := [], harness := (true, "cba7bcc51bbe369f0aa8d9a69c39fb9b9ccc13652acd179ac9fcdff5869b97f0"), looks := false }, kinds := [], alts := [], laidByText := true, laidKinds := [.data, .data, .data, .sentinel], laidTests := true, laidLooks := .later }
def RenderCutsUptoCardSaid : Prop := Claim7.holds Tryz.pinned (.plain (OpenSpec.upto renderCutsSpec)) renderCutsUptoCard

/-- THE SECOND FORM's CARD OF 'jobmuxlaw20.RenderQuiet'. -/
def renderQuietUptoCard : Claim7 := { stood := { row := renderQuietUptoRow, standIns := [], harness := (true, "cba7bcc51bbe369f0aa8d9a69c39fb9b9ccc13652acd179ac9fcdff5869b97f0"), looks := false }, kinds := [], alts := [], laidByText := true, laidKinds := [.data, .data, .data, .sentinel], laidTests := true, laidLooks := .later }
def RenderQuietUptoCardSaid : Prop := Claim7.holds Tryz.pinned (.plain (OpenSpec.upto renderQuietSpec)) renderQuietUptoCard
end Rows
end Go.Proofs.YteebdjmjeahccaaGreatDoor
