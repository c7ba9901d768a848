/-
  No cell of these rows narrows 'for every input' (looked for: loops, veiled, ifaces, maps, wideKeys, modest, calm, conditions, laid).
  DERIVED. THE GIVEN ROWS OF THIS SEAT. 5 by the template 'for every input the law returns true; each argument reads behind the call as it read before'; 0 by the template 'total and deterministic' (their statements: YtccfpehcadpkiaaTotals.lean).
  GIVEN WITH THE SEED: the statements are not yours to turn. If you find one false, say at which input.
  Laid BY PROGRAM, IN A SANDBOX (cutbox-rows.mjs): the forced cells as the released guide's own fill.sh prints them over the translation ac0bea4966ed9d61… (all of the seat's roots in one cut). By AI agents, Wed Nov 11 2026. No macro, syntax, notation, axiom, sorry.
-/
import Derived.Test.YtccfpehcadpkiaaChecked
import GoSem.Claim
import GoSem.ClaimJoined
import GoSem.ClaimMapViews
import Derived.JoinedTies
import Derived.KernelRfl
namespace Go.Proofs.Ytccfpehcadpkiaa
/- THE CELL 'sum', in the pinned program and in every row, IS THE sha256 OF THE DUMP (.gsa) THAT YtccfpehcadpkiaaProg.lean LOADS. Nothing in Lean hashes anything: it is a label: what it is worth is what the hold of that sum in a sandbox is worth. -/
noncomputable def Try.pinned : Pinned := { name := "ytccfpehcadpkiaa", sum := "ac0bea4966ed9d615dac2d72a251755b3b8ae7384da00c37dc01c1445aad0e1c", checked := Try.checked }
namespace Rows
def none {H : Type} : Left H := { results := [], args := [] }

/-- 'jobmuxlaw16.GridValid': WHATEVER THE INPUT: true; the input reads as it did. -/
def gridValidSpec : ChangeSpec := { name := "gridValid", fn := fun _ => fun
  | [d1, d2, d3, d4, d5, d6, d7] => { results := [.lit (.bool true)], args := [d1, d2, d3, d4, d5, d6, d7] }
  | _ => none }
def gridValidRow : OpenClaim := { program := "ytccfpehcadpkiaa", sum := "ac0bea4966ed9d615dac2d72a251755b3b8ae7384da00c37dc01c1445aad0e1c", func := "jobmux/jobmuxlaw16.GridValid", spec := "gridValid", unfollowed := true, recurses := true, apart := false }
def GridValidSaid : Prop := gridValidRow.holds Try.pinned (OpenSpec.ofChange gridValidSpec)

/-- ITS FALSE NEIGHBOUR: 'it returns false'. Refute it at one input. -/
def gridValidWrong : ChangeSpec := { name := "gridValid", fn := fun _ => fun
  | [d1, d2, d3, d4, d5, d6, d7] => { results := [.lit (.bool false)], args := [d1, d2, d3, d4, d5, d6, d7] }
  | _ => none }
def GridValidWrongFalsely : Prop := gridValidRow.holds Try.pinned (OpenSpec.ofChange gridValidWrong)

/-- 'jobmuxlaw16.GridMoves': WHATEVER THE INPUT: true; the input reads as it did. -/
def gridMovesSpec : ChangeSpec := { name := "gridMoves", fn := fun _ => fun
  | [d1, d2, d3, d4, d5, d6, d7] => { results := [.lit (.bool true)], args := [d1, d2, d3, d4, d5, d6, d7] }
  | _ => none }
def gridMovesRow : OpenClaim := { program := "ytccfpehcadpkiaa", sum := "ac0bea4966ed9d615dac2d72a251755b3b8ae7384da00c37dc01c1445aad0e1c", func := "jobmux/jobmuxlaw16.GridMoves", spec := "gridMoves", unfollowed := true, recurses := true, apart := false }
def GridMovesSaid : Prop := gridMovesRow.holds Try.pinned (OpenSpec.ofChange gridMovesSpec)

/-- ITS FALSE NEIGHBOUR: 'it returns false'. Refute it at one input. -/
def gridMovesWrong : ChangeSpec := { name := "gridMoves", fn := fun _ => fun
  | [d1, d2, d3, d4, d5, d6, d7] => { results := [.lit (.bool false)], args := [d1, d2, d3, d4, d5, d6, d7] }
  | _ => none }
def GridMovesWrongFalsely : Prop := gridMovesRow.holds Try.pinned (OpenSpec.ofChange gridMovesWrong)

/-- 'jobmuxlaw16.GridShifts': WHATEVER THE INPUT: true; the input reads as it did. -/
def gridShiftsSpec : ChangeSpec := { name := "gridShifts", fn := fun _ => fun
  | [d1, d2, d3, d4] => { results := [.lit (.bool true)], args := [d1, d2, d3, d4] }
  | _ => none }
def gridShiftsRow : OpenClaim := { program := "ytccfpehcadpkiaa", sum := "ac0bea4966ed9d615dac2d72a251755b3b8ae7384da00c37dc01c1445aad0e1c", func := "jobmux/jobmuxlaw16.GridShifts", spec := "gridShifts", unfollowed := true, recurses := true, apart := false }
def GridShiftsSaid : Prop := gridShiftsRow.holds Try.pinned (OpenSpec.ofChange gridShiftsSpec)

/-- ITS FALSE NEIGHBOUR: 'it returns false'. Refute it at one input. -/
def gridShiftsWrong : ChangeSpec := { name := "gridShifts", fn := fun _ => fun
  | [d1, d2, d3, d4] => { results := [.lit (.bool false)], args := [d1, d2, d3, d4] }
  | _ => none }
def GridShiftsWrongFalsely : Prop := gridShiftsRow.holds Try.pinned (OpenSpec.ofChange gridShiftsWrong)

/-- 'jobmuxlaw16.GridResizes': WHATEVER THE INPUT: true; the input reads as it did. -/
def gridResizesSpec : ChangeSpec := { name := "gridResizes", fn := fun _ => fun
  | [d1, d2, d3, d4, d5] => { results := [.lit (.bool true)], args := [d1, d2, d3, d4, d5] }
  | _ => none }
def gridResizesRow : OpenClaim := { program := "ytccfpehcadpkiaa", sum := "ac0bea4966ed9d615dac2d72a251755b3b8ae7384da00c37dc01c1445aad0e1c", func := "jobmux/jobmuxlaw16.GridResizes", spec := "gridResizes", unfollowed := true, recurses := true, apart := false }
def GridResizesSaid : Prop := gridResizesRow.holds Try.pinned (OpenSpec.ofChange gridResizesSpec)

/-- ITS FALSE NEIGHBOUR: 'it returns false'. Refute it at one input. -/
def gridResizesWrong : ChangeSpec := { name := "gridResizes", fn := fun _ => fun
  | [d1, d2, d3, d4, d5] => { results := [.lit (.bool false)], args := [d1, d2, d3, d4, d5] }
  | _ => none }
def GridResizesWrongFalsely : Prop := gridResizesRow.holds Try.pinned (OpenSpec.ofChange gridResizesWrong)

/-- 'jobmuxlaw16.GridKeeps': WHATEVER THE INPUT: true; the input reads as it did. -/
def gridKeepsSpec : ChangeSpec := { name := "gridKeeps", fn := fun _ => fun
  | [d1, d2, d3, d4, d5] => { results := [.lit (.bool true)], args := [d1, d2, d3, d4, d5] }
  | _ => none }
def gridKeepsRow : OpenClaim := { program := "ytccfpehcadpkiaa", sum := "ac0bea4966ed9d615dac2d72a251755b3b8ae7384da00c37dc01c1445aad0e1c", func := "jobmux/jobmuxlaw16.GridKeeps", spec := "gridKeeps", unfollowed := true, recurses := true, apart := false }
def GridKeepsSaid : Prop := gridKeepsRow.holds Try.pinned (OpenSpec.ofChange gridKeepsSpec)

/-- ITS FALSE NEIGHBOUR: 'it returns false'. Refute it at one input. -/
def gridKeepsWrong : ChangeSpec := { name := "gridKeeps", fn := fun _ => fun
  | [d1, d2, d3, d4, d5] => { results := [.lit (.bool false)], args := [d1, d2, d3, d4, d5] }
  | _ => none }
def GridKeepsWrongFalsely : Prop := gridKeepsRow.holds Try.pinned (OpenSpec.ofChange gridKeepsWrong)

/- THE SECOND FORM. 'bulk': how many values and letters a reading holds, each counted each time it is reached (what is shared counts as often as it is met; a slice's spare places count too). A statement '..UptoSaid' is the law's where the arguments, and the package variables that the reading takes, are together of bulk at most 1048576: NARROWER than '..Said'. Prove '..Said' where nothing that the law and all that it calls make is longer than what came in: it says more and counts as full. Else prove '..UptoSaid'. A law counts once. -/
mutual
def uptoBulk {H : Type} : DataW H → Nat
  | .lit (.string bytes) => bytes.length + 1
  | .lit _ => 1
  | .nil => 1
  | .ptr d => uptoBulk d + 1
  | .slice elems spare => uptoBulkAll elems + uptoBulkAll spare + 1
  | .agg parts => uptoBulkAll parts + 1
  | .iface _ d => uptoBulk d + 1
  | .map entries => uptoBulkEntries entries + 1
  | .held _ => 1
def uptoBulkAll {H : Type} : List (DataW H) → Nat
  | [] => 0
  | d :: r => uptoBulk d + uptoBulkAll r
def uptoBulkEntries {H : Type} : List (Lit × DataW H) → Nat
  | [] => 0
  | x :: r => uptoBulkEntry x + uptoBulkEntries r
def uptoBulkEntry {H : Type} : Lit × DataW H → Nat
  | (.string bytes, d) => bytes.length + uptoBulk d + 1
  | (_, d) => uptoBulk d + 1
 end
def uptoSmall : (H : Type) → List (DataW H) → Bool := fun _ ds => decide (uptoBulkAll ds ≤ 1048576)
def OpenSpec.upto (s : _root_.Go.ChangeSpec) : _root_.Go.OpenSpec := { _root_.Go.OpenSpec.ofChange s with cond := some uptoSmall }

/-- 'jobmuxlaw16.GridValid', WHERE WHAT IT READS IS OF BULK AT MOST 1048576: true; the input reads as it did. -/
def gridValidUptoRow : OpenClaim := { program := "ytccfpehcadpkiaa", sum := "ac0bea4966ed9d615dac2d72a251755b3b8ae7384da00c37dc01c1445aad0e1c", func := "jobmux/jobmuxlaw16.GridValid", spec := "gridValid", unfollowed := true, recurses := true, apart := false, narrowed := true }
def GridValidUptoSaid : Prop := gridValidUptoRow.holds Try.pinned (OpenSpec.upto gridValidSpec)

/-- 'jobmuxlaw16.GridMoves', WHERE WHAT IT READS IS OF BULK AT MOST 1048576: true; the input reads as it did. -/
def gridMovesUptoRow : OpenClaim := { program := "ytccfpehcadpkiaa", sum := "ac0bea4966ed9d615dac2d72a251755b3b8ae7384da00c37dc01c1445aad0e1c", func := "jobmux/jobmuxlaw16.GridMoves", spec := "gridMoves", unfollowed := true, recurses := true, apart := false, narrowed := true }
def GridMovesUptoSaid : Prop := gridMovesUptoRow.holds Try.pinned (OpenSpec.upto gridMovesSpec)

/-- 'jobmuxlaw16.GridShifts', WHERE WHAT IT READS IS OF BULK AT MOST 1048576: true; the input reads as it did. -/
def gridShiftsUptoRow : OpenClaim := { program := "ytccfpehcadpkiaa", sum := "ac0bea4966ed9d615dac2d72a251755b3b8ae7384da00c37dc01c1445aad0e1c", func := "jobmux/jobmuxlaw16.GridShifts", spec := "gridShifts", unfollowed := true, recurses := true, apart := false, narrowed := true }
def GridShiftsUptoSaid : Prop := gridShiftsUptoRow.holds Try.pinned (OpenSpec.upto gridShiftsSpec)

/-- 'jobmuxlaw16.GridResizes', WHERE WHAT IT READS IS OF BULK AT MOST 1048576: true; the input reads as it did. -/
def gridResizesUptoRow : OpenClaim := { program := "ytccfpehcadpkiaa", sum := "ac0bea4966ed9d615dac2d72a251755b3b8ae7384da00c37dc01c1445aad0e1c", func := "jobmux/jobmuxlaw16.GridResizes", spec := "gridResizes", unfollowed := true, recurses := true, apart := false, narrowed := true }
def GridResizesUptoSaid : Prop := gridResizesUptoRow.holds Try.pinned (OpenSpec.upto gridResizesSpec)

/-- 'jobmuxlaw16.GridKeeps', WHERE WHAT IT READS IS OF BULK AT MOST 1048576: true; the input reads as it did. -/
def gridKeepsUptoRow : OpenClaim := { program := "ytccfpehcadpkiaa", sum := "ac0bea4966ed9d615dac2d72a251755b3b8ae7384da00c37dc01c1445aad0e1c", func := "jobmux/jobmuxlaw16.GridKeeps", spec := "gridKeeps", unfollowed := true, recurses := true, apart := false, narrowed := true }
def GridKeepsUptoSaid : Prop := gridKeepsUptoRow.holds Try.pinned (OpenSpec.upto gridKeepsSpec)

end Rows
end Go.Proofs.Ytccfpehcadpkiaa
