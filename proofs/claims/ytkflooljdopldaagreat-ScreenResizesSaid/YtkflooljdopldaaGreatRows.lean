/-
  No cell of these rows narrows 'for every input' (looked for: loops, veiled, ifaces, maps, wideKeys, modest, calm, conditions, laid).
  DERIVED. THE GIVEN ROWS OF THIS SEAT. 4 by the template 'for every input the law returns true; each argument reads behind the call as it read before'; 0 by the template 'total and deterministic' (their statements: YtkflooljdopldaaGreatTotals.lean).
  GIVEN WITH THE SEED: the statements are not yours to turn. If you find one false, say at which input.
  Laid BY PROGRAM, IN A SANDBOX (cutbox-rows.mjs): the forced cells as the released guide's own fill.sh prints them over the translation 25853efbc1afe19e… (all of the seat's roots in one cut). By AI agents, Wed Nov 11 2026. No macro, syntax, notation, axiom, sorry.
-/
import Derived.Test.YtkflooljdopldaaGreatChecked
import GoSem.Claim
import GoSem.ClaimJoined
import GoSem.ClaimMapViews
import Derived.JoinedTies
import Derived.KernelRfl
namespace Go.Proofs.YtkflooljdopldaaGreat
/- THE CELL 'sum', in the pinned program and in every row, IS THE sha256 OF THE DUMP (.gsa) THAT YtkflooljdopldaaGreatProg.lean LOADS. Nothing in Lean hashes anything: it is a label: what it is worth is what the hold of that sum in a sandbox is worth. -/
noncomputable def Tryz.pinned : Pinned := { name := "ytkflooljdopldaagreat", sum := "25853efbc1afe19eabde5a737d658bffa631e829a20a4316d084ae4f0d136a97", checked := Tryz.checked }
namespace Rows
def none {H : Type} : Left H := { results := [], args := [] }

/-- 'jobmuxlaw18.ScreenLines': WHATEVER THE INPUT: true; the input reads as it did. -/
def screenLinesSpec : ChangeSpec := { name := "screenLines", fn := fun _ => fun
  | [d1, d2] => { results := [.lit (.bool true)], args := [d1, d2] }
  | _ => none }
def screenLinesRow : OpenClaim := { program := "ytkflooljdopldaagreat", sum := "25853efbc1afe19eabde5a737d658bffa631e829a20a4316d084ae4f0d136a97", func := "jobmux/jobmuxlaw18.ScreenLines", spec := "screenLines", unfollowed := true, recurses := true, apart := false }
def ScreenLinesSaid : Prop := screenLinesRow.holds Tryz.pinned (OpenSpec.ofChange screenLinesSpec)

/-- ITS FALSE NEIGHBOUR: 'it returns false'. Refute it at one input. -/
def screenLinesWrong : ChangeSpec := { name := "screenLines", fn := fun _ => fun
  | [d1, d2] => { results := [.lit (.bool false)], args := [d1, d2] }
  | _ => none }
def ScreenLinesWrongFalsely : Prop := screenLinesRow.holds Tryz.pinned (OpenSpec.ofChange screenLinesWrong)

/-- 'jobmuxlaw18.ScreenMargins': WHATEVER THE INPUT: true; the input reads as it did. -/
def screenMarginsSpec : ChangeSpec := { name := "screenMargins", fn := fun _ => fun
  | [d1, d2] => { results := [.lit (.bool true)], args := [d1, d2] }
  | _ => none }
def screenMarginsRow : OpenClaim := { program := "ytkflooljdopldaagreat", sum := "25853efbc1afe19eabde5a737d658bffa631e829a20a4316d084ae4f0d136a97", func := "jobmux/jobmuxlaw18.ScreenMargins", spec := "screenMargins", unfollowed := true, recurses := true, apart := false }
def ScreenMarginsSaid : Prop := screenMarginsRow.holds Tryz.pinned (OpenSpec.ofChange screenMarginsSpec)

/-- ITS FALSE NEIGHBOUR: 'it returns false'. Refute it at one input. -/
def screenMarginsWrong : ChangeSpec := { name := "screenMargins", fn := fun _ => fun
  | [d1, d2] => { results := [.lit (.bool false)], args := [d1, d2] }
  | _ => none }
def ScreenMarginsWrongFalsely : Prop := screenMarginsRow.holds Tryz.pinned (OpenSpec.ofChange screenMarginsWrong)

/-- 'jobmuxlaw18.ScreenResizes': WHATEVER THE INPUT: true; the input reads as it did. -/
def screenResizesSpec : ChangeSpec := { name := "screenResizes", fn := fun _ => fun
  | [d1, d2, d3, d4] => { results := [.lit (.bool true)], args := [d1, d2, d3, d4] }
  | _ => none }
def screenResizesRow : OpenClaim := { program := "ytkflooljdopldaagreat", sum := "25853efbc1afe19eabde5a737d658bffa631e829a20a4316d084ae4f0d136a97", func := "jobmux/jobmuxlaw18.ScreenResizes", spec := "screenResizes", unfollowed := true, recurses := true, apart := false }
def ScreenResizesSaid : Prop := screenResizesRow.holds Tryz.pinned (OpenSpec.ofChange screenResizesSpec)

/-- ITS FALSE NEIGHBOUR: 'it returns false'. Refute it at one input. -/
def screenResizesWrong : ChangeSpec := { name := "screenResizes", fn := fun _ => fun
  | [d1, d2, d3, d4] => { results := [.lit (.bool false)], args := [d1, d2, d3, d4] }
  | _ => none }
def ScreenResizesWrongFalsely : Prop := screenResizesRow.holds Tryz.pinned (OpenSpec.ofChange screenResizesWrong)

/-- 'jobmuxlaw18.ScreenResets': WHATEVER THE INPUT: true; the input reads as it did. -/
def screenResetsSpec : ChangeSpec := { name := "screenResets", fn := fun _ => fun
  | [d] => { results := [.lit (.bool true)], args := [d] }
  | _ => none }
def screenResetsRow : OpenClaim := { program := "ytkflooljdopldaagreat", sum := "25853efbc1afe19eabde5a737d658bffa631e829a20a4316d084ae4f0d136a97", func := "jobmux/jobmuxlaw18.ScreenResets", spec := "screenResets", unfollowed := true, recurses := true, apart := false }
def ScreenResetsSaid : Prop := screenResetsRow.holds Tryz.pinned (OpenSpec.ofChange screenResetsSpec)

/-- ITS FALSE NEIGHBOUR: 'it returns false'. Refute it at one input. -/
def screenResetsWrong : ChangeSpec := { name := "screenResets", fn := fun _ => fun
  | [d] => { results := [.lit (.bool false)], args := [d] }
  | _ => none }
def ScreenResetsWrongFalsely : Prop := screenResetsRow.holds Tryz.pinned (OpenSpec.ofChange screenResetsWrong)

/- THE SECOND FORM. 'bulk': how many values and letters a reading holds, each counted each time it is reached (what is shared counts as often as it is met; a slice's spare places count too). A statement '..UptoSaid' is the law's where the arguments, and the package variables that the reading takes, are together of bulk at most 1048576: NARROWER than '..Said'. Prove '..Said' where nothing that the law and all that it calls make is longer than what came in: it says more and counts as full. Else prove '..UptoSaid'. A law counts once. -/
mutual
def uptoBulk {H : Type} : DataW H → Nat
  | .lit (.string bytes) => bytes.length + 1
  | .lit _ => 1
  | .nil => 1
  | .ptr d => uptoBulk d + 1
  | .slice elems spare => uptoBulkAll elems + uptoBulkAll spare + 1
  | .agg parts => uptoBulkAll parts + 1
  | .iface _ d => uptoBulk d + 1
  | .map entries => uptoBulkEntries entries + 1
  | .held _ => 1
def uptoBulkAll {H : Type} : List (DataW H) → Nat
  | [] => 0
  | d :: r => uptoBulk d + uptoBulkAll r
def uptoBulkEntries {H : Type} : List (Lit × DataW H) → Nat
  | [] => 0
  | x :: r => uptoBulkEntry x + uptoBulkEntries r
def uptoBulkEntry {H : Type} : Lit × DataW H → Nat
  | (.string bytes, d) => bytes.length + uptoBulk d + 1
  | (_, d) => uptoBulk d + 1
 end
def uptoSmall : (H : Type) → List (DataW H) → Bool := fun _ ds => decide (uptoBulkAll ds ≤ 1048576)
def OpenSpec.upto (s : _root_.Go.ChangeSpec) : _root_.Go.OpenSpec := { _root_.Go.OpenSpec.ofChange s with cond := some uptoSmall }

/-- 'jobmuxlaw18.ScreenLines', WHERE WHAT IT READS IS OF BULK AT MOST 1048576: true; the input reads as it did. -/
def screenLinesUptoRow : OpenClaim := { program := "ytkflooljdopldaagreat", sum := "25853efbc1afe19eabde5a737d658bffa631e829a20a4316d084ae4f0d136a97", func := "jobmux/jobmuxlaw18.ScreenLines", spec := "screenLines", unfollowed := true, recurses := true, apart := false, narrowed := true }
def ScreenLinesUptoSaid : Prop := screenLinesUptoRow.holds Tryz.pinned (OpenSpec.upto screenLinesSpec)

/-- 'jobmuxlaw18.ScreenMargins', WHERE WHAT IT READS IS OF BULK AT MOST 1048576: true; the input reads as it did. -/
def screenMarginsUptoRow : OpenClaim := { program := "ytkflooljdopldaagreat", sum := "25853efbc1afe19eabde5a737d658bffa631e829a20a4316d084ae4f0d136a97", func := "jobmux/jobmuxlaw18.ScreenMargins", spec := "screenMargins", unfollowed := true, recurses := true, apart := false, narrowed := true }
def ScreenMarginsUptoSaid : Prop := screenMarginsUptoRow.holds Tryz.pinned (OpenSpec.upto screenMarginsSpec)

/-- 'jobmuxlaw18.ScreenResizes', WHERE WHAT IT READS IS OF BULK AT MOST 1048576: true; the input reads as it did. -/
def screenResizesUptoRow : OpenClaim := { program := "ytkflooljdopldaagreat", sum := "25853efbc1afe19eabde5a737d658bffa631e829a20a4316d084ae4f0d136a97", func := "jobmux/jobmuxlaw18.ScreenResizes", spec := "screenResizes", unfollowed := true, recurses := true, apart := false, narrowed := true }
def ScreenResizesUptoSaid : Prop := screenResizesUptoRow.holds Tryz.pinned (OpenSpec.upto screenResizesSpec)

/-- 'jobmuxlaw18.ScreenResets', WHERE WHAT IT READS IS OF BULK AT MOST 1048576: true; the input reads as it did. -/
def screenResetsUptoRow : OpenClaim := { program := "ytkflooljdopldaagreat", sum := "25853efbc1afe19eabde5a737d658bffa631e829a20a4316d084ae4f0d136a97", func := "jobmux/jobmuxlaw18.ScreenResets", spec := "screenResets", unfollowed := true, recurses := true, apart := false, narrowed := true }
def ScreenResetsUptoSaid : Prop := screenResetsUptoRow.holds Tryz.pinned (OpenSpec.upto screenResetsSpec)

end Rows
end Go.Proofs.YtkflooljdopldaaGreat
