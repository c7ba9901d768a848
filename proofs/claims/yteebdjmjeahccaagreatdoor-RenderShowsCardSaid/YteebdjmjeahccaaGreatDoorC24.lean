/- Parts of the proof, one after the other. -/
import Derived.Test.YteebdjmjeahccaaGreatDoorC02
import Derived.Test.YteebdjmjeahccaaGreatDoorC01
set_option linter.unusedSimpArgs false
set_option linter.unusedVariables false
namespace Go.Proofs.YteebdjmjeahccaaGreatDoor
open Go.RowKit
/-- How many bytes an encoding has that begins with byte b. -/
def rsize (b : Int) : Int:=if b < 128 then 1 else if 194 ≤ b ∧ b ≤ 223 then 2 else if 224 ≤ b ∧ b ≤ 239 then 3 else if 240 ≤ b ∧ b ≤ 244 then 4 else 0
def rlow (b : Int) : Int:=if b = 224 then 160 else if b = 240 then 144 else 128
def rhigh (b : Int) : Int:=if b = 237 then 159 else if b = 244 then 143 else 191
def okRest (low high : Int) : List Int → Bool
 | [] => true
 | c :: t => decide (low ≤ c ∧ c ≤ high) && okRest 128 191 t
def prefixB : List Int → Bool
 | [] => false
 | b :: t => decide ((t.length : Int) + 1 ≤ rsize b) && okRest (rlow b) (rhigh b) t
def beginB (bs : List Int) : Bool:=prefixB bs && decide ((bs.length : Int) < rsize (bs.headD 0))
def completeB (bs : List Int) : Bool:=prefixB bs && ((bs.length : Int) == rsize (bs.headD 0))
theorem wraps_i64 (n : Int) (h₀ : 0 ≤ n) (h₁ : n < 2 ^ 63) : IntKind.i64.wrap n = n:=by rw [IntKind.wrap_i64];omega
end Go.Proofs.YteebdjmjeahccaaGreatDoor
