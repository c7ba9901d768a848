/- Parts of the proof, one after the other. -/
import Derived.Test.YteebdjmjeahccaaGreatDoorQ28
import Derived.Test.YteebdjmjeahccaaGreatDoorQ01
import Derived.Maps.AppendAt
import Derived.Lib.SliceRun
set_option linter.unusedSimpArgs false
set_option linter.unusedVariables false
/- Walks of runes.prefix, beginning, complete, value: each returns the plain function of the same name. -/
namespace Go.Proofs.YteebdjmjeahccaaGreatDoor
open Go.RowKit

def okRest (low high : Int) : List Int → Bool
 | [] => true
 | c :: t => decide (low ≤ c ∧ c ≤ high) && okRest 128 191 t
def prefixB : List Int → Bool
 | [] => false
 | b :: t => decide ((t.length : Int) + 1 ≤ rsize b) && okRest (rlow b) (rhigh b) t

def beginB (bs : List Int) : Bool:=prefixB bs && decide ((bs.length : Int) < rsize (bs.headD 0))
def completeB (bs : List Int) : Bool:=prefixB bs && ((bs.length : Int) == rsize (bs.headD 0))


theorem wraps_i64 (n : Int) (h₀ : 0 ≤ n) (h₁ : n < 2 ^ 63) : IntKind.i64.wrap n = n:=by rw [IntKind.wrap_i64];omega


theorem infoR : (Tryz.prog.info? 5).map (fun i => (i.zero,i.size,i.bytes)) = some (some (.int .u8 0),1,1):=by kernel_rfl
end Go.Proofs.YteebdjmjeahccaaGreatDoor
