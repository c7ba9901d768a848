/- Parts of the proof, one after the other. -/
import Derived.Test.YteebdjmjeahccaaGreatDoorW21
import Derived.Maps.AppendAt
import Derived.Lib.SliceRun
import Derived.Deep.RegionHeld3
import Derived.Deep.AppendLies
import Derived.Deep.RegionLawGrows
import Derived.Deep.DeepCutAuto
import Derived.ArgAppend
set_option linter.unusedSimpArgs false
set_option linter.unusedVariables false
namespace Go.Proofs.YteebdjmjeahccaaGreatDoor
open Go.RowKit
theorem wraps_i64 (n : Int) (h₀ : 0 ≤ n) (h₁ : n < 2 ^ 63) : IntKind.i64.wrap n = n:=by rw [IntKind.wrap_i64];omega
theorem infoR : (Tryz.prog.info? 5).map (fun i => (i.zero,i.size,i.bytes)) = some (some (.int .u8 0),1,1):=by kernel_rfl
def validB (bs : List Int) : Bool:=bs.isEmpty || beginB bs
/-- What the bytes of a complete encoding stand for. -/
def valN : List Int → Int
 | [b] => b
 | [b,c] => b % 32 * 64 + c % 64
 | [b,c,d] => (b % 16 * 64 + c % 64) * 64 + d % 64
 | [b,c,d,x] => ((b % 8 * 64 + c % 64) * 64 + d % 64) * 64 + x % 64
 | _ => 0
def emit (v : Int) (x : List Int × List Int) : List Int × List Int:=(x.1,v :: x.2)
/-- Decoding: what is left over, and the characters. -/
def dec : List Int → List Int → List Int × List Int
 | r,[] => (r,[])
 | r,b :: t =>
  if beginB (r ++ [b]) then dec (r ++ [b]) t
  else if completeB (r ++ [b]) then emit (valN (r ++ [b])) (dec [] t)
  else if r = [] then emit 65533 (dec [] t)
  else if beginB [b] then emit 65533 (dec [b] t)
  else if completeB [b] then emit 65533 (emit (valN [b]) (dec [] t))
  else emit 65533 (emit 65533 (dec [] t))
theorem dec_again {r : List Int} {b : Int} {t : List Int} (h1 : beginB (r ++ [b]) = false) (h2 : completeB (r ++ [b]) = false) (h3 : r ≠ []) : dec r (b :: t) = emit 65533 (dec [] (b :: t)):=by
 conv => lhs;unfold dec
 rw [h1,h2,if_neg (by simp),if_neg (by simp),if_neg h3]
 conv => rhs;unfold dec
 simp only [List.nil_append]
 repeat' split
 all_goals first|rfl|contradiction
end Go.Proofs.YteebdjmjeahccaaGreatDoor
