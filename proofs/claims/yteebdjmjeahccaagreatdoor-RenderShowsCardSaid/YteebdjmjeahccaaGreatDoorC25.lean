/- Parts of the proof, one after the other. -/
import Derived.Test.YteebdjmjeahccaaGreatDoorC24
import Derived.Maps.AppendAt
import Derived.Lib.SliceRun
import Derived.Deep.RegionHeld3
import Derived.Deep.AppendLies
import Derived.Deep.RegionLawGrows
import Derived.Deep.DeepCutAuto
import Derived.ArgAppend
set_option linter.unusedSimpArgs false
set_option linter.unusedVariables false
namespace Go.Proofs.YteebdjmjeahccaaGreatDoor
open Go.RowKit
theorem infoR : (Tryz.prog.info? 5).map (fun i => (i.zero,i.size,i.bytes)) = some (some (.int .u8 0),1,1):=by kernel_rfl
def validB (bs : List Int) : Bool:=bs.isEmpty || beginB bs
/-- What the bytes of a complete encoding stand for. -/
def valN : List Int → Int
 | [b] => b
 | [b,c] => b % 32 * 64 + c % 64
 | [b,c,d] => (b % 16 * 64 + c % 64) * 64 + d % 64
 | [b,c,d,x] => ((b % 8 * 64 + c % 64) * 64 + d % 64) * 64 + x % 64
 | _ => 0
def emit (v : Int) (x : List Int × List Int) : List Int × List Int:=(x.1,v :: x.2)
/-- Decoding: what is left over, and the characters. -/
def dec : List Int → List Int → List Int × List Int
 | r,[] => (r,[])
 | r,b :: t =>
  if beginB (r ++ [b]) then dec (r ++ [b]) t
  else if completeB (r ++ [b]) then emit (valN (r ++ [b])) (dec [] t)
  else if r = [] then emit 65533 (dec [] t)
  else if beginB [b] then emit 65533 (dec [b] t)
  else if completeB [b] then emit 65533 (emit (valN [b]) (dec [] t))
  else emit 65533 (emit 65533 (dec [] t))
theorem dec_again {r : List Int} {b : Int} {t : List Int} (h1 : beginB (r ++ [b]) = false) (h2 : completeB (r ++ [b]) = false) (h3 : r ≠ []) : dec r (b :: t) = emit 65533 (dec [] (b :: t)):=by
 conv => lhs;unfold dec
 rw [h1,h2,if_neg (by simp),if_neg (by simp),if_neg h3]
 conv => rhs;unfold dec
 simp only [List.nil_append]
 repeat' split
 all_goals first|rfl|contradiction
theorem infoIr : (Tryz.prog.info? 3).map (fun i => (i.zero,i.size,i.bytes)) = some (some (.int .i64 0),1,8):=by kernel_rfl
theorem dec_begin {r : List Int} {b : Int} {t : List Int} (h1 : beginB (r ++ [b]) = true) : dec r (b :: t) = dec (r ++ [b]) t:=by
 conv => lhs;unfold dec
 rw [h1,if_pos rfl]
theorem dec_complete {r : List Int} {b : Int} {t : List Int} (h1 : beginB (r ++ [b]) = false) (h2 : completeB (r ++ [b]) = true) : dec r (b :: t) = emit (valN (r ++ [b])) (dec [] t):=by
 conv => lhs;unfold dec
 rw [h1,h2,if_neg (by simp),if_pos rfl]
theorem dec_bad {b : Int} {t : List Int} (h1 : beginB ([] ++ [b]) = false) (h2 : completeB ([] ++ [b]) = false) : dec [] (b :: t) = emit 65533 (dec [] t):=by
 conv => lhs;unfold dec
 rw [h1,h2,if_neg (by simp),if_neg (by simp),if_pos rfl]
theorem completeB_len {r : List Int} (h : completeB r = true) : r.length ≤ 4:=by
 unfold completeB at h
 simp only [Bool.and_eq_true,beq_iff_eq] at h
 have : rsize (r.headD 0) ≤ 4 := by unfold rsize; repeat' split
                                    all_goals omega
 omega
theorem beginB_len {r : List Int} (h : beginB r = true) : r.length ≤ 4:=by
 unfold beginB at h
 simp only [Bool.and_eq_true,decide_eq_true_eq] at h
 have : rsize (r.headD 0) ≤ 4 := by unfold rsize; repeat' split
                                    all_goals omega
 omega
/-- The loop's state: what has been read so far, in memory. -/
def DecR (w : World) (bs : List Int) (F : List Int × List Int) (s6 s7 : Value) (k : Nat) (wr : World) : Prop :=
 ∃ (r l : List Int),k ≤ bs.length ∧ Sl (.int .u8) wr s6 r ∧ wr.ownsRow w.heap.size 3 1 s7 l.length (l.map (.int .i64)) ∧ (∀ x ∈ r,0 ≤ x ∧ x ≤ 255) ∧ (r ≠ [] → beginB r = true) ∧ l.length + min r.length 1 ≤ 2 * k + 1 ∧
  (dec r (bs.drop k)).1 = F.1 ∧ l ++ (dec r (bs.drop k)).2 = F.2 ∧ Bw w wr
end Go.Proofs.YteebdjmjeahccaaGreatDoor
