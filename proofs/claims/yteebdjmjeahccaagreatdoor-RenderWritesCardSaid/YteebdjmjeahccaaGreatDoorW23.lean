/- Parts of the proof, one after the other. -/
import Derived.Test.YteebdjmjeahccaaGreatDoorW22
set_option linter.unusedSimpArgs false
set_option linter.unusedVariables false
namespace Go.Proofs.YteebdjmjeahccaaGreatDoor
open Go.RowKit
theorem infoIr : (Tryz.prog.info? 3).map (fun i => (i.zero,i.size,i.bytes)) = some (some (.int .i64 0),1,8):=by kernel_rfl
theorem dec_begin {r : List Int} {b : Int} {t : List Int} (h1 : beginB (r ++ [b]) = true) : dec r (b :: t) = dec (r ++ [b]) t:=by
 conv => lhs;unfold dec
 rw [h1,if_pos rfl]
theorem dec_complete {r : List Int} {b : Int} {t : List Int} (h1 : beginB (r ++ [b]) = false) (h2 : completeB (r ++ [b]) = true) : dec r (b :: t) = emit (valN (r ++ [b])) (dec [] t):=by
 conv => lhs;unfold dec
 rw [h1,h2,if_neg (by simp),if_pos rfl]
theorem dec_bad {b : Int} {t : List Int} (h1 : beginB ([] ++ [b]) = false) (h2 : completeB ([] ++ [b]) = false) : dec [] (b :: t) = emit 65533 (dec [] t):=by
 conv => lhs;unfold dec
 rw [h1,h2,if_neg (by simp),if_neg (by simp),if_pos rfl]
theorem completeB_len {r : List Int} (h : completeB r = true) : r.length ≤ 4:=by
 unfold completeB at h
 simp only [Bool.and_eq_true,beq_iff_eq] at h
 have : rsize (r.headD 0) ≤ 4 := by unfold rsize; repeat' split
                                    all_goals omega
 omega
theorem beginB_len {r : List Int} (h : beginB r = true) : r.length ≤ 4:=by
 unfold beginB at h
 simp only [Bool.and_eq_true,decide_eq_true_eq] at h
 have : rsize (r.headD 0) ≤ 4 := by unfold rsize; repeat' split
                                    all_goals omega
 omega
/-- The loop's state: what has been read so far, in memory. -/
def DecR (w : World) (bs : List Int) (F : List Int × List Int) (s6 s7 : Value) (k : Nat) (wr : World) : Prop :=
 ∃ (r l : List Int),k ≤ bs.length ∧ Sl (.int .u8) wr s6 r ∧ wr.ownsRow w.heap.size 3 1 s7 l.length (l.map (.int .i64)) ∧ (∀ x ∈ r,0 ≤ x ∧ x ≤ 255) ∧ (r ≠ [] → beginB r = true) ∧ l.length + min r.length 1 ≤ 2 * k + 1 ∧
  (dec r (bs.drop k)).1 = F.1 ∧ l ++ (dec r (bs.drop k)).2 = F.2 ∧ Bw w wr
def restB (r0 : List Int) : List Int:=if validB r0 then r0 else []
end Go.Proofs.YteebdjmjeahccaaGreatDoor
