/- Attributes: one parameter in the reference is one parameter of the program. -/
import Derived.Test.YtacekeobmijipaaDoorAtM
import Derived.Laws.BitsLemmas
set_option linter.unusedSimpArgs false
set_option linter.unusedVariables false
namespace Go.Proofs.YtacekeobmijipaaDoor
open Go.RowKit

theorem ofInt_wrap (x : BitVec 64) : BitVec.ofInt 64 (IntKind.i64.wrap (x.toNat : Int)) = x := by
  apply BitVec.eq_of_toNat_eq
  rw [BitVec.toNat_ofInt, IntKind.wrap_i64]
  have := x.isLt
  omega
theorem or_andNot (f x : Int) : bits .or .i64 (bits .andNot .i64 f x) x = bits .or .i64 f x := by
  have e1 : ∀ u v : Int, bits .or .i64 u v = IntKind.i64.wrap ((BitVec.ofInt 64 u ||| BitVec.ofInt 64 v).toNat : Int) := fun _ _ => rfl
  have e2 : bits .andNot .i64 f x = IntKind.i64.wrap ((BitVec.ofInt 64 f &&& ~~~ BitVec.ofInt 64 x).toNat : Int) := rfl
  rw [e1, e1, e2, ofInt_wrap]
  congr 2
  generalize BitVec.ofInt 64 f = a
  generalize BitVec.ofInt 64 x = b
  apply congrArg
  apply BitVec.eq_of_getLsbD_eq
  intro i hi
  simp only [BitVec.getLsbD_or, BitVec.getLsbD_and, BitVec.getLsbD_not, hi, decide_true, Bool.true_and]
  cases a.getLsbD i <;> cases b.getLsbD i <;> rfl
theorem colR_none (p base : Int) (h : p < base ∨ base + 67 < p ∨ (base + 7 < p ∧ p < base + 60 ∧ p ≠ base + 9)) : colR p base = -1 := by
  unfold colR
  rw [if_neg (by omega), if_neg (by omega), if_neg (by omega)]
theorem oneR_single (f g b p : Int) : oneR f g b p = single f g b p := by
  unfold oneR single
  by_cases h0 : p = 0
  · rw [if_pos h0, if_pos h0]
  rw [if_neg h0, if_neg h0]
  by_cases h1 : p = 1
  · rw [if_pos h1, if_pos h1, or_andNot]
  rw [if_neg h1, if_neg h1]
  by_cases h4 : p = 4
  · rw [if_pos h4, if_pos h4, or_andNot]
  rw [if_neg h4, if_neg h4]
  by_cases h7 : p = 7
  · rw [if_pos h7, if_pos h7, or_andNot]
  rw [if_neg h7, if_neg h7]
  by_cases h22 : p = 22
  · rw [if_pos h22, if_pos h22]
  rw [if_neg h22, if_neg h22]
  by_cases h24 : p = 24
  · rw [if_pos h24, if_pos h24]
  rw [if_neg h24, if_neg h24]
  by_cases h27 : p = 27
  · rw [if_pos h27, if_pos h27]
  rw [if_neg h27, if_neg h27]
  by_cases k1 : 30 ≤ p ∧ p ≤ 37
  · rw [if_pos k1, colR_none p 40 (by omega), show colR p 30 = p - 29 by unfold colR; rw [if_pos (by omega)]; omega, if_pos (by omega), if_neg (by omega)]
  rw [if_neg k1]
  by_cases k2 : 90 ≤ p ∧ p ≤ 97
  · rw [if_pos k2, colR_none p 40 (by omega), show colR p 30 = p - 81 by unfold colR; rw [if_neg (by omega), if_pos (by omega)]; omega, if_pos (by omega), if_neg (by omega)]
  rw [if_neg k2]
  by_cases k3 : p = 39
  · rw [if_pos k3, colR_none p 40 (by omega), show colR p 30 = 0 by unfold colR; rw [if_neg (by omega), if_neg (by omega), if_pos (by omega)], if_pos (by omega), if_neg (by omega)]
  rw [if_neg k3, colR_none p 30 (by omega), if_neg (by omega)]
  by_cases k4 : 40 ≤ p ∧ p ≤ 47
  · rw [if_pos k4, show colR p 40 = p - 39 by unfold colR; rw [if_pos (by omega)]; omega, if_pos (by omega)]
  rw [if_neg k4]
  by_cases k5 : 100 ≤ p ∧ p ≤ 107
  · rw [if_pos k5, show colR p 40 = p - 91 by unfold colR; rw [if_neg (by omega), if_pos (by omega)]; omega, if_pos (by omega)]
  rw [if_neg k5]
  by_cases k6 : p = 49
  · rw [if_pos k6, show colR p 40 = 0 by unfold colR; rw [if_neg (by omega), if_neg (by omega), if_pos (by omega)], if_pos (by omega)]
  rw [if_neg k6, colR_none p 40 (by omega), if_neg (by omega)]
theorem rone_any (f g b p : Int) (w : World) : Calls Tryd.prog 27 #[atV f g b, .int .i64 p] w (AtP w (single f g b p)) := by
  have h := one_any f g b p w
  unfold OneP at h
  rw [oneR_single] at h
  exact h
end Go.Proofs.YtacekeobmijipaaDoor
