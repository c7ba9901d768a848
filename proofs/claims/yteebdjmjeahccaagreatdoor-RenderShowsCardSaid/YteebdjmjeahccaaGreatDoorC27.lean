/- Parts of the proof, one after the other. -/
import Derived.Test.YteebdjmjeahccaaGreatDoorC26
set_option linter.unusedSimpArgs false
set_option linter.unusedVariables false
namespace Go.Proofs.YteebdjmjeahccaaGreatDoor
open Go.RowKit
theorem refsize_any (b : Int) (w : World) :
  Calls Tryz.prog 99 #[.int .u8 b] w fun e w' => e = .returned (.int .i64 (rsize b)) ∧ w = w':=by
 go_enter Tryz.func99,Tryz.ntmps99
 go_wp2
 all_goals go_ret
 all_goals refine ⟨ret_int ?_,rfl⟩
 all_goals (unfold rsize;repeat' split) <;> first|rfl|omega
theorem refnum1_any (g o n cap : Nat) (b d : Int) (w : World) (h0 : w.cell? ⟨g,o,none⟩ = some (.int .u8 b)) (hb : 0 ≤ b ∧ b ≤ 255) (hn : (0 : Int) < n) :
  Calls Tryz.prog 76 #[.slice (some ⟨g,o,none⟩) n cap,.int .i64 1,.int .i64 d] w fun e w' => e = .returned (.int .i64 b) ∧ ∃ q,w' = w.drewN q:=by
 obtain ⟨b1,b2⟩:=hb
 go_enter Tryz.func76,Tryz.ntmps76
 go_wp2
 go_ret
 exact ⟨rfl,0,rfl⟩
theorem refnum21_any (g o cap : Nat) (b d : Int) (w : World) (h0 : w.cell? ⟨g,o,none⟩ = some (.int .u8 b)) (bb : 0 ≤ b ∧ b ≤ 255) (hd : 0 ≤ d ∧ d ≤ 63) :
  Calls Tryz.prog 76 #[.slice (some ⟨g,o,none⟩) 1 cap,.int .i64 2,.int .i64 d] w fun e w' => e = .returned (.int .i64 ((b % 32) * 64 + d)) ∧ ∃ q,w' = w.drewN q:=by
 obtain ⟨b1,b2⟩:=bb
 obtain ⟨d1,d2⟩:=hd
 have e0 : bits .and .i64 b 31 = b % 32:=bits_mask .i64 63 (by decide) wraps_i64 5 (by decide) b b1 (by omega)
 have e1 : bits .or .i64 ((b % 32) * 64) (d) = (b % 32) * 64 + d:=bits_join .i64 63 (by decide) wraps_i64 6 _ _ (by omega) (by omega) (by omega) (by omega) (by omega) (by omega)
 go_enter Tryz.func76,Tryz.ntmps76
 go_wp2
 go_quiet (fail)
 go_wp2
 refine wp_loop_rounds 2 ?_
 rw [rounds_succ]
 go_wp2
 rw [rounds_succ]
 go_wp2
 go_ret
 exact ⟨rfl,_,rfl⟩
theorem refnum22_any (g o cap : Nat) (b c d : Int) (w : World) (h0 : w.cell? ⟨g,o,none⟩ = some (.int .u8 b)) (h1 : w.cell? ⟨g,o + 1,none⟩ = some (.int .u8 c)) (bb : 0 ≤ b ∧ b ≤ 255) (bc : 0 ≤ c ∧ c ≤ 255) (hd : 0 ≤ d ∧ d ≤ 63) :
  Calls Tryz.prog 76 #[.slice (some ⟨g,o,none⟩) 2 cap,.int .i64 2,.int .i64 d] w fun e w' => e = .returned (.int .i64 ((b % 32) * 64 + c % 64)) ∧ ∃ q,w' = w.drewN q:=by
 obtain ⟨b1,b2⟩:=bb
 obtain ⟨c1,c2⟩:=bc
 obtain ⟨d1,d2⟩:=hd
 have e0 : bits .and .i64 b 31 = b % 32:=bits_mask .i64 63 (by decide) wraps_i64 5 (by decide) b b1 (by omega)
 have fc:=and63 c (by omega) (by omega)
 have e1 : bits .or .i64 ((b % 32) * 64) (c % 64) = (b % 32) * 64 + c % 64:=bits_join .i64 63 (by decide) wraps_i64 6 _ _ (by omega) (by omega) (by omega) (by omega) (by omega) (by omega)
 go_enter Tryz.func76,Tryz.ntmps76
 go_wp2
 go_quiet (fail)
 go_wp2
 refine wp_loop_rounds 2 ?_
 rw [rounds_succ]
 go_wp2
 rw [rounds_succ]
 go_wp2
 go_ret
 exact ⟨rfl,_,rfl⟩
theorem refnum31_any (g o cap : Nat) (b d : Int) (w : World) (h0 : w.cell? ⟨g,o,none⟩ = some (.int .u8 b)) (bb : 0 ≤ b ∧ b ≤ 255) (hd : 0 ≤ d ∧ d ≤ 63) :
  Calls Tryz.prog 76 #[.slice (some ⟨g,o,none⟩) 1 cap,.int .i64 3,.int .i64 d] w fun e w' => e = .returned (.int .i64 (((b % 16) * 64 + d) * 64 + d)) ∧ ∃ q,w' = w.drewN q:=by
 obtain ⟨b1,b2⟩:=bb
 obtain ⟨d1,d2⟩:=hd
 have e0 : bits .and .i64 b 15 = b % 16:=bits_mask .i64 63 (by decide) wraps_i64 4 (by decide) b b1 (by omega)
 have e1 : bits .or .i64 ((b % 16) * 64) (d) = (b % 16) * 64 + d:=bits_join .i64 63 (by decide) wraps_i64 6 _ _ (by omega) (by omega) (by omega) (by omega) (by omega) (by omega)
 have e2 : bits .or .i64 (((b % 16) * 64 + d) * 64) (d) = ((b % 16) * 64 + d) * 64 + d:=bits_join .i64 63 (by decide) wraps_i64 6 _ _ (by omega) (by omega) (by omega) (by omega) (by omega) (by omega)
 go_enter Tryz.func76,Tryz.ntmps76
 go_wp2
 go_quiet (fail)
 go_wp2
 refine wp_loop_rounds 3 ?_
 rw [rounds_succ]
 go_wp2
 rw [rounds_succ]
 go_wp2
 rw [rounds_succ]
 go_wp2
 go_ret
 exact ⟨rfl,_,rfl⟩
theorem refnum32_any (g o cap : Nat) (b c d : Int) (w : World) (h0 : w.cell? ⟨g,o,none⟩ = some (.int .u8 b)) (h1 : w.cell? ⟨g,o + 1,none⟩ = some (.int .u8 c)) (bb : 0 ≤ b ∧ b ≤ 255) (bc : 0 ≤ c ∧ c ≤ 255) (hd : 0 ≤ d ∧ d ≤ 63) :
  Calls Tryz.prog 76 #[.slice (some ⟨g,o,none⟩) 2 cap,.int .i64 3,.int .i64 d] w fun e w' => e = .returned (.int .i64 (((b % 16) * 64 + c % 64) * 64 + d)) ∧ ∃ q,w' = w.drewN q:=by
 obtain ⟨b1,b2⟩:=bb
 obtain ⟨c1,c2⟩:=bc
 obtain ⟨d1,d2⟩:=hd
 have e0 : bits .and .i64 b 15 = b % 16:=bits_mask .i64 63 (by decide) wraps_i64 4 (by decide) b b1 (by omega)
 have fc:=and63 c (by omega) (by omega)
 have e1 : bits .or .i64 ((b % 16) * 64) (c % 64) = (b % 16) * 64 + c % 64:=bits_join .i64 63 (by decide) wraps_i64 6 _ _ (by omega) (by omega) (by omega) (by omega) (by omega) (by omega)
 have e2 : bits .or .i64 (((b % 16) * 64 + c % 64) * 64) (d) = ((b % 16) * 64 + c % 64) * 64 + d:=bits_join .i64 63 (by decide) wraps_i64 6 _ _ (by omega) (by omega) (by omega) (by omega) (by omega) (by omega)
 go_enter Tryz.func76,Tryz.ntmps76
 go_wp2
 go_quiet (fail)
 go_wp2
 refine wp_loop_rounds 3 ?_
 rw [rounds_succ]
 go_wp2
 rw [rounds_succ]
 go_wp2
 rw [rounds_succ]
 go_wp2
 go_ret
 exact ⟨rfl,_,rfl⟩
theorem refnum33_any (g o cap : Nat) (b c x d : Int) (w : World) (h0 : w.cell? ⟨g,o,none⟩ = some (.int .u8 b)) (h1 : w.cell? ⟨g,o + 1,none⟩ = some (.int .u8 c)) (h2 : w.cell? ⟨g,o + 2,none⟩ = some (.int .u8 x)) (bb : 0 ≤ b ∧ b ≤ 255) (bc : 0 ≤ c ∧ c ≤ 255) (bx : 0 ≤ x ∧ x ≤ 255) (hd : 0 ≤ d ∧ d ≤ 63) :
  Calls Tryz.prog 76 #[.slice (some ⟨g,o,none⟩) 3 cap,.int .i64 3,.int .i64 d] w fun e w' => e = .returned (.int .i64 (((b % 16) * 64 + c % 64) * 64 + x % 64)) ∧ ∃ q,w' = w.drewN q:=by
 obtain ⟨b1,b2⟩:=bb
 obtain ⟨c1,c2⟩:=bc
 obtain ⟨x1,x2⟩:=bx
 obtain ⟨d1,d2⟩:=hd
 have e0 : bits .and .i64 b 15 = b % 16:=bits_mask .i64 63 (by decide) wraps_i64 4 (by decide) b b1 (by omega)
 have fc:=and63 c (by omega) (by omega)
 have fx:=and63 x (by omega) (by omega)
 have e1 : bits .or .i64 ((b % 16) * 64) (c % 64) = (b % 16) * 64 + c % 64:=bits_join .i64 63 (by decide) wraps_i64 6 _ _ (by omega) (by omega) (by omega) (by omega) (by omega) (by omega)
 have e2 : bits .or .i64 (((b % 16) * 64 + c % 64) * 64) (x % 64) = ((b % 16) * 64 + c % 64) * 64 + x % 64:=bits_join .i64 63 (by decide) wraps_i64 6 _ _ (by omega) (by omega) (by omega) (by omega) (by omega) (by omega)
 go_enter Tryz.func76,Tryz.ntmps76
 go_wp2
 go_quiet (fail)
 go_wp2
 refine wp_loop_rounds 3 ?_
 rw [rounds_succ]
 go_wp2
 rw [rounds_succ]
 go_wp2
 rw [rounds_succ]
 go_wp2
 go_ret
 exact ⟨rfl,_,rfl⟩
theorem refnum41_any (g o cap : Nat) (b d : Int) (w : World) (h0 : w.cell? ⟨g,o,none⟩ = some (.int .u8 b)) (bb : 0 ≤ b ∧ b ≤ 255) (hd : 0 ≤ d ∧ d ≤ 63) :
  Calls Tryz.prog 76 #[.slice (some ⟨g,o,none⟩) 1 cap,.int .i64 4,.int .i64 d] w fun e w' => e = .returned (.int .i64 ((((b % 8) * 64 + d) * 64 + d) * 64 + d)) ∧ ∃ q,w' = w.drewN q:=by
 obtain ⟨b1,b2⟩:=bb
 obtain ⟨d1,d2⟩:=hd
 have e0 : bits .and .i64 b 7 = b % 8:=bits_mask .i64 63 (by decide) wraps_i64 3 (by decide) b b1 (by omega)
 have e1 : bits .or .i64 ((b % 8) * 64) (d) = (b % 8) * 64 + d:=bits_join .i64 63 (by decide) wraps_i64 6 _ _ (by omega) (by omega) (by omega) (by omega) (by omega) (by omega)
 have e2 : bits .or .i64 (((b % 8) * 64 + d) * 64) (d) = ((b % 8) * 64 + d) * 64 + d:=bits_join .i64 63 (by decide) wraps_i64 6 _ _ (by omega) (by omega) (by omega) (by omega) (by omega) (by omega)
 have e3 : bits .or .i64 ((((b % 8) * 64 + d) * 64 + d) * 64) (d) = (((b % 8) * 64 + d) * 64 + d) * 64 + d:=bits_join .i64 63 (by decide) wraps_i64 6 _ _ (by omega) (by omega) (by omega) (by omega) (by omega) (by omega)
 go_enter Tryz.func76,Tryz.ntmps76
 go_wp2
 go_quiet (fail)
 go_wp2
 refine wp_loop_rounds 4 ?_
 rw [rounds_succ]
 go_wp2
 rw [rounds_succ]
 go_wp2
 rw [rounds_succ]
 go_wp2
 rw [rounds_succ]
 go_wp2
 go_ret
 exact ⟨rfl,_,rfl⟩
theorem refnum42_any (g o cap : Nat) (b c d : Int) (w : World) (h0 : w.cell? ⟨g,o,none⟩ = some (.int .u8 b)) (h1 : w.cell? ⟨g,o + 1,none⟩ = some (.int .u8 c)) (bb : 0 ≤ b ∧ b ≤ 255) (bc : 0 ≤ c ∧ c ≤ 255) (hd : 0 ≤ d ∧ d ≤ 63) :
  Calls Tryz.prog 76 #[.slice (some ⟨g,o,none⟩) 2 cap,.int .i64 4,.int .i64 d] w fun e w' => e = .returned (.int .i64 ((((b % 8) * 64 + c % 64) * 64 + d) * 64 + d)) ∧ ∃ q,w' = w.drewN q:=by
 obtain ⟨b1,b2⟩:=bb
 obtain ⟨c1,c2⟩:=bc
 obtain ⟨d1,d2⟩:=hd
 have e0 : bits .and .i64 b 7 = b % 8:=bits_mask .i64 63 (by decide) wraps_i64 3 (by decide) b b1 (by omega)
 have fc:=and63 c (by omega) (by omega)
 have e1 : bits .or .i64 ((b % 8) * 64) (c % 64) = (b % 8) * 64 + c % 64:=bits_join .i64 63 (by decide) wraps_i64 6 _ _ (by omega) (by omega) (by omega) (by omega) (by omega) (by omega)
 have e2 : bits .or .i64 (((b % 8) * 64 + c % 64) * 64) (d) = ((b % 8) * 64 + c % 64) * 64 + d:=bits_join .i64 63 (by decide) wraps_i64 6 _ _ (by omega) (by omega) (by omega) (by omega) (by omega) (by omega)
 have e3 : bits .or .i64 ((((b % 8) * 64 + c % 64) * 64 + d) * 64) (d) = (((b % 8) * 64 + c % 64) * 64 + d) * 64 + d:=bits_join .i64 63 (by decide) wraps_i64 6 _ _ (by omega) (by omega) (by omega) (by omega) (by omega) (by omega)
 go_enter Tryz.func76,Tryz.ntmps76
 go_wp2
 go_quiet (fail)
 go_wp2
 refine wp_loop_rounds 4 ?_
 rw [rounds_succ]
 go_wp2
 rw [rounds_succ]
 go_wp2
 rw [rounds_succ]
 go_wp2
 rw [rounds_succ]
 go_wp2
 go_ret
 exact ⟨rfl,_,rfl⟩
theorem refnum43_any (g o cap : Nat) (b c x d : Int) (w : World) (h0 : w.cell? ⟨g,o,none⟩ = some (.int .u8 b)) (h1 : w.cell? ⟨g,o + 1,none⟩ = some (.int .u8 c)) (h2 : w.cell? ⟨g,o + 2,none⟩ = some (.int .u8 x)) (bb : 0 ≤ b ∧ b ≤ 255) (bc : 0 ≤ c ∧ c ≤ 255) (bx : 0 ≤ x ∧ x ≤ 255) (hd : 0 ≤ d ∧ d ≤ 63) :
  Calls Tryz.prog 76 #[.slice (some ⟨g,o,none⟩) 3 cap,.int .i64 4,.int .i64 d] w fun e w' => e = .returned (.int .i64 ((((b % 8) * 64 + c % 64) * 64 + x % 64) * 64 + d)) ∧ ∃ q,w' = w.drewN q:=by
 obtain ⟨b1,b2⟩:=bb
 obtain ⟨c1,c2⟩:=bc
 obtain ⟨x1,x2⟩:=bx
 obtain ⟨d1,d2⟩:=hd
 have e0 : bits .and .i64 b 7 = b % 8:=bits_mask .i64 63 (by decide) wraps_i64 3 (by decide) b b1 (by omega)
 have fc:=and63 c (by omega) (by omega)
 have fx:=and63 x (by omega) (by omega)
 have e1 : bits .or .i64 ((b % 8) * 64) (c % 64) = (b % 8) * 64 + c % 64:=bits_join .i64 63 (by decide) wraps_i64 6 _ _ (by omega) (by omega) (by omega) (by omega) (by omega) (by omega)
 have e2 : bits .or .i64 (((b % 8) * 64 + c % 64) * 64) (x % 64) = ((b % 8) * 64 + c % 64) * 64 + x % 64:=bits_join .i64 63 (by decide) wraps_i64 6 _ _ (by omega) (by omega) (by omega) (by omega) (by omega) (by omega)
 have e3 : bits .or .i64 ((((b % 8) * 64 + c % 64) * 64 + x % 64) * 64) (d) = (((b % 8) * 64 + c % 64) * 64 + x % 64) * 64 + d:=bits_join .i64 63 (by decide) wraps_i64 6 _ _ (by omega) (by omega) (by omega) (by omega) (by omega) (by omega)
 go_enter Tryz.func76,Tryz.ntmps76
 go_wp2
 go_quiet (fail)
 go_wp2
 refine wp_loop_rounds 4 ?_
 rw [rounds_succ]
 go_wp2
 rw [rounds_succ]
 go_wp2
 rw [rounds_succ]
 go_wp2
 rw [rounds_succ]
 go_wp2
 go_ret
 exact ⟨rfl,_,rfl⟩
theorem refnum44_any (g o cap : Nat) (b c x z d : Int) (w : World) (h0 : w.cell? ⟨g,o,none⟩ = some (.int .u8 b)) (h1 : w.cell? ⟨g,o + 1,none⟩ = some (.int .u8 c)) (h2 : w.cell? ⟨g,o + 2,none⟩ = some (.int .u8 x)) (h3 : w.cell? ⟨g,o + 3,none⟩ = some (.int .u8 z)) (bb : 0 ≤ b ∧ b ≤ 255) (bc : 0 ≤ c ∧ c ≤ 255) (bx : 0 ≤ x ∧ x ≤ 255) (bz : 0 ≤ z ∧ z ≤ 255) (hd : 0 ≤ d ∧ d ≤ 63) :
  Calls Tryz.prog 76 #[.slice (some ⟨g,o,none⟩) 4 cap,.int .i64 4,.int .i64 d] w fun e w' => e = .returned (.int .i64 ((((b % 8) * 64 + c % 64) * 64 + x % 64) * 64 + z % 64)) ∧ ∃ q,w' = w.drewN q:=by
 obtain ⟨b1,b2⟩:=bb
 obtain ⟨c1,c2⟩:=bc
 obtain ⟨x1,x2⟩:=bx
 obtain ⟨z1,z2⟩:=bz
 obtain ⟨d1,d2⟩:=hd
 have e0 : bits .and .i64 b 7 = b % 8:=bits_mask .i64 63 (by decide) wraps_i64 3 (by decide) b b1 (by omega)
 have fc:=and63 c (by omega) (by omega)
 have fx:=and63 x (by omega) (by omega)
 have fz:=and63 z (by omega) (by omega)
 have e1 : bits .or .i64 ((b % 8) * 64) (c % 64) = (b % 8) * 64 + c % 64:=bits_join .i64 63 (by decide) wraps_i64 6 _ _ (by omega) (by omega) (by omega) (by omega) (by omega) (by omega)
 have e2 : bits .or .i64 (((b % 8) * 64 + c % 64) * 64) (x % 64) = ((b % 8) * 64 + c % 64) * 64 + x % 64:=bits_join .i64 63 (by decide) wraps_i64 6 _ _ (by omega) (by omega) (by omega) (by omega) (by omega) (by omega)
 have e3 : bits .or .i64 ((((b % 8) * 64 + c % 64) * 64 + x % 64) * 64) (z % 64) = (((b % 8) * 64 + c % 64) * 64 + x % 64) * 64 + z % 64:=bits_join .i64 63 (by decide) wraps_i64 6 _ _ (by omega) (by omega) (by omega) (by omega) (by omega) (by omega)
 go_enter Tryz.func76,Tryz.ntmps76
 go_wp2
 go_quiet (fail)
 go_wp2
 refine wp_loop_rounds 4 ?_
 rw [rounds_succ]
 go_wp2
 rw [rounds_succ]
 go_wp2
 rw [rounds_succ]
 go_wp2
 rw [rounds_succ]
 go_wp2
 go_ret
 exact ⟨rfl,_,rfl⟩
theorem refprefix_long (g o n cap : Nat) (b : Int) (w : World) (h0 : w.cell? ⟨g,o,none⟩ = some (.int .u8 b)) (hn : 0 < n) (hl : rsize b < n) (hs : 0 ≤ rsize b) :
  Calls Tryz.prog 75 #[.slice (some ⟨g,o,none⟩) n cap] w fun e w' => e = .returned (.tuple #[.bool false,.bool false]) ∧ w = w':=by
 have e1 : (0 : Int) < n:=by omega
 by_cases hz : rsize b = 0
 ·have HZ:=Lib.hid hz
  clear hz hl hs
  go_enter Tryz.func75,Tryz.ntmps75
  go_wp2_with (go_at_call 99;refine (refsize_any _ _).mono ?_;rintro ee ww ⟨rfl,rfl⟩;rw [HZ.out])
  go_ret2
  exact ⟨rfl,rfl⟩
 ·have e2 : (rsize b == 0) = false:=by rw [beq_eq_false_iff_ne];exact hz
  have hl' : rsize b < (n : Int):=hl
  go_enter Tryz.func75,Tryz.ntmps75
  go_wp2_with (go_at_call 99;refine (refsize_any _ _).mono ?_;rintro ee ww ⟨rfl,rfl⟩)
  go_ret2
  exact ⟨rfl,rfl⟩
theorem refprefix_nil (A : Option Addr) (cap : Nat) (w : World) :
  Calls Tryz.prog 75 #[.slice A 0 cap] w fun e w' => e = .returned (.tuple #[.bool false,.bool false]) ∧ w = w':=by
 go_enter Tryz.func75,Tryz.ntmps75
 go_wp2
 go_ret2
 exact ⟨rfl,rfl⟩
end Go.Proofs.YteebdjmjeahccaaGreatDoor
