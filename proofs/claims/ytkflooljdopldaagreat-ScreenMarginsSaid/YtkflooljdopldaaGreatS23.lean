/- Parts of the proof, one after the other. -/
import Derived.Test.YtkflooljdopldaaGreatS22
set_option linter.unusedSimpArgs false
set_option linter.unusedVariables false
/- Walks of the reference's Character and Encode. -/
namespace Go.Proofs.YtkflooljdopldaaGreat
open Go.RowKit

end Go.Proofs.YtkflooljdopldaaGreat

/- Walks of the reference's size, and of its number at a known length. -/
namespace Go.Proofs.YtkflooljdopldaaGreat
open Go.RowKit

theorem refsize_any (b : Int) (w : World) :
  Calls Tryz.prog 101 #[.int .u8 b] w fun e w' => e = .returned (.int .i64 (rsize b)) ∧ w = w' := by
 go_enter Tryz.func101, Tryz.ntmps101
 go_wp2
 all_goals go_ret
 all_goals refine ⟨ret_int ?_, rfl⟩
 all_goals (unfold rsize; repeat' split) <;> first | rfl | omega

theorem refnum1_any (g o n cap : Nat) (b d : Int) (w : World) (h0 : w.cell? ⟨g, o, none⟩ = some (.int .u8 b)) (hb : 0 ≤ b ∧ b ≤ 255) (hn : (0 : Int) < n) :
  Calls Tryz.prog 82 #[.slice (some ⟨g, o, none⟩) n cap, .int .i64 1, .int .i64 d] w fun e w' => e = .returned (.int .i64 b) ∧ ∃ q, w' = w.drewN q := by
 obtain ⟨b1, b2⟩ := hb
 go_enter Tryz.func82, Tryz.ntmps82
 go_wp2
 go_ret
 exact ⟨rfl, 0, rfl⟩

theorem refnum21_any (g o cap : Nat) (b d : Int) (w : World) (h0 : w.cell? ⟨g, o, none⟩ = some (.int .u8 b)) (bb : 0 ≤ b ∧ b ≤ 255) (hd : 0 ≤ d ∧ d ≤ 63) :
  Calls Tryz.prog 82 #[.slice (some ⟨g, o, none⟩) 1 cap, .int .i64 2, .int .i64 d] w fun e w' => e = .returned (.int .i64 ((b % 32) * 64 + d)) ∧ ∃ q, w' = w.drewN q := by
 obtain ⟨b1, b2⟩ := bb
 obtain ⟨d1, d2⟩ := hd
 have e0 : bits .and .i64 b 31 = b % 32 := bits_mask .i64 63 (by decide) wraps_i64 5 (by decide) b b1 (by omega)
 have e1 : bits .or .i64 ((b % 32) * 64) (d) = (b % 32) * 64 + d := bits_join .i64 63 (by decide) wraps_i64 6 _ _ (by omega) (by omega) (by omega) (by omega) (by omega) (by omega)
 go_enter Tryz.func82, Tryz.ntmps82
 go_wp2
 go_quiet (fail)
 go_wp2
 refine wp_loop_rounds 2 ?_
 rw [rounds_succ]
 go_wp2
 rw [rounds_succ]
 go_wp2
 go_ret
 exact ⟨rfl, _, rfl⟩

theorem refnum22_any (g o cap : Nat) (b c d : Int) (w : World) (h0 : w.cell? ⟨g, o, none⟩ = some (.int .u8 b)) (h1 : w.cell? ⟨g, o + 1, none⟩ = some (.int .u8 c)) (bb : 0 ≤ b ∧ b ≤ 255) (bc : 0 ≤ c ∧ c ≤ 255) (hd : 0 ≤ d ∧ d ≤ 63) :
  Calls Tryz.prog 82 #[.slice (some ⟨g, o, none⟩) 2 cap, .int .i64 2, .int .i64 d] w fun e w' => e = .returned (.int .i64 ((b % 32) * 64 + c % 64)) ∧ ∃ q, w' = w.drewN q := by
 obtain ⟨b1, b2⟩ := bb
 obtain ⟨c1, c2⟩ := bc
 obtain ⟨d1, d2⟩ := hd
 have e0 : bits .and .i64 b 31 = b % 32 := bits_mask .i64 63 (by decide) wraps_i64 5 (by decide) b b1 (by omega)
 have fc := and63 c (by omega) (by omega)
 have e1 : bits .or .i64 ((b % 32) * 64) (c % 64) = (b % 32) * 64 + c % 64 := bits_join .i64 63 (by decide) wraps_i64 6 _ _ (by omega) (by omega) (by omega) (by omega) (by omega) (by omega)
 go_enter Tryz.func82, Tryz.ntmps82
 go_wp2
 go_quiet (fail)
 go_wp2
 refine wp_loop_rounds 2 ?_
 rw [rounds_succ]
 go_wp2
 rw [rounds_succ]
 go_wp2
 go_ret
 exact ⟨rfl, _, rfl⟩

theorem refnum31_any (g o cap : Nat) (b d : Int) (w : World) (h0 : w.cell? ⟨g, o, none⟩ = some (.int .u8 b)) (bb : 0 ≤ b ∧ b ≤ 255) (hd : 0 ≤ d ∧ d ≤ 63) :
  Calls Tryz.prog 82 #[.slice (some ⟨g, o, none⟩) 1 cap, .int .i64 3, .int .i64 d] w fun e w' => e = .returned (.int .i64 (((b % 16) * 64 + d) * 64 + d)) ∧ ∃ q, w' = w.drewN q := by
 obtain ⟨b1, b2⟩ := bb
 obtain ⟨d1, d2⟩ := hd
 have e0 : bits .and .i64 b 15 = b % 16 := bits_mask .i64 63 (by decide) wraps_i64 4 (by decide) b b1 (by omega)
 have e1 : bits .or .i64 ((b % 16) * 64) (d) = (b % 16) * 64 + d := bits_join .i64 63 (by decide) wraps_i64 6 _ _ (by omega) (by omega) (by omega) (by omega) (by omega) (by omega)
 have e2 : bits .or .i64 (((b % 16) * 64 + d) * 64) (d) = ((b % 16) * 64 + d) * 64 + d := bits_join .i64 63 (by decide) wraps_i64 6 _ _ (by omega) (by omega) (by omega) (by omega) (by omega) (by omega)
 go_enter Tryz.func82, Tryz.ntmps82
 go_wp2
 go_quiet (fail)
 go_wp2
 refine wp_loop_rounds 3 ?_
 rw [rounds_succ]
 go_wp2
 rw [rounds_succ]
 go_wp2
 rw [rounds_succ]
 go_wp2
 go_ret
 exact ⟨rfl, _, rfl⟩

theorem refnum32_any (g o cap : Nat) (b c d : Int) (w : World) (h0 : w.cell? ⟨g, o, none⟩ = some (.int .u8 b)) (h1 : w.cell? ⟨g, o + 1, none⟩ = some (.int .u8 c)) (bb : 0 ≤ b ∧ b ≤ 255) (bc : 0 ≤ c ∧ c ≤ 255) (hd : 0 ≤ d ∧ d ≤ 63) :
  Calls Tryz.prog 82 #[.slice (some ⟨g, o, none⟩) 2 cap, .int .i64 3, .int .i64 d] w fun e w' => e = .returned (.int .i64 (((b % 16) * 64 + c % 64) * 64 + d)) ∧ ∃ q, w' = w.drewN q := by
 obtain ⟨b1, b2⟩ := bb
 obtain ⟨c1, c2⟩ := bc
 obtain ⟨d1, d2⟩ := hd
 have e0 : bits .and .i64 b 15 = b % 16 := bits_mask .i64 63 (by decide) wraps_i64 4 (by decide) b b1 (by omega)
 have fc := and63 c (by omega) (by omega)
 have e1 : bits .or .i64 ((b % 16) * 64) (c % 64) = (b % 16) * 64 + c % 64 := bits_join .i64 63 (by decide) wraps_i64 6 _ _ (by omega) (by omega) (by omega) (by omega) (by omega) (by omega)
 have e2 : bits .or .i64 (((b % 16) * 64 + c % 64) * 64) (d) = ((b % 16) * 64 + c % 64) * 64 + d := bits_join .i64 63 (by decide) wraps_i64 6 _ _ (by omega) (by omega) (by omega) (by omega) (by omega) (by omega)
 go_enter Tryz.func82, Tryz.ntmps82
 go_wp2
 go_quiet (fail)
 go_wp2
 refine wp_loop_rounds 3 ?_
 rw [rounds_succ]
 go_wp2
 rw [rounds_succ]
 go_wp2
 rw [rounds_succ]
 go_wp2
 go_ret
 exact ⟨rfl, _, rfl⟩

theorem refnum33_any (g o cap : Nat) (b c x d : Int) (w : World) (h0 : w.cell? ⟨g, o, none⟩ = some (.int .u8 b)) (h1 : w.cell? ⟨g, o + 1, none⟩ = some (.int .u8 c)) (h2 : w.cell? ⟨g, o + 2, none⟩ = some (.int .u8 x)) (bb : 0 ≤ b ∧ b ≤ 255) (bc : 0 ≤ c ∧ c ≤ 255) (bx : 0 ≤ x ∧ x ≤ 255) (hd : 0 ≤ d ∧ d ≤ 63) :
  Calls Tryz.prog 82 #[.slice (some ⟨g, o, none⟩) 3 cap, .int .i64 3, .int .i64 d] w fun e w' => e = .returned (.int .i64 (((b % 16) * 64 + c % 64) * 64 + x % 64)) ∧ ∃ q, w' = w.drewN q := by
 obtain ⟨b1, b2⟩ := bb
 obtain ⟨c1, c2⟩ := bc
 obtain ⟨x1, x2⟩ := bx
 obtain ⟨d1, d2⟩ := hd
 have e0 : bits .and .i64 b 15 = b % 16 := bits_mask .i64 63 (by decide) wraps_i64 4 (by decide) b b1 (by omega)
 have fc := and63 c (by omega) (by omega)
 have fx := and63 x (by omega) (by omega)
 have e1 : bits .or .i64 ((b % 16) * 64) (c % 64) = (b % 16) * 64 + c % 64 := bits_join .i64 63 (by decide) wraps_i64 6 _ _ (by omega) (by omega) (by omega) (by omega) (by omega) (by omega)
 have e2 : bits .or .i64 (((b % 16) * 64 + c % 64) * 64) (x % 64) = ((b % 16) * 64 + c % 64) * 64 + x % 64 := bits_join .i64 63 (by decide) wraps_i64 6 _ _ (by omega) (by omega) (by omega) (by omega) (by omega) (by omega)
 go_enter Tryz.func82, Tryz.ntmps82
 go_wp2
 go_quiet (fail)
 go_wp2
 refine wp_loop_rounds 3 ?_
 rw [rounds_succ]
 go_wp2
 rw [rounds_succ]
 go_wp2
 rw [rounds_succ]
 go_wp2
 go_ret
 exact ⟨rfl, _, rfl⟩

theorem refnum41_any (g o cap : Nat) (b d : Int) (w : World) (h0 : w.cell? ⟨g, o, none⟩ = some (.int .u8 b)) (bb : 0 ≤ b ∧ b ≤ 255) (hd : 0 ≤ d ∧ d ≤ 63) :
  Calls Tryz.prog 82 #[.slice (some ⟨g, o, none⟩) 1 cap, .int .i64 4, .int .i64 d] w fun e w' => e = .returned (.int .i64 ((((b % 8) * 64 + d) * 64 + d) * 64 + d)) ∧ ∃ q, w' = w.drewN q := by
 obtain ⟨b1, b2⟩ := bb
 obtain ⟨d1, d2⟩ := hd
 have e0 : bits .and .i64 b 7 = b % 8 := bits_mask .i64 63 (by decide) wraps_i64 3 (by decide) b b1 (by omega)
 have e1 : bits .or .i64 ((b % 8) * 64) (d) = (b % 8) * 64 + d := bits_join .i64 63 (by decide) wraps_i64 6 _ _ (by omega) (by omega) (by omega) (by omega) (by omega) (by omega)
 have e2 : bits .or .i64 (((b % 8) * 64 + d) * 64) (d) = ((b % 8) * 64 + d) * 64 + d := bits_join .i64 63 (by decide) wraps_i64 6 _ _ (by omega) (by omega) (by omega) (by omega) (by omega) (by omega)
 have e3 : bits .or .i64 ((((b % 8) * 64 + d) * 64 + d) * 64) (d) = (((b % 8) * 64 + d) * 64 + d) * 64 + d := bits_join .i64 63 (by decide) wraps_i64 6 _ _ (by omega) (by omega) (by omega) (by omega) (by omega) (by omega)
 go_enter Tryz.func82, Tryz.ntmps82
 go_wp2
 go_quiet (fail)
 go_wp2
 refine wp_loop_rounds 4 ?_
 rw [rounds_succ]
 go_wp2
 rw [rounds_succ]
 go_wp2
 rw [rounds_succ]
 go_wp2
 rw [rounds_succ]
 go_wp2
 go_ret
 exact ⟨rfl, _, rfl⟩

theorem refnum42_any (g o cap : Nat) (b c d : Int) (w : World) (h0 : w.cell? ⟨g, o, none⟩ = some (.int .u8 b)) (h1 : w.cell? ⟨g, o + 1, none⟩ = some (.int .u8 c)) (bb : 0 ≤ b ∧ b ≤ 255) (bc : 0 ≤ c ∧ c ≤ 255) (hd : 0 ≤ d ∧ d ≤ 63) :
  Calls Tryz.prog 82 #[.slice (some ⟨g, o, none⟩) 2 cap, .int .i64 4, .int .i64 d] w fun e w' => e = .returned (.int .i64 ((((b % 8) * 64 + c % 64) * 64 + d) * 64 + d)) ∧ ∃ q, w' = w.drewN q := by
 obtain ⟨b1, b2⟩ := bb
 obtain ⟨c1, c2⟩ := bc
 obtain ⟨d1, d2⟩ := hd
 have e0 : bits .and .i64 b 7 = b % 8 := bits_mask .i64 63 (by decide) wraps_i64 3 (by decide) b b1 (by omega)
 have fc := and63 c (by omega) (by omega)
 have e1 : bits .or .i64 ((b % 8) * 64) (c % 64) = (b % 8) * 64 + c % 64 := bits_join .i64 63 (by decide) wraps_i64 6 _ _ (by omega) (by omega) (by omega) (by omega) (by omega) (by omega)
 have e2 : bits .or .i64 (((b % 8) * 64 + c % 64) * 64) (d) = ((b % 8) * 64 + c % 64) * 64 + d := bits_join .i64 63 (by decide) wraps_i64 6 _ _ (by omega) (by omega) (by omega) (by omega) (by omega) (by omega)
 have e3 : bits .or .i64 ((((b % 8) * 64 + c % 64) * 64 + d) * 64) (d) = (((b % 8) * 64 + c % 64) * 64 + d) * 64 + d := bits_join .i64 63 (by decide) wraps_i64 6 _ _ (by omega) (by omega) (by omega) (by omega) (by omega) (by omega)
 go_enter Tryz.func82, Tryz.ntmps82
 go_wp2
 go_quiet (fail)
 go_wp2
 refine wp_loop_rounds 4 ?_
 rw [rounds_succ]
 go_wp2
 rw [rounds_succ]
 go_wp2
 rw [rounds_succ]
 go_wp2
 rw [rounds_succ]
 go_wp2
 go_ret
 exact ⟨rfl, _, rfl⟩

theorem refnum43_any (g o cap : Nat) (b c x d : Int) (w : World) (h0 : w.cell? ⟨g, o, none⟩ = some (.int .u8 b)) (h1 : w.cell? ⟨g, o + 1, none⟩ = some (.int .u8 c)) (h2 : w.cell? ⟨g, o + 2, none⟩ = some (.int .u8 x)) (bb : 0 ≤ b ∧ b ≤ 255) (bc : 0 ≤ c ∧ c ≤ 255) (bx : 0 ≤ x ∧ x ≤ 255) (hd : 0 ≤ d ∧ d ≤ 63) :
  Calls Tryz.prog 82 #[.slice (some ⟨g, o, none⟩) 3 cap, .int .i64 4, .int .i64 d] w fun e w' => e = .returned (.int .i64 ((((b % 8) * 64 + c % 64) * 64 + x % 64) * 64 + d)) ∧ ∃ q, w' = w.drewN q := by
 obtain ⟨b1, b2⟩ := bb
 obtain ⟨c1, c2⟩ := bc
 obtain ⟨x1, x2⟩ := bx
 obtain ⟨d1, d2⟩ := hd
 have e0 : bits .and .i64 b 7 = b % 8 := bits_mask .i64 63 (by decide) wraps_i64 3 (by decide) b b1 (by omega)
 have fc := and63 c (by omega) (by omega)
 have fx := and63 x (by omega) (by omega)
 have e1 : bits .or .i64 ((b % 8) * 64) (c % 64) = (b % 8) * 64 + c % 64 := bits_join .i64 63 (by decide) wraps_i64 6 _ _ (by omega) (by omega) (by omega) (by omega) (by omega) (by omega)
 have e2 : bits .or .i64 (((b % 8) * 64 + c % 64) * 64) (x % 64) = ((b % 8) * 64 + c % 64) * 64 + x % 64 := bits_join .i64 63 (by decide) wraps_i64 6 _ _ (by omega) (by omega) (by omega) (by omega) (by omega) (by omega)
 have e3 : bits .or .i64 ((((b % 8) * 64 + c % 64) * 64 + x % 64) * 64) (d) = (((b % 8) * 64 + c % 64) * 64 + x % 64) * 64 + d := bits_join .i64 63 (by decide) wraps_i64 6 _ _ (by omega) (by omega) (by omega) (by omega) (by omega) (by omega)
 go_enter Tryz.func82, Tryz.ntmps82
 go_wp2
 go_quiet (fail)
 go_wp2
 refine wp_loop_rounds 4 ?_
 rw [rounds_succ]
 go_wp2
 rw [rounds_succ]
 go_wp2
 rw [rounds_succ]
 go_wp2
 rw [rounds_succ]
 go_wp2
 go_ret
 exact ⟨rfl, _, rfl⟩

theorem refnum44_any (g o cap : Nat) (b c x z d : Int) (w : World) (h0 : w.cell? ⟨g, o, none⟩ = some (.int .u8 b)) (h1 : w.cell? ⟨g, o + 1, none⟩ = some (.int .u8 c)) (h2 : w.cell? ⟨g, o + 2, none⟩ = some (.int .u8 x)) (h3 : w.cell? ⟨g, o + 3, none⟩ = some (.int .u8 z)) (bb : 0 ≤ b ∧ b ≤ 255) (bc : 0 ≤ c ∧ c ≤ 255) (bx : 0 ≤ x ∧ x ≤ 255) (bz : 0 ≤ z ∧ z ≤ 255) (hd : 0 ≤ d ∧ d ≤ 63) :
  Calls Tryz.prog 82 #[.slice (some ⟨g, o, none⟩) 4 cap, .int .i64 4, .int .i64 d] w fun e w' => e = .returned (.int .i64 ((((b % 8) * 64 + c % 64) * 64 + x % 64) * 64 + z % 64)) ∧ ∃ q, w' = w.drewN q := by
 obtain ⟨b1, b2⟩ := bb
 obtain ⟨c1, c2⟩ := bc
 obtain ⟨x1, x2⟩ := bx
 obtain ⟨z1, z2⟩ := bz
 obtain ⟨d1, d2⟩ := hd
 have e0 : bits .and .i64 b 7 = b % 8 := bits_mask .i64 63 (by decide) wraps_i64 3 (by decide) b b1 (by omega)
 have fc := and63 c (by omega) (by omega)
 have fx := and63 x (by omega) (by omega)
 have fz := and63 z (by omega) (by omega)
 have e1 : bits .or .i64 ((b % 8) * 64) (c % 64) = (b % 8) * 64 + c % 64 := bits_join .i64 63 (by decide) wraps_i64 6 _ _ (by omega) (by omega) (by omega) (by omega) (by omega) (by omega)
 have e2 : bits .or .i64 (((b % 8) * 64 + c % 64) * 64) (x % 64) = ((b % 8) * 64 + c % 64) * 64 + x % 64 := bits_join .i64 63 (by decide) wraps_i64 6 _ _ (by omega) (by omega) (by omega) (by omega) (by omega) (by omega)
 have e3 : bits .or .i64 ((((b % 8) * 64 + c % 64) * 64 + x % 64) * 64) (z % 64) = (((b % 8) * 64 + c % 64) * 64 + x % 64) * 64 + z % 64 := bits_join .i64 63 (by decide) wraps_i64 6 _ _ (by omega) (by omega) (by omega) (by omega) (by omega) (by omega)
 go_enter Tryz.func82, Tryz.ntmps82
 go_wp2
 go_quiet (fail)
 go_wp2
 refine wp_loop_rounds 4 ?_
 rw [rounds_succ]
 go_wp2
 rw [rounds_succ]
 go_wp2
 rw [rounds_succ]
 go_wp2
 rw [rounds_succ]
 go_wp2
 go_ret
 exact ⟨rfl, _, rfl⟩

end Go.Proofs.YtkflooljdopldaaGreat

/- Walk of the reference's prefix. -/
namespace Go.Proofs.YtkflooljdopldaaGreat
open Go.RowKit

theorem refprefix_long (g o n cap : Nat) (b : Int) (w : World) (h0 : w.cell? ⟨g, o, none⟩ = some (.int .u8 b)) (hn : 0 < n) (hl : rsize b < n) (hs : 0 ≤ rsize b) :
  Calls Tryz.prog 81 #[.slice (some ⟨g, o, none⟩) n cap] w fun e w' => e = .returned (.tuple #[.bool false, .bool false]) ∧ w = w' := by
 have e1 : (0 : Int) < n := by omega
 by_cases hz : rsize b = 0
 ·have HZ := Lib.hid hz
  clear hz hl hs
  go_enter Tryz.func81, Tryz.ntmps81
  go_wp2_with (go_at_call 101; refine (refsize_any _ _).mono ?_; rintro ee ww ⟨rfl, rfl⟩; rw [HZ.out])
  go_ret2
  exact ⟨rfl, rfl⟩
 ·have e2 : (rsize b == 0) = false := by rw [beq_eq_false_iff_ne]; exact hz
  have hl' : rsize b < (n : Int) := hl
  go_enter Tryz.func81, Tryz.ntmps81
  go_wp2_with (go_at_call 101; refine (refsize_any _ _).mono ?_; rintro ee ww ⟨rfl, rfl⟩)
  go_ret2
  exact ⟨rfl, rfl⟩
theorem refprefix_nil (A : Option Addr) (cap : Nat) (w : World) :
  Calls Tryz.prog 81 #[.slice A 0 cap] w fun e w' => e = .returned (.tuple #[.bool false, .bool false]) ∧ w = w' := by
 go_enter Tryz.func81, Tryz.ntmps81
 go_wp2
 go_ret2
 exact ⟨rfl, rfl⟩
end Go.Proofs.YtkflooljdopldaaGreat

/- Walk of the reference's prefix: the same plain function as the program's. -/
namespace Go.Proofs.YtkflooljdopldaaGreat
open Go.RowKit

/-- The digit of the byte at place i, d where there is none. -/
def dig (bs : List Int) (i : Nat) (d : Int) : Int := match bs[i]? with | some x => x % 64 | none => d
def numN (bs : List Int) (d : Int) : Nat → Int
 | 1 => bs.headD 0
 | 2 => (bs.headD 0 % 32) * 64 + dig bs 1 d
 | 3 => ((bs.headD 0 % 16) * 64 + dig bs 1 d) * 64 + dig bs 2 d
 | 4 => (((bs.headD 0 % 8) * 64 + dig bs 1 d) * 64 + dig bs 2 d) * 64 + dig bs 3 d
 | _ => 0

theorem refnum_any (A : Option Addr) (n cap N : Nat) (bs : List Int) (d : Int) (w : World) (hr : Rd (.int .u8) w A n bs) (h1 : 1 ≤ n) (hn : n ≤ N) (h4 : N ≤ 4) (hb : ∀ x ∈ bs, 0 ≤ x ∧ x ≤ 255) (hd : 0 ≤ d ∧ d ≤ 63) :
  Calls Tryz.prog 82 #[.slice A n cap, .int .i64 N, .int .i64 d] w fun e w' => e = .returned (.int .i64 (numN bs d N)) ∧ ∃ q, w' = w.drewN q := by
 obtain ⟨g, o, rfl, hx⟩ := hr.2 (by omega)
 have hl := hr.1
 match bs, hl, hx, hb with
 | [b], hl, hx, hb =>
  simp at hl; subst hl
  have x0 := hx 0 (by simp)
  have y0 := hb b (by simp)
  simp at x0
  match N, hn, h4 with
  | 1, _, _ => exact refnum1_any g o 1 cap b d w x0 y0 (by omega)
  | 2, _, _ => exact refnum21_any g o cap b d w x0 y0 hd
  | 3, _, _ => exact refnum31_any g o cap b d w x0 y0 hd
  | 4, _, _ => exact refnum41_any g o cap b d w x0 y0 hd
 | [b, c], hl, hx, hb =>
  simp at hl; subst hl
  have x0 := hx 0 (by simp)
  have x1 := hx 1 (by simp)
  have y0 := hb b (by simp)
  have y1 := hb c (by simp)
  simp at x0 x1
  match N, hn, h4 with
  | 2, _, _ => exact refnum22_any g o cap b c d w x0 x1 y0 y1 hd
  | 3, _, _ => exact refnum32_any g o cap b c d w x0 x1 y0 y1 hd
  | 4, _, _ => exact refnum42_any g o cap b c d w x0 x1 y0 y1 hd
 | [b, c, x], hl, hx, hb =>
  simp at hl; subst hl
  have x0 := hx 0 (by simp)
  have x1 := hx 1 (by simp)
  have x2 := hx 2 (by simp)
  have y0 := hb b (by simp)
  have y1 := hb c (by simp)
  have y2 := hb x (by simp)
  simp at x0 x1 x2
  match N, hn, h4 with
  | 3, _, _ => exact refnum33_any g o cap b c x d w x0 x1 x2 y0 y1 y2 hd
  | 4, _, _ => exact refnum43_any g o cap b c x d w x0 x1 x2 y0 y1 y2 hd
 | [b, c, x, y], hl, hx, hb =>
  simp at hl; subst hl
  have x0 := hx 0 (by simp)
  have x1 := hx 1 (by simp)
  have x2 := hx 2 (by simp)
  have x3 := hx 3 (by simp)
  have y0 := hb b (by simp)
  have y1 := hb c (by simp)
  have y2 := hb x (by simp)
  have y3 := hb y (by simp)
  simp at x0 x1 x2 x3
  match N, hn, h4 with
  | 4, _, _ => exact refnum44_any g o cap b c x y d w x0 x1 x2 x3 y0 y1 y2 y3 hd
 | [], hl, _, _ => simp at hl; omega
 | _ :: _ :: _ :: _ :: _ :: _, hl, _, _ => simp at hl; omega

def lowN : Nat → Int
 | 2 => 128
 | 3 => 2048
 | 4 => 65536
 | _ => 0
def contB (x : Int) : Bool := decide (128 ≤ x ∧ x ≤ 191)
/-- What the reference's last test says of the least and the most. -/
def badB (L M low : Int) : Bool := decide (M < low ∨ 1114111 < L ∨ (55296 ≤ L ∧ M ≤ 57343))

theorem ok_conts : ∀ (t : List Int) (lo hi : Int), 128 ≤ lo → hi ≤ 191 → (∃ x ∈ t, contB x = false) → okRest lo hi t = false
 | [], _, _, _, _, h => by simp at h
 | c :: t, lo, hi, h1, h2, h => by
  show (decide _ && okRest 128 191 t) = false
  rcases h with ⟨x, hx, hc⟩
  simp only [contB, decide_eq_false_iff_not] at hc
  rcases List.mem_cons.1 hx with rfl | hx
  ·have : decide (lo ≤ x ∧ x ≤ hi) = false := by simp; omega
   rw [this]; rfl
  ·rw [ok_conts t 128 191 (by omega) (by omega) ⟨x, hx, by simp [contB]; omega⟩, Bool.and_false]
theorem rlow_ge (b : Int) : 128 ≤ rlow b := by unfold rlow; split <;> (try split) <;> omega
theorem rhigh_le (b : Int) : rhigh b ≤ 191 := by unfold rhigh; split <;> (try split) <;> omega

theorem conts_true : ∀ {t : List Int}, (∀ x ∈ t, contB x = true) → okRest 128 191 t = true
 | [], _ => rfl
 | c :: t, h => by
  show (decide _ && okRest 128 191 t) = true
  have := h c (by simp)
  simp only [contB] at this
  rw [this, conts_true (fun x hx => h x (by simp [hx]))]; rfl

theorem rsize_cases (b : Int) (N : Nat) (h : rsize b = N) (h0 : 1 ≤ N) : (N = 1 ∧ b < 128) ∨ (N = 2 ∧ 194 ≤ b ∧ b ≤ 223) ∨ (N = 3 ∧ 224 ≤ b ∧ b ≤ 239) ∨ (N = 4 ∧ 240 ≤ b ∧ b ≤ 244) := by
 unfold rsize at h
 repeat' split at h
 all_goals omega
/-- The plain law of prefix: what the least and the most say is what the second byte's range says. -/
theorem prefix_bad (b : Int) (t : List Int) (N : Nat) (hb0 : 0 ≤ b) (hN : rsize b = N) (hn : t.length + 1 ≤ N) (ht : ∀ x ∈ t, contB x = true) :
  prefixB (b :: t) = !badB (numN (b :: t) 0 N) (numN (b :: t) 63 N) (lowN N) := by
 have hs : decide ((t.length : Int) + 1 ≤ rsize b) = true := by rw [hN]; simp; omega
 show (decide _ && okRest (rlow b) (rhigh b) t) = _
 rw [hs, Bool.true_and]
 have hcont : ∀ c r, t = c :: r → (128 ≤ c ∧ c ≤ 191) ∧ okRest (rlow b) (rhigh b) t = decide (rlow b ≤ c ∧ c ≤ rhigh b) := by
  intro c r e
  subst e
  have := ht c (by simp)
  simp only [contB, decide_eq_true_eq] at this
  refine ⟨this, ?_⟩
  show (decide _ && okRest 128 191 r) = _
  rw [conts_true (fun x hx => ht x (by simp [hx])), Bool.and_true]
 have fin : ∀ (p : Bool) (L M l : Int), (p = true ↔ ¬ (M < l ∨ 1114111 < L ∨ (55296 ≤ L ∧ M ≤ 57343))) → p = !badB L M l := by
  intro p L M l h
  rw [Bool.eq_iff_iff, h]
  unfold badB
  rw [Bool.not_eq_true', decide_eq_false_iff_not]
 have hdig : ∀ x ∈ t, ∀ c, c = x → 128 ≤ c ∧ c ≤ 191 := by
  intro x hx c e
  subst e
  have := ht c hx
  simpa only [contB, decide_eq_true_eq] using this
 apply fin
 rcases rsize_cases b N hN (by omega) with ⟨rfl, h⟩ | ⟨rfl, h1, h2⟩ | ⟨rfl, h1, h2⟩ | ⟨rfl, h1, h2⟩
 ·match t, hn with
  | [], _ => simp [okRest, numN, lowN]; omega
  | _ :: _, hn => simp at hn
 ·match t, hn, hcont with
  | [], _, _ => simp [okRest, numN, lowN, dig]; omega
  | [c], _, hcont =>
   obtain ⟨hc, e⟩ := hcont c [] rfl
   rw [e, decide_eq_true_eq]
   show _ ↔ ¬ ((b % 32) * 64 + c % 64 < 128 ∨ 1114111 < (b % 32) * 64 + c % 64 ∨ (55296 ≤ (b % 32) * 64 + c % 64 ∧ (b % 32) * 64 + c % 64 ≤ 57343))
   unfold rlow rhigh
   repeat' split
   all_goals omega
  | _ :: _ :: _, hn, _ => simp at hn
 ·match t, hn, hcont, hdig with
  | [], _, _, _ => simp [okRest, numN, lowN, dig]; omega
  | [c], _, hcont, _ =>
   obtain ⟨hc, e⟩ := hcont c [] rfl
   rw [e, decide_eq_true_eq]
   show _ ↔ ¬ (((b % 16) * 64 + c % 64) * 64 + 63 < 2048 ∨ 1114111 < ((b % 16) * 64 + c % 64) * 64 + 0 ∨ (55296 ≤ ((b % 16) * 64 + c % 64) * 64 + 0 ∧ ((b % 16) * 64 + c % 64) * 64 + 63 ≤ 57343))
   unfold rlow rhigh
   repeat' split
   all_goals omega
  | [c, d], _, hcont, hdig =>
   obtain ⟨hc, e⟩ := hcont c [d] rfl
   have hd := hdig d (by simp) d rfl
   rw [e, decide_eq_true_eq]
   show _ ↔ ¬ (((b % 16) * 64 + c % 64) * 64 + d % 64 < 2048 ∨ 1114111 < ((b % 16) * 64 + c % 64) * 64 + d % 64 ∨ (55296 ≤ ((b % 16) * 64 + c % 64) * 64 + d % 64 ∧ ((b % 16) * 64 + c % 64) * 64 + d % 64 ≤ 57343))
   unfold rlow rhigh
   repeat' split
   all_goals omega
  | _ :: _ :: _ :: _, hn, _, _ => simp at hn
 ·match t, hn, hcont, hdig with
  | [], _, _, _ => simp [okRest, numN, lowN, dig]; omega
  | [c], _, hcont, _ =>
   obtain ⟨hc, e⟩ := hcont c [] rfl
   rw [e, decide_eq_true_eq]
   show _ ↔ ¬ ((((b % 8) * 64 + c % 64) * 64 + 63) * 64 + 63 < 65536 ∨ 1114111 < (((b % 8) * 64 + c % 64) * 64 + 0) * 64 + 0 ∨ (55296 ≤ (((b % 8) * 64 + c % 64) * 64 + 0) * 64 + 0 ∧ (((b % 8) * 64 + c % 64) * 64 + 63) * 64 + 63 ≤ 57343))
   unfold rlow rhigh
   repeat' split
   all_goals omega
  | [c, d], _, hcont, hdig =>
   obtain ⟨hc, e⟩ := hcont c [d] rfl
   have hd := hdig d (by simp) d rfl
   rw [e, decide_eq_true_eq]
   show _ ↔ ¬ ((((b % 8) * 64 + c % 64) * 64 + d % 64) * 64 + 63 < 65536 ∨ 1114111 < (((b % 8) * 64 + c % 64) * 64 + d % 64) * 64 + 0 ∨ (55296 ≤ (((b % 8) * 64 + c % 64) * 64 + d % 64) * 64 + 0 ∧ (((b % 8) * 64 + c % 64) * 64 + d % 64) * 64 + 63 ≤ 57343))
   unfold rlow rhigh
   repeat' split
   all_goals omega
  | [c, d, x], _, hcont, hdig =>
   obtain ⟨hc, e⟩ := hcont c [d, x] rfl
   have hd := hdig d (by simp) d rfl
   have hx := hdig x (by simp) x rfl
   rw [e, decide_eq_true_eq]
   show _ ↔ ¬ ((((b % 8) * 64 + c % 64) * 64 + d % 64) * 64 + x % 64 < 65536 ∨ 1114111 < (((b % 8) * 64 + c % 64) * 64 + d % 64) * 64 + x % 64 ∨ (55296 ≤ (((b % 8) * 64 + c % 64) * 64 + d % 64) * 64 + x % 64 ∧ (((b % 8) * 64 + c % 64) * 64 + d % 64) * 64 + x % 64 ≤ 57343))
   unfold rlow rhigh
   repeat' split
   all_goals omega
  | _ :: _ :: _ :: _ :: _, hn, _, _ => simp at hn
end Go.Proofs.YtkflooljdopldaaGreat
