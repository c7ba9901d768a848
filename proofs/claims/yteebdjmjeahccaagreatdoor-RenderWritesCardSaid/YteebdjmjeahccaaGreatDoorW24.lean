/- Parts of the proof, one after the other. -/
import Derived.Test.YteebdjmjeahccaaGreatDoorW23
set_option linter.unusedSimpArgs false
set_option linter.unusedVariables false
namespace Go.Proofs.YteebdjmjeahccaaGreatDoor
open Go.RowKit
def charB (r : Int) : Bool:=decide (0 ≤ r ∧ r ≤ 1114111 ∧ ¬ (55296 ≤ r ∧ r ≤ 57343))
/-- The encoding of a character. -/
def encC (r : Int) : List Int :=
 if r ≤ 127 then [r] else if r ≤ 2047 then [192 + r / 64,128 + r % 64] else if r ≤ 65535 then [224 + r / 64 / 64,128 + r / 64 % 64,128 + r % 64] else [240 + r / 64 / 64 / 64,128 + r / 64 / 64 % 64,128 + r / 64 % 64,128 + r % 64]
def encN (r : Int) : List Int:=encC (if charB r then r else 65533)
theorem and63 (r : Int) (h0 : 0 ≤ r) (h1 : r ≤ 1114111) : bits .and .i64 r 63 = r % 64:=bits_mask .i64 63 (by decide) wraps_i64 6 (by decide) r h0 (by omega)
theorem or128 (r : Int) : bits .or .i64 128 (r % 64) = 128 + r % 64:=bits_join .i64 63 (by decide) wraps_i64 6 128 _ (by omega) (by omega) (by omega) (by omega) (by omega) (by omega)
theorem encode1_any (r : Int) (w : World) (h1 : 0 ≤ r) (h2 : r ≤ 127) :
  Calls Tryz.prog 59 #[.int .i64 r] w fun e w' => ∃ v,e = .returned v ∧ Sl (.int .u8) w' v (encC r) ∧ Bw w w':=by
 have hmk : ∀ w,(Instr.makeSlice 33 (.int .i64 1) (.int .i64 1)).run Tryz.prog w = .ok (.slice (some ⟨w.heap.size,0,none⟩) 1 1) (w.alloc (.cells #[.int .u8 0] 5)):=fun _ => by kernel_rfl
 have e7 : bits .or .i64 0 (r) = r:=bits_join .i64 63 (by decide) wraps_i64 7 0 _ (by omega) (by omega) (by omega) (by omega) (by omega) (by omega) |>.trans (Int.zero_add _)
 go_enter Tryz.func59,Tryz.ntmps59
 go_wp2
 all_goals go_ret
 all_goals refine ⟨_,rfl,Sl.lit _ _ _ _ _ _ ?_ ?_ (by omega) (by omega),BWX⟩
 all_goals (unfold encC;rw [if_pos (by omega)];rfl)
theorem encode2_any (r : Int) (w : World) (h1 : 128 ≤ r) (h2 : r ≤ 2047) :
  Calls Tryz.prog 59 #[.int .i64 r] w fun e w' => ∃ v,e = .returned v ∧ Sl (.int .u8) w' v (encC r) ∧ Bw w w':=by
 have hmk : ∀ w,(Instr.makeSlice 33 (.int .i64 2) (.int .i64 2)).run Tryz.prog w = .ok (.slice (some ⟨w.heap.size,0,none⟩) 2 2) (w.alloc (.cells #[.int .u8 0,.int .u8 0] 5)):=fun _ => by kernel_rfl
 have e0:=and63 (r) (by omega) (by omega)
 have f0:=or128 (r)
 have e7 : bits .or .i64 192 (r / 64) = 192 + r / 64:=bits_join .i64 63 (by decide) wraps_i64 5 192 _ (by omega) (by omega) (by omega) (by omega) (by omega) (by omega)
 go_enter Tryz.func59,Tryz.ntmps59
 go_wp2
 all_goals go_ret
 all_goals refine ⟨_,rfl,Sl.lit _ _ _ _ _ _ ?_ ?_ (by omega) (by omega),BWX⟩
 all_goals (unfold encC;rw [if_neg (by omega),if_pos (by omega)];rfl)
theorem encode3_any (r : Int) (w : World) (h1 : 2048 ≤ r) (h2 : r ≤ 65535) (h3 : r < 55296 ∨ 57343 < r) :
  Calls Tryz.prog 59 #[.int .i64 r] w fun e w' => ∃ v,e = .returned v ∧ Sl (.int .u8) w' v (encC r) ∧ Bw w w':=by
 have hmk : ∀ w,(Instr.makeSlice 33 (.int .i64 3) (.int .i64 3)).run Tryz.prog w = .ok (.slice (some ⟨w.heap.size,0,none⟩) 3 3) (w.alloc (.cells #[.int .u8 0,.int .u8 0,.int .u8 0] 5)):=fun _ => by kernel_rfl
 have e0:=and63 (r) (by omega) (by omega)
 have f0:=or128 (r)
 have e1:=and63 (r / 64) (by omega) (by omega)
 have f1:=or128 (r / 64)
 have e7 : bits .or .i64 224 (r / 64 / 64) = 224 + r / 64 / 64:=bits_join .i64 63 (by decide) wraps_i64 4 224 _ (by omega) (by omega) (by omega) (by omega) (by omega) (by omega)
 go_enter Tryz.func59,Tryz.ntmps59
 go_wp2
 all_goals go_ret
 all_goals refine ⟨_,rfl,Sl.lit _ _ _ _ _ _ ?_ ?_ (by omega) (by omega),BWX⟩
 all_goals (unfold encC;rw [if_neg (by omega),if_neg (by omega),if_pos (by omega)];rfl)
theorem encode4_any (r : Int) (w : World) (h1 : 65536 ≤ r) (h2 : r ≤ 1114111) :
  Calls Tryz.prog 59 #[.int .i64 r] w fun e w' => ∃ v,e = .returned v ∧ Sl (.int .u8) w' v (encC r) ∧ Bw w w':=by
 have hmk : ∀ w,(Instr.makeSlice 33 (.int .i64 4) (.int .i64 4)).run Tryz.prog w = .ok (.slice (some ⟨w.heap.size,0,none⟩) 4 4) (w.alloc (.cells #[.int .u8 0,.int .u8 0,.int .u8 0,.int .u8 0] 5)):=fun _ => by kernel_rfl
 have e0:=and63 (r) (by omega) (by omega)
 have f0:=or128 (r)
 have e1:=and63 (r / 64) (by omega) (by omega)
 have f1:=or128 (r / 64)
 have e2:=and63 (r / 64 / 64) (by omega) (by omega)
 have f2:=or128 (r / 64 / 64)
 have e7 : bits .or .i64 240 (r / 64 / 64 / 64) = 240 + r / 64 / 64 / 64:=bits_join .i64 63 (by decide) wraps_i64 3 240 _ (by omega) (by omega) (by omega) (by omega) (by omega) (by omega)
 go_enter Tryz.func59,Tryz.ntmps59
 go_wp2
 all_goals go_ret
 all_goals refine ⟨_,rfl,Sl.lit _ _ _ _ _ _ ?_ ?_ (by omega) (by omega),BWX⟩
 all_goals (unfold encC;rw [if_neg (by omega),if_neg (by omega),if_neg (by omega)];rfl)
theorem encodeX_any (r : Int) (w : World) (h : r < 0 ∨ 1114111 < r ∨ (55296 ≤ r ∧ r ≤ 57343)) :
  Calls Tryz.prog 59 #[.int .i64 r] w fun e w' => ∃ v,e = .returned v ∧ Sl (.int .u8) w' v (encC 65533) ∧ Bw w w':=by
 have hmk : ∀ w,(Instr.makeSlice 33 (.int .i64 3) (.int .i64 3)).run Tryz.prog w = .ok (.slice (some ⟨w.heap.size,0,none⟩) 3 3) (w.alloc (.cells #[.int .u8 0,.int .u8 0,.int .u8 0] 5)):=fun _ => by kernel_rfl
 rcases h with h|h|⟨h,h'⟩
 all_goals
  go_enter Tryz.func59,Tryz.ntmps59
  go_wp2
  all_goals go_ret
  all_goals exact ⟨_,rfl,Sl.lit _ _ _ _ _ _ rfl rfl (by omega) (by omega),BWX⟩
theorem encode_any (r : Int) (w : World) :
  Calls Tryz.prog 59 #[.int .i64 r] w fun e w' => ∃ v,e = .returned v ∧ Sl (.int .u8) w' v (encN r) ∧ Bw w w':=by
 unfold encN
 cases hc : charB r
 ·rw [if_neg (by simp)]
  exact encodeX_any r w (by simp only [charB,decide_eq_false_iff_not] at hc;omega)
 ·rw [if_pos rfl]
  have hc' : 0 ≤ r ∧ r ≤ 1114111 ∧ ¬ (55296 ≤ r ∧ r ≤ 57343):=of_decide_eq_true hc
  rcases (show r ≤ 127 ∨ (128 ≤ r ∧ r ≤ 2047) ∨ (2048 ≤ r ∧ r ≤ 65535) ∨ 65536 ≤ r by omega) with h|h|h|h
  ·exact encode1_any r w (by omega) h
  ·exact encode2_any r w h.1 h.2
  ·exact encode3_any r w h.1 h.2 (by omega)
  ·exact encode4_any r w h (by omega)
theorem char_any (r : Int) (w : World) :
  Calls Tryz.prog 92 #[.int .i64 r] w fun e w' => e = .returned (.bool (charB r)) ∧ w = w':=by
 go_enter Tryz.func92,Tryz.ntmps92
 go_wp2
 all_goals go_ret
 all_goals refine ⟨ret_bool ?_,rfl⟩
 all_goals (rw [Bool.eq_iff_iff];simp [charB];omega)
theorem refenc_go (r : Int) (w : World) (hc : charB r = true) :
  Calls Tryz.prog 60 #[.int .i64 r] w fun e w' => ∃ v,e = .returned v ∧ Sl (.int .u8) w' v (encC r) ∧ Bw w w':=by
 have hc' : 0 ≤ r ∧ r ≤ 1114111 ∧ ¬ (55296 ≤ r ∧ r ≤ 57343):=of_decide_eq_true hc
 obtain ⟨c1,c2,c3⟩:=hc'
 have HC:=Lib.hid hc
 clear hc c3
 have e0:=and63 r (by omega) (by omega)
 have f0:=or128 r
 have e1:=and63 (r / 64) (by omega) (by omega)
 have f1:=or128 (r / 64)
 have e2:=and63 (r / 4096) (by omega) (by omega)
 have f2:=or128 (r / 4096)
 rcases (show r ≤ 127 ∨ (128 ≤ r ∧ r ≤ 2047) ∨ (2048 ≤ r ∧ r ≤ 65535) ∨ 65536 ≤ r by omega) with h|⟨h,h'⟩|⟨h,h'⟩|h
 ·go_enter Tryz.func60,Tryz.ntmps60
  go_wp2_with (go_at_call 92;refine (char_any _ _).mono ?_;rintro ee ww ⟨rfl,rfl⟩;rw [HC.out])
  go_ret
  refine ⟨_,rfl,Sl.lit _ _ _ _ _ _ ?_ ?_ (by omega) (by omega),BWX⟩
  all_goals (unfold encC;rw [if_pos (by omega)];rfl)
 ·have e7 : bits .or .i64 192 (r / 64) = 192 + r / 64:=bits_join .i64 63 (by decide) wraps_i64 5 192 _ (by omega) (by omega) (by omega) (by omega) (by omega) (by omega)
  go_enter Tryz.func60,Tryz.ntmps60
  go_wp2_with (go_at_call 92;refine (char_any _ _).mono ?_;rintro ee ww ⟨rfl,rfl⟩;rw [HC.out])
  go_ret
  refine ⟨_,rfl,Sl.lit _ _ _ _ _ _ ?_ ?_ (by omega) (by omega),BWX⟩
  all_goals (unfold encC;rw [if_neg (by omega),if_pos (by omega)];rfl)
 ·have e7 : bits .or .i64 224 (r / 4096) = 224 + r / 4096:=bits_join .i64 63 (by decide) wraps_i64 4 224 _ (by omega) (by omega) (by omega) (by omega) (by omega) (by omega)
  have hd : r / 64 / 64 = r / 4096:=by omega
  have HD:=Lib.hid hd
  clear hd
  go_enter Tryz.func60,Tryz.ntmps60
  go_wp2_with (go_at_call 92;refine (char_any _ _).mono ?_;rintro ee ww ⟨rfl,rfl⟩;rw [HC.out])
  go_ret
  refine ⟨_,rfl,Sl.lit _ _ _ _ _ _ ?_ ?_ (by omega) (by omega),BWX⟩
  all_goals (unfold encC;rw [if_neg (by omega),if_neg (by omega),if_pos (by omega)];try rw [HD.out];try rfl)
 ·have e7 : bits .or .i64 240 (r / 262144) = 240 + r / 262144:=bits_join .i64 63 (by decide) wraps_i64 3 240 _ (by omega) (by omega) (by omega) (by omega) (by omega) (by omega)
  have hd : r / 64 / 64 = r / 4096:=by omega
  have hd2 : r / 4096 / 64 = r / 262144:=by omega
  have HD:=Lib.hid hd
  have HD2:=Lib.hid hd2
  clear hd hd2
  go_enter Tryz.func60,Tryz.ntmps60
  go_wp2_with (go_at_call 92;refine (char_any _ _).mono ?_;rintro ee ww ⟨rfl,rfl⟩;rw [HC.out])
  go_ret
  refine ⟨_,rfl,Sl.lit _ _ _ _ _ _ ?_ ?_ (by omega) (by omega),BWX⟩
  all_goals (unfold encC;rw [if_neg (by omega),if_neg (by omega),if_neg (by omega)];try rw [HD.out,HD2.out];try rfl)
theorem refenc_any (r : Int) (w : World) :
  Calls Tryz.prog 60 #[.int .i64 r] w fun e w' => ∃ v,e = .returned v ∧ Sl (.int .u8) w' v (encN r) ∧ Bw w w':=by
 unfold encN
 cases hc : charB r
 ·rw [if_neg (by simp)]
  have HC:=Lib.hid hc
  clear hc
  go_enter Tryz.func60,Tryz.ntmps60
  go_wp2_with (go_at_call 92;refine (char_any _ _).mono ?_;rintro ee ww ⟨rfl,rfl⟩;rw [HC.out])
  go_ret
  exact ⟨_,rfl,Sl.lit _ _ _ _ _ _ rfl rfl (by omega) (by omega),BWX⟩
 ·rw [if_pos rfl]
  exact refenc_go r w hc
theorem refsize_any (b : Int) (w : World) :
  Calls Tryz.prog 99 #[.int .u8 b] w fun e w' => e = .returned (.int .i64 (rsize b)) ∧ w = w':=by
 go_enter Tryz.func99,Tryz.ntmps99
 go_wp2
 all_goals go_ret
 all_goals refine ⟨ret_int ?_,rfl⟩
 all_goals (unfold rsize;repeat' split) <;> first|rfl|omega
theorem refnum1_any (g o n cap : Nat) (b d : Int) (w : World) (h0 : w.cell? ⟨g,o,none⟩ = some (.int .u8 b)) (hb : 0 ≤ b ∧ b ≤ 255) (hn : (0 : Int) < n) :
  Calls Tryz.prog 76 #[.slice (some ⟨g,o,none⟩) n cap,.int .i64 1,.int .i64 d] w fun e w' => e = .returned (.int .i64 b) ∧ ∃ q,w' = w.drewN q:=by
 obtain ⟨b1,b2⟩:=hb
 go_enter Tryz.func76,Tryz.ntmps76
 go_wp2
 go_ret
 exact ⟨rfl,0,rfl⟩
theorem refnum21_any (g o cap : Nat) (b d : Int) (w : World) (h0 : w.cell? ⟨g,o,none⟩ = some (.int .u8 b)) (bb : 0 ≤ b ∧ b ≤ 255) (hd : 0 ≤ d ∧ d ≤ 63) :
  Calls Tryz.prog 76 #[.slice (some ⟨g,o,none⟩) 1 cap,.int .i64 2,.int .i64 d] w fun e w' => e = .returned (.int .i64 ((b % 32) * 64 + d)) ∧ ∃ q,w' = w.drewN q:=by
 obtain ⟨b1,b2⟩:=bb
 obtain ⟨d1,d2⟩:=hd
 have e0 : bits .and .i64 b 31 = b % 32:=bits_mask .i64 63 (by decide) wraps_i64 5 (by decide) b b1 (by omega)
 have e1 : bits .or .i64 ((b % 32) * 64) (d) = (b % 32) * 64 + d:=bits_join .i64 63 (by decide) wraps_i64 6 _ _ (by omega) (by omega) (by omega) (by omega) (by omega) (by omega)
 go_enter Tryz.func76,Tryz.ntmps76
 go_wp2
 go_quiet (fail)
 go_wp2
 refine wp_loop_rounds 2 ?_
 rw [rounds_succ]
 go_wp2
 rw [rounds_succ]
 go_wp2
 go_ret
 exact ⟨rfl,_,rfl⟩
theorem refnum22_any (g o cap : Nat) (b c d : Int) (w : World) (h0 : w.cell? ⟨g,o,none⟩ = some (.int .u8 b)) (h1 : w.cell? ⟨g,o + 1,none⟩ = some (.int .u8 c)) (bb : 0 ≤ b ∧ b ≤ 255) (bc : 0 ≤ c ∧ c ≤ 255) (hd : 0 ≤ d ∧ d ≤ 63) :
  Calls Tryz.prog 76 #[.slice (some ⟨g,o,none⟩) 2 cap,.int .i64 2,.int .i64 d] w fun e w' => e = .returned (.int .i64 ((b % 32) * 64 + c % 64)) ∧ ∃ q,w' = w.drewN q:=by
 obtain ⟨b1,b2⟩:=bb
 obtain ⟨c1,c2⟩:=bc
 obtain ⟨d1,d2⟩:=hd
 have e0 : bits .and .i64 b 31 = b % 32:=bits_mask .i64 63 (by decide) wraps_i64 5 (by decide) b b1 (by omega)
 have fc:=and63 c (by omega) (by omega)
 have e1 : bits .or .i64 ((b % 32) * 64) (c % 64) = (b % 32) * 64 + c % 64:=bits_join .i64 63 (by decide) wraps_i64 6 _ _ (by omega) (by omega) (by omega) (by omega) (by omega) (by omega)
 go_enter Tryz.func76,Tryz.ntmps76
 go_wp2
 go_quiet (fail)
 go_wp2
 refine wp_loop_rounds 2 ?_
 rw [rounds_succ]
 go_wp2
 rw [rounds_succ]
 go_wp2
 go_ret
 exact ⟨rfl,_,rfl⟩
theorem refnum31_any (g o cap : Nat) (b d : Int) (w : World) (h0 : w.cell? ⟨g,o,none⟩ = some (.int .u8 b)) (bb : 0 ≤ b ∧ b ≤ 255) (hd : 0 ≤ d ∧ d ≤ 63) :
  Calls Tryz.prog 76 #[.slice (some ⟨g,o,none⟩) 1 cap,.int .i64 3,.int .i64 d] w fun e w' => e = .returned (.int .i64 (((b % 16) * 64 + d) * 64 + d)) ∧ ∃ q,w' = w.drewN q:=by
 obtain ⟨b1,b2⟩:=bb
 obtain ⟨d1,d2⟩:=hd
 have e0 : bits .and .i64 b 15 = b % 16:=bits_mask .i64 63 (by decide) wraps_i64 4 (by decide) b b1 (by omega)
 have e1 : bits .or .i64 ((b % 16) * 64) (d) = (b % 16) * 64 + d:=bits_join .i64 63 (by decide) wraps_i64 6 _ _ (by omega) (by omega) (by omega) (by omega) (by omega) (by omega)
 have e2 : bits .or .i64 (((b % 16) * 64 + d) * 64) (d) = ((b % 16) * 64 + d) * 64 + d:=bits_join .i64 63 (by decide) wraps_i64 6 _ _ (by omega) (by omega) (by omega) (by omega) (by omega) (by omega)
 go_enter Tryz.func76,Tryz.ntmps76
 go_wp2
 go_quiet (fail)
 go_wp2
 refine wp_loop_rounds 3 ?_
 rw [rounds_succ]
 go_wp2
 rw [rounds_succ]
 go_wp2
 rw [rounds_succ]
 go_wp2
 go_ret
 exact ⟨rfl,_,rfl⟩
theorem refnum32_any (g o cap : Nat) (b c d : Int) (w : World) (h0 : w.cell? ⟨g,o,none⟩ = some (.int .u8 b)) (h1 : w.cell? ⟨g,o + 1,none⟩ = some (.int .u8 c)) (bb : 0 ≤ b ∧ b ≤ 255) (bc : 0 ≤ c ∧ c ≤ 255) (hd : 0 ≤ d ∧ d ≤ 63) :
  Calls Tryz.prog 76 #[.slice (some ⟨g,o,none⟩) 2 cap,.int .i64 3,.int .i64 d] w fun e w' => e = .returned (.int .i64 (((b % 16) * 64 + c % 64) * 64 + d)) ∧ ∃ q,w' = w.drewN q:=by
 obtain ⟨b1,b2⟩:=bb
 obtain ⟨c1,c2⟩:=bc
 obtain ⟨d1,d2⟩:=hd
 have e0 : bits .and .i64 b 15 = b % 16:=bits_mask .i64 63 (by decide) wraps_i64 4 (by decide) b b1 (by omega)
 have fc:=and63 c (by omega) (by omega)
 have e1 : bits .or .i64 ((b % 16) * 64) (c % 64) = (b % 16) * 64 + c % 64:=bits_join .i64 63 (by decide) wraps_i64 6 _ _ (by omega) (by omega) (by omega) (by omega) (by omega) (by omega)
 have e2 : bits .or .i64 (((b % 16) * 64 + c % 64) * 64) (d) = ((b % 16) * 64 + c % 64) * 64 + d:=bits_join .i64 63 (by decide) wraps_i64 6 _ _ (by omega) (by omega) (by omega) (by omega) (by omega) (by omega)
 go_enter Tryz.func76,Tryz.ntmps76
 go_wp2
 go_quiet (fail)
 go_wp2
 refine wp_loop_rounds 3 ?_
 rw [rounds_succ]
 go_wp2
 rw [rounds_succ]
 go_wp2
 rw [rounds_succ]
 go_wp2
 go_ret
 exact ⟨rfl,_,rfl⟩
theorem refnum33_any (g o cap : Nat) (b c x d : Int) (w : World) (h0 : w.cell? ⟨g,o,none⟩ = some (.int .u8 b)) (h1 : w.cell? ⟨g,o + 1,none⟩ = some (.int .u8 c)) (h2 : w.cell? ⟨g,o + 2,none⟩ = some (.int .u8 x)) (bb : 0 ≤ b ∧ b ≤ 255) (bc : 0 ≤ c ∧ c ≤ 255) (bx : 0 ≤ x ∧ x ≤ 255) (hd : 0 ≤ d ∧ d ≤ 63) :
  Calls Tryz.prog 76 #[.slice (some ⟨g,o,none⟩) 3 cap,.int .i64 3,.int .i64 d] w fun e w' => e = .returned (.int .i64 (((b % 16) * 64 + c % 64) * 64 + x % 64)) ∧ ∃ q,w' = w.drewN q:=by
 obtain ⟨b1,b2⟩:=bb
 obtain ⟨c1,c2⟩:=bc
 obtain ⟨x1,x2⟩:=bx
 obtain ⟨d1,d2⟩:=hd
 have e0 : bits .and .i64 b 15 = b % 16:=bits_mask .i64 63 (by decide) wraps_i64 4 (by decide) b b1 (by omega)
 have fc:=and63 c (by omega) (by omega)
 have fx:=and63 x (by omega) (by omega)
 have e1 : bits .or .i64 ((b % 16) * 64) (c % 64) = (b % 16) * 64 + c % 64:=bits_join .i64 63 (by decide) wraps_i64 6 _ _ (by omega) (by omega) (by omega) (by omega) (by omega) (by omega)
 have e2 : bits .or .i64 (((b % 16) * 64 + c % 64) * 64) (x % 64) = ((b % 16) * 64 + c % 64) * 64 + x % 64:=bits_join .i64 63 (by decide) wraps_i64 6 _ _ (by omega) (by omega) (by omega) (by omega) (by omega) (by omega)
 go_enter Tryz.func76,Tryz.ntmps76
 go_wp2
 go_quiet (fail)
 go_wp2
 refine wp_loop_rounds 3 ?_
 rw [rounds_succ]
 go_wp2
 rw [rounds_succ]
 go_wp2
 rw [rounds_succ]
 go_wp2
 go_ret
 exact ⟨rfl,_,rfl⟩
theorem refnum41_any (g o cap : Nat) (b d : Int) (w : World) (h0 : w.cell? ⟨g,o,none⟩ = some (.int .u8 b)) (bb : 0 ≤ b ∧ b ≤ 255) (hd : 0 ≤ d ∧ d ≤ 63) :
  Calls Tryz.prog 76 #[.slice (some ⟨g,o,none⟩) 1 cap,.int .i64 4,.int .i64 d] w fun e w' => e = .returned (.int .i64 ((((b % 8) * 64 + d) * 64 + d) * 64 + d)) ∧ ∃ q,w' = w.drewN q:=by
 obtain ⟨b1,b2⟩:=bb
 obtain ⟨d1,d2⟩:=hd
 have e0 : bits .and .i64 b 7 = b % 8:=bits_mask .i64 63 (by decide) wraps_i64 3 (by decide) b b1 (by omega)
 have e1 : bits .or .i64 ((b % 8) * 64) (d) = (b % 8) * 64 + d:=bits_join .i64 63 (by decide) wraps_i64 6 _ _ (by omega) (by omega) (by omega) (by omega) (by omega) (by omega)
 have e2 : bits .or .i64 (((b % 8) * 64 + d) * 64) (d) = ((b % 8) * 64 + d) * 64 + d:=bits_join .i64 63 (by decide) wraps_i64 6 _ _ (by omega) (by omega) (by omega) (by omega) (by omega) (by omega)
 have e3 : bits .or .i64 ((((b % 8) * 64 + d) * 64 + d) * 64) (d) = (((b % 8) * 64 + d) * 64 + d) * 64 + d:=bits_join .i64 63 (by decide) wraps_i64 6 _ _ (by omega) (by omega) (by omega) (by omega) (by omega) (by omega)
 go_enter Tryz.func76,Tryz.ntmps76
 go_wp2
 go_quiet (fail)
 go_wp2
 refine wp_loop_rounds 4 ?_
 rw [rounds_succ]
 go_wp2
 rw [rounds_succ]
 go_wp2
 rw [rounds_succ]
 go_wp2
 rw [rounds_succ]
 go_wp2
 go_ret
 exact ⟨rfl,_,rfl⟩
theorem refnum42_any (g o cap : Nat) (b c d : Int) (w : World) (h0 : w.cell? ⟨g,o,none⟩ = some (.int .u8 b)) (h1 : w.cell? ⟨g,o + 1,none⟩ = some (.int .u8 c)) (bb : 0 ≤ b ∧ b ≤ 255) (bc : 0 ≤ c ∧ c ≤ 255) (hd : 0 ≤ d ∧ d ≤ 63) :
  Calls Tryz.prog 76 #[.slice (some ⟨g,o,none⟩) 2 cap,.int .i64 4,.int .i64 d] w fun e w' => e = .returned (.int .i64 ((((b % 8) * 64 + c % 64) * 64 + d) * 64 + d)) ∧ ∃ q,w' = w.drewN q:=by
 obtain ⟨b1,b2⟩:=bb
 obtain ⟨c1,c2⟩:=bc
 obtain ⟨d1,d2⟩:=hd
 have e0 : bits .and .i64 b 7 = b % 8:=bits_mask .i64 63 (by decide) wraps_i64 3 (by decide) b b1 (by omega)
 have fc:=and63 c (by omega) (by omega)
 have e1 : bits .or .i64 ((b % 8) * 64) (c % 64) = (b % 8) * 64 + c % 64:=bits_join .i64 63 (by decide) wraps_i64 6 _ _ (by omega) (by omega) (by omega) (by omega) (by omega) (by omega)
 have e2 : bits .or .i64 (((b % 8) * 64 + c % 64) * 64) (d) = ((b % 8) * 64 + c % 64) * 64 + d:=bits_join .i64 63 (by decide) wraps_i64 6 _ _ (by omega) (by omega) (by omega) (by omega) (by omega) (by omega)
 have e3 : bits .or .i64 ((((b % 8) * 64 + c % 64) * 64 + d) * 64) (d) = (((b % 8) * 64 + c % 64) * 64 + d) * 64 + d:=bits_join .i64 63 (by decide) wraps_i64 6 _ _ (by omega) (by omega) (by omega) (by omega) (by omega) (by omega)
 go_enter Tryz.func76,Tryz.ntmps76
 go_wp2
 go_quiet (fail)
 go_wp2
 refine wp_loop_rounds 4 ?_
 rw [rounds_succ]
 go_wp2
 rw [rounds_succ]
 go_wp2
 rw [rounds_succ]
 go_wp2
 rw [rounds_succ]
 go_wp2
 go_ret
 exact ⟨rfl,_,rfl⟩
theorem refnum43_any (g o cap : Nat) (b c x d : Int) (w : World) (h0 : w.cell? ⟨g,o,none⟩ = some (.int .u8 b)) (h1 : w.cell? ⟨g,o + 1,none⟩ = some (.int .u8 c)) (h2 : w.cell? ⟨g,o + 2,none⟩ = some (.int .u8 x)) (bb : 0 ≤ b ∧ b ≤ 255) (bc : 0 ≤ c ∧ c ≤ 255) (bx : 0 ≤ x ∧ x ≤ 255) (hd : 0 ≤ d ∧ d ≤ 63) :
  Calls Tryz.prog 76 #[.slice (some ⟨g,o,none⟩) 3 cap,.int .i64 4,.int .i64 d] w fun e w' => e = .returned (.int .i64 ((((b % 8) * 64 + c % 64) * 64 + x % 64) * 64 + d)) ∧ ∃ q,w' = w.drewN q:=by
 obtain ⟨b1,b2⟩:=bb
 obtain ⟨c1,c2⟩:=bc
 obtain ⟨x1,x2⟩:=bx
 obtain ⟨d1,d2⟩:=hd
 have e0 : bits .and .i64 b 7 = b % 8:=bits_mask .i64 63 (by decide) wraps_i64 3 (by decide) b b1 (by omega)
 have fc:=and63 c (by omega) (by omega)
 have fx:=and63 x (by omega) (by omega)
 have e1 : bits .or .i64 ((b % 8) * 64) (c % 64) = (b % 8) * 64 + c % 64:=bits_join .i64 63 (by decide) wraps_i64 6 _ _ (by omega) (by omega) (by omega) (by omega) (by omega) (by omega)
 have e2 : bits .or .i64 (((b % 8) * 64 + c % 64) * 64) (x % 64) = ((b % 8) * 64 + c % 64) * 64 + x % 64:=bits_join .i64 63 (by decide) wraps_i64 6 _ _ (by omega) (by omega) (by omega) (by omega) (by omega) (by omega)
 have e3 : bits .or .i64 ((((b % 8) * 64 + c % 64) * 64 + x % 64) * 64) (d) = (((b % 8) * 64 + c % 64) * 64 + x % 64) * 64 + d:=bits_join .i64 63 (by decide) wraps_i64 6 _ _ (by omega) (by omega) (by omega) (by omega) (by omega) (by omega)
 go_enter Tryz.func76,Tryz.ntmps76
 go_wp2
 go_quiet (fail)
 go_wp2
 refine wp_loop_rounds 4 ?_
 rw [rounds_succ]
 go_wp2
 rw [rounds_succ]
 go_wp2
 rw [rounds_succ]
 go_wp2
 rw [rounds_succ]
 go_wp2
 go_ret
 exact ⟨rfl,_,rfl⟩
theorem refnum44_any (g o cap : Nat) (b c x z d : Int) (w : World) (h0 : w.cell? ⟨g,o,none⟩ = some (.int .u8 b)) (h1 : w.cell? ⟨g,o + 1,none⟩ = some (.int .u8 c)) (h2 : w.cell? ⟨g,o + 2,none⟩ = some (.int .u8 x)) (h3 : w.cell? ⟨g,o + 3,none⟩ = some (.int .u8 z)) (bb : 0 ≤ b ∧ b ≤ 255) (bc : 0 ≤ c ∧ c ≤ 255) (bx : 0 ≤ x ∧ x ≤ 255) (bz : 0 ≤ z ∧ z ≤ 255) (hd : 0 ≤ d ∧ d ≤ 63) :
  Calls Tryz.prog 76 #[.slice (some ⟨g,o,none⟩) 4 cap,.int .i64 4,.int .i64 d] w fun e w' => e = .returned (.int .i64 ((((b % 8) * 64 + c % 64) * 64 + x % 64) * 64 + z % 64)) ∧ ∃ q,w' = w.drewN q:=by
 obtain ⟨b1,b2⟩:=bb
 obtain ⟨c1,c2⟩:=bc
 obtain ⟨x1,x2⟩:=bx
 obtain ⟨z1,z2⟩:=bz
 obtain ⟨d1,d2⟩:=hd
 have e0 : bits .and .i64 b 7 = b % 8:=bits_mask .i64 63 (by decide) wraps_i64 3 (by decide) b b1 (by omega)
 have fc:=and63 c (by omega) (by omega)
 have fx:=and63 x (by omega) (by omega)
 have fz:=and63 z (by omega) (by omega)
 have e1 : bits .or .i64 ((b % 8) * 64) (c % 64) = (b % 8) * 64 + c % 64:=bits_join .i64 63 (by decide) wraps_i64 6 _ _ (by omega) (by omega) (by omega) (by omega) (by omega) (by omega)
 have e2 : bits .or .i64 (((b % 8) * 64 + c % 64) * 64) (x % 64) = ((b % 8) * 64 + c % 64) * 64 + x % 64:=bits_join .i64 63 (by decide) wraps_i64 6 _ _ (by omega) (by omega) (by omega) (by omega) (by omega) (by omega)
 have e3 : bits .or .i64 ((((b % 8) * 64 + c % 64) * 64 + x % 64) * 64) (z % 64) = (((b % 8) * 64 + c % 64) * 64 + x % 64) * 64 + z % 64:=bits_join .i64 63 (by decide) wraps_i64 6 _ _ (by omega) (by omega) (by omega) (by omega) (by omega) (by omega)
 go_enter Tryz.func76,Tryz.ntmps76
 go_wp2
 go_quiet (fail)
 go_wp2
 refine wp_loop_rounds 4 ?_
 rw [rounds_succ]
 go_wp2
 rw [rounds_succ]
 go_wp2
 rw [rounds_succ]
 go_wp2
 rw [rounds_succ]
 go_wp2
 go_ret
 exact ⟨rfl,_,rfl⟩
end Go.Proofs.YteebdjmjeahccaaGreatDoor
