/- Parts of the proof, one after the other. -/
import Derived.Test.YteebdjmjeahccaaGreatDoorC25
set_option linter.unusedSimpArgs false
set_option linter.unusedVariables false
namespace Go.Proofs.YteebdjmjeahccaaGreatDoor
open Go.RowKit
def restB (r0 : List Int) : List Int:=if validB r0 then r0 else []
def charB (r : Int) : Bool:=decide (0 ≤ r ∧ r ≤ 1114111 ∧ ¬ (55296 ≤ r ∧ r ≤ 57343))
/-- The encoding of a character. -/
def encC (r : Int) : List Int :=
 if r ≤ 127 then [r] else if r ≤ 2047 then [192 + r / 64,128 + r % 64] else if r ≤ 65535 then [224 + r / 64 / 64,128 + r / 64 % 64,128 + r % 64] else [240 + r / 64 / 64 / 64,128 + r / 64 / 64 % 64,128 + r / 64 % 64,128 + r % 64]
def encN (r : Int) : List Int:=encC (if charB r then r else 65533)
theorem and63 (r : Int) (h0 : 0 ≤ r) (h1 : r ≤ 1114111) : bits .and .i64 r 63 = r % 64:=bits_mask .i64 63 (by decide) wraps_i64 6 (by decide) r h0 (by omega)
theorem or128 (r : Int) : bits .or .i64 128 (r % 64) = 128 + r % 64:=bits_join .i64 63 (by decide) wraps_i64 6 128 _ (by omega) (by omega) (by omega) (by omega) (by omega) (by omega)
theorem encode1_any (r : Int) (w : World) (h1 : 0 ≤ r) (h2 : r ≤ 127) :
  Calls Tryz.prog 59 #[.int .i64 r] w fun e w' => ∃ v,e = .returned v ∧ Sl (.int .u8) w' v (encC r) ∧ Bw w w':=by
 have hmk : ∀ w,(Instr.makeSlice 33 (.int .i64 1) (.int .i64 1)).run Tryz.prog w = .ok (.slice (some ⟨w.heap.size,0,none⟩) 1 1) (w.alloc (.cells #[.int .u8 0] 5)):=fun _ => by kernel_rfl
 have e7 : bits .or .i64 0 (r) = r:=bits_join .i64 63 (by decide) wraps_i64 7 0 _ (by omega) (by omega) (by omega) (by omega) (by omega) (by omega) |>.trans (Int.zero_add _)
 go_enter Tryz.func59,Tryz.ntmps59
 go_wp2
 all_goals go_ret
 all_goals refine ⟨_,rfl,Sl.lit _ _ _ _ _ _ ?_ ?_ (by omega) (by omega),BWX⟩
 all_goals (unfold encC;rw [if_pos (by omega)];rfl)
theorem encode2_any (r : Int) (w : World) (h1 : 128 ≤ r) (h2 : r ≤ 2047) :
  Calls Tryz.prog 59 #[.int .i64 r] w fun e w' => ∃ v,e = .returned v ∧ Sl (.int .u8) w' v (encC r) ∧ Bw w w':=by
 have hmk : ∀ w,(Instr.makeSlice 33 (.int .i64 2) (.int .i64 2)).run Tryz.prog w = .ok (.slice (some ⟨w.heap.size,0,none⟩) 2 2) (w.alloc (.cells #[.int .u8 0,.int .u8 0] 5)):=fun _ => by kernel_rfl
 have e0:=and63 (r) (by omega) (by omega)
 have f0:=or128 (r)
 have e7 : bits .or .i64 192 (r / 64) = 192 + r / 64:=bits_join .i64 63 (by decide) wraps_i64 5 192 _ (by omega) (by omega) (by omega) (by omega) (by omega) (by omega)
 go_enter Tryz.func59,Tryz.ntmps59
 go_wp2
 all_goals go_ret
 all_goals refine ⟨_,rfl,Sl.lit _ _ _ _ _ _ ?_ ?_ (by omega) (by omega),BWX⟩
 all_goals (unfold encC;rw [if_neg (by omega),if_pos (by omega)];rfl)
theorem encode3_any (r : Int) (w : World) (h1 : 2048 ≤ r) (h2 : r ≤ 65535) (h3 : r < 55296 ∨ 57343 < r) :
  Calls Tryz.prog 59 #[.int .i64 r] w fun e w' => ∃ v,e = .returned v ∧ Sl (.int .u8) w' v (encC r) ∧ Bw w w':=by
 have hmk : ∀ w,(Instr.makeSlice 33 (.int .i64 3) (.int .i64 3)).run Tryz.prog w = .ok (.slice (some ⟨w.heap.size,0,none⟩) 3 3) (w.alloc (.cells #[.int .u8 0,.int .u8 0,.int .u8 0] 5)):=fun _ => by kernel_rfl
 have e0:=and63 (r) (by omega) (by omega)
 have f0:=or128 (r)
 have e1:=and63 (r / 64) (by omega) (by omega)
 have f1:=or128 (r / 64)
 have e7 : bits .or .i64 224 (r / 64 / 64) = 224 + r / 64 / 64:=bits_join .i64 63 (by decide) wraps_i64 4 224 _ (by omega) (by omega) (by omega) (by omega) (by omega) (by omega)
 go_enter Tryz.func59,Tryz.ntmps59
 go_wp2
 all_goals go_ret
 all_goals refine ⟨_,rfl,Sl.lit _ _ _ _ _ _ ?_ ?_ (by omega) (by omega),BWX⟩
 all_goals (unfold encC;rw [if_neg (by omega),if_neg (by omega),if_pos (by omega)];rfl)
theorem encode4_any (r : Int) (w : World) (h1 : 65536 ≤ r) (h2 : r ≤ 1114111) :
  Calls Tryz.prog 59 #[.int .i64 r] w fun e w' => ∃ v,e = .returned v ∧ Sl (.int .u8) w' v (encC r) ∧ Bw w w':=by
 have hmk : ∀ w,(Instr.makeSlice 33 (.int .i64 4) (.int .i64 4)).run Tryz.prog w = .ok (.slice (some ⟨w.heap.size,0,none⟩) 4 4) (w.alloc (.cells #[.int .u8 0,.int .u8 0,.int .u8 0,.int .u8 0] 5)):=fun _ => by kernel_rfl
 have e0:=and63 (r) (by omega) (by omega)
 have f0:=or128 (r)
 have e1:=and63 (r / 64) (by omega) (by omega)
 have f1:=or128 (r / 64)
 have e2:=and63 (r / 64 / 64) (by omega) (by omega)
 have f2:=or128 (r / 64 / 64)
 have e7 : bits .or .i64 240 (r / 64 / 64 / 64) = 240 + r / 64 / 64 / 64:=bits_join .i64 63 (by decide) wraps_i64 3 240 _ (by omega) (by omega) (by omega) (by omega) (by omega) (by omega)
 go_enter Tryz.func59,Tryz.ntmps59
 go_wp2
 all_goals go_ret
 all_goals refine ⟨_,rfl,Sl.lit _ _ _ _ _ _ ?_ ?_ (by omega) (by omega),BWX⟩
 all_goals (unfold encC;rw [if_neg (by omega),if_neg (by omega),if_neg (by omega)];rfl)
theorem encodeX_any (r : Int) (w : World) (h : r < 0 ∨ 1114111 < r ∨ (55296 ≤ r ∧ r ≤ 57343)) :
  Calls Tryz.prog 59 #[.int .i64 r] w fun e w' => ∃ v,e = .returned v ∧ Sl (.int .u8) w' v (encC 65533) ∧ Bw w w':=by
 have hmk : ∀ w,(Instr.makeSlice 33 (.int .i64 3) (.int .i64 3)).run Tryz.prog w = .ok (.slice (some ⟨w.heap.size,0,none⟩) 3 3) (w.alloc (.cells #[.int .u8 0,.int .u8 0,.int .u8 0] 5)):=fun _ => by kernel_rfl
 rcases h with h|h|⟨h,h'⟩
 all_goals
  go_enter Tryz.func59,Tryz.ntmps59
  go_wp2
  all_goals go_ret
  all_goals exact ⟨_,rfl,Sl.lit _ _ _ _ _ _ rfl rfl (by omega) (by omega),BWX⟩
theorem encode_any (r : Int) (w : World) :
  Calls Tryz.prog 59 #[.int .i64 r] w fun e w' => ∃ v,e = .returned v ∧ Sl (.int .u8) w' v (encN r) ∧ Bw w w':=by
 unfold encN
 cases hc : charB r
 ·rw [if_neg (by simp)]
  exact encodeX_any r w (by simp only [charB,decide_eq_false_iff_not] at hc;omega)
 ·rw [if_pos rfl]
  have hc' : 0 ≤ r ∧ r ≤ 1114111 ∧ ¬ (55296 ≤ r ∧ r ≤ 57343):=of_decide_eq_true hc
  rcases (show r ≤ 127 ∨ (128 ≤ r ∧ r ≤ 2047) ∨ (2048 ≤ r ∧ r ≤ 65535) ∨ 65536 ≤ r by omega) with h|h|h|h
  ·exact encode1_any r w (by omega) h
  ·exact encode2_any r w h.1 h.2
  ·exact encode3_any r w h.1 h.2 (by omega)
  ·exact encode4_any r w h (by omega)
end Go.Proofs.YteebdjmjeahccaaGreatDoor
