/- Parts of the proof, one after the other. -/
import Derived.Test.YtkflooljdopldaaGreatU45
set_option linter.unusedSimpArgs false
set_option linter.unusedVariables false
/- The screen's sanity check. -/
namespace Go.Proofs.YtkflooljdopldaaGreat
open Go.RowKit

theorem play_abc (A : Option Addr) (n c : Nat) : [97, 98, 99].foldl stepP (newSc 2 2 A n c, List.replicate (2 * 2) blk, 0) = ((⟨2, 2, A, n, c, 1, 1, false, 0, 0, 0, 0, 1, 0, 0, false, 0, 0, 0, false, false⟩ : Scr), [(97, 0, 0, 0), (98, 0, 0, 0), (99, 0, 0, 0), (32, 0, 0, 0)], 0) := by kernel_rfl
theorem play_de (A : Option Addr) (n c : Nat) : [100, 101].foldl stepP ((⟨2, 2, A, n, c, 1, 1, false, 0, 0, 0, 0, 1, 0, 0, false, 0, 0, 0, false, false⟩ : Scr), [(97, 0, 0, 0), (98, 0, 0, 0), (99, 0, 0, 0), (32, 0, 0, 0)], 0) = ((⟨2, 2, A, n, c, 1, 1, false, 0, 0, 0, 0, 1, 0, 0, false, 0, 0, 0, false, false⟩ : Scr), [(99, 0, 0, 0), (100, 0, 0, 0), (101, 0, 0, 0), (32, 0, 0, 0)], 1) := by kernel_rfl
def abcS (A : Option Addr) (n c : Nat) : Scr := ⟨2, 2, A, n, c, 1, 1, false, 0, 0, 0, 0, 1, 0, 0, false, 0, 0, 0, false, false⟩
theorem abc_ok (A : Option Addr) (n c : Nat) : ScX (abcS A n c) := by
 refine ⟨⟨?_, ?_, ?_, ?_⟩, ⟨?_, ?_, ?_, ?_⟩, ?_, ⟨?_, ?_, ?_⟩, ⟨?_, ?_, ?_, ?_⟩, ?_⟩ <;> unfold abcS <;> dsimp only <;> decide
theorem new_ok (A : Option Addr) (n c : Nat) : ScX (newSc 2 2 A n c) := by
 refine ⟨⟨?_, ?_, ?_, ?_⟩, ⟨?_, ?_, ?_, ?_⟩, ?_, ⟨?_, ?_, ?_⟩, ⟨?_, ?_, ?_, ?_⟩, ?_⟩ <;> unfold newSc <;> dsimp only <;> decide

set_option maxRecDepth 100000 in
set_option maxHeartbeats 1000000 in
theorem sane18_any (w : World) : Calls Tryz.prog 7 #[] w fun e w' => e = .returned (.bool true) ∧ Bw w w' := by
 go_enter Tryz.func7, Tryz.ntmps7
 go_upto_region 2 with (first
  | (go_at_call 18; refine (snew_any 2 2 2 2 _ (by decide) (by decide)).mono ?_; rintro ee w1 ⟨A, n, c, rfl, hr, hn, hc, -, hb1⟩; have HR1 := Lib.hid hr; have hbw1 : Bw w w1 := Bw.trans (show Bw w _ from BWX) hb1; clear hr hb1)
  | (go_at_call 19; refine (lput_any (newSc 2 2 A n c) (List.replicate (2 * 2) blk) ⟨#[97, 98, 99]⟩ [97, 98, 99] _ (new_ok A n c) (HR1.out.up BWX) hn hc (show gridB ((2 : Nat) : Int) ((2 : Nat) : Int) (List.replicate (2 * 2) blk) = true by decide) rfl (by decide) (fun k h => by
    have h3 : k < 3 := h
    rcases (show k = 0 ∨ k = 1 ∨ k = 2 by omega) with rfl | rfl | rfl <;> rfl) (by intro x hx; simp only [List.mem_cons, List.not_mem_nil, or_false] at hx; omega)).mono ?_; rintro ee w2 ⟨A2, n2, c2, rfl, hr2, hn2, hc2, -, hb2⟩; rw [play_abc] at hr2; rw [play_abc]; have HR2 := Lib.hid hr2; have hbw2 : Bw w w2 := Bw.trans (Bw.trans hbw1 (show Bw w1 _ from BWX)) hb2; clear hr2 hb2)
  | ((with_reducible refine wpList_store_sc (abcS A2 n2 c2) w2.heap.size (.tmp 1) (.tmp 8) rfl rfl ?_ ?_ ?_ ?_); (focus rfl); (focus rfl); (focus (exact ⟨_, heap_at (by simp), rfl⟩)); intro w3 hS3 hg3; have HS3 := Lib.hid hS3; have hb23 : Bw w2 w3 := Bw.grown (show Bw w2 _ from BWX) hg3 (fun j hj => by cases hj; omega); clear hS3 hg3)
  | fail)
 have hbw3 := Bw.trans hbw2 hb23
 have HR3 := Lib.hid (HR2.out.up hb23)
 have hz3 := hb23.size
 have hlt3 := HS3.out.lt
 clear HR1 HR2 hn hc
 go_upto_region 3 with (first
  | ((with_reducible refine wpList_load_sc (abcS A2 n2 c2) w2.heap.size (.tmp 1) rfl rfl ?_ ?_ ?_); (focus rfl); (focus (exact HS3.out)))
  | (go_at_call 19; refine (lput_any (abcS A2 n2 c2) [(97, 0, 0, 0), (98, 0, 0, 0), (99, 0, 0, 0), (32, 0, 0, 0)] ⟨#[100, 101]⟩ [100, 101] _ (abc_ok A2 n2 c2) (HR3.out.up BWX) hn2 hc2 (show gridB ((2 : Nat) : Int) ((2 : Nat) : Int) [(97, 0, 0, 0), (98, 0, 0, 0), (99, 0, 0, 0), (32, 0, 0, 0)] = true by decide) rfl (by decide) (fun k h => by
    have h3 : k < 2 := h
    rcases (show k = 0 ∨ k = 1 by omega) with rfl | rfl <;> rfl) (by intro x hx; simp only [List.mem_cons, List.not_mem_nil, or_false] at hx; omega)).mono ?_; rintro ee w4 ⟨A4, n4, c4, rfl, hr4, hn4, hc4, -, hb4⟩; rw [show [100, 101].foldl stepP (abcS A2 n2 c2, [(97, 0, 0, 0), (98, 0, 0, 0), (99, 0, 0, 0), (32, 0, 0, 0)], 0) = _ from play_de A2 n2 c2] at hr4; rw [show [100, 101].foldl stepP (abcS A2 n2 c2, [(97, 0, 0, 0), (98, 0, 0, 0), (99, 0, 0, 0), (32, 0, 0, 0)], 0) = _ from play_de A2 n2 c2]; have HR4 := Lib.hid hr4; have hbw4 : Bw w3 w4 := Bw.trans (show Bw w3 _ from BWX) hb4; clear hr4 hb4)
  | ((with_reducible refine wpList_store_sc (abcS A4 n4 c4) w4.heap.size (.tmp 3) (.tmp 13) rfl rfl ?_ ?_ ?_ ?_); (focus rfl); (focus rfl); (focus (exact ⟨_, heap_at (by simp), rfl⟩)); intro w5 hS5 hg5; have HS5 := Lib.hid hS5; have hb45 : Bw w4 w5 := Bw.grown (show Bw w4 _ from BWX) hg5 (fun j hj => by cases hj; omega); clear hS5 hg5)
  | fail)
 have hn4e := HR4.out.1
 obtain ⟨ga, oa, rfl, hcells⟩ := HR4.out.2 (by rw [← hn4e]; decide)
 obtain rfl : n4 = 4 := hn4e.symm
 have q0 : w5.cell? ⟨ga, oa, none⟩ = some (.int .i64 99) := cell_up (hcells 0 (by decide)).1 hb45
 have q1 : w5.cell? ⟨ga, oa + 4, none⟩ = some (.int .i64 100) := cell_up (hcells 1 (by decide)).1 hb45
 have q2 : w5.cell? ⟨ga, oa + 8, none⟩ = some (.int .i64 101) := cell_up (hcells 2 (by decide)).1 hb45
 have t2 := HS5.out.cell 2 (v := .slice (some ⟨ga, oa, none⟩) 4 c4) rfl
 have t3 := HS5.out.cell 3 (v := .int .i64 1) rfl
 have t4 := HS5.out.cell 4 (v := .int .i64 1) rfl
 have t5 := HS5.out.cell 5 (v := .bool false) rfl
 have s3 := (HS3.out.up (Bw.trans hbw4 hb45)).cell 3 (v := .int .i64 1) rfl
 have s4 := (HS3.out.up (Bw.trans hbw4 hb45)).cell 4 (v := .int .i64 1) rfl
 have s5 := (HS3.out.up (Bw.trans hbw4 hb45)).cell 5 (v := .bool false) rfl
 have HBW := Lib.hid (Bw.trans hbw3 (Bw.trans hbw4 hb45))
 clear hcells HR4 HR3 hbw1 hbw2 hb23 hbw3 hbw4 hb45 hn4e
 go_wp2_with fail
 go_ret
 exact ⟨rfl, HBW.out⟩
end Go.Proofs.YtkflooljdopldaaGreat
