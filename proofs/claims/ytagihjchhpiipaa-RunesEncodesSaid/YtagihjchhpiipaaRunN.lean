/- The law RunesEncodes: walked. -/
import Derived.Test.YtagihjchhpiipaaRunM
import Derived.Test.YtagihjchhpiipaaRunJ
set_option linter.unusedSimpArgs false
set_option linter.unusedVariables false
namespace Go.Proofs.Ytagihjchhpiipaa
open Go.RowKit

theorem conv_plus {w : World} {L : Array Obj} {d : Nat} {A : Option Addr} {n cap : Nat} {bs : List Int} (h : Rd (.int .u8) (plus w L d) A n bs) :
    (∀ dd, (convert 23 9 (.slice A n cap)).run Try.prog (plus w L dd) = .ok (.string (strOfNums bs)) (plus w L dd)) ∧ (∀ L' dd, (convert 23 9 (.slice A n cap)).run Try.prog (plus w (L ++ L') dd) = .ok (.string (strOfNums bs)) (plus w (L ++ L') dd)) := by
  refine ⟨fun dd => conv_run (h.up ?_), fun L' dd => conv_run (h.up ?_)⟩
  · exact (show Bw (plus w L d) (plus (plus w L d) #[] dd) from (by repeat (first | with_reducible assumption | with_reducible exact Bw.refl _ | with_reducible refine Bw.alloc ?_ _ | with_reducible refine Bw.more ?_ _ _ | with_reducible refine Bw.drew ?_ | with_reducible refine Bw.drewN ?_ _ | ((with_reducible refine Bw.set2 ?_ ?_ _); (focus (first | omega | (simp only [szA, szS, szD, szN, plus_size] <;> omega)))) | with_reducible refine Bw.trans ?_ (by with_reducible assumption)))) |> fun h => by rw [plus_plus, Array.append_empty] at h; exact h
  · exact (show Bw (plus w L d) (plus (plus w L d) L' dd) from (by repeat (first | with_reducible assumption | with_reducible exact Bw.refl _ | with_reducible refine Bw.alloc ?_ _ | with_reducible refine Bw.more ?_ _ _ | with_reducible refine Bw.drew ?_ | with_reducible refine Bw.drewN ?_ _ | ((with_reducible refine Bw.set2 ?_ ?_ _); (focus (first | omega | (simp only [szA, szS, szD, szN, plus_size] <;> omega)))) | with_reducible refine Bw.trans ?_ (by with_reducible assumption)))) |> fun h => by rw [plus_plus] at h; exact h

set_option maxHeartbeats 1000000 in
theorem runesEncodes_any (r : Int) (w : World) : Calls Try.prog 5 #[.int .i64 r] w fun e w' => e = .returned (.bool true) ∧ Bw w w' := by
  have m1 := Int.emod_nonneg r (show (2080 : Int) ≠ 0 by omega)
  have m2 := Int.emod_lt_of_pos r (show (0 : Int) < 2080 by omega)
  go_enter Try.func5, Try.ntmps5
  go_wp2_with (first | (go_at_call 7; refine (sane04_any _).mono ?_; rintro ee ww ⟨rfl, hb1⟩; (first | obtain ⟨L1, d1, rfl⟩ := Bw.isPlus (Bw.un hb1) | obtain ⟨L1, d1, rfl⟩ := Bw.isPlus hb1); clear hb1) | (go_at_call 9; refine (mmod_any _ _ _ (by omega) (by omega)).mono ?_; rintro ee ww ⟨rfl, rfl⟩))
  obtain ⟨X, hX⟩ : ∃ X, X = [r, r % 1114128, r % 2304, 55280 + r % 2080] := ⟨_, rfl⟩
  have HX := Lib.hid hX
  clear hX
  go_loopw [17] (fun i wr => ∃ k : Nat, i = .int .i64 k ∧ k ≤ 4 ∧ Bw w wr ∧ Rd (fun x : Int => Value.int .i64 x) wr (some ⟨w.heap.size + L1.size, 0, none⟩) 4 X) (fun i _ => 4 - (intOf i).toNat)
  case atStart => exact ⟨0, rfl, by omega, (by repeat (first | with_reducible assumption | with_reducible exact Bw.refl _ | with_reducible refine Bw.alloc ?_ _ | with_reducible refine Bw.more ?_ _ _ | with_reducible refine Bw.drew ?_ | with_reducible refine Bw.drewN ?_ _ | ((with_reducible refine Bw.set2 ?_ ?_ _); (focus (first | omega | (simp only [szA, szS, szD, szN, plus_size] <;> omega)))) | with_reducible refine Bw.trans ?_ (by with_reducible assumption))), by rw [HX.out]; exact Rd.lit' _ _ _ _ _ 4 (by (first | omega | (simp only [szA, szS, szD, szN, plus_size] <;> omega))) rfl rfl⟩
  case round =>
    rename_i wr
    obtain ⟨k, rfl, hk, hbw, hR⟩ := hrel
    by_cases hlt : k < 4
    · obtain ⟨g, o, e, hx⟩ := hR.2 (by omega)
      cases e
      have hx1 := hx k (by have := hR.1; omega)
      obtain ⟨x, hxx⟩ : ∃ x, x = X[k]'(by have := hR.1; omega) := ⟨_, rfl⟩
      rw [← hxx] at hx1
      simp only [Nat.zero_add] at hx1
      have HR := Lib.hid hR
      clear hxx hx hR m1 m2
      go_upto_region 6 with (fail)
      go_cut [27] (fun s w' => s = .bool false ∧ Bw wr w')
      case first =>
        go_region_with (first | (go_at_call 18; refine (encode_any _ _).mono ?_; rintro ee ww ⟨v, rfl, hS, hb⟩; obtain ⟨A1, c1, rfl, -, -, hR1⟩ := hS; obtain ⟨L2, d2, rfl⟩ := Bw.isPlus hb; try simp only [plus_plus, drewN_plus, drew_plus] at hR1; obtain ⟨q1, q2⟩ := conv_plus (cap := c1) hR1; clear hb hR1) | (go_at_call 19; refine (refenc_any _ _).mono ?_; rintro ee ww ⟨v, rfl, hS, hb⟩; obtain ⟨A3, c3, rfl, -, -, hR3⟩ := hS; obtain ⟨L3, d3, rfl⟩ := Bw.isPlus hb; try simp only [plus_plus, drewN_plus, drew_plus] at hR3; obtain ⟨q3, q4⟩ := conv_plus (cap := c3) hR3; clear hb hR3))
        all_goals go_wp2
        all_goals go_meet
        all_goals exact ⟨by simp, (by repeat (first | with_reducible assumption | with_reducible exact Bw.refl _ | with_reducible refine Bw.alloc ?_ _ | with_reducible refine Bw.more ?_ _ _ | with_reducible refine Bw.drew ?_ | with_reducible refine Bw.drewN ?_ _ | ((with_reducible refine Bw.set2 ?_ ?_ _); (focus (first | omega | (simp only [szA, szS, szD, szN, plus_size] <;> omega)))) | with_reducible refine Bw.trans ?_ (by with_reducible assumption)))⟩
      case rest =>
        obtain ⟨rfl, hb2⟩ := hcut
        go_wp2
        go_roundw
        case rel => exact ⟨k + 1, by go_num, by omega, hbw.trans hb2, HR.out.up hb2⟩
        case measure => simp [intOf]; omega
    · clear hR
      go_wp2
      go_ret
      exact ⟨rfl, hbw⟩
end Go.Proofs.Ytagihjchhpiipaa
