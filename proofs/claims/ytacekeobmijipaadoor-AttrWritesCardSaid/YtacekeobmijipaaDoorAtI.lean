/- The law AttrBack: walked. -/
import Derived.Test.YtacekeobmijipaaDoorAtH
set_option linter.unusedSimpArgs false
set_option linter.unusedVariables false
namespace Go.Proofs.YtacekeobmijipaaDoor
open Go.RowKit

theorem PowT.later {B : Nat} {w w' : World} (h : PowT B w) (hb : Below B w w') : PowT w'.heap.size w' := Lib.tabBelow_of_tabIs (h w' hb)

set_option maxRecDepth 100000 in
set_option maxHeartbeats 2000000 in
theorem back_same (n m k : Int) (w : World) (n0 : -9223372036854775808 ≤ n) (n1 : n ≤ 9223372036854775807) (m0 : -9223372036854775808 ≤ m) (m1 : m ≤ 9223372036854775807) (ht : PowT w.heap.size w) (he : madeA n = madeA m) :
    Calls Tryd.prog 5 #[.int .i64 n, .int .i64 m, .int .i64 k] w fun e w' => e = .returned (.bool true) ∧ Bw w w' := by
  have HT := Lib.hid ht
  obtain ⟨t1, t2, t3, hm⟩ : ∃ t1 t2 t3, madeA m = (t1, t2, t3) := ⟨_, _, _, rfl⟩
  have hmv : avB t1 t2 t3 = true := by have := madeA_valid m; rw [hm] at this; exact this
  have HM := Lib.hid hm
  have HN := Lib.hid (he.trans hm)
  have HV := Lib.hid hmv
  clear ht he hm hmv
  go_enter Tryd.func5, Tryd.ntmps5
  go_upto_region 4 with (first
    | (go_at_call 7; refine (sane15_any _ HT.out).mono ?_; rintro ee ws ⟨rfl, hbs⟩)
    | (go_at_call 8; refine (made15_any _ _ (by first | exact n0 | exact m0) (by first | exact n1 | exact m1)).mono ?_; rintro ee wm ⟨rfl, hbm⟩; (first | rw [HN.out] | rw [HM.out]); dsimp only [at3, atV])
    | fail)
  have hY : ∀ w', Bw (wm.alloc (.cells #[.int .i64 t1, .int .i64 t2, .int .i64 t3] 23)) w' → (w'.cell? ⟨wm.heap.size, 0, none⟩ = some (.int .i64 t1) ∧ w'.cell? ⟨wm.heap.size, 1, none⟩ = some (.int .i64 t2) ∧ w'.cell? ⟨wm.heap.size, 2, none⟩ = some (.int .i64 t3)) := fun w' hb => ⟨cell_bw hb (by repeat (first | ((with_reducible refine cell_alloc_here ?_ ?_); (focus (first | omega | (simp only [szA, szS, szD, szN, plus_size, Array.size_append] <;> omega))); (focus rfl)) | with_reducible refine cell_alloc_some ?_ _ | with_reducible refine cell_plus_some ?_ _ _ | ((with_reducible refine cell_set_some ?_ ?_); (focus (first | omega | (simp only [szA, szS, szD, szN, plus_size, Array.size_append] <;> omega)))) | with_reducible refine cell_drew_some ?_ | with_reducible refine cell_drewN_some ?_ _)), cell_bw hb (by repeat (first | ((with_reducible refine cell_alloc_here ?_ ?_); (focus (first | omega | (simp only [szA, szS, szD, szN, plus_size, Array.size_append] <;> omega))); (focus rfl)) | with_reducible refine cell_alloc_some ?_ _ | with_reducible refine cell_plus_some ?_ _ _ | ((with_reducible refine cell_set_some ?_ ?_); (focus (first | omega | (simp only [szA, szS, szD, szN, plus_size, Array.size_append] <;> omega)))) | with_reducible refine cell_drew_some ?_ | with_reducible refine cell_drewN_some ?_ _)), cell_bw hb (by repeat (first | ((with_reducible refine cell_alloc_here ?_ ?_); (focus (first | omega | (simp only [szA, szS, szD, szN, plus_size, Array.size_append] <;> omega))); (focus rfl)) | with_reducible refine cell_alloc_some ?_ _ | with_reducible refine cell_plus_some ?_ _ _ | ((with_reducible refine cell_set_some ?_ ?_); (focus (first | omega | (simp only [szA, szS, szD, szN, plus_size, Array.size_append] <;> omega)))) | with_reducible refine cell_drew_some ?_ | with_reducible refine cell_drewN_some ?_ _))⟩
  have HY := Lib.hid hY
  clear hY
  go_region_held3 (fun w' => w'.cell? ⟨wm.heap.size, 0, none⟩ = some (.int .i64 t1) ∧ w'.cell? ⟨wm.heap.size, 1, none⟩ = some (.int .i64 t2) ∧ w'.cell? ⟨wm.heap.size, 2, none⟩ = some (.int .i64 t3)) ((first | (exact HY.out _ (by repeat (first | with_reducible assumption | with_reducible exact Bw.refl _ | with_reducible refine Bw.alloc ?_ _ | with_reducible refine Bw.more ?_ _ _ | with_reducible refine Bw.drew ?_ | with_reducible refine Bw.drewN ?_ _ | ((with_reducible refine Bw.set2 ?_ ?_ _); (focus (first | omega | (simp only [szA, szS, szD, szN, plus_size, Array.size_append] <;> omega)))) | with_reducible refine Bw.trans ?_ (by with_reducible assumption)))) | fail)) ((first
    | (go_at_call 8; refine (made15_any _ _ n0 n1).mono ?_; rintro ee wa ⟨rfl, hba⟩; rw [HN.out]; dsimp only [at3, atV])
    | (go_at_call 9; refine (bytes_same t1 t2 t3 _ HV.out).mono ?_; rintro ee wb ⟨rfl, hbb⟩)
    | fail))
  all_goals go_upto_region 5 with (fail)
  all_goals (go_region_held3 (fun w' => w'.cell? ⟨wm.heap.size, 0, none⟩ = some (.int .i64 t1) ∧ w'.cell? ⟨wm.heap.size, 1, none⟩ = some (.int .i64 t2) ∧ w'.cell? ⟨wm.heap.size, 2, none⟩ = some (.int .i64 t3)) ((first | (exact HY.out _ (by repeat (first | with_reducible assumption | with_reducible exact Bw.refl _ | with_reducible refine Bw.alloc ?_ _ | with_reducible refine Bw.more ?_ _ _ | with_reducible refine Bw.drew ?_ | with_reducible refine Bw.drewN ?_ _ | ((with_reducible refine Bw.set2 ?_ ?_ _); (focus (first | omega | (simp only [szA, szS, szD, szN, plus_size, Array.size_append] <;> omega)))) | with_reducible refine Bw.trans ?_ (by with_reducible assumption)))) | fail)) ((first
    | (go_at_call 8; refine (made15_any _ _ n0 n1).mono ?_; rintro ee wc ⟨rfl, hbc⟩; rw [HN.out]; dsimp only [at3, atV])
    | fail)))
  all_goals go_wp2
  all_goals go_ret
  all_goals (refine ⟨ret_bool (by simp), ?_⟩; ((repeat (first | with_reducible assumption | with_reducible exact Bw.refl _ | with_reducible refine Bw.alloc ?_ _ | with_reducible refine Bw.more ?_ _ _ | with_reducible refine Bw.drew ?_ | with_reducible refine Bw.drewN ?_ _ | ((with_reducible refine Bw.set2 ?_ ?_ _); (focus (first | omega | (simp only [szA, szS, szD, szN, plus_size, Array.size_append] <;> omega)))) | with_reducible refine Bw.trans ?_ (by with_reducible assumption)))))
end Go.Proofs.YtacekeobmijipaaDoor
