/- attr.single: its cases (made by gen_atA.py). -/
import Derived.Test.YtacekeobmijipaaDoorAtA
set_option linter.unusedSimpArgs false
set_option linter.unusedVariables false
namespace Go.Proofs.YtacekeobmijipaaDoor
open Go.RowKit

set_option maxRecDepth 100000 in
theorem single_l1 (f g b : Int) (w : World) : Calls Tryd.prog 25 #[atV f g b, .int .i64 1] w (AtP w (single f g b 1)) := by
  have e0 : single f g b 1 = (bits .or .i64 f 1, g, b) := by rfl
  rw [e0]
  unfold atV
  clear e0
  go_enter Tryd.func25, Tryd.ntmps25
  go_wp2
  refine bodyPost_ret (by simp [results, Tryd.results25, go_sem]; rfl) rfl ?_
  exact ⟨rfl, (by repeat (first | with_reducible assumption | with_reducible exact Bw.refl _ | with_reducible refine Bw.alloc ?_ _ | with_reducible refine Bw.more ?_ _ _ | with_reducible refine Bw.drew ?_ | with_reducible refine Bw.drewN ?_ _ | ((with_reducible refine Bw.set2 ?_ ?_ _); (focus (first | omega | (simp only [szA, szS, szD, szN, plus_size, Array.size_append] <;> omega)))) | with_reducible refine Bw.trans ?_ (by with_reducible assumption)))⟩

set_option maxRecDepth 100000 in
theorem single_l7 (f g b : Int) (w : World) : Calls Tryd.prog 25 #[atV f g b, .int .i64 7] w (AtP w (single f g b 7)) := by
  have e0 : single f g b 7 = (bits .or .i64 f 4, g, b) := by rfl
  rw [e0]
  unfold atV
  clear e0
  go_enter Tryd.func25, Tryd.ntmps25
  go_wp2
  refine bodyPost_ret (by simp [results, Tryd.results25, go_sem]; rfl) rfl ?_
  exact ⟨rfl, (by repeat (first | with_reducible assumption | with_reducible exact Bw.refl _ | with_reducible refine Bw.alloc ?_ _ | with_reducible refine Bw.more ?_ _ _ | with_reducible refine Bw.drew ?_ | with_reducible refine Bw.drewN ?_ _ | ((with_reducible refine Bw.set2 ?_ ?_ _); (focus (first | omega | (simp only [szA, szS, szD, szN, plus_size, Array.size_append] <;> omega)))) | with_reducible refine Bw.trans ?_ (by with_reducible assumption)))⟩

set_option maxRecDepth 100000 in
theorem single_l24 (f g b : Int) (w : World) : Calls Tryd.prog 25 #[atV f g b, .int .i64 24] w (AtP w (single f g b 24)) := by
  have e0 : single f g b 24 = (bits .andNot .i64 f 2, g, b) := by rfl
  rw [e0]
  unfold atV
  clear e0
  go_enter Tryd.func25, Tryd.ntmps25
  go_wp2
  refine bodyPost_ret (by simp [results, Tryd.results25, go_sem]; rfl) rfl ?_
  exact ⟨rfl, (by repeat (first | with_reducible assumption | with_reducible exact Bw.refl _ | with_reducible refine Bw.alloc ?_ _ | with_reducible refine Bw.more ?_ _ _ | with_reducible refine Bw.drew ?_ | with_reducible refine Bw.drewN ?_ _ | ((with_reducible refine Bw.set2 ?_ ?_ _); (focus (first | omega | (simp only [szA, szS, szD, szN, plus_size, Array.size_append] <;> omega)))) | with_reducible refine Bw.trans ?_ (by with_reducible assumption)))⟩

set_option maxRecDepth 100000 in
theorem single_l39 (f g b : Int) (w : World) : Calls Tryd.prog 25 #[atV f g b, .int .i64 39] w (AtP w (single f g b 39)) := by
  have e0 : single f g b 39 = (f, 0, b) := by rfl
  rw [e0]
  unfold atV
  clear e0
  go_enter Tryd.func25, Tryd.ntmps25
  go_wp2
  refine bodyPost_ret (by simp [results, Tryd.results25, go_sem]; rfl) rfl ?_
  exact ⟨rfl, (by repeat (first | with_reducible assumption | with_reducible exact Bw.refl _ | with_reducible refine Bw.alloc ?_ _ | with_reducible refine Bw.more ?_ _ _ | with_reducible refine Bw.drew ?_ | with_reducible refine Bw.drewN ?_ _ | ((with_reducible refine Bw.set2 ?_ ?_ _); (focus (first | omega | (simp only [szA, szS, szD, szN, plus_size, Array.size_append] <;> omega)))) | with_reducible refine Bw.trans ?_ (by with_reducible assumption)))⟩

set_option maxRecDepth 100000 in
theorem single_l23 (f g b : Int) (w : World) : Calls Tryd.prog 25 #[atV f g b, .int .i64 23] w (AtP w (single f g b 23)) := by
  have e0 : single f g b 23 = (f, g, b) := by rfl
  rw [e0]
  unfold atV
  clear e0
  go_enter Tryd.func25, Tryd.ntmps25
  go_wp2
  refine bodyPost_ret (by simp [results, Tryd.results25, go_sem]; rfl) rfl ?_
  exact ⟨rfl, (by repeat (first | with_reducible assumption | with_reducible exact Bw.refl _ | with_reducible refine Bw.alloc ?_ _ | with_reducible refine Bw.more ?_ _ _ | with_reducible refine Bw.drew ?_ | with_reducible refine Bw.drewN ?_ _ | ((with_reducible refine Bw.set2 ?_ ?_ _); (focus (first | omega | (simp only [szA, szS, szD, szN, plus_size, Array.size_append] <;> omega)))) | with_reducible refine Bw.trans ?_ (by with_reducible assumption)))⟩

set_option maxRecDepth 100000 in
theorem single_l48 (f g b : Int) (w : World) : Calls Tryd.prog 25 #[atV f g b, .int .i64 48] w (AtP w (single f g b 48)) := by
  have e0 : single f g b 48 = (f, g, b) := by rfl
  rw [e0]
  unfold atV
  clear e0
  go_enter Tryd.func25, Tryd.ntmps25
  go_wp2
  refine bodyPost_ret (by simp [results, Tryd.results25, go_sem]; rfl) rfl ?_
  exact ⟨rfl, (by repeat (first | with_reducible assumption | with_reducible exact Bw.refl _ | with_reducible refine Bw.alloc ?_ _ | with_reducible refine Bw.more ?_ _ _ | with_reducible refine Bw.drew ?_ | with_reducible refine Bw.drewN ?_ _ | ((with_reducible refine Bw.set2 ?_ ?_ _); (focus (first | omega | (simp only [szA, szS, szD, szN, plus_size, Array.size_append] <;> omega)))) | with_reducible refine Bw.trans ?_ (by with_reducible assumption)))⟩

set_option maxRecDepth 100000 in
theorem single_r1 (f g b p : Int) (w : World) (h1 : 90 ≤ p) (h2 : p ≤ 97) : Calls Tryd.prog 25 #[atV f g b, .int .i64 p] w (AtP w (single f g b p)) := by
  have e0 : single f g b p = (f, p - 90 + 9, b) := by unfold single; rw [if_neg (by omega)]; rw [if_neg (by omega)]; rw [if_neg (by omega)]; rw [if_neg (by omega)]; rw [if_neg (by omega)]; rw [if_neg (by omega)]; rw [if_neg (by omega)]; rw [if_neg (by omega)]; rw [if_pos ⟨by omega, by omega⟩]; all_goals (refine Prod.ext ?_ (Prod.ext ?_ ?_) <;> first | rfl | (dsimp only; omega))
  rw [e0]
  unfold atV
  clear e0
  go_enter Tryd.func25, Tryd.ntmps25
  go_wp2
  refine bodyPost_ret (by simp [results, Tryd.results25, go_sem]; rfl) rfl ?_
  exact ⟨rfl, (by repeat (first | with_reducible assumption | with_reducible exact Bw.refl _ | with_reducible refine Bw.alloc ?_ _ | with_reducible refine Bw.more ?_ _ _ | with_reducible refine Bw.drew ?_ | with_reducible refine Bw.drewN ?_ _ | ((with_reducible refine Bw.set2 ?_ ?_ _); (focus (first | omega | (simp only [szA, szS, szD, szN, plus_size, Array.size_append] <;> omega)))) | with_reducible refine Bw.trans ?_ (by with_reducible assumption)))⟩

set_option maxRecDepth 100000 in
theorem single_r3 (f g b p : Int) (w : World) (h1 : 100 ≤ p) (h2 : p ≤ 107) : Calls Tryd.prog 25 #[atV f g b, .int .i64 p] w (AtP w (single f g b p)) := by
  have e0 : single f g b p = (f, g, p - 100 + 9) := by unfold single; rw [if_neg (by omega)]; rw [if_neg (by omega)]; rw [if_neg (by omega)]; rw [if_neg (by omega)]; rw [if_neg (by omega)]; rw [if_neg (by omega)]; rw [if_neg (by omega)]; rw [if_neg (by omega)]; rw [if_neg (by omega)]; rw [if_neg (by omega)]; rw [if_neg (by omega)]; rw [if_pos ⟨by omega, by omega⟩]; all_goals (refine Prod.ext ?_ (Prod.ext ?_ ?_) <;> first | rfl | (dsimp only; omega))
  rw [e0]
  unfold atV
  clear e0
  go_enter Tryd.func25, Tryd.ntmps25
  go_wp2
  refine bodyPost_ret (by simp [results, Tryd.results25, go_sem]; rfl) rfl ?_
  exact ⟨rfl, (by repeat (first | with_reducible assumption | with_reducible exact Bw.refl _ | with_reducible refine Bw.alloc ?_ _ | with_reducible refine Bw.more ?_ _ _ | with_reducible refine Bw.drew ?_ | with_reducible refine Bw.drewN ?_ _ | ((with_reducible refine Bw.set2 ?_ ?_ _); (focus (first | omega | (simp only [szA, szS, szD, szN, plus_size, Array.size_append] <;> omega)))) | with_reducible refine Bw.trans ?_ (by with_reducible assumption)))⟩

set_option maxRecDepth 100000 in
theorem single_r5 (f g b p : Int) (w : World) (h1 : 2 ≤ p) (h2 : p ≤ 3) : Calls Tryd.prog 25 #[atV f g b, .int .i64 p] w (AtP w (single f g b p)) := by
  have e0 : single f g b p = (f, g, b) := by unfold single; rw [if_neg (by omega)]; rw [if_neg (by omega)]; rw [if_neg (by omega)]; rw [if_neg (by omega)]; rw [if_neg (by omega)]; rw [if_neg (by omega)]; rw [if_neg (by omega)]; rw [if_neg (by omega)]; rw [if_neg (by omega)]; rw [if_neg (by omega)]; rw [if_neg (by omega)]; rw [if_neg (by omega)]; rw [if_neg (by omega)]; all_goals (refine Prod.ext ?_ (Prod.ext ?_ ?_) <;> first | rfl | (dsimp only; omega))
  rw [e0]
  unfold atV
  clear e0
  go_enter Tryd.func25, Tryd.ntmps25
  go_wp2
  refine bodyPost_ret (by simp [results, Tryd.results25, go_sem]; rfl) rfl ?_
  exact ⟨rfl, (by repeat (first | with_reducible assumption | with_reducible exact Bw.refl _ | with_reducible refine Bw.alloc ?_ _ | with_reducible refine Bw.more ?_ _ _ | with_reducible refine Bw.drew ?_ | with_reducible refine Bw.drewN ?_ _ | ((with_reducible refine Bw.set2 ?_ ?_ _); (focus (first | omega | (simp only [szA, szS, szD, szN, plus_size, Array.size_append] <;> omega)))) | with_reducible refine Bw.trans ?_ (by with_reducible assumption)))⟩

set_option maxRecDepth 100000 in
theorem single_r7 (f g b p : Int) (w : World) (h1 : 8 ≤ p) (h2 : p ≤ 21) : Calls Tryd.prog 25 #[atV f g b, .int .i64 p] w (AtP w (single f g b p)) := by
  have e0 : single f g b p = (f, g, b) := by unfold single; rw [if_neg (by omega)]; rw [if_neg (by omega)]; rw [if_neg (by omega)]; rw [if_neg (by omega)]; rw [if_neg (by omega)]; rw [if_neg (by omega)]; rw [if_neg (by omega)]; rw [if_neg (by omega)]; rw [if_neg (by omega)]; rw [if_neg (by omega)]; rw [if_neg (by omega)]; rw [if_neg (by omega)]; rw [if_neg (by omega)]; all_goals (refine Prod.ext ?_ (Prod.ext ?_ ?_) <;> first | rfl | (dsimp only; omega))
  rw [e0]
  unfold atV
  clear e0
  go_enter Tryd.func25, Tryd.ntmps25
  go_wp2
  refine bodyPost_ret (by simp [results, Tryd.results25, go_sem]; rfl) rfl ?_
  exact ⟨rfl, (by repeat (first | with_reducible assumption | with_reducible exact Bw.refl _ | with_reducible refine Bw.alloc ?_ _ | with_reducible refine Bw.more ?_ _ _ | with_reducible refine Bw.drew ?_ | with_reducible refine Bw.drewN ?_ _ | ((with_reducible refine Bw.set2 ?_ ?_ _); (focus (first | omega | (simp only [szA, szS, szD, szN, plus_size, Array.size_append] <;> omega)))) | with_reducible refine Bw.trans ?_ (by with_reducible assumption)))⟩

set_option maxRecDepth 100000 in
theorem single_r9 (f g b p : Int) (w : World) (h1 : 28 ≤ p) (h2 : p ≤ 29) : Calls Tryd.prog 25 #[atV f g b, .int .i64 p] w (AtP w (single f g b p)) := by
  have e0 : single f g b p = (f, g, b) := by unfold single; rw [if_neg (by omega)]; rw [if_neg (by omega)]; rw [if_neg (by omega)]; rw [if_neg (by omega)]; rw [if_neg (by omega)]; rw [if_neg (by omega)]; rw [if_neg (by omega)]; rw [if_neg (by omega)]; rw [if_neg (by omega)]; rw [if_neg (by omega)]; rw [if_neg (by omega)]; rw [if_neg (by omega)]; rw [if_neg (by omega)]; all_goals (refine Prod.ext ?_ (Prod.ext ?_ ?_) <;> first | rfl | (dsimp only; omega))
  rw [e0]
  unfold atV
  clear e0
  go_enter Tryd.func25, Tryd.ntmps25
  go_wp2
  refine bodyPost_ret (by simp [results, Tryd.results25, go_sem]; rfl) rfl ?_
  exact ⟨rfl, (by repeat (first | with_reducible assumption | with_reducible exact Bw.refl _ | with_reducible refine Bw.alloc ?_ _ | with_reducible refine Bw.more ?_ _ _ | with_reducible refine Bw.drew ?_ | with_reducible refine Bw.drewN ?_ _ | ((with_reducible refine Bw.set2 ?_ ?_ _); (focus (first | omega | (simp only [szA, szS, szD, szN, plus_size, Array.size_append] <;> omega)))) | with_reducible refine Bw.trans ?_ (by with_reducible assumption)))⟩

set_option maxRecDepth 100000 in
theorem single_r11 (f g b p : Int) (w : World) (h1 : 98 ≤ p) (h2 : p ≤ 99) : Calls Tryd.prog 25 #[atV f g b, .int .i64 p] w (AtP w (single f g b p)) := by
  have e0 : single f g b p = (f, g, b) := by unfold single; rw [if_neg (by omega)]; rw [if_neg (by omega)]; rw [if_neg (by omega)]; rw [if_neg (by omega)]; rw [if_neg (by omega)]; rw [if_neg (by omega)]; rw [if_neg (by omega)]; rw [if_neg (by omega)]; rw [if_neg (by omega)]; rw [if_neg (by omega)]; rw [if_neg (by omega)]; rw [if_neg (by omega)]; rw [if_neg (by omega)]; all_goals (refine Prod.ext ?_ (Prod.ext ?_ ?_) <;> first | rfl | (dsimp only; omega))
  rw [e0]
  unfold atV
  clear e0
  go_enter Tryd.func25, Tryd.ntmps25
  go_wp2
  refine bodyPost_ret (by simp [results, Tryd.results25, go_sem]; rfl) rfl ?_
  exact ⟨rfl, (by repeat (first | with_reducible assumption | with_reducible exact Bw.refl _ | with_reducible refine Bw.alloc ?_ _ | with_reducible refine Bw.more ?_ _ _ | with_reducible refine Bw.drew ?_ | with_reducible refine Bw.drewN ?_ _ | ((with_reducible refine Bw.set2 ?_ ?_ _); (focus (first | omega | (simp only [szA, szS, szD, szN, plus_size, Array.size_append] <;> omega)))) | with_reducible refine Bw.trans ?_ (by with_reducible assumption)))⟩

end Go.Proofs.YtacekeobmijipaaDoor
