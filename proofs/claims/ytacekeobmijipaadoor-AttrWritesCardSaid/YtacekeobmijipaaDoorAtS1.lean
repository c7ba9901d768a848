/- attr.single: its cases (made by gen_atA.py). -/
import Derived.Test.YtacekeobmijipaaDoorAtA
set_option linter.unusedSimpArgs false
set_option linter.unusedVariables false
namespace Go.Proofs.YtacekeobmijipaaDoor
open Go.RowKit

set_option maxRecDepth 100000 in
theorem single_l0 (f g b : Int) (w : World) : Calls Tryd.prog 25 #[atV f g b, .int .i64 0] w (AtP w (single f g b 0)) := by
  have e0 : single f g b 0 = (0, 0, 0) := by rfl
  rw [e0]
  unfold atV
  clear e0
  go_enter Tryd.func25, Tryd.ntmps25
  go_wp2
  refine bodyPost_ret (by simp [results, Tryd.results25, go_sem]; rfl) rfl ?_
  exact ⟨rfl, (by repeat (first | with_reducible assumption | with_reducible exact Bw.refl _ | with_reducible refine Bw.alloc ?_ _ | with_reducible refine Bw.more ?_ _ _ | with_reducible refine Bw.drew ?_ | with_reducible refine Bw.drewN ?_ _ | ((with_reducible refine Bw.set2 ?_ ?_ _); (focus (first | omega | (simp only [szA, szS, szD, szN, plus_size, Array.size_append] <;> omega)))) | with_reducible refine Bw.trans ?_ (by with_reducible assumption)))⟩

set_option maxRecDepth 100000 in
theorem single_l4 (f g b : Int) (w : World) : Calls Tryd.prog 25 #[atV f g b, .int .i64 4] w (AtP w (single f g b 4)) := by
  have e0 : single f g b 4 = (bits .or .i64 f 2, g, b) := by rfl
  rw [e0]
  unfold atV
  clear e0
  go_enter Tryd.func25, Tryd.ntmps25
  go_wp2
  refine bodyPost_ret (by simp [results, Tryd.results25, go_sem]; rfl) rfl ?_
  exact ⟨rfl, (by repeat (first | with_reducible assumption | with_reducible exact Bw.refl _ | with_reducible refine Bw.alloc ?_ _ | with_reducible refine Bw.more ?_ _ _ | with_reducible refine Bw.drew ?_ | with_reducible refine Bw.drewN ?_ _ | ((with_reducible refine Bw.set2 ?_ ?_ _); (focus (first | omega | (simp only [szA, szS, szD, szN, plus_size, Array.size_append] <;> omega)))) | with_reducible refine Bw.trans ?_ (by with_reducible assumption)))⟩

set_option maxRecDepth 100000 in
theorem single_l22 (f g b : Int) (w : World) : Calls Tryd.prog 25 #[atV f g b, .int .i64 22] w (AtP w (single f g b 22)) := by
  have e0 : single f g b 22 = (bits .andNot .i64 f 1, g, b) := by rfl
  rw [e0]
  unfold atV
  clear e0
  go_enter Tryd.func25, Tryd.ntmps25
  go_wp2
  refine bodyPost_ret (by simp [results, Tryd.results25, go_sem]; rfl) rfl ?_
  exact ⟨rfl, (by repeat (first | with_reducible assumption | with_reducible exact Bw.refl _ | with_reducible refine Bw.alloc ?_ _ | with_reducible refine Bw.more ?_ _ _ | with_reducible refine Bw.drew ?_ | with_reducible refine Bw.drewN ?_ _ | ((with_reducible refine Bw.set2 ?_ ?_ _); (focus (first | omega | (simp only [szA, szS, szD, szN, plus_size, Array.size_append] <;> omega)))) | with_reducible refine Bw.trans ?_ (by with_reducible assumption)))⟩

set_option maxRecDepth 100000 in
theorem single_l27 (f g b : Int) (w : World) : Calls Tryd.prog 25 #[atV f g b, .int .i64 27] w (AtP w (single f g b 27)) := by
  have e0 : single f g b 27 = (bits .andNot .i64 f 4, g, b) := by rfl
  rw [e0]
  unfold atV
  clear e0
  go_enter Tryd.func25, Tryd.ntmps25
  go_wp2
  refine bodyPost_ret (by simp [results, Tryd.results25, go_sem]; rfl) rfl ?_
  exact ⟨rfl, (by repeat (first | with_reducible assumption | with_reducible exact Bw.refl _ | with_reducible refine Bw.alloc ?_ _ | with_reducible refine Bw.more ?_ _ _ | with_reducible refine Bw.drew ?_ | with_reducible refine Bw.drewN ?_ _ | ((with_reducible refine Bw.set2 ?_ ?_ _); (focus (first | omega | (simp only [szA, szS, szD, szN, plus_size, Array.size_append] <;> omega)))) | with_reducible refine Bw.trans ?_ (by with_reducible assumption)))⟩

set_option maxRecDepth 100000 in
theorem single_l49 (f g b : Int) (w : World) : Calls Tryd.prog 25 #[atV f g b, .int .i64 49] w (AtP w (single f g b 49)) := by
  have e0 : single f g b 49 = (f, g, 0) := by rfl
  rw [e0]
  unfold atV
  clear e0
  go_enter Tryd.func25, Tryd.ntmps25
  go_wp2
  refine bodyPost_ret (by simp [results, Tryd.results25, go_sem]; rfl) rfl ?_
  exact ⟨rfl, (by repeat (first | with_reducible assumption | with_reducible exact Bw.refl _ | with_reducible refine Bw.alloc ?_ _ | with_reducible refine Bw.more ?_ _ _ | with_reducible refine Bw.drew ?_ | with_reducible refine Bw.drewN ?_ _ | ((with_reducible refine Bw.set2 ?_ ?_ _); (focus (first | omega | (simp only [szA, szS, szD, szN, plus_size, Array.size_append] <;> omega)))) | with_reducible refine Bw.trans ?_ (by with_reducible assumption)))⟩

set_option maxRecDepth 100000 in
theorem single_l38 (f g b : Int) (w : World) : Calls Tryd.prog 25 #[atV f g b, .int .i64 38] w (AtP w (single f g b 38)) := by
  have e0 : single f g b 38 = (f, g, b) := by rfl
  rw [e0]
  unfold atV
  clear e0
  go_enter Tryd.func25, Tryd.ntmps25
  go_wp2
  refine bodyPost_ret (by simp [results, Tryd.results25, go_sem]; rfl) rfl ?_
  exact ⟨rfl, (by repeat (first | with_reducible assumption | with_reducible exact Bw.refl _ | with_reducible refine Bw.alloc ?_ _ | with_reducible refine Bw.more ?_ _ _ | with_reducible refine Bw.drew ?_ | with_reducible refine Bw.drewN ?_ _ | ((with_reducible refine Bw.set2 ?_ ?_ _); (focus (first | omega | (simp only [szA, szS, szD, szN, plus_size, Array.size_append] <;> omega)))) | with_reducible refine Bw.trans ?_ (by with_reducible assumption)))⟩

set_option maxRecDepth 100000 in
theorem single_r0 (f g b p : Int) (w : World) (h1 : 30 ≤ p) (h2 : p ≤ 37) : Calls Tryd.prog 25 #[atV f g b, .int .i64 p] w (AtP w (single f g b p)) := by
  have e0 : single f g b p = (f, p - 30 + 1, b) := by unfold single; rw [if_neg (by omega)]; rw [if_neg (by omega)]; rw [if_neg (by omega)]; rw [if_neg (by omega)]; rw [if_neg (by omega)]; rw [if_neg (by omega)]; rw [if_neg (by omega)]; rw [if_pos ⟨by omega, by omega⟩]; all_goals (refine Prod.ext ?_ (Prod.ext ?_ ?_) <;> first | rfl | (dsimp only; omega))
  rw [e0]
  unfold atV
  clear e0
  go_enter Tryd.func25, Tryd.ntmps25
  go_wp2
  refine bodyPost_ret (by simp [results, Tryd.results25, go_sem]; rfl) rfl ?_
  exact ⟨rfl, (by repeat (first | with_reducible assumption | with_reducible exact Bw.refl _ | with_reducible refine Bw.alloc ?_ _ | with_reducible refine Bw.more ?_ _ _ | with_reducible refine Bw.drew ?_ | with_reducible refine Bw.drewN ?_ _ | ((with_reducible refine Bw.set2 ?_ ?_ _); (focus (first | omega | (simp only [szA, szS, szD, szN, plus_size, Array.size_append] <;> omega)))) | with_reducible refine Bw.trans ?_ (by with_reducible assumption)))⟩

set_option maxRecDepth 100000 in
theorem single_r2 (f g b p : Int) (w : World) (h1 : 40 ≤ p) (h2 : p ≤ 47) : Calls Tryd.prog 25 #[atV f g b, .int .i64 p] w (AtP w (single f g b p)) := by
  have e0 : single f g b p = (f, g, p - 40 + 1) := by unfold single; rw [if_neg (by omega)]; rw [if_neg (by omega)]; rw [if_neg (by omega)]; rw [if_neg (by omega)]; rw [if_neg (by omega)]; rw [if_neg (by omega)]; rw [if_neg (by omega)]; rw [if_neg (by omega)]; rw [if_neg (by omega)]; rw [if_neg (by omega)]; rw [if_pos ⟨by omega, by omega⟩]; all_goals (refine Prod.ext ?_ (Prod.ext ?_ ?_) <;> first | rfl | (dsimp only; omega))
  rw [e0]
  unfold atV
  clear e0
  go_enter Tryd.func25, Tryd.ntmps25
  go_wp2
  refine bodyPost_ret (by simp [results, Tryd.results25, go_sem]; rfl) rfl ?_
  exact ⟨rfl, (by repeat (first | with_reducible assumption | with_reducible exact Bw.refl _ | with_reducible refine Bw.alloc ?_ _ | with_reducible refine Bw.more ?_ _ _ | with_reducible refine Bw.drew ?_ | with_reducible refine Bw.drewN ?_ _ | ((with_reducible refine Bw.set2 ?_ ?_ _); (focus (first | omega | (simp only [szA, szS, szD, szN, plus_size, Array.size_append] <;> omega)))) | with_reducible refine Bw.trans ?_ (by with_reducible assumption)))⟩

set_option maxRecDepth 100000 in
theorem single_r4 (f g b p : Int) (w : World) (h2 : p ≤ -1) : Calls Tryd.prog 25 #[atV f g b, .int .i64 p] w (AtP w (single f g b p)) := by
  have e0 : single f g b p = (f, g, b) := by unfold single; rw [if_neg (by omega)]; rw [if_neg (by omega)]; rw [if_neg (by omega)]; rw [if_neg (by omega)]; rw [if_neg (by omega)]; rw [if_neg (by omega)]; rw [if_neg (by omega)]; rw [if_neg (by omega)]; rw [if_neg (by omega)]; rw [if_neg (by omega)]; rw [if_neg (by omega)]; rw [if_neg (by omega)]; rw [if_neg (by omega)]; all_goals (refine Prod.ext ?_ (Prod.ext ?_ ?_) <;> first | rfl | (dsimp only; omega))
  rw [e0]
  unfold atV
  clear e0
  go_enter Tryd.func25, Tryd.ntmps25
  go_wp2
  refine bodyPost_ret (by simp [results, Tryd.results25, go_sem]; rfl) rfl ?_
  exact ⟨rfl, (by repeat (first | with_reducible assumption | with_reducible exact Bw.refl _ | with_reducible refine Bw.alloc ?_ _ | with_reducible refine Bw.more ?_ _ _ | with_reducible refine Bw.drew ?_ | with_reducible refine Bw.drewN ?_ _ | ((with_reducible refine Bw.set2 ?_ ?_ _); (focus (first | omega | (simp only [szA, szS, szD, szN, plus_size, Array.size_append] <;> omega)))) | with_reducible refine Bw.trans ?_ (by with_reducible assumption)))⟩

set_option maxRecDepth 100000 in
theorem single_r6 (f g b p : Int) (w : World) (h1 : 5 ≤ p) (h2 : p ≤ 6) : Calls Tryd.prog 25 #[atV f g b, .int .i64 p] w (AtP w (single f g b p)) := by
  have e0 : single f g b p = (f, g, b) := by unfold single; rw [if_neg (by omega)]; rw [if_neg (by omega)]; rw [if_neg (by omega)]; rw [if_neg (by omega)]; rw [if_neg (by omega)]; rw [if_neg (by omega)]; rw [if_neg (by omega)]; rw [if_neg (by omega)]; rw [if_neg (by omega)]; rw [if_neg (by omega)]; rw [if_neg (by omega)]; rw [if_neg (by omega)]; rw [if_neg (by omega)]; all_goals (refine Prod.ext ?_ (Prod.ext ?_ ?_) <;> first | rfl | (dsimp only; omega))
  rw [e0]
  unfold atV
  clear e0
  go_enter Tryd.func25, Tryd.ntmps25
  go_wp2
  refine bodyPost_ret (by simp [results, Tryd.results25, go_sem]; rfl) rfl ?_
  exact ⟨rfl, (by repeat (first | with_reducible assumption | with_reducible exact Bw.refl _ | with_reducible refine Bw.alloc ?_ _ | with_reducible refine Bw.more ?_ _ _ | with_reducible refine Bw.drew ?_ | with_reducible refine Bw.drewN ?_ _ | ((with_reducible refine Bw.set2 ?_ ?_ _); (focus (first | omega | (simp only [szA, szS, szD, szN, plus_size, Array.size_append] <;> omega)))) | with_reducible refine Bw.trans ?_ (by with_reducible assumption)))⟩

set_option maxRecDepth 100000 in
theorem single_r8 (f g b p : Int) (w : World) (h1 : 25 ≤ p) (h2 : p ≤ 26) : Calls Tryd.prog 25 #[atV f g b, .int .i64 p] w (AtP w (single f g b p)) := by
  have e0 : single f g b p = (f, g, b) := by unfold single; rw [if_neg (by omega)]; rw [if_neg (by omega)]; rw [if_neg (by omega)]; rw [if_neg (by omega)]; rw [if_neg (by omega)]; rw [if_neg (by omega)]; rw [if_neg (by omega)]; rw [if_neg (by omega)]; rw [if_neg (by omega)]; rw [if_neg (by omega)]; rw [if_neg (by omega)]; rw [if_neg (by omega)]; rw [if_neg (by omega)]; all_goals (refine Prod.ext ?_ (Prod.ext ?_ ?_) <;> first | rfl | (dsimp only; omega))
  rw [e0]
  unfold atV
  clear e0
  go_enter Tryd.func25, Tryd.ntmps25
  go_wp2
  refine bodyPost_ret (by simp [results, Tryd.results25, go_sem]; rfl) rfl ?_
  exact ⟨rfl, (by repeat (first | with_reducible assumption | with_reducible exact Bw.refl _ | with_reducible refine Bw.alloc ?_ _ | with_reducible refine Bw.more ?_ _ _ | with_reducible refine Bw.drew ?_ | with_reducible refine Bw.drewN ?_ _ | ((with_reducible refine Bw.set2 ?_ ?_ _); (focus (first | omega | (simp only [szA, szS, szD, szN, plus_size, Array.size_append] <;> omega)))) | with_reducible refine Bw.trans ?_ (by with_reducible assumption)))⟩

set_option maxRecDepth 100000 in
theorem single_r10 (f g b p : Int) (w : World) (h1 : 50 ≤ p) (h2 : p ≤ 89) : Calls Tryd.prog 25 #[atV f g b, .int .i64 p] w (AtP w (single f g b p)) := by
  have e0 : single f g b p = (f, g, b) := by unfold single; rw [if_neg (by omega)]; rw [if_neg (by omega)]; rw [if_neg (by omega)]; rw [if_neg (by omega)]; rw [if_neg (by omega)]; rw [if_neg (by omega)]; rw [if_neg (by omega)]; rw [if_neg (by omega)]; rw [if_neg (by omega)]; rw [if_neg (by omega)]; rw [if_neg (by omega)]; rw [if_neg (by omega)]; rw [if_neg (by omega)]; all_goals (refine Prod.ext ?_ (Prod.ext ?_ ?_) <;> first | rfl | (dsimp only; omega))
  rw [e0]
  unfold atV
  clear e0
  go_enter Tryd.func25, Tryd.ntmps25
  go_wp2
  refine bodyPost_ret (by simp [results, Tryd.results25, go_sem]; rfl) rfl ?_
  exact ⟨rfl, (by repeat (first | with_reducible assumption | with_reducible exact Bw.refl _ | with_reducible refine Bw.alloc ?_ _ | with_reducible refine Bw.more ?_ _ _ | with_reducible refine Bw.drew ?_ | with_reducible refine Bw.drewN ?_ _ | ((with_reducible refine Bw.set2 ?_ ?_ _); (focus (first | omega | (simp only [szA, szS, szD, szN, plus_size, Array.size_append] <;> omega)))) | with_reducible refine Bw.trans ?_ (by with_reducible assumption)))⟩

set_option maxRecDepth 100000 in
theorem single_r12 (f g b p : Int) (w : World) (h1 : 108 ≤ p) : Calls Tryd.prog 25 #[atV f g b, .int .i64 p] w (AtP w (single f g b p)) := by
  have e0 : single f g b p = (f, g, b) := by unfold single; rw [if_neg (by omega)]; rw [if_neg (by omega)]; rw [if_neg (by omega)]; rw [if_neg (by omega)]; rw [if_neg (by omega)]; rw [if_neg (by omega)]; rw [if_neg (by omega)]; rw [if_neg (by omega)]; rw [if_neg (by omega)]; rw [if_neg (by omega)]; rw [if_neg (by omega)]; rw [if_neg (by omega)]; rw [if_neg (by omega)]; all_goals (refine Prod.ext ?_ (Prod.ext ?_ ?_) <;> first | rfl | (dsimp only; omega))
  rw [e0]
  unfold atV
  clear e0
  go_enter Tryd.func25, Tryd.ntmps25
  go_wp2
  refine bodyPost_ret (by simp [results, Tryd.results25, go_sem]; rfl) rfl ?_
  exact ⟨rfl, (by repeat (first | with_reducible assumption | with_reducible exact Bw.refl _ | with_reducible refine Bw.alloc ?_ _ | with_reducible refine Bw.more ?_ _ _ | with_reducible refine Bw.drew ?_ | with_reducible refine Bw.drewN ?_ _ | ((with_reducible refine Bw.set2 ?_ ?_ _); (focus (first | omega | (simp only [szA, szS, szD, szN, plus_size, Array.size_append] <;> omega)))) | with_reducible refine Bw.trans ?_ (by with_reducible assumption)))⟩

end Go.Proofs.YtacekeobmijipaaDoor
