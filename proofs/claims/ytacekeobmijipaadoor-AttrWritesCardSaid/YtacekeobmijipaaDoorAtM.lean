/- Attributes: one parameter in the reference. -/
import Derived.Test.YtacekeobmijipaaDoorAtK
set_option linter.unusedSimpArgs false
set_option linter.unusedVariables false
namespace Go.Proofs.YtacekeobmijipaaDoor
open Go.RowKit

/-- What the reference makes of one parameter. -/
def oneR (f g b p : Int) : Int × Int × Int :=
  if p = 0 then (0, 0, 0) else if p = 1 then (bits .or .i64 (bits .andNot .i64 f 1) 1, g, b) else if p = 4 then (bits .or .i64 (bits .andNot .i64 f 2) 2, g, b) else if p = 7 then (bits .or .i64 (bits .andNot .i64 f 4) 4, g, b)
  else if p = 22 then (bits .andNot .i64 f 1, g, b) else if p = 24 then (bits .andNot .i64 f 2, g, b) else if p = 27 then (bits .andNot .i64 f 4, g, b)
  else (f, if 0 ≤ colR p 30 then colR p 30 else g, if 0 ≤ colR p 40 then colR p 40 else b)
def OneP (f g b p : Int) (w : World) : Prop := Calls Tryd.prog 27 #[atV f g b, .int .i64 p] w (AtP w (oneR f g b p))
theorem one_0 (f g b : Int) (w : World) : OneP f g b 0 w := by
  unfold OneP
  rw [show oneR f g b 0 = (0, 0, 0) from rfl]
  unfold atV
  go_enter Tryd.func27, Tryd.ntmps27
  go_wp2
  refine bodyPost_ret (by simp [results, Tryd.results27, go_sem]; rfl) rfl ?_
  exact ⟨rfl, (by repeat (first | with_reducible assumption | with_reducible exact Bw.refl _ | with_reducible refine Bw.alloc ?_ _ | with_reducible refine Bw.more ?_ _ _ | with_reducible refine Bw.drew ?_ | with_reducible refine Bw.drewN ?_ _ | ((with_reducible refine Bw.set2 ?_ ?_ _); (focus (first | omega | (simp only [szA, szS, szD, szN, plus_size, Array.size_append] <;> omega)))) | with_reducible refine Bw.trans ?_ (by with_reducible assumption)))⟩
theorem one_1 (f g b : Int) (w : World) : OneP f g b 1 w := by
  unfold OneP
  rw [show oneR f g b 1 = (bits .or .i64 (bits .andNot .i64 f 1) 1, g, b) from rfl]
  unfold atV
  go_enter Tryd.func27, Tryd.ntmps27
  go_wp2_with (first | (go_at_call 29; refine (flag_on f g b 1 _).mono ?_; rintro ee ww ⟨rfl, hb1⟩; (first | obtain ⟨L1, d1, rfl⟩ := Bw.isPlus (Bw.un hb1) | obtain ⟨L1, d1, rfl⟩ := Bw.isPlus hb1); clear hb1; dsimp only [at3, atV]) | fail)
  refine bodyPost_ret (by simp [results, Tryd.results27, go_sem]; rfl) rfl ?_
  exact ⟨rfl, (by repeat (first | with_reducible assumption | with_reducible exact Bw.refl _ | with_reducible refine Bw.alloc ?_ _ | with_reducible refine Bw.more ?_ _ _ | with_reducible refine Bw.drew ?_ | with_reducible refine Bw.drewN ?_ _ | ((with_reducible refine Bw.set2 ?_ ?_ _); (focus (first | omega | (simp only [szA, szS, szD, szN, plus_size, Array.size_append] <;> omega)))) | with_reducible refine Bw.trans ?_ (by with_reducible assumption)))⟩
theorem one_4 (f g b : Int) (w : World) : OneP f g b 4 w := by
  unfold OneP
  rw [show oneR f g b 4 = (bits .or .i64 (bits .andNot .i64 f 2) 2, g, b) from rfl]
  unfold atV
  go_enter Tryd.func27, Tryd.ntmps27
  go_wp2_with (first | (go_at_call 29; refine (flag_on f g b 2 _).mono ?_; rintro ee ww ⟨rfl, hb1⟩; (first | obtain ⟨L1, d1, rfl⟩ := Bw.isPlus (Bw.un hb1) | obtain ⟨L1, d1, rfl⟩ := Bw.isPlus hb1); clear hb1; dsimp only [at3, atV]) | fail)
  refine bodyPost_ret (by simp [results, Tryd.results27, go_sem]; rfl) rfl ?_
  exact ⟨rfl, (by repeat (first | with_reducible assumption | with_reducible exact Bw.refl _ | with_reducible refine Bw.alloc ?_ _ | with_reducible refine Bw.more ?_ _ _ | with_reducible refine Bw.drew ?_ | with_reducible refine Bw.drewN ?_ _ | ((with_reducible refine Bw.set2 ?_ ?_ _); (focus (first | omega | (simp only [szA, szS, szD, szN, plus_size, Array.size_append] <;> omega)))) | with_reducible refine Bw.trans ?_ (by with_reducible assumption)))⟩
theorem one_7 (f g b : Int) (w : World) : OneP f g b 7 w := by
  unfold OneP
  rw [show oneR f g b 7 = (bits .or .i64 (bits .andNot .i64 f 4) 4, g, b) from rfl]
  unfold atV
  go_enter Tryd.func27, Tryd.ntmps27
  go_wp2_with (first | (go_at_call 29; refine (flag_on f g b 4 _).mono ?_; rintro ee ww ⟨rfl, hb1⟩; (first | obtain ⟨L1, d1, rfl⟩ := Bw.isPlus (Bw.un hb1) | obtain ⟨L1, d1, rfl⟩ := Bw.isPlus hb1); clear hb1; dsimp only [at3, atV]) | fail)
  refine bodyPost_ret (by simp [results, Tryd.results27, go_sem]; rfl) rfl ?_
  exact ⟨rfl, (by repeat (first | with_reducible assumption | with_reducible exact Bw.refl _ | with_reducible refine Bw.alloc ?_ _ | with_reducible refine Bw.more ?_ _ _ | with_reducible refine Bw.drew ?_ | with_reducible refine Bw.drewN ?_ _ | ((with_reducible refine Bw.set2 ?_ ?_ _); (focus (first | omega | (simp only [szA, szS, szD, szN, plus_size, Array.size_append] <;> omega)))) | with_reducible refine Bw.trans ?_ (by with_reducible assumption)))⟩
theorem one_22 (f g b : Int) (w : World) : OneP f g b 22 w := by
  unfold OneP
  rw [show oneR f g b 22 = (bits .andNot .i64 f 1, g, b) from rfl]
  unfold atV
  go_enter Tryd.func27, Tryd.ntmps27
  go_wp2_with (first | (go_at_call 29; refine (flag_off f g b 1 _).mono ?_; rintro ee ww ⟨rfl, hb1⟩; (first | obtain ⟨L1, d1, rfl⟩ := Bw.isPlus (Bw.un hb1) | obtain ⟨L1, d1, rfl⟩ := Bw.isPlus hb1); clear hb1; dsimp only [at3, atV]) | fail)
  refine bodyPost_ret (by simp [results, Tryd.results27, go_sem]; rfl) rfl ?_
  exact ⟨rfl, (by repeat (first | with_reducible assumption | with_reducible exact Bw.refl _ | with_reducible refine Bw.alloc ?_ _ | with_reducible refine Bw.more ?_ _ _ | with_reducible refine Bw.drew ?_ | with_reducible refine Bw.drewN ?_ _ | ((with_reducible refine Bw.set2 ?_ ?_ _); (focus (first | omega | (simp only [szA, szS, szD, szN, plus_size, Array.size_append] <;> omega)))) | with_reducible refine Bw.trans ?_ (by with_reducible assumption)))⟩
theorem one_24 (f g b : Int) (w : World) : OneP f g b 24 w := by
  unfold OneP
  rw [show oneR f g b 24 = (bits .andNot .i64 f 2, g, b) from rfl]
  unfold atV
  go_enter Tryd.func27, Tryd.ntmps27
  go_wp2_with (first | (go_at_call 29; refine (flag_off f g b 2 _).mono ?_; rintro ee ww ⟨rfl, hb1⟩; (first | obtain ⟨L1, d1, rfl⟩ := Bw.isPlus (Bw.un hb1) | obtain ⟨L1, d1, rfl⟩ := Bw.isPlus hb1); clear hb1; dsimp only [at3, atV]) | fail)
  refine bodyPost_ret (by simp [results, Tryd.results27, go_sem]; rfl) rfl ?_
  exact ⟨rfl, (by repeat (first | with_reducible assumption | with_reducible exact Bw.refl _ | with_reducible refine Bw.alloc ?_ _ | with_reducible refine Bw.more ?_ _ _ | with_reducible refine Bw.drew ?_ | with_reducible refine Bw.drewN ?_ _ | ((with_reducible refine Bw.set2 ?_ ?_ _); (focus (first | omega | (simp only [szA, szS, szD, szN, plus_size, Array.size_append] <;> omega)))) | with_reducible refine Bw.trans ?_ (by with_reducible assumption)))⟩
theorem one_27 (f g b : Int) (w : World) : OneP f g b 27 w := by
  unfold OneP
  rw [show oneR f g b 27 = (bits .andNot .i64 f 4, g, b) from rfl]
  unfold atV
  go_enter Tryd.func27, Tryd.ntmps27
  go_wp2_with (first | (go_at_call 29; refine (flag_off f g b 4 _).mono ?_; rintro ee ww ⟨rfl, hb1⟩; (first | obtain ⟨L1, d1, rfl⟩ := Bw.isPlus (Bw.un hb1) | obtain ⟨L1, d1, rfl⟩ := Bw.isPlus hb1); clear hb1; dsimp only [at3, atV]) | fail)
  refine bodyPost_ret (by simp [results, Tryd.results27, go_sem]; rfl) rfl ?_
  exact ⟨rfl, (by repeat (first | with_reducible assumption | with_reducible exact Bw.refl _ | with_reducible refine Bw.alloc ?_ _ | with_reducible refine Bw.more ?_ _ _ | with_reducible refine Bw.drew ?_ | with_reducible refine Bw.drewN ?_ _ | ((with_reducible refine Bw.set2 ?_ ?_ _); (focus (first | omega | (simp only [szA, szS, szD, szN, plus_size, Array.size_append] <;> omega)))) | with_reducible refine Bw.trans ?_ (by with_reducible assumption)))⟩
set_option maxHeartbeats 2000000 in
theorem one_else (f g b p : Int) (w : World) (h0 : p ≠ 0) (h1 : p ≠ 1) (h4 : p ≠ 4) (h7 : p ≠ 7) (h22 : p ≠ 22) (h24 : p ≠ 24) (h27 : p ≠ 27) : OneP f g b p w := by
  unfold OneP
  have HE := Lib.hid (show oneR f g b p = (f, if 0 ≤ colR p 30 then colR p 30 else g, if 0 ≤ colR p 40 then colR p 40 else b) by unfold oneR; rw [if_neg h0, if_neg h1, if_neg h4, if_neg h7, if_neg h22, if_neg h24, if_neg h27])
  obtain ⟨c1, hc1⟩ : ∃ c1, colR p 30 = c1 := ⟨_, rfl⟩
  obtain ⟨c2, hc2⟩ : ∃ c2, colR p 40 = c2 := ⟨_, rfl⟩
  rw [hc1, hc2] at HE
  have H1 := Lib.hid hc1
  have H2 := Lib.hid hc2
  clear hc1 hc2
  rw [HE.out]
  clear HE
  unfold atV
  by_cases g1 : 0 ≤ c1
  · by_cases g2 : 0 ≤ c2
    · rw [if_pos g1, if_pos g2]
      go_enter Tryd.func27, Tryd.ntmps27
      go_wp2_with (first | (go_at_call 30; refine (color_any p _ _ (by omega) (by omega)).mono ?_; rintro ee ww ⟨rfl, rfl⟩; (first | rw [H1.out] | rw [H2.out])) | fail)
      refine bodyPost_ret (by simp [results, Tryd.results27, go_sem]; rfl) rfl ?_
      exact ⟨rfl, (by repeat (first | with_reducible assumption | with_reducible exact Bw.refl _ | with_reducible refine Bw.alloc ?_ _ | with_reducible refine Bw.more ?_ _ _ | with_reducible refine Bw.drew ?_ | with_reducible refine Bw.drewN ?_ _ | ((with_reducible refine Bw.set2 ?_ ?_ _); (focus (first | omega | (simp only [szA, szS, szD, szN, plus_size, Array.size_append] <;> omega)))) | with_reducible refine Bw.trans ?_ (by with_reducible assumption)))⟩
    · rw [if_pos g1, if_neg g2]
      go_enter Tryd.func27, Tryd.ntmps27
      go_wp2_with (first | (go_at_call 30; refine (color_any p _ _ (by omega) (by omega)).mono ?_; rintro ee ww ⟨rfl, rfl⟩; (first | rw [H1.out] | rw [H2.out])) | fail)
      refine bodyPost_ret (by simp [results, Tryd.results27, go_sem]; rfl) rfl ?_
      exact ⟨rfl, (by repeat (first | with_reducible assumption | with_reducible exact Bw.refl _ | with_reducible refine Bw.alloc ?_ _ | with_reducible refine Bw.more ?_ _ _ | with_reducible refine Bw.drew ?_ | with_reducible refine Bw.drewN ?_ _ | ((with_reducible refine Bw.set2 ?_ ?_ _); (focus (first | omega | (simp only [szA, szS, szD, szN, plus_size, Array.size_append] <;> omega)))) | with_reducible refine Bw.trans ?_ (by with_reducible assumption)))⟩
  · by_cases g2 : 0 ≤ c2
    · rw [if_neg g1, if_pos g2]
      go_enter Tryd.func27, Tryd.ntmps27
      go_wp2_with (first | (go_at_call 30; refine (color_any p _ _ (by omega) (by omega)).mono ?_; rintro ee ww ⟨rfl, rfl⟩; (first | rw [H1.out] | rw [H2.out])) | fail)
      refine bodyPost_ret (by simp [results, Tryd.results27, go_sem]; rfl) rfl ?_
      exact ⟨rfl, (by repeat (first | with_reducible assumption | with_reducible exact Bw.refl _ | with_reducible refine Bw.alloc ?_ _ | with_reducible refine Bw.more ?_ _ _ | with_reducible refine Bw.drew ?_ | with_reducible refine Bw.drewN ?_ _ | ((with_reducible refine Bw.set2 ?_ ?_ _); (focus (first | omega | (simp only [szA, szS, szD, szN, plus_size, Array.size_append] <;> omega)))) | with_reducible refine Bw.trans ?_ (by with_reducible assumption)))⟩
    · rw [if_neg g1, if_neg g2]
      go_enter Tryd.func27, Tryd.ntmps27
      go_wp2_with (first | (go_at_call 30; refine (color_any p _ _ (by omega) (by omega)).mono ?_; rintro ee ww ⟨rfl, rfl⟩; (first | rw [H1.out] | rw [H2.out])) | fail)
      refine bodyPost_ret (by simp [results, Tryd.results27, go_sem]; rfl) rfl ?_
      exact ⟨rfl, (by repeat (first | with_reducible assumption | with_reducible exact Bw.refl _ | with_reducible refine Bw.alloc ?_ _ | with_reducible refine Bw.more ?_ _ _ | with_reducible refine Bw.drew ?_ | with_reducible refine Bw.drewN ?_ _ | ((with_reducible refine Bw.set2 ?_ ?_ _); (focus (first | omega | (simp only [szA, szS, szD, szN, plus_size, Array.size_append] <;> omega)))) | with_reducible refine Bw.trans ?_ (by with_reducible assumption)))⟩
theorem one_any (f g b p : Int) (w : World) : OneP f g b p w := by
  by_cases h0 : p = 0
  · subst h0; exact one_0 f g b w
  by_cases h1 : p = 1
  · subst h1; exact one_1 f g b w
  by_cases h4 : p = 4
  · subst h4; exact one_4 f g b w
  by_cases h7 : p = 7
  · subst h7; exact one_7 f g b w
  by_cases h22 : p = 22
  · subst h22; exact one_22 f g b w
  by_cases h24 : p = 24
  · subst h24; exact one_24 f g b w
  by_cases h27 : p = 27
  · subst h27; exact one_27 f g b w
  exact one_else f g b p w h0 h1 h4 h7 h22 h24 h27
end Go.Proofs.YtacekeobmijipaaDoor
