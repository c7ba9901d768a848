/- Attributes: the reference's small functions. -/
import Derived.Test.YtacekeobmijipaaDoorAtD
set_option linter.unusedSimpArgs false
set_option linter.unusedVariables false
namespace Go.Proofs.YtacekeobmijipaaDoor
open Go.RowKit

theorem rin_yes (n lo hi : Int) (w : World) (h : lo ≤ n ∧ n ≤ hi) : Calls Tryd.prog 24 #[.int .i64 n, .int .i64 lo, .int .i64 hi] w fun e w' => e = .returned (.bool true) ∧ w = w' := by
  obtain ⟨h1, h2⟩ := h
  go_enter Tryd.func24, Tryd.ntmps24
  go_wp2
  go_ret
  exact ⟨by first | rfl | (refine ret_bool ?_; simp; done) | (refine ret_bool ?_; simp; omega), rfl⟩
theorem rin_no (n lo hi : Int) (w : World) (h : n < lo ∨ hi < n) : Calls Tryd.prog 24 #[.int .i64 n, .int .i64 lo, .int .i64 hi] w fun e w' => e = .returned (.bool false) ∧ w = w' := by
  by_cases h1 : n < lo
  · clear h
    go_enter Tryd.func24, Tryd.ntmps24
    go_wp2
    go_ret
    exact ⟨by first | rfl | (refine ret_bool ?_; simp; done) | (refine ret_bool ?_; simp; omega), rfl⟩
  · have h2 : hi < n := by omega
    have h3 : lo ≤ n := by omega
    clear h h1
    go_enter Tryd.func24, Tryd.ntmps24
    go_wp2
    go_ret
    exact ⟨by first | rfl | (refine ret_bool ?_; simp; done) | (refine ret_bool ?_; simp; omega), rfl⟩
theorem rvalid_any (f g b : Int) (w : World) : Calls Tryd.prog 15 #[atV f g b] w fun e w' => e = .returned (.bool (avB f g b)) ∧ Bw w w' := by
  by_cases hf : 0 ≤ f ∧ f ≤ 7
  · by_cases hg : 0 ≤ g ∧ g ≤ 16
    · by_cases hb : 0 ≤ b ∧ b ≤ 16
      · have HE := Lib.hid (show avB f g b = true from decide_eq_true (by omega))
        have HF := Lib.hid hf
        have HG := Lib.hid hg
        have HB := Lib.hid hb
        clear hf hg hb
        unfold atV
        go_enter Tryd.func15, Tryd.ntmps15
        go_wp2_with (first | (go_at_call 24; refine (rin_yes _ _ _ _ (by first | exact HF.out | exact HG.out | exact HB.out)).mono ?_; rintro ee ww ⟨rfl, rfl⟩) | fail)
        go_ret
        exact ⟨by rw [HE.out]; first | rfl | (refine ret_bool ?_; simp; done), (by repeat (first | with_reducible assumption | with_reducible exact Bw.refl _ | with_reducible refine Bw.alloc ?_ _ | with_reducible refine Bw.more ?_ _ _ | with_reducible refine Bw.drew ?_ | with_reducible refine Bw.drewN ?_ _ | ((with_reducible refine Bw.set2 ?_ ?_ _); (focus (first | omega | (simp only [szA, szS, szD, szN, plus_size, Array.size_append] <;> omega)))) | with_reducible refine Bw.trans ?_ (by with_reducible assumption)))⟩
      · have HE := Lib.hid (show avB f g b = false from decide_eq_false (by omega))
        have HF := Lib.hid hf
        have HG := Lib.hid hg
        have HB := Lib.hid (show b < 0 ∨ 16 < b by omega)
        clear hf hg hb
        unfold atV
        go_enter Tryd.func15, Tryd.ntmps15
        go_wp2_with (first | (go_at_call 24; refine (rin_yes _ _ _ _ (by first | exact HF.out | exact HG.out)).mono ?_; rintro ee ww ⟨rfl, rfl⟩) | (go_at_call 24; refine (rin_no _ _ _ _ (by exact HB.out)).mono ?_; rintro ee ww ⟨rfl, rfl⟩) | fail)
        go_ret
        exact ⟨by rw [HE.out]; first | rfl | (refine ret_bool ?_; simp; done), (by repeat (first | with_reducible assumption | with_reducible exact Bw.refl _ | with_reducible refine Bw.alloc ?_ _ | with_reducible refine Bw.more ?_ _ _ | with_reducible refine Bw.drew ?_ | with_reducible refine Bw.drewN ?_ _ | ((with_reducible refine Bw.set2 ?_ ?_ _); (focus (first | omega | (simp only [szA, szS, szD, szN, plus_size, Array.size_append] <;> omega)))) | with_reducible refine Bw.trans ?_ (by with_reducible assumption)))⟩
    · have HE := Lib.hid (show avB f g b = false from decide_eq_false (by omega))
      have HF := Lib.hid hf
      have HG := Lib.hid (show g < 0 ∨ 16 < g by omega)
      clear hf hg
      unfold atV
      go_enter Tryd.func15, Tryd.ntmps15
      go_wp2_with (first | (go_at_call 24; refine (rin_yes _ _ _ _ (by exact HF.out)).mono ?_; rintro ee ww ⟨rfl, rfl⟩) | (go_at_call 24; refine (rin_no _ _ _ _ (by exact HG.out)).mono ?_; rintro ee ww ⟨rfl, rfl⟩) | fail)
      go_ret
      exact ⟨by rw [HE.out]; first | rfl | (refine ret_bool ?_; simp; done), (by repeat (first | with_reducible assumption | with_reducible exact Bw.refl _ | with_reducible refine Bw.alloc ?_ _ | with_reducible refine Bw.more ?_ _ _ | with_reducible refine Bw.drew ?_ | with_reducible refine Bw.drewN ?_ _ | ((with_reducible refine Bw.set2 ?_ ?_ _); (focus (first | omega | (simp only [szA, szS, szD, szN, plus_size, Array.size_append] <;> omega)))) | with_reducible refine Bw.trans ?_ (by with_reducible assumption)))⟩
  · have HE := Lib.hid (show avB f g b = false from decide_eq_false (by omega))
    have HF := Lib.hid (show f < 0 ∨ 7 < f by omega)
    clear hf
    unfold atV
    go_enter Tryd.func15, Tryd.ntmps15
    go_wp2_with (first | (go_at_call 24; refine (rin_no _ _ _ _ (by exact HF.out)).mono ?_; rintro ee ww ⟨rfl, rfl⟩) | fail)
    go_ret
    exact ⟨by rw [HE.out]; first | rfl | (refine ret_bool ?_; simp; done), (by repeat (first | with_reducible assumption | with_reducible exact Bw.refl _ | with_reducible refine Bw.alloc ?_ _ | with_reducible refine Bw.more ?_ _ _ | with_reducible refine Bw.drew ?_ | with_reducible refine Bw.drewN ?_ _ | ((with_reducible refine Bw.set2 ?_ ?_ _); (focus (first | omega | (simp only [szA, szS, szD, szN, plus_size, Array.size_append] <;> omega)))) | with_reducible refine Bw.trans ?_ (by with_reducible assumption)))⟩
/-- The color that a parameter means, -1 for none. -/
def colR (p base : Int) : Int := if base ≤ p ∧ p ≤ base + 7 then p - base + 1 else if base + 60 ≤ p ∧ p ≤ base + 67 then p - base - 60 + 9 else if p = base + 9 then 0 else -1
theorem color_any (p base : Int) (w : World) (hb0 : 0 ≤ base) (hb1 : base ≤ 1000) : Calls Tryd.prog 30 #[.int .i64 p, .int .i64 base] w fun e w' => e = .returned (.int .i64 (colR p base)) ∧ w = w' := by
  by_cases h1 : base ≤ p ∧ p ≤ base + 7
  · have HE := Lib.hid (show colR p base = p - base + 1 from if_pos h1)
    obtain ⟨h2, h3⟩ := h1
    go_enter Tryd.func30, Tryd.ntmps30
    go_wp2_with (first | (go_at_call 24; refine (rin_yes _ _ _ _ (by constructor <;> omega)).mono ?_; rintro ee ww ⟨rfl, rfl⟩) | fail)
    go_ret
    exact ⟨by rw [HE.out]; rfl, rfl⟩
  · by_cases h2 : base + 60 ≤ p ∧ p ≤ base + 67
    · have HE := Lib.hid (show colR p base = p - base - 60 + 9 by unfold colR; rw [if_neg h1, if_pos h2])
      obtain ⟨h3, h4⟩ := h2
      have H1 := Lib.hid (show p < base ∨ base + 7 < p by omega)
      clear h1
      go_enter Tryd.func30, Tryd.ntmps30
      go_wp2_with (first | (go_at_call 24; refine (rin_no _ _ _ _ (by exact H1.out)).mono ?_; rintro ee ww ⟨rfl, rfl⟩) | (go_at_call 24; refine (rin_yes _ _ _ _ (by constructor <;> omega)).mono ?_; rintro ee ww ⟨rfl, rfl⟩) | fail)
      go_ret
      exact ⟨by rw [HE.out]; rfl, rfl⟩
    · have H1 := Lib.hid (show p < base ∨ base + 7 < p by omega)
      have H2 := Lib.hid (show p < base + 60 ∨ base + 67 < p by omega)
      by_cases h3 : p = base + 9
      · have HE := Lib.hid (show colR p base = 0 by unfold colR; rw [if_neg h1, if_neg h2, if_pos h3])
        subst h3
        clear h1 h2
        go_enter Tryd.func30, Tryd.ntmps30
        go_wp2_with (first | (go_at_call 24; refine (rin_no _ _ _ _ (by first | exact H1.out | exact H2.out)).mono ?_; rintro ee ww ⟨rfl, rfl⟩) | fail)
        go_ret
        exact ⟨by rw [HE.out]; rfl, rfl⟩
      · have HE := Lib.hid (show colR p base = -1 by unfold colR; rw [if_neg h1, if_neg h2, if_neg h3])
        clear h1 h2
        go_enter Tryd.func30, Tryd.ntmps30
        go_wp2_with (first | (go_at_call 24; refine (rin_no _ _ _ _ (by first | exact H1.out | exact H2.out)).mono ?_; rintro ee ww ⟨rfl, rfl⟩) | fail)
        go_ret
        exact ⟨by rw [HE.out]; rfl, rfl⟩
theorem flag_on (f g b x : Int) (w : World) : Calls Tryd.prog 29 #[atV f g b, .int .i64 x, .bool true] w (AtP w (bits .or .i64 (bits .andNot .i64 f x) x, g, b)) := by
  unfold atV
  go_enter Tryd.func29, Tryd.ntmps29
  go_wp2
  refine bodyPost_ret (by simp [results, Tryd.results29, go_sem]; rfl) rfl ?_
  exact ⟨rfl, (by repeat (first | with_reducible assumption | with_reducible exact Bw.refl _ | with_reducible refine Bw.alloc ?_ _ | with_reducible refine Bw.more ?_ _ _ | with_reducible refine Bw.drew ?_ | with_reducible refine Bw.drewN ?_ _ | ((with_reducible refine Bw.set2 ?_ ?_ _); (focus (first | omega | (simp only [szA, szS, szD, szN, plus_size, Array.size_append] <;> omega)))) | with_reducible refine Bw.trans ?_ (by with_reducible assumption)))⟩
theorem flag_off (f g b x : Int) (w : World) : Calls Tryd.prog 29 #[atV f g b, .int .i64 x, .bool false] w (AtP w (bits .andNot .i64 f x, g, b)) := by
  unfold atV
  go_enter Tryd.func29, Tryd.ntmps29
  go_wp2
  refine bodyPost_ret (by simp [results, Tryd.results29, go_sem]; rfl) rfl ?_
  exact ⟨rfl, (by repeat (first | with_reducible assumption | with_reducible exact Bw.refl _ | with_reducible refine Bw.alloc ?_ _ | with_reducible refine Bw.more ?_ _ _ | with_reducible refine Bw.drew ?_ | with_reducible refine Bw.drewN ?_ _ | ((with_reducible refine Bw.set2 ?_ ?_ _); (focus (first | omega | (simp only [szA, szS, szD, szN, plus_size, Array.size_append] <;> omega)))) | with_reducible refine Bw.trans ?_ (by with_reducible assumption)))⟩
theorem code_any (c base : Int) (w : World) (h0 : 0 ≤ c) (h1 : c ≤ 100) (hb0 : 0 ≤ base) (hb1 : base ≤ 1000) : Calls Tryd.prog 23 #[.int .i64 c, .int .i64 base] w fun e w' => e = .returned (.int .i64 (if 8 < c then base + 60 + c - 9 else base + c - 1)) ∧ w = w' := by
  by_cases hc : 8 < c
  · rw [if_pos hc]
    go_enter Tryd.func23, Tryd.ntmps23
    go_wp2
    go_ret
    exact ⟨rfl, rfl⟩
  · rw [if_neg hc]
    go_enter Tryd.func23, Tryd.ntmps23
    go_wp2
    go_ret
    exact ⟨rfl, rfl⟩
end Go.Proofs.YtacekeobmijipaaDoor
