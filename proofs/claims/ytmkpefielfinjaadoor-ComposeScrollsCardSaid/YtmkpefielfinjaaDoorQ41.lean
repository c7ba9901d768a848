/- Parts of the proof, one after the other. -/
import Derived.Test.YtmkpefielfinjaaDoorQ40
set_option linter.unusedSimpArgs false
set_option linter.unusedVariables false
/- Walk of runes.Encode. -/
namespace Go.Proofs.YtmkpefielfinjaaDoor
open Go.RowKit

def charB (r : Int) : Bool := decide (0 ≤ r ∧ r ≤ 1114111 ∧ ¬ (55296 ≤ r ∧ r ≤ 57343))
/-- The encoding of a character. -/
def encC (r : Int) : List Int :=
  if r ≤ 127 then [r] else if r ≤ 2047 then [192 + r / 64, 128 + r % 64] else if r ≤ 65535 then [224 + r / 64 / 64, 128 + r / 64 % 64, 128 + r % 64] else [240 + r / 64 / 64 / 64, 128 + r / 64 / 64 % 64, 128 + r / 64 % 64, 128 + r % 64]
def encN (r : Int) : List Int := encC (if charB r then r else 65533)

theorem and63 (r : Int) (h0 : 0 ≤ r) (h1 : r ≤ 1114111) : bits .and .i64 r 63 = r % 64 := bits_mask .i64 63 (by decide) wraps_i64 6 (by decide) r h0 (by omega)
theorem or128 (r : Int) : bits .or .i64 128 (r % 64) = 128 + r % 64 := bits_join .i64 63 (by decide) wraps_i64 6 128 _ (by omega) (by omega) (by omega) (by omega) (by omega) (by omega)

end Go.Proofs.YtmkpefielfinjaaDoor

/- Walks of the reference's Character and Encode. -/
namespace Go.Proofs.YtmkpefielfinjaaDoor
open Go.RowKit

theorem char_any (r : Int) (w : World) :
    Calls Tryd.prog 56 #[.int .i64 r] w fun e w' => e = .returned (.bool (charB r)) ∧ w = w' := by
  go_enter Tryd.func56, Tryd.ntmps56
  go_wp2
  all_goals go_ret
  all_goals refine ⟨ret_bool ?_, rfl⟩
  all_goals (rw [Bool.eq_iff_iff]; simp [charB]; omega)

theorem refenc_go (r : Int) (w : World) (hc : charB r = true) :
    Calls Tryd.prog 41 #[.int .i64 r] w fun e w' => ∃ v, e = .returned v ∧ Sl (.int .u8) w' v (encC r) ∧ Bw w w' := by
  have hc' : 0 ≤ r ∧ r ≤ 1114111 ∧ ¬ (55296 ≤ r ∧ r ≤ 57343) := of_decide_eq_true hc
  obtain ⟨c1, c2, c3⟩ := hc'
  have HC := Lib.hid hc
  clear hc c3
  have e0 := and63 r (by omega) (by omega)
  have f0 := or128 r
  have e1 := and63 (r / 64) (by omega) (by omega)
  have f1 := or128 (r / 64)
  have e2 := and63 (r / 4096) (by omega) (by omega)
  have f2 := or128 (r / 4096)
  rcases (show r ≤ 127 ∨ (128 ≤ r ∧ r ≤ 2047) ∨ (2048 ≤ r ∧ r ≤ 65535) ∨ 65536 ≤ r by omega) with h | ⟨h, h'⟩ | ⟨h, h'⟩ | h
  · go_enter Tryd.func41, Tryd.ntmps41
    go_wp2_with (go_at_call 56; refine (char_any _ _).mono ?_; rintro ee ww ⟨rfl, rfl⟩; rw [HC.out])
    go_ret
    refine ⟨_, rfl, Sl.lit _ _ _ _ _ _ ?_ ?_ (by omega) (by omega), BWX⟩
    all_goals (unfold encC; rw [if_pos (by omega)]; rfl)
  · have e7 : bits .or .i64 192 (r / 64) = 192 + r / 64 := bits_join .i64 63 (by decide) wraps_i64 5 192 _ (by omega) (by omega) (by omega) (by omega) (by omega) (by omega)
    go_enter Tryd.func41, Tryd.ntmps41
    go_wp2_with (go_at_call 56; refine (char_any _ _).mono ?_; rintro ee ww ⟨rfl, rfl⟩; rw [HC.out])
    go_ret
    refine ⟨_, rfl, Sl.lit _ _ _ _ _ _ ?_ ?_ (by omega) (by omega), BWX⟩
    all_goals (unfold encC; rw [if_neg (by omega), if_pos (by omega)]; rfl)
  · have e7 : bits .or .i64 224 (r / 4096) = 224 + r / 4096 := bits_join .i64 63 (by decide) wraps_i64 4 224 _ (by omega) (by omega) (by omega) (by omega) (by omega) (by omega)
    have hd : r / 64 / 64 = r / 4096 := by omega
    have HD := Lib.hid hd
    clear hd
    go_enter Tryd.func41, Tryd.ntmps41
    go_wp2_with (go_at_call 56; refine (char_any _ _).mono ?_; rintro ee ww ⟨rfl, rfl⟩; rw [HC.out])
    go_ret
    refine ⟨_, rfl, Sl.lit _ _ _ _ _ _ ?_ ?_ (by omega) (by omega), BWX⟩
    all_goals (unfold encC; rw [if_neg (by omega), if_neg (by omega), if_pos (by omega)]; try rw [HD.out]; try rfl)
  · have e7 : bits .or .i64 240 (r / 262144) = 240 + r / 262144 := bits_join .i64 63 (by decide) wraps_i64 3 240 _ (by omega) (by omega) (by omega) (by omega) (by omega) (by omega)
    have hd : r / 64 / 64 = r / 4096 := by omega
    have hd2 : r / 4096 / 64 = r / 262144 := by omega
    have HD := Lib.hid hd
    have HD2 := Lib.hid hd2
    clear hd hd2
    go_enter Tryd.func41, Tryd.ntmps41
    go_wp2_with (go_at_call 56; refine (char_any _ _).mono ?_; rintro ee ww ⟨rfl, rfl⟩; rw [HC.out])
    go_ret
    refine ⟨_, rfl, Sl.lit _ _ _ _ _ _ ?_ ?_ (by omega) (by omega), BWX⟩
    all_goals (unfold encC; rw [if_neg (by omega), if_neg (by omega), if_neg (by omega)]; try rw [HD.out, HD2.out]; try rfl)

theorem refenc_any (r : Int) (w : World) :
    Calls Tryd.prog 41 #[.int .i64 r] w fun e w' => ∃ v, e = .returned v ∧ Sl (.int .u8) w' v (encN r) ∧ Bw w w' := by
  unfold encN
  cases hc : charB r
  · rw [if_neg (by simp)]
    have HC := Lib.hid hc
    clear hc
    go_enter Tryd.func41, Tryd.ntmps41
    go_wp2_with (go_at_call 56; refine (char_any _ _).mono ?_; rintro ee ww ⟨rfl, rfl⟩; rw [HC.out])
    go_ret
    exact ⟨_, rfl, Sl.lit _ _ _ _ _ _ rfl rfl (by omega) (by omega), BWX⟩
  · rw [if_pos rfl]
    exact refenc_go r w hc
end Go.Proofs.YtmkpefielfinjaaDoor

/- Walks of the reference's size, and of its number at a known length. -/
namespace Go.Proofs.YtmkpefielfinjaaDoor
open Go.RowKit

end Go.Proofs.YtmkpefielfinjaaDoor
