/- Attributes: the reference's decimal. -/
import Derived.Test.YtacekeobmijipaaDoorAtK
import Derived.Test.YtacekeobmijipaaDoorAtH
set_option linter.unusedSimpArgs false
set_option linter.unusedVariables false
namespace Go.Proofs.YtacekeobmijipaaDoor
open Go.RowKit

def DecP (w : World) (N : Nat) (xs : List Value) (e : Ending) (w' : World) : Prop := ∃ v, e = .returned v ∧ w'.ownsRow w.heap.size 5 1 v N xs ∧ Bw w w'
theorem dec1 (n : Int) (w : World) (h0 : 0 ≤ n) (h1 : n < 10) : Calls Tryd.prog 22 #[.int .i64 n] w (DecP w 1 [.int .u8 (48 + n)]) := by
  go_enter Tryd.func22, Tryd.ntmps22
  go_wp2_with (fail)
  go_ret
  exact ⟨_, rfl, own_lit (cs := #[.int .u8 (48 + n)]) rfl (Nat.le_refl _) (by unfold maxLen; omega) rfl rfl, (by repeat (first | with_reducible assumption | with_reducible exact Bw.refl _ | with_reducible refine Bw.alloc ?_ _ | with_reducible refine Bw.more ?_ _ _ | with_reducible refine Bw.drew ?_ | with_reducible refine Bw.drewN ?_ _ | ((with_reducible refine Bw.set2 ?_ ?_ _); (focus (first | omega | (simp only [szA, szS, szD, szN, plus_size, Array.size_append] <;> omega)))) | with_reducible refine Bw.trans ?_ (by with_reducible assumption)))⟩
theorem dec2 (n : Int) (w : World) (h0 : 10 ≤ n) (h1 : n < 100) : Calls Tryd.prog 22 #[.int .i64 n] w (DecP w 2 [.int .u8 (48 + n / 10), .int .u8 (48 + n % 10)]) := by
  obtain ⟨i0, hi, hz0, hz1, hz2⟩ := info_parts infoB
  go_enter Tryd.func22, Tryd.ntmps22
  go_wp2_with (first
    | (go_at_call 22; refine (dec1 (n / 10) _ (by omega) (by omega)).mono ?_; rintro e w1 ⟨v1, rfl, hown1, hb1⟩; obtain ⟨A1, c1, rfl, hc1, hc1m⟩ := own_form hown1; have HO := Lib.hid hown1; clear hown1)
    | (at_builtin; refine wpList_append_srcG (by rfl) (.tmp 11) (.tmp 16) 27 rfl w.heap.size 5 i0 (.int .u8 0) 1 1 Tryd.underlying27 hi hz0 hz1 hz2 rfl (by decide) (.slice A1 1 c1) 1 _ (by rfl) (HO.out.alloc _) (some ⟨_, 0, none⟩) 1 1 [.int .u8 (48 + n % 10)] (by rfl) rfl (fun e => by cases e) (fun ad e => by cases e; exact cell_one_new _ _ _) (by simp; rfl) (by unfold maxLen; omega) (by omega) (by have := hb1.size; simp; omega) ?_; intro v3 w3 hown3 hg3; have hbw3 : Bw w w3 := Bw.row (Bw.alloc hb1 _) (HO.out.alloc _) hg3 (Nat.le_refl _))
    | fail)
  go_ret
  exact ⟨_, rfl, hown3, hbw3⟩
theorem dec3 (n : Int) (w : World) (h0 : 100 ≤ n) (h1 : n < 1000) : Calls Tryd.prog 22 #[.int .i64 n] w (DecP w 3 [.int .u8 (48 + n / 10 / 10), .int .u8 (48 + n / 10 % 10), .int .u8 (48 + n % 10)]) := by
  obtain ⟨i0, hi, hz0, hz1, hz2⟩ := info_parts infoB
  go_enter Tryd.func22, Tryd.ntmps22
  go_wp2_with (first
    | (go_at_call 22; refine (dec2 (n / 10) _ (by omega) (by omega)).mono ?_; rintro e w1 ⟨v1, rfl, hown1, hb1⟩; obtain ⟨A1, c1, rfl, hc1, hc1m⟩ := own_form hown1; have HO := Lib.hid hown1; clear hown1)
    | (at_builtin; refine wpList_append_srcG (by rfl) (.tmp 11) (.tmp 16) 27 rfl w.heap.size 5 i0 (.int .u8 0) 1 1 Tryd.underlying27 hi hz0 hz1 hz2 rfl (by decide) (.slice A1 2 c1) 2 _ (by rfl) (HO.out.alloc _) (some ⟨_, 0, none⟩) 1 1 [.int .u8 (48 + n % 10)] (by rfl) rfl (fun e => by cases e) (fun ad e => by cases e; exact cell_one_new _ _ _) (by simp; rfl) (by unfold maxLen; omega) (by omega) (by have := hb1.size; simp; omega) ?_; intro v3 w3 hown3 hg3; have hbw3 : Bw w w3 := Bw.row (Bw.alloc hb1 _) (HO.out.alloc _) hg3 (Nat.le_refl _))
    | fail)
  go_ret
  exact ⟨_, rfl, hown3, hbw3⟩
/-- What decimal writes, behind a semicolon, is what AppendInt writes. -/
theorem dec_any (n : Int) (w : World) (h0 : 0 ≤ n) (h1 : n < 1000) : Calls Tryd.prog 22 #[.int .i64 n] w fun e w' => ∃ (v : Value) (D : List Int), e = .returned v ∧ wr1 n = 59 :: D ∧ D.length ≤ 3 ∧ w'.ownsRow w.heap.size 5 1 v D.length (D.map (.int .u8)) ∧ Bw w w' := by
  rcases (show n < 10 ∨ (10 ≤ n ∧ n < 100) ∨ 100 ≤ n by omega) with h | ⟨h, h2⟩ | h
  · refine (dec1 n w h0 h).mono ?_
    rintro e w' ⟨v, rfl, h3, h4⟩
    exact ⟨v, [48 + n], rfl, dig1 n h0 h, by simp, h3, h4⟩
  · refine (dec2 n w h h2).mono ?_
    rintro e w' ⟨v, rfl, h3, h4⟩
    exact ⟨v, [48 + n / 10, 48 + n % 10], rfl, dig2 n h h2, by simp, h3, h4⟩
  · refine (dec3 n w h h1).mono ?_
    rintro e w' ⟨v, rfl, h3, h4⟩
    rw [show n / 10 / 10 = n / 100 by omega] at h3
    exact ⟨v, [48 + n / 100, 48 + n / 10 % 10, 48 + n % 10], rfl, dig3 n h h1, by simp, h3, h4⟩
end Go.Proofs.YtacekeobmijipaaDoor
