/- runes.Decode whole, and runes.Flush. -/
import Derived.Test.YtagihjchhpiipaaRunG
set_option linter.unusedSimpArgs false
set_option linter.unusedVariables false
namespace Go.Proofs.Ytagihjchhpiipaa
open Go.RowKit

def restB (r0 : List Int) : List Int := if validB r0 then r0 else []
theorem decode_any (A B : Option Addr) (n cap m capB : Nat) (r0 bs : List Int) (w : World) (hr : Rd (.int .u8) w A n r0) (hn : n ≤ cap) (hc : cap ≤ 9223372036854775807) (hb : Rd (.int .u8) w B m bs) (hm : m ≤ capB) (hcB : capB ≤ 9223372036854775807) (hms : m ≤ 1000000)
    (hbs : ∀ x ∈ bs, 0 ≤ x ∧ x ≤ 255) (hr0 : ∀ x ∈ r0, 0 ≤ x ∧ x ≤ 255) :
    Calls Try.prog 10 #[.agg #[.slice A n cap], .slice B m capB] w fun e w' => ∃ vr vl, e = .returned (.tuple #[.agg #[vr], vl]) ∧ Sl (.int .u8) w' vr (dec (restB r0) bs).1 ∧ Sl (.int .i64) w' vl (dec (restB r0) bs).2 ∧ Bw w w' := by
  unfold restB
  cases hv : validB r0
  · rw [if_neg (by simp)]
    exact decode_loop_no A B n cap m capB r0 bs w hr hn hc hb hm hcB hms hbs hv
  · rw [if_pos rfl]
    exact decode_loop_yes A B n cap m capB r0 bs w hr hn hc hb hm hcB hms hbs hv hr0

def flushL (r0 : List Int) : List Int := if !r0.isEmpty && validB r0 then [65533] else []
theorem flush_any (A : Option Addr) (n cap : Nat) (r0 : List Int) (w : World) (hr : Rd (.int .u8) w A n r0) (hn : n ≤ cap) (hc : cap ≤ 9223372036854775807) :
    Calls Try.prog 16 #[.agg #[.slice A n cap]] w fun e w' => ∃ v, e = .returned v ∧ Sl (.int .i64) w' v (flushL r0) ∧ Bw w w' := by
  cases r0 with
  | nil =>
    have h0 : n = 0 := hr.1.symm
    subst h0
    go_enter Try.func16, Try.ntmps16
    go_wp2
    go_ret
    exact ⟨_, rfl, Sl.nil_ _ _ _ (by omega), (by repeat (first | with_reducible assumption | with_reducible exact Bw.refl _ | with_reducible refine Bw.alloc ?_ _ | with_reducible refine Bw.more ?_ _ _ | with_reducible refine Bw.drew ?_ | with_reducible refine Bw.drewN ?_ _ | ((with_reducible refine Bw.set2 ?_ ?_ _); (focus (first | omega | (simp only [szA, szS, szD, szN, plus_size, Array.size_append] <;> omega)))) | with_reducible refine Bw.trans ?_ (by with_reducible assumption)))⟩
  | cons b t =>
    have hl : t.length + 1 = n := hr.1
    have e2 : (0 : Int) < n := by omega
    cases hv : validB (b :: t)
    · have HV := Lib.hid hv
      clear hv
      go_enter Try.func16, Try.ntmps16
      go_wp2_with (go_at_call 14; refine (dvalid_any _ _ _ (b :: t) _ (by exact hr.up (by repeat (first | with_reducible assumption | with_reducible exact Bw.refl _ | with_reducible refine Bw.alloc ?_ _ | with_reducible refine Bw.more ?_ _ _ | with_reducible refine Bw.drew ?_ | with_reducible refine Bw.drewN ?_ _ | ((with_reducible refine Bw.set2 ?_ ?_ _); (focus (first | omega | (simp only [szA, szS, szD, szN, plus_size, Array.size_append] <;> omega)))) | with_reducible refine Bw.trans ?_ (by with_reducible assumption)))) hn hc).mono ?_; rintro ee ww ⟨rfl, rfl⟩; rw [HV.out])
      go_ret
      refine ⟨_, rfl, ?_, (by repeat (first | with_reducible assumption | with_reducible exact Bw.refl _ | with_reducible refine Bw.alloc ?_ _ | with_reducible refine Bw.more ?_ _ _ | with_reducible refine Bw.drew ?_ | with_reducible refine Bw.drewN ?_ _ | ((with_reducible refine Bw.set2 ?_ ?_ _); (focus (first | omega | (simp only [szA, szS, szD, szN, plus_size, Array.size_append] <;> omega)))) | with_reducible refine Bw.trans ?_ (by with_reducible assumption)))⟩
      simp only [flushL, HV.out, Bool.and_false, if_neg Bool.false_ne_true]
      exact Sl.nil_ _ _ _ (by omega)
    · have HV := Lib.hid hv
      clear hv
      go_enter Try.func16, Try.ntmps16
      go_wp2_with (go_at_call 14; refine (dvalid_any _ _ _ (b :: t) _ (by exact hr.up (by repeat (first | with_reducible assumption | with_reducible exact Bw.refl _ | with_reducible refine Bw.alloc ?_ _ | with_reducible refine Bw.more ?_ _ _ | with_reducible refine Bw.drew ?_ | with_reducible refine Bw.drewN ?_ _ | ((with_reducible refine Bw.set2 ?_ ?_ _); (focus (first | omega | (simp only [szA, szS, szD, szN, plus_size, Array.size_append] <;> omega)))) | with_reducible refine Bw.trans ?_ (by with_reducible assumption)))) hn hc).mono ?_; rintro ee ww ⟨rfl, rfl⟩; rw [HV.out])
      go_ret
      refine ⟨_, rfl, ?_, (by repeat (first | with_reducible assumption | with_reducible exact Bw.refl _ | with_reducible refine Bw.alloc ?_ _ | with_reducible refine Bw.more ?_ _ _ | with_reducible refine Bw.drew ?_ | with_reducible refine Bw.drewN ?_ _ | ((with_reducible refine Bw.set2 ?_ ?_ _); (focus (first | omega | (simp only [szA, szS, szD, szN, plus_size, Array.size_append] <;> omega)))) | with_reducible refine Bw.trans ?_ (by with_reducible assumption)))⟩
      simp only [flushL, HV.out]
      refine Sl.mk' (xs := [65533]) rfl (by simp) (by omega) ⟨rfl, fun _ => ⟨_, 0, rfl, fun i hi => ?_⟩⟩
      obtain rfl : i = 0 := by simp at hi; omega
      exact (by repeat (first | ((with_reducible refine cell_alloc_here ?_ ?_); (focus (first | omega | (simp only [szA, szS, szD, szN, plus_size, Array.size_append] <;> omega))); (focus rfl)) | with_reducible refine cell_alloc_some ?_ _ | with_reducible refine cell_plus_some ?_ _ _ | ((with_reducible refine cell_set_some ?_ ?_); (focus (first | omega | (simp only [szA, szS, szD, szN, plus_size, Array.size_append] <;> omega)))) | with_reducible refine cell_drew_some ?_ | with_reducible refine cell_drewN_some ?_ _))
end Go.Proofs.Ytagihjchhpiipaa
