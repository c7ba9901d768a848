/- Attributes: the sanity check. -/
import Derived.Test.YtacekeobmijipaaDoorAtE
import Derived.Test.YtacekeobmijipaaDoorAtD
import Derived.Laws.BytesArg
set_option linter.unusedSimpArgs false
set_option linter.unusedVariables false
namespace Go.Proofs.YtacekeobmijipaaDoor
open Go.RowKit

theorem conv_run {w : World} {A : Option Addr} {n cap : Nat} {bs : List Int} (h : Rd (.int .u8) w A n bs) : (convert 27 9 (.slice A n cap)).run Tryd.prog w = .ok (.string (strOfNums bs)) w := by
  rcases Nat.eq_zero_or_pos n with h0 | h0
  · have hb : bs = [] := List.eq_nil_of_length_eq_zero (by have := h.1; omega)
    subst hb
    subst h0
    cases A with
    | none => exact run_convert_bytes_nil w _ _ Tryd.underlying27 Tryd.underlying5 _ _ _ Tryd.underlying9
    | some a =>
      rw [run_convert_bytes_string w _ _ _ _ _ _ Tryd.underlying27 Tryd.underlying5 Tryd.underlying9, run_bytesToString w a 0 cap [] (by kernel_rfl)]
      rfl
  · obtain ⟨g, o, rfl, hx⟩ := h.2 h0
    exact run_convert_bytes_arg w _ _ Tryd.underlying27 Tryd.underlying5 g o n cap bs h.1 (fun i hi => by have := hx i (by have := h.1; omega); simpa [List.getD_eq_getElem?_getD, show i < bs.length by have := h.1; omega] using this) _ Tryd.underlying9

theorem full_sane : bytesOf (fullN 1 2 0) ++ [109] = [27, 91, 48, 59, 49, 59, 51, 49, 109] := by
  have h1 : flagN 1 3 = [1] := by decide
  have h2 : fullN 1 2 0 = [1, 31] := by unfold fullN; rw [h1]; decide
  have i1 : Lib.itoa 1 = [49] := by unfold Lib.itoa; rw [if_neg (by decide)]; rw [Lib.decDigits]; simp
  have i2 : Lib.itoa 31 = [51, 49] := by unfold Lib.itoa; rw [if_neg (by decide)]; rw [Lib.decDigits]; simp; rw [Lib.decDigits]; simp
  rw [h2]
  unfold bytesOf wr1
  simp [i1, i2]

set_option maxHeartbeats 1000000 in
theorem sane15_any (w : World) (ht : PowT w.heap.size w) : Calls Tryd.prog 7 #[] w fun e w' => e = .returned (.bool true) ∧ Bw w w' := by
  have HT := Lib.hid ht
  clear ht
  go_enter Tryd.func7, Tryd.ntmps7
  go_wp2_with fail
  refine (bytes_go 0 0 0 1 2 0 _ (by decide) (by decide) (by decide) (by exact HT.out)).mono ?_
  rintro e w1 ⟨v, rfl, hS, hb⟩
  rw [full_sane] at hS
  obtain ⟨A, c, rfl, hc, hcm, hR⟩ := hS.get (N := 9) rfl
  have hk := conv_run (cap := c) hR
  have hls : (strOfNums [27, 91, 48, 59, 49, 59, 51, 49, 109]).toList = [27, 91, 48, 59, 49, 59, 51, 49, 109] := by first | rfl | decide | (simp [strOfNums, ByteArray.toList]; done) | kernel_rfl
  clear hS hR
  obtain ⟨L1, d1, rfl⟩ := Bw.isPlus hb
  go_wp2_with (first | (go_at_call 14; refine (avalid_any _ _ _ _).mono ?_; rintro ee ww ⟨rfl, rfl⟩; rw [show avB 0 0 16 = true from rfl]) | (go_at_call 14; refine (avalid_any _ _ _ _).mono ?_; rintro ee ww ⟨rfl, rfl⟩; rw [show avB 0 0 17 = false from rfl]) | fail)
  go_ret
  exact ⟨rfl, (by repeat (first | with_reducible assumption | with_reducible exact Bw.refl _ | with_reducible refine Bw.alloc ?_ _ | with_reducible refine Bw.more ?_ _ _ | with_reducible refine Bw.drew ?_ | with_reducible refine Bw.drewN ?_ _ | ((with_reducible refine Bw.set2 ?_ ?_ _); (focus (first | omega | (simp only [szA, szS, szD, szN, plus_size, Array.size_append] <;> omega)))) | with_reducible refine Bw.trans ?_ (by with_reducible assumption)))⟩
end Go.Proofs.YtacekeobmijipaaDoor
