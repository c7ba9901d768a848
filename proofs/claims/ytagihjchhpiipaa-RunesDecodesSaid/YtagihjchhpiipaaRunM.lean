/- Walks of the small functions of law 04: same, odd, sane; the reference's Same. -/
import Derived.Test.YtagihjchhpiipaaRunH
import Derived.Test.YtagihjchhpiipaaDeck
import Derived.Laws.BytesArg
set_option linter.unusedSimpArgs false
set_option linter.unusedVariables false
namespace Go.Proofs.Ytagihjchhpiipaa
open Go.RowKit

set_option maxHeartbeats 1000000 in
theorem same_eq (A B : Option Addr) (n m cA cB : Nat) (xs : List Int) (w : World) (hx : Rd (.int .i64) w A n xs) (hy : Rd (.int .i64) w B m xs) (hA : n ≤ cA) (hB : m ≤ cB) (hcA : cA ≤ 9223372036854775807) (hcB : cB ≤ 9223372036854775807) :
    Calls Try.prog 12 #[.slice A n cA, .slice B m cB] w fun e w' => e = .returned (.bool true) ∧ ∃ q, w' = w.drewN q := by
  have hnm : n = m := hx.1.symm.trans hy.1
  subst hnm
  go_enter Try.func12, Try.ntmps12
  go_wp2
  go_loopw [13] (fun i wr => ∃ k q : Nat, i = .int .i64 k ∧ k ≤ n ∧ wr = w.drewN q) (fun i _ => n - (intOf i).toNat)
  case atStart => exact ⟨0, 0, rfl, Nat.zero_le _, rfl⟩
  case round =>
    obtain ⟨k, q, rfl, hk, rfl⟩ := hrel
    by_cases hlt : k < n
    · have hl := hx.1
      obtain ⟨g, o, rfl, hx1⟩ := hx.2 (by omega)
      obtain ⟨g2, o2, rfl, hy1⟩ := hy.2 (by omega)
      have x1 := hx1 k (by omega)
      have y1 := hy1 k (by omega)
      obtain ⟨x, hxx⟩ : ∃ x, x = xs[k] := ⟨_, rfl⟩
      rw [← hxx] at x1 y1
      clear hxx hx hy hx1 hy1 hl
      have e1 : (0 : Int) ≤ k := by omega
      have e2 : (k : Int) < n := by omega
      have e3 : (n : Int) ≤ 9223372036854775807 := by omega
      go_wp2
      go_quiet (fail)
      go_wp2
      go_roundw
      case rel => exact ⟨k + 1, _, by go_num, by omega, rfl⟩
      case measure => simp [intOf]; omega
    · clear hx hy
      go_wp2
      go_ret
      exact ⟨rfl, q, rfl⟩

theorem conv_run {w : World} {A : Option Addr} {n cap : Nat} {bs : List Int} (h : Rd (.int .u8) w A n bs) : (convert 23 9 (.slice A n cap)).run Try.prog w = .ok (.string (strOfNums bs)) w := by
  rcases Nat.eq_zero_or_pos n with h0 | h0
  · have hb : bs = [] := List.eq_nil_of_length_eq_zero (by have := h.1; omega)
    subst hb
    subst h0
    cases A with
    | none => exact run_convert_bytes_nil w _ _ Try.underlying23 Try.underlying5 _ _ _ Try.underlying9
    | some a =>
      rw [run_convert_bytes_string w _ _ _ _ _ _ Try.underlying23 Try.underlying5 Try.underlying9, run_bytesToString w a 0 cap [] (by kernel_rfl)]
      rfl
  · obtain ⟨g, o, rfl, hx⟩ := h.2 h0
    exact run_convert_bytes_arg w _ _ Try.underlying23 Try.underlying5 g o n cap bs h.1 (fun i hi => by have := hx i (by have := h.1; omega); simpa [List.getD_eq_getElem?_getD, show i < bs.length by have := h.1; omega] using this) _ Try.underlying9

theorem refsame_eq (A B : Option Addr) (n m cA cB : Nat) (bs : List Int) (w : World) (hx : Rd (.int .u8) w A n bs) (hy : Rd (.int .u8) w B m bs) :
    Calls Try.prog 11 #[.agg #[.slice A n cA], .agg #[.slice B m cB]] w fun e w' => e = .returned (.bool true) ∧ Bw w w' := by
  have h1 : ∀ o1 o2, (convert 23 9 (.slice A n cA)).run Try.prog ((w.alloc o1).alloc o2) = .ok (.string (strOfNums bs)) ((w.alloc o1).alloc o2) := fun o1 o2 => conv_run (hx.up (by repeat (first | with_reducible assumption | with_reducible exact Bw.refl _ | with_reducible refine Bw.alloc ?_ _ | with_reducible refine Bw.more ?_ _ _ | with_reducible refine Bw.drew ?_ | with_reducible refine Bw.drewN ?_ _ | ((with_reducible refine Bw.set2 ?_ ?_ _); (focus (first | omega | (simp only [szA, szS, szD, szN, plus_size, Array.size_append] <;> omega)))) | with_reducible refine Bw.trans ?_ (by with_reducible assumption))))
  have h2 : ∀ o1 o2, (convert 23 9 (.slice B m cB)).run Try.prog ((w.alloc o1).alloc o2) = .ok (.string (strOfNums bs)) ((w.alloc o1).alloc o2) := fun o1 o2 => conv_run (hy.up (by repeat (first | with_reducible assumption | with_reducible exact Bw.refl _ | with_reducible refine Bw.alloc ?_ _ | with_reducible refine Bw.more ?_ _ _ | with_reducible refine Bw.drew ?_ | with_reducible refine Bw.drewN ?_ _ | ((with_reducible refine Bw.set2 ?_ ?_ _); (focus (first | omega | (simp only [szA, szS, szD, szN, plus_size, Array.size_append] <;> omega)))) | with_reducible refine Bw.trans ?_ (by with_reducible assumption))))
  obtain ⟨s, hs⟩ : ∃ s, s = strOfNums bs := ⟨_, rfl⟩
  rw [← hs] at h1 h2
  clear hs hx hy
  go_enter Try.func11, Try.ntmps11
  go_wp2
  go_ret
  exact ⟨ret_bool (by simp), (by repeat (first | with_reducible assumption | with_reducible exact Bw.refl _ | with_reducible refine Bw.alloc ?_ _ | with_reducible refine Bw.more ?_ _ _ | with_reducible refine Bw.drew ?_ | with_reducible refine Bw.drewN ?_ _ | ((with_reducible refine Bw.set2 ?_ ?_ _); (focus (first | omega | (simp only [szA, szS, szD, szN, plus_size, Array.size_append] <;> omega)))) | with_reducible refine Bw.trans ?_ (by with_reducible assumption)))⟩

set_option maxHeartbeats 1000000 in
theorem odd_any (A : Option Addr) (n cap : Nat) (xs : List Int) (w : World) (hr : RdI w A n xs) (hA : 0 < n → ∀ ad, A = some ad → ad.block < w.heap.size) (hn : n ≤ 9223372036854775807) :
    Calls Try.prog 8 #[.slice A n cap] w fun e w' => ∃ A1 n1 c1 bs, e = .returned (.slice A1 n1 c1) ∧ Rd (.int .u8) w' A1 n1 bs ∧ (n1 ≤ c1 ∧ c1 ≤ 9223372036854775807 ∧ (A1 = none → c1 = 0)) ∧ (∀ x ∈ bs, 0 ≤ x ∧ x ≤ 255) ∧ bs.length ≤ 60 ∧ Bw w w' := by
  obtain ⟨i0, hi, hz0, hz1, hz2⟩ := info_parts infoB
  have hD0 := Dk.made (c := cap) hr hA hn
  go_enter Try.func8, Try.ntmps8
  go_wp2_with (go_at_call 21; refine (mnew_any _ _ _ _).mono ?_; rintro ee ww ⟨rfl, rfl⟩)
  go_loopw [4] (fun s4 wr => ∃ bs : List Int, wr.ownsRow (w.heap.size + 1) 5 1 s4 bs.length (bs.map (.int .u8)) ∧ (∀ x ∈ bs, 0 ≤ x ∧ x ≤ 255) ∧ bs.length ≤ 60 ∧ Dk wr w.heap.size A n cap xs ∧ Bw w wr) (fun s4 _ => match s4 with | .slice _ n _ => 60 - n | _ => 0)
  case atStart => exact ⟨[], World.ownsRow_nil _ _ _ _, by simp, by simp, hD0, (by repeat (first | with_reducible assumption | with_reducible exact Bw.refl _ | with_reducible refine Bw.alloc ?_ _ | with_reducible refine Bw.more ?_ _ _ | with_reducible refine Bw.drew ?_ | with_reducible refine Bw.drewN ?_ _ | ((with_reducible refine Bw.set2 ?_ ?_ _); (focus (first | omega | (simp only [szA, szS, szD, szN, plus_size, Array.size_append] <;> omega)))) | with_reducible refine Bw.trans ?_ (by with_reducible assumption)))⟩
  case round =>
    rename_i wr
    obtain ⟨bs, hown, hb255, hlen, hD, hbw⟩ := hrel
    have hDz := hD.1
    obtain ⟨A4, c4, rfl, hc4, hc4m⟩ := own_form hown
    have HO := Lib.hid hown
    clear hown hD0
    have HL : ∃ L, L = bs.length := ⟨_, rfl⟩
    go_wp2_with fail
    refine (mleft_dk w.heap.size A n cap xs _ hD).mono ?_
    rintro e w1 ⟨t, rfl, q, rfl⟩
    cases t
    · go_wp2
      go_ret
      exact ⟨_, _, _, bs, rfl, own_rd ((HO.out).bw (by repeat (first | with_reducible assumption | with_reducible exact Bw.refl _ | with_reducible refine Bw.alloc ?_ _ | with_reducible refine Bw.more ?_ _ _ | with_reducible refine Bw.drew ?_ | with_reducible refine Bw.drewN ?_ _ | ((with_reducible refine Bw.set2 ?_ ?_ _); (focus (first | omega | (simp only [szA, szS, szD, szN, plus_size, Array.size_append] <;> omega)))) | with_reducible refine Bw.trans ?_ (by with_reducible assumption)))), ⟨hc4, hc4m, own_nil HO.out⟩, hb255, hlen, (by repeat (first | with_reducible assumption | with_reducible exact Bw.refl _ | with_reducible refine Bw.alloc ?_ _ | with_reducible refine Bw.more ?_ _ _ | with_reducible refine Bw.drew ?_ | with_reducible refine Bw.drewN ?_ _ | ((with_reducible refine Bw.set2 ?_ ?_ _); (focus (first | omega | (simp only [szA, szS, szD, szN, plus_size, Array.size_append] <;> omega)))) | with_reducible refine Bw.trans ?_ (by with_reducible assumption)))⟩
    · by_cases hlt : bs.length < 60
      · go_wp2_with fail
        refine (mnext_dk w.heap.size A n cap 21 xs _ (by exact hD.up (by repeat (first | with_reducible assumption | with_reducible exact Bw.refl _ | with_reducible refine Bw.alloc ?_ _ | with_reducible refine Bw.more ?_ _ _ | with_reducible refine Bw.drew ?_ | with_reducible refine Bw.drewN ?_ _ | ((with_reducible refine Bw.set2 ?_ ?_ _); (focus (first | omega | (simp only [szA, szS, szD, szN, plus_size, Array.size_append] <;> omega)))) | with_reducible refine Bw.trans ?_ (by with_reducible assumption)))) (by omega) (by omega)).mono ?_
        rintro e w2 ⟨v, rfl, hv1, hv2, hD2, hg2⟩
        obtain ⟨x, hx255, hxc⟩ := lit_pick (f := fun x : Int => Value.int .u8 x) wr 5 _ [65, 127, 128, 143, 144, 159, 160, 191, 192, 193, 194, 223, 224, 226, 237, 239, 240, 241, 244, 245, 255] rfl (fun x => 0 ≤ x ∧ x ≤ 255) (by decide) v hv1 (by simpa using hv2)
        have hxc2 : w2.cell? ⟨wr.heap.size, v.toNat, none⟩ = some (.int .u8 x) := by
          rw [grown_cell hg2 (p := ⟨wr.heap.size, v.toNat, none⟩) (by simp) (by simp; omega)]; exact hxc
        have hown2 := own_deck (w := _) (by exact (HO.out).bw (by repeat (first | with_reducible assumption | with_reducible exact Bw.refl _ | with_reducible refine Bw.alloc ?_ _ | with_reducible refine Bw.more ?_ _ _ | with_reducible refine Bw.drew ?_ | with_reducible refine Bw.drewN ?_ _ | ((with_reducible refine Bw.set2 ?_ ?_ _); (focus (first | omega | (simp only [szA, szS, szD, szN, plus_size, Array.size_append] <;> omega)))) | with_reducible refine Bw.trans ?_ (by with_reducible assumption)))) hg2 (by omega)
        have HO2 := Lib.hid hown2
        have hbw2 : Bw w w2 := Bw.deck (by exact (by repeat (first | with_reducible assumption | with_reducible exact Bw.refl _ | with_reducible refine Bw.alloc ?_ _ | with_reducible refine Bw.more ?_ _ _ | with_reducible refine Bw.drew ?_ | with_reducible refine Bw.drewN ?_ _ | ((with_reducible refine Bw.set2 ?_ ?_ _); (focus (first | omega | (simp only [szA, szS, szD, szN, plus_size, Array.size_append] <;> omega)))) | with_reducible refine Bw.trans ?_ (by with_reducible assumption)))) hg2 (by omega)
        clear hown2 hxc hD HO
        have hw2z : w.heap.size + 1 ≤ w2.heap.size := hD2.1
        go_wp2_with (at_builtin; refine wpList_append_own _ rfl _ _ 23 rfl (w.heap.size + 1) 5 i0 (.int .u8 0) 1 1 Try.underlying23 hi hz0 hz1 hz2 rfl (by decide) (.slice A4 bs.length c4) bs.length (bs.map (.int .u8)) rfl (HO2.out.alloc _) ⟨w2.heap.size, 0, none⟩ 1 1 [.int .u8 x] rfl rfl (cell_one_new _ _ _) (by simp; rfl) (by unfold maxLen; omega) (by omega) (by simp; omega) ?_; intro v1 w3 hown3 hg3 hnil3)
        obtain ⟨A5, c5, rfl, hc5, hc5m⟩ := own_form hown3
        go_roundw
        case rel =>
          refine ⟨bs ++ [x], by simpa using hown3, ?_, by simp; omega, ?_, ?_⟩
          · intro y hy
            rcases List.mem_append.1 hy with h | h
            · exact hb255 y h
            · simp at h; subst h; exact hx255
          · exact (hD2.up (w' := w2.alloc _) (by repeat (first | with_reducible assumption | with_reducible exact Bw.refl _ | with_reducible refine Bw.alloc ?_ _ | with_reducible refine Bw.more ?_ _ _ | with_reducible refine Bw.drew ?_ | with_reducible refine Bw.drewN ?_ _ | ((with_reducible refine Bw.set2 ?_ ?_ _); (focus (first | omega | (simp only [szA, szS, szD, szN, plus_size, Array.size_append] <;> omega)))) | with_reducible refine Bw.trans ?_ (by with_reducible assumption)))).row (HO2.out.alloc _) hg3 (by omega)
          · exact Bw.row (show Bw w (w2.alloc _) from (by repeat (first | with_reducible assumption | with_reducible exact Bw.refl _ | with_reducible refine Bw.alloc ?_ _ | with_reducible refine Bw.more ?_ _ _ | with_reducible refine Bw.drew ?_ | with_reducible refine Bw.drewN ?_ _ | ((with_reducible refine Bw.set2 ?_ ?_ _); (focus (first | omega | (simp only [szA, szS, szD, szN, plus_size, Array.size_append] <;> omega)))) | with_reducible refine Bw.trans ?_ (by with_reducible assumption)))) (HO2.out.alloc _) hg3 (by omega)
        case measure => simp; omega
      · go_wp2
        go_ret
        exact ⟨_, _, _, bs, rfl, own_rd ((HO.out).bw (by repeat (first | with_reducible assumption | with_reducible exact Bw.refl _ | with_reducible refine Bw.alloc ?_ _ | with_reducible refine Bw.more ?_ _ _ | with_reducible refine Bw.drew ?_ | with_reducible refine Bw.drewN ?_ _ | ((with_reducible refine Bw.set2 ?_ ?_ _); (focus (first | omega | (simp only [szA, szS, szD, szN, plus_size, Array.size_append] <;> omega)))) | with_reducible refine Bw.trans ?_ (by with_reducible assumption)))), ⟨hc4, hc4m, own_nil HO.out⟩, hb255, hlen, (by repeat (first | with_reducible assumption | with_reducible exact Bw.refl _ | with_reducible refine Bw.alloc ?_ _ | with_reducible refine Bw.more ?_ _ _ | with_reducible refine Bw.drew ?_ | with_reducible refine Bw.drewN ?_ _ | ((with_reducible refine Bw.set2 ?_ ?_ _); (focus (first | omega | (simp only [szA, szS, szD, szN, plus_size, Array.size_append] <;> omega)))) | with_reducible refine Bw.trans ?_ (by with_reducible assumption)))⟩

set_option maxHeartbeats 1000000 in
theorem sane04_any (w : World) : Calls Try.prog 7 #[] w fun e w' => e = .returned (.bool true) ∧ Bw w w' := by
  have d1 : dec (restB []) [226, 130] = ([226, 130], []) := by decide
  have d2 : dec (restB [226, 130]) [172] = ([], [8364]) := by decide
  go_enter Try.func7, Try.ntmps7
  go_wp2_with fail
  refine (decode_any none (some ⟨w.heap.size, 0, none⟩) 0 0 2 2 [] [226, 130] _ (Rd.nil_ _ _) (by omega) (by omega) (by exact Rd.lit w _ _ [226, 130] 2 rfl rfl) (by omega) (by omega) (by omega) (by decide) (by simp)).mono ?_
  rintro e w1 ⟨vr, vl, rfl, hr1, hl1, hb1⟩
  rw [d1] at hr1 hl1
  obtain ⟨A1, c1, rfl, hc1, hc1m, hR1⟩ := hr1.get (N := 2) rfl
  obtain ⟨A2, c2, rfl, hc2, hc2m, hR2⟩ := hl1.get (N := 0) rfl
  obtain ⟨L1, k1, rfl⟩ := Bw.isPlus hb1
  clear d1 hb1 hr1 hl1
  go_wp2_with fail
  refine (decode_any A1 _ 2 c1 1 1 [226, 130] [172] _ (by exact hR1.up (by repeat (first | with_reducible assumption | with_reducible exact Bw.refl _ | with_reducible refine Bw.alloc ?_ _ | with_reducible refine Bw.more ?_ _ _ | with_reducible refine Bw.drew ?_ | with_reducible refine Bw.drewN ?_ _ | ((with_reducible refine Bw.set2 ?_ ?_ _); (focus (first | omega | (simp only [szA, szS, szD, szN, plus_size, Array.size_append] <;> omega)))) | with_reducible refine Bw.trans ?_ (by with_reducible assumption)))) (by omega) (by omega) (by exact Rd.lit' _ _ _ _ [172] 1 (by (first | omega | (simp only [szA, szS, szD, szN, plus_size, Array.size_append] <;> omega))) rfl rfl) (by omega) (by omega) (by omega) (by decide) (by decide)).mono ?_
  rintro e w2 ⟨vr2, vl2, rfl, hr2, hl2, hb2⟩
  rw [d2] at hr2 hl2
  obtain ⟨A3, c3, rfl, hc3, hc3m, hR3⟩ := hr2.get (N := 0) rfl
  obtain ⟨A4, c4, rfl, hc4, hc4m, hR4⟩ := hl2.get (N := 1) rfl
  obtain ⟨g, o, rfl, hx⟩ := hR4.2 (by omega)
  have hx0 := hx 0 (by simp)
  simp only [Nat.add_zero, List.getElem_cons_zero] at hx0
  have hg0 := lt_of_cell hx0
  obtain ⟨L2, k2, rfl⟩ := Bw.isPlus hb2
  simp only [plus_size, heapsz] at hg0
  clear d2 hb2 hr2 hl2 hx hR4 hR3 hR1 hR2
  go_wp2
  go_ret
  exact ⟨rfl, (by repeat (first | with_reducible assumption | with_reducible exact Bw.refl _ | with_reducible refine Bw.alloc ?_ _ | with_reducible refine Bw.more ?_ _ _ | with_reducible refine Bw.drew ?_ | with_reducible refine Bw.drewN ?_ _ | ((with_reducible refine Bw.set2 ?_ ?_ _); (focus (first | omega | (simp only [szA, szS, szD, szN, plus_size, Array.size_append] <;> omega)))) | with_reducible refine Bw.trans ?_ (by with_reducible assumption)))⟩
end Go.Proofs.Ytagihjchhpiipaa
