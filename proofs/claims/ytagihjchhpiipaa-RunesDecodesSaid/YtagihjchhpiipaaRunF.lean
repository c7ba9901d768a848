
/- Walk of runes.Decode: it is the plain function dec. -/
import Derived.Test.YtagihjchhpiipaaRunE
set_option linter.unusedSimpArgs false
set_option linter.unusedVariables false
namespace Go.Proofs.Ytagihjchhpiipaa
open Go.RowKit

theorem infoI : (Try.prog.info? 3).map (fun i => (i.zero, i.size, i.bytes)) = some (some (.int .i64 0), 1, 8) := by kernel_rfl

theorem dec_begin {r : List Int} {b : Int} {t : List Int} (h1 : beginB (r ++ [b]) = true) : dec r (b :: t) = dec (r ++ [b]) t := by
  conv => lhs; unfold dec
  rw [h1, if_pos rfl]
theorem dec_complete {r : List Int} {b : Int} {t : List Int} (h1 : beginB (r ++ [b]) = false) (h2 : completeB (r ++ [b]) = true) : dec r (b :: t) = emit (valN (r ++ [b])) (dec [] t) := by
  conv => lhs; unfold dec
  rw [h1, h2, if_neg (by simp), if_pos rfl]
theorem dec_bad {b : Int} {t : List Int} (h1 : beginB ([] ++ [b]) = false) (h2 : completeB ([] ++ [b]) = false) : dec [] (b :: t) = emit 65533 (dec [] t) := by
  conv => lhs; unfold dec
  rw [h1, h2, if_neg (by simp), if_neg (by simp), if_pos rfl]
theorem completeB_len {r : List Int} (h : completeB r = true) : r.length ≤ 4 := by
  unfold completeB at h
  simp only [Bool.and_eq_true, beq_iff_eq] at h
  have : rsize (r.headD 0) ≤ 4 := by unfold rsize; repeat' split
                                     all_goals omega
  omega
theorem beginB_len {r : List Int} (h : beginB r = true) : r.length ≤ 4 := by
  unfold beginB at h
  simp only [Bool.and_eq_true, decide_eq_true_eq] at h
  have : rsize (r.headD 0) ≤ 4 := by unfold rsize; repeat' split
                                     all_goals omega
  omega
/-- The loop's state: what has been read so far, in memory. -/
def DecR (w : World) (bs : List Int) (F : List Int × List Int) (s6 s7 : Value) (k : Nat) (wr : World) : Prop :=
  ∃ (r l : List Int), k ≤ bs.length ∧ Sl (.int .u8) wr s6 r ∧ wr.ownsRow w.heap.size 3 1 s7 l.length (l.map (.int .i64)) ∧ (∀ x ∈ r, 0 ≤ x ∧ x ≤ 255) ∧ (r ≠ [] → beginB r = true) ∧ l.length + min r.length 1 ≤ 2 * k + 1 ∧
    (dec r (bs.drop k)).1 = F.1 ∧ l ++ (dec r (bs.drop k)).2 = F.2 ∧ Bw w wr

set_option maxRecDepth 100000 in
set_option maxHeartbeats 4000000 in
theorem decode_loop_no (A B : Option Addr) (n cap m capB : Nat) (r0 bs : List Int) (w : World) (hr : Rd (.int .u8) w A n r0) (hn : n ≤ cap) (hc : cap ≤ 9223372036854775807) (hb : Rd (.int .u8) w B m bs) (hm : m ≤ capB) (hcB : capB ≤ 9223372036854775807) (hms : m ≤ 1000000)
    (hbs : ∀ x ∈ bs, 0 ≤ x ∧ x ≤ 255) (hv : validB r0 = false) :
    Calls Try.prog 10 #[.agg #[.slice A n cap], .slice B m capB] w fun e w' => ∃ vr vl, e = .returned (.tuple #[.agg #[vr], vl]) ∧ Sl (.int .u8) w' vr (dec [] bs).1 ∧ Sl (.int .i64) w' vl (dec [] bs).2 ∧ Bw w w' := by
  have HV := Lib.hid hv
  clear hv
  obtain ⟨i0, hi, hz0, hz1, hz2⟩ := info_parts infoB
  obtain ⟨j0, hj, hj0, hj1, hj2⟩ := info_parts infoI
  go_enter Try.func10, Try.ntmps10
  go_wp2_with (go_at_call 14; refine (dvalid_any _ _ _ r0 _ (by exact hr.up (by repeat (first | with_reducible assumption | with_reducible exact Bw.refl _ | with_reducible refine Bw.alloc ?_ _ | with_reducible refine Bw.more ?_ _ _ | with_reducible refine Bw.drew ?_ | with_reducible refine Bw.drewN ?_ _ | ((with_reducible refine Bw.set2 ?_ ?_ _); (focus (first | omega | (simp only [szA, szS, szD, szN, plus_size, Array.size_append] <;> omega)))) | with_reducible refine Bw.trans ?_ (by with_reducible assumption)))) hn hc).mono ?_; rintro ee ww ⟨rfl, rfl⟩; rw [HV.out])
  go_loopw [6, 7, 8] (fun s6 s7 i wr => ∃ k : Nat, i = .int .i64 k ∧ DecR (((w.alloc (.cells #[.slice A n cap] 29)).alloc (.cells #[.slice none 0 0] 29)).alloc (.cells #[.slice A n cap] 29)) bs (dec [] bs) s6 s7 k wr) (fun s6 _ i _ => 2 * (m - (intOf i).toNat) + (match s6 with | .slice _ n _ => min n 1 | _ => 0))
  case atStart => exact ⟨0, rfl, [], [], by omega, ⟨none, 0, rfl, by simp, by omega, rfl, fun h => absurd h (by simp)⟩, World.ownsRow_nil _ _ _ _, by simp, by simp, by simp, rfl, rfl, (by repeat (first | with_reducible assumption | with_reducible exact Bw.refl _ | with_reducible refine Bw.alloc ?_ _ | with_reducible refine Bw.more ?_ _ _ | with_reducible refine Bw.drew ?_ | with_reducible refine Bw.drewN ?_ _ | ((with_reducible refine Bw.set2 ?_ ?_ _); (focus (first | omega | (simp only [szA, szS, szD, szN, plus_size, Array.size_append] <;> omega)))) | with_reducible refine Bw.trans ?_ (by with_reducible assumption)))⟩
  case round =>
    rename_i wr
    have hEw : Bw w (((w.alloc (.cells #[.slice A n cap] 29)).alloc (.cells #[.slice none 0 0] 29)).alloc (.cells #[.slice A n cap] 29)) := (by repeat (first | with_reducible assumption | with_reducible exact Bw.refl _ | with_reducible refine Bw.alloc ?_ _ | with_reducible refine Bw.more ?_ _ _ | with_reducible refine Bw.drew ?_ | with_reducible refine Bw.drewN ?_ _ | ((with_reducible refine Bw.set2 ?_ ?_ _); (focus (first | omega | (simp only [szA, szS, szD, szN, plus_size, Array.size_append] <;> omega)))) | with_reducible refine Bw.trans ?_ (by with_reducible assumption)))
    have hEz : w.heap.size + 1 < (((w.alloc (.cells #[.slice A n cap] 29)).alloc (.cells #[.slice none 0 0] 29)).alloc (.cells #[.slice A n cap] 29)).heap.size := by simp
    have hEc : (((w.alloc (.cells #[.slice A n cap] 29)).alloc (.cells #[.slice none 0 0] 29)).alloc (.cells #[.slice A n cap] 29)).cell? ⟨w.heap.size + 1, 0, none⟩ = some (.slice none 0 0) := (by repeat (first | ((with_reducible refine cell_alloc_here ?_ ?_); (focus (first | omega | (simp only [szA, szS, szD, szN, plus_size, Array.size_append] <;> omega))); (focus rfl)) | with_reducible refine cell_alloc_some ?_ _ | with_reducible refine cell_plus_some ?_ _ _ | ((with_reducible refine cell_set_some ?_ ?_); (focus (first | omega | (simp only [szA, szS, szD, szN, plus_size, Array.size_append] <;> omega)))) | with_reducible refine cell_drew_some ?_ | with_reducible refine cell_drewN_some ?_ _))
    have hEf : (((w.alloc (.cells #[.slice A n cap] 29)).alloc (.cells #[.slice none 0 0] 29)).alloc (.cells #[.slice A n cap] 29)).frozen? ⟨w.heap.size + 1, 0, none⟩ = false := by simp [go_sem]
    replace hb : Rd (.int .u8) (((w.alloc (.cells #[.slice A n cap] 29)).alloc (.cells #[.slice none 0 0] 29)).alloc (.cells #[.slice A n cap] 29)) B m bs := hb.up hEw
    generalize (((w.alloc (.cells #[.slice A n cap] 29)).alloc (.cells #[.slice none 0 0] 29)).alloc (.cells #[.slice A n cap] 29)) = W at *
    clear hr
    obtain ⟨k, rfl, r, l, hk, hS, hown, hrb, hrg, hl1, hF1, hF2, hbw⟩ := hrel
    obtain ⟨rA, rc, rfl, hrc1, hrc2, hR⟩ := hS
    by_cases hlt : k < m
    · have hbl := hb.1
      obtain ⟨gb, ob, rfl, hx0⟩ := hb.2 (by omega)
      have hx1 := hx0 k (by omega)
      have hk' : k < bs.length := by omega
      obtain ⟨x, hxx⟩ : ∃ x, x = bs[k] := ⟨_, rfl⟩
      rw [← hxx] at hx1
      have hxw : wr.cell? ⟨gb, ob + k, none⟩ = some (.int .u8 x) := by
        rw [Below.cell hbw (p := ⟨gb, ob + k, none⟩) (lt_of_cell hx1)]; exact hx1
      have q1 : (0 : Int) ≤ k := by omega
      have q2 : (k : Int) < m := by omega
      have q3 : (m : Int) ≤ capB := by omega
      have q4 : (r.length : Int) ≤ rc := by omega
      have q5 : (0 : Int) ≤ r.length := by omega
      have hR3 : r.length ≤ 4 := by
        by_cases hre : r = []
        · subst hre; simp
        · have := hrg hre
          exact beginB_len this
      have HF1 := Lib.hid hF1
      have HF2 := Lib.hid hF2
      have HX := Lib.hid hxx
      have HO := Lib.hid hown
      have HB := Lib.hid hx0
      have HR := Lib.hid hR
      clear hF1 hF2 hxx hown hx0 hx1 hb hR
      go_upto_region 8 with (fail)
      go_cut [9] (fun s9 w' => Sl (.int .u8) w' s9 (r ++ [x]) ∧ Bw wr w')
      case first =>
        go_region_held3 (fun w' => w'.cell? ⟨gb, ob + k, none⟩ = some (.int .u8 x)) ((first | (refine cell_bw hb1 ?_; (repeat (first | with_reducible assumption |  ((with_reducible refine cell_alloc_here ?_ ?_); (focus (first | omega | (simp only [szA, szS, szD, szN, plus_size, Array.size_append] <;> omega))); (focus rfl)) | with_reducible refine cell_alloc_some ?_ _ | with_reducible refine cell_plus_some ?_ _ _ | ((with_reducible refine cell_set_some ?_ ?_); (focus (first | omega | (simp only [szA, szS, szD, szN, plus_size, Array.size_append] <;> omega)))) | with_reducible refine cell_drew_some ?_ | with_reducible refine cell_drewN_some ?_ _)); done) | ((repeat (first | with_reducible assumption |  ((with_reducible refine cell_alloc_here ?_ ?_); (focus (first | omega | (simp only [szA, szS, szD, szN, plus_size, Array.size_append] <;> omega))); (focus rfl)) | with_reducible refine cell_alloc_some ?_ _ | with_reducible refine cell_plus_some ?_ _ _ | ((with_reducible refine cell_set_some ?_ ?_); (focus (first | omega | (simp only [szA, szS, szD, szN, plus_size, Array.size_append] <;> omega)))) | with_reducible refine cell_drew_some ?_ | with_reducible refine cell_drewN_some ?_ _)); done))) ((refine step_append_grows rfl (.tmp 26) (.tmp 31) 23 rfl 5 i0 (.int .u8 0) 1 1 Try.underlying23 hi hz0 hz1 hz2 rfl (by decide) rA r.length r.length (r.map (.int .u8)) (by rfl) (Rd.none_ HR.out) (by simp) (Rd.news2 (HR.out.up (by repeat (first | with_reducible assumption | with_reducible exact Bw.refl _ | with_reducible refine Bw.alloc ?_ _ | with_reducible refine Bw.more ?_ _ _ | with_reducible refine Bw.drew ?_ | with_reducible refine Bw.drewN ?_ _ | ((with_reducible refine Bw.set2 ?_ ?_ _); (focus (first | omega | (simp only [szA, szS, szD, szN, plus_size, Array.size_append] <;> omega)))) | with_reducible refine Bw.trans ?_ (by with_reducible assumption))))) ⟨wr.heap.size, 0, none⟩ 1 1 [.int .u8 x] (by rfl) rfl (cell_one_at (by go_simp)) (by simp; rfl) (by omega) (by unfold maxLen; omega) (by omega) ?_; intro v1 w1 hown1 hg1; have hb1 := Bw.of_grown hg1))
        go_wp2
        go_meet
        case rel =>
          refine ⟨Sl.of_own (n := r.length + 1) (xs := r ++ [x]) (by rw [List.map_append]; exact hown1), ?_⟩
          exact Bw.trans (by repeat (first | with_reducible assumption | with_reducible exact Bw.refl _ | with_reducible refine Bw.alloc ?_ _ | with_reducible refine Bw.more ?_ _ _ | with_reducible refine Bw.drew ?_ | with_reducible refine Bw.drewN ?_ _ | ((with_reducible refine Bw.set2 ?_ ?_ _); (focus (first | omega | (simp only [szA, szS, szD, szN, plus_size, Array.size_append] <;> omega)))) | with_reducible refine Bw.trans ?_ (by with_reducible assumption))) hb1
      case rest =>
        obtain ⟨⟨nA, nc, hv9, N1, N2, N3⟩, hb9⟩ := hcut
        obtain ⟨N, hN⟩ : ∃ N, N = (r ++ [x]).length := ⟨_, rfl⟩
        rw [← hN] at hv9 N1 N3
        subst hv9
        have HO9 := Lib.hid (HO.out.bw hb9)
        have hbw9 : Bw W wc := hbw.trans hb9
        have N4 : ∀ y ∈ r ++ [x], 0 ≤ y ∧ y ≤ 255 := by
          intro y hy
          rcases List.mem_append.1 hy with h | h
          · exact hrb y h
          · simp at h; subst h; rw [HX.out]; exact hbs _ (List.getElem_mem _)
        have N5 : N ≤ 5 := by rw [hN]; simp; omega
        have HN := Lib.hid hN
        clear hN
        have HD := Lib.hid (show bs.drop k = x :: bs.drop (k + 1) by rw [HX.out]; exact List.drop_eq_getElem_cons hk')
        clear hbs hrb hrg HB HR hxw hb9 hbw
        cases hE1 : beginB (r ++ [x])
        · have HE1 := Lib.hid hE1
          clear hE1
          cases hE2 : completeB (r ++ [x])
          · have HE2 := Lib.hid hE2
            clear hE2
            cases hre : r.isEmpty
            · have hre' : r ≠ [] := by simpa using hre
              have hrl : (0 : Int) < r.length := by have := List.length_pos_iff.2 hre'; omega
              have HA := Lib.hid (dec_again (t := bs.drop (k + 1)) HE1.out HE2.out hre')
              have HZ := Lib.hid hre'
              clear hre hre'
              go_wp2_with (first | (go_at_call 25; refine (begin_any _ _ _ (r ++ [x]) _ (by exact N3.up (by repeat (first | with_reducible assumption | with_reducible exact Bw.refl _ | with_reducible refine Bw.alloc ?_ _ | with_reducible refine Bw.more ?_ _ _ | with_reducible refine Bw.drew ?_ | with_reducible refine Bw.drewN ?_ _ | ((with_reducible refine Bw.set2 ?_ ?_ _); (focus (first | omega | (simp only [szA, szS, szD, szN, plus_size, Array.size_append] <;> omega)))) | with_reducible refine Bw.trans ?_ (by with_reducible assumption)))) (by exact N1) N2).mono ?_; rintro ee ww ⟨rfl, rfl⟩; rw [HE1.out]) | (go_at_call 26; refine (complete_any _ _ _ (r ++ [x]) _ (by exact N3.up (by repeat (first | with_reducible assumption | with_reducible exact Bw.refl _ | with_reducible refine Bw.alloc ?_ _ | with_reducible refine Bw.more ?_ _ _ | with_reducible refine Bw.drew ?_ | with_reducible refine Bw.drewN ?_ _ | ((with_reducible refine Bw.set2 ?_ ?_ _); (focus (first | omega | (simp only [szA, szS, szD, szN, plus_size, Array.size_append] <;> omega)))) | with_reducible refine Bw.trans ?_ (by with_reducible assumption)))) (by exact N1) N2).mono ?_; rintro ee ww ⟨rfl, rfl⟩; rw [HE2.out]) | (at_builtin; refine wpList_append_own_at _ rfl (.tmp 51) (.tmp 52) 22 rfl W.heap.size 3 j0 (.int .i64 0) 1 8 Try.underlying22 hj hj0 hj1 hj2 rfl (by decide) _ l.length (l.map (.int .i64)) rfl (by exact (HO9.out.bw (by repeat (first | with_reducible assumption | with_reducible exact Bw.refl _ | with_reducible refine Bw.alloc ?_ _ | with_reducible refine Bw.more ?_ _ _ | with_reducible refine Bw.drew ?_ | with_reducible refine Bw.drewN ?_ _ | ((with_reducible refine Bw.set2 ?_ ?_ _); (focus (first | omega | (simp only [szA, szS, szD, szN, plus_size, Array.size_append] <;> omega)))) | with_reducible refine Bw.trans ?_ (by with_reducible assumption))))) ⟨wc.heap.size, 0, none⟩ 1 1 [.int .i64 65533] rfl rfl (cell_one_at (by go_simp)) (by simp; rfl) (by unfold maxLen; omega) (by omega) (by have := Below.size hbw9; simp; omega) ?_; intro v1 w1 hown1 hg1 hnil1 hat1; have hbw1 : Bw W w1 := Bw.grown (Bw.trans hbw9 (by repeat (first | with_reducible assumption | with_reducible exact Bw.refl _ | with_reducible refine Bw.alloc ?_ _ | with_reducible refine Bw.more ?_ _ _ | with_reducible refine Bw.drew ?_ | with_reducible refine Bw.drewN ?_ _ | ((with_reducible refine Bw.set2 ?_ ?_ _); (focus (first | omega | (simp only [szA, szS, szD, szN, plus_size, Array.size_append] <;> omega)))) | with_reducible refine Bw.trans ?_ (by with_reducible assumption)))) hg1 (fun q hq => (HO9.out.lt q hq).1)))
              go_roundw
              case rel =>
                refine ⟨k, rfl, [], l ++ [65533], by omega, Sl.nil_ _ _ _ (by omega), by simpa using hown1, by simp, by simp, by simp; omega, ?_, ?_, hbw1⟩
                · have h5 := HF1.out; rw [HD.out, HA.out] at h5; rw [HD.out]; exact h5
                · have h5 := HF2.out; rw [HD.out, HA.out] at h5; rw [HD.out, List.append_assoc]; exact h5
              case measure => simp [intOf]; omega
            · have hre' : r = [] := by simpa using hre
              subst hre'
              have HA := Lib.hid (dec_bad (t := bs.drop (k + 1)) HE1.out HE2.out)
              clear hre
              go_wp2_with (first | (go_at_call 25; refine (begin_any _ _ _ ([] ++ [x]) _ (by exact N3.up (by repeat (first | with_reducible assumption | with_reducible exact Bw.refl _ | with_reducible refine Bw.alloc ?_ _ | with_reducible refine Bw.more ?_ _ _ | with_reducible refine Bw.drew ?_ | with_reducible refine Bw.drewN ?_ _ | ((with_reducible refine Bw.set2 ?_ ?_ _); (focus (first | omega | (simp only [szA, szS, szD, szN, plus_size, Array.size_append] <;> omega)))) | with_reducible refine Bw.trans ?_ (by with_reducible assumption)))) (by exact N1) N2).mono ?_; rintro ee ww ⟨rfl, rfl⟩; rw [HE1.out]) | (go_at_call 26; refine (complete_any _ _ _ ([] ++ [x]) _ (by exact N3.up (by repeat (first | with_reducible assumption | with_reducible exact Bw.refl _ | with_reducible refine Bw.alloc ?_ _ | with_reducible refine Bw.more ?_ _ _ | with_reducible refine Bw.drew ?_ | with_reducible refine Bw.drewN ?_ _ | ((with_reducible refine Bw.set2 ?_ ?_ _); (focus (first | omega | (simp only [szA, szS, szD, szN, plus_size, Array.size_append] <;> omega)))) | with_reducible refine Bw.trans ?_ (by with_reducible assumption)))) (by exact N1) N2).mono ?_; rintro ee ww ⟨rfl, rfl⟩; rw [HE2.out]) | (at_builtin; refine wpList_append_own_at _ rfl (.tmp 51) (.tmp 52) 22 rfl W.heap.size 3 j0 (.int .i64 0) 1 8 Try.underlying22 hj hj0 hj1 hj2 rfl (by decide) _ l.length (l.map (.int .i64)) rfl (by exact (HO9.out.bw (by repeat (first | with_reducible assumption | with_reducible exact Bw.refl _ | with_reducible refine Bw.alloc ?_ _ | with_reducible refine Bw.more ?_ _ _ | with_reducible refine Bw.drew ?_ | with_reducible refine Bw.drewN ?_ _ | ((with_reducible refine Bw.set2 ?_ ?_ _); (focus (first | omega | (simp only [szA, szS, szD, szN, plus_size, Array.size_append] <;> omega)))) | with_reducible refine Bw.trans ?_ (by with_reducible assumption))))) ⟨wc.heap.size, 0, none⟩ 1 1 [.int .i64 65533] rfl rfl (cell_one_at (by go_simp)) (by simp; rfl) (by unfold maxLen; omega) (by omega) (by have := Below.size hbw9; simp; omega) ?_; intro v1 w1 hown1 hg1 hnil1 hat1; have hbw1 : Bw W w1 := Bw.grown (Bw.trans hbw9 (by repeat (first | with_reducible assumption | with_reducible exact Bw.refl _ | with_reducible refine Bw.alloc ?_ _ | with_reducible refine Bw.more ?_ _ _ | with_reducible refine Bw.drew ?_ | with_reducible refine Bw.drewN ?_ _ | ((with_reducible refine Bw.set2 ?_ ?_ _); (focus (first | omega | (simp only [szA, szS, szD, szN, plus_size, Array.size_append] <;> omega)))) | with_reducible refine Bw.trans ?_ (by with_reducible assumption)))) hg1 (fun q hq => (HO9.out.lt q hq).1)))
              go_roundw
              case rel =>
                refine ⟨k + 1, by go_num, [], l ++ [65533], by omega, Sl.nil_ _ _ _ (by omega), by simpa using hown1, by simp, by simp, by simp at hl1 ⊢; omega, ?_, ?_, hbw1⟩
                · have h5 := HF1.out; rw [HD.out, HA.out] at h5; exact h5
                · have h5 := HF2.out; rw [HD.out, HA.out] at h5; rw [List.append_assoc]; exact h5
              case measure => simp [intOf]; omega
          · have HE2 := Lib.hid hE2
            have N6 : N ≤ 4 := by rw [HN.out]; exact completeB_len hE2
            have HA := Lib.hid (dec_complete (t := bs.drop (k + 1)) HE1.out HE2.out)
            clear hE2
            go_wp2_with (first | (go_at_call 25; refine (begin_any _ _ _ (r ++ [x]) _ (by exact N3.up (by repeat (first | with_reducible assumption | with_reducible exact Bw.refl _ | with_reducible refine Bw.alloc ?_ _ | with_reducible refine Bw.more ?_ _ _ | with_reducible refine Bw.drew ?_ | with_reducible refine Bw.drewN ?_ _ | ((with_reducible refine Bw.set2 ?_ ?_ _); (focus (first | omega | (simp only [szA, szS, szD, szN, plus_size, Array.size_append] <;> omega)))) | with_reducible refine Bw.trans ?_ (by with_reducible assumption)))) (by exact N1) N2).mono ?_; rintro ee ww ⟨rfl, rfl⟩; rw [HE1.out]) | (go_at_call 26; refine (complete_any _ _ _ (r ++ [x]) _ (by exact N3.up (by repeat (first | with_reducible assumption | with_reducible exact Bw.refl _ | with_reducible refine Bw.alloc ?_ _ | with_reducible refine Bw.more ?_ _ _ | with_reducible refine Bw.drew ?_ | with_reducible refine Bw.drewN ?_ _ | ((with_reducible refine Bw.set2 ?_ ?_ _); (focus (first | omega | (simp only [szA, szS, szD, szN, plus_size, Array.size_append] <;> omega)))) | with_reducible refine Bw.trans ?_ (by with_reducible assumption)))) (by exact N1) N2).mono ?_; rintro ee ww ⟨rfl, rfl⟩; rw [HE2.out]) | (go_at_call 27; refine (value_any _ _ _ (r ++ [x]) _ (by exact N3.up (by repeat (first | with_reducible assumption | with_reducible exact Bw.refl _ | with_reducible refine Bw.alloc ?_ _ | with_reducible refine Bw.more ?_ _ _ | with_reducible refine Bw.drew ?_ | with_reducible refine Bw.drewN ?_ _ | ((with_reducible refine Bw.set2 ?_ ?_ _); (focus (first | omega | (simp only [szA, szS, szD, szN, plus_size, Array.size_append] <;> omega)))) | with_reducible refine Bw.trans ?_ (by with_reducible assumption)))) (by exact N1) N2 N4 (by rw [HN.out]; simp) N6).mono ?_; rintro ee ww ⟨rfl, q, rfl⟩) | (at_builtin; refine wpList_append_own_at _ rfl (.tmp 44) (.tmp 47) 22 rfl W.heap.size 3 j0 (.int .i64 0) 1 8 Try.underlying22 hj hj0 hj1 hj2 rfl (by decide) _ l.length (l.map (.int .i64)) rfl (by exact (HO9.out.bw (by repeat (first | with_reducible assumption | with_reducible exact Bw.refl _ | with_reducible refine Bw.alloc ?_ _ | with_reducible refine Bw.more ?_ _ _ | with_reducible refine Bw.drew ?_ | with_reducible refine Bw.drewN ?_ _ | ((with_reducible refine Bw.set2 ?_ ?_ _); (focus (first | omega | (simp only [szA, szS, szD, szN, plus_size, Array.size_append] <;> omega)))) | with_reducible refine Bw.trans ?_ (by with_reducible assumption))))) ⟨wc.heap.size, 0, none⟩ 1 1 [.int .i64 (valN (r ++ [x]))] rfl rfl (cell_one_at (by go_simp)) (by simp; rfl) (by unfold maxLen; omega) (by omega) (by have := Below.size hbw9; simp; omega) ?_; intro v1 w1 hown1 hg1 hnil1 hat1; have hbw1 : Bw W w1 := Bw.grown (Bw.trans hbw9 (by repeat (first | with_reducible assumption | with_reducible exact Bw.refl _ | with_reducible refine Bw.alloc ?_ _ | with_reducible refine Bw.more ?_ _ _ | with_reducible refine Bw.drew ?_ | with_reducible refine Bw.drewN ?_ _ | ((with_reducible refine Bw.set2 ?_ ?_ _); (focus (first | omega | (simp only [szA, szS, szD, szN, plus_size, Array.size_append] <;> omega)))) | with_reducible refine Bw.trans ?_ (by with_reducible assumption)))) hg1 (fun q hq => (HO9.out.lt q hq).1)))
            go_roundw
            case rel =>
              refine ⟨k + 1, by go_num, [], l ++ [valN (r ++ [x])], by omega, Sl.nil_ _ _ _ (by omega), by simpa using hown1, by simp, by simp, by simp; omega, ?_, ?_, hbw1⟩
              · have h5 := HF1.out; rw [HD.out, HA.out] at h5; exact h5
              · have h5 := HF2.out; rw [HD.out, HA.out] at h5; rw [List.append_assoc]; exact h5
            case measure => simp [intOf]; omega
        · have HE1 := Lib.hid hE1
          clear hE1
          go_wp2_with (go_at_call 25; refine (begin_any _ _ _ (r ++ [x]) _ (by exact N3.up (by repeat (first | with_reducible assumption | with_reducible exact Bw.refl _ | with_reducible refine Bw.alloc ?_ _ | with_reducible refine Bw.more ?_ _ _ | with_reducible refine Bw.drew ?_ | with_reducible refine Bw.drewN ?_ _ | ((with_reducible refine Bw.set2 ?_ ?_ _); (focus (first | omega | (simp only [szA, szS, szD, szN, plus_size, Array.size_append] <;> omega)))) | with_reducible refine Bw.trans ?_ (by with_reducible assumption)))) (by exact N1) N2).mono ?_; rintro ee ww ⟨rfl, rfl⟩; rw [HE1.out])
          go_roundw
          case rel =>
            refine ⟨k + 1, by go_num, r ++ [x], l, by omega, Sl.mk' HN.out N1 N2 N3, HO9.out, N4, fun _ => HE1.out, by simp; omega, ?_, ?_, hbw9⟩
            · have := HF1.out; rw [HD.out, dec_begin HE1.out] at this; exact this
            · have := HF2.out; rw [HD.out, dec_begin HE1.out] at this; exact this
          case measure => simp [intOf]; omega
    · have hk' : bs.length ≤ k := by have := hb.1; omega
      rw [List.drop_eq_nil_of_le hk'] at hF1 hF2
      have e1 : r = (dec [] bs).1 := hF1
      have e2 : l = (dec [] bs).2 := by rw [← hF2]; show l = l ++ []; simp
      have HE1 := Lib.hid e1
      have HE2 := Lib.hid e2
      have HO := Lib.hid hown
      have HR := Lib.hid hR
      clear hF1 hF2 e1 e2 hown hR hrb hrg
      have zc : wr.cell? ⟨w.heap.size + 1, 0, none⟩ = some (.slice none 0 0) := cell_bw hbw hEc
      have zf : wr.frozen? ⟨w.heap.size + 1, 0, none⟩ = false := (Below.frozen hbw (p := ⟨w.heap.size + 1, 0, none⟩) hEz).trans hEf
      go_wp2
      refine bodyPost_ret (by simp [results, Try.results10, go_sem, zc]; rfl) rfl ?_
      refine ⟨_, _, rfl, ?_, ?_, (hEw.trans hbw).set (by dsimp only; omega) _⟩
      · rw [← HE1.out]
        exact (Sl.mk' rfl hrc1 hrc2 HR.out).set zc (by simp) _
      · rw [← HE2.out]
        exact (Sl.of_own HO.out).set zc (by simp) _
end Go.Proofs.Ytagihjchhpiipaa
