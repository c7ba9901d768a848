/- Attributes: the walk of the reference's Apply. -/
import Derived.Test.YtacekeobmijipaaDoorAtO
set_option linter.unusedSimpArgs false
set_option linter.unusedVariables false
namespace Go.Proofs.YtacekeobmijipaaDoor
open Go.RowKit

theorem ext_five (y : Int) (r : List Int) : ext (5 :: y :: r) = (2, if 0 ≤ y ∧ y ≤ 15 then y + 1 else 0) := rfl
theorem ext_two (r : List Int) : (ext (2 :: r)).2 = 0 ∧ (2 :: r).drop (ext (2 :: r)).1 = (2 :: r).drop 4 := by
  match r with
  | [] => exact ⟨rfl, rfl⟩
  | y :: r' =>
    refine ⟨rfl, ?_⟩
    show (2 :: y :: r').drop (min (r'.length + 2) 4) = _
    by_cases h : r'.length + 2 ≤ 4
    · rw [Nat.min_eq_left h, List.drop_eq_nil_of_le (by simp), List.drop_eq_nil_of_le (by simp; omega)]
    · rw [Nat.min_eq_right (by omega)]
theorem ext_no1 (x : Int) (h : x ≠ 2) : ext [x] = (0, 0) := if_neg h
theorem ext_no (x y : Int) (r : List Int) (h2 : x ≠ 2) (h5 : x ≠ 5) : ext (x :: y :: r) = (0, 0) := by
  show (if x = 5 then _ else if x = 2 then _ else ((0, 0) : Nat × Int)) = _
  rw [if_neg h5, if_neg h2]
theorem drop_cons {L : List Int} {k : Nat} (h : k < L.length) : L.drop k = L[k] :: L.drop (k + 1) := List.drop_eq_getElem_cons h

set_option maxRecDepth 100000 in
set_option maxHeartbeats 4000000 in
theorem rapply_any (f g b : Int) (A : Option Addr) (n c : Nat) (L : List Int) (w : World) (hr : Rd (.int .i64) w A n L) (hn : n ≤ c) (hc : c ≤ 9223372036854775807) (hn2 : n ≤ 1000) :
    Calls Tryd.prog 17 #[atV f g b, .slice A n c] w (AtP w (applA L (f, g, b))) := by
  unfold atV
  have HR := Lib.hid hr
  have hl := hr.1
  have HL := Lib.hid hl
  clear hr hl
  go_enter Tryd.func17, Tryd.ntmps17
  go_wp2
  go_loopw [5] (fun i wr => ∃ (k : Nat) (a : Int × Int × Int), i = .int .i64 k ∧ k ≤ n + 5 ∧ AtC wr w.heap.size a ∧ AtC wr (w.heap.size + 1) (0, 0, 0) ∧ Bw w wr ∧ applA (L.drop k) a = applA L (f, g, b)) (fun i _ => n + 5 - (intOf i).toNat)
  case atStart => exact ⟨0, (f, g, b), rfl, by omega, ⟨⟨(by repeat (first | ((with_reducible refine cell_alloc_here ?_ ?_); (focus (first | omega | (simp only [szA, szS, szD, szN, plus_size, Array.size_append] <;> omega))); (focus rfl)) | with_reducible refine cell_alloc_some ?_ _ | with_reducible refine cell_plus_some ?_ _ _ | ((with_reducible refine cell_set_some ?_ ?_); (focus (first | omega | (simp only [szA, szS, szD, szN, plus_size, Array.size_append] <;> omega)))) | with_reducible refine cell_drew_some ?_ | with_reducible refine cell_drewN_some ?_ _)), (by repeat (first | ((with_reducible refine cell_alloc_here ?_ ?_); (focus (first | omega | (simp only [szA, szS, szD, szN, plus_size, Array.size_append] <;> omega))); (focus rfl)) | with_reducible refine cell_alloc_some ?_ _ | with_reducible refine cell_plus_some ?_ _ _ | ((with_reducible refine cell_set_some ?_ ?_); (focus (first | omega | (simp only [szA, szS, szD, szN, plus_size, Array.size_append] <;> omega)))) | with_reducible refine cell_drew_some ?_ | with_reducible refine cell_drewN_some ?_ _)), (by repeat (first | ((with_reducible refine cell_alloc_here ?_ ?_); (focus (first | omega | (simp only [szA, szS, szD, szN, plus_size, Array.size_append] <;> omega))); (focus rfl)) | with_reducible refine cell_alloc_some ?_ _ | with_reducible refine cell_plus_some ?_ _ _ | ((with_reducible refine cell_set_some ?_ ?_); (focus (first | omega | (simp only [szA, szS, szD, szN, plus_size, Array.size_append] <;> omega)))) | with_reducible refine cell_drew_some ?_ | with_reducible refine cell_drewN_some ?_ _))⟩, by simp [go_sem], by simp [go_sem], by simp [go_sem]⟩, ⟨⟨(by repeat (first | ((with_reducible refine cell_alloc_here ?_ ?_); (focus (first | omega | (simp only [szA, szS, szD, szN, plus_size, Array.size_append] <;> omega))); (focus rfl)) | with_reducible refine cell_alloc_some ?_ _ | with_reducible refine cell_plus_some ?_ _ _ | ((with_reducible refine cell_set_some ?_ ?_); (focus (first | omega | (simp only [szA, szS, szD, szN, plus_size, Array.size_append] <;> omega)))) | with_reducible refine cell_drew_some ?_ | with_reducible refine cell_drewN_some ?_ _)), (by repeat (first | ((with_reducible refine cell_alloc_here ?_ ?_); (focus (first | omega | (simp only [szA, szS, szD, szN, plus_size, Array.size_append] <;> omega))); (focus rfl)) | with_reducible refine cell_alloc_some ?_ _ | with_reducible refine cell_plus_some ?_ _ _ | ((with_reducible refine cell_set_some ?_ ?_); (focus (first | omega | (simp only [szA, szS, szD, szN, plus_size, Array.size_append] <;> omega)))) | with_reducible refine cell_drew_some ?_ | with_reducible refine cell_drewN_some ?_ _)), (by repeat (first | ((with_reducible refine cell_alloc_here ?_ ?_); (focus (first | omega | (simp only [szA, szS, szD, szN, plus_size, Array.size_append] <;> omega))); (focus rfl)) | with_reducible refine cell_alloc_some ?_ _ | with_reducible refine cell_plus_some ?_ _ _ | ((with_reducible refine cell_set_some ?_ ?_); (focus (first | omega | (simp only [szA, szS, szD, szN, plus_size, Array.size_append] <;> omega)))) | with_reducible refine cell_drew_some ?_ | with_reducible refine cell_drewN_some ?_ _))⟩, by simp [go_sem], by simp [go_sem], by simp [go_sem]⟩, (by repeat (first | with_reducible assumption | with_reducible exact Bw.refl _ | with_reducible refine Bw.alloc ?_ _ | with_reducible refine Bw.more ?_ _ _ | with_reducible refine Bw.drew ?_ | with_reducible refine Bw.drewN ?_ _ | ((with_reducible refine Bw.set2 ?_ ?_ _); (focus (first | omega | (simp only [szA, szS, szD, szN, plus_size, Array.size_append] <;> omega)))) | with_reducible refine Bw.trans ?_ (by with_reducible assumption))), rfl⟩
  case round =>
    obtain ⟨k, ⟨a1, a2, a3⟩, rfl, hk, hC, hZ, hbw, hF⟩ := hrel
    have HF := Lib.hid hF
    have HZ := Lib.hid hZ
    obtain ⟨⟨y0, y1, y2⟩, z0, z1, z2⟩ := hC
    dsimp only at y0 y1 y2
    have hgz := lt_of_cell y0
    dsimp only at hgz
    have hgz2 := lt_of_cell hZ.1.1
    dsimp only at hgz2
    clear hF hZ
    by_cases hlt : k < n
    · have hl := HL.out
      obtain ⟨ga, o, rfl, hx⟩ := HR.out.2 (by omega)
      have HXX := Lib.hid (fun (i : Nat) (h : i < L.length) => cell_bw hbw (hx i h))
      have hx1 := HXX.out k (by omega)
      obtain ⟨p, hp⟩ : ∃ p, p = L[k] := ⟨_, rfl⟩
      rw [← hp] at hx1
      have HD := Lib.hid (show L.drop k = p :: L.drop (k + 1) by rw [hp]; exact drop_cons (by omega))
      clear hx hp hl
      by_cases h38 : p = 38 ∨ p = 48
      · have HX := Lib.hid (show applA ((L.drop (k + 1)).drop (ext (L.drop (k + 1))).1) (setc p (ext (L.drop (k + 1))).2 (a1, a2, a3)) = applA L (f, g, b) by
          have := HF.out
          rw [HD.out, applA_ext _ _ _ h38] at this
          exact this)
        by_cases hk1 : k + 1 < n
        · obtain ⟨x, hxx⟩ : ∃ x, x = L[k + 1]'(by have := HL.out; omega) := ⟨_, rfl⟩
          have hx2 := HXX.out (k + 1) (by have := HL.out; omega)
          rw [← hxx] at hx2
          have HD1 := Lib.hid (show L.drop (k + 1) = x :: L.drop (k + 2) by rw [hxx]; exact drop_cons (by have := HL.out; omega))
          clear hxx
          by_cases hk2 : k + 2 < n
          · obtain ⟨y, hyy⟩ : ∃ y, y = L[k + 2]'(by have := HL.out; omega) := ⟨_, rfl⟩
            have hx3 := HXX.out (k + 2) (by have := HL.out; omega)
            rw [← hyy] at hx3
            have HD2 := Lib.hid (show L.drop (k + 2) = y :: L.drop (k + 3) by rw [hyy]; exact drop_cons (by have := HL.out; omega))
            clear hyy
            by_cases h5 : x = 5
            · subst h5
              have h6 := HX.out
              rw [HD1.out, HD2.out, ext_five] at h6
              by_cases hy : 0 ≤ y ∧ y ≤ 15
              · rw [if_pos hy] at h6
                have HIN := Lib.hid hy
                have hy1 := hy.1
                have hy2 := hy.2
                clear hy
                rcases h38 with rfl | rfl
                · have H6 := Lib.hid (show applA (L.drop (k + 3)) (a1, y + 1, a3) = applA L (f, g, b) by rw [setc, if_neg (by omega), if_pos rfl] at h6; exact h6)
                  clear h6
                  go_wp2_with (first | (go_at_call 24; refine (rin_yes _ _ _ _ (by exact HIN.out)).mono ?_; rintro ee ww ⟨rfl, rfl⟩) | fail)
                  go_roundw
                  case rel => exact ⟨k + 3, (a1, y + 1, a3), by go_num, by omega, AtC.set1 (a := (a1, a2, a3)) ⟨⟨y0, y1, y2⟩, z0, z1, z2⟩ _, HZ.out.away (by omega) _, hbw.set (by dsimp only; omega) _, H6.out⟩
                  case measure => simp [intOf]; omega
                · have H6 := Lib.hid (show applA (L.drop (k + 3)) (a1, a2, y + 1) = applA L (f, g, b) by rw [setc, if_neg (by omega), if_neg (by omega)] at h6; exact h6)
                  clear h6
                  go_wp2_with (first | (go_at_call 24; refine (rin_yes _ _ _ _ (by exact HIN.out)).mono ?_; rintro ee ww ⟨rfl, rfl⟩) | fail)
                  go_roundw
                  case rel => exact ⟨k + 3, (a1, a2, y + 1), by go_num, by omega, AtC.set2 (a := (a1, a2, a3)) ⟨⟨y0, y1, y2⟩, z0, z1, z2⟩ _, HZ.out.away (by omega) _, hbw.set (by dsimp only; omega) _, H6.out⟩
                  case measure => simp [intOf]; omega
              · rw [if_neg hy] at h6
                have HIN := Lib.hid (show y < 0 ∨ 15 < y by omega)
                have H6 := Lib.hid (show applA (L.drop (k + 3)) (a1, a2, a3) = applA L (f, g, b) by rw [setc, if_pos rfl] at h6; exact h6)
                clear hy h6
                rcases h38 with rfl | rfl
                all_goals
                  go_wp2_with (first | (go_at_call 24; refine (rin_no _ _ _ _ (by exact HIN.out)).mono ?_; rintro ee ww ⟨rfl, rfl⟩) | fail)
                  go_roundw
                  case rel => exact ⟨k + 3, (a1, a2, a3), by go_num, by omega, ⟨⟨y0, y1, y2⟩, z0, z1, z2⟩, HZ.out, hbw, H6.out⟩
                  case measure => simp [intOf]; omega
            · have h5b : (x == 5) = false := by simpa using h5
              by_cases h2 : x = 2
              · subst h2
                have H6 := Lib.hid (show applA (L.drop (k + 5)) (a1, a2, a3) = applA L (f, g, b) by
                  have h6 := HX.out
                  rw [HD1.out, (ext_two _).2, (ext_two _).1, setc, if_pos rfl, ← HD1.out, List.drop_drop] at h6
                  exact h6)
                rcases h38 with rfl | rfl
                all_goals
                  go_wp2_with fail
                  go_roundw
                  case rel => exact ⟨k + 5, (a1, a2, a3), by go_num, by omega, ⟨⟨y0, y1, y2⟩, z0, z1, z2⟩, HZ.out, hbw, H6.out⟩
                  case measure => simp [intOf]; omega
              · have h2b : (x == 2) = false := by simpa using h2
                have H6 := Lib.hid (show applA (L.drop (k + 1)) (a1, a2, a3) = applA L (f, g, b) by
                  have h6 := HX.out
                  have e := ext_no x y (L.drop (k + 3)) h2 h5
                  rw [← HD2.out, ← HD1.out] at e
                  rw [e, setc, if_pos rfl] at h6
                  exact h6)
                clear h2 h5
                rcases h38 with rfl | rfl
                all_goals
                  go_wp2_with fail
                  go_roundw
                  case rel => exact ⟨k + 1, (a1, a2, a3), by go_num, by omega, ⟨⟨y0, y1, y2⟩, z0, z1, z2⟩, HZ.out, hbw, H6.out⟩
                  case measure => simp [intOf]; omega
          · have HD2 := Lib.hid (show L.drop (k + 2) = [] from List.drop_eq_nil_of_le (by have := HL.out; omega))
            by_cases h2 : x = 2
            · subst h2
              have H6 := Lib.hid (show applA (L.drop (k + 5)) (a1, a2, a3) = applA L (f, g, b) by
                have h6 := HX.out
                rw [HD1.out, (ext_two _).2, (ext_two _).1, setc, if_pos rfl, ← HD1.out, List.drop_drop] at h6
                exact h6)
              rcases h38 with rfl | rfl
              all_goals
                go_wp2_with fail
                go_roundw
                case rel => exact ⟨k + 5, (a1, a2, a3), by go_num, by omega, ⟨⟨y0, y1, y2⟩, z0, z1, z2⟩, HZ.out, hbw, H6.out⟩
                case measure => simp [intOf]; omega
            · have h2b : (x == 2) = false := by simpa using h2
              have H6 := Lib.hid (show applA (L.drop (k + 1)) (a1, a2, a3) = applA L (f, g, b) by
                have h6 := HX.out
                have e := ext_no1 x h2
                rw [← HD2.out, ← HD1.out] at e
                rw [e, setc, if_pos rfl] at h6
                exact h6)
              clear h2
              rcases h38 with rfl | rfl
              all_goals
                go_wp2_with fail
                go_roundw
                case rel => exact ⟨k + 1, (a1, a2, a3), by go_num, by omega, ⟨⟨y0, y1, y2⟩, z0, z1, z2⟩, HZ.out, hbw, H6.out⟩
                case measure => simp [intOf]; omega
        · have HD1 := Lib.hid (show L.drop (k + 1) = [] from List.drop_eq_nil_of_le (by have := HL.out; omega))
          have H6 := Lib.hid (show applA (L.drop (k + 1)) (a1, a2, a3) = applA L (f, g, b) by
            have h6 := HX.out
            rw [HD1.out] at h6
            rw [HD1.out]
            exact h6)
          rcases h38 with rfl | rfl
          all_goals
            go_wp2_with fail
            go_roundw
            case rel => exact ⟨k + 1, (a1, a2, a3), by go_num, by omega, ⟨⟨y0, y1, y2⟩, z0, z1, z2⟩, HZ.out, hbw, H6.out⟩
            case measure => simp [intOf]; omega
      · have h1 : (p != 38) = true := by simp; omega
        have h2 : (p != 48) = true := by simp; omega
        have HX := Lib.hid (show applA (L.drop (k + 1)) (single a1 a2 a3 p) = applA L (f, g, b) by
          have := HF.out
          rw [HD.out, applA_one _ _ _ (by omega) (by omega)] at this
          exact this)
        clear h38
        obtain ⟨s1, s2, s3, hs⟩ : ∃ s1 s2 s3, single a1 a2 a3 p = (s1, s2, s3) := ⟨_, _, _, rfl⟩
        rw [hs] at HX
        have HS := Lib.hid hs
        clear hs
        go_wp2_with (first | (go_at_call 27; refine (rone_any a1 a2 a3 p _).mono ?_; rintro ee ww ⟨rfl, hb1⟩; rw [HS.out]; dsimp only [at3, atV]; have hY := AtC.bw (g := w.heap.size) (a := (a1, a2, a3)) ⟨⟨y0, y1, y2⟩, z0, z1, z2⟩ hb1; obtain ⟨⟨x0, x1, x2⟩, v0, v1, v2⟩ := hY; dsimp only at x0 x1 x2) | fail)
        go_roundw
        case rel =>
          have hY := AtC.bw (g := w.heap.size) (a := (a1, a2, a3)) ⟨⟨y0, y1, y2⟩, z0, z1, z2⟩ hb1
          have hZ := HZ.out.bw hb1
          refine ⟨k + 1, (s1, s2, s3), by go_num, by omega, ((hY.set0 s1).set1 s2).set2 s3, ((hZ.away (by omega) _).away (by omega) _).away (by omega) _, ?_, HX.out⟩
          exact (((hbw.trans hb1).set (by dsimp only; omega) _).set (by dsimp only; omega) _).set (by dsimp only; omega) _
        case measure => simp [intOf]; omega
    · have hF := HF.out
      rw [List.drop_eq_nil_of_le (by have := HL.out; omega), applA_nil] at hF
      have HF2 := Lib.hid hF
      obtain ⟨⟨x0, x1, x2⟩, v0, v1, v2⟩ := HZ.out
      dsimp only at x0 x1 x2
      clear hF HF
      go_wp2
      refine bodyPost_ret (by simp [results, Tryd.results17, go_sem, x0, x1, x2]; rfl) rfl ?_
      rw [← HF2.out]
      exact ⟨rfl, (by repeat (first | with_reducible assumption | with_reducible exact Bw.refl _ | with_reducible refine Bw.alloc ?_ _ | with_reducible refine Bw.more ?_ _ _ | with_reducible refine Bw.drew ?_ | with_reducible refine Bw.drewN ?_ _ | ((with_reducible refine Bw.set2 ?_ ?_ _); (focus (first | omega | (simp only [szA, szS, szD, szN, plus_size, Array.size_append] <;> omega)))) | with_reducible refine Bw.trans ?_ (by with_reducible assumption)))⟩
end Go.Proofs.YtacekeobmijipaaDoor
