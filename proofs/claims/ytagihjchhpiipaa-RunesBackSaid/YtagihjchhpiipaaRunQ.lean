/- The law RunesBack: walked. -/
import Derived.Test.YtagihjchhpiipaaRunP
set_option linter.unusedSimpArgs false
set_option linter.unusedVariables false
namespace Go.Proofs.Ytagihjchhpiipaa
open Go.RowKit

theorem few_any (A : Option Addr) (n c : Nat) (w : World) : Calls Try.prog 20 #[.slice A n c] w fun e w' => e = .returned (.bool (decide ((n : Int) ≤ 200))) ∧ w = w' := by
  go_enter Try.func20, Try.ntmps20
  go_wp2
  go_ret
  exact ⟨rfl, rfl⟩

def chr (v : Int) : Int := if 55296 ≤ v % 1114112 ∧ v % 1114112 ≤ 57343 then 65533 else v % 1114112
theorem chr_char (v : Int) : charB (chr v) = true := by
  have h1 := Int.emod_nonneg v (show (1114112 : Int) ≠ 0 by omega)
  have h2 := Int.emod_lt_of_pos v (show (0 : Int) < 1114112 by omega)
  unfold chr charB
  split <;> simp <;> omega
theorem flat_snoc (L : List Int) (v : Int) : (L ++ [v]).flatMap encC = L.flatMap encC ++ encC v := by simp
theorem flat_len : ∀ L : List Int, (L.flatMap encC).length ≤ 4 * L.length
  | [] => by simp
  | v :: L => by have := flat_len L; have := (encC_len v).2; rw [List.flatMap_cons, List.length_append, List.length_cons]; omega

set_option maxHeartbeats 2000000 in
theorem runesBack_any (A : Option Addr) (n cap : Nat) (xs : List Int) (w : World) (hr : Rd (.int .i64) w A n xs) (hn : n ≤ cap) (hc : cap ≤ 9223372036854775807) :
    Calls Try.prog 6 #[.slice A n cap] w fun e w' => e = .returned (.bool true) ∧ Bw w w' := by
  obtain ⟨i0, hi, hz0, hz1, hz2⟩ := info_parts infoB
  obtain ⟨j0, hj, hj0, hj1, hj2⟩ := info_parts infoI
  by_cases hfew : n ≤ 200
  · have HF := Lib.hid (show decide ((n : Int) ≤ 200) = true by simp; omega)
    go_enter Try.func6, Try.ntmps6
    go_wp2_with (first | (go_at_call 7; refine (sane04_any _).mono ?_; rintro ee ww ⟨rfl, hb1⟩; (first | obtain ⟨L1, d1, rfl⟩ := Bw.isPlus (Bw.un hb1) | obtain ⟨L1, d1, rfl⟩ := Bw.isPlus hb1); clear hb1) | (go_at_call 20; refine (few_any _ _ _ _).mono ?_; rintro ee ww ⟨rfl, rfl⟩; rw [HF.out]))
    go_loopw [3, 4, 17] (fun s3 s4 i wr => ∃ (k : Nat) (L B : List Int), i = .int .i64 k ∧ k ≤ n ∧ L = (xs.take k).map chr ∧ B = L.flatMap encC ∧ wr.ownsRow w.heap.size 5 1 s3 B.length (B.map (.int .u8)) ∧ wr.ownsRow w.heap.size 3 1 s4 k (L.map (.int .i64)) ∧ Bw w wr) (fun _ _ i _ => n - (intOf i).toNat)
    case atStart => exact ⟨0, [], [], rfl, by omega, by simp, rfl, World.ownsRow_nil _ _ _ _, World.ownsRow_nil _ _ _ _, (by repeat (first | with_reducible assumption | with_reducible exact Bw.refl _ | with_reducible refine Bw.alloc ?_ _ | with_reducible refine Bw.more ?_ _ _ | with_reducible refine Bw.drew ?_ | with_reducible refine Bw.drewN ?_ _ | ((with_reducible refine Bw.set2 ?_ ?_ _); (focus (first | omega | (simp only [szA, szS, szD, szN, plus_size] <;> omega)))) | with_reducible refine Bw.trans ?_ (by with_reducible assumption)))⟩
    case round =>
      rename_i wr
      obtain ⟨k, L, B, rfl, hk, hL, hB, hown3, hown4, hbw⟩ := hrel
      have hLl : L.length = k := by have := hr.1; rw [hL]; simp; omega
      have hBl : B.length ≤ 800 := by have := flat_len L; rw [hB]; omega
      obtain ⟨A3, c3, rfl, hc3, hc3m⟩ := own_form hown3
      obtain ⟨A4, c4, rfl, hc4, hc4m⟩ := own_form hown4
      have HO3 := Lib.hid hown3
      have HO4 := Lib.hid hown4
      have HL := Lib.hid hL
      have HB := Lib.hid hB
      have HLl := Lib.hid hLl
      clear hown3 hown4 hL hB hLl
      by_cases hlt : k < n
      · have hl := hr.1
        obtain ⟨g, o, rfl, hx⟩ := hr.2 (by omega)
        have hx1 := cell_bw hbw (hx k (by omega))
        obtain ⟨x, hxx⟩ : ∃ x, x = xs[k] := ⟨_, rfl⟩
        rw [← hxx] at hx1
        have HX := Lib.hid (show (xs.take (k + 1)).map chr = (xs.take k).map chr ++ [chr x] by rw [List.take_succ_eq_append_getElem (by omega), List.map_append, hxx]; rfl)
        have HRR := Lib.hid hr
        clear hr hx
        obtain ⟨y, hy⟩ : ∃ y, x % 1114112 = y := ⟨_, rfl⟩
        have y1 : 0 ≤ y := by rw [← hy]; exact Int.emod_nonneg x (by omega)
        have y2 : y < 1114112 := by rw [← hy]; exact Int.emod_lt_of_pos x (by omega)
        have HY := Lib.hid hy
        clear hy hxx hl
        have hcases : (y < 55296 ∨ 57343 < y) ∨ (55296 ≤ y ∧ y ≤ 57343) := by omega
        obtain ⟨z, hzz⟩ : ∃ z, z = chr x := ⟨_, rfl⟩
        have hz3 : z = if 55296 ≤ y ∧ y ≤ 57343 then 65533 else y := by rw [hzz]; unfold chr; rw [HY.out]
        have hzc : charB z = true := by rw [hzz]; exact chr_char x
        have HZ := Lib.hid hzz
        have HZC := Lib.hid hzc
        clear hzz hzc
        obtain ⟨t, htt⟩ : ∃ t, t = decide (55296 ≤ y ∧ y ≤ 57343) := ⟨_, rfl⟩
        have hbx : (t = false ∧ z = y ∧ y < 55296) ∨ (t = false ∧ z = y ∧ 57343 < y) ∨ (t = true ∧ z = 65533 ∧ 55296 ≤ y ∧ y ≤ 57343) := by
          rcases hcases with (h | h) | h
          · exact .inl ⟨by rw [htt]; simp; omega, by rw [hz3, if_neg (by omega)], h⟩
          · exact .inr (.inl ⟨by rw [htt]; simp; omega, by rw [hz3, if_neg (by omega)], h⟩)
          · exact .inr (.inr ⟨by rw [htt]; simp; omega, by rw [hz3, if_pos h], h⟩)
        clear hz3 hcases htt
        go_upto_region 11 with (first | (go_at_call 9; refine (mmod_any _ _ _ (by omega) (by omega)).mono ?_; rintro ee ww ⟨rfl, rfl⟩; rw [HY.out]))
        go_cut [28] (fun s w' => s = .bool t ∧ wr = w')
        case first =>
          rcases hbx with ⟨rfl, rfl, hb1⟩ | ⟨rfl, rfl, hb1⟩ | ⟨rfl, rfl, hb1, hb2⟩
          all_goals
            go_wp2
            go_meet
            case rel => exact ⟨by first | rfl | (simp; done) | (simp; omega), rfl⟩
        case rest =>
        obtain ⟨rfl, rfl⟩ := hcut
        go_upto_if 28 with (fail)
        go_cut [7] (fun s w' => s = .int .i64 z ∧ wr = w')
        case first =>
          rcases hbx with ⟨rfl, rfl, hb1⟩ | ⟨rfl, rfl, hb1⟩ | ⟨rfl, rfl, hb1, hb2⟩
          all_goals
            go_wp2
            go_meet
            case rel => exact ⟨rfl, rfl⟩
        case rest =>
          obtain ⟨rfl, rfl⟩ := hcut
          clear hbx
          obtain ⟨N, hN⟩ : ∃ N, (encC z).length = N := ⟨_, rfl⟩
          have hN1 := (encC_len z).1
          have hN2 := (encC_len z).2
          rw [hN] at hN1 hN2
          have HN := Lib.hid hN
          clear hN
          have HE := Lib.hid (show encN z = encC z by unfold encN; rw [if_pos HZC.out])
          go_wp2_with fail
          refine (encode_any _ _).mono ?_
          rintro e w1 ⟨v, rfl, hS, hb1⟩
          rw [HE.out] at hS
          obtain ⟨A1, c1, rfl, hc1, hc1m, hR1⟩ := hS.get HN.out
          obtain ⟨g1, o1, rfl, -⟩ := hR1.2 (by omega)
          have HN1 := Lib.hid (hR1.news)
          have HO3' := Lib.hid (HO3.out.bw hb1)
          have HO4' := Lib.hid (HO4.out.bw hb1)
          have hbw1 : Bw w w1 := hbw.trans hb1
          clear hS hR1
          go_wp2_with (first | (at_builtin; refine wpList_append_own _ rfl (.tmp 29) (.tmp 31) 23 rfl w.heap.size 5 i0 (.int .u8 0) 1 1 Try.underlying23 hi hz0 hz1 hz2 rfl (by decide) (.slice A3 B.length c3) B.length (B.map (.int .u8)) rfl HO3'.out ⟨g1, o1, none⟩ N c1 ((encC z).map (.int .u8)) rfl (by rw [List.length_map, HN.out]; omega) HN1.out (one_map (fun _ => rfl) _) (by unfold maxLen; omega) (by omega) (hbw1.size) ?_; intro v2 w2 hown5 hg5 hnil5; have HO5 := Lib.hid hown5; have HO6 := Lib.hid (own_other HO4'.out HO3'.out (by decide) hg5); have hbw2 : Bw w w2 := Bw.row hbw1 HO3'.out hg5 (Nat.le_refl _); clear hown5 hg5 hnil5) | (at_builtin; refine wpList_append_own _ rfl (.tmp 33) (.tmp 35) 22 rfl w.heap.size 3 j0 (.int .i64 0) 1 8 Try.underlying22 hj hj0 hj1 hj2 rfl (by decide) (.slice A4 k c4) k (L.map (.int .i64)) rfl (HO6.out.alloc _) ⟨w2.heap.size, 0, none⟩ 1 1 [.int .i64 z] rfl rfl (cell_one_new _ _ _) (by simp; rfl) (by unfold maxLen; omega) (by omega) (by have := hbw2.size; simp; omega) ?_; intro v3 w3 hown7 hg7 hnil7; have HO7 := Lib.hid hown7; have HO8 := Lib.hid (own_other (HO5.out.alloc _) (HO6.out.alloc _) (by decide) hg7); have hbw3 : Bw w w3 := Bw.row (hbw2.alloc _) (HO6.out.alloc _) hg7 (Nat.le_refl _); clear hown7 hg7 hnil7))
          go_roundw
          case rel =>
            refine ⟨k + 1, L ++ [z], B ++ encC z, by go_num, by omega, by rw [HX.out, ← HL.out, HZ.out], by rw [flat_snoc, HB.out], ?_, ?_, hbw3⟩
            · rw [List.length_append, HN.out, List.map_append]; exact HO8.out
            · rw [List.map_append]; exact HO7.out
          case measure => simp [intOf]; omega
      · obtain rfl : k = n := by omega
        have hLx := HL.out
        rw [List.take_of_length_le (by have := hr.1; omega)] at hLx
        have hLc : ∀ v ∈ L, charB v = true := by
          intro v hv
          rw [hLx] at hv
          obtain ⟨y, -, rfl⟩ := List.mem_map.1 hv
          exact chr_char y
        have hB255 : ∀ x ∈ B, 0 ≤ x ∧ x ≤ 255 := by
          intro x hx
          rw [HB.out] at hx
          obtain ⟨v, hv, hx⟩ := List.mem_flatMap.1 hx
          exact encC_byte v (hLc v hv) x hx
        have HD := Lib.hid (show dec (restB []) B = ([], L) by rw [HB.out]; exact dec_back L hLc)
        have HR3 := Lib.hid (own_rd HO3.out)
        have HR4 := Lib.hid (own_rd HO4.out)
        clear hLx hLc hr
        obtain ⟨M, hM⟩ : ∃ M, B.length = M := ⟨_, rfl⟩
        rw [hM] at hc3 hBl HR3
        rw [hM]
        clear hM
        go_wp2_with fail
        refine (decode_any none A3 0 0 M c3 [] B _ (Rd.nil_ _ _) (by omega) (by omega) (by exact HR3.out.up (by repeat (first | with_reducible assumption | with_reducible exact Bw.refl _ | with_reducible refine Bw.alloc ?_ _ | with_reducible refine Bw.more ?_ _ _ | with_reducible refine Bw.drew ?_ | with_reducible refine Bw.drewN ?_ _ | ((with_reducible refine Bw.set2 ?_ ?_ _); (focus (first | omega | (simp only [szA, szS, szD, szN, plus_size] <;> omega)))) | with_reducible refine Bw.trans ?_ (by with_reducible assumption)))) (by omega) (by omega) (by omega) hB255 (by simp)).mono ?_
        rintro e w1 ⟨vr, vl, rfl, hSr, hSl, hb1⟩
        rw [HD.out] at hSr hSl
        obtain ⟨A5, c5, rfl, hc5, hc5m, hR5⟩ := hSr.get (N := 0) rfl
        obtain ⟨A6, c6, rfl, hc6, hc6m, hR6⟩ := hSl.get (N := k) HLl.out
        have HR4' := Lib.hid (HR4.out.up hb1)
        obtain ⟨L9, d9, rfl⟩ := Bw.isPlus hb1
        have HR6 := Lib.hid hR6
        have HR5 := Lib.hid hR5
        clear hSr hSl hR5 hR6 hb1 hB255
        go_wp2_with (first | (go_at_call 12; refine (same_eq _ _ _ _ _ _ L _ (by exact HR6.out.up (by repeat (first | with_reducible assumption | with_reducible exact Bw.refl _ | with_reducible refine Bw.alloc ?_ _ | with_reducible refine Bw.more ?_ _ _ | with_reducible refine Bw.drew ?_ | with_reducible refine Bw.drewN ?_ _ | ((with_reducible refine Bw.set2 ?_ ?_ _); (focus (first | omega | (simp only [szA, szS, szD, szN, plus_size] <;> omega)))) | with_reducible refine Bw.trans ?_ (by with_reducible assumption)))) (by exact HR4'.out.up (by repeat (first | with_reducible assumption | with_reducible exact Bw.refl _ | with_reducible refine Bw.alloc ?_ _ | with_reducible refine Bw.more ?_ _ _ | with_reducible refine Bw.drew ?_ | with_reducible refine Bw.drewN ?_ _ | ((with_reducible refine Bw.set2 ?_ ?_ _); (focus (first | omega | (simp only [szA, szS, szD, szN, plus_size] <;> omega)))) | with_reducible refine Bw.trans ?_ (by with_reducible assumption)))) (by omega) (by omega) (by omega) (by omega)).mono ?_; rintro ee ww ⟨rfl, q, rfl⟩) | (go_at_call 16; refine (flush_any _ _ _ [] _ (by exact HR5.out.up (by repeat (first | with_reducible assumption | with_reducible exact Bw.refl _ | with_reducible refine Bw.alloc ?_ _ | with_reducible refine Bw.more ?_ _ _ | with_reducible refine Bw.drew ?_ | with_reducible refine Bw.drewN ?_ _ | ((with_reducible refine Bw.set2 ?_ ?_ _); (focus (first | omega | (simp only [szA, szS, szD, szN, plus_size] <;> omega)))) | with_reducible refine Bw.trans ?_ (by with_reducible assumption)))) (by omega) (by omega)).mono ?_; rintro ee ww ⟨vf, rfl, hSf, hbf⟩; obtain ⟨A7, c7, rfl, hc7, hc7m, hR7⟩ := hSf.get (N := 0) rfl; obtain ⟨L8, d8, rfl⟩ := Bw.isPlus hbf; clear hbf hR7 hSf))
        go_ret
        exact ⟨rfl, hbw.trans (by repeat (first | with_reducible assumption | with_reducible exact Bw.refl _ | with_reducible refine Bw.alloc ?_ _ | with_reducible refine Bw.more ?_ _ _ | with_reducible refine Bw.drew ?_ | with_reducible refine Bw.drewN ?_ _ | ((with_reducible refine Bw.set2 ?_ ?_ _); (focus (first | omega | (simp only [szA, szS, szD, szN, plus_size] <;> omega)))) | with_reducible refine Bw.trans ?_ (by with_reducible assumption)))⟩
  · have HF := Lib.hid (show decide ((n : Int) ≤ 200) = false by simp; omega)
    go_enter Try.func6, Try.ntmps6
    go_wp2_with (first | (go_at_call 7; refine (sane04_any _).mono ?_; rintro ee ww ⟨rfl, hb1⟩; (first | obtain ⟨L1, d1, rfl⟩ := Bw.isPlus (Bw.un hb1) | obtain ⟨L1, d1, rfl⟩ := Bw.isPlus hb1); clear hb1) | (go_at_call 20; refine (few_any _ _ _ _).mono ?_; rintro ee ww ⟨rfl, rfl⟩; rw [HF.out]))
    go_ret
    exact ⟨rfl, (by repeat (first | with_reducible assumption | with_reducible exact Bw.refl _ | with_reducible refine Bw.alloc ?_ _ | with_reducible refine Bw.more ?_ _ _ | with_reducible refine Bw.drew ?_ | with_reducible refine Bw.drewN ?_ _ | ((with_reducible refine Bw.set2 ?_ ?_ _); (focus (first | omega | (simp only [szA, szS, szD, szN, plus_size] <;> omega)))) | with_reducible refine Bw.trans ?_ (by with_reducible assumption)))⟩
end Go.Proofs.Ytagihjchhpiipaa
