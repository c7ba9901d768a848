/- The law RunesDivides: walked. -/
import Derived.Test.YtagihjchhpiipaaRunP
import Derived.Deep.RegionHeld3
import Derived.Test.YtagihjchhpiipaaSl2
set_option linter.unusedSimpArgs false
set_option linter.unusedVariables false
namespace Go.Proofs.Ytagihjchhpiipaa
open Go.RowKit

theorem dec_len : ∀ (b r : List Int), (dec r b).2.length ≤ 2 * b.length
  | [], r => by simp [show dec r [] = (r, []) from rfl]
  | b :: t, r => by
    have e := fun s => dec_len t s
    rw [dec_cons]
    repeat' split
    all_goals (simp only [emit, List.length_cons])
    all_goals (first | (have := e (r ++ [b]); omega) | (have := e []; omega) | (have := e [b]; omega))
theorem dec_mem : ∀ (b r : List Int) (x : Int), x ∈ (dec r b).1 → x ∈ r ∨ x ∈ b
  | [], r, x => fun h => .inl h
  | b :: t, r, x => by
    have e := fun s => dec_mem t s x
    rw [dec_cons]
    repeat' split
    all_goals (try simp only [emit])
    all_goals intro h
    · rcases e _ h with h | h
      · rcases List.mem_append.1 h with h | h
        · exact .inl h
        · simp at h; exact .inr (by simp [h])
      · exact .inr (by simp [h])
    · rcases e _ h with h | h
      · simp at h
      · exact .inr (by simp [h])
    · rcases e _ h with h | h
      · simp at h
      · exact .inr (by simp [h])
    · rcases e _ h with h | h
      · exact .inr (by simp at h; simp [h])
      · exact .inr (by simp [h])
    · rcases e _ h with h | h
      · simp at h
      · exact .inr (by simp [h])
    · rcases e _ h with h | h
      · simp at h
      · exact .inr (by simp [h])

/-- Behind the third decoding: a block with the rest, and the characters. -/
def DivR (w0 : World) (s14 s15 : Value) (w' : World) (d1 d2 : List Int) (n1 n2 : Nat) : Prop :=
  ∃ (b : Nat) (A A2 : Option Addr) (c c2 : Nat), s14 = .pointer (some ⟨b, 0, none⟩) ∧ s15 = .slice A2 n2 c2 ∧ (n2 ≤ c2 ∧ c2 ≤ 9223372036854775807) ∧ w'.cell? ⟨b, 0, none⟩ = some (.slice A n1 c) ∧ Rd (.int .u8) w' A n1 d1 ∧ Rd (.int .i64) w' A2 n2 d2 ∧ Bw w0 w'

set_option maxHeartbeats 1000000 in
theorem runesDivides_any (A B : Option Addr) (n cap m capB : Nat) (cut : Int) (xs bs : List Int) (w : World) (hr : Rd (.int .i64) w A n xs) (hn : n ≤ cap) (hc : cap ≤ 9223372036854775807)
    (hb : Rd (.int .u8) w B m bs) (hm : m ≤ capB) (hcB : capB ≤ 9223372036854775807) (hBn : B = none → capB = 0) (hbs : ∀ x ∈ bs, 0 ≤ x ∧ x ≤ 255) :
    Calls Try.prog 3 #[.slice A n cap, .slice B m capB, .int .i64 cut] w fun e w' => e = .returned (.bool true) ∧ Bw w w' := by
  obtain ⟨j0, hj, hj0, hj1, hj2⟩ := info_parts infoI
  by_cases hfew : 200 < m
  · go_enter Try.func3, Try.ntmps3
    go_wp2_with (go_at_call 7; refine (sane04_any _).mono ?_; rintro ee ww ⟨rfl, hb1⟩; (first | obtain ⟨L1, d1, rfl⟩ := Bw.isPlus (Bw.un hb1) | obtain ⟨L1, d1, rfl⟩ := Bw.isPlus hb1); clear hb1)
    go_ret
    exact ⟨rfl, (by repeat (first | with_reducible assumption | with_reducible exact Bw.refl _ | with_reducible refine Bw.alloc ?_ _ | with_reducible refine Bw.more ?_ _ _ | with_reducible refine Bw.drew ?_ | with_reducible refine Bw.drewN ?_ _ | ((with_reducible refine Bw.set2 ?_ ?_ _); (focus (first | omega | (simp only [szA, szS, szD, szN, plus_size, Array.size_append] <;> omega)))) | with_reducible refine Bw.trans ?_ (by with_reducible assumption)))⟩
  · have HB := Lib.hid hb
    have HBn := Lib.hid hBn
    clear hb hBn
    go_enter Try.func3, Try.ntmps3
    go_wp2_with (first | (go_at_call 7; refine (sane04_any _).mono ?_; rintro ee ww ⟨rfl, hb1⟩; (first | obtain ⟨L1, d1, rfl⟩ := Bw.isPlus (Bw.un hb1) | obtain ⟨L1, d1, rfl⟩ := Bw.isPlus hb1); clear hb1) | (go_at_call 8; refine (odd_any A n cap xs _ (by exact ⟨hr.1, (hr.up (w' := _) (by repeat (first | with_reducible assumption | with_reducible exact Bw.refl _ | with_reducible refine Bw.alloc ?_ _ | with_reducible refine Bw.more ?_ _ _ | with_reducible refine Bw.drew ?_ | with_reducible refine Bw.drewN ?_ _ | ((with_reducible refine Bw.set2 ?_ ?_ _); (focus (first | omega | (simp only [szA, szS, szD, szN, plus_size, Array.size_append] <;> omega)))) | with_reducible refine Bw.trans ?_ (by with_reducible assumption)))).toI⟩) (by exact (hr.up (by repeat (first | with_reducible assumption | with_reducible exact Bw.refl _ | with_reducible refine Bw.alloc ?_ _ | with_reducible refine Bw.more ?_ _ _ | with_reducible refine Bw.drew ?_ | with_reducible refine Bw.drewN ?_ _ | ((with_reducible refine Bw.set2 ?_ ?_ _); (focus (first | omega | (simp only [szA, szS, szD, szN, plus_size, Array.size_append] <;> omega)))) | with_reducible refine Bw.trans ?_ (by with_reducible assumption)))).ltA) (by omega)).mono ?_; rintro ee ww ⟨A1, n1, c1, ys, rfl, hR1, ⟨hn1, hc1, hA1⟩, hys, hlen, hb1⟩; (obtain ⟨L2, d2, rfl⟩ := Bw.isPlus hb1; (try simp only [plus_plus, drewN_plus, drew_plus] at hR1); clear hb1); have HR1 := Lib.hid hR1; have HA1 := Lib.hid hA1; have hlen1 := hR1.1; clear hR1 hA1) | fail)
    have hn60 : n1 ≤ 60 := by omega
    clear hlen1
    go_loopw [26] (fun i wr => ∃ k : Nat, i = .int .i64 k ∧ k ≤ 2 ∧ (wr.cell? ⟨w.heap.size + (L1.size + L2.size), 0, none⟩ = some (.slice A1 n1 c1) ∧ wr.cell? ⟨w.heap.size + (L1.size + L2.size), 1, none⟩ = some (.slice B m capB)) ∧ Rd (.int .u8) wr A1 n1 ys ∧ Rd (.int .u8) wr B m bs ∧ Bw w wr) (fun i _ => 2 - (intOf i).toNat)
    case atStart => exact ⟨0, rfl, by omega, ⟨(by repeat (first | ((with_reducible refine cell_alloc_here ?_ ?_); (focus (first | omega | (simp only [szA, szS, szD, szN, plus_size, Array.size_append] <;> omega))); (focus rfl)) | with_reducible refine cell_alloc_some ?_ _ | with_reducible refine cell_plus_some ?_ _ _ | ((with_reducible refine cell_set_some ?_ ?_); (focus (first | omega | (simp only [szA, szS, szD, szN, plus_size, Array.size_append] <;> omega)))) | with_reducible refine cell_drew_some ?_ | with_reducible refine cell_drewN_some ?_ _)), (by repeat (first | ((with_reducible refine cell_alloc_here ?_ ?_); (focus (first | omega | (simp only [szA, szS, szD, szN, plus_size, Array.size_append] <;> omega))); (focus rfl)) | with_reducible refine cell_alloc_some ?_ _ | with_reducible refine cell_plus_some ?_ _ _ | ((with_reducible refine cell_set_some ?_ ?_); (focus (first | omega | (simp only [szA, szS, szD, szN, plus_size, Array.size_append] <;> omega)))) | with_reducible refine cell_drew_some ?_ | with_reducible refine cell_drewN_some ?_ _))⟩, HR1.out.up (by repeat (first | with_reducible assumption | with_reducible exact Bw.refl _ | with_reducible refine Bw.alloc ?_ _ | with_reducible refine Bw.more ?_ _ _ | with_reducible refine Bw.drew ?_ | with_reducible refine Bw.drewN ?_ _ | ((with_reducible refine Bw.set2 ?_ ?_ _); (focus (first | omega | (simp only [szA, szS, szD, szN, plus_size, Array.size_append] <;> omega)))) | with_reducible refine Bw.trans ?_ (by with_reducible assumption))), HB.out.up (by repeat (first | with_reducible assumption | with_reducible exact Bw.refl _ | with_reducible refine Bw.alloc ?_ _ | with_reducible refine Bw.more ?_ _ _ | with_reducible refine Bw.drew ?_ | with_reducible refine Bw.drewN ?_ _ | ((with_reducible refine Bw.set2 ?_ ?_ _); (focus (first | omega | (simp only [szA, szS, szD, szN, plus_size, Array.size_append] <;> omega)))) | with_reducible refine Bw.trans ?_ (by with_reducible assumption))), (by repeat (first | with_reducible assumption | with_reducible exact Bw.refl _ | with_reducible refine Bw.alloc ?_ _ | with_reducible refine Bw.more ?_ _ _ | with_reducible refine Bw.drew ?_ | with_reducible refine Bw.drewN ?_ _ | ((with_reducible refine Bw.set2 ?_ ?_ _); (focus (first | omega | (simp only [szA, szS, szD, szN, plus_size, Array.size_append] <;> omega)))) | with_reducible refine Bw.trans ?_ (by with_reducible assumption)))⟩
    case round =>
      rename_i wr
      obtain ⟨k, rfl, hk, ⟨hx0, hx1⟩, hRA, hRB, hbw⟩ := hrel
      by_cases hlt : k < 2
      · obtain ⟨C, nc, cc, zs, hcell, hRC, ⟨hnc, hcc, hC0⟩, hnc2, hzs⟩ : ∃ (C : Option Addr) (nc cc : Nat) (zs : List Int), wr.cell? ⟨w.heap.size + (L1.size + L2.size), k, none⟩ = some (.slice C nc cc) ∧ Rd (.int .u8) wr C nc zs ∧ (nc ≤ cc ∧ cc ≤ 9223372036854775807 ∧ (C = none → cc = 0)) ∧ nc ≤ 200 ∧ ∀ x ∈ zs, 0 ≤ x ∧ x ≤ 255 := by
          rcases (show k = 0 ∨ k = 1 by omega) with rfl | rfl
          · exact ⟨A1, n1, c1, ys, hx0, hRA, ⟨hn1, hc1, HA1.out⟩, by omega, hys⟩
          · exact ⟨B, m, capB, bs, hx1, hRB, ⟨hm, hcB, HBn.out⟩, by omega, hbs⟩
        obtain ⟨p, hp⟩ : ∃ p : Nat, cut % ((nc : Int) + 1) = (p : Int) := ⟨(cut % ((nc : Int) + 1)).toNat, by have := Int.emod_nonneg cut (show (nc : Int) + 1 ≠ 0 by omega); omega⟩
        have hp2 : p ≤ nc := by have := Int.emod_lt_of_pos cut (show (0 : Int) < (nc : Int) + 1 by omega); omega
        have HP := Lib.hid hp
        clear hp
        have HRA := Lib.hid hRA
        have HRB := Lib.hid hRB
        have HX := Lib.hid (And.intro hx0 hx1)
        have HRC := Lib.hid hRC
        clear hRA hRB hx0 hx1 hRC
        obtain ⟨a1, a2, ha⟩ : ∃ a1 a2, dec (restB []) zs = (a1, a2) := ⟨_, _, rfl⟩
        obtain ⟨c1', c2', hc'⟩ : ∃ a1 a2, dec (restB []) (zs.take p) = (a1, a2) := ⟨_, _, rfl⟩
        obtain ⟨d1', d2', hd'⟩ : ∃ a1 a2, dec (restB c1') (zs.drop p) = (a1, a2) := ⟨_, _, rfl⟩
        have hap := dec_app (zs.take p) (zs.drop p) (restB [])
        have hrv : restB c1' = c1' := by have := restB_dec (zs.take p); rw [show restB [] = [] from rfl] at hc'; rw [hc'] at this; exact this
        rw [List.take_append_drop, hc', ha] at hap
        dsimp only at hap
        rw [← hrv, hd'] at hap
        have hl1 : d2'.length ≤ 400 := by have := dec_len (zs.drop p) (restB c1'); rw [hd'] at this; simp at this; have := HRC.out.1; omega
        have hl2 : c2'.length ≤ 400 := by have := dec_len (zs.take p) (restB []); rw [hc'] at this; simp at this; have := HRC.out.1; omega
        have hc255 : ∀ x ∈ c1', 0 ≤ x ∧ x ≤ 255 := by
          intro x hx
          have := dec_mem (zs.take p) [] x (by rw [show restB [] = [] from rfl] at hc'; rw [hc']; exact hx)
          rcases this with h | h
          · simp at h
          · exact hzs x (List.mem_of_mem_take h)
        injection hap with e1 e2
        subst e1
        subst e2
        have HDA := Lib.hid ha
        have HDC := Lib.hid hc'
        have HDD := Lib.hid hd'
        clear ha hc' hd' hrv
        obtain ⟨q1, hq1⟩ : ∃ q, a1.length = q := ⟨_, rfl⟩
        obtain ⟨q2, hq2⟩ : ∃ q, c1'.length = q := ⟨_, rfl⟩
        obtain ⟨q3, hq3⟩ : ∃ q, c2'.length = q := ⟨_, rfl⟩
        obtain ⟨q4, hq4⟩ : ∃ q, d2'.length = q := ⟨_, rfl⟩
        have HQ1 := Lib.hid hq1
        have HQ2 := Lib.hid hq2
        have HQ3 := Lib.hid hq3
        have HQ4 := Lib.hid hq4
        rw [hq4] at hl1
        rw [hq3] at hl2
        clear hq1 hq2 hq3 hq4
        have hk0 : (0 : Int) ≤ k := by omega
        have hk2 : (k : Int) < 2 := by omega
        have hpi : (p : Int) ≤ nc := by omega
        have hpc : (p : Int) ≤ cc := by omega
        have hnci : (nc : Int) ≤ cc := by omega
        go_wp2_with (first | (go_at_call 9; refine (mmod_any _ _ _ (by omega) (by omega)).mono ?_; rintro ee ww ⟨rfl, rfl⟩; rw [HP.out]) | fail)
        refine (decode_any none C 0 0 nc cc [] zs _ (Rd.nil_ _ _) (by omega) (by omega) (by exact HRC.out.up (by repeat (first | with_reducible assumption | with_reducible exact Bw.refl _ | with_reducible refine Bw.alloc ?_ _ | with_reducible refine Bw.more ?_ _ _ | with_reducible refine Bw.drew ?_ | with_reducible refine Bw.drewN ?_ _ | ((with_reducible refine Bw.set2 ?_ ?_ _); (focus (first | omega | (simp only [szA, szS, szD, szN, plus_size, Array.size_append] <;> omega)))) | with_reducible refine Bw.trans ?_ (by with_reducible assumption)))) (by omega) (by omega) (by omega) hzs (by simp)).mono ?_
        rintro ee ww ⟨vr, vl, rfl, hSr, hSl, hb3⟩
        rw [HDA.out] at hSr hSl
        obtain ⟨A3, c3, rfl, hc3, hc3m, hR3⟩ := hSr.get HQ1.out
        obtain ⟨A4, c4, rfl, hc4, hc4m, hR4⟩ := hSl.get (N := q3 + q4) (by rw [List.length_append, HQ3.out, HQ4.out])
        clear hSr hSl
        (obtain ⟨L3, d3, rfl⟩ := Bw.isPlus hb3; (try simp only [plus_plus, drewN_plus, drew_plus] at hR3 hR4); clear hb3)
        have HR3 := Lib.hid hR3
        have HR4 := Lib.hid hR4
        clear hR3 hR4
        go_wp2_with fail
        refine (decode_any none C 0 0 p cc [] (zs.take p) _ (Rd.nil_ _ _) (by omega) (by omega) (by exact (HRC.out.take p hp2).up (by repeat (first | with_reducible assumption | with_reducible exact Bw.refl _ | with_reducible refine Bw.alloc ?_ _ | with_reducible refine Bw.more ?_ _ _ | with_reducible refine Bw.drew ?_ | with_reducible refine Bw.drewN ?_ _ | ((with_reducible refine Bw.set2 ?_ ?_ _); (focus (first | omega | (simp only [szA, szS, szD, szN, plus_size, Array.size_append] <;> omega)))) | with_reducible refine Bw.trans ?_ (by with_reducible assumption)))) (by omega) (by omega) (by omega) (fun x hx => hzs x (List.mem_of_mem_take hx)) (by simp)).mono ?_
        rintro ee ww ⟨vr, vl, rfl, hSr, hSl, hb4⟩
        rw [HDC.out] at hSr hSl
        obtain ⟨A5, c5, rfl, hc5, hc5m, hR5⟩ := hSr.get HQ2.out
        obtain ⟨A6, c6, rfl, hc6, hc6m, hR6⟩ := hSl.get HQ3.out
        clear hSr hSl
        (obtain ⟨L4, d4, rfl⟩ := Bw.isPlus hb4; (try simp only [plus_plus, drewN_plus, drew_plus] at hR5 hR6); clear hb4)
        have HR5 := Lib.hid hR5
        have HR6 := Lib.hid hR6
        clear hR5 hR6
        go_upto_region 11 with (fail)
        have hnp : ((nc - p : Nat) : Int) = nc - p := by omega
        go_cut [14, 15] (fun s14 s15 w' => DivR ((plus ((plus wr L3 d3).alloc (.cells #[.slice A3 q1 c3] 29)) L4 d4).alloc (.cells #[.slice A5 q2 c5] 29)) s14 s15 w' a1 d2' q1 q4)
        case first =>
          by_cases hpe : cc = p
          · have e1 : nc = p := by omega
            obtain rfl : nc = cc := by omega
            obtain rfl : nc = p := by omega
            clear e1 hpe
            go_region_held3 (fun w' => w'.cell? ⟨wr.heap.size + L3.size + 1 + L4.size, 0, none⟩ = some (.slice A5 q2 c5)) ((first | ((repeat (first | with_reducible assumption |  ((with_reducible refine cell_alloc_here ?_ ?_); (focus (first | omega | (simp only [szA, szS, szD, szN, plus_size, Array.size_append] <;> omega))); (focus rfl)) | with_reducible refine cell_alloc_some ?_ _ | with_reducible refine cell_plus_some ?_ _ _ | ((with_reducible refine cell_set_some ?_ ?_); (focus (first | omega | (simp only [szA, szS, szD, szN, plus_size, Array.size_append] <;> omega)))) | with_reducible refine cell_drew_some ?_ | with_reducible refine cell_drewN_some ?_ _)); done))) ((first | (go_at_call 10; refine (decode_any A5 C q2 c5 0 0 c1' (zs.drop nc) _ (by exact HR5.out.up (by repeat (first | with_reducible assumption | with_reducible exact Bw.refl _ | with_reducible refine Bw.alloc ?_ _ | with_reducible refine Bw.more ?_ _ _ | with_reducible refine Bw.drew ?_ | with_reducible refine Bw.drewN ?_ _ | ((with_reducible refine Bw.set2 ?_ ?_ _); (focus (first | omega | (simp only [szA, szS, szD, szN, plus_size, Array.size_append] <;> omega)))) | with_reducible refine Bw.trans ?_ (by with_reducible assumption)))) (by omega) (by omega) (by exact (by rw [List.drop_eq_nil_of_le (by have := HRC.out.1; omega)]; exact Rd.nil_ _ _)) (by omega) (by omega) (by omega) (fun x hx => hzs x (List.mem_of_mem_drop hx)) hc255).mono ?_; rintro ee ww ⟨vr, vl, rfl, hSr, hSl, hb5⟩; rw [HDD.out] at hSr hSl; obtain ⟨A7, c7, rfl, hc7, hc7m, hR7⟩ := hSr.get HQ1.out; obtain ⟨A8, c8, rfl, hc8, hc8m, hR8⟩ := hSl.get HQ4.out; clear hSr hSl; (obtain ⟨L5, d5, rfl⟩ := Bw.isPlus hb5; (try simp only [plus_plus, drewN_plus, drew_plus] at hR7 hR8); clear hb5); have HR7 := Lib.hid hR7; have HR8 := Lib.hid hR8; clear hR7 hR8) | fail))
            all_goals go_wp2
            all_goals go_meet
            all_goals exact ⟨_, A7, A8, c7, c8, rfl, rfl, ⟨hc8, hc8m⟩, (by repeat (first | ((with_reducible refine cell_alloc_here ?_ ?_); (focus (first | omega | (simp only [szA, szS, szD, szN, plus_size, Array.size_append] <;> omega))); (focus rfl)) | with_reducible refine cell_alloc_some ?_ _ | with_reducible refine cell_plus_some ?_ _ _ | ((with_reducible refine cell_set_some ?_ ?_); (focus (first | omega | (simp only [szA, szS, szD, szN, plus_size, Array.size_append] <;> omega)))) | with_reducible refine cell_drew_some ?_ | with_reducible refine cell_drewN_some ?_ _)), (by first | (refine HR7.out.up ?_; (repeat (first | with_reducible assumption | with_reducible exact Bw.refl _ | with_reducible refine Bw.alloc ?_ _ | with_reducible refine Bw.more ?_ _ _ | with_reducible refine Bw.drew ?_ | with_reducible refine Bw.drewN ?_ _ | ((with_reducible refine Bw.set2 ?_ ?_ _); (focus (first | omega | (simp only [szA, szS, szD, szN, plus_size, Array.size_append] <;> omega)))) | with_reducible refine Bw.trans ?_ (by with_reducible assumption))); done) | (refine HR7.out.refit ?_; simp; done) | (refine (HR7.out.refit ?_).up ?_; (simp; done); (repeat (first | with_reducible assumption | with_reducible exact Bw.refl _ | with_reducible refine Bw.alloc ?_ _ | with_reducible refine Bw.more ?_ _ _ | with_reducible refine Bw.drew ?_ | with_reducible refine Bw.drewN ?_ _ | ((with_reducible refine Bw.set2 ?_ ?_ _); (focus (first | omega | (simp only [szA, szS, szD, szN, plus_size, Array.size_append] <;> omega)))) | with_reducible refine Bw.trans ?_ (by with_reducible assumption))); done)), (by first | (refine HR8.out.up ?_; (repeat (first | with_reducible assumption | with_reducible exact Bw.refl _ | with_reducible refine Bw.alloc ?_ _ | with_reducible refine Bw.more ?_ _ _ | with_reducible refine Bw.drew ?_ | with_reducible refine Bw.drewN ?_ _ | ((with_reducible refine Bw.set2 ?_ ?_ _); (focus (first | omega | (simp only [szA, szS, szD, szN, plus_size, Array.size_append] <;> omega)))) | with_reducible refine Bw.trans ?_ (by with_reducible assumption))); done) | (refine HR8.out.refit ?_; simp; done) | (refine (HR8.out.refit ?_).up ?_; (simp; done); (repeat (first | with_reducible assumption | with_reducible exact Bw.refl _ | with_reducible refine Bw.alloc ?_ _ | with_reducible refine Bw.more ?_ _ _ | with_reducible refine Bw.drew ?_ | with_reducible refine Bw.drewN ?_ _ | ((with_reducible refine Bw.set2 ?_ ?_ _); (focus (first | omega | (simp only [szA, szS, szD, szN, plus_size, Array.size_append] <;> omega)))) | with_reducible refine Bw.trans ?_ (by with_reducible assumption))); done)), (by repeat (first | with_reducible assumption | with_reducible exact Bw.refl _ | with_reducible refine Bw.alloc ?_ _ | with_reducible refine Bw.more ?_ _ _ | with_reducible refine Bw.drew ?_ | with_reducible refine Bw.drewN ?_ _ | ((with_reducible refine Bw.set2 ?_ ?_ _); (focus (first | omega | (simp only [szA, szS, szD, szN, plus_size, Array.size_append] <;> omega)))) | with_reducible refine Bw.trans ?_ (by with_reducible assumption)))⟩
          · cases C with
            | none => exact absurd (hC0 rfl) (by omega)
            | some ad =>
              go_region_held3 (fun w' => w'.cell? ⟨wr.heap.size + L3.size + 1 + L4.size, 0, none⟩ = some (.slice A5 q2 c5)) ((first | ((repeat (first | with_reducible assumption |  ((with_reducible refine cell_alloc_here ?_ ?_); (focus (first | omega | (simp only [szA, szS, szD, szN, plus_size, Array.size_append] <;> omega))); (focus rfl)) | with_reducible refine cell_alloc_some ?_ _ | with_reducible refine cell_plus_some ?_ _ _ | ((with_reducible refine cell_set_some ?_ ?_); (focus (first | omega | (simp only [szA, szS, szD, szN, plus_size, Array.size_append] <;> omega)))) | with_reducible refine cell_drew_some ?_ | with_reducible refine cell_drewN_some ?_ _)); done))) ((first | (go_at_call 10; refine (decode_any A5 (some (ad.add p)) q2 c5 (nc - p) (cc - p) c1' (zs.drop p) _ (by exact HR5.out.up (by repeat (first | with_reducible assumption | with_reducible exact Bw.refl _ | with_reducible refine Bw.alloc ?_ _ | with_reducible refine Bw.more ?_ _ _ | with_reducible refine Bw.drew ?_ | with_reducible refine Bw.drewN ?_ _ | ((with_reducible refine Bw.set2 ?_ ?_ _); (focus (first | omega | (simp only [szA, szS, szD, szN, plus_size, Array.size_append] <;> omega)))) | with_reducible refine Bw.trans ?_ (by with_reducible assumption)))) (by omega) (by omega) (by exact (HRC.out.drop p hp2).up (by repeat (first | with_reducible assumption | with_reducible exact Bw.refl _ | with_reducible refine Bw.alloc ?_ _ | with_reducible refine Bw.more ?_ _ _ | with_reducible refine Bw.drew ?_ | with_reducible refine Bw.drewN ?_ _ | ((with_reducible refine Bw.set2 ?_ ?_ _); (focus (first | omega | (simp only [szA, szS, szD, szN, plus_size, Array.size_append] <;> omega)))) | with_reducible refine Bw.trans ?_ (by with_reducible assumption)))) (by omega) (by omega) (by omega) (fun x hx => hzs x (List.mem_of_mem_drop hx)) hc255).mono ?_; rintro ee ww ⟨vr, vl, rfl, hSr, hSl, hb5⟩; rw [HDD.out] at hSr hSl; obtain ⟨A7, c7, rfl, hc7, hc7m, hR7⟩ := hSr.get HQ1.out; obtain ⟨A8, c8, rfl, hc8, hc8m, hR8⟩ := hSl.get HQ4.out; clear hSr hSl; (obtain ⟨L5, d5, rfl⟩ := Bw.isPlus hb5; (try simp only [plus_plus, drewN_plus, drew_plus] at hR7 hR8); clear hb5); have HR7 := Lib.hid hR7; have HR8 := Lib.hid hR8; clear hR7 hR8) | fail))
              all_goals go_wp2
              all_goals go_meet
              all_goals exact ⟨_, A7, A8, c7, c8, rfl, rfl, ⟨hc8, hc8m⟩, (by repeat (first | ((with_reducible refine cell_alloc_here ?_ ?_); (focus (first | omega | (simp only [szA, szS, szD, szN, plus_size, Array.size_append] <;> omega))); (focus rfl)) | with_reducible refine cell_alloc_some ?_ _ | with_reducible refine cell_plus_some ?_ _ _ | ((with_reducible refine cell_set_some ?_ ?_); (focus (first | omega | (simp only [szA, szS, szD, szN, plus_size, Array.size_append] <;> omega)))) | with_reducible refine cell_drew_some ?_ | with_reducible refine cell_drewN_some ?_ _)), (by first | (refine HR7.out.up ?_; (repeat (first | with_reducible assumption | with_reducible exact Bw.refl _ | with_reducible refine Bw.alloc ?_ _ | with_reducible refine Bw.more ?_ _ _ | with_reducible refine Bw.drew ?_ | with_reducible refine Bw.drewN ?_ _ | ((with_reducible refine Bw.set2 ?_ ?_ _); (focus (first | omega | (simp only [szA, szS, szD, szN, plus_size, Array.size_append] <;> omega)))) | with_reducible refine Bw.trans ?_ (by with_reducible assumption))); done) | (refine HR7.out.refit ?_; simp; done) | (refine (HR7.out.refit ?_).up ?_; (simp; done); (repeat (first | with_reducible assumption | with_reducible exact Bw.refl _ | with_reducible refine Bw.alloc ?_ _ | with_reducible refine Bw.more ?_ _ _ | with_reducible refine Bw.drew ?_ | with_reducible refine Bw.drewN ?_ _ | ((with_reducible refine Bw.set2 ?_ ?_ _); (focus (first | omega | (simp only [szA, szS, szD, szN, plus_size, Array.size_append] <;> omega)))) | with_reducible refine Bw.trans ?_ (by with_reducible assumption))); done)), (by first | (refine HR8.out.up ?_; (repeat (first | with_reducible assumption | with_reducible exact Bw.refl _ | with_reducible refine Bw.alloc ?_ _ | with_reducible refine Bw.more ?_ _ _ | with_reducible refine Bw.drew ?_ | with_reducible refine Bw.drewN ?_ _ | ((with_reducible refine Bw.set2 ?_ ?_ _); (focus (first | omega | (simp only [szA, szS, szD, szN, plus_size, Array.size_append] <;> omega)))) | with_reducible refine Bw.trans ?_ (by with_reducible assumption))); done) | (refine HR8.out.refit ?_; simp; done) | (refine (HR8.out.refit ?_).up ?_; (simp; done); (repeat (first | with_reducible assumption | with_reducible exact Bw.refl _ | with_reducible refine Bw.alloc ?_ _ | with_reducible refine Bw.more ?_ _ _ | with_reducible refine Bw.drew ?_ | with_reducible refine Bw.drewN ?_ _ | ((with_reducible refine Bw.set2 ?_ ?_ _); (focus (first | omega | (simp only [szA, szS, szD, szN, plus_size, Array.size_append] <;> omega)))) | with_reducible refine Bw.trans ?_ (by with_reducible assumption))); done)), (by repeat (first | with_reducible assumption | with_reducible exact Bw.refl _ | with_reducible refine Bw.alloc ?_ _ | with_reducible refine Bw.more ?_ _ _ | with_reducible refine Bw.drew ?_ | with_reducible refine Bw.drewN ?_ _ | ((with_reducible refine Bw.set2 ?_ ?_ _); (focus (first | omega | (simp only [szA, szS, szD, szN, plus_size, Array.size_append] <;> omega)))) | with_reducible refine Bw.trans ?_ (by with_reducible assumption)))⟩
        case rest =>
        obtain ⟨b9, A7, A8, c7, c8, rfl, rfl, ⟨hc8, hc8m⟩, hcd, hR7, hR8, hb9⟩ := hcut
        have ca : wc.cell? ⟨wr.heap.size + L3.size, 0, none⟩ = some (.slice A3 q1 c3) := cell_bw hb9 (by repeat (first | ((with_reducible refine cell_alloc_here ?_ ?_); (focus (first | omega | (simp only [szA, szS, szD, szN, plus_size, Array.size_append] <;> omega))); (focus rfl)) | with_reducible refine cell_alloc_some ?_ _ | with_reducible refine cell_plus_some ?_ _ _ | ((with_reducible refine cell_set_some ?_ ?_); (focus (first | omega | (simp only [szA, szS, szD, szN, plus_size, Array.size_append] <;> omega)))) | with_reducible refine cell_drew_some ?_ | with_reducible refine cell_drewN_some ?_ _))
        have hbp : Bw (plus wr L3 d3) wc := Bw.trans (by repeat (first | with_reducible assumption | with_reducible exact Bw.refl _ | with_reducible refine Bw.alloc ?_ _ | with_reducible refine Bw.more ?_ _ _ | with_reducible refine Bw.drew ?_ | with_reducible refine Bw.drewN ?_ _ | ((with_reducible refine Bw.set2 ?_ ?_ _); (focus (first | omega | (simp only [szA, szS, szD, szN, plus_size, Array.size_append] <;> omega)))) | with_reducible refine Bw.trans ?_ (by with_reducible assumption))) hb9
        have hbq : Bw (plus ((plus wr L3 d3).alloc (.cells #[.slice A3 q1 c3] 29)) L4 d4) wc := Bw.trans (by repeat (first | with_reducible assumption | with_reducible exact Bw.refl _ | with_reducible refine Bw.alloc ?_ _ | with_reducible refine Bw.more ?_ _ _ | with_reducible refine Bw.drew ?_ | with_reducible refine Bw.drewN ?_ _ | ((with_reducible refine Bw.set2 ?_ ?_ _); (focus (first | omega | (simp only [szA, szS, szD, szN, plus_size, Array.size_append] <;> omega)))) | with_reducible refine Bw.trans ?_ (by with_reducible assumption))) hb9
        have hbr : Bw wr wc := Bw.trans (by repeat (first | with_reducible assumption | with_reducible exact Bw.refl _ | with_reducible refine Bw.alloc ?_ _ | with_reducible refine Bw.more ?_ _ _ | with_reducible refine Bw.drew ?_ | with_reducible refine Bw.drewN ?_ _ | ((with_reducible refine Bw.set2 ?_ ?_ _); (focus (first | omega | (simp only [szA, szS, szD, szN, plus_size, Array.size_append] <;> omega)))) | with_reducible refine Bw.trans ?_ (by with_reducible assumption))) hb9
        have R3 := Lib.hid (HR3.out.up hbp)
        have R4 := Lib.hid (HR4.out.up hbp)
        have R6 := Lib.hid (HR6.out.up hbq)
        have R7 := Lib.hid hR7
        have R8 := Lib.hid hR8
        clear hR7 hR8 hbp hbq hb9 HR3 HR4 HR5 HR6 hcell hk0 hk2 hpi hpc hnci hnp hC0 HRC
        go_wp2_with (first
          | (go_at_call 11; refine (refsame_eq _ _ _ _ _ _ a1 _ (by exact R3.out) (by exact R7.out)).mono ?_; rintro ee ww ⟨rfl, hb⟩; obtain ⟨L6, d6, rfl⟩ := Bw.isPlus hb; clear hb)
          | (at_builtin; refine wpList_append_srcG (by rfl) (.tmp 63) (.tmp 64) 22 rfl wc.heap.size 3 j0 (.int .i64 0) 1 8 Try.underlying22 hj hj0 hj1 hj2 rfl (by decide) (.slice (some ⟨wc.heap.size + L6.size, 0, none⟩) 0 0) 0 [] rfl (own_made (w := plus wc L6 d6) (base := wc.heap.size) (g := wc.heap.size + L6.size) (e := 3) (size := 1) (by simp only [plus_size]) (by omega)) A6 q3 c6 (c2'.map (.int .i64)) rfl (by have := ((R6.out.up (w' := (plus wc L6 d6).alloc (.cells #[] 3)) (by repeat (first | with_reducible assumption | with_reducible exact Bw.refl _ | with_reducible refine Bw.alloc ?_ _ | with_reducible refine Bw.more ?_ _ _ | with_reducible refine Bw.drew ?_ | with_reducible refine Bw.drewN ?_ _ | ((with_reducible refine Bw.set2 ?_ ?_ _); (focus (first | omega | (simp only [szA, szS, szD, szN, plus_size, Array.size_append] <;> omega)))) | with_reducible refine Bw.trans ?_ (by with_reducible assumption))))).1; simp; omega) (fun e => (((R6.out.up (w' := (plus wc L6 d6).alloc (.cells #[] 3)) (by repeat (first | with_reducible assumption | with_reducible exact Bw.refl _ | with_reducible refine Bw.alloc ?_ _ | with_reducible refine Bw.more ?_ _ _ | with_reducible refine Bw.drew ?_ | with_reducible refine Bw.drewN ?_ _ | ((with_reducible refine Bw.set2 ?_ ?_ _); (focus (first | omega | (simp only [szA, szS, szD, szN, plus_size, Array.size_append] <;> omega)))) | with_reducible refine Bw.trans ?_ (by with_reducible assumption))))).none_ e).1) ((R6.out.up (w' := (plus wc L6 d6).alloc (.cells #[] 3)) (by repeat (first | with_reducible assumption | with_reducible exact Bw.refl _ | with_reducible refine Bw.alloc ?_ _ | with_reducible refine Bw.more ?_ _ _ | with_reducible refine Bw.drew ?_ | with_reducible refine Bw.drewN ?_ _ | ((with_reducible refine Bw.set2 ?_ ?_ _); (focus (first | omega | (simp only [szA, szS, szD, szN, plus_size, Array.size_append] <;> omega)))) | with_reducible refine Bw.trans ?_ (by with_reducible assumption))))).news2 (one_map (fun _ => rfl) _) (by unfold maxLen; omega) (by omega) (by simp only [heapsz, plus_size]; omega) ?_; intro v1 w1 hown1 hgg; have hbx : Bw wc w1 := Bw.row (show Bw wc ((plus wc L6 d6).alloc (.cells #[] 3)) from (by repeat (first | with_reducible assumption | with_reducible exact Bw.refl _ | with_reducible refine Bw.alloc ?_ _ | with_reducible refine Bw.more ?_ _ _ | with_reducible refine Bw.drew ?_ | with_reducible refine Bw.drewN ?_ _ | ((with_reducible refine Bw.set2 ?_ ?_ _); (focus (first | omega | (simp only [szA, szS, szD, szN, plus_size, Array.size_append] <;> omega)))) | with_reducible refine Bw.trans ?_ (by with_reducible assumption)))) (own_made (w := plus wc L6 d6) (base := wc.heap.size) (g := wc.heap.size + L6.size) (e := 3) (size := 1) (by simp only [plus_size]) (by omega)) hgg (Nat.le_refl _); simp only [Nat.zero_add, List.nil_append] at hown1; have HO1 := Lib.hid hown1; clear hown1 hgg)
          | (at_builtin; refine wpList_append_srcG (by rfl) (.tmp 65) (.tmp 66) 22 rfl wc.heap.size 3 j0 (.int .i64 0) 1 8 Try.underlying22 hj hj0 hj1 hj2 rfl (by decide) v1 q3 (c2'.map (.int .i64)) rfl HO1.out A8 q4 c8 (d2'.map (.int .i64)) rfl (by have := ((R8.out.up hbx)).1; simp; omega) (fun e => (((R8.out.up hbx)).none_ e).1) ((R8.out.up hbx)).news2 (one_map (fun _ => rfl) _) (by unfold maxLen; omega) (by omega) hbx.size ?_; intro v2 w2 hown2 hgg; have hby : Bw wc w2 := Bw.row hbx HO1.out hgg (Nat.le_refl _); rw [← List.map_append] at hown2; obtain ⟨A9, c9, rfl, hc9, hc9m⟩ := own_form hown2; have R9 := Lib.hid (own_rd hown2); have R4' := Lib.hid (R4.out.up hby); clear hown2 hgg)
          | (go_at_call 12; refine (same_eq A4 A9 _ _ c4 c9 (c2' ++ d2') _ (by exact R4'.out) (by exact R9.out) (by omega) (by omega) (by omega) (by omega)).mono ?_; rintro ee ww ⟨rfl, q, rfl⟩)
          | fail)
        go_roundw
        case rel =>
          have hbz : Bw wr (w2.drewN q) := Bw.drewN (hbr.trans hby) q
          exact ⟨k + 1, by go_num, by omega, ⟨cell_bw hbz HX.out.1, cell_bw hbz HX.out.2⟩, HRA.out.up hbz, HRB.out.up hbz, hbw.trans hbz⟩
        case measure => simp [intOf]; omega
      · clear hx0 hx1 hRA hRB
        go_wp2
        go_ret
        exact ⟨rfl, hbw⟩
end Go.Proofs.Ytagihjchhpiipaa
