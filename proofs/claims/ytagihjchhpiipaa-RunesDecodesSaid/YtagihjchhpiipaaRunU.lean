/- Walk of the reference's Decode: it is the plain function dec. -/
import Derived.Test.YtagihjchhpiipaaRunT
import Derived.Test.YtagihjchhpiipaaSl2
import Derived.Test.YtagihjchhpiipaaDeck
set_option linter.unusedSimpArgs false
set_option linter.unusedVariables false
namespace Go.Proofs.Ytagihjchhpiipaa
open Go.RowKit

theorem val_num {bs : List Int} {n : Nat} (hn : bs.length = n) (h1 : 1 ≤ n) (h4 : n ≤ 4) : numN bs 0 n = valN bs := by
  subst hn
  match bs with
  | [] => simp at h1
  | [b] => rfl
  | [b, c] => rfl
  | [b, c, d] => rfl
  | [b, c, d, x] => rfl
  | _ :: _ :: _ :: _ :: _ :: _ => simp at h4

theorem pre_split (bs : List Int) : beginB bs = (prefixB bs && !completeB bs) := by
  cases bs with
  | nil => rfl
  | cons b t =>
    unfold beginB completeB
    cases h : prefixB (b :: t)
    · rfl
    · have h2 : (decide ((t.length : Int) + 1 ≤ rsize b) && okRest (rlow b) (rhigh b) t) = true := h
      simp only [Bool.and_eq_true, decide_eq_true_eq] at h2
      have h3 := h2.1
      rw [Bool.eq_iff_iff]
      simp
      omega

set_option maxRecDepth 100000 in
set_option maxHeartbeats 2000000 in
theorem refdecode_any (A B : Option Addr) (n cap m capB : Nat) (r0 bs : List Int) (w : World) (hr : Rd (.int .u8) w A n r0) (hn : n ≤ cap) (hc : cap ≤ 9223372036854775807) (hb : Rd (.int .u8) w B m bs) (hm : m ≤ capB) (hcB : capB ≤ 9223372036854775807) (hms : m ≤ 1000000)
    (hbs : ∀ x ∈ bs, 0 ≤ x ∧ x ≤ 255) (hr0 : ∀ x ∈ r0, 0 ≤ x ∧ x ≤ 255) (hns : n ≤ 1000000) :
    Calls Try.prog 13 #[.agg #[.slice A n cap], .slice B m capB] w fun e w' => ∃ vr vl, e = .returned (.tuple #[.agg #[vr], vl]) ∧ Sl (.int .u8) w' vr (dec (restB r0) bs).1 ∧ Sl (.int .i64) w' vl (dec (restB r0) bs).2 ∧ Bw w w' := by
  obtain ⟨i0, hi, hz0, hz1, hz2⟩ := info_parts infoB
  obtain ⟨j0, hj, hj0, hj1, hj2⟩ := info_parts infoI
  obtain ⟨v0, hv⟩ : ∃ v, validB r0 = v := ⟨_, rfl⟩
  have HV := Lib.hid hv
  have HR0 : Hid (∀ x ∈ restB r0, 0 ≤ x ∧ x ≤ 255) := Lib.hid (by unfold restB; split; exact hr0; simp)
  have HRV : Hid (restB r0 ≠ [] → beginB (restB r0) = true) := Lib.hid (by
    unfold restB
    split
    · rename_i h; intro h2; simpa [validB, h2] using h
    · intro h; exact absurd rfl h)
  clear hv
  have hrl := hr.1
  go_enter Try.func13, Try.ntmps13
  go_wp2_with fail
  refine (refvalid_any _ _ _ r0 _ (by exact hr.up (by repeat (first | with_reducible assumption | with_reducible exact Bw.refl _ | with_reducible refine Bw.alloc ?_ _ | with_reducible refine Bw.more ?_ _ _ | with_reducible refine Bw.drew ?_ | with_reducible refine Bw.drewN ?_ _ | ((with_reducible refine Bw.set2 ?_ ?_ _); (focus (first | omega | (simp only [szA, szS, szD, szN, plus_size, Array.size_append] <;> omega)))) | with_reducible refine Bw.trans ?_ (by with_reducible assumption)))) hn hc hr0).mono ?_
  rintro ee ww ⟨rfl, hbb⟩
  rw [HV.out]
  obtain ⟨L1, d1, rfl⟩ := Bw.isPlus hbb
  clear hbb
  obtain ⟨W, hW⟩ : ∃ W, W = plus (((w.alloc (.cells #[.slice A n cap] 29)).alloc (.cells #[.slice none 0 0] 29))) L1 d1 := ⟨_, rfl⟩
  go_upto_if 13 with (fail)
  go_cut [6] (fun s6 w' => Sl (.int .u8) w' s6 (restB r0) ∧ Bw (plus (((w.alloc (.cells #[.slice A n cap] 29)).alloc (.cells #[.slice none 0 0] 29))) L1 d1) w')
  case first =>
    cases v0
    · go_wp2
      go_meet
      case rel =>
        refine ⟨?_, (by repeat (first | with_reducible assumption | with_reducible exact Bw.refl _ | with_reducible refine Bw.alloc ?_ _ | with_reducible refine Bw.more ?_ _ _ | with_reducible refine Bw.drew ?_ | with_reducible refine Bw.drewN ?_ _ | ((with_reducible refine Bw.set2 ?_ ?_ _); (focus (first | omega | (simp only [szA, szS, szD, szN, plus_size, Array.size_append] <;> omega)))) | with_reducible refine Bw.trans ?_ (by with_reducible assumption)))⟩
        rw [show restB r0 = [] by unfold restB; rw [HV.out]; rfl]
        exact Sl.nil_ _ _ _ (by omega)
    · go_wp2_with (at_builtin; refine wpList_append_srcG (by rfl) (.tmp 14) (.tmp 16) 23 rfl w.heap.size 5 i0 (.int .u8 0) 1 1 Try.underlying23 hi hz0 hz1 hz2 rfl (by decide) (.slice none 0 0) 0 [] rfl (World.ownsRow_nil _ _ _ _) A n cap (r0.map (.int .u8)) rfl (by simpa using hrl) (fun e => (hr.none_ e).1) (Rd.news2 (by exact hr.up (by repeat (first | with_reducible assumption | with_reducible exact Bw.refl _ | with_reducible refine Bw.alloc ?_ _ | with_reducible refine Bw.more ?_ _ _ | with_reducible refine Bw.drew ?_ | with_reducible refine Bw.drewN ?_ _ | ((with_reducible refine Bw.set2 ?_ ?_ _); (focus (first | omega | (simp only [szA, szS, szD, szN, plus_size, Array.size_append] <;> omega)))) | with_reducible refine Bw.trans ?_ (by with_reducible assumption))))) (one_map (fun _ => rfl) _) (by unfold maxLen; omega) (by omega) (by (first | omega | (simp only [szA, szS, szD, szN, plus_size, Array.size_append] <;> omega))) ?_; intro v1 w1 hown1 hg1; simp only [Nat.zero_add, List.nil_append] at hown1)
      go_meet
      case rel =>
        refine ⟨?_, Bw.trans (by repeat (first | with_reducible assumption | with_reducible exact Bw.refl _ | with_reducible refine Bw.alloc ?_ _ | with_reducible refine Bw.more ?_ _ _ | with_reducible refine Bw.drew ?_ | with_reducible refine Bw.drewN ?_ _ | ((with_reducible refine Bw.set2 ?_ ?_ _); (focus (first | omega | (simp only [szA, szS, szD, szN, plus_size, Array.size_append] <;> omega)))) | with_reducible refine Bw.trans ?_ (by with_reducible assumption))) (Bw.of_grown hg1)⟩
        rw [show restB r0 = r0 by unfold restB; rw [HV.out]; rfl]
        exact Sl.of_own hown1
  case rest =>
  obtain ⟨hS6, hbc⟩ := hcut
  have hEz : w.heap.size + 1 < wc.heap.size := Nat.lt_of_lt_of_le (by simp [plus_size]; omega) hbc.size
  have hEc : wc.cell? ⟨w.heap.size + 1, 0, none⟩ = some (.slice none 0 0) := cell_bw hbc (by repeat (first | ((with_reducible refine cell_alloc_here ?_ ?_); (focus (first | omega | (simp only [szA, szS, szD, szN, plus_size, Array.size_append] <;> omega))); (focus rfl)) | with_reducible refine cell_alloc_some ?_ _ | with_reducible refine cell_plus_some ?_ _ _ | ((with_reducible refine cell_set_some ?_ ?_); (focus (first | omega | (simp only [szA, szS, szD, szN, plus_size, Array.size_append] <;> omega)))) | with_reducible refine cell_drew_some ?_ | with_reducible refine cell_drewN_some ?_ _))
  have hEf : wc.frozen? ⟨w.heap.size + 1, 0, none⟩ = false := (Below.frozen hbc (p := ⟨w.heap.size + 1, 0, none⟩) (by simp [plus_size]; omega)).trans (by simp [go_sem])
  have hEw : Bw w wc := Bw.trans (by repeat (first | with_reducible assumption | with_reducible exact Bw.refl _ | with_reducible refine Bw.alloc ?_ _ | with_reducible refine Bw.more ?_ _ _ | with_reducible refine Bw.drew ?_ | with_reducible refine Bw.drewN ?_ _ | ((with_reducible refine Bw.set2 ?_ ?_ _); (focus (first | omega | (simp only [szA, szS, szD, szN, plus_size, Array.size_append] <;> omega)))) | with_reducible refine Bw.trans ?_ (by with_reducible assumption))) hbc
  replace hb : Rd (.int .u8) wc B m bs := hb.up hEw
  have hS6l : (restB r0).length ≤ 1000000 := by unfold restB; split; omega; simp
  clear hbc hr hrl hW
  clear W
  obtain ⟨W, rfl⟩ : ∃ W, W = wc := ⟨_, rfl⟩
  obtain ⟨rs, hrs⟩ : ∃ rs, restB r0 = rs := ⟨_, rfl⟩
  rw [hrs] at HR0 HRV hS6 hS6l
  have HRS := Lib.hid hrs
  clear hrs HV
  have hS64 : rs.length ≤ 4 := by
    by_cases hre : rs = []
    · subst hre; simp
    · exact beginB_len (HRV.out hre)
  go_wp2_with fail
  go_loopw [6, 7, 8] (fun s6 s7 i wr => ∃ k : Nat, i = .int .i64 k ∧ DecR W bs (dec rs bs) s6 s7 k wr) (fun s6 _ i _ => 2 * (m - (intOf i).toNat) + (match s6 with | .slice _ n _ => min n 1 | _ => 0))
  case atStart => exact ⟨0, rfl, rs, [], by omega, hS6, World.ownsRow_nil _ _ _ _, HR0.out, HRV.out, by simp; omega, rfl, rfl, (by repeat (first | with_reducible assumption | with_reducible exact Bw.refl _ | with_reducible refine Bw.alloc ?_ _ | with_reducible refine Bw.more ?_ _ _ | with_reducible refine Bw.drew ?_ | with_reducible refine Bw.drewN ?_ _ | ((with_reducible refine Bw.set2 ?_ ?_ _); (focus (first | omega | (simp only [szA, szS, szD, szN, plus_size, Array.size_append] <;> omega)))) | with_reducible refine Bw.trans ?_ (by with_reducible assumption)))⟩
  case round =>
    rename_i wr
    obtain ⟨k, rfl, r, l, hk, hS, hown, hrb, hrg, hl1, hF1, hF2, hbw⟩ := hrel
    obtain ⟨rA, rc, rfl, hrc1, hrc2, hR⟩ := hS
    clear hS6 hS6l HR0 HRV
    by_cases hlt : k < m
    · have hbl := hb.1
      obtain ⟨gb, ob, rfl, hx0⟩ := hb.2 (by omega)
      have hx1 := hx0 k (by omega)
      have hk' : k < bs.length := by omega
      obtain ⟨x, hxx⟩ : ∃ x, x = bs[k] := ⟨_, rfl⟩
      rw [← hxx] at hx1
      have hxw : wr.cell? ⟨gb, ob + k, none⟩ = some (.int .u8 x) := by
        rw [Below.cell hbw (p := ⟨gb, ob + k, none⟩) (lt_of_cell hx1)]; exact hx1
      have q1 : (0 : Int) ≤ k := by omega
      have q2 : (k : Int) < m := by omega
      have q3 : (m : Int) ≤ capB := by omega
      have q4 : (r.length : Int) ≤ rc := by omega
      have q5 : (0 : Int) ≤ r.length := by omega
      have hR3 : r.length ≤ 4 := by
        by_cases hre : r = []
        · subst hre; simp
        · have := hrg hre
          exact beginB_len this
      have HF1 := Lib.hid hF1
      have HF2 := Lib.hid hF2
      have HX := Lib.hid hxx
      have HO := Lib.hid hown
      have HB := Lib.hid hx0
      have HR := Lib.hid hR
      clear hF1 hF2 hxx hown hx0 hx1 hb hR
      go_upto_region 8 with (fail)
      go_cut [9] (fun s9 w' => Sl (.int .u8) w' s9 (r ++ [x]) ∧ Bw wr w')
      case first =>
        go_region_held3 (fun w' => w'.cell? ⟨gb, ob + k, none⟩ = some (.int .u8 x)) ((first | (refine cell_bw hb2 ?_; (repeat (first | with_reducible assumption |  ((with_reducible refine cell_alloc_here ?_ ?_); (focus (first | omega | (simp only [szA, szS, szD, szN, plus_size, Array.size_append] <;> omega))); (focus rfl)) | with_reducible refine cell_alloc_some ?_ _ | with_reducible refine cell_plus_some ?_ _ _ | ((with_reducible refine cell_set_some ?_ ?_); (focus (first | omega | (simp only [szA, szS, szD, szN, plus_size, Array.size_append] <;> omega)))) | with_reducible refine cell_drew_some ?_ | with_reducible refine cell_drewN_some ?_ _)); done) | (refine cell_bw hb1 ?_; (repeat (first | with_reducible assumption |  ((with_reducible refine cell_alloc_here ?_ ?_); (focus (first | omega | (simp only [szA, szS, szD, szN, plus_size, Array.size_append] <;> omega))); (focus rfl)) | with_reducible refine cell_alloc_some ?_ _ | with_reducible refine cell_plus_some ?_ _ _ | ((with_reducible refine cell_set_some ?_ ?_); (focus (first | omega | (simp only [szA, szS, szD, szN, plus_size, Array.size_append] <;> omega)))) | with_reducible refine cell_drew_some ?_ | with_reducible refine cell_drewN_some ?_ _)); done) | ((repeat (first | with_reducible assumption |  ((with_reducible refine cell_alloc_here ?_ ?_); (focus (first | omega | (simp only [szA, szS, szD, szN, plus_size, Array.size_append] <;> omega))); (focus rfl)) | with_reducible refine cell_alloc_some ?_ _ | with_reducible refine cell_plus_some ?_ _ _ | ((with_reducible refine cell_set_some ?_ ?_); (focus (first | omega | (simp only [szA, szS, szD, szN, plus_size, Array.size_append] <;> omega)))) | with_reducible refine cell_drew_some ?_ | with_reducible refine cell_drewN_some ?_ _)); done))) ((first | (refine step_append_srcG (by rfl) (.tmp 24) (.tmp 25) 23 rfl wr.heap.size 5 i0 (.int .u8 0) 1 1 Try.underlying23 hi hz0 hz1 hz2 rfl (by decide) _ 0 [] (by rfl) (by first | (refine (own_made (w := wr) ?_ ?_).bw ?_; (focus (first | omega | (simp only [szA, szS, szD, szN, plus_size, Array.size_append] <;> omega))); (focus (first | omega | (simp only [szA, szS, szD, szN, plus_size, Array.size_append] <;> omega))); (repeat (first | with_reducible assumption | with_reducible exact Bw.refl _ | with_reducible refine Bw.alloc ?_ _ | with_reducible refine Bw.more ?_ _ _ | with_reducible refine Bw.drew ?_ | with_reducible refine Bw.drewN ?_ _ | ((with_reducible refine Bw.set2 ?_ ?_ _); (focus (first | omega | (simp only [szA, szS, szD, szN, plus_size, Array.size_append] <;> omega)))) | with_reducible refine Bw.trans ?_ (by with_reducible assumption))); done) | (refine (own_made (w := wr.alloc (.cells #[.int .u8 x] 5)) ?_ ?_).bw ?_; (focus (first | omega | (simp only [szA, szS, szD, szN, plus_size, Array.size_append] <;> omega))); (focus (first | omega | (simp only [szA, szS, szD, szN, plus_size, Array.size_append] <;> omega))); (repeat (first | with_reducible assumption | with_reducible exact Bw.refl _ | with_reducible refine Bw.alloc ?_ _ | with_reducible refine Bw.more ?_ _ _ | with_reducible refine Bw.drew ?_ | with_reducible refine Bw.drewN ?_ _ | ((with_reducible refine Bw.set2 ?_ ?_ _); (focus (first | omega | (simp only [szA, szS, szD, szN, plus_size, Array.size_append] <;> omega)))) | with_reducible refine Bw.trans ?_ (by with_reducible assumption))); done)) rA r.length rc (r.map (.int .u8)) (by rfl) (by simp) (fun e => (HR.out.none_ e).1) (Rd.news2 (HR.out.up (by repeat (first | with_reducible assumption | with_reducible exact Bw.refl _ | with_reducible refine Bw.alloc ?_ _ | with_reducible refine Bw.more ?_ _ _ | with_reducible refine Bw.drew ?_ | with_reducible refine Bw.drewN ?_ _ | ((with_reducible refine Bw.set2 ?_ ?_ _); (focus (first | omega | (simp only [szA, szS, szD, szN, plus_size, Array.size_append] <;> omega)))) | with_reducible refine Bw.trans ?_ (by with_reducible assumption))))) (one_map (fun _ => rfl) _) (by unfold maxLen; omega) (by omega) (by (first | omega | (simp only [szA, szS, szD, szN, plus_size, Array.size_append] <;> omega))) ?_; intro v1 w1 hown1 hg1; simp only [Nat.zero_add, List.nil_append] at hown1; simp only [Value.ownBlock] at hg1; have hb1 : Bw wr w1 := Bw.grown (by exact (by repeat (first | with_reducible assumption | with_reducible exact Bw.refl _ | with_reducible refine Bw.alloc ?_ _ | with_reducible refine Bw.more ?_ _ _ | with_reducible refine Bw.drew ?_ | with_reducible refine Bw.drewN ?_ _ | ((with_reducible refine Bw.set2 ?_ ?_ _); (focus (first | omega | (simp only [szA, szS, szD, szN, plus_size, Array.size_append] <;> omega)))) | with_reducible refine Bw.trans ?_ (by with_reducible assumption)))) hg1 (fun k hk => by cases hk; (first | omega | (simp only [szA, szS, szD, szN, plus_size, Array.size_append] <;> omega))); (try (have hcx0 : w1.cell? ⟨wr.heap.size, 0, none⟩ = some (.int .u8 x) := by rw [grown_cell hg1 (p := ⟨wr.heap.size, 0, none⟩) (by (first | omega | (simp only [szA, szS, szD, szN, plus_size, Array.size_append] <;> omega))) (by simp)]; (repeat (first | with_reducible assumption |  ((with_reducible refine cell_alloc_here ?_ ?_); (focus (first | omega | (simp only [szA, szS, szD, szN, plus_size, Array.size_append] <;> omega))); (focus rfl)) | with_reducible refine cell_alloc_some ?_ _ | with_reducible refine cell_plus_some ?_ _ _ | ((with_reducible refine cell_set_some ?_ ?_); (focus (first | omega | (simp only [szA, szS, szD, szN, plus_size, Array.size_append] <;> omega)))) | with_reducible refine cell_drew_some ?_ | with_reducible refine cell_drewN_some ?_ _)))); (try (have hcx1 : w1.cell? ⟨wr.heap.size + 1, 0, none⟩ = some (.int .u8 x) := by rw [grown_cell hg1 (p := ⟨wr.heap.size + 1, 0, none⟩) (by (first | omega | (simp only [szA, szS, szD, szN, plus_size, Array.size_append] <;> omega))) (by simp)]; (repeat (first | with_reducible assumption |  ((with_reducible refine cell_alloc_here ?_ ?_); (focus (first | omega | (simp only [szA, szS, szD, szN, plus_size, Array.size_append] <;> omega))); (focus rfl)) | with_reducible refine cell_alloc_some ?_ _ | with_reducible refine cell_plus_some ?_ _ _ | ((with_reducible refine cell_set_some ?_ ?_); (focus (first | omega | (simp only [szA, szS, szD, szN, plus_size, Array.size_append] <;> omega)))) | with_reducible refine cell_drew_some ?_ | with_reducible refine cell_drewN_some ?_ _)))); have hwz1 : wr.heap.size < w1.heap.size := Nat.lt_of_lt_of_le (by (first | omega | (simp only [szA, szS, szD, szN, plus_size, Array.size_append] <;> omega))) hg1.size; have HO1 := Lib.hid hown1; clear hown1 hg1) | (refine step_append_srcG (by rfl) (.tmp 26) (.tmp 31) 23 rfl wr.heap.size 5 i0 (.int .u8 0) 1 1 Try.underlying23 hi hz0 hz1 hz2 rfl (by decide) v1 r.length (r.map (.int .u8)) (by rfl) (by exact HO1.out.bw (by repeat (first | with_reducible assumption | with_reducible exact Bw.refl _ | with_reducible refine Bw.alloc ?_ _ | with_reducible refine Bw.more ?_ _ _ | with_reducible refine Bw.drew ?_ | with_reducible refine Bw.drewN ?_ _ | ((with_reducible refine Bw.set2 ?_ ?_ _); (focus (first | omega | (simp only [szA, szS, szD, szN, plus_size, Array.size_append] <;> omega)))) | with_reducible refine Bw.trans ?_ (by with_reducible assumption)))) _ 1 1 [.int .u8 x] (by rfl) rfl (fun e => by cases e) (fun ad e => by cases e; exact cell_one_at (by first | assumption | go_simp)) (by simp; rfl) (by unfold maxLen; omega) (by omega) (by have := hb1.size; (first | omega | (simp only [szA, szS, szD, szN, plus_size, Array.size_append] <;> omega))) ?_; intro v2 w2 hown2 hg2; have hb2 : Bw wr w2 := Bw.row (by exact Bw.trans hb1 (by repeat (first | with_reducible assumption | with_reducible exact Bw.refl _ | with_reducible refine Bw.alloc ?_ _ | with_reducible refine Bw.more ?_ _ _ | with_reducible refine Bw.drew ?_ | with_reducible refine Bw.drewN ?_ _ | ((with_reducible refine Bw.set2 ?_ ?_ _); (focus (first | omega | (simp only [szA, szS, szD, szN, plus_size, Array.size_append] <;> omega)))) | with_reducible refine Bw.trans ?_ (by with_reducible assumption)))) (by exact HO1.out.bw (by repeat (first | with_reducible assumption | with_reducible exact Bw.refl _ | with_reducible refine Bw.alloc ?_ _ | with_reducible refine Bw.more ?_ _ _ | with_reducible refine Bw.drew ?_ | with_reducible refine Bw.drewN ?_ _ | ((with_reducible refine Bw.set2 ?_ ?_ _); (focus (first | omega | (simp only [szA, szS, szD, szN, plus_size, Array.size_append] <;> omega)))) | with_reducible refine Bw.trans ?_ (by with_reducible assumption)))) hg2 (Nat.le_refl _); have HO2 := Lib.hid hown2; clear hown2 hg2) | fail))
        all_goals go_wp2
        all_goals go_meet
        all_goals exact ⟨Sl.of_own (n := r.length + 1) (xs := r ++ [x]) (by rw [List.map_append]; exact HO2.out), hb2⟩
      case rest =>
        obtain ⟨⟨nA, nc, hv9, N1, N2, N3⟩, hb9⟩ := hcut
        obtain ⟨N, hN⟩ : ∃ N, N = (r ++ [x]).length := ⟨_, rfl⟩
        rw [← hN] at hv9 N1 N3
        subst hv9
        have HO9 := Lib.hid (HO.out.bw hb9)
        have hbw9 : Bw W wc := hbw.trans hb9
        have N4 : ∀ y ∈ r ++ [x], 0 ≤ y ∧ y ≤ 255 := by
          intro y hy
          rcases List.mem_append.1 hy with h | h
          · exact hrb y h
          · simp at h; subst h; rw [HX.out]; exact hbs _ (List.getElem_mem _)
        have N5 : N ≤ 5 := by rw [hN]; simp; omega
        have N7 : 1 ≤ N := by rw [hN]; simp
        have HN := Lib.hid hN
        clear hN
        have HD := Lib.hid (show bs.drop k = x :: bs.drop (k + 1) by rw [HX.out]; exact List.drop_eq_getElem_cons hk')
        have hps := pre_split (r ++ [x])
        clear hbs hrb hrg HB HR hxw hb9 hbw
        cases hE1 : beginB (r ++ [x])
        · have HE1 := Lib.hid hE1
          cases hE2 : completeB (r ++ [x])
          · have HE2 := Lib.hid hE2
            have HEP := Lib.hid (show prefixB (r ++ [x]) = false by rw [hE1, hE2] at hps; simpa using hps.symm)
            clear hE2 hE1 hps
            cases hre : r.isEmpty
            · have hre' : r ≠ [] := by simpa using hre
              have hrl : (0 : Int) < r.length := by have := List.length_pos_iff.2 hre'; omega
              have HA := Lib.hid (dec_again (t := bs.drop (k + 1)) HE1.out HE2.out hre')
              have HZ := Lib.hid hre'
              clear hre hre'
              go_wp2_with (first | (go_at_call 28; refine (refprefix_any _ _ _ (r ++ [x]) _ (by exact N3.up (by repeat (first | with_reducible assumption | with_reducible exact Bw.refl _ | with_reducible refine Bw.alloc ?_ _ | with_reducible refine Bw.more ?_ _ _ | with_reducible refine Bw.drew ?_ | with_reducible refine Bw.drewN ?_ _ | ((with_reducible refine Bw.set2 ?_ ?_ _); (focus (first | omega | (simp only [szA, szS, szD, szN, plus_size, Array.size_append] <;> omega)))) | with_reducible refine Bw.trans ?_ (by with_reducible assumption)))) (by exact N1) N2 N4).mono ?_; rintro ee ww ⟨rfl, hbp⟩; rw [HEP.out, HE2.out]; obtain ⟨Lp, dp, rfl⟩ := Bw.isPlus hbp; clear hbp) | (at_builtin; refine wpList_append_srcG (by rfl) (.tmp 60) (.tmp 61) 22 rfl W.heap.size 3 j0 (.int .i64 0) 1 8 Try.underlying22 hj hj0 hj1 hj2 rfl (by decide) _ l.length (l.map (.int .i64)) (by rfl) (by exact HO9.out.bw (by repeat (first | with_reducible assumption | with_reducible exact Bw.refl _ | with_reducible refine Bw.alloc ?_ _ | with_reducible refine Bw.more ?_ _ _ | with_reducible refine Bw.drew ?_ | with_reducible refine Bw.drewN ?_ _ | ((with_reducible refine Bw.set2 ?_ ?_ _); (focus (first | omega | (simp only [szA, szS, szD, szN, plus_size, Array.size_append] <;> omega)))) | with_reducible refine Bw.trans ?_ (by with_reducible assumption)))) _ 1 1 [.int .i64 65533] (by rfl) rfl (fun e => by cases e) (fun ad e => by cases e; exact cell_one_at (by go_simp)) (by simp; rfl) (by unfold maxLen; omega) (by omega) (by have := Below.size hbw9; (first | omega | (simp only [szA, szS, szD, szN, plus_size, Array.size_append] <;> omega))) ?_; intro v1 w1 hown1 hg1; have hbw1 : Bw W w1 := Bw.row (by exact Bw.trans hbw9 (by repeat (first | with_reducible assumption | with_reducible exact Bw.refl _ | with_reducible refine Bw.alloc ?_ _ | with_reducible refine Bw.more ?_ _ _ | with_reducible refine Bw.drew ?_ | with_reducible refine Bw.drewN ?_ _ | ((with_reducible refine Bw.set2 ?_ ?_ _); (focus (first | omega | (simp only [szA, szS, szD, szN, plus_size, Array.size_append] <;> omega)))) | with_reducible refine Bw.trans ?_ (by with_reducible assumption)))) (by exact HO9.out.bw (by repeat (first | with_reducible assumption | with_reducible exact Bw.refl _ | with_reducible refine Bw.alloc ?_ _ | with_reducible refine Bw.more ?_ _ _ | with_reducible refine Bw.drew ?_ | with_reducible refine Bw.drewN ?_ _ | ((with_reducible refine Bw.set2 ?_ ?_ _); (focus (first | omega | (simp only [szA, szS, szD, szN, plus_size, Array.size_append] <;> omega)))) | with_reducible refine Bw.trans ?_ (by with_reducible assumption)))) hg1 (Nat.le_refl _)) | fail)
              go_roundw
              case rel =>
                refine ⟨k, by go_num, [], l ++ [65533], by omega, Sl.nil_ _ _ _ (by omega), by simpa using hown1, by simp, by simp, by simp; omega, ?_, ?_, hbw1⟩
                · have h5 := HF1.out; rw [HD.out, HA.out] at h5; rw [HD.out]; exact h5
                · have h5 := HF2.out; rw [HD.out, HA.out] at h5; rw [HD.out, List.append_assoc]; exact h5
              case measure => simp [intOf]; omega
            · have hre' : r = [] := by simpa using hre
              subst hre'
              have HA := Lib.hid (dec_bad (t := bs.drop (k + 1)) HE1.out HE2.out)
              clear hre
              go_wp2_with (first | (go_at_call 28; refine (refprefix_any _ _ _ ([] ++ [x]) _ (by exact N3.up (by repeat (first | with_reducible assumption | with_reducible exact Bw.refl _ | with_reducible refine Bw.alloc ?_ _ | with_reducible refine Bw.more ?_ _ _ | with_reducible refine Bw.drew ?_ | with_reducible refine Bw.drewN ?_ _ | ((with_reducible refine Bw.set2 ?_ ?_ _); (focus (first | omega | (simp only [szA, szS, szD, szN, plus_size, Array.size_append] <;> omega)))) | with_reducible refine Bw.trans ?_ (by with_reducible assumption)))) (by exact N1) N2 N4).mono ?_; rintro ee ww ⟨rfl, hbp⟩; rw [HEP.out, HE2.out]; obtain ⟨Lp, dp, rfl⟩ := Bw.isPlus hbp; clear hbp) | (at_builtin; refine wpList_append_srcG (by rfl) (.tmp 38) (.tmp 39) 22 rfl W.heap.size 3 j0 (.int .i64 0) 1 8 Try.underlying22 hj hj0 hj1 hj2 rfl (by decide) _ l.length (l.map (.int .i64)) (by rfl) (by exact HO9.out.bw (by repeat (first | with_reducible assumption | with_reducible exact Bw.refl _ | with_reducible refine Bw.alloc ?_ _ | with_reducible refine Bw.more ?_ _ _ | with_reducible refine Bw.drew ?_ | with_reducible refine Bw.drewN ?_ _ | ((with_reducible refine Bw.set2 ?_ ?_ _); (focus (first | omega | (simp only [szA, szS, szD, szN, plus_size, Array.size_append] <;> omega)))) | with_reducible refine Bw.trans ?_ (by with_reducible assumption)))) _ 1 1 [.int .i64 65533] (by rfl) rfl (fun e => by cases e) (fun ad e => by cases e; exact cell_one_at (by go_simp)) (by simp; rfl) (by unfold maxLen; omega) (by omega) (by have := Below.size hbw9; (first | omega | (simp only [szA, szS, szD, szN, plus_size, Array.size_append] <;> omega))) ?_; intro v1 w1 hown1 hg1; have hbw1 : Bw W w1 := Bw.row (by exact Bw.trans hbw9 (by repeat (first | with_reducible assumption | with_reducible exact Bw.refl _ | with_reducible refine Bw.alloc ?_ _ | with_reducible refine Bw.more ?_ _ _ | with_reducible refine Bw.drew ?_ | with_reducible refine Bw.drewN ?_ _ | ((with_reducible refine Bw.set2 ?_ ?_ _); (focus (first | omega | (simp only [szA, szS, szD, szN, plus_size, Array.size_append] <;> omega)))) | with_reducible refine Bw.trans ?_ (by with_reducible assumption)))) (by exact HO9.out.bw (by repeat (first | with_reducible assumption | with_reducible exact Bw.refl _ | with_reducible refine Bw.alloc ?_ _ | with_reducible refine Bw.more ?_ _ _ | with_reducible refine Bw.drew ?_ | with_reducible refine Bw.drewN ?_ _ | ((with_reducible refine Bw.set2 ?_ ?_ _); (focus (first | omega | (simp only [szA, szS, szD, szN, plus_size, Array.size_append] <;> omega)))) | with_reducible refine Bw.trans ?_ (by with_reducible assumption)))) hg1 (Nat.le_refl _)) | fail)
              go_roundw
              case rel =>
                refine ⟨k + 1, by go_num, [], l ++ [65533], by omega, Sl.nil_ _ _ _ (by omega), by simpa using hown1, by simp, by simp, by simp at hl1 ⊢; omega, ?_, ?_, hbw1⟩
                · have h5 := HF1.out; rw [HD.out, HA.out] at h5; exact h5
                · have h5 := HF2.out; rw [HD.out, HA.out] at h5; rw [List.append_assoc]; exact h5
              case measure => simp [intOf]; omega
          · have HE2 := Lib.hid hE2
            have HEP := Lib.hid (show prefixB (r ++ [x]) = true by rw [hE1, hE2] at hps; cases h : prefixB (r ++ [x]); (unfold completeB at hE2; rw [h] at hE2; cases hE2); rfl)
            have N6 : N ≤ 4 := by rw [HN.out]; exact completeB_len hE2
            have HA := Lib.hid (dec_complete (t := bs.drop (k + 1)) HE1.out HE2.out)
            have HVN := Lib.hid (val_num HN.out.symm N7 N6)
            clear hE2 hE1 hps
            go_wp2_with (first | (go_at_call 28; refine (refprefix_any _ _ _ (r ++ [x]) _ (by exact N3.up (by repeat (first | with_reducible assumption | with_reducible exact Bw.refl _ | with_reducible refine Bw.alloc ?_ _ | with_reducible refine Bw.more ?_ _ _ | with_reducible refine Bw.drew ?_ | with_reducible refine Bw.drewN ?_ _ | ((with_reducible refine Bw.set2 ?_ ?_ _); (focus (first | omega | (simp only [szA, szS, szD, szN, plus_size, Array.size_append] <;> omega)))) | with_reducible refine Bw.trans ?_ (by with_reducible assumption)))) (by exact N1) N2 N4).mono ?_; rintro ee ww ⟨rfl, hbp⟩; rw [HEP.out, HE2.out]; obtain ⟨Lp, dp, rfl⟩ := Bw.isPlus hbp; clear hbp) | (go_at_call 29; refine (refnum_at _ _ _ N _ (r ++ [x]) 0 (valN (r ++ [x])) _ (by rfl) HVN.out (by exact N3.up (by repeat (first | with_reducible assumption | with_reducible exact Bw.refl _ | with_reducible refine Bw.alloc ?_ _ | with_reducible refine Bw.more ?_ _ _ | with_reducible refine Bw.drew ?_ | with_reducible refine Bw.drewN ?_ _ | ((with_reducible refine Bw.set2 ?_ ?_ _); (focus (first | omega | (simp only [szA, szS, szD, szN, plus_size, Array.size_append] <;> omega)))) | with_reducible refine Bw.trans ?_ (by with_reducible assumption)))) N7 (Nat.le_refl _) N6 N4 (by omega)).mono ?_; rintro ee ww ⟨rfl, q, rfl⟩) | (at_builtin; refine wpList_append_srcG (by rfl) (.tmp 46) (.tmp 51) 22 rfl W.heap.size 3 j0 (.int .i64 0) 1 8 Try.underlying22 hj hj0 hj1 hj2 rfl (by decide) _ l.length (l.map (.int .i64)) (by rfl) (by exact HO9.out.bw (by repeat (first | with_reducible assumption | with_reducible exact Bw.refl _ | with_reducible refine Bw.alloc ?_ _ | with_reducible refine Bw.more ?_ _ _ | with_reducible refine Bw.drew ?_ | with_reducible refine Bw.drewN ?_ _ | ((with_reducible refine Bw.set2 ?_ ?_ _); (focus (first | omega | (simp only [szA, szS, szD, szN, plus_size, Array.size_append] <;> omega)))) | with_reducible refine Bw.trans ?_ (by with_reducible assumption)))) _ 1 1 [.int .i64 (valN (r ++ [x]))] (by rfl) rfl (fun e => by cases e) (fun ad e => by cases e; exact cell_one_at (by go_simp)) (by simp; rfl) (by unfold maxLen; omega) (by omega) (by have := Below.size hbw9; (first | omega | (simp only [szA, szS, szD, szN, plus_size, Array.size_append] <;> omega))) ?_; intro v1 w1 hown1 hg1; have hbw1 : Bw W w1 := Bw.row (by exact Bw.trans hbw9 (by repeat (first | with_reducible assumption | with_reducible exact Bw.refl _ | with_reducible refine Bw.alloc ?_ _ | with_reducible refine Bw.more ?_ _ _ | with_reducible refine Bw.drew ?_ | with_reducible refine Bw.drewN ?_ _ | ((with_reducible refine Bw.set2 ?_ ?_ _); (focus (first | omega | (simp only [szA, szS, szD, szN, plus_size, Array.size_append] <;> omega)))) | with_reducible refine Bw.trans ?_ (by with_reducible assumption)))) (by exact HO9.out.bw (by repeat (first | with_reducible assumption | with_reducible exact Bw.refl _ | with_reducible refine Bw.alloc ?_ _ | with_reducible refine Bw.more ?_ _ _ | with_reducible refine Bw.drew ?_ | with_reducible refine Bw.drewN ?_ _ | ((with_reducible refine Bw.set2 ?_ ?_ _); (focus (first | omega | (simp only [szA, szS, szD, szN, plus_size, Array.size_append] <;> omega)))) | with_reducible refine Bw.trans ?_ (by with_reducible assumption)))) hg1 (Nat.le_refl _)) | fail)
            go_roundw
            case rel =>
              refine ⟨k + 1, by go_num, [], l ++ [valN (r ++ [x])], by omega, Sl.nil_ _ _ _ (by omega), by simpa using hown1, by simp, by simp, by simp; omega, ?_, ?_, hbw1⟩
              · have h5 := HF1.out; rw [HD.out, HA.out] at h5; exact h5
              · have h5 := HF2.out; rw [HD.out, HA.out] at h5; rw [List.append_assoc]; exact h5
            case measure => simp [intOf]; omega
        · have HE1 := Lib.hid hE1
          have hpc : prefixB (r ++ [x]) = true ∧ completeB (r ++ [x]) = false := by
            rw [hE1] at hps
            cases h1 : prefixB (r ++ [x]) <;> cases h2 : completeB (r ++ [x]) <;> simp [h1, h2] at hps ⊢
          have HEP := Lib.hid hpc.1
          have HE2 := Lib.hid hpc.2
          clear hE1 hps hpc
          go_wp2_with (first | (go_at_call 28; refine (refprefix_any _ _ _ (r ++ [x]) _ (by exact N3.up (by repeat (first | with_reducible assumption | with_reducible exact Bw.refl _ | with_reducible refine Bw.alloc ?_ _ | with_reducible refine Bw.more ?_ _ _ | with_reducible refine Bw.drew ?_ | with_reducible refine Bw.drewN ?_ _ | ((with_reducible refine Bw.set2 ?_ ?_ _); (focus (first | omega | (simp only [szA, szS, szD, szN, plus_size, Array.size_append] <;> omega)))) | with_reducible refine Bw.trans ?_ (by with_reducible assumption)))) (by exact N1) N2 N4).mono ?_; rintro ee ww ⟨rfl, hbp⟩; rw [HEP.out, HE2.out]; obtain ⟨Lp, dp, rfl⟩ := Bw.isPlus hbp; clear hbp) | fail)
          go_roundw
          case rel =>
            refine ⟨k + 1, by go_num, r ++ [x], l, by omega, Sl.mk' HN.out N1 N2 (N3.up (by repeat (first | with_reducible assumption | with_reducible exact Bw.refl _ | with_reducible refine Bw.alloc ?_ _ | with_reducible refine Bw.more ?_ _ _ | with_reducible refine Bw.drew ?_ | with_reducible refine Bw.drewN ?_ _ | ((with_reducible refine Bw.set2 ?_ ?_ _); (focus (first | omega | (simp only [szA, szS, szD, szN, plus_size, Array.size_append] <;> omega)))) | with_reducible refine Bw.trans ?_ (by with_reducible assumption)))), HO9.out.bw (by repeat (first | with_reducible assumption | with_reducible exact Bw.refl _ | with_reducible refine Bw.alloc ?_ _ | with_reducible refine Bw.more ?_ _ _ | with_reducible refine Bw.drew ?_ | with_reducible refine Bw.drewN ?_ _ | ((with_reducible refine Bw.set2 ?_ ?_ _); (focus (first | omega | (simp only [szA, szS, szD, szN, plus_size, Array.size_append] <;> omega)))) | with_reducible refine Bw.trans ?_ (by with_reducible assumption))), N4, fun _ => HE1.out, by simp; omega, ?_, ?_, Bw.trans hbw9 (by repeat (first | with_reducible assumption | with_reducible exact Bw.refl _ | with_reducible refine Bw.alloc ?_ _ | with_reducible refine Bw.more ?_ _ _ | with_reducible refine Bw.drew ?_ | with_reducible refine Bw.drewN ?_ _ | ((with_reducible refine Bw.set2 ?_ ?_ _); (focus (first | omega | (simp only [szA, szS, szD, szN, plus_size, Array.size_append] <;> omega)))) | with_reducible refine Bw.trans ?_ (by with_reducible assumption)))⟩
            · have := HF1.out; rw [HD.out, dec_begin HE1.out] at this; exact this
            · have := HF2.out; rw [HD.out, dec_begin HE1.out] at this; exact this
          case measure => simp [intOf]; omega
    · have hk' : bs.length ≤ k := by have := hb.1; omega
      rw [List.drop_eq_nil_of_le hk'] at hF1 hF2
      have e1 : r = (dec rs bs).1 := hF1
      have e2 : l = (dec rs bs).2 := by rw [← hF2]; show l = l ++ []; simp
      have HE1 := Lib.hid e1
      have HE2 := Lib.hid e2
      have HO := Lib.hid hown
      have HR := Lib.hid hR
      clear hF1 hF2 e1 e2 hown hR hrb hrg
      have zc : wr.cell? ⟨w.heap.size + 1, 0, none⟩ = some (.slice none 0 0) := cell_bw hbw hEc
      have zf : wr.frozen? ⟨w.heap.size + 1, 0, none⟩ = false := (Below.frozen hbw (p := ⟨w.heap.size + 1, 0, none⟩) hEz).trans hEf
      go_wp2
      refine bodyPost_ret (by simp [results, Try.results13, go_sem, zc]; rfl) rfl ?_
      rw [HRS.out]
      refine ⟨_, _, rfl, ?_, ?_, (hEw.trans hbw).set (by dsimp only; omega) _⟩
      · rw [← HE1.out]
        exact (Sl.mk' rfl hrc1 hrc2 HR.out).set zc (by simp) _
      · rw [← HE2.out]
        exact (Sl.of_own HO.out).set zc (by simp) _
end Go.Proofs.Ytagihjchhpiipaa
