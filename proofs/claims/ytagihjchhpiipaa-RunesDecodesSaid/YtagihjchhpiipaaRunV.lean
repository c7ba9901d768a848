/- The law RunesDecodes: walked. -/
import Derived.Test.YtagihjchhpiipaaRunU
import Derived.Test.YtagihjchhpiipaaRunR
import Derived.Deep.RegionHeld3
set_option linter.unusedSimpArgs false
set_option linter.unusedVariables false
namespace Go.Proofs.Ytagihjchhpiipaa
open Go.RowKit

def ThreeC (w : World) (G : Nat) (A : Option Addr) (n cap : Nat) (X : Option Addr) (n1 c1 : Nat) : Prop :=
  ∃ p : Nat, p ≤ n1 ∧ p ≤ 2 ∧ w.cell? ⟨G, 0, none⟩ = some (.slice none 0 0) ∧ w.cell? ⟨G, 1, none⟩ = some (.slice A n cap) ∧ w.cell? ⟨G, 2, none⟩ = some (.slice X p c1)

set_option maxRecDepth 100000 in
set_option maxHeartbeats 2000000 in
theorem runesDecodes_any (A B C : Option Addr) (n cap m capB q capC : Nat) (rs bs xs : List Int) (w : World) (ha : Rd (.int .u8) w A n rs) (hn : n ≤ cap) (hc : cap ≤ 9223372036854775807) (hrs : ∀ x ∈ rs, 0 ≤ x ∧ x ≤ 255)
    (hb : Rd (.int .u8) w B m bs) (hm : m ≤ capB) (hcB : capB ≤ 9223372036854775807) (hbs : ∀ x ∈ bs, 0 ≤ x ∧ x ≤ 255) (hr : Rd (.int .i64) w C q xs) (hq : q ≤ capC) (hcC : capC ≤ 9223372036854775807) :
    Calls Try.prog 4 #[.slice A n cap, .slice B m capB, .slice C q capC] w fun e w' => e = .returned (.bool true) ∧ Bw w w' := by
  by_cases h6 : 6 < n
  · go_enter Try.func4, Try.ntmps4
    go_wp2_with (go_at_call 7; refine (sane04_any _).mono ?_; rintro ee ww ⟨rfl, hb1⟩; (first | obtain ⟨L1, d1, rfl⟩ := Bw.isPlus (Bw.un hb1) | obtain ⟨L1, d1, rfl⟩ := Bw.isPlus hb1); clear hb1)
    go_ret
    exact ⟨rfl, (by repeat (first | with_reducible assumption | with_reducible exact Bw.refl _ | with_reducible refine Bw.alloc ?_ _ | with_reducible refine Bw.more ?_ _ _ | with_reducible refine Bw.drew ?_ | with_reducible refine Bw.drewN ?_ _ | ((with_reducible refine Bw.set2 ?_ ?_ _); (focus (first | omega | (simp only [szA, szS, szD, szN, plus_size, Array.size_append] <;> omega)))) | with_reducible refine Bw.trans ?_ (by with_reducible assumption)))⟩
  by_cases hfew : 200 < m
  · have h6' : (n : Int) ≤ 6 := by omega
    go_enter Try.func4, Try.ntmps4
    go_wp2_with (go_at_call 7; refine (sane04_any _).mono ?_; rintro ee ww ⟨rfl, hb1⟩; (first | obtain ⟨L1, d1, rfl⟩ := Bw.isPlus (Bw.un hb1) | obtain ⟨L1, d1, rfl⟩ := Bw.isPlus hb1); clear hb1)
    go_ret
    exact ⟨rfl, (by repeat (first | with_reducible assumption | with_reducible exact Bw.refl _ | with_reducible refine Bw.alloc ?_ _ | with_reducible refine Bw.more ?_ _ _ | with_reducible refine Bw.drew ?_ | with_reducible refine Bw.drewN ?_ _ | ((with_reducible refine Bw.set2 ?_ ?_ _); (focus (first | omega | (simp only [szA, szS, szD, szN, plus_size, Array.size_append] <;> omega)))) | with_reducible refine Bw.trans ?_ (by with_reducible assumption)))⟩
  have h6' : (n : Int) ≤ 6 := by omega
  have hf' : (m : Int) ≤ 200 := by omega
  have HA := Lib.hid ha
  have HB := Lib.hid hb
  have HRS := Lib.hid hrs
  have HBS := Lib.hid hbs
  clear ha hb hrs hbs
  go_enter Try.func4, Try.ntmps4
  go_upto_region 6 with (first | (go_at_call 7; refine (sane04_any _).mono ?_; rintro ee ww ⟨rfl, hb1⟩; (first | obtain ⟨L1, d1, rfl⟩ := Bw.isPlus (Bw.un hb1) | obtain ⟨L1, d1, rfl⟩ := Bw.isPlus hb1); clear hb1) | (go_at_call 8; refine (odd_any C q capC xs _ (by exact ⟨hr.1, (hr.up (w' := _) (by repeat (first | with_reducible assumption | with_reducible exact Bw.refl _ | with_reducible refine Bw.alloc ?_ _ | with_reducible refine Bw.more ?_ _ _ | with_reducible refine Bw.drew ?_ | with_reducible refine Bw.drewN ?_ _ | ((with_reducible refine Bw.set2 ?_ ?_ _); (focus (first | omega | (simp only [szA, szS, szD, szN, plus_size, Array.size_append] <;> omega)))) | with_reducible refine Bw.trans ?_ (by with_reducible assumption)))).toI⟩) (by exact (hr.up (by repeat (first | with_reducible assumption | with_reducible exact Bw.refl _ | with_reducible refine Bw.alloc ?_ _ | with_reducible refine Bw.more ?_ _ _ | with_reducible refine Bw.drew ?_ | with_reducible refine Bw.drewN ?_ _ | ((with_reducible refine Bw.set2 ?_ ?_ _); (focus (first | omega | (simp only [szA, szS, szD, szN, plus_size, Array.size_append] <;> omega)))) | with_reducible refine Bw.trans ?_ (by with_reducible assumption)))).ltA) (by omega)).mono ?_; rintro ee ww ⟨X, n1, c1, ys, rfl, hR1, ⟨hn1, hc1, hA1⟩, hys, hlen, hb1⟩; (obtain ⟨L2, d2, rfl⟩ := Bw.isPlus hb1; (try simp only [plus_plus, drewN_plus, drew_plus] at hR1); clear hb1); have HR1 := Lib.hid hR1; have HYS := Lib.hid hys; have hlen1 := hR1.1; have hn60 : n1 ≤ 60 := (by omega); clear hR1 hA1 hys hlen1 hlen) | fail)
  go_cut [37, 38, 39] (fun s37 s38 s39 w' => s37 = .slice (some ⟨w.heap.size + (L1.size + L2.size), 0, none⟩) 3 3 ∧ s38 = .int .i64 3 ∧ s39 = .int .i64 0 ∧ ThreeC w' (w.heap.size + (L1.size + L2.size)) A n cap X n1 c1 ∧ Bw (plus w (L1 ++ L2) d2) w')
  case first =>
    by_cases hp : 2 < n1
    · have hpi : (2 : Int) < n1 := by omega
      have hpc : (2 : Int) ≤ c1 := by omega
      go_wp2
      go_meet
      case rel => exact ⟨rfl, rfl, rfl, ⟨2, by omega, by omega, (by repeat (first | ((with_reducible refine cell_alloc_here ?_ ?_); (focus (first | omega | (simp only [szA, szS, szD, szN, plus_size, Array.size_append] <;> omega))); (focus rfl)) | with_reducible refine cell_alloc_some ?_ _ | with_reducible refine cell_plus_some ?_ _ _ | ((with_reducible refine cell_set_some ?_ ?_); (focus (first | omega | (simp only [szA, szS, szD, szN, plus_size, Array.size_append] <;> omega)))) | with_reducible refine cell_drew_some ?_ | with_reducible refine cell_drewN_some ?_ _)), (by repeat (first | ((with_reducible refine cell_alloc_here ?_ ?_); (focus (first | omega | (simp only [szA, szS, szD, szN, plus_size, Array.size_append] <;> omega))); (focus rfl)) | with_reducible refine cell_alloc_some ?_ _ | with_reducible refine cell_plus_some ?_ _ _ | ((with_reducible refine cell_set_some ?_ ?_); (focus (first | omega | (simp only [szA, szS, szD, szN, plus_size, Array.size_append] <;> omega)))) | with_reducible refine cell_drew_some ?_ | with_reducible refine cell_drewN_some ?_ _)), (by repeat (first | ((with_reducible refine cell_alloc_here ?_ ?_); (focus (first | omega | (simp only [szA, szS, szD, szN, plus_size, Array.size_append] <;> omega))); (focus rfl)) | with_reducible refine cell_alloc_some ?_ _ | with_reducible refine cell_plus_some ?_ _ _ | ((with_reducible refine cell_set_some ?_ ?_); (focus (first | omega | (simp only [szA, szS, szD, szN, plus_size, Array.size_append] <;> omega)))) | with_reducible refine cell_drew_some ?_ | with_reducible refine cell_drewN_some ?_ _))⟩, (by repeat (first | with_reducible assumption | with_reducible exact Bw.refl _ | with_reducible refine Bw.alloc ?_ _ | with_reducible refine Bw.more ?_ _ _ | with_reducible refine Bw.drew ?_ | with_reducible refine Bw.drewN ?_ _ | ((with_reducible refine Bw.set2 ?_ ?_ _); (focus (first | omega | (simp only [szA, szS, szD, szN, plus_size, Array.size_append] <;> omega)))) | with_reducible refine Bw.trans ?_ (by with_reducible assumption)))⟩
    · have hpi : (n1 : Int) ≤ 2 := by omega
      have hpc : (n1 : Int) ≤ c1 := by omega
      go_wp2
      go_meet
      case rel => exact ⟨rfl, rfl, rfl, ⟨n1, by omega, by omega, (by repeat (first | ((with_reducible refine cell_alloc_here ?_ ?_); (focus (first | omega | (simp only [szA, szS, szD, szN, plus_size, Array.size_append] <;> omega))); (focus rfl)) | with_reducible refine cell_alloc_some ?_ _ | with_reducible refine cell_plus_some ?_ _ _ | ((with_reducible refine cell_set_some ?_ ?_); (focus (first | omega | (simp only [szA, szS, szD, szN, plus_size, Array.size_append] <;> omega)))) | with_reducible refine cell_drew_some ?_ | with_reducible refine cell_drewN_some ?_ _)), (by repeat (first | ((with_reducible refine cell_alloc_here ?_ ?_); (focus (first | omega | (simp only [szA, szS, szD, szN, plus_size, Array.size_append] <;> omega))); (focus rfl)) | with_reducible refine cell_alloc_some ?_ _ | with_reducible refine cell_plus_some ?_ _ _ | ((with_reducible refine cell_set_some ?_ ?_); (focus (first | omega | (simp only [szA, szS, szD, szN, plus_size, Array.size_append] <;> omega)))) | with_reducible refine cell_drew_some ?_ | with_reducible refine cell_drewN_some ?_ _)), (by repeat (first | ((with_reducible refine cell_alloc_here ?_ ?_); (focus (first | omega | (simp only [szA, szS, szD, szN, plus_size, Array.size_append] <;> omega))); (focus rfl)) | with_reducible refine cell_alloc_some ?_ _ | with_reducible refine cell_plus_some ?_ _ _ | ((with_reducible refine cell_set_some ?_ ?_); (focus (first | omega | (simp only [szA, szS, szD, szN, plus_size, Array.size_append] <;> omega)))) | with_reducible refine cell_drew_some ?_ | with_reducible refine cell_drewN_some ?_ _))⟩, (by repeat (first | with_reducible assumption | with_reducible exact Bw.refl _ | with_reducible refine Bw.alloc ?_ _ | with_reducible refine Bw.more ?_ _ _ | with_reducible refine Bw.drew ?_ | with_reducible refine Bw.drewN ?_ _ | ((with_reducible refine Bw.set2 ?_ ?_ _); (focus (first | omega | (simp only [szA, szS, szD, szN, plus_size, Array.size_append] <;> omega)))) | with_reducible refine Bw.trans ?_ (by with_reducible assumption)))⟩
  case rest =>
  obtain ⟨rfl, rfl, rfl, ⟨p, hp1, hp2, x0, x1, x2⟩, hbw⟩ := hcut
  have HR1' := Lib.hid (HR1.out.up hbw)
  have HA' := Lib.hid (HA.out.up (Bw.trans (by repeat (first | with_reducible assumption | with_reducible exact Bw.refl _ | with_reducible refine Bw.alloc ?_ _ | with_reducible refine Bw.more ?_ _ _ | with_reducible refine Bw.drew ?_ | with_reducible refine Bw.drewN ?_ _ | ((with_reducible refine Bw.set2 ?_ ?_ _); (focus (first | omega | (simp only [szA, szS, szD, szN, plus_size, Array.size_append] <;> omega)))) | with_reducible refine Bw.trans ?_ (by with_reducible assumption))) hbw))
  have HB' := Lib.hid (HB.out.up (Bw.trans (by repeat (first | with_reducible assumption | with_reducible exact Bw.refl _ | with_reducible refine Bw.alloc ?_ _ | with_reducible refine Bw.more ?_ _ _ | with_reducible refine Bw.drew ?_ | with_reducible refine Bw.drewN ?_ _ | ((with_reducible refine Bw.set2 ?_ ?_ _); (focus (first | omega | (simp only [szA, szS, szD, szN, plus_size, Array.size_append] <;> omega)))) | with_reducible refine Bw.trans ?_ (by with_reducible assumption))) hbw))
  have hbw0 : Bw w wc := Bw.trans (by repeat (first | with_reducible assumption | with_reducible exact Bw.refl _ | with_reducible refine Bw.alloc ?_ _ | with_reducible refine Bw.more ?_ _ _ | with_reducible refine Bw.drew ?_ | with_reducible refine Bw.drewN ?_ _ | ((with_reducible refine Bw.set2 ?_ ?_ _); (focus (first | omega | (simp only [szA, szS, szD, szN, plus_size, Array.size_append] <;> omega)))) | with_reducible refine Bw.trans ?_ (by with_reducible assumption))) hbw
  clear HR1 HA HB hbw
  generalize w.heap.size + (L1.size + L2.size) = G at *
  have HX := Lib.hid (And.intro x0 (And.intro x1 x2))
  have hGz := lt_of_cell x0
  dsimp only at hGz
  clear x0 x1 x2 hr
  go_wp2_with fail
  go_loopw [39] (fun i wr => ∃ k : Nat, i = .int .i64 k ∧ k ≤ 3 ∧ Bw wc wr) (fun i _ => 3 - (intOf i).toNat)
  case atStart => exact ⟨0, rfl, by omega, (by repeat (first | with_reducible assumption | with_reducible exact Bw.refl _ | with_reducible refine Bw.alloc ?_ _ | with_reducible refine Bw.more ?_ _ _ | with_reducible refine Bw.drew ?_ | with_reducible refine Bw.drewN ?_ _ | ((with_reducible refine Bw.set2 ?_ ?_ _); (focus (first | omega | (simp only [szA, szS, szD, szN, plus_size, Array.size_append] <;> omega)))) | with_reducible refine Bw.trans ?_ (by with_reducible assumption)))⟩
  case round =>
    obtain ⟨wo, rfl⟩ : ∃ wo : World, wo = wr := ⟨_, rfl⟩
    obtain ⟨k, rfl, hk, hwr⟩ := hrel
    by_cases hlt : k < 3
    · obtain ⟨D, nD, cD, ds, hcell, hRD, ⟨hnD, hcD⟩, hnD2, hds⟩ : ∃ (D : Option Addr) (nD cD : Nat) (ds : List Int), wo.cell? ⟨G, k, none⟩ = some (.slice D nD cD) ∧ Rd (.int .u8) wo D nD ds ∧ (nD ≤ cD ∧ cD ≤ 9223372036854775807) ∧ nD ≤ 6 ∧ ∀ x ∈ ds, 0 ≤ x ∧ x ≤ 255 := by
        rcases (show k = 0 ∨ k = 1 ∨ k = 2 by omega) with rfl | rfl | rfl
        · exact ⟨none, 0, 0, [], cell_bw hwr HX.out.1, Rd.nil_ _ _, ⟨by omega, by omega⟩, by omega, by simp⟩
        · exact ⟨A, n, cap, rs, cell_bw hwr HX.out.2.1, HA'.out.up hwr, ⟨hn, hc⟩, by omega, HRS.out⟩
        · exact ⟨X, p, c1, ys.take p, cell_bw hwr HX.out.2.2, (HR1'.out.take p hp1).up hwr, ⟨by omega, hc1⟩, by omega, fun x hx => HYS.out x (List.mem_of_mem_take hx)⟩
      have HRD := Lib.hid hRD
      have HDS := Lib.hid hds
      have e1 : (0 : Int) ≤ k := by omega
      have e2 : (k : Int) < 3 := by omega
      have hwG : G < wo.heap.size := Nat.lt_of_lt_of_le hGz hwr.size
      clear hRD hds
      go_wp2_with fail
      go_loopw [47] (fun i wq => ∃ j : Nat, i = .int .i64 j ∧ j ≤ 2 ∧ (wq.cell? ⟨wo.heap.size, 0, none⟩ = some (.slice D nD cD) ∧ wq.cell? ⟨wo.heap.size + 1, 0, none⟩ = some (.slice B m capB) ∧ wq.cell? ⟨wo.heap.size + 1, 1, none⟩ = some (.slice X n1 c1)) ∧ Bw wo wq) (fun i _ => 2 - (intOf i).toNat)
      case atStart => exact ⟨0, rfl, by omega, ⟨(by repeat (first | ((with_reducible refine cell_alloc_here ?_ ?_); (focus (first | omega | (simp only [szA, szS, szD, szN, plus_size, Array.size_append] <;> omega))); (focus rfl)) | with_reducible refine cell_alloc_some ?_ _ | with_reducible refine cell_plus_some ?_ _ _ | ((with_reducible refine cell_set_some ?_ ?_); (focus (first | omega | (simp only [szA, szS, szD, szN, plus_size, Array.size_append] <;> omega)))) | with_reducible refine cell_drew_some ?_ | with_reducible refine cell_drewN_some ?_ _)), (by repeat (first | ((with_reducible refine cell_alloc_here ?_ ?_); (focus (first | omega | (simp only [szA, szS, szD, szN, plus_size, Array.size_append] <;> omega))); (focus rfl)) | with_reducible refine cell_alloc_some ?_ _ | with_reducible refine cell_plus_some ?_ _ _ | ((with_reducible refine cell_set_some ?_ ?_); (focus (first | omega | (simp only [szA, szS, szD, szN, plus_size, Array.size_append] <;> omega)))) | with_reducible refine cell_drew_some ?_ | with_reducible refine cell_drewN_some ?_ _)), (by repeat (first | ((with_reducible refine cell_alloc_here ?_ ?_); (focus (first | omega | (simp only [szA, szS, szD, szN, plus_size, Array.size_append] <;> omega))); (focus rfl)) | with_reducible refine cell_alloc_some ?_ _ | with_reducible refine cell_plus_some ?_ _ _ | ((with_reducible refine cell_set_some ?_ ?_); (focus (first | omega | (simp only [szA, szS, szD, szN, plus_size, Array.size_append] <;> omega)))) | with_reducible refine cell_drew_some ?_ | with_reducible refine cell_drewN_some ?_ _))⟩, (by repeat (first | with_reducible assumption | with_reducible exact Bw.refl _ | with_reducible refine Bw.alloc ?_ _ | with_reducible refine Bw.more ?_ _ _ | with_reducible refine Bw.drew ?_ | with_reducible refine Bw.drewN ?_ _ | ((with_reducible refine Bw.set2 ?_ ?_ _); (focus (first | omega | (simp only [szA, szS, szD, szN, plus_size, Array.size_append] <;> omega)))) | with_reducible refine Bw.trans ?_ (by with_reducible assumption)))⟩
      case round =>
        obtain ⟨wq, rfl⟩ : ∃ wq : World, wq = wr := ⟨_, rfl⟩
        obtain ⟨j, rfl, hj, ⟨y0, y1, y2⟩, hwq⟩ := hrel
        have hz0 := lt_of_cell y0
        dsimp only at hz0
        clear hcell
        by_cases hlt2 : j < 2
        · obtain ⟨E, nE, cE, es, hcell, hRE, ⟨hnE, hcE⟩, hnE2, hes⟩ : ∃ (E : Option Addr) (nE cE : Nat) (es : List Int), wq.cell? ⟨wo.heap.size + 1, j, none⟩ = some (.slice E nE cE) ∧ Rd (.int .u8) wq E nE es ∧ (nE ≤ cE ∧ cE ≤ 9223372036854775807) ∧ nE ≤ 200 ∧ ∀ x ∈ es, 0 ≤ x ∧ x ≤ 255 := by
            rcases (show j = 0 ∨ j = 1 by omega) with rfl | rfl
            · exact ⟨B, m, capB, bs, y1, HB'.out.up (hwr.trans hwq), ⟨hm, hcB⟩, by omega, HBS.out⟩
            · exact ⟨X, n1, c1, ys, y2, HR1'.out.up (hwr.trans hwq), ⟨hn1, hc1⟩, by omega, HYS.out⟩
          have HRE := Lib.hid hRE
          have HES := Lib.hid hes
          have HY := Lib.hid (And.intro y0 (And.intro y1 y2))
          have HRD' := Lib.hid (HRD.out.up hwq)
          have e3 : (0 : Int) ≤ j := by omega
          have e4 : (j : Int) < 2 := by omega
          clear hRE hes y1 y2
          obtain ⟨d1', d2', hd'⟩ : ∃ a1 a2, dec (restB ds) es = (a1, a2) := ⟨_, _, rfl⟩
          have hv1 : validB d1' = true := by
            have := dec_valid es (restB ds) (by unfold restB; split; assumption; rfl)
            rw [hd'] at this; exact this
          obtain ⟨l1, hl1⟩ : ∃ l, d1'.length = l := ⟨_, rfl⟩
          obtain ⟨l2, hl2⟩ : ∃ l, d2'.length = l := ⟨_, rfl⟩
          obtain ⟨fl, hfl⟩ : ∃ l, (flushL ds).length = l := ⟨_, rfl⟩
          have HD := Lib.hid hd'
          have HV := Lib.hid hv1
          have HL1 := Lib.hid hl1
          have HL2 := Lib.hid hl2
          have HFL := Lib.hid hfl
          clear hd' hv1 hl1 hl2 hfl
          go_wp2_with fail
          refine (decode_any D E nD cD nE cE ds es _ (by exact HRD'.out) (by omega) (by omega) (by exact HRE.out) (by omega) (by omega) (by omega) HES.out HDS.out).mono ?_
          rintro ee ww ⟨vr, vl, rfl, hSr, hSl, hb3⟩
          rw [HD.out] at hSr hSl
          obtain ⟨A3, c3, rfl, hc3, hc3m, hR3⟩ := hSr.get HL1.out
          obtain ⟨A4, c4, rfl, hc4, hc4m, hR4⟩ := hSl.get HL2.out
          have y0' := cell_bw hb3 y0
          have hz0' := lt_of_cell y0'
          dsimp only at hz0'
          have HR3 := Lib.hid hR3
          have HR4 := Lib.hid hR4
          clear hSr hSl hR3 hR4
          go_wp2_with fail
          refine (refdecode_any D E nD cD nE cE ds es _ (by exact HRD'.out.up (Bw.trans hb3 (by repeat (first | with_reducible assumption | with_reducible exact Bw.refl _ | with_reducible refine Bw.alloc ?_ _ | with_reducible refine Bw.more ?_ _ _ | with_reducible refine Bw.drew ?_ | with_reducible refine Bw.drewN ?_ _ | ((with_reducible refine Bw.set2 ?_ ?_ _); (focus (first | omega | (simp only [szA, szS, szD, szN, plus_size, Array.size_append] <;> omega)))) | with_reducible refine Bw.trans ?_ (by with_reducible assumption))))) (by omega) (by omega) (by exact HRE.out.up (Bw.trans hb3 (by repeat (first | with_reducible assumption | with_reducible exact Bw.refl _ | with_reducible refine Bw.alloc ?_ _ | with_reducible refine Bw.more ?_ _ _ | with_reducible refine Bw.drew ?_ | with_reducible refine Bw.drewN ?_ _ | ((with_reducible refine Bw.set2 ?_ ?_ _); (focus (first | omega | (simp only [szA, szS, szD, szN, plus_size, Array.size_append] <;> omega)))) | with_reducible refine Bw.trans ?_ (by with_reducible assumption))))) (by omega) (by omega) (by omega) HES.out HDS.out (by omega)).mono ?_
          rintro ee wx ⟨vr, vl, rfl, hSr, hSl, hb4⟩
          rw [HD.out] at hSr hSl
          obtain ⟨A5, c5, rfl, hc5, hc5m, hR5⟩ := hSr.get HL1.out
          obtain ⟨A6, c6, rfl, hc6, hc6m, hR6⟩ := hSl.get HL2.out
          have y0'' := cell_bw hb4 (show (ww.alloc (.cells #[.slice A3 l1 c3] 29)).cell? ⟨wo.heap.size, 0, none⟩ = some (.slice D nD cD) from (by repeat (first | with_reducible assumption | ((with_reducible refine cell_alloc_here ?_ ?_); (focus (first | omega | (simp only [szA, szS, szD, szN, plus_size, Array.size_append] <;> omega))); (focus rfl)) | with_reducible refine cell_alloc_some ?_ _ | with_reducible refine cell_plus_some ?_ _ _ | ((with_reducible refine cell_set_some ?_ ?_); (focus (first | omega | (simp only [szA, szS, szD, szN, plus_size, Array.size_append] <;> omega)))) | with_reducible refine cell_drew_some ?_ | with_reducible refine cell_drewN_some ?_ _)))
          have y12 := cell_bw hb4 (show (ww.alloc (.cells #[.slice A3 l1 c3] 29)).cell? ⟨ww.heap.size, 0, none⟩ = some (.slice A3 l1 c3) from (by repeat (first | ((with_reducible refine cell_alloc_here ?_ ?_); (focus (first | omega | (simp only [szA, szS, szD, szN, plus_size, Array.size_append] <;> omega))); (focus rfl)) | with_reducible refine cell_alloc_some ?_ _ | with_reducible refine cell_plus_some ?_ _ _ | ((with_reducible refine cell_set_some ?_ ?_); (focus (first | omega | (simp only [szA, szS, szD, szN, plus_size, Array.size_append] <;> omega)))) | with_reducible refine cell_drew_some ?_ | with_reducible refine cell_drewN_some ?_ _)))
          have hz0'' := lt_of_cell y0''
          have hz12 := lt_of_cell y12
          dsimp only at hz0'' hz12
          have HR3' := Lib.hid (HR3.out.up (Bw.trans (by repeat (first | with_reducible assumption | with_reducible exact Bw.refl _ | with_reducible refine Bw.alloc ?_ _ | with_reducible refine Bw.more ?_ _ _ | with_reducible refine Bw.drew ?_ | with_reducible refine Bw.drewN ?_ _ | ((with_reducible refine Bw.set2 ?_ ?_ _); (focus (first | omega | (simp only [szA, szS, szD, szN, plus_size, Array.size_append] <;> omega)))) | with_reducible refine Bw.trans ?_ (by with_reducible assumption))) hb4))
          have HR4' := Lib.hid (HR4.out.up (Bw.trans (by repeat (first | with_reducible assumption | with_reducible exact Bw.refl _ | with_reducible refine Bw.alloc ?_ _ | with_reducible refine Bw.more ?_ _ _ | with_reducible refine Bw.drew ?_ | with_reducible refine Bw.drewN ?_ _ | ((with_reducible refine Bw.set2 ?_ ?_ _); (focus (first | omega | (simp only [szA, szS, szD, szN, plus_size, Array.size_append] <;> omega)))) | with_reducible refine Bw.trans ?_ (by with_reducible assumption))) hb4))
          have HRDx := Lib.hid (HRD'.out.up (Bw.trans hb3 (Bw.trans (by repeat (first | with_reducible assumption | with_reducible exact Bw.refl _ | with_reducible refine Bw.alloc ?_ _ | with_reducible refine Bw.more ?_ _ _ | with_reducible refine Bw.drew ?_ | with_reducible refine Bw.drewN ?_ _ | ((with_reducible refine Bw.set2 ?_ ?_ _); (focus (first | omega | (simp only [szA, szS, szD, szN, plus_size, Array.size_append] <;> omega)))) | with_reducible refine Bw.trans ?_ (by with_reducible assumption))) hb4)))
          have hbx : Bw wo wx := hwq.trans (hb3.trans (Bw.trans (by repeat (first | with_reducible assumption | with_reducible exact Bw.refl _ | with_reducible refine Bw.alloc ?_ _ | with_reducible refine Bw.more ?_ _ _ | with_reducible refine Bw.drew ?_ | with_reducible refine Bw.drewN ?_ _ | ((with_reducible refine Bw.set2 ?_ ?_ _); (focus (first | omega | (simp only [szA, szS, szD, szN, plus_size, Array.size_append] <;> omega)))) | with_reducible refine Bw.trans ?_ (by with_reducible assumption))) hb4))
          have HY' := Lib.hid (And.intro (cell_bw (hb3.trans (Bw.trans (by repeat (first | with_reducible assumption | with_reducible exact Bw.refl _ | with_reducible refine Bw.alloc ?_ _ | with_reducible refine Bw.more ?_ _ _ | with_reducible refine Bw.drew ?_ | with_reducible refine Bw.drewN ?_ _ | ((with_reducible refine Bw.set2 ?_ ?_ _); (focus (first | omega | (simp only [szA, szS, szD, szN, plus_size, Array.size_append] <;> omega)))) | with_reducible refine Bw.trans ?_ (by with_reducible assumption))) hb4)) HY.out.2.1) (cell_bw (hb3.trans (Bw.trans (by repeat (first | with_reducible assumption | with_reducible exact Bw.refl _ | with_reducible refine Bw.alloc ?_ _ | with_reducible refine Bw.more ?_ _ _ | with_reducible refine Bw.drew ?_ | with_reducible refine Bw.drewN ?_ _ | ((with_reducible refine Bw.set2 ?_ ?_ _); (focus (first | omega | (simp only [szA, szS, szD, szN, plus_size, Array.size_append] <;> omega)))) | with_reducible refine Bw.trans ?_ (by with_reducible assumption))) hb4)) HY.out.2.2))
          have HR5 := Lib.hid hR5
          have HR6 := Lib.hid hR6
          clear hSr hSl hR5 hR6 hb4 hb3 HR3 HR4 HRD' HRE HY y0 y0'
          go_upto_region 14 with (fail)
          have H3 := Lib.hid (And.intro (show (wx.alloc (.cells #[.slice A5 l1 c5] 29)).cell? ⟨wo.heap.size, 0, none⟩ = some (.slice D nD cD) from (by repeat (first | with_reducible assumption | ((with_reducible refine cell_alloc_here ?_ ?_); (focus (first | omega | (simp only [szA, szS, szD, szN, plus_size, Array.size_append] <;> omega))); (focus rfl)) | with_reducible refine cell_alloc_some ?_ _ | with_reducible refine cell_plus_some ?_ _ _ | ((with_reducible refine cell_set_some ?_ ?_); (focus (first | omega | (simp only [szA, szS, szD, szN, plus_size, Array.size_append] <;> omega)))) | with_reducible refine cell_drew_some ?_ | with_reducible refine cell_drewN_some ?_ _))) (And.intro (show (wx.alloc (.cells #[.slice A5 l1 c5] 29)).cell? ⟨ww.heap.size, 0, none⟩ = some (.slice A3 l1 c3) from (by repeat (first | with_reducible assumption | ((with_reducible refine cell_alloc_here ?_ ?_); (focus (first | omega | (simp only [szA, szS, szD, szN, plus_size, Array.size_append] <;> omega))); (focus rfl)) | with_reducible refine cell_alloc_some ?_ _ | with_reducible refine cell_plus_some ?_ _ _ | ((with_reducible refine cell_set_some ?_ ?_); (focus (first | omega | (simp only [szA, szS, szD, szN, plus_size, Array.size_append] <;> omega)))) | with_reducible refine cell_drew_some ?_ | with_reducible refine cell_drewN_some ?_ _))) (show (wx.alloc (.cells #[.slice A5 l1 c5] 29)).cell? ⟨wx.heap.size, 0, none⟩ = some (.slice A5 l1 c5) from (by repeat (first | with_reducible assumption | ((with_reducible refine cell_alloc_here ?_ ?_); (focus (first | omega | (simp only [szA, szS, szD, szN, plus_size, Array.size_append] <;> omega))); (focus rfl)) | with_reducible refine cell_alloc_some ?_ _ | with_reducible refine cell_plus_some ?_ _ _ | ((with_reducible refine cell_set_some ?_ ?_); (focus (first | omega | (simp only [szA, szS, szD, szN, plus_size, Array.size_append] <;> omega)))) | with_reducible refine cell_drew_some ?_ | with_reducible refine cell_drewN_some ?_ _)))))
          have R3 := Lib.hid (HR3'.out.up (show Bw wx (wx.alloc (.cells #[.slice A5 l1 c5] 29)) from (by repeat (first | with_reducible assumption | with_reducible exact Bw.refl _ | with_reducible refine Bw.alloc ?_ _ | with_reducible refine Bw.more ?_ _ _ | with_reducible refine Bw.drew ?_ | with_reducible refine Bw.drewN ?_ _ | ((with_reducible refine Bw.set2 ?_ ?_ _); (focus (first | omega | (simp only [szA, szS, szD, szN, plus_size, Array.size_append] <;> omega)))) | with_reducible refine Bw.trans ?_ (by with_reducible assumption)))))
          have R4 := Lib.hid (HR4'.out.up (show Bw wx (wx.alloc (.cells #[.slice A5 l1 c5] 29)) from (by repeat (first | with_reducible assumption | with_reducible exact Bw.refl _ | with_reducible refine Bw.alloc ?_ _ | with_reducible refine Bw.more ?_ _ _ | with_reducible refine Bw.drew ?_ | with_reducible refine Bw.drewN ?_ _ | ((with_reducible refine Bw.set2 ?_ ?_ _); (focus (first | omega | (simp only [szA, szS, szD, szN, plus_size, Array.size_append] <;> omega)))) | with_reducible refine Bw.trans ?_ (by with_reducible assumption)))))
          have R5 := Lib.hid (HR5.out.up (show Bw wx (wx.alloc (.cells #[.slice A5 l1 c5] 29)) from (by repeat (first | with_reducible assumption | with_reducible exact Bw.refl _ | with_reducible refine Bw.alloc ?_ _ | with_reducible refine Bw.more ?_ _ _ | with_reducible refine Bw.drew ?_ | with_reducible refine Bw.drewN ?_ _ | ((with_reducible refine Bw.set2 ?_ ?_ _); (focus (first | omega | (simp only [szA, szS, szD, szN, plus_size, Array.size_append] <;> omega)))) | with_reducible refine Bw.trans ?_ (by with_reducible assumption)))))
          have R6 := Lib.hid (HR6.out.up (show Bw wx (wx.alloc (.cells #[.slice A5 l1 c5] 29)) from (by repeat (first | with_reducible assumption | with_reducible exact Bw.refl _ | with_reducible refine Bw.alloc ?_ _ | with_reducible refine Bw.more ?_ _ _ | with_reducible refine Bw.drew ?_ | with_reducible refine Bw.drewN ?_ _ | ((with_reducible refine Bw.set2 ?_ ?_ _); (focus (first | omega | (simp only [szA, szS, szD, szN, plus_size, Array.size_append] <;> omega)))) | with_reducible refine Bw.trans ?_ (by with_reducible assumption)))))
          have RD := Lib.hid (HRDx.out.up (show Bw wx (wx.alloc (.cells #[.slice A5 l1 c5] 29)) from (by repeat (first | with_reducible assumption | with_reducible exact Bw.refl _ | with_reducible refine Bw.alloc ?_ _ | with_reducible refine Bw.more ?_ _ _ | with_reducible refine Bw.drew ?_ | with_reducible refine Bw.drewN ?_ _ | ((with_reducible refine Bw.set2 ?_ ?_ _); (focus (first | omega | (simp only [szA, szS, szD, szN, plus_size, Array.size_append] <;> omega)))) | with_reducible refine Bw.trans ?_ (by with_reducible assumption)))))
          have h3' : ∀ x ∈ d1', 0 ≤ x ∧ x ≤ 255 := by
            intro x hx
            rcases dec_mem es (restB ds) x (by rw [HD.out]; exact hx) with h | h
            · exact HDS.out x (by unfold restB at h; split at h; exact h; simp at h)
            · exact HES.out x h
          have H255 := Lib.hid h3'
          obtain ⟨W0, hW0⟩ : ∃ W0, W0 = (wx.alloc (.cells #[.slice A5 l1 c5] 29)) := ⟨_, rfl⟩
          have hbW : Bw wo W0 := by rw [hW0]; exact hbx.trans (by repeat (first | with_reducible assumption | with_reducible exact Bw.refl _ | with_reducible refine Bw.alloc ?_ _ | with_reducible refine Bw.more ?_ _ _ | with_reducible refine Bw.drew ?_ | with_reducible refine Bw.drewN ?_ _ | ((with_reducible refine Bw.set2 ?_ ?_ _); (focus (first | omega | (simp only [szA, szS, szD, szN, plus_size, Array.size_append] <;> omega)))) | with_reducible refine Bw.trans ?_ (by with_reducible assumption)))
          have HY'' := Lib.hid (And.intro (show W0.cell? ⟨wo.heap.size + 1, 0, none⟩ = some (.slice B m capB) by rw [hW0]; exact cell_alloc_some HY'.out.1 _) (show W0.cell? ⟨wo.heap.size + 1, 1, none⟩ = some (.slice X n1 c1) by rw [hW0]; exact cell_alloc_some HY'.out.2 _))
          rw [← hW0] at H3 R3 R4 R5 R6 RD
          have HW0 := Lib.hid hW0
          clear hW0
          clear h3' hwG hz0'' hz12 y0'' y12 hbx HY' HR3' HR4' HR5 HR6 HRDx
          go_cut [92] (fun s w' => s = .bool false ∧ Bw (wx.alloc (.cells #[.slice A5 l1 c5] 29)) w')
          case first =>
            rw [← HW0.out]
            go_region_held3 (fun w' => w'.cell? ⟨wo.heap.size, 0, none⟩ = some (.slice D nD cD) ∧ w'.cell? ⟨ww.heap.size, 0, none⟩ = some (.slice A3 l1 c3) ∧ w'.cell? ⟨wx.heap.size, 0, none⟩ = some (.slice A5 l1 c5)) ((first | (exact ⟨cell_bw (by repeat (first | with_reducible assumption | with_reducible exact Bw.refl _ | with_reducible refine Bw.alloc ?_ _ | with_reducible refine Bw.more ?_ _ _ | with_reducible refine Bw.drew ?_ | with_reducible refine Bw.drewN ?_ _ | ((with_reducible refine Bw.set2 ?_ ?_ _); (focus (first | omega | (simp only [szA, szS, szD, szN, plus_size, Array.size_append] <;> omega)))) | with_reducible refine Bw.trans ?_ (by with_reducible assumption))) H3.out.1, cell_bw (by repeat (first | with_reducible assumption | with_reducible exact Bw.refl _ | with_reducible refine Bw.alloc ?_ _ | with_reducible refine Bw.more ?_ _ _ | with_reducible refine Bw.drew ?_ | with_reducible refine Bw.drewN ?_ _ | ((with_reducible refine Bw.set2 ?_ ?_ _); (focus (first | omega | (simp only [szA, szS, szD, szN, plus_size, Array.size_append] <;> omega)))) | with_reducible refine Bw.trans ?_ (by with_reducible assumption))) H3.out.2.1, cell_bw (by repeat (first | with_reducible assumption | with_reducible exact Bw.refl _ | with_reducible refine Bw.alloc ?_ _ | with_reducible refine Bw.more ?_ _ _ | with_reducible refine Bw.drew ?_ | with_reducible refine Bw.drewN ?_ _ | ((with_reducible refine Bw.set2 ?_ ?_ _); (focus (first | omega | (simp only [szA, szS, szD, szN, plus_size, Array.size_append] <;> omega)))) | with_reducible refine Bw.trans ?_ (by with_reducible assumption))) H3.out.2.2⟩) | fail)) ((first
              | (go_at_call 11; refine (refsame_eq A3 A5 _ _ _ _ d1' _ (by exact R3.out.up (by repeat (first | with_reducible assumption | with_reducible exact Bw.refl _ | with_reducible refine Bw.alloc ?_ _ | with_reducible refine Bw.more ?_ _ _ | with_reducible refine Bw.drew ?_ | with_reducible refine Bw.drewN ?_ _ | ((with_reducible refine Bw.set2 ?_ ?_ _); (focus (first | omega | (simp only [szA, szS, szD, szN, plus_size, Array.size_append] <;> omega)))) | with_reducible refine Bw.trans ?_ (by with_reducible assumption)))) (by exact R5.out.up (by repeat (first | with_reducible assumption | with_reducible exact Bw.refl _ | with_reducible refine Bw.alloc ?_ _ | with_reducible refine Bw.more ?_ _ _ | with_reducible refine Bw.drew ?_ | with_reducible refine Bw.drewN ?_ _ | ((with_reducible refine Bw.set2 ?_ ?_ _); (focus (first | omega | (simp only [szA, szS, szD, szN, plus_size, Array.size_append] <;> omega)))) | with_reducible refine Bw.trans ?_ (by with_reducible assumption))))).mono ?_; rintro ee ww1 ⟨rfl, hb1⟩)
              | (go_at_call 12; have _tk := HR8; refine (same_eq A7 A8 _ _ _ _ (flushL ds) _ (by exact HR7.out.up (by repeat (first | with_reducible assumption | with_reducible exact Bw.refl _ | with_reducible refine Bw.alloc ?_ _ | with_reducible refine Bw.more ?_ _ _ | with_reducible refine Bw.drew ?_ | with_reducible refine Bw.drewN ?_ _ | ((with_reducible refine Bw.set2 ?_ ?_ _); (focus (first | omega | (simp only [szA, szS, szD, szN, plus_size, Array.size_append] <;> omega)))) | with_reducible refine Bw.trans ?_ (by with_reducible assumption)))) (by exact HR8.out.up (by repeat (first | with_reducible assumption | with_reducible exact Bw.refl _ | with_reducible refine Bw.alloc ?_ _ | with_reducible refine Bw.more ?_ _ _ | with_reducible refine Bw.drew ?_ | with_reducible refine Bw.drewN ?_ _ | ((with_reducible refine Bw.set2 ?_ ?_ _); (focus (first | omega | (simp only [szA, szS, szD, szN, plus_size, Array.size_append] <;> omega)))) | with_reducible refine Bw.trans ?_ (by with_reducible assumption)))) (by omega) (by omega) (by omega) (by omega)).mono ?_; rintro ee ww7 ⟨rfl, qq, rfl⟩)
              | (go_at_call 12; refine (same_eq A4 A6 _ _ _ _ d2' _ (by exact R4.out.up (by repeat (first | with_reducible assumption | with_reducible exact Bw.refl _ | with_reducible refine Bw.alloc ?_ _ | with_reducible refine Bw.more ?_ _ _ | with_reducible refine Bw.drew ?_ | with_reducible refine Bw.drewN ?_ _ | ((with_reducible refine Bw.set2 ?_ ?_ _); (focus (first | omega | (simp only [szA, szS, szD, szN, plus_size, Array.size_append] <;> omega)))) | with_reducible refine Bw.trans ?_ (by with_reducible assumption)))) (by exact R6.out.up (by repeat (first | with_reducible assumption | with_reducible exact Bw.refl _ | with_reducible refine Bw.alloc ?_ _ | with_reducible refine Bw.more ?_ _ _ | with_reducible refine Bw.drew ?_ | with_reducible refine Bw.drewN ?_ _ | ((with_reducible refine Bw.set2 ?_ ?_ _); (focus (first | omega | (simp only [szA, szS, szD, szN, plus_size, Array.size_append] <;> omega)))) | with_reducible refine Bw.trans ?_ (by with_reducible assumption)))) (by omega) (by omega) (by omega) (by omega)).mono ?_; rintro ee ww2 ⟨rfl, qq, rfl⟩)
              | (go_at_call 14; have _tk := HR8; refine (dvalid_any A3 _ _ d1' _ (by exact R3.out.up (by repeat (first | with_reducible assumption | with_reducible exact Bw.refl _ | with_reducible refine Bw.alloc ?_ _ | with_reducible refine Bw.more ?_ _ _ | with_reducible refine Bw.drew ?_ | with_reducible refine Bw.drewN ?_ _ | ((with_reducible refine Bw.set2 ?_ ?_ _); (focus (first | omega | (simp only [szA, szS, szD, szN, plus_size, Array.size_append] <;> omega)))) | with_reducible refine Bw.trans ?_ (by with_reducible assumption)))) (by omega) (by omega)).mono ?_; rintro ee ww8 ⟨rfl, rfl⟩; rw [HV.out])
              | (go_at_call 14; refine (dvalid_any D _ _ ds _ (by exact RD.out.up (by repeat (first | with_reducible assumption | with_reducible exact Bw.refl _ | with_reducible refine Bw.alloc ?_ _ | with_reducible refine Bw.more ?_ _ _ | with_reducible refine Bw.drew ?_ | with_reducible refine Bw.drewN ?_ _ | ((with_reducible refine Bw.set2 ?_ ?_ _); (focus (first | omega | (simp only [szA, szS, szD, szN, plus_size, Array.size_append] <;> omega)))) | with_reducible refine Bw.trans ?_ (by with_reducible assumption)))) (by omega) (by omega)).mono ?_; rintro ee ww3 ⟨rfl, rfl⟩)
              | (go_at_call 15; refine (refvalid_any D _ _ ds _ (by exact RD.out.up (by repeat (first | with_reducible assumption | with_reducible exact Bw.refl _ | with_reducible refine Bw.alloc ?_ _ | with_reducible refine Bw.more ?_ _ _ | with_reducible refine Bw.drew ?_ | with_reducible refine Bw.drewN ?_ _ | ((with_reducible refine Bw.set2 ?_ ?_ _); (focus (first | omega | (simp only [szA, szS, szD, szN, plus_size, Array.size_append] <;> omega)))) | with_reducible refine Bw.trans ?_ (by with_reducible assumption)))) (by omega) (by omega) HDS.out).mono ?_; rintro ee ww4 ⟨rfl, hb4⟩)
              | (go_at_call 16; refine (flush_any D _ _ ds _ (by exact RD.out.up (by repeat (first | with_reducible assumption | with_reducible exact Bw.refl _ | with_reducible refine Bw.alloc ?_ _ | with_reducible refine Bw.more ?_ _ _ | with_reducible refine Bw.drew ?_ | with_reducible refine Bw.drewN ?_ _ | ((with_reducible refine Bw.set2 ?_ ?_ _); (focus (first | omega | (simp only [szA, szS, szD, szN, plus_size, Array.size_append] <;> omega)))) | with_reducible refine Bw.trans ?_ (by with_reducible assumption)))) (by omega) (by omega)).mono ?_; rintro ee ww5 ⟨vf, rfl, hS5, hb5⟩; obtain ⟨A7, c7, rfl, hc7, hc7m, hR7⟩ := hS5.get HFL.out; have HR7 := Lib.hid hR7; clear hS5 hR7)
              | (go_at_call 17; refine (refflush_any D _ _ ds _ (by exact RD.out.up (by repeat (first | with_reducible assumption | with_reducible exact Bw.refl _ | with_reducible refine Bw.alloc ?_ _ | with_reducible refine Bw.more ?_ _ _ | with_reducible refine Bw.drew ?_ | with_reducible refine Bw.drewN ?_ _ | ((with_reducible refine Bw.set2 ?_ ?_ _); (focus (first | omega | (simp only [szA, szS, szD, szN, plus_size, Array.size_append] <;> omega)))) | with_reducible refine Bw.trans ?_ (by with_reducible assumption)))) (by omega) (by omega) HDS.out).mono ?_; rintro ee ww6 ⟨vf, rfl, hS6, hb6⟩; obtain ⟨A8, c8, rfl, hc8, hc8m, hR8⟩ := hS6.get HFL.out; have HR8 := Lib.hid hR8; clear hS6 hR8)
              | fail))
            all_goals go_wp2
            all_goals go_meet
            all_goals exact ⟨by simp, by rw [← HW0.out]; exact (by repeat (first | with_reducible assumption | with_reducible exact Bw.refl _ | with_reducible refine Bw.alloc ?_ _ | with_reducible refine Bw.more ?_ _ _ | with_reducible refine Bw.drew ?_ | with_reducible refine Bw.drewN ?_ _ | ((with_reducible refine Bw.set2 ?_ ?_ _); (focus (first | omega | (simp only [szA, szS, szD, szN, plus_size, Array.size_append] <;> omega)))) | with_reducible refine Bw.trans ?_ (by with_reducible assumption)))⟩
          case rest =>
            obtain ⟨rfl, hb2⟩ := hcut
            rw [← HW0.out] at hb2
            go_wp2
            go_roundw
            case rel => exact ⟨j + 1, by go_num, by omega, ⟨cell_bw hb2 H3.out.1, cell_bw hb2 HY''.out.1, cell_bw hb2 HY''.out.2⟩, hbW.trans hb2⟩
            case measure => simp [intOf]; omega
        · clear y0 y1 y2
          go_wp2
          go_roundw
          case rel => exact ⟨k + 1, by go_num, by omega, hwr.trans hwq⟩
          case measure => simp [intOf]; omega
    · go_wp2
      go_ret
      exact ⟨rfl, hbw0.trans hwr⟩
end Go.Proofs.Ytagihjchhpiipaa
