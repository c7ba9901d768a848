/- Parts of the proof, one after the other. -/
import Derived.Test.YtmkpefielfinjaaDoorQ32
import Derived.Test.YtmkpefielfinjaaDoorQ44
import Derived.Test.YtmkpefielfinjaaDoorQ45
import Derived.Deep.RegionHeld3
import Derived.Test.YtmkpefielfinjaaDoorQ01
import Derived.LaidMore
import Derived.Lay
import Derived.LaidSub
import Derived.MakeChecks
import Derived.Lib.LaidTab
import Derived.OpenShut
import Derived.WideShapes
import Derived.Lib.SmallJoins
import Derived.Deep.Strs
set_option linter.unusedSimpArgs false
set_option linter.unusedVariables false
/- The law ComposeScrolls. -/
namespace Go.Proofs.YtmkpefielfinjaaDoor
open Go.RowKit

set_option maxRecDepth 100000 in
set_option maxHeartbeats 1000000 in
theorem scrolls30_any (A : Option Addr) (n c : Nat) (xs : List Int) (rows shown : Int) (w : World) (hr : RdI w A n xs) (hA : 0 < n → ∀ ad, A = some ad → ad.block < w.heap.size) (hn : n ≤ 9223372036854775807) (hT : WordT w) (hP : PowT w.heap.size w) :
    Calls Tryd.prog 6 #[.slice A n c, .int .i64 rows, .int .i64 shown] w fun e w' => e = .returned (.bool true) ∧ Bw w w' := by
  have HR := Lib.hid hr
  have HAA := Lib.hid hA
  have HT := Lib.hid hT
  have HP := Lib.hid hP
  clear hr hA hT hP
  go_enter Tryd.func6, Tryd.ntmps6
  go_upto_region 5 with (first
    | (go_at_call 7; refine (sane30_any w HT.out HP.out).mono ?_; rintro ee w1 ⟨rfl, hb1⟩; have HB1 := Lib.hid hb1; have hz1 := hb1.size; clear hb1)
    | (go_at_call 13; refine (mnew_any A n c _).mono ?_; rintro ee wn ⟨rfl, rfl⟩)
    | (go_at_call 14; refine (made30_dk w1.heap.size A n c xs _ (Dk2.made (HR.out.up HAA.out HB1.out) (fun h0 ad e => by have := HAA.out h0 ad e; omega) hn)).mono ?_; rintro ee w3 ⟨As, ns, cs, sts, rfl, hs3, hnc3, hcm3, hns3, hsm3, hnew3, hD3, hg3⟩; have HS3 := Lib.hid hs3; have HSM := Lib.hid hsm3; have hb3 : Bw w w3 := Bw.grown (Bw.alloc HB1.out _) hg3 (fun k hk => by cases hk; exact hz1); have HB3 := Lib.hid hb3; have hz3 := hb3.size; clear hs3 hsm3 hnew3 hD3 hg3 hb3)
    | fail)
  by_cases hns0 : ns = 0
  · subst hns0
    go_wp2_with fail
    go_ret
    exact ⟨rfl, HB3.out⟩
  obtain ⟨q0, hq0⟩ : ∃ q0 : Nat, rows % 12 = (q0 : Int) := ⟨(rows % 12).toNat, by have := Int.emod_nonneg rows (show (12 : Int) ≠ 0 by omega); omega⟩
  have hq1 : q0 < 12 := by have := Int.emod_lt_of_pos rows (show (0 : Int) < 12 by omega); omega
  obtain ⟨sh, hsh⟩ : ∃ sh : Nat, shown % (ns : Int) = (sh : Int) := ⟨(shown % (ns : Int)).toNat, by have := Int.emod_nonneg shown (show (ns : Int) ≠ 0 by omega); omega⟩
  have hsh1 : sh < ns := by have := Int.emod_lt_of_pos shown (show (0 : Int) < ns by omega); omega
  obtain ⟨Rn, hRn⟩ : ∃ Rn : Nat, Rn = 2 + q0 := ⟨_, rfl⟩
  have HQ0 := Lib.hid hq0
  have HSH := Lib.hid hsh
  have HRN := Lib.hid hRn
  have hR1 : 2 ≤ Rn ∧ Rn ≤ 13 := by omega
  obtain ⟨hR1, hR2⟩ := hR1
  clear hq0 hsh hRn
  go_upto_region 7 with (fail)
  go_cut [1, 2] (fun s1 s2 w' => s1 = .int .i64 (Rn : Int) ∧ s2 = .int .i64 (sh : Int) ∧ w3 = w')
  case first =>
    go_wp2_with (first
      | (go_at_call 8; refine (mmod_any _ _ _ (by omega) (by omega)).mono ?_; rintro ee ww ⟨rfl, rfl⟩; rw [HQ0.out])
      | (go_at_call 8; refine (mmod_any _ _ _ (by omega) (by omega)).mono ?_; rintro ee ww ⟨rfl, rfl⟩; rw [HSH.out])
      | fail)
    go_meet
    case rel => exact ⟨congrArg (Value.int .i64) (by have := HRN.out; omega), rfl, rfl⟩
  case rest =>
  obtain ⟨rfl, rfl, rfl⟩ := hcut
  have hsl := HS3.out.1
  have hsn : shN sts.length (sh : Int) = sh := by unfold shN; rw [if_neg (by omega)]; omega
  obtain ⟨kk, hkk⟩ : ∃ kk, kk = kkN sts.length Rn := ⟨_, rfl⟩
  obtain ⟨ff, hff⟩ : ∃ ff, ff = firstN kk sh := ⟨_, rfl⟩
  have hkb : kk < Rn ∧ kk ≤ ns := by have := kk_lt sts.length (Rn := Rn) (by omega); rw [hsl] at this; rw [hkk, hsl]; exact this
  obtain ⟨hkb1, hkb2⟩ := hkb
  have hkd : (kk : Int) = if (ns : Int) < (Rn : Int) / 2 then (ns : Int) else (Rn : Int) / 2 := by rw [hkk]; unfold kkN; rw [hsl]; split <;> omega
  have hkp : 1 ≤ kk := by rw [hkk]; unfold kkN; rw [hsl]; omega
  have hfd : (ff : Int) = if (0 : Int) < (sh : Int) - (kk : Int) + 1 then (sh : Int) - (kk : Int) + 1 else 0 := by
    rw [hff]
    unfold firstN
    by_cases h : kk ≤ sh
    · rw [if_pos h, if_pos (by omega)]; omega
    · rw [if_neg h, if_neg (by omega)]; rfl
  have hfk : ff + kk ≤ ns := by
    rw [hff]
    unfold firstN
    split <;> omega
  have hcl : clamp (Rn : Int) 30 = (Rn : Int) := by rcases clamp_cases (Rn : Int) 30 (by omega) with ⟨h, _⟩ | ⟨_, h⟩ | ⟨⟨_, h⟩, _⟩ <;> omega
  have HSN := Lib.hid hsn
  have HKK := Lib.hid hkk
  have HFF := Lib.hid hff
  have HKD := Lib.hid hkd
  have HFD := Lib.hid hfd
  have HCL := Lib.hid hcl
  have hcu : ∀ m : Nat, curB Rn 60 m (viewB 0 0 [] 0 0) 0 0 false = false := fun m => by rw [view0]; rfl
  have HCU := Lib.hid hcu
  clear hcu hsn hkk hff hkd hfd hcl
  go_upto_region 9 with (first
    | (go_at_call 18; refine (compose_any (Rn : Int) 60 As ns cs sts (sh : Int) 0 0 none 0 0 [] 0 0 false _ HS3.out hnc3 hcm3 (fun s hs => (HSM.out s hs).ok) (Rg.nil_ _ _) (by omega) (by omega) (by omega) (HT.out.up HB3.out) (PowT.up30 HP.out HB3.out)).mono ?_; rintro ee w4 ⟨g, Rn', Cn', hRn', hCn', hgz, hb4, hW, rfl⟩; obtain rfl : Rn' = Rn := (by rw [hRn', HCL.out]; exact Int.toNat_natCast _); obtain rfl : Cn' = 60 := hCn'.trans rfl; rw [HCU.out]; have HW := Lib.hid hW; have HB4 := Lib.hid (Bw.trans HB3.out hb4); have HS4 := Lib.hid (HS3.out.up hb4); have hz4 := hb4.size; have hgl := hW.lt; clear hW hb4 hRn' hCn')
    | fail)
  generalize hw5 : w4.alloc _ = w5
  obtain ⟨hb5, hbw5, hz5⟩ := sb1 hw5
  have HV5 := Lib.hid hb5
  have HB5 := Lib.hid (Bw.trans HB4.out hbw5)
  have HS5 := Lib.hid (HS4.out.up hbw5)
  have HW5 := Lib.hid (HW.out.up hbw5)
  clear hw5 hb5 hbw5 HW HS4 HB4
  go_cut [10] (fun s w' => s = .int .i64 (kk : Int) ∧ w5 = w')
  case first =>
    go_wp2_with fail
    all_goals
      go_meet
      case rel => exact ⟨congrArg (Value.int .i64) (by have h9 := HKD.out; (repeat' split at h9) <;> omega), rfl⟩
  case rest =>
  obtain ⟨rfl, rfl⟩ := hcut
  go_upto_region 10 with (fail)
  go_cut [11] (fun s w' => s = .int .i64 (ff : Int) ∧ w5 = w')
  case first =>
    go_wp2_with fail
    all_goals
      go_meet
      case rel => exact ⟨congrArg (Value.int .i64) (by have h9 := HFD.out; (repeat' split at h9) <;> (repeat' split) <;> omega), rfl⟩
  case rest =>
  obtain ⟨rfl, rfl⟩ := hcut
  have y0 := HV5.out.cell 0 (v := .int .i64 (Rn' : Int)) rfl
  have y1 := HV5.out.cell 1 (v := .int .i64 60) rfl
  have y2 := HV5.out.cell 2 (v := .slice (some ⟨g, 0, none⟩) (Rn' * 60) (Rn' * 60)) rfl
  have y3 := HV5.out.cell 3 (v := .int .i64 0) rfl
  have y4 := HV5.out.cell 4 (v := .int .i64 0) rfl
  have y5 := HV5.out.cell 5 (v := .bool true) rfl
  have hce : composeC Rn' 60 sts (sh : Int) (viewB 0 0 [] 0 0) 0 0 [] = baseC Rn' 60 sts (sh : Int) := by unfold composeC; rw [view0, if_neg (by simp)]
  rw [hce] at HW5
  have hbl := baseC_len Rn' 60 sts (sh : Int)
  have hrg := HW5.out.rg
  rw [hbl] at hrg
  have HRG := Lib.hid hrg
  have HGB := Lib.hid (baseC_grid Rn' 60 sts (sh : Int) (by omega) (by omega) (by omega) (by omega))
  have HMM := Lib.hid (fun x hx => (baseC_mem Rn' 60 sts (sh : Int) (by omega) (by omega) x hx).2)
  clear hce hrg HW5
  go_wp2_with (first
    | (go_at_call 21; refine (rtext_any Rn' 60 (some ⟨g, 0, none⟩) (Rn' * 60) (Rn' * 60) (baseC Rn' 60 sts (sh : Int)) 0 0 true _ HRG.out (Nat.le_refl _) (by omega) (by omega) HGB.out HMM.out (by omega)).mono ?_; rintro ee w6 ⟨At, ct, rfl, hct, hctm, hrt, hb6⟩; have HRT := Lib.hid hrt; have HB6 := Lib.hid (Bw.trans HB5.out hb6); have HS6 := Lib.hid (HS5.out.up hb6); have hz6 := hb6.size; clear hrt hb6 y0 y1 y2 y3 y4 y5)
    | fail)
  go_loopw [13] (fun i wr => ∃ k : Nat, i = .int .i64 (k : Int) ∧ k ≤ kk ∧ Bw w6 wr) (fun i _ => kk - (intOf i).toNat)
  case atStart => exact ⟨0, rfl, by omega, Bw.refl _⟩
  case round =>
    obtain ⟨k, rfl, hk, hbr⟩ := hrel
    have HBR := Lib.hid hbr
    have hzr := hbr.size
    clear hbr
    by_cases hlt : k < kk
    · obtain ⟨gt, ot, rfl, hxt⟩ := HRT.out.2 (by omega)
      have hxk := hxt k (by simp; omega)
      rw [List.getElem_map, List.getElem_range] at hxk
      have hsx : ff + k < sts.length := by omega
      obtain ⟨gs, os, rfl, hx⟩ := HS6.out.2 (by omega)
      obtain ⟨⟨sb, sp, si, sr⟩, hst⟩ : ∃ s, s = sts[ff + k] := ⟨_, rfl⟩
      have hSe := hx (ff + k) hsx
      rw [← hst] at hSe
      have hSo := (HSM.out _ (List.getElem_mem hsx)).ok
      rw [← hst] at hSo
      have hSl := lineS_len _ hSo (decide (ff + k = sh))
      have hSz : sb.size = 1 := by have := (HSM.out _ (List.getElem_mem hsx)).1; rw [← hst] at this; exact this
      have hgd : sts.getD (ff + k) st0 = (sb, sp, si, sr) := by rw [List.getD_eq_getElem?_getD, List.getElem?_eq_getElem hsx, hst]; rfl
      obtain ⟨so1, ⟨so2, so3⟩, so4, so5⟩ := hSo
      dsimp only at so1 so2 so3 so4 so5
      have htx : txtL Rn' 60 (baseC Rn' 60 sts (sh : Int)) k = bs (rtrim (lineL sb sp si sr (decide (ff + k = sh)))) := by
        unfold txtL
        rw [row_line Rn' 60 sts (sh : Int) (by omega) (by omega) k (by rw [← HKK.out]; exact hlt) (lineL sb sp si sr (decide (ff + k = sh))) (by rw [← HKK.out, HSN.out, ← HFF.out, hgd]; rfl) (by have : (lineL sb sp si sr (decide (ff + k = sh))).length ≤ sb.size + 57 := hSl; omega)]
      rw [htx] at hxk
      have hLl : (lineL sb sp si sr (decide (ff + k = sh))).length ≤ 1000 := by have : (lineL sb sp si sr (decide (ff + k = sh))).length ≤ sb.size + 57 := hSl; omega
      have HLL := Lib.hid hLl
      have HY : Hid (∀ w', Bw wr w' → w'.cell? ⟨gt, ot + k, none⟩ = some (.string (bs (rtrim (lineL sb sp si sr (decide (ff + k = sh)))))) ∧ w'.cell? ⟨gs, os + (ff + k) * 4, none⟩ = some (.string sb) ∧ w'.cell? ⟨gs, os + (ff + k) * 4 + 1, none⟩ = some (.int .i64 sp) ∧ w'.cell? ⟨gs, os + (ff + k) * 4 + 2, none⟩ = some (.int .i64 si) ∧ w'.cell? ⟨gs, os + (ff + k) * 4 + 3, none⟩ = some (.int .i64 sr)) := Lib.hid (fun w' hb' => by
        have hb2 := Bw.trans HBR.out hb'
        exact ⟨cell_bw hb2 hxk, hSe.up hb2⟩)
      have hf1 : IntKind.i64.wrap ((ff : Int) + (k : Int)) = ((ff + k : Nat) : Int) := by rw [IntWalk.i64_in _ (by omega)]; omega
      have hf2 : ((ff + k : Nat) : Int) < (ns : Int) := by omega
      have hf3 : ff + k < ns := by omega
      have hkR : k < Rn' := by omega
      have hfi : (0 : Int) ≤ (ff : Int) + (k : Int) := by omega
      have hfl : (ff : Int) + (k : Int) < (ns : Int) := by omega
      have hfn : ((ff : Int) + (k : Int)).toNat = ff + k := by omega
      have HDE := Lib.hid (show ((ff : Int) + (k : Int) == (sh : Int)) = decide (ff + k = sh) by rw [dec_eq2]; rfl)
      clear hxt hxk hx hst hSe hSl hgd htx hLl
      go_upto_region 17 with (fail)
      refine wp_region_held_drew (S := (fun w' => w'.cell? ⟨gt, ot + k, none⟩ = some (.string (bs (rtrim (lineL sb sp si sr (decide (ff + k = sh)))))) ∧ w'.cell? ⟨gs, os + (ff + k) * 4, none⟩ = some (.string sb) ∧ w'.cell? ⟨gs, os + (ff + k) * 4 + 1, none⟩ = some (.int .i64 sp) ∧ w'.cell? ⟨gs, os + (ff + k) * 4 + 2, none⟩ = some (.int .i64 si) ∧ w'.cell? ⟨gs, os + (ff + k) * 4 + 3, none⟩ = some (.int .i64 sr))) (by kernel_rfl) ?_ (fun hHeld => ?_)
      · (try dsimp only); (first | (exact HY.out _ BWX) | fail)
      refine tkH 0 ?_ rfl (Or.inl ⟨by rfl, ?ht0⟩) ?_
      case ht0 => (intro w hSw; (try dsimp only at hSw); go_simp; try with_reducible rfl)
      (try simp only [Act.put, zP1, zP2, zP3, zP4, zP5, zP6])
      refine tkH 1 ?_ rfl (Or.inl ⟨by rfl, ?ht1⟩) ?_
      case ht1 => (intro w hSw; (try dsimp only at hSw); go_simp; try with_reducible rfl)
      (try simp only [Act.put, zP1, zP2, zP3, zP4, zP5, zP6])
      refine tkH 2 ?_ rfl (Or.inl ⟨by rfl, ?ht2⟩) ?_
      case ht2 => (intro w hSw; (try dsimp only at hSw); go_simp; try with_reducible rfl)
      (try simp only [Act.put, zP1, zP2, zP3, zP4, zP5, zP6])
      refine tkH 3 ?_ rfl (Or.inl ⟨by rfl, ?ht3⟩) ?_
      case ht3 => (intro w hSw; (try dsimp only at hSw); go_simp; try with_reducible rfl)
      (try simp only [Act.put, zP1, zP2, zP3, zP4, zP5, zP6])
      refine tkH 4 ?_ rfl (Or.inl ⟨by rfl, ?ht4⟩) ?_
      case ht4 => (intro w hSw; (try dsimp only at hSw); go_simp; try with_reducible rfl)
      (try simp only [Act.put, zP1, zP2, zP3, zP4, zP5, zP6])
      refine tkH 5 ?_ rfl (Or.inl ⟨by rfl, ?ht5⟩) ?_
      case ht5 => (intro w hSw; (try dsimp only at hSw); go_simp; try with_reducible rfl)
      (try simp only [Act.put, zP1, zP2, zP3, zP4, zP5, zP6])
      refine tkH 6 ?_ rfl (Or.inl ⟨by rfl, ?ht6⟩) ?_
      case ht6 => (intro w hSw; (try dsimp only at hSw); go_simp; try with_reducible rfl)
      (try simp only [Act.put, zP1, zP2, zP3, zP4, zP5, zP6])
      refine tkH 7 ?_ rfl (Or.inl ⟨by rfl, ?ht7⟩) ?_
      case ht7 => (intro w hSw; (try dsimp only at hSw); go_simp; try with_reducible rfl)
      (try simp only [Act.put, zP1, zP2, zP3, zP4, zP5, zP6])
      refine tkH 8 ?_ rfl (Or.inl ⟨by rfl, ?ht8⟩) ?_
      case ht8 => (intro w hSw; (try dsimp only at hSw); go_simp; try with_reducible rfl)
      (try simp only [Act.put, zP1, zP2, zP3, zP4, zP5, zP6])
      refine tkH 9 ?_ rfl (Or.inl ⟨by rfl, ?ht9⟩) ?_
      case ht9 => (intro w hSw; (try dsimp only at hSw); go_simp; try with_reducible rfl)
      (try simp only [Act.put, zP1, zP2, zP3, zP4, zP5, zP6])
      refine tkH 10 ?_ rfl (Or.inl ⟨by rfl, ?ht10⟩) ?_
      case ht10 => (intro w hSw; (try dsimp only at hSw); go_simp; try with_reducible rfl)
      (try simp only [Act.put, zP1, zP2, zP3, zP4, zP5, zP6])
      refine tkH 11 ?_ rfl (Or.inl ⟨by rfl, ?ht11⟩) ?_
      case ht11 => (intro w hSw; (try dsimp only at hSw); go_simp; try with_reducible rfl)
      (try simp only [Act.put, zP1, zP2, zP3, zP4, zP5, zP6])
      refine tkH 12 ?_ rfl (Or.inl ⟨by rfl, ?ht12⟩) ?_
      case ht12 => (intro w hSw; (try dsimp only at hSw); go_simp; try with_reducible rfl)
      (try simp only [Act.put, zP1, zP2, zP3, zP4, zP5, zP6])
      refine tkH 13 ?_ rfl (Or.inl ⟨by rfl, ?ht13⟩) ?_
      case ht13 => (intro w hSw; (try dsimp only at hSw); go_simp; try with_reducible rfl)
      (try simp only [Act.put, zP1, zP2, zP3, zP4, zP5, zP6])
      refine tkH 14 ?_ rfl (Or.inl ⟨by rfl, ?ht14⟩) ?_
      case ht14 => (intro w hSw; (try dsimp only at hSw); go_simp; try with_reducible rfl)
      (try simp only [Act.put, zP1, zP2, zP3, zP4, zP5, zP6])
      refine wpAnyH_ready (rs := [15]) (by kernel_rfl) (by simp) ?_
      refine AllReadyH.cons rfl (fun K hK => ?_) ?_
      · go_simp
        rw [HDE.out]; refine (line_any sb sp si sr _ _ (by omega) so2 so3 so4 so5 (HT.out.up (Bw.trans HB6.out (Bw.trans HBR.out BWX))) (PowT.up30 HP.out (Bw.trans HB6.out (Bw.trans HBR.out BWX)))).mono ?_; rintro ee v1 ⟨rfl, hv1⟩; go_wp2_with fail
        refine hK.out _ _ ?_ (fun hHeld => ?_)
        · (try dsimp only); (first | (exact HY.out _ BWX) | fail)
        clear hK K
        (try simp only [Act.put, zP1, zP2, zP3, zP4, zP5, zP6])
        refine wpAnyH_ready (rs := [16]) (by kernel_rfl) (by simp) ?_
        refine AllReadyH.cons rfl (fun K hK => ?_) ?_
        · go_simp
          refine (trim_any _ _ (by have := HLL.out; omega)).mono ?_; rintro ee v2 ⟨rfl, rfl⟩; go_wp2_with fail
          refine hK.out _ _ ?_ (fun hHeld => ?_)
          · (try dsimp only); (first | (exact HY.out _ BWX) | fail)
          clear hK K
          (try simp only [Act.put, zP1, zP2, zP3, zP4, zP5, zP6])
          refine tkH 17 ?_ rfl (Or.inl ⟨by rfl, ?ht17⟩) ?_
          case ht17 => (intro w hSw; (try dsimp only at hSw); go_simp; try with_reducible rfl)
          (try simp only [Act.put, zP1, zP2, zP3, zP4, zP5, zP6])
          refine wpAnyH_done (by kernel_rfl) ?_ _
          go_wp2_with fail
          go_roundw
          case rel => exact ⟨k + 1, by go_num, by omega, Bw.trans HBR.out BWX⟩
          case measure => simp [intOf]; omega
        exact AllReadyH.nil
      exact AllReadyH.nil
    · have hk2 : ¬ (k : Int) < (kk : Int) := by omega
      go_wp2_with fail
      go_ret
      exact ⟨rfl, Bw.trans HB6.out HBR.out⟩
end Go.Proofs.YtmkpefielfinjaaDoor

/- Arguments: a status; what the row's condition tells of the table of words. -/
namespace Go.Proofs.YtmkpefielfinjaaDoor
open Go.RowKit Go.ChangeShapes Go.WideShapes Go.ChangeAt Go.Joins Go.Deep

theorem cells_strS : Tryd.prog.cellsOf 9 = 1 := by kernel_rfl
theorem cells_of_strs {H : Type} {enc : TypeId × Value → H} {P : Program} {w : World} {base : Nat} {sp : Nat → Bool} {held : Bool} {fuel : Nat} {t e : TypeId} {n : Nat} {cs : List Value} {zs : List (List UInt8)} {p : List MemPlace}
    (ht : P.underlying t = some (.array n e)) (he : P.underlying e = some .string) (hce : P.cellsOf e = 1) (hct : P.cellsOf t = n)
    (h : DataW.trod enc P w base sp held fuel t cs = some (.agg (zs.map fun z => .lit (.string z)), p)) : cs = zs.map fun z => Value.string ⟨z.toArray⟩ := by
  cases fuel with
  | zero => simp [DataW.trod] at h
  | succ fuel =>
    simp only [DataW.trod, ht, hce, hct, Nat.mul_one] at h
    split at h
    · rename_i hl
      obtain ⟨xs, hm, hx⟩ := Option.map_eq_some_iff.1 h
      have hxs : xs.map (·.1) = zs.map fun z => (DataW.lit (.string z) : DataW H) := by
        have := congrArg Prod.fst hx
        simpa using this
      have hxl : xs.length = n := by simpa using Lib.mapM_length hm
      have hzl : zs.length = n := by
        have := congrArg List.length hxs
        simp at this
        omega
      apply List.ext_getElem?
      intro i
      by_cases hi : i < n
      · obtain ⟨b, hb, hf⟩ := Lib.mapM_at hm i i (by simp [hi])
        obtain ⟨s, hc, rfl, _⟩ := DataW.trod_string he hf
        have h1 : cs[i]? = some (.string s) := by
          have := congrArg (·[0]?) hc
          simpa [List.getElem?_take, List.getElem?_drop] using this
        have h2 : (xs.map (·.1))[i]? = some (DataW.lit (.string s.data.toList) : DataW H) := by simp [hb]
        rw [hxs] at h2
        simp only [List.getElem?_map, Option.map_eq_some_iff, DataW.lit.injEq, Lit.string.injEq] at h2
        obtain ⟨z', hz', e9⟩ := h2
        have e8 : s = ⟨z'.toArray⟩ := by rw [e9]
        simp [h1, hz', e8]
      · rw [List.getElem?_eq_none (by omega), List.getElem?_eq_none (by simp; omega)]
    · cases h
/-- From the row's condition: the table of words. -/
theorem word_of_head {W : World} {rest : List (String × DataW Unit)} {t : TypeId}
    (hg : Tryd.prog.globalNamed "jobmux/compose.words" = some 0) (hty : (Tryd.prog.globals[0]?).map (·.type) = some t) (ht : Tryd.prog.underlying t = some (.array 10 9)) (hct : Tryd.prog.cellsOf t = 10)
    (h : laidMet Tryd.prog (("jobmux/compose.words", .agg ((wordL.map fun b => b.data.toList).map fun z => .lit (.string z))) :: rest) W) : WordT W := by
  obtain ⟨ps, ⟨g', t', cs, fuel, p, q, hg', ht', hvar, hd, _, _⟩, _⟩ := h
  obtain rfl := Option.some.inj (hg.symm.trans hg')
  obtain rfl := Option.some.inj (hty.symm.trans ht')
  have e := cells_of_strs ht Tryd.underlying9 cells_strS hct hd
  intro i hi
  have := World.var?_cell hg hvar i
  rw [this, ← Array.getElem?_toList, e]
  have key : ∀ (l : List ByteArray) (i : Nat) (h : i < l.length), ((l.map fun b => b.data.toList).map fun z => Value.string ⟨z.toArray⟩)[i]? = some (.string (l.getD i ⟨#[63]⟩)) := by
    intro l i h
    simp [h]
  exact key wordL i hi
end Go.Proofs.YtmkpefielfinjaaDoor
