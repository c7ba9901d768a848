/- Parts of the proof, one after the other. -/
import Derived.Test.YtmkpefielfinjaaDoorV37
import Derived.Test.YtmkpefielfinjaaDoorV35
import Derived.Deep.RegionHeld3
set_option linter.unusedSimpArgs false
set_option linter.unusedVariables false
/- Compose: the walk of the reference's Compose. -/
namespace Go.Proofs.YtmkpefielfinjaaDoor
open Go.RowKit

theorem wp_store_gr {o : Oper} {a : Act} {w : World} {K : Act → World → Prop} {Q : Exit → Act → World → Prop} (R C : Int) (A : Option Addr) (n c : Nat) (g : Nat) (x y : Operand) (ho : o.op = .store 32 x y)
  (hx : a.eval x = .pointer (some ⟨g, 0, none⟩)) (hy : a.eval y = .agg (grV R C A n c)) (hg : ∃ old, Sb w g old 32 ∧ old.size = 3)
  (h : ∀ w', Sb w' g (grV R C A n c) 32 → w.grownBy w' (some g) → K (a.put o.dst undef) w') : Oper.wp Tryd.prog o a w K Q :=
 wp_store_cs 32 (grV R C A n c) g x y infoGr (grV_one R C A n c) ho hx hy hg h
theorem rep_gs (Rn Cn : Nat) (h1 : 1 ≤ Rn ∧ Rn ≤ 30) (h2 : 1 ≤ Cn ∧ Cn ≤ 100) : Gs Rn Cn (List.replicate (Rn * Cn) blk) (fun _ _ => blk) :=
 Gs.of h1 h2 (List.length_replicate) (fun r c hr hc => rep_at _ _) (fun _ _ _ _ => rfl)
def RcP (rows cols : Int) (sts : List St) (shown pR pC : Int) (ps : List C4) (prow pcol : Int) (phid : Bool) (w : World) (e : Ending) (w' : World) : Prop :=
 ∃ Rn Cn A n c cs, Rn = (clamp rows 30).toNat ∧ Cn = (clamp cols 100).toNat ∧ Bw w w' ∧ Rg w' A n cs ∧ n ≤ c ∧ c ≤ 9223372036854775807 ∧ cs = composeC Rn Cn sts shown (viewB pR pC ps prow pcol) pR pC ps ∧
   e = .returned (.agg #[.int .i64 (Rn : Int), .int .i64 (Cn : Int), .slice A n c, .int .i64 (if curB Rn Cn (kkN sts.length Rn) (viewB pR pC ps prow pcol) prow pcol phid = true then (kkN sts.length Rn : Int) + 1 + prow else 0), .int .i64 (if curB Rn Cn (kkN sts.length Rn) (viewB pR pC ps prow pcol) prow pcol phid = true then pcol else 0), .bool (!curB Rn Cn (kkN sts.length Rn) (viewB pR pC ps prow pcol) prow pcol phid)])
theorem jobF_ln (sts : List St) (first sh r c : Nat) : jobF sts first sh r c = lnF (lineS (sts.getD (first + r) st0) (decide (first + r = sh))) (decide (first + r = sh)) c := by
 unfold jobF lnF
 by_cases h : first + r = sh <;> simp [h]

set_option maxRecDepth 100000 in
set_option maxHeartbeats 8000000 in
theorem rcompose_any (rows cols : Int) (Al : Option Addr) (nl cl : Nat) (sts : List St) (shown pR pC : Int) (pA : Option Addr) (pn pc : Nat) (ps : List C4) (prow pcol : Int) (phid : Bool) (w : World) (hS : RS w Al nl sts) (hnl : nl ≤ cl) (hcl : cl ≤ 9223372036854775807) (hok : ∀ s ∈ sts, stOk s) (hr : Rg w pA pn ps) (hpn : pn ≤ pc) (hpc : pc ≤ 9223372036854775807) (hsh : -9223372036854775808 ≤ shown ∧ shown ≤ 9223372036854775807) :
  Calls Tryd.prog 19 #[.int .i64 rows, .int .i64 cols, .slice Al nl cl, .int .i64 shown, .agg #[.int .i64 pR, .int .i64 pC, .slice pA pn pc, .int .i64 prow, .int .i64 pcol, .bool phid]] w (RcP rows cols sts shown pR pC ps prow pcol phid w) := by
 have HS := Lib.hid hS
 have HOK := Lib.hid hok
 have HR := Lib.hid hr
 have HSH := Lib.hid hsh
 have hsl := hS.1
 have h1 := clamp_bd rows 30 (by omega)
 have h2 := clamp_bd cols 100 (by omega)
 obtain ⟨Rn, hRn⟩ : ∃ Rn : Nat, (Rn : Int) = clamp rows 30 := ⟨(clamp rows 30).toNat, by omega⟩
 obtain ⟨Cn, hCn⟩ : ∃ Cn : Nat, (Cn : Int) = clamp cols 100 := ⟨(clamp cols 100).toNat, by omega⟩
 rw [← hRn] at h1
 rw [← hCn] at h2
 have HRN := Lib.hid hRn
 have HCN := Lib.hid hCn
 obtain ⟨h1, h3⟩ := h1
 obtain ⟨h2, h4⟩ := h2
 clear hS hok hr hsh hRn hCn
 go_enter Tryd.func19, Tryd.ntmps19
 go_upto_region 1 with (fail)
 generalize hw0 : (w.alloc (.cells #[.int .i64 pR, .int .i64 pC, .slice pA pn pc, .int .i64 prow, .int .i64 pcol, .bool phid] 34)).alloc _ = w0
 obtain ⟨hb0, hb1, hbw0, hz0⟩ := sb2 hw0
 have HB0 := Lib.hid (show Sb w0 w.heap.size (vwV pR pC pA pn pc prow pcol phid) 34 from hb0)
 have HB1 := Lib.hid (show ∃ old, Sb w0 (w.heap.size + 1) old 34 ∧ old.size = 6 from ⟨_, hb1, rfl⟩)
 clear hw0 hb0 hb1
 have hNN : ((Rn : Int) * (Cn : Int)).toNat = Rn * Cn := by have : ((Rn * Cn : Nat) : Int) = (Rn : Int) * (Cn : Int) := Int.natCast_mul _ _; omega
 have HNN := Lib.hid hNN
 clear hNN
 go_upto_region 2 with (first
  | (go_at_call 36; refine (rnew16_any rows cols w0).mono ?_; rintro ee w1 ⟨A0, n0, c0, rfl, hrg0, hn0, hc0, hnew0, hb1⟩; rw [← HRN.out, ← HCN.out, HNN.out] at hrg0; rw [← HRN.out, ← HCN.out]; have HRG0 := Lib.hid hrg0; have HNW0 := Lib.hid hnew0; have HB01 := Lib.hid hb1; have hz1 := hb1.size; clear hrg0 hnew0 hb1)
  | fail)
 generalize hw2 : w1.alloc _ = w2
 obtain ⟨hb2, hbw2, hz2⟩ := sb1 hw2
 have HG2 := Lib.hid (show Sb w2 w1.heap.size (grV (Rn : Int) (Cn : Int) A0 n0 c0) 32 from hb2)
 clear hw2 hb2
 have HB02 := Lib.hid (Bw.trans HB01.out hbw2)
 have HRG2 := Lib.hid (HRG0.out.up hbw2)
 have hA0 : ∀ ad, A0 = some ad → ad.block < w1.heap.size := fun ad e => by
  subst e
  obtain ⟨g, o, e, hx⟩ := HRG0.out.2 (by have := HRG0.out.1; rw [List.length_replicate] at this; have := Nat.mul_pos (show 0 < Rn by omega) (show 0 < Cn by omega); omega)
  cases e
  exact lt_of_cell (hx 0 (by rw [List.length_replicate]; exact Nat.mul_pos (show 0 < Rn by omega) (show 0 < Cn by omega))).1
 have HA0 := Lib.hid hA0
 have HBW2 := Lib.hid (Bw.trans hbw0 HB02.out)
 have x0 := HG2.out.cell 0 (v := .int .i64 (Rn : Int)) rfl
 have x1 := HG2.out.cell 1 (v := .int .i64 (Cn : Int)) rfl
 have x2 := HG2.out.cell 2 (v := .slice A0 n0 c0) rfl
 clear hbw2 HB01 HRG0 hA0
 obtain ⟨sh, hsh⟩ : ∃ sh, sh = shN sts.length shown := ⟨_, rfl⟩
 obtain ⟨kk, hkk⟩ : ∃ kk, kk = kkN sts.length Rn := ⟨_, rfl⟩
 obtain ⟨ff, hff⟩ : ∃ ff, ff = firstN kk sh := ⟨_, rfl⟩
 obtain ⟨t, htt⟩ : ∃ t : Bool, t = decide (shown < 0 ∨ (nl : Int) ≤ shown) := ⟨_, rfl⟩
 have hnl2 : (nl : Int) ≤ 9223372036854775807 := by omega
 have hbx : (t = true ∧ sh = 0 ∧ shown < 0) ∨ (t = true ∧ sh = 0 ∧ 0 ≤ shown ∧ (nl : Int) ≤ shown) ∨ (t = false ∧ (sh : Int) = shown ∧ 0 ≤ shown ∧ shown < nl) := by
  unfold shN at hsh
  rw [hsl] at hsh
  by_cases h5 : shown < 0
  ·rw [if_pos (.inl h5)] at hsh
   exact .inl ⟨by rw [htt]; exact decide_eq_true (.inl h5), hsh, h5⟩
  by_cases h6 : (nl : Int) ≤ shown
  ·rw [if_pos (.inr h6)] at hsh
   exact .inr (.inl ⟨by rw [htt]; exact decide_eq_true (.inr h6), hsh, by omega, h6⟩)
  ·rw [if_neg (by omega)] at hsh
   exact .inr (.inr ⟨by rw [htt]; exact decide_eq_false (by omega), by omega, by omega, by omega⟩)
 have hkb : kk < Rn ∧ kk ≤ nl := by have := kk_lt sts.length (Rn := Rn) (by omega); rw [hsl] at this; rw [hkk, hsl]; exact this
 have hshb : 0 < nl → sh < nl := fun h => by have := sh_lt (n := sts.length) shown (by omega); rw [← hsh] at this; omega
 have hshm : (sh : Int) ≤ 9223372036854775806 := by rcases hbx with ⟨_, h, _⟩ | ⟨_, h, _⟩ | ⟨_, h, _, h'⟩ <;> omega
 have hkd : (kk : Int) = if (nl : Int) < (Rn : Int) / 2 then (nl : Int) else (Rn : Int) / 2 := by rw [hkk]; unfold kkN; rw [hsl]; split <;> omega
 have hfd : (kk ≤ sh ∧ (ff : Int) = (sh : Int) - kk + 1) ∨ (sh < kk ∧ ff = 0) := by
  unfold firstN at hff
  by_cases h : kk ≤ sh
  ·rw [if_pos h] at hff; exact .inl ⟨h, by omega⟩
  ·rw [if_neg h] at hff; exact .inr ⟨by omega, hff⟩
 have HSHN := Lib.hid hsh
 have HKK := Lib.hid hkk
 have HFF := Lib.hid hff
 have HKD := Lib.hid hkd
 obtain ⟨hkb1, hkb2⟩ := hkb
 clear hsh hkk hff htt hkd
 go_cut [29] (fun s w' => s = .bool t ∧ w2 = w')
 case first =>
  rcases hbx with ⟨rfl, rfl, h5⟩ | ⟨rfl, rfl, h5, h6⟩ | ⟨rfl, h7, h5, h6⟩
  all_goals
   go_wp2_with fail
   go_meet
   case rel => exact ⟨by first | rfl | (simp; done) | (simp; omega), rfl⟩
 case rest =>
 obtain ⟨rfl, rfl⟩ := hcut
 go_upto_if 29 with (fail)
 go_cut [3] (fun s w' => s = .int .i64 (sh : Int) ∧ w2 = w')
 case first =>
  rcases hbx with ⟨rfl, rfl, h5⟩ | ⟨rfl, rfl, h5, h6⟩ | ⟨rfl, h7, h5, h6⟩
  all_goals
   go_wp2_with fail
   go_meet
   case rel => exact ⟨by first | rfl | rw [h7], rfl⟩
 case rest =>
 obtain ⟨rfl, rfl⟩ := hcut
 clear hbx
 go_upto_region 4 with (fail)
 go_cut [12] (fun s w' => s = .int .i64 (kk : Int) ∧ w2 = w')
 case first =>
  go_wp2_with fail
  all_goals
   go_meet
   case rel => exact ⟨congrArg (Value.int .i64) (by have h9 := HKD.out; (repeat' split at h9) <;> omega), rfl⟩
 case rest =>
 obtain ⟨rfl, rfl⟩ := hcut
 have hfd2 : (ff : Int) = if (0 : Int) < (sh : Int) - (kk : Int) + 1 then (sh : Int) - (kk : Int) + 1 else 0 := by
  rcases hfd with ⟨h5, h6⟩ | ⟨h5, h6⟩
  ·rw [if_pos (by omega)]; exact h6
  ·rw [if_neg (by omega), h6]; rfl
 have HFD := Lib.hid hfd2
 clear hfd2
 go_upto_region 5 with (fail)
 go_cut [13] (fun s w' => s = .int .i64 (ff : Int) ∧ w2 = w')
 case first =>
  have hsk : -9223372036854775808 ≤ (sh : Int) - (kk : Int) + 1 ∧ (sh : Int) - (kk : Int) + 1 ≤ 9223372036854775807 := by omega
  clear hfd
  go_wp2_with fail
  all_goals
   go_meet
   case rel => exact ⟨congrArg (Value.int .i64) (by have h9 := HFD.out; (repeat' split at h9) <;> (repeat' split) <;> omega), rfl⟩
 case rest =>
 obtain ⟨rfl, rfl⟩ := hcut
 go_wp2_with fail
 go_loopw [14] (fun i wr => ∃ (r : Nat) (A' : Option Addr) (n' c' : Nat) (cs' : List C4), i = .int .i64 (r : Int) ∧ r ≤ kk ∧ Sb wr w1.heap.size (grV (Rn : Int) (Cn : Int) A' n' c') 32 ∧ Rg wr A' n' cs' ∧ n' ≤ c' ∧ c' ≤ 9223372036854775807 ∧ (∀ ad, A' = some ad → ad.block ≠ w1.heap.size) ∧ Gs Rn Cn cs' (fun r' q => if r' < r then jobF sts ff sh r' q else blk) ∧ w2.grownBy wr (some w1.heap.size)) (fun i _ => kk - (intOf i).toNat)
 case atStart => exact ⟨0, A0, n0, c0, _, rfl, by omega, HG2.out, HRG2.out, hn0, hc0, (fun ad e => by have := HA0.out ad e; omega), (rep_gs Rn Cn (by omega) (by omega)).congr (fun r q _ _ => by rw [if_neg (by omega)]), grown_refl _ _⟩
 case round =>
  obtain ⟨r, A', n', c', cs', rfl, hr, hSg, hrg, hn', hc', hne, hgs, hgr⟩ := hrel
  have HSG := Lib.hid hSg
  have HRG := Lib.hid hrg
  have HNE := Lib.hid hne
  have HGS := Lib.hid hgs
  have HGr := Lib.hid hgr
  have hbr : Bw w wr := Bw.grown HBW2.out hgr (fun k hk => by cases hk; have := hbw0.size; omega)
  have HBr := Lib.hid hbr
  have hzr := hgr.size
  clear hSg hrg hne hgs hgr hbr x0 x1 x2
  have x0 := HSG.out.cell 0 (v := .int .i64 (Rn : Int)) rfl
  have x1 := HSG.out.cell 1 (v := .int .i64 (Cn : Int)) rfl
  have x2 := HSG.out.cell 2 (v := .slice A' n' c') rfl
  by_cases hlt : r < kk
  ·have hsx : ff + r < sts.length := by rcases hfd with ⟨h5, h6⟩ | ⟨h5, h6⟩ <;> omega
   obtain ⟨gs, os, rfl, hx⟩ := HS.out.2 (by omega)
   obtain ⟨⟨sb, sp, si, sr⟩, hst⟩ : ∃ s, s = sts[ff + r] := ⟨_, rfl⟩
   have hSe := hx (ff + r) hsx
   rw [← hst] at hSe
   have hgs := lt_of_cell hSe.1
   dsimp only at hgs
   have hSo := HOK.out _ (List.getElem_mem hsx)
   rw [← hst] at hSo
   have hSl := lineS_len _ hSo (decide (ff + r = sh))
   obtain ⟨so1, ⟨so2, so3⟩, so4, so5⟩ := hSo
   dsimp only at so1 so2 so3 so4 so5
   have hgd : sts.getD (ff + r) st0 = (sb, sp, si, sr) := by rw [List.getD_eq_getElem?_getD, List.getElem?_eq_getElem hsx, hst]; rfl
   have HGD := Lib.hid hgd
   have hLl : (lineL sb sp si sr (decide (ff + r = sh))).length ≤ 200000000000000 := by have : (lineL sb sp si sr (decide (ff + r = sh))).length ≤ sb.size + 57 := hSl; omega
   have HLL := Lib.hid hLl
   have HLA := Lib.hid (fun k (hk : k < (lineL sb sp si sr (decide (ff + r = sh))).length) => chrN_bd sb sp si sr (decide (ff + r = sh)) k hk)
   have HY : Hid (∀ w', wr.grownBy w' (some w1.heap.size) → w'.cell? ⟨gs, os + (ff + r) * 4, none⟩ = some (.string sb) ∧ w'.cell? ⟨gs, os + (ff + r) * 4 + 1, none⟩ = some (.int .i64 sp) ∧ w'.cell? ⟨gs, os + (ff + r) * 4 + 2, none⟩ = some (.int .i64 si) ∧ w'.cell? ⟨gs, os + (ff + r) * 4 + 3, none⟩ = some (.int .i64 sr)) := Lib.hid (fun w' hg' => hSe.up (Bw.grown HBW2.out (grown_trans HGr.out hg') (fun k hk => by cases hk; have := hbw0.size; omega)))
   clear hx hst hSe hgd hSl hLl
   have hfi : (0 : Int) ≤ (ff : Int) + (r : Int) := by omega
   have hfl : (ff : Int) + (r : Int) < (nl : Int) := by omega
   have hfn : ((ff : Int) + (r : Int)).toNat = ff + r := by omega
   have hf3 : ff + r < nl := by omega
   have hw9 : IntKind.i64.wrap ((ff : Int) + (r : Int)) = (ff : Int) + (r : Int) := IntWalk.i64_in _ (by omega)
   have HDE := Lib.hid (show ((ff : Int) + (r : Int) == (sh : Int)) = decide (ff + r = sh) by rw [dec_eq2]; rfl)
   go_upto_region 9 with (fail)
   refine wp_region_held_drew (S := (fun w' => w'.cell? ⟨gs, os + (ff + r) * 4, none⟩ = some (.string sb) ∧ w'.cell? ⟨gs, os + (ff + r) * 4 + 1, none⟩ = some (.int .i64 sp) ∧ w'.cell? ⟨gs, os + (ff + r) * 4 + 2, none⟩ = some (.int .i64 si) ∧ w'.cell? ⟨gs, os + (ff + r) * 4 + 3, none⟩ = some (.int .i64 sr))) (by kernel_rfl) ?_ (fun hHeld => ?_)
   ·(try dsimp only); (first | (exact HY.out _ (grown_trans (grown_bw BWX _) HG9.out)) | (exact HY.out _ (grown_bw BWX _)) | fail)
   refine tkH 1 ?_ rfl (Or.inl ⟨by rfl, ?ht1⟩) ?_
   case ht1 => (intro w hSw; (try dsimp only at hSw); go_simp; try with_reducible rfl)
   (try simp only [Act.put, zP1, zP2, zP3, zP4, zP5, zP6])
   refine tkH 2 ?_ rfl (Or.inl ⟨by rfl, ?ht2⟩) ?_
   case ht2 => (intro w hSw; (try dsimp only at hSw); go_simp; try with_reducible rfl)
   (try simp only [Act.put, zP1, zP2, zP3, zP4, zP5, zP6])
   refine tkH 3 ?_ rfl (Or.inl ⟨by rfl, ?ht3⟩) ?_
   case ht3 => (intro w hSw; (try dsimp only at hSw); go_simp; try with_reducible rfl)
   (try simp only [Act.put, zP1, zP2, zP3, zP4, zP5, zP6])
   refine tkH 4 ?_ rfl (Or.inl ⟨by rfl, ?ht4⟩) ?_
   case ht4 => (intro w hSw; (try dsimp only at hSw); go_simp; try with_reducible rfl)
   (try simp only [Act.put, zP1, zP2, zP3, zP4, zP5, zP6])
   refine tkH 5 ?_ rfl (Or.inl ⟨by rfl, ?ht5⟩) ?_
   case ht5 => (intro w hSw; (try dsimp only at hSw); go_simp; try with_reducible rfl)
   (try simp only [Act.put, zP1, zP2, zP3, zP4, zP5, zP6])
   refine tkH 6 ?_ rfl (Or.inl ⟨by rfl, ?ht6⟩) ?_
   case ht6 => (intro w hSw; (try dsimp only at hSw); go_simp; try with_reducible rfl)
   (try simp only [Act.put, zP1, zP2, zP3, zP4, zP5, zP6])
   refine tkH 7 ?_ rfl (Or.inl ⟨by rfl, ?ht7⟩) ?_
   case ht7 => (intro w hSw; (try dsimp only at hSw); go_simp; try with_reducible rfl)
   (try simp only [Act.put, zP1, zP2, zP3, zP4, zP5, zP6])
   refine tkH 8 ?_ rfl (Or.inl ⟨by rfl, ?ht8⟩) ?_
   case ht8 => (intro w hSw; (try dsimp only at hSw); go_simp; try with_reducible rfl)
   (try simp only [Act.put, zP1, zP2, zP3, zP4, zP5, zP6])
   refine tkH 9 ?_ rfl (Or.inl ⟨by rfl, ?ht9⟩) ?_
   case ht9 => (intro w hSw; (try dsimp only at hSw); go_simp; try with_reducible rfl)
   (try simp only [Act.put, zP1, zP2, zP3, zP4, zP5, zP6])
   refine tkH 10 ?_ rfl (Or.inl ⟨by rfl, ?ht10⟩) ?_
   case ht10 => (intro w hSw; (try dsimp only at hSw); go_simp; try with_reducible rfl)
   (try simp only [Act.put, zP1, zP2, zP3, zP4, zP5, zP6])
   refine tkH 11 ?_ rfl (Or.inl ⟨by rfl, ?ht11⟩) ?_
   case ht11 => (intro w hSw; (try dsimp only at hSw); go_simp; try with_reducible rfl)
   (try simp only [Act.put, zP1, zP2, zP3, zP4, zP5, zP6])
   refine tkH 12 ?_ rfl (Or.inl ⟨by rfl, ?ht12⟩) ?_
   case ht12 => (intro w hSw; (try dsimp only at hSw); go_simp; try with_reducible rfl)
   (try simp only [Act.put, zP1, zP2, zP3, zP4, zP5, zP6])
   refine tkH 14 ?_ rfl (Or.inl ⟨by rfl, ?ht14⟩) ?_
   case ht14 => (intro w hSw; (try dsimp only at hSw); go_simp; try with_reducible rfl)
   (try simp only [Act.put, zP1, zP2, zP3, zP4, zP5, zP6])
   refine tkH 15 ?_ rfl (Or.inl ⟨by rfl, ?ht15⟩) ?_
   case ht15 => (intro w hSw; (try dsimp only at hSw); go_simp; try with_reducible rfl)
   (try simp only [Act.put, zP1, zP2, zP3, zP4, zP5, zP6])
   refine tkH 16 ?_ rfl (Or.inl ⟨by rfl, ?ht16⟩) ?_
   case ht16 => (intro w hSw; (try dsimp only at hSw); go_simp; try with_reducible rfl)
   (try simp only [Act.put, zP1, zP2, zP3, zP4, zP5, zP6])
   refine tkH 17 ?_ rfl (Or.inl ⟨by rfl, ?ht17⟩) ?_
   case ht17 => (intro w hSw; (try dsimp only at hSw); go_simp; try with_reducible rfl)
   (try simp only [Act.put, zP1, zP2, zP3, zP4, zP5, zP6])
   refine tkH 18 ?_ rfl (Or.inl ⟨by rfl, ?ht18⟩) ?_
   case ht18 => (intro w hSw; (try dsimp only at hSw); go_simp; try with_reducible rfl)
   (try simp only [Act.put, zP1, zP2, zP3, zP4, zP5, zP6])
   refine wpAnyH_ready (rs := [0, 13]) (by kernel_rfl) (by simp) ?_
   refine AllReadyH.cons rfl (fun K hK => ?_) ?_
   ·go_simp
    refine hK.out _ _ ?_ (fun hHeld => ?_)
    ·(try dsimp only); (first | (exact HY.out _ (grown_trans (grown_bw BWX _) HG9.out)) | (exact HY.out _ (grown_bw BWX _)) | fail)
    clear hK K
    (try simp only [Act.put, zP1, zP2, zP3, zP4, zP5, zP6])
    refine wpAnyH_ready (rs := [13]) (by kernel_rfl) (by simp) ?_
    refine AllReadyH.cons rfl (fun K hK => ?_) ?_
    ·go_simp
     (try rw [HDE.out]); refine (rline_any sb sp si sr _ _ so1 so2 so3 so4 so5).mono ?_; rintro ee v1 ⟨rfl, hv1⟩; have y0 := cell_bw (Bw.trans (show Bw wr _ from BWX) hv1) x0; have y1 := cell_bw (Bw.trans (show Bw wr _ from BWX) hv1) x1; have y2 := cell_bw (Bw.trans (show Bw wr _ from BWX) hv1) x2; go_wp2_with fail
     refine hK.out _ _ ?_ (fun hHeld => ?_)
     ·(try dsimp only); (first | (exact HY.out _ (grown_trans (grown_bw BWX _) HG9.out)) | (exact HY.out _ (grown_bw BWX _)) | fail)
     clear hK K
     (try simp only [Act.put, zP1, zP2, zP3, zP4, zP5, zP6])
     refine wpAnyH_ready (rs := [19]) (by kernel_rfl) (by simp) ?_
     refine AllReadyH.cons rfl (fun K hK => ?_) ?_
     ·go_simp
      (try rw [HDE.out]); refine (rwrite_any Rn Cn A' n' c' cs' _ (r : Int) (lineL sb sp si sr (decide (ff + r = sh))) (decide (ff + r = sh)) _ HGS.out (HRG.out.up BWX) hn' hc' HLA.out HLL.out).mono ?_; rintro ee v2 ⟨A2, n2, c2, cs2, rfl, hr2, hn2, hc2, hgs2, hnw2, hv2⟩; have HR2 := Lib.hid hr2; have HGS2 := Lib.hid hgs2; have HN2 := Lib.hid hnw2; have hz1v := hv1.size; clear hr2 hgs2 hnw2; go_wp2_with fail
      refine hK.out _ _ ?_ (fun hHeld => ?_)
      ·(try dsimp only); (first | (exact HY.out _ (grown_trans (grown_bw BWX _) HG9.out)) | (exact HY.out _ (grown_bw BWX _)) | fail)
      clear hK K
      (try simp only [Act.put, zP1, zP2, zP3, zP4, zP5, zP6])
      refine wpAnyH_ready (rs := [20]) (by kernel_rfl) (by simp) ?_
      refine AllReadyH.cons rfl (fun K hK => ?_) ?_
      ·(refine (if_pos (by kernel_rfl)).mpr ?_); (refine wp_store_gr (Rn : Int) (Cn : Int) A2 n2 c2 w1.heap.size (.tmp 11) (.tmp 65) rfl rfl rfl ⟨_, HSG.out.up BWX, rfl⟩ ?_); intro v9 hS9 hg9; have HS9 := Lib.hid hS9; have HG9 := Lib.hid hg9; clear hS9 hg9
       refine hK.out _ _ ?_ (fun hHeld => ?_)
       ·(try dsimp only); (first | (exact HY.out _ (grown_trans (grown_bw BWX _) HG9.out)) | (exact HY.out _ (grown_bw BWX _)) | fail)
       clear hK K
       (try simp only [Act.put, zP1, zP2, zP3, zP4, zP5, zP6])
       refine wpAnyH_done (by kernel_rfl) ?_ _
       go_wp2_with fail
       go_roundw
       case rel =>
        have hgb : w1.heap.size < wr.heap.size := HSG.out.lt
        have hwv : wr.heap.size ≤ v1.heap.size := by have := hz1v; simp at this; omega
        refine ⟨r + 1, A2, n2, c2, cs2, by go_num, by omega, HS9.out, HR2.out.far HG9.out (fun ad e e2 => by have := HN2.out ad e; have := Option.some.inj e2; omega), hn2, hc2, (fun ad e => by have := HN2.out ad e; omega), HGS2.out.congr (fun r' q hr' hq => ?_), grown_trans HGr.out (grown_trans (grown_bw BWX _) HG9.out)⟩
        by_cases h1 : r' = r
        ·subst h1
         rw [if_pos rfl, if_pos (by omega), jobF_ln, HGD.out]
         rfl
        ·by_cases h2 : r' < r
         ·rw [if_neg (by omega), if_pos h2, if_pos (by omega)]
         ·rw [if_neg (by omega), if_neg h2, if_neg (by omega)]
       case measure => simp [intOf]; omega
      exact AllReadyH.nil
     exact AllReadyH.nil
    exact AllReadyH.nil
   refine AllReadyH.cons rfl (fun K hK => ?_) ?_
   ·go_simp
    (try rw [HDE.out]); refine (rline_any sb sp si sr _ _ so1 so2 so3 so4 so5).mono ?_; rintro ee v1 ⟨rfl, hv1⟩; have y0 := cell_bw (Bw.trans (show Bw wr _ from BWX) hv1) x0; have y1 := cell_bw (Bw.trans (show Bw wr _ from BWX) hv1) x1; have y2 := cell_bw (Bw.trans (show Bw wr _ from BWX) hv1) x2; go_wp2_with fail
    refine hK.out _ _ ?_ (fun hHeld => ?_)
    ·(try dsimp only); (first | (exact HY.out _ (grown_trans (grown_bw BWX _) HG9.out)) | (exact HY.out _ (grown_bw BWX _)) | fail)
    clear hK K
    (try simp only [Act.put, zP1, zP2, zP3, zP4, zP5, zP6])
    refine wpAnyH_ready (rs := [0]) (by kernel_rfl) (by simp) ?_
    refine AllReadyH.cons rfl (fun K hK => ?_) ?_
    ·go_simp
     refine hK.out _ _ ?_ (fun hHeld => ?_)
     ·(try dsimp only); (first | (exact HY.out _ (grown_trans (grown_bw BWX _) HG9.out)) | (exact HY.out _ (grown_bw BWX _)) | fail)
     clear hK K
     (try simp only [Act.put, zP1, zP2, zP3, zP4, zP5, zP6])
     refine wpAnyH_ready (rs := [19]) (by kernel_rfl) (by simp) ?_
     refine AllReadyH.cons rfl (fun K hK => ?_) ?_
     ·go_simp
      (try rw [HDE.out]); refine (rwrite_any Rn Cn A' n' c' cs' _ (r : Int) (lineL sb sp si sr (decide (ff + r = sh))) (decide (ff + r = sh)) _ HGS.out (HRG.out.up BWX) hn' hc' HLA.out HLL.out).mono ?_; rintro ee v2 ⟨A2, n2, c2, cs2, rfl, hr2, hn2, hc2, hgs2, hnw2, hv2⟩; have HR2 := Lib.hid hr2; have HGS2 := Lib.hid hgs2; have HN2 := Lib.hid hnw2; have hz1v := hv1.size; clear hr2 hgs2 hnw2; go_wp2_with fail
      refine hK.out _ _ ?_ (fun hHeld => ?_)
      ·(try dsimp only); (first | (exact HY.out _ (grown_trans (grown_bw BWX _) HG9.out)) | (exact HY.out _ (grown_bw BWX _)) | fail)
      clear hK K
      (try simp only [Act.put, zP1, zP2, zP3, zP4, zP5, zP6])
      refine wpAnyH_ready (rs := [20]) (by kernel_rfl) (by simp) ?_
      refine AllReadyH.cons rfl (fun K hK => ?_) ?_
      ·(refine (if_pos (by kernel_rfl)).mpr ?_); (refine wp_store_gr (Rn : Int) (Cn : Int) A2 n2 c2 w1.heap.size (.tmp 11) (.tmp 65) rfl rfl rfl ⟨_, HSG.out.up BWX, rfl⟩ ?_); intro v9 hS9 hg9; have HS9 := Lib.hid hS9; have HG9 := Lib.hid hg9; clear hS9 hg9
       refine hK.out _ _ ?_ (fun hHeld => ?_)
       ·(try dsimp only); (first | (exact HY.out _ (grown_trans (grown_bw BWX _) HG9.out)) | (exact HY.out _ (grown_bw BWX _)) | fail)
       clear hK K
       (try simp only [Act.put, zP1, zP2, zP3, zP4, zP5, zP6])
       refine wpAnyH_done (by kernel_rfl) ?_ _
       go_wp2_with fail
       go_roundw
       case rel =>
        have hgb : w1.heap.size < wr.heap.size := HSG.out.lt
        have hwv : wr.heap.size ≤ v1.heap.size := by have := hz1v; simp at this; omega
        refine ⟨r + 1, A2, n2, c2, cs2, by go_num, by omega, HS9.out, HR2.out.far HG9.out (fun ad e e2 => by have := HN2.out ad e; have := Option.some.inj e2; omega), hn2, hc2, (fun ad e => by have := HN2.out ad e; omega), HGS2.out.congr (fun r' q hr' hq => ?_), grown_trans HGr.out (grown_trans (grown_bw BWX _) HG9.out)⟩
        by_cases h1 : r' = r
        ·subst h1
         rw [if_pos rfl, if_pos (by omega), jobF_ln, HGD.out]
         rfl
        ·by_cases h2 : r' < r
         ·rw [if_neg (by omega), if_pos h2, if_pos (by omega)]
         ·rw [if_neg (by omega), if_neg h2, if_neg (by omega)]
       case measure => simp [intOf]; omega
      exact AllReadyH.nil
     exact AllReadyH.nil
    exact AllReadyH.nil
   exact AllReadyH.nil
  ·obtain rfl : r = kk := by omega
   have hbase : Gs Rn Cn cs' (fun r' q => if r' < r then jobF sts ff sh r' q else blk) := HGS.out
   have HGF := Lib.hid ((HGS.out.fillT (r : Int) 0 (Cn : Int) (45, 0, 0, 0) rfl).congr (G := baseF r sts ff sh) (fun r' q hr' hq => by
    unfold baseF
    by_cases h1 : r' = r
    ·subst h1
     rw [if_pos (by omega), if_neg (by omega), if_pos rfl]
    ·by_cases h2 : r' < r
     ·rw [if_neg (by omega), if_pos h2, if_pos h2]
     ·rw [if_neg (by omega), if_neg h2, if_neg h2, if_neg h1]))
   clear hbase
   have hgw : w1.heap.size < wr.heap.size := HSG.out.lt
   go_upto_region 11 with (first
    | (go_at_call 38; refine (rfill_go Rn Cn A' n' c' cs' (r : Int) 0 (Cn : Int) 45 0 0 0 _ (by omega) (by omega) (by omega) (by omega) (HRG.out.1.symm.trans HGS.out.1) (HRG.out.up BWX) hn' hc' HGS.out.2.1 rfl).mono ?_; rintro ee w3 ⟨A3, n3, c3, rfl, hr3, hn3, hc3, hnw3, hb3⟩; have HR3 := Lib.hid hr3; have HN3 := Lib.hid hnw3; have HB3 := Lib.hid hb3; clear hr3 hnw3 hb3)
    | ((with_reducible refine wpList_store_gr (Rn : Int) (Cn : Int) A3 n3 c3 w1.heap.size (.tmp 11) (.tmp 71) rfl rfl ?_ ?_ ?_ ?_); (focus rfl); (focus rfl); (focus (exact ⟨_, HSG.out.up HB3.out, rfl⟩)); intro w4 hS4 hg4; have HS4 := Lib.hid hS4; have HG4 := Lib.hid hg4; clear hS4 hg4)
    | fail)
   have hg24 : w2.grownBy w4 (some w1.heap.size) := grown_trans HGr.out (grown_trans (grown_bw HB3.out _) HG4.out)
   have HG24 := Lib.hid hg24
   have HR4 := Lib.hid (HR3.out.far HG4.out (fun ad e e2 => by have := HN3.out ad e; have := Option.some.inj e2; omega))
   have HN4 := Lib.hid (show ∀ ad, A3 = some ad → ad.block ≠ w1.heap.size from fun ad e => by have := HN3.out ad e; omega)
   have hz4 := hg24.size
   clear hg24 HR3 HG4 HSG HRG HGS HNE x0 x1 x2
   have x0 := HS4.out.cell 0 (v := .int .i64 (Rn : Int)) rfl
   have x1 := HS4.out.cell 1 (v := .int .i64 (Cn : Int)) rfl
   have x2 := HS4.out.cell 2 (v := .slice A3 n3 c3) rfl
   go_upto_region 12 with (fail)
   clear x0 x1 x2
   generalize hw5 : w4.alloc _ = w5
   obtain ⟨hb5, hbw5, hz5⟩ := sb1 hw5
   have HV5 := Lib.hid (show Sb w5 w4.heap.size (vwV (Rn : Int) (Cn : Int) A3 n3 c3 0 0 true) 34 from hb5)
   have hg25 : w2.grownBy w5 (some w1.heap.size) := grown_trans HG24.out (grown_bw hbw5 _)
   have HP5 := Lib.hid ((HB0.out.up HB02.out).far hg25 (by intro e; have := Option.some.inj e; omega))
   have HO5 : Hid (∃ old, Sb w5 (w.heap.size + 1) old 34 ∧ old.size = 6) := Lib.hid (Exists.elim HB1.out (fun old h => ⟨old, (h.1.up HB02.out).far hg25 (by intro e; have := Option.some.inj e; omega), h.2⟩))
   have HS5 := Lib.hid (HS4.out.up hbw5)
   have HR5 := Lib.hid (HR4.out.up hbw5)
   have hB5 : Bw w w5 := Bw.grown HBW2.out hg25 (fun k hk => by cases hk; have := hbw0.size; omega)
   have HB5 := Lib.hid hB5
   have h3l : ∀ ad, A3 = some ad → ad.block < w4.heap.size := fun ad e => by
    subst e
    obtain ⟨g, o, e, hx⟩ := HR4.out.2 (by have h1 := HR4.out.1; have h2 := HGF.out.1; have := Nat.mul_pos (show 0 < Rn by omega) (show 0 < Cn by omega); omega)
    cases e
    exact lt_of_cell (hx 0 (by have h2 := HGF.out.1; rw [h2]; exact Nat.mul_pos (show 0 < Rn by omega) (show 0 < Cn by omega))).1
   have H3L := Lib.hid h3l
   obtain ⟨cb, hcb⟩ : ∃ cb, cb = tab Rn Cn (fillF Rn Cn cs' (r : Int) 0 (Cn : Int) (45, 0, 0, 0)) := ⟨_, rfl⟩
   rw [← hcb] at HR5 HGF
   have HFIN := Lib.hid (show cb = baseC Rn Cn sts shown from HGF.out.ext (show Gs Rn Cn (baseC Rn Cn sts shown) (baseF r sts ff sh) from Gs.of (by omega) (by omega) (baseC_len _ _ _ _) (fun r' q hr' hq => by
    have d1 : (r' * Cn + q) / Cn = r' := by rw [Nat.mul_comm, Nat.mul_add_div (by omega), Nat.div_eq_of_lt hq, Nat.add_zero]
    have d2 : (r' * Cn + q) % Cn = q := by rw [Nat.mul_comm, Nat.mul_add_mod, Nat.mod_eq_of_lt hq]
    have h9 := baseC_at Rn Cn sts shown (by omega) (by omega) (r' * Cn + q) (idx_lt hr' hq)
    rw [d1, d2, ← HKK.out, ← HSHN.out, ← HFF.out] at h9
    exact h9) (fun r' q _ _ => (baseF_ok _ _ _ _ _ _).1)) (by omega))
   clear hcb hw5 hb5 hbw5 hg25 hB5 HR4 HS4 HG24 h3l
   have y0 := HP5.out.cell 0 (v := .int .i64 pR) rfl
   have y1 := HP5.out.cell 1 (v := .int .i64 pC) rfl
   have y2 := HP5.out.cell 2 (v := .slice pA pn pc) rfl
   have y3 := HP5.out.cell 3 (v := .int .i64 prow) rfl
   have y4 := HP5.out.cell 4 (v := .int .i64 pcol) rfl
   have y5 := HP5.out.cell 5 (v := .bool phid) rfl
   cases hv : viewB pR pC ps prow pcol
   ·have HVV := Lib.hid hv
    clear hv
    go_wp2_with (first
     | (go_at_call 20; refine (rview_any pR pC pA pn pc ps prow pcol phid _ (HR.out.up HB5.out) hpn hpc).mono ?_; rintro ee w6 ⟨rfl, hb6⟩; rw [HVV.out]; clear y0 y1 y2 y3 y4 y5; have HV6 := Lib.hid (HV5.out.up hb6); have hz6 := hb6.size; have z0 := HV6.out.cell 0 (v := .int .i64 (Rn : Int)) rfl; have z1 := HV6.out.cell 1 (v := .int .i64 (Cn : Int)) rfl; have z2 := HV6.out.cell 2 (v := .slice A3 n3 c3) rfl; have z3 := HV6.out.cell 3 (v := .int .i64 0) rfl; have z4 := HV6.out.cell 4 (v := .int .i64 0) rfl; have z5 := HV6.out.cell 5 (v := .bool true) rfl)
     | ((with_reducible refine wpList_store_vw (Rn : Int) (Cn : Int) A3 n3 c3 0 0 true (w.heap.size + 1) (.tmp 10) (.tmp 77) rfl rfl ?_ ?_ ?_ ?_); (focus rfl); (focus rfl); (focus (exact Exists.elim HO5.out (fun old h => ⟨old, h.1.up hb6, h.2⟩))); intro w7 hS7 hg7; have HS7 := Lib.hid hS7; have HG7 := Lib.hid hg7; clear hS7 hg7)
     | fail)
    refine bodyPost_ret (results_vw rfl _ _ (w.heap.size + 1) (Rn : Int) (Cn : Int) A3 n3 c3 0 0 true (by rfl) HS7.out) rfl ?_
    unfold RcP
    refine ⟨Rn, Cn, A3, n3, c3, cb, by have := HRN.out; omega, by have := HCN.out; omega, Bw.grown (Bw.trans HB5.out hb6) HG7.out (fun k hk => by cases hk; omega), (HR5.out.up hb6).far HG7.out (fun ad e e2 => by have := HN3.out ad e; have := Option.some.inj e2; have := hbw0.size; omega), hn3, hc3, ?_, ?_⟩
    ·rw [HVV.out]
     unfold composeC
     rw [if_neg (by simp)]
     exact HFIN.out
    ·rw [HVV.out]
     simp [curB]
   ·have HVV := Lib.hid hv
    have hvv := hv
    unfold viewB at hvv
    simp only [Bool.and_eq_true, decide_eq_true_eq] at hvv
    obtain ⟨hgb, v1, v2, v3, v4⟩ := hvv
    have hpall : ps.all cellB = true := by
     have h9 := hgb
     unfold gridB at h9
     rw [Bool.and_eq_true] at h9
     exact h9.2
    obtain ⟨pRn, pCn, rfl, rfl, q1, q2, q3, q4, hpl, -⟩ := gridB_out hgb
    clear hv hgb
    have hpn1 : pn ≤ 3000 := by have := Nat.mul_le_mul q2 q4; have := HR.out.1; omega
    have HPL := Lib.hid hpl
    have HPA := Lib.hid hpall
    clear hpl hpall hfd hshb hshm hnl2
    go_upto_region 14 with (first
     | (go_at_call 20; refine (rview_any (pRn : Int) (pCn : Int) pA pn pc ps prow pcol phid _ (HR.out.up HB5.out) hpn hpc).mono ?_; rintro ee w6 ⟨rfl, hb6⟩; rw [HVV.out]; clear y0 y1 y2 y3 y4 y5)
     | fail)
    have hz6 := hb6.size
    have HV6 := Lib.hid (HV5.out.up hb6)
    have HP6 := Lib.hid (HP5.out.up hb6)
    have HO6 : Hid (∃ old, Sb w6 (w.heap.size + 1) old 34 ∧ old.size = 6) := Lib.hid (Exists.elim HO5.out (fun old h => ⟨old, h.1.up hb6, h.2⟩))
    have HS6 := Lib.hid (HS5.out.up hb6)
    have HR6 := Lib.hid (HR5.out.up hb6)
    have HB6 := Lib.hid (Bw.trans HB5.out hb6)
    clear hb6 HV5 HP5 HO5 HS5 HR5 HB5
    obtain ⟨m, hm⟩ : ∃ m, m = min (Rn - r - 1) pRn := ⟨_, rfl⟩
    have hm1 : m + r + 1 ≤ Rn := by omega
    have hm2 : m ≤ pRn := by omega
    have HM := Lib.hid hm
    obtain ⟨PF, hPF⟩ : ∃ PF : Nat → Nat → Nat → C4, PF = fun q r' c' => if r + 1 ≤ r' ∧ r' < r + 1 + q ∧ c' < min pCn Cn then ps.getD ((r' - (r + 1)) * pCn + c') blk else baseF r sts ff sh r' c' := ⟨_, rfl⟩
    have HPF := Lib.hid hPF
    go_wp2_with fail
    go_loopw [16] (fun i wr => ∃ (q : Nat) (A' : Option Addr) (n' c' : Nat) (cs' : List C4), i = .int .i64 (q : Int) ∧ q ≤ m ∧ Sb wr w1.heap.size (grV (Rn : Int) (Cn : Int) A' n' c') 32 ∧ Rg wr A' n' cs' ∧ n' ≤ c' ∧ c' ≤ 9223372036854775807 ∧ (∀ ad, A' = some ad → ad.block ≠ w1.heap.size ∧ ad.block ≠ w4.heap.size ∧ ad.block ≠ w.heap.size + 1) ∧ Gs Rn Cn cs' (PF q) ∧ w6.grownBy wr (some w1.heap.size)) (fun i _ => m - (intOf i).toNat)
    case atStart => exact ⟨0, A3, n3, c3, cb, rfl, by omega, HS6.out, HR6.out, hn3, hc3, (fun ad e => ⟨HN4.out ad e, by have := H3L.out ad e; omega, by have := HN3.out ad e; have := hbw0.size; omega⟩), HGF.out.congr (fun r' q _ _ => by rw [HPF.out]; dsimp only; rw [if_neg (by omega)]), grown_refl _ _⟩
    case round =>
     obtain ⟨q, A', n', c', cs', rfl, hq, hSg, hrg, hn', hc', hne, hgs, hgr⟩ := hrel
     obtain ⟨wc, hwc⟩ : ∃ wc, wc = wr := ⟨_, rfl⟩
     subst hwc
     have HSG := Lib.hid hSg
     have HRG := Lib.hid hrg
     have HNE := Lib.hid hne
     have HGS := Lib.hid hgs
     have HGr := Lib.hid hgr
     have hbr : Bw w wc := Bw.grown HB6.out hgr (fun k hk => by cases hk; have := hbw0.size; omega)
     have HBr := Lib.hid hbr
     have hzr := hgr.size
     have HPq := Lib.hid (HP6.out.far hgr (by intro e; have := Option.some.inj e; omega))
     have hgw1 : w1.heap.size < wc.heap.size := hSg.lt
     clear hSg hrg hne hgs hgr hbr
     have x0 := HSG.out.cell 0 (v := .int .i64 (Rn : Int)) rfl
     have y0 := HPq.out.cell 0 (v := .int .i64 (pRn : Int)) rfl
     have y1 := HPq.out.cell 1 (v := .int .i64 (pCn : Int)) rfl
     have y2 := HPq.out.cell 2 (v := .slice pA pn pc) rfl
     rcases (show ((q : Int) < (pRn : Int) ∧ (r : Int) + 1 + (q : Int) < (Rn : Int) ∧ q < m) ∨ (q = m ∧ ((¬ (q : Int) < (pRn : Int)) ∨ ((q : Int) < (pRn : Int) ∧ ¬ (r : Int) + 1 + (q : Int) < (Rn : Int)))) by omega) with ⟨h5, h6, h7⟩ | ⟨h5, h6⟩
     ·obtain ⟨rw5, hrw⟩ : ∃ y, y = rowF (pRn : Int) (pCn : Int) ps (q : Int) := ⟨_, rfl⟩
      have hrl := rowF_len pRn pCn ps q HPL.out (by omega) q3
      rw [← hrw] at hrl
      have hrat : ∀ j (h : j < rw5.length), rw5[j] = ps.getD (q * pCn + j) blk := fun j h => by
       subst hrw
       have e1 : rowF (pRn : Int) (pCn : Int) ps (q : Int) = (ps.drop (q * pCn)).take pCn := by
        unfold rowF
        have e : ((q : Int) * (pCn : Int)).toNat = q * pCn := by rw [← Int.natCast_mul]; exact Int.toNat_natCast _
        have e2 : (ps.length : Int) / (pCn : Int) = (pRn : Int) := by rw [HPL.out, Int.natCast_mul]; exact Int.mul_ediv_cancel _ (by omega)
        rw [if_pos (by omega), e, Int.toNat_natCast]
       have hl : q * pCn + j < ps.length := by
        have hj : j < pCn := by rw [← hrl.1]; exact h
        have := Nat.mul_le_mul_right pCn (show q + 1 ≤ pRn by omega)
        rw [Nat.add_mul, Nat.one_mul] at this
        rw [HPL.out]
        omega
       rw [List.getD_eq_getElem?_getD, List.getElem?_eq_getElem hl]
       simp only [e1, List.getElem_take, List.getElem_drop, Option.getD_some]
      have hrok : ∀ j (h : j < rw5.length), cellB rw5[j] = true := fun j h => by
       have h9 := HPA.out
       rw [List.all_eq_true] at h9
       exact h9 _ (hrl.2 _ (List.getElem_mem h))
      have HRW := Lib.hid hrw
      have HRL := Lib.hid hrl
      have HRA := Lib.hid hrat
      have HRO := Lib.hid hrok
      clear hrw hrl hrat hrok
      go_wp2_with (first
       | (go_at_call 39; refine (rrow_any (pRn : Int) (pCn : Int) pA pn pc ps (q : Int) _ (HR.out.up HBr.out) hpn (by omega) hpc).mono ?_; rintro ee w7 ⟨A5, n5, c5, rfl, hr5, hn5, hc5, hnew5, hb7⟩; rw [← HRW.out] at hr5; have h5l : n5 = pCn := hr5.1.symm.trans HRL.out.1; subst h5l; have HR5 := Lib.hid hr5; have HB7 := Lib.hid hb7; have HN5 := Lib.hid hnew5; have hz7 := hb7.size; clear hr5 hb7 hnew5 x0 y0 y1 y2)
       | fail)
      have hmn : min n5 Cn ≤ n5 ∧ min n5 Cn ≤ Cn := by omega
      go_wp2_with fail
      go_loopw [18] (fun i wr => ∃ (j : Nat) (A2 : Option Addr) (n2 c2 : Nat) (cs2 : List C4), i = .int .i64 (j : Int) ∧ j ≤ min n5 Cn ∧ Sb wr w1.heap.size (grV (Rn : Int) (Cn : Int) A2 n2 c2) 32 ∧ Rg wr A2 n2 cs2 ∧ n2 ≤ c2 ∧ c2 ≤ 9223372036854775807 ∧ (∀ ad, A2 = some ad → ad.block ≠ w1.heap.size ∧ ad.block ≠ w4.heap.size ∧ ad.block ≠ w.heap.size + 1) ∧ Gs Rn Cn cs2 (fun r' c' => if r' = r + 1 + q ∧ c' < j then ps.getD (q * n5 + c') blk else PF q r' c') ∧ w7.grownBy wr (some w1.heap.size)) (fun i _ => min n5 Cn - (intOf i).toNat)
      case atStart => exact ⟨0, A', n', c', cs', rfl, by omega, HSG.out.up HB7.out, HRG.out.up HB7.out, hn', hc', HNE.out, HGS.out.congr (fun r' q' _ _ => by rw [if_neg (by omega)]), grown_refl _ _⟩
      case round =>
       obtain ⟨j, A2, n2, c2, cs2, rfl, hj, hS2, hr2, hn2, hc2, hne2, hgs2, hgr2⟩ := hrel
       have HS2 := Lib.hid hS2
       have HR2 := Lib.hid hr2
       have HNE2 := Lib.hid hne2
       have HGS2 := Lib.hid hgs2
       have HGr2 := Lib.hid hgr2
       have hzr2 := hgr2.size
       have HR5i := Lib.hid (HR5.out.far hgr2 (fun ad e e2 => by have := HN5.out ad e; have := Option.some.inj e2; omega))
       have HPi := Lib.hid ((HPq.out.up HB7.out).far hgr2 (by intro e; have := Option.some.inj e; omega))
       clear hS2 hr2 hne2 hgs2 hgr2
       have x0 := HS2.out.cell 0 (v := .int .i64 (Rn : Int)) rfl
       have x1 := HS2.out.cell 1 (v := .int .i64 (Cn : Int)) rfl
       have x2 := HS2.out.cell 2 (v := .slice A2 n2 c2) rfl
       rcases (show ((j : Int) < (n5 : Int) ∧ (j : Int) < (Cn : Int) ∧ j < min n5 Cn) ∨ (j = min n5 Cn ∧ ((¬ (j : Int) < (n5 : Int)) ∨ ((j : Int) < (n5 : Int) ∧ ¬ (j : Int) < (Cn : Int)))) by omega) with ⟨g1, g2, g3⟩ | ⟨g1, g2⟩
       ·obtain ⟨g5, o5, rfl, hx5⟩ := HR5i.out.2 (by omega)
        have hj5 : j < rw5.length := by rw [HRL.out.1]; omega
        obtain ⟨y, hy⟩ : ∃ y, y = rw5[j] := ⟨_, rfl⟩
        obtain ⟨e1, e2, e3, e4⟩ := y
        have hc5 := hx5 j hj5
        rw [← hy] at hc5
        have hyv : (e1, e2, e3, e4) = ps.getD (q * n5 + j) blk := by rw [hy]; exact HRA.out j hj5
        have hyo : cellB (e1, e2, e3, e4) = true := by rw [hy]; exact HRO.out j hj5
        have HYV := Lib.hid hyv
        have HYO := Lib.hid hyo
        have hg5 : g5 ≠ w1.heap.size := by have := HN5.out ⟨g5, o5, none⟩ rfl; dsimp only at this; omega
        have HY : Hid (∀ w', wr.grownBy w' (some w1.heap.size) → w'.cell? ⟨g5, o5 + j * 4, none⟩ = some (.int .i64 e1) ∧ w'.cell? ⟨g5, o5 + j * 4 + 1, none⟩ = some (.int .i64 e2) ∧ w'.cell? ⟨g5, o5 + j * 4 + 2, none⟩ = some (.int .i64 e3) ∧ w'.cell? ⟨g5, o5 + j * 4 + 3, none⟩ = some (.int .i64 e4)) := Lib.hid (fun w' hg' => hc5.far hg' (fun e => hg5 (Option.some.inj e)))
        have hw1 : IntKind.i64.wrap (IntKind.i64.wrap ((r : Int) + 1) + (q : Int)) = (r : Int) + 1 + (q : Int) := by rw [IntWalk.i64_in ((r : Int) + 1) (by omega), IntWalk.i64_in _ (by omega)]
        have hw2 : IntKind.i64.wrap ((j : Int) + 1) = (j : Int) + 1 := IntWalk.i64_in _ (by omega)
        have hjn : j < n5 := by omega
        clear hx5 hy hc5 hyv hyo
        go_upto_region 21 with (fail)
        refine wp_region_held_drew (S := (fun w' => w'.cell? ⟨g5, o5 + j * 4, none⟩ = some (.int .i64 e1) ∧ w'.cell? ⟨g5, o5 + j * 4 + 1, none⟩ = some (.int .i64 e2) ∧ w'.cell? ⟨g5, o5 + j * 4 + 2, none⟩ = some (.int .i64 e3) ∧ w'.cell? ⟨g5, o5 + j * 4 + 3, none⟩ = some (.int .i64 e4))) (by kernel_rfl) ?_ (fun hHeld => ?_)
        ·(try dsimp only); (first | (exact HY.out _ (grown_trans (grown_bw BWX _) HG9.out)) | (exact HY.out _ (grown_bw BWX _)) | fail)
        refine tkH 1 ?_ rfl (Or.inl ⟨by rfl, ?hy1⟩) ?_
        case hy1 => (intro w hSw; (try dsimp only at hSw); go_simp; try with_reducible rfl)
        (try simp only [Act.put, zP1, zP2, zP3, zP4, zP5, zP6])
        refine tkH 2 ?_ rfl (Or.inl ⟨by rfl, ?hy2⟩) ?_
        case hy2 => (intro w hSw; (try dsimp only at hSw); go_simp; try with_reducible rfl)
        (try simp only [Act.put, zP1, zP2, zP3, zP4, zP5, zP6])
        refine tkH 3 ?_ rfl (Or.inl ⟨by rfl, ?hy3⟩) ?_
        case hy3 => (intro w hSw; (try dsimp only at hSw); go_simp; try with_reducible rfl)
        (try simp only [Act.put, zP1, zP2, zP3, zP4, zP5, zP6])
        refine tkH 4 ?_ rfl (Or.inl ⟨by rfl, ?hy4⟩) ?_
        case hy4 => (intro w hSw; (try dsimp only at hSw); go_simp; try with_reducible rfl)
        (try simp only [Act.put, zP1, zP2, zP3, zP4, zP5, zP6])
        refine tkH 5 ?_ rfl (Or.inl ⟨by rfl, ?hy5⟩) ?_
        case hy5 => (intro w hSw; (try dsimp only at hSw); go_simp; try with_reducible rfl)
        (try simp only [Act.put, zP1, zP2, zP3, zP4, zP5, zP6])
        refine tkH 6 ?_ rfl (Or.inl ⟨by rfl, ?hy6⟩) ?_
        case hy6 => (intro w hSw; (try dsimp only at hSw); go_simp; try with_reducible rfl)
        (try simp only [Act.put, zP1, zP2, zP3, zP4, zP5, zP6])
        refine tkH 7 ?_ rfl (Or.inl ⟨by rfl, ?hy7⟩) ?_
        case hy7 => (intro w hSw; (try dsimp only at hSw); go_simp; try with_reducible rfl)
        (try simp only [Act.put, zP1, zP2, zP3, zP4, zP5, zP6])
        refine tkH 8 ?_ rfl (Or.inl ⟨by rfl, ?hy8⟩) ?_
        case hy8 => (intro w hSw; (try dsimp only at hSw); go_simp; try with_reducible rfl)
        (try simp only [Act.put, zP1, zP2, zP3, zP4, zP5, zP6])
        refine tkH 9 ?_ rfl (Or.inl ⟨by rfl, ?hy9⟩) ?_
        case hy9 => (intro w hSw; (try dsimp only at hSw); go_simp; try with_reducible rfl)
        (try simp only [Act.put, zP1, zP2, zP3, zP4, zP5, zP6])
        refine tkH 10 ?_ rfl (Or.inl ⟨by rfl, ?hy10⟩) ?_
        case hy10 => (intro w hSw; (try dsimp only at hSw); go_simp; try with_reducible rfl)
        (try simp only [Act.put, zP1, zP2, zP3, zP4, zP5, zP6])
        refine tkH 11 ?_ rfl (Or.inl ⟨by rfl, ?hy11⟩) ?_
        case hy11 => (intro w hSw; (try dsimp only at hSw); go_simp; try with_reducible rfl)
        (try simp only [Act.put, zP1, zP2, zP3, zP4, zP5, zP6])
        refine wpAnyH_ready (rs := [0]) (by kernel_rfl) (by simp) ?_
        refine AllReadyH.cons rfl (fun K hK => ?_) ?_
        ·go_simp
         refine hK.out _ _ ?_ (fun hHeld => ?_)
         ·(try dsimp only); (first | (exact HY.out _ (grown_trans (grown_bw BWX _) HG9.out)) | (exact HY.out _ (grown_bw BWX _)) | fail)
         clear hK K
         (try simp only [Act.put, zP1, zP2, zP3, zP4, zP5, zP6])
         refine wpAnyH_ready (rs := [12]) (by kernel_rfl) (by simp) ?_
         refine AllReadyH.cons rfl (fun K hK => ?_) ?_
         ·go_simp
          (try simp only [hw1, hw2]); refine (rfill_go Rn Cn A2 n2 c2 cs2 ((r : Int) + 1 + (q : Int)) (j : Int) ((j : Int) + 1) e1 e2 e3 e4 _ (by omega) (by omega) (by omega) (by omega) (HR2.out.1.symm.trans HGS2.out.1) (HR2.out.up BWX) hn2 hc2 HGS2.out.2.1 HYO.out).mono ?_; rintro ee v2 ⟨A6, n6, c6, rfl, hr6, hn6, hc6, hnw6, hv2⟩; have HR6' := Lib.hid hr6; have HN6 := Lib.hid hnw6; clear hr6 hnw6; go_wp2_with fail
          refine hK.out _ _ ?_ (fun hHeld => ?_)
          ·(try dsimp only); (first | (exact HY.out _ (grown_trans (grown_bw BWX _) HG9.out)) | (exact HY.out _ (grown_bw BWX _)) | fail)
          clear hK K
          (try simp only [Act.put, zP1, zP2, zP3, zP4, zP5, zP6])
          refine wpAnyH_ready (rs := [13]) (by kernel_rfl) (by simp) ?_
          refine AllReadyH.cons rfl (fun K hK => ?_) ?_
          ·(refine (if_pos (by kernel_rfl)).mpr ?_); (refine wp_store_gr (Rn : Int) (Cn : Int) A6 n6 c6 w1.heap.size (.tmp 11) (.tmp 122) rfl rfl rfl ⟨_, HS2.out.up BWX, rfl⟩ ?_); intro v9 hS9 hg9; have HS9 := Lib.hid hS9; have HG9 := Lib.hid hg9; clear hS9 hg9
           refine hK.out _ _ ?_ (fun hHeld => ?_)
           ·(try dsimp only); (first | (exact HY.out _ (grown_trans (grown_bw BWX _) HG9.out)) | (exact HY.out _ (grown_bw BWX _)) | fail)
           clear hK K
           (try simp only [Act.put, zP1, zP2, zP3, zP4, zP5, zP6])
           refine wpAnyH_done (by kernel_rfl) ?_ _
           go_wp2_with fail
           go_roundw
           case rel =>
            refine ⟨j + 1, A6, n6, c6, _, by go_num, by omega, HS9.out, HR6'.out.far HG9.out (fun ad e e2 => by have := HN6.out ad e; have := Option.some.inj e2; simp at *; omega), hn6, hc6, (fun ad e => by have := HN6.out ad e; simp at this; exact ⟨by omega, by omega, by have := hbw0.size; omega⟩), (HGS2.out.fillT ((r : Int) + 1 + (q : Int)) (j : Int) ((j : Int) + 1) (e1, e2, e3, e4) HYO.out).congr (fun r' c' hr' hc' => ?_), grown_trans HGr2.out (grown_trans (grown_bw BWX _) HG9.out)⟩
            by_cases k1 : r' = r + 1 + q
            ·by_cases k2 : c' = j
             ·subst k2
              rw [if_pos (by omega), if_pos (by omega), HYV.out]
             ·by_cases k3 : c' < j
              ·rw [if_neg (by omega), if_pos (by omega), if_pos (by omega)]
              ·rw [if_neg (by omega), if_neg (by omega), if_neg (by omega)]
            ·rw [if_neg (by omega), if_neg (by omega), if_neg (by omega)]
           case measure => simp [intOf]; omega
          exact AllReadyH.nil
         exact AllReadyH.nil
        exact AllReadyH.nil
       ·rcases g2 with g2 | ⟨g2, g3⟩
        all_goals
         go_wp2_with fail
         go_roundw
         case rel =>
          refine ⟨q + 1, A2, n2, c2, cs2, by go_num, by omega, HS2.out, HR2.out, hn2, hc2, HNE2.out, HGS2.out.congr (fun r' c' hr' hc' => ?_), grown_trans HGr.out (grown_trans (grown_bw HB7.out _) HGr2.out)⟩
          rw [HPF.out]
          dsimp only
          by_cases k1 : r' = r + 1 + q
          ·subst k1
           by_cases k2 : c' < j
           ·rw [if_pos (by omega), if_pos (by omega), show r + 1 + q - (r + 1) = q by omega]
           ·rw [if_neg (by omega), if_neg (by omega), if_neg (by omega)]
          ·by_cases k3 : r + 1 ≤ r' ∧ r' < r + 1 + q ∧ c' < min n5 Cn
           ·rw [if_neg (by omega), if_pos k3, if_pos (by omega)]
           ·rw [if_neg (by omega), if_neg k3, if_neg (by omega)]
         case measure => simp [intOf]; omega
     ·have H5 := Lib.hid h5
      clear h5 hm
      have HVq := Lib.hid (HV6.out.far HGr.out (by intro e; have := Option.some.inj e; omega))
      have HOq : Hid (∃ old, Sb wc (w.heap.size + 1) old 34 ∧ old.size = 6) := Lib.hid (Exists.elim HO6.out (fun old h => ⟨old, h.1.far HGr.out (by intro e; have := Option.some.inj e; omega), h.2⟩))
      have x1 := HSG.out.cell 1 (v := .int .i64 (Cn : Int)) rfl
      have x2 := HSG.out.cell 2 (v := .slice A' n' c') rfl
      have z0 := HVq.out.cell 0 (v := .int .i64 (Rn : Int)) rfl
      have z1 := HVq.out.cell 1 (v := .int .i64 (Cn : Int)) rfl
      have z2 := HVq.out.cell 2 (v := .slice A3 n3 c3) rfl
      have f0 := HVq.out.free 0
      have f1 := HVq.out.free 1
      have f2 := HVq.out.free 2
      have hnb : w4.heap.size ≠ w1.heap.size := by omega
      clear y1 y2
      obtain ⟨cb2, hcb2⟩ : ∃ cb2, cb2 = curB Rn Cn r true prow pcol phid := ⟨_, rfl⟩
      have hbz : (cb2 = false ∧ phid = true) ∨ (cb2 = false ∧ phid = false ∧ (Rn : Int) ≤ (r : Int) + 1 + prow) ∨ (cb2 = false ∧ phid = false ∧ (r : Int) + 1 + prow < (Rn : Int) ∧ (Cn : Int) ≤ pcol) ∨ (cb2 = true ∧ phid = false ∧ (r : Int) + 1 + prow < (Rn : Int) ∧ pcol < (Cn : Int)) := by
       unfold curB at hcb2
       rw [Bool.true_and] at hcb2
       cases phid
       ·by_cases h7 : prow < (Rn : Int) - (r : Int) - 1
        ·by_cases h8 : pcol < (Cn : Int)
         ·exact .inr (.inr (.inr ⟨by rw [hcb2]; simp [h7, h8], rfl, by omega, h8⟩))
         ·exact .inr (.inr (.inl ⟨by rw [hcb2]; simp [h8], rfl, by omega, by omega⟩))
        ·exact .inr (.inl ⟨by rw [hcb2]; simp [h7], rfl, by omega⟩)
       ·exact .inl ⟨by rw [hcb2]; rfl, rfl⟩
      have HCB := Lib.hid hcb2
      have HFI := Lib.hid (show cs' = composeC Rn Cn sts shown true (pRn : Int) (pCn : Int) ps from HGS.out.ext (show Gs Rn Cn (composeC Rn Cn sts shown true (pRn : Int) (pCn : Int) ps) (PF q) by
       have e : composeC Rn Cn sts shown true (pRn : Int) (pCn : Int) ps = compV Rn Cn sts shown pRn pCn ps := by unfold composeC; rw [if_pos rfl, Int.toNat_natCast, Int.toNat_natCast]; rfl
       rw [e]
       refine ⟨compV_len Rn Cn sts shown pRn pCn ps (by omega) HPL.out, compV_grid Rn Cn sts shown pRn pCn ps (by omega) (by omega) (by omega) (by omega) HPL.out HPA.out, fun r' c' hr' hc' => ?_⟩
       rw [compV_at Rn Cn sts shown pRn pCn ps (by omega) (by omega) HPL.out r' c' hr' hc', ← HKK.out, ← HSHN.out, ← HFF.out, ← HM.out, HPF.out, H5.out]) (by omega))
      clear hcb2
      have hgb4 : w4.heap.size < wc.heap.size := HVq.out.lt
      have y3 := HPq.out.cell 3 (v := .int .i64 prow) rfl
      have y4 := HPq.out.cell 4 (v := .int .i64 pcol) rfl
      have y5 := HPq.out.cell 5 (v := .bool phid) rfl
      have hlw : w.heap.size ≠ w4.heap.size := by have := hbw0.size; omega
      rcases h6 with h6 | ⟨h6, h6'⟩
      all_goals
       go_upto_region 23 with (fail)
       generalize hw8 : ((wc.setCell _ _).setCell _ _).setCell _ _ = w8
       have HV8 := Lib.hid (show Sb w8 w4.heap.size (vwV (Rn : Int) (Cn : Int) A' n' c' 0 0 true) 34 by rw [← hw8]; exact ((HVq.out.set 0 _ rfl).set 1 _ rfl).set 2 _ rfl)
       have hg8 : wc.grownBy w8 (some w4.heap.size) := by rw [← hw8]; exact grown_set (grown_set (grown_set (grown_refl _ _) 0 _) 1 _) 2 _
       have HG8 := Lib.hid hg8
       clear hw8 x0 x1 x2 y0 y3 y4 y5 z0 z1 z2 f0 f1 f2
       have HP8 := Lib.hid (HPq.out.far hg8 (by intro e; have := Option.some.inj e; omega))
       have HS8 := Lib.hid (HSG.out.far hg8 (by intro e; have := Option.some.inj e; omega))
       have HO8 : Hid (∃ old, Sb w8 (w.heap.size + 1) old 34 ∧ old.size = 6) := Lib.hid (Exists.elim HOq.out (fun old h => ⟨old, h.1.far hg8 (by intro e; have := Option.some.inj e; have := hbw0.size; omega), h.2⟩))
       have HR8 := Lib.hid (HRG.out.far hg8 (fun ad e e2 => by have := (HNE.out ad e).2.1; have := Option.some.inj e2; omega))
       have HB8 := Lib.hid (Bw.grown HBr.out hg8 (fun k hk => by cases hk; have := hbw0.size; omega))
       clear hg8
       have x0 := HS8.out.cell 0 (v := .int .i64 (Rn : Int)) rfl
       have x1 := HS8.out.cell 1 (v := .int .i64 (Cn : Int)) rfl
       have y3 := HP8.out.cell 3 (v := .int .i64 prow) rfl
       have y4 := HP8.out.cell 4 (v := .int .i64 pcol) rfl
       have y5 := HP8.out.cell 5 (v := .bool phid) rfl
       (try clear h6')
       (try clear h6)
       go_cut [144] (fun s w' => s = .bool cb2 ∧ w8 = w')
       case first =>
        obtain ⟨tt, htt⟩ : ∃ tt, (r : Int) + 1 + prow = tt := ⟨_, rfl⟩
        have htb : 0 ≤ tt ∧ tt ≤ 100 := by omega
        rw [htt] at hbz
        rcases hbz with ⟨rfl, rfl⟩ | ⟨rfl, rfl, h7⟩ | ⟨rfl, rfl, h7, h8⟩ | ⟨rfl, rfl, h7, h8⟩
        all_goals
         go_wp2_with fail
         go_meet
         case rel => exact ⟨by first | rfl | (simp; done) | (simp; omega), rfl⟩
       case rest =>
       obtain ⟨rfl, rfl⟩ := hcut
       go_upto_if 144 with (fail)
       clear x0 x1 y5
       have z0 := HV8.out.cell 0 (v := .int .i64 (Rn : Int)) rfl
       have z1 := HV8.out.cell 1 (v := .int .i64 (Cn : Int)) rfl
       have z2 := HV8.out.cell 2 (v := .slice A' n' c') rfl
       have z3 := HV8.out.cell 3 (v := .int .i64 0) rfl
       have z4 := HV8.out.cell 4 (v := .int .i64 0) rfl
       have z5 := HV8.out.cell 5 (v := .bool true) rfl
       rcases (show cb2 = false ∨ (cb2 = true ∧ (r : Int) + 1 + prow < (Rn : Int) ∧ pcol < (Cn : Int)) by rcases hbz with ⟨h, _⟩ | ⟨h, _, _⟩ | ⟨h, _, _, _⟩ | ⟨h, _, h7, h8⟩ <;> first | exact .inl h | exact .inr ⟨h, h7, h8⟩) with rfl | ⟨rfl, h7, h8⟩
       ·clear hbz y3 y4
        go_wp2_with (first
         | ((with_reducible refine wpList_store_vw (Rn : Int) (Cn : Int) A' n' c' 0 0 true (w.heap.size + 1) (.tmp 10) (.tmp 155) rfl rfl ?_ ?_ ?_ ?_); (focus rfl); (focus rfl); (focus (exact HO8.out)); intro w9 hS9 hg9; have HS9 := Lib.hid hS9; have HG9 := Lib.hid hg9; clear hS9 hg9)
         | fail)
        refine bodyPost_ret (results_vw rfl _ _ (w.heap.size + 1) (Rn : Int) (Cn : Int) A' n' c' 0 0 true (by rfl) HS9.out) rfl ?_
        unfold RcP
        refine ⟨Rn, Cn, A', n', c', cs', by have := HRN.out; omega, by have := HCN.out; omega, Bw.grown HB8.out HG9.out (fun k hk => by cases hk; omega), HR8.out.far HG9.out (fun ad e e2 => by have := (HNE.out ad e).2.2; have := Option.some.inj e2; omega), hn', hc', ?_, ?_⟩
        ·rw [HVV.out]
         exact HFI.out
        ·rw [HVV.out, ← HKK.out, ← HCB.out]
         simp
       ·clear hbz
        have u3 := HV8.out.free 3
        have u4 := HV8.out.free 4
        have u5 := HV8.out.free 5
        have hwp : IntKind.i64.wrap (IntKind.i64.wrap ((r : Int) + 1) + prow) = (r : Int) + 1 + prow := by rw [IntWalk.i64_in ((r : Int) + 1) (by omega), IntWalk.i64_in _ (by omega)]
        go_upto_region 24 with (fail)
        refine wp_region_held_drew (S := (fun w' => w'.cell? ⟨w.heap.size, 3, none⟩ = some (.int .i64 prow) ∧ w'.cell? ⟨w.heap.size, 4, none⟩ = some (.int .i64 pcol))) (by kernel_rfl) ?_ (fun hHeld => ?_)
        ·(try dsimp only); (exact ⟨CELAX, CELAX⟩)
        refine tkH 0 ?_ rfl (Or.inl ⟨by rfl, ?hx0⟩) ?_
        case hx0 => (intro w hSw; (try dsimp only at hSw); go_simp; try with_reducible rfl)
        (try simp only [Act.put, zP1, zP2, zP3, zP4, zP5, zP6])
        refine tkH 1 ?_ rfl (Or.inl ⟨by rfl, ?hx1⟩) ?_
        case hx1 => (intro w hSw; (try dsimp only at hSw); go_simp; try with_reducible rfl)
        (try simp only [Act.put, zP1, zP2, zP3, zP4, zP5, zP6])
        refine tkH 2 ?_ rfl (Or.inl ⟨by rfl, ?hx2⟩) ?_
        case hx2 => (intro w hSw; (try dsimp only at hSw); go_simp; try with_reducible rfl)
        (try simp only [Act.put, zP1, zP2, zP3, zP4, zP5, zP6])
        refine tkH 3 ?_ rfl (Or.inl ⟨by rfl, ?hx3⟩) ?_
        case hx3 => (intro w hSw; (try dsimp only at hSw); go_simp; try with_reducible rfl)
        (try simp only [Act.put, zP1, zP2, zP3, zP4, zP5, zP6])
        refine tkH 4 ?_ rfl (Or.inl ⟨by rfl, ?hx4⟩) ?_
        case hx4 => (intro w hSw; (try dsimp only at hSw); go_simp; try with_reducible rfl)
        (try simp only [Act.put, zP1, zP2, zP3, zP4, zP5, zP6])
        refine tkH 5 ?_ rfl (Or.inl ⟨by rfl, ?hx5⟩) ?_
        case hx5 => (intro w hSw; (try dsimp only at hSw); go_simp; try with_reducible rfl)
        (try simp only [Act.put, zP1, zP2, zP3, zP4, zP5, zP6])
        refine tkH 6 ?_ rfl (Or.inl ⟨by rfl, ?hx6⟩) ?_
        case hx6 => (intro w hSw; (try dsimp only at hSw); go_simp; try with_reducible rfl)
        (try simp only [Act.put, zP1, zP2, zP3, zP4, zP5, zP6])
        refine tkH 7 ?_ rfl (Or.inl ⟨by rfl, ?hx7⟩) ?_
        case hx7 => (intro w hSw; (try dsimp only at hSw); go_simp; try with_reducible rfl)
        (try simp only [Act.put, zP1, zP2, zP3, zP4, zP5, zP6])
        refine wpAnyH_ready (rs := [8]) (by kernel_rfl) (by simp) ?_
        refine AllReadyH.cons rfl (fun K hK => ?_) ?_
        ·go_simp
         refine hK.out _ _ ?_ (fun hHeld => ?_)
         ·(try dsimp only); (exact ⟨CELAX, CELAX⟩)
         clear hK K
         (try simp only [Act.put, zP1, zP2, zP3, zP4, zP5, zP6])
         refine tkH 9 ?_ rfl (Or.inl ⟨by rfl, ?hx9⟩) ?_
         case hx9 => (intro w hSw; (try dsimp only at hSw); go_simp; try with_reducible rfl)
         (try simp only [Act.put, zP1, zP2, zP3, zP4, zP5, zP6])
         refine wpAnyH_ready (rs := [10]) (by kernel_rfl) (by simp) ?_
         refine AllReadyH.cons rfl (fun K hK => ?_) ?_
         ·go_simp
          refine hK.out _ _ ?_ (fun hHeld => ?_)
          ·(try dsimp only); (exact ⟨CELAX, CELAX⟩)
          clear hK K
          (try simp only [Act.put, zP1, zP2, zP3, zP4, zP5, zP6])
          refine tkH 11 ?_ rfl (Or.inl ⟨by rfl, ?hx11⟩) ?_
          case hx11 => (intro w hSw; (try dsimp only at hSw); go_simp; try with_reducible rfl)
          (try simp only [Act.put, zP1, zP2, zP3, zP4, zP5, zP6])
          refine wpAnyH_ready (rs := [12]) (by kernel_rfl) (by simp) ?_
          refine AllReadyH.cons rfl (fun K hK => ?_) ?_
          ·go_simp
           refine hK.out _ _ ?_ (fun hHeld => ?_)
           ·(try dsimp only); (exact ⟨CELAX, CELAX⟩)
           clear hK K
           (try simp only [Act.put, zP1, zP2, zP3, zP4, zP5, zP6])
           refine wpAnyH_done (by kernel_rfl) ?_ _
           try simp only [hwp]
           go_wp2_with (first
            | ((with_reducible refine wpList_store_vw (Rn : Int) (Cn : Int) A' n' c' ((r : Int) + 1 + prow) pcol false (w.heap.size + 1) (.tmp 10) (.tmp 155) rfl rfl ?_ ?_ ?_ ?_); (focus rfl); (focus rfl); (focus (exact Exists.elim HO8.out (fun old h => ⟨old, (((h.1.up BWX).away (by omega) _).away (by omega) _).away (by omega) _, h.2⟩))); intro w9 hS9 hg9; have HS9 := Lib.hid hS9; have HG9 := Lib.hid hg9; clear hS9 hg9)
            | fail)
           refine bodyPost_ret (results_vw rfl _ _ (w.heap.size + 1) (Rn : Int) (Cn : Int) A' n' c' ((r : Int) + 1 + prow) pcol false (by rfl) HS9.out) rfl ?_
           have e3 : w.heap.size ≤ w4.heap.size := by have := hbw0.size; omega
           have hb3 := Bw.set2 (p := ⟨w4.heap.size, 3, none⟩) e3 HB8.out (.int .i64 ((r : Int) + 1 + prow))
           have hb4 := Bw.set2 (p := ⟨w4.heap.size, 4, none⟩) e3 hb3 (.int .i64 pcol)
           have hb5 := Bw.set2 (p := ⟨w4.heap.size, 5, none⟩) e3 hb4 (.bool false)
           have hbs := Bw.drew hb5
           have e4 : ∀ ad, A' = some ad → ad.block ≠ w4.heap.size := fun ad e => (HNE.out ad e).2.1
           have hw3 := Rg.away HR8.out e4 3 (.int .i64 ((r : Int) + 1 + prow))
           have hw4 := Rg.away hw3 e4 4 (.int .i64 pcol)
           have hw5 := Rg.away hw4 e4 5 (.bool false)
           have hws := hw5.up (Bw.drew (Bw.refl _))
           have hwz := hws.far HG9.out (fun ad e e2 => by have := (HNE.out ad e).2.2; have := Option.some.inj e2; omega)
           unfold RcP
           refine ⟨Rn, Cn, A', n', c', cs', by have := HRN.out; omega, by have := HCN.out; omega, Bw.grown hbs HG9.out (fun k hk => by cases hk; omega), hwz, hn', hc', ?_, ?_⟩
           ·rw [HVV.out]
            exact HFI.out
           ·rw [HVV.out, ← HKK.out, ← HCB.out]
            simp
          exact AllReadyH.nil
         exact AllReadyH.nil
        exact AllReadyH.nil
end Go.Proofs.YtmkpefielfinjaaDoor
