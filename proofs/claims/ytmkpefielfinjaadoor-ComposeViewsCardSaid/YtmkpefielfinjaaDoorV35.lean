/- Parts of the proof, one after the other. -/
import Derived.Test.YtmkpefielfinjaaDoorV34
import Derived.Deep.RegionHeld3
set_option linter.unusedSimpArgs false
set_option linter.unusedVariables false
/- Compose: the walk of the program's Compose. -/
namespace Go.Proofs.YtmkpefielfinjaaDoor
open Go.RowKit

/-- A view's cells. -/
def vwV (R C : Int) (A : Option Addr) (n c : Nat) (row col : Int) (hid : Bool) : Array Value := #[.int .i64 R, .int .i64 C, .slice A n c, .int .i64 row, .int .i64 col, .bool hid]
theorem infoVw : (Tryd.prog.info? 34).map (·.size) = some 6 := by kernel_rfl
theorem vwV_one (R C : Int) (A : Option Addr) (n c : Nat) (row col : Int) (hid : Bool) : (vwV R C A n c row col hid).all (·.oneCell') = true := all_oneCell_toArray (fun v hv => by
 simp only [List.mem_cons, List.not_mem_nil, or_false] at hv
 rcases hv with rfl | rfl | rfl | rfl | rfl | rfl <;> rfl)
theorem wpList_store_vw {ops : Array Oper} {rest : List Oper} {o : Oper} {a : Act} {w : World} {Q : Exit → Act → World → Prop} (R C : Int) (A : Option Addr) (n c : Nat) (row col : Int) (hid : Bool) (g : Nat) (x y : Operand) (ho : o.op = .store 34 x y) (hgd : o.guard = none)
  (hx : a.eval x = .pointer (some ⟨g, 0, none⟩)) (hy : a.eval y = .agg (vwV R C A n c row col hid)) (hg : ∃ old, Sb w g old 34 ∧ old.size = 6)
  (h : ∀ w', Sb w' g (vwV R C A n c row col hid) 34 → w.grownBy w' (some g) → wpList Tryd.prog ops Q rest (a.put o.dst undef) w') : wpList Tryd.prog ops Q (o :: rest) a w :=
 wpList_store_cs 34 (vwV R C A n c row col hid) g x y infoVw (vwV_one R C A n c row col hid) ho hgd hx hy hg h
theorem results_vw {fn : Func} {p : Tmp} (h : fn.results = #[.cell p 34]) (tmps : Array Value) (w : World) (g : Nat) (R C : Int) (A : Option Addr) (n c : Nat) (row col : Int) (hid : Bool) (hp : tmps.getD p undef = .pointer (some ⟨g, 0, none⟩)) (hg : Sb w g (vwV R C A n c row col hid) 34) :
  (results fn tmps).run Tryd.prog w = .ok (.agg #[.int .i64 R, .int .i64 C, .slice A n c, .int .i64 row, .int .i64 col, .bool hid]) w := results_cell_row h tmps w g 34 (vwV R C A n c row col hid) (0, 0) _ hp hg Tryd.underlying34 rfl infoVw

theorem dec_eq2 (a b c : Nat) : decide (a + b = c) = decide ((a : Int) + (b : Int) = (c : Int)) := by by_cases h : a + b = c <;> simp [h] <;> omega

set_option maxRecDepth 100000 in
set_option maxHeartbeats 4000000 in
theorem compose_any (rows cols : Int) (Al : Option Addr) (nl cl : Nat) (sts : List St) (shown pR pC : Int) (pA : Option Addr) (pn pc : Nat) (ps : List C4) (prow pcol : Int) (phid : Bool) (w : World) (hS : RS w Al nl sts) (hnl : nl ≤ cl) (hcl : cl ≤ 9223372036854775807) (hok : ∀ s ∈ sts, stOk s) (hr : Rg w pA pn ps) (hpn : pn ≤ pc) (hpc : pc ≤ 9223372036854775807) (hsh : -9223372036854775808 ≤ shown ∧ shown ≤ 9223372036854775807) (hT : WordT w) (hP : PowT w.heap.size w) :
  Calls Tryd.prog 18 #[.int .i64 rows, .int .i64 cols, .slice Al nl cl, .int .i64 shown, .agg #[.int .i64 pR, .int .i64 pC, .slice pA pn pc, .int .i64 prow, .int .i64 pcol, .bool phid]] w fun e w' =>
   ∃ g Rn Cn, Rn = (clamp rows 30).toNat ∧ Cn = (clamp cols 100).toNat ∧ w.heap.size ≤ g ∧ Bw w w' ∧ Wb w' g (composeC Rn Cn sts shown (viewB pR pC ps prow pcol) pR pC ps) ∧
   e = .returned (.agg #[.int .i64 (Rn : Int), .int .i64 (Cn : Int), .slice (some ⟨g, 0, none⟩) (Rn * Cn) (Rn * Cn), .int .i64 (if curB Rn Cn (kkN sts.length Rn) (viewB pR pC ps prow pcol) prow pcol phid = true then (kkN sts.length Rn : Int) + 1 + prow else 0), .int .i64 (if curB Rn Cn (kkN sts.length Rn) (viewB pR pC ps prow pcol) prow pcol phid = true then pcol else 0), .bool (!curB Rn Cn (kkN sts.length Rn) (viewB pR pC ps prow pcol) prow pcol phid)]) := by
 have HS := Lib.hid hS
 have HOK := Lib.hid hok
 have HR := Lib.hid hr
 have HT := Lib.hid hT
 have HP := Lib.hid hP
 have HSH := Lib.hid hsh
 have hsl := hS.1
 have h1 := clamp_bd rows 30 (by omega)
 have h2 := clamp_bd cols 100 (by omega)
 obtain ⟨Rn, hRn⟩ : ∃ Rn : Nat, (Rn : Int) = clamp rows 30 := ⟨(clamp rows 30).toNat, by omega⟩
 obtain ⟨Cn, hCn⟩ : ∃ Cn : Nat, (Cn : Int) = clamp cols 100 := ⟨(clamp cols 100).toNat, by omega⟩
 rw [← hRn] at h1
 rw [← hCn] at h2
 have HRN := Lib.hid hRn
 have HCN := Lib.hid hCn
 obtain ⟨h1, h3⟩ := h1
 obtain ⟨h2, h4⟩ := h2
 clear hS hok hr hT hP hsh hRn hCn
 go_enter Tryd.func18, Tryd.ntmps18
 go_upto_region 1 with (fail)
 generalize hw0 : (w.alloc (.cells #[.int .i64 pR, .int .i64 pC, .slice pA pn pc, .int .i64 prow, .int .i64 pcol, .bool phid] 34)).alloc _ = w0
 obtain ⟨hb0, hb1, hbw0, hz0⟩ := sb2 hw0
 have HB0 := Lib.hid (show Sb w0 w.heap.size (vwV pR pC pA pn pc prow pcol phid) 34 from hb0)
 have HB1 := Lib.hid (show ∃ old, Sb w0 (w.heap.size + 1) old 34 ∧ old.size = 6 from ⟨_, hb1, rfl⟩)
 clear hw0 hb0 hb1
 obtain ⟨N, hN⟩ : ∃ N : Nat, N = Rn * Cn := ⟨_, rfl⟩
 have hNN : ((Rn : Int) * (Cn : Int)).toNat = N := by have : ((Rn * Cn : Nat) : Int) = (Rn : Int) * (Cn : Int) := Int.natCast_mul _ _; omega
 have hN1 : N ≤ 3000 := by
  have := Nat.mul_le_mul (show Rn ≤ 30 by omega) (show Cn ≤ 100 by omega)
  omega
 have HNN := Lib.hid hNN
 have HN := Lib.hid hN
 clear hNN hN
 go_upto_region 2 with (first
  | (go_at_call 32; refine (gnew_wb rows cols w0).mono ?_; rintro ee w1 ⟨g, rfl, hwb, hgz, hb1⟩; rw [← HRN.out, ← HCN.out, HNN.out] at hwb; rw [← HRN.out, ← HCN.out, HNN.out, List.length_replicate]; have HWB := Lib.hid hwb; have HB01 := Lib.hid hb1; have hz1 := hb1.size; have hgl := hwb.lt; clear hwb hb1)
  | fail)
 generalize hw2 : w1.alloc _ = w2
 obtain ⟨hb2, hbw2, hz2⟩ := sb1 hw2
 have HG2 := Lib.hid (show Sb w2 w1.heap.size #[.int .i64 (Rn : Int), .int .i64 (Cn : Int), .slice (some ⟨g, 0, none⟩) N N] 32 from hb2)
 clear hw2 hb2
 have HB02 := Lib.hid (Bw.trans HB01.out hbw2)
 have HW2 := Lib.hid (HWB.out.up hbw2)
 have hbww2 : Bw w w2 := Bw.trans hbw0 HB02.out
 have HBW2 := Lib.hid hbww2
 have x0 := HG2.out.cell 0 (v := .int .i64 (Rn : Int)) rfl
 have x1 := HG2.out.cell 1 (v := .int .i64 (Cn : Int)) rfl
 have x2 := HG2.out.cell 2 (v := .slice (some ⟨g, 0, none⟩) N N) rfl
 clear hbw2 hbww2 HWB HB01
 obtain ⟨sh, hsh⟩ : ∃ sh, sh = shN sts.length shown := ⟨_, rfl⟩
 obtain ⟨kk, hkk⟩ : ∃ kk, kk = kkN sts.length Rn := ⟨_, rfl⟩
 obtain ⟨ff, hff⟩ : ∃ ff, ff = firstN kk sh := ⟨_, rfl⟩
 obtain ⟨t, htt⟩ : ∃ t : Bool, t = decide (shown < 0 ∨ (nl : Int) ≤ shown) := ⟨_, rfl⟩
 have hnl2 : (nl : Int) ≤ 9223372036854775807 := by omega
 have hbx : (t = true ∧ sh = 0 ∧ shown < 0) ∨ (t = true ∧ sh = 0 ∧ 0 ≤ shown ∧ (nl : Int) ≤ shown) ∨ (t = false ∧ (sh : Int) = shown ∧ 0 ≤ shown ∧ shown < nl) := by
  unfold shN at hsh
  rw [hsl] at hsh
  by_cases h5 : shown < 0
  ·rw [if_pos (.inl h5)] at hsh
   exact .inl ⟨by rw [htt]; exact decide_eq_true (.inl h5), hsh, h5⟩
  by_cases h6 : (nl : Int) ≤ shown
  ·rw [if_pos (.inr h6)] at hsh
   exact .inr (.inl ⟨by rw [htt]; exact decide_eq_true (.inr h6), hsh, by omega, h6⟩)
  ·rw [if_neg (by omega)] at hsh
   exact .inr (.inr ⟨by rw [htt]; exact decide_eq_false (by omega), by omega, by omega, by omega⟩)
 have hkb : kk < Rn ∧ kk ≤ nl := by have := kk_lt sts.length (Rn := Rn) (by omega); rw [hsl] at this; rw [hkk, hsl]; exact this
 have hshb : 0 < nl → sh < nl := fun h => by have := sh_lt (n := sts.length) shown (by omega); rw [← hsh] at this; omega
 have hshm : (sh : Int) ≤ 9223372036854775806 := by rcases hbx with ⟨_, h, _⟩ | ⟨_, h, _⟩ | ⟨_, h, _, h'⟩ <;> omega
 have hkd : (kk : Int) = if (nl : Int) < (Rn : Int) / 2 then (nl : Int) else (Rn : Int) / 2 := by rw [hkk]; unfold kkN; rw [hsl]; split <;> omega
 have hfd : (kk ≤ sh ∧ (ff : Int) = (sh : Int) - kk + 1) ∨ (sh < kk ∧ ff = 0) := by
  unfold firstN at hff
  by_cases h : kk ≤ sh
  ·rw [if_pos h] at hff; exact .inl ⟨h, by omega⟩
  ·rw [if_neg h] at hff; exact .inr ⟨by omega, hff⟩
 have HSHN := Lib.hid hsh
 have HKK := Lib.hid hkk
 have HFF := Lib.hid hff
 have HKD := Lib.hid hkd
 obtain ⟨hkb1, hkb2⟩ := hkb
 clear hsh hkk hff htt hkd
 go_cut [30] (fun s w' => s = .bool t ∧ w2 = w')
 case first =>
  rcases hbx with ⟨rfl, rfl, h5⟩ | ⟨rfl, rfl, h5, h6⟩ | ⟨rfl, h7, h5, h6⟩
  all_goals
   go_wp2_with fail
   go_meet
   case rel => exact ⟨by first | rfl | (simp; done) | (simp; omega), rfl⟩
 case rest =>
 obtain ⟨rfl, rfl⟩ := hcut
 go_upto_if 30 with (fail)
 go_cut [3] (fun s w' => s = .int .i64 (sh : Int) ∧ w2 = w')
 case first =>
  rcases hbx with ⟨rfl, rfl, h5⟩ | ⟨rfl, rfl, h5, h6⟩ | ⟨rfl, h7, h5, h6⟩
  all_goals
   go_wp2_with fail
   go_meet
   case rel => exact ⟨by first | rfl | rw [h7], rfl⟩
 case rest =>
 obtain ⟨rfl, rfl⟩ := hcut
 clear hbx
 go_upto_region 4 with (fail)
 go_cut [12] (fun s w' => s = .int .i64 (kk : Int) ∧ w2 = w')
 case first =>
  go_wp2_with fail
  all_goals
   go_meet
   case rel => exact ⟨congrArg (Value.int .i64) (by have h9 := HKD.out; (repeat' split at h9) <;> omega), rfl⟩
 case rest =>
 obtain ⟨rfl, rfl⟩ := hcut
 go_upto_if 39 with (fail)
 go_cut [13] (fun s w' => s = .int .i64 (ff : Int) ∧ w2 = w')
 case first =>
  rcases hfd with ⟨h5, h6⟩ | ⟨h5, rfl⟩
  ·have H6 := Lib.hid h6
   clear h6
   go_wp2_with fail
   go_meet
   case rel => exact ⟨by rw [H6.out], rfl⟩
  ·go_wp2_with fail
   go_meet
   case rel => exact ⟨rfl, rfl⟩
 case rest =>
 obtain ⟨rfl, rfl⟩ := hcut
 go_wp2_with fail
 go_loopw [45] (fun i wr => ∃ j : Nat, i = .int .i64 (j : Int) ∧ j ≤ kk ∧ Wb wr g (jobsC Cn sts ff sh j (List.replicate N blk)) ∧ w2.grownBy wr (some g)) (fun i _ => kk - (intOf i).toNat)
 case atStart => exact ⟨0, rfl, by omega, HW2.out, grown_refl _ _⟩
 case round =>
  obtain ⟨j, rfl, hj, hWr, hgr⟩ := hrel
  have HWr := Lib.hid hWr
  have HGr := Lib.hid hgr
  have hbr : Bw w wr := Bw.grown HBW2.out hgr (fun k hk => by cases hk; have := hbw0.size; omega)
  have HBr := Lib.hid hbr
  have hzr := hgr.size
  clear hWr hgr hbr x0 x1 x2
  by_cases hlt : j < kk
  ·have hsx : ff + j < sts.length := by rcases hfd with ⟨h5, h6⟩ | ⟨h5, h6⟩ <;> omega
   obtain ⟨gs, os, rfl, hx⟩ := HS.out.2 (by omega)
   obtain ⟨⟨sb, sp, si, sr⟩, hst⟩ : ∃ s, s = sts[ff + j] := ⟨_, rfl⟩
   have hSe := hx (ff + j) hsx
   rw [← hst] at hSe
   have hgs := lt_of_cell hSe.1
   dsimp only at hgs
   have hSo := HOK.out _ (List.getElem_mem hsx)
   rw [← hst] at hSo
   obtain ⟨so1, ⟨so2, so3⟩, so4, so5⟩ := hSo
   have hgd : sts.getD (ff + j) st0 = (sb, sp, si, sr) := by rw [List.getD_eq_getElem?_getD, List.getElem?_eq_getElem hsx, hst]; rfl
   have HGD := Lib.hid hgd
   have hgt0 : w.heap.size ≤ g := by have := hbw0.size; omega
   obtain ⟨p, hp⟩ : ∃ p : Nat, j * Cn = p := ⟨_, rfl⟩
   have hpi : (j : Int) * (Cn : Int) = (p : Int) := by have : ((j * Cn : Nat) : Int) = (j : Int) * (Cn : Int) := Int.natCast_mul _ _; omega
   have hpN : p + Cn ≤ N := by
    have := Nat.mul_le_mul_right Cn (show j + 1 ≤ Rn by omega)
    rw [Nat.add_mul, Nat.one_mul] at this
    rw [HN.out]
    omega
   have HPJ := Lib.hid hp
   have HY : Hid (∀ w', wr.grownBy w' (some g) → (w'.cell? ⟨w1.heap.size, 0, none⟩ = some (.int .i64 (Rn : Int)) ∧ w'.cell? ⟨w1.heap.size, 1, none⟩ = some (.int .i64 (Cn : Int)) ∧ w'.cell? ⟨w1.heap.size, 2, none⟩ = some (.slice (some ⟨g, 0, none⟩) N N)) ∧ w'.cell? ⟨gs, os + (ff + j) * 4, none⟩ = some (.string sb) ∧ w'.cell? ⟨gs, os + (ff + j) * 4 + 1, none⟩ = some (.int .i64 sp) ∧ w'.cell? ⟨gs, os + (ff + j) * 4 + 2, none⟩ = some (.int .i64 si) ∧ w'.cell? ⟨gs, os + (ff + j) * 4 + 3, none⟩ = some (.int .i64 sr)) := Lib.hid (fun w' hg' => by
    have hg2 : w2.grownBy w' (some g) := grown_trans HGr.out hg'
    have hB := HG2.out.far hg2 (by intro e; cases e; omega)
    have hb : Bw w w' := Bw.grown HBW2.out hg2 (fun k hk => by cases hk; exact hgt0)
    have hs2 := hSe.up hb
    exact ⟨⟨hB.cell 0 rfl, hB.cell 1 rfl, hB.cell 2 rfl⟩, hs2⟩)
   clear hx hst hSe hgd hp
   have hfi : (0 : Int) ≤ (ff : Int) + (j : Int) := by omega
   have hfl : (ff : Int) + (j : Int) < (nl : Int) := by omega
   have hfn : ((ff : Int) + (j : Int)).toNat = ff + j := by omega
   go_upto_region 12 with (fail)
   refine wp_region_held_drew (S := (fun w' => (w'.cell? ⟨w1.heap.size, 0, none⟩ = some (.int .i64 (Rn : Int)) ∧ w'.cell? ⟨w1.heap.size, 1, none⟩ = some (.int .i64 (Cn : Int)) ∧ w'.cell? ⟨w1.heap.size, 2, none⟩ = some (.slice (some ⟨g, 0, none⟩) N N)) ∧ w'.cell? ⟨gs, os + (ff + j) * 4, none⟩ = some (.string sb) ∧ w'.cell? ⟨gs, os + (ff + j) * 4 + 1, none⟩ = some (.int .i64 sp) ∧ w'.cell? ⟨gs, os + (ff + j) * 4 + 2, none⟩ = some (.int .i64 si) ∧ w'.cell? ⟨gs, os + (ff + j) * 4 + 3, none⟩ = some (.int .i64 sr))) (by kernel_rfl) ?_ (fun hHeld => ?_)
   ·(try dsimp only); (first | (exact HY.out _ (grown_trans (grown_bw BWX _) hgl2)) | (exact HY.out _ (grown_bw BWX _)) | fail)
   refine tkH 0 ?_ rfl (Or.inl ⟨by rfl, ?ht0⟩) ?_
   case ht0 => (intro w hSw; (try dsimp only at hSw); go_simp; try with_reducible rfl)
   (try simp only [Act.put, zP1, zP2, zP3, zP4, zP5, zP6])
   refine tkH 1 ?_ rfl (Or.inl ⟨by rfl, ?ht1⟩) ?_
   case ht1 => (intro w hSw; (try dsimp only at hSw); go_simp; try with_reducible rfl)
   (try simp only [Act.put, zP1, zP2, zP3, zP4, zP5, zP6])
   refine tkH 3 ?_ rfl (Or.inl ⟨by rfl, ?ht3⟩) ?_
   case ht3 => (intro w hSw; (try dsimp only at hSw); go_simp; try with_reducible rfl)
   (try simp only [Act.put, zP1, zP2, zP3, zP4, zP5, zP6])
   refine tkH 4 ?_ rfl (Or.inl ⟨by rfl, ?ht4⟩) ?_
   case ht4 => (intro w hSw; (try dsimp only at hSw); go_simp; try with_reducible rfl)
   (try simp only [Act.put, zP1, zP2, zP3, zP4, zP5, zP6])
   refine tkH 5 ?_ rfl (Or.inl ⟨by rfl, ?ht5⟩) ?_
   case ht5 => (intro w hSw; (try dsimp only at hSw); go_simp; try with_reducible rfl)
   (try simp only [Act.put, zP1, zP2, zP3, zP4, zP5, zP6])
   refine tkH 6 ?_ rfl (Or.inl ⟨by rfl, ?ht6⟩) ?_
   case ht6 => (intro w hSw; (try dsimp only at hSw); go_simp; try with_reducible rfl)
   (try simp only [Act.put, zP1, zP2, zP3, zP4, zP5, zP6])
   refine tkH 7 ?_ rfl (Or.inl ⟨by rfl, ?ht7⟩) ?_
   case ht7 => (intro w hSw; (try dsimp only at hSw); go_simp; try with_reducible rfl)
   (try simp only [Act.put, zP1, zP2, zP3, zP4, zP5, zP6])
   refine tkH 8 ?_ rfl (Or.inl ⟨by rfl, ?ht8⟩) ?_
   case ht8 => (intro w hSw; (try dsimp only at hSw); go_simp; try with_reducible rfl)
   (try simp only [Act.put, zP1, zP2, zP3, zP4, zP5, zP6])
   refine tkH 9 ?_ rfl (Or.inl ⟨by rfl, ?ht9⟩) ?_
   case ht9 => (intro w hSw; (try dsimp only at hSw); go_simp; try with_reducible rfl)
   (try simp only [Act.put, zP1, zP2, zP3, zP4, zP5, zP6])
   refine wpAnyH_ready (rs := [2]) (by kernel_rfl) (by simp) ?_
   refine AllReadyH.cons rfl (fun K hK => ?_) ?_
   ·go_simp
    refine (row30_any (Rn : Int) Cn N N g 0 j p _ hpi hpN (Nat.le_refl _) (by omega) (by omega) (by omega) (by omega)).mono ?_; rintro ee v1 ⟨rfl, hv1⟩; have hvz := hv1.size; go_wp2_with fail
    refine hK.out _ _ ?_ (fun hHeld => ?_)
    ·(try dsimp only); (first | (exact HY.out _ (grown_trans (grown_bw BWX _) hgl2)) | (exact HY.out _ (grown_bw BWX _)) | fail)
    clear hK K
    (try simp only [Act.put, zP1, zP2, zP3, zP4, zP5, zP6])
    refine wpAnyH_ready (rs := [10]) (by kernel_rfl) (by simp) ?_
    refine AllReadyH.cons rfl (fun K hK => ?_) ?_
    ·go_simp
     refine (list_any g (p * 4) p Cn (N - p) _ sb sp si sr _ _ rfl (HWr.out.up BWX) (by rw [jobsC_len, List.length_replicate]; exact hpN) (by omega) (by omega) (by omega) so1 so2 so3 so4 so5 (HT.out.up (Bw.trans HBr.out BWX)) (PowT.up30 HP.out (Bw.trans HBr.out BWX))).mono ?_; rintro ee v2 ⟨rfl, hWl, hgl2⟩; go_wp2_with fail
     refine hK.out _ _ ?_ (fun hHeld => ?_)
     ·(try dsimp only); (first | (exact HY.out _ (grown_trans (grown_bw BWX _) hgl2)) | (exact HY.out _ (grown_bw BWX _)) | fail)
     clear hK K
     (try simp only [Act.put, zP1, zP2, zP3, zP4, zP5, zP6])
     refine wpAnyH_done (by kernel_rfl) ?_ _
     go_wp2_with fail
     go_roundw
     case rel =>
      refine ⟨j + 1, by go_num, by omega, ?_, grown_trans HGr.out (grown_trans (grown_bw BWX _) hgl2)⟩
      rw [jobsC, HGD.out, HPJ.out, dec_eq2]
      exact hWl
     case measure => simp [intOf]; omega
    exact AllReadyH.nil
   exact AllReadyH.nil
  ·obtain rfl : j = kk := by omega
   have hgt0 : w.heap.size ≤ g := by have := hbw0.size; omega
   have hgw : g ≠ w1.heap.size := by omega
   have HBX := Lib.hid (HG2.out.far HGr.out (by intro e; cases e; omega))
   have x0 := HBX.out.cell 0 (v := .int .i64 (Rn : Int)) rfl
   have x1 := HBX.out.cell 1 (v := .int .i64 (Cn : Int)) rfl
   have x2 := HBX.out.cell 2 (v := .slice (some ⟨g, 0, none⟩) N N) rfl
   obtain ⟨p, hp⟩ : ∃ p : Nat, j * Cn = p := ⟨_, rfl⟩
   have hpi : (j : Int) * (Cn : Int) = (p : Int) := by have : ((j * Cn : Nat) : Int) = (j : Int) * (Cn : Int) := Int.natCast_mul _ _; omega
   have hpN : p + Cn ≤ N := by
    have := Nat.mul_le_mul_right Cn (show j + 1 ≤ Rn by omega)
    rw [Nat.add_mul, Nat.one_mul] at this
    rw [HN.out]
    omega
   have HPJ := Lib.hid hp
   obtain ⟨JC, hJC⟩ : ∃ JC, JC = jobsC Cn sts ff sh j (List.replicate N blk) := ⟨_, rfl⟩
   rw [← hJC] at HWr
   have hJl : JC.length = N := by rw [hJC, jobsC_len, List.length_replicate]
   have HJC := Lib.hid hJC
   clear hp hJC
   go_wp2_with (first
    | (go_at_call 34; refine (row30_any (Rn : Int) Cn N N g 0 j p _ hpi hpN (Nat.le_refl _) (by omega) (by omega) (by omega) (by omega)).mono ?_; rintro ee v1 ⟨rfl, hv1⟩; clear x0 x1 x2)
    | fail)
   go_loopw [68] (fun i wq => ∃ c : Nat, i = .int .i64 (c : Int) ∧ c ≤ Cn ∧ Wb wq g (putU (fun _ => 45) p c JC) ∧ w2.grownBy wq (some g)) (fun i _ => Cn - (intOf i).toNat)
   case atStart => exact ⟨0, rfl, by omega, HWr.out.up hv1, grown_trans HGr.out (grown_bw hv1 _)⟩
   case round =>
    obtain ⟨c, rfl, hc, hWq, hgq⟩ := hrel
    have HWq := Lib.hid hWq
    have HGq := Lib.hid hgq
    clear hWq hgq
    by_cases hcl : c < Cn
    ·have x1 := (HWq.out.cells (p + c) (by rw [putU_len]; omega)).1
     have f1 := HWq.out.free ((p + c) * 4)
     rw [show (p + c) * 4 = p * 4 + c * 4 by omega] at x1 f1
     go_wp2_with fail
     go_roundw
     case rel =>
      refine ⟨c + 1, by go_num, by omega, ?_, grown_set HGq.out _ _⟩
      have := Wb.putU1 HWq.out (by omega)
      rw [show (p + c) * 4 = p * 4 + c * 4 by omega] at this
      exact this
     case measure => simp [intOf]; omega
    ·obtain rfl : c = Cn := by omega
     obtain ⟨wt, hwt⟩ : ∃ wt, wt = wr := ⟨_, rfl⟩
     subst hwt
     obtain ⟨BC, hBC⟩ : ∃ BC, BC = putU (fun _ => 45) p c JC := ⟨_, rfl⟩
     rw [← hBC] at HWq
     have hBl : BC.length = N := by rw [hBC, putU_len, hJl]
     have HBC := Lib.hid (show BC = baseC Rn c sts shown by
      unfold baseC
      rw [hBC, HJC.out, ← HPJ.out, ← HKK.out, ← HSHN.out, ← HFF.out, ← HN.out])
     clear hBC
     have HQ := Lib.hid (HG2.out.far HGq.out (by intro e; cases e; omega))
     have x0 := HQ.out.cell 0 (v := .int .i64 (Rn : Int)) rfl
     have x1 := HQ.out.cell 1 (v := .int .i64 (c : Int)) rfl
     have x2 := HQ.out.cell 2 (v := .slice (some ⟨g, 0, none⟩) N N) rfl
     go_upto_region 21 with (fail)
     clear x0 x1 x2
     generalize hw3 : wt.alloc _ = w3
     obtain ⟨hb3, hbw3, hz3⟩ := sb1 hw3
     have HV3 := Lib.hid (show Sb w3 wt.heap.size (vwV (Rn : Int) (c : Int) (some ⟨g, 0, none⟩) N N 0 0 true) 34 from hb3)
     have hg23 : w2.grownBy w3 (some g) := grown_trans HGq.out (grown_bw hbw3 _)
     have HP3 := Lib.hid ((HB0.out.up HB02.out).far hg23 (by intro e; cases e; omega))
     have HR3 : Hid (∃ old, Sb w3 (w.heap.size + 1) old 34 ∧ old.size = 6) := Lib.hid (Exists.elim HB1.out (fun old h => ⟨old, (h.1.up HB02.out).far hg23 (by intro e; cases e; omega), h.2⟩))
     have HQ3 := Lib.hid (HQ.out.up hbw3)
     have HW3 := Lib.hid (HWq.out.up hbw3)
     have hB3 : Bw w w3 := Bw.grown HBW2.out hg23 (fun k hk => by cases hk; exact hgt0)
     have HBW3 := Lib.hid hB3
     have hzg := HWq.out.lt
     have hzw := HGq.out.size
     clear hw3 hb3 hbw3 hg23 hB3 HWr HQ HWq HGq HBX hv1
     have y0 := HP3.out.cell 0 (v := .int .i64 pR) rfl
     have y1 := HP3.out.cell 1 (v := .int .i64 pC) rfl
     have y2 := HP3.out.cell 2 (v := .slice pA pn pc) rfl
     have y3 := HP3.out.cell 3 (v := .int .i64 prow) rfl
     have y4 := HP3.out.cell 4 (v := .int .i64 pcol) rfl
     have y5 := HP3.out.cell 5 (v := .bool phid) rfl
     cases hv : viewB pR pC ps prow pcol
     ·have HVV := Lib.hid hv
      clear hv
      go_wp2_with (first
       | (go_at_call 35; refine (gview_any pR pC pA pn pc ps prow pcol phid _ (HR.out.up HBW3.out) hpn hpc).mono ?_; rintro ee w4 ⟨rfl, hb4⟩; rw [HVV.out]; clear y0 y1 y2 y3 y4 y5; have HV4 := Lib.hid (HV3.out.up hb4); have hz4 := hb4.size; have z0 := HV4.out.cell 0 (v := .int .i64 (Rn : Int)) rfl; have z1 := HV4.out.cell 1 (v := .int .i64 (c : Int)) rfl; have z2 := HV4.out.cell 2 (v := .slice (some ⟨g, 0, none⟩) N N) rfl; have z3 := HV4.out.cell 3 (v := .int .i64 0) rfl; have z4 := HV4.out.cell 4 (v := .int .i64 0) rfl; have z5 := HV4.out.cell 5 (v := .bool true) rfl)
       | ((with_reducible refine wpList_store_vw (Rn : Int) (c : Int) (some ⟨g, 0, none⟩) N N 0 0 true (w.heap.size + 1) (.tmp 10) (.tmp 81) rfl rfl ?_ ?_ ?_ ?_); (focus rfl); (focus rfl); (focus (exact Exists.elim HR3.out (fun old h => ⟨old, h.1.up hb4, h.2⟩))); intro w5 hS5 hg5; have HS5 := Lib.hid hS5; have HG5 := Lib.hid hg5; clear hS5 hg5)
       | fail)
      refine bodyPost_ret (results_vw rfl _ _ (w.heap.size + 1) (Rn : Int) (c : Int) (some ⟨g, 0, none⟩) N N 0 0 true (by rfl) HS5.out) rfl ?_
      refine ⟨g, Rn, c, by have := HRN.out; omega, by have := HCN.out; omega, hgt0, Bw.grown (Bw.trans HBW3.out hb4) HG5.out (fun k hk => by cases hk; omega), ?_, ?_⟩
      ·rw [HVV.out]
       unfold composeC
       rw [if_neg (by simp), ← HBC.out]
       exact (HW3.out.up hb4).far HG5.out (by intro e; cases e; omega)
      ·rw [HVV.out, ← HN.out]
       simp [curB]
     ·have HVV := Lib.hid hv
      have hvv := hv
      unfold viewB at hvv
      simp only [Bool.and_eq_true, decide_eq_true_eq] at hvv
      obtain ⟨hgb, v1, v2, v3, v4⟩ := hvv
      obtain ⟨pRn, pCn, rfl, rfl, q1, q2, q3, q4, hpl, -⟩ := gridB_out hgb
      clear hv hgb
      have hpnl := HR.out.1
      obtain ⟨gp, op, rfl, -⟩ := HR.out.2 (by rw [← hpnl, hpl]; exact Nat.mul_pos (by omega) (by omega))
      have hgpl : gp < w.heap.size := by
       obtain ⟨g', o', e, hx⟩ := HR.out.2 (by rw [← hpnl, hpl]; exact Nat.mul_pos (by omega) (by omega))
       cases e
       exact lt_of_cell (hx 0 (by rw [hpl]; exact Nat.mul_pos (by omega) (by omega))).1
      have hpn1 : pn ≤ 3000 := by
       have := Nat.mul_le_mul q2 q4
       omega
      obtain ⟨m, hm⟩ : ∃ m, m = min (Rn - j - 1) pRn := ⟨_, rfl⟩
      have hmd : (m : Int) = if (pRn : Int) < (Rn : Int) - (j : Int) - 1 then (pRn : Int) else (Rn : Int) - (j : Int) - 1 := by split <;> omega
      have hm1 : m + j + 1 ≤ Rn := by omega
      have hm2 : m ≤ pRn := by omega
      have HM := Lib.hid hm
      have HMD := Lib.hid hmd
      have HPL := Lib.hid hpl
      have HPN := Lib.hid hpnl
      clear hm hmd hpl hpnl
      go_upto_region 23 with (first
       | (go_at_call 35; refine (gview_any (pRn : Int) (pCn : Int) (some ⟨gp, op, none⟩) pn pc ps prow pcol phid _ (HR.out.up HBW3.out) hpn hpc).mono ?_; rintro ee w4 ⟨rfl, hb4⟩; rw [HVV.out]; clear y0 y1 y2 y3 y4 y5)
       | fail)
      have hz4 := hb4.size
      have HV4 := Lib.hid (HV3.out.up hb4)
      have HP4 := Lib.hid (HP3.out.up hb4)
      have HQ4 := Lib.hid (HQ3.out.up hb4)
      have HW4 := Lib.hid (HW3.out.up hb4)
      have HR4 : Hid (∃ old, Sb w4 (w.heap.size + 1) old 34 ∧ old.size = 6) := Lib.hid (Exists.elim HR3.out (fun old h => ⟨old, h.1.up hb4, h.2⟩))
      have HBW4 := Lib.hid (Bw.trans HBW3.out hb4)
      clear hb4 HV3 HP3 HQ3 HW3 HR3 HBW3
      have x0 := HQ4.out.cell 0 (v := .int .i64 (Rn : Int)) rfl
      have y0 := HP4.out.cell 0 (v := .int .i64 (pRn : Int)) rfl
      go_cut [90, 91] (fun s i w' => s = .int .i64 (m : Int) ∧ i = .int .i64 0 ∧ w4 = w')
      case first =>
       go_wp2_with fail
       all_goals
        go_meet
        case rel => exact ⟨congrArg (Value.int .i64) (by have h9 := HMD.out; (repeat' split at h9) <;> omega), rfl, rfl⟩
      case rest =>
      obtain ⟨rfl, rfl, rfl⟩ := hcut
      clear x0 y0 hfd hshb hshm hnl2 hcl hlt
      go_wp2_with fail
      go_loopw [91] (fun i wq => ∃ k : Nat, i = .int .i64 (k : Int) ∧ k ≤ m ∧ Wb wq g (paneC c j pCn ps k BC) ∧ w4.grownBy wq (some g)) (fun i _ => m - (intOf i).toNat)
      case atStart => exact ⟨0, rfl, by omega, HW4.out, grown_refl _ _⟩
      case round =>
       obtain ⟨k, rfl, hk, hWq, hgq⟩ := hrel
       have HWq := Lib.hid hWq
       have HGq := Lib.hid hgq
       have hpcl : (paneC c j pCn ps k BC).length = N := by rw [paneC_len Rn c j pRn pCn ps BC (by rw [hBl, HN.out]) HPL.out k (by omega) (by omega), hBl]
       have HQq := Lib.hid (HQ4.out.far hgq (by intro e; cases e; omega))
       have HPq := Lib.hid (HP4.out.far hgq (by intro e; cases e; omega))
       have hBq : Bw w wr := Bw.grown HBW4.out hgq (fun k hk => by cases hk; exact hgt0)
       have HBq := Lib.hid hBq
       have hzq := hgq.size
       clear hWq hgq hBq
       by_cases hlt : k < m
       ·obtain ⟨d, hd⟩ : ∃ d : Nat, (j + 1 + k) * c = d := ⟨_, rfl⟩
        obtain ⟨s, hs⟩ : ∃ s : Nat, k * pCn = s := ⟨_, rfl⟩
        have hdi : ((j + 1 + k : Nat) : Int) * (c : Int) = (d : Int) := by rw [← hd]; exact (Int.natCast_mul _ _).symm
        have hsi : (k : Int) * (pCn : Int) = (s : Int) := by rw [← hs]; exact (Int.natCast_mul _ _).symm
        have hje : IntKind.i64.wrap (IntKind.i64.wrap ((j : Int) + 1) + (k : Int)) = ((j + 1 + k : Nat) : Int) := by rw [IntWalk.i64_in ((j : Int) + 1) (by omega), IntWalk.i64_in _ (by omega)]; omega
        have hdN : d + c ≤ N := by
         have := Nat.mul_le_mul_right c (show j + 1 + k + 1 ≤ Rn by omega)
         rw [Nat.add_mul, Nat.one_mul] at this
         rw [HN.out]
         omega
        have hsN : s + pCn ≤ pn := by
         have := Nat.mul_le_mul_right pCn (show k + 1 ≤ pRn by omega)
         rw [Nat.add_mul, Nat.one_mul] at this
         rw [← HPN.out, HPL.out]
         omega
        have F1 : (flat ((ps.drop s).take (min pCn c))).length = Nat.min pCn c * 4 := by
         have h1 := HPN.out
         rw [flat_len, List.length_take, List.length_drop]
         have e : min (min pCn c) (ps.length - s) = Nat.min pCn c := by show _ = min pCn c; omega
         rw [e]
        have F2 : ∀ w', Bw w w' → ∀ j v, (flat ((ps.drop s).take (min pCn c)))[j]? = some v → w'.cell? ((⟨gp, op + s * 4, none⟩ : Addr).add j) = some v := fun w' hb j v hv => ((HR.out.up hb).sub s (min pCn c) (by omega)).news j v hv
        have F3 : d * 4 + (flat ((ps.drop s).take (min pCn c))).length ≤ (flat (paneC c j pCn ps k BC)).toArray.size := by
         have h1 := HPN.out
         rw [flat_len, List.length_take, List.length_drop, List.size_toArray, flat_len, hpcl]
         omega
        have HF := Lib.hid (And.intro F1 (And.intro F2 F3))
        have HD := Lib.hid (And.intro hd (And.intro hs hpcl))
        have HJE := Lib.hid hje
        have HY : Hid (∀ w', wr.grownBy w' (some g) → (w'.cell? ⟨w1.heap.size, 0, none⟩ = some (.int .i64 (Rn : Int)) ∧ w'.cell? ⟨w1.heap.size, 1, none⟩ = some (.int .i64 (c : Int)) ∧ w'.cell? ⟨w1.heap.size, 2, none⟩ = some (.slice (some ⟨g, 0, none⟩) N N)) ∧ w'.cell? ⟨w.heap.size, 0, none⟩ = some (.int .i64 (pRn : Int)) ∧ w'.cell? ⟨w.heap.size, 1, none⟩ = some (.int .i64 (pCn : Int)) ∧ w'.cell? ⟨w.heap.size, 2, none⟩ = some (.slice (some ⟨gp, op, none⟩) pn pc)) := Lib.hid (fun w' hg' => by
         have hB := HQq.out.far hg' (by intro e; cases e; omega)
         have hC := HPq.out.far hg' (by intro e; cases e; omega)
         exact ⟨⟨hB.cell 0 rfl, hB.cell 1 rfl, hB.cell 2 rfl⟩, hC.cell 0 rfl, hC.cell 1 rfl, hC.cell 2 rfl⟩)
        clear F1 F2 F3 hd hs hje hpcl
        go_upto_region 26 with (fail)
        refine wp_region_held_drew (S := (fun w' => (w'.cell? ⟨w1.heap.size, 0, none⟩ = some (.int .i64 (Rn : Int)) ∧ w'.cell? ⟨w1.heap.size, 1, none⟩ = some (.int .i64 (c : Int)) ∧ w'.cell? ⟨w1.heap.size, 2, none⟩ = some (.slice (some ⟨g, 0, none⟩) N N)) ∧ w'.cell? ⟨w.heap.size, 0, none⟩ = some (.int .i64 (pRn : Int)) ∧ w'.cell? ⟨w.heap.size, 1, none⟩ = some (.int .i64 (pCn : Int)) ∧ w'.cell? ⟨w.heap.size, 2, none⟩ = some (.slice (some ⟨gp, op, none⟩) pn pc))) (by kernel_rfl) ?_ (fun hHeld => ?_)
        ·(try dsimp only); (first | (exact HY.out _ (grown_trans (grown_bw BWX _) HGc.out)) | (exact HY.out _ (grown_bw BWX _)) | fail)
        refine tkH 0 ?_ rfl (Or.inl ⟨by rfl, ?hy0⟩) ?_
        case hy0 => (intro w hSw; (try dsimp only at hSw); go_simp; try with_reducible rfl)
        (try simp only [Act.put, zP1, zP2, zP3, zP4, zP5, zP6])
        refine tkH 1 ?_ rfl (Or.inl ⟨by rfl, ?hy1⟩) ?_
        case hy1 => (intro w hSw; (try dsimp only at hSw); go_simp; try with_reducible rfl)
        (try simp only [Act.put, zP1, zP2, zP3, zP4, zP5, zP6])
        refine tkH 2 ?_ rfl (Or.inl ⟨by rfl, ?hy2⟩) ?_
        case hy2 => (intro w hSw; (try dsimp only at hSw); go_simp; try with_reducible rfl)
        (try simp only [Act.put, zP1, zP2, zP3, zP4, zP5, zP6])
        refine tkH 3 ?_ rfl (Or.inl ⟨by rfl, ?hy3⟩) ?_
        case hy3 => (intro w hSw; (try dsimp only at hSw); go_simp; try with_reducible rfl)
        (try simp only [Act.put, zP1, zP2, zP3, zP4, zP5, zP6])
        refine tkH 4 ?_ rfl (Or.inl ⟨by rfl, ?hy4⟩) ?_
        case hy4 => (intro w hSw; (try dsimp only at hSw); go_simp; try with_reducible rfl)
        (try simp only [Act.put, zP1, zP2, zP3, zP4, zP5, zP6])
        refine tkH 6 ?_ rfl (Or.inl ⟨by rfl, ?hy6⟩) ?_
        case hy6 => (intro w hSw; (try dsimp only at hSw); go_simp; try with_reducible rfl)
        (try simp only [Act.put, zP1, zP2, zP3, zP4, zP5, zP6])
        refine tkH 7 ?_ rfl (Or.inl ⟨by rfl, ?hy7⟩) ?_
        case hy7 => (intro w hSw; (try dsimp only at hSw); go_simp; try with_reducible rfl)
        (try simp only [Act.put, zP1, zP2, zP3, zP4, zP5, zP6])
        refine tkH 8 ?_ rfl (Or.inl ⟨by rfl, ?hy8⟩) ?_
        case hy8 => (intro w hSw; (try dsimp only at hSw); go_simp; try with_reducible rfl)
        (try simp only [Act.put, zP1, zP2, zP3, zP4, zP5, zP6])
        refine wpAnyH_ready (rs := [5]) (by kernel_rfl) (by simp) ?_
        refine AllReadyH.cons rfl (fun K hK => ?_) ?_
        ·go_simp
         rw [HJE.out]; refine (row30_any (Rn : Int) c N N g 0 (j + 1 + k) d _ hdi hdN (Nat.le_refl _) (by omega) (by omega) (by omega) (by omega)).mono ?_; rintro ee v5 ⟨rfl, hv5⟩; have hvz5 := hv5.size; go_wp2_with fail
         refine hK.out _ _ ?_ (fun hHeld => ?_)
         ·(try dsimp only); (first | (exact HY.out _ (grown_trans (grown_bw BWX _) HGc.out)) | (exact HY.out _ (grown_bw BWX _)) | fail)
         clear hK K
         (try simp only [Act.put, zP1, zP2, zP3, zP4, zP5, zP6])
         refine wpAnyH_ready (rs := [9]) (by kernel_rfl) (by simp) ?_
         refine AllReadyH.cons rfl (fun K hK => ?_) ?_
         ·go_simp
          refine (row30_any (pRn : Int) pCn pn pc gp op k s _ hsi hsN hpn (by omega) (by omega) (by omega) hpc).mono ?_; rintro ee v9 ⟨rfl, hv9⟩; have hvz9 := hv9.size; go_wp2_with fail
          refine hK.out _ _ ?_ (fun hHeld => ?_)
          ·(try dsimp only); (first | (exact HY.out _ (grown_trans (grown_bw BWX _) HGc.out)) | (exact HY.out _ (grown_bw BWX _)) | fail)
          clear hK K
          (try simp only [Act.put, zP1, zP2, zP3, zP4, zP5, zP6])
          refine wpAnyH_ready (rs := [10]) (by kernel_rfl) (by simp) ?_
          refine AllReadyH.cons rfl (fun K hK => ?_) ?_
          ·(refine (if_pos (by kernel_rfl)).mpr ?_); (refine wp_copyS (.tmp 99) (.tmp 103) 30 30 rfl 64 4 Tryd.underlying30 infoCs g (d * 4) c (N - d) ⟨gp, op + s * 4, none⟩ pCn (pc - s) (by rfl) (by rfl) (flat (paneC c j pCn ps k BC)).toArray 64 (HWq.out.up BWX) (flat ((ps.drop s).take (min pCn c))) HF.out.1 (HF.out.2.1 _ (Bw.trans HBq.out BWX)) HF.out.2.2 (flat_one _) ?_); intro vc hcell hgc; have HCc := Lib.hid hcell; have HGc := Lib.hid hgc; clear hcell hgc
           refine hK.out _ _ ?_ (fun hHeld => ?_)
           ·(try dsimp only); (first | (exact HY.out _ (grown_trans (grown_bw BWX _) HGc.out)) | (exact HY.out _ (grown_bw BWX _)) | fail)
           clear hK K
           (try simp only [Act.put, zP1, zP2, zP3, zP4, zP5, zP6])
           refine wpAnyH_done (by kernel_rfl) ?_ _
           go_wp2_with fail
           go_roundw
           case rel =>
            obtain ⟨e1, e2, e3⟩ := HD.out
            have hq := HPN.out
            refine ⟨k + 1, by go_num, by omega, ?_, grown_trans HGq.out (grown_trans (grown_bw BWX _) HGc.out)⟩
            rw [paneC, e1, e2]
            exact Wb.copied (by rw [e3]; omega) (by omega) HCc.out
           case measure => simp [intOf]; omega
          exact AllReadyH.nil
         exact AllReadyH.nil
        exact AllReadyH.nil
       ·obtain rfl : k = m := by omega
        have HVq := Lib.hid (HV4.out.far HGq.out (by intro e; cases e; omega))
        have HRq : Hid (∃ old, Sb wr (w.heap.size + 1) old 34 ∧ old.size = 6) := Lib.hid (Exists.elim HR4.out (fun old h => ⟨old, h.1.far HGq.out (by intro e; cases e; omega), h.2⟩))
        obtain ⟨cb, hcb⟩ : ∃ cb, cb = curB Rn c j true prow pcol phid := ⟨_, rfl⟩
        have hbz : (cb = false ∧ phid = true) ∨ (cb = false ∧ phid = false ∧ (Rn : Int) - (j : Int) - 1 ≤ prow) ∨ (cb = false ∧ phid = false ∧ prow < (Rn : Int) - (j : Int) - 1 ∧ (c : Int) ≤ pcol) ∨ (cb = true ∧ phid = false ∧ prow < (Rn : Int) - (j : Int) - 1 ∧ pcol < (c : Int)) := by
         unfold curB at hcb
         rw [Bool.true_and] at hcb
         cases phid
         ·by_cases h5 : prow < (Rn : Int) - (j : Int) - 1
          ·by_cases h6 : pcol < (c : Int)
           ·exact .inr (.inr (.inr ⟨by rw [hcb]; simp [h5, h6], rfl, h5, h6⟩))
           ·exact .inr (.inr (.inl ⟨by rw [hcb]; simp [h6], rfl, h5, by omega⟩))
          ·exact .inr (.inl ⟨by rw [hcb]; simp [h5], rfl, by omega⟩)
         ·exact .inl ⟨by rw [hcb]; rfl, rfl⟩
        have HCB := Lib.hid hcb
        clear hcb hpcl
        have x0 := HQq.out.cell 0 (v := .int .i64 (Rn : Int)) rfl
        have x1 := HQq.out.cell 1 (v := .int .i64 (c : Int)) rfl
        have y3 := HPq.out.cell 3 (v := .int .i64 prow) rfl
        have y4 := HPq.out.cell 4 (v := .int .i64 pcol) rfl
        have y5 := HPq.out.cell 5 (v := .bool phid) rfl
        go_upto_region 28 with (fail)
        go_cut [125] (fun s w' => s = .bool cb ∧ wr = w')
        case first =>
         rcases hbz with ⟨rfl, rfl⟩ | ⟨rfl, rfl, h5⟩ | ⟨rfl, rfl, h5, h6⟩ | ⟨rfl, rfl, h5, h6⟩
         all_goals
          go_wp2_with fail
          go_meet
          case rel => exact ⟨by first | rfl | (simp; done) | (simp; omega), rfl⟩
        case rest =>
        obtain ⟨rfl, rfl⟩ := hcut
        go_upto_if 125 with (fail)
        clear x0 x1 y5
        have z0 := HVq.out.cell 0 (v := .int .i64 (Rn : Int)) rfl
        have z1 := HVq.out.cell 1 (v := .int .i64 (c : Int)) rfl
        have z2 := HVq.out.cell 2 (v := .slice (some ⟨g, 0, none⟩) N N) rfl
        have z3 := HVq.out.cell 3 (v := .int .i64 0) rfl
        have z4 := HVq.out.cell 4 (v := .int .i64 0) rfl
        have z5 := HVq.out.cell 5 (v := .bool true) rfl
        rcases (show cb = false ∨ (cb = true ∧ prow < (Rn : Int) - (j : Int) - 1 ∧ pcol < (c : Int)) by rcases hbz with ⟨h, _⟩ | ⟨h, _, _⟩ | ⟨h, _, _, _⟩ | ⟨h, _, h5, h6⟩ <;> first | exact .inl h | exact .inr ⟨h, h5, h6⟩) with rfl | ⟨rfl, h5, h6⟩
        ·clear hbz y3 y4
         go_wp2_with (first
          | ((with_reducible refine wpList_store_vw (Rn : Int) (c : Int) (some ⟨g, 0, none⟩) N N 0 0 true (w.heap.size + 1) (.tmp 10) (.tmp 136) rfl rfl ?_ ?_ ?_ ?_); (focus rfl); (focus rfl); (focus (exact HRq.out)); intro w5 hS5 hg5; have HS5 := Lib.hid hS5; have HG5 := Lib.hid hg5; clear hS5 hg5)
          | fail)
         refine bodyPost_ret (results_vw rfl _ _ (w.heap.size + 1) (Rn : Int) (c : Int) (some ⟨g, 0, none⟩) N N 0 0 true (by rfl) HS5.out) rfl ?_
         refine ⟨g, Rn, c, by have := HRN.out; omega, by have := HCN.out; omega, hgt0, Bw.grown HBq.out HG5.out (fun k hk => by cases hk; omega), ?_, ?_⟩
         ·rw [HVV.out]
          unfold composeC
          rw [if_pos rfl, ← HBC.out, ← HKK.out, Int.toNat_natCast, Int.toNat_natCast, ← HM.out]
          exact HWq.out.far HG5.out (by intro e; cases e; omega)
         ·rw [HVV.out, ← HN.out, ← HKK.out, ← HCB.out]
          simp
        ·clear hbz
         have u3 := HVq.out.free 3
         have u4 := HVq.out.free 4
         have u5 := HVq.out.free 5
         have hnb : w.heap.size ≠ wt.heap.size := by have := hbw0.size; omega
         have hnb2 : wt.heap.size ≠ w.heap.size := fun e => hnb e.symm
         have hwp : IntKind.i64.wrap (IntKind.i64.wrap ((j : Int) + 1) + prow) = (j : Int) + 1 + prow := by rw [IntWalk.i64_in ((j : Int) + 1) (by omega), IntWalk.i64_in _ (by omega)]
         go_upto_region 29 with (fail)
         refine wp_region_held_drew (S := (fun w' => w'.cell? ⟨w.heap.size, 3, none⟩ = some (.int .i64 prow) ∧ w'.cell? ⟨w.heap.size, 4, none⟩ = some (.int .i64 pcol))) (by kernel_rfl) ?_ (fun hHeld => ?_)
         ·(try dsimp only); (exact ⟨CELAX, CELAX⟩)
         refine tkH 0 ?_ rfl (Or.inl ⟨by rfl, ?hx0⟩) ?_
         case hx0 => (intro w hSw; (try dsimp only at hSw); go_simp; try with_reducible rfl)
         (try simp only [Act.put, zP1, zP2, zP3, zP4, zP5, zP6])
         refine tkH 1 ?_ rfl (Or.inl ⟨by rfl, ?hx1⟩) ?_
         case hx1 => (intro w hSw; (try dsimp only at hSw); go_simp; try with_reducible rfl)
         (try simp only [Act.put, zP1, zP2, zP3, zP4, zP5, zP6])
         refine tkH 2 ?_ rfl (Or.inl ⟨by rfl, ?hx2⟩) ?_
         case hx2 => (intro w hSw; (try dsimp only at hSw); go_simp; try with_reducible rfl)
         (try simp only [Act.put, zP1, zP2, zP3, zP4, zP5, zP6])
         refine tkH 3 ?_ rfl (Or.inl ⟨by rfl, ?hx3⟩) ?_
         case hx3 => (intro w hSw; (try dsimp only at hSw); go_simp; try with_reducible rfl)
         (try simp only [Act.put, zP1, zP2, zP3, zP4, zP5, zP6])
         refine tkH 4 ?_ rfl (Or.inl ⟨by rfl, ?hx4⟩) ?_
         case hx4 => (intro w hSw; (try dsimp only at hSw); go_simp; try with_reducible rfl)
         (try simp only [Act.put, zP1, zP2, zP3, zP4, zP5, zP6])
         refine tkH 5 ?_ rfl (Or.inl ⟨by rfl, ?hx5⟩) ?_
         case hx5 => (intro w hSw; (try dsimp only at hSw); go_simp; try with_reducible rfl)
         (try simp only [Act.put, zP1, zP2, zP3, zP4, zP5, zP6])
         refine tkH 6 ?_ rfl (Or.inl ⟨by rfl, ?hx6⟩) ?_
         case hx6 => (intro w hSw; (try dsimp only at hSw); go_simp; try with_reducible rfl)
         (try simp only [Act.put, zP1, zP2, zP3, zP4, zP5, zP6])
         refine tkH 7 ?_ rfl (Or.inl ⟨by rfl, ?hx7⟩) ?_
         case hx7 => (intro w hSw; (try dsimp only at hSw); go_simp; try with_reducible rfl)
         (try simp only [Act.put, zP1, zP2, zP3, zP4, zP5, zP6])
         refine wpAnyH_ready (rs := [8]) (by kernel_rfl) (by simp) ?_
         refine AllReadyH.cons rfl (fun K hK => ?_) ?_
         ·go_simp
          refine hK.out _ _ ?_ (fun hHeld => ?_)
          ·(try dsimp only); (exact ⟨CELAX, CELAX⟩)
          clear hK K
          (try simp only [Act.put, zP1, zP2, zP3, zP4, zP5, zP6])
          refine tkH 9 ?_ rfl (Or.inl ⟨by rfl, ?hx9⟩) ?_
          case hx9 => (intro w hSw; (try dsimp only at hSw); go_simp; try with_reducible rfl)
          (try simp only [Act.put, zP1, zP2, zP3, zP4, zP5, zP6])
          refine wpAnyH_ready (rs := [10]) (by kernel_rfl) (by simp) ?_
          refine AllReadyH.cons rfl (fun K hK => ?_) ?_
          ·go_simp
           refine hK.out _ _ ?_ (fun hHeld => ?_)
           ·(try dsimp only); (exact ⟨CELAX, CELAX⟩)
           clear hK K
           (try simp only [Act.put, zP1, zP2, zP3, zP4, zP5, zP6])
           refine tkH 11 ?_ rfl (Or.inl ⟨by rfl, ?hx11⟩) ?_
           case hx11 => (intro w hSw; (try dsimp only at hSw); go_simp; try with_reducible rfl)
           (try simp only [Act.put, zP1, zP2, zP3, zP4, zP5, zP6])
           refine wpAnyH_ready (rs := [12]) (by kernel_rfl) (by simp) ?_
           refine AllReadyH.cons rfl (fun K hK => ?_) ?_
           ·go_simp
            refine hK.out _ _ ?_ (fun hHeld => ?_)
            ·(try dsimp only); (exact ⟨CELAX, CELAX⟩)
            clear hK K
            (try simp only [Act.put, zP1, zP2, zP3, zP4, zP5, zP6])
            refine wpAnyH_done (by kernel_rfl) ?_ _
            try simp only [hwp]
            go_wp2_with (first
             | ((with_reducible refine wpList_store_vw (Rn : Int) (c : Int) (some ⟨g, 0, none⟩) N N ((j : Int) + 1 + prow) pcol false (w.heap.size + 1) (.tmp 10) (.tmp 136) rfl rfl ?_ ?_ ?_ ?_); (focus rfl); (focus rfl); (focus (exact Exists.elim HRq.out (fun old h => ⟨old, (((h.1.up BWX).away (by omega) _).away (by omega) _).away (by omega) _, h.2⟩))); intro w5 hS5 hg5; have HS5 := Lib.hid hS5; have HG5 := Lib.hid hg5; clear hS5 hg5)
             | fail)
            refine bodyPost_ret (results_vw rfl _ _ (w.heap.size + 1) (Rn : Int) (c : Int) (some ⟨g, 0, none⟩) N N ((j : Int) + 1 + prow) pcol false (by rfl) HS5.out) rfl ?_
            have e3 : w.heap.size ≤ wt.heap.size := by have := hbw0.size; omega
            have hb3 := Bw.set2 (p := ⟨wt.heap.size, 3, none⟩) e3 HBq.out (.int .i64 ((j : Int) + 1 + prow))
            have hb4 := Bw.set2 (p := ⟨wt.heap.size, 4, none⟩) e3 hb3 (.int .i64 pcol)
            have hb5 := Bw.set2 (p := ⟨wt.heap.size, 5, none⟩) e3 hb4 (.bool false)
            have hbs := Bw.drew hb5
            have e4 : g ≠ wt.heap.size := by omega
            have hw3 := Wb.away (j := 3) HWq.out e4 (.int .i64 ((j : Int) + 1 + prow))
            have hw4 := Wb.away (j := 4) hw3 e4 (.int .i64 pcol)
            have hw5 := Wb.away (j := 5) hw4 e4 (.bool false)
            have hws := hw5.up (Bw.drew (Bw.refl _))
            have e5 : some g ≠ some (w.heap.size + 1) := by intro e; cases e; omega
            have hwz := hws.far HG5.out e5
            refine ⟨g, Rn, c, by have := HRN.out; omega, by have := HCN.out; omega, hgt0, Bw.grown hbs HG5.out (fun k hk => by cases hk; omega), ?_, ?_⟩
            ·rw [HVV.out]
             unfold composeC
             rw [if_pos rfl, ← HBC.out, ← HKK.out, Int.toNat_natCast, Int.toNat_natCast, ← HM.out]
             exact hwz
            ·rw [HVV.out, ← HN.out, ← HKK.out, ← HCB.out]
             simp
           exact AllReadyH.nil
          exact AllReadyH.nil
         exact AllReadyH.nil
end Go.Proofs.YtmkpefielfinjaaDoor
