/- Parts of the proof, one after the other. -/
import Derived.Test.YteebdjmjeahccaaGreatDoorG01
import Derived.Test.YteebdjmjeahccaaGreatDoorG02
import Derived.Test.YteebdjmjeahccaaGreatDoorC47
import Derived.Test.YteebdjmjeahccaaGreatDoorC44
import Derived.Test.YteebdjmjeahccaaGreatDoorC46
import Derived.Deep.RegionHeld3
import Derived.Test.YteebdjmjeahccaaGreatDoorC48
set_option linter.unusedSimpArgs false
set_option linter.unusedVariables false
set_option maxRecDepth 100000
set_option maxHeartbeats 16000000
namespace Go.Proofs.YteebdjmjeahccaaGreatDoor
open Go.RowKit
theorem rz_ok {w w0 : World} {s : Scr} {cs : List C4} {R C : Nat} {A : Option Addr} {n c : Nat} (hs : s.Ok w0) (hg : gridB s.Rn s.Cn cs = true) (hR1 : 1 ≤ R) (hR2 : R ≤ 30) (hC1 : 1 ≤ C) (hC2 : C ≤ 100) (hr : Rg w A n (rzG s cs R C)) (hn : n ≤ c) (hc : c ≤ 9223372036854775807) : ((rzS s R C).gr A n c).Ok w:=by
 obtain ⟨h1,h2,h3,h4,h5,h6⟩:=hs.num
 refine Scr.Ok.of (cs:=rzG s cs R C) ⟨⟨hR1,hR2,hC1,hC2⟩,?_,h3,?_,?_,h6⟩ hr hn hc ?_
 ·show 0 ≤ s.row - (rzN s R : Int) ∧ s.row - (rzN s R : Int) < R ∧ 0 ≤ min s.col ((C : Int) - 1) ∧ min s.col ((C : Int) - 1) < C
  unfold rzN
  omega
 ·show (0 : Int) ≤ 0 ∧ (0 : Int) ≤ (R : Int) - 1 ∧ (R : Int) - 1 < R
  omega
 ·show 0 ≤ min s.srow ((R : Int) - 1) ∧ min s.srow ((R : Int) - 1) < R ∧ 0 ≤ min s.scol ((C : Int) - 1) ∧ min s.scol ((C : Int) - 1) < C
  omega
 ·have hall : (rzQ s cs R).all cellB = true:=gridB_all (show gridB s.Rn s.Cn (rzQ s cs R) = true from scrollG_ok hg)
  exact gridB_tab hR1 hR2 hC1 hC2 (fun r k _ _ => by unfold resF;exact atF_ok hall (by decide))
theorem LsF.ls {w : World} {b : Nat} {L : Option Addr} {m k : Nat} {F : Nat → List C4} (h : LsF w b L m k F) : Ls w L m ∧ m ≤ k ∧ k ≤ 9223372036854775807:=by
 obtain ⟨vs,ho,hf⟩:=h
 refine ⟨⟨vs,own_rd (f:=fun v => v) (xs:=vs) (by rw [List.map_id'];exact ho),fun v hv => ?_⟩,?_⟩
 ·obtain ⟨i,hi⟩:=List.getElem?_of_mem hv
  obtain ⟨A,c,rfl,-⟩:=own_form (hf i v hi)
  rfl
 ·obtain ⟨A,c,e,h1,h2⟩:=own_form ho
  cases e
  exact ⟨h1,h2⟩
theorem rresize19_any (t : Trm) (B rows cols : Int) (R C : Nat) (w : World) (h : t.Ok w B) (hB : 0 ≤ B ∧ B ≤ 1000000000) (hR : clamp rows 30 = R) (hC : clamp cols 100 = C) :
  Calls Tryz.prog 21 #[.agg t.vals.toArray,.int .i64 rows,.int .i64 cols] w fun e w' => ∃ t' : Trm,e = .returned (.agg t'.vals.toArray) ∧ t'.Ok w' (B + 231) ∧ t'.s.Rn = R ∧ t'.s.Cn = C ∧ (∀ ad,t'.s.A = some ad → w.heap.size ≤ ad.block) ∧ (∀ ad,t'.HA = some ad → w.heap.size ≤ ad.block) ∧ Bw w w':=by
 have HOK:=Lib.hid h
 obtain ⟨-,hsR,-,-,-,-,-,cs,hrg,hg⟩:=h.1.1
 have HRG:=Lib.hid hrg
 have HGV:=Lib.hid hg
 have hcb:=clamp_bd rows 30 (by omega)
 have hcb2:=clamp_bd cols 100 (by omega)
 rw [hR] at hcb
 rw [hC] at hcb2
 have hR1 : 1 ≤ R:=by omega
 have hR2 : R ≤ 30:=by omega
 have hC1 : 1 ≤ C:=by omega
 have hC2 : C ≤ 100:=by omega
 have HRC:=Lib.hid (And.intro hR hC)
 have hnm:=h.1.2.1
 obtain ⟨hB0,hB1⟩:=hB
 have hm31 : rzN t.s R ≤ 31:=by unfold rzN;omega
 clear h hrg hg hR hC hcb hcb2 hnm hsR
 go_enter Tryz.func21,Tryz.ntmps21
 go_upto_region 1 with (fail)
 generalize hw1 : (w.alloc (.cells t.vals.toArray 53)).alloc _ = w1
 obtain ⟨hb0,hb1,hbw,hz⟩:=sb2 hw1
 have HB0:=Lib.hid hb0
 have HB1:=Lib.hid (show ∃ old,Sb w1 (w.heap.size + 1) old 53 ∧ old.size = 26 from ⟨_,hb1,rfl⟩)
 have hz1 : w.heap.size + 1 < w1.heap.size:=by omega
 clear hw1 hb0 hb1 hz
 go_upto_region 3 with (first
  | ((with_reducible refine wpList_load_tr t w.heap.size (.tmp 3) rfl rfl ?_ ?_ ?_);(focus rfl);(focus (exact HB0.out)))
  | (go_at_call 45;refine (rvalid19_ok t B _ (HOK.out.up (Bw.trans hbw BWX))).mono ?_;rintro ee w2 ⟨rfl,hb2⟩;have hbw2 : Bw w1 w2:=Bw.trans (show Bw w1 _ from BWX) hb2;clear hb2)
  | fail)
 have HB02:=Lib.hid (HB0.out.up hbw2)
 have HB12:=Lib.hid (Exists.elim HB1.out (fun old h => (⟨old,h.1.up hbw2,h.2⟩ : ∃ old,Sb w2 (w.heap.size + 1) old 53 ∧ old.size = 26)))
 have HW2:=Lib.hid (Bw.trans hbw hbw2)
 have hz2 : w.heap.size + 1 < w2.heap.size:=by have:=hbw2.size;omega
 clear HB0 HB1 hbw hbw2 hz1
 go_upto_region 4 with (first
  | ((with_reducible refine wpList_load_ts t w.heap.size (.tmp 14) rfl rfl ?_ ?_ ?_);(focus rfl);(focus (exact HB02.out.up BWX)))
  | (go_at_call 46;refine (rresizeS_yes t.s cs rows cols R C _ HRC.out.1 HRC.out.2 (HOK.out.1.up (Bw.trans HW2.out BWX)) (HRG.out.up (Bw.trans HW2.out BWX)) HGV.out).mono ?_;rintro ee w3 ⟨A,n,c,L,k,rfl,r1,r2,r3,r4,r5,hb3⟩;have hb23 : Bw w2 w3:=Bw.trans (show Bw w2 _ from BWX) hb3;have HR3:=Lib.hid r1;have HL3:=Lib.hid r4;have HA3:=Lib.hid (show ∀ ad,A = some ad → w2.heap.size ≤ ad.block from fun ad e => Nat.le_trans (show Bw w2 _ from BWX).size (r5 ad e));have hz3:=hb23.size;clear hb3 r1 r4 r5)
  | ((with_reducible refine wpList_store_sc ((rzS t.s R C).gr A n c) w3.heap.size (.tmp 7) (.tmp 19) rfl rfl ?_ ?_ ?_ ?_);(focus rfl);(focus rfl);(focus (exact ⟨_,heap_at rfl,rfl⟩));intro w4 hS4 hg4;have HS4:=Lib.hid hS4;have hb34 : Bw w3 w4:=Bw.grown (show Bw w3 (w3.alloc _) from BWX) hg4 (fun k hk => by cases hk;omega);clear hS4 hg4)
  | fail)
 have hb24:=Bw.trans hb23 hb34
 have hz4:=hb34.size
 have HW4:=Lib.hid (Bw.trans HW2.out hb24)
 have HB04:=Lib.hid (HB02.out.up hb24)
 have HB14:=Lib.hid (Exists.elim HB12.out (fun old h => (⟨old,h.1.up hb24,h.2⟩ : ∃ old,Sb w4 (w.heap.size + 1) old 53 ∧ old.size = 26)))
 have HR4:=Lib.hid (HR3.out.up hb34)
 have HL4:=Lib.hid (HL3.out.up hb34)
 clear hb23 hb24 hb34 HB02 HB12 HR3 HL3
 go_upto_region 5 with (first
  | ((with_reducible refine wpList_load_sc ((rzS t.s R C).gr A n c) w3.heap.size (.tmp 7) rfl rfl ?_ ?_ ?_);(focus rfl);(focus (exact HS4.out)))
  | ((with_reducible refine wpList_store_ts t ((rzS t.s R C).gr A n c) w.heap.size (.tmp 22) (.tmp 21) rfl rfl ?_ ?_ ?_ ?_);(focus rfl);(focus rfl);(focus (exact HB04.out));intro w5 hS5 hg5;have HS5:=Lib.hid hS5;have HG5:=Lib.hid hg5;clear hS5 hg5)
  | fail)
 have hg5:=HG5.out
 have HW5:=Lib.hid (Bw.grown HW4.out hg5 (fun k hk => by cases hk;omega))
 have HB15:=Lib.hid (Exists.elim HB14.out (fun old h => (⟨old,h.1.far hg5 (fun e => by have:=Option.some.inj e;omega),h.2⟩ : ∃ old,Sb w5 (w.heap.size + 1) old 53 ∧ old.size = 26)))
 have HR5:=Lib.hid (HR4.out.far hg5 (fun ad e e2 => by have:=HA3.out ad e;have:=Option.some.inj e2;omega))
 have HL5:=Lib.hid (HL4.out.far hg5 (sb_tyN HB04.out) (by decide) (by decide)).ls
 have hz5:=hg5.size
 obtain ⟨-,hmk,hk9⟩:=HL5.out
 have hT5:=HOK.out.up HW5.out
 obtain ⟨-,-,-,-,hkp,hls,hn1,hn2,hn3,hlo,hlo2⟩:=hT5
 have HLS:=Lib.hid hls
 clear hls hg5 HB04 HB14 HR4 HL4 HG5 HS4
 go_wp2_with (first
  | ((with_reducible refine wpList_load_tr ({ t with s:=(rzS t.s R C).gr A n c } : Trm) w.heap.size (.tmp 3) rfl rfl ?_ ?_ ?_);(focus rfl);(focus (exact HS5.out)))
  | (go_at_call 47;refine (raway_any ({ t with s:=(rzS t.s R C).gr A n c } : Trm) L (rzN t.s R) k _ (HLS.out.up BWX) hn1 hn2 (show t.Hn ≤ 200 by omega) hkp ⟨hlo,show t.lost ≤ 1000000000000 by omega⟩ (HL5.out.1.up BWX) hm31 hmk hk9).mono ?_;rintro ee w6 ⟨HA',Hn',Hc',lost',rfl,a1,a2,a3,a4,a5,a6,a7,a8⟩;have HA1:=Lib.hid a1;have HA2:=Lib.hid (show ∀ ad,HA' = some ad → w5.heap.size ≤ ad.block from fun ad e => Nat.le_trans (show Bw w5 _ from BWX).size (a2 ad e));have h56 : Bw w5 w6:=Bw.trans (show Bw w5 _ from BWX) a8;have HA5:=Lib.hid (And.intro a5 (And.intro a6 a7));clear a1 a2 a5 a6 a7 a8)
  | ((with_reducible refine wpList_store_tr ({ t with s:=(rzS t.s R C).gr A n c,HA:=HA',Hn:=Hn',Hc:=Hc',lost:=lost' } : Trm) (w.heap.size + 1) (.tmp 6) (.tmp 25) rfl rfl ?_ ?_ ?_ ?_);(focus rfl);(focus rfl);(focus (exact Exists.elim HB15.out (fun old h => ⟨old,h.1.up (Bw.trans h56 BWX),h.2⟩)));intro w7 hS7 hg7;have HS7:=Lib.hid hS7;have HG7:=Lib.hid ((grown_bw (Bw.trans h56 (show Bw w6 _ from BWX)) (some (w.heap.size + 1))).trans hg7);have HG67:=Lib.hid ((grown_bw (show Bw w6 _ from BWX) (some (w.heap.size + 1))).trans hg7);clear hS7 hg7)
  | fail)
 refine bodyPost_ret (results_tr rfl _ _ (w.heap.size + 1) ({ t with s:=(rzS t.s R C).gr A n c,HA:=HA',Hn:=Hn',Hc:=Hc',lost:=lost' } : Trm) (by rfl) HS7.out) rfl ?_
 have hg7:=HG7.out
 have hW7 : Bw w w7:=Bw.grown HW5.out hg7 (fun k hk => by cases hk;omega)
 have hR7 : Rg w7 A n (rzG t.s cs R C):=HR5.out.far hg7 (fun ad e e2 => by have:=HA3.out ad e;have:=Option.some.inj e2;omega)
 have hsok:=rz_ok (s:=t.s) HOK.out.1 HGV.out hR1 hR2 hC1 hC2 hR7 r2 r3
 have hls7 : Ls w7 HA' Hn':=HA1.out.far HG67.out (fun ad e e2 => by have:=HA2.out ad e;have:=Option.some.inj e2;omega)
 obtain ⟨b5,b6,b7⟩:=HA5.out
 obtain ⟨c1,c2,c3,c4,c5,c6,c7,c8,c9,c10,c11⟩:=HOK.out.up hW7
 (try dsimp only at b6 b7 c10 c11)
 refine ⟨_,rfl,⟨hsok,c2,c3,c4,c5,hls7,a3,a4,b5,?_,?_⟩,rfl,rfl,fun ad e => by have:=HA3.out ad e;omega,fun ad e => by have:=HA2.out ad e;omega,hW7⟩
 ·show 0 ≤ lost'
  omega
 ·show lost' ≤ B + 231
  omega
theorem shows_any (A : Option Addr) (n c : Nat) (xs : List Int) (Aw : Option Addr) (nw cw : Nat) (ws : List Int) (w : World) (hr : RdI w A n xs) (hA : 0 < n → ∀ ad,A = some ad → ad.block < w.heap.size) (hn : n ≤ 9223372036854775807) (hrw : Rd (.int .u8) w Aw nw ws) (hwc : nw ≤ cw) (hcw : cw ≤ 9223372036854775807) (hby : ∀ x ∈ ws,0 ≤ x ∧ x ≤ 255) (hP : PowT w.heap.size w) :
  Calls Tryz.prog 4 #[.slice A n c,.slice Aw nw cw] w fun e w' => e = .returned (.bool true) ∧ Bw w w':=by
 have HRW:=Lib.hid hrw
 have HBY:=Lib.hid hby
 clear hrw hby
 have HR:=Lib.hid hr
 have HAA:=Lib.hid hA
 have HP:=Lib.hid hP
 clear hr hA hP
 go_enter Tryz.func4,Tryz.ntmps4
 go_upto_region 3 with (first
  | (go_at_call 8;refine (sane20_any w HP.out).mono ?_;rintro ee w1 ⟨rfl,hb1⟩;have HB1:=Lib.hid hb1;have hz1:=hb1.size;clear hb1)
  | fail)
 by_cases h100 : (100 : Int) < (nw : Int)
 ·go_wp2_with fail
  go_ret
  exact ⟨rfl,HB1.out⟩
 go_upto_region 6 with (first
  | (go_at_call 9;refine (views_any A n c xs _ (HR.out.up HAA.out (Bw.trans HB1.out (show Bw w1 _ from BWX))) (fun h0 ad e => by have:=HAA.out h0 ad e;have:=HB1.out.size;omega) hn).mono ?_;rintro ee w2 ⟨R,C,x,y,rfl,⟨A1,n1,c1,cs,row,col,hid,rfl,k1,k2,k3,k4,k5⟩,⟨A2,n2,c2,ds,row2,col2,hid2,rfl,l1,l2,l3,l4,l5⟩,-,hb2⟩;have HB2:=Lib.hid (Bw.trans HB1.out (Bw.trans (show Bw w1 _ from BWX) hb2));have HX:=Lib.hid k1;have HY:=Lib.hid l1;have HVa:=Lib.hid k5;have HVb:=Lib.hid l5;clear k1 k5 l1 l5 hb2)
  | fail)
 obtain ⟨hR1,hR2,hC1,hC2,-⟩:=viewB_dim HVa.out
 obtain ⟨Rn,rfl⟩ : ∃ Rn : Nat,R = Rn:=⟨R.toNat,by omega⟩
 obtain ⟨Cn,rfl⟩ : ∃ Cn : Nat,C = Cn:=⟨C.toNat,by omega⟩
 have hlx:=HX.out.1
 have hly:=HY.out.1
 have hC6 : Cn ≤ 60:=by have:=viewB_small HVa.out (by omega);omega
 generalize hwa : w2.alloc _ = wa
 obtain ⟨hka,hba,hza⟩:=sb1 hwa
 generalize hwb : wa.alloc _ = wb
 obtain ⟨hkb,hbb,hzb⟩:=sb1 hwb
 rw [hza] at hkb
 obtain ⟨ka,hka2⟩ : ∃ ka,ka = w2.heap.size:=⟨_,rfl⟩
 obtain ⟨kb,hkb2⟩ : ∃ kb,kb = w2.heap.size + 1:=⟨_,rfl⟩
 rw [← hkb2] at hkb ⊢
 rw [← hka2] at hka ⊢
 have HKA:=Lib.hid (show Sb wb ka (vwV (Rn : Int) (Cn : Int) A1 n1 c1 row col hid) 27 from hka.up hbb)
 have HKB:=Lib.hid (show Sb wb kb (vwV (Rn : Int) (Cn : Int) A2 n2 c2 row2 col2 hid2) 27 from hkb)
 have hb2b:=Bw.trans hba hbb
 have HXb:=Lib.hid (HX.out.up hb2b)
 have HYb:=Lib.hid (HY.out.up hb2b)
 have HBb:=Lib.hid (Bw.trans HB2.out hb2b)
 have hla:=HKA.out.lt
 have hlb:=HKB.out.lt
 have HF1:=Lib.hid (fullL_facts hid hC6 (show cs.length ≤ 60 by omega) HVa.out)
 have HF2:=Lib.hid (fullL_facts hid2 hC6 (show ds.length ≤ 60 by omega) HVb.out)
 have HCl1:=Lib.hid (clamp_in (x:=(Rn : Int)) (hi:=30) hR1 hR2)
 have HCl2:=Lib.hid (clamp_in (x:=(Cn : Int)) (hi:=100) hC1 hC2)
 clear hwa hwb hka hkb hba hbb hza hzb hka2 hkb2 hb2b HX HY HB2 hlx hly HB1
 go_upto_region 7 with (first
  | (go_at_call 20;refine (mnew_any A n c _).mono ?_;rintro ee wn ⟨rfl,hwn⟩;have HD:=Lib.hid (show Dk2 wn wb.heap.size A n c xs from by rw [← hwn];exact Dk2.made (c:=c) (HR.out.up HAA.out HBb.out) (fun h0 ad e => by have:=HAA.out h0 ad e;have:=HBb.out.size;omega) hn);have hbn:=(sb1 hwn).2.1;have hzn:=(sb1 hwn).2.2;clear hwn)
  | (go_at_call 19;refine (mterm_dk8 wb.heap.size A n c xs _ (HD.out.up (show Bw wn _ from BWX))).mono ?_;rintro ee wt ⟨t0,rfl,ht,-,-,-,hgt⟩;have HOK:=Lib.hid ht;have hbt : Bw wb wt:=Bw.grown hbn ((grown_bw (show Bw wn _ from BWX) (some wb.heap.size)).trans hgt) (fun k hk => by cases hk;omega);have hzt:=hbt.size;clear ht hgt)
  | ((with_reducible refine wpList_store_tr t0 wt.heap.size (.tmp 7) (.tmp 20) rfl rfl ?_ ?_ ?_ ?_);(focus rfl);(focus rfl);(focus (exact ⟨_,heap_at rfl,rfl⟩));intro w8 hS8 hg8;have HS8:=Lib.hid hS8;have hb8 : Bw wt w8:=Bw.grown (show Bw wt (wt.alloc _) from BWX) hg8 (fun k hk => by cases hk;omega);clear hS8 hg8)
  | fail)
 obtain ⟨g,hg⟩ : ∃ g,g = wt.heap.size:=⟨_,rfl⟩
 rw [← hg] at HS8 ⊢
 have hgl:=HS8.out.lt
 have HBt:=Lib.hid hbt
 have HB8:=Lib.hid hb8
 have HOK8:=Lib.hid (HOK.out.up hb8)
 have hgb : wt.heap.size ≤ g:=by omega
 have hla8 : ka < w8.heap.size:=by omega
 have HWt:=Lib.hid (Bw.trans HBb.out hbt)
 have HKAt:=Lib.hid (HKA.out.up hbt)
 have hb8x:=Bw.trans hbt hb8
 have x0:=(HKA.out.up hb8x).cell 0 (v:=.int .i64 (Rn : Int)) rfl
 have x1:=(HKA.out.up hb8x).cell 1 (v:=.int .i64 (Cn : Int)) rfl
 have x2:=(HKA.out.up hb8x).cell 2 (v:=.slice A1 n1 c1) rfl
 have x3:=(HKA.out.up hb8x).cell 3 (v:=.int .i64 row) rfl
 have x4:=(HKA.out.up hb8x).cell 4 (v:=.int .i64 col) rfl
 have x5:=(HKA.out.up hb8x).cell 5 (v:=.bool hid) rfl
 clear hg hb8 hbt hbn hzn HD HOK hb8x
 go_upto_region 8 with (first
  | ((with_reducible refine wpList_load_tr t0 g (.tmp 7) rfl rfl ?_ ?_ ?_);(focus rfl);(focus (exact HS8.out)))
  | (go_at_call 21;refine (rresize19_any t0 100000000 (Rn : Int) (Cn : Int) Rn Cn _ (HOK8.out.up (show Bw w8 _ from BWX)) (by omega) HCl1.out HCl2.out).mono ?_;rintro ee w9 ⟨ta,rfl,ha,e1,e2,hA1,hH1,hb9⟩;have HOKa:=Lib.hid ha;have hnA : ∀ ad,ta.s.A = some ad → ad.block ≠ g:=(fun ad e => by have h1:=hA1 ad e;have h2 : w8.heap.size ≤ _:=(show Bw w8 _ from BWX).size;omega);have hnH : 0 < ta.Hn → ∀ ad,ta.HA = some ad → ad.block ≠ g:=(fun h0 ad e => by have h1:=hH1 ad e;have h2 : w8.heap.size ≤ _:=(show Bw w8 _ from BWX).size;omega);have hb89 : Bw w8 w9:=Bw.trans (show Bw w8 _ from BWX) hb9;clear ha hA1 hH1 hb9 x0 x1 x2 x3 x4 x5)
  | ((with_reducible refine wpList_store_tr ta g (.tmp 7) (.tmp 28) rfl rfl ?_ ?_ ?_ ?_);(focus rfl);(focus rfl);(focus (exact ⟨_,HS8.out.up (show Bw w8 _ from BWX),rfl⟩));intro wa hS9 hg9;have HTMa:=Lib.hid (TmK.put (R:=Rn) (C:=Cn) (K:=none) (G:=fun _ => True) (HS8.out.up (show Bw w8 _ from BWX)) (Trm.no8 t0) hnA hnH (HOKa.out.up (show Bw w9 _ from BWX)) e1 e2 (Mt.none_ _ _) trivial hg9 hS9);have HBa:=Lib.hid (show Bw wt wa from Bw.grown (Bw.trans HB8.out (show Bw w8 _ from BWX)) hg9 (fun k hk => by cases hk;omega));clear hS9 hg9)
  | fail)
 obtain ⟨tb,hsb,htb,f1,f2,-,ha1,hh1,-⟩:=HTMa.out
 have HSb:=Lib.hid hsb
 have HTb:=Lib.hid htb
 have HEb:=Lib.hid (And.intro f1 f2)
 have HNb:=Lib.hid (And.intro ha1 hh1)
 have hgla:=hsb.lt
 clear hsb htb f1 f2 ha1 hh1 hnA hnH hb89 HOKa e1 e2 HTMa HS8 HOK8
 go_upto_region 9 with (first
  | ((with_reducible refine wpList_load_tr tb g (.tmp 7) rfl rfl ?_ ?_ ?_);(focus rfl);(focus (exact HSb.out)))
  | (go_at_call 22;refine (rfeed_x tb none (100000000 + 231) Aw nw cw ws _ (HTb.out.up (show Bw wa _ from BWX)) (Mt.none_ _ _) (by omega) (HRW.out.up (Bw.trans HWt.out (Bw.trans HBa.out (show Bw wa _ from BWX)))) hwc hcw (by omega) HBY.out).mono ?_;rintro ee w9 ⟨tc,rfl,ht2,e1,e2,e3,hpl,hph,hb3,-⟩;have HTc:=Lib.hid ht2;have HEc:=Lib.hid (And.intro (e1.trans HEb.out.1) (e2.trans HEb.out.2));have HFN:=Lib.hid (fed_ne (show g < _ from Nat.lt_of_lt_of_le hgla (show Bw wa _ from BWX).size) HNb.out.1 HNb.out.2 hpl hph);have hb9 : Bw wa w9:=Bw.trans (show Bw wa _ from BWX) hb3;clear ht2 e1 e2 e3 hpl hph hb3)
  | ((with_reducible refine wpList_store_tr tc g (.tmp 7) (.tmp 31) rfl rfl ?_ ?_ ?_ ?_);(focus rfl);(focus rfl);(focus (exact ⟨_,HSb.out.up (show Bw wa _ from BWX),rfl⟩));intro wd hS9 hg9;have HTMd:=Lib.hid (TmK.put (K:=none) (G:=fun _ => True) (HSb.out.up (show Bw wa _ from BWX)) (Trm.no8 tb) HFN.out.1 HFN.out.2 (HTc.out.up (show Bw w9 _ from BWX)) HEc.out.1 HEc.out.2 (Mt.none_ _ _) trivial hg9 hS9);have HBC:=Lib.hid (show Bw wt wd from Bw.grown (Bw.trans HBa.out (show Bw wa _ from BWX)) hg9 (fun k hk => by cases hk;omega));clear hS9 hg9)
  | fail)
 obtain ⟨t1,hst,ht1,f1,f2,-,ha1,hh1,-⟩:=HTMd.out
 have HST:=Lib.hid hst
 have HT1:=Lib.hid ht1
 have HE1:=Lib.hid (And.intro f1 f2)
 have hA1:=Lib.hid ha1
 have hH1:=Lib.hid hh1
 have hgld:=hst.lt
 clear hst ht1 f1 f2 ha1 hh1 HTMd HSb HTb HEb HNb HTc HEc HFN hb9
 have HC9:=Lib.hid (show ∀ w',Bw wt w' → (w'.cell? ⟨ka,0,none⟩ = some (.int .i64 (Rn : Int)) ∧ w'.cell? ⟨ka,1,none⟩ = some (.int .i64 (Cn : Int)) ∧ w'.cell? ⟨ka,2,none⟩ = some (.slice A1 n1 c1) ∧ w'.cell? ⟨ka,3,none⟩ = some (.int .i64 row) ∧ w'.cell? ⟨ka,4,none⟩ = some (.int .i64 col) ∧ w'.cell? ⟨ka,5,none⟩ = some (.bool hid)) from fun w' hb => ⟨(HKAt.out.up hb).cell 0 rfl,(HKAt.out.up hb).cell 1 rfl,(HKAt.out.up hb).cell 2 rfl,(HKAt.out.up hb).cell 3 rfl,(HKAt.out.up hb).cell 4 rfl,(HKAt.out.up hb).cell 5 rfl⟩)
 have HXt:=Lib.hid (HXb.out.up HBt.out)
 simp only [Act.put]
 go_cut [] from 32 to 35 (fun w' => TmK w' g Rn Cn (100000000 + 231 + 231 * 200000 + 231 * 200000) (some (knV cs row col hid)) OnG ∧ Bw wt w')
 case first =>
  refine wp_region_held_drew (S:=(fun w' => Bw wt w')) (by kernel_rfl) ?_ (fun hHeld => ?_)
  ·(try dsimp only);(first|exact Bw.grown (Bw.trans HBC.out (show Bw wd _ from BWX)) HG9.out (fun k hk => by cases hk;omega)|(refine Bw.trans HBC.out ?_;(repeat (first|with_reducible (first|assumption|exact Bw.refl _|refine Bw.alloc ?_ _|refine Bw.more ?_ _ _|refine Bw.drew ?_|refine Bw.drewN ?_ _)|((with_reducible refine Bw.set2 ?_ ?_ _);(focus exact SZX))|with_reducible refine Bw.trans ?_ (by assumption)));done))
  refine tkH 1 ?_ rfl (Or.inl ⟨by rfl,?ht1⟩) ?_;case ht1 => (intro w' hb;(try dsimp only at hb);have hcl:=HC9.out w' hb;clear hb;go_simp;try with_reducible rfl)
  (try simp only [Act.put,zP1,zP2,zP3,zP4,zP5,zP6])
  refine wpAnyH_ready (rs:=[0,2]) (by kernel_rfl) (by simp) ?_
  refine AllReadyH.cons rfl (fun K hK => ?_) ?_
  ·(refine (if_pos (by kernel_rfl)).mpr ?_);((with_reducible refine wp_load_tr t1 g (.tmp 7) ?_ ?_ ?_ ?_);(focus rfl);(focus rfl);(focus (exact HST.out.up BWX)))
   refine hK.out _ _ ?_ (fun hHeld => ?_)
   ·(try dsimp only);(first|exact Bw.grown (Bw.trans HBC.out (show Bw wd _ from BWX)) HG9.out (fun k hk => by cases hk;omega)|(refine Bw.trans HBC.out ?_;(repeat (first|with_reducible (first|assumption|exact Bw.refl _|refine Bw.alloc ?_ _|refine Bw.more ?_ _ _|refine Bw.drew ?_|refine Bw.drewN ?_ _)|((with_reducible refine Bw.set2 ?_ ?_ _);(focus exact SZX))|with_reducible refine Bw.trans ?_ (by assumption)));done))
   clear hK K
   (try simp only [Act.put,zP1,zP2,zP3,zP4,zP5,zP6])
   refine arO 2 (fun K hK => ?_)
   go_simp
   refine (pfull_any (Rn : Int) (Cn : Int) A1 n1 c1 cs row col hid _ (HXt.out.up (Bw.trans HBC.out (show Bw wd _ from BWX))) k2 k3 k4 (PowT.bump HP.out (Bw.trans HWt.out (Bw.trans HBC.out (show Bw wd _ from BWX))))).mono ?_;rintro ee m2 ⟨v2,rfl,hs2,hb2⟩;obtain ⟨B2,cv2,rfl,hc2,hcm2,hr2⟩:=hs2;have HR2:=Lib.hid hr2;have hm2 : Bw wd m2:=Bw.trans (show Bw wd _ from BWX) hb2;have hzm2:=hm2.size;clear hr2 hb2;go_wp2_with fail
   refine hK.out _ _ ?_ (fun hHeld => ?_)
   ·(try dsimp only);(first|exact Bw.grown (Bw.trans HBC.out (show Bw wd _ from BWX)) HG9.out (fun k hk => by cases hk;omega)|(refine Bw.trans HBC.out ?_;(repeat (first|with_reducible (first|assumption|exact Bw.refl _|refine Bw.alloc ?_ _|refine Bw.more ?_ _ _|refine Bw.drew ?_|refine Bw.drewN ?_ _)|((with_reducible refine Bw.set2 ?_ ?_ _);(focus exact SZX))|with_reducible refine Bw.trans ?_ (by assumption)));done))
   clear hK K
   (try simp only [Act.put,zP1,zP2,zP3,zP4,zP5,zP6])
   refine arO 3 (fun K hK => ?_)
   go_simp
   have hll:=HF1.out.1;refine (rfeed_x t1 none (100000000 + 231 + 231 * 200000) B2 _ cv2 (fullL Rn Cn cs row col hid) _ (HT1.out.up (show Bw wd _ from BWX)) (Mt.none_ _ _) (by omega) (HR2.out.up (show Bw m2 _ from BWX)) (by omega) (by omega) (by omega) HF1.out.2).mono ?_;rintro ee m3 ⟨t2,rfl,ht2,e1,e2,e3,hpl,hph,hb3,hMt,hrs,hsc⟩;have HT2:=Lib.hid ht2;have HE2:=Lib.hid (And.intro (e1.trans HE1.out.1) (e2.trans HE1.out.2));have HFN:=Lib.hid (fed_ne (show g < _ from Nat.lt_of_lt_of_le hgld (show Bw wd _ from BWX).size) hA1.out hH1.out hpl hph);have HK2:=Lib.hid (fed_full hC6 HVa.out HT1.out HE1.out.1 HE1.out.2 hMt hrs hsc);have hm3 : Bw wd m3:=Bw.trans (show Bw wd _ from BWX) hb3;have hzm3:=hm3.size;clear ht2 e1 e2 e3 hpl hph hMt hrs hsc hb3;go_wp2_with fail
   refine hK.out _ _ ?_ (fun hHeld => ?_)
   ·(try dsimp only);(first|exact Bw.grown (Bw.trans HBC.out (show Bw wd _ from BWX)) HG9.out (fun k hk => by cases hk;omega)|(refine Bw.trans HBC.out ?_;(repeat (first|with_reducible (first|assumption|exact Bw.refl _|refine Bw.alloc ?_ _|refine Bw.more ?_ _ _|refine Bw.drew ?_|refine Bw.drewN ?_ _)|((with_reducible refine Bw.set2 ?_ ?_ _);(focus exact SZX))|with_reducible refine Bw.trans ?_ (by assumption)));done))
   clear hK K
   (try simp only [Act.put,zP1,zP2,zP3,zP4,zP5,zP6])
   refine arO 4 (fun K hK => ?_)
   (refine (if_pos (by kernel_rfl)).mpr ?_);((with_reducible refine wp_store_tr t2 g (.tmp 7) (.tmp 35) ?_ ?_ ?_ ?_ ?_);(focus rfl);(focus rfl);(focus rfl);(focus (exact ⟨_,HST.out.up (show Bw wd _ from BWX),rfl⟩)));intro w9 hS9 hg9;have HS9:=Lib.hid hS9;have HG9:=Lib.hid hg9;clear hS9 hg9
   refine hK.out _ _ ?_ (fun hHeld => ?_)
   ·(try dsimp only);(first|exact Bw.grown (Bw.trans HBC.out (show Bw wd _ from BWX)) HG9.out (fun k hk => by cases hk;omega)|(refine Bw.trans HBC.out ?_;(repeat (first|with_reducible (first|assumption|exact Bw.refl _|refine Bw.alloc ?_ _|refine Bw.more ?_ _ _|refine Bw.drew ?_|refine Bw.drewN ?_ _)|((with_reducible refine Bw.set2 ?_ ?_ _);(focus exact SZX))|with_reducible refine Bw.trans ?_ (by assumption)));done))
   clear hK K
   (try simp only [Act.put,zP1,zP2,zP3,zP4,zP5,zP6])
   refine wpAnyH_done (by kernel_rfl) ?_ _
   go_wp2
   go_meet
   case rel => exact ⟨TmK.put (HST.out.up (show Bw wd _ from BWX)) (Trm.no8 t1) HFN.out.1 HFN.out.2 (HT2.out.up (show Bw m3 _ from BWX)) HE2.out.1 HE2.out.2 (HK2.out.1.up (show Bw m3 _ from BWX)) HK2.out.2 HG9.out HS9.out,Bw.grown (Bw.trans HBC.out (show Bw wd _ from BWX)) HG9.out (fun k hk => by cases hk;omega)⟩
  refine AllReadyH.cons rfl (fun K hK => ?_) ?_
  ·go_simp
   refine (pfull_any (Rn : Int) (Cn : Int) A1 n1 c1 cs row col hid _ (HXt.out.up (Bw.trans HBC.out (show Bw wd _ from BWX))) k2 k3 k4 (PowT.bump HP.out (Bw.trans HWt.out (Bw.trans HBC.out (show Bw wd _ from BWX))))).mono ?_;rintro ee m2 ⟨v2,rfl,hs2,hb2⟩;obtain ⟨B2,cv2,rfl,hc2,hcm2,hr2⟩:=hs2;have HR2:=Lib.hid hr2;have hm2 : Bw wd m2:=Bw.trans (show Bw wd _ from BWX) hb2;have hzm2:=hm2.size;clear hr2 hb2;go_wp2_with fail
   refine hK.out _ _ ?_ (fun hHeld => ?_)
   ·(try dsimp only);(first|exact Bw.grown (Bw.trans HBC.out (show Bw wd _ from BWX)) HG9.out (fun k hk => by cases hk;omega)|(refine Bw.trans HBC.out ?_;(repeat (first|with_reducible (first|assumption|exact Bw.refl _|refine Bw.alloc ?_ _|refine Bw.more ?_ _ _|refine Bw.drew ?_|refine Bw.drewN ?_ _)|((with_reducible refine Bw.set2 ?_ ?_ _);(focus exact SZX))|with_reducible refine Bw.trans ?_ (by assumption)));done))
   clear hK K
   (try simp only [Act.put,zP1,zP2,zP3,zP4,zP5,zP6])
   refine arO 0 (fun K hK => ?_)
   (refine (if_pos (by kernel_rfl)).mpr ?_);((with_reducible refine wp_load_tr t1 g (.tmp 7) ?_ ?_ ?_ ?_);(focus rfl);(focus rfl);(focus (exact HST.out.up BWX)))
   refine hK.out _ _ ?_ (fun hHeld => ?_)
   ·(try dsimp only);(first|exact Bw.grown (Bw.trans HBC.out (show Bw wd _ from BWX)) HG9.out (fun k hk => by cases hk;omega)|(refine Bw.trans HBC.out ?_;(repeat (first|with_reducible (first|assumption|exact Bw.refl _|refine Bw.alloc ?_ _|refine Bw.more ?_ _ _|refine Bw.drew ?_|refine Bw.drewN ?_ _)|((with_reducible refine Bw.set2 ?_ ?_ _);(focus exact SZX))|with_reducible refine Bw.trans ?_ (by assumption)));done))
   clear hK K
   (try simp only [Act.put,zP1,zP2,zP3,zP4,zP5,zP6])
   refine arO 3 (fun K hK => ?_)
   go_simp
   have hll:=HF1.out.1;refine (rfeed_x t1 none (100000000 + 231 + 231 * 200000) B2 _ cv2 (fullL Rn Cn cs row col hid) _ (HT1.out.up (show Bw wd _ from BWX)) (Mt.none_ _ _) (by omega) (HR2.out.up (show Bw m2 _ from BWX)) (by omega) (by omega) (by omega) HF1.out.2).mono ?_;rintro ee m3 ⟨t2,rfl,ht2,e1,e2,e3,hpl,hph,hb3,hMt,hrs,hsc⟩;have HT2:=Lib.hid ht2;have HE2:=Lib.hid (And.intro (e1.trans HE1.out.1) (e2.trans HE1.out.2));have HFN:=Lib.hid (fed_ne (show g < _ from Nat.lt_of_lt_of_le hgld (show Bw wd _ from BWX).size) hA1.out hH1.out hpl hph);have HK2:=Lib.hid (fed_full hC6 HVa.out HT1.out HE1.out.1 HE1.out.2 hMt hrs hsc);have hm3 : Bw wd m3:=Bw.trans (show Bw wd _ from BWX) hb3;have hzm3:=hm3.size;clear ht2 e1 e2 e3 hpl hph hMt hrs hsc hb3;go_wp2_with fail
   refine hK.out _ _ ?_ (fun hHeld => ?_)
   ·(try dsimp only);(first|exact Bw.grown (Bw.trans HBC.out (show Bw wd _ from BWX)) HG9.out (fun k hk => by cases hk;omega)|(refine Bw.trans HBC.out ?_;(repeat (first|with_reducible (first|assumption|exact Bw.refl _|refine Bw.alloc ?_ _|refine Bw.more ?_ _ _|refine Bw.drew ?_|refine Bw.drewN ?_ _)|((with_reducible refine Bw.set2 ?_ ?_ _);(focus exact SZX))|with_reducible refine Bw.trans ?_ (by assumption)));done))
   clear hK K
   (try simp only [Act.put,zP1,zP2,zP3,zP4,zP5,zP6])
   refine arO 4 (fun K hK => ?_)
   (refine (if_pos (by kernel_rfl)).mpr ?_);((with_reducible refine wp_store_tr t2 g (.tmp 7) (.tmp 35) ?_ ?_ ?_ ?_ ?_);(focus rfl);(focus rfl);(focus rfl);(focus (exact ⟨_,HST.out.up (show Bw wd _ from BWX),rfl⟩)));intro w9 hS9 hg9;have HS9:=Lib.hid hS9;have HG9:=Lib.hid hg9;clear hS9 hg9
   refine hK.out _ _ ?_ (fun hHeld => ?_)
   ·(try dsimp only);(first|exact Bw.grown (Bw.trans HBC.out (show Bw wd _ from BWX)) HG9.out (fun k hk => by cases hk;omega)|(refine Bw.trans HBC.out ?_;(repeat (first|with_reducible (first|assumption|exact Bw.refl _|refine Bw.alloc ?_ _|refine Bw.more ?_ _ _|refine Bw.drew ?_|refine Bw.drewN ?_ _)|((with_reducible refine Bw.set2 ?_ ?_ _);(focus exact SZX))|with_reducible refine Bw.trans ?_ (by assumption)));done))
   clear hK K
   (try simp only [Act.put,zP1,zP2,zP3,zP4,zP5,zP6])
   refine wpAnyH_done (by kernel_rfl) ?_ _
   go_wp2
   go_meet
   case rel => exact ⟨TmK.put (HST.out.up (show Bw wd _ from BWX)) (Trm.no8 t1) HFN.out.1 HFN.out.2 (HT2.out.up (show Bw m3 _ from BWX)) HE2.out.1 HE2.out.2 (HK2.out.1.up (show Bw m3 _ from BWX)) HK2.out.2 HG9.out HS9.out,Bw.grown (Bw.trans HBC.out (show Bw wd _ from BWX)) HG9.out (fun k hk => by cases hk;omega)⟩
  exact AllReadyH.nil
 case rest =>
 obtain ⟨w9,rfl⟩ : ∃ w9,w9 = wc:=⟨_,rfl⟩
 obtain ⟨hTM2,hbd⟩:=hcut
 have HBD:=Lib.hid hbd
 obtain ⟨t3,hs3,ht3,f1,f2,hm3,-⟩:=hTM2
 have HST3:=Lib.hid hs3
 have HE3:=Lib.hid (And.intro f1 f2)
 have HM3:=Lib.hid hm3
 have hg9':=hs3.lt
 have HX9:=Lib.hid (HXt.out.up hbd)
 clear hs3 ht3 f1 f2 hm3 hbd
 have HC10:=Lib.hid (show ∀ w',Bw w9 w' → (w'.cell? ⟨ka,0,none⟩ = some (.int .i64 (Rn : Int)) ∧ w'.cell? ⟨ka,1,none⟩ = some (.int .i64 (Cn : Int)) ∧ w'.cell? ⟨ka,2,none⟩ = some (.slice A1 n1 c1) ∧ w'.cell? ⟨ka,3,none⟩ = some (.int .i64 row) ∧ w'.cell? ⟨ka,4,none⟩ = some (.int .i64 col) ∧ w'.cell? ⟨ka,5,none⟩ = some (.bool hid)) from fun w' hb' => (by have hb:=Bw.trans HBD.out hb';exact ⟨(HKAt.out.up hb).cell 0 rfl,(HKAt.out.up hb).cell 1 rfl,(HKAt.out.up hb).cell 2 rfl,(HKAt.out.up hb).cell 3 rfl,(HKAt.out.up hb).cell 4 rfl,(HKAt.out.up hb).cell 5 rfl⟩))
 go_upto_region 10 with (fail)
 refine wp_region_held_drew (S:=(fun w' => Bw w9 w')) (by kernel_rfl) ?_ (fun hHeld => ?_)
 ·(try dsimp only);(repeat (first|with_reducible (first|assumption|exact Bw.refl _|refine Bw.alloc ?_ _|refine Bw.more ?_ _ _|refine Bw.drew ?_|refine Bw.drewN ?_ _)|((with_reducible refine Bw.set2 ?_ ?_ _);(focus exact SZX))|with_reducible refine Bw.trans ?_ (by assumption)))
 refine wpAnyH_take (i:=0) (v:=.agg t3.vals.toArray) rfl (by kernel_rfl) (by kernel_rfl) (by kernel_rfl) (fun _ _ _ h => h) (yields_load_tr t3 g (.tmp 7) rfl rfl (by rfl) (fun w' hb => HST3.out.up hb)) (by assumption) ?_
 (try simp only [Act.put,zP1,zP2,zP3,zP4,zP5,zP6])
 refine tkH 2 ?_ rfl (Or.inl ⟨by rfl,?ht2⟩) ?_;case ht2 => (intro w' hb;(try dsimp only at hb);have hcl:=HC10.out w' hb;clear hb;go_simp;try with_reducible rfl)
 (try simp only [Act.put,zP1,zP2,zP3,zP4,zP5,zP6])
 refine arO 1 (fun K hK => ?_)
 go_simp
 refine (rpane_any t3 _).mono ?_;rintro ee m4 ⟨rfl,hb4⟩;have hm4 : Bw w9 m4:=Bw.trans (show Bw w9 _ from BWX) hb4;clear hb4;go_wp2_with fail
 refine hK.out _ _ ?_ (fun hHeld => ?_)
 ·(try dsimp only);(repeat (first|with_reducible (first|assumption|exact Bw.refl _|refine Bw.alloc ?_ _|refine Bw.more ?_ _ _|refine Bw.drew ?_|refine Bw.drewN ?_ _)|((with_reducible refine Bw.set2 ?_ ?_ _);(focus exact SZX))|with_reducible refine Bw.trans ?_ (by assumption)))
 clear hK K
 (try simp only [Act.put,zP1,zP2,zP3,zP4,zP5,zP6])
 refine arO 3 (fun K hK => ?_)
 go_simp
 obtain ⟨s1,s2,s3,s4⟩:=shown HM3.out HE3.out.1 HE3.out.2;refine (gsameV_any t3.s.Rn t3.s.Cn t3.s.A t3.s.n t3.s.c cs t3.s.row t3.s.col t3.s.hid Rn Cn A1 n1 c1 cs row col hid _ (s1.up (show Bw w9 _ from BWX)) s2 s3 (HX9.out.up (show Bw w9 _ from BWX)) k2 k3).mono ?_;rintro ee m5 ⟨rfl,hb5⟩;rw [s4];have hm5 : Bw w9 m5:=Bw.trans (show Bw w9 _ from BWX) hb5;clear s1 s2 s3 s4 hb5;go_wp2_with fail
 refine hK.out _ _ ?_ (fun hHeld => ?_)
 ·(try dsimp only);(repeat (first|with_reducible (first|assumption|exact Bw.refl _|refine Bw.alloc ?_ _|refine Bw.more ?_ _ _|refine Bw.drew ?_|refine Bw.drewN ?_ _)|((with_reducible refine Bw.set2 ?_ ?_ _);(focus exact SZX))|with_reducible refine Bw.trans ?_ (by assumption)))
 clear hK K
 (try simp only [Act.put,zP1,zP2,zP3,zP4,zP5,zP6])
 refine tkQ 4 ?_
 (try simp only [Act.put,zP1,zP2,zP3,zP4,zP5,zP6])
 refine wpAnyH_done (by kernel_rfl) ?_ _
 go_wp2_with fail
 go_ret
 exact ⟨rfl,Bw.trans HWt.out (Bw.trans HBD.out (show Bw w9 _ from BWX))⟩
end Go.Proofs.YteebdjmjeahccaaGreatDoor
