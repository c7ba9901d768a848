/- Parts of the proof, one after the other. -/
import Derived.Test.YtkflooljdopldaaGreatV29
import Derived.Test.YtkflooljdopldaaGreatV30
import Derived.Test.YtkflooljdopldaaGreatV31
import Derived.Deep.RegionHeld3
import Derived.Deep.MidRow
set_option linter.unusedSimpArgs false
set_option linter.unusedVariables false
/- Screens: the program's Resize of a valid screen. -/
namespace Go.Proofs.YtkflooljdopldaaGreat
open Go.RowKit

/-- How many rows go away: those that the cursor's row is beyond the new height. -/
def rzN (s : Scr) (R : Nat) : Nat:=(s.row - ((R : Int) - 1)).toNat
def rz0 (s : Scr) (R : Nat) : Scr:={ s with row:=s.row - (rzN s R : Int) }
/-- A screen's numbers in the size R x C. -/
def rzS (s : Scr) (R C : Nat) : Scr:={ s with Rn:=R,Cn:=C,row:=s.row - (rzN s R : Int),col:=(if (C : Int) - 1 < s.col then (C : Int) - 1 else s.col),wrap:=false,top:=0,bot:=(R : Int) - 1,srow:=(if (R : Int) - 1 < s.srow then (R : Int) - 1 else s.srow),scol:=(if (C : Int) - 1 < s.scol then (C : Int) - 1 else s.scol),swrap:=false }
/-- A screen's cells with the rows scrolled away, and in the size R x C. -/
def rzQ (s : Scr) (cs : List C4) (R : Nat) : List C4:=scrollG s.Rn s.Cn cs 0 ((s.Rn : Int) - 1) (rzN s R) blk
def rzG (s : Scr) (cs : List C4) (R C : Nat) : List C4:=tab R C (resF s.Rn s.Cn (rzQ s cs R))
/-- The rows of a screen. -/
def rwF (s : Scr) (cs : List C4) (r : Nat) : List C4:=rowF s.Rn s.Cn cs r
theorem rz0_zero {s : Scr} {R : Nat} (h : rzN s R = 0) : rz0 s R = s:=by unfold rz0;rw [h];cases s;simp
theorem rzQ_zero {s : Scr} {cs : List C4} {R : Nat} (hg : gridB s.Rn s.Cn cs = true) (h : rzN s R = 0) : rzQ s cs R = cs:=by
 obtain ⟨h1,h2,h3,h4,h5⟩:=gridB_dim hg
 unfold rzQ scrollG
 rw [h]
 split
 ·rw [Int.toNat_natCast,Int.toNat_natCast]
  refine tab_same blk (by omega) (by rw [← Int.natCast_mul] at h5;omega) (fun r k hr hk => ?_)
  have e : clampS s.Rn ((0 : Nat) : Int) = 0:=by unfold clampS;rw [if_neg (by omega),if_neg (by omega)];rfl
  rw [e]
  unfold scrollF
  rw [if_pos (by omega),if_pos (by omega),Int.add_zero]
 ·rfl
theorem rzQ_rs {s : Scr} {cs : List C4} {R C : Nat} {rows cols : Int} (hg : gridB s.Rn s.Cn cs = true) (hR : clamp rows 30 = R) (hC : clamp cols 100 = C) : rsR s.Rn s.Cn (rzQ s cs R) rows = R ∧ rsC s.Rn s.Cn (rzQ s cs R) cols = C ∧ rsG s.Rn s.Cn (rzQ s cs R) rows cols = rzG s cs R C:=by
 have h : gridB s.Rn s.Cn (rzQ s cs R) = true:=scrollG_ok hg
 refine ⟨by unfold rsR;rw [if_pos h,hR],by unfold rsC;rw [if_pos h,hC],?_⟩
 unfold rsG
 rw [if_pos h,hR,hC,Int.toNat_natCast,Int.toNat_natCast,Int.toNat_natCast,Int.toNat_natCast]
 rfl
/-- The call returns the screen in the size R x C, and the rows that went away. -/
def RzP (w : World) (s : Scr) (cs : List C4) (R C : Nat) (e : Ending) (w' : World) : Prop :=
 ∃ A n c L k,e = .returned (.tuple #[.agg ((rzS s R C).gr A n c).vals.toArray,.slice L (rzN s R) k]) ∧ Rg w' A n (rzG s cs R C) ∧ n ≤ c ∧ c ≤ 9223372036854775807 ∧ LsF w' 0 L (rzN s R) k (rwF s cs) ∧ Bw w w'

set_option maxRecDepth 100000 in
set_option maxHeartbeats 1000000 in
theorem sresize_any (s : Scr) (cs : List C4) (rows cols : Int) (R C : Nat) (w : World) (hR : clamp rows 30 = R) (hC : clamp cols 100 = C) (hs : s.Ok w) (hr : Rg w s.A s.n cs) (hg : gridB s.Rn s.Cn cs = true) :
  Calls Tryz.prog 14 #[.agg s.vals.toArray,.int .i64 rows,.int .i64 cols] w (RzP w s cs R C):=by
 have HOK:=Lib.hid hs
 have HR:=Lib.hid hr
 have HGR:=Lib.hid hg
 have HS:=Lib.hid (rzQ_rs hg hR hC)
 have HN:=Lib.hid (show s.n ≤ s.c ∧ s.c ≤ 9223372036854775807 ∧ s.n ≤ 3000 from by
  obtain ⟨⟨h1,h2,h3,h4,h5,h6,h7,-⟩,-⟩:=hs
  exact ⟨h6,h7,by rw [h5];have:=Nat.mul_le_mul h2 h4;omega⟩)
 have HLT:=Lib.hid hs.1.lt
 have hcb:=clamp_bd rows 30 (by omega)
 have hcb2:=clamp_bd cols 100 (by omega)
 rw [hR] at hcb
 rw [hC] at hcb2
 obtain ⟨hR1,hR2⟩:=hcb
 obtain ⟨hC1,hC2⟩:=hcb2
 obtain ⟨hS1,hS2,hS3,hS4,-⟩:=gridB_dim hg
 have hrow0:=hs.num.2.1.1
 have hrow1:=hs.num.2.1.2.1
 have hcol0:=hs.num.2.1.2.2.1
 have hcol1:=hs.num.2.1.2.2.2
 have hsr0:=hs.num.2.2.2.2.1.1
 have hsr1:=hs.num.2.2.2.2.1.2.1
 have hsc0:=hs.num.2.2.2.2.1.2.2.1
 have hsc1:=hs.num.2.2.2.2.1.2.2.2
 have HK1:=Lib.hid (show clamp rows 30 = R ∧ clamp cols 100 = C from ⟨hR,hC⟩)
 clear hs hr hg hR hC
 go_enter Tryz.func14,Tryz.ntmps14
 go_upto_region 1 with (fail)
 generalize hwa : w.alloc (.cells s.vals.toArray 34) = wa
 obtain ⟨ha0,hbwa,hza⟩:=sb1 hwa
 generalize hw1 : wa.alloc _ = w1
 obtain ⟨hc0,hbwc,hzc⟩:=sb1 hw1
 rw [hza] at hc0
 have HA:=Lib.hid (ha0.up hbwc)
 have HT:=Lib.hid (show ∃ old,Sb w1 (w.heap.size + 1) old 34 ∧ old.size = 19 from ⟨_,hc0,rfl⟩)
 have hbw:=Bw.trans hbwa hbwc
 have hz1 : w.heap.size + 1 < w1.heap.size:=by omega
 clear hwa ha0 hbwa hza hw1 hc0 hbwc hzc
 go_upto_region 4 with (first
  | ((with_reducible refine wpList_load_sc s w.heap.size (.tmp 3) rfl rfl ?_ ?_ ?_);(focus rfl);(focus (exact HA.out)))
  | (go_at_call 11;refine (svalid_ok s _ (HOK.out.up (Bw.trans hbw BWX))).mono ?_;rintro ee w2 ⟨rfl,hb2⟩;have hbw2 : Bw w1 w2:=Bw.trans (show Bw w1 _ from BWX) hb2;clear hb2)
  | fail)
 have hz2:=hbw2.size
 go_upto_region 5 with (first
  | ((with_reducible refine wpList_load_sc s w.heap.size (.tmp 3) rfl rfl ?_ ?_ ?_);(focus rfl);(focus (exact HA.out.up hbw2)))
  | ((with_reducible refine wpList_build_cv s _ rfl rfl ?_ ?_);(focus rfl))
  | ((with_reducible refine wpList_store_cs 75 (cvV s none 0 0 false) w2.heap.size (.tmp 8) (.tmp 22) (infoCz s none 0 0 false) (cvV_one s none 0 0 false) rfl rfl ?_ ?_ ?_ ?_);(focus rfl);(focus rfl);(focus (exact ⟨_,heap_at (by simp),rfl⟩));intro w3 hS3 hg3;have HS3:=Lib.hid hS3;have hbw3 : Bw w2 w3:=Bw.grown (show Bw w2 _ from BWX) hg3 (fun k hk => by cases hk;omega);clear hS3 hg3)
  | fail)
 have hlt3:=HS3.out.lt
 obtain ⟨g,hg⟩ : ∃ g,g = w2.heap.size:=⟨_,rfl⟩
 rw [← hg] at HS3 hlt3 ⊢
 have hgz : w.heap.size + 1 < g:=by omega
 have HNE:=Lib.hid (show ∀ ad,s.A = some ad → some ad.block ≠ some g from fun ad e e2 => by have:=HLT.out ad e;have:=Option.some.inj e2;omega)
 have HBW3:=Lib.hid (Bw.trans hbw (Bw.trans hbw2 hbw3))
 have HA3:=Lib.hid (HA.out.up (Bw.trans hbw2 hbw3))
 have HT3:=Lib.hid (show ∃ old,Sb w3 (w.heap.size + 1) old 34 ∧ old.size = 19 from Exists.elim HT.out (fun old h => ⟨old,h.1.up (Bw.trans hbw2 hbw3),h.2⟩))
 clear hg hbw2 hbw3 HA HT hz2
 go_upto_region 6 with (first
  | (go_at_call 34;refine (gnew16_any _ _ _).mono ?_;rw [HK1.out.1,HK1.out.2];rintro ee w4 ⟨A0,n0,c0,rfl,-,-,-,-,hb4⟩;have hb34 : Bw w3 w4:=Bw.trans (show Bw w3 _ from BWX) hb4;clear hb4)
  | fail)
 have hz4:=hb34.size
 generalize hw5 : w4.alloc _ = w5
 obtain ⟨hb5,hbw5,hz5⟩:=sb1 hw5
 obtain ⟨gf,hgf⟩ : ∃ gf,gf = w4.heap.size:=⟨_,rfl⟩
 rw [← hgf] at hb5 ⊢
 have HF:=Lib.hid hb5
 have hltf:=hb5.lt
 have hgfg : g < gf:=by omega
 have HS5:=Lib.hid ((HS3.out.up hb34).up hbw5)
 have HA5:=Lib.hid ((HA3.out.up hb34).up hbw5)
 have HT5:=Lib.hid (show ∃ old,Sb w5 (w.heap.size + 1) old 34 ∧ old.size = 19 from Exists.elim HT3.out (fun old h => ⟨old,(h.1.up hb34).up hbw5,h.2⟩))
 have HBW5:=Lib.hid (Bw.trans HBW3.out (Bw.trans hb34 hbw5))
 have HR5:=Lib.hid (HR.out.up HBW5.out)
 have f0:=hb5.cell 0 (v:=.int .i64 (R : Int)) rfl
 have f1:=hb5.cell 1 (v:=.int .i64 (C : Int)) rfl
 have a3:=HA5.out.cell 3 (v:=.int .i64 s.row) rfl
 clear hw5 hb5 hbw5 hz5 hgf hb34 hz4 HS3 HA3 HT3 HBW3 hlt3
 have hltg:=HS5.out.lt
 obtain ⟨cs',hcs'⟩ : ∃ cs',rzQ s cs R = cs':=⟨_,rfl⟩
 have HCS:=Lib.hid hcs'
 clear hcs'
 rw [HCS.out] at HS
 go_upto_if 34 with (fail)
 go_cut [] (fun w' => ∃ A n c L k,Sb w' g (cvV ((rz0 s R).gr A n c) L (rzN s R) k false) 75 ∧ Rg w' A n cs' ∧ n ≤ c ∧ c ≤ 9223372036854775807 ∧ n ≤ 3000 ∧ (∀ ad,A = some ad → some ad.block ≠ some g) ∧ LsF w' 0 L (rzN s R) k (rwF s cs) ∧ w5.grownBy w' (some g))
 case first =>
  by_cases hlost : 0 < s.row - ((R : Int) - 1)
  ·have HRN:=Lib.hid (show ((rzN s R : Nat) : Int) = s.row - ((R : Int) - 1) from by unfold rzN;omega)
   go_upto_region 9 with (first
    | (go_at_call 35;refine (cvlose_rows s false cs (s.row - ((R : Int) - 1)) g _ (HS5.out.up BWX) (HR5.out.up BWX) HN.out.1 (by have:=HN.out.2.2;omega) HN.out.2.1 HNE.out (by omega) (by omega)).mono ?_;rintro ee w6 ⟨L,k,⟨rfl,hS6,hg6⟩,hL6⟩;have HS6:=Lib.hid hS6;have HG6:=Lib.hid ((grown_bw (show Bw w5 _ from BWX) _).trans hg6);have HL6:=Lib.hid hL6.zero;have hlt6:=hS6.lt;clear hS6 hg6 hL6)
    | fail)
   clear f0 f1 a3
   have HR6:=Lib.hid (HR5.out.far HG6.out HNE.out)
   have x0:=HS6.out.cell 0 (v:=.int .i64 (s.Rn : Int)) rfl
   have x1:=HS6.out.cell 1 (v:=.int .i64 (s.Cn : Int)) rfl
   have x2:=HS6.out.cell 2 (v:=.slice s.A s.n s.c) rfl
   have HY:=Lib.hid (show ∀ w',Bw w6 w' → (w'.cell? ⟨g,0,none⟩ = some (.int .i64 (s.Rn : Int)) ∧ w'.cell? ⟨g,1,none⟩ = some (.int .i64 (s.Cn : Int))) from fun w' hb => ⟨(HS6.out.up hb).cell 0 rfl,(HS6.out.up hb).cell 1 rfl⟩)
   have HYs:=Lib.hid (show ∀ (w' : World) (v : Value),Bw w6 w' → ((((w'.setCell ⟨g,0,none⟩ (.int .i64 (s.Rn : Int))).setCell ⟨g,1,none⟩ (.int .i64 (s.Cn : Int))).setCell ⟨g,2,none⟩ v).cell? ⟨g,0,none⟩ = some (.int .i64 (s.Rn : Int)) ∧ (((w'.setCell ⟨g,0,none⟩ (.int .i64 (s.Rn : Int))).setCell ⟨g,1,none⟩ (.int .i64 (s.Cn : Int))).setCell ⟨g,2,none⟩ v).cell? ⟨g,1,none⟩ = some (.int .i64 (s.Cn : Int))) from fun w' v h => ⟨((((HS6.out.up h).set 0 (.int .i64 (s.Rn : Int)) rfl).set 1 (.int .i64 (s.Cn : Int)) rfl).set 2 v rfl).cell 0 rfl,((((HS6.out.up h).set 0 (.int .i64 (s.Rn : Int)) rfl).set 1 (.int .i64 (s.Cn : Int)) rfl).set 2 v rfl).cell 1 rfl⟩)
   refine wp_region_held_drew (S:=(fun w' => w'.cell? ⟨g,0,none⟩ = some (.int .i64 (s.Rn : Int)) ∧ w'.cell? ⟨g,1,none⟩ = some (.int .i64 (s.Cn : Int)))) (by kernel_rfl) ?_ (fun hHeld => ?_)
   ·(try dsimp only);(first|(with_reducible exact HYs.out _ _ hbw8)|(refine HY.out _ ?_;exact BWX))
   refine tkQ 0 ?_
   refine tkQ 1 ?_
   refine tkQ 3 ?_
   (try simp only [Act.put,zP1,zP2,zP3,zP4,zP5,zP6])
   refine tkQ 4 ?_
   refine tkQ 5 ?_
   refine tkQ 6 ?_
   (try simp only [Act.put,zP1,zP2,zP3,zP4,zP5,zP6])
   refine tkQ 7 ?_
   refine tkQ 8 ?_
   refine tkQ 9 ?_
   (try simp only [Act.put,zP1,zP2,zP3,zP4,zP5,zP6])
   refine wpAnyH_ready (rs:=[2,10]) (by kernel_rfl) (by simp) ?_
   refine AllReadyH.cons rfl (fun K hK => ?_) ?_
   ·go_simp
    refine hK.out _ _ ?_ (fun hHeld => ?_)
    ·(try dsimp only);(first|(with_reducible exact HYs.out _ _ hbw8)|(refine HY.out _ ?_;exact BWX))
    clear hK K
    (try simp only [Act.put,zP1,zP2,zP3,zP4,zP5,zP6])
    refine wpAnyH_ready (rs:=[10]) (by kernel_rfl) (by simp) ?_
    refine AllReadyH.cons rfl (fun K hK => ?_) ?_
    ·go_simp
     refine (gblank_any 0 0 0 _).mono ?_;rintro ee w7 ⟨rfl,hb7⟩;have hbw7 : Bw w6 w7:=Bw.trans (show Bw w6 _ from BWX) hb7;clear hb7;have HB7:=Lib.hid (HS6.out.up hbw7);have hz7:=hbw7.size;(try clear x0 x1 x2);have x0:=HB7.out.cell 0 (v:=.int .i64 (s.Rn : Int)) rfl;have x1:=HB7.out.cell 1 (v:=.int .i64 (s.Cn : Int)) rfl;have x2:=HB7.out.cell 2 (v:=.slice s.A s.n s.c) rfl;go_wp2_with fail
     refine hK.out _ _ ?_ (fun hHeld => ?_)
     ·(try dsimp only);(first|(with_reducible exact HYs.out _ _ hbw8)|(refine HY.out _ ?_;exact BWX))
     clear hK K
     (try simp only [Act.put,zP1,zP2,zP3,zP4,zP5,zP6])
     refine wpAnyH_ready (rs:=[11]) (by kernel_rfl) (by simp) ?_
     refine AllReadyH.cons rfl (fun K hK => ?_) ?_
     ·go_simp
      rw [show IntKind.i64.wrap ((s.Rn : Int) - 1) = (s.Rn : Int) - 1 from IntWalk.i64_in _ (by omega)];refine (gscroll_any s.Rn s.Cn s.A s.n s.c cs 0 ((s.Rn : Int) - 1) (s.row - ((R : Int) - 1)) 32 0 0 0 _ (HR6.out.up BWX) HN.out.1 (by have:=HN.out.2.2;omega) HN.out.2.1).mono ?_;rintro ee w8 ⟨A,n,c,rfl,hr8,hn8,hc8,hA8,hb8⟩;have hbw8 : Bw w6 w8:=Bw.trans (show Bw w6 _ from BWX) hb8;have HR8:=Lib.hid hr8;have HNW:=Lib.hid (show ∀ ad,A = some ad → w6.heap.size ≤ ad.block from fun ad e => by have h1:=hA8 ad e;have h2:=(show Bw w6 w7 from hbw7).size;first|omega|(simp only [szA,szS,szD,szN] at h1;omega));have HB8:=Lib.hid (HS6.out.up hbw8);have hz8:=hbw8.size;have z0:=HB8.out.free 0;have z1:=HB8.out.free 1;have z2:=HB8.out.free 2;have y0:=HB8.out.cell 0 (v:=.int .i64 (s.Rn : Int)) rfl;have y1:=HB8.out.cell 1 (v:=.int .i64 (s.Cn : Int)) rfl;have y2:=HB8.out.cell 2 (v:=.slice s.A s.n s.c) rfl;clear hr8 hA8 hb8;go_wp2_with fail
      refine hK.out _ _ ?_ (fun hHeld => ?_)
      ·(try dsimp only);(first|(with_reducible exact HYs.out _ _ hbw8)|(refine HY.out _ ?_;exact BWX))
      clear hK K
      (try simp only [Act.put,zP1,zP2,zP3,zP4,zP5,zP6])
      refine tkQ 12 ?_
      refine tkQ 13 ?_
      (try simp only [Act.put,zP1,zP2,zP3,zP4,zP5,zP6])
      refine wpAnyH_ready (rs:=[14]) (by kernel_rfl) (by simp) ?_
      refine AllReadyH.cons rfl (fun K hK => ?_) ?_
      ·go_simp
       refine hK.out _ _ ?_ (fun hHeld => ?_)
       ·(try dsimp only);(first|(with_reducible exact HYs.out _ _ hbw8)|(refine HY.out _ ?_;exact BWX))
       clear hK K
       (try simp only [Act.put,zP1,zP2,zP3,zP4,zP5,zP6])
       refine wpAnyH_done (by kernel_rfl) ?_ _
       generalize hw9 : ((w8.setCell ⟨g,0,none⟩ (.int .i64 (s.Rn : Int))).setCell ⟨g,1,none⟩ (.int .i64 (s.Cn : Int))).setCell ⟨g,2,none⟩ (.slice A n c) = w9
       have HS9:=Lib.hid (show Sb w9 g (cvV (s.gr A n c) L (s.row - ((R : Int) - 1)).toNat k false) 75 from by rw [← hw9];exact ((HB8.out.set 0 _ rfl).set 1 _ rfl).set 2 _ rfl)
       have HG9:=Lib.hid (show w6.grownBy w9 (some g) from by rw [← hw9];exact grown_set (grown_set (grown_set (grown_bw hbw8 _) 0 _) 1 _) 2 _)
       have HNN:=Lib.hid (show ∀ ad,A = some ad → some ad.block ≠ some g from fun ad e e2 => by have:=HNW.out ad e;have:=Option.some.inj e2;omega)
       have HR9:=Lib.hid (show Rg w9 A n _ from by rw [← hw9];exact HR8.out.far (grown_set (grown_set (grown_set (grown_refl _ _) 0 _) 1 _) 2 _) HNN.out)
       have x3:=HS9.out.cell 3 (v:=.int .i64 s.row) rfl
       have z3:=HS9.out.free 3
       have hlt9:=HS9.out.lt
       clear hw9 y0 y1 y2 z0 z1 z2
       go_wp2_with fail
       go_meet
       case rel =>
        have e1 : (rzN s R : Int) = s.row - ((R : Int) - 1):=HRN.out
        have hg9:=grown_set (grown_refl w9 (some g)) 3 (.int .i64 (s.row - (s.row - ((R : Int) - 1))))
        refine ⟨A,n,c,L,k,?_,?_,hn8,hc8,?_,HNN.out,?_,?_⟩
        ·exact HS9.out.set 3 _ (by rw [← e1];rfl)
        ·rw [← HCS.out];unfold rzQ;rw [e1];exact HR9.out.far hg9 HNN.out
        ·have h1:=HR9.out.1;rw [scrollG_len] at h1;have h2:=HR.out.1;have h3:=HN.out.2.2;omega
        ·exact ((HL6.out.far HG9.out (sb_tyN HS6.out) (by decide) (by decide)).far hg9 (sb_tyN HS9.out) (by decide) (by decide))
        ·exact HG6.out.trans (HG9.out.trans hg9)
      exact AllReadyH.nil
     exact AllReadyH.nil
    exact AllReadyH.nil
   refine AllReadyH.cons rfl (fun K hK => ?_) ?_
   ·go_simp
    refine (gblank_any 0 0 0 _).mono ?_;rintro ee w7 ⟨rfl,hb7⟩;have hbw7 : Bw w6 w7:=Bw.trans (show Bw w6 _ from BWX) hb7;clear hb7;have HB7:=Lib.hid (HS6.out.up hbw7);have hz7:=hbw7.size;(try clear x0 x1 x2);have x0:=HB7.out.cell 0 (v:=.int .i64 (s.Rn : Int)) rfl;have x1:=HB7.out.cell 1 (v:=.int .i64 (s.Cn : Int)) rfl;have x2:=HB7.out.cell 2 (v:=.slice s.A s.n s.c) rfl;go_wp2_with fail
    refine hK.out _ _ ?_ (fun hHeld => ?_)
    ·(try dsimp only);(first|(with_reducible exact HYs.out _ _ hbw8)|(refine HY.out _ ?_;exact BWX))
    clear hK K
    (try simp only [Act.put,zP1,zP2,zP3,zP4,zP5,zP6])
    refine wpAnyH_ready (rs:=[2]) (by kernel_rfl) (by simp) ?_
    refine AllReadyH.cons rfl (fun K hK => ?_) ?_
    ·go_simp
     refine hK.out _ _ ?_ (fun hHeld => ?_)
     ·(try dsimp only);(first|(with_reducible exact HYs.out _ _ hbw8)|(refine HY.out _ ?_;exact BWX))
     clear hK K
     (try simp only [Act.put,zP1,zP2,zP3,zP4,zP5,zP6])
     refine wpAnyH_ready (rs:=[11]) (by kernel_rfl) (by simp) ?_
     refine AllReadyH.cons rfl (fun K hK => ?_) ?_
     ·go_simp
      rw [show IntKind.i64.wrap ((s.Rn : Int) - 1) = (s.Rn : Int) - 1 from IntWalk.i64_in _ (by omega)];refine (gscroll_any s.Rn s.Cn s.A s.n s.c cs 0 ((s.Rn : Int) - 1) (s.row - ((R : Int) - 1)) 32 0 0 0 _ (HR6.out.up BWX) HN.out.1 (by have:=HN.out.2.2;omega) HN.out.2.1).mono ?_;rintro ee w8 ⟨A,n,c,rfl,hr8,hn8,hc8,hA8,hb8⟩;have hbw8 : Bw w6 w8:=Bw.trans (show Bw w6 _ from BWX) hb8;have HR8:=Lib.hid hr8;have HNW:=Lib.hid (show ∀ ad,A = some ad → w6.heap.size ≤ ad.block from fun ad e => by have h1:=hA8 ad e;have h2:=(show Bw w6 w7 from hbw7).size;first|omega|(simp only [szA,szS,szD,szN] at h1;omega));have HB8:=Lib.hid (HS6.out.up hbw8);have hz8:=hbw8.size;have z0:=HB8.out.free 0;have z1:=HB8.out.free 1;have z2:=HB8.out.free 2;have y0:=HB8.out.cell 0 (v:=.int .i64 (s.Rn : Int)) rfl;have y1:=HB8.out.cell 1 (v:=.int .i64 (s.Cn : Int)) rfl;have y2:=HB8.out.cell 2 (v:=.slice s.A s.n s.c) rfl;clear hr8 hA8 hb8;go_wp2_with fail
      refine hK.out _ _ ?_ (fun hHeld => ?_)
      ·(try dsimp only);(first|(with_reducible exact HYs.out _ _ hbw8)|(refine HY.out _ ?_;exact BWX))
      clear hK K
      (try simp only [Act.put,zP1,zP2,zP3,zP4,zP5,zP6])
      refine tkQ 12 ?_
      (try simp only [Act.put,zP1,zP2,zP3,zP4,zP5,zP6])
      refine tkQ 13 ?_
      (try simp only [Act.put,zP1,zP2,zP3,zP4,zP5,zP6])
      refine wpAnyH_ready (rs:=[14]) (by kernel_rfl) (by simp) ?_
      refine AllReadyH.cons rfl (fun K hK => ?_) ?_
      ·go_simp
       refine hK.out _ _ ?_ (fun hHeld => ?_)
       ·(try dsimp only);(first|(with_reducible exact HYs.out _ _ hbw8)|(refine HY.out _ ?_;exact BWX))
       clear hK K
       (try simp only [Act.put,zP1,zP2,zP3,zP4,zP5,zP6])
       refine wpAnyH_done (by kernel_rfl) ?_ _
       generalize hw9 : ((w8.setCell ⟨g,0,none⟩ (.int .i64 (s.Rn : Int))).setCell ⟨g,1,none⟩ (.int .i64 (s.Cn : Int))).setCell ⟨g,2,none⟩ (.slice A n c) = w9
       have HS9:=Lib.hid (show Sb w9 g (cvV (s.gr A n c) L (s.row - ((R : Int) - 1)).toNat k false) 75 from by rw [← hw9];exact ((HB8.out.set 0 _ rfl).set 1 _ rfl).set 2 _ rfl)
       have HG9:=Lib.hid (show w6.grownBy w9 (some g) from by rw [← hw9];exact grown_set (grown_set (grown_set (grown_bw hbw8 _) 0 _) 1 _) 2 _)
       have HNN:=Lib.hid (show ∀ ad,A = some ad → some ad.block ≠ some g from fun ad e e2 => by have:=HNW.out ad e;have:=Option.some.inj e2;omega)
       have HR9:=Lib.hid (show Rg w9 A n _ from by rw [← hw9];exact HR8.out.far (grown_set (grown_set (grown_set (grown_refl _ _) 0 _) 1 _) 2 _) HNN.out)
       have x3:=HS9.out.cell 3 (v:=.int .i64 s.row) rfl
       have z3:=HS9.out.free 3
       have hlt9:=HS9.out.lt
       clear hw9 y0 y1 y2 z0 z1 z2
       go_wp2_with fail
       go_meet
       case rel =>
        have e1 : (rzN s R : Int) = s.row - ((R : Int) - 1):=HRN.out
        have hg9:=grown_set (grown_refl w9 (some g)) 3 (.int .i64 (s.row - (s.row - ((R : Int) - 1))))
        refine ⟨A,n,c,L,k,?_,?_,hn8,hc8,?_,HNN.out,?_,?_⟩
        ·exact HS9.out.set 3 _ (by rw [← e1];rfl)
        ·rw [← HCS.out];unfold rzQ;rw [e1];exact HR9.out.far hg9 HNN.out
        ·have h1:=HR9.out.1;rw [scrollG_len] at h1;have h2:=HR.out.1;have h3:=HN.out.2.2;omega
        ·exact ((HL6.out.far HG9.out (sb_tyN HS6.out) (by decide) (by decide)).far hg9 (sb_tyN HS9.out) (by decide) (by decide))
        ·exact HG6.out.trans (HG9.out.trans hg9)
      exact AllReadyH.nil
     exact AllReadyH.nil
    exact AllReadyH.nil
   exact AllReadyH.nil
  ·have HRN:=Lib.hid (show rzN s R = 0 from by unfold rzN;omega)
   go_wp2_with fail
   go_meet
   case rel => exact ⟨s.A,s.n,s.c,none,0,by rw [HRN.out,rz0_zero HRN.out];exact HS5.out,by rw [← HCS.out,rzQ_zero HGR.out HRN.out];exact HR5.out,HN.out.1,HN.out.2.1,HN.out.2.2,HNE.out,by rw [HRN.out];exact LsF.nil_ _ _ _,grown_refl _ _⟩
 case rest =>
 obtain ⟨A1,n1,c1,L,k,hSc,hRc,hnc,hcc,hn3c,hnec,hLc,hgc⟩:=hcut
 have HSc:=Lib.hid hSc
 have HRc:=Lib.hid hRc
 have HNEc:=Lib.hid hnec
 have HLc:=Lib.hid hLc
 have HGc:=Lib.hid hgc
 have hgne : some gf ≠ some g:=fun e => by have:=Option.some.inj e;omega
 have HFc:=Lib.hid (HF.out.far hgc hgne)
 have hltc:=hSc.lt
 have hzc:=hgc.size
 clear hSc hRc hnec hLc hgc f0 f1 a3
 obtain ⟨m,hm⟩ : ∃ m,rzN s R = m:=⟨_,rfl⟩
 have x0:=HSc.out.cell 0 (v:=.int .i64 (s.Rn : Int)) rfl
 have x1:=HSc.out.cell 1 (v:=.int .i64 (s.Cn : Int)) rfl
 have x2:=HSc.out.cell 2 (v:=.slice A1 n1 c1) rfl
 clear hm m
 go_upto_region 12 with (first
  | (go_at_call 38;refine (gresize_any s.Rn s.Cn A1 n1 c1 cs' rows cols _ (HRc.out.up BWX) hnc (by omega) hcc).mono ?_;rw [HS.out.1,HS.out.2.1,HS.out.2.2];rintro ee w6 ⟨A,n,c,rfl,hr6,hn6,hc6,hA6,hb6⟩;have hb56 : Bw wc w6:=Bw.trans (show Bw wc _ from BWX) hb6;have HR6:=Lib.hid hr6;have HA6:=Lib.hid hA6;have HS6:=Lib.hid (HSc.out.up hb56);have y0:=HS6.out.cell 0 (v:=.int .i64 (s.Rn : Int)) rfl;have y1:=HS6.out.cell 1 (v:=.int .i64 (s.Cn : Int)) rfl;have y2:=HS6.out.cell 2 (v:=.slice A1 n1 c1) rfl;have z0:=HS6.out.free 0;have z1:=HS6.out.free 1;have z2:=HS6.out.free 2;have hsz5:=(show Bw wc _ from BWX).size;clear hr6 hA6 hb6 x0 x1 x2)
  | fail)
 generalize hw7 : ((w6.setCell ⟨g,0,none⟩ (.int .i64 (R : Int))).setCell ⟨g,1,none⟩ (.int .i64 (C : Int))).setCell ⟨g,2,none⟩ (.slice A n c) = w7
 have HS7:=Lib.hid (show Sb w7 g (cvV ({ rz0 s R with Rn:=R,Cn:=C,A:=A,n:=n,c:=c } : Scr) L (rzN s R) k false) 75 from by rw [← hw7];exact ((HS6.out.set 0 _ rfl).set 1 _ rfl).set 2 _ rfl)
 have HGc7:=Lib.hid (show wc.grownBy w7 (some g) from by rw [← hw7];exact grown_set (grown_set (grown_set (grown_bw hb56 _) 0 _) 1 _) 2 _)
 have HNA:=Lib.hid (show ∀ ad,A = some ad → wc.heap.size ≤ ad.block from fun ad e => by have h1:=HA6.out ad e;first|exact h1|(simp only [szA,szS,szD,szN] at h1;omega))
 have HR7:=Lib.hid (show Rg w7 A n (rzG s cs R C) from by rw [← hw7];exact HR6.out.far (grown_set (grown_set (grown_set (grown_refl _ _) 0 _) 1 _) 2 _) (fun ad e e2 => by have:=HNA.out ad e;have:=Option.some.inj e2;omega))
 have HF7:=Lib.hid (HFc.out.far HGc7.out hgne)
 have HL7:=Lib.hid (HLc.out.far HGc7.out (sb_tyN HSc.out) (by decide) (by decide))
 have hlt7:=HS7.out.lt
 have hltf7:=HF7.out.lt
 have f0:=HF7.out.cell 0 (v:=.int .i64 (R : Int)) rfl
 have f1:=HF7.out.cell 1 (v:=.int .i64 (C : Int)) rfl
 have x4:=HS7.out.cell 4 (v:=.int .i64 s.col) rfl
 have v4:=HS7.out.free 4
 have x5:=HS7.out.cell 5 (v:=.bool s.wrap) rfl
 have v5:=HS7.out.free 5
 have x9:=HS7.out.cell 9 (v:=.int .i64 s.top) rfl
 have v9:=HS7.out.free 9
 have x10:=HS7.out.cell 10 (v:=.int .i64 s.bot) rfl
 have v10:=HS7.out.free 10
 have x11:=HS7.out.cell 11 (v:=.int .i64 s.srow) rfl
 have v11:=HS7.out.free 11
 have x12:=HS7.out.cell 12 (v:=.int .i64 s.scol) rfl
 have v12:=HS7.out.free 12
 have x13:=HS7.out.cell 13 (v:=.bool s.swrap) rfl
 have v13:=HS7.out.free 13
 clear hw7 y0 y1 y2 z0 z1 z2 HS6 HA6 hltf
 go_upto_region 16 with (fail)
 clear f0 f1 x4 x5 x9 x10 x11 x12 x13 v4 v5 v9 v10 v11 v12 v13
 generalize hw8 : ((((((w7.setCell ⟨g,4,none⟩ _).setCell ⟨g,5,none⟩ _).setCell ⟨g,11,none⟩ _).setCell ⟨g,12,none⟩ _).setCell ⟨g,13,none⟩ _).setCell ⟨g,9,none⟩ _).setCell ⟨g,10,none⟩ _ = w8
 have HS8:=Lib.hid (show Sb w8 g (cvV ((rzS s R C).gr A n c) L (rzN s R) k false) 75 from by rw [← hw8];exact ((((((HS7.out.set 4 _ rfl).set 5 _ rfl).set 11 _ rfl).set 12 _ rfl).set 13 _ rfl).set 9 _ rfl).set 10 _ rfl)
 have hg78 : w7.grownBy w8 (some g):=by rw [← hw8];exact grown_set (grown_set (grown_set (grown_set (grown_set (grown_set (grown_set (grown_refl _ _) 4 _) 5 _) 11 _) 12 _) 13 _) 9 _) 10 _
 have HG8:=Lib.hid (HGc.out.trans (HGc7.out.trans hg78))
 have HR8:=Lib.hid (HR7.out.far hg78 (fun ad e e2 => by have:=HNA.out ad e;have:=Option.some.inj e2;omega))
 have HL8:=Lib.hid (HL7.out.far hg78 (sb_tyN HS7.out) (by decide) (by decide))
 have hgt : some (w.heap.size + 1) ≠ some g:=fun e => by have:=Option.some.inj e;omega
 have HT8:=Lib.hid (show ∃ old,Sb w8 (w.heap.size + 1) old 34 ∧ old.size = 19 from Exists.elim HT5.out (fun old h => ⟨old,h.1.far HG8.out hgt,h.2⟩))
 have hlt8:=HS8.out.lt
 have HY:=Lib.hid (show ∀ w',Bw w8 w' → (w'.cell? ⟨g,19,none⟩ = some (.slice L (rzN s R) k)) from fun w' hb => (HS8.out.up hb).cell 19 rfl)
 clear hw8 HS7 HR7 HF7 hg78 hlt7 hltf7
 refine wp_region_held_drew (S:=(fun w' => w'.cell? ⟨g,19,none⟩ = some (.slice L (rzN s R) k))) (by kernel_rfl) ?_ (fun hHeld => ?_)
 ·(try dsimp only);(first|exact cell_far (HY.out _ (Bw.refl _)) HG9.out (fun e => hgt e.symm)|(refine HY.out _ ?_;exact BWX))
 refine tkQ 0 ?_
 refine tkQ 2 ?_
 (try simp only [Act.put,zP1,zP2,zP3,zP4,zP5,zP6])
 refine tkQ 3 ?_
 (try simp only [Act.put,zP1,zP2,zP3,zP4,zP5,zP6])
 refine wpAnyH_ready (rs:=[1]) (by kernel_rfl) (by simp) ?_
 refine AllReadyH.cons rfl (fun K hK => ?_) ?_
 ·(refine (if_pos (by kernel_rfl)).mpr ?_);(refine wp_load_mid 34 (.tmp 107) ?ho g 0 ?_ ((rzS s R C).gr A n c).vals _ (cvRange (HS8.out.up ?hb)) Tryz.underlying34 rfl infoSc ?_);(case ho => rfl);(focus rfl);(case hb => ((repeat (first|with_reducible (first|assumption|exact Bw.refl _|refine Bw.alloc ?_ _|refine Bw.more ?_ _ _|refine Bw.drew ?_|refine Bw.drewN ?_ _)|((with_reducible refine Bw.set2 ?_ ?_ _);(focus exact SZX))|with_reducible refine Bw.trans ?_ (by assumption)));done))
  refine hK.out _ _ ?_ (fun hHeld => ?_)
  ·(try dsimp only);(first|exact cell_far (HY.out _ (Bw.refl _)) HG9.out (fun e => hgt e.symm)|(refine HY.out _ ?_;exact BWX))
  clear hK K
  (try simp only [Act.put,zP1,zP2,zP3,zP4,zP5,zP6])
  refine wpAnyH_ready (rs:=[4]) (by kernel_rfl) (by simp) ?_
  refine AllReadyH.cons rfl (fun K hK => ?_) ?_
  ·(refine (if_pos (by kernel_rfl)).mpr ?_);(with_reducible refine wp_store_sc ((rzS s R C).gr A n c) (w.heap.size + 1) (.tmp 6) (.tmp 108) ?ho2 ?_ ?_ ?_ ?_);(case ho2 => rfl);(focus rfl);(focus rfl);(focus (exact Exists.elim HT8.out (fun old h => ⟨old,h.1.up BWX,h.2⟩)));intro w9 hS9 hg9;have HS9:=Lib.hid hS9;have HG9:=Lib.hid ((grown_bw (show Bw w8 _ from BWX) _).trans hg9);clear hS9 hg9
   refine hK.out _ _ ?_ (fun hHeld => ?_)
   ·(try dsimp only);(first|exact cell_far (HY.out _ (Bw.refl _)) HG9.out (fun e => hgt e.symm)|(refine HY.out _ ?_;exact BWX))
   clear hK K
   (try simp only [Act.put,zP1,zP2,zP3,zP4,zP5,zP6])
   refine wpAnyH_ready (rs:=[5]) (by kernel_rfl) (by simp) ?_
   refine AllReadyH.cons rfl (fun K hK => ?_) ?_
   ·go_simp
    refine hK.out _ _ ?_ (fun hHeld => ?_)
    ·(try dsimp only);(first|exact cell_far (HY.out _ (Bw.refl _)) HG9.out (fun e => hgt e.symm)|(refine HY.out _ ?_;exact BWX))
    clear hK K
    (try simp only [Act.put,zP1,zP2,zP3,zP4,zP5,zP6])
    refine wpAnyH_done (by kernel_rfl) ?_ _
    go_wp2_with fail
    all_goals
     refine bodyPost_ret (results_sc2 rfl _ _ (w.heap.size + 1) ((rzS s R C).gr A n c) (by rfl) HS9.out) rfl ?_
     have hz:=HBW5.out.size
     obtain ⟨old,hso,-⟩:=HT8.out
     refine ⟨A,n,c,L,k,rfl,?_,hn6,hc6,HL8.out.far HG9.out (sb_tyN hso) (by decide) (by decide),?_⟩
     ·exact HR8.out.far HG9.out (fun ad e e2 => by have:=HNA.out ad e;have:=Option.some.inj e2;omega)
     ·exact Bw.grown (Bw.grown HBW5.out HG8.out (fun k hk => by cases hk;omega)) HG9.out (fun k hk => by cases hk;omega)
   exact AllReadyH.nil
  exact AllReadyH.nil
 exact AllReadyH.nil
end Go.Proofs.YtkflooljdopldaaGreat
