/- Parts of the proof, one after the other. -/
import Derived.Test.YteebdjmjeahccaaGreatDoorC47
import Derived.Test.YteebdjmjeahccaaGreatDoorC44
import Derived.Test.YteebdjmjeahccaaGreatDoorC46
import Derived.Deep.RegionHeld3
import Derived.Test.YteebdjmjeahccaaGreatDoorC48
set_option linter.unusedSimpArgs false
set_option linter.unusedVariables false
set_option maxRecDepth 100000
set_option maxHeartbeats 16000000
namespace Go.Proofs.YteebdjmjeahccaaGreatDoor
open Go.RowKit
/-- A view, as it lies in memory and as it reads. -/
structure VT where
 A : Option Addr
 n : Nat
 c : Nat
 cs : List C4
 row : Int
 col : Int
 hid : Bool
/-- A valid view of R x C, where it reads. -/
def VT.Ok (w : World) (Rn Cn : Nat) (v : VT) : Prop:=Rg w v.A v.n v.cs ∧ v.n ≤ v.c ∧ v.c ≤ 9223372036854775807 ∧ v.n ≤ 60 ∧ viewB Rn Cn v.cs v.row v.col = true
theorem VT.Ok.rgn {w w' : World} {Rn Cn : Nat} {v : VT} {A : Option Addr} {n c : Nat} {cs : List C4} {row col : Int} {hid : Bool} (h : v.Ok w Rn Cn) (e : v = ⟨A,n,c,cs,row,col,hid⟩) (hb : Bw w w') : Rg w' A n cs:=by
 subst e
 exact h.1.up hb
/-- What is known of a screen that shows it. -/
def VT.kn (v : VT) : Kn:=knV v.cs v.row v.col v.hid
/-- At place i of a list of pairs lie two views. -/
def PAt (w : World) (g i Rn Cn : Nat) (o n : VT) : Prop:=w.cell? ⟨g,i * 12,none⟩ = some (.int .i64 (Rn : Int)) ∧ w.cell? ⟨g,i * 12 + 1,none⟩ = some (.int .i64 (Cn : Int)) ∧ w.cell? ⟨g,i * 12 + 2,none⟩ = some (.slice o.A o.n o.c) ∧ w.cell? ⟨g,i * 12 + 3,none⟩ = some (.int .i64 o.row) ∧ w.cell? ⟨g,i * 12 + 4,none⟩ = some (.int .i64 o.col) ∧ w.cell? ⟨g,i * 12 + 5,none⟩ = some (.bool o.hid) ∧ w.cell? ⟨g,i * 12 + 6,none⟩ = some (.int .i64 (Rn : Int)) ∧ w.cell? ⟨g,i * 12 + 7,none⟩ = some (.int .i64 (Cn : Int)) ∧ w.cell? ⟨g,i * 12 + 8,none⟩ = some (.slice n.A n.n n.c) ∧ w.cell? ⟨g,i * 12 + 9,none⟩ = some (.int .i64 n.row) ∧ w.cell? ⟨g,i * 12 + 10,none⟩ = some (.int .i64 n.col) ∧ w.cell? ⟨g,i * 12 + 11,none⟩ = some (.bool n.hid)
/-- The views in the order in which they are shown. -/
def pairV (a b c : VT) : Nat → VT
 | 0 => a
 | 1 => b
 | 2 => c
 | _ => a
theorem follows_any (A : Option Addr) (n c : Nat) (xs : List Int) (Am : Option Addr) (nm cm : Nat) (xm : List Int) (w : World) (hr : RdI w A n xs) (hA : 0 < n → ∀ ad,A = some ad → ad.block < w.heap.size) (hn : n ≤ 9223372036854775807) (hrm : RdI w Am nm xm) (hAm : 0 < nm → ∀ ad,Am = some ad → ad.block < w.heap.size) (hnm : nm ≤ 9223372036854775807) (hP : PowT w.heap.size w) :
  Calls Tryz.prog 5 #[.slice A n c,.slice Am nm cm] w fun e w' => e = .returned (.bool true) ∧ Bw w w':=by
 have HRM:=Lib.hid hrm
 have HAM:=Lib.hid hAm
 clear hrm hAm
 have HR:=Lib.hid hr
 have HAA:=Lib.hid hA
 have HP:=Lib.hid hP
 clear hr hA hP
 go_enter Tryz.func5,Tryz.ntmps5
 go_upto_region 3 with (first
  | (go_at_call 8;refine (sane20_any w HP.out).mono ?_;rintro ee w1 ⟨rfl,hb1⟩;have HB1:=Lib.hid hb1;have hz1:=hb1.size;clear hb1)
  | fail)
 go_upto_region 4 with (first
  | (go_at_call 9;refine (views_any A n c xs _ (HR.out.up HAA.out (Bw.trans HB1.out (show Bw w1 _ from BWX))) (fun h0 ad e => by have:=HAA.out h0 ad e;have:=HB1.out.size;omega) hn).mono ?_;rintro ee w2 ⟨R,C,x,y,rfl,⟨A1,n1,c1,cs,row,col,hid,rfl,k1,k2,k3,k4,k5⟩,⟨A2,n2,c2,ds,row2,col2,hid2,rfl,l1,l2,l3,l4,l5⟩,⟨hR5,hC9⟩,hb2⟩;have HB2:=Lib.hid (Bw.trans HB1.out (Bw.trans (show Bw w1 _ from BWX) hb2));have HX:=Lib.hid k1;have HY:=Lib.hid l1;have HVa:=Lib.hid k5;have HVb:=Lib.hid l5;clear k1 k5 l1 l5 hb2)
  | fail)
 obtain ⟨hR1,hR2,hC1,hC2,-⟩:=viewB_dim HVa.out
 obtain ⟨Rn,rfl⟩ : ∃ Rn : Nat,R = Rn:=⟨R.toNat,by omega⟩
 obtain ⟨Cn,rfl⟩ : ∃ Cn : Nat,C = Cn:=⟨C.toNat,by omega⟩
 have hlx:=HX.out.1
 have hly:=HY.out.1
 have hC6 : Cn ≤ 60:=by have:=viewB_small HVa.out (by omega);omega
 generalize hwa : w2.alloc _ = wa
 obtain ⟨hka,hba,hza⟩:=sb1 hwa
 generalize hwb : wa.alloc _ = wb
 obtain ⟨hkb,hbb,hzb⟩:=sb1 hwb
 rw [hza] at hkb
 obtain ⟨ka,hka2⟩ : ∃ ka,ka = w2.heap.size:=⟨_,rfl⟩
 obtain ⟨kb,hkb2⟩ : ∃ kb,kb = w2.heap.size + 1:=⟨_,rfl⟩
 rw [← hkb2] at hkb ⊢
 rw [← hka2] at hka ⊢
 have HKA:=Lib.hid (show Sb wb ka (vwV (Rn : Int) (Cn : Int) A1 n1 c1 row col hid) 27 from hka.up hbb)
 have HKB:=Lib.hid (show Sb wb kb (vwV (Rn : Int) (Cn : Int) A2 n2 c2 row2 col2 hid2) 27 from hkb)
 have hb2b:=Bw.trans hba hbb
 have HXb:=Lib.hid (HX.out.up hb2b)
 have HYb:=Lib.hid (HY.out.up hb2b)
 have HBb:=Lib.hid (Bw.trans HB2.out hb2b)
 have hla:=HKA.out.lt
 have hlb:=HKB.out.lt
 have HF1:=Lib.hid (fullL_facts hid hC6 (show cs.length ≤ 60 by omega) HVa.out)
 have HF2:=Lib.hid (fullL_facts hid2 hC6 (show ds.length ≤ 60 by omega) HVb.out)
 have HCl1:=Lib.hid (clamp_in (x:=(Rn : Int)) (hi:=30) hR1 hR2)
 have HCl2:=Lib.hid (clamp_in (x:=(Cn : Int)) (hi:=100) hC1 hC2)
 clear hwa hwb hka hkb hba hbb hza hzb hka2 hkb2 hb2b HX HY HB2 hlx hly HB1
 have HVm:=Lib.hid (And.intro k2 (And.intro k3 (And.intro k4 (And.intro l2 (And.intro l3 l4)))))
 go_upto_region 5 with (first
  | (go_at_call 20;refine (mnew_any Am nm cm _).mono ?_;rintro ee wn ⟨rfl,hwn⟩)
  | fail)
 obtain ⟨-,hbn,hzn⟩:=sb1 hwn
 obtain ⟨b,hbq⟩ : ∃ b,b = wb.heap.size:=⟨_,rfl⟩
 have HD:=Lib.hid (show Dk2 wn b Am nm cm xm from by rw [hbq,← hwn];exact Dk2.made (c:=cm) (HRM.out.up HAM.out HBb.out) (fun h0 ad e => by have:=HAM.out h0 ad e;have:=HBb.out.size;omega) hnm)
 rw [← hbq]
 have hbz : wb.heap.size ≤ b:=by omega
 have HBn:=Lib.hid hbn
 have HKAn:=Lib.hid (HKA.out.up hbn)
 have hlan:=HKAn.out.lt
 clear hwn hbn hbq hzn
 have x0:=(HKAn.out).cell 0 (v:=.int .i64 (Rn : Int)) rfl
 have x1:=(HKAn.out).cell 1 (v:=.int .i64 (Cn : Int)) rfl
 have x2:=(HKAn.out).cell 2 (v:=.slice A1 n1 c1) rfl
 have x3:=(HKAn.out).cell 3 (v:=.int .i64 row) rfl
 have x4:=(HKAn.out).cell 4 (v:=.int .i64 col) rfl
 have x5:=(HKAn.out).cell 5 (v:=.bool hid) rfl
 go_upto_region 6 with (first
  | (go_at_call 24;refine (mview_dk b Am nm cm xm (Rn : Int) (Cn : Int) _ (HD.out.up (show Bw wn _ from BWX)) hR1 hR5 hC1 hC9).mono ?_;rintro ee wv ⟨A3,n3,c3,es,row3,col3,hid3,rfl,p1,p2,p3,p4,p5,p6,p7,p8⟩;have HP1:=Lib.hid p1;have HVc:=Lib.hid p5;have HG:=Lib.hid ((grown_bw (show Bw wn _ from BWX) (some b)).trans p8);clear p1 p5 p6 p7 p8 x0 x1 x2 x3 x4 x5)
  | fail)
 generalize hwe : wv.alloc _ = we
 obtain ⟨hke,hbe,hze⟩:=sb1 hwe
 obtain ⟨kc,hkc⟩ : ∃ kc,kc = wv.heap.size:=⟨_,rfl⟩
 rw [← hkc] at hke ⊢
 have hbv : Bw wb wv:=Bw.grown HBn.out HG.out (fun k hk => by cases hk;exact hbz)
 have HBe:=Lib.hid (Bw.trans hbv hbe)
 have HKC:=Lib.hid (show Sb we kc (vwV (Rn : Int) (Cn : Int) A3 n3 c3 row3 col3 hid3) 27 from hke)
 obtain ⟨k2,k3,k4,l2,l3,l4⟩:=HVm.out
 have HOa:=Lib.hid (show VT.Ok we Rn Cn (⟨A1,n1,c1,cs,row,col,hid⟩ : VT) from ⟨HXb.out.up HBe.out,k2,k3,k4,HVa.out⟩)
 have HOb:=Lib.hid (show VT.Ok we Rn Cn (⟨A2,n2,c2,ds,row2,col2,hid2⟩ : VT) from ⟨HYb.out.up HBe.out,l2,l3,l4,HVb.out⟩)
 have HOc:=Lib.hid (show VT.Ok we Rn Cn (⟨A3,n3,c3,es,row3,col3,hid3⟩ : VT) from ⟨HP1.out.up hbe,p2,p3,p4,HVc.out⟩)
 have hze':=HBe.out.size
 have hlc:=HKC.out.lt
 clear hwe hke hbe hze hkc hbv HP1 HG HD HBn HKAn hlan HVc HVm HAM HRM
 have HC5:=Lib.hid (show ∀ w',Bw we w' → (w'.cell? ⟨ka,0,none⟩ = some (.int .i64 (Rn : Int)) ∧ w'.cell? ⟨ka,1,none⟩ = some (.int .i64 (Cn : Int)) ∧ w'.cell? ⟨ka,2,none⟩ = some (.slice A1 n1 c1) ∧ w'.cell? ⟨ka,3,none⟩ = some (.int .i64 row) ∧ w'.cell? ⟨ka,4,none⟩ = some (.int .i64 col) ∧ w'.cell? ⟨ka,5,none⟩ = some (.bool hid)) from fun w' hb' => (by have hb:=Bw.trans HBe.out hb';exact ⟨(HKA.out.up hb).cell 0 rfl,(HKA.out.up hb).cell 1 rfl,(HKA.out.up hb).cell 2 rfl,(HKA.out.up hb).cell 3 rfl,(HKA.out.up hb).cell 4 rfl,(HKA.out.up hb).cell 5 rfl⟩))
 go_upto_region 6 with (fail)
 go_cut [9] from 29 to 38 (fun v w' => ∃ g : Nat,v = .pointer (some ⟨g,0,none⟩) ∧ TmK w' g Rn Cn (0 + 231 * 200000) (some (knV cs row col hid)) OnG ∧ Bw we w' ∧ we.heap.size ≤ g)
 case first =>
  refine wp_region_held_drew (S:=(fun w' => Bw we w')) (by kernel_rfl) ?_ (fun hHeld => ?_)
  ·(try dsimp only);(first|exact Bw.grown (show Bw we _ from BWX) HG3.out (fun k hk => by cases hk;(try simp only [szA,szS,szD,szN] at *);omega)|((repeat (first|with_reducible (first|assumption|exact Bw.refl _|refine Bw.alloc ?_ _|refine Bw.more ?_ _ _|refine Bw.drew ?_|refine Bw.drewN ?_ _)|((with_reducible refine Bw.set2 ?_ ?_ _);(focus exact SZX))|with_reducible refine Bw.trans ?_ (by assumption)));done))
  refine tkQ 0 ?_
  refine tkQ 1 ?_
  (try simp only [Act.put,zP1,zP2,zP3,zP4,zP5,zP6])
  refine tkH 2 ?_ rfl (Or.inl ⟨by rfl,?ht2⟩) ?_;case ht2 => (intro w' hb;(try dsimp only at hb);have hcl:=HC5.out w' hb;clear hb;go_simp;try with_reducible rfl)
  (try simp only [Act.put,zP1,zP2,zP3,zP4,zP5,zP6])
  refine tkQ 3 ?_
  (try simp only [Act.put,zP1,zP2,zP3,zP4,zP5,zP6])
  refine tkQ 4 ?_
  (try simp only [Act.put,zP1,zP2,zP3,zP4,zP5,zP6])
  refine tkH 5 ?_ rfl (Or.inl ⟨by rfl,?ht5⟩) ?_;case ht5 => (intro w' hb;(try dsimp only at hb);have hcl:=HC5.out w' hb;clear hb;go_simp;try with_reducible rfl)
  (try simp only [Act.put,zP1,zP2,zP3,zP4,zP5,zP6])
  refine tkH 7 ?_ rfl (Or.inl ⟨by rfl,?ht7⟩) ?_;case ht7 => (intro w' hb;(try dsimp only at hb);have hcl:=HC5.out w' hb;clear hb;go_simp;try with_reducible rfl)
  (try simp only [Act.put,zP1,zP2,zP3,zP4,zP5,zP6])
  refine wpAnyH_ready (rs:=[6,10]) (by kernel_rfl) (by simp) ?_
  refine AllReadyH.cons rfl (fun K hK => ?_) ?_
  ·go_simp
   refine (rnew19_ok (Rn : Int) (Cn : Int) 0 _ (by omega)).mono ?_;rintro ee m1 ⟨t0,rfl,ht0,hs1,hs2,hn0,hh0,hb1⟩;rw [HCl1.out] at hs1;rw [HCl2.out] at hs2;have HT0:=Lib.hid ht0;have HS0:=Lib.hid (And.intro hs1 hs2);have HN0:=Lib.hid hn0;have HH0:=Lib.hid hh0;have HL0:=Lib.hid ht0.1.1.lt;(try have h81 : Bw w8 m1:=Bw.trans (show Bw w8 _ from BWX) hb1);have hm1 : Bw we m1:=Bw.trans (show Bw we _ from BWX) hb1;have hzm1:=hb1.size;clear ht0 hs1 hs2 hn0 hh0;go_wp2_with fail
   refine hK.out _ _ ?_ (fun hHeld => ?_)
   ·(try dsimp only);(first|exact Bw.grown (show Bw we _ from BWX) HG3.out (fun k hk => by cases hk;(try simp only [szA,szS,szD,szN] at *);omega)|((repeat (first|with_reducible (first|assumption|exact Bw.refl _|refine Bw.alloc ?_ _|refine Bw.more ?_ _ _|refine Bw.drew ?_|refine Bw.drewN ?_ _)|((with_reducible refine Bw.set2 ?_ ?_ _);(focus exact SZX))|with_reducible refine Bw.trans ?_ (by assumption)));done))
   clear hK K
   (try simp only [Act.put,zP1,zP2,zP3,zP4,zP5,zP6])
   refine wpAnyH_ready (rs:=[8,10]) (by kernel_rfl) (by simp) ?_
   refine AllReadyH.cons rfl (fun K hK => ?_) ?_
   ·go_simp
    refine (pfull_any (Rn : Int) (Cn : Int) A1 n1 c1 cs row col hid _ (HXb.out.up (Bw.trans HBe.out (show Bw we _ from BWX))) k2 k3 k4 (PowT.bump HP.out (Bw.trans HBb.out (Bw.trans HBe.out (show Bw we _ from BWX))))).mono ?_;rintro ee m2 ⟨v2,rfl,hs2,hb2⟩;obtain ⟨B2,cv2,rfl,hc2,hcm2,hr2⟩:=hs2;have HR2:=Lib.hid hr2;have h12 : Bw m1 m2:=Bw.trans (show Bw m1 _ from BWX) hb2;(try have h82 : Bw w8 m2:=Bw.trans (show Bw w8 _ from BWX) hb2);have hm2 : Bw we m2:=Bw.trans (show Bw we _ from BWX) hb2;have hzm2:=hb2.size;clear hr2;go_wp2_with fail
    refine hK.out _ _ ?_ (fun hHeld => ?_)
    ·(try dsimp only);(first|exact Bw.grown (show Bw we _ from BWX) HG3.out (fun k hk => by cases hk;(try simp only [szA,szS,szD,szN] at *);omega)|((repeat (first|with_reducible (first|assumption|exact Bw.refl _|refine Bw.alloc ?_ _|refine Bw.more ?_ _ _|refine Bw.drew ?_|refine Bw.drewN ?_ _)|((with_reducible refine Bw.set2 ?_ ?_ _);(focus exact SZX))|with_reducible refine Bw.trans ?_ (by assumption)));done))
    clear hK K
    (try simp only [Act.put,zP1,zP2,zP3,zP4,zP5,zP6])
    refine wpAnyH_ready (rs:=[9,10]) (by kernel_rfl) (by simp) ?_
    refine AllReadyH.cons rfl (fun K hK => ?_) ?_
    ·go_simp
     have hll:=HF1.out.1;refine (rfeed_x t0 none 0 B2 _ cv2 (fullL Rn Cn cs row col hid) _ (HT0.out.up BWX) (Mt.none_ _ _) (by omega) (HR2.out.up BWX) (by omega) (by omega) (by omega) HF1.out.2).mono ?_;rintro ee m3 ⟨t1,rfl,ht1,e1,e2,e3,hpl,hph,hb3,hMt,hrs,hsc⟩;have HT1:=Lib.hid ht1;have HL1:=Lib.hid ht1.1.1.lt;have HE1:=Lib.hid (And.intro (e1.trans (show t0.s.Rn = Rn from by have:=HS0.out.1;omega)) (e2.trans (show t0.s.Cn = Cn from by have:=HS0.out.2;omega)));have HK1:=Lib.hid (fed_full hC6 HVa.out HT0.out (show t0.s.Rn = Rn from by have:=HS0.out.1;omega) (show t0.s.Cn = Cn from by have:=HS0.out.2;omega) hMt hrs hsc);have HPL:=Lib.hid hpl;have HPH:=Lib.hid hph;have h13 : Bw m1 m3:=Bw.trans (show Bw m1 _ from BWX) hb3;have h23 : Bw m2 m3:=Bw.trans (show Bw m2 _ from BWX) hb3;(try have h83 : Bw w8 m3:=Bw.trans (show Bw w8 _ from BWX) hb3);have hm3 : Bw we m3:=Bw.trans (show Bw we _ from BWX) hb3;have hzm3:=hb3.size;clear ht1 e1 e2 e3 hpl hph hMt hrs hsc;go_wp2_with fail
     refine hK.out _ _ ?_ (fun hHeld => ?_)
     ·(try dsimp only);(first|exact Bw.grown (show Bw we _ from BWX) HG3.out (fun k hk => by cases hk;(try simp only [szA,szS,szD,szN] at *);omega)|((repeat (first|with_reducible (first|assumption|exact Bw.refl _|refine Bw.alloc ?_ _|refine Bw.more ?_ _ _|refine Bw.drew ?_|refine Bw.drewN ?_ _)|((with_reducible refine Bw.set2 ?_ ?_ _);(focus exact SZX))|with_reducible refine Bw.trans ?_ (by assumption)));done))
     clear hK K
     (try simp only [Act.put,zP1,zP2,zP3,zP4,zP5,zP6])
     refine arO 10 (fun K hK => ?_)
     go_simp;(generalize hw8 : World.alloc _ (.cells _ 53) = w8);obtain ⟨hS8,hb8,hz8⟩:=sb1 hw8;have HS8:=Lib.hid hS8;have H8O:=Lib.hid (show ∀ (i : Nat) (x : Int),(#[.int .i64 0,.int .i64 0,.slice none 0 0,.int .i64 0,.int .i64 0,.bool false,.int .i64 0,.int .i64 0,.int .i64 0,.int .i64 0,.int .i64 0,.int .i64 0,.int .i64 0,.bool false,.int .i64 0,.int .i64 0,.int .i64 0,.bool false,.bool false,.slice none 0 0,.int .i64 0,.int .i64 0,.slice none 0 0,.int .i64 0,.slice none 0 0,.int .i64 0] : Array Value)[i]? ≠ some (.int .u8 x) from fun i x h => by have:=Array.mem_of_getElem? h;simp at this);(try have h18 : Bw m1 w8:=Bw.trans (show Bw m1 _ from BWX) hb8);(try have h28 : Bw m2 w8:=Bw.trans (show Bw m2 _ from BWX) hb8);(try have h38 : Bw m3 w8:=Bw.trans (show Bw m3 _ from BWX) hb8);clear hw8 hS8
     refine hK.out _ _ ?_ (fun hHeld => ?_)
     ·(try dsimp only);(first|exact Bw.grown (show Bw we _ from BWX) HG3.out (fun k hk => by cases hk;(try simp only [szA,szS,szD,szN] at *);omega)|((repeat (first|with_reducible (first|assumption|exact Bw.refl _|refine Bw.alloc ?_ _|refine Bw.more ?_ _ _|refine Bw.drew ?_|refine Bw.drewN ?_ _)|((with_reducible refine Bw.set2 ?_ ?_ _);(focus exact SZX))|with_reducible refine Bw.trans ?_ (by assumption)));done))
     clear hK K
     (try simp only [Act.put,zP1,zP2,zP3,zP4,zP5,zP6])
     refine arO 11 (fun K hK => ?_)
     (refine (if_pos (by kernel_rfl)).mpr ?_);(first|((with_reducible refine wp_store_tr t1 we.heap.size (.tmp 9) (.tmp 38) ?_ ?_ ?_ ?_ ?_);(focus rfl);(focus rfl);(focus rfl);(focus (exact ⟨_,HS8.out.up BWX,rfl⟩)))|((with_reducible refine wp_store_tr t1 m1.heap.size (.tmp 9) (.tmp 38) ?_ ?_ ?_ ?_ ?_);(focus rfl);(focus rfl);(focus rfl);(focus (exact ⟨_,HS8.out.up BWX,rfl⟩)))|((with_reducible refine wp_store_tr t1 m2.heap.size (.tmp 9) (.tmp 38) ?_ ?_ ?_ ?_ ?_);(focus rfl);(focus rfl);(focus rfl);(focus (exact ⟨_,HS8.out.up BWX,rfl⟩)))|((with_reducible refine wp_store_tr t1 m3.heap.size (.tmp 9) (.tmp 38) ?_ ?_ ?_ ?_ ?_);(focus rfl);(focus rfl);(focus rfl);(focus (exact ⟨_,HS8.out.up BWX,rfl⟩))));intro w3 hS3 hg3;have HS3:=Lib.hid hS3;have HG3:=Lib.hid hg3;clear hS3 hg3
     refine hK.out _ _ ?_ (fun hHeld => ?_)
     ·(try dsimp only);(first|exact Bw.grown (show Bw we _ from BWX) HG3.out (fun k hk => by cases hk;(try simp only [szA,szS,szD,szN] at *);omega)|((repeat (first|with_reducible (first|assumption|exact Bw.refl _|refine Bw.alloc ?_ _|refine Bw.more ?_ _ _|refine Bw.drew ?_|refine Bw.drewN ?_ _)|((with_reducible refine Bw.set2 ?_ ?_ _);(focus exact SZX))|with_reducible refine Bw.trans ?_ (by assumption)));done))
     clear hK K
     (try simp only [Act.put,zP1,zP2,zP3,zP4,zP5,zP6])
     refine wpAnyH_done (by kernel_rfl) ?_ _
     go_wp2
     go_meet
     case rel =>
      have hq1:=HG3.out
      have hq2:=HS3.out
      refine ⟨_,rfl,TmK.put (HS8.out.up BWX) H8O.out ?_ ?_ (HT1.out.up BWX) HE1.out.1 HE1.out.2 (HK1.out.1.up BWX) HK1.out.2 hq1 hq2,Bw.grown (show Bw we _ from BWX) hq1 (fun k hk => by cases hk;(try simp only [szA,szS,szD,szN] at *);omega),(by (try simp only [szA,szS,szD,szN] at *);omega)⟩
      ·intro ad e
       have h1:=HL1.out ad e
       rcases HPL.out with h|h
       ·have h2:=HL0.out ad (by rw [← h];exact e)
        have h3:=HN0.out ad (by rw [← h];exact e)
        (try simp only [szA,szS,szD,szN] at *)
        omega
       ·have h2:=h ad e
        (try simp only [szA,szS,szD,szN] at *)
        omega
      ·intro h0 ad e
       have h1:=HT1.out.2.2.2.2.2.1.lt h0 ad e
       rcases HPH.out with h|h
       ·rw [h.1,HH0.out] at e;cases e
       ·have h2:=h ad e
        (try simp only [szA,szS,szD,szN] at *)
        omega
    refine AllReadyH.cons rfl (fun K hK => ?_) ?_
    ·go_simp;(generalize hw8 : World.alloc _ (.cells _ 53) = w8);obtain ⟨hS8,hb8,hz8⟩:=sb1 hw8;have HS8:=Lib.hid hS8;have H8O:=Lib.hid (show ∀ (i : Nat) (x : Int),(#[.int .i64 0,.int .i64 0,.slice none 0 0,.int .i64 0,.int .i64 0,.bool false,.int .i64 0,.int .i64 0,.int .i64 0,.int .i64 0,.int .i64 0,.int .i64 0,.int .i64 0,.bool false,.int .i64 0,.int .i64 0,.int .i64 0,.bool false,.bool false,.slice none 0 0,.int .i64 0,.int .i64 0,.slice none 0 0,.int .i64 0,.slice none 0 0,.int .i64 0] : Array Value)[i]? ≠ some (.int .u8 x) from fun i x h => by have:=Array.mem_of_getElem? h;simp at this);(try have h18 : Bw m1 w8:=Bw.trans (show Bw m1 _ from BWX) hb8);(try have h28 : Bw m2 w8:=Bw.trans (show Bw m2 _ from BWX) hb8);(try have h38 : Bw m3 w8:=Bw.trans (show Bw m3 _ from BWX) hb8);clear hw8 hS8
     refine hK.out _ _ ?_ (fun hHeld => ?_)
     ·(try dsimp only);(first|exact Bw.grown (show Bw we _ from BWX) HG3.out (fun k hk => by cases hk;(try simp only [szA,szS,szD,szN] at *);omega)|((repeat (first|with_reducible (first|assumption|exact Bw.refl _|refine Bw.alloc ?_ _|refine Bw.more ?_ _ _|refine Bw.drew ?_|refine Bw.drewN ?_ _)|((with_reducible refine Bw.set2 ?_ ?_ _);(focus exact SZX))|with_reducible refine Bw.trans ?_ (by assumption)));done))
     clear hK K
     (try simp only [Act.put,zP1,zP2,zP3,zP4,zP5,zP6])
     refine arO 9 (fun K hK => ?_)
     go_simp
     have hll:=HF1.out.1;refine (rfeed_x t0 none 0 B2 _ cv2 (fullL Rn Cn cs row col hid) _ (HT0.out.up BWX) (Mt.none_ _ _) (by omega) (HR2.out.up BWX) (by omega) (by omega) (by omega) HF1.out.2).mono ?_;rintro ee m3 ⟨t1,rfl,ht1,e1,e2,e3,hpl,hph,hb3,hMt,hrs,hsc⟩;have HT1:=Lib.hid ht1;have HL1:=Lib.hid ht1.1.1.lt;have HE1:=Lib.hid (And.intro (e1.trans (show t0.s.Rn = Rn from by have:=HS0.out.1;omega)) (e2.trans (show t0.s.Cn = Cn from by have:=HS0.out.2;omega)));have HK1:=Lib.hid (fed_full hC6 HVa.out HT0.out (show t0.s.Rn = Rn from by have:=HS0.out.1;omega) (show t0.s.Cn = Cn from by have:=HS0.out.2;omega) hMt hrs hsc);have HPL:=Lib.hid hpl;have HPH:=Lib.hid hph;have h13 : Bw m1 m3:=Bw.trans (show Bw m1 _ from BWX) hb3;have h23 : Bw m2 m3:=Bw.trans (show Bw m2 _ from BWX) hb3;(try have h83 : Bw w8 m3:=Bw.trans (show Bw w8 _ from BWX) hb3);have hm3 : Bw we m3:=Bw.trans (show Bw we _ from BWX) hb3;have hzm3:=hb3.size;clear ht1 e1 e2 e3 hpl hph hMt hrs hsc;go_wp2_with fail
     refine hK.out _ _ ?_ (fun hHeld => ?_)
     ·(try dsimp only);(first|exact Bw.grown (show Bw we _ from BWX) HG3.out (fun k hk => by cases hk;(try simp only [szA,szS,szD,szN] at *);omega)|((repeat (first|with_reducible (first|assumption|exact Bw.refl _|refine Bw.alloc ?_ _|refine Bw.more ?_ _ _|refine Bw.drew ?_|refine Bw.drewN ?_ _)|((with_reducible refine Bw.set2 ?_ ?_ _);(focus exact SZX))|with_reducible refine Bw.trans ?_ (by assumption)));done))
     clear hK K
     (try simp only [Act.put,zP1,zP2,zP3,zP4,zP5,zP6])
     refine arO 11 (fun K hK => ?_)
     (refine (if_pos (by kernel_rfl)).mpr ?_);(first|((with_reducible refine wp_store_tr t1 we.heap.size (.tmp 9) (.tmp 38) ?_ ?_ ?_ ?_ ?_);(focus rfl);(focus rfl);(focus rfl);(focus (exact ⟨_,HS8.out.up BWX,rfl⟩)))|((with_reducible refine wp_store_tr t1 m1.heap.size (.tmp 9) (.tmp 38) ?_ ?_ ?_ ?_ ?_);(focus rfl);(focus rfl);(focus rfl);(focus (exact ⟨_,HS8.out.up BWX,rfl⟩)))|((with_reducible refine wp_store_tr t1 m2.heap.size (.tmp 9) (.tmp 38) ?_ ?_ ?_ ?_ ?_);(focus rfl);(focus rfl);(focus rfl);(focus (exact ⟨_,HS8.out.up BWX,rfl⟩)))|((with_reducible refine wp_store_tr t1 m3.heap.size (.tmp 9) (.tmp 38) ?_ ?_ ?_ ?_ ?_);(focus rfl);(focus rfl);(focus rfl);(focus (exact ⟨_,HS8.out.up BWX,rfl⟩))));intro w3 hS3 hg3;have HS3:=Lib.hid hS3;have HG3:=Lib.hid hg3;clear hS3 hg3
     refine hK.out _ _ ?_ (fun hHeld => ?_)
     ·(try dsimp only);(first|exact Bw.grown (show Bw we _ from BWX) HG3.out (fun k hk => by cases hk;(try simp only [szA,szS,szD,szN] at *);omega)|((repeat (first|with_reducible (first|assumption|exact Bw.refl _|refine Bw.alloc ?_ _|refine Bw.more ?_ _ _|refine Bw.drew ?_|refine Bw.drewN ?_ _)|((with_reducible refine Bw.set2 ?_ ?_ _);(focus exact SZX))|with_reducible refine Bw.trans ?_ (by assumption)));done))
     clear hK K
     (try simp only [Act.put,zP1,zP2,zP3,zP4,zP5,zP6])
     refine wpAnyH_done (by kernel_rfl) ?_ _
     go_wp2
     go_meet
     case rel =>
      have hq1:=HG3.out
      have hq2:=HS3.out
      refine ⟨_,rfl,TmK.put (HS8.out.up BWX) H8O.out ?_ ?_ (HT1.out.up BWX) HE1.out.1 HE1.out.2 (HK1.out.1.up BWX) HK1.out.2 hq1 hq2,Bw.grown (show Bw we _ from BWX) hq1 (fun k hk => by cases hk;(try simp only [szA,szS,szD,szN] at *);omega),(by (try simp only [szA,szS,szD,szN] at *);omega)⟩
      ·intro ad e
       have h1:=HL1.out ad e
       rcases HPL.out with h|h
       ·have h2:=HL0.out ad (by rw [← h];exact e)
        have h3:=HN0.out ad (by rw [← h];exact e)
        (try simp only [szA,szS,szD,szN] at *)
        omega
       ·have h2:=h ad e
        (try simp only [szA,szS,szD,szN] at *)
        omega
      ·intro h0 ad e
       have h1:=HT1.out.2.2.2.2.2.1.lt h0 ad e
       rcases HPH.out with h|h
       ·rw [h.1,HH0.out] at e;cases e
       ·have h2:=h ad e
        (try simp only [szA,szS,szD,szN] at *)
        omega
    exact AllReadyH.nil
   refine AllReadyH.cons rfl (fun K hK => ?_) ?_
   ·go_simp;(generalize hw8 : World.alloc _ (.cells _ 53) = w8);obtain ⟨hS8,hb8,hz8⟩:=sb1 hw8;have HS8:=Lib.hid hS8;have H8O:=Lib.hid (show ∀ (i : Nat) (x : Int),(#[.int .i64 0,.int .i64 0,.slice none 0 0,.int .i64 0,.int .i64 0,.bool false,.int .i64 0,.int .i64 0,.int .i64 0,.int .i64 0,.int .i64 0,.int .i64 0,.int .i64 0,.bool false,.int .i64 0,.int .i64 0,.int .i64 0,.bool false,.bool false,.slice none 0 0,.int .i64 0,.int .i64 0,.slice none 0 0,.int .i64 0,.slice none 0 0,.int .i64 0] : Array Value)[i]? ≠ some (.int .u8 x) from fun i x h => by have:=Array.mem_of_getElem? h;simp at this);(try have h18 : Bw m1 w8:=Bw.trans (show Bw m1 _ from BWX) hb8);(try have h28 : Bw m2 w8:=Bw.trans (show Bw m2 _ from BWX) hb8);(try have h38 : Bw m3 w8:=Bw.trans (show Bw m3 _ from BWX) hb8);clear hw8 hS8
    refine hK.out _ _ ?_ (fun hHeld => ?_)
    ·(try dsimp only);(first|exact Bw.grown (show Bw we _ from BWX) HG3.out (fun k hk => by cases hk;(try simp only [szA,szS,szD,szN] at *);omega)|((repeat (first|with_reducible (first|assumption|exact Bw.refl _|refine Bw.alloc ?_ _|refine Bw.more ?_ _ _|refine Bw.drew ?_|refine Bw.drewN ?_ _)|((with_reducible refine Bw.set2 ?_ ?_ _);(focus exact SZX))|with_reducible refine Bw.trans ?_ (by assumption)));done))
    clear hK K
    (try simp only [Act.put,zP1,zP2,zP3,zP4,zP5,zP6])
    refine arO 8 (fun K hK => ?_)
    go_simp
    refine (pfull_any (Rn : Int) (Cn : Int) A1 n1 c1 cs row col hid _ (HXb.out.up (Bw.trans HBe.out (show Bw we _ from BWX))) k2 k3 k4 (PowT.bump HP.out (Bw.trans HBb.out (Bw.trans HBe.out (show Bw we _ from BWX))))).mono ?_;rintro ee m2 ⟨v2,rfl,hs2,hb2⟩;obtain ⟨B2,cv2,rfl,hc2,hcm2,hr2⟩:=hs2;have HR2:=Lib.hid hr2;have h12 : Bw m1 m2:=Bw.trans (show Bw m1 _ from BWX) hb2;(try have h82 : Bw w8 m2:=Bw.trans (show Bw w8 _ from BWX) hb2);have hm2 : Bw we m2:=Bw.trans (show Bw we _ from BWX) hb2;have hzm2:=hb2.size;clear hr2;go_wp2_with fail
    refine hK.out _ _ ?_ (fun hHeld => ?_)
    ·(try dsimp only);(first|exact Bw.grown (show Bw we _ from BWX) HG3.out (fun k hk => by cases hk;(try simp only [szA,szS,szD,szN] at *);omega)|((repeat (first|with_reducible (first|assumption|exact Bw.refl _|refine Bw.alloc ?_ _|refine Bw.more ?_ _ _|refine Bw.drew ?_|refine Bw.drewN ?_ _)|((with_reducible refine Bw.set2 ?_ ?_ _);(focus exact SZX))|with_reducible refine Bw.trans ?_ (by assumption)));done))
    clear hK K
    (try simp only [Act.put,zP1,zP2,zP3,zP4,zP5,zP6])
    refine arO 9 (fun K hK => ?_)
    go_simp
    have hll:=HF1.out.1;refine (rfeed_x t0 none 0 B2 _ cv2 (fullL Rn Cn cs row col hid) _ (HT0.out.up BWX) (Mt.none_ _ _) (by omega) (HR2.out.up BWX) (by omega) (by omega) (by omega) HF1.out.2).mono ?_;rintro ee m3 ⟨t1,rfl,ht1,e1,e2,e3,hpl,hph,hb3,hMt,hrs,hsc⟩;have HT1:=Lib.hid ht1;have HL1:=Lib.hid ht1.1.1.lt;have HE1:=Lib.hid (And.intro (e1.trans (show t0.s.Rn = Rn from by have:=HS0.out.1;omega)) (e2.trans (show t0.s.Cn = Cn from by have:=HS0.out.2;omega)));have HK1:=Lib.hid (fed_full hC6 HVa.out HT0.out (show t0.s.Rn = Rn from by have:=HS0.out.1;omega) (show t0.s.Cn = Cn from by have:=HS0.out.2;omega) hMt hrs hsc);have HPL:=Lib.hid hpl;have HPH:=Lib.hid hph;have h13 : Bw m1 m3:=Bw.trans (show Bw m1 _ from BWX) hb3;have h23 : Bw m2 m3:=Bw.trans (show Bw m2 _ from BWX) hb3;(try have h83 : Bw w8 m3:=Bw.trans (show Bw w8 _ from BWX) hb3);have hm3 : Bw we m3:=Bw.trans (show Bw we _ from BWX) hb3;have hzm3:=hb3.size;clear ht1 e1 e2 e3 hpl hph hMt hrs hsc;go_wp2_with fail
    refine hK.out _ _ ?_ (fun hHeld => ?_)
    ·(try dsimp only);(first|exact Bw.grown (show Bw we _ from BWX) HG3.out (fun k hk => by cases hk;(try simp only [szA,szS,szD,szN] at *);omega)|((repeat (first|with_reducible (first|assumption|exact Bw.refl _|refine Bw.alloc ?_ _|refine Bw.more ?_ _ _|refine Bw.drew ?_|refine Bw.drewN ?_ _)|((with_reducible refine Bw.set2 ?_ ?_ _);(focus exact SZX))|with_reducible refine Bw.trans ?_ (by assumption)));done))
    clear hK K
    (try simp only [Act.put,zP1,zP2,zP3,zP4,zP5,zP6])
    refine arO 11 (fun K hK => ?_)
    (refine (if_pos (by kernel_rfl)).mpr ?_);(first|((with_reducible refine wp_store_tr t1 we.heap.size (.tmp 9) (.tmp 38) ?_ ?_ ?_ ?_ ?_);(focus rfl);(focus rfl);(focus rfl);(focus (exact ⟨_,HS8.out.up BWX,rfl⟩)))|((with_reducible refine wp_store_tr t1 m1.heap.size (.tmp 9) (.tmp 38) ?_ ?_ ?_ ?_ ?_);(focus rfl);(focus rfl);(focus rfl);(focus (exact ⟨_,HS8.out.up BWX,rfl⟩)))|((with_reducible refine wp_store_tr t1 m2.heap.size (.tmp 9) (.tmp 38) ?_ ?_ ?_ ?_ ?_);(focus rfl);(focus rfl);(focus rfl);(focus (exact ⟨_,HS8.out.up BWX,rfl⟩)))|((with_reducible refine wp_store_tr t1 m3.heap.size (.tmp 9) (.tmp 38) ?_ ?_ ?_ ?_ ?_);(focus rfl);(focus rfl);(focus rfl);(focus (exact ⟨_,HS8.out.up BWX,rfl⟩))));intro w3 hS3 hg3;have HS3:=Lib.hid hS3;have HG3:=Lib.hid hg3;clear hS3 hg3
    refine hK.out _ _ ?_ (fun hHeld => ?_)
    ·(try dsimp only);(first|exact Bw.grown (show Bw we _ from BWX) HG3.out (fun k hk => by cases hk;(try simp only [szA,szS,szD,szN] at *);omega)|((repeat (first|with_reducible (first|assumption|exact Bw.refl _|refine Bw.alloc ?_ _|refine Bw.more ?_ _ _|refine Bw.drew ?_|refine Bw.drewN ?_ _)|((with_reducible refine Bw.set2 ?_ ?_ _);(focus exact SZX))|with_reducible refine Bw.trans ?_ (by assumption)));done))
    clear hK K
    (try simp only [Act.put,zP1,zP2,zP3,zP4,zP5,zP6])
    refine wpAnyH_done (by kernel_rfl) ?_ _
    go_wp2
    go_meet
    case rel =>
     have hq1:=HG3.out
     have hq2:=HS3.out
     refine ⟨_,rfl,TmK.put (HS8.out.up BWX) H8O.out ?_ ?_ (HT1.out.up BWX) HE1.out.1 HE1.out.2 (HK1.out.1.up BWX) HK1.out.2 hq1 hq2,Bw.grown (show Bw we _ from BWX) hq1 (fun k hk => by cases hk;(try simp only [szA,szS,szD,szN] at *);omega),(by (try simp only [szA,szS,szD,szN] at *);omega)⟩
     ·intro ad e
      have h1:=HL1.out ad e
      rcases HPL.out with h|h
      ·have h2:=HL0.out ad (by rw [← h];exact e)
       have h3:=HN0.out ad (by rw [← h];exact e)
       (try simp only [szA,szS,szD,szN] at *)
       omega
      ·have h2:=h ad e
       (try simp only [szA,szS,szD,szN] at *)
       omega
     ·intro h0 ad e
      have h1:=HT1.out.2.2.2.2.2.1.lt h0 ad e
      rcases HPH.out with h|h
      ·rw [h.1,HH0.out] at e;cases e
      ·have h2:=h ad e
       (try simp only [szA,szS,szD,szN] at *)
       omega
   exact AllReadyH.nil
  refine AllReadyH.cons rfl (fun K hK => ?_) ?_
  ·go_simp;(generalize hw8 : World.alloc _ (.cells _ 53) = w8);obtain ⟨hS8,hb8,hz8⟩:=sb1 hw8;have HS8:=Lib.hid hS8;have H8O:=Lib.hid (show ∀ (i : Nat) (x : Int),(#[.int .i64 0,.int .i64 0,.slice none 0 0,.int .i64 0,.int .i64 0,.bool false,.int .i64 0,.int .i64 0,.int .i64 0,.int .i64 0,.int .i64 0,.int .i64 0,.int .i64 0,.bool false,.int .i64 0,.int .i64 0,.int .i64 0,.bool false,.bool false,.slice none 0 0,.int .i64 0,.int .i64 0,.slice none 0 0,.int .i64 0,.slice none 0 0,.int .i64 0] : Array Value)[i]? ≠ some (.int .u8 x) from fun i x h => by have:=Array.mem_of_getElem? h;simp at this);(try have h18 : Bw m1 w8:=Bw.trans (show Bw m1 _ from BWX) hb8);(try have h28 : Bw m2 w8:=Bw.trans (show Bw m2 _ from BWX) hb8);(try have h38 : Bw m3 w8:=Bw.trans (show Bw m3 _ from BWX) hb8);clear hw8 hS8
   refine hK.out _ _ ?_ (fun hHeld => ?_)
   ·(try dsimp only);(first|exact Bw.grown (show Bw we _ from BWX) HG3.out (fun k hk => by cases hk;(try simp only [szA,szS,szD,szN] at *);omega)|((repeat (first|with_reducible (first|assumption|exact Bw.refl _|refine Bw.alloc ?_ _|refine Bw.more ?_ _ _|refine Bw.drew ?_|refine Bw.drewN ?_ _)|((with_reducible refine Bw.set2 ?_ ?_ _);(focus exact SZX))|with_reducible refine Bw.trans ?_ (by assumption)));done))
   clear hK K
   (try simp only [Act.put,zP1,zP2,zP3,zP4,zP5,zP6])
   refine arO 6 (fun K hK => ?_)
   go_simp
   refine (rnew19_ok (Rn : Int) (Cn : Int) 0 _ (by omega)).mono ?_;rintro ee m1 ⟨t0,rfl,ht0,hs1,hs2,hn0,hh0,hb1⟩;rw [HCl1.out] at hs1;rw [HCl2.out] at hs2;have HT0:=Lib.hid ht0;have HS0:=Lib.hid (And.intro hs1 hs2);have HN0:=Lib.hid hn0;have HH0:=Lib.hid hh0;have HL0:=Lib.hid ht0.1.1.lt;(try have h81 : Bw w8 m1:=Bw.trans (show Bw w8 _ from BWX) hb1);have hm1 : Bw we m1:=Bw.trans (show Bw we _ from BWX) hb1;have hzm1:=hb1.size;clear ht0 hs1 hs2 hn0 hh0;go_wp2_with fail
   refine hK.out _ _ ?_ (fun hHeld => ?_)
   ·(try dsimp only);(first|exact Bw.grown (show Bw we _ from BWX) HG3.out (fun k hk => by cases hk;(try simp only [szA,szS,szD,szN] at *);omega)|((repeat (first|with_reducible (first|assumption|exact Bw.refl _|refine Bw.alloc ?_ _|refine Bw.more ?_ _ _|refine Bw.drew ?_|refine Bw.drewN ?_ _)|((with_reducible refine Bw.set2 ?_ ?_ _);(focus exact SZX))|with_reducible refine Bw.trans ?_ (by assumption)));done))
   clear hK K
   (try simp only [Act.put,zP1,zP2,zP3,zP4,zP5,zP6])
   refine arO 8 (fun K hK => ?_)
   go_simp
   refine (pfull_any (Rn : Int) (Cn : Int) A1 n1 c1 cs row col hid _ (HXb.out.up (Bw.trans HBe.out (show Bw we _ from BWX))) k2 k3 k4 (PowT.bump HP.out (Bw.trans HBb.out (Bw.trans HBe.out (show Bw we _ from BWX))))).mono ?_;rintro ee m2 ⟨v2,rfl,hs2,hb2⟩;obtain ⟨B2,cv2,rfl,hc2,hcm2,hr2⟩:=hs2;have HR2:=Lib.hid hr2;have h12 : Bw m1 m2:=Bw.trans (show Bw m1 _ from BWX) hb2;(try have h82 : Bw w8 m2:=Bw.trans (show Bw w8 _ from BWX) hb2);have hm2 : Bw we m2:=Bw.trans (show Bw we _ from BWX) hb2;have hzm2:=hb2.size;clear hr2;go_wp2_with fail
   refine hK.out _ _ ?_ (fun hHeld => ?_)
   ·(try dsimp only);(first|exact Bw.grown (show Bw we _ from BWX) HG3.out (fun k hk => by cases hk;(try simp only [szA,szS,szD,szN] at *);omega)|((repeat (first|with_reducible (first|assumption|exact Bw.refl _|refine Bw.alloc ?_ _|refine Bw.more ?_ _ _|refine Bw.drew ?_|refine Bw.drewN ?_ _)|((with_reducible refine Bw.set2 ?_ ?_ _);(focus exact SZX))|with_reducible refine Bw.trans ?_ (by assumption)));done))
   clear hK K
   (try simp only [Act.put,zP1,zP2,zP3,zP4,zP5,zP6])
   refine arO 9 (fun K hK => ?_)
   go_simp
   have hll:=HF1.out.1;refine (rfeed_x t0 none 0 B2 _ cv2 (fullL Rn Cn cs row col hid) _ (HT0.out.up BWX) (Mt.none_ _ _) (by omega) (HR2.out.up BWX) (by omega) (by omega) (by omega) HF1.out.2).mono ?_;rintro ee m3 ⟨t1,rfl,ht1,e1,e2,e3,hpl,hph,hb3,hMt,hrs,hsc⟩;have HT1:=Lib.hid ht1;have HL1:=Lib.hid ht1.1.1.lt;have HE1:=Lib.hid (And.intro (e1.trans (show t0.s.Rn = Rn from by have:=HS0.out.1;omega)) (e2.trans (show t0.s.Cn = Cn from by have:=HS0.out.2;omega)));have HK1:=Lib.hid (fed_full hC6 HVa.out HT0.out (show t0.s.Rn = Rn from by have:=HS0.out.1;omega) (show t0.s.Cn = Cn from by have:=HS0.out.2;omega) hMt hrs hsc);have HPL:=Lib.hid hpl;have HPH:=Lib.hid hph;have h13 : Bw m1 m3:=Bw.trans (show Bw m1 _ from BWX) hb3;have h23 : Bw m2 m3:=Bw.trans (show Bw m2 _ from BWX) hb3;(try have h83 : Bw w8 m3:=Bw.trans (show Bw w8 _ from BWX) hb3);have hm3 : Bw we m3:=Bw.trans (show Bw we _ from BWX) hb3;have hzm3:=hb3.size;clear ht1 e1 e2 e3 hpl hph hMt hrs hsc;go_wp2_with fail
   refine hK.out _ _ ?_ (fun hHeld => ?_)
   ·(try dsimp only);(first|exact Bw.grown (show Bw we _ from BWX) HG3.out (fun k hk => by cases hk;(try simp only [szA,szS,szD,szN] at *);omega)|((repeat (first|with_reducible (first|assumption|exact Bw.refl _|refine Bw.alloc ?_ _|refine Bw.more ?_ _ _|refine Bw.drew ?_|refine Bw.drewN ?_ _)|((with_reducible refine Bw.set2 ?_ ?_ _);(focus exact SZX))|with_reducible refine Bw.trans ?_ (by assumption)));done))
   clear hK K
   (try simp only [Act.put,zP1,zP2,zP3,zP4,zP5,zP6])
   refine arO 11 (fun K hK => ?_)
   (refine (if_pos (by kernel_rfl)).mpr ?_);(first|((with_reducible refine wp_store_tr t1 we.heap.size (.tmp 9) (.tmp 38) ?_ ?_ ?_ ?_ ?_);(focus rfl);(focus rfl);(focus rfl);(focus (exact ⟨_,HS8.out.up BWX,rfl⟩)))|((with_reducible refine wp_store_tr t1 m1.heap.size (.tmp 9) (.tmp 38) ?_ ?_ ?_ ?_ ?_);(focus rfl);(focus rfl);(focus rfl);(focus (exact ⟨_,HS8.out.up BWX,rfl⟩)))|((with_reducible refine wp_store_tr t1 m2.heap.size (.tmp 9) (.tmp 38) ?_ ?_ ?_ ?_ ?_);(focus rfl);(focus rfl);(focus rfl);(focus (exact ⟨_,HS8.out.up BWX,rfl⟩)))|((with_reducible refine wp_store_tr t1 m3.heap.size (.tmp 9) (.tmp 38) ?_ ?_ ?_ ?_ ?_);(focus rfl);(focus rfl);(focus rfl);(focus (exact ⟨_,HS8.out.up BWX,rfl⟩))));intro w3 hS3 hg3;have HS3:=Lib.hid hS3;have HG3:=Lib.hid hg3;clear hS3 hg3
   refine hK.out _ _ ?_ (fun hHeld => ?_)
   ·(try dsimp only);(first|exact Bw.grown (show Bw we _ from BWX) HG3.out (fun k hk => by cases hk;(try simp only [szA,szS,szD,szN] at *);omega)|((repeat (first|with_reducible (first|assumption|exact Bw.refl _|refine Bw.alloc ?_ _|refine Bw.more ?_ _ _|refine Bw.drew ?_|refine Bw.drewN ?_ _)|((with_reducible refine Bw.set2 ?_ ?_ _);(focus exact SZX))|with_reducible refine Bw.trans ?_ (by assumption)));done))
   clear hK K
   (try simp only [Act.put,zP1,zP2,zP3,zP4,zP5,zP6])
   refine wpAnyH_done (by kernel_rfl) ?_ _
   go_wp2
   go_meet
   case rel =>
    have hq1:=HG3.out
    have hq2:=HS3.out
    refine ⟨_,rfl,TmK.put (HS8.out.up BWX) H8O.out ?_ ?_ (HT1.out.up BWX) HE1.out.1 HE1.out.2 (HK1.out.1.up BWX) HK1.out.2 hq1 hq2,Bw.grown (show Bw we _ from BWX) hq1 (fun k hk => by cases hk;(try simp only [szA,szS,szD,szN] at *);omega),(by (try simp only [szA,szS,szD,szN] at *);omega)⟩
    ·intro ad e
     have h1:=HL1.out ad e
     rcases HPL.out with h|h
     ·have h2:=HL0.out ad (by rw [← h];exact e)
      have h3:=HN0.out ad (by rw [← h];exact e)
      (try simp only [szA,szS,szD,szN] at *)
      omega
     ·have h2:=h ad e
      (try simp only [szA,szS,szD,szN] at *)
      omega
    ·intro h0 ad e
     have h1:=HT1.out.2.2.2.2.2.1.lt h0 ad e
     rcases HPH.out with h|h
     ·rw [h.1,HH0.out] at e;cases e
     ·have h2:=h ad e
      (try simp only [szA,szS,szD,szN] at *)
      omega
  exact AllReadyH.nil
 case rest =>
 obtain ⟨wd,rfl⟩ : ∃ wd,wd = wc:=⟨_,rfl⟩
 obtain ⟨g,rfl,hTM,hbc,hgb⟩:=hcut
 have HTM:=Lib.hid hTM
 have HBC:=Lib.hid hbc
 clear hTM hbc
 have hBd:=Bw.trans HBe.out HBC.out
 have hgl : g < wd.heap.size:=by obtain ⟨t,h,-⟩:=HTM.out;exact h.lt
 have hzd:=hBd.size
 have x0:=(HKA.out.up hBd).cell 0 (v:=.int .i64 (Rn : Int)) rfl
 have x1:=(HKA.out.up hBd).cell 1 (v:=.int .i64 (Cn : Int)) rfl
 have x2:=(HKA.out.up hBd).cell 2 (v:=.slice A1 n1 c1) rfl
 have x3:=(HKA.out.up hBd).cell 3 (v:=.int .i64 row) rfl
 have x4:=(HKA.out.up hBd).cell 4 (v:=.int .i64 col) rfl
 have x5:=(HKA.out.up hBd).cell 5 (v:=.bool hid) rfl
 have y0:=(HKB.out.up hBd).cell 0 (v:=.int .i64 (Rn : Int)) rfl
 have y1:=(HKB.out.up hBd).cell 1 (v:=.int .i64 (Cn : Int)) rfl
 have y2:=(HKB.out.up hBd).cell 2 (v:=.slice A2 n2 c2) rfl
 have y3:=(HKB.out.up hBd).cell 3 (v:=.int .i64 row2) rfl
 have y4:=(HKB.out.up hBd).cell 4 (v:=.int .i64 col2) rfl
 have y5:=(HKB.out.up hBd).cell 5 (v:=.bool hid2) rfl
 have z0:=(HKC.out.up HBC.out).cell 0 (v:=.int .i64 (Rn : Int)) rfl
 have z1:=(HKC.out.up HBC.out).cell 1 (v:=.int .i64 (Cn : Int)) rfl
 have z2:=(HKC.out.up HBC.out).cell 2 (v:=.slice A3 n3 c3) rfl
 have z3:=(HKC.out.up HBC.out).cell 3 (v:=.int .i64 row3) rfl
 have z4:=(HKC.out.up HBC.out).cell 4 (v:=.int .i64 col3) rfl
 have z5:=(HKC.out.up HBC.out).cell 5 (v:=.bool hid3) rfl
 have hla' : ka < wd.heap.size:=by omega
 have hlb' : kb < wd.heap.size:=by omega
 have hlc' : kc < wd.heap.size:=by have:=HBC.out.size;omega
 clear hBd
 go_wp2_with fail
 generalize hw7 : World.alloc _ _ = w7
 obtain ⟨hb7,hbw7,hz7⟩:=sb1 hw7
 obtain ⟨gp,hgp⟩ : ∃ gp,gp = wd.heap.size:=⟨_,rfl⟩
 rw [← hgp] at hb7 ⊢
 obtain ⟨P,T,hSP,hPA⟩ : ∃ P T,Sb w7 gp P T ∧ ∀ w',Sb w' gp P T → ∀ k,k < 4 → PAt w' gp k Rn Cn (pairV (⟨A1,n1,c1,cs,row,col,hid⟩ : VT) (⟨A2,n2,c2,ds,row2,col2,hid2⟩ : VT) (⟨A3,n3,c3,es,row3,col3,hid3⟩ : VT) k) (pairV (⟨A1,n1,c1,cs,row,col,hid⟩ : VT) (⟨A2,n2,c2,ds,row2,col2,hid2⟩ : VT) (⟨A3,n3,c3,es,row3,col3,hid3⟩ : VT) (k + 1)):=⟨_,_,hb7,fun w' h k hk => by
  rcases (show k = 0 ∨ k = 1 ∨ k = 2 ∨ k = 3 by omega) with rfl|rfl|rfl|rfl
  ·exact ⟨h.cell 0 rfl,h.cell 1 rfl,h.cell 2 rfl,h.cell 3 rfl,h.cell 4 rfl,h.cell 5 rfl,h.cell 6 rfl,h.cell 7 rfl,h.cell 8 rfl,h.cell 9 rfl,h.cell 10 rfl,h.cell 11 rfl⟩
  ·exact ⟨h.cell 12 rfl,h.cell 13 rfl,h.cell 14 rfl,h.cell 15 rfl,h.cell 16 rfl,h.cell 17 rfl,h.cell 18 rfl,h.cell 19 rfl,h.cell 20 rfl,h.cell 21 rfl,h.cell 22 rfl,h.cell 23 rfl⟩
  ·exact ⟨h.cell 24 rfl,h.cell 25 rfl,h.cell 26 rfl,h.cell 27 rfl,h.cell 28 rfl,h.cell 29 rfl,h.cell 30 rfl,h.cell 31 rfl,h.cell 32 rfl,h.cell 33 rfl,h.cell 34 rfl,h.cell 35 rfl⟩
  ·exact ⟨h.cell 36 rfl,h.cell 37 rfl,h.cell 38 rfl,h.cell 39 rfl,h.cell 40 rfl,h.cell 41 rfl,h.cell 42 rfl,h.cell 43 rfl,h.cell 44 rfl,h.cell 45 rfl,h.cell 46 rfl,h.cell 47 rfl⟩⟩
 have HV0:=Lib.hid (show ∀ k,VT.Ok we Rn Cn (pairV (⟨A1,n1,c1,cs,row,col,hid⟩ : VT) (⟨A2,n2,c2,ds,row2,col2,hid2⟩ : VT) (⟨A3,n3,c3,es,row3,col3,hid3⟩ : VT) k) from fun k => by
  match k with
  | 0 => exact HOa.out
  | 1 => exact HOb.out
  | 2 => exact HOc.out
  | k + 3 => exact HOa.out)
 have HTM7:=Lib.hid (show TmK w7 g Rn Cn (231 * 200000 * (((0 : Nat) : Int) + 1)) (some (pairV (⟨A1,n1,c1,cs,row,col,hid⟩ : VT) (⟨A2,n2,c2,ds,row2,col2,hid2⟩ : VT) (⟨A3,n3,c3,es,row3,col3,hid3⟩ : VT) 0).kn) OnG from HTM.out.up hbw7)
 obtain ⟨V,hV⟩ : ∃ V,pairV (⟨A1,n1,c1,cs,row,col,hid⟩ : VT) (⟨A2,n2,c2,ds,row2,col2,hid2⟩ : VT) (⟨A3,n3,c3,es,row3,col3,hid3⟩ : VT) = V:=⟨_,rfl⟩
 rw [hV] at hPA HV0 HTM7
 have HPA:=Lib.hid hPA
 have HSP:=Lib.hid hSP
 have hgp2 : g < gp:=by omega
 have HB7:=Lib.hid (Bw.trans HBC.out hbw7)
 have hgp7 : gp < w7.heap.size:=hSP.lt
 clear hw7 hb7 hbw7 hz7 hgp hPA hSP hV HTM HOa HOb HOc HKA HKB HKC HC5 x0 x1 x2 x3 x4 x5 y0 y1 y2 y3 y4 y5 z0 z1 z2 z3 z4 z5
 go_wp2_with fail
 go_loopw [53] (fun i wr => ∃ k : Nat,i = .int .i64 (k : Int) ∧ k ≤ 4 ∧ Sb wr gp P T ∧ TmK wr g Rn Cn (231 * 200000 * ((k : Int) + 1)) (some (V k).kn) OnG ∧ Bw we wr) (fun i _ => 4 - (intOf i).toNat)
 case atStart => exact ⟨0,rfl,by omega,HSP.out,HTM7.out,HB7.out⟩
 case round =>
  obtain ⟨wz,hwz⟩ : ∃ wz : World,wz = wr:=⟨_,rfl⟩
  subst hwz
  obtain ⟨k,rfl,hk,hsp,htm,hbz2⟩:=hrel
  have HSz:=Lib.hid hsp
  have HBz:=Lib.hid hbz2
  have hgpz:=hsp.lt
  by_cases hlt : k < 4
  ·obtain ⟨ov,hov⟩ : ∃ ov,V k = ov:=⟨_,rfl⟩
   obtain ⟨nv,hnv⟩ : ∃ nv,V (k + 1) = nv:=⟨_,rfl⟩
   have hPV:=HPA.out wz hsp k hlt
   have hO:=HV0.out k
   have hN:=HV0.out (k + 1)
   rw [hov,hnv] at hPV
   rw [hov] at hO htm
   rw [hnv] at hN
   obtain ⟨Ao,no,co,os,ro,lo,ho⟩:=ov
   obtain ⟨An,nn,cn,ns,rn,ln,hnn⟩:=nv
   obtain ⟨o1,o2,o3,o4,o5⟩:=hO
   obtain ⟨q1,q2,q3,q4,q5⟩:=hN
   obtain ⟨h0,h1,h2,h3,h4,h5,h6,h7,h8,h9,h10,h11⟩:=hPV
   dsimp only at o1 o2 o3 o4 o5 q1 q2 q3 q4 q5 h0 h1 h2 h3 h4 h5 h6 h7 h8 h9 h10 h11
   have HVo:=Lib.hid o5
   have HVn:=Lib.hid q5
   have HNV:=Lib.hid hnv
   have HTz:=Lib.hid (show TmK wz g Rn Cn (231 * 200000 * ((k : Int) + 1)) (some (knV os ro lo ho)) OnG from htm)
   have hls:=q1.1
   have e1 : (0 : Int) ≤ k:=by omega
   have e2 : (k : Int) < 4:=by omega
   have hRo:=Lib.hid o1
   have hRn:=Lib.hid q1
   clear hov hnv hsp htm hbz2 o5 q5 o1 q1
   go_upto_region 10 with (fail)
   generalize hwq : wz.alloc _ = wq
   obtain ⟨hbq,hbwq,hzq⟩:=sb1 hwq
   obtain ⟨kp,hkp⟩ : ∃ kp,kp = wz.heap.size:=⟨_,rfl⟩
   rw [← hkp] at hbq ⊢
   obtain ⟨Tp,hbp⟩ : ∃ Tp,Sb wq kp #[.int .i64 (Rn : Int),.int .i64 (Cn : Int),.slice Ao no co,.int .i64 ro,.int .i64 lo,.bool ho,.int .i64 (Rn : Int),.int .i64 (Cn : Int),.slice An nn cn,.int .i64 rn,.int .i64 ln,.bool hnn] Tp:=⟨_,hbq⟩
   have HKP:=Lib.hid hbp
   have HSq:=Lib.hid (HSz.out.up hbwq)
   have HBq:=Lib.hid (Bw.trans HBz.out hbwq)
   have HTq:=Lib.hid (HTz.out.up hbwq)
   have HRo:=Lib.hid (hRo.out.up HBq.out)
   have HRn:=Lib.hid (hRn.out.up HBq.out)
   have HWQ:=Lib.hid (Bw.trans HBb.out (Bw.trans HBe.out HBq.out))
   have hgk : g < kp:=by omega
   have hkpl:=hbp.lt
   clear hwq hbq hbwq hzq hkp hbp h0 h1 h2 h3 h4 h5 h6 h7 h8 h9 h10 h11 HTz HSz HBz hRo hRn
   have HD0:=Lib.hid (diffL_facts ho hnn hC6 (show ns.length ≤ 60 by omega) HVo.out HVn.out)
   obtain ⟨ld,hld⟩ : ∃ l,diffL Rn Cn os ro lo ho Rn Cn ns rn ln hnn = l:=⟨_,rfl⟩
   rw [hld] at HD0
   obtain ⟨nd,hnd⟩ : ∃ l,ld.length = l:=⟨_,rfl⟩
   have HLD:=Lib.hid hld
   have HND:=Lib.hid hnd
   have hnd1 : nd ≤ 10000:=by rw [← hnd];exact HD0.out.1
   clear hld hnd
   obtain ⟨t1,hst,ht1,f1,f2,hm1,ha1,hh1,hg1⟩:=HTq.out
   have HST:=Lib.hid hst
   have HT1:=Lib.hid ht1
   have HE1:=Lib.hid (And.intro f1 f2)
   have HM1:=Lib.hid hm1
   have hA1:=Lib.hid ha1
   have hH1:=Lib.hid hh1
   have HG1:=Lib.hid hg1
   have hgq:=hst.lt
   have hq0:=HBq.out.size
   clear hst ht1 f1 f2 hm1 ha1 hh1 hg1 HTq
   have HQR:=Lib.hid (show ∀ w',Bw wq w' → (Bw we w' ∧ Sb w' kp #[.int .i64 (Rn : Int),.int .i64 (Cn : Int),.slice Ao no co,.int .i64 ro,.int .i64 lo,.bool ho,.int .i64 (Rn : Int),.int .i64 (Cn : Int),.slice An nn cn,.int .i64 rn,.int .i64 ln,.bool hnn] Tp) from fun w' hb => ⟨Bw.trans HBq.out hb,HKP.out.up hb⟩)
   have HCP:=Lib.hid (show ∀ w',(Bw we w' ∧ Sb w' kp #[.int .i64 (Rn : Int),.int .i64 (Cn : Int),.slice Ao no co,.int .i64 ro,.int .i64 lo,.bool ho,.int .i64 (Rn : Int),.int .i64 (Cn : Int),.slice An nn cn,.int .i64 rn,.int .i64 ln,.bool hnn] Tp) → (w'.cell? ⟨kp,0,none⟩ = some (.int .i64 (Rn : Int)) ∧ w'.cell? ⟨kp,1,none⟩ = some (.int .i64 (Cn : Int)) ∧ w'.cell? ⟨kp,2,none⟩ = some (.slice Ao no co) ∧ w'.cell? ⟨kp,3,none⟩ = some (.int .i64 ro) ∧ w'.cell? ⟨kp,4,none⟩ = some (.int .i64 lo) ∧ w'.cell? ⟨kp,5,none⟩ = some (.bool ho) ∧ w'.cell? ⟨kp,6,none⟩ = some (.int .i64 (Rn : Int)) ∧ w'.cell? ⟨kp,7,none⟩ = some (.int .i64 (Cn : Int)) ∧ w'.cell? ⟨kp,8,none⟩ = some (.slice An nn cn) ∧ w'.cell? ⟨kp,9,none⟩ = some (.int .i64 rn) ∧ w'.cell? ⟨kp,10,none⟩ = some (.int .i64 ln) ∧ w'.cell? ⟨kp,11,none⟩ = some (.bool hnn)) from fun w' hb => ⟨hb.2.cell 0 rfl,hb.2.cell 1 rfl,hb.2.cell 2 rfl,hb.2.cell 3 rfl,hb.2.cell 4 rfl,hb.2.cell 5 rfl,hb.2.cell 6 rfl,hb.2.cell 7 rfl,hb.2.cell 8 rfl,hb.2.cell 9 rfl,hb.2.cell 10 rfl,hb.2.cell 11 rfl⟩)
   go_upto_region 10 with (fail)
   go_cut [] from 57 to 63 (fun w' => TmK w' g Rn Cn (231 * 200000 * ((k : Int) + 1) + 231 * 200000) (some (knV ns rn ln hnn)) OnG ∧ Sb w' gp P T ∧ Sb w' kp #[.int .i64 (Rn : Int),.int .i64 (Cn : Int),.slice Ao no co,.int .i64 ro,.int .i64 lo,.bool ho,.int .i64 (Rn : Int),.int .i64 (Cn : Int),.slice An nn cn,.int .i64 rn,.int .i64 ln,.bool hnn] Tp ∧ Bw we w')
   case first =>
    refine wp_region_held_drew (S:=(fun w' => Bw we w' ∧ Sb w' kp #[.int .i64 (Rn : Int),.int .i64 (Cn : Int),.slice Ao no co,.int .i64 ro,.int .i64 lo,.bool ho,.int .i64 (Rn : Int),.int .i64 (Cn : Int),.slice An nn cn,.int .i64 rn,.int .i64 ln,.bool hnn] Tp)) (by kernel_rfl) ?_ (fun hHeld => ?_)
    ·(try dsimp only);(first|exact HQ9.out|(refine HQR.out _ ?_;(repeat (first|with_reducible (first|assumption|exact Bw.refl _|refine Bw.alloc ?_ _|refine Bw.more ?_ _ _|refine Bw.drew ?_|refine Bw.drewN ?_ _)|((with_reducible refine Bw.set2 ?_ ?_ _);(focus exact SZX))|with_reducible refine Bw.trans ?_ (by assumption)));done))
    refine tkQ 1 ?_
    (try simp only [Act.put,zP1,zP2,zP3,zP4,zP5,zP6])
    refine tkH 2 ?_ rfl (Or.inl ⟨by rfl,?ht2⟩) ?_;case ht2 => (intro w' hb;(try dsimp only at hb);have hcl:=HCP.out w' hb;clear hb;go_simp;try with_reducible rfl)
    (try simp only [Act.put,zP1,zP2,zP3,zP4,zP5,zP6])
    refine tkQ 3 ?_
    (try simp only [Act.put,zP1,zP2,zP3,zP4,zP5,zP6])
    refine tkH 4 ?_ rfl (Or.inl ⟨by rfl,?ht4⟩) ?_;case ht4 => (intro w' hb;(try dsimp only at hb);have hcl:=HCP.out w' hb;clear hb;go_simp;try with_reducible rfl)
    (try simp only [Act.put,zP1,zP2,zP3,zP4,zP5,zP6])
    refine wpAnyH_ready (rs:=[0,5]) (by kernel_rfl) (by simp) ?_
    refine AllReadyH.cons rfl (fun K hK => ?_) ?_
    ·(refine (if_pos (by kernel_rfl)).mpr ?_);((with_reducible refine wp_load_tr t1 g (.tmp 9) ?_ ?_ ?_ ?_);(focus rfl);(focus rfl);(focus (exact HST.out.up BWX)))
     refine hK.out _ _ ?_ (fun hHeld => ?_)
     ·(try dsimp only);(first|exact HQ9.out|(refine HQR.out _ ?_;(repeat (first|with_reducible (first|assumption|exact Bw.refl _|refine Bw.alloc ?_ _|refine Bw.more ?_ _ _|refine Bw.drew ?_|refine Bw.drewN ?_ _)|((with_reducible refine Bw.set2 ?_ ?_ _);(focus exact SZX))|with_reducible refine Bw.trans ?_ (by assumption)));done))
     clear hK K
     (try simp only [Act.put,zP1,zP2,zP3,zP4,zP5,zP6])
     refine arO 5 (fun K hK => ?_)
     go_simp
     refine (pdiff_any Rn Cn Ao no co os ro lo ho Rn Cn An nn cn ns rn ln hnn _ (HRo.out.up (show Bw wq _ from BWX)) o2 o3 o4 (HRn.out.up (show Bw wq _ from BWX)) q2 q3 q4 (PowT.bump HP.out (Bw.trans HWQ.out (show Bw wq _ from BWX)))).mono ?_;rintro ee m2 ⟨v4,rfl,hs4,hb4⟩;rw [HLD.out] at hs4;obtain ⟨B4,cv4,rfl,hc4,hcm4,hr4⟩:=hs4.get (N:=nd) HND.out;have HR4:=Lib.hid hr4;have hm2 : Bw wq m2:=Bw.trans (show Bw wq _ from BWX) hb4;have hzm2:=hm2.size;clear hb4 hr4;go_wp2_with fail
     refine hK.out _ _ ?_ (fun hHeld => ?_)
     ·(try dsimp only);(first|exact HQ9.out|(refine HQR.out _ ?_;(repeat (first|with_reducible (first|assumption|exact Bw.refl _|refine Bw.alloc ?_ _|refine Bw.more ?_ _ _|refine Bw.drew ?_|refine Bw.drewN ?_ _)|((with_reducible refine Bw.set2 ?_ ?_ _);(focus exact SZX))|with_reducible refine Bw.trans ?_ (by assumption)));done))
     clear hK K
     (try simp only [Act.put,zP1,zP2,zP3,zP4,zP5,zP6])
     refine arO 6 (fun K hK => ?_)
     go_simp
     refine (rfeed_x t1 (some (knV os ro lo ho)) (231 * 200000 * ((k : Int) + 1)) B4 nd cv4 ld _ (HT1.out.up (show Bw wq _ from BWX)) (HM1.out.up (show Bw wq _ from BWX)) (by omega) (HR4.out.up (show Bw m2 _ from BWX)) (by omega) (by omega) (by omega) HD0.out.2).mono ?_;rintro ee m3 ⟨t2,rfl,ht2,e1',e2',e3',hpl,hph,hb3,hMt,hrs,hsc⟩;have HT2:=Lib.hid ht2;have HE2:=Lib.hid (And.intro (e1'.trans HE1.out.1) (e2'.trans HE1.out.2));have HFN:=Lib.hid (fed_ne (show g < _ from (by (try simp only [szA,szS,szD,szN] at *);omega)) hA1.out hH1.out hpl hph);have HK2:=Lib.hid (fed_diff (w':=m3) (t:=t1) (t':=t2) (hid:=ho) (hid2:=hnn) hC6 HVo.out HVn.out HG1.out HE1.out.1 HE1.out.2 (by rw [HLD.out];exact hMt) (by rw [HLD.out];exact hrs) (by rw [HLD.out];exact hsc));have hm3 : Bw wq m3:=Bw.trans (show Bw wq _ from BWX) hb3;have hzm3:=hm3.size;clear ht2 e1' e2' e3' hpl hph hMt hrs hsc hb3;go_wp2_with fail
     refine hK.out _ _ ?_ (fun hHeld => ?_)
     ·(try dsimp only);(first|exact HQ9.out|(refine HQR.out _ ?_;(repeat (first|with_reducible (first|assumption|exact Bw.refl _|refine Bw.alloc ?_ _|refine Bw.more ?_ _ _|refine Bw.drew ?_|refine Bw.drewN ?_ _)|((with_reducible refine Bw.set2 ?_ ?_ _);(focus exact SZX))|with_reducible refine Bw.trans ?_ (by assumption)));done))
     clear hK K
     (try simp only [Act.put,zP1,zP2,zP3,zP4,zP5,zP6])
     refine arO 7 (fun K hK => ?_)
     (refine (if_pos (by kernel_rfl)).mpr ?_);((with_reducible refine wp_store_tr t2 g (.tmp 9) (.tmp 63) ?_ ?_ ?_ ?_ ?_);(focus rfl);(focus rfl);(focus rfl);(focus (exact ⟨_,HST.out.up (show Bw wq _ from BWX),rfl⟩)));intro w9 hS9 hg9;have HS9:=Lib.hid hS9;have HG9:=Lib.hid hg9;have HQ9:=Lib.hid (show Bw we w9 ∧ Sb w9 kp #[.int .i64 (Rn : Int),.int .i64 (Cn : Int),.slice Ao no co,.int .i64 ro,.int .i64 lo,.bool ho,.int .i64 (Rn : Int),.int .i64 (Cn : Int),.slice An nn cn,.int .i64 rn,.int .i64 ln,.bool hnn] Tp from ⟨Bw.grown (Bw.trans HBq.out (show Bw wq _ from BWX)) hg9 (fun k hk => by cases hk;omega),(HKP.out.up (show Bw wq _ from BWX)).far hg9 (fun e => by have:=Option.some.inj e;omega)⟩);clear hS9 hg9
     refine hK.out _ _ ?_ (fun hHeld => ?_)
     ·(try dsimp only);(first|exact HQ9.out|(refine HQR.out _ ?_;(repeat (first|with_reducible (first|assumption|exact Bw.refl _|refine Bw.alloc ?_ _|refine Bw.more ?_ _ _|refine Bw.drew ?_|refine Bw.drewN ?_ _)|((with_reducible refine Bw.set2 ?_ ?_ _);(focus exact SZX))|with_reducible refine Bw.trans ?_ (by assumption)));done))
     clear hK K
     (try simp only [Act.put,zP1,zP2,zP3,zP4,zP5,zP6])
     refine wpAnyH_done (by kernel_rfl) ?_ _
     go_wp2
     go_meet
     case rel => exact ⟨TmK.put (HST.out.up (show Bw wq _ from BWX)) (Trm.no8 t1) HFN.out.1 HFN.out.2 (HT2.out.up (show Bw m3 _ from BWX)) HE2.out.1 HE2.out.2 (HK2.out.1.up (show Bw m3 _ from BWX)) HK2.out.2 HG9.out HS9.out,(HSq.out.up (show Bw wq _ from BWX)).far HG9.out (fun e => by have:=Option.some.inj e;omega),HQ9.out.2,HQ9.out.1⟩
    refine AllReadyH.cons rfl (fun K hK => ?_) ?_
    ·go_simp
     refine (pdiff_any Rn Cn Ao no co os ro lo ho Rn Cn An nn cn ns rn ln hnn _ (HRo.out.up (show Bw wq _ from BWX)) o2 o3 o4 (HRn.out.up (show Bw wq _ from BWX)) q2 q3 q4 (PowT.bump HP.out (Bw.trans HWQ.out (show Bw wq _ from BWX)))).mono ?_;rintro ee m2 ⟨v4,rfl,hs4,hb4⟩;rw [HLD.out] at hs4;obtain ⟨B4,cv4,rfl,hc4,hcm4,hr4⟩:=hs4.get (N:=nd) HND.out;have HR4:=Lib.hid hr4;have hm2 : Bw wq m2:=Bw.trans (show Bw wq _ from BWX) hb4;have hzm2:=hm2.size;clear hb4 hr4;go_wp2_with fail
     refine hK.out _ _ ?_ (fun hHeld => ?_)
     ·(try dsimp only);(first|exact HQ9.out|(refine HQR.out _ ?_;(repeat (first|with_reducible (first|assumption|exact Bw.refl _|refine Bw.alloc ?_ _|refine Bw.more ?_ _ _|refine Bw.drew ?_|refine Bw.drewN ?_ _)|((with_reducible refine Bw.set2 ?_ ?_ _);(focus exact SZX))|with_reducible refine Bw.trans ?_ (by assumption)));done))
     clear hK K
     (try simp only [Act.put,zP1,zP2,zP3,zP4,zP5,zP6])
     refine arO 0 (fun K hK => ?_)
     (refine (if_pos (by kernel_rfl)).mpr ?_);((with_reducible refine wp_load_tr t1 g (.tmp 9) ?_ ?_ ?_ ?_);(focus rfl);(focus rfl);(focus (exact HST.out.up BWX)))
     refine hK.out _ _ ?_ (fun hHeld => ?_)
     ·(try dsimp only);(first|exact HQ9.out|(refine HQR.out _ ?_;(repeat (first|with_reducible (first|assumption|exact Bw.refl _|refine Bw.alloc ?_ _|refine Bw.more ?_ _ _|refine Bw.drew ?_|refine Bw.drewN ?_ _)|((with_reducible refine Bw.set2 ?_ ?_ _);(focus exact SZX))|with_reducible refine Bw.trans ?_ (by assumption)));done))
     clear hK K
     (try simp only [Act.put,zP1,zP2,zP3,zP4,zP5,zP6])
     refine arO 6 (fun K hK => ?_)
     go_simp
     refine (rfeed_x t1 (some (knV os ro lo ho)) (231 * 200000 * ((k : Int) + 1)) B4 nd cv4 ld _ (HT1.out.up (show Bw wq _ from BWX)) (HM1.out.up (show Bw wq _ from BWX)) (by omega) (HR4.out.up (show Bw m2 _ from BWX)) (by omega) (by omega) (by omega) HD0.out.2).mono ?_;rintro ee m3 ⟨t2,rfl,ht2,e1',e2',e3',hpl,hph,hb3,hMt,hrs,hsc⟩;have HT2:=Lib.hid ht2;have HE2:=Lib.hid (And.intro (e1'.trans HE1.out.1) (e2'.trans HE1.out.2));have HFN:=Lib.hid (fed_ne (show g < _ from (by (try simp only [szA,szS,szD,szN] at *);omega)) hA1.out hH1.out hpl hph);have HK2:=Lib.hid (fed_diff (w':=m3) (t:=t1) (t':=t2) (hid:=ho) (hid2:=hnn) hC6 HVo.out HVn.out HG1.out HE1.out.1 HE1.out.2 (by rw [HLD.out];exact hMt) (by rw [HLD.out];exact hrs) (by rw [HLD.out];exact hsc));have hm3 : Bw wq m3:=Bw.trans (show Bw wq _ from BWX) hb3;have hzm3:=hm3.size;clear ht2 e1' e2' e3' hpl hph hMt hrs hsc hb3;go_wp2_with fail
     refine hK.out _ _ ?_ (fun hHeld => ?_)
     ·(try dsimp only);(first|exact HQ9.out|(refine HQR.out _ ?_;(repeat (first|with_reducible (first|assumption|exact Bw.refl _|refine Bw.alloc ?_ _|refine Bw.more ?_ _ _|refine Bw.drew ?_|refine Bw.drewN ?_ _)|((with_reducible refine Bw.set2 ?_ ?_ _);(focus exact SZX))|with_reducible refine Bw.trans ?_ (by assumption)));done))
     clear hK K
     (try simp only [Act.put,zP1,zP2,zP3,zP4,zP5,zP6])
     refine arO 7 (fun K hK => ?_)
     (refine (if_pos (by kernel_rfl)).mpr ?_);((with_reducible refine wp_store_tr t2 g (.tmp 9) (.tmp 63) ?_ ?_ ?_ ?_ ?_);(focus rfl);(focus rfl);(focus rfl);(focus (exact ⟨_,HST.out.up (show Bw wq _ from BWX),rfl⟩)));intro w9 hS9 hg9;have HS9:=Lib.hid hS9;have HG9:=Lib.hid hg9;have HQ9:=Lib.hid (show Bw we w9 ∧ Sb w9 kp #[.int .i64 (Rn : Int),.int .i64 (Cn : Int),.slice Ao no co,.int .i64 ro,.int .i64 lo,.bool ho,.int .i64 (Rn : Int),.int .i64 (Cn : Int),.slice An nn cn,.int .i64 rn,.int .i64 ln,.bool hnn] Tp from ⟨Bw.grown (Bw.trans HBq.out (show Bw wq _ from BWX)) hg9 (fun k hk => by cases hk;omega),(HKP.out.up (show Bw wq _ from BWX)).far hg9 (fun e => by have:=Option.some.inj e;omega)⟩);clear hS9 hg9
     refine hK.out _ _ ?_ (fun hHeld => ?_)
     ·(try dsimp only);(first|exact HQ9.out|(refine HQR.out _ ?_;(repeat (first|with_reducible (first|assumption|exact Bw.refl _|refine Bw.alloc ?_ _|refine Bw.more ?_ _ _|refine Bw.drew ?_|refine Bw.drewN ?_ _)|((with_reducible refine Bw.set2 ?_ ?_ _);(focus exact SZX))|with_reducible refine Bw.trans ?_ (by assumption)));done))
     clear hK K
     (try simp only [Act.put,zP1,zP2,zP3,zP4,zP5,zP6])
     refine wpAnyH_done (by kernel_rfl) ?_ _
     go_wp2
     go_meet
     case rel => exact ⟨TmK.put (HST.out.up (show Bw wq _ from BWX)) (Trm.no8 t1) HFN.out.1 HFN.out.2 (HT2.out.up (show Bw m3 _ from BWX)) HE2.out.1 HE2.out.2 (HK2.out.1.up (show Bw m3 _ from BWX)) HK2.out.2 HG9.out HS9.out,(HSq.out.up (show Bw wq _ from BWX)).far HG9.out (fun e => by have:=Option.some.inj e;omega),HQ9.out.2,HQ9.out.1⟩
    exact AllReadyH.nil
   case rest =>
   obtain ⟨w9,rfl⟩ : ∃ w9,w9 = wc:=⟨_,rfl⟩
   obtain ⟨hTM9,hsp9,hkp9,hbw9⟩:=hcut
   have HTM9:=Lib.hid hTM9
   obtain ⟨t3,hs3,ht3,f1,f2,hm3,-⟩:=hTM9
   have HST3:=Lib.hid hs3
   have HT3:=Lib.hid ht3
   have HE3:=Lib.hid (And.intro f1 f2)
   have HM3:=Lib.hid hm3
   have HSP9:=Lib.hid hsp9
   have HKP9:=Lib.hid hkp9
   have HBW9:=Lib.hid hbw9
   have HRn9:=Lib.hid (show Rg w9 An nn ns from (HV0.out (k + 1)).rgn HNV.out hbw9)
   have hg9':=hs3.lt
   have hk9':=hkp9.lt
   clear hs3 ht3 f1 f2 hm3 hsp9 hkp9 hbw9 HCP HQR HKP HSq HRo HRn HST HT1 HE1 HM1 hA1 hH1 HG1 HLD HND HD0
   have HC11:=Lib.hid (show ∀ w',Bw w9 w' → (w'.cell? ⟨kp,0,none⟩ = some (.int .i64 (Rn : Int)) ∧ w'.cell? ⟨kp,1,none⟩ = some (.int .i64 (Cn : Int)) ∧ w'.cell? ⟨kp,2,none⟩ = some (.slice Ao no co) ∧ w'.cell? ⟨kp,3,none⟩ = some (.int .i64 ro) ∧ w'.cell? ⟨kp,4,none⟩ = some (.int .i64 lo) ∧ w'.cell? ⟨kp,5,none⟩ = some (.bool ho) ∧ w'.cell? ⟨kp,6,none⟩ = some (.int .i64 (Rn : Int)) ∧ w'.cell? ⟨kp,7,none⟩ = some (.int .i64 (Cn : Int)) ∧ w'.cell? ⟨kp,8,none⟩ = some (.slice An nn cn) ∧ w'.cell? ⟨kp,9,none⟩ = some (.int .i64 rn) ∧ w'.cell? ⟨kp,10,none⟩ = some (.int .i64 ln) ∧ w'.cell? ⟨kp,11,none⟩ = some (.bool hnn)) from fun w' hb' => (by have hb:=HKP9.out.up hb';exact ⟨hb.cell 0 rfl,hb.cell 1 rfl,hb.cell 2 rfl,hb.cell 3 rfl,hb.cell 4 rfl,hb.cell 5 rfl,hb.cell 6 rfl,hb.cell 7 rfl,hb.cell 8 rfl,hb.cell 9 rfl,hb.cell 10 rfl,hb.cell 11 rfl⟩))
   go_upto_region 11 with (fail)
   refine wp_region_held_drew (S:=(fun w' => Bw w9 w')) (by kernel_rfl) ?_ (fun hHeld => ?_)
   ·(try dsimp only);(repeat (first|with_reducible (first|assumption|exact Bw.refl _|refine Bw.alloc ?_ _|refine Bw.more ?_ _ _|refine Bw.drew ?_|refine Bw.drewN ?_ _)|((with_reducible refine Bw.set2 ?_ ?_ _);(focus exact SZX))|with_reducible refine Bw.trans ?_ (by assumption)))
   refine wpAnyH_take (i:=0) (v:=.agg t3.vals.toArray) rfl (by kernel_rfl) (by kernel_rfl) (by kernel_rfl) (fun _ _ _ h => h) (yields_load_tr t3 g (.tmp 9) rfl rfl (by rfl) (fun w' hb => HST3.out.up hb)) (by assumption) ?_
   (try simp only [Act.put,zP1,zP2,zP3,zP4,zP5,zP6])
   refine tkQ 2 ?_
   (try simp only [Act.put,zP1,zP2,zP3,zP4,zP5,zP6])
   refine tkH 3 ?_ rfl (Or.inl ⟨by rfl,?ht3⟩) ?_;case ht3 => (intro w' hb;(try dsimp only at hb);have hcl:=HC11.out w' hb;clear hb;go_simp;try with_reducible rfl)
   (try simp only [Act.put,zP1,zP2,zP3,zP4,zP5,zP6])
   refine arO 1 (fun K hK => ?_)
   go_simp
   refine (rpane_any t3 _).mono ?_;rintro ee m4 ⟨rfl,hb4⟩;have hq4 : Bw w9 m4:=Bw.trans (show Bw w9 _ from BWX) hb4;clear hb4;go_wp2_with fail
   refine hK.out _ _ ?_ (fun hHeld => ?_)
   ·(try dsimp only);(repeat (first|with_reducible (first|assumption|exact Bw.refl _|refine Bw.alloc ?_ _|refine Bw.more ?_ _ _|refine Bw.drew ?_|refine Bw.drewN ?_ _)|((with_reducible refine Bw.set2 ?_ ?_ _);(focus exact SZX))|with_reducible refine Bw.trans ?_ (by assumption)))
   clear hK K
   (try simp only [Act.put,zP1,zP2,zP3,zP4,zP5,zP6])
   refine arO 4 (fun K hK => ?_)
   go_simp
   obtain ⟨s1,s2,s3,s4⟩:=shown HM3.out HE3.out.1 HE3.out.2;refine (gsameV_any t3.s.Rn t3.s.Cn t3.s.A t3.s.n t3.s.c ns t3.s.row t3.s.col t3.s.hid Rn Cn An nn cn ns rn ln hnn _ (s1.up (show Bw w9 _ from BWX)) s2 s3 (HRn9.out.up (show Bw w9 _ from BWX)) q2 q3).mono ?_;rintro ee m5 ⟨rfl,hb5⟩;rw [s4];have hq5 : Bw w9 m5:=Bw.trans (show Bw w9 _ from BWX) hb5;clear s1 s2 s3 s4 hb5;go_wp2_with fail
   refine hK.out _ _ ?_ (fun hHeld => ?_)
   ·(try dsimp only);(repeat (first|with_reducible (first|assumption|exact Bw.refl _|refine Bw.alloc ?_ _|refine Bw.more ?_ _ _|refine Bw.drew ?_|refine Bw.drewN ?_ _)|((with_reducible refine Bw.set2 ?_ ?_ _);(focus exact SZX))|with_reducible refine Bw.trans ?_ (by assumption)))
   clear hK K
   (try simp only [Act.put,zP1,zP2,zP3,zP4,zP5,zP6])
   refine tkQ 5 ?_
   (try simp only [Act.put,zP1,zP2,zP3,zP4,zP5,zP6])
   refine wpAnyH_done (by kernel_rfl) ?_ _
   go_wp2_with fail
   go_roundw
   case rel =>
    refine ⟨k + 1,by go_num,by omega,HSP9.out.up (show Bw w9 _ from BWX),?_,Bw.trans HBW9.out (show Bw w9 _ from BWX)⟩
    rw [HNV.out,show (231 * 200000 * (((k + 1 : Nat) : Int) + 1)) = 231 * 200000 * ((k : Int) + 1) + 231 * 200000 by omega]
    exact HTM9.out.up (show Bw w9 _ from BWX)
   case measure => simp [intOf];omega
  ·obtain rfl : k = 4:=by omega
   go_wp2_with fail
   go_ret
   exact ⟨rfl,Bw.trans HBb.out (Bw.trans HBe.out (Bw.trans HBz.out BWX))⟩
end Go.Proofs.YteebdjmjeahccaaGreatDoor
