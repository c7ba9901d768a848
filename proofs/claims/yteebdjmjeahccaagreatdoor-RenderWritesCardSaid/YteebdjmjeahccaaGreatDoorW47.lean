/- Parts of the proof, one after the other. -/
import Derived.Test.YteebdjmjeahccaaGreatDoorW46
import Derived.Test.YteebdjmjeahccaaGreatDoorW45
import Derived.Deep.RegionHeld3
set_option linter.unusedSimpArgs false
set_option linter.unusedVariables false
set_option maxRecDepth 100000
set_option maxHeartbeats 16000000
namespace Go.Proofs.YteebdjmjeahccaaGreatDoor
open Go.RowKit
/-- What is held may be made stronger on the way through a region. -/
theorem wpAnyH_more {P : Program} {ops : Array Oper} {Q : Exit → Act → World → Prop} {md : Region.Mode} {S S' : World → Prop} (hs : ∀ w,S' w → S w) : ∀ (fuel : Nat) (listed : Array Bool) (a : Act) (w : World),wpAnyH P md ops Q S' fuel listed a w → wpAnyH P md ops Q S fuel listed a w
 | 0,_,_,_,h => h
 | fuel + 1,_,_,_,h => ⟨h.1,fun i hi => wpOp_mono (fun a' w' h' => ⟨hs _ h'.1,wpAnyH_more hs fuel _ a' w' h'.2⟩) (h.2 i hi)⟩
/-- At place i of a list of views lies a view of few cells, known by address. -/
def VAt (w : World) (g i : Nat) : Prop:=∃ (R C : Int) (Ap : Option Addr) (np cp : Nat) (cs : List C4) (row col : Int) (hid : Bool),w.cell? ⟨g,i * 6,none⟩ = some (.int .i64 R) ∧ w.cell? ⟨g,i * 6 + 1,none⟩ = some (.int .i64 C) ∧ w.cell? ⟨g,i * 6 + 2,none⟩ = some (.slice Ap np cp) ∧ w.cell? ⟨g,i * 6 + 3,none⟩ = some (.int .i64 row) ∧ w.cell? ⟨g,i * 6 + 4,none⟩ = some (.int .i64 col) ∧ w.cell? ⟨g,i * 6 + 5,none⟩ = some (.bool hid) ∧ Rg w Ap np cs ∧ np ≤ 60 ∧ np ≤ cp ∧ cp ≤ 9223372036854775807
theorem VAt.up {w w' : World} {g i : Nat} (h : VAt w g i) (hb : Bw w w') : VAt w' g i:=by
 obtain ⟨R,C,Ap,np,cp,cs,row,col,hid,h0,h1,h2,h3,h4,h5,hr,h60,hn,hc⟩:=h
 exact ⟨R,C,Ap,np,cp,cs,row,col,hid,cell_bw hb h0,cell_bw hb h1,cell_bw hb h2,cell_bw hb h3,cell_bw hb h4,cell_bw hb h5,hr.up hb,h60,hn,hc⟩
theorem writes_any (A : Option Addr) (n c : Nat) (xs : List Int) (what : Int) (vR vC : Int) (vA : Option Addr) (vn vc : Nat) (vcs : List C4) (vrow vcol : Int) (vhid : Bool) (w : World) (hr : RdI w A n xs) (hA : 0 < n → ∀ ad,A = some ad → ad.block < w.heap.size) (hn : n ≤ 9223372036854775807) (hrv : Rg w vA vn vcs) (hvn : vn ≤ vc) (hvc : vc ≤ 9223372036854775807) (hP : PowT w.heap.size w) :
  Calls Tryz.prog 3 #[.slice A n c,.int .i64 what,.agg #[.int .i64 vR,.int .i64 vC,.slice vA vn vc,.int .i64 vrow,.int .i64 vcol,.bool vhid]] w fun e w' => e = .returned (.bool true) ∧ Bw w w':=by
 have HR:=Lib.hid hr
 have HAA:=Lib.hid hA
 have HP:=Lib.hid hP
 have HRV:=Lib.hid hrv
 clear hr hA hP hrv
 go_enter Tryz.func3,Tryz.ntmps3
 go_upto_region 1 with (fail)
 generalize hw0 : w.alloc _ = w0
 obtain ⟨hb0,hbw0,hz0⟩:=sb1 hw0
 obtain ⟨kr,hkr⟩ : ∃ kr,kr = w.heap.size:=⟨_,rfl⟩
 rw [← hkr] at hb0 ⊢
 have HBR:=Lib.hid (show Sb w0 kr (vwV vR vC vA vn vc vrow vcol vhid) 27 from hb0)
 clear hw0 hb0 hkr
 go_upto_region 3 with (first
  | (go_at_call 8;refine (sane20_any w0 (PowT.bump HP.out hbw0)).mono ?_;rintro ee w1 ⟨rfl,hb1⟩;have HB01:=Lib.hid hb1;have HB1:=Lib.hid (Bw.trans hbw0 hb1);have hz1:=hb1.size;clear hb1)
  | fail)
 have x2:=(HBR.out.up HB01.out).cell 2 (v:=.slice vA vn vc) rfl
 by_cases h50 : (50 : Int) < (vn : Int)
 ·go_wp2_with fail
  go_ret
  exact ⟨rfl,HB1.out⟩
 go_upto_region 6 with (first
  | (go_at_call 9;refine (views_any A n c xs _ (HR.out.up HAA.out (Bw.trans HB1.out (show Bw w1 _ from BWX))) (fun h0 ad e => by have:=HAA.out h0 ad e;have:=HB1.out.size;omega) hn).mono ?_;rintro ee w2 ⟨R,C,x,y,rfl,⟨A1,n1,c1,cs,row,col,hid,rfl,k1,k2,k3,k4,k5⟩,⟨A2,n2,c2,ds,row2,col2,hid2,rfl,l1,l2,l3,l4,l5⟩,hb2⟩;have hb12 : Bw w1 w2:=Bw.trans (show Bw w1 _ from BWX) hb2;have HB2:=Lib.hid (Bw.trans HB1.out hb12);have HBR2:=Lib.hid (HBR.out.up (Bw.trans HB01.out hb12));have HX:=Lib.hid k1;have HY:=Lib.hid l1;have HVa:=Lib.hid k5;clear k1 k5 l1 l5 hb2 hb12)
  | fail)
 obtain ⟨hR1,hR2,hC1,hC2,-⟩:=viewB_dim HVa.out
 clear x2 HBR HB01 HB1 HVa
 generalize hwa : w2.alloc _ = wa
 obtain ⟨hka,hba,hza⟩:=sb1 hwa
 generalize hwb : wa.alloc _ = wb
 obtain ⟨hkb,hbb,hzb⟩:=sb1 hwb
 rw [hza] at hkb
 obtain ⟨ka,hka2⟩ : ∃ ka,ka = w2.heap.size:=⟨_,rfl⟩
 obtain ⟨kb,hkb2⟩ : ∃ kb,kb = w2.heap.size + 1:=⟨_,rfl⟩
 rw [← hkb2] at hkb ⊢
 rw [← hka2] at hka ⊢
 have HKA:=Lib.hid (show Sb wb ka (vwV R C A1 n1 c1 row col hid) 27 from hka.up hbb)
 have HKB:=Lib.hid (show Sb wb kb (vwV R C A2 n2 c2 row2 col2 hid2) 27 from hkb)
 have hb2b:=Bw.trans hba hbb
 have HXb:=Lib.hid (HX.out.up hb2b)
 have HYb:=Lib.hid (HY.out.up hb2b)
 have HBRb:=Lib.hid (HBR2.out.up hb2b)
 have HBb:=Lib.hid (Bw.trans HB2.out hb2b)
 have HVb:=Lib.hid (HRV.out.up HBb.out)
 have hla:=HKA.out.lt
 have hlb:=HKB.out.lt
 have hlr:=HBRb.out.lt
 clear hwa hwb hka hkb hba hbb hza hzb hka2 hkb2 hb2b HX HY HBR2 HB2 hz0 hz1
 have HC6:=Lib.hid (show ∀ w',Bw wb w' → (w'.cell? ⟨ka,0,none⟩ = some (.int .i64 R) ∧ w'.cell? ⟨ka,1,none⟩ = some (.int .i64 C) ∧ w'.cell? ⟨ka,2,none⟩ = some (.slice A1 n1 c1) ∧ w'.cell? ⟨ka,3,none⟩ = some (.int .i64 row) ∧ w'.cell? ⟨ka,4,none⟩ = some (.int .i64 col) ∧ w'.cell? ⟨ka,5,none⟩ = some (.bool hid) ∧ w'.cell? ⟨kr,0,none⟩ = some (.int .i64 vR) ∧ w'.cell? ⟨kr,1,none⟩ = some (.int .i64 vC) ∧ w'.cell? ⟨kr,2,none⟩ = some (.slice vA vn vc) ∧ w'.cell? ⟨kr,3,none⟩ = some (.int .i64 vrow) ∧ w'.cell? ⟨kr,4,none⟩ = some (.int .i64 vcol) ∧ w'.cell? ⟨kr,5,none⟩ = some (.bool vhid)) from fun w' hb => ⟨(HKA.out.up hb).cell 0 rfl,(HKA.out.up hb).cell 1 rfl,(HKA.out.up hb).cell 2 rfl,(HKA.out.up hb).cell 3 rfl,(HKA.out.up hb).cell 4 rfl,(HKA.out.up hb).cell 5 rfl,(HBRb.out.up hb).cell 0 rfl,(HBRb.out.up hb).cell 1 rfl,(HBRb.out.up hb).cell 2 rfl,(HBRb.out.up hb).cell 3 rfl,(HBRb.out.up hb).cell 4 rfl,(HBRb.out.up hb).cell 5 rfl⟩)
 refine wp_region_held_drew (S:=(fun w' => w'.cell? ⟨ka,0,none⟩ = some (.int .i64 R) ∧ w'.cell? ⟨ka,1,none⟩ = some (.int .i64 C) ∧ w'.cell? ⟨ka,2,none⟩ = some (.slice A1 n1 c1) ∧ w'.cell? ⟨ka,3,none⟩ = some (.int .i64 row) ∧ w'.cell? ⟨ka,4,none⟩ = some (.int .i64 col) ∧ w'.cell? ⟨ka,5,none⟩ = some (.bool hid) ∧ w'.cell? ⟨kr,0,none⟩ = some (.int .i64 vR) ∧ w'.cell? ⟨kr,1,none⟩ = some (.int .i64 vC) ∧ w'.cell? ⟨kr,2,none⟩ = some (.slice vA vn vc) ∧ w'.cell? ⟨kr,3,none⟩ = some (.int .i64 vrow) ∧ w'.cell? ⟨kr,4,none⟩ = some (.int .i64 vcol) ∧ w'.cell? ⟨kr,5,none⟩ = some (.bool vhid))) (by kernel_rfl) ?_ (fun hHeld => ?_)
 ·(try dsimp only);(first|(refine HC6.out _ ?_;(repeat (first|with_reducible (first|assumption|exact Bw.refl _|refine Bw.alloc ?_ _|refine Bw.more ?_ _ _|refine Bw.drew ?_|refine Bw.drewN ?_ _)|((with_reducible refine Bw.set2 ?_ ?_ _);(focus exact SZX))|with_reducible refine Bw.trans ?_ (by assumption)));done)|trivial)
 refine tkQ 0 ?_
 refine tkQ 1 ?_
 refine tkQ 2 ?_
 (try simp only [Act.put,zP1,zP2,zP3,zP4,zP5,zP6])
 refine tkQ 4 ?_
 refine tkQ 7 ?_
 (try simp only [Act.put,zP1,zP2,zP3,zP4,zP5,zP6])
 refine arO 3 (fun K hK => ?_)
 go_simp
 refine (bad20_any R C A1 n1 c1 cs row col hid what _ (HXb.out.up (show Bw wb _ from BWX)) k4 k2 k3 (by omega) (by omega)).mono ?_;rintro ee w6 ⟨Rt,Ct,At,nt,ct,cst,rowt,colt,hidt,rfl,hr6,h6t,hnt,hct,hb6⟩;have hb6b : Bw wb w6:=Bw.trans (show Bw wb _ from BWX) hb6;have HR6:=Lib.hid hr6;clear hr6 hb6;go_wp2_with fail
 refine hK.out _ _ ?_ (fun hHeld => ?_)
 ·(try dsimp only);(first|(refine HC6.out _ ?_;(repeat (first|with_reducible (first|assumption|exact Bw.refl _|refine Bw.alloc ?_ _|refine Bw.more ?_ _ _|refine Bw.drew ?_|refine Bw.drewN ?_ _)|((with_reducible refine Bw.set2 ?_ ?_ _);(focus exact SZX))|with_reducible refine Bw.trans ?_ (by assumption)));done)|trivial)
 clear hK K
 (try simp only [Act.put,zP1,zP2,zP3,zP4,zP5,zP6])
 refine arO 5 (fun K hK => ?_)
 go_simp
 refine hK.out _ _ ?_ (fun hHeld => ?_)
 ·(try dsimp only);(first|(refine HC6.out _ ?_;(repeat (first|with_reducible (first|assumption|exact Bw.refl _|refine Bw.alloc ?_ _|refine Bw.more ?_ _ _|refine Bw.drew ?_|refine Bw.drewN ?_ _)|((with_reducible refine Bw.set2 ?_ ?_ _);(focus exact SZX))|with_reducible refine Bw.trans ?_ (by assumption)));done)|trivial)
 clear hK K
 (try simp only [Act.put,zP1,zP2,zP3,zP4,zP5,zP6])
 refine tkQ 6 ?_
 (try simp only [Act.put,zP1,zP2,zP3,zP4,zP5,zP6])
 refine wpAnyH_done (by kernel_rfl) ?_ _
 generalize hw7 : World.alloc _ _ = w7
 obtain ⟨hb7,hbw7,hz7⟩:=sb1 hw7
 obtain ⟨gv,hgv⟩ : ∃ gv,gv = w6.heap.size:=⟨_,rfl⟩
 have hb7b:=Bw.trans hb6b hbw7
 have HV0:=Lib.hid (show VAt w7 w6.heap.size 0 from ⟨_,_,_,_,_,cs,_,_,_,hb7.cell 0 rfl,hb7.cell 1 rfl,hb7.cell 2 rfl,hb7.cell 3 rfl,hb7.cell 4 rfl,hb7.cell 5 rfl,HXb.out.up hb7b,k4,k2,k3⟩)
 have HV1:=Lib.hid (show VAt w7 w6.heap.size 1 from ⟨_,_,_,_,_,cst,_,_,_,hb7.cell 6 rfl,hb7.cell 7 rfl,hb7.cell 8 rfl,hb7.cell 9 rfl,hb7.cell 10 rfl,hb7.cell 11 rfl,HR6.out.up hbw7,h6t,hnt,hct⟩)
 have HV2:=Lib.hid (show VAt w7 w6.heap.size 2 from ⟨_,_,_,_,_,vcs,_,_,_,hb7.cell 12 rfl,hb7.cell 13 rfl,hb7.cell 14 rfl,hb7.cell 15 rfl,hb7.cell 16 rfl,hb7.cell 17 rfl,HVb.out.up hb7b,by omega,hvn,hvc⟩)
 have hgv7 : w6.heap.size < w7.heap.size:=hb7.lt
 simp only [← hgv] at HV0 HV1 HV2 hgv7 ⊢
 have HB7:=Lib.hid hb7b
 clear hw7 hb7 hbw7 hz7 hgv hb6b hb7b HR6
 go_wp2_with fail
 go_loopw [32] (fun i wr => ∃ k : Nat,i = .int .i64 (k : Int) ∧ k ≤ 3 ∧ Bw w7 wr) (fun i _ => 3 - (intOf i).toNat)
 case atStart => exact ⟨0,rfl,by omega,Bw.refl _⟩
 case round =>
  obtain ⟨wz,hwz⟩ : ∃ wz : World,wz = wr:=⟨_,rfl⟩
  subst hwz
  obtain ⟨k,rfl,hk,hbz⟩:=hrel
  have HBZ7:=Lib.hid hbz
  have HBZ:=Lib.hid (Bw.trans HB7.out hbz)
  clear hbz
  by_cases hlt : k < 3
  ·have hVA : VAt wz gv k:=by
    rcases (show k = 0 ∨ k = 1 ∨ k = 2 by omega) with rfl|rfl|rfl
    ·exact HV0.out.up HBZ7.out
    ·exact HV1.out.up HBZ7.out
    ·exact HV2.out.up HBZ7.out
   obtain ⟨Rp,Cp,Ap,np,cp,csp,rowp,colp,hidp,h0,h1,h2,h3,h4,h5,hrp,h6p,hnp,hcp⟩:=hVA
   have e1 : (0 : Int) ≤ k:=by omega
   have e2 : (k : Int) < 3:=by omega
   have hgv8 : gv < wz.heap.size:=by have:=HBZ7.out.size;omega
   go_upto_region 9 with (fail)
   generalize hwx : wz.alloc _ = wx
   obtain ⟨hbx,hbwx,hzx⟩:=sb1 hwx
   obtain ⟨kx,hkx⟩ : ∃ kx,kx = wz.heap.size:=⟨_,rfl⟩
   rw [← hkx] at hbx ⊢
   have HBX:=Lib.hid (show Sb wx kx (vwV Rp Cp Ap np cp rowp colp hidp) 27 from hbx)
   have HRX:=Lib.hid (hrp.up hbwx)
   have HBX0:=Lib.hid (Bw.trans HBZ.out hbwx)
   have HZX:=Lib.hid hbwx
   have hbsx:=HBX0.out.size
   clear hwx hbx hbwx hzx hkx hrp h0 h1 h2 h3 h4 h5
   have HC9:=Lib.hid (show ∀ w',Bw wx w' → (w'.cell? ⟨kb,0,none⟩ = some (.int .i64 R) ∧ w'.cell? ⟨kb,1,none⟩ = some (.int .i64 C) ∧ w'.cell? ⟨kb,2,none⟩ = some (.slice A2 n2 c2) ∧ w'.cell? ⟨kb,3,none⟩ = some (.int .i64 row2) ∧ w'.cell? ⟨kb,4,none⟩ = some (.int .i64 col2) ∧ w'.cell? ⟨kb,5,none⟩ = some (.bool hid2) ∧ w'.cell? ⟨kr,0,none⟩ = some (.int .i64 vR) ∧ w'.cell? ⟨kr,1,none⟩ = some (.int .i64 vC) ∧ w'.cell? ⟨kr,2,none⟩ = some (.slice vA vn vc) ∧ w'.cell? ⟨kr,3,none⟩ = some (.int .i64 vrow) ∧ w'.cell? ⟨kr,4,none⟩ = some (.int .i64 vcol) ∧ w'.cell? ⟨kr,5,none⟩ = some (.bool vhid)) from fun w' hb => ⟨(HKB.out.up (Bw.trans HBX0.out hb)).cell 0 rfl,(HKB.out.up (Bw.trans HBX0.out hb)).cell 1 rfl,(HKB.out.up (Bw.trans HBX0.out hb)).cell 2 rfl,(HKB.out.up (Bw.trans HBX0.out hb)).cell 3 rfl,(HKB.out.up (Bw.trans HBX0.out hb)).cell 4 rfl,(HKB.out.up (Bw.trans HBX0.out hb)).cell 5 rfl,(HBRb.out.up (Bw.trans HBX0.out hb)).cell 0 rfl,(HBRb.out.up (Bw.trans HBX0.out hb)).cell 1 rfl,(HBRb.out.up (Bw.trans HBX0.out hb)).cell 2 rfl,(HBRb.out.up (Bw.trans HBX0.out hb)).cell 3 rfl,(HBRb.out.up (Bw.trans HBX0.out hb)).cell 4 rfl,(HBRb.out.up (Bw.trans HBX0.out hb)).cell 5 rfl⟩)
   refine wp_region_held_drew (S:=(fun w' => w'.cell? ⟨kb,0,none⟩ = some (.int .i64 R) ∧ w'.cell? ⟨kb,1,none⟩ = some (.int .i64 C) ∧ w'.cell? ⟨kb,2,none⟩ = some (.slice A2 n2 c2) ∧ w'.cell? ⟨kb,3,none⟩ = some (.int .i64 row2) ∧ w'.cell? ⟨kb,4,none⟩ = some (.int .i64 col2) ∧ w'.cell? ⟨kb,5,none⟩ = some (.bool hid2) ∧ w'.cell? ⟨kr,0,none⟩ = some (.int .i64 vR) ∧ w'.cell? ⟨kr,1,none⟩ = some (.int .i64 vC) ∧ w'.cell? ⟨kr,2,none⟩ = some (.slice vA vn vc) ∧ w'.cell? ⟨kr,3,none⟩ = some (.int .i64 vrow) ∧ w'.cell? ⟨kr,4,none⟩ = some (.int .i64 vcol) ∧ w'.cell? ⟨kr,5,none⟩ = some (.bool vhid))) (by kernel_rfl) ?_ (fun hHeld => ?_)
   ·(try dsimp only);(first|(refine HC9.out _ ?_;(repeat (first|with_reducible (first|assumption|exact Bw.refl _|refine Bw.alloc ?_ _|refine Bw.more ?_ _ _|refine Bw.drew ?_|refine Bw.drewN ?_ _)|((with_reducible refine Bw.set2 ?_ ?_ _);(focus exact SZX))|with_reducible refine Bw.trans ?_ (by assumption)));done)|trivial)
   refine tkQ 0 ?_
   refine tkQ 1 ?_
   refine tkQ 2 ?_
   (try simp only [Act.put,zP1,zP2,zP3,zP4,zP5,zP6])
   refine tkQ 3 ?_
   refine tkQ 5 ?_
   refine tkQ 8 ?_
   (try simp only [Act.put,zP1,zP2,zP3,zP4,zP5,zP6])
   refine arO 4 (fun K hK => ?_)
   go_simp
   refine (bad20_any R C A2 n2 c2 ds row2 col2 hid2 _ _ (HYb.out.up (Bw.trans HBX0.out (show Bw wx _ from BWX))) l4 l2 l3 (by omega) (by omega)).mono ?_;rintro ee w9 ⟨Rs,Cs,As,ns,cs9,css,rows,cols,hids,rfl,hr9,h6s,hns,hcs,hb9⟩;have hb9x : Bw wx w9:=Bw.trans (show Bw wx _ from BWX) hb9;have HR9:=Lib.hid hr9;clear hr9 hb9;go_wp2_with fail
   refine hK.out _ _ ?_ (fun hHeld => ?_)
   ·(try dsimp only);(first|(refine HC9.out _ ?_;(repeat (first|with_reducible (first|assumption|exact Bw.refl _|refine Bw.alloc ?_ _|refine Bw.more ?_ _ _|refine Bw.drew ?_|refine Bw.drewN ?_ _)|((with_reducible refine Bw.set2 ?_ ?_ _);(focus exact SZX))|with_reducible refine Bw.trans ?_ (by assumption)));done)|trivial)
   clear hK K
   (try simp only [Act.put,zP1,zP2,zP3,zP4,zP5,zP6])
   refine arO 6 (fun K hK => ?_)
   go_simp
   refine hK.out _ _ ?_ (fun hHeld => ?_)
   ·(try dsimp only);(first|(refine HC9.out _ ?_;(repeat (first|with_reducible (first|assumption|exact Bw.refl _|refine Bw.alloc ?_ _|refine Bw.more ?_ _ _|refine Bw.drew ?_|refine Bw.drewN ?_ _)|((with_reducible refine Bw.set2 ?_ ?_ _);(focus exact SZX))|with_reducible refine Bw.trans ?_ (by assumption)));done)|trivial)
   clear hK K
   (try simp only [Act.put,zP1,zP2,zP3,zP4,zP5,zP6])
   refine tkQ 7 ?_
   (try simp only [Act.put,zP1,zP2,zP3,zP4,zP5,zP6])
   refine wpAnyH_done (by kernel_rfl) ?_ _
   generalize hwy : World.alloc _ _ = wy
   obtain ⟨hby,hbwy,hzy⟩:=sb1 hwy
   obtain ⟨gu,hgu⟩ : ∃ gu,gu = w9.heap.size:=⟨_,rfl⟩
   have hbxy:=Bw.trans hb9x hbwy
   have HU0:=Lib.hid (show VAt wy w9.heap.size 0 from ⟨_,_,_,_,_,ds,_,_,_,hby.cell 0 rfl,hby.cell 1 rfl,hby.cell 2 rfl,hby.cell 3 rfl,hby.cell 4 rfl,hby.cell 5 rfl,HYb.out.up (Bw.trans HBX0.out hbxy),l4,l2,l3⟩)
   have HU1:=Lib.hid (show VAt wy w9.heap.size 1 from ⟨_,_,_,_,_,css,_,_,_,hby.cell 6 rfl,hby.cell 7 rfl,hby.cell 8 rfl,hby.cell 9 rfl,hby.cell 10 rfl,hby.cell 11 rfl,HR9.out.up hbwy,h6s,hns,hcs⟩)
   have HU2:=Lib.hid (show VAt wy w9.heap.size 2 from ⟨_,_,_,_,_,vcs,_,_,_,hby.cell 12 rfl,hby.cell 13 rfl,hby.cell 14 rfl,hby.cell 15 rfl,hby.cell 16 rfl,hby.cell 17 rfl,HVb.out.up (Bw.trans HBX0.out hbxy),by omega,hvn,hvc⟩)
   have HXY9:=Lib.hid hbxy
   have hgu7 : w9.heap.size < wy.heap.size:=hby.lt
   simp only [← hgu] at HU0 HU1 HU2 hgu7 ⊢
   clear hwy hby hbwy hzy hgu hbxy hb9x HR9
   go_wp2_with fail
   go_loopw [44] (fun i wr => ∃ k2 : Nat,i = .int .i64 (k2 : Int) ∧ k2 ≤ 3 ∧ Bw wy wr) (fun i _ => 3 - (intOf i).toNat)
   case atStart => exact ⟨0,rfl,by omega,Bw.refl _⟩
   case round =>
    obtain ⟨wv,hwv⟩ : ∃ wv : World,wv = wr:=⟨_,rfl⟩
    subst hwv
    obtain ⟨k2,rfl,hk2,hbv⟩:=hrel
    have HBV:=Lib.hid hbv
    clear hbv
    by_cases hlt2 : k2 < 3
    ·have hVU : VAt wv gu k2:=by
      rcases (show k2 = 0 ∨ k2 = 1 ∨ k2 = 2 by omega) with rfl|rfl|rfl
      ·exact HU0.out.up HBV.out
      ·exact HU1.out.up HBV.out
      ·exact HU2.out.up HBV.out
     obtain ⟨Rq,Cq,Aq,nq,cq,csq,rowq,colq,hidq,h0,h1,h2,h3,h4,h5,hrq,h6q,hnq,hcq⟩:=hVU
     have e3 : (0 : Int) ≤ k2:=by omega
     have e4 : (k2 : Int) < 3:=by omega
     have hgu8 : gu < wv.heap.size:=by have:=HBV.out.size;omega
     go_upto_region 12 with (fail)
     generalize hwq : wv.alloc _ = wq
     obtain ⟨hbq,hbwq,hzq⟩:=sb1 hwq
     obtain ⟨ky,hky⟩ : ∃ ky,ky = wv.heap.size:=⟨_,rfl⟩
     rw [← hky] at hbq ⊢
     have HBY:=Lib.hid (show Sb wq ky (vwV Rq Cq Aq nq cq rowq colq hidq) 27 from hbq)
     have HRQ:=Lib.hid (hrq.up hbwq)
     have HQQ:=Lib.hid (Bw.trans HBV.out hbwq)
     have HXQ:=Lib.hid (Bw.trans HXY9.out HQQ.out)
     have HBXq:=Lib.hid (HBX.out.up HXQ.out)
     have HRP:=Lib.hid (HRX.out.up HXQ.out)
     have HWQ:=Lib.hid (Bw.trans HBb.out (Bw.trans HBX0.out HXQ.out))
     have HXY:=Lib.hid (show ∀ w',Bw wq w' → (w'.cell? ⟨kx,0,none⟩ = some (.int .i64 Rp) ∧ w'.cell? ⟨kx,1,none⟩ = some (.int .i64 Cp) ∧ w'.cell? ⟨kx,2,none⟩ = some (.slice Ap np cp) ∧ w'.cell? ⟨kx,3,none⟩ = some (.int .i64 rowp) ∧ w'.cell? ⟨kx,4,none⟩ = some (.int .i64 colp) ∧ w'.cell? ⟨kx,5,none⟩ = some (.bool hidp) ∧ w'.cell? ⟨ky,0,none⟩ = some (.int .i64 Rq) ∧ w'.cell? ⟨ky,1,none⟩ = some (.int .i64 Cq) ∧ w'.cell? ⟨ky,2,none⟩ = some (.slice Aq nq cq) ∧ w'.cell? ⟨ky,3,none⟩ = some (.int .i64 rowq) ∧ w'.cell? ⟨ky,4,none⟩ = some (.int .i64 colq) ∧ w'.cell? ⟨ky,5,none⟩ = some (.bool hidq)) from fun w' hb => ⟨(HBXq.out.up hb).cell 0 rfl,(HBXq.out.up hb).cell 1 rfl,(HBXq.out.up hb).cell 2 rfl,(HBXq.out.up hb).cell 3 rfl,(HBXq.out.up hb).cell 4 rfl,(HBXq.out.up hb).cell 5 rfl,(HBY.out.up hb).cell 0 rfl,(HBY.out.up hb).cell 1 rfl,(HBY.out.up hb).cell 2 rfl,(HBY.out.up hb).cell 3 rfl,(HBY.out.up hb).cell 4 rfl,(HBY.out.up hb).cell 5 rfl⟩)
     obtain ⟨lf,hlf⟩ : ∃ l,fullL Rp Cp csp rowp colp hidp = l:=⟨_,rfl⟩
     obtain ⟨ld,hld⟩ : ∃ l,diffL Rp Cp csp rowp colp hidp Rq Cq csq rowq colq hidq = l:=⟨_,rfl⟩
     obtain ⟨vb,hvb⟩ : ∃ l,viewB Rp Cp csp rowp colp = l:=⟨_,rfl⟩
     obtain ⟨sm,hsm⟩ : ∃ l,sameV Rp Cp csp rowp colp hidp Rq Cq csq rowq colq hidq = l:=⟨_,rfl⟩
     have HLF:=Lib.hid hlf
     have HLD:=Lib.hid hld
     have HLV:=Lib.hid hvb
     have HLS:=Lib.hid hsm
     clear hwq hbq hbwq hzq hky hrq h0 h1 h2 h3 h4 h5 hlf hld hvb hsm
     refine wp_region_held_drew (S:=(fun w' => Bw wq w')) (by kernel_rfl) ?_ (fun hHeld => ?_)
     ·(try dsimp only);(repeat (first|with_reducible (first|assumption|exact Bw.refl _|refine Bw.alloc ?_ _|refine Bw.more ?_ _ _|refine Bw.drew ?_|refine Bw.drewN ?_ _)|((with_reducible refine Bw.set2 ?_ ?_ _);(focus exact SZX))|with_reducible refine Bw.trans ?_ (by assumption)))
     refine tkH 0 ?_ rfl (Or.inl ⟨by rfl,?ht0⟩) ?_;case ht0 => (intro w hSw;(try dsimp only at hSw);have hcl:=HXY.out w (Bw.trans (Bw.refl wq) hSw);clear hSw;go_simp;try with_reducible rfl)
     (try simp only [Act.put,zP1,zP2,zP3,zP4,zP5,zP6])
     refine tkH 3 ?_ rfl (Or.inl ⟨by rfl,?ht3⟩) ?_;case ht3 => (intro w hSw;(try dsimp only at hSw);have hcl:=HXY.out w (Bw.trans (Bw.refl wq) hSw);clear hSw;go_simp;try with_reducible rfl)
     (try simp only [Act.put,zP1,zP2,zP3,zP4,zP5,zP6])
     refine arO 1 (fun K hK => ?_)
     go_simp
     refine (pfull_any Rp Cp Ap np cp csp rowp colp hidp _ (HRP.out.up (show Bw wq _ from BWX)) hnp hcp h6p (PowT.bump HP.out (Bw.trans HWQ.out (show Bw wq _ from BWX)))).mono ?_;rintro ee m1 ⟨v1,rfl,hs1,hb1⟩;rw [HLF.out] at hs1;obtain ⟨B1,cv1,rfl,hc1,hcm1,hr1⟩:=hs1;have hm1 : Bw wq m1:=Bw.trans (show Bw wq _ from BWX) hb1;have HR1:=Lib.hid hr1;clear hr1;go_wp2_with fail
     refine hK.out _ _ ?_ (fun hHeld => ?_)
     ·(try dsimp only);(repeat (first|with_reducible (first|assumption|exact Bw.refl _|refine Bw.alloc ?_ _|refine Bw.more ?_ _ _|refine Bw.drew ?_|refine Bw.drewN ?_ _)|((with_reducible refine Bw.set2 ?_ ?_ _);(focus exact SZX))|with_reducible refine Bw.trans ?_ (by assumption)))
     clear hK K
     (try simp only [Act.put,zP1,zP2,zP3,zP4,zP5,zP6])
     refine wpAnyH_more (S':=fun w' => Bw m1 w') (fun w h => Bw.trans (show Bw wq m1 from BWX) h) _ _ _ _ ?_;have hS1:=Bw.refl m1;refine tkH 2 ?_ rfl (Or.inl ⟨by rfl,?ht2⟩) ?_;case ht2 => (intro w hSw;(try dsimp only at hSw);have hk:=conv_run (cap:=cv1) (HR1.out.up hSw);clear hSw;go_simp;try with_reducible rfl)
     (try simp only [Act.put,zP1,zP2,zP3,zP4,zP5,zP6])
     refine arO 4 (fun K hK => ?_)
     go_simp
     refine (rfull_any Rp Cp Ap np cp csp rowp colp hidp _ (HRP.out.up (show Bw wq _ from BWX)) hnp hcp h6p).mono ?_;rintro ee m2 ⟨v2,rfl,hs2,hb2⟩;rw [HLF.out] at hs2;obtain ⟨B2,cv2,rfl,hc2,hcm2,hr2⟩:=hs2;have hm2 : Bw wq m2:=Bw.trans (show Bw wq _ from BWX) hb2;have HR2:=Lib.hid hr2;clear hr2;go_wp2_with fail
     refine hK.out _ _ ?_ (fun hHeld => ?_)
     ·(try dsimp only);(repeat (first|with_reducible (first|assumption|exact Bw.refl _|refine Bw.alloc ?_ _|refine Bw.more ?_ _ _|refine Bw.drew ?_|refine Bw.drewN ?_ _)|((with_reducible refine Bw.set2 ?_ ?_ _);(focus exact SZX))|with_reducible refine Bw.trans ?_ (by assumption)))
     clear hK K
     (try simp only [Act.put,zP1,zP2,zP3,zP4,zP5,zP6])
     refine wpAnyH_more (S':=fun w' => Bw m2 w') (fun w h => Bw.trans (show Bw m1 m2 from BWX) h) _ _ _ _ ?_;have hS2:=Bw.refl m2;refine tkH 5 ?_ rfl (Or.inl ⟨by rfl,?ht5⟩) ?_;case ht5 => (intro w hSw;(try dsimp only at hSw);have hk:=conv_run (cap:=cv2) (HR2.out.up hSw);clear hSw;go_simp;try with_reducible rfl)
     (try simp only [Act.put,zP1,zP2,zP3,zP4,zP5,zP6])
     refine wpAnyH_take (i:=6) (v:=.bool false) rfl (by kernel_rfl) (by kernel_rfl) (by kernel_rfl) (fun _ _ _ h => h) (Or.inl ⟨by rfl,?ht6⟩) (by assumption) ?_;case ht6 => (intro w hSw;(try dsimp only at hSw);have hcl:=HXY.out w (Bw.trans (hm2) hSw);clear hSw;go_simp;(try rfl))
     (try simp only [Act.put,zP1,zP2,zP3,zP4,zP5,zP6])
     refine tkQ 7 ?_
     (try simp only [Act.put,zP1,zP2,zP3,zP4,zP5,zP6])
     refine tkH 8 ?_ rfl (Or.inl ⟨by rfl,?ht8⟩) ?_;case ht8 => (intro w hSw;(try dsimp only at hSw);have hcl:=HXY.out w (Bw.trans (hm2) hSw);clear hSw;go_simp;try with_reducible rfl)
     (try simp only [Act.put,zP1,zP2,zP3,zP4,zP5,zP6])
     refine tkH 9 ?_ rfl (Or.inl ⟨by rfl,?ht9⟩) ?_;case ht9 => (intro w hSw;(try dsimp only at hSw);have hcl:=HXY.out w (Bw.trans (hm2) hSw);clear hSw;go_simp;try with_reducible rfl)
     (try simp only [Act.put,zP1,zP2,zP3,zP4,zP5,zP6])
     refine tkH 12 ?_ rfl (Or.inl ⟨by rfl,?ht12⟩) ?_;case ht12 => (intro w hSw;(try dsimp only at hSw);have hcl:=HXY.out w (Bw.trans (hm2) hSw);clear hSw;go_simp;try with_reducible rfl)
     (try simp only [Act.put,zP1,zP2,zP3,zP4,zP5,zP6])
     refine tkH 13 ?_ rfl (Or.inl ⟨by rfl,?ht13⟩) ?_;case ht13 => (intro w hSw;(try dsimp only at hSw);have hcl:=HXY.out w (Bw.trans (hm2) hSw);clear hSw;go_simp;try with_reducible rfl)
     (try simp only [Act.put,zP1,zP2,zP3,zP4,zP5,zP6])
     refine arO 10 (fun K hK => ?_)
     go_simp
     refine (pdiff_any Rp Cp Ap np cp csp rowp colp hidp Rq Cq Aq nq cq csq rowq colq hidq _ (HRP.out.up (show Bw wq _ from BWX)) hnp hcp h6p (HRQ.out.up (show Bw wq _ from BWX)) hnq hcq h6q (PowT.bump HP.out (Bw.trans HWQ.out (show Bw wq _ from BWX)))).mono ?_;rintro ee m3 ⟨v3,rfl,hs3,hb3⟩;rw [HLD.out] at hs3;obtain ⟨B3,cv3,rfl,hc3,hcm3,hr3⟩:=hs3;have hm3 : Bw wq m3:=Bw.trans (show Bw wq _ from BWX) hb3;have HR3:=Lib.hid hr3;clear hr3;go_wp2_with fail
     refine hK.out _ _ ?_ (fun hHeld => ?_)
     ·(try dsimp only);(repeat (first|with_reducible (first|assumption|exact Bw.refl _|refine Bw.alloc ?_ _|refine Bw.more ?_ _ _|refine Bw.drew ?_|refine Bw.drewN ?_ _)|((with_reducible refine Bw.set2 ?_ ?_ _);(focus exact SZX))|with_reducible refine Bw.trans ?_ (by assumption)))
     clear hK K
     (try simp only [Act.put,zP1,zP2,zP3,zP4,zP5,zP6])
     refine wpAnyH_more (S':=fun w' => Bw m3 w') (fun w h => Bw.trans (show Bw m2 m3 from BWX) h) _ _ _ _ ?_;have hS3:=Bw.refl m3;refine tkH 11 ?_ rfl (Or.inl ⟨by rfl,?ht11⟩) ?_;case ht11 => (intro w hSw;(try dsimp only at hSw);have hk:=conv_run (cap:=cv3) (HR3.out.up hSw);clear hSw;go_simp;try with_reducible rfl)
     (try simp only [Act.put,zP1,zP2,zP3,zP4,zP5,zP6])
     refine arO 14 (fun K hK => ?_)
     go_simp
     refine (rdiff_any Rp Cp Ap np cp csp rowp colp hidp Rq Cq Aq nq cq csq rowq colq hidq _ (HRP.out.up (show Bw wq _ from BWX)) hnp hcp h6p (HRQ.out.up (show Bw wq _ from BWX)) hnq hcq h6q).mono ?_;rintro ee m4 ⟨v4,rfl,hs4,hb4⟩;rw [HLD.out] at hs4;obtain ⟨B4,cv4,rfl,hc4,hcm4,hr4⟩:=hs4;have hm4 : Bw wq m4:=Bw.trans (show Bw wq _ from BWX) hb4;have HR4:=Lib.hid hr4;clear hr4;go_wp2_with fail
     refine hK.out _ _ ?_ (fun hHeld => ?_)
     ·(try dsimp only);(repeat (first|with_reducible (first|assumption|exact Bw.refl _|refine Bw.alloc ?_ _|refine Bw.more ?_ _ _|refine Bw.drew ?_|refine Bw.drewN ?_ _)|((with_reducible refine Bw.set2 ?_ ?_ _);(focus exact SZX))|with_reducible refine Bw.trans ?_ (by assumption)))
     clear hK K
     (try simp only [Act.put,zP1,zP2,zP3,zP4,zP5,zP6])
     refine wpAnyH_more (S':=fun w' => Bw m4 w') (fun w h => Bw.trans (show Bw m3 m4 from BWX) h) _ _ _ _ ?_;have hS4:=Bw.refl m4;refine tkH 15 ?_ rfl (Or.inl ⟨by rfl,?ht15⟩) ?_;case ht15 => (intro w hSw;(try dsimp only at hSw);have hk:=conv_run (cap:=cv4) (HR4.out.up hSw);clear hSw;go_simp;try with_reducible rfl)
     (try simp only [Act.put,zP1,zP2,zP3,zP4,zP5,zP6])
     refine wpAnyH_take (i:=16) (v:=.bool false) rfl (by kernel_rfl) (by kernel_rfl) (by kernel_rfl) (fun _ _ _ h => h) (Or.inl ⟨by rfl,?ht16⟩) (by assumption) ?_;case ht16 => (intro w hSw;(try dsimp only at hSw);have hcl:=HXY.out w (Bw.trans (hm4) hSw);clear hSw;go_simp;(try rfl))
     (try simp only [Act.put,zP1,zP2,zP3,zP4,zP5,zP6])
     refine tkQ 17 ?_
     (try simp only [Act.put,zP1,zP2,zP3,zP4,zP5,zP6])
     refine tkQ 18 ?_
     (try simp only [Act.put,zP1,zP2,zP3,zP4,zP5,zP6])
     refine tkH 19 ?_ rfl (Or.inl ⟨by rfl,?ht19⟩) ?_;case ht19 => (intro w hSw;(try dsimp only at hSw);have hcl:=HXY.out w (Bw.trans (hm4) hSw);clear hSw;go_simp;try with_reducible rfl)
     (try simp only [Act.put,zP1,zP2,zP3,zP4,zP5,zP6])
     refine tkH 21 ?_ rfl (Or.inl ⟨by rfl,?ht21⟩) ?_;case ht21 => (intro w hSw;(try dsimp only at hSw);have hcl:=HXY.out w (Bw.trans (hm4) hSw);clear hSw;go_simp;try with_reducible rfl)
     (try simp only [Act.put,zP1,zP2,zP3,zP4,zP5,zP6])
     refine arO 20 (fun K hK => ?_)
     go_simp
     refine (gview_any Rp Cp Ap np cp csp rowp colp hidp _ (HRP.out.up (show Bw wq _ from BWX)) hnp hcp).mono ?_;rintro ee m5 ⟨rfl,hb5⟩;rw [HLV.out];go_wp2_with fail
     refine hK.out _ _ ?_ (fun hHeld => ?_)
     ·(try dsimp only);(repeat (first|with_reducible (first|assumption|exact Bw.refl _|refine Bw.alloc ?_ _|refine Bw.more ?_ _ _|refine Bw.drew ?_|refine Bw.drewN ?_ _)|((with_reducible refine Bw.set2 ?_ ?_ _);(focus exact SZX))|with_reducible refine Bw.trans ?_ (by assumption)))
     clear hK K
     (try simp only [Act.put,zP1,zP2,zP3,zP4,zP5,zP6])
     refine arO 22 (fun K hK => ?_)
     go_simp
     refine (rview_any Rp Cp Ap np cp csp rowp colp hidp _ (HRP.out.up (show Bw wq _ from BWX)) hnp hcp).mono ?_;rintro ee m6 ⟨rfl,hb6⟩;rw [HLV.out];go_wp2_with fail
     refine hK.out _ _ ?_ (fun hHeld => ?_)
     ·(try dsimp only);(repeat (first|with_reducible (first|assumption|exact Bw.refl _|refine Bw.alloc ?_ _|refine Bw.more ?_ _ _|refine Bw.drew ?_|refine Bw.drewN ?_ _)|((with_reducible refine Bw.set2 ?_ ?_ _);(focus exact SZX))|with_reducible refine Bw.trans ?_ (by assumption)))
     clear hK K
     (try simp only [Act.put,zP1,zP2,zP3,zP4,zP5,zP6])
     refine wpAnyH_take (i:=23) (v:=.bool false) rfl (by kernel_rfl) (by kernel_rfl) (by kernel_rfl) (fun _ _ _ h => h) (Or.inl ⟨by rfl,?ht23⟩) (by assumption) ?_;case ht23 => (intro w hSw;(try dsimp only at hSw);have hcl:=HXY.out w (Bw.trans (hm4) hSw);clear hSw;go_simp;first|done|rfl|(cases vb <;> rfl))
     (try simp only [Act.put,zP1,zP2,zP3,zP4,zP5,zP6])
     refine tkQ 24 ?_
     refine tkQ 25 ?_
     (try simp only [Act.put,zP1,zP2,zP3,zP4,zP5,zP6])
     refine tkH 26 ?_ rfl (Or.inl ⟨by rfl,?ht26⟩) ?_;case ht26 => (intro w hSw;(try dsimp only at hSw);have hcl:=HXY.out w (Bw.trans (hm4) hSw);clear hSw;go_simp;try with_reducible rfl)
     (try simp only [Act.put,zP1,zP2,zP3,zP4,zP5,zP6])
     refine tkH 27 ?_ rfl (Or.inl ⟨by rfl,?ht27⟩) ?_;case ht27 => (intro w hSw;(try dsimp only at hSw);have hcl:=HXY.out w (Bw.trans (hm4) hSw);clear hSw;go_simp;try with_reducible rfl)
     (try simp only [Act.put,zP1,zP2,zP3,zP4,zP5,zP6])
     refine tkH 29 ?_ rfl (Or.inl ⟨by rfl,?ht29⟩) ?_;case ht29 => (intro w hSw;(try dsimp only at hSw);have hcl:=HXY.out w (Bw.trans (hm4) hSw);clear hSw;go_simp;try with_reducible rfl)
     (try simp only [Act.put,zP1,zP2,zP3,zP4,zP5,zP6])
     refine tkH 30 ?_ rfl (Or.inl ⟨by rfl,?ht30⟩) ?_;case ht30 => (intro w hSw;(try dsimp only at hSw);have hcl:=HXY.out w (Bw.trans (hm4) hSw);clear hSw;go_simp;try with_reducible rfl)
     (try simp only [Act.put,zP1,zP2,zP3,zP4,zP5,zP6])
     refine arO 28 (fun K hK => ?_)
     go_simp
     refine (gsameV_any Rp Cp Ap np cp csp rowp colp hidp Rq Cq Aq nq cq csq rowq colq hidq _ (HRP.out.up (show Bw wq _ from BWX)) hnp hcp (HRQ.out.up (show Bw wq _ from BWX)) hnq hcq).mono ?_;rintro ee m7 ⟨rfl,hb7⟩;rw [HLS.out];go_wp2_with fail
     refine hK.out _ _ ?_ (fun hHeld => ?_)
     ·(try dsimp only);(repeat (first|with_reducible (first|assumption|exact Bw.refl _|refine Bw.alloc ?_ _|refine Bw.more ?_ _ _|refine Bw.drew ?_|refine Bw.drewN ?_ _)|((with_reducible refine Bw.set2 ?_ ?_ _);(focus exact SZX))|with_reducible refine Bw.trans ?_ (by assumption)))
     clear hK K
     (try simp only [Act.put,zP1,zP2,zP3,zP4,zP5,zP6])
     refine arO 31 (fun K hK => ?_)
     go_simp
     refine (rsameW_any Rp Cp Ap np cp csp rowp colp hidp Rq Cq Aq nq cq csq rowq colq hidq _ (HRP.out.up (show Bw wq _ from BWX)) hnp hcp (HRQ.out.up (show Bw wq _ from BWX)) hnq hcq).mono ?_;rintro ee m8 ⟨rfl,hb8⟩;rw [HLS.out];go_wp2_with fail
     refine hK.out _ _ ?_ (fun hHeld => ?_)
     ·(try dsimp only);(repeat (first|with_reducible (first|assumption|exact Bw.refl _|refine Bw.alloc ?_ _|refine Bw.more ?_ _ _|refine Bw.drew ?_|refine Bw.drewN ?_ _)|((with_reducible refine Bw.set2 ?_ ?_ _);(focus exact SZX))|with_reducible refine Bw.trans ?_ (by assumption)))
     clear hK K
     (try simp only [Act.put,zP1,zP2,zP3,zP4,zP5,zP6])
     refine wpAnyH_take (i:=32) (v:=.bool false) rfl (by kernel_rfl) (by kernel_rfl) (by kernel_rfl) (fun _ _ _ h => h) (Or.inl ⟨by rfl,?ht32⟩) (by assumption) ?_;case ht32 => (intro w hSw;(try dsimp only at hSw);have hcl:=HXY.out w (Bw.trans (hm4) hSw);clear hSw;go_simp;first|done|rfl|(cases sm <;> rfl))
     (try simp only [Act.put,zP1,zP2,zP3,zP4,zP5,zP6])
     refine tkQ 33 ?_
     (try simp only [Act.put,zP1,zP2,zP3,zP4,zP5,zP6])
     refine wpAnyH_done (by kernel_rfl) ?_ _
     go_wp2_with fail
     go_roundw
     case rel => exact ⟨k2 + 1,by go_num,by omega,Bw.trans HQQ.out (show Bw wq _ from BWX)⟩
     case measure => simp [intOf];omega
    ·obtain rfl : k2 = 3:=by omega
     go_wp2_with fail
     go_roundw
     case rel => exact ⟨k + 1,by go_num,by omega,Bw.trans HBZ7.out (Bw.trans HZX.out (Bw.trans HXY9.out HBV.out))⟩
     case measure => simp [intOf];omega
  ·obtain rfl : k = 3:=by omega
   go_wp2_with fail
   go_ret
   exact ⟨rfl,Bw.trans HBb.out (Bw.trans HBZ.out BWX)⟩
end Go.Proofs.YteebdjmjeahccaaGreatDoor
