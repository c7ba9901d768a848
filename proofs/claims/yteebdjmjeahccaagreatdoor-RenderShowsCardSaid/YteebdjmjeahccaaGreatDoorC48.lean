/- Parts of the proof, one after the other. -/
import Derived.Test.YteebdjmjeahccaaGreatDoorC47
import Derived.Test.YteebdjmjeahccaaGreatDoorC44
import Derived.Test.YteebdjmjeahccaaGreatDoorC46
import Derived.Deep.RegionHeld3
set_option linter.unusedSimpArgs false
set_option linter.unusedVariables false
set_option maxRecDepth 100000
set_option maxHeartbeats 16000000
namespace Go.Proofs.YteebdjmjeahccaaGreatDoor
open Go.RowKit
theorem yields_load_tr {ops : Array Oper} {S : World → Prop} {o : Oper} {a : Act} (t : Trm) (g : Nat) (x : Operand) (ho : o.op = .load 53 x) (hx : a.eval x = .pointer (some ⟨g,0,none⟩)) (hw : Region.wanted o (yielded ops a.tmps) = true) (hS : ∀ w,S w → Sb w g t.vals.toArray 53) : YieldsIf Tryz.prog ops S o (.agg t.vals.toArray) a :=
 .inl ⟨hw,fun w h => by
  unfold execOp
  simp only [ho,hx,Instr.loadAt,Instr.sureAddr,Sem.run_bind,Sem.run_pure,Result.andThen_ok,run_loadVar_row w g 53 53 t.vals.toArray (0,0) _ (hS w h) Tryz.underlying53 rfl (infoTz t)]⟩
theorem Rd.firsts {α : Type} {f : α → Value} {w : World} {A : Option Addr} {n : Nat} {xs : List α} (h : Rd f w A n xs) (m : Nat) (hm : m ≤ n) : Rd f w A m (xs.take m):=by
 have hl:=h.1
 refine ⟨by rw [List.length_take];omega,fun h0 => ?_⟩
 obtain ⟨g,o,e,hx⟩:=h.2 (by omega)
 refine ⟨g,o,e,fun i hi => ?_⟩
 rw [List.getElem_take]
 exact hx i (by rw [List.length_take] at hi;omega)
theorem cuts_any (A : Option Addr) (n c : Nat) (xs : List Int) (cut : Int) (w : World) (hr : RdI w A n xs) (hA : 0 < n → ∀ ad,A = some ad → ad.block < w.heap.size) (hn : n ≤ 9223372036854775807) (hP : PowT w.heap.size w) :
  Calls Tryz.prog 6 #[.slice A n c,.int .i64 cut] w fun e w' => e = .returned (.bool true) ∧ Bw w w':=by
 have HR:=Lib.hid hr
 have HAA:=Lib.hid hA
 have HP:=Lib.hid hP
 clear hr hA hP
 go_enter Tryz.func6,Tryz.ntmps6
 go_upto_region 3 with (first
  | (go_at_call 8;refine (sane20_any w HP.out).mono ?_;rintro ee w1 ⟨rfl,hb1⟩;have HB1:=Lib.hid hb1;have hz1:=hb1.size;clear hb1)
  | fail)
 go_upto_region 4 with (first
  | (go_at_call 9;refine (views_any A n c xs _ (HR.out.up HAA.out (Bw.trans HB1.out (show Bw w1 _ from BWX))) (fun h0 ad e => by have:=HAA.out h0 ad e;have:=HB1.out.size;omega) hn).mono ?_;rintro ee w2 ⟨R,C,x,y,rfl,⟨A1,n1,c1,cs,row,col,hid,rfl,k1,k2,k3,k4,k5⟩,⟨A2,n2,c2,ds,row2,col2,hid2,rfl,l1,l2,l3,l4,l5⟩,-,hb2⟩;have HB2:=Lib.hid (Bw.trans HB1.out (Bw.trans (show Bw w1 _ from BWX) hb2));have HX:=Lib.hid k1;have HY:=Lib.hid l1;have HVa:=Lib.hid k5;have HVb:=Lib.hid l5;clear k1 k5 l1 l5 hb2)
  | fail)
 obtain ⟨hR1,hR2,hC1,hC2,-⟩:=viewB_dim HVa.out
 obtain ⟨Rn,rfl⟩ : ∃ Rn : Nat,R = Rn:=⟨R.toNat,by omega⟩
 obtain ⟨Cn,rfl⟩ : ∃ Cn : Nat,C = Cn:=⟨C.toNat,by omega⟩
 have hlx:=HX.out.1
 have hly:=HY.out.1
 have hC6 : Cn ≤ 60:=by have:=viewB_small HVa.out (by omega);omega
 generalize hwa : w2.alloc _ = wa
 obtain ⟨hka,hba,hza⟩:=sb1 hwa
 generalize hwb : wa.alloc _ = wb
 obtain ⟨hkb,hbb,hzb⟩:=sb1 hwb
 rw [hza] at hkb
 obtain ⟨ka,hka2⟩ : ∃ ka,ka = w2.heap.size:=⟨_,rfl⟩
 obtain ⟨kb,hkb2⟩ : ∃ kb,kb = w2.heap.size + 1:=⟨_,rfl⟩
 rw [← hkb2] at hkb ⊢
 rw [← hka2] at hka ⊢
 have HKA:=Lib.hid (show Sb wb ka (vwV (Rn : Int) (Cn : Int) A1 n1 c1 row col hid) 27 from hka.up hbb)
 have HKB:=Lib.hid (show Sb wb kb (vwV (Rn : Int) (Cn : Int) A2 n2 c2 row2 col2 hid2) 27 from hkb)
 have hb2b:=Bw.trans hba hbb
 have HXb:=Lib.hid (HX.out.up hb2b)
 have HYb:=Lib.hid (HY.out.up hb2b)
 have HBb:=Lib.hid (Bw.trans HB2.out hb2b)
 have hla:=HKA.out.lt
 have hlb:=HKB.out.lt
 have HF1:=Lib.hid (fullL_facts hid hC6 (show cs.length ≤ 60 by omega) HVa.out)
 have HF2:=Lib.hid (fullL_facts hid2 hC6 (show ds.length ≤ 60 by omega) HVb.out)
 have HCl1:=Lib.hid (clamp_in (x:=(Rn : Int)) (hi:=30) hR1 hR2)
 have HCl2:=Lib.hid (clamp_in (x:=(Cn : Int)) (hi:=100) hC1 hC2)
 clear hwa hwb hka hkb hba hbb hza hzb hka2 hkb2 hb2b HX HY HB2 hlx hly HB1
 have x0:=HKA.out.cell 0 (v:=.int .i64 (Rn : Int)) rfl
 have x1:=HKA.out.cell 1 (v:=.int .i64 (Cn : Int)) rfl
 have x2:=HKA.out.cell 2 (v:=.slice A1 n1 c1) rfl
 have x3:=HKA.out.cell 3 (v:=.int .i64 row) rfl
 have x4:=HKA.out.cell 4 (v:=.int .i64 col) rfl
 have x5:=HKA.out.cell 5 (v:=.bool hid) rfl
 have y0:=HKB.out.cell 0 (v:=.int .i64 (Rn : Int)) rfl
 have y1:=HKB.out.cell 1 (v:=.int .i64 (Cn : Int)) rfl
 have y2:=HKB.out.cell 2 (v:=.slice A2 n2 c2) rfl
 have y3:=HKB.out.cell 3 (v:=.int .i64 row2) rfl
 have y4:=HKB.out.cell 4 (v:=.int .i64 col2) rfl
 have y5:=HKB.out.cell 5 (v:=.bool hid2) rfl
 have HD0:=Lib.hid (diffL_facts hid hid2 hC6 (show ds.length ≤ 60 by have:=HYb.out.1;omega) HVa.out HVb.out)
 obtain ⟨ld,hld⟩ : ∃ l,diffL Rn Cn cs row col hid Rn Cn ds row2 col2 hid2 = l:=⟨_,rfl⟩
 rw [hld] at HD0
 obtain ⟨nd,hnd⟩ : ∃ l,ld.length = l:=⟨_,rfl⟩
 have HLD:=Lib.hid hld
 have HND:=Lib.hid hnd
 have hnd1 : nd ≤ 10000:=by rw [← hnd];exact HD0.out.1
 clear hld hnd
 go_upto_region 5 with (first
  | (go_at_call 13;refine (pdiff_any Rn Cn A1 n1 c1 cs row col hid Rn Cn A2 n2 c2 ds row2 col2 hid2 _ (HXb.out.up (show Bw wb _ from BWX)) k2 k3 k4 (HYb.out.up (show Bw wb _ from BWX)) l2 l3 l4 (PowT.bump HP.out (Bw.trans HBb.out (show Bw wb _ from BWX)))).mono ?_;rintro ee w4 ⟨v4,rfl,hs4,hb4⟩;rw [HLD.out] at hs4;obtain ⟨B4,cv4,rfl,hc4,hcm4,hr4⟩:=hs4.get (N:=nd) HND.out;have HR4:=Lib.hid hr4;have HB4:=Lib.hid (Bw.trans (show Bw wb _ from BWX) hb4);clear hb4 hr4 x0 x1 x2 x3 x4 x5 y0 y1 y2 y3 y4 y5)
  | fail)
 have hz4:=HB4.out.size
 have HC5:=Lib.hid (show ∀ w',Bw w4 w' → (w'.cell? ⟨ka,0,none⟩ = some (.int .i64 (Rn : Int)) ∧ w'.cell? ⟨ka,1,none⟩ = some (.int .i64 (Cn : Int)) ∧ w'.cell? ⟨ka,2,none⟩ = some (.slice A1 n1 c1) ∧ w'.cell? ⟨ka,3,none⟩ = some (.int .i64 row) ∧ w'.cell? ⟨ka,4,none⟩ = some (.int .i64 col) ∧ w'.cell? ⟨ka,5,none⟩ = some (.bool hid)) from fun w' hb' => (by have hb:=Bw.trans HB4.out hb';exact ⟨(HKA.out.up hb).cell 0 rfl,(HKA.out.up hb).cell 1 rfl,(HKA.out.up hb).cell 2 rfl,(HKA.out.up hb).cell 3 rfl,(HKA.out.up hb).cell 4 rfl,(HKA.out.up hb).cell 5 rfl⟩))
 go_upto_region 5 with (fail)
 go_cut [8] from 19 to 28 (fun v w' => ∃ g : Nat,v = .pointer (some ⟨g,0,none⟩) ∧ TmK w' g Rn Cn (0 + 231 * 200000) (some (knV cs row col hid)) OnG ∧ Bw w4 w' ∧ w4.heap.size ≤ g)
 case first =>
  refine wp_region_held_drew (S:=(fun w' => Bw w4 w')) (by kernel_rfl) ?_ (fun hHeld => ?_)
  ·(try dsimp only);(first|exact Bw.grown (show Bw w4 _ from BWX) HG3.out (fun k hk => by cases hk;(try simp only [szA,szS,szD,szN] at *);omega)|((repeat (first|with_reducible (first|assumption|exact Bw.refl _|refine Bw.alloc ?_ _|refine Bw.more ?_ _ _|refine Bw.drew ?_|refine Bw.drewN ?_ _)|((with_reducible refine Bw.set2 ?_ ?_ _);(focus exact SZX))|with_reducible refine Bw.trans ?_ (by assumption)));done))
  refine tkQ 0 ?_
  refine tkQ 1 ?_
  (try simp only [Act.put,zP1,zP2,zP3,zP4,zP5,zP6])
  refine tkH 2 ?_ rfl (Or.inl ⟨by rfl,?ht2⟩) ?_;case ht2 => (intro w' hb;(try dsimp only at hb);have hcl:=HC5.out w' hb;clear hb;go_simp;try with_reducible rfl)
  (try simp only [Act.put,zP1,zP2,zP3,zP4,zP5,zP6])
  refine tkQ 3 ?_
  (try simp only [Act.put,zP1,zP2,zP3,zP4,zP5,zP6])
  refine tkQ 4 ?_
  (try simp only [Act.put,zP1,zP2,zP3,zP4,zP5,zP6])
  refine tkH 5 ?_ rfl (Or.inl ⟨by rfl,?ht5⟩) ?_;case ht5 => (intro w' hb;(try dsimp only at hb);have hcl:=HC5.out w' hb;clear hb;go_simp;try with_reducible rfl)
  (try simp only [Act.put,zP1,zP2,zP3,zP4,zP5,zP6])
  refine tkH 7 ?_ rfl (Or.inl ⟨by rfl,?ht7⟩) ?_;case ht7 => (intro w' hb;(try dsimp only at hb);have hcl:=HC5.out w' hb;clear hb;go_simp;try with_reducible rfl)
  (try simp only [Act.put,zP1,zP2,zP3,zP4,zP5,zP6])
  refine wpAnyH_ready (rs:=[6,10]) (by kernel_rfl) (by simp) ?_
  refine AllReadyH.cons rfl (fun K hK => ?_) ?_
  ·go_simp
   refine (rnew19_ok (Rn : Int) (Cn : Int) 0 _ (by omega)).mono ?_;rintro ee m1 ⟨t0,rfl,ht0,hs1,hs2,hn0,hh0,hb1⟩;rw [HCl1.out] at hs1;rw [HCl2.out] at hs2;have HT0:=Lib.hid ht0;have HS0:=Lib.hid (And.intro hs1 hs2);have HN0:=Lib.hid hn0;have HH0:=Lib.hid hh0;have HL0:=Lib.hid ht0.1.1.lt;(try have h81 : Bw w8 m1:=Bw.trans (show Bw w8 _ from BWX) hb1);have hm1 : Bw w4 m1:=Bw.trans (show Bw w4 _ from BWX) hb1;have hzm1:=hb1.size;clear ht0 hs1 hs2 hn0 hh0;go_wp2_with fail
   refine hK.out _ _ ?_ (fun hHeld => ?_)
   ·(try dsimp only);(first|exact Bw.grown (show Bw w4 _ from BWX) HG3.out (fun k hk => by cases hk;(try simp only [szA,szS,szD,szN] at *);omega)|((repeat (first|with_reducible (first|assumption|exact Bw.refl _|refine Bw.alloc ?_ _|refine Bw.more ?_ _ _|refine Bw.drew ?_|refine Bw.drewN ?_ _)|((with_reducible refine Bw.set2 ?_ ?_ _);(focus exact SZX))|with_reducible refine Bw.trans ?_ (by assumption)));done))
   clear hK K
   (try simp only [Act.put,zP1,zP2,zP3,zP4,zP5,zP6])
   refine wpAnyH_ready (rs:=[8,10]) (by kernel_rfl) (by simp) ?_
   refine AllReadyH.cons rfl (fun K hK => ?_) ?_
   ·go_simp
    refine (pfull_any (Rn : Int) (Cn : Int) A1 n1 c1 cs row col hid _ (HXb.out.up (Bw.trans HB4.out (show Bw w4 _ from BWX))) k2 k3 k4 (PowT.bump HP.out (Bw.trans HBb.out (Bw.trans HB4.out (show Bw w4 _ from BWX))))).mono ?_;rintro ee m2 ⟨v2,rfl,hs2,hb2⟩;obtain ⟨B2,cv2,rfl,hc2,hcm2,hr2⟩:=hs2;have HR2:=Lib.hid hr2;have h12 : Bw m1 m2:=Bw.trans (show Bw m1 _ from BWX) hb2;(try have h82 : Bw w8 m2:=Bw.trans (show Bw w8 _ from BWX) hb2);have hm2 : Bw w4 m2:=Bw.trans (show Bw w4 _ from BWX) hb2;have hzm2:=hb2.size;clear hr2;go_wp2_with fail
    refine hK.out _ _ ?_ (fun hHeld => ?_)
    ·(try dsimp only);(first|exact Bw.grown (show Bw w4 _ from BWX) HG3.out (fun k hk => by cases hk;(try simp only [szA,szS,szD,szN] at *);omega)|((repeat (first|with_reducible (first|assumption|exact Bw.refl _|refine Bw.alloc ?_ _|refine Bw.more ?_ _ _|refine Bw.drew ?_|refine Bw.drewN ?_ _)|((with_reducible refine Bw.set2 ?_ ?_ _);(focus exact SZX))|with_reducible refine Bw.trans ?_ (by assumption)));done))
    clear hK K
    (try simp only [Act.put,zP1,zP2,zP3,zP4,zP5,zP6])
    refine wpAnyH_ready (rs:=[9,10]) (by kernel_rfl) (by simp) ?_
    refine AllReadyH.cons rfl (fun K hK => ?_) ?_
    ·go_simp
     have hll:=HF1.out.1;refine (rfeed_x t0 none 0 B2 _ cv2 (fullL Rn Cn cs row col hid) _ (HT0.out.up BWX) (Mt.none_ _ _) (by omega) (HR2.out.up BWX) (by omega) (by omega) (by omega) HF1.out.2).mono ?_;rintro ee m3 ⟨t1,rfl,ht1,e1,e2,e3,hpl,hph,hb3,hMt,hrs,hsc⟩;have HT1:=Lib.hid ht1;have HL1:=Lib.hid ht1.1.1.lt;have HE1:=Lib.hid (And.intro (e1.trans (show t0.s.Rn = Rn from by have:=HS0.out.1;omega)) (e2.trans (show t0.s.Cn = Cn from by have:=HS0.out.2;omega)));have HK1:=Lib.hid (fed_full hC6 HVa.out HT0.out (show t0.s.Rn = Rn from by have:=HS0.out.1;omega) (show t0.s.Cn = Cn from by have:=HS0.out.2;omega) hMt hrs hsc);have HPL:=Lib.hid hpl;have HPH:=Lib.hid hph;have h13 : Bw m1 m3:=Bw.trans (show Bw m1 _ from BWX) hb3;have h23 : Bw m2 m3:=Bw.trans (show Bw m2 _ from BWX) hb3;(try have h83 : Bw w8 m3:=Bw.trans (show Bw w8 _ from BWX) hb3);have hm3 : Bw w4 m3:=Bw.trans (show Bw w4 _ from BWX) hb3;have hzm3:=hb3.size;clear ht1 e1 e2 e3 hpl hph hMt hrs hsc;go_wp2_with fail
     refine hK.out _ _ ?_ (fun hHeld => ?_)
     ·(try dsimp only);(first|exact Bw.grown (show Bw w4 _ from BWX) HG3.out (fun k hk => by cases hk;(try simp only [szA,szS,szD,szN] at *);omega)|((repeat (first|with_reducible (first|assumption|exact Bw.refl _|refine Bw.alloc ?_ _|refine Bw.more ?_ _ _|refine Bw.drew ?_|refine Bw.drewN ?_ _)|((with_reducible refine Bw.set2 ?_ ?_ _);(focus exact SZX))|with_reducible refine Bw.trans ?_ (by assumption)));done))
     clear hK K
     (try simp only [Act.put,zP1,zP2,zP3,zP4,zP5,zP6])
     refine arO 10 (fun K hK => ?_)
     go_simp;(generalize hw8 : World.alloc _ (.cells _ 53) = w8);obtain ⟨hS8,hb8,hz8⟩:=sb1 hw8;have HS8:=Lib.hid hS8;have H8O:=Lib.hid (show ∀ (i : Nat) (x : Int),(#[.int .i64 0,.int .i64 0,.slice none 0 0,.int .i64 0,.int .i64 0,.bool false,.int .i64 0,.int .i64 0,.int .i64 0,.int .i64 0,.int .i64 0,.int .i64 0,.int .i64 0,.bool false,.int .i64 0,.int .i64 0,.int .i64 0,.bool false,.bool false,.slice none 0 0,.int .i64 0,.int .i64 0,.slice none 0 0,.int .i64 0,.slice none 0 0,.int .i64 0] : Array Value)[i]? ≠ some (.int .u8 x) from fun i x h => by have:=Array.mem_of_getElem? h;simp at this);(try have h18 : Bw m1 w8:=Bw.trans (show Bw m1 _ from BWX) hb8);(try have h28 : Bw m2 w8:=Bw.trans (show Bw m2 _ from BWX) hb8);(try have h38 : Bw m3 w8:=Bw.trans (show Bw m3 _ from BWX) hb8);clear hw8 hS8
     refine hK.out _ _ ?_ (fun hHeld => ?_)
     ·(try dsimp only);(first|exact Bw.grown (show Bw w4 _ from BWX) HG3.out (fun k hk => by cases hk;(try simp only [szA,szS,szD,szN] at *);omega)|((repeat (first|with_reducible (first|assumption|exact Bw.refl _|refine Bw.alloc ?_ _|refine Bw.more ?_ _ _|refine Bw.drew ?_|refine Bw.drewN ?_ _)|((with_reducible refine Bw.set2 ?_ ?_ _);(focus exact SZX))|with_reducible refine Bw.trans ?_ (by assumption)));done))
     clear hK K
     (try simp only [Act.put,zP1,zP2,zP3,zP4,zP5,zP6])
     refine arO 11 (fun K hK => ?_)
     (refine (if_pos (by kernel_rfl)).mpr ?_);(first|((with_reducible refine wp_store_tr t1 w4.heap.size (.tmp 8) (.tmp 28) ?_ ?_ ?_ ?_ ?_);(focus rfl);(focus rfl);(focus rfl);(focus (exact ⟨_,HS8.out.up BWX,rfl⟩)))|((with_reducible refine wp_store_tr t1 m1.heap.size (.tmp 8) (.tmp 28) ?_ ?_ ?_ ?_ ?_);(focus rfl);(focus rfl);(focus rfl);(focus (exact ⟨_,HS8.out.up BWX,rfl⟩)))|((with_reducible refine wp_store_tr t1 m2.heap.size (.tmp 8) (.tmp 28) ?_ ?_ ?_ ?_ ?_);(focus rfl);(focus rfl);(focus rfl);(focus (exact ⟨_,HS8.out.up BWX,rfl⟩)))|((with_reducible refine wp_store_tr t1 m3.heap.size (.tmp 8) (.tmp 28) ?_ ?_ ?_ ?_ ?_);(focus rfl);(focus rfl);(focus rfl);(focus (exact ⟨_,HS8.out.up BWX,rfl⟩))));intro w3 hS3 hg3;have HS3:=Lib.hid hS3;have HG3:=Lib.hid hg3;clear hS3 hg3
     refine hK.out _ _ ?_ (fun hHeld => ?_)
     ·(try dsimp only);(first|exact Bw.grown (show Bw w4 _ from BWX) HG3.out (fun k hk => by cases hk;(try simp only [szA,szS,szD,szN] at *);omega)|((repeat (first|with_reducible (first|assumption|exact Bw.refl _|refine Bw.alloc ?_ _|refine Bw.more ?_ _ _|refine Bw.drew ?_|refine Bw.drewN ?_ _)|((with_reducible refine Bw.set2 ?_ ?_ _);(focus exact SZX))|with_reducible refine Bw.trans ?_ (by assumption)));done))
     clear hK K
     (try simp only [Act.put,zP1,zP2,zP3,zP4,zP5,zP6])
     refine wpAnyH_done (by kernel_rfl) ?_ _
     go_wp2
     go_meet
     case rel =>
      have hq1:=HG3.out
      have hq2:=HS3.out
      refine ⟨_,rfl,TmK.put (HS8.out.up BWX) H8O.out ?_ ?_ (HT1.out.up BWX) HE1.out.1 HE1.out.2 (HK1.out.1.up BWX) HK1.out.2 hq1 hq2,Bw.grown (show Bw w4 _ from BWX) hq1 (fun k hk => by cases hk;(try simp only [szA,szS,szD,szN] at *);omega),(by (try simp only [szA,szS,szD,szN] at *);omega)⟩
      ·intro ad e
       have h1:=HL1.out ad e
       rcases HPL.out with h|h
       ·have h2:=HL0.out ad (by rw [← h];exact e)
        have h3:=HN0.out ad (by rw [← h];exact e)
        (try simp only [szA,szS,szD,szN] at *)
        omega
       ·have h2:=h ad e
        (try simp only [szA,szS,szD,szN] at *)
        omega
      ·intro h0 ad e
       have h1:=HT1.out.2.2.2.2.2.1.lt h0 ad e
       rcases HPH.out with h|h
       ·rw [h.1,HH0.out] at e;cases e
       ·have h2:=h ad e
        (try simp only [szA,szS,szD,szN] at *)
        omega
    refine AllReadyH.cons rfl (fun K hK => ?_) ?_
    ·go_simp;(generalize hw8 : World.alloc _ (.cells _ 53) = w8);obtain ⟨hS8,hb8,hz8⟩:=sb1 hw8;have HS8:=Lib.hid hS8;have H8O:=Lib.hid (show ∀ (i : Nat) (x : Int),(#[.int .i64 0,.int .i64 0,.slice none 0 0,.int .i64 0,.int .i64 0,.bool false,.int .i64 0,.int .i64 0,.int .i64 0,.int .i64 0,.int .i64 0,.int .i64 0,.int .i64 0,.bool false,.int .i64 0,.int .i64 0,.int .i64 0,.bool false,.bool false,.slice none 0 0,.int .i64 0,.int .i64 0,.slice none 0 0,.int .i64 0,.slice none 0 0,.int .i64 0] : Array Value)[i]? ≠ some (.int .u8 x) from fun i x h => by have:=Array.mem_of_getElem? h;simp at this);(try have h18 : Bw m1 w8:=Bw.trans (show Bw m1 _ from BWX) hb8);(try have h28 : Bw m2 w8:=Bw.trans (show Bw m2 _ from BWX) hb8);(try have h38 : Bw m3 w8:=Bw.trans (show Bw m3 _ from BWX) hb8);clear hw8 hS8
     refine hK.out _ _ ?_ (fun hHeld => ?_)
     ·(try dsimp only);(first|exact Bw.grown (show Bw w4 _ from BWX) HG3.out (fun k hk => by cases hk;(try simp only [szA,szS,szD,szN] at *);omega)|((repeat (first|with_reducible (first|assumption|exact Bw.refl _|refine Bw.alloc ?_ _|refine Bw.more ?_ _ _|refine Bw.drew ?_|refine Bw.drewN ?_ _)|((with_reducible refine Bw.set2 ?_ ?_ _);(focus exact SZX))|with_reducible refine Bw.trans ?_ (by assumption)));done))
     clear hK K
     (try simp only [Act.put,zP1,zP2,zP3,zP4,zP5,zP6])
     refine arO 9 (fun K hK => ?_)
     go_simp
     have hll:=HF1.out.1;refine (rfeed_x t0 none 0 B2 _ cv2 (fullL Rn Cn cs row col hid) _ (HT0.out.up BWX) (Mt.none_ _ _) (by omega) (HR2.out.up BWX) (by omega) (by omega) (by omega) HF1.out.2).mono ?_;rintro ee m3 ⟨t1,rfl,ht1,e1,e2,e3,hpl,hph,hb3,hMt,hrs,hsc⟩;have HT1:=Lib.hid ht1;have HL1:=Lib.hid ht1.1.1.lt;have HE1:=Lib.hid (And.intro (e1.trans (show t0.s.Rn = Rn from by have:=HS0.out.1;omega)) (e2.trans (show t0.s.Cn = Cn from by have:=HS0.out.2;omega)));have HK1:=Lib.hid (fed_full hC6 HVa.out HT0.out (show t0.s.Rn = Rn from by have:=HS0.out.1;omega) (show t0.s.Cn = Cn from by have:=HS0.out.2;omega) hMt hrs hsc);have HPL:=Lib.hid hpl;have HPH:=Lib.hid hph;have h13 : Bw m1 m3:=Bw.trans (show Bw m1 _ from BWX) hb3;have h23 : Bw m2 m3:=Bw.trans (show Bw m2 _ from BWX) hb3;(try have h83 : Bw w8 m3:=Bw.trans (show Bw w8 _ from BWX) hb3);have hm3 : Bw w4 m3:=Bw.trans (show Bw w4 _ from BWX) hb3;have hzm3:=hb3.size;clear ht1 e1 e2 e3 hpl hph hMt hrs hsc;go_wp2_with fail
     refine hK.out _ _ ?_ (fun hHeld => ?_)
     ·(try dsimp only);(first|exact Bw.grown (show Bw w4 _ from BWX) HG3.out (fun k hk => by cases hk;(try simp only [szA,szS,szD,szN] at *);omega)|((repeat (first|with_reducible (first|assumption|exact Bw.refl _|refine Bw.alloc ?_ _|refine Bw.more ?_ _ _|refine Bw.drew ?_|refine Bw.drewN ?_ _)|((with_reducible refine Bw.set2 ?_ ?_ _);(focus exact SZX))|with_reducible refine Bw.trans ?_ (by assumption)));done))
     clear hK K
     (try simp only [Act.put,zP1,zP2,zP3,zP4,zP5,zP6])
     refine arO 11 (fun K hK => ?_)
     (refine (if_pos (by kernel_rfl)).mpr ?_);(first|((with_reducible refine wp_store_tr t1 w4.heap.size (.tmp 8) (.tmp 28) ?_ ?_ ?_ ?_ ?_);(focus rfl);(focus rfl);(focus rfl);(focus (exact ⟨_,HS8.out.up BWX,rfl⟩)))|((with_reducible refine wp_store_tr t1 m1.heap.size (.tmp 8) (.tmp 28) ?_ ?_ ?_ ?_ ?_);(focus rfl);(focus rfl);(focus rfl);(focus (exact ⟨_,HS8.out.up BWX,rfl⟩)))|((with_reducible refine wp_store_tr t1 m2.heap.size (.tmp 8) (.tmp 28) ?_ ?_ ?_ ?_ ?_);(focus rfl);(focus rfl);(focus rfl);(focus (exact ⟨_,HS8.out.up BWX,rfl⟩)))|((with_reducible refine wp_store_tr t1 m3.heap.size (.tmp 8) (.tmp 28) ?_ ?_ ?_ ?_ ?_);(focus rfl);(focus rfl);(focus rfl);(focus (exact ⟨_,HS8.out.up BWX,rfl⟩))));intro w3 hS3 hg3;have HS3:=Lib.hid hS3;have HG3:=Lib.hid hg3;clear hS3 hg3
     refine hK.out _ _ ?_ (fun hHeld => ?_)
     ·(try dsimp only);(first|exact Bw.grown (show Bw w4 _ from BWX) HG3.out (fun k hk => by cases hk;(try simp only [szA,szS,szD,szN] at *);omega)|((repeat (first|with_reducible (first|assumption|exact Bw.refl _|refine Bw.alloc ?_ _|refine Bw.more ?_ _ _|refine Bw.drew ?_|refine Bw.drewN ?_ _)|((with_reducible refine Bw.set2 ?_ ?_ _);(focus exact SZX))|with_reducible refine Bw.trans ?_ (by assumption)));done))
     clear hK K
     (try simp only [Act.put,zP1,zP2,zP3,zP4,zP5,zP6])
     refine wpAnyH_done (by kernel_rfl) ?_ _
     go_wp2
     go_meet
     case rel =>
      have hq1:=HG3.out
      have hq2:=HS3.out
      refine ⟨_,rfl,TmK.put (HS8.out.up BWX) H8O.out ?_ ?_ (HT1.out.up BWX) HE1.out.1 HE1.out.2 (HK1.out.1.up BWX) HK1.out.2 hq1 hq2,Bw.grown (show Bw w4 _ from BWX) hq1 (fun k hk => by cases hk;(try simp only [szA,szS,szD,szN] at *);omega),(by (try simp only [szA,szS,szD,szN] at *);omega)⟩
      ·intro ad e
       have h1:=HL1.out ad e
       rcases HPL.out with h|h
       ·have h2:=HL0.out ad (by rw [← h];exact e)
        have h3:=HN0.out ad (by rw [← h];exact e)
        (try simp only [szA,szS,szD,szN] at *)
        omega
       ·have h2:=h ad e
        (try simp only [szA,szS,szD,szN] at *)
        omega
      ·intro h0 ad e
       have h1:=HT1.out.2.2.2.2.2.1.lt h0 ad e
       rcases HPH.out with h|h
       ·rw [h.1,HH0.out] at e;cases e
       ·have h2:=h ad e
        (try simp only [szA,szS,szD,szN] at *)
        omega
    exact AllReadyH.nil
   refine AllReadyH.cons rfl (fun K hK => ?_) ?_
   ·go_simp;(generalize hw8 : World.alloc _ (.cells _ 53) = w8);obtain ⟨hS8,hb8,hz8⟩:=sb1 hw8;have HS8:=Lib.hid hS8;have H8O:=Lib.hid (show ∀ (i : Nat) (x : Int),(#[.int .i64 0,.int .i64 0,.slice none 0 0,.int .i64 0,.int .i64 0,.bool false,.int .i64 0,.int .i64 0,.int .i64 0,.int .i64 0,.int .i64 0,.int .i64 0,.int .i64 0,.bool false,.int .i64 0,.int .i64 0,.int .i64 0,.bool false,.bool false,.slice none 0 0,.int .i64 0,.int .i64 0,.slice none 0 0,.int .i64 0,.slice none 0 0,.int .i64 0] : Array Value)[i]? ≠ some (.int .u8 x) from fun i x h => by have:=Array.mem_of_getElem? h;simp at this);(try have h18 : Bw m1 w8:=Bw.trans (show Bw m1 _ from BWX) hb8);(try have h28 : Bw m2 w8:=Bw.trans (show Bw m2 _ from BWX) hb8);(try have h38 : Bw m3 w8:=Bw.trans (show Bw m3 _ from BWX) hb8);clear hw8 hS8
    refine hK.out _ _ ?_ (fun hHeld => ?_)
    ·(try dsimp only);(first|exact Bw.grown (show Bw w4 _ from BWX) HG3.out (fun k hk => by cases hk;(try simp only [szA,szS,szD,szN] at *);omega)|((repeat (first|with_reducible (first|assumption|exact Bw.refl _|refine Bw.alloc ?_ _|refine Bw.more ?_ _ _|refine Bw.drew ?_|refine Bw.drewN ?_ _)|((with_reducible refine Bw.set2 ?_ ?_ _);(focus exact SZX))|with_reducible refine Bw.trans ?_ (by assumption)));done))
    clear hK K
    (try simp only [Act.put,zP1,zP2,zP3,zP4,zP5,zP6])
    refine arO 8 (fun K hK => ?_)
    go_simp
    refine (pfull_any (Rn : Int) (Cn : Int) A1 n1 c1 cs row col hid _ (HXb.out.up (Bw.trans HB4.out (show Bw w4 _ from BWX))) k2 k3 k4 (PowT.bump HP.out (Bw.trans HBb.out (Bw.trans HB4.out (show Bw w4 _ from BWX))))).mono ?_;rintro ee m2 ⟨v2,rfl,hs2,hb2⟩;obtain ⟨B2,cv2,rfl,hc2,hcm2,hr2⟩:=hs2;have HR2:=Lib.hid hr2;have h12 : Bw m1 m2:=Bw.trans (show Bw m1 _ from BWX) hb2;(try have h82 : Bw w8 m2:=Bw.trans (show Bw w8 _ from BWX) hb2);have hm2 : Bw w4 m2:=Bw.trans (show Bw w4 _ from BWX) hb2;have hzm2:=hb2.size;clear hr2;go_wp2_with fail
    refine hK.out _ _ ?_ (fun hHeld => ?_)
    ·(try dsimp only);(first|exact Bw.grown (show Bw w4 _ from BWX) HG3.out (fun k hk => by cases hk;(try simp only [szA,szS,szD,szN] at *);omega)|((repeat (first|with_reducible (first|assumption|exact Bw.refl _|refine Bw.alloc ?_ _|refine Bw.more ?_ _ _|refine Bw.drew ?_|refine Bw.drewN ?_ _)|((with_reducible refine Bw.set2 ?_ ?_ _);(focus exact SZX))|with_reducible refine Bw.trans ?_ (by assumption)));done))
    clear hK K
    (try simp only [Act.put,zP1,zP2,zP3,zP4,zP5,zP6])
    refine arO 9 (fun K hK => ?_)
    go_simp
    have hll:=HF1.out.1;refine (rfeed_x t0 none 0 B2 _ cv2 (fullL Rn Cn cs row col hid) _ (HT0.out.up BWX) (Mt.none_ _ _) (by omega) (HR2.out.up BWX) (by omega) (by omega) (by omega) HF1.out.2).mono ?_;rintro ee m3 ⟨t1,rfl,ht1,e1,e2,e3,hpl,hph,hb3,hMt,hrs,hsc⟩;have HT1:=Lib.hid ht1;have HL1:=Lib.hid ht1.1.1.lt;have HE1:=Lib.hid (And.intro (e1.trans (show t0.s.Rn = Rn from by have:=HS0.out.1;omega)) (e2.trans (show t0.s.Cn = Cn from by have:=HS0.out.2;omega)));have HK1:=Lib.hid (fed_full hC6 HVa.out HT0.out (show t0.s.Rn = Rn from by have:=HS0.out.1;omega) (show t0.s.Cn = Cn from by have:=HS0.out.2;omega) hMt hrs hsc);have HPL:=Lib.hid hpl;have HPH:=Lib.hid hph;have h13 : Bw m1 m3:=Bw.trans (show Bw m1 _ from BWX) hb3;have h23 : Bw m2 m3:=Bw.trans (show Bw m2 _ from BWX) hb3;(try have h83 : Bw w8 m3:=Bw.trans (show Bw w8 _ from BWX) hb3);have hm3 : Bw w4 m3:=Bw.trans (show Bw w4 _ from BWX) hb3;have hzm3:=hb3.size;clear ht1 e1 e2 e3 hpl hph hMt hrs hsc;go_wp2_with fail
    refine hK.out _ _ ?_ (fun hHeld => ?_)
    ·(try dsimp only);(first|exact Bw.grown (show Bw w4 _ from BWX) HG3.out (fun k hk => by cases hk;(try simp only [szA,szS,szD,szN] at *);omega)|((repeat (first|with_reducible (first|assumption|exact Bw.refl _|refine Bw.alloc ?_ _|refine Bw.more ?_ _ _|refine Bw.drew ?_|refine Bw.drewN ?_ _)|((with_reducible refine Bw.set2 ?_ ?_ _);(focus exact SZX))|with_reducible refine Bw.trans ?_ (by assumption)));done))
    clear hK K
    (try simp only [Act.put,zP1,zP2,zP3,zP4,zP5,zP6])
    refine arO 11 (fun K hK => ?_)
    (refine (if_pos (by kernel_rfl)).mpr ?_);(first|((with_reducible refine wp_store_tr t1 w4.heap.size (.tmp 8) (.tmp 28) ?_ ?_ ?_ ?_ ?_);(focus rfl);(focus rfl);(focus rfl);(focus (exact ⟨_,HS8.out.up BWX,rfl⟩)))|((with_reducible refine wp_store_tr t1 m1.heap.size (.tmp 8) (.tmp 28) ?_ ?_ ?_ ?_ ?_);(focus rfl);(focus rfl);(focus rfl);(focus (exact ⟨_,HS8.out.up BWX,rfl⟩)))|((with_reducible refine wp_store_tr t1 m2.heap.size (.tmp 8) (.tmp 28) ?_ ?_ ?_ ?_ ?_);(focus rfl);(focus rfl);(focus rfl);(focus (exact ⟨_,HS8.out.up BWX,rfl⟩)))|((with_reducible refine wp_store_tr t1 m3.heap.size (.tmp 8) (.tmp 28) ?_ ?_ ?_ ?_ ?_);(focus rfl);(focus rfl);(focus rfl);(focus (exact ⟨_,HS8.out.up BWX,rfl⟩))));intro w3 hS3 hg3;have HS3:=Lib.hid hS3;have HG3:=Lib.hid hg3;clear hS3 hg3
    refine hK.out _ _ ?_ (fun hHeld => ?_)
    ·(try dsimp only);(first|exact Bw.grown (show Bw w4 _ from BWX) HG3.out (fun k hk => by cases hk;(try simp only [szA,szS,szD,szN] at *);omega)|((repeat (first|with_reducible (first|assumption|exact Bw.refl _|refine Bw.alloc ?_ _|refine Bw.more ?_ _ _|refine Bw.drew ?_|refine Bw.drewN ?_ _)|((with_reducible refine Bw.set2 ?_ ?_ _);(focus exact SZX))|with_reducible refine Bw.trans ?_ (by assumption)));done))
    clear hK K
    (try simp only [Act.put,zP1,zP2,zP3,zP4,zP5,zP6])
    refine wpAnyH_done (by kernel_rfl) ?_ _
    go_wp2
    go_meet
    case rel =>
     have hq1:=HG3.out
     have hq2:=HS3.out
     refine ⟨_,rfl,TmK.put (HS8.out.up BWX) H8O.out ?_ ?_ (HT1.out.up BWX) HE1.out.1 HE1.out.2 (HK1.out.1.up BWX) HK1.out.2 hq1 hq2,Bw.grown (show Bw w4 _ from BWX) hq1 (fun k hk => by cases hk;(try simp only [szA,szS,szD,szN] at *);omega),(by (try simp only [szA,szS,szD,szN] at *);omega)⟩
     ·intro ad e
      have h1:=HL1.out ad e
      rcases HPL.out with h|h
      ·have h2:=HL0.out ad (by rw [← h];exact e)
       have h3:=HN0.out ad (by rw [← h];exact e)
       (try simp only [szA,szS,szD,szN] at *)
       omega
      ·have h2:=h ad e
       (try simp only [szA,szS,szD,szN] at *)
       omega
     ·intro h0 ad e
      have h1:=HT1.out.2.2.2.2.2.1.lt h0 ad e
      rcases HPH.out with h|h
      ·rw [h.1,HH0.out] at e;cases e
      ·have h2:=h ad e
       (try simp only [szA,szS,szD,szN] at *)
       omega
   exact AllReadyH.nil
  refine AllReadyH.cons rfl (fun K hK => ?_) ?_
  ·go_simp;(generalize hw8 : World.alloc _ (.cells _ 53) = w8);obtain ⟨hS8,hb8,hz8⟩:=sb1 hw8;have HS8:=Lib.hid hS8;have H8O:=Lib.hid (show ∀ (i : Nat) (x : Int),(#[.int .i64 0,.int .i64 0,.slice none 0 0,.int .i64 0,.int .i64 0,.bool false,.int .i64 0,.int .i64 0,.int .i64 0,.int .i64 0,.int .i64 0,.int .i64 0,.int .i64 0,.bool false,.int .i64 0,.int .i64 0,.int .i64 0,.bool false,.bool false,.slice none 0 0,.int .i64 0,.int .i64 0,.slice none 0 0,.int .i64 0,.slice none 0 0,.int .i64 0] : Array Value)[i]? ≠ some (.int .u8 x) from fun i x h => by have:=Array.mem_of_getElem? h;simp at this);(try have h18 : Bw m1 w8:=Bw.trans (show Bw m1 _ from BWX) hb8);(try have h28 : Bw m2 w8:=Bw.trans (show Bw m2 _ from BWX) hb8);(try have h38 : Bw m3 w8:=Bw.trans (show Bw m3 _ from BWX) hb8);clear hw8 hS8
   refine hK.out _ _ ?_ (fun hHeld => ?_)
   ·(try dsimp only);(first|exact Bw.grown (show Bw w4 _ from BWX) HG3.out (fun k hk => by cases hk;(try simp only [szA,szS,szD,szN] at *);omega)|((repeat (first|with_reducible (first|assumption|exact Bw.refl _|refine Bw.alloc ?_ _|refine Bw.more ?_ _ _|refine Bw.drew ?_|refine Bw.drewN ?_ _)|((with_reducible refine Bw.set2 ?_ ?_ _);(focus exact SZX))|with_reducible refine Bw.trans ?_ (by assumption)));done))
   clear hK K
   (try simp only [Act.put,zP1,zP2,zP3,zP4,zP5,zP6])
   refine arO 6 (fun K hK => ?_)
   go_simp
   refine (rnew19_ok (Rn : Int) (Cn : Int) 0 _ (by omega)).mono ?_;rintro ee m1 ⟨t0,rfl,ht0,hs1,hs2,hn0,hh0,hb1⟩;rw [HCl1.out] at hs1;rw [HCl2.out] at hs2;have HT0:=Lib.hid ht0;have HS0:=Lib.hid (And.intro hs1 hs2);have HN0:=Lib.hid hn0;have HH0:=Lib.hid hh0;have HL0:=Lib.hid ht0.1.1.lt;(try have h81 : Bw w8 m1:=Bw.trans (show Bw w8 _ from BWX) hb1);have hm1 : Bw w4 m1:=Bw.trans (show Bw w4 _ from BWX) hb1;have hzm1:=hb1.size;clear ht0 hs1 hs2 hn0 hh0;go_wp2_with fail
   refine hK.out _ _ ?_ (fun hHeld => ?_)
   ·(try dsimp only);(first|exact Bw.grown (show Bw w4 _ from BWX) HG3.out (fun k hk => by cases hk;(try simp only [szA,szS,szD,szN] at *);omega)|((repeat (first|with_reducible (first|assumption|exact Bw.refl _|refine Bw.alloc ?_ _|refine Bw.more ?_ _ _|refine Bw.drew ?_|refine Bw.drewN ?_ _)|((with_reducible refine Bw.set2 ?_ ?_ _);(focus exact SZX))|with_reducible refine Bw.trans ?_ (by assumption)));done))
   clear hK K
   (try simp only [Act.put,zP1,zP2,zP3,zP4,zP5,zP6])
   refine arO 8 (fun K hK => ?_)
   go_simp
   refine (pfull_any (Rn : Int) (Cn : Int) A1 n1 c1 cs row col hid _ (HXb.out.up (Bw.trans HB4.out (show Bw w4 _ from BWX))) k2 k3 k4 (PowT.bump HP.out (Bw.trans HBb.out (Bw.trans HB4.out (show Bw w4 _ from BWX))))).mono ?_;rintro ee m2 ⟨v2,rfl,hs2,hb2⟩;obtain ⟨B2,cv2,rfl,hc2,hcm2,hr2⟩:=hs2;have HR2:=Lib.hid hr2;have h12 : Bw m1 m2:=Bw.trans (show Bw m1 _ from BWX) hb2;(try have h82 : Bw w8 m2:=Bw.trans (show Bw w8 _ from BWX) hb2);have hm2 : Bw w4 m2:=Bw.trans (show Bw w4 _ from BWX) hb2;have hzm2:=hb2.size;clear hr2;go_wp2_with fail
   refine hK.out _ _ ?_ (fun hHeld => ?_)
   ·(try dsimp only);(first|exact Bw.grown (show Bw w4 _ from BWX) HG3.out (fun k hk => by cases hk;(try simp only [szA,szS,szD,szN] at *);omega)|((repeat (first|with_reducible (first|assumption|exact Bw.refl _|refine Bw.alloc ?_ _|refine Bw.more ?_ _ _|refine Bw.drew ?_|refine Bw.drewN ?_ _)|((with_reducible refine Bw.set2 ?_ ?_ _);(focus exact SZX))|with_reducible refine Bw.trans ?_ (by assumption)));done))
   clear hK K
   (try simp only [Act.put,zP1,zP2,zP3,zP4,zP5,zP6])
   refine arO 9 (fun K hK => ?_)
   go_simp
   have hll:=HF1.out.1;refine (rfeed_x t0 none 0 B2 _ cv2 (fullL Rn Cn cs row col hid) _ (HT0.out.up BWX) (Mt.none_ _ _) (by omega) (HR2.out.up BWX) (by omega) (by omega) (by omega) HF1.out.2).mono ?_;rintro ee m3 ⟨t1,rfl,ht1,e1,e2,e3,hpl,hph,hb3,hMt,hrs,hsc⟩;have HT1:=Lib.hid ht1;have HL1:=Lib.hid ht1.1.1.lt;have HE1:=Lib.hid (And.intro (e1.trans (show t0.s.Rn = Rn from by have:=HS0.out.1;omega)) (e2.trans (show t0.s.Cn = Cn from by have:=HS0.out.2;omega)));have HK1:=Lib.hid (fed_full hC6 HVa.out HT0.out (show t0.s.Rn = Rn from by have:=HS0.out.1;omega) (show t0.s.Cn = Cn from by have:=HS0.out.2;omega) hMt hrs hsc);have HPL:=Lib.hid hpl;have HPH:=Lib.hid hph;have h13 : Bw m1 m3:=Bw.trans (show Bw m1 _ from BWX) hb3;have h23 : Bw m2 m3:=Bw.trans (show Bw m2 _ from BWX) hb3;(try have h83 : Bw w8 m3:=Bw.trans (show Bw w8 _ from BWX) hb3);have hm3 : Bw w4 m3:=Bw.trans (show Bw w4 _ from BWX) hb3;have hzm3:=hb3.size;clear ht1 e1 e2 e3 hpl hph hMt hrs hsc;go_wp2_with fail
   refine hK.out _ _ ?_ (fun hHeld => ?_)
   ·(try dsimp only);(first|exact Bw.grown (show Bw w4 _ from BWX) HG3.out (fun k hk => by cases hk;(try simp only [szA,szS,szD,szN] at *);omega)|((repeat (first|with_reducible (first|assumption|exact Bw.refl _|refine Bw.alloc ?_ _|refine Bw.more ?_ _ _|refine Bw.drew ?_|refine Bw.drewN ?_ _)|((with_reducible refine Bw.set2 ?_ ?_ _);(focus exact SZX))|with_reducible refine Bw.trans ?_ (by assumption)));done))
   clear hK K
   (try simp only [Act.put,zP1,zP2,zP3,zP4,zP5,zP6])
   refine arO 11 (fun K hK => ?_)
   (refine (if_pos (by kernel_rfl)).mpr ?_);(first|((with_reducible refine wp_store_tr t1 w4.heap.size (.tmp 8) (.tmp 28) ?_ ?_ ?_ ?_ ?_);(focus rfl);(focus rfl);(focus rfl);(focus (exact ⟨_,HS8.out.up BWX,rfl⟩)))|((with_reducible refine wp_store_tr t1 m1.heap.size (.tmp 8) (.tmp 28) ?_ ?_ ?_ ?_ ?_);(focus rfl);(focus rfl);(focus rfl);(focus (exact ⟨_,HS8.out.up BWX,rfl⟩)))|((with_reducible refine wp_store_tr t1 m2.heap.size (.tmp 8) (.tmp 28) ?_ ?_ ?_ ?_ ?_);(focus rfl);(focus rfl);(focus rfl);(focus (exact ⟨_,HS8.out.up BWX,rfl⟩)))|((with_reducible refine wp_store_tr t1 m3.heap.size (.tmp 8) (.tmp 28) ?_ ?_ ?_ ?_ ?_);(focus rfl);(focus rfl);(focus rfl);(focus (exact ⟨_,HS8.out.up BWX,rfl⟩))));intro w3 hS3 hg3;have HS3:=Lib.hid hS3;have HG3:=Lib.hid hg3;clear hS3 hg3
   refine hK.out _ _ ?_ (fun hHeld => ?_)
   ·(try dsimp only);(first|exact Bw.grown (show Bw w4 _ from BWX) HG3.out (fun k hk => by cases hk;(try simp only [szA,szS,szD,szN] at *);omega)|((repeat (first|with_reducible (first|assumption|exact Bw.refl _|refine Bw.alloc ?_ _|refine Bw.more ?_ _ _|refine Bw.drew ?_|refine Bw.drewN ?_ _)|((with_reducible refine Bw.set2 ?_ ?_ _);(focus exact SZX))|with_reducible refine Bw.trans ?_ (by assumption)));done))
   clear hK K
   (try simp only [Act.put,zP1,zP2,zP3,zP4,zP5,zP6])
   refine wpAnyH_done (by kernel_rfl) ?_ _
   go_wp2
   go_meet
   case rel =>
    have hq1:=HG3.out
    have hq2:=HS3.out
    refine ⟨_,rfl,TmK.put (HS8.out.up BWX) H8O.out ?_ ?_ (HT1.out.up BWX) HE1.out.1 HE1.out.2 (HK1.out.1.up BWX) HK1.out.2 hq1 hq2,Bw.grown (show Bw w4 _ from BWX) hq1 (fun k hk => by cases hk;(try simp only [szA,szS,szD,szN] at *);omega),(by (try simp only [szA,szS,szD,szN] at *);omega)⟩
    ·intro ad e
     have h1:=HL1.out ad e
     rcases HPL.out with h|h
     ·have h2:=HL0.out ad (by rw [← h];exact e)
      have h3:=HN0.out ad (by rw [← h];exact e)
      (try simp only [szA,szS,szD,szN] at *)
      omega
     ·have h2:=h ad e
      (try simp only [szA,szS,szD,szN] at *)
      omega
    ·intro h0 ad e
     have h1:=HT1.out.2.2.2.2.2.1.lt h0 ad e
     rcases HPH.out with h|h
     ·rw [h.1,HH0.out] at e;cases e
     ·have h2:=h ad e
      (try simp only [szA,szS,szD,szN] at *)
      omega
  exact AllReadyH.nil
 case rest =>
 obtain ⟨wd,rfl⟩ : ∃ wd,wd = wc:=⟨_,rfl⟩
 obtain ⟨g,rfl,hTM,hbc,hgb⟩:=hcut
 have HTM:=Lib.hid hTM
 have HBC:=Lib.hid hbc
 clear hTM hbc
 obtain ⟨t1,hst,ht1,e1,e2,-,ha1,hh1,-⟩:=HTM.out
 have HST:=Lib.hid hst
 have HT1:=Lib.hid ht1
 have HE1:=Lib.hid (And.intro e1 e2)
 have hA1:=Lib.hid ha1
 have hH1:=Lib.hid hh1
 have hgl:=hst.lt
 have hzc:=HBC.out.size
 obtain ⟨kc,hkc⟩ : ∃ kc : Nat,cut % ((nd : Int) + 1) = kc:=⟨(cut % ((nd : Int) + 1)).toNat,by have:=Int.emod_nonneg cut (show (nd : Int) + 1 ≠ 0 by omega);omega⟩
 have hkc1 : kc ≤ nd:=by have:=Int.emod_lt_of_pos cut (show (0 : Int) < (nd : Int) + 1 by omega);omega
 have HMD:=Lib.hid hkc
 have kc0 : (0 : Int) ≤ kc:=by omega
 have hwn : IntKind.i64.wrap ((nd : Int) + 1) = (nd : Int) + 1:=IntWalk.i64_in _ (by omega)
 have kc1 : (kc : Int) ≤ cv4:=by omega
 clear hst ht1 e1 e2 ha1 hh1 hkc HTM HC5
 go_upto_region 6 with (fail)
 go_cut [] from 29 to 37 (fun w' => TmK w' g Rn Cn (0 + 231 * 200000 + 231 * 200000) none (fun _ => True) ∧ Bw w4 w')
 case first =>
  refine wp_region_held_drew (S:=(fun w' => Bw w4 w')) (by kernel_rfl) ?_ (fun hHeld => ?_)
  ·(try dsimp only);(first|exact Bw.grown (Bw.trans HBC.out (show Bw wd _ from BWX)) HG9.out (fun k hk => by cases hk;omega)|(refine Bw.trans HBC.out ?_;(repeat (first|with_reducible (first|assumption|exact Bw.refl _|refine Bw.alloc ?_ _|refine Bw.more ?_ _ _|refine Bw.drew ?_|refine Bw.drewN ?_ _)|((with_reducible refine Bw.set2 ?_ ?_ _);(focus exact SZX))|with_reducible refine Bw.trans ?_ (by assumption)));done))
  refine tkQ 1 ?_
  refine tkQ 2 ?_
  (try simp only [Act.put,zP1,zP2,zP3,zP4,zP5,zP6])
  refine tkQ 3 ?_
  refine tkQ 4 ?_
  refine tkQ 5 ?_
  (try simp only [Act.put,zP1,zP2,zP3,zP4,zP5,zP6])
  refine wpAnyH_ready (rs:=[0,6]) (by kernel_rfl) (by simp) ?_
  refine AllReadyH.cons rfl (fun K hK => ?_) ?_
  ·(refine (if_pos (by kernel_rfl)).mpr ?_);((with_reducible refine wp_load_tr t1 g (.tmp 8) ?_ ?_ ?_ ?_);(focus rfl);(focus rfl);(focus (exact HST.out.up BWX)))
   refine hK.out _ _ ?_ (fun hHeld => ?_)
   ·(try dsimp only);(first|exact Bw.grown (Bw.trans HBC.out (show Bw wd _ from BWX)) HG9.out (fun k hk => by cases hk;omega)|(refine Bw.trans HBC.out ?_;(repeat (first|with_reducible (first|assumption|exact Bw.refl _|refine Bw.alloc ?_ _|refine Bw.more ?_ _ _|refine Bw.drew ?_|refine Bw.drewN ?_ _)|((with_reducible refine Bw.set2 ?_ ?_ _);(focus exact SZX))|with_reducible refine Bw.trans ?_ (by assumption)));done))
   clear hK K
   (try simp only [Act.put,zP1,zP2,zP3,zP4,zP5,zP6])
   refine arO 6 (fun K hK => ?_)
   go_simp
   (try rw [hwn]);refine (mmod_any _ _ _ (by omega) (by omega)).mono ?_;rintro ee ww ⟨rfl,rfl⟩;rw [HMD.out];go_wp2_with fail
   refine hK.out _ _ ?_ (fun hHeld => ?_)
   ·(try dsimp only);(first|exact Bw.grown (Bw.trans HBC.out (show Bw wd _ from BWX)) HG9.out (fun k hk => by cases hk;omega)|(refine Bw.trans HBC.out ?_;(repeat (first|with_reducible (first|assumption|exact Bw.refl _|refine Bw.alloc ?_ _|refine Bw.more ?_ _ _|refine Bw.drew ?_|refine Bw.drewN ?_ _)|((with_reducible refine Bw.set2 ?_ ?_ _);(focus exact SZX))|with_reducible refine Bw.trans ?_ (by assumption)));done))
   clear hK K
   (try simp only [Act.put,zP1,zP2,zP3,zP4,zP5,zP6])
   refine tkQ 7 ?_
   (try simp only [Act.put,zP1,zP2,zP3,zP4,zP5,zP6])
   refine arO 8 (fun K hK => ?_)
   go_simp
   refine (rfeed_x t1 none (0 + 231 * 200000) B4 kc cv4 (ld.take kc) _ (HT1.out.up BWX) (Mt.none_ _ _) (by omega) ((HR4.out.up (Bw.trans HBC.out (show Bw wd _ from BWX))).firsts kc (by omega)) (by omega) (by omega) (by omega) (fun x hx => HD0.out.2 x (List.mem_of_mem_take hx))).mono ?_;rintro ee m3 ⟨t2,rfl,ht2,e1,e2,e3,hpl,hph,hb3,-⟩;have HT2:=Lib.hid ht2;have HE2:=Lib.hid (And.intro (e1.trans HE1.out.1) (e2.trans HE1.out.2));have HFN:=Lib.hid (fed_ne (show g < _ from (by (try simp only [szA,szS,szD,szN] at *);omega)) hA1.out hH1.out hpl hph);have hm3 : Bw wd m3:=Bw.trans (show Bw wd _ from BWX) hb3;have hzm3:=hb3.size;clear ht2 e1 e2 e3 hpl hph;go_wp2_with fail
   refine hK.out _ _ ?_ (fun hHeld => ?_)
   ·(try dsimp only);(first|exact Bw.grown (Bw.trans HBC.out (show Bw wd _ from BWX)) HG9.out (fun k hk => by cases hk;omega)|(refine Bw.trans HBC.out ?_;(repeat (first|with_reducible (first|assumption|exact Bw.refl _|refine Bw.alloc ?_ _|refine Bw.more ?_ _ _|refine Bw.drew ?_|refine Bw.drewN ?_ _)|((with_reducible refine Bw.set2 ?_ ?_ _);(focus exact SZX))|with_reducible refine Bw.trans ?_ (by assumption)));done))
   clear hK K
   (try simp only [Act.put,zP1,zP2,zP3,zP4,zP5,zP6])
   refine arO 9 (fun K hK => ?_)
   (refine (if_pos (by kernel_rfl)).mpr ?_);((with_reducible refine wp_store_tr t2 g (.tmp 8) (.tmp 37) ?_ ?_ ?_ ?_ ?_);(focus rfl);(focus rfl);(focus rfl);(focus (exact ⟨_,HST.out.up (show Bw wd _ from BWX),rfl⟩)));intro w9 hS9 hg9;have HS9:=Lib.hid hS9;have HG9:=Lib.hid hg9;clear hS9 hg9
   refine hK.out _ _ ?_ (fun hHeld => ?_)
   ·(try dsimp only);(first|exact Bw.grown (Bw.trans HBC.out (show Bw wd _ from BWX)) HG9.out (fun k hk => by cases hk;omega)|(refine Bw.trans HBC.out ?_;(repeat (first|with_reducible (first|assumption|exact Bw.refl _|refine Bw.alloc ?_ _|refine Bw.more ?_ _ _|refine Bw.drew ?_|refine Bw.drewN ?_ _)|((with_reducible refine Bw.set2 ?_ ?_ _);(focus exact SZX))|with_reducible refine Bw.trans ?_ (by assumption)));done))
   clear hK K
   (try simp only [Act.put,zP1,zP2,zP3,zP4,zP5,zP6])
   refine wpAnyH_done (by kernel_rfl) ?_ _
   go_wp2
   go_meet
   case rel => exact ⟨TmK.put (HST.out.up (show Bw wd _ from BWX)) (Trm.no8 t1) HFN.out.1 HFN.out.2 (HT2.out.up BWX) HE2.out.1 HE2.out.2 (Mt.none_ _ _) trivial HG9.out HS9.out,Bw.grown (Bw.trans HBC.out (show Bw wd _ from BWX)) HG9.out (fun k hk => by cases hk;omega)⟩
  refine AllReadyH.cons rfl (fun K hK => ?_) ?_
  ·go_simp
   (try rw [hwn]);refine (mmod_any _ _ _ (by omega) (by omega)).mono ?_;rintro ee ww ⟨rfl,rfl⟩;rw [HMD.out];go_wp2_with fail
   refine hK.out _ _ ?_ (fun hHeld => ?_)
   ·(try dsimp only);(first|exact Bw.grown (Bw.trans HBC.out (show Bw wd _ from BWX)) HG9.out (fun k hk => by cases hk;omega)|(refine Bw.trans HBC.out ?_;(repeat (first|with_reducible (first|assumption|exact Bw.refl _|refine Bw.alloc ?_ _|refine Bw.more ?_ _ _|refine Bw.drew ?_|refine Bw.drewN ?_ _)|((with_reducible refine Bw.set2 ?_ ?_ _);(focus exact SZX))|with_reducible refine Bw.trans ?_ (by assumption)));done))
   clear hK K
   (try simp only [Act.put,zP1,zP2,zP3,zP4,zP5,zP6])
   refine tkQ 7 ?_
   (try simp only [Act.put,zP1,zP2,zP3,zP4,zP5,zP6])
   refine arO 0 (fun K hK => ?_)
   (refine (if_pos (by kernel_rfl)).mpr ?_);((with_reducible refine wp_load_tr t1 g (.tmp 8) ?_ ?_ ?_ ?_);(focus rfl);(focus rfl);(focus (exact HST.out.up BWX)))
   refine hK.out _ _ ?_ (fun hHeld => ?_)
   ·(try dsimp only);(first|exact Bw.grown (Bw.trans HBC.out (show Bw wd _ from BWX)) HG9.out (fun k hk => by cases hk;omega)|(refine Bw.trans HBC.out ?_;(repeat (first|with_reducible (first|assumption|exact Bw.refl _|refine Bw.alloc ?_ _|refine Bw.more ?_ _ _|refine Bw.drew ?_|refine Bw.drewN ?_ _)|((with_reducible refine Bw.set2 ?_ ?_ _);(focus exact SZX))|with_reducible refine Bw.trans ?_ (by assumption)));done))
   clear hK K
   (try simp only [Act.put,zP1,zP2,zP3,zP4,zP5,zP6])
   refine arO 8 (fun K hK => ?_)
   go_simp
   refine (rfeed_x t1 none (0 + 231 * 200000) B4 kc cv4 (ld.take kc) _ (HT1.out.up BWX) (Mt.none_ _ _) (by omega) ((HR4.out.up (Bw.trans HBC.out (show Bw wd _ from BWX))).firsts kc (by omega)) (by omega) (by omega) (by omega) (fun x hx => HD0.out.2 x (List.mem_of_mem_take hx))).mono ?_;rintro ee m3 ⟨t2,rfl,ht2,e1,e2,e3,hpl,hph,hb3,-⟩;have HT2:=Lib.hid ht2;have HE2:=Lib.hid (And.intro (e1.trans HE1.out.1) (e2.trans HE1.out.2));have HFN:=Lib.hid (fed_ne (show g < _ from (by (try simp only [szA,szS,szD,szN] at *);omega)) hA1.out hH1.out hpl hph);have hm3 : Bw wd m3:=Bw.trans (show Bw wd _ from BWX) hb3;have hzm3:=hb3.size;clear ht2 e1 e2 e3 hpl hph;go_wp2_with fail
   refine hK.out _ _ ?_ (fun hHeld => ?_)
   ·(try dsimp only);(first|exact Bw.grown (Bw.trans HBC.out (show Bw wd _ from BWX)) HG9.out (fun k hk => by cases hk;omega)|(refine Bw.trans HBC.out ?_;(repeat (first|with_reducible (first|assumption|exact Bw.refl _|refine Bw.alloc ?_ _|refine Bw.more ?_ _ _|refine Bw.drew ?_|refine Bw.drewN ?_ _)|((with_reducible refine Bw.set2 ?_ ?_ _);(focus exact SZX))|with_reducible refine Bw.trans ?_ (by assumption)));done))
   clear hK K
   (try simp only [Act.put,zP1,zP2,zP3,zP4,zP5,zP6])
   refine arO 9 (fun K hK => ?_)
   (refine (if_pos (by kernel_rfl)).mpr ?_);((with_reducible refine wp_store_tr t2 g (.tmp 8) (.tmp 37) ?_ ?_ ?_ ?_ ?_);(focus rfl);(focus rfl);(focus rfl);(focus (exact ⟨_,HST.out.up (show Bw wd _ from BWX),rfl⟩)));intro w9 hS9 hg9;have HS9:=Lib.hid hS9;have HG9:=Lib.hid hg9;clear hS9 hg9
   refine hK.out _ _ ?_ (fun hHeld => ?_)
   ·(try dsimp only);(first|exact Bw.grown (Bw.trans HBC.out (show Bw wd _ from BWX)) HG9.out (fun k hk => by cases hk;omega)|(refine Bw.trans HBC.out ?_;(repeat (first|with_reducible (first|assumption|exact Bw.refl _|refine Bw.alloc ?_ _|refine Bw.more ?_ _ _|refine Bw.drew ?_|refine Bw.drewN ?_ _)|((with_reducible refine Bw.set2 ?_ ?_ _);(focus exact SZX))|with_reducible refine Bw.trans ?_ (by assumption)));done))
   clear hK K
   (try simp only [Act.put,zP1,zP2,zP3,zP4,zP5,zP6])
   refine wpAnyH_done (by kernel_rfl) ?_ _
   go_wp2
   go_meet
   case rel => exact ⟨TmK.put (HST.out.up (show Bw wd _ from BWX)) (Trm.no8 t1) HFN.out.1 HFN.out.2 (HT2.out.up BWX) HE2.out.1 HE2.out.2 (Mt.none_ _ _) trivial HG9.out HS9.out,Bw.grown (Bw.trans HBC.out (show Bw wd _ from BWX)) HG9.out (fun k hk => by cases hk;omega)⟩
  exact AllReadyH.nil
 case rest =>
 obtain ⟨w9,rfl⟩ : ∃ w9,w9 = wc:=⟨_,rfl⟩
 obtain ⟨hTM2,hbd⟩:=hcut
 have HBD:=Lib.hid hbd
 obtain ⟨t3,hs3,ht3,f1,f2,-,-,-,-⟩:=hTM2
 have HST3:=Lib.hid hs3
 have HT3:=Lib.hid ht3
 have HE3:=Lib.hid (And.intro f1 f2)
 have hg9':=hs3.lt
 clear hs3 ht3 f1 f2 hbd
 have HC7:=Lib.hid (show ∀ w',Bw w9 w' → (w'.cell? ⟨kb,0,none⟩ = some (.int .i64 (Rn : Int)) ∧ w'.cell? ⟨kb,1,none⟩ = some (.int .i64 (Cn : Int)) ∧ w'.cell? ⟨kb,2,none⟩ = some (.slice A2 n2 c2) ∧ w'.cell? ⟨kb,3,none⟩ = some (.int .i64 row2) ∧ w'.cell? ⟨kb,4,none⟩ = some (.int .i64 col2) ∧ w'.cell? ⟨kb,5,none⟩ = some (.bool hid2)) from fun w' hb' => (by have hb:=Bw.trans HB4.out (Bw.trans HBD.out hb');exact ⟨(HKB.out.up hb).cell 0 rfl,(HKB.out.up hb).cell 1 rfl,(HKB.out.up hb).cell 2 rfl,(HKB.out.up hb).cell 3 rfl,(HKB.out.up hb).cell 4 rfl,(HKB.out.up hb).cell 5 rfl⟩))
 go_upto_region 7 with (fail)
 refine wp_region_held_drew (S:=(fun w' => Bw w9 w')) (by kernel_rfl) ?_ (fun hHeld => ?_)
 ·(try dsimp only);(repeat (first|with_reducible (first|assumption|exact Bw.refl _|refine Bw.alloc ?_ _|refine Bw.more ?_ _ _|refine Bw.drew ?_|refine Bw.drewN ?_ _)|((with_reducible refine Bw.set2 ?_ ?_ _);(focus exact SZX))|with_reducible refine Bw.trans ?_ (by assumption)))
 refine wpAnyH_take (i:=0) (v:=.agg t3.vals.toArray) rfl (by kernel_rfl) (by kernel_rfl) (by kernel_rfl) (fun _ _ _ h => h) (yields_load_tr t3 g (.tmp 8) rfl rfl (by rfl) (fun w' hb => HST3.out.up hb)) (by assumption) ?_
 (try simp only [Act.put,zP1,zP2,zP3,zP4,zP5,zP6])
 refine tkH 1 ?_ rfl (Or.inl ⟨by rfl,?ht1⟩) ?_;case ht1 => (intro w' hb;(try dsimp only at hb);have hcl:=HC7.out w' hb;clear hb;go_simp;try with_reducible rfl)
 (try simp only [Act.put,zP1,zP2,zP3,zP4,zP5,zP6])
 refine tkH 5 ?_ rfl (Or.inl ⟨by rfl,?ht5⟩) ?_;case ht5 => (intro w' hb;(try dsimp only at hb);have hcl:=HC7.out w' hb;clear hb;go_simp;try with_reducible rfl)
 (try simp only [Act.put,zP1,zP2,zP3,zP4,zP5,zP6])
 refine arO 2 (fun K hK => ?_)
 go_simp
 refine (pfull_any (Rn : Int) (Cn : Int) A2 n2 c2 ds row2 col2 hid2 _ (HYb.out.up (Bw.trans HB4.out (Bw.trans HBD.out (show Bw w9 _ from BWX)))) l2 l3 l4 (PowT.bump HP.out (Bw.trans HBb.out (Bw.trans HB4.out (Bw.trans HBD.out (show Bw w9 _ from BWX)))))).mono ?_;rintro ee q2 ⟨v2,rfl,hs2,hb2⟩;obtain ⟨B2,cv2,rfl,hc2,hcm2,hr2⟩:=hs2;have HR2:=Lib.hid hr2;have hq2 : Bw w9 q2:=Bw.trans (show Bw w9 _ from BWX) hb2;clear hr2;go_wp2_with fail
 refine hK.out _ _ ?_ (fun hHeld => ?_)
 ·(try dsimp only);(repeat (first|with_reducible (first|assumption|exact Bw.refl _|refine Bw.alloc ?_ _|refine Bw.more ?_ _ _|refine Bw.drew ?_|refine Bw.drewN ?_ _)|((with_reducible refine Bw.set2 ?_ ?_ _);(focus exact SZX))|with_reducible refine Bw.trans ?_ (by assumption)))
 clear hK K
 (try simp only [Act.put,zP1,zP2,zP3,zP4,zP5,zP6])
 refine arO 3 (fun K hK => ?_)
 go_simp
 have hll:=HF2.out.1;refine (rfeed_x t3 none (0 + 231 * 200000 + 231 * 200000) B2 _ cv2 (fullL Rn Cn ds row2 col2 hid2) _ (HT3.out.up BWX) (Mt.none_ _ _) (by omega) (HR2.out.up BWX) (by omega) (by omega) (by omega) HF2.out.2).mono ?_;rintro ee q3 ⟨t4,rfl,ht4,e1,e2,e3,hpl,hph,hb3,hMt,hrs,hsc⟩;have HK4:=Lib.hid (fed_full hC6 HVb.out HT3.out HE3.out.1 HE3.out.2 hMt hrs hsc);have HE4:=Lib.hid (And.intro (e1.trans HE3.out.1) (e2.trans HE3.out.2));have hq3 : Bw w9 q3:=Bw.trans (show Bw w9 _ from BWX) hb3;clear ht4 e1 e2 e3 hpl hph hMt hrs hsc;go_wp2_with fail
 refine hK.out _ _ ?_ (fun hHeld => ?_)
 ·(try dsimp only);(repeat (first|with_reducible (first|assumption|exact Bw.refl _|refine Bw.alloc ?_ _|refine Bw.more ?_ _ _|refine Bw.drew ?_|refine Bw.drewN ?_ _)|((with_reducible refine Bw.set2 ?_ ?_ _);(focus exact SZX))|with_reducible refine Bw.trans ?_ (by assumption)))
 clear hK K
 (try simp only [Act.put,zP1,zP2,zP3,zP4,zP5,zP6])
 refine arO 4 (fun K hK => ?_)
 go_simp
 refine (rpane_any t4 _).mono ?_;rintro ee q4 ⟨rfl,hb4⟩;have hb34 : Bw q3 q4:=Bw.trans (show Bw q3 _ from BWX) hb4;have hq4 : Bw w9 q4:=Bw.trans hq3 hb34;clear hb4;go_wp2_with fail
 refine hK.out _ _ ?_ (fun hHeld => ?_)
 ·(try dsimp only);(repeat (first|with_reducible (first|assumption|exact Bw.refl _|refine Bw.alloc ?_ _|refine Bw.more ?_ _ _|refine Bw.drew ?_|refine Bw.drewN ?_ _)|((with_reducible refine Bw.set2 ?_ ?_ _);(focus exact SZX))|with_reducible refine Bw.trans ?_ (by assumption)))
 clear hK K
 (try simp only [Act.put,zP1,zP2,zP3,zP4,zP5,zP6])
 refine arO 6 (fun K hK => ?_)
 go_simp
 obtain ⟨s1,s2,s3,s4⟩:=shown HK4.out.1 HE4.out.1 HE4.out.2;refine (gsameV_any t4.s.Rn t4.s.Cn t4.s.A t4.s.n t4.s.c ds t4.s.row t4.s.col t4.s.hid Rn Cn A2 n2 c2 ds row2 col2 hid2 _ ((s1.up hb34).up (show Bw q4 _ from BWX)) s2 s3 (HYb.out.up (Bw.trans HB4.out (Bw.trans HBD.out (show Bw w9 _ from BWX)))) l2 l3).mono ?_;rintro ee q5 ⟨rfl,hb5⟩;rw [s4];have hq5 : Bw w9 q5:=Bw.trans (show Bw w9 _ from BWX) hb5;clear s1 s2 s3 s4 hb5;go_wp2_with fail
 refine hK.out _ _ ?_ (fun hHeld => ?_)
 ·(try dsimp only);(repeat (first|with_reducible (first|assumption|exact Bw.refl _|refine Bw.alloc ?_ _|refine Bw.more ?_ _ _|refine Bw.drew ?_|refine Bw.drewN ?_ _)|((with_reducible refine Bw.set2 ?_ ?_ _);(focus exact SZX))|with_reducible refine Bw.trans ?_ (by assumption)))
 clear hK K
 (try simp only [Act.put,zP1,zP2,zP3,zP4,zP5,zP6])
 refine tkQ 7 ?_
 (try simp only [Act.put,zP1,zP2,zP3,zP4,zP5,zP6])
 refine wpAnyH_done (by kernel_rfl) ?_ _
 go_wp2_with fail
 go_ret
 exact ⟨rfl,Bw.trans HBb.out (Bw.trans HB4.out (Bw.trans HBD.out (show Bw w9 _ from BWX)))⟩
end Go.Proofs.YteebdjmjeahccaaGreatDoor
