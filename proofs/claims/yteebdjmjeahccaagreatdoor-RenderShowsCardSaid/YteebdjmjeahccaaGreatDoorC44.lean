/- Parts of the proof, one after the other. -/
import Derived.Test.YteebdjmjeahccaaGreatDoorC43
import Derived.Deep.RegionHeld3
set_option linter.unusedSimpArgs false
set_option linter.unusedVariables false
set_option maxRecDepth 100000
set_option maxHeartbeats 16000000
namespace Go.Proofs.YteebdjmjeahccaaGreatDoor
open Go.RowKit
theorem celT_off {w : World} {g o o2 : Nat} (h : CelT w (some ⟨g,o,none⟩)) : CelT w (some ⟨g,o2,none⟩):=fun ad e => by
 cases e
 exact h ⟨g,o,none⟩ rfl
theorem pdiff_main (R C : Int) (A : Option Addr) (n c : Nat) (cs : List C4) (row col : Int) (hid : Bool) (A2 : Option Addr) (n2 c2 : Nat) (ds : List C4) (row2 col2 : Int) (hid2 : Bool) (w0 : World) (hx : Rg w0 A n cs) (hn : n ≤ c) (hc : c ≤ 9223372036854775807) (hn6 : n ≤ 60) (hy : Rg w0 A2 n2 ds) (hm : n2 ≤ c2) (hd : c2 ≤ 9223372036854775807) (hm6 : n2 ≤ 60) (ht : PowT w0.heap.size w0)
  (hvb : viewB R C ds row2 col2 = true) (hs : sameV R C cs row col hid R C ds row2 col2 hid2 = false) (hva : viewB R C cs row col = true) :
  Calls Tryz.prog 13 #[.agg #[.int .i64 R,.int .i64 C,.slice A n c,.int .i64 row,.int .i64 col,.bool hid],.agg #[.int .i64 R,.int .i64 C,.slice A2 n2 c2,.int .i64 row2,.int .i64 col2,.bool hid2]] w0 fun e w' => ∃ v,e = .returned v ∧ Sl (.int .u8) w' v (diffL R C cs row col hid R C ds row2 col2 hid2) ∧ Bw w0 w':=by
 have HX:=Lib.hid hx
 have HY:=Lib.hid hy
 have HT:=Lib.hid ht
 have HVb:=Lib.hid hvb
 have HVa:=Lib.hid hva
 have HS:=Lib.hid hs
 have hnl:=hx.1
 have hml:=hy.1
 obtain ⟨hR1,hR2,hC1,hC2,hlen,hrow0,hrow1,hcol0,hcol1⟩:=viewB_dim hvb
 obtain ⟨-,-,-,-,hlen1,-⟩:=viewB_dim hva
 have hC6:=viewB_small hvb (by omega)
 have hfF:=fun k hk => rowF_full hva k hk
 have hfG:=fun k hk => rowF_full hvb k hk
 obtain ⟨Rn,rfl⟩ : ∃ Rn : Nat,R = Rn:=⟨R.toNat,by omega⟩
 obtain ⟨Cn,rfl⟩ : ∃ Cn : Nat,C = Cn:=⟨C.toNat,by omega⟩
 obtain ⟨F,hF⟩ : ∃ F : Nat → List C4,(fun r : Nat => rowF (Rn : Int) (Cn : Int) cs r) = F:=⟨_,rfl⟩
 obtain ⟨G,hG⟩ : ∃ G : Nat → List C4,(fun r : Nat => rowF (Rn : Int) (Cn : Int) ds r) = G:=⟨_,rfl⟩
 have HE:=Lib.hid (show diffL Rn Cn cs row col hid Rn Cn ds row2 col2 hid2 = (difRows F G Rn).1 ++ bts (difRows F G Rn).2 (0,0,0) ++ goesL row2 col2 ++ (if hid = hid2 then [] else hideL hid2) by rw [diffL_main hvb hs hva,hF,hG,Int.toNat_natCast])
 have HFk:=Lib.hid (show ∀ k : Nat,rowF (Rn : Int) (Cn : Int) cs k = F k from fun k => by rw [← hF])
 have HGk:=Lib.hid (show ∀ k : Nat,rowF (Rn : Int) (Cn : Int) ds k = G k from fun k => by rw [← hG])
 have HFl:=Lib.hid (show ∀ k : Nat,k < Rn → (F k).length = Cn from fun k hk => by rw [← hF];have:=hfF k (by omega);rw [Int.toNat_natCast] at this;exact this)
 have HGl:=Lib.hid (show ∀ k : Nat,k < Rn → (G k).length = Cn from fun k hk => by rw [← hG];have:=hfG k (by omega);rw [Int.toNat_natCast] at this;exact this)
 have hRC:=Int.mul_le_mul hR1 hC1 (by omega) (by omega)
 have hn0 : 0 < n:=by rw [← hlen1] at hRC;omega
 have hm0 : 0 < n2:=by rw [← hlen] at hRC;omega
 have HA:=Lib.hid (hx.ltW hn0)
 have HA2:=Lib.hid (hy.ltW hm0)
 clear hx hy ht hvb hva hs hF hG hfF hfG hlen hlen1 hRC hnl hml
 go_enter Tryz.func13,Tryz.ntmps13
 go_upto_region 1 with (fail)
 generalize hwa : w0.alloc _ = wa
 obtain ⟨hka,hba,hza⟩:=kb1 hwa
 generalize hwb : wa.alloc _ = wb
 obtain ⟨hkb,hbb,hzb⟩:=kb1 hwb
 obtain ⟨ka,hka2⟩ : ∃ ka,ka = w0.heap.size:=⟨_,rfl⟩
 obtain ⟨kb,hkb2⟩ : ∃ kb,kb = w0.heap.size + 1:=⟨_,rfl⟩
 rw [hza] at hkb
 rw [← hkb2] at hkb ⊢
 rw [← hka2] at hka ⊢
 obtain ⟨B,hB⟩ : ∃ B,B = w0.heap.size:=⟨_,rfl⟩
 rw [← hB] at HT
 have HB0:=Lib.hid hB
 have HX0:=Lib.hid (show ∀ w',Below B w0 w' → Rg w' A n cs from fun w' hb => HX.out.same (fun ad e => hb.block _ (by rw [hB];exact HA.out ad e)))
 have HY0:=Lib.hid (show ∀ w',Below B w0 w' → Rg w' A2 n2 ds from fun w' hb => HY.out.same (fun ad e => hb.block _ (by rw [hB];exact HA2.out ad e)))
 have HBel:=Lib.hid (show ∀ w',Below B w0 w' → Bw w0 w' from fun w' hb => by rw [hB] at hb;exact hb)
 have hbz0 : B ≤ w0.heap.size:=by omega
 have hbka : B ≤ ka:=by omega
 have hbkb : B ≤ kb:=by omega
 have HKA:=Lib.hid (hka.up hbb)
 have HKB:=Lib.hid hkb
 have hb0b:=Bw.trans hba hbb
 have hzwb : B ≤ wb.heap.size:=by omega
 have hka3 : ka < wb.heap.size:=by omega
 have hkb3 : kb < wb.heap.size:=by omega
 clear hwa hwb hka hkb hba hbb hza hzb hka2 hkb2 hB
 have a0:=HKA.out.cell 0 (v:=.int .i64 (Rn : Int)) rfl
 have a1:=HKA.out.cell 1 (v:=.int .i64 (Cn : Int)) rfl
 have a2:=HKA.out.cell 2 (v:=.slice A n c) rfl
 have a3:=HKA.out.cell 3 (v:=.int .i64 row) rfl
 have a4:=HKA.out.cell 4 (v:=.int .i64 col) rfl
 have a5:=HKA.out.cell 5 (v:=.bool hid) rfl
 have c0_:=HKB.out.cell 0 (v:=.int .i64 (Rn : Int)) rfl
 have c1_:=HKB.out.cell 1 (v:=.int .i64 (Cn : Int)) rfl
 have c2_:=HKB.out.cell 2 (v:=.slice A2 n2 c2) rfl
 have c3_:=HKB.out.cell 3 (v:=.int .i64 row2) rfl
 have c4_:=HKB.out.cell 4 (v:=.int .i64 col2) rfl
 have c5_:=HKB.out.cell 5 (v:=.bool hid2) rfl
 have l_a:=lt_of_cell a0
 have l_b:=lt_of_cell c0_
 go_upto_region 3 with (first
  | (go_at_call 15;((with_reducible refine (gview_any Rn Cn A2 n2 c2 ds row2 col2 hid2 _ ?_ hm hd).mono ?_);(focus exact (HY.out.up (Bw.trans hb0b BWX)));rintro ee w1 ⟨rfl,hb1⟩;rw [HVb.out];have hbb1 : Bw wb w1:=Bw.trans (show Bw wb _ from BWX) hb1;clear hb1 a0 a1 a2 a3 a4 a5 c0_ c1_ c2_ c3_ c4_ c5_ l_a l_b;have a0:=(HKA.out.up hbb1).cell 0 (v:=.int .i64 (Rn : Int)) rfl;have a1:=(HKA.out.up hbb1).cell 1 (v:=.int .i64 (Cn : Int)) rfl;have a2:=(HKA.out.up hbb1).cell 2 (v:=.slice A n c) rfl;have a3:=(HKA.out.up hbb1).cell 3 (v:=.int .i64 row) rfl;have a4:=(HKA.out.up hbb1).cell 4 (v:=.int .i64 col) rfl;have a5:=(HKA.out.up hbb1).cell 5 (v:=.bool hid) rfl;have c0_:=(HKB.out.up hbb1).cell 0 (v:=.int .i64 (Rn : Int)) rfl;have c1_:=(HKB.out.up hbb1).cell 1 (v:=.int .i64 (Cn : Int)) rfl;have c2_:=(HKB.out.up hbb1).cell 2 (v:=.slice A2 n2 c2) rfl;have c3_:=(HKB.out.up hbb1).cell 3 (v:=.int .i64 row2) rfl;have c4_:=(HKB.out.up hbb1).cell 4 (v:=.int .i64 col2) rfl;have c5_:=(HKB.out.up hbb1).cell 5 (v:=.bool hid2) rfl;have l_a:=lt_of_cell a0;have l_b:=lt_of_cell c0_))
  | (go_at_call 17;(refine (gsameV_any Rn Cn A n c cs row col hid Rn Cn A2 n2 c2 ds row2 col2 hid2 _ (HX.out.up (Bw.trans hb0b (Bw.trans hbb1 BWX))) hn hc (HY.out.up (Bw.trans hb0b (Bw.trans hbb1 BWX))) hm hd).mono ?_;rintro ee w2 ⟨rfl,hb2⟩;rw [HS.out];have hbb2 : Bw wb w2:=Bw.trans hbb1 (Bw.trans (show Bw w1 _ from BWX) hb2);clear hb2 a0 a1 a2 a3 a4 a5 c0_ c1_ c2_ c3_ c4_ c5_ l_a l_b;have a0:=(HKA.out.up hbb2).cell 0 (v:=.int .i64 (Rn : Int)) rfl;have a1:=(HKA.out.up hbb2).cell 1 (v:=.int .i64 (Cn : Int)) rfl;have a2:=(HKA.out.up hbb2).cell 2 (v:=.slice A n c) rfl;have a3:=(HKA.out.up hbb2).cell 3 (v:=.int .i64 row) rfl;have a4:=(HKA.out.up hbb2).cell 4 (v:=.int .i64 col) rfl;have a5:=(HKA.out.up hbb2).cell 5 (v:=.bool hid) rfl;have c0_:=(HKB.out.up hbb2).cell 0 (v:=.int .i64 (Rn : Int)) rfl;have c1_:=(HKB.out.up hbb2).cell 1 (v:=.int .i64 (Cn : Int)) rfl;have c2_:=(HKB.out.up hbb2).cell 2 (v:=.slice A2 n2 c2) rfl;have c3_:=(HKB.out.up hbb2).cell 3 (v:=.int .i64 row2) rfl;have c4_:=(HKB.out.up hbb2).cell 4 (v:=.int .i64 col2) rfl;have c5_:=(HKB.out.up hbb2).cell 5 (v:=.bool hid2) rfl;have l_a:=lt_of_cell a0;have l_b:=lt_of_cell c0_))
  | fail)
 have hz2:=hbb2.size
 go_upto_region 5 with (first
  | (go_at_call 15;(refine (gview_any Rn Cn A n c cs row col hid _ (HX.out.up (Bw.trans hb0b (Bw.trans hbb2 BWX))) hn hc).mono ?_;rintro ee w3 ⟨rfl,hb3⟩;rw [HVa.out];have hbb3 : Bw wb w3:=Bw.trans hbb2 (Bw.trans (show Bw w2 _ from BWX) hb3);clear hb3 a0 a1 a2 a3 a4 a5 c0_ c1_ c2_ c3_ c4_ c5_ l_a l_b;have a0:=(HKA.out.up hbb3).cell 0 (v:=.int .i64 (Rn : Int)) rfl;have a1:=(HKA.out.up hbb3).cell 1 (v:=.int .i64 (Cn : Int)) rfl;have a2:=(HKA.out.up hbb3).cell 2 (v:=.slice A n c) rfl;have a3:=(HKA.out.up hbb3).cell 3 (v:=.int .i64 row) rfl;have a4:=(HKA.out.up hbb3).cell 4 (v:=.int .i64 col) rfl;have a5:=(HKA.out.up hbb3).cell 5 (v:=.bool hid) rfl;have c0_:=(HKB.out.up hbb3).cell 0 (v:=.int .i64 (Rn : Int)) rfl;have c1_:=(HKB.out.up hbb3).cell 1 (v:=.int .i64 (Cn : Int)) rfl;have c2_:=(HKB.out.up hbb3).cell 2 (v:=.slice A2 n2 c2) rfl;have c3_:=(HKB.out.up hbb3).cell 3 (v:=.int .i64 row2) rfl;have c4_:=(HKB.out.up hbb3).cell 4 (v:=.int .i64 col2) rfl;have c5_:=(HKB.out.up hbb3).cell 5 (v:=.bool hid2) rfl;have l_a:=lt_of_cell a0;have l_b:=lt_of_cell c0_))
  | fail)
 have hz3:=hbb3.size
 go_upto_region 6 with (fail)
 generalize hw4 : w3.alloc _ = w4
 obtain ⟨hk4,hb34,hz4⟩:=kb1 hw4
 obtain ⟨p,hp⟩ : ∃ p,p = w3.heap.size:=⟨_,rfl⟩
 rw [← hp] at hk4 ⊢
 have HP4:=Lib.hid (pb_new (B:=B) hk4 (by omega))
 have hbb4:=Bw.trans hbb3 hb34
 have HKA4:=Lib.hid (HKA.out.up hbb4)
 have HKB4:=Lib.hid (HKB.out.up hbb4)
 have HW4:=Lib.hid (Pw.bw (p:=p) (Bw.trans hb0b hbb4) hbz0)
 have hkap : ka ≠ p:=by omega
 have hkbp : kb ≠ p:=by omega
 have hbp : B ≤ p:=by omega
 clear hw4 hk4 hb34 hp HKA HKB hb0b hbb1 hbb2 hbb3 hbb4 a0 a1 a2 a3 a4 a5 c0_ c1_ c2_ c3_ c4_ c5_ l_a l_b
 have hka4:=lt_heap HKA4.out
 have hkb4:=lt_heap HKB4.out
 have b0:=HKB4.out.cell 0 (v:=.int .i64 (Rn : Int)) rfl
 go_wp2_with fail
 go_loopw [45] (fun i wr => ∃ k : Nat,i = .int .i64 k ∧ k ≤ Rn ∧ PB wr B p (difRows F G k).2 (difRows F G k).1 ∧ Pw B p w4 wr ∧ (difRows F G k).1.length ≤ k * 8052) (fun i _ => Rn - (intOf i).toNat)
 case atStart => exact ⟨0,rfl,by omega,HP4.out.up BWX,Pw.bw (show Bw w4 _ from BWX) (by omega),by simp [difRows]⟩
 case round =>
  obtain ⟨wz,hwz⟩ : ∃ wz : World,wz = wr:=⟨_,rfl⟩
  subst hwz
  obtain ⟨k,rfl,hk,hbz2,hpz,hlk⟩:=hrel
  have HPZ:=Lib.hid hbz2
  have HWZ:=Lib.hid hpz
  have HKAz:=Lib.hid (HKA4.out.pw hpz hkap (by decide))
  have HKBz:=Lib.hid (HKB4.out.pw hpz hkbp (by decide))
  have hltz:=hbz2.lt
  have hzz:=hpz.1.size
  have HXz:=Lib.hid (HX0.out wz (HW4.out.trans hpz).1)
  have HYz:=Lib.hid (HY0.out wz (HW4.out.trans hpz).1)
  have hkaz:=lt_heap HKAz.out
  have hkbz:=lt_heap HKBz.out
  have hk3 : k * 8052 ≤ 30 * 8052:=Nat.mul_le_mul_right _ (by omega)
  clear hbz2 hpz
  by_cases hlt : k < Rn
  ·have e0 : (0 : Int) ≤ k:=by omega
   have e1 : (k : Int) < Rn:=by omega
   have HFL:=Lib.hid (HFl.out k hlt)
   have HGL:=Lib.hid (HGl.out k hlt)
   have HY9:=Lib.hid (show ∀ w',Bw wz w' → (w'.cell? ⟨ka,0,none⟩ = some (.int .i64 (Rn : Int)) ∧ w'.cell? ⟨ka,1,none⟩ = some (.int .i64 (Cn : Int)) ∧ w'.cell? ⟨ka,2,none⟩ = some (.slice A n c) ∧ w'.cell? ⟨kb,0,none⟩ = some (.int .i64 (Rn : Int)) ∧ w'.cell? ⟨kb,1,none⟩ = some (.int .i64 (Cn : Int)) ∧ w'.cell? ⟨kb,2,none⟩ = some (.slice A2 n2 c2)) from fun w' hb => ⟨(HKAz.out.up hb).cell 0 rfl,(HKAz.out.up hb).cell 1 rfl,(HKAz.out.up hb).cell 2 rfl,(HKBz.out.up hb).cell 0 rfl,(HKBz.out.up hb).cell 1 rfl,(HKBz.out.up hb).cell 2 rfl⟩)
   go_upto_region 9 with (fail)
   refine wp_region_held_drew (S:=(fun w' => w'.cell? ⟨ka,0,none⟩ = some (.int .i64 (Rn : Int)) ∧ w'.cell? ⟨ka,1,none⟩ = some (.int .i64 (Cn : Int)) ∧ w'.cell? ⟨ka,2,none⟩ = some (.slice A n c) ∧ w'.cell? ⟨kb,0,none⟩ = some (.int .i64 (Rn : Int)) ∧ w'.cell? ⟨kb,1,none⟩ = some (.int .i64 (Cn : Int)) ∧ w'.cell? ⟨kb,2,none⟩ = some (.slice A2 n2 c2))) (by kernel_rfl) ?_ (fun hHeld => ?_)
   ·(try dsimp only);(first|(refine HY9.out _ ?_;(repeat (first|with_reducible (first|assumption|exact Bw.refl _|refine Bw.alloc ?_ _|refine Bw.more ?_ _ _|refine Bw.drew ?_|refine Bw.drewN ?_ _)|((with_reducible refine Bw.set2 ?_ ?_ _);(focus exact SZX))|with_reducible refine Bw.trans ?_ (by assumption)));done))
   refine tkQ 0 ?_
   refine tkQ 1 ?_
   refine tkQ 2 ?_
   (try simp only [Act.put,zP1,zP2,zP3,zP4,zP5,zP6])
   refine tkQ 4 ?_
   refine tkQ 5 ?_
   refine tkQ 6 ?_
   (try simp only [Act.put,zP1,zP2,zP3,zP4,zP5,zP6])
   refine arO 3 (fun K hK => ?_)
   go_simp
   refine (grow_own Rn Cn A n c cs k _ (HXz.out.up BWX) hn (by omega) hc).mono ?_;rintro ee w6 ⟨Ar,nr,cr,rfl,hnr,ho6,hb6⟩;rw [HFk.out k] at hnr ho6;have hb6z : Bw wz w6:=Bw.trans (show Bw wz _ from BWX) hb6;have HO6:=Lib.hid ho6;have HNR:=Lib.hid (hnr.trans HFL.out);clear hb6 hnr ho6;go_wp2_with fail
   refine hK.out _ _ ?_ (fun hHeld => ?_)
   ·(try dsimp only);(first|(refine HY9.out _ ?_;(repeat (first|with_reducible (first|assumption|exact Bw.refl _|refine Bw.alloc ?_ _|refine Bw.more ?_ _ _|refine Bw.drew ?_|refine Bw.drewN ?_ _)|((with_reducible refine Bw.set2 ?_ ?_ _);(focus exact SZX))|with_reducible refine Bw.trans ?_ (by assumption)));done))
   clear hK K
   (try simp only [Act.put,zP1,zP2,zP3,zP4,zP5,zP6])
   refine arO 7 (fun K hK => ?_)
   go_simp
   refine (grow_own Rn Cn A2 n2 c2 ds k _ (HYz.out.up (Bw.trans hb6z BWX)) hm (by omega) hd).mono ?_;rintro ee w7 ⟨Br,mr,er,rfl,hmr,ho7,hb7⟩;rw [HGk.out k] at hmr ho7;have hb7z : Bw wz w7:=Bw.trans hb6z (Bw.trans (show Bw w6 _ from BWX) hb7);have HO7:=Lib.hid ho7;have HO67:=Lib.hid (HO6.out.bw (Bw.trans (show Bw w6 _ from BWX) hb7));have HMR:=Lib.hid (hmr.trans HGL.out);clear hb7 hmr ho7;go_wp2_with fail
   refine hK.out _ _ ?_ (fun hHeld => ?_)
   ·(try dsimp only);(first|(refine HY9.out _ ?_;(repeat (first|with_reducible (first|assumption|exact Bw.refl _|refine Bw.alloc ?_ _|refine Bw.more ?_ _ _|refine Bw.drew ?_|refine Bw.drewN ?_ _)|((with_reducible refine Bw.set2 ?_ ?_ _);(focus exact SZX))|with_reducible refine Bw.trans ?_ (by assumption)));done))
   clear hK K
   (try simp only [Act.put,zP1,zP2,zP3,zP4,zP5,zP6])
   refine tkQ 8 ?_
   refine tkQ 9 ?_
   (try simp only [Act.put,zP1,zP2,zP3,zP4,zP5,zP6])
   refine wpAnyH_done (by kernel_rfl) ?_ _
   have hnr6:=HNR.out.symm
   have hmr6:=HMR.out.symm
   subst hnr6
   subst hmr6
   obtain ⟨A3',c3',e3',hc3,hcm3⟩:=own_form HO67.out
   cases e3'
   obtain ⟨A4',c4',e4',hc4,hcm4⟩:=own_form HO7.out
   cases e4'
   have HKA7:=Lib.hid (HKAz.out.up hb7z)
   have HKB7:=Lib.hid (HKBz.out.up hb7z)
   have HP7:=Lib.hid (HPZ.out.up hb7z)
   have HXS:=Lib.hid (Rg.of_own HO67.out)
   have HYS:=Lib.hid (Rg.of_own HO7.out)
   have HCX:=Lib.hid (own_celT HO67.out)
   have HCY:=Lib.hid (own_celT HO7.out)
   have HW7:=Lib.hid (HWZ.out.trans (Pw.bw (p:=p) hb7z (by omega : B ≤ wz.heap.size)))
   have hz7:=hb7z.size
   obtain ⟨xs,hxs⟩ : ∃ xs,F k = xs:=⟨_,rfl⟩
   obtain ⟨ys,hys⟩ : ∃ ys,G k = ys:=⟨_,rfl⟩
   obtain ⟨T,hT⟩ : ∃ T,difRows F G (k + 1) = T:=⟨_,rfl⟩
   obtain ⟨s0,hs0⟩ : ∃ s0,difRows F G k = s0:=⟨_,rfl⟩
   rw [hxs] at HXS HFL
   rw [hys] at HYS HGL
   rw [hs0] at HP7 hlk
   have HTT:=Lib.hid (show difR xs ys (k : Int) 0 s0 = T by rw [← hT,← hxs,← hys,← hs0];rfl)
   have HTE:=Lib.hid hT
   clear hxs hys hT hs0 hb6z hb7z HKAz HKBz HPZ HXz HYz HO6 HO7 HO67 HNR HMR
   go_wp2_with fail
   go_loopw [9] (fun v wr => ∃ (f : Nat) (s : List Int × A3),v = .int .i64 (f : Int) ∧ f ≤ Cn + 1 ∧ PB wr B p s.2 s.1 ∧ Pw B p w7 wr ∧ difR xs ys (k : Int) f s = T ∧ s.1.length ≤ k * 8052 + 132 * f) (fun v _ => Cn + 1 - (intOf v).toNat)
   case atStart => exact ⟨0,s0,rfl,by omega,HP7.out.up BWX,Pw.bw (show Bw w7 _ from BWX) (by have:=HP7.out.lt;omega),HTT.out,by omega⟩
   case round =>
    obtain ⟨wf,hwf⟩ : ∃ wf : World,wf = wr:=⟨_,rfl⟩
    subst hwf
    obtain ⟨f,s,rfl,hf,hbf,hpf,hdf,hlf⟩:=hrel
    have HPF:=Lib.hid hbf
    have HWF:=Lib.hid hpf
    have HDF:=Lib.hid hdf
    have HXf:=Lib.hid (HXS.out.same (HCX.out.same HP7.out hpf))
    have HYf:=Lib.hid (HYS.out.same (HCY.out.same HP7.out hpf))
    have HCXf:=Lib.hid (HCX.out.pw HP7.out hpf)
    have HCYf:=Lib.hid (HCY.out.pw HP7.out hpf)
    have hzf:=hpf.1.size
    have hltf:=hbf.lt
    clear hbf hpf hdf
    by_cases hlf2 : f < Cn
    ·have f0 : (0 : Int) ≤ f:=by omega
     have f1 : (f : Int) < Cn:=by omega
     obtain ⟨g1,o1,e1x,hx1⟩:=HXf.out.2 (by omega)
     obtain ⟨g2,o2,e2x,hx2⟩:=HYf.out.2 (by omega)
     subst e1x e2x
     have HX1:=Lib.hid hx1
     have HX2:=Lib.hid hx2
     clear hx1 hx2
     go_wp2_with fail
     go_loopw [10] (fun v wr => ∃ t : Nat,v = .int .i64 (t : Int) ∧ f ≤ t ∧ t ≤ Cn ∧ (∀ i,f ≤ i → i < t → ys[i]? ≠ xs[i]?) ∧ Bw wf wr) (fun v _ => Cn - (intOf v).toNat)
     case atStart => exact ⟨f,rfl,Nat.le_refl _,by omega,fun i h1 h2 => by omega,BWX⟩
     case round =>
      obtain ⟨wt,hwt⟩ : ∃ wt : World,wt = wr:=⟨_,rfl⟩
      subst hwt
      obtain ⟨t,rfl,hft,htc,hdt,hbt⟩:=hrel
      have HBT:=Lib.hid hbt
      have HDT:=Lib.hid hdt
      have hzt:=hbt.size
      have HPT:=Lib.hid (HPF.out.up hbt)
      have HYt:=Lib.hid (HYf.out.up hbt)
      have HCYt:=Lib.hid (HCYf.out.up hbt)
      clear hbt hdt
      have t0 : (0 : Int) ≤ t:=by omega
      have t2 : (f : Int) ≤ t:=by omega
      by_cases htl : t < Cn
      ·have t1 : (t : Int) < Cn:=by omega
       have t3 : (t : Int) ≤ er:=by omega
       have hlx:=HFL.out
       have hly:=HGL.out
       have hc1:=(HX1.out t (by omega)).up HBT.out
       have hc2':=(HX2.out t (by omega)).up HBT.out
       obtain ⟨⟨d1,d2,d3,d4⟩,hd1⟩ : ∃ d,d = xs[t]'(by omega):=⟨_,rfl⟩
       obtain ⟨⟨e1,e2,e3,e4⟩,hd2⟩ : ∃ d,d = ys[t]'(by omega):=⟨_,rfl⟩
       rw [← hd1] at hc1
       rw [← hd2] at hc2'
       have HGX:=Lib.hid (show xs[t]? = some (d1,d2,d3,d4) by rw [hd1,List.getElem?_eq_getElem (by omega)])
       have HGY:=Lib.hid (show ys[t]? = some (e1,e2,e3,e4) by rw [hd2,List.getElem?_eq_getElem (by omega)])
       have HC1:=Lib.hid hc1
       have HC2:=Lib.hid hc2'
       have hg1 : g1 < wt.heap.size:=lt_of_cell hc1.1
       have hg2 : g2 < wt.heap.size:=lt_of_cell hc2'.1
       have HY14:=Lib.hid (show ∀ w',Bw wt w' → (w'.cell? ⟨g1,o1 + t * 4,none⟩ = some (.int .i64 d1) ∧ w'.cell? ⟨g1,o1 + t * 4 + 1,none⟩ = some (.int .i64 d2) ∧ w'.cell? ⟨g1,o1 + t * 4 + 2,none⟩ = some (.int .i64 d3) ∧ w'.cell? ⟨g1,o1 + t * 4 + 3,none⟩ = some (.int .i64 d4) ∧ w'.cell? ⟨g2,o2 + t * 4,none⟩ = some (.int .i64 e1) ∧ w'.cell? ⟨g2,o2 + t * 4 + 1,none⟩ = some (.int .i64 e2) ∧ w'.cell? ⟨g2,o2 + t * 4 + 2,none⟩ = some (.int .i64 e3) ∧ w'.cell? ⟨g2,o2 + t * 4 + 3,none⟩ = some (.int .i64 e4)) from fun w' hb => ⟨cell_bw hb HC1.out.1,cell_bw hb HC1.out.2.1,cell_bw hb HC1.out.2.2.1,cell_bw hb HC1.out.2.2.2,cell_bw hb HC2.out.1,cell_bw hb HC2.out.2.1,cell_bw hb HC2.out.2.2.1,cell_bw hb HC2.out.2.2.2⟩)
       clear hc1 hc2' hd1 hd2 hlx hly
       by_cases heq : (e1,e2,e3,e4) = (d1,d2,d3,d4)
       ·have HEX:=Lib.hid (show t = Cn ∨ ys[t]? = xs[t]? from .inr (by rw [HGX.out,HGY.out,heq]))
        simp only [Prod.mk.injEq] at heq
        obtain ⟨rfl,rfl,rfl,rfl⟩:=heq
        have HRU:=Lib.hid (take_drop_run HFL.out HGL.out hft htc HDT.out HEX.out)
        by_cases hgt : f < t
        ·have t4 : (f : Int) < t:=by omega
         go_upto_region 14 with (fail)
         refine wp_region_held_drew (S:=(fun w' => w'.cell? ⟨g1,o1 + t * 4,none⟩ = some (.int .i64 e1) ∧ w'.cell? ⟨g1,o1 + t * 4 + 1,none⟩ = some (.int .i64 e2) ∧ w'.cell? ⟨g1,o1 + t * 4 + 2,none⟩ = some (.int .i64 e3) ∧ w'.cell? ⟨g1,o1 + t * 4 + 3,none⟩ = some (.int .i64 e4) ∧ w'.cell? ⟨g2,o2 + t * 4,none⟩ = some (.int .i64 e1) ∧ w'.cell? ⟨g2,o2 + t * 4 + 1,none⟩ = some (.int .i64 e2) ∧ w'.cell? ⟨g2,o2 + t * 4 + 2,none⟩ = some (.int .i64 e3) ∧ w'.cell? ⟨g2,o2 + t * 4 + 3,none⟩ = some (.int .i64 e4))) (by kernel_rfl) ?_ (fun hHeld => ?_)
         ·(try dsimp only);(refine HY14.out _ ?_;(repeat (first|with_reducible (first|assumption|exact Bw.refl _|refine Bw.alloc ?_ _|refine Bw.more ?_ _ _|refine Bw.drew ?_|refine Bw.drewN ?_ _)|((with_reducible refine Bw.set2 ?_ ?_ _);(focus exact SZX))|with_reducible refine Bw.trans ?_ (by assumption)));done)
         refine tkQ 0 ?_
         (try simp only [Act.put,zP1,zP2,zP3,zP4,zP5,zP6])
         refine tkQ 1 ?_
         refine tkQ 2 ?_
         refine tkQ 3 ?_
         (try simp only [Act.put,zP1,zP2,zP3,zP4,zP5,zP6])
         refine tkQ 4 ?_
         refine tkQ 5 ?_
         refine tkQ 6 ?_
         (try simp only [Act.put,zP1,zP2,zP3,zP4,zP5,zP6])
         refine tkQ 7 ?_
         refine tkQ 8 ?_
         refine tkQ 9 ?_
         (try simp only [Act.put,zP1,zP2,zP3,zP4,zP5,zP6])
         refine tkQ 10 ?_
         refine tkQ 11 ?_
         refine tkQ 12 ?_
         (try simp only [Act.put,zP1,zP2,zP3,zP4,zP5,zP6])
         refine wpAnyH_take (i:=13) (v:=.bool false) rfl (by kernel_rfl) (by kernel_rfl) (by kernel_rfl) (fun _ _ _ h => h) (Or.inl ⟨by rfl,?ht13⟩) (by assumption) ?_;case ht13 => (intro w hSw;(try dsimp only at hSw);go_simp;(try rfl))
         (try simp only [Act.put,zP1,zP2,zP3,zP4,zP5,zP6])
         refine tkQ 14 ?_
         (try simp only [Act.put,zP1,zP2,zP3,zP4,zP5,zP6])
         refine wpAnyH_done (by kernel_rfl) ?_ _
         go_wp2_with (first
          | (go_at_call 33;refine (ppaint_any k f (some ⟨g2,o2 + f * 4,none⟩) (t - f) (er - f) ((ys.drop f).take (t - f)) _ B p s.2 s.1 (HPT.out.up BWX) (PowT.on HT.out (HW4.out.trans (HW7.out.trans (HWF.out.trans (Pw.bw (p:=p) (Bw.trans HBT.out (show Bw wt _ from BWX)) (by omega : B ≤ wf.heap.size))))).1) ((HYt.out.sub f (t - f) (by omega)).up BWX) (celT_off (HCYt.out.up (show Bw wt _ from BWX))) (by omega) (by omega) (by omega) (by omega) (by omega) (by omega) (by omega) (by omega)).mono ?_;rintro ee w8 ⟨rfl,h8,p8⟩;have HP8:=Lib.hid h8;have HW8:=Lib.hid (HWF.out.trans ((Pw.bw (p:=p) (Bw.trans HBT.out (show Bw wt _ from BWX)) (by omega : B ≤ wf.heap.size)).trans p8));clear h8 p8)
          | fail)
         have hsz8:=HW8.out.1.size
         go_roundw
         case rel =>
          refine ⟨t + 1,(s.1 ++ (goesL k f ++ pntB s.2 ((ys.drop f).take (t - f))),pntA s.2 ((ys.drop f).take (t - f))),by go_num,by omega,?_,HW8.out.trans (Pw.bw (p:=p) (show Bw w8 _ from BWX) (by omega)),?_,?_⟩
          ·have h9:=HP8.out.up (show Bw w8 _ from BWX)
           simp only [List.append_assoc] at h9
           exact h9
          ·rw [← HDF.out,difR_step HRU.out (by omega),show f + (t - f) + 1 = t + 1 by omega]
          ·have h1:=goesL_len (k : Int) (f : Int) (by omega) (by omega)
           have h2:=pntB_len ((ys.drop f).take (t - f)) s.2
           have h3 : ((ys.drop f).take (t - f)).length ≤ t - f:=by rw [List.length_take];exact Nat.min_le_left _ _
           simp only [List.length_append]
           omega
         case measure => simp [intOf];omega
        ·obtain rfl : t = f:=by omega
         go_upto_region 14 with (fail)
         refine wp_region_held_drew (S:=(fun w' => w'.cell? ⟨g1,o1 + t * 4,none⟩ = some (.int .i64 e1) ∧ w'.cell? ⟨g1,o1 + t * 4 + 1,none⟩ = some (.int .i64 e2) ∧ w'.cell? ⟨g1,o1 + t * 4 + 2,none⟩ = some (.int .i64 e3) ∧ w'.cell? ⟨g1,o1 + t * 4 + 3,none⟩ = some (.int .i64 e4) ∧ w'.cell? ⟨g2,o2 + t * 4,none⟩ = some (.int .i64 e1) ∧ w'.cell? ⟨g2,o2 + t * 4 + 1,none⟩ = some (.int .i64 e2) ∧ w'.cell? ⟨g2,o2 + t * 4 + 2,none⟩ = some (.int .i64 e3) ∧ w'.cell? ⟨g2,o2 + t * 4 + 3,none⟩ = some (.int .i64 e4))) (by kernel_rfl) ?_ (fun hHeld => ?_)
         ·(try dsimp only);(refine HY14.out _ ?_;(repeat (first|with_reducible (first|assumption|exact Bw.refl _|refine Bw.alloc ?_ _|refine Bw.more ?_ _ _|refine Bw.drew ?_|refine Bw.drewN ?_ _)|((with_reducible refine Bw.set2 ?_ ?_ _);(focus exact SZX))|with_reducible refine Bw.trans ?_ (by assumption)));done)
         refine tkQ 0 ?_
         refine tkQ 1 ?_
         (try simp only [Act.put,zP1,zP2,zP3,zP4,zP5,zP6])
         refine tkQ 2 ?_
         refine tkQ 3 ?_
         refine tkQ 4 ?_
         (try simp only [Act.put,zP1,zP2,zP3,zP4,zP5,zP6])
         refine tkQ 5 ?_
         refine tkQ 6 ?_
         refine tkQ 7 ?_
         (try simp only [Act.put,zP1,zP2,zP3,zP4,zP5,zP6])
         refine tkQ 8 ?_
         refine tkQ 9 ?_
         refine tkQ 10 ?_
         (try simp only [Act.put,zP1,zP2,zP3,zP4,zP5,zP6])
         refine tkQ 11 ?_
         refine tkQ 12 ?_
         (try simp only [Act.put,zP1,zP2,zP3,zP4,zP5,zP6])
         refine wpAnyH_take (i:=13) (v:=.bool false) rfl (by kernel_rfl) (by kernel_rfl) (by kernel_rfl) (fun _ _ _ h => h) (Or.inl ⟨by rfl,?ht13⟩) (by assumption) ?_;case ht13 => (intro w hSw;(try dsimp only at hSw);go_simp;(try rfl))
         (try simp only [Act.put,zP1,zP2,zP3,zP4,zP5,zP6])
         refine tkQ 14 ?_
         (try simp only [Act.put,zP1,zP2,zP3,zP4,zP5,zP6])
         refine wpAnyH_done (by kernel_rfl) ?_ _
         go_wp2_with fail
         go_roundw
         case rel => exact ⟨t + 1,s,by go_num,by omega,HPT.out.up BWX,HWF.out.trans (Pw.bw (p:=p) (Bw.trans HBT.out (show Bw wt _ from BWX)) (by omega : B ≤ wf.heap.size)),by rw [← HDF.out];exact (difR_zero (by have h:=HRU.out;rw [Nat.sub_self] at h;exact h)).symm,by omega⟩
         case measure => simp [intOf];omega
       ·have HNE:=Lib.hid (show ¬ (e1 = d1 ∧ e2 = d2 ∧ e3 = d3 ∧ e4 = d4) from fun h => heq (by obtain ⟨rfl,rfl,rfl,rfl⟩:=h;rfl))
        have HNQ:=Lib.hid (show ys[t]? ≠ xs[t]? from fun h => heq (by rw [HGX.out,HGY.out] at h;exact Option.some.inj h))
        clear heq
        go_upto_region 14 with (fail)
        refine wp_region_held_drew (S:=(fun w' => w'.cell? ⟨g1,o1 + t * 4,none⟩ = some (.int .i64 d1) ∧ w'.cell? ⟨g1,o1 + t * 4 + 1,none⟩ = some (.int .i64 d2) ∧ w'.cell? ⟨g1,o1 + t * 4 + 2,none⟩ = some (.int .i64 d3) ∧ w'.cell? ⟨g1,o1 + t * 4 + 3,none⟩ = some (.int .i64 d4) ∧ w'.cell? ⟨g2,o2 + t * 4,none⟩ = some (.int .i64 e1) ∧ w'.cell? ⟨g2,o2 + t * 4 + 1,none⟩ = some (.int .i64 e2) ∧ w'.cell? ⟨g2,o2 + t * 4 + 2,none⟩ = some (.int .i64 e3) ∧ w'.cell? ⟨g2,o2 + t * 4 + 3,none⟩ = some (.int .i64 e4))) (by kernel_rfl) ?_ (fun hHeld => ?_)
        ·(try dsimp only);(refine HY14.out _ ?_;(repeat (first|with_reducible (first|assumption|exact Bw.refl _|refine Bw.alloc ?_ _|refine Bw.more ?_ _ _|refine Bw.drew ?_|refine Bw.drewN ?_ _)|((with_reducible refine Bw.set2 ?_ ?_ _);(focus exact SZX))|with_reducible refine Bw.trans ?_ (by assumption)));done)
        refine tkQ 0 ?_
        refine tkQ 1 ?_
        refine tkQ 2 ?_
        (try simp only [Act.put,zP1,zP2,zP3,zP4,zP5,zP6])
        refine tkQ 3 ?_
        refine tkQ 4 ?_
        refine tkQ 5 ?_
        (try simp only [Act.put,zP1,zP2,zP3,zP4,zP5,zP6])
        refine tkQ 6 ?_
        refine tkQ 7 ?_
        refine tkQ 8 ?_
        (try simp only [Act.put,zP1,zP2,zP3,zP4,zP5,zP6])
        refine tkQ 9 ?_
        refine tkQ 10 ?_
        refine tkQ 11 ?_
        (try simp only [Act.put,zP1,zP2,zP3,zP4,zP5,zP6])
        refine tkQ 12 ?_
        (try simp only [Act.put,zP1,zP2,zP3,zP4,zP5,zP6])
        refine wpAnyH_take (i:=13) (v:=.bool true) rfl (by kernel_rfl) (by kernel_rfl) (by kernel_rfl) (fun _ _ _ h => h) (Or.inl ⟨by rfl,?ht13⟩) (by assumption) ?_;case ht13 => (intro w hSw;(try dsimp only at hSw);go_simp;(first|(exact fun a b c d => HNE.out ⟨a,b,c,d⟩)|(have hne:=HNE.out;(repeat' split) <;> first|rfl|(exfalso;omega))))
        (try simp only [Act.put,zP1,zP2,zP3,zP4,zP5,zP6])
        refine tkQ 14 ?_
        (try simp only [Act.put,zP1,zP2,zP3,zP4,zP5,zP6])
        refine wpAnyH_done (by kernel_rfl) ?_ _
        go_wp2_with fail
        go_roundw
        case rel => exact ⟨t + 1,by go_num,by omega,by omega,fun i h1 h2 => (by rcases (show i < t ∨ i = t by omega) with h3|rfl;(focus exact HDT.out i h1 h3);exact HNQ.out),Bw.trans HBT.out BWX⟩
        case measure => simp [intOf];omega
      ·obtain rfl : t = Cn:=by omega
       have HRU:=Lib.hid (take_drop_run HFL.out HGL.out hft htc HDT.out (.inl rfl))
       have t4 : (f : Int) < t:=by omega
       have t3 : (t : Int) ≤ er:=by omega
       have hgt : f < t:=hlf2
       have HY14:=Lib.hid (show ∀ w',Bw wt w' → True from fun w' hb => trivial)
       go_upto_region 14 with (fail)
       refine wp_region_held_drew (S:=(fun w' => True)) (by kernel_rfl) ?_ (fun hHeld => ?_)
       ·(try dsimp only);(try trivial)
       refine tkQ 0 ?_
       (try simp only [Act.put,zP1,zP2,zP3,zP4,zP5,zP6])
       refine tkQ 1 ?_
       refine tkQ 2 ?_
       refine tkQ 3 ?_
       (try simp only [Act.put,zP1,zP2,zP3,zP4,zP5,zP6])
       refine tkQ 4 ?_
       (try simp only [Act.put,zP1,zP2,zP3,zP4,zP5,zP6])
       refine wpAnyH_take (i:=5) (v:=undef) rfl (by kernel_rfl) (by kernel_rfl) (by kernel_rfl) (fun _ _ _ h => h) (Or.inr ⟨by rfl,rfl⟩) (by assumption) ?_
       (try simp only [Act.put,zP1,zP2,zP3,zP4,zP5,zP6])
       refine wpAnyH_take (i:=6) (v:=undef) rfl (by kernel_rfl) (by kernel_rfl) (by kernel_rfl) (fun _ _ _ h => h) (Or.inr ⟨by rfl,rfl⟩) (by assumption) ?_
       (try simp only [Act.put,zP1,zP2,zP3,zP4,zP5,zP6])
       refine wpAnyH_take (i:=7) (v:=undef) rfl (by kernel_rfl) (by kernel_rfl) (by kernel_rfl) (fun _ _ _ h => h) (Or.inr ⟨by rfl,rfl⟩) (by assumption) ?_
       (try simp only [Act.put,zP1,zP2,zP3,zP4,zP5,zP6])
       refine wpAnyH_take (i:=8) (v:=undef) rfl (by kernel_rfl) (by kernel_rfl) (by kernel_rfl) (fun _ _ _ h => h) (Or.inr ⟨by rfl,rfl⟩) (by assumption) ?_
       (try simp only [Act.put,zP1,zP2,zP3,zP4,zP5,zP6])
       refine wpAnyH_take (i:=9) (v:=undef) rfl (by kernel_rfl) (by kernel_rfl) (by kernel_rfl) (fun _ _ _ h => h) (Or.inr ⟨by rfl,rfl⟩) (by assumption) ?_
       (try simp only [Act.put,zP1,zP2,zP3,zP4,zP5,zP6])
       refine wpAnyH_take (i:=10) (v:=undef) rfl (by kernel_rfl) (by kernel_rfl) (by kernel_rfl) (fun _ _ _ h => h) (Or.inr ⟨by rfl,rfl⟩) (by assumption) ?_
       (try simp only [Act.put,zP1,zP2,zP3,zP4,zP5,zP6])
       refine wpAnyH_take (i:=11) (v:=undef) rfl (by kernel_rfl) (by kernel_rfl) (by kernel_rfl) (fun _ _ _ h => h) (Or.inr ⟨by rfl,rfl⟩) (by assumption) ?_
       (try simp only [Act.put,zP1,zP2,zP3,zP4,zP5,zP6])
       refine wpAnyH_take (i:=12) (v:=undef) rfl (by kernel_rfl) (by kernel_rfl) (by kernel_rfl) (fun _ _ _ h => h) (Or.inr ⟨by rfl,rfl⟩) (by assumption) ?_
       (try simp only [Act.put,zP1,zP2,zP3,zP4,zP5,zP6])
       refine wpAnyH_take (i:=13) (v:=undef) rfl (by kernel_rfl) (by kernel_rfl) (by kernel_rfl) (fun _ _ _ h => h) (Or.inr ⟨by rfl,rfl⟩) (by assumption) ?_
       (try simp only [Act.put,zP1,zP2,zP3,zP4,zP5,zP6])
       refine tkQ 14 ?_
       (try simp only [Act.put,zP1,zP2,zP3,zP4,zP5,zP6])
       refine wpAnyH_done (by kernel_rfl) ?_ _
       go_wp2_with (first
        | (go_at_call 33;refine (ppaint_any k f (some ⟨g2,o2 + f * 4,none⟩) (t - f) (er - f) ((ys.drop f).take (t - f)) _ B p s.2 s.1 (HPT.out.up BWX) (PowT.on HT.out (HW4.out.trans (HW7.out.trans (HWF.out.trans (Pw.bw (p:=p) (Bw.trans HBT.out (show Bw wt _ from BWX)) (by omega : B ≤ wf.heap.size))))).1) ((HYt.out.sub f (t - f) (by omega)).up BWX) (celT_off (HCYt.out.up (show Bw wt _ from BWX))) (by omega) (by omega) (by omega) (by omega) (by omega) (by omega) (by omega) (by omega)).mono ?_;rintro ee w8 ⟨rfl,h8,p8⟩;have HP8:=Lib.hid h8;have HW8:=Lib.hid (HWF.out.trans ((Pw.bw (p:=p) (Bw.trans HBT.out (show Bw wt _ from BWX)) (by omega : B ≤ wf.heap.size)).trans p8));clear h8 p8)
        | fail)
       have hsz8:=HW8.out.1.size
       go_roundw
       case rel =>
        refine ⟨t + 1,(s.1 ++ (goesL k f ++ pntB s.2 ((ys.drop f).take (t - f))),pntA s.2 ((ys.drop f).take (t - f))),by go_num,by omega,?_,HW8.out.trans (Pw.bw (p:=p) (show Bw w8 _ from BWX) (by omega)),?_,?_⟩
        ·have h9:=HP8.out.up (show Bw w8 _ from BWX)
         simp only [List.append_assoc] at h9
         exact h9
        ·rw [← HDF.out,difR_step HRU.out (by omega),show f + (t - f) + 1 = t + 1 by omega]
        ·have h1:=goesL_len (k : Int) (f : Int) (by omega) (by omega)
         have h2:=pntB_len ((ys.drop f).take (t - f)) s.2
         have h3 : ((ys.drop f).take (t - f)).length ≤ t - f:=by rw [List.length_take];exact Nat.min_le_left _ _
         simp only [List.length_append]
         omega
       case measure => simp [intOf];omega
    ·have f1 : ¬ (f : Int) < Cn:=by omega
     have HTF:=Lib.hid (show s = T by have h:=HDF.out;rw [difR_end (by rw [HGL.out];omega)] at h;exact h)
     go_wp2_with fail
     go_roundw
     case rel => exact ⟨k + 1,by go_num,by omega,by rw [HTE.out,← HTF.out];exact HPF.out.up BWX,HW7.out.trans (HWF.out.trans (Pw.bw (p:=p) (show Bw wf _ from BWX) (by omega : B ≤ wf.heap.size))),by rw [HTE.out,← HTF.out];omega⟩
     case measure => simp [intOf];omega
  ·obtain rfl : k = Rn:=by omega
   obtain ⟨bs,hbs⟩ : ∃ bs,(difRows F G k).1 = bs:=⟨_,rfl⟩
   obtain ⟨⟨x1,x2,x3⟩,hx⟩ : ∃ x,(difRows F G k).2 = x:=⟨_,rfl⟩
   have hb2:=bts_len (x1,x2,x3) (0,0,0)
   have hgl:=goesL_len row2 col2 (by omega) (by omega)
   rw [hbs,hx] at HPZ HE
   rw [hbs] at hlk
   have HW0:=Lib.hid (HW4.out.trans HWZ.out)
   have y0:=HKBz.out.cell 0 (v:=.int .i64 (k : Int)) rfl
   have y1:=HKBz.out.cell 1 (v:=.int .i64 (Cn : Int)) rfl
   have y2:=HKBz.out.cell 2 (v:=.slice A2 n2 c2) rfl
   have y3:=HKBz.out.cell 3 (v:=.int .i64 row2) rfl
   have y4:=HKBz.out.cell 4 (v:=.int .i64 col2) rfl
   have y5:=HKBz.out.cell 5 (v:=.bool hid2) rfl
   clear hbs hx
   go_upto_region 21 with (first
    | (go_at_call 34;refine (pend_any k Cn A2 n2 c2 row2 col2 hid2 _ B p x1 x2 x3 bs (HPZ.out.up BWX) (PowT.on HT.out (HW0.out.trans (Pw.bw (p:=p) (show Bw wz _ from BWX) (by omega))).1) hrow0 (by omega) hcol0 (by omega) (by omega)).mono ?_;rintro ee w6 ⟨rfl,h6,p6⟩;have HP6:=Lib.hid h6;have HW6:=Lib.hid ((Pw.bw (p:=p) (show Bw wz _ from BWX) (by omega : B ≤ wz.heap.size)).trans p6);have HKA6:=Lib.hid (HKAz.out.pw HW6.out hkap (by decide));have HKB6:=Lib.hid (HKBz.out.pw HW6.out hkbp (by decide));have HW06:=Lib.hid (HW0.out.trans HW6.out);clear h6 p6 y0 y1 y2 y3 y4 y5)
    | fail)
   have y5:=HKA6.out.cell 5 (v:=.bool hid) rfl
   have z5:=HKB6.out.cell 5 (v:=.bool hid2) rfl
   have hka6:=lt_heap HKA6.out
   have hkb6:=lt_heap HKB6.out
   have hz6:=HW6.out.1.size
   have hlt6:=HP6.out.lt
   have hll : (bs ++ bts (x1,x2,x3) (0,0,0) ++ goesL row2 col2).length ≤ 500000:=by simp only [List.length_append];omega
   by_cases hhh : hid = hid2
   ·have HE2:=Lib.hid (show diffL (k : Int) (Cn : Int) cs row col hid (k : Int) (Cn : Int) ds row2 col2 hid2 = bs ++ bts (x1,x2,x3) (0,0,0) ++ goesL row2 col2 by rw [HE.out,if_pos hhh,List.append_nil])
    subst hhh
    cases hid
    all_goals
     go_wp2_with (first
      | (go_at_call 36;refine (pbytes_any _ B p (0,0,0) _ (HP6.out.up BWX) (by omega)).mono ?_;rintro ee w8 ⟨v,rfl,hv8,hb8⟩;have HV8:=Lib.hid hv8;have HW8:=Lib.hid (HW06.out.trans (Pw.bw (p:=p) (Bw.trans (show Bw w6 _ from BWX) hb8) (by omega)));clear hv8 hb8)
      | fail)
     go_ret
     exact ⟨_,rfl,by rw [HE2.out];exact HV8.out,HBel.out _ HW8.out.1⟩
   ·have HE2:=Lib.hid (show diffL (k : Int) (Cn : Int) cs row col hid (k : Int) (Cn : Int) ds row2 col2 hid2 = bs ++ bts (x1,x2,x3) (0,0,0) ++ goesL row2 col2 ++ hideL hid2 by rw [HE.out,if_neg hhh])
    have hhl : (hideL hid2).length = 6:=by cases hid2 <;> rfl
    cases hid <;> cases hid2 <;> first|(exact absurd rfl hhh)|skip
    all_goals
     clear hhh
     go_wp2_with (first
      | (go_at_call 35;refine (pcursor_any _ _ B p (0,0,0) _ (HP6.out.up BWX) (by omega)).mono ?_;rintro ee w7 ⟨rfl,h7,p7⟩;have HP7:=Lib.hid h7;have HW7:=Lib.hid (HW06.out.trans ((Pw.bw (p:=p) (show Bw w6 _ from BWX) (by omega : B ≤ w6.heap.size)).trans p7));have hz7:=p7.1.size;clear h7 p7)
      | (go_at_call 36;refine (pbytes_any _ B p (0,0,0) _ (HP7.out.up BWX) (by rw [List.length_append];omega)).mono ?_;rintro ee w8 ⟨v,rfl,hv8,hb8⟩;have HV8:=Lib.hid hv8;have HW8:=Lib.hid (HW7.out.trans (Pw.bw (p:=p) (Bw.trans (show Bw w7 _ from BWX) hb8) (by have:=HP7.out.lt;omega)));clear hv8 hb8)
      | fail)
     go_ret
     exact ⟨_,rfl,by rw [HE2.out];exact HV8.out,HBel.out _ HW8.out.1⟩
theorem pdiff_any (R C : Int) (A : Option Addr) (n c : Nat) (cs : List C4) (row col : Int) (hid : Bool) (R2 C2 : Int) (A2 : Option Addr) (n2 c2 : Nat) (ds : List C4) (row2 col2 : Int) (hid2 : Bool) (w0 : World) (hx : Rg w0 A n cs) (hn : n ≤ c) (hc : c ≤ 9223372036854775807) (hn6 : n ≤ 60) (hy : Rg w0 A2 n2 ds) (hm : n2 ≤ c2) (hd : c2 ≤ 9223372036854775807) (hm6 : n2 ≤ 60) (ht : PowT w0.heap.size w0) :
  Calls Tryz.prog 13 #[.agg #[.int .i64 R,.int .i64 C,.slice A n c,.int .i64 row,.int .i64 col,.bool hid],.agg #[.int .i64 R2,.int .i64 C2,.slice A2 n2 c2,.int .i64 row2,.int .i64 col2,.bool hid2]] w0 fun e w' => ∃ v,e = .returned v ∧ Sl (.int .u8) w' v (diffL R C cs row col hid R2 C2 ds row2 col2 hid2) ∧ Bw w0 w':=by
 by_cases hz : viewB R2 C2 ds row2 col2 = true ∧ sameV R C cs row col hid R2 C2 ds row2 col2 hid2 = false ∧ viewB R C cs row col = true ∧ R = R2 ∧ C = C2
 ·obtain ⟨h1,h2,h3,rfl,rfl⟩:=hz
  exact pdiff_main R C A n c cs row col hid A2 n2 c2 ds row2 col2 hid2 w0 hx hn hc hn6 hy hm hd hm6 ht h1 h2 h3
 ·exact pdiff_no R C A n c cs row col hid R2 C2 A2 n2 c2 ds row2 col2 hid2 w0 hx hn hc hn6 hy hm hd hm6 ht hz
end Go.Proofs.YteebdjmjeahccaaGreatDoor
