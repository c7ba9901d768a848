/- Parts of the proof, one after the other. -/
import Derived.Test.YteebdjmjeahccaaGreatDoorW44
import Derived.Test.YteebdjmjeahccaaGreatDoorW42
import Derived.Test.YteebdjmjeahccaaGreatDoorW40
import Derived.Test.YteebdjmjeahccaaGreatDoorW02
import Derived.Test.YteebdjmjeahccaaGreatDoorW37
set_option linter.unusedSimpArgs false
set_option linter.unusedVariables false
set_option maxRecDepth 100000
set_option maxHeartbeats 16000000
namespace Go.Proofs.YteebdjmjeahccaaGreatDoor
open Go.RowKit
theorem Rg.farK {w w' : World} {A : Option Addr} {n k : Nat} {cs : List C4} {C : Array Value} {T : TypeId} (h : Rg w A n cs) (hc : CelT w A) (hk : Kb w k C T) (hT : T ≠ 70) (hg : w.grownBy w' (some k)) : Rg w' A n cs ∧ CelT w' A:=by
 have hb : ∀ ad,A = some ad → w'.heap[ad.block]? = w.heap[ad.block]?:=fun ad e => by
  obtain ⟨cur,fr,h1⟩:=hc ad e
  exact hg.block _ (lt_heap h1) (fun e2 => hc.ne hk hT ad e (Option.some.inj e2))
 refine ⟨h.same hb,fun ad e => ?_⟩
 obtain ⟨cur,fr,h1⟩:=hc ad e
 exact ⟨cur,fr,(hb ad e).trans h1⟩
theorem rdiff_main (R C : Int) (A : Option Addr) (n c : Nat) (cs : List C4) (row col : Int) (hid : Bool) (A2 : Option Addr) (n2 c2 : Nat) (ds : List C4) (row2 col2 : Int) (hid2 : Bool) (w0 : World) (hx : Rg w0 A n cs) (hn : n ≤ c) (hc : c ≤ 9223372036854775807) (hn6 : n ≤ 60) (hy : Rg w0 A2 n2 ds) (hm : n2 ≤ c2) (hd : c2 ≤ 9223372036854775807) (hm6 : n2 ≤ 60)
  (hvb : viewB R C ds row2 col2 = true) (hs : sameV R C cs row col hid R C ds row2 col2 hid2 = false) (hva : viewB R C cs row col = true) :
  Calls Tryz.prog 14 #[.agg #[.int .i64 R,.int .i64 C,.slice A n c,.int .i64 row,.int .i64 col,.bool hid],.agg #[.int .i64 R,.int .i64 C,.slice A2 n2 c2,.int .i64 row2,.int .i64 col2,.bool hid2]] w0 fun e w' => ∃ v,e = .returned v ∧ Sl (.int .u8) w' v (diffL R C cs row col hid R C ds row2 col2 hid2) ∧ Bw w0 w':=by
 obtain ⟨i0,hi,iz0,iz1,iz2⟩:=info_parts infoB
 have HX:=Lib.hid hx
 have HY:=Lib.hid hy
 have HVb:=Lib.hid hvb
 have HVa:=Lib.hid hva
 have HS:=Lib.hid hs
 have hnl:=hx.1
 have hml:=hy.1
 obtain ⟨hR1,hR2,hC1,hC2,hlen,hrow0,hrow1,hcol0,hcol1⟩:=viewB_dim hvb
 obtain ⟨-,-,-,-,hlen1,-⟩:=viewB_dim hva
 have hC6:=viewB_small hvb (by omega)
 have hfF:=fun k hk => rowF_full hva k hk
 have hfG:=fun k hk => rowF_full hvb k hk
 obtain ⟨Rn,rfl⟩ : ∃ Rn : Nat,R = Rn:=⟨R.toNat,by omega⟩
 obtain ⟨Cn,rfl⟩ : ∃ Cn : Nat,C = Cn:=⟨C.toNat,by omega⟩
 obtain ⟨F,hF⟩ : ∃ F : Nat → List C4,(fun r : Nat => rowF (Rn : Int) (Cn : Int) cs r) = F:=⟨_,rfl⟩
 obtain ⟨G,hG⟩ : ∃ G : Nat → List C4,(fun r : Nat => rowF (Rn : Int) (Cn : Int) ds r) = G:=⟨_,rfl⟩
 have HE:=Lib.hid (show diffL Rn Cn cs row col hid Rn Cn ds row2 col2 hid2 = (difRows F G Rn).1 ++ bts (difRows F G Rn).2 (0,0,0) ++ goesL row2 col2 ++ (if hid = hid2 then [] else hideL hid2) by rw [diffL_main hvb hs hva,hF,hG,Int.toNat_natCast])
 have HFk:=Lib.hid (show ∀ k : Nat,rowF (Rn : Int) (Cn : Int) cs k = F k from fun k => by rw [← hF])
 have HGk:=Lib.hid (show ∀ k : Nat,rowF (Rn : Int) (Cn : Int) ds k = G k from fun k => by rw [← hG])
 have HFl:=Lib.hid (show ∀ k : Nat,k < Rn → (F k).length = Cn from fun k hk => by rw [← hF];have:=hfF k (by omega);rw [Int.toNat_natCast] at this;exact this)
 have HGl:=Lib.hid (show ∀ k : Nat,k < Rn → (G k).length = Cn from fun k hk => by rw [← hG];have:=hfG k (by omega);rw [Int.toNat_natCast] at this;exact this)
 have hRC:=Int.mul_le_mul hR1 hC1 (by omega) (by omega)
 have hn0 : 0 < n:=by rw [← hlen1] at hRC;omega
 have hm0 : 0 < n2:=by rw [← hlen] at hRC;omega
 have HA:=Lib.hid (hx.ltW hn0)
 have HA2:=Lib.hid (hy.ltW hm0)
 clear hx hy hvb hva hs hF hG hfF hfG hlen hlen1 hRC hnl hml
 go_enter Tryz.func14,Tryz.ntmps14
 go_upto_region 1 with (fail)
 generalize hwa : w0.alloc _ = wa
 obtain ⟨hka,hba,hza⟩:=kb1 hwa
 generalize hwb : wa.alloc _ = wb
 obtain ⟨hkb,hbb,hzb⟩:=kb1 hwb
 obtain ⟨ka,hka2⟩ : ∃ ka,ka = w0.heap.size:=⟨_,rfl⟩
 obtain ⟨kb,hkb2⟩ : ∃ kb,kb = w0.heap.size + 1:=⟨_,rfl⟩
 rw [hza] at hkb
 rw [← hkb2] at hkb ⊢
 rw [← hka2] at hka ⊢
 obtain ⟨B,hB⟩ : ∃ B,B = w0.heap.size:=⟨_,rfl⟩
 have HB0:=Lib.hid hB
 have HX0:=Lib.hid (show ∀ w',Below B w0 w' → Rg w' A n cs from fun w' hb => HX.out.same (fun ad e => hb.block _ (by rw [hB];exact HA.out ad e)))
 have HY0:=Lib.hid (show ∀ w',Below B w0 w' → Rg w' A2 n2 ds from fun w' hb => HY.out.same (fun ad e => hb.block _ (by rw [hB];exact HA2.out ad e)))
 have HBel:=Lib.hid (show ∀ w',Below B w0 w' → Bw w0 w' from fun w' hb => by rw [hB] at hb;exact hb)
 have hbz0 : B ≤ w0.heap.size:=by omega
 have hbka : B ≤ ka:=by omega
 have hbkb : B ≤ kb:=by omega
 have HKA:=Lib.hid (hka.up hbb)
 have HKB:=Lib.hid hkb
 have hb0b:=Bw.trans hba hbb
 have hzwb : B ≤ wb.heap.size:=by omega
 have hka3 : ka < wb.heap.size:=by omega
 have hkb3 : kb < wb.heap.size:=by omega
 clear hwa hwb hka hkb hba hbb hza hzb hka2 hkb2 hB
 have a0:=HKA.out.cell 0 (v:=.int .i64 (Rn : Int)) rfl
 have a1:=HKA.out.cell 1 (v:=.int .i64 (Cn : Int)) rfl
 have a2:=HKA.out.cell 2 (v:=.slice A n c) rfl
 have a3:=HKA.out.cell 3 (v:=.int .i64 row) rfl
 have a4:=HKA.out.cell 4 (v:=.int .i64 col) rfl
 have a5:=HKA.out.cell 5 (v:=.bool hid) rfl
 have c0_:=HKB.out.cell 0 (v:=.int .i64 (Rn : Int)) rfl
 have c1_:=HKB.out.cell 1 (v:=.int .i64 (Cn : Int)) rfl
 have c2_:=HKB.out.cell 2 (v:=.slice A2 n2 c2) rfl
 have c3_:=HKB.out.cell 3 (v:=.int .i64 row2) rfl
 have c4_:=HKB.out.cell 4 (v:=.int .i64 col2) rfl
 have c5_:=HKB.out.cell 5 (v:=.bool hid2) rfl
 have l_a:=lt_of_cell a0
 have l_b:=lt_of_cell c0_
 go_upto_region 3 with (first
  | (go_at_call 16;((with_reducible refine (rview_any Rn Cn A2 n2 c2 ds row2 col2 hid2 _ ?_ hm hd).mono ?_);(focus exact (HY.out.up (Bw.trans hb0b BWX)));rintro ee w1 ⟨rfl,hb1⟩;rw [HVb.out];have hbb1 : Bw wb w1:=Bw.trans (show Bw wb _ from BWX) hb1;clear hb1 a0 a1 a2 a3 a4 a5 c0_ c1_ c2_ c3_ c4_ c5_ l_a l_b;have a0:=(HKA.out.up hbb1).cell 0 (v:=.int .i64 (Rn : Int)) rfl;have a1:=(HKA.out.up hbb1).cell 1 (v:=.int .i64 (Cn : Int)) rfl;have a2:=(HKA.out.up hbb1).cell 2 (v:=.slice A n c) rfl;have a3:=(HKA.out.up hbb1).cell 3 (v:=.int .i64 row) rfl;have a4:=(HKA.out.up hbb1).cell 4 (v:=.int .i64 col) rfl;have a5:=(HKA.out.up hbb1).cell 5 (v:=.bool hid) rfl;have c0_:=(HKB.out.up hbb1).cell 0 (v:=.int .i64 (Rn : Int)) rfl;have c1_:=(HKB.out.up hbb1).cell 1 (v:=.int .i64 (Cn : Int)) rfl;have c2_:=(HKB.out.up hbb1).cell 2 (v:=.slice A2 n2 c2) rfl;have c3_:=(HKB.out.up hbb1).cell 3 (v:=.int .i64 row2) rfl;have c4_:=(HKB.out.up hbb1).cell 4 (v:=.int .i64 col2) rfl;have c5_:=(HKB.out.up hbb1).cell 5 (v:=.bool hid2) rfl;have l_a:=lt_of_cell a0;have l_b:=lt_of_cell c0_))
  | (go_at_call 18;(refine (rsameW_any Rn Cn A n c cs row col hid Rn Cn A2 n2 c2 ds row2 col2 hid2 _ (HX.out.up (Bw.trans hb0b (Bw.trans hbb1 BWX))) hn hc (HY.out.up (Bw.trans hb0b (Bw.trans hbb1 BWX))) hm hd).mono ?_;rintro ee w2 ⟨rfl,hb2⟩;rw [HS.out];have hbb2 : Bw wb w2:=Bw.trans hbb1 (Bw.trans (show Bw w1 _ from BWX) hb2);clear hb2 a0 a1 a2 a3 a4 a5 c0_ c1_ c2_ c3_ c4_ c5_ l_a l_b;have a0:=(HKA.out.up hbb2).cell 0 (v:=.int .i64 (Rn : Int)) rfl;have a1:=(HKA.out.up hbb2).cell 1 (v:=.int .i64 (Cn : Int)) rfl;have a2:=(HKA.out.up hbb2).cell 2 (v:=.slice A n c) rfl;have a3:=(HKA.out.up hbb2).cell 3 (v:=.int .i64 row) rfl;have a4:=(HKA.out.up hbb2).cell 4 (v:=.int .i64 col) rfl;have a5:=(HKA.out.up hbb2).cell 5 (v:=.bool hid) rfl;have c0_:=(HKB.out.up hbb2).cell 0 (v:=.int .i64 (Rn : Int)) rfl;have c1_:=(HKB.out.up hbb2).cell 1 (v:=.int .i64 (Cn : Int)) rfl;have c2_:=(HKB.out.up hbb2).cell 2 (v:=.slice A2 n2 c2) rfl;have c3_:=(HKB.out.up hbb2).cell 3 (v:=.int .i64 row2) rfl;have c4_:=(HKB.out.up hbb2).cell 4 (v:=.int .i64 col2) rfl;have c5_:=(HKB.out.up hbb2).cell 5 (v:=.bool hid2) rfl;have l_a:=lt_of_cell a0;have l_b:=lt_of_cell c0_))
  | fail)
 have hz2:=hbb2.size
 go_upto_region 6 with (first
  | (go_at_call 16;(refine (rview_any Rn Cn A n c cs row col hid _ (HX.out.up (Bw.trans hb0b (Bw.trans hbb2 BWX))) hn hc).mono ?_;rintro ee w3 ⟨rfl,hb3⟩;rw [HVa.out];have hbb3 : Bw wb w3:=Bw.trans hbb2 (Bw.trans (show Bw w2 _ from BWX) hb3);clear hb3 a0 a1 a2 a3 a4 a5 c0_ c1_ c2_ c3_ c4_ c5_ l_a l_b;have a0:=(HKA.out.up hbb3).cell 0 (v:=.int .i64 (Rn : Int)) rfl;have a1:=(HKA.out.up hbb3).cell 1 (v:=.int .i64 (Cn : Int)) rfl;have a2:=(HKA.out.up hbb3).cell 2 (v:=.slice A n c) rfl;have a3:=(HKA.out.up hbb3).cell 3 (v:=.int .i64 row) rfl;have a4:=(HKA.out.up hbb3).cell 4 (v:=.int .i64 col) rfl;have a5:=(HKA.out.up hbb3).cell 5 (v:=.bool hid) rfl;have c0_:=(HKB.out.up hbb3).cell 0 (v:=.int .i64 (Rn : Int)) rfl;have c1_:=(HKB.out.up hbb3).cell 1 (v:=.int .i64 (Cn : Int)) rfl;have c2_:=(HKB.out.up hbb3).cell 2 (v:=.slice A2 n2 c2) rfl;have c3_:=(HKB.out.up hbb3).cell 3 (v:=.int .i64 row2) rfl;have c4_:=(HKB.out.up hbb3).cell 4 (v:=.int .i64 col2) rfl;have c5_:=(HKB.out.up hbb3).cell 5 (v:=.bool hid2) rfl;have l_a:=lt_of_cell a0;have l_b:=lt_of_cell c0_))
  | fail)
 have hz3:=hbb3.size
 go_upto_region 7 with (fail)
 generalize hw4 : w3.alloc _ = w4
 obtain ⟨hk4,hb34,hz4⟩:=kb1 hw4
 obtain ⟨kt,hkt⟩ : ∃ kt,kt = w3.heap.size:=⟨_,rfl⟩
 rw [← hkt] at hk4 ⊢
 have HKT4:=Lib.hid hk4
 have hbb4:=Bw.trans hbb3 hb34
 have HKA4:=Lib.hid (HKA.out.up hbb4)
 have HKB4:=Lib.hid (HKB.out.up hbb4)
 have HW4:=Lib.hid (Bw.trans hb0b hbb4)
 have hkat : ka ≠ kt:=by omega
 have hkbt : kb ≠ kt:=by omega
 have hbt : w0.heap.size ≤ kt:=by have:=HB0.out;omega
 clear hw4 hk4 hb34 hkt HKA HKB hb0b hbb1 hbb2 hbb3 hbb4 a0 a1 a2 a3 a4 a5 c0_ c1_ c2_ c3_ c4_ c5_ l_a l_b
 have hka4:=lt_heap HKA4.out
 have hkb4:=lt_heap HKB4.out
 have b0:=HKB4.out.cell 0 (v:=.int .i64 (Rn : Int)) rfl
 go_wp2_with fail
 go_loopw [5,7] (fun v i wr => ∃ (k : Nat) (D : Option Addr) (N cD : Nat),v = .slice D N cD ∧ i = .int .i64 (k : Int) ∧ k ≤ Rn ∧ N = (difRows F G k).1.length ∧ wr.ownsRow w0.heap.size 5 1 (.slice D N cD) N ((difRows F G k).1.map (.int .u8)) ∧ Kb wr kt #[.int .i64 (difRows F G k).2.1,.int .i64 (difRows F G k).2.2.1,.int .i64 (difRows F G k).2.2.2] 42 ∧ Kb wr ka #[.int .i64 (Rn : Int),.int .i64 (Cn : Int),.slice A n c,.int .i64 row,.int .i64 col,.bool hid] 27 ∧ Kb wr kb #[.int .i64 (Rn : Int),.int .i64 (Cn : Int),.slice A2 n2 c2,.int .i64 row2,.int .i64 col2,.bool hid2] 27 ∧ Bw w0 wr ∧ (difRows F G k).1.length ≤ k * 8052) (fun _ i _ => Rn - (intOf i).toNat)
 case atStart => exact ⟨0,none,0,0,rfl,rfl,by omega,rfl,⟨rfl,.inl ⟨rfl,rfl⟩⟩,HKT4.out.up BWX,HKA4.out.up BWX,HKB4.out.up BWX,Bw.trans HW4.out BWX,by simp [difRows]⟩
 case round =>
  obtain ⟨wz,hwz⟩ : ∃ wz : World,wz = wr:=⟨_,rfl⟩
  subst hwz
  obtain ⟨k,D,N,cD,rfl,rfl,hk,hN,hown,hktz,hkaz,hkbz,hbz,hlk⟩:=hrel
  have HOz:=Lib.hid hown
  have HKTz:=Lib.hid hktz
  have HKAz:=Lib.hid hkaz
  have HKBz:=Lib.hid hkbz
  have HBz:=Lib.hid hbz
  have hzz:=hbz.size
  have hltz:=lt_heap hktz
  have hlaz:=lt_heap hkaz
  have hlbz:=lt_heap hkbz
  have HXz:=Lib.hid (HX.out.up hbz)
  have HYz:=Lib.hid (HY.out.up hbz)
  have HNz:=Lib.hid hN
  have hk3 : k * 8052 ≤ 30 * 8052:=Nat.mul_le_mul_right _ (by omega)
  clear hown hktz hkaz hkbz hbz hN
  have y0:=HKBz.out.cell 0 (v:=.int .i64 (Rn : Int)) rfl
  by_cases hlt : k < Rn
  ·have e0 : (0 : Int) ≤ k:=by omega
   have e1 : (k : Int) < Rn:=by omega
   have HFL:=Lib.hid (HFl.out k hlt)
   have HGL:=Lib.hid (HGl.out k hlt)
   have HY9:=Lib.hid (show ∀ w',Bw wz w' → (w'.cell? ⟨ka,0,none⟩ = some (.int .i64 (Rn : Int)) ∧ w'.cell? ⟨ka,1,none⟩ = some (.int .i64 (Cn : Int)) ∧ w'.cell? ⟨ka,2,none⟩ = some (.slice A n c) ∧ w'.cell? ⟨kb,0,none⟩ = some (.int .i64 (Rn : Int)) ∧ w'.cell? ⟨kb,1,none⟩ = some (.int .i64 (Cn : Int)) ∧ w'.cell? ⟨kb,2,none⟩ = some (.slice A2 n2 c2)) from fun w' hb => ⟨(HKAz.out.up hb).cell 0 rfl,(HKAz.out.up hb).cell 1 rfl,(HKAz.out.up hb).cell 2 rfl,(HKBz.out.up hb).cell 0 rfl,(HKBz.out.up hb).cell 1 rfl,(HKBz.out.up hb).cell 2 rfl⟩)
   go_upto_region 10 with (fail)
   clear y0
   refine wp_region_held_drew (S:=(fun w' => w'.cell? ⟨ka,0,none⟩ = some (.int .i64 (Rn : Int)) ∧ w'.cell? ⟨ka,1,none⟩ = some (.int .i64 (Cn : Int)) ∧ w'.cell? ⟨ka,2,none⟩ = some (.slice A n c) ∧ w'.cell? ⟨kb,0,none⟩ = some (.int .i64 (Rn : Int)) ∧ w'.cell? ⟨kb,1,none⟩ = some (.int .i64 (Cn : Int)) ∧ w'.cell? ⟨kb,2,none⟩ = some (.slice A2 n2 c2))) (by kernel_rfl) ?_ (fun hHeld => ?_)
   ·(try dsimp only);(first|(refine HY9.out _ ?_;(repeat (first|with_reducible (first|assumption|exact Bw.refl _|refine Bw.alloc ?_ _|refine Bw.more ?_ _ _|refine Bw.drew ?_|refine Bw.drewN ?_ _)|((with_reducible refine Bw.set2 ?_ ?_ _);(focus exact SZX))|with_reducible refine Bw.trans ?_ (by assumption)));done))
   refine tkQ 0 ?_
   refine tkQ 1 ?_
   refine tkQ 2 ?_
   (try simp only [Act.put,zP1,zP2,zP3,zP4,zP5,zP6])
   refine tkQ 4 ?_
   refine tkQ 5 ?_
   refine tkQ 6 ?_
   (try simp only [Act.put,zP1,zP2,zP3,zP4,zP5,zP6])
   refine arO 3 (fun K hK => ?_)
   go_simp
   refine (rrow_own Rn Cn A n c cs k _ (HXz.out.up BWX) hn (by omega) hc).mono ?_;rintro ee w6 ⟨Ar,nr,cr,rfl,hnr,ho6,hb6⟩;rw [HFk.out k] at hnr ho6;have hb6z : Bw wz w6:=Bw.trans (show Bw wz _ from BWX) hb6;have HO6:=Lib.hid ho6;have HNR:=Lib.hid (hnr.trans HFL.out);clear hb6 hnr ho6;go_wp2_with fail
   refine hK.out _ _ ?_ (fun hHeld => ?_)
   ·(try dsimp only);(first|(refine HY9.out _ ?_;(repeat (first|with_reducible (first|assumption|exact Bw.refl _|refine Bw.alloc ?_ _|refine Bw.more ?_ _ _|refine Bw.drew ?_|refine Bw.drewN ?_ _)|((with_reducible refine Bw.set2 ?_ ?_ _);(focus exact SZX))|with_reducible refine Bw.trans ?_ (by assumption)));done))
   clear hK K
   (try simp only [Act.put,zP1,zP2,zP3,zP4,zP5,zP6])
   refine arO 7 (fun K hK => ?_)
   go_simp
   refine (rrow_own Rn Cn A2 n2 c2 ds k _ (HYz.out.up (Bw.trans hb6z BWX)) hm (by omega) hd).mono ?_;rintro ee w7 ⟨Br,mr,er,rfl,hmr,ho7,hb7⟩;rw [HGk.out k] at hmr ho7;have hb7z : Bw wz w7:=Bw.trans hb6z (Bw.trans (show Bw w6 _ from BWX) hb7);have HO7:=Lib.hid ho7;have HO67:=Lib.hid (HO6.out.bw (Bw.trans (show Bw w6 _ from BWX) hb7));have HMR:=Lib.hid (hmr.trans HGL.out);clear hb7 hmr ho7;go_wp2_with fail
   refine hK.out _ _ ?_ (fun hHeld => ?_)
   ·(try dsimp only);(first|(refine HY9.out _ ?_;(repeat (first|with_reducible (first|assumption|exact Bw.refl _|refine Bw.alloc ?_ _|refine Bw.more ?_ _ _|refine Bw.drew ?_|refine Bw.drewN ?_ _)|((with_reducible refine Bw.set2 ?_ ?_ _);(focus exact SZX))|with_reducible refine Bw.trans ?_ (by assumption)));done))
   clear hK K
   (try simp only [Act.put,zP1,zP2,zP3,zP4,zP5,zP6])
   refine tkQ 8 ?_
   refine tkQ 9 ?_
   (try simp only [Act.put,zP1,zP2,zP3,zP4,zP5,zP6])
   refine wpAnyH_done (by kernel_rfl) ?_ _
   have hnr6:=HNR.out.symm
   have hmr6:=HMR.out.symm
   subst hnr6
   subst hmr6
   obtain ⟨A3',c3',e3',hc3,hcm3⟩:=own_form HO67.out
   cases e3'
   obtain ⟨A4',c4',e4',hc4,hcm4⟩:=own_form HO7.out
   cases e4'
   have HKA7:=Lib.hid (HKAz.out.up hb7z)
   have HKB7:=Lib.hid (HKBz.out.up hb7z)
   have HKT7:=Lib.hid (HKTz.out.up hb7z)
   have HD7:=Lib.hid (HOz.out.bw hb7z)
   have HXS:=Lib.hid (Rg.of_own HO67.out)
   have HYS:=Lib.hid (Rg.of_own HO7.out)
   have HCX:=Lib.hid (own_celT HO67.out)
   have HCY:=Lib.hid (own_celT HO7.out)
   have HB7:=Lib.hid (Bw.trans HBz.out hb7z)
   have hz7:=hb7z.size
   obtain ⟨xs,hxs⟩ : ∃ xs,F k = xs:=⟨_,rfl⟩
   obtain ⟨ys,hys⟩ : ∃ ys,G k = ys:=⟨_,rfl⟩
   obtain ⟨T,hT⟩ : ∃ T,difRows F G (k + 1) = T:=⟨_,rfl⟩
   obtain ⟨s0,hs0⟩ : ∃ s0,difRows F G k = s0:=⟨_,rfl⟩
   rw [hxs] at HXS HFL
   rw [hys] at HYS HGL
   rw [hs0] at HD7 HKT7 HNz hlk
   have HTT:=Lib.hid (show difR xs ys (k : Int) 0 s0 = T by rw [← hT,← hxs,← hys,← hs0];rfl)
   have HTE:=Lib.hid hT
   have HYG:=Lib.hid hys
   clear hxs hys hT hs0 hb6z hb7z HKAz HKBz HKTz HOz HXz HYz HO6 HO7 HO67 HNR HMR
   go_wp2_with fail
   go_loopw [5,10] (fun v i wr => ∃ (f : Nat) (s : List Int × A3) (D : Option Addr) (N cD : Nat),v = .slice D N cD ∧ i = .int .i64 (f : Int) ∧ f ≤ Cn + 1 ∧ N = s.1.length ∧ wr.ownsRow w0.heap.size 5 1 (.slice D N cD) N (s.1.map (.int .u8)) ∧ Kb wr kt #[.int .i64 s.2.1,.int .i64 s.2.2.1,.int .i64 s.2.2.2] 42 ∧ Kb wr ka #[.int .i64 (Rn : Int),.int .i64 (Cn : Int),.slice A n c,.int .i64 row,.int .i64 col,.bool hid] 27 ∧ Kb wr kb #[.int .i64 (Rn : Int),.int .i64 (Cn : Int),.slice A2 n2 c2,.int .i64 row2,.int .i64 col2,.bool hid2] 27 ∧ (Rg wr Ar Cn xs ∧ CelT wr Ar) ∧ (Rg wr Br Cn ys ∧ CelT wr Br) ∧ Bw w0 wr ∧ difR xs ys (k : Int) f s = T ∧ s.1.length ≤ k * 8052 + 132 * f) (fun _ i _ => Cn + 1 - (intOf i).toNat)
   case atStart => exact ⟨0,s0,D,N,cD,rfl,rfl,by omega,HNz.out,HD7.out.bw BWX,HKT7.out.up BWX,HKA7.out.up BWX,HKB7.out.up BWX,⟨HXS.out.up BWX,HCX.out.up BWX⟩,⟨HYS.out.up BWX,HCY.out.up BWX⟩,Bw.trans HB7.out BWX,HTT.out,by omega⟩
   case round =>
    obtain ⟨wf,hwf⟩ : ∃ wf : World,wf = wr:=⟨_,rfl⟩
    subst hwf
    obtain ⟨f,⟨bs,a1,a2,a3⟩,E,M,cE,rfl,rfl,hf,hM,hown,hktf,hkaf,hkbf,⟨hxf,hcxf⟩,⟨hyf,hcyf⟩,hbf,hdf,hlf⟩:=hrel
    (try dsimp only at hM)
    (try dsimp only at hown)
    (try dsimp only at hktf)
    (try dsimp only at hlf)
    subst hM
    have HOf:=Lib.hid hown
    have HKTf:=Lib.hid hktf
    have HKAf:=Lib.hid hkaf
    have HKBf:=Lib.hid hkbf
    have HXf:=Lib.hid hxf
    have HCXf:=Lib.hid hcxf
    have HYf:=Lib.hid hyf
    have HCYf:=Lib.hid hcyf
    have HBF:=Lib.hid hbf
    have HDF:=Lib.hid hdf
    have hzf:=hbf.size
    have hltf:=lt_heap hktf
    have hlaf:=lt_heap hkaf
    have hlbf:=lt_heap hkbf
    clear hown hktf hkaf hkbf hxf hcxf hyf hcyf hbf hdf
    by_cases hlf2 : f < Cn
    ·have f0 : (0 : Int) ≤ f:=by omega
     have f1 : (f : Int) < Cn:=by omega
     obtain ⟨g1,o1,e1x,hx1⟩:=HXf.out.2 (by omega)
     obtain ⟨g2,o2,e2x,hx2⟩:=HYf.out.2 (by omega)
     subst e1x e2x
     have HX1:=Lib.hid hx1
     have HX2:=Lib.hid hx2
     clear hx1 hx2
     go_wp2_with fail
     go_loopw [11] (fun v wr => ∃ t : Nat,v = .int .i64 (t : Int) ∧ f ≤ t ∧ t ≤ Cn ∧ (∀ i,f ≤ i → i < t → ys[i]? ≠ xs[i]?) ∧ Bw wf wr) (fun v _ => Cn - (intOf v).toNat)
     case atStart => exact ⟨f,rfl,Nat.le_refl _,by omega,fun i h1 h2 => by omega,BWX⟩
     case round =>
      obtain ⟨wt,hwt⟩ : ∃ wt : World,wt = wr:=⟨_,rfl⟩
      subst hwt
      obtain ⟨t,rfl,hft,htc,hdt,hbq⟩:=hrel
      have HBT:=Lib.hid hbq
      have HDT:=Lib.hid hdt
      have hzt:=hbq.size
      have HXt:=Lib.hid (HXf.out.up hbq)
      have HCXt:=Lib.hid (HCXf.out.up hbq)
      have HYt:=Lib.hid (HYf.out.up hbq)
      have HCYt:=Lib.hid (HCYf.out.up hbq)
      have HKTt:=Lib.hid (HKTf.out.up hbq)
      have HKAt:=Lib.hid (HKAf.out.up hbq)
      have HKBt:=Lib.hid (HKBf.out.up hbq)
      have hltt:=lt_heap HKTt.out
      have hlat:=lt_heap HKAt.out
      have hlbt:=lt_heap HKBt.out
      clear hbq hdt
      have t0 : (0 : Int) ≤ t:=by omega
      have t2 : (f : Int) ≤ t:=by omega
      by_cases htl : t < Cn
      ·have t1 : (t : Int) < Cn:=by omega
       have hlx:=HFL.out
       have hly:=HGL.out
       have hc1:=(HX1.out t (by omega)).up HBT.out
       have hc2':=(HX2.out t (by omega)).up HBT.out
       obtain ⟨⟨d1,d2,d3,d4⟩,hd1⟩ : ∃ d,d = xs[t]'(by omega):=⟨_,rfl⟩
       obtain ⟨⟨e1,e2,e3,e4⟩,hd2⟩ : ∃ d,d = ys[t]'(by omega):=⟨_,rfl⟩
       rw [← hd1] at hc1
       rw [← hd2] at hc2'
       have HGX:=Lib.hid (show xs[t]? = some (d1,d2,d3,d4) by rw [hd1,List.getElem?_eq_getElem (by omega)])
       have HGY:=Lib.hid (show ys[t]? = some (e1,e2,e3,e4) by rw [hd2,List.getElem?_eq_getElem (by omega)])
       have HC1:=Lib.hid hc1
       have HC2:=Lib.hid hc2'
       have hg1 : g1 < wt.heap.size:=lt_of_cell hc1.1
       have hg2 : g2 < wt.heap.size:=lt_of_cell hc2'.1
       have HY14:=Lib.hid (show ∀ w',Bw wt w' → (w'.cell? ⟨g1,o1 + t * 4,none⟩ = some (.int .i64 d1) ∧ w'.cell? ⟨g1,o1 + t * 4 + 1,none⟩ = some (.int .i64 d2) ∧ w'.cell? ⟨g1,o1 + t * 4 + 2,none⟩ = some (.int .i64 d3) ∧ w'.cell? ⟨g1,o1 + t * 4 + 3,none⟩ = some (.int .i64 d4) ∧ w'.cell? ⟨g2,o2 + t * 4,none⟩ = some (.int .i64 e1) ∧ w'.cell? ⟨g2,o2 + t * 4 + 1,none⟩ = some (.int .i64 e2) ∧ w'.cell? ⟨g2,o2 + t * 4 + 2,none⟩ = some (.int .i64 e3) ∧ w'.cell? ⟨g2,o2 + t * 4 + 3,none⟩ = some (.int .i64 e4)) from fun w' hb => ⟨cell_bw hb HC1.out.1,cell_bw hb HC1.out.2.1,cell_bw hb HC1.out.2.2.1,cell_bw hb HC1.out.2.2.2,cell_bw hb HC2.out.1,cell_bw hb HC2.out.2.1,cell_bw hb HC2.out.2.2.1,cell_bw hb HC2.out.2.2.2⟩)
       clear hc1 hc2' hd1 hd2 hlx hly
       by_cases heq : (e1,e2,e3,e4) = (d1,d2,d3,d4)
       ·have HEX:=Lib.hid (show t = Cn ∨ ys[t]? = xs[t]? from .inr (by rw [HGX.out,HGY.out,heq]))
        simp only [Prod.mk.injEq] at heq
        obtain ⟨rfl,rfl,rfl,rfl⟩:=heq
        have HRU:=Lib.hid (take_drop_run HFL.out HGL.out hft htc HDT.out HEX.out)
        by_cases hgt : f < t
        ·have t4 : (f : Int) < t:=by omega
         go_upto_region 15 with (fail)
         refine wp_region_held_drew (S:=(fun w' => w'.cell? ⟨g1,o1 + t * 4,none⟩ = some (.int .i64 e1) ∧ w'.cell? ⟨g1,o1 + t * 4 + 1,none⟩ = some (.int .i64 e2) ∧ w'.cell? ⟨g1,o1 + t * 4 + 2,none⟩ = some (.int .i64 e3) ∧ w'.cell? ⟨g1,o1 + t * 4 + 3,none⟩ = some (.int .i64 e4) ∧ w'.cell? ⟨g2,o2 + t * 4,none⟩ = some (.int .i64 e1) ∧ w'.cell? ⟨g2,o2 + t * 4 + 1,none⟩ = some (.int .i64 e2) ∧ w'.cell? ⟨g2,o2 + t * 4 + 2,none⟩ = some (.int .i64 e3) ∧ w'.cell? ⟨g2,o2 + t * 4 + 3,none⟩ = some (.int .i64 e4))) (by kernel_rfl) ?_ (fun hHeld => ?_)
         ·(try dsimp only);(refine HY14.out _ ?_;(repeat (first|with_reducible (first|assumption|exact Bw.refl _|refine Bw.alloc ?_ _|refine Bw.more ?_ _ _|refine Bw.drew ?_|refine Bw.drewN ?_ _)|((with_reducible refine Bw.set2 ?_ ?_ _);(focus exact SZX))|with_reducible refine Bw.trans ?_ (by assumption)));done)
         refine tkQ 0 ?_
         (try simp only [Act.put,zP1,zP2,zP3,zP4,zP5,zP6])
         refine tkQ 1 ?_
         refine tkQ 2 ?_
         refine tkQ 3 ?_
         (try simp only [Act.put,zP1,zP2,zP3,zP4,zP5,zP6])
         refine tkQ 4 ?_
         refine tkQ 5 ?_
         refine tkQ 6 ?_
         (try simp only [Act.put,zP1,zP2,zP3,zP4,zP5,zP6])
         refine tkQ 7 ?_
         refine tkQ 8 ?_
         refine tkQ 9 ?_
         (try simp only [Act.put,zP1,zP2,zP3,zP4,zP5,zP6])
         refine tkQ 10 ?_
         refine tkQ 11 ?_
         refine tkQ 12 ?_
         (try simp only [Act.put,zP1,zP2,zP3,zP4,zP5,zP6])
         refine wpAnyH_take (i:=13) (v:=.bool false) rfl (by kernel_rfl) (by kernel_rfl) (by kernel_rfl) (fun _ _ _ h => h) (Or.inl ⟨by rfl,?ht13⟩) (by assumption) ?_;case ht13 => (intro w hSw;(try dsimp only at hSw);go_simp;(try rfl))
         (try simp only [Act.put,zP1,zP2,zP3,zP4,zP5,zP6])
         refine tkQ 14 ?_
         (try simp only [Act.put,zP1,zP2,zP3,zP4,zP5,zP6])
         refine wpAnyH_done (by kernel_rfl) ?_ _
         have y0:=HKBt.out.cell 0 (v:=.int .i64 (Rn : Int)) rfl
         have y1:=HKBt.out.cell 1 (v:=.int .i64 (Cn : Int)) rfl
         have y2:=HKBt.out.cell 2 (v:=.slice A2 n2 c2) rfl
         have z0:=HKTt.out.cell 0 (v:=.int .i64 a1) rfl
         have z1:=HKTt.out.cell 1 (v:=.int .i64 a2) rfl
         have z2:=HKTt.out.cell 2 (v:=.int .i64 a3) rfl
         have HSEG:=Lib.hid (show (((rowF (Rn : Int) (Cn : Int) ds (k : Nat)).drop f).take (t - f)) = ((ys.drop f).take (t - f)) by rw [HGk.out,HYG.out])
         have HNRL:=Lib.hid (show t ≤ (rowF (Rn : Int) (Cn : Int) ds (k : Nat)).length by rw [HGk.out,HYG.out,HGL.out];exact htc)
         go_upto_region 19 with (first
          | (go_at_call 38;refine (rpaint_any Rn Cn A2 n2 c2 ds k f t a1 a2 a3 _ (HY.out.up (Bw.trans HBF.out (Bw.trans HBT.out (show Bw wt _ from BWX)))) hm hd (by omega) (by omega) hft HNRL.out (by omega)).mono ?_;rw [HSEG.out];rintro ee w8 ⟨u8',rfl,ho8,hb8⟩;have hb8y : Bw wt w8:=Bw.trans (show Bw wt _ from BWX) hb8;have HO8:=Lib.hid ho8;clear hb8 ho8;obtain ⟨⟨j1,j2,j3⟩,hn8⟩ : ∃ x,pntA (a1,a2,a3) ((ys.drop f).take (t - f)) = x:=⟨_,rfl⟩;rw [hn8];have HN8:=Lib.hid hn8;clear hn8)
          | fail)
         generalize hw9 : w8.alloc _ = w9
         obtain ⟨hk9,hb89,hz9⟩:=kb1 hw9
         obtain ⟨kn,hkn⟩ : ∃ kn,kn = w8.heap.size:=⟨_,rfl⟩
         rw [← hkn] at hk9 ⊢
         have hb9y:=Bw.trans hb8y hb89
         have HKN9:=Lib.hid hk9
         have HKT9:=Lib.hid (HKTt.out.up hb9y)
         have HKA9:=Lib.hid (HKAt.out.up hb9y)
         have HKB9:=Lib.hid (HKBt.out.up hb9y)
         have HX9:=Lib.hid (HXt.out.up hb9y)
         have HCX9:=Lib.hid (HCXt.out.up hb9y)
         have HYr9:=Lib.hid (HYt.out.up hb9y)
         have HCY9:=Lib.hid (HCYt.out.up hb9y)
         have HD9:=Lib.hid (HOf.out.bw (Bw.trans HBT.out hb9y))
         have HB9:=Lib.hid (Bw.trans HBF.out (Bw.trans HBT.out hb9y))
         have HO9:=Lib.hid (HO8.out.bw hb89)
         have hknt : kn ≠ kt:=by have:=hb8y.size;omega
         have hpl:=pntB_len ((ys.drop f).take (t - f)) (a1,a2,a3)
         have hgl:=goesL_len (k : Int) (f : Int) (by omega) (by omega)
         have htl2 : ((ys.drop f).take (t - f)).length ≤ t - f:=by rw [List.length_take];exact Nat.min_le_left _ _
         obtain ⟨sg,hsg⟩ : ∃ sg,goesL (k : Nat) (f : Nat) ++ pntB (a1,a2,a3) ((ys.drop f).take (t - f)) = sg:=⟨_,rfl⟩
         have hsl : sg.length ≤ 8 + 124 * (t - f):=by rw [← hsg,List.length_append];have:=Nat.mul_le_mul_left 124 htl2;omega
         rw [hsg] at HO9
         have HSG:=Lib.hid hsg
         obtain ⟨A8,c8,e8,hc8,hcm8⟩:=own_form HO9.out
         have hz9b:=HB9.out.size
         have hz8w : w0.heap.size ≤ w8.heap.size:=by have:=hb8y.size;have:=HBT.out.size;have:=HBF.out.size;omega
         clear hw9 hk9 hb89 hkn hb9y HKTt HKAt HKBt HXt HCXt HYt HCYt HO8 hb8y hsg y0 y1 y2 z0 z1 z2 hpl hgl htl2
         subst e8
         have hlen9:=lt_heap HKN9.out
         have HYK:=Lib.hid (show ∀ w',Bw w9 w' → (w'.cell? ⟨kn,0,none⟩ = some (.int .i64 j1) ∧ w'.cell? ⟨kn,1,none⟩ = some (.int .i64 j2) ∧ w'.cell? ⟨kn,2,none⟩ = some (.int .i64 j3)) from fun w' hb => ⟨(HKN9.out.up hb).cell 0 rfl,(HKN9.out.up hb).cell 1 rfl,(HKN9.out.up hb).cell 2 rfl⟩)
         refine wp_region_held_drew (S:=(fun w' => w'.cell? ⟨kn,0,none⟩ = some (.int .i64 j1) ∧ w'.cell? ⟨kn,1,none⟩ = some (.int .i64 j2) ∧ w'.cell? ⟨kn,2,none⟩ = some (.int .i64 j3))) (by kernel_rfl) ?_ (fun hHeld => ?_)
         ·(try dsimp only);(first|(refine HYK.out _ ?_;(repeat (first|with_reducible (first|assumption|exact Bw.refl _|refine Bw.alloc ?_ _|refine Bw.more ?_ _ _|refine Bw.drew ?_|refine Bw.drewN ?_ _)|((with_reducible refine Bw.set2 ?_ ?_ _);(focus exact SZX))|with_reducible refine Bw.trans ?_ (by assumption)));done)|(refine HY4.out _ ?_;(repeat (first|with_reducible (first|assumption|exact Bw.refl _|refine Bw.alloc ?_ _|refine Bw.more ?_ _ _|refine Bw.drew ?_|refine Bw.drewN ?_ _)|((with_reducible refine Bw.set2 ?_ ?_ _);(focus exact SZX))|with_reducible refine Bw.trans ?_ (by assumption)));done)|(refine HY5.out _ ?_;(repeat (first|with_reducible (first|assumption|exact Bw.refl _|refine Bw.alloc ?_ _|refine Bw.more ?_ _ _|refine Bw.drew ?_|refine Bw.drewN ?_ _)|((with_reducible refine Bw.set2 ?_ ?_ _);(focus exact SZX))|with_reducible refine Bw.trans ?_ (by assumption)));done))
         refine tkQ 0 ?_
         refine tkQ 1 ?_
         (try simp only [Act.put,zP1,zP2,zP3,zP4,zP5,zP6])
         refine tkQ 3 ?_
         (try simp only [Act.put,zP1,zP2,zP3,zP4,zP5,zP6])
         refine arO 2 (fun K hK => ?_)
         refine step_append_srcG (by rfl) (.tmp 97) (.tmp 98) 33 rfl w0.heap.size 5 i0 (.int .u8 0) 1 1 Tryz.underlying33 hi iz0 iz1 iz2 rfl (by decide) (.slice E bs.length cE) bs.length _ (by rfl) (HD9.out.bw (show Bw w9 w9.drew from BWX)) A8 sg.length c8 (sg.map (.int .u8)) (by rfl) (by simp) (fun e => ((own_rd HO9.out).none_ e).1) ((own_rd HO9.out).up (show Bw w9 w9.drew from BWX)).news2 (one_u8 _) (by unfold maxLen;omega) (by omega) (by have:=HB9.out.size;simp;omega) ?_;intro v4 w4 hown4 hg4;obtain ⟨D4,c4,rfl,hc4,hc4m⟩:=own_form hown4;have HO4:=Lib.hid hown4;have hO4p:=HD9.out.bw (show Bw w9 w9.drew from BWX);have HKN4:=Lib.hid (Kb.row (HKN9.out.up (show Bw w9 w9.drew from BWX)) hO4p hg4 (by decide));have HKT4:=Lib.hid (Kb.row (HKT9.out.up (show Bw w9 w9.drew from BWX)) hO4p hg4 (by decide));have HKA4:=Lib.hid (Kb.row (HKA9.out.up (show Bw w9 w9.drew from BWX)) hO4p hg4 (by decide));have HKB4:=Lib.hid (Kb.row (HKB9.out.up (show Bw w9 w9.drew from BWX)) hO4p hg4 (by decide));have HX4:=Lib.hid (Rg.row (HX9.out.up (show Bw w9 w9.drew from BWX)) (HCX9.out.up (show Bw w9 w9.drew from BWX)) hO4p hg4);have HYr4:=Lib.hid (Rg.row (HYr9.out.up (show Bw w9 w9.drew from BWX)) (HCY9.out.up (show Bw w9 w9.drew from BWX)) hO4p hg4);have HB4:=Lib.hid (show Bw w0 w4 from Bw.row (Bw.trans HB9.out (show Bw w9 w9.drew from BWX)) hO4p hg4 (Nat.le_refl _));have HY4:=Lib.hid (show ∀ w',Bw w4 w' → (w'.cell? ⟨kn,0,none⟩ = some (.int .i64 j1) ∧ w'.cell? ⟨kn,1,none⟩ = some (.int .i64 j2) ∧ w'.cell? ⟨kn,2,none⟩ = some (.int .i64 j3)) from fun w' hb => ⟨(HKN4.out.up hb).cell 0 rfl,(HKN4.out.up hb).cell 1 rfl,(HKN4.out.up hb).cell 2 rfl⟩);clear hown4 hg4 hO4p
         refine hK.out _ _ ?_ (fun hHeld => ?_)
         ·(try dsimp only);(first|(refine HYK.out _ ?_;(repeat (first|with_reducible (first|assumption|exact Bw.refl _|refine Bw.alloc ?_ _|refine Bw.more ?_ _ _|refine Bw.drew ?_|refine Bw.drewN ?_ _)|((with_reducible refine Bw.set2 ?_ ?_ _);(focus exact SZX))|with_reducible refine Bw.trans ?_ (by assumption)));done)|(refine HY4.out _ ?_;(repeat (first|with_reducible (first|assumption|exact Bw.refl _|refine Bw.alloc ?_ _|refine Bw.more ?_ _ _|refine Bw.drew ?_|refine Bw.drewN ?_ _)|((with_reducible refine Bw.set2 ?_ ?_ _);(focus exact SZX))|with_reducible refine Bw.trans ?_ (by assumption)));done)|(refine HY5.out _ ?_;(repeat (first|with_reducible (first|assumption|exact Bw.refl _|refine Bw.alloc ?_ _|refine Bw.more ?_ _ _|refine Bw.drew ?_|refine Bw.drewN ?_ _)|((with_reducible refine Bw.set2 ?_ ?_ _);(focus exact SZX))|with_reducible refine Bw.trans ?_ (by assumption)));done))
         clear hK K
         (try simp only [Act.put,zP1,zP2,zP3,zP4,zP5,zP6])
         refine arO 4 (fun K hK => ?_)
         go_simp
         refine hK.out _ _ ?_ (fun hHeld => ?_)
         ·(try dsimp only);(first|(refine HYK.out _ ?_;(repeat (first|with_reducible (first|assumption|exact Bw.refl _|refine Bw.alloc ?_ _|refine Bw.more ?_ _ _|refine Bw.drew ?_|refine Bw.drewN ?_ _)|((with_reducible refine Bw.set2 ?_ ?_ _);(focus exact SZX))|with_reducible refine Bw.trans ?_ (by assumption)));done)|(refine HY4.out _ ?_;(repeat (first|with_reducible (first|assumption|exact Bw.refl _|refine Bw.alloc ?_ _|refine Bw.more ?_ _ _|refine Bw.drew ?_|refine Bw.drewN ?_ _)|((with_reducible refine Bw.set2 ?_ ?_ _);(focus exact SZX))|with_reducible refine Bw.trans ?_ (by assumption)));done)|(refine HY5.out _ ?_;(repeat (first|with_reducible (first|assumption|exact Bw.refl _|refine Bw.alloc ?_ _|refine Bw.more ?_ _ _|refine Bw.drew ?_|refine Bw.drewN ?_ _)|((with_reducible refine Bw.set2 ?_ ?_ _);(focus exact SZX))|with_reducible refine Bw.trans ?_ (by assumption)));done))
         clear hK K
         (try simp only [Act.put,zP1,zP2,zP3,zP4,zP5,zP6])
         refine arO 5 (fun K hK => ?_)
         (refine (if_pos (by kernel_rfl)).mpr ?_);(with_reducible refine wp_store_kb 42 #[.int .i64 j1,.int .i64 j2,.int .i64 j3] kt (.tmp 6) (.tmp 100) (infoA3 _ _ _) (at3_one j1 j2 j3) ?ho ?_ ?_ ?_ ?_);(case ho => rfl);(focus rfl);(focus rfl);(focus (exact ⟨_,HKT4.out.up BWX,rfl⟩));intro w5 hk5 hg5;have HK5:=Lib.hid hk5;have HG5:=Lib.hid ((grown_bw (show Bw w4 _ from BWX) _).trans hg5);have HKN5:=Lib.hid (HKN4.out.far HG5.out hknt);have HY5:=Lib.hid (show ∀ w',Bw w5 w' → (w'.cell? ⟨kn,0,none⟩ = some (.int .i64 j1) ∧ w'.cell? ⟨kn,1,none⟩ = some (.int .i64 j2) ∧ w'.cell? ⟨kn,2,none⟩ = some (.int .i64 j3)) from fun w' hb => ⟨(HKN5.out.up hb).cell 0 rfl,(HKN5.out.up hb).cell 1 rfl,(HKN5.out.up hb).cell 2 rfl⟩);clear hk5 hg5
         refine hK.out _ _ ?_ (fun hHeld => ?_)
         ·(try dsimp only);(first|(refine HYK.out _ ?_;(repeat (first|with_reducible (first|assumption|exact Bw.refl _|refine Bw.alloc ?_ _|refine Bw.more ?_ _ _|refine Bw.drew ?_|refine Bw.drewN ?_ _)|((with_reducible refine Bw.set2 ?_ ?_ _);(focus exact SZX))|with_reducible refine Bw.trans ?_ (by assumption)));done)|(refine HY4.out _ ?_;(repeat (first|with_reducible (first|assumption|exact Bw.refl _|refine Bw.alloc ?_ _|refine Bw.more ?_ _ _|refine Bw.drew ?_|refine Bw.drewN ?_ _)|((with_reducible refine Bw.set2 ?_ ?_ _);(focus exact SZX))|with_reducible refine Bw.trans ?_ (by assumption)));done)|(refine HY5.out _ ?_;(repeat (first|with_reducible (first|assumption|exact Bw.refl _|refine Bw.alloc ?_ _|refine Bw.more ?_ _ _|refine Bw.drew ?_|refine Bw.drewN ?_ _)|((with_reducible refine Bw.set2 ?_ ?_ _);(focus exact SZX))|with_reducible refine Bw.trans ?_ (by assumption)));done))
         clear hK K
         (try simp only [Act.put,zP1,zP2,zP3,zP4,zP5,zP6])
         refine wpAnyH_done (by kernel_rfl) ?_ _
         go_wp2_with fail
         go_roundw
         case rel =>
          have e9 : difR xs ys (k : Int) (t + 1) (bs ++ sg,(j1,j2,j3)) = T:=by
           have h9:=HDF.out
           rw [difR_step HRU.out (by omega),show f + (t - f) + 1 = t + 1 by omega] at h9
           dsimp only at h9
           rw [HSG.out,HN8.out] at h9
           exact h9
          have h5x:=Rg.farK HX4.out.1 HX4.out.2 HKT4.out (by decide) HG5.out
          have h5y:=Rg.farK HYr4.out.1 HYr4.out.2 HKT4.out (by decide) HG5.out
          refine ⟨t + 1,(bs ++ sg,(j1,j2,j3)),D4,_,c4,rfl,by go_num,by omega,?_,?_,?_,?_,?_,?_,?_,?_,e9,?_⟩
          ·dsimp only;rw [List.length_append]
          ·dsimp only;rw [List.map_append]
           exact (own_farN HO4.out HG5.out HKT4.out.tyN (by decide)).bw BWX
          ·exact HK5.out.up BWX
          ·exact (HKA4.out.far HG5.out hkat).up BWX
          ·exact (HKB4.out.far HG5.out hkbt).up BWX
          ·exact ⟨h5x.1.up BWX,h5x.2.up BWX⟩
          ·exact ⟨h5y.1.up BWX,h5y.2.up BWX⟩
          ·exact Bw.trans (Bw.grown HB4.out HG5.out (fun j hj => by cases hj;omega)) BWX
          ·dsimp only;rw [List.length_append];omega
         case measure => simp [intOf];omega
        ·obtain rfl : t = f:=by omega
         go_upto_region 15 with (fail)
         refine wp_region_held_drew (S:=(fun w' => w'.cell? ⟨g1,o1 + t * 4,none⟩ = some (.int .i64 e1) ∧ w'.cell? ⟨g1,o1 + t * 4 + 1,none⟩ = some (.int .i64 e2) ∧ w'.cell? ⟨g1,o1 + t * 4 + 2,none⟩ = some (.int .i64 e3) ∧ w'.cell? ⟨g1,o1 + t * 4 + 3,none⟩ = some (.int .i64 e4) ∧ w'.cell? ⟨g2,o2 + t * 4,none⟩ = some (.int .i64 e1) ∧ w'.cell? ⟨g2,o2 + t * 4 + 1,none⟩ = some (.int .i64 e2) ∧ w'.cell? ⟨g2,o2 + t * 4 + 2,none⟩ = some (.int .i64 e3) ∧ w'.cell? ⟨g2,o2 + t * 4 + 3,none⟩ = some (.int .i64 e4))) (by kernel_rfl) ?_ (fun hHeld => ?_)
         ·(try dsimp only);(refine HY14.out _ ?_;(repeat (first|with_reducible (first|assumption|exact Bw.refl _|refine Bw.alloc ?_ _|refine Bw.more ?_ _ _|refine Bw.drew ?_|refine Bw.drewN ?_ _)|((with_reducible refine Bw.set2 ?_ ?_ _);(focus exact SZX))|with_reducible refine Bw.trans ?_ (by assumption)));done)
         refine tkQ 0 ?_
         refine tkQ 1 ?_
         (try simp only [Act.put,zP1,zP2,zP3,zP4,zP5,zP6])
         refine tkQ 2 ?_
         refine tkQ 3 ?_
         refine tkQ 4 ?_
         (try simp only [Act.put,zP1,zP2,zP3,zP4,zP5,zP6])
         refine tkQ 5 ?_
         refine tkQ 6 ?_
         refine tkQ 7 ?_
         (try simp only [Act.put,zP1,zP2,zP3,zP4,zP5,zP6])
         refine tkQ 8 ?_
         refine tkQ 9 ?_
         refine tkQ 10 ?_
         (try simp only [Act.put,zP1,zP2,zP3,zP4,zP5,zP6])
         refine tkQ 11 ?_
         refine tkQ 12 ?_
         (try simp only [Act.put,zP1,zP2,zP3,zP4,zP5,zP6])
         refine wpAnyH_take (i:=13) (v:=.bool false) rfl (by kernel_rfl) (by kernel_rfl) (by kernel_rfl) (fun _ _ _ h => h) (Or.inl ⟨by rfl,?ht13⟩) (by assumption) ?_;case ht13 => (intro w hSw;(try dsimp only at hSw);go_simp;(try rfl))
         (try simp only [Act.put,zP1,zP2,zP3,zP4,zP5,zP6])
         refine tkQ 14 ?_
         (try simp only [Act.put,zP1,zP2,zP3,zP4,zP5,zP6])
         refine wpAnyH_done (by kernel_rfl) ?_ _
         go_wp2_with fail
         go_roundw
         case rel => exact ⟨t + 1,(bs,(a1,a2,a3)),E,_,cE,rfl,by go_num,by omega,rfl,HOf.out.bw (Bw.trans HBT.out BWX),HKTt.out.up BWX,HKAt.out.up BWX,HKBt.out.up BWX,⟨HXt.out.up BWX,HCXt.out.up BWX⟩,⟨HYt.out.up BWX,HCYt.out.up BWX⟩,Bw.trans HBF.out (Bw.trans HBT.out BWX),by rw [← HDF.out];exact (difR_zero (by have h:=HRU.out;rw [Nat.sub_self] at h;exact h)).symm,by dsimp only;omega⟩
         case measure => simp [intOf];omega
       ·have HNE:=Lib.hid (show ¬ (d1 = e1 ∧ d2 = e2 ∧ d3 = e3 ∧ d4 = e4) from fun h => heq (by obtain ⟨rfl,rfl,rfl,rfl⟩:=h;rfl))
        have HNQ:=Lib.hid (show ys[t]? ≠ xs[t]? from fun h => heq (by rw [HGX.out,HGY.out] at h;exact Option.some.inj h))
        clear heq
        go_upto_region 15 with (fail)
        refine wp_region_held_drew (S:=(fun w' => w'.cell? ⟨g1,o1 + t * 4,none⟩ = some (.int .i64 d1) ∧ w'.cell? ⟨g1,o1 + t * 4 + 1,none⟩ = some (.int .i64 d2) ∧ w'.cell? ⟨g1,o1 + t * 4 + 2,none⟩ = some (.int .i64 d3) ∧ w'.cell? ⟨g1,o1 + t * 4 + 3,none⟩ = some (.int .i64 d4) ∧ w'.cell? ⟨g2,o2 + t * 4,none⟩ = some (.int .i64 e1) ∧ w'.cell? ⟨g2,o2 + t * 4 + 1,none⟩ = some (.int .i64 e2) ∧ w'.cell? ⟨g2,o2 + t * 4 + 2,none⟩ = some (.int .i64 e3) ∧ w'.cell? ⟨g2,o2 + t * 4 + 3,none⟩ = some (.int .i64 e4))) (by kernel_rfl) ?_ (fun hHeld => ?_)
        ·(try dsimp only);(refine HY14.out _ ?_;(repeat (first|with_reducible (first|assumption|exact Bw.refl _|refine Bw.alloc ?_ _|refine Bw.more ?_ _ _|refine Bw.drew ?_|refine Bw.drewN ?_ _)|((with_reducible refine Bw.set2 ?_ ?_ _);(focus exact SZX))|with_reducible refine Bw.trans ?_ (by assumption)));done)
        refine tkQ 0 ?_
        refine tkQ 1 ?_
        refine tkQ 2 ?_
        (try simp only [Act.put,zP1,zP2,zP3,zP4,zP5,zP6])
        refine tkQ 3 ?_
        refine tkQ 4 ?_
        refine tkQ 5 ?_
        (try simp only [Act.put,zP1,zP2,zP3,zP4,zP5,zP6])
        refine tkQ 6 ?_
        refine tkQ 7 ?_
        refine tkQ 8 ?_
        (try simp only [Act.put,zP1,zP2,zP3,zP4,zP5,zP6])
        refine tkQ 9 ?_
        refine tkQ 10 ?_
        refine tkQ 11 ?_
        (try simp only [Act.put,zP1,zP2,zP3,zP4,zP5,zP6])
        refine tkQ 12 ?_
        (try simp only [Act.put,zP1,zP2,zP3,zP4,zP5,zP6])
        refine wpAnyH_take (i:=13) (v:=.bool true) rfl (by kernel_rfl) (by kernel_rfl) (by kernel_rfl) (fun _ _ _ h => h) (Or.inl ⟨by rfl,?ht13⟩) (by assumption) ?_;case ht13 => (intro w hSw;(try dsimp only at hSw);go_simp;(first|(exact fun a b c d => HNE.out ⟨a,b,c,d⟩)|(have hne:=HNE.out;(repeat' split) <;> first|rfl|(exfalso;omega))))
        (try simp only [Act.put,zP1,zP2,zP3,zP4,zP5,zP6])
        refine tkQ 14 ?_
        (try simp only [Act.put,zP1,zP2,zP3,zP4,zP5,zP6])
        refine wpAnyH_done (by kernel_rfl) ?_ _
        go_wp2_with fail
        go_roundw
        case rel => exact ⟨t + 1,by go_num,by omega,by omega,fun i h1 h2 => (by rcases (show i < t ∨ i = t by omega) with h3|rfl;(focus exact HDT.out i h1 h3);exact HNQ.out),Bw.trans HBT.out BWX⟩
        case measure => simp [intOf];omega
      ·obtain rfl : t = Cn:=by omega
       have HRU:=Lib.hid (take_drop_run HFL.out HGL.out hft htc HDT.out (.inl rfl))
       have t4 : (f : Int) < t:=by omega
       have hgt : f < t:=hlf2
       have HY14:=Lib.hid (show ∀ w',Bw wt w' → True from fun w' hb => trivial)
       go_upto_region 15 with (fail)
       refine wp_region_held_drew (S:=(fun w' => True)) (by kernel_rfl) ?_ (fun hHeld => ?_)
       ·(try dsimp only);(try trivial)
       refine tkQ 0 ?_
       (try simp only [Act.put,zP1,zP2,zP3,zP4,zP5,zP6])
       refine tkQ 1 ?_
       refine tkQ 2 ?_
       refine tkQ 3 ?_
       (try simp only [Act.put,zP1,zP2,zP3,zP4,zP5,zP6])
       refine tkQ 4 ?_
       (try simp only [Act.put,zP1,zP2,zP3,zP4,zP5,zP6])
       refine wpAnyH_take (i:=5) (v:=undef) rfl (by kernel_rfl) (by kernel_rfl) (by kernel_rfl) (fun _ _ _ h => h) (Or.inr ⟨by rfl,rfl⟩) (by assumption) ?_
       (try simp only [Act.put,zP1,zP2,zP3,zP4,zP5,zP6])
       refine wpAnyH_take (i:=6) (v:=undef) rfl (by kernel_rfl) (by kernel_rfl) (by kernel_rfl) (fun _ _ _ h => h) (Or.inr ⟨by rfl,rfl⟩) (by assumption) ?_
       (try simp only [Act.put,zP1,zP2,zP3,zP4,zP5,zP6])
       refine wpAnyH_take (i:=7) (v:=undef) rfl (by kernel_rfl) (by kernel_rfl) (by kernel_rfl) (fun _ _ _ h => h) (Or.inr ⟨by rfl,rfl⟩) (by assumption) ?_
       (try simp only [Act.put,zP1,zP2,zP3,zP4,zP5,zP6])
       refine wpAnyH_take (i:=8) (v:=undef) rfl (by kernel_rfl) (by kernel_rfl) (by kernel_rfl) (fun _ _ _ h => h) (Or.inr ⟨by rfl,rfl⟩) (by assumption) ?_
       (try simp only [Act.put,zP1,zP2,zP3,zP4,zP5,zP6])
       refine wpAnyH_take (i:=9) (v:=undef) rfl (by kernel_rfl) (by kernel_rfl) (by kernel_rfl) (fun _ _ _ h => h) (Or.inr ⟨by rfl,rfl⟩) (by assumption) ?_
       (try simp only [Act.put,zP1,zP2,zP3,zP4,zP5,zP6])
       refine wpAnyH_take (i:=10) (v:=undef) rfl (by kernel_rfl) (by kernel_rfl) (by kernel_rfl) (fun _ _ _ h => h) (Or.inr ⟨by rfl,rfl⟩) (by assumption) ?_
       (try simp only [Act.put,zP1,zP2,zP3,zP4,zP5,zP6])
       refine wpAnyH_take (i:=11) (v:=undef) rfl (by kernel_rfl) (by kernel_rfl) (by kernel_rfl) (fun _ _ _ h => h) (Or.inr ⟨by rfl,rfl⟩) (by assumption) ?_
       (try simp only [Act.put,zP1,zP2,zP3,zP4,zP5,zP6])
       refine wpAnyH_take (i:=12) (v:=undef) rfl (by kernel_rfl) (by kernel_rfl) (by kernel_rfl) (fun _ _ _ h => h) (Or.inr ⟨by rfl,rfl⟩) (by assumption) ?_
       (try simp only [Act.put,zP1,zP2,zP3,zP4,zP5,zP6])
       refine wpAnyH_take (i:=13) (v:=undef) rfl (by kernel_rfl) (by kernel_rfl) (by kernel_rfl) (fun _ _ _ h => h) (Or.inr ⟨by rfl,rfl⟩) (by assumption) ?_
       (try simp only [Act.put,zP1,zP2,zP3,zP4,zP5,zP6])
       refine tkQ 14 ?_
       (try simp only [Act.put,zP1,zP2,zP3,zP4,zP5,zP6])
       refine wpAnyH_done (by kernel_rfl) ?_ _
       have y0:=HKBt.out.cell 0 (v:=.int .i64 (Rn : Int)) rfl
       have y1:=HKBt.out.cell 1 (v:=.int .i64 (t : Int)) rfl
       have y2:=HKBt.out.cell 2 (v:=.slice A2 n2 c2) rfl
       have z0:=HKTt.out.cell 0 (v:=.int .i64 a1) rfl
       have z1:=HKTt.out.cell 1 (v:=.int .i64 a2) rfl
       have z2:=HKTt.out.cell 2 (v:=.int .i64 a3) rfl
       have HSEG:=Lib.hid (show (((rowF (Rn : Int) (t : Int) ds (k : Nat)).drop f).take (t - f)) = ((ys.drop f).take (t - f)) by rw [HGk.out,HYG.out])
       have HNRL:=Lib.hid (show t ≤ (rowF (Rn : Int) (t : Int) ds (k : Nat)).length by rw [HGk.out,HYG.out,HGL.out];exact htc)
       go_upto_region 19 with (first
        | (go_at_call 38;refine (rpaint_any Rn t A2 n2 c2 ds k f t a1 a2 a3 _ (HY.out.up (Bw.trans HBF.out (Bw.trans HBT.out (show Bw wt _ from BWX)))) hm hd (by omega) (by omega) hft HNRL.out (by omega)).mono ?_;rw [HSEG.out];rintro ee w8 ⟨u8',rfl,ho8,hb8⟩;have hb8y : Bw wt w8:=Bw.trans (show Bw wt _ from BWX) hb8;have HO8:=Lib.hid ho8;clear hb8 ho8;obtain ⟨⟨j1,j2,j3⟩,hn8⟩ : ∃ x,pntA (a1,a2,a3) ((ys.drop f).take (t - f)) = x:=⟨_,rfl⟩;rw [hn8];have HN8:=Lib.hid hn8;clear hn8)
        | fail)
       generalize hw9 : w8.alloc _ = w9
       obtain ⟨hk9,hb89,hz9⟩:=kb1 hw9
       obtain ⟨kn,hkn⟩ : ∃ kn,kn = w8.heap.size:=⟨_,rfl⟩
       rw [← hkn] at hk9 ⊢
       have hb9y:=Bw.trans hb8y hb89
       have HKN9:=Lib.hid hk9
       have HKT9:=Lib.hid (HKTt.out.up hb9y)
       have HKA9:=Lib.hid (HKAt.out.up hb9y)
       have HKB9:=Lib.hid (HKBt.out.up hb9y)
       have HX9:=Lib.hid (HXt.out.up hb9y)
       have HCX9:=Lib.hid (HCXt.out.up hb9y)
       have HYr9:=Lib.hid (HYt.out.up hb9y)
       have HCY9:=Lib.hid (HCYt.out.up hb9y)
       have HD9:=Lib.hid (HOf.out.bw (Bw.trans HBT.out hb9y))
       have HB9:=Lib.hid (Bw.trans HBF.out (Bw.trans HBT.out hb9y))
       have HO9:=Lib.hid (HO8.out.bw hb89)
       have hknt : kn ≠ kt:=by have:=hb8y.size;omega
       have hpl:=pntB_len ((ys.drop f).take (t - f)) (a1,a2,a3)
       have hgl:=goesL_len (k : Int) (f : Int) (by omega) (by omega)
       have htl2 : ((ys.drop f).take (t - f)).length ≤ t - f:=by rw [List.length_take];exact Nat.min_le_left _ _
       obtain ⟨sg,hsg⟩ : ∃ sg,goesL (k : Nat) (f : Nat) ++ pntB (a1,a2,a3) ((ys.drop f).take (t - f)) = sg:=⟨_,rfl⟩
       have hsl : sg.length ≤ 8 + 124 * (t - f):=by rw [← hsg,List.length_append];have:=Nat.mul_le_mul_left 124 htl2;omega
       rw [hsg] at HO9
       have HSG:=Lib.hid hsg
       obtain ⟨A8,c8,e8,hc8,hcm8⟩:=own_form HO9.out
       have hz9b:=HB9.out.size
       have hz8w : w0.heap.size ≤ w8.heap.size:=by have:=hb8y.size;have:=HBT.out.size;have:=HBF.out.size;omega
       clear hw9 hk9 hb89 hkn hb9y HKTt HKAt HKBt HXt HCXt HYt HCYt HO8 hb8y hsg y0 y1 y2 z0 z1 z2 hpl hgl htl2
       subst e8
       have hlen9:=lt_heap HKN9.out
       have HYK:=Lib.hid (show ∀ w',Bw w9 w' → (w'.cell? ⟨kn,0,none⟩ = some (.int .i64 j1) ∧ w'.cell? ⟨kn,1,none⟩ = some (.int .i64 j2) ∧ w'.cell? ⟨kn,2,none⟩ = some (.int .i64 j3)) from fun w' hb => ⟨(HKN9.out.up hb).cell 0 rfl,(HKN9.out.up hb).cell 1 rfl,(HKN9.out.up hb).cell 2 rfl⟩)
       refine wp_region_held_drew (S:=(fun w' => w'.cell? ⟨kn,0,none⟩ = some (.int .i64 j1) ∧ w'.cell? ⟨kn,1,none⟩ = some (.int .i64 j2) ∧ w'.cell? ⟨kn,2,none⟩ = some (.int .i64 j3))) (by kernel_rfl) ?_ (fun hHeld => ?_)
       ·(try dsimp only);(first|(refine HYK.out _ ?_;(repeat (first|with_reducible (first|assumption|exact Bw.refl _|refine Bw.alloc ?_ _|refine Bw.more ?_ _ _|refine Bw.drew ?_|refine Bw.drewN ?_ _)|((with_reducible refine Bw.set2 ?_ ?_ _);(focus exact SZX))|with_reducible refine Bw.trans ?_ (by assumption)));done)|(refine HY4.out _ ?_;(repeat (first|with_reducible (first|assumption|exact Bw.refl _|refine Bw.alloc ?_ _|refine Bw.more ?_ _ _|refine Bw.drew ?_|refine Bw.drewN ?_ _)|((with_reducible refine Bw.set2 ?_ ?_ _);(focus exact SZX))|with_reducible refine Bw.trans ?_ (by assumption)));done)|(refine HY5.out _ ?_;(repeat (first|with_reducible (first|assumption|exact Bw.refl _|refine Bw.alloc ?_ _|refine Bw.more ?_ _ _|refine Bw.drew ?_|refine Bw.drewN ?_ _)|((with_reducible refine Bw.set2 ?_ ?_ _);(focus exact SZX))|with_reducible refine Bw.trans ?_ (by assumption)));done))
       refine tkQ 0 ?_
       (try simp only [Act.put,zP1,zP2,zP3,zP4,zP5,zP6])
       refine tkQ 1 ?_
       refine tkQ 3 ?_
       (try simp only [Act.put,zP1,zP2,zP3,zP4,zP5,zP6])
       refine arO 2 (fun K hK => ?_)
       refine step_append_srcG (by rfl) (.tmp 97) (.tmp 98) 33 rfl w0.heap.size 5 i0 (.int .u8 0) 1 1 Tryz.underlying33 hi iz0 iz1 iz2 rfl (by decide) (.slice E bs.length cE) bs.length _ (by rfl) (HD9.out.bw (show Bw w9 w9.drew from BWX)) A8 sg.length c8 (sg.map (.int .u8)) (by rfl) (by simp) (fun e => ((own_rd HO9.out).none_ e).1) ((own_rd HO9.out).up (show Bw w9 w9.drew from BWX)).news2 (one_u8 _) (by unfold maxLen;omega) (by omega) (by have:=HB9.out.size;simp;omega) ?_;intro v4 w4 hown4 hg4;obtain ⟨D4,c4,rfl,hc4,hc4m⟩:=own_form hown4;have HO4:=Lib.hid hown4;have hO4p:=HD9.out.bw (show Bw w9 w9.drew from BWX);have HKN4:=Lib.hid (Kb.row (HKN9.out.up (show Bw w9 w9.drew from BWX)) hO4p hg4 (by decide));have HKT4:=Lib.hid (Kb.row (HKT9.out.up (show Bw w9 w9.drew from BWX)) hO4p hg4 (by decide));have HKA4:=Lib.hid (Kb.row (HKA9.out.up (show Bw w9 w9.drew from BWX)) hO4p hg4 (by decide));have HKB4:=Lib.hid (Kb.row (HKB9.out.up (show Bw w9 w9.drew from BWX)) hO4p hg4 (by decide));have HX4:=Lib.hid (Rg.row (HX9.out.up (show Bw w9 w9.drew from BWX)) (HCX9.out.up (show Bw w9 w9.drew from BWX)) hO4p hg4);have HYr4:=Lib.hid (Rg.row (HYr9.out.up (show Bw w9 w9.drew from BWX)) (HCY9.out.up (show Bw w9 w9.drew from BWX)) hO4p hg4);have HB4:=Lib.hid (show Bw w0 w4 from Bw.row (Bw.trans HB9.out (show Bw w9 w9.drew from BWX)) hO4p hg4 (Nat.le_refl _));have HY4:=Lib.hid (show ∀ w',Bw w4 w' → (w'.cell? ⟨kn,0,none⟩ = some (.int .i64 j1) ∧ w'.cell? ⟨kn,1,none⟩ = some (.int .i64 j2) ∧ w'.cell? ⟨kn,2,none⟩ = some (.int .i64 j3)) from fun w' hb => ⟨(HKN4.out.up hb).cell 0 rfl,(HKN4.out.up hb).cell 1 rfl,(HKN4.out.up hb).cell 2 rfl⟩);clear hown4 hg4 hO4p
       refine hK.out _ _ ?_ (fun hHeld => ?_)
       ·(try dsimp only);(first|(refine HYK.out _ ?_;(repeat (first|with_reducible (first|assumption|exact Bw.refl _|refine Bw.alloc ?_ _|refine Bw.more ?_ _ _|refine Bw.drew ?_|refine Bw.drewN ?_ _)|((with_reducible refine Bw.set2 ?_ ?_ _);(focus exact SZX))|with_reducible refine Bw.trans ?_ (by assumption)));done)|(refine HY4.out _ ?_;(repeat (first|with_reducible (first|assumption|exact Bw.refl _|refine Bw.alloc ?_ _|refine Bw.more ?_ _ _|refine Bw.drew ?_|refine Bw.drewN ?_ _)|((with_reducible refine Bw.set2 ?_ ?_ _);(focus exact SZX))|with_reducible refine Bw.trans ?_ (by assumption)));done)|(refine HY5.out _ ?_;(repeat (first|with_reducible (first|assumption|exact Bw.refl _|refine Bw.alloc ?_ _|refine Bw.more ?_ _ _|refine Bw.drew ?_|refine Bw.drewN ?_ _)|((with_reducible refine Bw.set2 ?_ ?_ _);(focus exact SZX))|with_reducible refine Bw.trans ?_ (by assumption)));done))
       clear hK K
       (try simp only [Act.put,zP1,zP2,zP3,zP4,zP5,zP6])
       refine arO 4 (fun K hK => ?_)
       go_simp
       refine hK.out _ _ ?_ (fun hHeld => ?_)
       ·(try dsimp only);(first|(refine HYK.out _ ?_;(repeat (first|with_reducible (first|assumption|exact Bw.refl _|refine Bw.alloc ?_ _|refine Bw.more ?_ _ _|refine Bw.drew ?_|refine Bw.drewN ?_ _)|((with_reducible refine Bw.set2 ?_ ?_ _);(focus exact SZX))|with_reducible refine Bw.trans ?_ (by assumption)));done)|(refine HY4.out _ ?_;(repeat (first|with_reducible (first|assumption|exact Bw.refl _|refine Bw.alloc ?_ _|refine Bw.more ?_ _ _|refine Bw.drew ?_|refine Bw.drewN ?_ _)|((with_reducible refine Bw.set2 ?_ ?_ _);(focus exact SZX))|with_reducible refine Bw.trans ?_ (by assumption)));done)|(refine HY5.out _ ?_;(repeat (first|with_reducible (first|assumption|exact Bw.refl _|refine Bw.alloc ?_ _|refine Bw.more ?_ _ _|refine Bw.drew ?_|refine Bw.drewN ?_ _)|((with_reducible refine Bw.set2 ?_ ?_ _);(focus exact SZX))|with_reducible refine Bw.trans ?_ (by assumption)));done))
       clear hK K
       (try simp only [Act.put,zP1,zP2,zP3,zP4,zP5,zP6])
       refine arO 5 (fun K hK => ?_)
       (refine (if_pos (by kernel_rfl)).mpr ?_);(with_reducible refine wp_store_kb 42 #[.int .i64 j1,.int .i64 j2,.int .i64 j3] kt (.tmp 6) (.tmp 100) (infoA3 _ _ _) (at3_one j1 j2 j3) ?ho ?_ ?_ ?_ ?_);(case ho => rfl);(focus rfl);(focus rfl);(focus (exact ⟨_,HKT4.out.up BWX,rfl⟩));intro w5 hk5 hg5;have HK5:=Lib.hid hk5;have HG5:=Lib.hid ((grown_bw (show Bw w4 _ from BWX) _).trans hg5);have HKN5:=Lib.hid (HKN4.out.far HG5.out hknt);have HY5:=Lib.hid (show ∀ w',Bw w5 w' → (w'.cell? ⟨kn,0,none⟩ = some (.int .i64 j1) ∧ w'.cell? ⟨kn,1,none⟩ = some (.int .i64 j2) ∧ w'.cell? ⟨kn,2,none⟩ = some (.int .i64 j3)) from fun w' hb => ⟨(HKN5.out.up hb).cell 0 rfl,(HKN5.out.up hb).cell 1 rfl,(HKN5.out.up hb).cell 2 rfl⟩);clear hk5 hg5
       refine hK.out _ _ ?_ (fun hHeld => ?_)
       ·(try dsimp only);(first|(refine HYK.out _ ?_;(repeat (first|with_reducible (first|assumption|exact Bw.refl _|refine Bw.alloc ?_ _|refine Bw.more ?_ _ _|refine Bw.drew ?_|refine Bw.drewN ?_ _)|((with_reducible refine Bw.set2 ?_ ?_ _);(focus exact SZX))|with_reducible refine Bw.trans ?_ (by assumption)));done)|(refine HY4.out _ ?_;(repeat (first|with_reducible (first|assumption|exact Bw.refl _|refine Bw.alloc ?_ _|refine Bw.more ?_ _ _|refine Bw.drew ?_|refine Bw.drewN ?_ _)|((with_reducible refine Bw.set2 ?_ ?_ _);(focus exact SZX))|with_reducible refine Bw.trans ?_ (by assumption)));done)|(refine HY5.out _ ?_;(repeat (first|with_reducible (first|assumption|exact Bw.refl _|refine Bw.alloc ?_ _|refine Bw.more ?_ _ _|refine Bw.drew ?_|refine Bw.drewN ?_ _)|((with_reducible refine Bw.set2 ?_ ?_ _);(focus exact SZX))|with_reducible refine Bw.trans ?_ (by assumption)));done))
       clear hK K
       (try simp only [Act.put,zP1,zP2,zP3,zP4,zP5,zP6])
       refine wpAnyH_done (by kernel_rfl) ?_ _
       go_wp2_with fail
       go_roundw
       case rel =>
        have e9 : difR xs ys (k : Int) (t + 1) (bs ++ sg,(j1,j2,j3)) = T:=by
         have h9:=HDF.out
         rw [difR_step HRU.out (by omega),show f + (t - f) + 1 = t + 1 by omega] at h9
         dsimp only at h9
         rw [HSG.out,HN8.out] at h9
         exact h9
        have h5x:=Rg.farK HX4.out.1 HX4.out.2 HKT4.out (by decide) HG5.out
        have h5y:=Rg.farK HYr4.out.1 HYr4.out.2 HKT4.out (by decide) HG5.out
        refine ⟨t + 1,(bs ++ sg,(j1,j2,j3)),D4,_,c4,rfl,by go_num,by omega,?_,?_,?_,?_,?_,?_,?_,?_,e9,?_⟩
        ·dsimp only;rw [List.length_append]
        ·dsimp only;rw [List.map_append]
         exact (own_farN HO4.out HG5.out HKT4.out.tyN (by decide)).bw BWX
        ·exact HK5.out.up BWX
        ·exact (HKA4.out.far HG5.out hkat).up BWX
        ·exact (HKB4.out.far HG5.out hkbt).up BWX
        ·exact ⟨h5x.1.up BWX,h5x.2.up BWX⟩
        ·exact ⟨h5y.1.up BWX,h5y.2.up BWX⟩
        ·exact Bw.trans (Bw.grown HB4.out HG5.out (fun j hj => by cases hj;omega)) BWX
        ·dsimp only;rw [List.length_append];omega
       case measure => simp [intOf];omega
    ·have f1 : ¬ (f : Int) < Cn:=by omega
     have HTF:=Lib.hid (show ((bs,(a1,a2,a3)) : List Int × A3) = T by have h:=HDF.out;rw [difR_end (by rw [HGL.out];omega)] at h;exact h)
     go_wp2_with fail
     go_roundw
     case rel => exact ⟨k + 1,E,_,cE,rfl,by go_num,by omega,by rw [HTE.out,← HTF.out],by rw [HTE.out,← HTF.out];exact HOf.out.bw BWX,by rw [HTE.out,← HTF.out];exact HKTf.out.up BWX,HKAf.out.up BWX,HKBf.out.up BWX,Bw.trans HBF.out BWX,by rw [HTE.out,← HTF.out];dsimp only;omega⟩
     case measure => simp [intOf];omega
  ·obtain rfl : k = Rn:=by omega
   obtain ⟨bs,hbs⟩ : ∃ bs,(difRows F G k).1 = bs:=⟨_,rfl⟩
   obtain ⟨⟨a1,a2,a3⟩,ha⟩ : ∃ x,(difRows F G k).2 = x:=⟨_,rfl⟩
   rw [hbs] at HNz HOz hlk
   rw [ha] at HKTz
   rw [hbs,ha] at HE
   have hN:=HNz.out
   subst hN
   have hb2:=bts_len (a1,a2,a3) (0,0,0)
   have hgl:=goesL_len row2 col2 (by omega) (by omega)
   clear hbs ha
   have HYK:=Lib.hid (show ∀ w',Bw wz w' → (w'.cell? ⟨kt,0,none⟩ = some (.int .i64 a1) ∧ w'.cell? ⟨kt,1,none⟩ = some (.int .i64 a2) ∧ w'.cell? ⟨kt,2,none⟩ = some (.int .i64 a3) ∧ w'.cell? ⟨kb,3,none⟩ = some (.int .i64 row2) ∧ w'.cell? ⟨kb,4,none⟩ = some (.int .i64 col2)) from fun w' hb => ⟨(HKTz.out.up hb).cell 0 rfl,(HKTz.out.up hb).cell 1 rfl,(HKTz.out.up hb).cell 2 rfl,(HKBz.out.up hb).cell 3 rfl,(HKBz.out.up hb).cell 4 rfl⟩)
   go_upto_region 21 with (fail)
   refine wp_region_held_drew (S:=(fun w' => w'.cell? ⟨kt,0,none⟩ = some (.int .i64 a1) ∧ w'.cell? ⟨kt,1,none⟩ = some (.int .i64 a2) ∧ w'.cell? ⟨kt,2,none⟩ = some (.int .i64 a3) ∧ w'.cell? ⟨kb,3,none⟩ = some (.int .i64 row2) ∧ w'.cell? ⟨kb,4,none⟩ = some (.int .i64 col2))) (by kernel_rfl) ?_ (fun hHeld => ?_)
   ·(try dsimp only);(first|(refine HYK.out _ ?_;(repeat (first|with_reducible (first|assumption|exact Bw.refl _|refine Bw.alloc ?_ _|refine Bw.more ?_ _ _|refine Bw.drew ?_|refine Bw.drewN ?_ _)|((with_reducible refine Bw.set2 ?_ ?_ _);(focus exact SZX))|with_reducible refine Bw.trans ?_ (by assumption)));done)|(refine HY4.out _ ?_;(repeat (first|with_reducible (first|assumption|exact Bw.refl _|refine Bw.alloc ?_ _|refine Bw.more ?_ _ _|refine Bw.drew ?_|refine Bw.drewN ?_ _)|((with_reducible refine Bw.set2 ?_ ?_ _);(focus exact SZX))|with_reducible refine Bw.trans ?_ (by assumption)));done)|(refine HY6.out _ ?_;(repeat (first|with_reducible (first|assumption|exact Bw.refl _|refine Bw.alloc ?_ _|refine Bw.more ?_ _ _|refine Bw.drew ?_|refine Bw.drewN ?_ _)|((with_reducible refine Bw.set2 ?_ ?_ _);(focus exact SZX))|with_reducible refine Bw.trans ?_ (by assumption)));done))
   refine tkQ 0 ?_
   (try simp only [Act.put,zP1,zP2,zP3,zP4,zP5,zP6])
   refine tkQ 1 ?_
   refine tkQ 2 ?_
   refine tkQ 5 ?_
   (try simp only [Act.put,zP1,zP2,zP3,zP4,zP5,zP6])
   refine tkQ 6 ?_
   refine tkQ 7 ?_
   refine tkQ 8 ?_
   (try simp only [Act.put,zP1,zP2,zP3,zP4,zP5,zP6])
   refine arO 3 (fun K hK => ?_)
   go_simp
   refine (rbytes_any a1 a2 a3 0 0 0 _).mono ?_;rintro ee w3 ⟨v3,rfl,hv3,hb3⟩;obtain ⟨A3,c3,rfl,h31,h32,h33⟩:=hv3;have hb3' : Bw wz w3:=Bw.trans (show Bw wz _ from BWX) hb3;have HR3:=Lib.hid h33;have HO3:=Lib.hid (HOz.out.bw hb3');clear hb3 h33;go_wp2_with fail
   refine hK.out _ _ ?_ (fun hHeld => ?_)
   ·(try dsimp only);(first|(refine HYK.out _ ?_;(repeat (first|with_reducible (first|assumption|exact Bw.refl _|refine Bw.alloc ?_ _|refine Bw.more ?_ _ _|refine Bw.drew ?_|refine Bw.drewN ?_ _)|((with_reducible refine Bw.set2 ?_ ?_ _);(focus exact SZX))|with_reducible refine Bw.trans ?_ (by assumption)));done)|(refine HY4.out _ ?_;(repeat (first|with_reducible (first|assumption|exact Bw.refl _|refine Bw.alloc ?_ _|refine Bw.more ?_ _ _|refine Bw.drew ?_|refine Bw.drewN ?_ _)|((with_reducible refine Bw.set2 ?_ ?_ _);(focus exact SZX))|with_reducible refine Bw.trans ?_ (by assumption)));done)|(refine HY6.out _ ?_;(repeat (first|with_reducible (first|assumption|exact Bw.refl _|refine Bw.alloc ?_ _|refine Bw.more ?_ _ _|refine Bw.drew ?_|refine Bw.drewN ?_ _)|((with_reducible refine Bw.set2 ?_ ?_ _);(focus exact SZX))|with_reducible refine Bw.trans ?_ (by assumption)));done))
   clear hK K
   (try simp only [Act.put,zP1,zP2,zP3,zP4,zP5,zP6])
   refine arO 4 (fun K hK => ?_)
   refine step_append_srcG (by rfl) (.tmp 102) (.tmp 105) 33 rfl w0.heap.size 5 i0 (.int .u8 0) 1 1 Tryz.underlying33 hi iz0 iz1 iz2 rfl (by decide) (.slice D bs.length cD) bs.length _ (by rfl) HO3.out A3 (bts (a1,a2,a3) (0,0,0)).length c3 ((bts (a1,a2,a3) (0,0,0)).map (.int .u8)) (by rfl) (by simp) (fun e => (HR3.out.none_ e).1) HR3.out.news2 (one_u8 _) (by unfold maxLen;omega) (by omega) (by have:=HBz.out.size;have:=hb3'.size;simp;omega) ?_;intro v4 w4 hown4 hg4;obtain ⟨D4,c4,rfl,hc4,hc4m⟩:=own_form hown4;have HO4:=Lib.hid hown4;have HKT4:=Lib.hid (Kb.row (HKTz.out.up hb3') HO3.out hg4 (by decide));have HKA4:=Lib.hid (Kb.row (HKAz.out.up hb3') HO3.out hg4 (by decide));have HKB4:=Lib.hid (Kb.row (HKBz.out.up hb3') HO3.out hg4 (by decide));have HB4:=Lib.hid (show Bw w0 w4 from Bw.row (Bw.trans HBz.out hb3') HO3.out hg4 (Nat.le_refl _));have HY4:=Lib.hid (show ∀ w',Bw w4 w' → (w'.cell? ⟨kt,0,none⟩ = some (.int .i64 a1) ∧ w'.cell? ⟨kt,1,none⟩ = some (.int .i64 a2) ∧ w'.cell? ⟨kt,2,none⟩ = some (.int .i64 a3) ∧ w'.cell? ⟨kb,3,none⟩ = some (.int .i64 row2) ∧ w'.cell? ⟨kb,4,none⟩ = some (.int .i64 col2)) from fun w' hb => ⟨(HKT4.out.up hb).cell 0 rfl,(HKT4.out.up hb).cell 1 rfl,(HKT4.out.up hb).cell 2 rfl,(HKB4.out.up hb).cell 3 rfl,(HKB4.out.up hb).cell 4 rfl⟩);clear hown4 hg4
   refine hK.out _ _ ?_ (fun hHeld => ?_)
   ·(try dsimp only);(first|(refine HYK.out _ ?_;(repeat (first|with_reducible (first|assumption|exact Bw.refl _|refine Bw.alloc ?_ _|refine Bw.more ?_ _ _|refine Bw.drew ?_|refine Bw.drewN ?_ _)|((with_reducible refine Bw.set2 ?_ ?_ _);(focus exact SZX))|with_reducible refine Bw.trans ?_ (by assumption)));done)|(refine HY4.out _ ?_;(repeat (first|with_reducible (first|assumption|exact Bw.refl _|refine Bw.alloc ?_ _|refine Bw.more ?_ _ _|refine Bw.drew ?_|refine Bw.drewN ?_ _)|((with_reducible refine Bw.set2 ?_ ?_ _);(focus exact SZX))|with_reducible refine Bw.trans ?_ (by assumption)));done)|(refine HY6.out _ ?_;(repeat (first|with_reducible (first|assumption|exact Bw.refl _|refine Bw.alloc ?_ _|refine Bw.more ?_ _ _|refine Bw.drew ?_|refine Bw.drewN ?_ _)|((with_reducible refine Bw.set2 ?_ ?_ _);(focus exact SZX))|with_reducible refine Bw.trans ?_ (by assumption)));done))
   clear hK K
   (try simp only [Act.put,zP1,zP2,zP3,zP4,zP5,zP6])
   refine arO 9 (fun K hK => ?_)
   go_simp
   refine (rgoes_any row2 col2 _ hrow0 (by omega) hcol0 (by omega)).mono ?_;rintro ee w5 ⟨u5,rfl,hown5,hb5⟩;obtain ⟨A5,c5,rfl,hc5,hc5m⟩:=own_form hown5;have hb5' : Bw w4 w5:=Bw.trans (show Bw w4 _ from BWX) hb5;have HG5:=Lib.hid hown5;have HO5:=Lib.hid (HO4.out.bw hb5');clear hown5 hb5;go_wp2_with fail
   refine hK.out _ _ ?_ (fun hHeld => ?_)
   ·(try dsimp only);(first|(refine HYK.out _ ?_;(repeat (first|with_reducible (first|assumption|exact Bw.refl _|refine Bw.alloc ?_ _|refine Bw.more ?_ _ _|refine Bw.drew ?_|refine Bw.drewN ?_ _)|((with_reducible refine Bw.set2 ?_ ?_ _);(focus exact SZX))|with_reducible refine Bw.trans ?_ (by assumption)));done)|(refine HY4.out _ ?_;(repeat (first|with_reducible (first|assumption|exact Bw.refl _|refine Bw.alloc ?_ _|refine Bw.more ?_ _ _|refine Bw.drew ?_|refine Bw.drewN ?_ _)|((with_reducible refine Bw.set2 ?_ ?_ _);(focus exact SZX))|with_reducible refine Bw.trans ?_ (by assumption)));done)|(refine HY6.out _ ?_;(repeat (first|with_reducible (first|assumption|exact Bw.refl _|refine Bw.alloc ?_ _|refine Bw.more ?_ _ _|refine Bw.drew ?_|refine Bw.drewN ?_ _)|((with_reducible refine Bw.set2 ?_ ?_ _);(focus exact SZX))|with_reducible refine Bw.trans ?_ (by assumption)));done))
   clear hK K
   (try simp only [Act.put,zP1,zP2,zP3,zP4,zP5,zP6])
   refine arO 10 (fun K hK => ?_)
   refine step_append_srcG (by rfl) (.tmp 106) (.tmp 111) 33 rfl w0.heap.size 5 i0 (.int .u8 0) 1 1 Tryz.underlying33 hi iz0 iz1 iz2 rfl (by decide) (.slice D4 (bs.length + (bts (a1,a2,a3) (0,0,0)).length) c4) (bs.length + (bts (a1,a2,a3) (0,0,0)).length) _ (by rfl) HO5.out A5 (goesL row2 col2).length c5 ((goesL row2 col2).map (.int .u8)) (by rfl) (by simp) (fun e => ((own_rd HG5.out).none_ e).1) (own_rd HG5.out).news2 (one_u8 _) (by unfold maxLen;omega) (by omega) (by have:=HB4.out.size;have:=hb5'.size;simp;omega) ?_;intro v6 w6 hown6 hg6;obtain ⟨D6,c6,rfl,hc6,hc6m⟩:=own_form hown6;have HO6:=Lib.hid hown6;have HKT6:=Lib.hid (Kb.row (HKT4.out.up hb5') HO5.out hg6 (by decide));have HKA6:=Lib.hid (Kb.row (HKA4.out.up hb5') HO5.out hg6 (by decide));have HKB6:=Lib.hid (Kb.row (HKB4.out.up hb5') HO5.out hg6 (by decide));have HB6:=Lib.hid (show Bw w0 w6 from Bw.row (Bw.trans HB4.out hb5') HO5.out hg6 (Nat.le_refl _));have HY6:=Lib.hid (show ∀ w',Bw w6 w' → (w'.cell? ⟨kt,0,none⟩ = some (.int .i64 a1) ∧ w'.cell? ⟨kt,1,none⟩ = some (.int .i64 a2) ∧ w'.cell? ⟨kt,2,none⟩ = some (.int .i64 a3) ∧ w'.cell? ⟨kb,3,none⟩ = some (.int .i64 row2) ∧ w'.cell? ⟨kb,4,none⟩ = some (.int .i64 col2)) from fun w' hb => ⟨(HKT6.out.up hb).cell 0 rfl,(HKT6.out.up hb).cell 1 rfl,(HKT6.out.up hb).cell 2 rfl,(HKB6.out.up hb).cell 3 rfl,(HKB6.out.up hb).cell 4 rfl⟩);clear hown6 hg6
   refine hK.out _ _ ?_ (fun hHeld => ?_)
   ·(try dsimp only);(first|(refine HYK.out _ ?_;(repeat (first|with_reducible (first|assumption|exact Bw.refl _|refine Bw.alloc ?_ _|refine Bw.more ?_ _ _|refine Bw.drew ?_|refine Bw.drewN ?_ _)|((with_reducible refine Bw.set2 ?_ ?_ _);(focus exact SZX))|with_reducible refine Bw.trans ?_ (by assumption)));done)|(refine HY4.out _ ?_;(repeat (first|with_reducible (first|assumption|exact Bw.refl _|refine Bw.alloc ?_ _|refine Bw.more ?_ _ _|refine Bw.drew ?_|refine Bw.drewN ?_ _)|((with_reducible refine Bw.set2 ?_ ?_ _);(focus exact SZX))|with_reducible refine Bw.trans ?_ (by assumption)));done)|(refine HY6.out _ ?_;(repeat (first|with_reducible (first|assumption|exact Bw.refl _|refine Bw.alloc ?_ _|refine Bw.more ?_ _ _|refine Bw.drew ?_|refine Bw.drewN ?_ _)|((with_reducible refine Bw.set2 ?_ ?_ _);(focus exact SZX))|with_reducible refine Bw.trans ?_ (by assumption)));done))
   clear hK K
   (try simp only [Act.put,zP1,zP2,zP3,zP4,zP5,zP6])
   refine arO 11 (fun K hK => ?_)
   go_simp
   refine hK.out _ _ ?_ (fun hHeld => ?_)
   ·(try dsimp only);(first|(refine HYK.out _ ?_;(repeat (first|with_reducible (first|assumption|exact Bw.refl _|refine Bw.alloc ?_ _|refine Bw.more ?_ _ _|refine Bw.drew ?_|refine Bw.drewN ?_ _)|((with_reducible refine Bw.set2 ?_ ?_ _);(focus exact SZX))|with_reducible refine Bw.trans ?_ (by assumption)));done)|(refine HY4.out _ ?_;(repeat (first|with_reducible (first|assumption|exact Bw.refl _|refine Bw.alloc ?_ _|refine Bw.more ?_ _ _|refine Bw.drew ?_|refine Bw.drewN ?_ _)|((with_reducible refine Bw.set2 ?_ ?_ _);(focus exact SZX))|with_reducible refine Bw.trans ?_ (by assumption)));done)|(refine HY6.out _ ?_;(repeat (first|with_reducible (first|assumption|exact Bw.refl _|refine Bw.alloc ?_ _|refine Bw.more ?_ _ _|refine Bw.drew ?_|refine Bw.drewN ?_ _)|((with_reducible refine Bw.set2 ?_ ?_ _);(focus exact SZX))|with_reducible refine Bw.trans ?_ (by assumption)));done))
   clear hK K
   (try simp only [Act.put,zP1,zP2,zP3,zP4,zP5,zP6])
   refine wpAnyH_done (by kernel_rfl) ?_ _
   have p5:=HKB6.out.cell 5 (v:=.bool hid2) rfl
   have q5:=HKA6.out.cell 5 (v:=.bool hid) rfl
   have hlb6:=lt_heap HKB6.out
   have hla6:=lt_heap HKA6.out
   have hz6:=HB6.out.size
   cases hid <;> cases hid2
   ·have HE2:=Lib.hid (show diffL (k : Int) (Cn : Int) cs row col false (k : Int) (Cn : Int) ds row2 col2 false = bs ++ bts (a1,a2,a3) (0,0,0) ++ goesL row2 col2 from HE.out.trans (List.append_nil _))
    go_wp2_with fail
    go_ret
    refine ⟨_,rfl,?_,Bw.trans HB6.out BWX⟩
    rw [HE2.out]
    refine Sl.up (Sl.of_own (base:=w0.heap.size) (e:=5) (n:=bs.length + (bts (a1,a2,a3) (0,0,0)).length + (goesL row2 col2).length) ?_) (show Bw w6 _ from BWX)
    simp only [List.map_append]
    exact HO6.out
   ·have HE2:=Lib.hid (show diffL (k : Int) (Cn : Int) cs row col false (k : Int) (Cn : Int) ds row2 col2 true = bs ++ bts (a1,a2,a3) (0,0,0) ++ goesL row2 col2 ++ [27,91,63,50,53,108] from HE.out)
    go_wp2_with (first
     | (at_builtin;refine wpList_append_srcG (by rfl) (.tmp 121) (.tmp 122) 33 rfl w0.heap.size 5 i0 (.int .u8 0) 1 1 Tryz.underlying33 hi iz0 iz1 iz2 rfl (by decide) (.slice D6 (bs.length + (bts (a1,a2,a3) (0,0,0)).length + (goesL row2 col2).length) c6) (bs.length + (bts (a1,a2,a3) (0,0,0)).length + (goesL row2 col2).length) _ (by rfl) (HO6.out.bw (show Bw w6 _ from BWX)) (some ⟨_,0,none⟩) 6 6 (List.map (Value.int .u8) [27,91,63,50,53,108]) (by rfl) (by simp) (fun e => by cases e) (Rd.lit w6 5 _ [27,91,63,50,53,108] 6 rfl rfl).news2 (one_u8 _) (by unfold maxLen;omega) (by omega) (by have:=HB6.out.size;simp;omega) ?_;intro v7 w7 hown7 hg7;have HO7:=Lib.hid hown7;have HB7:=Lib.hid (show Bw w0 w7 from Bw.row (Bw.trans HB6.out (show Bw w6 _ from BWX)) (HO6.out.bw (show Bw w6 _ from BWX)) hg7 (Nat.le_refl _));clear hown7 hg7)
     | fail)
    go_ret
    refine ⟨_,rfl,?_,Bw.trans HB7.out BWX⟩
    rw [HE2.out]
    refine Sl.up (Sl.of_own (base:=w0.heap.size) (e:=5) (n:=bs.length + (bts (a1,a2,a3) (0,0,0)).length + (goesL row2 col2).length + 6) ?_) (show Bw w7 _ from BWX)
    simp only [List.map_append]
    exact HO7.out
   ·have HE2:=Lib.hid (show diffL (k : Int) (Cn : Int) cs row col true (k : Int) (Cn : Int) ds row2 col2 false = bs ++ bts (a1,a2,a3) (0,0,0) ++ goesL row2 col2 ++ [27,91,63,50,53,104] from HE.out)
    go_wp2_with (first
     | (at_builtin;refine wpList_append_srcG (by rfl) (.tmp 132) (.tmp 133) 33 rfl w0.heap.size 5 i0 (.int .u8 0) 1 1 Tryz.underlying33 hi iz0 iz1 iz2 rfl (by decide) (.slice D6 (bs.length + (bts (a1,a2,a3) (0,0,0)).length + (goesL row2 col2).length) c6) (bs.length + (bts (a1,a2,a3) (0,0,0)).length + (goesL row2 col2).length) _ (by rfl) (HO6.out.bw (show Bw w6 _ from BWX)) (some ⟨_,0,none⟩) 6 6 (List.map (Value.int .u8) [27,91,63,50,53,104]) (by rfl) (by simp) (fun e => by cases e) (Rd.lit w6 5 _ [27,91,63,50,53,104] 6 rfl rfl).news2 (one_u8 _) (by unfold maxLen;omega) (by omega) (by have:=HB6.out.size;simp;omega) ?_;intro v7 w7 hown7 hg7;have HO7:=Lib.hid hown7;have HB7:=Lib.hid (show Bw w0 w7 from Bw.row (Bw.trans HB6.out (show Bw w6 _ from BWX)) (HO6.out.bw (show Bw w6 _ from BWX)) hg7 (Nat.le_refl _));clear hown7 hg7)
     | fail)
    go_ret
    refine ⟨_,rfl,?_,Bw.trans HB7.out BWX⟩
    rw [HE2.out]
    refine Sl.up (Sl.of_own (base:=w0.heap.size) (e:=5) (n:=bs.length + (bts (a1,a2,a3) (0,0,0)).length + (goesL row2 col2).length + 6) ?_) (show Bw w7 _ from BWX)
    simp only [List.map_append]
    exact HO7.out
   ·have HE2:=Lib.hid (show diffL (k : Int) (Cn : Int) cs row col true (k : Int) (Cn : Int) ds row2 col2 true = bs ++ bts (a1,a2,a3) (0,0,0) ++ goesL row2 col2 from HE.out.trans (List.append_nil _))
    go_wp2_with fail
    go_ret
    refine ⟨_,rfl,?_,Bw.trans HB6.out BWX⟩
    rw [HE2.out]
    refine Sl.up (Sl.of_own (base:=w0.heap.size) (e:=5) (n:=bs.length + (bts (a1,a2,a3) (0,0,0)).length + (goesL row2 col2).length) ?_) (show Bw w6 _ from BWX)
    simp only [List.map_append]
    exact HO6.out
theorem rdiff_any (R C : Int) (A : Option Addr) (n c : Nat) (cs : List C4) (row col : Int) (hid : Bool) (R2 C2 : Int) (A2 : Option Addr) (n2 c2 : Nat) (ds : List C4) (row2 col2 : Int) (hid2 : Bool) (w0 : World) (hx : Rg w0 A n cs) (hn : n ≤ c) (hc : c ≤ 9223372036854775807) (hn6 : n ≤ 60) (hy : Rg w0 A2 n2 ds) (hm : n2 ≤ c2) (hd : c2 ≤ 9223372036854775807) (hm6 : n2 ≤ 60) :
  Calls Tryz.prog 14 #[.agg #[.int .i64 R,.int .i64 C,.slice A n c,.int .i64 row,.int .i64 col,.bool hid],.agg #[.int .i64 R2,.int .i64 C2,.slice A2 n2 c2,.int .i64 row2,.int .i64 col2,.bool hid2]] w0 fun e w' => ∃ v,e = .returned v ∧ Sl (.int .u8) w' v (diffL R C cs row col hid R2 C2 ds row2 col2 hid2) ∧ Bw w0 w':=by
 by_cases hz : viewB R2 C2 ds row2 col2 = true ∧ sameV R C cs row col hid R2 C2 ds row2 col2 hid2 = false ∧ viewB R C cs row col = true ∧ R = R2 ∧ C = C2
 ·obtain ⟨h1,h2,h3,rfl,rfl⟩:=hz
  exact rdiff_main R C A n c cs row col hid A2 n2 c2 ds row2 col2 hid2 w0 hx hn hc hn6 hy hm hd hm6 h1 h2 h3
 ·exact rdiff_no R C A n c cs row col hid R2 C2 A2 n2 c2 ds row2 col2 hid2 w0 hx hn hc hn6 hy hm hd hm6 hz
/-- The call returns a view of few cells, known by address. -/
def VwQ (w : World) (e : Ending) (w' : World) : Prop:=∃ (R C : Int) (A : Option Addr) (n c : Nat) (cs : List C4) (row col : Int) (hid : Bool),e = .returned (.agg #[.int .i64 R,.int .i64 C,.slice A n c,.int .i64 row,.int .i64 col,.bool hid]) ∧ Rg w' A n cs ∧ n ≤ 60 ∧ n ≤ c ∧ c ≤ 9223372036854775807 ∧ Bw w w'
theorem bad20_any (R C : Int) (A : Option Addr) (n c : Nat) (cs : List C4) (row col : Int) (hid : Bool) (what : Int) (w : World) (hr : Rg w A n cs) (h60 : n ≤ 60) (hn : n ≤ c) (hc : c ≤ 9223372036854775807) (hR0 : 0 ≤ R) (hR : R ≤ 1000) :
  Calls Tryz.prog 10 #[.agg #[.int .i64 R,.int .i64 C,.slice A n c,.int .i64 row,.int .i64 col,.bool hid],.int .i64 what] w (VwQ w):=by
 obtain ⟨v,hv⟩ : ∃ v,what % 6 = v:=⟨_,rfl⟩
 have hv7 : v = 0 ∨ v = 1 ∨ v = 2 ∨ v = 3 ∨ v = 4 ∨ v = 5:=by omega
 have HVV:=Lib.hid hv
 have HR:=Lib.hid hr
 clear hv hr
 go_enter Tryz.func10,Tryz.ntmps10
 go_upto_region 1 with (fail)
 generalize hwa : w.alloc (.cells #[.int .i64 R,.int .i64 C,.slice A n c,.int .i64 row,.int .i64 col,.bool hid] 27) = wa
 obtain ⟨ha0,hbwa,hza⟩:=sb1 hwa
 generalize hw1 : wa.alloc _ = w1
 obtain ⟨hc0,hbwc,hzc⟩:=sb1 hw1
 rw [hza] at hc0
 have HA:=Lib.hid (ha0.up hbwc)
 have HT:=Lib.hid (show ∃ old,Sb w1 (w.heap.size + 1) old 27 ∧ old.size = 6 from ⟨_,hc0,rfl⟩)
 have hbw:=Bw.trans hbwa hbwc
 have hz1 : w.heap.size + 1 < w1.heap.size:=by omega
 clear hwa ha0 hbwa hza hw1 hc0 hbwc hzc
 go_upto_region 2 with (first
  | (go_at_call 26;refine (mmod_any _ _ _ (by omega) (by omega)).mono ?_;rintro ee ww ⟨rfl,rfl⟩;rw [HVV.out])
  | fail)
 have x0:=HA.out.cell 0 (v:=.int .i64 R) rfl
 have x5:=HA.out.cell 5 (v:=.bool hid) rfl
 have x3:=HA.out.cell 3 (v:=.int .i64 row) rfl
 have x4:=HA.out.cell 4 (v:=.int .i64 col) rfl
 have x1:=HA.out.cell 1 (v:=.int .i64 C) rfl
 have x2:=HA.out.cell 2 (v:=.slice A n c) rfl
 have z0:=HA.out.free 0
 have z1:=HA.out.free 1
 have z2:=HA.out.free 2
 have z3:=HA.out.free 3
 have z4:=HA.out.free 4
 have z5:=HA.out.free 5
 rcases hv7 with rfl|rfl|rfl|rfl|rfl|rfl
 ·go_upto_region 13 with (fail)
  generalize hw2 : w1.setCell ⟨w.heap.size,3,none⟩ (.int .i64 R) = w2
  have HA2:=Lib.hid (show Sb w2 w.heap.size (vwV R C A n c R col hid) 27 from by rw [← hw2];exact HA.out.set 3 _ rfl)
  have hg2 : w1.grownBy w2 (some w.heap.size):=by rw [← hw2];exact grown_set (grown_refl _ _) 3 _
  have HT2:=Lib.hid (show ∃ old,Sb w2 (w.heap.size + 1) old 27 ∧ old.size = 6 from Exists.elim HT.out (fun old h => ⟨old,h.1.far hg2 (fun e => by have:=Option.some.inj e;omega),h.2⟩))
  have hb2 : Bw w w2:=Bw.grown hbw hg2 (fun k hk => by cases hk;omega)
  have hlt2:=HA2.out.lt
  clear hw2 hg2 x0 x1 x2 x3 x4 x5 z0 z1 z2 z3 z4 z5
  have y0:=HA2.out.cell 0 (v:=.int .i64 R) rfl
  have y1:=HA2.out.cell 1 (v:=.int .i64 C) rfl
  have y2:=HA2.out.cell 2 (v:=.slice A n c) rfl
  have y3:=HA2.out.cell 3 (v:=.int .i64 R) rfl
  have y4:=HA2.out.cell 4 (v:=.int .i64 col) rfl
  have y5:=HA2.out.cell 5 (v:=.bool hid) rfl
  go_wp2_with (first
   | ((with_reducible refine wpList_store_vw R C A n c R col hid (w.heap.size + 1) (.tmp 4) (.tmp 38) rfl rfl ?_ ?_ ?_ ?_);(focus rfl);(focus rfl);(focus (exact HT2.out));intro w3 hS3 hg3;have HS3:=Lib.hid hS3;have HG3:=Lib.hid hg3;clear hS3 hg3)
   | fail)
  refine bodyPost_ret (results_vw rfl _ _ (w.heap.size + 1) R C A n c R col hid (by rfl) HS3.out) rfl ?_
  have hb3:=Bw.grown hb2 HG3.out (fun k hk => by cases hk;omega)
  exact ⟨_,_,_,_,_,_,_,_,_,rfl,HR.out.up hb3,h60,hn,hc,hb3⟩
 ·go_upto_region 13 with (fail)
  generalize hw2 : w1.setCell ⟨w.heap.size,4,none⟩ (.int .i64 (-1)) = w2
  have HA2:=Lib.hid (show Sb w2 w.heap.size (vwV R C A n c row (-1) hid) 27 from by rw [← hw2];exact HA.out.set 4 _ rfl)
  have hg2 : w1.grownBy w2 (some w.heap.size):=by rw [← hw2];exact grown_set (grown_refl _ _) 4 _
  have HT2:=Lib.hid (show ∃ old,Sb w2 (w.heap.size + 1) old 27 ∧ old.size = 6 from Exists.elim HT.out (fun old h => ⟨old,h.1.far hg2 (fun e => by have:=Option.some.inj e;omega),h.2⟩))
  have hb2 : Bw w w2:=Bw.grown hbw hg2 (fun k hk => by cases hk;omega)
  have hlt2:=HA2.out.lt
  clear hw2 hg2 x0 x1 x2 x3 x4 x5 z0 z1 z2 z3 z4 z5
  have y0:=HA2.out.cell 0 (v:=.int .i64 R) rfl
  have y1:=HA2.out.cell 1 (v:=.int .i64 C) rfl
  have y2:=HA2.out.cell 2 (v:=.slice A n c) rfl
  have y3:=HA2.out.cell 3 (v:=.int .i64 row) rfl
  have y4:=HA2.out.cell 4 (v:=.int .i64 (-1)) rfl
  have y5:=HA2.out.cell 5 (v:=.bool hid) rfl
  go_wp2_with (first
   | ((with_reducible refine wpList_store_vw R C A n c row (-1) hid (w.heap.size + 1) (.tmp 4) (.tmp 38) rfl rfl ?_ ?_ ?_ ?_);(focus rfl);(focus rfl);(focus (exact HT2.out));intro w3 hS3 hg3;have HS3:=Lib.hid hS3;have HG3:=Lib.hid hg3;clear hS3 hg3)
   | fail)
  refine bodyPost_ret (results_vw rfl _ _ (w.heap.size + 1) R C A n c row (-1) hid (by rfl) HS3.out) rfl ?_
  have hb3:=Bw.grown hb2 HG3.out (fun k hk => by cases hk;omega)
  exact ⟨_,_,_,_,_,_,_,_,_,rfl,HR.out.up hb3,h60,hn,hc,hb3⟩
 ·go_upto_region 13 with (fail)
  generalize hw2 : w1.setCell ⟨w.heap.size,0,none⟩ (.int .i64 (R + 1)) = w2
  have HA2:=Lib.hid (show Sb w2 w.heap.size (vwV (R + 1) C A n c row col hid) 27 from by rw [← hw2];exact HA.out.set 0 _ rfl)
  have hg2 : w1.grownBy w2 (some w.heap.size):=by rw [← hw2];exact grown_set (grown_refl _ _) 0 _
  have HT2:=Lib.hid (show ∃ old,Sb w2 (w.heap.size + 1) old 27 ∧ old.size = 6 from Exists.elim HT.out (fun old h => ⟨old,h.1.far hg2 (fun e => by have:=Option.some.inj e;omega),h.2⟩))
  have hb2 : Bw w w2:=Bw.grown hbw hg2 (fun k hk => by cases hk;omega)
  have hlt2:=HA2.out.lt
  clear hw2 hg2 x0 x1 x2 x3 x4 x5 z0 z1 z2 z3 z4 z5
  have y0:=HA2.out.cell 0 (v:=.int .i64 (R + 1)) rfl
  have y1:=HA2.out.cell 1 (v:=.int .i64 C) rfl
  have y2:=HA2.out.cell 2 (v:=.slice A n c) rfl
  have y3:=HA2.out.cell 3 (v:=.int .i64 row) rfl
  have y4:=HA2.out.cell 4 (v:=.int .i64 col) rfl
  have y5:=HA2.out.cell 5 (v:=.bool hid) rfl
  go_wp2_with (first
   | ((with_reducible refine wpList_store_vw (R + 1) C A n c row col hid (w.heap.size + 1) (.tmp 4) (.tmp 38) rfl rfl ?_ ?_ ?_ ?_);(focus rfl);(focus rfl);(focus (exact HT2.out));intro w3 hS3 hg3;have HS3:=Lib.hid hS3;have HG3:=Lib.hid hg3;clear hS3 hg3)
   | fail)
  refine bodyPost_ret (results_vw rfl _ _ (w.heap.size + 1) (R + 1) C A n c row col hid (by rfl) HS3.out) rfl ?_
  have hb3:=Bw.grown hb2 HG3.out (fun k hk => by cases hk;omega)
  exact ⟨_,_,_,_,_,_,_,_,_,rfl,HR.out.up hb3,h60,hn,hc,hb3⟩
 ·go_upto_region 13 with (fail)
  generalize hw2 : w1.setCell ⟨w.heap.size,5,none⟩ (.bool (!hid)) = w2
  have HA2:=Lib.hid (show Sb w2 w.heap.size (vwV R C A n c row col (!hid)) 27 from by rw [← hw2];exact HA.out.set 5 _ rfl)
  have hg2 : w1.grownBy w2 (some w.heap.size):=by rw [← hw2];exact grown_set (grown_refl _ _) 5 _
  have HT2:=Lib.hid (show ∃ old,Sb w2 (w.heap.size + 1) old 27 ∧ old.size = 6 from Exists.elim HT.out (fun old h => ⟨old,h.1.far hg2 (fun e => by have:=Option.some.inj e;omega),h.2⟩))
  have hb2 : Bw w w2:=Bw.grown hbw hg2 (fun k hk => by cases hk;omega)
  have hlt2:=HA2.out.lt
  clear hw2 hg2 x0 x1 x2 x3 x4 x5 z0 z1 z2 z3 z4 z5
  have y0:=HA2.out.cell 0 (v:=.int .i64 R) rfl
  have y1:=HA2.out.cell 1 (v:=.int .i64 C) rfl
  have y2:=HA2.out.cell 2 (v:=.slice A n c) rfl
  have y3:=HA2.out.cell 3 (v:=.int .i64 row) rfl
  have y4:=HA2.out.cell 4 (v:=.int .i64 col) rfl
  have y5:=HA2.out.cell 5 (v:=.bool (!hid)) rfl
  go_wp2_with (first
   | ((with_reducible refine wpList_store_vw R C A n c row col (!hid) (w.heap.size + 1) (.tmp 4) (.tmp 38) rfl rfl ?_ ?_ ?_ ?_);(focus rfl);(focus rfl);(focus (exact HT2.out));intro w3 hS3 hg3;have HS3:=Lib.hid hS3;have HG3:=Lib.hid hg3;clear hS3 hg3)
   | fail)
  refine bodyPost_ret (results_vw rfl _ _ (w.heap.size + 1) R C A n c row col (!hid) (by rfl) HS3.out) rfl ?_
  have hb3:=Bw.grown hb2 HG3.out (fun k hk => by cases hk;omega)
  exact ⟨_,_,_,_,_,_,_,_,_,rfl,HR.out.up hb3,h60,hn,hc,hb3⟩
 ·have hbA : Bw w1 (w1.alloc (.cells #[.int .i64 120,.int .i64 0,.int .i64 0,.int .i64 0] 70)):=BWX
  have HAa:=HA.out.up hbA
  have xa0:=HAa.cell 0 (v:=.int .i64 R) rfl
  have za0:=HAa.free 0
  have xa1:=HAa.cell 1 (v:=.int .i64 C) rfl
  have za1:=HAa.free 1
  have xa2:=HAa.cell 2 (v:=.slice A n c) rfl
  have za2:=HAa.free 2
  have xa3:=HAa.cell 3 (v:=.int .i64 row) rfl
  have za3:=HAa.free 3
  have xa4:=HAa.cell 4 (v:=.int .i64 col) rfl
  have za4:=HAa.free 4
  have xa5:=HAa.cell 5 (v:=.bool hid) rfl
  have za5:=HAa.free 5
  go_upto_region 13 with (fail)
  clear xa0 xa1 xa2 xa3 xa4 xa5 za0 za1 za2 za3 za4 za5 HAa hbA
  generalize hwA : w1.alloc _ = wA
  obtain ⟨hcA,hbA,hzA⟩:=sb1 hwA
  have HAa:=HA.out.up hbA
  generalize hw2 : ((((wA.setCell ⟨w.heap.size,0,none⟩ (.int .i64 1)).setCell ⟨w.heap.size,1,none⟩ (.int .i64 1)).setCell ⟨w.heap.size,2,none⟩ (.slice (some ⟨w1.heap.size,0,none⟩) 1 1)).setCell ⟨w.heap.size,3,none⟩ (.int .i64 0)).setCell ⟨w.heap.size,4,none⟩ (.int .i64 0) = w2
  have HA2:=Lib.hid (show Sb w2 w.heap.size (vwV 1 1 (some ⟨w1.heap.size,0,none⟩) 1 1 0 0 hid) 27 from by rw [← hw2];exact ((((HAa.set 0 _ rfl).set 1 _ rfl).set 2 _ rfl).set 3 _ rfl).set 4 _ rfl)
  have hg2 : wA.grownBy w2 (some w.heap.size):=by rw [← hw2];exact grown_set (grown_set (grown_set (grown_set (grown_set (grown_refl _ _) 0 _) 1 _) 2 _) 3 _) 4 _
  have HT2:=Lib.hid (show ∃ old,Sb w2 (w.heap.size + 1) old 27 ∧ old.size = 6 from Exists.elim HT.out (fun old h => ⟨old,(h.1.up hbA).far hg2 (fun e => by have:=Option.some.inj e;omega),h.2⟩))
  have hb2 : Bw w w2:=Bw.grown (Bw.trans hbw hbA) hg2 (fun k hk => by cases hk;omega)
  have HC2:=Lib.hid (hcA.far hg2 (fun e => by have:=Option.some.inj e;omega))
  have hlt2:=HA2.out.lt
  clear hw2 hg2 x0 x1 x2 x3 x4 x5 z0 z1 z2 z3 z4 z5 hwA HAa hbA hcA
  have y0:=HA2.out.cell 0 (v:=.int .i64 1) rfl
  have y1:=HA2.out.cell 1 (v:=.int .i64 1) rfl
  have y2:=HA2.out.cell 2 (v:=.slice (some ⟨w1.heap.size,0,none⟩) 1 1) rfl
  have y3:=HA2.out.cell 3 (v:=.int .i64 0) rfl
  have y4:=HA2.out.cell 4 (v:=.int .i64 0) rfl
  have y5:=HA2.out.cell 5 (v:=.bool hid) rfl
  go_wp2_with (first
   | ((with_reducible refine wpList_store_vw 1 1 (some ⟨w1.heap.size,0,none⟩) 1 1 0 0 hid (w.heap.size + 1) (.tmp 4) (.tmp 38) rfl rfl ?_ ?_ ?_ ?_);(focus rfl);(focus rfl);(focus (exact HT2.out));intro w3 hS3 hg3;have HS3:=Lib.hid hS3;have HG3:=Lib.hid hg3;clear hS3 hg3)
   | fail)
  refine bodyPost_ret (results_vw rfl _ _ (w.heap.size + 1) 1 1 (some ⟨w1.heap.size,0,none⟩) 1 1 0 0 hid (by rfl) HS3.out) rfl ?_
  have hb3:=Bw.grown hb2 HG3.out (fun k hk => by cases hk;omega)
  have hc3:=HC2.out.far HG3.out (fun e => by have:=Option.some.inj e;omega)
  refine ⟨1,1,some ⟨w1.heap.size,0,none⟩,1,1,[(120,0,0,0)],0,0,hid,rfl,⟨rfl,fun _ => ⟨_,0,rfl,fun i hi => ?_⟩⟩,by omega,by omega,by omega,hb3⟩
  obtain rfl : i = 0:=by simp at hi;omega
  exact ⟨hc3.cell 0 rfl,hc3.cell 1 rfl,hc3.cell 2 rfl,hc3.cell 3 rfl⟩
 ·go_upto_region 13 with (fail)
  obtain ⟨w2,hw2⟩ : ∃ w2,w2 = w1:=⟨_,rfl⟩
  rw [← hw2]
  have HA2:=Lib.hid (show Sb w2 w.heap.size (vwV R C A n c row col hid) 27 from by rw [hw2];exact HA.out)
  have HT2:=Lib.hid (show ∃ old,Sb w2 (w.heap.size + 1) old 27 ∧ old.size = 6 from by rw [hw2];exact HT.out)
  have hb2 : Bw w w2:=by rw [hw2];exact hbw
  have hg2:=hb2.size
  have hlt2:=HA2.out.lt
  clear hw2 hg2 x0 x1 x2 x3 x4 x5 z0 z1 z2 z3 z4 z5
  have y0:=HA2.out.cell 0 (v:=.int .i64 R) rfl
  have y1:=HA2.out.cell 1 (v:=.int .i64 C) rfl
  have y2:=HA2.out.cell 2 (v:=.slice A n c) rfl
  have y3:=HA2.out.cell 3 (v:=.int .i64 row) rfl
  have y4:=HA2.out.cell 4 (v:=.int .i64 col) rfl
  have y5:=HA2.out.cell 5 (v:=.bool hid) rfl
  go_wp2_with (first
   | ((with_reducible refine wpList_store_vw R C A n c row col hid (w.heap.size + 1) (.tmp 4) (.tmp 38) rfl rfl ?_ ?_ ?_ ?_);(focus rfl);(focus rfl);(focus (exact HT2.out));intro w3 hS3 hg3;have HS3:=Lib.hid hS3;have HG3:=Lib.hid hg3;clear hS3 hg3)
   | fail)
  refine bodyPost_ret (results_vw rfl _ _ (w.heap.size + 1) R C A n c row col hid (by rfl) HS3.out) rfl ?_
  have hb3:=Bw.grown hb2 HG3.out (fun k hk => by cases hk;omega)
  exact ⟨_,_,_,_,_,_,_,_,_,rfl,HR.out.up hb3,h60,hn,hc,hb3⟩
end Go.Proofs.YteebdjmjeahccaaGreatDoor
