/- Parts of the proof, one after the other. -/
import Derived.Test.YtkflooljdopldaaGreatV32
import Derived.Test.YtkflooljdopldaaGreatV31
import Derived.Test.YtkflooljdopldaaGreatV26
import Derived.Deep.RegionHeld3
import Derived.Test.YtkflooljdopldaaGreatV30
import Derived.Test.YtkflooljdopldaaGreatV05
set_option linter.unusedSimpArgs false
set_option linter.unusedVariables false
/- Screens: validity of any screen; Resize of one that is not valid. -/
namespace Go.Proofs.YtkflooljdopldaaGreat
open Go.RowKit

/-- Whether a screen is valid. -/
def scV (s : Scr) (cs : List C4) : Bool:=gridB s.Rn s.Cn cs && (vldB s.row s.col s.Rn s.Cn && (vldB s.srow s.scol s.Rn s.Cn && (rgtB s.top s.bot s.Rn && (avB s.f s.g s.b && avB s.sf s.sg s.sb))))
theorem scV_ok {s : Scr} {cs : List C4} {w : World} (h : scV s cs = true) (hr : Rg w s.A s.n cs) (hn : s.n ≤ s.c) (hc : s.c ≤ 9223372036854775807) : s.Ok w ∧ gridB s.Rn s.Cn cs = true:=by
 unfold scV at h
 simp only [Bool.and_eq_true] at h
 obtain ⟨h1,h2,h3,h4,h5,h6⟩:=h
 obtain ⟨d1,d2,d3,d4,d5⟩:=gridB_dim h1
 have e2:=of_decide_eq_true h2
 have e3:=of_decide_eq_true h3
 have e4:=of_decide_eq_true h4
 have hl:=hr.1
 refine ⟨⟨⟨by omega,by omega,by omega,by omega,by rw [← Int.natCast_mul] at d5;omega,hn,hc,cs,hr,h1⟩,e2,h5,e4,e3,h6⟩,h1⟩
theorem rgt_no {top bot : Int} {Rn : Nat} (h : rgtB top bot Rn = false) : top < 0 ∨ (0 ≤ top ∧ bot < top) ∨ (0 ≤ top ∧ top ≤ bot ∧ (Rn : Int) ≤ bot):=by have:=of_decide_eq_false h;omega
theorem scV_ways {s : Scr} {cs : List C4} (h : scV s cs = false) : gridB s.Rn s.Cn cs = false ∨ (gridB s.Rn s.Cn cs = true ∧ (vldB s.row s.col s.Rn s.Cn = false ∨ (vldB s.row s.col s.Rn s.Cn = true ∧ (vldB s.srow s.scol s.Rn s.Cn = false ∨ (vldB s.srow s.scol s.Rn s.Cn = true ∧ (rgtB s.top s.bot s.Rn = false ∨ (rgtB s.top s.bot s.Rn = true ∧ (avB s.f s.g s.b = false ∨ (avB s.f s.g s.b = true ∧ avB s.sf s.sg s.sb = false))))))))):=by
 unfold scV at h
 revert h
 cases gridB s.Rn s.Cn cs <;> cases vldB s.row s.col s.Rn s.Cn <;> cases vldB s.srow s.scol s.Rn s.Cn <;> cases rgtB s.top s.bot s.Rn <;> cases avB s.f s.g s.b <;> cases avB s.sf s.sg s.sb <;> simp

set_option maxRecDepth 100000 in
set_option maxHeartbeats 2000000 in
theorem rsvalid_no (s : Scr) (cs : List C4) (w : World) (hr : Rg w s.A s.n cs) (h6 : s.n ≤ s.c) (h7 : s.c ≤ 9223372036854775807) (hs : scV s cs = false) : Calls Tryz.prog 39 #[.agg s.vals.toArray] w fun e w' => e = .returned (.bool false) ∧ Bw w w':=by
 have hz:=scV_ways hs
 obtain ⟨Rn,Cn,A,n,c,row,col,wrap,f,g,b,top,bot,srow,scol,swrap,sf,sg,sb,hid,now⟩:=s
 dsimp only at hr h6 h7 hz
 unfold Scr.vals
 dsimp only
 have HR:=Lib.hid hr
 clear hr hs
 rcases hz with h1|⟨h1,h2|⟨h2,h3|⟨h3,h4|⟨h4,h5|⟨h5,h8⟩⟩⟩⟩⟩
 all_goals
  have HV:=Lib.hid h1
  (try have V1:=Lib.hid h2)
  (try have V2:=Lib.hid h3)
  (try have V3:=Lib.hid h4)
  (try have HA:=Lib.hid h5)
  (try have HS:=Lib.hid h8)
  clear h1
  (try clear h2)
  (try clear h3)
  (try clear h4)
  (try clear h5)
  (try clear h8)
  go_enter Tryz.func39,Tryz.ntmps39
  go_wp2_with (first
   | (go_at_call 72;refine (rgvalid_any _ _ _ _ _ cs _ (by exact HR.out.up BWX) h6 h7).mono ?_;rintro ee wv ⟨rfl,hbv⟩;rw [HV.out];obtain ⟨L,d,rfl⟩:=Bw.isPlus hbv;clear hbv)
   | (go_at_call 73;((with_reducible refine (rcvalid_any row col _ _ wrap _).mono ?_);rintro ee ww ⟨rfl,rfl⟩;rw [V1.out]))
   | (go_at_call 73;((with_reducible refine (rcvalid_any srow scol _ _ swrap _).mono ?_);rintro ee ww ⟨rfl,rfl⟩;rw [V2.out]))
   | (go_at_call 74;((with_reducible refine (rright_any top bot _ _).mono ?_);rintro ee ww ⟨rfl,rfl⟩;rw [V3.out]))
   | (go_at_call 75;((with_reducible refine (rvalid_agg f g b _).mono ?_);rintro ee ww ⟨rfl,hb2⟩;rw [HA.out];obtain ⟨L2,d2,rfl⟩:=Bw.isPlus hb2;clear hb2))
   | (go_at_call 75;((with_reducible refine (rvalid_agg sf sg sb _).mono ?_);rintro ee ww ⟨rfl,hb3⟩;rw [HS.out];obtain ⟨L3,d3,rfl⟩:=Bw.isPlus hb3;clear hb3))
   | fail)
  go_ret
  exact ⟨rfl,BWX⟩

set_option maxRecDepth 100000 in
set_option maxHeartbeats 4000000 in
theorem svalid_no (s : Scr) (cs : List C4) (w : World) (hr : Rg w s.A s.n cs) (h6 : s.n ≤ s.c) (h7 : s.c ≤ 9223372036854775807) (hs : scV s cs = false) : Calls Tryz.prog 11 #[.agg s.vals.toArray] w fun e w' => e = .returned (.bool false) ∧ Bw w w':=by
 have hz:=scV_ways hs
 obtain ⟨Rn,Cn,A,n,c,row,col,wrap,f,g,b,top,bot,srow,scol,swrap,sf,sg,sb,hid,now⟩:=s
 dsimp only at hr h6 h7 hz
 unfold Scr.vals
 dsimp only
 have HR:=Lib.hid hr
 have HZ:=Lib.hid hz
 clear hr hs hz
 go_enter Tryz.func11,Tryz.ntmps11
 go_upto_region 1 with (fail)
 generalize hw1 : w.alloc _ = w1
 obtain ⟨hb0,hbw,hz⟩:=sb1 hw1
 have HB:=Lib.hid hb0
 have hzz : w.heap.size < w1.heap.size:=by omega
 have HY:=Lib.hid (show ∀ w',Bw w1 w' → (w'.cell? ⟨w.heap.size,0,none⟩ = some (.int .i64 (Rn : Int)) ∧ w'.cell? ⟨w.heap.size,1,none⟩ = some (.int .i64 (Cn : Int)) ∧ w'.cell? ⟨w.heap.size,2,none⟩ = some (.slice A n c) ∧ w'.cell? ⟨w.heap.size,9,none⟩ = some (.int .i64 top) ∧ w'.cell? ⟨w.heap.size,10,none⟩ = some (.int .i64 bot)) from fun w' hb => ⟨(HB.out.up hb).cell 0 rfl,(HB.out.up hb).cell 1 rfl,(HB.out.up hb).cell 2 rfl,(HB.out.up hb).cell 9 rfl,(HB.out.up hb).cell 10 rfl⟩)
 clear hw1 hb0 hz
 go_cut [3,4] (fun a b w' => ∃ ga gb,a = .pointer (some ⟨ga,0,none⟩) ∧ b = .pointer (some ⟨gb,0,none⟩) ∧ Sb w' ga #[.int .i64 (Rn : Int),.int .i64 (Cn : Int),.slice A n c] 26 ∧ Sb w' gb #[.int .i64 top,.int .i64 bot] 32 ∧ Bw w1 w')
 case first =>
  refine wp_region_held_drew (S:=(fun w' => w'.cell? ⟨w.heap.size,0,none⟩ = some (.int .i64 (Rn : Int)) ∧ w'.cell? ⟨w.heap.size,1,none⟩ = some (.int .i64 (Cn : Int)) ∧ w'.cell? ⟨w.heap.size,2,none⟩ = some (.slice A n c) ∧ w'.cell? ⟨w.heap.size,9,none⟩ = some (.int .i64 top) ∧ w'.cell? ⟨w.heap.size,10,none⟩ = some (.int .i64 bot))) (by kernel_rfl) ?_ (fun hHeld => ?_)
  ·(try dsimp only);(refine HY.out _ ?_;exact BWX)
  refine tkQ 0 ?_
  refine tkQ 1 ?_
  refine tkQ 2 ?_
  (try simp only [Act.put,zP1,zP2,zP3,zP4,zP5,zP6])
  refine tkQ 3 ?_
  (try simp only [Act.put,zP1,zP2,zP3,zP4,zP5,zP6])
  refine wpAnyH_ready (rs:=[4,5]) (by kernel_rfl) (by simp) ?_
  refine AllReadyH.cons rfl (fun K hK => ?_) ?_
  ·go_simp
   refine hK.out _ _ ?_ (fun hHeld => ?_)
   ·(try dsimp only);(refine HY.out _ ?_;exact BWX)
   clear hK K
   (try simp only [Act.put,zP1,zP2,zP3,zP4,zP5,zP6])
   refine wpAnyH_ready (rs:=[5]) (by kernel_rfl) (by simp) ?_
   refine AllReadyH.cons rfl (fun K hK => ?_) ?_
   ·go_simp
    refine hK.out _ _ ?_ (fun hHeld => ?_)
    ·(try dsimp only);(refine HY.out _ ?_;exact BWX)
    clear hK K
    (try simp only [Act.put,zP1,zP2,zP3,zP4,zP5,zP6])
    refine wpAnyH_ready (rs:=[6]) (by kernel_rfl) (by simp) ?_
    refine AllReadyH.cons rfl (fun K hK => ?_) ?_
    ·go_simp
     refine hK.out _ _ ?_ (fun hHeld => ?_)
     ·(try dsimp only);(refine HY.out _ ?_;exact BWX)
     clear hK K
     (try simp only [Act.put,zP1,zP2,zP3,zP4,zP5,zP6])
     refine wpAnyH_ready (rs:=[7]) (by kernel_rfl) (by simp) ?_
     refine AllReadyH.cons rfl (fun K hK => ?_) ?_
     ·go_simp
      refine hK.out _ _ ?_ (fun hHeld => ?_)
      ·(try dsimp only);(refine HY.out _ ?_;exact BWX)
      clear hK K
      (try simp only [Act.put,zP1,zP2,zP3,zP4,zP5,zP6])
      refine wpAnyH_done (by kernel_rfl) ?_ _
      go_wp2_with fail
      go_meet
      case rel => first
       | exact ⟨w1.heap.size,w1.heap.size + 1,rfl,rfl,(sb2 rfl).1.drew,(sb2 rfl).2.1.drew,BWX⟩
       | exact ⟨w1.heap.size + 1,w1.heap.size,rfl,rfl,(sb2 rfl).2.1.drew,(sb2 rfl).1.drew,BWX⟩
     exact AllReadyH.nil
    exact AllReadyH.nil
   exact AllReadyH.nil
  refine AllReadyH.cons rfl (fun K hK => ?_) ?_
  ·go_simp
   refine hK.out _ _ ?_ (fun hHeld => ?_)
   ·(try dsimp only);(refine HY.out _ ?_;exact BWX)
   clear hK K
   (try simp only [Act.put,zP1,zP2,zP3,zP4,zP5,zP6])
   refine wpAnyH_ready (rs:=[4]) (by kernel_rfl) (by simp) ?_
   refine AllReadyH.cons rfl (fun K hK => ?_) ?_
   ·go_simp
    refine hK.out _ _ ?_ (fun hHeld => ?_)
    ·(try dsimp only);(refine HY.out _ ?_;exact BWX)
    clear hK K
    (try simp only [Act.put,zP1,zP2,zP3,zP4,zP5,zP6])
    refine wpAnyH_ready (rs:=[6]) (by kernel_rfl) (by simp) ?_
    refine AllReadyH.cons rfl (fun K hK => ?_) ?_
    ·go_simp
     refine hK.out _ _ ?_ (fun hHeld => ?_)
     ·(try dsimp only);(refine HY.out _ ?_;exact BWX)
     clear hK K
     (try simp only [Act.put,zP1,zP2,zP3,zP4,zP5,zP6])
     refine wpAnyH_ready (rs:=[7]) (by kernel_rfl) (by simp) ?_
     refine AllReadyH.cons rfl (fun K hK => ?_) ?_
     ·go_simp
      refine hK.out _ _ ?_ (fun hHeld => ?_)
      ·(try dsimp only);(refine HY.out _ ?_;exact BWX)
      clear hK K
      (try simp only [Act.put,zP1,zP2,zP3,zP4,zP5,zP6])
      refine wpAnyH_done (by kernel_rfl) ?_ _
      go_wp2_with fail
      go_meet
      case rel => first
       | exact ⟨w1.heap.size,w1.heap.size + 1,rfl,rfl,(sb2 rfl).1.drew,(sb2 rfl).2.1.drew,BWX⟩
       | exact ⟨w1.heap.size + 1,w1.heap.size,rfl,rfl,(sb2 rfl).2.1.drew,(sb2 rfl).1.drew,BWX⟩
     exact AllReadyH.nil
    exact AllReadyH.nil
   exact AllReadyH.nil
  exact AllReadyH.nil
 case rest =>
 obtain ⟨ga,gb,rfl,rfl,hga,hgb,hbc⟩:=hcut
 have hzc:=hbc.size
 have hla:=hga.lt
 have hlb:=hgb.lt
 have HBc:=Lib.hid (HB.out.up hbc)
 have HRc:=Lib.hid (HR.out.up (Bw.trans hbw hbc))
 have a0:=hga.cell 0 (v:=.int .i64 (Rn : Int)) rfl
 have a1:=hga.cell 1 (v:=.int .i64 (Cn : Int)) rfl
 have a2:=hga.cell 2 (v:=.slice A n c) rfl
 have b0:=hgb.cell 0 (v:=.int .i64 top) rfl
 have b1:=hgb.cell 1 (v:=.int .i64 bot) rfl
 have x3:=HBc.out.cell 3 (v:=.int .i64 row) rfl
 have x4:=HBc.out.cell 4 (v:=.int .i64 col) rfl
 have x5:=HBc.out.cell 5 (v:=.bool wrap) rfl
 have x6:=HBc.out.cell 6 (v:=.int .i64 f) rfl
 have x7:=HBc.out.cell 7 (v:=.int .i64 g) rfl
 have x8:=HBc.out.cell 8 (v:=.int .i64 b) rfl
 have x11:=HBc.out.cell 11 (v:=.int .i64 srow) rfl
 have x12:=HBc.out.cell 12 (v:=.int .i64 scol) rfl
 have x13:=HBc.out.cell 13 (v:=.bool swrap) rfl
 have x14:=HBc.out.cell 14 (v:=.int .i64 sf) rfl
 have x15:=HBc.out.cell 15 (v:=.int .i64 sg) rfl
 have x16:=HBc.out.cell 16 (v:=.int .i64 sb) rfl
 have hbwc : Bw w wc:=Bw.trans hbw hbc
 have hzcc : w.heap.size < wc.heap.size:=by omega
 clear hga hgb hbc HY HB HBc
 have hz:=HZ.out
 clear HZ
 rcases hz with h1|⟨h1,h2|⟨h2,h3|⟨h3,h4|⟨h4,h5|⟨h5,h8⟩⟩⟩⟩⟩
 rotate_left 3
 have hq:=rgt_no h4
 clear h4
 rcases hq with q1|⟨q1,q2⟩|⟨q1,q2,q3⟩
 all_goals
  have HV:=Lib.hid h1
  (try have V1:=Lib.hid h2)
  (try have V2:=Lib.hid h3)
  (try (have h4b : 0 ≤ top ∧ top ≤ bot ∧ bot < (Rn : Int):=of_decide_eq_true h4;obtain ⟨t0,t1,t2⟩:=h4b))
  (try have HA:=Lib.hid h5)
  (try have HS:=Lib.hid h8)
  clear h1
  (try clear h2)
  (try clear h3)
  (try clear h4)
  (try clear h5)
  (try clear h8)
  go_wp2_with (first
   | (go_at_call 31;refine (ggvalid_any _ _ _ _ _ cs _ (by exact HRc.out.up BWX) h6 h7).mono ?_;rintro ee wv ⟨rfl,hbv⟩;rw [HV.out];obtain ⟨L,d,rfl⟩:=Bw.isPlus hbv;clear hbv)
   | (go_at_call 32;((with_reducible refine (cvalid_any row col _ _ wrap _).mono ?_);rintro ee ww ⟨rfl,rfl⟩;rw [V1.out]))
   | (go_at_call 32;((with_reducible refine (cvalid_any srow scol _ _ swrap _).mono ?_);rintro ee ww ⟨rfl,rfl⟩;rw [V2.out]))
   | (go_at_call 33;((with_reducible refine (avalid_agg f g b _).mono ?_);rintro ee ww ⟨rfl,rfl⟩;rw [HA.out]))
   | (go_at_call 33;((with_reducible refine (avalid_agg sf sg sb _).mono ?_);rintro ee ww ⟨rfl,rfl⟩;rw [HS.out]))
   | fail)
  go_ret
  exact ⟨rfl,BWX⟩

/-- The call returns the screen s, its cells as they were, and no rows. -/
def RzI (w : World) (s : Scr) (cs : List C4) (e : Ending) (w' : World) : Prop:=∃ A n c,e = .returned (.tuple #[.agg (s.gr A n c).vals.toArray,.slice none 0 0]) ∧ Rg w' A n cs ∧ n ≤ c ∧ c ≤ 9223372036854775807 ∧ Bw w w'

set_option maxRecDepth 100000 in
set_option maxHeartbeats 1000000 in
theorem sresize_no (s : Scr) (cs : List C4) (rows cols : Int) (w : World) (hr : Rg w s.A s.n cs) (hn : s.n ≤ s.c) (hn3 : s.n ≤ 3000) (hc : s.c ≤ 9223372036854775807) (hs : scV s cs = false) :
  Calls Tryz.prog 14 #[.agg s.vals.toArray,.int .i64 rows,.int .i64 cols] w (RzI w s cs):=by
 have HR:=Lib.hid hr
 have HV:=Lib.hid hs
 clear hr hs
 go_enter Tryz.func14,Tryz.ntmps14
 go_upto_region 1 with (fail)
 generalize hwa : w.alloc (.cells s.vals.toArray 34) = wa
 obtain ⟨ha0,hbwa,hza⟩:=sb1 hwa
 generalize hw1 : wa.alloc _ = w1
 obtain ⟨hc0,hbwc,hzc⟩:=sb1 hw1
 rw [hza] at hc0
 have HA:=Lib.hid (ha0.up hbwc)
 have HT:=Lib.hid (show ∃ old,Sb w1 (w.heap.size + 1) old 34 ∧ old.size = 19 from ⟨_,hc0,rfl⟩)
 have hbw:=Bw.trans hbwa hbwc
 have hz1 : w.heap.size + 1 < w1.heap.size:=by omega
 clear hwa ha0 hbwa hza hw1 hc0 hbwc hzc
 go_upto_region 2 with (first
  | ((with_reducible refine wpList_load_sc s w.heap.size (.tmp 3) rfl rfl ?_ ?_ ?_);(focus rfl);(focus (exact HA.out)))
  | (go_at_call 11;refine (svalid_no s cs _ (HR.out.up (Bw.trans hbw BWX)) hn hc HV.out).mono ?_;rintro ee w2 ⟨rfl,hb2⟩;have hbw2 : Bw w1 w2:=Bw.trans (show Bw w1 _ from BWX) hb2;clear hb2)
  | fail)
 have hz2:=hbw2.size
 have HA2:=Lib.hid (HA.out.up hbw2)
 have x2:=HA2.out.cell 2 (v:=.slice s.A s.n s.c) rfl
 go_upto_region 3 with (first
  | (go_at_call 30;refine (gclone_any s.A s.n s.c cs _ (HR.out.up (Bw.trans hbw (Bw.trans hbw2 BWX))) hn (by omega) hc).mono ?_;rintro ee w3 ⟨v,rfl,hown,hb3⟩;obtain ⟨A1,c1,rfl,hc1,hc1m⟩:=own_form hown;have hbw3 : Bw w2 w3:=Bw.trans (show Bw w2 _ from BWX) hb3;have HO3:=Lib.hid hown;have HA3:=Lib.hid (HA2.out.up hbw3);have y2:=HA3.out.cell 2 (v:=.slice s.A s.n s.c) rfl;have z2:=HA3.out.free 2;have hsz2:=(show Bw w2 _ from BWX).size;clear hown hb3 x2)
  | fail)
 have hz3:=hbw3.size
 generalize hw4 : w3.setCell ⟨w.heap.size,2,none⟩ (.slice A1 s.n c1) = w4
 have HA4:=Lib.hid (show Sb w4 w.heap.size (s.gr A1 s.n c1).vals.toArray 34 from by rw [← hw4];exact HA3.out.set 2 _ rfl)
 have hg4 : w3.grownBy w4 (some w.heap.size):=by rw [← hw4];exact grown_set (grown_refl _ _) 2 _
 have HN:=Lib.hid (show ∀ ad,A1 = some ad → w2.heap.size ≤ ad.block from fun ad e => by have h1:=own_new HO3.out ad e;first|exact h1|(simp only [szA,szS,szD,szN] at h1;omega)|omega)
 have HR4:=Lib.hid ((Rg.of_own HO3.out).far hg4 (fun ad e e2 => by have:=HN.out ad e;have:=Option.some.inj e2;omega))
 have HT4:=Lib.hid (show ∃ old,Sb w4 (w.heap.size + 1) old 34 ∧ old.size = 19 from Exists.elim HT.out (fun old h => ⟨old,((h.1.up hbw2).up hbw3).far hg4 (fun e => by have:=Option.some.inj e;omega),h.2⟩))
 have hbw4 : Bw w w4:=Bw.grown (Bw.trans hbw (Bw.trans hbw2 hbw3)) hg4 (fun k hk => by cases hk;omega)
 have hlt4:=HA4.out.lt
 clear hw4 y2 z2
 go_wp2_with (first
  | ((with_reducible refine wpList_load_sc (s.gr A1 s.n c1) w.heap.size (.tmp 3) rfl rfl ?_ ?_ ?_);(focus rfl);(focus (exact HA4.out)))
  | ((with_reducible refine wpList_store_sc (s.gr A1 s.n c1) (w.heap.size + 1) (.tmp 6) (.tmp 20) rfl rfl ?_ ?_ ?_ ?_);(focus rfl);(focus rfl);(focus (exact HT4.out));intro w5 hS5 hg5;have HS5:=Lib.hid hS5;have HG5:=Lib.hid hg5;clear hS5 hg5)
  | fail)
 refine bodyPost_ret (results_sc2 rfl _ _ (w.heap.size + 1) (s.gr A1 s.n c1) (by rfl) HS5.out) rfl ?_
 exact ⟨A1,s.n,c1,rfl,HR4.out.far HG5.out (fun ad e e2 => by have:=HN.out ad e;have:=Option.some.inj e2;omega),hc1,hc1m,Bw.grown hbw4 HG5.out (fun k hk => by cases hk;omega)⟩

set_option maxRecDepth 100000 in
set_option maxHeartbeats 1000000 in
theorem rresizeS_no (s : Scr) (cs : List C4) (rows cols : Int) (w : World) (hr : Rg w s.A s.n cs) (hn : s.n ≤ s.c) (hc : s.c ≤ 9223372036854775807) (hs : scV s cs = false) :
  Calls Tryz.prog 15 #[.agg s.vals.toArray,.int .i64 rows,.int .i64 cols] w (RzI w s cs):=by
 have HR:=Lib.hid hr
 have HV:=Lib.hid hs
 clear hr hs
 go_enter Tryz.func15,Tryz.ntmps15
 go_upto_region 1 with (fail)
 generalize hwa : w.alloc (.cells s.vals.toArray 34) = wa
 obtain ⟨ha0,hbwa,hza⟩:=sb1 hwa
 generalize hw1 : wa.alloc _ = w1
 obtain ⟨hc0,hbwc,hzc⟩:=sb1 hw1
 rw [hza] at hc0
 have HA:=Lib.hid (ha0.up hbwc)
 have HT:=Lib.hid (show ∃ old,Sb w1 (w.heap.size + 1) old 34 ∧ old.size = 19 from ⟨_,hc0,rfl⟩)
 have hbw:=Bw.trans hbwa hbwc
 have hz1 : w.heap.size + 1 < w1.heap.size:=by omega
 clear hwa ha0 hbwa hza hw1 hc0 hbwc hzc
 go_upto_region 2 with (first
  | ((with_reducible refine wpList_load_sc s w.heap.size (.tmp 3) rfl rfl ?_ ?_ ?_);(focus rfl);(focus (exact HA.out)))
  | (go_at_call 39;refine (rsvalid_no s cs _ (HR.out.up (Bw.trans hbw BWX)) hn hc HV.out).mono ?_;rintro ee w2 ⟨rfl,hb2⟩;have hbw2 : Bw w1 w2:=Bw.trans (show Bw w1 _ from BWX) hb2;clear hb2)
  | fail)
 have hz2:=hbw2.size
 have HA2:=Lib.hid (HA.out.up hbw2)
 have HT2:=Lib.hid (show ∃ old,Sb w2 (w.heap.size + 1) old 34 ∧ old.size = 19 from Exists.elim HT.out (fun old h => ⟨old,h.1.up hbw2,h.2⟩))
 have HR2:=Lib.hid (HR.out.up (Bw.trans hbw hbw2))
 go_wp2_with (first
  | ((with_reducible refine wpList_load_sc s w.heap.size (.tmp 3) rfl rfl ?_ ?_ ?_);(focus rfl);(focus (exact HA2.out)))
  | ((with_reducible refine wpList_store_sc s (w.heap.size + 1) (.tmp 6) (.tmp 16) rfl rfl ?_ ?_ ?_ ?_);(focus rfl);(focus rfl);(focus (exact HT2.out));intro w5 hS5 hg5;have HS5:=Lib.hid hS5;have HG5:=Lib.hid hg5;clear hS5 hg5)
  | fail)
 refine bodyPost_ret (results_sc2 rfl _ _ (w.heap.size + 1) s (by rfl) HS5.out) rfl ?_
 have hb5 : Bw w w5:=Bw.grown (Bw.trans hbw hbw2) HG5.out (fun k hk => by cases hk;omega)
 exact ⟨s.A,s.n,s.c,rfl,HR.out.up hb5,hn,hc,hb5⟩

/-- The grid R' x C' in box g7, its m first cells set. -/
def RyR (w : World) (Rn Cn : Nat) (A : Option Addr) (n c : Nat) (cs : List C4) (g7 gp R' C' n2 c2 m : Nat) (sp : List Value) (wr : World) : Prop :=
 Sb wr w.heap.size (grV Rn Cn A n c) 26 ∧ Sb wr g7 (grV R' C' (some ⟨gp,0,none⟩) n2 c2) 26 ∧ (∃ old,Sb wr (w.heap.size + 1) old 26 ∧ old.size = 3) ∧ Wc wr gp (cellsTo C' n2 m (resF Rn Cn cs)) sp ∧ Rg wr A n cs ∧ Bw w wr

set_option maxRecDepth 100000 in
set_option maxHeartbeats 8000000 in
theorem rresize_go (Rn Cn : Nat) (A : Option Addr) (n c : Nat) (cs : List C4) (rows cols : Int) (w : World) (hr : Rg w A n cs) (hn : n ≤ c) (hc : c ≤ 9223372036854775807) (hR1 : 1 ≤ Rn) (hR2 : Rn ≤ 30) (hC1 : 1 ≤ Cn) (hC2 : Cn ≤ 100) (hl : cs.length = Rn * Cn) (hv : gridB Rn Cn cs = true) :
  Calls Tryz.prog 42 #[.agg #[.int .i64 (Rn : Int),.int .i64 (Cn : Int),.slice A n c],.int .i64 rows,.int .i64 cols] w (GrN w (clamp rows 30) (clamp cols 100) (tab (clamp rows 30).toNat (clamp cols 100).toNat (resF Rn Cn cs))):=by
 have HR:=Lib.hid hr
 have HV:=Lib.hid hv
 have HL:=Lib.hid hl
 have hcl : 0 < cs.length:=by rw [hl];exact Nat.mul_pos (by omega) (by omega)
 have hnl:=hr.1
 have HNL:=Lib.hid hnl
 obtain ⟨gs,os,rfl,hx⟩:=hr.2 (by omega)
 have hgs : gs < w.heap.size:=by simpa using lt_of_cell (hx 0 hcl).1
 clear hx
 have h1:=clamp_bd rows 30 (by omega)
 have h2:=clamp_bd cols 100 (by omega)
 have HN:=Lib.hid (rnew16_own rows cols)
 obtain ⟨R',hR⟩ : ∃ R' : Nat,clamp rows 30 = R':=⟨(clamp rows 30).toNat,by omega⟩
 obtain ⟨C',hC⟩ : ∃ C' : Nat,clamp cols 100 = C':=⟨(clamp cols 100).toNat,by omega⟩
 rw [hR] at h1 HN ⊢
 rw [hC] at h2 HN ⊢
 simp only [Int.toNat_natCast]
 clear hR hC hr hv hl hnl
 obtain ⟨h1,h3⟩:=h1
 obtain ⟨h2,h4⟩:=h2
 go_enter Tryz.func42,Tryz.ntmps42
 go_upto_region 1 with (fail)
 generalize hw1 : (w.alloc (.cells #[.int .i64 (Rn : Int),.int .i64 (Cn : Int),.slice (some ⟨gs,os,none⟩) n c] 26)).alloc _ = w1
 obtain ⟨hb0,hb1,hbw,hz⟩:=sb2 hw1
 have HB0:=Lib.hid hb0
 have HB1:=Lib.hid (show ∃ old,Sb w1 (w.heap.size + 1) old 26 ∧ old.size = 3 from ⟨_,hb1,rfl⟩)
 have hz1 : w.heap.size + 1 < w1.heap.size:=by omega
 clear hw1 hb0 hb1 hz
 have x0:=HB0.out.cell 0 (v:=.int .i64 (Rn : Int)) rfl
 have x1:=HB0.out.cell 1 (v:=.int .i64 (Cn : Int)) rfl
 have x2:=HB0.out.cell 2 (v:=.slice (some ⟨gs,os,none⟩) n c) rfl
 go_upto_region 4 with (first
  | (go_at_call 72;refine (rgvalid_any (Rn : Int) (Cn : Int) _ n c cs _ (by exact HR.out.up BWX) hn hc).mono ?_;rintro ee wv ⟨rfl,hbv⟩;rw [HV.out];clear x0 x1 x2;have hzv:=hbv.size)
  | (go_at_call 40;refine (HN.out _).mono ?_;rintro ee w2 ⟨A2,n2,c2,rfl,hown,hn2,hc2,hb2⟩;have hzb2:=hb2.size;have HOWN:=Lib.hid hown;clear hown)
  | ((with_reducible refine wpList_store_gr (R' : Int) (C' : Int) A2 n2 c2 w2.heap.size (.tmp 7) (.tmp 15) rfl rfl ?_ ?_ ?_ ?_);(focus rfl);(focus rfl);(focus (exact ⟨_,heap_at rfl,rfl⟩));intro w3 hS3 hg3;have HS3:=Lib.hid hS3;have HG3:=Lib.hid hg3;clear hS3 hg3)
  | fail)
 have hg3:=HG3.out
 have hb13 : Bw w1 w2:=Bw.trans hbv (by simpa using hb2)
 have hbw2 : Bw w w2:=Bw.trans hbw hb13
 have hb23 : Bw w2 w3:=Bw.grown (show Bw w2 (w2.alloc _) from BWX) hg3 (fun k hk => by cases hk;omega)
 have hown:=HOWN.out
 have hlen:=hown.1
 rw [flat_len] at hlen
 have hn2' : n2 = R' * C':=by
  have e : (List.replicate ((R' : Int) * (C' : Int)).toNat blk).length = R' * C':=by
   rw [List.length_replicate]
   have : ((R' : Int) * (C' : Int)) = ((R' * C' : Nat) : Int):=by simp
   rw [this]
   rfl
  rw [e] at hlen
  omega
 have hpos : 1 ≤ R' * C':=Nat.mul_pos (by omega) (by omega)
 have hn2b : n2 ≤ 3000:=by rw [hn2'];exact Nat.le_trans (Nat.mul_le_mul (show R' ≤ 30 by omega) (show C' ≤ 100 by omega)) (by omega)
 obtain ⟨gp,sp,rfl,hgp1,hwc⟩:=Wc.of_own hown (by omega)
 have hgp2:=hwc.lt
 have hrep : (List.replicate ((R' : Int) * (C' : Int)).toNat blk) = cellsTo C' n2 0 (resF Rn Cn cs):=by
  rw [cellsTo_zero,hn2']
  have : ((R' : Int) * (C' : Int)) = ((R' * C' : Nat) : Int):=by simp
  rw [this]
  rfl
 rw [hrep] at hwc
 have hgpz : w.heap.size + 1 < gp:=by first|omega|(simp at hgp1;omega)
 have HST:=Lib.hid (show RyR w Rn Cn (some ⟨gs,os,none⟩) n c cs w2.heap.size gp R' C' n2 c2 0 sp w3 from ⟨HB0.out.up (Bw.trans hb13 hb23),HS3.out,Exists.elim HB1.out (fun old h => ⟨old,h.1.up (Bw.trans hb13 hb23),h.2⟩),hwc.up hb23,HR.out.up (Bw.trans hbw2 hb23),Bw.trans hbw2 hb23⟩)
 have hgpg : gp < w2.heap.size:=hgp2
 have HN2:=Lib.hid hn2'
 obtain ⟨g7,hg7⟩ : ∃ g7,w2.heap.size = g7:=⟨_,rfl⟩
 rw [hg7] at HST hgpg
 simp only [hg7]
 clear hn2' hrep hwc hgp1 hgp2 hown hlen hb13 hbw2 hb23 hg3 HS3 HG3 HOWN HB0 HB1 HR hg7 hbv hb2 hzb2 hzv hz1 hpos
 go_wp2_with fail
 go_loopw [8] (fun i wr => ∃ k : Nat,i = .int .i64 k ∧ k ≤ n2 ∧ RyR w Rn Cn (some ⟨gs,os,none⟩) n c cs g7 gp R' C' n2 c2 k sp wr) (fun i _ => n2 - (intOf i).toNat)
 case atStart => exact ⟨0,rfl,by omega,HST.out⟩
 case round =>
  rename_i wr
  obtain ⟨k,rfl,hk,hS0,hS7,hold,hW,hRg,hbwr⟩:=hrel
  have HS0:=Lib.hid hS0
  have HS7:=Lib.hid hS7
  have HOLD:=Lib.hid hold
  have HWC:=Lib.hid hW
  have HRG:=Lib.hid hRg
  have HBW:=Lib.hid hbwr
  clear hS0 hS7 hold hW hRg hbwr
  have y2:=HS7.out.cell 2 (v:=.slice (some ⟨gp,0,none⟩) n2 c2) rfl
  have hbz:=HBW.out.size
  by_cases hlt : k < n2
  ·have hkM : (k : Int) < n2:=by omega
   have hk0 : (0 : Int) ≤ (k : Int):=by omega
   obtain ⟨r,hrr⟩ : ∃ r : Nat,k / C' = r:=⟨_,rfl⟩
   obtain ⟨q,hqq⟩ : ∃ q : Nat,k % C' = q:=⟨_,rfl⟩
   have hri : (k : Int) / (C' : Int) = (r : Int):=by rw [← hrr];rfl
   have hqi : (k : Int) % (C' : Int) = (q : Int):=by rw [← hqq];rfl
   have hC0 : ¬ C' = 0:=by omega
   have hqt : (k : Int).tmod (C' : Int) = (q : Int):=by rw [Int.tmod_eq_emod_of_nonneg (by omega)];exact hqi
   have hr3 : r ≤ 3000:=by rw [← hrr];exact Nat.le_trans (Nat.div_le_self _ _) (by omega)
   have hq3 : q ≤ 100:=by have:=Nat.mod_lt k (show 0 < C' by omega);omega
   have hwr : IntKind.i64.wrap (r : Int) = (r : Int):=IntWalk.i64_in _ (by omega)
   have hgn : gp ≠ gs:=by omega
   have hlens : (cellsTo C' n2 k (resF Rn Cn cs)).length = n2:=cellsTo_len _ _ _ _
   have HLAW:=Lib.hid (show (cellsTo C' n2 k (resF Rn Cn cs)).set k (atF Rn Cn cs r q (32,0,0,0)) = cellsTo C' n2 (k + 1) (resF Rn Cn cs) from by
    have h:=cellsTo_set (C':=C') (resF Rn Cn cs) hlt
    rw [hrr,hqq] at h
    exact h)
   obtain ⟨⟨x1,x2,x3,x4⟩,hxx⟩ : ∃ x,x = atF Rn Cn cs r q (32,0,0,0):=⟨_,rfl⟩
   rw [← hxx] at HLAW
   have HXX:=Lib.hid hxx
   have HRQ:=Lib.hid (And.intro hrr (And.intro hqq hlens))
   clear hrr hqq hlens hxx
   have HY:=Lib.hid (show ∀ w',Bw wr w' → (w'.cell? ⟨g7,2,none⟩ = some (.slice (some ⟨gp,0,none⟩) n2 c2) ∧ w'.cell? ⟨g7,1,none⟩ = some (.int .i64 (C' : Int)) ∧ w'.cell? ⟨w.heap.size,0,none⟩ = some (.int .i64 (Rn : Int)) ∧ w'.cell? ⟨w.heap.size,1,none⟩ = some (.int .i64 (Cn : Int)) ∧ w'.cell? ⟨w.heap.size,2,none⟩ = some (.slice (some ⟨gs,os,none⟩) n c)) from fun w' hb => ⟨(HS7.out.up hb).cell 2 rfl,(HS7.out.up hb).cell 1 rfl,(HS0.out.up hb).cell 0 rfl,(HS0.out.up hb).cell 1 rfl,(HS0.out.up hb).cell 2 rfl⟩)
   have hkl : k < (cellsTo C' n2 k (resF Rn Cn cs)).length:=by rw [cellsTo_len];exact hlt
   have HYg:=Lib.hid (show ∀ w',wr.grownBy w' (some gp) → (w'.cell? ⟨g7,2,none⟩ = some (.slice (some ⟨gp,0,none⟩) n2 c2) ∧ w'.cell? ⟨g7,1,none⟩ = some (.int .i64 (C' : Int)) ∧ w'.cell? ⟨w.heap.size,0,none⟩ = some (.int .i64 (Rn : Int)) ∧ w'.cell? ⟨w.heap.size,1,none⟩ = some (.int .i64 (Cn : Int)) ∧ w'.cell? ⟨w.heap.size,2,none⟩ = some (.slice (some ⟨gs,os,none⟩) n c)) from fun w' hb => ⟨(HS7.out.far hb (by intro e;have:=Option.some.inj e;omega)).cell 2 rfl,(HS7.out.far hb (by intro e;have:=Option.some.inj e;omega)).cell 1 rfl,(HS0.out.far hb (by intro e;have:=Option.some.inj e;omega)).cell 0 rfl,(HS0.out.far hb (by intro e;have:=Option.some.inj e;omega)).cell 1 rfl,(HS0.out.far hb (by intro e;have:=Option.some.inj e;omega)).cell 2 rfl⟩)
   go_upto_region 7 with (fail)
   clear y2
   refine wp_region_held_drew (S:=(fun w' => w'.cell? ⟨g7,2,none⟩ = some (.slice (some ⟨gp,0,none⟩) n2 c2) ∧ w'.cell? ⟨g7,1,none⟩ = some (.int .i64 (C' : Int)) ∧ w'.cell? ⟨w.heap.size,0,none⟩ = some (.int .i64 (Rn : Int)) ∧ w'.cell? ⟨w.heap.size,1,none⟩ = some (.int .i64 (Cn : Int)) ∧ w'.cell? ⟨w.heap.size,2,none⟩ = some (.slice (some ⟨gs,os,none⟩) n c))) (by kernel_rfl) ?_ (fun hHeld => ?_)
   ·(try dsimp only);(first|(with_reducible exact HYg.out _ (grown_set (grown_set (grown_set (grown_set (grown_bw hbra (some gp)) _ _) _ _) _ _) _ _))|(refine HY.out _ ?_;(repeat (first|with_reducible (first|assumption|exact Bw.refl _|refine Bw.alloc ?_ _|refine Bw.more ?_ _ _|refine Bw.drew ?_|refine Bw.drewN ?_ _)|((with_reducible refine Bw.set2 ?_ ?_ _);(focus exact SZX))|with_reducible refine Bw.trans ?_ (by assumption)));done))
   refine tkQ 0 ?_
   refine tkQ 1 ?_
   (try simp only [Act.put,zP1,zP2,zP3,zP4,zP5,zP6])
   refine tkQ 2 ?_
   refine tkQ 3 ?_
   refine tkQ 4 ?_
   (try simp only [Act.put,zP1,zP2,zP3,zP4,zP5,zP6])
   refine tkQ 5 ?_
   refine tkQ 6 ?_
   refine tkQ 7 ?_
   (try simp only [Act.put,zP1,zP2,zP3,zP4,zP5,zP6])
   refine tkQ 8 ?_
   refine tkQ 9 ?_
   refine tkQ 10 ?_
   (try simp only [Act.put,zP1,zP2,zP3,zP4,zP5,zP6])
   refine tkQ 11 ?_
   refine tkQ 12 ?_
   (try simp only [Act.put,zP1,zP2,zP3,zP4,zP5,zP6])
   refine wpAnyH_ready (rs:=[13]) (by kernel_rfl) (by simp) ?_
   refine AllReadyH.cons rfl (fun K hK => ?_) ?_
   ·go_simp
    (try rw [hwr]);(try rw [hqt]);refine (rat_any Rn Cn (some ⟨gs,os,none⟩) n c cs r q 32 0 0 0 _ hR2 hC2 (HNL.out.symm.trans HL.out) (HRG.out.up BWX) hn hc).mono ?_;rintro ee wa ⟨rfl,hba⟩;rw [← HXX.out];dsimp only [c4V];have hbra : Bw wr wa:=Bw.trans (show Bw wr _ from BWX) hba;have HWa:=Lib.hid (HWC.out.up hbra);obtain ⟨a1,a2,a3,a4⟩:=HWa.out.cells k hkl;have f1:=HWa.out.free (k * 4);have f2:=HWa.out.free (k * 4 + 1);have f3:=HWa.out.free (k * 4 + 2);have f4:=HWa.out.free (k * 4 + 3);clear hba;go_wp2_with fail
    refine hK.out _ _ ?_ (fun hHeld => ?_)
    ·(try dsimp only);(first|(with_reducible exact HYg.out _ (grown_set (grown_set (grown_set (grown_set (grown_bw hbra (some gp)) _ _) _ _) _ _) _ _))|(refine HY.out _ ?_;(repeat (first|with_reducible (first|assumption|exact Bw.refl _|refine Bw.alloc ?_ _|refine Bw.more ?_ _ _|refine Bw.drew ?_|refine Bw.drewN ?_ _)|((with_reducible refine Bw.set2 ?_ ?_ _);(focus exact SZX))|with_reducible refine Bw.trans ?_ (by assumption)));done))
    clear hK K
    (try simp only [Act.put,zP1,zP2,zP3,zP4,zP5,zP6])
    refine wpAnyH_ready (rs:=[14]) (by kernel_rfl) (by simp) ?_
    refine AllReadyH.cons rfl (fun K hK => ?_) ?_
    ·go_simp
     refine hK.out _ _ ?_ (fun hHeld => ?_)
     ·(try dsimp only);(first|(with_reducible exact HYg.out _ (grown_set (grown_set (grown_set (grown_set (grown_bw hbra (some gp)) _ _) _ _) _ _) _ _))|(refine HY.out _ ?_;(repeat (first|with_reducible (first|assumption|exact Bw.refl _|refine Bw.alloc ?_ _|refine Bw.more ?_ _ _|refine Bw.drew ?_|refine Bw.drewN ?_ _)|((with_reducible refine Bw.set2 ?_ ?_ _);(focus exact SZX))|with_reducible refine Bw.trans ?_ (by assumption)));done))
     clear hK K
     (try simp only [Act.put,zP1,zP2,zP3,zP4,zP5,zP6])
     refine wpAnyH_ready (rs:=[15]) (by kernel_rfl) (by simp) ?_
     refine AllReadyH.cons rfl (fun K hK => ?_) ?_
     ·go_simp
      refine hK.out _ _ ?_ (fun hHeld => ?_)
      ·(try dsimp only);(first|(with_reducible exact HYg.out _ (grown_set (grown_set (grown_set (grown_set (grown_bw hbra (some gp)) _ _) _ _) _ _) _ _))|(refine HY.out _ ?_;(repeat (first|with_reducible (first|assumption|exact Bw.refl _|refine Bw.alloc ?_ _|refine Bw.more ?_ _ _|refine Bw.drew ?_|refine Bw.drewN ?_ _)|((with_reducible refine Bw.set2 ?_ ?_ _);(focus exact SZX))|with_reducible refine Bw.trans ?_ (by assumption)));done))
      clear hK K
      (try simp only [Act.put,zP1,zP2,zP3,zP4,zP5,zP6])
      refine wpAnyH_done (by kernel_rfl) ?_ _
      go_wp2_with fail
      go_roundw
      case rel =>
       have hst:=HWa.out.store k hkl (x1,x2,x3,x4)
       rw [HLAW.out] at hst
       have hgg:=grown_bw hbra (some gp)
       have hg4 : wr.grownBy ((((wa.setCell ⟨gp,k * 4,none⟩ (.int .i64 x1)).setCell ⟨gp,k * 4 + 1,none⟩ (.int .i64 x2)).setCell ⟨gp,k * 4 + 2,none⟩ (.int .i64 x3)).setCell ⟨gp,k * 4 + 3,none⟩ (.int .i64 x4)) (some gp):=grown_set (grown_set (grown_set (grown_set hgg _ _) _ _) _ _) _ _
       exact ⟨k + 1,by go_num,by omega,HS0.out.far hg4 (by intro e;have:=Option.some.inj e;omega),HS7.out.far hg4 (by intro e;have:=Option.some.inj e;omega),Exists.elim HOLD.out (fun old h => ⟨old,h.1.far hg4 (by intro e;have:=Option.some.inj e;omega),h.2⟩),hst,HRG.out.far hg4 (fun ad e e2 => by cases e;exact hgn (Option.some.inj e2).symm),Bw.grown HBW.out hg4 (fun j hj => by cases hj;omega)⟩
      case measure => simp [intOf];omega
     exact AllReadyH.nil
    exact AllReadyH.nil
   exact AllReadyH.nil
  ·have hkM : ¬ (k : Int) < n2:=by omega
   obtain rfl : k = n2:=by omega
   have hall : cellsTo C' k k (resF Rn Cn cs) = tab R' C' (resF Rn Cn cs):=by
    have h:=HN2.out
    conv => lhs;rw [h]
    exact cellsTo_all _ _ _
   have HALL:=Lib.hid hall
   clear hall
   have y0:=HS7.out.cell 0 (v:=.int .i64 R') rfl
   have y1:=HS7.out.cell 1 (v:=.int .i64 C') rfl
   go_wp2_with (first
    | ((with_reducible refine wpList_store_gr (R' : Int) (C' : Int) (some ⟨gp,0,none⟩) k c2 (w.heap.size + 1) (.tmp 6) (.tmp 38) rfl rfl ?_ ?_ ?_ ?_);(focus rfl);(focus rfl);(focus (exact HOLD.out));intro w4 hS4 hg4;have HS4:=Lib.hid hS4;have HG4:=Lib.hid hg4;clear hS4 hg4)
    | fail)
   refine bodyPost_ret (results_gr rfl _ _ (w.heap.size + 1) R' C' (some ⟨gp,0,none⟩) k c2 (by rfl) HS4.out) rfl ?_
   have hrg:=HWC.out.rg
   rw [cellsTo_len,HALL.out] at hrg
   exact ⟨_,k,c2,rfl,hrg.far HG4.out (fun ad e e2 => by cases e;have:=Option.some.inj e2;simp at this;omega),hn2,hc2,(fun ad e => by cases e;show w.heap.size ≤ gp;omega),Bw.grown HBW.out HG4.out (fun j hj => by cases hj;omega)⟩


theorem rresize_new (Rn Cn : Nat) (A : Option Addr) (n c : Nat) (cs : List C4) (rows cols : Int) (w : World) (hr : Rg w A n cs) (hn : n ≤ c) (hc : c ≤ 9223372036854775807) (hv : gridB Rn Cn cs = true) :
  Calls Tryz.prog 42 #[.agg #[.int .i64 (Rn : Int),.int .i64 (Cn : Int),.slice A n c],.int .i64 rows,.int .i64 cols] w (GrN w (rsR Rn Cn cs rows) (rsC Rn Cn cs cols) (rsG Rn Cn cs rows cols)):=by
 obtain ⟨d1,d2,d3,d4,d5⟩:=gridB_dim hv
 rw [show rsR Rn Cn cs rows = clamp rows 30 by unfold rsR;rw [if_pos hv],show rsC Rn Cn cs cols = clamp cols 100 by unfold rsC;rw [if_pos hv],show rsG Rn Cn cs rows cols = tab (clamp rows 30).toNat (clamp cols 100).toNat (resF Rn Cn cs) by unfold rsG;rw [if_pos hv,Int.toNat_natCast,Int.toNat_natCast]]
 exact rresize_go Rn Cn A n c cs rows cols w hr hn hc (by omega) (by omega) (by omega) (by omega) (by rw [← Int.natCast_mul] at d5;omega) hv

set_option maxRecDepth 100000 in
set_option maxHeartbeats 2000000 in
theorem rresizeS_yes (s : Scr) (cs : List C4) (rows cols : Int) (R C : Nat) (w : World) (hR : clamp rows 30 = R) (hC : clamp cols 100 = C) (hs : s.Ok w) (hr : Rg w s.A s.n cs) (hg : gridB s.Rn s.Cn cs = true) :
  Calls Tryz.prog 15 #[.agg s.vals.toArray,.int .i64 rows,.int .i64 cols] w (RzP w s cs R C):=by
 obtain ⟨j0,hj,hj0,hj1,hj2⟩:=info_parts infoL
 have HOK:=Lib.hid hs
 have HR:=Lib.hid hr
 have HGR:=Lib.hid hg
 have HS:=Lib.hid (rzQ_rs hg hR hC)
 have HQV:=Lib.hid (show gridB s.Rn s.Cn (rzQ s cs R) = true from scrollG_ok hg)
 have HN:=Lib.hid (show s.n ≤ s.c ∧ s.c ≤ 9223372036854775807 ∧ s.n ≤ 3000 from by
  obtain ⟨⟨h1,h2,h3,h4,h5,h6,h7,-⟩,-⟩:=hs
  exact ⟨h6,h7,by rw [h5];have:=Nat.mul_le_mul h2 h4;omega⟩)
 have hcb:=clamp_bd rows 30 (by omega)
 have hcb2:=clamp_bd cols 100 (by omega)
 rw [hR] at hcb
 rw [hC] at hcb2
 obtain ⟨hR1,hR2⟩:=hcb
 obtain ⟨hC1,hC2⟩:=hcb2
 obtain ⟨hS1,hS2,hS3,hS4,-⟩:=gridB_dim hg
 have hrow0:=hs.num.2.1.1
 have hrow1:=hs.num.2.1.2.1
 have hcol0:=hs.num.2.1.2.2.1
 have hcol1:=hs.num.2.1.2.2.2
 have hsr0:=hs.num.2.2.2.2.1.1
 have hsr1:=hs.num.2.2.2.2.1.2.1
 have hsc0:=hs.num.2.2.2.2.1.2.2.1
 have hsc1:=hs.num.2.2.2.2.1.2.2.2
 have HK1:=Lib.hid (show clamp rows 30 = R ∧ clamp cols 100 = C from ⟨hR,hC⟩)
 clear hs hr hg hR hC
 go_enter Tryz.func15,Tryz.ntmps15
 go_upto_region 1 with (fail)
 generalize hwa : w.alloc (.cells s.vals.toArray 34) = wa
 obtain ⟨ha0,hbwa,hza⟩:=sb1 hwa
 generalize hw1 : wa.alloc _ = w1
 obtain ⟨hc0,hbwc,hzc⟩:=sb1 hw1
 rw [hza] at hc0
 have HA:=Lib.hid (ha0.up hbwc)
 have HT:=Lib.hid (show ∃ old,Sb w1 (w.heap.size + 1) old 34 ∧ old.size = 19 from ⟨_,hc0,rfl⟩)
 have hbw:=Bw.trans hbwa hbwc
 have hz1 : w.heap.size + 1 < w1.heap.size:=by omega
 clear hwa ha0 hbwa hza hw1 hc0 hbwc hzc
 go_upto_region 3 with (first
  | ((with_reducible refine wpList_load_sc s w.heap.size (.tmp 3) rfl rfl ?_ ?_ ?_);(focus rfl);(focus (exact HA.out)))
  | (go_at_call 39;refine (rsvalid_ok s _ (HOK.out.up (Bw.trans hbw BWX))).mono ?_;rintro ee w2 ⟨rfl,hb2⟩;have hbw2 : Bw w1 w2:=Bw.trans (show Bw w1 _ from BWX) hb2;clear hb2)
  | fail)
 have hz2:=hbw2.size
 go_upto_region 4 with (first
  | (go_at_call 40;refine (rnew16_any _ _ _).mono ?_;rw [HK1.out.1,HK1.out.2];rintro ee w4 ⟨A0,n0,c0,rfl,-,-,-,-,hb4⟩;have hb24 : Bw w2 w4:=Bw.trans (show Bw w2 _ from BWX) hb4;clear hb4)
  | fail)
 have hz4:=hb24.size
 generalize hw5 : w4.alloc _ = w5
 obtain ⟨hb5,hbw5,hz5⟩:=sb1 hw5
 have hltf:=hb5.lt
 have HA5:=Lib.hid (((HA.out.up hbw2).up hb24).up hbw5)
 have HT5:=Lib.hid (show ∃ old,Sb w5 (w.heap.size + 1) old 34 ∧ old.size = 19 from Exists.elim HT.out (fun old h => ⟨old,((h.1.up hbw2).up hb24).up hbw5,h.2⟩))
 have HBW5:=Lib.hid (Bw.trans hbw (Bw.trans hbw2 (Bw.trans hb24 hbw5)))
 have HR5:=Lib.hid (HR.out.up HBW5.out)
 have f0:=hb5.cell 0 (v:=.int .i64 (R : Int)) rfl
 have a3:=HA5.out.cell 3 (v:=.int .i64 s.row) rfl
 have hlta:=HA5.out.lt
 clear hw5 hb5 hbw5 hb24 hbw2 hbw HA HT
 go_upto_region 6 with (fail)
 have hq : (if 0 < s.row - (R : Int) + 1 then s.row - (R : Int) + 1 else 0) = ((rzN s R : Nat) : Int):=by unfold rzN;split <;> omega
 rw [hq]
 obtain ⟨m,hm⟩ : ∃ m,rzN s R = m:=⟨_,rfl⟩
 rw [hm]
 have hm30 : m ≤ 30:=by rw [← hm];unfold rzN;omega
 have hmr : (m : Int) ≤ s.row:=by rw [← hm];unfold rzN;omega
 have HM:=Lib.hid hm
 clear f0 a3 hq hm
 go_wp2_with fail
 go_loopw [9,11] (fun v i wr => ∃ (k : Nat) (vs : List Value),i = .int .i64 k ∧ k ≤ m ∧ wr.ownsRow w5.heap.size 24 1 v k vs ∧ RwsF wr vs (rwF s cs) ∧ Bw w5 wr) (fun _ i _ => ((m : Int) - intOf i).toNat)
 case atStart => exact ⟨0,[],rfl,by omega,World.ownsRow_nil _ _ _ _,RwsF.nil_ _ _,BWX⟩
 case round =>
  obtain ⟨k,vs,rfl,hk,hown,hrws,hbwr⟩:=hrel
  obtain ⟨A6,c6,rfl,hc6,hc6m⟩:=own_form hown
  have HO:=Lib.hid hown
  have HF:=Lib.hid hrws
  have HAr:=Lib.hid (HA5.out.up hbwr)
  have HRr:=Lib.hid (HR5.out.up hbwr)
  have hzr:=hbwr.size
  have hltr:=HAr.out.lt
  (have x0:=HAr.out.cell 0 (v:=.int .i64 (s.Rn : Int)) rfl;have x1:=HAr.out.cell 1 (v:=.int .i64 (s.Cn : Int)) rfl;have x2:=HAr.out.cell 2 (v:=.slice s.A s.n s.c) rfl)
  clear hown hrws
  by_cases hlt : (k : Int) < m
  ·go_wp2_with (first
    | (go_at_call 41;refine (rrow_own s.Rn s.Cn s.A s.n s.c cs k _ (by exact HRr.out.up BWX) HN.out.1 (by have:=HN.out.2.2;omega) HN.out.2.1).mono ?_;rintro ee w6 ⟨Ar,nr,cr,rfl,hnr,ho2,hb2⟩;have hbw2 : Bw wr w6:=Bw.trans (show Bw wr _ from BWX) hb2;have HO2:=Lib.hid (HO.out.bw hbw2);have HF2:=Lib.hid (HF.out.up hbw2);have HR2:=Lib.hid (show w6.ownsRow 0 53 4 (.slice Ar nr cr) (rwF s cs k).length (flat (rwF s cs k)) by unfold rwF;rw [← hnr];exact ho2);have hz2:=hbw2.size;clear hb2 hnr ho2)
    | (at_builtin;refine wpList_append_srcG (by rfl) (.tmp 33) (.tmp 38) 40 rfl w5.heap.size 24 j0 (.slice none 0 0) 1 24 Tryz.underlying40 hj hj0 hj1 hj2 rfl (by decide) (.slice A6 k c6) k vs (by rfl) (HO2.out.bw BWX) (some ⟨_,0,none⟩) 1 1 [.slice Ar nr cr] (by rfl) rfl (fun e => by cases e) (fun ad e => by cases e;exact cell_one_new _ _ _) (by simp;rfl) (by unfold maxLen;omega) (by omega) SZX ?_;intro v7 w7 hown7 hg7;obtain ⟨A7,c7,rfl,hc7,hc7m⟩:=own_form hown7;have HF7:=Lib.hid (RwsF.app hg7 (HO2.out.bw BWX) (HF2.out.up BWX) (HR2.out.bw BWX));have hbw7 : Bw w5 w7:=Bw.row (show Bw w5 (w6.alloc _) from Bw.alloc (Bw.trans hbwr hbw2) _) (HO2.out.bw BWX) hg7 (Nat.le_refl _);have HO7:=Lib.hid hown7;clear hown7 hg7)
    | fail)
   go_roundw
   case rel => exact ⟨k + 1,vs ++ [.slice Ar nr cr],by go_num,by omega,HO7.out,HF7.out,hbw7⟩
   case measure => simp [intOf];omega
  ·obtain rfl : k = m:=by omega
   go_upto_region 11 with (first
    | (go_at_call 43;refine (rscroll_any s.Rn s.Cn s.A s.n s.c cs 0 ((s.Rn : Int) - 1) (k : Int) 32 0 0 0 _ (by exact HRr.out.up BWX) HN.out.1 HN.out.2.1).mono ?_;rintro ee w6 ⟨A1,n1,c1,rfl,hr6,hn6,hc6',hb6⟩;have hbw6 : Bw wr w6:=Bw.trans (show Bw wr _ from BWX) hb6;have HR6:=Lib.hid (show Rg w6 A1 n1 (rzQ s cs R) from by unfold rzQ;rw [HM.out];exact hr6);clear hr6 hb6)
    | (go_at_call 42;refine (rresize_new s.Rn s.Cn A1 n1 c1 (rzQ s cs R) rows cols _ (HR6.out.up BWX) hn6 hc6' HQV.out).mono ?_;rw [HS.out.1,HS.out.2.1,HS.out.2.2];rintro ee w7 ⟨A,n,c,rfl,hr7,hn7,hc7,hA7,hb7⟩;have hbw7 : Bw wr w7:=Bw.trans (show Bw wr _ from Bw.trans hbw6 BWX) hb7;have HR7:=Lib.hid hr7;have HNA:=Lib.hid (show ∀ ad,A = some ad → wr.heap.size ≤ ad.block from fun ad e => by have h1:=hA7 ad e;have h2:=hbw6.size;first|omega|(simp only [szA,szS,szD,szN] at h1;omega));clear hr7 hA7 hb7)
    | fail)
   have hz7:=hbw7.size
   generalize hw8 : w7.alloc _ = w8
   obtain ⟨hb8,hbw8,hz8⟩:=sb1 hw8
   obtain ⟨gq,hgq⟩ : ∃ gq,gq = w7.heap.size:=⟨_,rfl⟩
   rw [← hgq] at hb8 ⊢
   have hbr8 : Bw wr w8:=Bw.trans hbw7 hbw8
   have HQ8:=Lib.hid hb8
   have hltq:=hb8.lt
   have hgq0 : w.heap.size + 1 < gq:=by omega
   have HA8:=Lib.hid (HAr.out.up hbr8)
   have HT8:=Lib.hid (show ∃ old,Sb w8 (w.heap.size + 1) old 34 ∧ old.size = 19 from Exists.elim HT5.out (fun old h => ⟨old,(h.1.up hbwr).up hbr8,h.2⟩))
   have HR8:=Lib.hid (HR7.out.up hbw8)
   have HL8:=Lib.hid (show LsF w8 w5.heap.size A6 k c6 (rwF s cs) from ⟨vs,HO.out.bw hbr8,HF.out.up hbr8⟩)
   have HBW8:=Lib.hid (Bw.trans HBW5.out (Bw.trans hbwr hbr8))
   have HNE:=Lib.hid (show ∀ ad,A = some ad → w.heap.size + 1 < ad.block from fun ad e => by have:=HNA.out ad e;omega)
   clear x0 x1 x2 hw8 hb8 hbw8 hz8 hgq hbw7 hbw6
   have HY:=Lib.hid (show ∀ w',Bw w8 w' → (w'.cell? ⟨gq,0,none⟩ = some (.int .i64 (R : Int)) ∧ w'.cell? ⟨gq,1,none⟩ = some (.int .i64 (C : Int)) ∧ w'.cell? ⟨gq,2,none⟩ = some (.slice A n c)) from fun w' hb => ⟨(HQ8.out.up hb).cell 0 rfl,(HQ8.out.up hb).cell 1 rfl,(HQ8.out.up hb).cell 2 rfl⟩)
   have hne : w.heap.size ≠ gq:=by omega
   have hlt8:=HA8.out.lt
   refine wp_region_held_drew (S:=(fun w' => w'.cell? ⟨gq,0,none⟩ = some (.int .i64 (R : Int)) ∧ w'.cell? ⟨gq,1,none⟩ = some (.int .i64 (C : Int)) ∧ w'.cell? ⟨gq,2,none⟩ = some (.slice A n c))) (by kernel_rfl) ?_ (fun hHeld => ?_)
   ·(try dsimp only);(first|(refine HY.out _ ?_;(repeat (first|with_reducible (first|assumption|exact Bw.refl _|refine Bw.alloc ?_ _|refine Bw.more ?_ _ _|refine Bw.drew ?_|refine Bw.drewN ?_ _)|((with_reducible refine Bw.set2 ?_ ?_ _);(focus exact SZX))|with_reducible refine Bw.trans ?_ (by assumption)));done)|exact ⟨CELAX,CELAX,CELAX⟩)
   refine tkQ 0 ?_
   (try simp only [Act.put,zP1,zP2,zP3,zP4,zP5,zP6])
   refine tkQ 1 ?_
   refine tkQ 2 ?_
   refine tkQ 4 ?_
   (try simp only [Act.put,zP1,zP2,zP3,zP4,zP5,zP6])
   refine wpAnyH_ready (rs:=[3]) (by kernel_rfl) (by simp) ?_
   refine AllReadyH.cons rfl (fun K hK => ?_) ?_
   ·go_simp
    refine (rsall_any (R : Int) _ hR1 (by omega)).mono ?_;rintro ee wb ⟨rfl,hbb⟩;have hbwb : Bw w8 wb:=Bw.trans (show Bw w8 _ from BWX) hbb;clear hbb;have HAb:=Lib.hid (HA8.out.up hbwb);have hltb:=HAb.out.lt;have y0:=HAb.out.cell 0 (v:=.int .i64 (s.Rn : Int)) rfl;have z0:=HAb.out.free 0;have y1:=HAb.out.cell 1 (v:=.int .i64 (s.Cn : Int)) rfl;have z1:=HAb.out.free 1;have y2:=HAb.out.cell 2 (v:=.slice s.A s.n s.c) rfl;have z2:=HAb.out.free 2;have y9:=HAb.out.cell 9 (v:=.int .i64 s.top) rfl;have z9:=HAb.out.free 9;have y10:=HAb.out.cell 10 (v:=.int .i64 s.bot) rfl;have z10:=HAb.out.free 10;have q0:=(HQ8.out.up hbwb).cell 0 (v:=.int .i64 (R : Int)) rfl;have q1:=(HQ8.out.up hbwb).cell 1 (v:=.int .i64 (C : Int)) rfl;have q2:=(HQ8.out.up hbwb).cell 2 (v:=.slice A n c) rfl;go_wp2_with fail
    refine hK.out _ _ ?_ (fun hHeld => ?_)
    ·(try dsimp only);(first|(refine HY.out _ ?_;(repeat (first|with_reducible (first|assumption|exact Bw.refl _|refine Bw.alloc ?_ _|refine Bw.more ?_ _ _|refine Bw.drew ?_|refine Bw.drewN ?_ _)|((with_reducible refine Bw.set2 ?_ ?_ _);(focus exact SZX))|with_reducible refine Bw.trans ?_ (by assumption)));done)|exact ⟨CELAX,CELAX,CELAX⟩)
    clear hK K
    (try simp only [Act.put,zP1,zP2,zP3,zP4,zP5,zP6])
    refine wpAnyH_ready (rs:=[5]) (by kernel_rfl) (by simp) ?_
    refine AllReadyH.cons rfl (fun K hK => ?_) ?_
    ·go_simp
     refine hK.out _ _ ?_ (fun hHeld => ?_)
     ·(try dsimp only);(first|(refine HY.out _ ?_;(repeat (first|with_reducible (first|assumption|exact Bw.refl _|refine Bw.alloc ?_ _|refine Bw.more ?_ _ _|refine Bw.drew ?_|refine Bw.drewN ?_ _)|((with_reducible refine Bw.set2 ?_ ?_ _);(focus exact SZX))|with_reducible refine Bw.trans ?_ (by assumption)));done)|exact ⟨CELAX,CELAX,CELAX⟩)
     clear hK K
     (try simp only [Act.put,zP1,zP2,zP3,zP4,zP5,zP6])
     refine tkQ 6 ?_
     (try simp only [Act.put,zP1,zP2,zP3,zP4,zP5,zP6])
     refine wpAnyH_ready (rs:=[7]) (by kernel_rfl) (by simp) ?_
     refine AllReadyH.cons rfl (fun K hK => ?_) ?_
     ·go_simp
      refine hK.out _ _ ?_ (fun hHeld => ?_)
      ·(try dsimp only);(first|(refine HY.out _ ?_;(repeat (first|with_reducible (first|assumption|exact Bw.refl _|refine Bw.alloc ?_ _|refine Bw.more ?_ _ _|refine Bw.drew ?_|refine Bw.drewN ?_ _)|((with_reducible refine Bw.set2 ?_ ?_ _);(focus exact SZX))|with_reducible refine Bw.trans ?_ (by assumption)));done)|exact ⟨CELAX,CELAX,CELAX⟩)
      clear hK K
      (try simp only [Act.put,zP1,zP2,zP3,zP4,zP5,zP6])
      refine wpAnyH_done (by kernel_rfl) ?_ _
      generalize hw9 : ((((wb.setCell ⟨w.heap.size,0,none⟩ (.int .i64 (R : Int))).setCell ⟨w.heap.size,1,none⟩ (.int .i64 (C : Int))).setCell ⟨w.heap.size,2,none⟩ (.slice A n c)).setCell ⟨w.heap.size,9,none⟩ (.int .i64 0)).setCell ⟨w.heap.size,10,none⟩ (.int .i64 ((R : Int) - 1)) = w9
      have HA9:=Lib.hid (show Sb w9 w.heap.size ({ s with Rn:=R,Cn:=C,A:=A,n:=n,c:=c,top:=0,bot:=(R : Int) - 1 } : Scr).vals.toArray 34 from by rw [← hw9];exact ((((HAb.out.set 0 _ rfl).set 1 _ rfl).set 2 _ rfl).set 9 _ rfl).set 10 _ rfl)
      have hg9 : w8.grownBy w9 (some w.heap.size):=by rw [← hw9];exact grown_set (grown_set (grown_set (grown_set (grown_set (grown_bw hbwb _) 0 _) 1 _) 2 _) 9 _) 10 _
      have hqn : some gq ≠ some w.heap.size:=fun e => by have:=Option.some.inj e;omega
      have htn : some (w.heap.size + 1) ≠ some w.heap.size:=fun e => by have:=Option.some.inj e;omega
      have HQ9:=Lib.hid (HQ8.out.far hg9 hqn)
      have HT9:=Lib.hid (show ∃ old,Sb w9 (w.heap.size + 1) old 34 ∧ old.size = 19 from Exists.elim HT8.out (fun old h => ⟨old,h.1.far hg9 htn,h.2⟩))
      have HR9:=Lib.hid (HR8.out.far hg9 (fun ad e e2 => by have:=HNE.out ad e;have:=Option.some.inj e2;omega))
      have HL9:=Lib.hid (HL8.out.far hg9 (sb_tyN HA8.out) (by decide) (by decide))
      have hlt9:=HA9.out.lt
      have hltq9:=HQ9.out.lt
      clear hw9 q0 q1 q2 y0 y1 y2 y9 y10 z0 z1 z2 z9 z10
      have q0:=HQ9.out.cell 0 (v:=.int .i64 (R : Int)) rfl
      have q1:=HQ9.out.cell 1 (v:=.int .i64 (C : Int)) rfl
      have x3:=HA9.out.cell 3 (v:=.int .i64 s.row) rfl
      have v3:=HA9.out.free 3
      have x4:=HA9.out.cell 4 (v:=.int .i64 s.col) rfl
      have v4:=HA9.out.free 4
      have x5:=HA9.out.cell 5 (v:=.bool s.wrap) rfl
      have v5:=HA9.out.free 5
      have x11:=HA9.out.cell 11 (v:=.int .i64 s.srow) rfl
      have v11:=HA9.out.free 11
      have x12:=HA9.out.cell 12 (v:=.int .i64 s.scol) rfl
      have v12:=HA9.out.free 12
      have x13:=HA9.out.cell 13 (v:=.bool s.swrap) rfl
      have v13:=HA9.out.free 13
      go_upto_region 14 with (fail)
      clear q0 q1 x3 x4 x5 x11 x12 x13 v3 v4 v5 v11 v12 v13
      generalize hw10 : (((((w9.setCell ⟨w.heap.size,3,none⟩ _).setCell ⟨w.heap.size,4,none⟩ _).setCell ⟨w.heap.size,5,none⟩ _).setCell ⟨w.heap.size,11,none⟩ _).setCell ⟨w.heap.size,12,none⟩ _).setCell ⟨w.heap.size,13,none⟩ _ = w10
      have HA10:=Lib.hid (show Sb w10 w.heap.size ((rzS s R C).gr A n c).vals.toArray 34 from by unfold rzS;rw [← hw10,HM.out];exact (((((HA9.out.set 3 _ rfl).set 4 _ rfl).set 5 _ rfl).set 11 _ rfl).set 12 _ rfl).set 13 _ rfl)
      have hg10 : w9.grownBy w10 (some w.heap.size):=by rw [← hw10];exact grown_set (grown_set (grown_set (grown_set (grown_set (grown_set (grown_refl _ _) 3 _) 4 _) 5 _) 11 _) 12 _) 13 _
      have HT10:=Lib.hid (show ∃ old,Sb w10 (w.heap.size + 1) old 34 ∧ old.size = 19 from Exists.elim HT9.out (fun old h => ⟨old,h.1.far hg10 htn,h.2⟩))
      have HR10:=Lib.hid (HR9.out.far hg10 (fun ad e e2 => by have:=HNE.out ad e;have:=Option.some.inj e2;omega))
      have HL10:=Lib.hid (HL9.out.far hg10 (sb_tyN HA9.out) (by decide) (by decide))
      have HG10:=Lib.hid (hg9.trans hg10)
      have hlt10:=HA10.out.lt
      clear hw10 hg9 hg10 hqn htn
      go_wp2_with (first
       | ((with_reducible refine wpList_load_sc ((rzS s R C).gr A n c) w.heap.size (.tmp 3) rfl rfl ?_ ?_ ?_);(focus rfl);(focus (exact HA10.out)))
       | ((with_reducible refine wpList_store_sc ((rzS s R C).gr A n c) (w.heap.size + 1) (.tmp 6) (.tmp 88) rfl rfl ?_ ?_ ?_ ?_);(focus rfl);(focus rfl);(focus (exact HT10.out));intro w11 hS11 hg11;have HS11:=Lib.hid hS11;have HG11:=Lib.hid hg11;clear hS11 hg11)
       | fail)
      all_goals
       refine bodyPost_ret (results_sc2 rfl _ _ (w.heap.size + 1) ((rzS s R C).gr A n c) (by rfl) HS11.out) rfl ?_
       obtain ⟨old,hso,-⟩:=HT10.out
       unfold RzP
       rw [HM.out]
       refine ⟨A,n,c,A6,c6,rfl,?_,hn7,hc7,(HL10.out.far HG11.out (sb_tyN hso) (by decide) (by decide)).zero,?_⟩
       ·exact HR10.out.far HG11.out (fun ad e e2 => by have:=HNE.out ad e;have:=Option.some.inj e2;omega)
       ·exact Bw.grown (Bw.grown HBW8.out HG10.out (fun k hk => by cases hk;omega)) HG11.out (fun k hk => by cases hk;omega)
     exact AllReadyH.nil
    exact AllReadyH.nil
   exact AllReadyH.nil

set_option maxRecDepth 100000 in
set_option maxHeartbeats 1000000 in
theorem rsameS_any (s : Scr) (A B : Option Addr) (n c m d : Nat) (cs : List C4) (w : World) (hx : Rg w A n cs) (hn : n ≤ c) (hc : c ≤ 9223372036854775807) (hy : Rg w B m cs) (hm : m ≤ d) (hd : d ≤ 9223372036854775807) :
  Calls Tryz.prog 16 #[.agg (s.gr A n c).vals.toArray,.agg (s.gr B m d).vals.toArray] w fun e w' => e = .returned (.bool true) ∧ Bw w w':=by
 obtain ⟨Rn,Cn,A0,n0,c0,row,col,wrap,f,g,b,top,bot,srow,scol,swrap,sf,sg,sb,hid,now⟩:=s
 have HX:=Lib.hid hx
 have HY:=Lib.hid hy
 have HT:=Lib.hid (show (decide ((Rn : Int) = Rn) && decide ((Cn : Int) = Cn) && decide (cs = cs)) = true by simp)
 clear hx hy
 unfold Scr.gr Scr.vals
 dsimp only
 go_enter Tryz.func16,Tryz.ntmps16
 go_wp2_with (first
  | (go_at_call 45;refine (rsame_any _ _ _ _ A B n c m d cs cs _ (HX.out.up BWX) hn hc (HY.out.up BWX) hm hd).mono ?_;rintro ee wv ⟨rfl,hbv⟩;rw [HT.out];obtain ⟨L,d',rfl⟩:=Bw.isPlus hbv;clear hbv)
  | fail)
 go_ret
 exact ⟨by first|rfl|simp,BWX⟩
end Go.Proofs.YtkflooljdopldaaGreat
