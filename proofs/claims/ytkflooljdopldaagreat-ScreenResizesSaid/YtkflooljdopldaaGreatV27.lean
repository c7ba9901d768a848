/- Parts of the proof, one after the other. -/
import Derived.Test.YtkflooljdopldaaGreatV26
import Derived.Deep.RegionHeld3
import Derived.Laws.CopyRow
set_option linter.unusedSimpArgs false
set_option linter.unusedVariables false
/- A canvas: lose. -/
namespace Go.Proofs.YtkflooljdopldaaGreat
open Go.RowKit

theorem cvgrown_own {w w1 w2 : World} {r : Option Nat} {e : TypeId} {s n : Nat} {v : Value} {xs : List Value} (h : w.grownBy w1 r) (ho : w1.ownsRow w.heap.size e s v n xs) (hg : w1.grownBy w2 v.ownBlock) : w.grownBy w2 r :=
 ⟨hg.os.trans h.os,hg.tape.trans h.tape,hg.output.trans h.output,Nat.le_trans h.size hg.size,fun k hk hne => (hg.block k (Nat.lt_of_lt_of_le hk h.size) (fun e => by have:=(ho.lt k e.symm).1;omega)).trans (h.block k hk hne)⟩

set_option maxRecDepth 100000 in
set_option maxHeartbeats 4000000 in
theorem cvlose_any (s : Scr) (fr : Bool) (cs : List C4) (nn : Int) (g : Nat) (w : World) (h : Sb w g (cvV s none 0 0 fr) 75) (hr : Rg w s.A s.n cs) (hn : s.n ≤ s.c) (hn3 : s.n ≤ 4398046511103) (hc : s.c ≤ 9223372036854775807) (hne : ∀ ad,s.A = some ad → some ad.block ≠ some g) (hn0 : 0 ≤ nn) (hn1 : nn ≤ 1000000) :
  Calls Tryz.prog 35 #[.pointer (some ⟨g,0,none⟩),.int .i64 nn] w fun e w' => ∃ L k,CvP w g s L nn.toNat k fr e w':=by
 obtain ⟨j0,hj,hj0,hj1,hj2⟩:=info_parts infoL
 have HR:=Lib.hid hr
 have HNE:=Lib.hid hne
 have HS0:=Lib.hid h
 have hlt:=h.lt
 clear hr hne h
 go_enter Tryz.func35,Tryz.ntmps35
 go_wp2_with fail
 go_loopw [6] (fun i wr => ∃ (q : Nat) (L : Option Addr) (k : Nat) (vs : List Value),i = .int .i64 q ∧ (q : Int) ≤ nn ∧ Sb wr g (cvV s L q k fr) 75 ∧ wr.ownsRow w.heap.size 24 1 (.slice L q k) q vs ∧ w.grownBy wr (some g)) (fun i _ => (nn - intOf i).toNat)
 case atStart => exact ⟨0,none,0,[],rfl,hn0,HS0.out,World.ownsRow_nil _ _ _ _,grown_refl _ _⟩
 case round =>
  obtain ⟨q,L,k,vs,rfl,hq,hS,hown,hg⟩:=hrel
  have HB:=Lib.hid hS
  have HO:=Lib.hid hown
  have HG:=Lib.hid hg
  have hzr:=hg.size
  have hbo : (Value.slice L q k).ownBlock ≠ some g:=fun e => by have:=(hown.lt g e).1;omega
  have HBO:=Lib.hid hbo
  by_cases hlt2 : (q : Int) < nn
  ·have HRr:=Lib.hid (HR.out.far hg HNE.out)
   have hltr:=hS.lt
   (have x0:=HB.out.cell 0 (v:=.int .i64 (s.Rn : Int)) rfl;have x1:=HB.out.cell 1 (v:=.int .i64 (s.Cn : Int)) rfl;have x2:=HB.out.cell 2 (v:=.slice s.A s.n s.c) rfl)
   have x19:=HB.out.cell 19 (v:=.slice L q k) rfl
   clear hS hown hg hbo
   go_upto_region 3 with (fail)
   have HY:=Lib.hid (show ∀ w',Bw wr w' → (w'.cell? ⟨g,0,none⟩ = some (.int .i64 (s.Rn : Int)) ∧ w'.cell? ⟨g,1,none⟩ = some (.int .i64 (s.Cn : Int)) ∧ w'.cell? ⟨g,2,none⟩ = some (.slice s.A s.n s.c)) from fun w' hb => ⟨(HB.out.up hb).cell 0 rfl,(HB.out.up hb).cell 1 rfl,(HB.out.up hb).cell 2 rfl⟩)
   have HYs:=Lib.hid (show ∀ (w' : World) (v : Value),(w'.cell? ⟨g,0,none⟩ = some (.int .i64 (s.Rn : Int)) ∧ w'.cell? ⟨g,1,none⟩ = some (.int .i64 (s.Cn : Int)) ∧ w'.cell? ⟨g,2,none⟩ = some (.slice s.A s.n s.c)) → ((w'.setCell ⟨g,19,none⟩ v).cell? ⟨g,0,none⟩ = some (.int .i64 (s.Rn : Int)) ∧ (w'.setCell ⟨g,19,none⟩ v).cell? ⟨g,1,none⟩ = some (.int .i64 (s.Cn : Int)) ∧ (w'.setCell ⟨g,19,none⟩ v).cell? ⟨g,2,none⟩ = some (.slice s.A s.n s.c)) from fun w' v h => ⟨cell_ne h.1 (by omega),cell_ne h.2.1 (by omega),cell_ne h.2.2 (by omega)⟩)
   refine wp_region_held_drew (S:=(fun w' => w'.cell? ⟨g,0,none⟩ = some (.int .i64 (s.Rn : Int)) ∧ w'.cell? ⟨g,1,none⟩ = some (.int .i64 (s.Cn : Int)) ∧ w'.cell? ⟨g,2,none⟩ = some (.slice s.A s.n s.c))) (by kernel_rfl) ?_ (fun hHeld => ?_)
   ·(try dsimp only);(first|exact HK7.out|exact HYs.out _ _ HK7.out|(refine HY.out _ ?_;exact BWX))
   refine tkQ 0 ?_
   refine tkQ 1 ?_
   refine tkQ 2 ?_
   (try simp only [Act.put,zP1,zP2,zP3,zP4,zP5,zP6])
   refine tkQ 3 ?_
   refine tkQ 5 ?_
   refine tkQ 6 ?_
   (try simp only [Act.put,zP1,zP2,zP3,zP4,zP5,zP6])
   refine tkQ 7 ?_
   refine tkQ 8 ?_
   refine tkQ 9 ?_
   (try simp only [Act.put,zP1,zP2,zP3,zP4,zP5,zP6])
   refine tkQ 10 ?_
   (try simp only [Act.put,zP1,zP2,zP3,zP4,zP5,zP6])
   refine wpAnyH_ready (rs:=[4,11]) (by kernel_rfl) (by simp) ?_
   refine AllReadyH.cons rfl (fun K hK => ?_) ?_
   ·go_simp
    refine hK.out _ _ ?_ (fun hHeld => ?_)
    ·(try dsimp only);(first|exact HK7.out|exact HYs.out _ _ HK7.out|(refine HY.out _ ?_;exact BWX))
    clear hK K
    (try simp only [Act.put,zP1,zP2,zP3,zP4,zP5,zP6])
    refine wpAnyH_ready (rs:=[11]) (by kernel_rfl) (by simp) ?_
    refine AllReadyH.cons rfl (fun K hK => ?_) ?_
    ·go_simp
     refine (grow_any s.Rn s.Cn s.A s.n s.c cs q _ (HRr.out.up BWX) hn hn3 hc).mono ?_;rintro ee w2 ⟨Ar,nr,cr,rfl,-,-,-,-,hb2⟩;have hbw2 : Bw wr w2:=Bw.trans (show Bw wr _ from BWX) hb2;have HO2:=Lib.hid (HO.out.bw hbw2);have HB2:=Lib.hid (HB.out.up hbw2);have hz2:=hbw2.size;have hltw2:=HB2.out.lt;have y19:=HB2.out.cell 19 (v:=.slice L q k) rfl;clear hb2;go_wp2_with fail
     refine hK.out _ _ ?_ (fun hHeld => ?_)
     ·(try dsimp only);(first|exact HK7.out|exact HYs.out _ _ HK7.out|(refine HY.out _ ?_;exact BWX))
     clear hK K
     (try simp only [Act.put,zP1,zP2,zP3,zP4,zP5,zP6])
     refine wpAnyH_ready (rs:=[12]) (by kernel_rfl) (by simp) ?_
     refine AllReadyH.cons rfl (fun K hK => ?_) ?_
     ·go_simp
      refine hK.out _ _ ?_ (fun hHeld => ?_)
      ·(try dsimp only);(first|exact HK7.out|exact HYs.out _ _ HK7.out|(refine HY.out _ ?_;exact BWX))
      clear hK K
      (try simp only [Act.put,zP1,zP2,zP3,zP4,zP5,zP6])
      refine wpAnyH_ready (rs:=[13]) (by kernel_rfl) (by simp) ?_
      refine AllReadyH.cons rfl (fun K hK => ?_) ?_
      ·refine step_append_srcG (by rfl) (.tmp 13) (.tmp 21) 40 rfl w.heap.size 24 j0 (.slice none 0 0) 1 24 Tryz.underlying40 hj hj0 hj1 hj2 rfl (by decide) (.slice L q k) q vs (by rfl) (by exact HO.out.bw BWX) (some ⟨_,0,none⟩) 1 1 [.slice Ar nr cr] (by rfl) rfl (fun e => by cases e) (fun ad e => by cases e;exact cell_one_new _ _ _) (by simp;rfl) (by unfold maxLen;omega) (by omega) (by simp only [szA,szS,szD,szN];omega) ?_;intro v7 w7 hown7 hg7;obtain ⟨A7,c7,rfl,hc7,hc7m⟩:=own_form hown7;have HO7:=Lib.hid hown7;have HG7:=Lib.hid hg7;have HB7:=Lib.hid ((HB.out.up (show Bw wr _ from BWX)).far HG7.out (Ne.symm HBO.out));have z19:=HB7.out.free 19;have y7:=HB7.out.cell 19 (v:=.slice L q k) rfl;have hgr7 : w.grownBy w7 (some g):=cvgrown_own (HG.out.trans (grown_bw (show Bw wr _ from BWX) _)) (show World.ownsRow _ w.heap.size 24 1 (.slice L q k) q vs by exact HO.out.bw BWX) HG7.out;have HK7:=Lib.hid (And.intro (cell_far hHeld.1 hg7 (Ne.symm HBO.out)) (And.intro (cell_far hHeld.2.1 hg7 (Ne.symm HBO.out)) (cell_far hHeld.2.2 hg7 (Ne.symm HBO.out))));clear hown7 hg7
       refine hK.out _ _ ?_ (fun hHeld => ?_)
       ·(try dsimp only);(first|exact HK7.out|exact HYs.out _ _ HK7.out|(refine HY.out _ ?_;exact BWX))
       clear hK K
       (try simp only [Act.put,zP1,zP2,zP3,zP4,zP5,zP6])
       refine tkQ 14 ?_
       refine tkQ 15 ?_
       (try simp only [Act.put,zP1,zP2,zP3,zP4,zP5,zP6])
       refine wpAnyH_ready (rs:=[16]) (by kernel_rfl) (by simp) ?_
       refine AllReadyH.cons rfl (fun K hK => ?_) ?_
       ·go_simp
        refine hK.out _ _ ?_ (fun hHeld => ?_)
        ·(try dsimp only);(first|exact HK7.out|exact HYs.out _ _ HK7.out|(refine HY.out _ ?_;exact BWX))
        clear hK K
        (try simp only [Act.put,zP1,zP2,zP3,zP4,zP5,zP6])
        refine wpAnyH_done (by kernel_rfl) ?_ _
        go_wp2_with fail
        go_roundw
        case rel => exact ⟨q + 1,A7,c7,_,by go_num,by omega,HB7.out.set 19 _ rfl,own_set_below HO7.out (by omega) _,grown_set hgr7 19 _⟩
        case measure => simp [intOf];omega
       exact AllReadyH.nil
      exact AllReadyH.nil
     exact AllReadyH.nil
    exact AllReadyH.nil
   refine AllReadyH.cons rfl (fun K hK => ?_) ?_
   ·go_simp
    refine (grow_any s.Rn s.Cn s.A s.n s.c cs q _ (HRr.out.up BWX) hn hn3 hc).mono ?_;rintro ee w2 ⟨Ar,nr,cr,rfl,-,-,-,-,hb2⟩;have hbw2 : Bw wr w2:=Bw.trans (show Bw wr _ from BWX) hb2;have HO2:=Lib.hid (HO.out.bw hbw2);have HB2:=Lib.hid (HB.out.up hbw2);have hz2:=hbw2.size;have hltw2:=HB2.out.lt;have y19:=HB2.out.cell 19 (v:=.slice L q k) rfl;clear hb2;go_wp2_with fail
    refine hK.out _ _ ?_ (fun hHeld => ?_)
    ·(try dsimp only);(first|exact HK7.out|exact HYs.out _ _ HK7.out|(refine HY.out _ ?_;exact BWX))
    clear hK K
    (try simp only [Act.put,zP1,zP2,zP3,zP4,zP5,zP6])
    refine wpAnyH_ready (rs:=[4,12]) (by kernel_rfl) (by simp) ?_
    refine AllReadyH.cons rfl (fun K hK => ?_) ?_
    ·go_simp
     refine hK.out _ _ ?_ (fun hHeld => ?_)
     ·(try dsimp only);(first|exact HK7.out|exact HYs.out _ _ HK7.out|(refine HY.out _ ?_;exact BWX))
     clear hK K
     (try simp only [Act.put,zP1,zP2,zP3,zP4,zP5,zP6])
     refine wpAnyH_ready (rs:=[12]) (by kernel_rfl) (by simp) ?_
     refine AllReadyH.cons rfl (fun K hK => ?_) ?_
     ·go_simp
      refine hK.out _ _ ?_ (fun hHeld => ?_)
      ·(try dsimp only);(first|exact HK7.out|exact HYs.out _ _ HK7.out|(refine HY.out _ ?_;exact BWX))
      clear hK K
      (try simp only [Act.put,zP1,zP2,zP3,zP4,zP5,zP6])
      refine wpAnyH_ready (rs:=[13]) (by kernel_rfl) (by simp) ?_
      refine AllReadyH.cons rfl (fun K hK => ?_) ?_
      ·refine step_append_srcG (by rfl) (.tmp 13) (.tmp 21) 40 rfl w.heap.size 24 j0 (.slice none 0 0) 1 24 Tryz.underlying40 hj hj0 hj1 hj2 rfl (by decide) (.slice L q k) q vs (by rfl) (by exact HO.out.bw BWX) (some ⟨_,0,none⟩) 1 1 [.slice Ar nr cr] (by rfl) rfl (fun e => by cases e) (fun ad e => by cases e;exact cell_one_new _ _ _) (by simp;rfl) (by unfold maxLen;omega) (by omega) (by simp only [szA,szS,szD,szN];omega) ?_;intro v7 w7 hown7 hg7;obtain ⟨A7,c7,rfl,hc7,hc7m⟩:=own_form hown7;have HO7:=Lib.hid hown7;have HG7:=Lib.hid hg7;have HB7:=Lib.hid ((HB.out.up (show Bw wr _ from BWX)).far HG7.out (Ne.symm HBO.out));have z19:=HB7.out.free 19;have y7:=HB7.out.cell 19 (v:=.slice L q k) rfl;have hgr7 : w.grownBy w7 (some g):=cvgrown_own (HG.out.trans (grown_bw (show Bw wr _ from BWX) _)) (show World.ownsRow _ w.heap.size 24 1 (.slice L q k) q vs by exact HO.out.bw BWX) HG7.out;have HK7:=Lib.hid (And.intro (cell_far hHeld.1 hg7 (Ne.symm HBO.out)) (And.intro (cell_far hHeld.2.1 hg7 (Ne.symm HBO.out)) (cell_far hHeld.2.2 hg7 (Ne.symm HBO.out))));clear hown7 hg7
       refine hK.out _ _ ?_ (fun hHeld => ?_)
       ·(try dsimp only);(first|exact HK7.out|exact HYs.out _ _ HK7.out|(refine HY.out _ ?_;exact BWX))
       clear hK K
       (try simp only [Act.put,zP1,zP2,zP3,zP4,zP5,zP6])
       refine tkQ 14 ?_
       refine tkQ 15 ?_
       (try simp only [Act.put,zP1,zP2,zP3,zP4,zP5,zP6])
       refine wpAnyH_ready (rs:=[16]) (by kernel_rfl) (by simp) ?_
       refine AllReadyH.cons rfl (fun K hK => ?_) ?_
       ·go_simp
        refine hK.out _ _ ?_ (fun hHeld => ?_)
        ·(try dsimp only);(first|exact HK7.out|exact HYs.out _ _ HK7.out|(refine HY.out _ ?_;exact BWX))
        clear hK K
        (try simp only [Act.put,zP1,zP2,zP3,zP4,zP5,zP6])
        refine wpAnyH_done (by kernel_rfl) ?_ _
        go_wp2_with fail
        go_roundw
        case rel => exact ⟨q + 1,A7,c7,_,by go_num,by omega,HB7.out.set 19 _ rfl,own_set_below HO7.out (by omega) _,grown_set hgr7 19 _⟩
        case measure => simp [intOf];omega
       exact AllReadyH.nil
      exact AllReadyH.nil
     exact AllReadyH.nil
    refine AllReadyH.cons rfl (fun K hK => ?_) ?_
    ·go_simp
     refine hK.out _ _ ?_ (fun hHeld => ?_)
     ·(try dsimp only);(first|exact HK7.out|exact HYs.out _ _ HK7.out|(refine HY.out _ ?_;exact BWX))
     clear hK K
     (try simp only [Act.put,zP1,zP2,zP3,zP4,zP5,zP6])
     refine wpAnyH_ready (rs:=[4]) (by kernel_rfl) (by simp) ?_
     refine AllReadyH.cons rfl (fun K hK => ?_) ?_
     ·go_simp
      refine hK.out _ _ ?_ (fun hHeld => ?_)
      ·(try dsimp only);(first|exact HK7.out|exact HYs.out _ _ HK7.out|(refine HY.out _ ?_;exact BWX))
      clear hK K
      (try simp only [Act.put,zP1,zP2,zP3,zP4,zP5,zP6])
      refine wpAnyH_ready (rs:=[13]) (by kernel_rfl) (by simp) ?_
      refine AllReadyH.cons rfl (fun K hK => ?_) ?_
      ·refine step_append_srcG (by rfl) (.tmp 13) (.tmp 21) 40 rfl w.heap.size 24 j0 (.slice none 0 0) 1 24 Tryz.underlying40 hj hj0 hj1 hj2 rfl (by decide) (.slice L q k) q vs (by rfl) (by exact HO.out.bw BWX) (some ⟨_,0,none⟩) 1 1 [.slice Ar nr cr] (by rfl) rfl (fun e => by cases e) (fun ad e => by cases e;exact cell_one_new _ _ _) (by simp;rfl) (by unfold maxLen;omega) (by omega) (by simp only [szA,szS,szD,szN];omega) ?_;intro v7 w7 hown7 hg7;obtain ⟨A7,c7,rfl,hc7,hc7m⟩:=own_form hown7;have HO7:=Lib.hid hown7;have HG7:=Lib.hid hg7;have HB7:=Lib.hid ((HB.out.up (show Bw wr _ from BWX)).far HG7.out (Ne.symm HBO.out));have z19:=HB7.out.free 19;have y7:=HB7.out.cell 19 (v:=.slice L q k) rfl;have hgr7 : w.grownBy w7 (some g):=cvgrown_own (HG.out.trans (grown_bw (show Bw wr _ from BWX) _)) (show World.ownsRow _ w.heap.size 24 1 (.slice L q k) q vs by exact HO.out.bw BWX) HG7.out;have HK7:=Lib.hid (And.intro (cell_far hHeld.1 hg7 (Ne.symm HBO.out)) (And.intro (cell_far hHeld.2.1 hg7 (Ne.symm HBO.out)) (cell_far hHeld.2.2 hg7 (Ne.symm HBO.out))));clear hown7 hg7
       refine hK.out _ _ ?_ (fun hHeld => ?_)
       ·(try dsimp only);(first|exact HK7.out|exact HYs.out _ _ HK7.out|(refine HY.out _ ?_;exact BWX))
       clear hK K
       (try simp only [Act.put,zP1,zP2,zP3,zP4,zP5,zP6])
       refine tkQ 14 ?_
       (try simp only [Act.put,zP1,zP2,zP3,zP4,zP5,zP6])
       refine tkQ 15 ?_
       (try simp only [Act.put,zP1,zP2,zP3,zP4,zP5,zP6])
       refine wpAnyH_ready (rs:=[16]) (by kernel_rfl) (by simp) ?_
       refine AllReadyH.cons rfl (fun K hK => ?_) ?_
       ·go_simp
        refine hK.out _ _ ?_ (fun hHeld => ?_)
        ·(try dsimp only);(first|exact HK7.out|exact HYs.out _ _ HK7.out|(refine HY.out _ ?_;exact BWX))
        clear hK K
        (try simp only [Act.put,zP1,zP2,zP3,zP4,zP5,zP6])
        refine wpAnyH_done (by kernel_rfl) ?_ _
        go_wp2_with fail
        go_roundw
        case rel => exact ⟨q + 1,A7,c7,_,by go_num,by omega,HB7.out.set 19 _ rfl,own_set_below HO7.out (by omega) _,grown_set hgr7 19 _⟩
        case measure => simp [intOf];omega
       exact AllReadyH.nil
      exact AllReadyH.nil
     exact AllReadyH.nil
    exact AllReadyH.nil
   exact AllReadyH.nil
  ·obtain rfl : nn = q:=by omega
   go_wp2_with fail
   go_end0
   exact ⟨L,k,rfl,HB.out,HG.out⟩

set_option maxRecDepth 100000 in
set_option maxHeartbeats 4000000 in
theorem gfill_any (R C : Int) (A : Option Addr) (n c : Nat) (cs : List C4) (row fr tt d1 d2 d3 d4 : Int) (w : World) (hr : Rg w A n cs) (hn : n ≤ c) (hn3 : n ≤ 4398046511103) (hc : c ≤ 9223372036854775807) :
  Calls Tryz.prog 56 #[.agg #[.int .i64 R,.int .i64 C,.slice A n c],.int .i64 row,.int .i64 fr,.int .i64 tt,.agg #[.int .i64 d1,.int .i64 d2,.int .i64 d3,.int .i64 d4]] w (GrN w R C (fillG R C cs row fr tt (d1,d2,d3,d4))):=by
 have HR:=Lib.hid hr
 clear hr
 go_enter Tryz.func56,Tryz.ntmps56
 go_upto_region 1 with (fail)
 generalize hw6 : (((((w.alloc (.cells #[.int .i64 R,.int .i64 C,.slice A n c] 26)).alloc (.cells #[.int .i64 row] 3)).alloc (.cells #[.int .i64 fr] 3)).alloc (.cells #[.int .i64 tt] 3)).alloc (.cells #[.int .i64 d1,.int .i64 d2,.int .i64 d3,.int .i64 d4] 53)).alloc _ = w6
 have hbw : Bw w w6:=by rw [← hw6];exact BWX
 have y0 : w6.cell? ⟨w.heap.size + 1,0,none⟩ = some (.int .i64 row):=by rw [← hw6];exact CELX
 have y1 : w6.cell? ⟨w.heap.size,0,none⟩ = some (.int .i64 R):=by rw [← hw6];exact CELX
 have y2 : w6.cell? ⟨w.heap.size,1,none⟩ = some (.int .i64 C):=by rw [← hw6];exact CELX
 have y2' : w6.cell? ⟨w.heap.size,2,none⟩ = some (.slice A n c):=by rw [← hw6];exact CELX
 have y3 : w6.cell? ⟨w.heap.size + 1 + 1,0,none⟩ = some (.int .i64 fr):=by rw [← hw6];exact CELX
 have y4 : w6.cell? ⟨w.heap.size + 1 + 1 + 1,0,none⟩ = some (.int .i64 tt):=by rw [← hw6];exact CELX
 have y5 : w6.cell? ⟨w.heap.size + 1 + 1 + 1 + 1,0,none⟩ = some (.int .i64 d1):=by rw [← hw6];exact CELX
 have y6 : w6.cell? ⟨w.heap.size + 1 + 1 + 1 + 1,1,none⟩ = some (.int .i64 d2):=by rw [← hw6];exact CELX
 have y7 : w6.cell? ⟨w.heap.size + 1 + 1 + 1 + 1,2,none⟩ = some (.int .i64 d3):=by rw [← hw6];exact CELX
 have y8 : w6.cell? ⟨w.heap.size + 1 + 1 + 1 + 1,3,none⟩ = some (.int .i64 d4):=by rw [← hw6];exact CELX
 have HB:=Lib.hid (show ∃ old,Sb w6 (w.heap.size + 1 + 1 + 1 + 1 + 1) old 26 ∧ old.size = 3 from by rw [← hw6];exact ⟨_,heap_at (by simp),rfl⟩)
 have hz6 : w.heap.size + 1 + 1 + 1 + 1 + 1 < w6.heap.size:=by rw [← hw6];simp
 clear hw6
 go_wp2_with (first
  | (go_at_call 69;refine (gchangefill_ok R C A n c cs row fr tt d1 d2 d3 d4 (w.heap.size + 1) w.heap.size (w.heap.size + 1 + 1) (w.heap.size + 1 + 1 + 1) (w.heap.size + 1 + 1 + 1 + 1) w6 (HR.out.up hbw) hn hn3 hc y0 y1 y2 y3 y4 y5 y6 y7 y8).mono ?_;rintro ee w7 ⟨A',n',c',rfl,hRg,hn',hc',hnew,hb7⟩;have HRg:=Lib.hid hRg;have HB7:=Lib.hid hb7;have hlt:=Lib.hid hRg.1;clear hRg hb7)
  | ((with_reducible refine wpList_store_gr R C A' n' c' (w.heap.size + 1 + 1 + 1 + 1 + 1) (.tmp 10) (.tmp 14) rfl rfl ?_ ?_ ?_ ?_);(focus rfl);(focus rfl);(focus (exact Exists.elim HB.out (fun old h => ⟨old,h.1.up HB7.out,h.2⟩)));intro w8 hS8 hg8;have HS8:=Lib.hid hS8;have HG8:=Lib.hid hg8;clear hS8 hg8)
  | fail)
 refine bodyPost_ret (results_gr rfl _ _ (w.heap.size + 1 + 1 + 1 + 1 + 1) R C A' n' c' (by rfl) HS8.out) rfl ?_
 have hz:=hbw.size
 exact ⟨A',n',c',rfl,HRg.out.far HG8.out (fun ad e e2 => by have:=hnew ad e;have e3:=Option.some.inj e2;omega),hn',hc',(fun ad e => by have:=hnew ad e;omega),Bw.grown (Bw.trans hbw HB7.out) HG8.out (fun k hk => by cases hk;omega)⟩

theorem run_copy_rowS {P : Program} (w : World) (dT sT ty elem : TypeId) (g o dLen dCap : Nat) (a : Addr) (sLen sCap : Nat) (cur : Array Value) (t : TypeId) (cs : List Value) (sz : Nat)
  (hu : P.underlying dT = some (.slice elem)) (hs : (P.info? elem).map (·.size) = some sz)
  (hg : w.heap[g]? = some (.cells cur t (0,0))) (hn : cs.length = Nat.min sLen dLen * sz)
  (hsrc : ∀ j v,cs[j]? = some v → w.cell? (a.add j) = some v) (hfit : o + cs.length ≤ cur.size) (h1 : ∀ v ∈ cs,v.oneCell' = true) :
  (Builtin.copy_ #[dT,sT] ty #[.slice (some ⟨g,o,none⟩) dLen dCap,.slice (some a) sLen sCap]).run P w =
   .ok (goInt (Nat.min sLen dLen)) (w.setRow g (cur.toList.take o ++ cs ++ cur.toList.drop (o + cs.length)).toArray):=by
 have hf:=run_firstCells_some (P:=P) w sz (Nat.min sLen dLen) a sLen sCap cs hn hsrc
 have hst:=run_storeCells_at P g o t cs 0 cur w hg (by simpa using hfit) h1
 cases hq : P.info? elem with
 | none => simp [hq] at hs
 | some i =>
  have hi : i.size = sz:=by simpa [hq] using hs
  simp [Builtin.copy_,run_underlying hu,Builtin.lenOf,sizeOf,typeInfo,hq,hi]
  rw [hf]
  simp [hst]
theorem wpList_copyS {P : Program} {w : World} {ops : Array Oper} {rest : List Oper} {o : Oper} {a : Act} {Q : Exit → Act → World → Prop} (hgd : o.guard = none) (d s : Operand) (dT sT : TypeId)
  (ho : o.op = .call { callee:=.builtin .copy,args:=#[d,s],argTypes:=#[dT,sT] }) (elem : TypeId) (sz : Nat) (hu : P.underlying dT = some (.slice elem)) (hsz : (P.info? elem).map (·.size) = some sz)
  (g off dLen dCap : Nat) (ad : Addr) (sLen sCap : Nat) (hd : a.eval d = .slice (some ⟨g,off,none⟩) dLen dCap) (hs : a.eval s = .slice (some ad) sLen sCap)
  (cur : Array Value) (t : TypeId) (hg : w.heap[g]? = some (.cells cur t (0,0))) (cs : List Value) (hn : cs.length = Nat.min sLen dLen * sz)
  (hsrc : ∀ j v,cs[j]? = some v → w.cell? (ad.add j) = some v) (hfit : off + cs.length ≤ cur.size) (h1 : ∀ v ∈ cs,v.oneCell' = true)
  (h : ∀ w',w'.heap[g]? = some (.cells (cur.toList.take off ++ cs ++ cur.toList.drop (off + cs.length)).toArray t (0,0)) → w.grownBy w' (some g) → wpList P ops Q rest (a.put o.dst (goInt (Nat.min sLen dLen))) w') : wpList P ops Q (o :: rest) a w:=by
 refine wpList_plain hgd fun K hK => ?_
 have hrun:=run_copy_rowS (P:=P) w dT sT o.type elem g off dLen dCap ad sLen sCap cur t cs sz hu hsz hg hn hsrc hfit h1
 unfold Oper.wp
 unfold execOp
 simp only [ho,resolve,invoke,builtin,Sem.run_bind,Sem.run_pure,Result.andThen_ok,List.map_toArray,List.map_cons,List.map_nil,hd,hs,hrun]
 exact hK _ _ (h _ (setRow_heap w g _ _ t _ hg) ⟨rfl,rfl,rfl,by simp [World.setRow],fun k hk hne => setRow_other w g k _ (fun e => hne (by rw [e]))⟩)
/-- Cells copied within a row: those from p on, q of them, to place k. -/
def movC (cs : List C4) (k p q : Nat) : List C4:=cs.take k ++ (cs.drop p).take q ++ cs.drop (k + q)
theorem movC_len {cs : List C4} {k p q : Nat} (h1 : k + q ≤ cs.length) (h2 : p + q ≤ cs.length) : (movC cs k p q).length = cs.length:=by
 unfold movC
 simp only [List.length_append,List.length_take,List.length_drop]
 omega
theorem flat_take : ∀ (cs : List C4) (k : Nat),flat (cs.take k) = (flat cs).take (k * 4)
 | [],k => by simp [flat]
 | c :: cs,0 => by simp [flat]
 | c :: cs,k + 1 => by
  rw [List.take_succ_cons,flat_cons,flat_cons,flat_take cs k,show (k + 1) * 4 = k * 4 + 1 + 1 + 1 + 1 by omega]
  rfl
theorem flat_drop : ∀ (cs : List C4) (k : Nat),flat (cs.drop k) = (flat cs).drop (k * 4)
 | [],k => by simp [flat]
 | c :: cs,0 => by simp
 | c :: cs,k + 1 => by
  rw [List.drop_succ_cons,flat_cons,flat_drop cs k,show (k + 1) * 4 = k * 4 + 1 + 1 + 1 + 1 by omega]
  rfl
theorem Wc.moved {w' : World} {g : Nat} {cs : List C4} {sp : List Value} {k p q : Nat} (h1 : k + q ≤ cs.length) (h2 : p + q ≤ cs.length)
  (h : w'.heap[g]? = some (.cells ((flat cs ++ sp).toArray.toList.take (k * 4) ++ flat ((cs.drop p).take q) ++ (flat cs ++ sp).toArray.toList.drop (k * 4 + (flat ((cs.drop p).take q)).length)).toArray 53 (0,0))) : Wc w' g (movC cs k p q) sp:=by
 have hq : ((cs.drop p).take q).length = q:=by simp only [List.length_take,List.length_drop];omega
 unfold Wc
 rw [h,flat_len,hq]
 have e : flat (movC cs k p q) = (flat cs).take (k * 4) ++ flat ((cs.drop p).take q) ++ (flat cs).drop ((k + q) * 4):=by
  unfold movC
  rw [flat_app,flat_app,flat_take cs k,flat_drop cs (k + q)]
 rw [e]
 simp only [List.toList_toArray]
 rw [List.take_append_of_le_length (by rw [flat_len];omega),show k * 4 + q * 4 = (k + q) * 4 by omega,List.drop_append_of_le_length (by rw [flat_len];omega)]
 simp

/-- The cells a .. a + n - 1 moved to the front by num (to the back by -num), the places left filled with d. -/
def slideC (cs : List C4) (a n : Nat) (num : Int) (d : C4) : List C4:=(List.range cs.length).map fun (i : Nat) => if (a : Int) ≤ i ∧ (i : Int) < a + n then (if (a : Int) ≤ i + num ∧ (i : Int) + num < a + n then cs.getD ((i : Int) + num).toNat d else d) else cs.getD i d
/-- The cells s .. s + i - 1 are d. -/
def fillL (cs : List C4) (s i : Nat) (d : C4) : List C4:=(List.range cs.length).map fun j => if s ≤ j ∧ j < s + i then d else cs.getD j d
theorem fillL_len (cs : List C4) (s i : Nat) (d : C4) : (fillL cs s i d).length = cs.length:=by simp [fillL]
theorem slideC_len (cs : List C4) (a n : Nat) (num : Int) (d : C4) : (slideC cs a n num d).length = cs.length:=by simp [slideC]
theorem fillL_0 (cs : List C4) (s : Nat) (d : C4) : fillL cs s 0 d = cs:=by
 refine List.ext_getElem (fillL_len _ _ _ _) (fun i h1 h2 => ?_)
 simp only [fillL,List.getElem_map,List.getElem_range]
 rw [if_neg (by omega),List.getD_eq_getElem?_getD,List.getElem?_eq_getElem h2]
 rfl
theorem fillL_step {cs : List C4} {s i : Nat} {d : C4} : (fillL cs s i d).set (s + i) d = fillL cs s (i + 1) d:=by
 refine List.ext_getElem (by rw [List.length_set,fillL_len,fillL_len]) (fun j h1 h2 => ?_)
 rw [List.getElem_set]
 simp only [fillL,List.getElem_map,List.getElem_range]
 by_cases h : s + i = j
 ·rw [if_pos h,if_pos (by omega)]
 ·rw [if_neg h]
  by_cases h3 : s ≤ j ∧ j < s + i
  ·rw [if_pos h3,if_pos (by omega)]
  ·rw [if_neg h3,if_neg (by omega)]
theorem movC_get {cs : List C4} {k p q : Nat} (h1 : k + q ≤ cs.length) (h2 : p + q ≤ cs.length) (i : Nat) (d : C4) : (movC cs k p q).getD i d = if k ≤ i ∧ i < k + q then cs.getD (p + (i - k)) d else cs.getD i d:=by
 unfold movC
 simp only [List.getD_eq_getElem?_getD]
 by_cases ha : i < k
 ·rw [if_neg (by omega),List.append_assoc,List.getElem?_append_left (by simp;omega),List.getElem?_take,if_pos ha]
 ·by_cases hb : i < k + q
  ·rw [if_pos (by omega),List.append_assoc,List.getElem?_append_right (by simp;omega),List.getElem?_append_left (by simp;omega),List.getElem?_take,List.getElem?_drop]
   have e : i - (List.take k cs).length = i - k:=by simp;omega
   rw [e,if_pos (by omega)]
  ·rw [if_neg (by omega),List.getElem?_append_right (by simp;omega),List.getElem?_drop]
   congr 2
   simp
   omega
theorem slide_pos {cs : List C4} {a n q : Nat} {d : C4} (h : a + n ≤ cs.length) (hq : q ≤ n) : fillL (movC cs a (a + q) (n - q)) (a + (n - q)) q d = slideC cs a n (q : Int) d:=by
 have hl:=movC_len (cs:=cs) (k:=a) (p:=a + q) (q:=n - q) (by omega) (by omega)
 refine List.ext_getElem (by rw [fillL_len,slideC_len,hl]) (fun i h1 h2 => ?_)
 simp only [fillL,slideC,List.getElem_map,List.getElem_range]
 rw [movC_get (by omega) (by omega)]
 by_cases h3 : a + (n - q) ≤ i ∧ i < a + (n - q) + q
 ·rw [if_pos h3,if_pos (by omega),if_neg (by omega)]
 ·rw [if_neg h3]
  by_cases h4 : a ≤ i ∧ i < a + (n - q)
  ·rw [if_pos h4,if_pos (by omega),if_pos (by omega)]
   congr 1
   omega
  ·rw [if_neg h4,if_neg (by omega)]
theorem slide_neg {cs : List C4} {a n q : Nat} {d : C4} (h : a + n ≤ cs.length) (hq : q ≤ n) : fillL (movC cs (a + q) a (n - q)) a q d = slideC cs a n (-(q : Int)) d:=by
 have hl:=movC_len (cs:=cs) (k:=a + q) (p:=a) (q:=n - q) (by omega) (by omega)
 refine List.ext_getElem (by rw [fillL_len,slideC_len,hl]) (fun i h1 h2 => ?_)
 simp only [fillL,slideC,List.getElem_map,List.getElem_range]
 rw [movC_get (by omega) (by omega)]
 by_cases h3 : a ≤ i ∧ i < a + q
 ·rw [if_pos h3,if_pos (by omega),if_neg (by omega)]
 ·rw [if_neg h3]
  by_cases h4 : a + q ≤ i ∧ i < a + q + (n - q)
  ·rw [if_pos h4,if_pos (by omega),if_pos (by omega)]
   congr 1
   omega
  ·rw [if_neg h4,if_neg (by omega)]

theorem infoCs : (Tryz.prog.info? 53).map (·.size) = some 4:=by kernel_rfl
set_option maxRecDepth 100000 in
set_option maxHeartbeats 4000000 in
theorem gslide_pos (cs : List C4) (sp : List Value) (gp a n cp q r : Nat) (d1 d2 d3 d4 : Int) (w : World) (hW : Wc w gp cs sp) (ha : a + n ≤ cs.length) (hn : n ≤ cp) (hn3 : n ≤ 1000000) (hc : cp ≤ 9223372036854775807) (hqr : n = q + r) (hcq : ¬ cp = q) (hq : 0 < q) :
  Calls Tryz.prog 71 #[.slice (some ⟨gp,a * 4,none⟩) n cp,.int .i64 (q : Int),.agg #[.int .i64 d1,.int .i64 d2,.int .i64 d3,.int .i64 d4]] w fun e w' => (∃ v,e = .returned v) ∧ Wc w' gp (slideC cs a n (q : Int) (d1,d2,d3,d4)) sp ∧ w.grownBy w' (some gp):=by
 have HW:=Lib.hid hW
 have HA:=Lib.hid ha
 have HQR:=Lib.hid hqr
 have hgl:=hW.lt
 have hsub : (n : Int) - (q : Int) = (r : Int):=by omega
 have hnq : n - q = r:=by omega
 have hnr : n - r = q:=by omega
 have q1 : (0 : Int) ≤ (q : Int):=by omega
 have q2 : (q : Int) ≤ (n : Int):=by omega
 have q3 : (r : Int) ≤ (n : Int):=by omega
 have q4 : (q : Int) ≤ (cp : Int):=by omega
 have q5 : (r : Int) ≤ (cp : Int):=by omega
 obtain ⟨o,ho⟩ : ∃ o,a * 4 = o:=⟨_,rfl⟩
 rw [ho]
 have HO:=Lib.hid ho
 clear hW ha hqr ho
 go_enter Tryz.func71,Tryz.ntmps71
 go_upto_region 1 with (fail)
 generalize hw1 : w.alloc _ = w1
 obtain ⟨hb0,hbw,hz⟩:=sb1 hw1
 have HB:=Lib.hid hb0
 have HW1:=Lib.hid (HW.out.up hbw)
 have hz1 : w.heap.size < w1.heap.size:=by omega
 clear hw1 hb0 hz HW
 have hcr : ¬ cp = r:=by have:=HQR.out;omega
 have F1 : (flat ((cs.drop (a + q)).take r)).length = Nat.min r n * 4:=by
  have h1:=HA.out
  have h2:=HQR.out
  rw [flat_len,List.length_take,List.length_drop]
  have e : min r (cs.length - (a + q)) = Nat.min r n:=by show _ = min r n;omega
  rw [e]
 have F2 : ∀ j v,(flat ((cs.drop (a + q)).take r))[j]? = some v → w1.cell? ((⟨gp,o + q * 4,none⟩ : Addr).add j) = some v:=fun j v hv => by
  have h1:=HA.out
  have h2:=HQR.out
  have h3:=(HW1.out.rg.sub (a + q) r (by omega)).news j v hv
  rw [show 0 + (a + q) * 4 = o + q * 4 by have:=HO.out;omega] at h3
  exact h3
 have F3 : o + (flat ((cs.drop (a + q)).take r)).length ≤ (flat cs ++ sp).toArray.size:=by
  have h1:=HA.out
  have h2:=HQR.out
  have h3:=HO.out
  rw [flat_len,List.length_take,List.length_drop,List.size_toArray,List.length_append,flat_len]
  omega
 have HF:=Lib.hid (And.intro F1 (And.intro F2 F3))
 clear F1 F2 F3
 go_upto_region 4 with ((refine wpList_copyS rfl (.tmp 11) (.tmp 14) 24 24 rfl 53 4 Tryz.underlying24 infoCs gp (o) n cp ⟨gp,o + q * 4,none⟩ r (cp - q) rfl rfl (flat cs ++ sp).toArray 53 HW1.out (flat ((cs.drop (a + q)).take r)) HF.out.1 HF.out.2.1 HF.out.2.2 (flat_one _) ?_;intro w2 hcell hg2;have HC2:=Lib.hid hcell;have HG2:=Lib.hid hg2;clear hcell hg2))
 go_upto_region 7 with (fail)
 have HM:=Lib.hid (show Wc w2 gp (movC cs (a) (a + q) r) sp from Wc.moved (by have h1:=HA.out;have h2:=HQR.out;omega) (by have h1:=HA.out;have h2:=HQR.out;omega) (by rw [show (a) * 4 = o by have:=HO.out;omega];exact HC2.out))
 have hml : (movC cs (a) (a + q) r).length = cs.length:=movC_len (by have h1:=HA.out;have h2:=HQR.out;omega) (by have h1:=HA.out;have h2:=HQR.out;omega)
 obtain ⟨M,hM⟩ : ∃ M,movC cs (a) (a + q) r = M:=⟨_,rfl⟩
 rw [hM] at HM hml
 have HMe:=Lib.hid hM
 clear hM HC2
 have HBx:=Lib.hid (HB.out.far HG2.out (by intro e;have:=Option.some.inj e;omega))
 obtain ⟨o2,ho2⟩ : ∃ o2,o + r * 4 = o2:=⟨_,rfl⟩
 simp only [ho2]
 have HO2:=Lib.hid ho2
 clear ho2
 go_wp2_with fail
 go_loopw [34] (fun i wr => ∃ k : Nat,i = .int .i64 k ∧ k ≤ q ∧ Wc wr gp (fillL M (a + r) k (d1,d2,d3,d4)) sp ∧ w2.grownBy wr (some gp)) (fun i _ => q - (intOf i).toNat)
 case atStart => exact ⟨0,rfl,by omega,by rw [fillL_0];exact HM.out,grown_refl _ _⟩
 case round =>
  rename_i wr
  obtain ⟨k,rfl,hk,hWr,hgr⟩:=hrel
  have HWr:=Lib.hid hWr
  have HGr:=Lib.hid hgr
  have HBr:=Lib.hid (HBx.out.far hgr (by intro e;have:=Option.some.inj e;omega))
  have y0:=HBr.out.cell 0 (v:=.int .i64 d1) rfl
  have y1:=HBr.out.cell 1 (v:=.int .i64 d2) rfl
  have y2:=HBr.out.cell 2 (v:=.int .i64 d3) rfl
  have y3:=HBr.out.cell 3 (v:=.int .i64 d4) rfl
  clear hWr hgr
  by_cases hlt : k < q
  ·have hkl : (a + r) + k < (fillL M (a + r) k (d1,d2,d3,d4)).length:=by rw [fillL_len,hml];have h1:=HA.out;have h2:=HQR.out;omega
   obtain ⟨a1,a2,a3,a4⟩:=HWr.out.cells _ hkl
   have b1:=HWr.out.free (((a + r) + k) * 4)
   have b2:=HWr.out.free (((a + r) + k) * 4 + 1)
   have b3:=HWr.out.free (((a + r) + k) * 4 + 2)
   have b4:=HWr.out.free (((a + r) + k) * 4 + 3)
   have hst:=HWr.out.store ((a + r) + k) hkl (d1,d2,d3,d4)
   rw [fillL_step] at hst
   have e4 : ((a + r) + k) * 4 = o2 + k * 4:=by have h1:=HO.out;have h2:=HO2.out;omega
   rw [e4] at a1 a2 a3 a4 b1 b2 b3 b4 hst
   have HST:=Lib.hid hst
   clear hst
   go_wp2_with fail
   go_roundw
   case rel => exact ⟨k + 1,by go_num,by omega,HST.out,grown_set (grown_set (grown_set (grown_set HGr.out _ _) _ _) _ _) _ _⟩
   case measure => simp [intOf];omega
  ·obtain rfl : k = q:=by omega
   go_wp2_with fail
   refine bodyPost_end (by simp [results,Tryz.results71,go_sem];rfl) rfl ?_
   have hfin:=HWr.out
   rw [← HMe.out] at hfin
   have hlaw:=slide_pos (cs:=cs) (a:=a) (n:=n) (q:=k) (d:=(d1,d2,d3,d4)) HA.out (by have:=HQR.out;omega)
   rw [show n - k = r from hnq] at hlaw
   refine ⟨⟨_,rfl⟩,?_,((grown_bw hbw (some gp)).trans HG2.out).trans HGr.out⟩
   rw [← hlaw]
   exact hfin

set_option maxRecDepth 100000 in
set_option maxHeartbeats 4000000 in
theorem gslide_neg (cs : List C4) (sp : List Value) (gp a n cp q r : Nat) (d1 d2 d3 d4 : Int) (w : World) (hW : Wc w gp cs sp) (ha : a + n ≤ cs.length) (hn : n ≤ cp) (hn3 : n ≤ 1000000) (hc : cp ≤ 9223372036854775807) (hqr : n = q + r) (hcq : ¬ cp = q) (hq : 0 < q) :
  Calls Tryz.prog 71 #[.slice (some ⟨gp,a * 4,none⟩) n cp,.int .i64 (-(q : Int)),.agg #[.int .i64 d1,.int .i64 d2,.int .i64 d3,.int .i64 d4]] w fun e w' => (∃ v,e = .returned v) ∧ Wc w' gp (slideC cs a n (-(q : Int)) (d1,d2,d3,d4)) sp ∧ w.grownBy w' (some gp):=by
 have HW:=Lib.hid hW
 have HA:=Lib.hid ha
 have HQR:=Lib.hid hqr
 have hgl:=hW.lt
 have hsub : (n : Int) - (q : Int) = (r : Int):=by omega
 have hnq : n - q = r:=by omega
 have hnr : n - r = q:=by omega
 have q1 : (0 : Int) ≤ (q : Int):=by omega
 have q2 : (q : Int) ≤ (n : Int):=by omega
 have q3 : (r : Int) ≤ (n : Int):=by omega
 have q4 : (q : Int) ≤ (cp : Int):=by omega
 have q5 : (r : Int) ≤ (cp : Int):=by omega
 obtain ⟨o,ho⟩ : ∃ o,a * 4 = o:=⟨_,rfl⟩
 rw [ho]
 have HO:=Lib.hid ho
 clear hW ha hqr ho
 have hn1 : -(q : Int) < 0:=by omega
 have hn2 : ¬ (0 : Int) ≤ -(q : Int):=by omega
 go_enter Tryz.func71,Tryz.ntmps71
 go_upto_region 1 with (fail)
 generalize hw1 : w.alloc _ = w1
 obtain ⟨hb0,hbw,hz⟩:=sb1 hw1
 have HB:=Lib.hid hb0
 have HW1:=Lib.hid (HW.out.up hbw)
 have hz1 : w.heap.size < w1.heap.size:=by omega
 clear hw1 hb0 hz HW
 have F1 : (flat ((cs.drop (a)).take r)).length = Nat.min n r * 4:=by
  have h1:=HA.out
  have h2:=HQR.out
  rw [flat_len,List.length_take,List.length_drop]
  have e : min r (cs.length - (a)) = Nat.min n r:=by show _ = min n r;omega
  rw [e]
 have F2 : ∀ j v,(flat ((cs.drop (a)).take r))[j]? = some v → w1.cell? ((⟨gp,o,none⟩ : Addr).add j) = some v:=fun j v hv => by
  have h1:=HA.out
  have h2:=HQR.out
  have h3:=(HW1.out.rg.sub (a) r (by omega)).news j v hv
  rw [show 0 + (a) * 4 = o by have:=HO.out;omega] at h3
  exact h3
 have F3 : o + q * 4 + (flat ((cs.drop (a)).take r)).length ≤ (flat cs ++ sp).toArray.size:=by
  have h1:=HA.out
  have h2:=HQR.out
  have h3:=HO.out
  rw [flat_len,List.length_take,List.length_drop,List.size_toArray,List.length_append,flat_len]
  omega
 have HF:=Lib.hid (And.intro F1 (And.intro F2 F3))
 clear F1 F2 F3
 go_upto_region 7 with ((refine wpList_copyS rfl (.tmp 25) (.tmp 26) 24 24 rfl 53 4 Tryz.underlying24 infoCs gp (o + q * 4) r (cp - q) ⟨gp,o,none⟩ n cp rfl rfl (flat cs ++ sp).toArray 53 HW1.out (flat ((cs.drop (a)).take r)) HF.out.1 HF.out.2.1 HF.out.2.2 (flat_one _) ?_;intro w2 hcell hg2;have HC2:=Lib.hid hcell;have HG2:=Lib.hid hg2;clear hcell hg2))
 have HM:=Lib.hid (show Wc w2 gp (movC cs (a + q) (a) r) sp from Wc.moved (by have h1:=HA.out;have h2:=HQR.out;omega) (by have h1:=HA.out;have h2:=HQR.out;omega) (by rw [show (a + q) * 4 = o + q * 4 by have:=HO.out;omega];exact HC2.out))
 have hml : (movC cs (a + q) (a) r).length = cs.length:=movC_len (by have h1:=HA.out;have h2:=HQR.out;omega) (by have h1:=HA.out;have h2:=HQR.out;omega)
 obtain ⟨M,hM⟩ : ∃ M,movC cs (a + q) (a) r = M:=⟨_,rfl⟩
 rw [hM] at HM hml
 have HMe:=Lib.hid hM
 clear hM HC2
 have HBx:=Lib.hid (HB.out.far HG2.out (by intro e;have:=Option.some.inj e;omega))
 obtain ⟨o2,ho2⟩ : ∃ o2,o = o2:=⟨_,rfl⟩
 simp only [ho2]
 have HO2:=Lib.hid ho2
 clear ho2
 go_wp2_with fail
 go_loopw [34] (fun i wr => ∃ k : Nat,i = .int .i64 k ∧ k ≤ q ∧ Wc wr gp (fillL M (a) k (d1,d2,d3,d4)) sp ∧ w2.grownBy wr (some gp)) (fun i _ => q - (intOf i).toNat)
 case atStart => exact ⟨0,rfl,by omega,by rw [fillL_0];exact HM.out,grown_refl _ _⟩
 case round =>
  rename_i wr
  obtain ⟨k,rfl,hk,hWr,hgr⟩:=hrel
  have HWr:=Lib.hid hWr
  have HGr:=Lib.hid hgr
  have HBr:=Lib.hid (HBx.out.far hgr (by intro e;have:=Option.some.inj e;omega))
  have y0:=HBr.out.cell 0 (v:=.int .i64 d1) rfl
  have y1:=HBr.out.cell 1 (v:=.int .i64 d2) rfl
  have y2:=HBr.out.cell 2 (v:=.int .i64 d3) rfl
  have y3:=HBr.out.cell 3 (v:=.int .i64 d4) rfl
  clear hWr hgr
  by_cases hlt : k < q
  ·have hkl : (a) + k < (fillL M (a) k (d1,d2,d3,d4)).length:=by rw [fillL_len,hml];have h1:=HA.out;have h2:=HQR.out;omega
   obtain ⟨a1,a2,a3,a4⟩:=HWr.out.cells _ hkl
   have b1:=HWr.out.free (((a) + k) * 4)
   have b2:=HWr.out.free (((a) + k) * 4 + 1)
   have b3:=HWr.out.free (((a) + k) * 4 + 2)
   have b4:=HWr.out.free (((a) + k) * 4 + 3)
   have hst:=HWr.out.store ((a) + k) hkl (d1,d2,d3,d4)
   rw [fillL_step] at hst
   have e4 : ((a) + k) * 4 = o2 + k * 4:=by have h1:=HO.out;have h2:=HO2.out;omega
   rw [e4] at a1 a2 a3 a4 b1 b2 b3 b4 hst
   have HST:=Lib.hid hst
   clear hst
   go_wp2_with fail
   go_roundw
   case rel => exact ⟨k + 1,by go_num,by omega,HST.out,grown_set (grown_set (grown_set (grown_set HGr.out _ _) _ _) _ _) _ _⟩
   case measure => simp [intOf];omega
  ·obtain rfl : k = q:=by omega
   go_wp2_with fail
   refine bodyPost_end (by simp [results,Tryz.results71,go_sem];rfl) rfl ?_
   have hfin:=HWr.out
   rw [← HMe.out] at hfin
   have hlaw:=slide_neg (cs:=cs) (a:=a) (n:=n) (q:=k) (d:=(d1,d2,d3,d4)) HA.out (by have:=HQR.out;omega)
   rw [show n - k = r from hnq] at hlaw
   refine ⟨⟨_,rfl⟩,?_,((grown_bw hbw (some gp)).trans HG2.out).trans HGr.out⟩
   rw [← hlaw]
   exact hfin
end Go.Proofs.YtkflooljdopldaaGreat
