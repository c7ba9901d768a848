/- Parts of the proof, one after the other. -/
import Derived.Test.YteebdjmjeahccaaGreatDoorW27
set_option linter.unusedSimpArgs false
set_option linter.unusedVariables false
set_option maxRecDepth 100000
set_option maxHeartbeats 16000000
namespace Go.Proofs.YteebdjmjeahccaaGreatDoor
open Go.RowKit
/-- A draw of the deck leaves a terminal that lies elsewhere. -/
theorem Trm.Ok.deck {w w' : World} {t : Trm} {B : Int} {b : Nat} {A : Option Addr} {n c : Nat} {xs : List Int} (h : t.Ok w B) (hD : Dk2 w b A n c xs) (hg : w.grownBy w' (some b)) (h1 : ∀ ad,t.s.A = some ad → ad.block ≠ b) (h2 : 0 < t.Hn → ∀ ad,t.HA = some ad → ad.block ≠ b) : t.Ok w' B:=by
 obtain ⟨k,hS⟩:=hD.2
 exact h.far hg (fun ad e e2 => h1 ad e (Option.some.inj e2)) (fun h0 => h.2.1.1.ne_sbf h0 hS Dk2.no8) (h.2.2.2.1.ne hS (by decide)) (fun h0 ad e e2 => h2 h0 ad e (Option.some.inj e2))
/-- A box of a terminal that holds no byte. -/
def Ob (w : World) (g : Nat) : Prop:=∃ old,Sb w g old 53 ∧ old.size = 26 ∧ ∀ (i : Nat) (x : Int),old[i]? ≠ some (.int .u8 x)
theorem Ob.up {w w' : World} {g : Nat} (h : Ob w g) (hb : Bw w w') : Ob w' g:=by
 obtain ⟨old,h1,h2⟩:=h
 exact ⟨old,h1.up hb,h2⟩
theorem Ob.far {w w' : World} {g : Nat} {row : Option Nat} (h : Ob w g) (hg : w.grownBy w' row) (hne : some g ≠ row) : Ob w' g:=by
 obtain ⟨old,h1,h2⟩:=h
 exact ⟨old,h1.far hg hne,h2⟩
/-- The terminal in box g, its memory apart from the boxes and the deck. -/
def TmR (w : World) (b : Nat) (A : Option Addr) (n c : Nat) (xs : List Int) (g : Nat) (R C : Nat) (B : Int) (wr : World) : Prop :=
 ∃ t : Trm,Sb wr g t.vals.toArray 53 ∧ t.Ok wr B ∧ t.s.Rn = R ∧ t.s.Cn = C ∧ (∀ ad,t.s.A = some ad → w.heap.size < ad.block ∧ ad.block ≠ g) ∧ (0 < t.Hn → ∀ ad,t.HA = some ad → w.heap.size < ad.block ∧ ad.block ≠ g) ∧ Dk2 wr b A n c xs ∧ w.grownBy wr (some b) ∧ Ob wr w.heap.size ∧ w.heap.size < g ∧ g < wr.heap.size
theorem TmR.deck {w wr w' : World} {b : Nat} {A : Option Addr} {n c : Nat} {xs : List Int} {g R C : Nat} {B : Int} (h : TmR w b A n c xs g R C B wr) (hb : b < w.heap.size) (hD : Dk2 w' b A n c xs) (hg : wr.grownBy w' (some b)) : TmR w b A n c xs g R C B w':=by
 obtain ⟨t,h1,h2,h3,h4,h5,h6,h7,h8,h9,h10,h11⟩:=h
 exact ⟨t,h1.far hg (by intro e;have:=Option.some.inj e;omega),h2.deck h7 hg (fun ad e => by have:=h5 ad e;omega) (fun h0 ad e => by have:=h6 h0 ad e;omega),h3,h4,h5,h6,hD,h8.trans hg,h9.far hg (by intro e;have:=Option.some.inj e;omega),h10,by have:=hg.size;omega⟩
theorem clamp_id {x m : Int} (h1 : 1 ≤ x) (h2 : x ≤ m) : clamp x m = x:=by unfold clamp;(repeat' split) <;> omega
theorem mterm_dk (b : Nat) (A : Option Addr) (n c : Nat) (xs : List Int) (w : World) (hD : Dk2 w b A n c xs) : Calls Tryz.prog 19 #[.pointer (some ⟨b,0,none⟩)] w fun e w' => ∃ t : Trm,e = .returned (.agg t.vals.toArray) ∧ t.Ok w' 1000000000 ∧ (1 ≤ t.s.Rn ∧ t.s.Rn ≤ 5 ∧ 1 ≤ t.s.Cn ∧ t.s.Cn ≤ 9) ∧ (∀ ad,t.s.A = some ad → w.heap.size ≤ ad.block) ∧ Dk2 w' b A n c xs ∧ w.grownBy w' (some b):=by
 have hbz : b < w.heap.size:=hD.1.1
 go_enter Tryz.func19,Tryz.ntmps19
 go_upto_region 1 with (fail)
 generalize hw1 : w.alloc _ = w1
 obtain ⟨hb0,hbw,hz⟩:=sb1 hw1
 have HO1:=Lib.hid (show Ob w1 w.heap.size from ⟨_,hb0,rfl,fun i x h => by have:=Array.mem_of_getElem? h;simp at this⟩)
 have hz1 : w.heap.size < w1.heap.size:=by omega
 have HD1:=Lib.hid (hD.up hbw)
 clear hw1 hb0 hz hD
 go_wp2_with fail
 refine (mrange_dk2 b A n c 1 5 xs _ HD1.out (by omega) (by omega) (by omega)).mono ?_
 rintro e w2 ⟨R,rfl,hR1,hR2,hD2,hg2⟩
 go_wp2_with fail
 refine (mrange_dk2 b A n c 1 9 xs _ hD2 (by omega) (by omega) (by omega)).mono ?_
 rintro e w3 ⟨C,rfl,hC1,hC2,hD3,hg3⟩
 go_wp2_with fail
 refine (mnext_dk2 b A n c 4 xs _ hD3 (by omega) (by omega)).mono ?_
 rintro e w4 ⟨K,rfl,hK1,hK2,hD4,hg4⟩
 have hg14:=(hg2.trans hg3).trans hg4
 have HO4:=Lib.hid (HO1.out.far hg14 (by intro e;have:=Option.some.inj e;omega))
 have HG4:=Lib.hid ((grown_bw hbw (some b)).trans hg14)
 have HD4:=Lib.hid hD4
 have hz4 : w.heap.size < w4.heap.size:=by have:=hg14.size;omega
 clear hD2 hD3 hD4 hg2 hg3 hg4 hg14 HO1 HD1 hbw hz1
 go_upto_region 2 with (first
  | (go_at_call 25;refine (rnew19_ok R C K _ (by omega)).mono ?_;rintro ee w5 ⟨t,rfl,hOk,e1,e2,hN,hH,hb5⟩;have HOk:=Lib.hid hOk;have HN:=Lib.hid hN;have HE:=Lib.hid (And.intro e1 e2);have HB5:=Lib.hid hb5;have HH:=Lib.hid hH;have hz5:=hb5.size;clear hOk hN e1 e2 hb5 hH)
  | ((with_reducible refine wpList_store_tr t w5.heap.size (.tmp 3) (.tmp 11) rfl rfl ?_ ?_ ?_ ?_);(focus rfl);(focus rfl);(focus (exact ⟨_,heap_at rfl,rfl⟩));intro w6 hS6 hg6;have HS6:=Lib.hid hS6;have HG6:=Lib.hid hg6;clear hS6 hg6)
  | fail)
 have hg6:=HG6.out
 have hb56 : Bw w5 w6:=Bw.grown (show Bw w5 (w5.alloc _) from BWX) hg6 (fun k hk => by cases hk;omega)
 have hb46 : Bw w4 w6:=Bw.trans HB5.out hb56
 obtain ⟨Rn,hRn⟩ : ∃ Rn,t.s.Rn = Rn:=⟨_,rfl⟩
 obtain ⟨Cn,hCn⟩ : ∃ Cn,t.s.Cn = Cn:=⟨_,rfl⟩
 have hR:=HE.out.1
 have hC:=HE.out.2
 rw [hRn,clamp_id (by omega) (by omega)] at hR
 rw [hCn,clamp_id (by omega) (by omega)] at hC
 have HT6:=Lib.hid (show TmR w b A n c xs w5.heap.size Rn Cn (46200000 * 0) w6 from ⟨t,HS6.out,Trm.Ok.more (HOk.out.up hb56) (by omega),hRn,hCn,fun ad e => by have h1:=HN.out ad e;have h2:=HOk.out.1.1.lt ad e;omega,fun h0 ad e => absurd (HH.out.symm.trans e) (by simp),HD4.out.up hb46,grown_bw2 HG4.out hb46,HO4.out.up hb46,by omega,HS6.out.lt⟩)
 obtain ⟨g3,hg3⟩ : ∃ g3,w5.heap.size = g3:=⟨_,rfl⟩
 rw [hg3] at HT6
 simp only [hg3]
 clear HS6 HG6 hg6 hb56 hb46 HOk HN HE HB5 HH HD4 HO4 HG4 hg3 hz4 hz5 hRn hCn
 have hD_:=HT6.out.choose_spec.2.2.2.2.2.2.1
 go_wp2_with fail
 refine (mnext_dk2 b A n c 3 xs _ hD_ (by omega) (by omega)).mono ?_
 rintro e w7 ⟨q0,rfl,hq1,hq2,hD7,hg7⟩
 have HT7:=Lib.hid (HT6.out.deck hbz hD7 hg7)
 clear hD7 hg7 hD_ HT6
 go_wp2_with fail
 go_loopw [4] (fun v4 wr => ∃ q : Nat,v4 = .int .i64 q ∧ q ≤ 2 ∧ TmR w b A n c xs g3 Rn Cn (46200000 * (2 - (q : Int))) wr) (fun v4 _ => (intOf v4).toNat)
 case atStart =>
  obtain ⟨t',h1,h2,h3⟩:=HT7.out
  exact ⟨q0.toNat,by rw [Int.toNat_of_nonneg hq1],by omega,t',h1,Trm.Ok.more h2 (by omega),h3⟩
 case round =>
  rename_i wr
  obtain ⟨q,rfl,hq,hT⟩:=hrel
  obtain ⟨t',h1,h2,h3,h4,h5,h6,h7,h8,h9,h10,h11⟩:=hT
  have H1:=Lib.hid h1
  have H2:=Lib.hid h2
  have H5:=Lib.hid h5
  have H6:=Lib.hid h6
  have H7:=Lib.hid h7
  have H8:=Lib.hid h8
  have H9:=Lib.hid h9
  have H34:=Lib.hid (And.intro h3 h4)
  clear h1 h2 h3 h4 h5 h6 h7 h8 h9
  by_cases hq0 : q = 0
  ·subst hq0
   go_wp2_with (first
    | ((with_reducible refine wpList_load_tr t' g3 (.tmp 3) rfl rfl ?_ ?_ ?_);(focus rfl);(focus (exact H1.out)))
    | ((with_reducible refine wpList_store_tr t' w.heap.size (.tmp 2) (.tmp 22) rfl rfl ?_ ?_ ?_ ?_);(focus rfl);(focus rfl);(focus (exact Exists.elim H9.out (fun old h => ⟨old,h.1,h.2.1⟩)));intro we hS5 hg5;have HS5:=Lib.hid hS5;have HG5:=Lib.hid hg5;clear hS5 hg5)
    | fail)
   refine bodyPost_ret (results_tr rfl _ _ w.heap.size t' (by rfl) HS5.out) rfl ?_
   obtain ⟨oldb,hob,_,hne8⟩:=H9.out
   have hge:=HG5.out
   have hbz2:=h10
   exact ⟨t',rfl,Trm.Ok.more (H2.out.far hge (fun ad e e2 => by have:=(H5.out ad e).1;have e3:=Option.some.inj e2;omega) (fun h0 => H2.out.2.1.1.ne_sbf h0 hob hne8) (H2.out.2.2.2.1.ne hob (by decide)) (fun h0 ad e e2 => by have:=(H6.out h0 ad e).1;have e3:=Option.some.inj e2;omega)) (by omega),by have:=H34.out;omega,fun ad e => by have:=(H5.out ad e).1;omega,H7.out.grown hge hbz,grown_more H8.out hge (fun k hk => by cases hk;omega)⟩
  ·have hqp : (0 : Int) < (q : Int):=by omega
   go_upto_region 5 with (fail)
   refine wp_region_held_drew (S:=(fun w' => True)) (by kernel_rfl) ?_ (fun hHeld => ?_)
   ·(try dsimp only);skip
   refine tkQ 1 ?_
   (try simp only [Act.put,zP1,zP2,zP3,zP4,zP5,zP6])
   refine wpAnyH_ready (rs:=[0,2]) (by kernel_rfl) (by simp) ?_
   refine AllReadyH.cons rfl (fun K hK => ?_) ?_
   ·(refine (if_pos (by kernel_rfl)).mpr ?_);(first|((with_reducible refine wp_load_tr t' g3 (.tmp 3) ?_ ?_ ?_ ?_);(focus rfl);(focus rfl);(focus (exact H1.out.up (Bw.drew (Bw.refl _)))))|((with_reducible refine wp_load_tr t' g3 (.tmp 3) ?_ ?_ ?_ ?_);(focus rfl);(focus rfl);(focus (exact (H1.out.up (Bw.drew (Bw.refl _))).far HGB.out hg3b))))
    refine hK.out _ _ ?_ (fun hHeld => ?_)
    ·(try dsimp only);skip
    clear hK K
    (try simp only [Act.put,zP1,zP2,zP3,zP4,zP5,zP6])
    refine arO 2 (fun K hK => ?_)
    go_simp
    refine (mbytes_dk b A n c xs _ (H7.out.up (show Bw wr wr.drew from Bw.drew (Bw.refl _)))).mono ?_;rintro ee wb ⟨vb,rfl,hMB⟩;obtain ⟨bs,m1,m2,m3,m4,m5⟩:=hMB;obtain ⟨Db,cb,rfl,mb1,mb2⟩:=own_form m1;have HM1:=Lib.hid m1;have HM4:=Lib.hid m4;have HGB:=Lib.hid m5;have hzb : wr.heap.size ≤ wb.heap.size:=m5.size;have hg3b : some g3 ≠ some b:=(by intro e;have:=Option.some.inj e;omega);have HM2:=Lib.hid m2;have HOb:=Lib.hid ((H2.out.up (show Bw wr wr.drew from Bw.drew (Bw.refl _))).deck (H7.out.up (show Bw wr wr.drew from Bw.drew (Bw.refl _))) m5 (fun ad e => by have:=H5.out ad e;omega) (fun h0 ad e => by have:=H6.out h0 ad e;omega));clear m1 m2 m4 m5;go_wp2_with fail
    refine hK.out _ _ ?_ (fun hHeld => ?_)
    ·(try dsimp only);skip
    clear hK K
    (try simp only [Act.put,zP1,zP2,zP3,zP4,zP5,zP6])
    refine arO 3 (fun K hK => ?_)
    go_simp
    refine (rfeed_ok t' _ Db bs.length cb bs _ HOb.out ⟨by omega,by omega⟩ (by exact own_rd HM1.out) mb1 mb2 (by omega) HM2.out).mono ?_;rintro ee wf ⟨t2,rfl,f1,f2,f3,f4,f5,f6,f7⟩;have F1:=Lib.hid f1;have F2:=Lib.hid (And.intro f2 f3);have F5:=Lib.hid f5;have F6:=Lib.hid f6;have F7:=Lib.hid f7;clear f1 f2 f3 f4 f5 f6 f7;go_wp2_with fail
    refine hK.out _ _ ?_ (fun hHeld => ?_)
    ·(try dsimp only);skip
    clear hK K
    (try simp only [Act.put,zP1,zP2,zP3,zP4,zP5,zP6])
    refine arO 4 (fun K hK => ?_)
    (refine (if_pos (by kernel_rfl)).mpr ?_);((with_reducible refine wp_store_tr t2 g3 (.tmp 3) (.tmp 21) ?_ ?_ ?_ ?_ ?_);(focus rfl);(focus rfl);(focus rfl);(focus (exact ⟨_,((H1.out.up (Bw.drew (Bw.refl _))).far HGB.out hg3b).up F7.out,rfl⟩)));intro w3 hS3 hg3';have HS3:=Lib.hid hS3;have HG3:=Lib.hid hg3';clear hS3 hg3'
    refine hK.out _ _ ?_ (fun hHeld => ?_)
    ·(try dsimp only);skip
    clear hK K
    (try simp only [Act.put,zP1,zP2,zP3,zP4,zP5,zP6])
    refine wpAnyH_done (by kernel_rfl) ?_ _
    go_wp2_with fail
    go_roundw
    case rel =>
     have hg3g:=HG3.out
     have hb7:=F7.out
     have hs7:=hb7.size
     have hT1:=((H1.out.up (show Bw wr wr.drew from Bw.drew (Bw.refl _))).far HGB.out hg3b).up hb7
     have hA2 : ∀ ad,t2.s.A = some ad → w.heap.size < ad.block ∧ ad.block ≠ g3:=fun ad e => by
      rcases F5.out with h|h
      ·exact H5.out ad (by rw [← h];exact e)
      ·have:=h ad e
       omega
     have hH2 : 0 < t2.Hn → ∀ ad,t2.HA = some ad → w.heap.size < ad.block ∧ ad.block ≠ g3:=fun h0 ad e => by
      rcases F6.out with h|h
      ·exact H6.out (by rw [← h.2];exact h0) ad (by rw [← h.1];exact e)
      ·have:=h ad e
       omega
     refine ⟨q - 1,by congr 1;omega,by omega,t2,HS3.out,Trm.Ok.more (F1.out.far hg3g (fun ad e e2 => (hA2 ad e).2 (Option.some.inj e2)) (fun h0 => F1.out.2.1.1.ne_sbf h0 hT1 t'.no8) (F1.out.2.2.2.1.ne hT1 (by decide)) (fun h0 ad e e2 => (hH2 h0 ad e).2 (Option.some.inj e2))) (by omega),F2.out.1.trans H34.out.1,F2.out.2.trans H34.out.2,hA2,hH2,(HM4.out.up hb7).grown hg3g (by omega),grown_more (grown_bw2 ((H8.out.trans (grown_bw (show Bw wr wr.drew from Bw.drew (Bw.refl _)) (some b))).trans HGB.out) hb7) hg3g (fun k hk => by cases hk;omega),(((H9.out.up (show Bw wr wr.drew from Bw.drew (Bw.refl _))).far HGB.out (by intro e;have:=Option.some.inj e;omega)).up hb7).far hg3g (by intro e;have:=Option.some.inj e;omega),h10,by have:=hg3g.size;omega⟩
    case measure => simp [intOf];omega
   refine AllReadyH.cons rfl (fun K hK => ?_) ?_
   ·go_simp
    refine (mbytes_dk b A n c xs _ (H7.out.up (show Bw wr wr.drew from Bw.drew (Bw.refl _)))).mono ?_;rintro ee wb ⟨vb,rfl,hMB⟩;obtain ⟨bs,m1,m2,m3,m4,m5⟩:=hMB;obtain ⟨Db,cb,rfl,mb1,mb2⟩:=own_form m1;have HM1:=Lib.hid m1;have HM4:=Lib.hid m4;have HGB:=Lib.hid m5;have hzb : wr.heap.size ≤ wb.heap.size:=m5.size;have hg3b : some g3 ≠ some b:=(by intro e;have:=Option.some.inj e;omega);have HM2:=Lib.hid m2;have HOb:=Lib.hid ((H2.out.up (show Bw wr wr.drew from Bw.drew (Bw.refl _))).deck (H7.out.up (show Bw wr wr.drew from Bw.drew (Bw.refl _))) m5 (fun ad e => by have:=H5.out ad e;omega) (fun h0 ad e => by have:=H6.out h0 ad e;omega));clear m1 m2 m4 m5;go_wp2_with fail
    refine hK.out _ _ ?_ (fun hHeld => ?_)
    ·(try dsimp only);skip
    clear hK K
    (try simp only [Act.put,zP1,zP2,zP3,zP4,zP5,zP6])
    refine arO 0 (fun K hK => ?_)
    (refine (if_pos (by kernel_rfl)).mpr ?_);(first|((with_reducible refine wp_load_tr t' g3 (.tmp 3) ?_ ?_ ?_ ?_);(focus rfl);(focus rfl);(focus (exact H1.out.up (Bw.drew (Bw.refl _)))))|((with_reducible refine wp_load_tr t' g3 (.tmp 3) ?_ ?_ ?_ ?_);(focus rfl);(focus rfl);(focus (exact (H1.out.up (Bw.drew (Bw.refl _))).far HGB.out hg3b))))
    refine hK.out _ _ ?_ (fun hHeld => ?_)
    ·(try dsimp only);skip
    clear hK K
    (try simp only [Act.put,zP1,zP2,zP3,zP4,zP5,zP6])
    refine arO 3 (fun K hK => ?_)
    go_simp
    refine (rfeed_ok t' _ Db bs.length cb bs _ HOb.out ⟨by omega,by omega⟩ (by exact own_rd HM1.out) mb1 mb2 (by omega) HM2.out).mono ?_;rintro ee wf ⟨t2,rfl,f1,f2,f3,f4,f5,f6,f7⟩;have F1:=Lib.hid f1;have F2:=Lib.hid (And.intro f2 f3);have F5:=Lib.hid f5;have F6:=Lib.hid f6;have F7:=Lib.hid f7;clear f1 f2 f3 f4 f5 f6 f7;go_wp2_with fail
    refine hK.out _ _ ?_ (fun hHeld => ?_)
    ·(try dsimp only);skip
    clear hK K
    (try simp only [Act.put,zP1,zP2,zP3,zP4,zP5,zP6])
    refine arO 4 (fun K hK => ?_)
    (refine (if_pos (by kernel_rfl)).mpr ?_);((with_reducible refine wp_store_tr t2 g3 (.tmp 3) (.tmp 21) ?_ ?_ ?_ ?_ ?_);(focus rfl);(focus rfl);(focus rfl);(focus (exact ⟨_,((H1.out.up (Bw.drew (Bw.refl _))).far HGB.out hg3b).up F7.out,rfl⟩)));intro w3 hS3 hg3';have HS3:=Lib.hid hS3;have HG3:=Lib.hid hg3';clear hS3 hg3'
    refine hK.out _ _ ?_ (fun hHeld => ?_)
    ·(try dsimp only);skip
    clear hK K
    (try simp only [Act.put,zP1,zP2,zP3,zP4,zP5,zP6])
    refine wpAnyH_done (by kernel_rfl) ?_ _
    go_wp2_with fail
    go_roundw
    case rel =>
     have hg3g:=HG3.out
     have hb7:=F7.out
     have hs7:=hb7.size
     have hT1:=((H1.out.up (show Bw wr wr.drew from Bw.drew (Bw.refl _))).far HGB.out hg3b).up hb7
     have hA2 : ∀ ad,t2.s.A = some ad → w.heap.size < ad.block ∧ ad.block ≠ g3:=fun ad e => by
      rcases F5.out with h|h
      ·exact H5.out ad (by rw [← h];exact e)
      ·have:=h ad e
       omega
     have hH2 : 0 < t2.Hn → ∀ ad,t2.HA = some ad → w.heap.size < ad.block ∧ ad.block ≠ g3:=fun h0 ad e => by
      rcases F6.out with h|h
      ·exact H6.out (by rw [← h.2];exact h0) ad (by rw [← h.1];exact e)
      ·have:=h ad e
       omega
     refine ⟨q - 1,by congr 1;omega,by omega,t2,HS3.out,Trm.Ok.more (F1.out.far hg3g (fun ad e e2 => (hA2 ad e).2 (Option.some.inj e2)) (fun h0 => F1.out.2.1.1.ne_sbf h0 hT1 t'.no8) (F1.out.2.2.2.1.ne hT1 (by decide)) (fun h0 ad e e2 => (hH2 h0 ad e).2 (Option.some.inj e2))) (by omega),F2.out.1.trans H34.out.1,F2.out.2.trans H34.out.2,hA2,hH2,(HM4.out.up hb7).grown hg3g (by omega),grown_more (grown_bw2 ((H8.out.trans (grown_bw (show Bw wr wr.drew from Bw.drew (Bw.refl _)) (some b))).trans HGB.out) hb7) hg3g (fun k hk => by cases hk;omega),(((H9.out.up (show Bw wr wr.drew from Bw.drew (Bw.refl _))).far HGB.out (by intro e;have:=Option.some.inj e;omega)).up hb7).far hg3g (by intro e;have:=Option.some.inj e;omega),h10,by have:=hg3g.size;omega⟩
    case measure => simp [intOf];omega
   exact AllReadyH.nil
end Go.Proofs.YteebdjmjeahccaaGreatDoor
