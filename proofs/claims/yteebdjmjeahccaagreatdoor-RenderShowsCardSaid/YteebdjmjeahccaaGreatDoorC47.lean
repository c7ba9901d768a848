/- Parts of the proof, one after the other. -/
import Derived.Test.YteebdjmjeahccaaGreatDoorC32
import Derived.Test.YteebdjmjeahccaaGreatDoorC40
import Derived.Test.YteebdjmjeahccaaGreatDoorC37
import Derived.Test.YteebdjmjeahccaaGreatDoorC05
import Derived.Deep.RegionHeld3
import Derived.Test.YteebdjmjeahccaaGreatDoorC44
import Derived.Test.YteebdjmjeahccaaGreatDoorC33
set_option linter.unusedSimpArgs false
set_option linter.unusedVariables false
set_option maxRecDepth 100000
set_option maxHeartbeats 16000000
namespace Go.Proofs.YteebdjmjeahccaaGreatDoor
open Go.RowKit
/-- A box of a view. -/
def Ov (w : World) (g : Nat) : Prop:=∃ old,Sb w g old 27 ∧ old.size = 6
theorem Ov.up {w w' : World} {g : Nat} (h : Ov w g) (hb : Bw w w') : Ov w' g:=by
 obtain ⟨old,h1,h2⟩:=h
 exact ⟨old,h1.up hb,h2⟩
theorem Ov.far {w w' : World} {g : Nat} {row : Option Nat} (h : Ov w g) (hg : w.grownBy w' row) (hne : some g ≠ row) : Ov w' g:=by
 obtain ⟨old,h1,h2⟩:=h
 exact ⟨old,h1.far hg hne,h2⟩
/-- The terminal in box g, its memory apart from the boxes and the deck; the result's box is block w.heap.size. -/
def TmV (w : World) (b : Nat) (A : Option Addr) (n c : Nat) (xs : List Int) (g : Nat) (R C : Nat) (B : Int) (wr : World) : Prop :=
 ∃ t : Trm,Sb wr g t.vals.toArray 53 ∧ t.Ok wr B ∧ t.s.Rn = R ∧ t.s.Cn = C ∧ (∀ ad,t.s.A = some ad → w.heap.size < ad.block ∧ ad.block ≠ g) ∧ (0 < t.Hn → ∀ ad,t.HA = some ad → w.heap.size < ad.block ∧ ad.block ≠ g) ∧ Dk2 wr b A n c xs ∧ w.grownBy wr (some b) ∧ Ov wr w.heap.size ∧ w.heap.size < g ∧ g < wr.heap.size
theorem TmV.deck {w wr w' : World} {b : Nat} {A : Option Addr} {n c : Nat} {xs : List Int} {g R C : Nat} {B : Int} (h : TmV w b A n c xs g R C B wr) (hb : b < w.heap.size) (hD : Dk2 w' b A n c xs) (hg : wr.grownBy w' (some b)) : TmV w b A n c xs g R C B w':=by
 obtain ⟨t,h1,h2,h3,h4,h5,h6,h7,h8,h9,h10,h11⟩:=h
 exact ⟨t,h1.far hg (by intro e;have:=Option.some.inj e;omega),h2.deck h7 hg (fun ad e => by have:=h5 ad e;omega) (fun h0 ad e => by have:=h6 h0 ad e;omega),h3,h4,h5,h6,hD,h8.trans hg,h9.far hg (by intro e;have:=Option.some.inj e;omega),h10,by have:=hg.size;omega⟩
/-- The view of a valid screen of at most 5 x 9. -/
theorem Scr.Ok.view {w : World} {s : Scr} (h : s.Ok w) (h5 : s.Rn ≤ 5) (h9 : s.Cn ≤ 9) : ∃ cs,Rg w s.A s.n cs ∧ s.n ≤ s.c ∧ s.c ≤ 9223372036854775807 ∧ s.n ≤ 60 ∧ viewB s.Rn s.Cn cs s.row s.col = true:=by
 obtain ⟨⟨h1,h2,h3,h4,hn,h6,h7,cs,hr,hg⟩,hcur,-⟩:=h
 refine ⟨cs,hr,h6,h7,?_,?_⟩
 ·rw [hn];have:=Nat.mul_le_mul h5 h9;omega
 ·unfold viewB
  rw [hg,Bool.true_and]
  exact decide_eq_true hcur
/-- The call returns a valid view of R x C, in new memory. -/
def VwP (w : World) (b : Nat) (A : Option Addr) (n c : Nat) (xs : List Int) (R C : Int) (e : Ending) (w' : World) : Prop :=
 ∃ A' n' c' cs row col hid,e = .returned (.agg #[.int .i64 R,.int .i64 C,.slice A' n' c',.int .i64 row,.int .i64 col,.bool hid]) ∧ Rg w' A' n' cs ∧ n' ≤ c' ∧ c' ≤ 9223372036854775807 ∧ n' ≤ 60 ∧ viewB R C cs row col = true ∧ (∀ ad,A' = some ad → w.heap.size < ad.block) ∧ Dk2 w' b A n c xs ∧ w.grownBy w' (some b)
theorem mview_dk (b : Nat) (A : Option Addr) (n c : Nat) (xs : List Int) (R C : Int) (w : World) (hD : Dk2 w b A n c xs) (hR1 : 1 ≤ R) (hR2 : R ≤ 5) (hC1 : 1 ≤ C) (hC2 : C ≤ 9) : Calls Tryz.prog 24 #[.pointer (some ⟨b,0,none⟩),.int .i64 R,.int .i64 C] w (VwP w b A n c xs R C):=by
 have hbz : b < w.heap.size:=hD.1.1
 go_enter Tryz.func24,Tryz.ntmps24
 go_upto_region 1 with (fail)
 generalize hw4 : w.alloc _ = w4
 obtain ⟨hb0,hbw,hz⟩:=sb1 hw4
 have HO4:=Lib.hid (show Ov w4 w.heap.size from ⟨_,hb0,rfl⟩)
 have hz4 : w.heap.size < w4.heap.size:=by omega
 have HD4:=Lib.hid (hD.up hbw)
 have HG4:=Lib.hid (grown_bw hbw (some b))
 clear hw4 hb0 hz hD hbw
 go_upto_region 2 with (first
  | (go_at_call 25;refine (rnew19_ok R C 0 _ (by omega)).mono ?_;rintro ee w5 ⟨t,rfl,hOk,e1,e2,hN,hH,hb5⟩;have HOk:=Lib.hid hOk;have HN:=Lib.hid hN;have HE:=Lib.hid (And.intro e1 e2);have HB5:=Lib.hid hb5;have HH:=Lib.hid hH;have hz5:=hb5.size;clear hOk hN e1 e2 hb5 hH)
  | ((with_reducible refine wpList_store_tr t w5.heap.size (.tmp 7) (.tmp 11) rfl rfl ?_ ?_ ?_ ?_);(focus rfl);(focus rfl);(focus (exact ⟨_,heap_at rfl,rfl⟩));intro w6 hS6 hg6;have HS6:=Lib.hid hS6;have HG6:=Lib.hid hg6;clear hS6 hg6)
  | fail)
 have hg6:=HG6.out
 have hb56 : Bw w5 w6:=Bw.grown (show Bw w5 (w5.alloc _) from BWX) hg6 (fun k hk => by cases hk;omega)
 have hb46 : Bw w4 w6:=Bw.trans HB5.out hb56
 obtain ⟨Rn,hRn⟩ : ∃ Rn,t.s.Rn = Rn:=⟨_,rfl⟩
 obtain ⟨Cn,hCn⟩ : ∃ Cn,t.s.Cn = Cn:=⟨_,rfl⟩
 have hR:=HE.out.1
 have hC:=HE.out.2
 rw [hRn,clamp_id (by omega) (by omega)] at hR
 rw [hCn,clamp_id (by omega) (by omega)] at hC
 have HT6:=Lib.hid (show TmV w b A n c xs w5.heap.size Rn Cn (46200000 * 0) w6 from ⟨t,HS6.out,Trm.Ok.more (HOk.out.up hb56) (by omega),hRn,hCn,fun ad e => by have h1:=HN.out ad e;have h2:=HOk.out.1.1.lt ad e;omega,fun h0 ad e => absurd (HH.out.symm.trans e) (by simp),HD4.out.up hb46,grown_bw2 HG4.out hb46,HO4.out.up hb46,by omega,HS6.out.lt⟩)
 obtain ⟨g3,hg3⟩ : ∃ g3,w5.heap.size = g3:=⟨_,rfl⟩
 rw [hg3] at HT6
 simp only [hg3]
 have HRC:=Lib.hid (And.intro hR hC)
 clear HS6 HG6 hg6 hb56 hb46 HOk HN HE HB5 HH HD4 HO4 HG4 hg3 hz4 hz5 hRn hCn
 have hD_:=HT6.out.choose_spec.2.2.2.2.2.2.1
 go_wp2_with fail
 refine (mnext_dk2 b A n c 4 xs _ hD_ (by omega) (by omega)).mono ?_
 rintro e w7 ⟨q0,rfl,hq1,hq2,hD7,hg7⟩
 have HT7:=Lib.hid (HT6.out.deck hbz hD7 hg7)
 clear hD7 hg7 hD_ HT6 hR hC
 go_wp2_with fail
 go_loopw [8] (fun v8 wr => ∃ q : Nat,v8 = .int .i64 q ∧ q ≤ 3 ∧ TmV w b A n c xs g3 Rn Cn (46200000 * (3 - (q : Int))) wr) (fun v8 _ => (intOf v8).toNat)
 case atStart =>
  obtain ⟨t',h1,h2,h3⟩:=HT7.out
  exact ⟨q0.toNat,by rw [Int.toNat_of_nonneg hq1],by omega,t',h1,Trm.Ok.more h2 (by omega),h3⟩
 case round =>
  rename_i wr
  obtain ⟨q,rfl,hq,hT⟩:=hrel
  obtain ⟨t',h1,h2,h3,h4,h5,h6,h7,h8,h9,h10,h11⟩:=hT
  have H1:=Lib.hid h1
  have H2:=Lib.hid h2
  have H5:=Lib.hid h5
  have H6:=Lib.hid h6
  have H7:=Lib.hid h7
  have H8:=Lib.hid h8
  have H9:=Lib.hid h9
  have H34:=Lib.hid (And.intro h3 h4)
  clear h1 h2 h3 h4 h5 h6 h7 h8 h9
  by_cases hq0 : q = 0
  ·subst hq0
   go_wp2_with (first
    | ((with_reducible refine wpList_load_tr t' g3 (.tmp 7) rfl rfl ?_ ?_ ?_);(focus rfl);(focus (exact H1.out)))
    | (go_at_call 23;refine (rpane_any t' _).mono ?_;rintro ee wv ⟨rfl,hbv⟩;have hbrv : Bw wr wv:=Bw.trans (show Bw wr _ from BWX) hbv;have HO9:=Lib.hid (H9.out.up hbrv);clear hbv)
    | ((with_reducible refine wpList_store_vw t'.s.Rn t'.s.Cn t'.s.A t'.s.n t'.s.c t'.s.row t'.s.col t'.s.hid w.heap.size (.tmp 6) (.tmp 23) rfl rfl ?_ ?_ ?_ ?_);(focus rfl);(focus rfl);(focus (exact HO9.out));intro we hS5 hg5;have HS5:=Lib.hid hS5;have HG5:=Lib.hid hg5;clear hS5 hg5)
    | fail)
   refine bodyPost_ret (results_vw rfl _ _ w.heap.size t'.s.Rn t'.s.Cn t'.s.A t'.s.n t'.s.c t'.s.row t'.s.col t'.s.hid (by rfl) HS5.out) rfl ?_
   have hge:=HG5.out
   have eR : (t'.s.Rn : Int) = R:=by rw [H34.out.1];exact HRC.out.1
   have eC : (t'.s.Cn : Int) = C:=by rw [H34.out.2];exact HRC.out.2
   obtain ⟨cs,v1,v2,v3,v4,v5⟩:=(H2.out.1.up hbrv).view (by omega) (by omega)
   rw [eR,eC] at v5 ⊢
   exact ⟨t'.s.A,t'.s.n,t'.s.c,cs,t'.s.row,t'.s.col,t'.s.hid,rfl,v1.far hge (fun ad e e2 => by have:=(H5.out ad e).1;have e3:=Option.some.inj e2;omega),v2,v3,v4,v5,fun ad e => (H5.out ad e).1,(H7.out.up hbrv).grown hge hbz,grown_more (grown_bw2 H8.out hbrv) hge (fun k hk => by cases hk;omega)⟩
  ·have hqp : (0 : Int) < (q : Int):=by omega
   go_upto_region 5 with (fail)
   refine wp_region_held_drew (S:=(fun w' => True)) (by kernel_rfl) ?_ (fun hHeld => ?_)
   ·(try dsimp only);skip
   refine tkQ 1 ?_
   (try simp only [Act.put,zP1,zP2,zP3,zP4,zP5,zP6])
   refine wpAnyH_ready (rs:=[0,2]) (by kernel_rfl) (by simp) ?_
   refine AllReadyH.cons rfl (fun K hK => ?_) ?_
   ·(refine (if_pos (by kernel_rfl)).mpr ?_);(first|((with_reducible refine wp_load_tr t' g3 (.tmp 7) ?_ ?_ ?_ ?_);(focus rfl);(focus rfl);(focus (exact H1.out.up (Bw.drew (Bw.refl _)))))|((with_reducible refine wp_load_tr t' g3 (.tmp 7) ?_ ?_ ?_ ?_);(focus rfl);(focus rfl);(focus (exact (H1.out.up (Bw.drew (Bw.refl _))).far HGB.out hg3b))))
    refine hK.out _ _ ?_ (fun hHeld => ?_)
    ·(try dsimp only);skip
    clear hK K
    (try simp only [Act.put,zP1,zP2,zP3,zP4,zP5,zP6])
    refine arO 2 (fun K hK => ?_)
    go_simp
    refine (mbytes_dk b A n c xs _ (H7.out.up (show Bw wr wr.drew from Bw.drew (Bw.refl _)))).mono ?_;rintro ee wb ⟨vb,rfl,hMB⟩;obtain ⟨bs,m1,m2,m3,m4,m5⟩:=hMB;obtain ⟨Db,cb,rfl,mb1,mb2⟩:=own_form m1;have HM1:=Lib.hid m1;have HM4:=Lib.hid m4;have HGB:=Lib.hid m5;have hzb : wr.heap.size ≤ wb.heap.size:=m5.size;have hg3b : some g3 ≠ some b:=(by intro e;have:=Option.some.inj e;omega);have HM2:=Lib.hid m2;have HOb:=Lib.hid ((H2.out.up (show Bw wr wr.drew from Bw.drew (Bw.refl _))).deck (H7.out.up (show Bw wr wr.drew from Bw.drew (Bw.refl _))) m5 (fun ad e => by have:=H5.out ad e;omega) (fun h0 ad e => by have:=H6.out h0 ad e;omega));clear m1 m2 m4 m5;go_wp2_with fail
    refine hK.out _ _ ?_ (fun hHeld => ?_)
    ·(try dsimp only);skip
    clear hK K
    (try simp only [Act.put,zP1,zP2,zP3,zP4,zP5,zP6])
    refine arO 3 (fun K hK => ?_)
    go_simp
    refine (rfeed_ok t' _ Db bs.length cb bs _ HOb.out ⟨by omega,by omega⟩ (by exact own_rd HM1.out) mb1 mb2 (by omega) HM2.out).mono ?_;rintro ee wf ⟨t2,rfl,f1,f2,f3,f4,f5,f6,f7⟩;have F1:=Lib.hid f1;have F2:=Lib.hid (And.intro f2 f3);have F5:=Lib.hid f5;have F6:=Lib.hid f6;have F7:=Lib.hid f7;clear f1 f2 f3 f4 f5 f6 f7;go_wp2_with fail
    refine hK.out _ _ ?_ (fun hHeld => ?_)
    ·(try dsimp only);skip
    clear hK K
    (try simp only [Act.put,zP1,zP2,zP3,zP4,zP5,zP6])
    refine arO 4 (fun K hK => ?_)
    (refine (if_pos (by kernel_rfl)).mpr ?_);((with_reducible refine wp_store_tr t2 g3 (.tmp 7) (.tmp 21) ?_ ?_ ?_ ?_ ?_);(focus rfl);(focus rfl);(focus rfl);(focus (exact ⟨_,((H1.out.up (Bw.drew (Bw.refl _))).far HGB.out hg3b).up F7.out,rfl⟩)));intro w3 hS3 hg3';have HS3:=Lib.hid hS3;have HG3:=Lib.hid hg3';clear hS3 hg3'
    refine hK.out _ _ ?_ (fun hHeld => ?_)
    ·(try dsimp only);skip
    clear hK K
    (try simp only [Act.put,zP1,zP2,zP3,zP4,zP5,zP6])
    refine wpAnyH_done (by kernel_rfl) ?_ _
    go_wp2_with fail
    go_roundw
    case rel =>
     have hg3g:=HG3.out
     have hb7:=F7.out
     have hs7:=hb7.size
     have hT1:=((H1.out.up (show Bw wr wr.drew from Bw.drew (Bw.refl _))).far HGB.out hg3b).up hb7
     have hA2 : ∀ ad,t2.s.A = some ad → w.heap.size < ad.block ∧ ad.block ≠ g3:=fun ad e => by
      rcases F5.out with h|h
      ·exact H5.out ad (by rw [← h];exact e)
      ·have:=h ad e
       omega
     have hH2 : 0 < t2.Hn → ∀ ad,t2.HA = some ad → w.heap.size < ad.block ∧ ad.block ≠ g3:=fun h0 ad e => by
      rcases F6.out with h|h
      ·exact H6.out (by rw [← h.2];exact h0) ad (by rw [← h.1];exact e)
      ·have:=h ad e
       omega
     refine ⟨q - 1,by congr 1;omega,by omega,t2,HS3.out,Trm.Ok.more (F1.out.far hg3g (fun ad e e2 => (hA2 ad e).2 (Option.some.inj e2)) (fun h0 => F1.out.2.1.1.ne_sbf h0 hT1 t'.no8) (F1.out.2.2.2.1.ne hT1 (by decide)) (fun h0 ad e e2 => (hH2 h0 ad e).2 (Option.some.inj e2))) (by omega),F2.out.1.trans H34.out.1,F2.out.2.trans H34.out.2,hA2,hH2,(HM4.out.up hb7).grown hg3g (by omega),grown_more (grown_bw2 ((H8.out.trans (grown_bw (show Bw wr wr.drew from Bw.drew (Bw.refl _)) (some b))).trans HGB.out) hb7) hg3g (fun k hk => by cases hk;omega),(((H9.out.up (show Bw wr wr.drew from Bw.drew (Bw.refl _))).far HGB.out (by intro e;have:=Option.some.inj e;omega)).up hb7).far hg3g (by intro e;have:=Option.some.inj e;omega),h10,by have:=hg3g.size;omega⟩
    case measure => simp [intOf];omega
   refine AllReadyH.cons rfl (fun K hK => ?_) ?_
   ·go_simp
    refine (mbytes_dk b A n c xs _ (H7.out.up (show Bw wr wr.drew from Bw.drew (Bw.refl _)))).mono ?_;rintro ee wb ⟨vb,rfl,hMB⟩;obtain ⟨bs,m1,m2,m3,m4,m5⟩:=hMB;obtain ⟨Db,cb,rfl,mb1,mb2⟩:=own_form m1;have HM1:=Lib.hid m1;have HM4:=Lib.hid m4;have HGB:=Lib.hid m5;have hzb : wr.heap.size ≤ wb.heap.size:=m5.size;have hg3b : some g3 ≠ some b:=(by intro e;have:=Option.some.inj e;omega);have HM2:=Lib.hid m2;have HOb:=Lib.hid ((H2.out.up (show Bw wr wr.drew from Bw.drew (Bw.refl _))).deck (H7.out.up (show Bw wr wr.drew from Bw.drew (Bw.refl _))) m5 (fun ad e => by have:=H5.out ad e;omega) (fun h0 ad e => by have:=H6.out h0 ad e;omega));clear m1 m2 m4 m5;go_wp2_with fail
    refine hK.out _ _ ?_ (fun hHeld => ?_)
    ·(try dsimp only);skip
    clear hK K
    (try simp only [Act.put,zP1,zP2,zP3,zP4,zP5,zP6])
    refine arO 0 (fun K hK => ?_)
    (refine (if_pos (by kernel_rfl)).mpr ?_);(first|((with_reducible refine wp_load_tr t' g3 (.tmp 7) ?_ ?_ ?_ ?_);(focus rfl);(focus rfl);(focus (exact H1.out.up (Bw.drew (Bw.refl _)))))|((with_reducible refine wp_load_tr t' g3 (.tmp 7) ?_ ?_ ?_ ?_);(focus rfl);(focus rfl);(focus (exact (H1.out.up (Bw.drew (Bw.refl _))).far HGB.out hg3b))))
    refine hK.out _ _ ?_ (fun hHeld => ?_)
    ·(try dsimp only);skip
    clear hK K
    (try simp only [Act.put,zP1,zP2,zP3,zP4,zP5,zP6])
    refine arO 3 (fun K hK => ?_)
    go_simp
    refine (rfeed_ok t' _ Db bs.length cb bs _ HOb.out ⟨by omega,by omega⟩ (by exact own_rd HM1.out) mb1 mb2 (by omega) HM2.out).mono ?_;rintro ee wf ⟨t2,rfl,f1,f2,f3,f4,f5,f6,f7⟩;have F1:=Lib.hid f1;have F2:=Lib.hid (And.intro f2 f3);have F5:=Lib.hid f5;have F6:=Lib.hid f6;have F7:=Lib.hid f7;clear f1 f2 f3 f4 f5 f6 f7;go_wp2_with fail
    refine hK.out _ _ ?_ (fun hHeld => ?_)
    ·(try dsimp only);skip
    clear hK K
    (try simp only [Act.put,zP1,zP2,zP3,zP4,zP5,zP6])
    refine arO 4 (fun K hK => ?_)
    (refine (if_pos (by kernel_rfl)).mpr ?_);((with_reducible refine wp_store_tr t2 g3 (.tmp 7) (.tmp 21) ?_ ?_ ?_ ?_ ?_);(focus rfl);(focus rfl);(focus rfl);(focus (exact ⟨_,((H1.out.up (Bw.drew (Bw.refl _))).far HGB.out hg3b).up F7.out,rfl⟩)));intro w3 hS3 hg3';have HS3:=Lib.hid hS3;have HG3:=Lib.hid hg3';clear hS3 hg3'
    refine hK.out _ _ ?_ (fun hHeld => ?_)
    ·(try dsimp only);skip
    clear hK K
    (try simp only [Act.put,zP1,zP2,zP3,zP4,zP5,zP6])
    refine wpAnyH_done (by kernel_rfl) ?_ _
    go_wp2_with fail
    go_roundw
    case rel =>
     have hg3g:=HG3.out
     have hb7:=F7.out
     have hs7:=hb7.size
     have hT1:=((H1.out.up (show Bw wr wr.drew from Bw.drew (Bw.refl _))).far HGB.out hg3b).up hb7
     have hA2 : ∀ ad,t2.s.A = some ad → w.heap.size < ad.block ∧ ad.block ≠ g3:=fun ad e => by
      rcases F5.out with h|h
      ·exact H5.out ad (by rw [← h];exact e)
      ·have:=h ad e
       omega
     have hH2 : 0 < t2.Hn → ∀ ad,t2.HA = some ad → w.heap.size < ad.block ∧ ad.block ≠ g3:=fun h0 ad e => by
      rcases F6.out with h|h
      ·exact H6.out (by rw [← h.2];exact h0) ad (by rw [← h.1];exact e)
      ·have:=h ad e
       omega
     refine ⟨q - 1,by congr 1;omega,by omega,t2,HS3.out,Trm.Ok.more (F1.out.far hg3g (fun ad e e2 => (hA2 ad e).2 (Option.some.inj e2)) (fun h0 => F1.out.2.1.1.ne_sbf h0 hT1 t'.no8) (F1.out.2.2.2.1.ne hT1 (by decide)) (fun h0 ad e e2 => (hH2 h0 ad e).2 (Option.some.inj e2))) (by omega),F2.out.1.trans H34.out.1,F2.out.2.trans H34.out.2,hA2,hH2,(HM4.out.up hb7).grown hg3g (by omega),grown_more (grown_bw2 ((H8.out.trans (grown_bw (show Bw wr wr.drew from Bw.drew (Bw.refl _)) (some b))).trans HGB.out) hb7) hg3g (fun k hk => by cases hk;omega),(((H9.out.up (show Bw wr wr.drew from Bw.drew (Bw.refl _))).far HGB.out (by intro e;have:=Option.some.inj e;omega)).up hb7).far hg3g (by intro e;have:=Option.some.inj e;omega),h10,by have:=hg3g.size;omega⟩
    case measure => simp [intOf];omega
   exact AllReadyH.nil
theorem tmRange {w : World} {g : Nat} {t : Trm} (h : Sb w g t.vals.toArray 53) : w.rangeAt g 0 t.vals:=fun j v hv => by
 rw [Nat.zero_add]
 exact h.cell j (by simpa using hv)
theorem results_vw2 {fn : Func} {p q : Tmp} (h : fn.results = #[.cell p 27,.cell q 27]) (tmps : Array Value) (w : World) (g k : Nat) (x y : Array Value) (hp : tmps.getD p undef = .pointer (some ⟨g,0,none⟩)) (hq : tmps.getD q undef = .pointer (some ⟨k,0,none⟩)) (hx : Sb w g x 27) (hy : Sb w k y 27) (sx : x.size = 6) (sy : y.size = 6) :
  (results fn tmps).run Tryz.prog w = .ok (.tuple #[.agg x,.agg y]) w:=by
 have hp' : tmps[p]?.getD undef = .pointer (some ⟨g,0,none⟩):=by simpa using hp
 have hq' : tmps[q]?.getD undef = .pointer (some ⟨k,0,none⟩):=by simpa using hq
 have ix : (Tryz.prog.info? 27).map (·.size) = some x.size:=by rw [sx];exact infoVw
 have iy : (Tryz.prog.info? 27).map (·.size) = some y.size:=by rw [sy];exact infoVw
 simp [results,h,hp',hq',asAddr,run_loadVar_row w g 27 27 x (0,0) _ hx Tryz.underlying27 rfl ix,run_loadVar_row w k 27 27 y (0,0) _ hy Tryz.underlying27 rfl iy]
theorem wp_store_vw {o : Oper} {a : Act} {w : World} {K : Act → World → Prop} {Q : Exit → Act → World → Prop} (R C : Int) (A : Option Addr) (n c : Nat) (row col : Int) (hid : Bool) (g : Nat) (x y : Operand) (ho : o.op = .store 27 x y)
  (hx : a.eval x = .pointer (some ⟨g,0,none⟩)) (hy : a.eval y = .agg (vwV R C A n c row col hid)) (hg : ∃ old,Sb w g old 27 ∧ old.size = 6)
  (h : ∀ w',Sb w' g (vwV R C A n c row col hid) 27 → w.grownBy w' (some g) → K (a.put o.dst undef) w') : o.wp Tryz.prog a w K Q :=
 wp_store_cs 27 (vwV R C A n c row col hid) g x y infoVw (vwV_one R C A n c row col hid) ho hx hy hg h
/-- The terminal in box g, its memory behind the deck's block b. -/
def TmW (b : Nat) (A : Option Addr) (n c : Nat) (xs : List Int) (g R C : Nat) (B : Int) (wr : World) : Prop :=
 ∃ t : Trm,Sb wr g t.vals.toArray 53 ∧ t.Ok wr B ∧ t.s.Rn = R ∧ t.s.Cn = C ∧ (∀ ad,t.s.A = some ad → b < ad.block ∧ ad.block ≠ g) ∧ (0 < t.Hn → ∀ ad,t.HA = some ad → b < ad.block ∧ ad.block ≠ g) ∧ Dk2 wr b A n c xs ∧ b < g ∧ g < wr.heap.size
/-- A view, valid, of R x C, where it reads. -/
def VwK (w : World) (R C : Int) (v : Value) : Prop :=
 ∃ A n c cs row col hid,v = .agg #[.int .i64 R,.int .i64 C,.slice A n c,.int .i64 row,.int .i64 col,.bool hid] ∧ Rg w A n cs ∧ n ≤ c ∧ c ≤ 9223372036854775807 ∧ n ≤ 60 ∧ viewB R C cs row col = true
theorem views_any (A : Option Addr) (n c : Nat) (xs : List Int) (w : World) (hr : RdI w A n xs) (hA : 0 < n → ∀ ad,A = some ad → ad.block < w.heap.size) (hn : n ≤ 9223372036854775807) :
  Calls Tryz.prog 9 #[.slice A n c] w fun e w' => ∃ (R C : Int) (x y : Value),e = .returned (.tuple #[x,y]) ∧ VwK w' R C x ∧ VwK w' R C y ∧ (R ≤ 5 ∧ C ≤ 9) ∧ Bw w w':=by
 go_enter Tryz.func9,Tryz.ntmps9
 go_upto_region 1 with (fail)
 generalize hwa : w.alloc _ = wa
 obtain ⟨ha,hba,hza⟩:=sb1 hwa
 generalize hwb : wa.alloc _ = wb
 obtain ⟨hb,hbb,hzb⟩:=sb1 hwb
 rw [hza] at hb
 obtain ⟨v0,hv0⟩ : ∃ v0,v0 = w.heap.size:=⟨_,rfl⟩
 obtain ⟨v1,hv1⟩ : ∃ v1,v1 = w.heap.size + 1:=⟨_,rfl⟩
 rw [← hv1] at hb ⊢
 rw [← hv0] at ha ⊢
 have HV0:=Lib.hid (show Ov wb v0 from ⟨_,ha.up hbb,rfl⟩)
 have HV1:=Lib.hid (show Ov wb v1 from ⟨_,hb,rfl⟩)
 have hb0:=Bw.trans hba hbb
 have HZW:=Lib.hid (show wb.heap.size = w.heap.size + 2 by omega)
 have HQV:=Lib.hid (And.intro hv0 hv1)
 clear hwa hwb ha hb hba hbb hza hzb hv0 hv1
 go_upto_region 2 with (first
  | (go_at_call 20;refine (mnew_any A n c _).mono ?_;rintro ee wn ⟨rfl,rfl⟩)
  | fail)
 have hD2:=Dk2.made (w:=wb) (c:=c) (hr.up hA hb0) (fun h0 ad e => by have:=hA h0 ad e;have:=HZW.out;omega) hn
 generalize hw2 : wb.alloc _ = w2 at hD2 ⊢
 obtain ⟨-,hb2,hz2⟩:=sb1 hw2
 obtain ⟨b,hbq⟩ : ∃ b,b = wb.heap.size:=⟨_,rfl⟩
 rw [← hbq] at hD2 ⊢
 have hzw:=HZW.out
 obtain ⟨hv0,hv1⟩:=HQV.out
 have HV02:=Lib.hid (HV0.out.up hb2)
 have HV12:=Lib.hid (HV1.out.up hb2)
 have HBW2:=Lib.hid (Bw.trans hb0 hb2)
 have hbw0 : w.heap.size ≤ b:=by omega
 have hv0b : v0 < b:=by omega
 have hv1b : v1 < b:=by omega
 have hb2z : b < w2.heap.size:=by omega
 have hv01 : v0 ≠ v1:=by omega
 have hv0w : w.heap.size ≤ v0:=by omega
 have hv1w : w.heap.size ≤ v1:=by omega
 clear hw2 hb2 hz2 hbq hb0 hzw HZW HQV HV0 HV1 hr hA hv0 hv1
 go_wp2_with fail
 refine (mrange_dk2 b A n c 1 5 xs _ hD2 (by omega) (by omega) (by omega)).mono ?_
 rintro e w3 ⟨R,rfl,hR1,hR2,hD3,hg3⟩
 go_wp2_with fail
 refine (mrange_dk2 b A n c 1 9 xs _ hD3 (by omega) (by omega) (by omega)).mono ?_
 rintro e w4 ⟨C,rfl,hC1,hC2,hD4,hg4⟩
 have hg24:=hg3.trans hg4
 have hbv0 : some v0 ≠ some b:=fun e => by have:=Option.some.inj e;omega
 have hbv1 : some v1 ≠ some b:=fun e => by have:=Option.some.inj e;omega
 have HV04:=Lib.hid (HV02.out.far hg24 hbv0)
 have HV14:=Lib.hid (HV12.out.far hg24 hbv1)
 have HBW4:=Lib.hid (Bw.grown HBW2.out hg24 (fun k hk => by cases hk;exact hbw0))
 have HD4:=Lib.hid hD4
 have hz4 : b < w4.heap.size:=by have:=hg24.size;omega
 clear hD2 hD3 hD4 hg3 hg4 hg24 HV02 HV12 HBW2 hb2z
 go_upto_region 4 with (first
  | (go_at_call 25;refine (rnew19_ok R C 0 _ (by omega)).mono ?_;rintro ee w5 ⟨t,rfl,hOk,e1,e2,hN,hH,hb5⟩;have HOk:=Lib.hid hOk;have HN:=Lib.hid hN;have HE:=Lib.hid (And.intro e1 e2);have HB5:=Lib.hid (show Bw w4 w5 from Bw.trans (show Bw w4 _ from BWX) hb5);have HH:=Lib.hid hH;have hz5:=HB5.out.size;clear hOk hN e1 e2 hb5 hH)
  | ((with_reducible refine wpList_store_tr t w5.heap.size (.tmp 7) (.tmp 17) rfl rfl ?_ ?_ ?_ ?_);(focus rfl);(focus rfl);(focus (exact ⟨_,heap_at rfl,rfl⟩));intro wr hS6 hg6;have HS6:=Lib.hid hS6;have hb56 : Bw w5 wr:=Bw.grown (show Bw w5 (w5.alloc _) from BWX) hg6 (fun k hk => by cases hk;omega);clear hS6 hg6)
  | fail)
 have hb46 : Bw w4 wr:=Bw.trans HB5.out hb56
 obtain ⟨Rn,hRn⟩ : ∃ Rn,t.s.Rn = Rn:=⟨_,rfl⟩
 obtain ⟨Cn,hCn⟩ : ∃ Cn,t.s.Cn = Cn:=⟨_,rfl⟩
 have hR:=HE.out.1
 have hC:=HE.out.2
 rw [hRn,clamp_id (by omega) (by omega)] at hR
 rw [hCn,clamp_id (by omega) (by omega)] at hC
 have HT6:=Lib.hid (show TmW b A n c xs w5.heap.size Rn Cn 0 wr from ⟨t,HS6.out,Trm.Ok.more (HOk.out.up hb56) (by omega),hRn,hCn,fun ad e => by have h1:=HN.out ad e;have h2:=HOk.out.1.1.lt ad e;(try simp only [szA,szS,szD,szN] at h1);omega,fun h0 ad e => absurd (HH.out.symm.trans e) (by simp),HD4.out.up hb46,by omega,HS6.out.lt⟩)
 have HV06:=Lib.hid (HV04.out.up hb46)
 have HV16:=Lib.hid (HV14.out.up hb46)
 have HBW6:=Lib.hid (Bw.trans HBW4.out hb46)
 have hzr:=hb46.size
 obtain ⟨g3,hg3⟩ : ∃ g3,w5.heap.size = g3:=⟨_,rfl⟩
 rw [hg3] at HT6
 simp only [hg3]
 have HRC:=Lib.hid (And.intro hR hC)
 clear HS6 hb56 hb46 HOk HN HE HB5 HH HD4 HV04 HV14 HBW4 hg3 hz5 hRn hCn hR hC
 simp only [Act.put]
 go_cut [] (fun w' => TmW b A n c xs g3 Rn Cn 100000000 w' ∧ Ov w' v0 ∧ Ov w' v1 ∧ Bw w w')
 case first =>
  obtain ⟨t',h1,h2,h3,h4,h5,h6,h7,h10,h11⟩:=HT6.out
  have H1:=Lib.hid h1
  have H2:=Lib.hid h2
  have H5:=Lib.hid h5
  have H6:=Lib.hid h6
  have H7:=Lib.hid h7
  have H34:=Lib.hid (And.intro h3 h4)
  clear h1 h2 h3 h4 h5 h6 h7
  have hg3b : some g3 ≠ some b:=(by intro e;have:=Option.some.inj e;omega)
  have HKr:=Lib.hid (show ∀ w',Bw wr w' → Sb w' g3 t'.vals.toArray 53 from fun w' hb => H1.out.up hb)
  refine wp_region_held_drew (S:=(fun w' => True)) (by kernel_rfl) ?_ (fun hHeld => ?_)
  ·(try dsimp only);skip
  refine tkQ 1 ?_
  (try simp only [Act.put,zP1,zP2,zP3,zP4,zP5,zP6])
  refine wpAnyH_ready (rs:=[0,2]) (by kernel_rfl) (by simp) ?_
  refine AllReadyH.cons rfl (fun K hK => ?_) ?_
  ·(refine (if_pos (by kernel_rfl)).mpr ?_);(first|((with_reducible refine wp_load_tr t' g3 (.tmp 7) ?_ ?_ ?_ ?_);(focus rfl);(focus rfl);(focus (refine HKr.out _ ?_;(repeat (first|with_reducible (first|assumption|exact Bw.refl _|refine Bw.alloc ?_ _|refine Bw.more ?_ _ _|refine Bw.drew ?_|refine Bw.drewN ?_ _)|((with_reducible refine Bw.set2 ?_ ?_ _);(focus exact SZX))|with_reducible refine Bw.trans ?_ (by assumption)));done)))|((with_reducible refine wp_load_tr t' g3 (.tmp 7) ?_ ?_ ?_ ?_);(focus rfl);(focus rfl);(focus (refine HKb.out _ ?_;(repeat (first|with_reducible (first|assumption|exact Bw.refl _|refine Bw.alloc ?_ _|refine Bw.more ?_ _ _|refine Bw.drew ?_|refine Bw.drewN ?_ _)|((with_reducible refine Bw.set2 ?_ ?_ _);(focus exact SZX))|with_reducible refine Bw.trans ?_ (by assumption)));done))))
   refine hK.out _ _ ?_ (fun hHeld => ?_)
   ·(try dsimp only);skip
   clear hK K
   (try simp only [Act.put,zP1,zP2,zP3,zP4,zP5,zP6])
   refine arO 2 (fun K hK => ?_)
   go_simp
   refine (mbytes_dk b A n c xs _ (H7.out.up (show Bw wr _ from BWX))).mono ?_;rintro ee wb ⟨vb,rfl,hMB⟩;obtain ⟨bs,m1,m2,m3,m4,m5⟩:=hMB;obtain ⟨Db,cb,rfl,mb1,mb2⟩:=own_form m1;have HM1:=Lib.hid m1;have HM2:=Lib.hid m2;have HM4:=Lib.hid m4;have M5:=Lib.hid m5;have HGr:=Lib.hid ((grown_bw (show Bw wr _ from BWX) (some b)).trans m5);have hzb : wr.heap.size ≤ wb.heap.size:=HGr.out.size;have HKb:=Lib.hid (show ∀ w',Bw wb w' → Sb w' g3 t'.vals.toArray 53 from fun w' hb => (H1.out.far HGr.out hg3b).up hb);have HOb:=Lib.hid (H2.out.deck H7.out HGr.out (fun ad e => by have:=H5.out ad e;omega) (fun h0 ad e => by have:=H6.out h0 ad e;omega));clear m1 m2 m4 m5;go_wp2_with fail
   refine hK.out _ _ ?_ (fun hHeld => ?_)
   ·(try dsimp only);skip
   clear hK K
   (try simp only [Act.put,zP1,zP2,zP3,zP4,zP5,zP6])
   refine arO 3 (fun K hK => ?_)
   go_simp
   refine (rfeed_ok t' _ Db bs.length cb bs _ (HOb.out.up (show Bw wb _ from BWX)) ⟨by omega,by omega⟩ ((own_rd HM1.out).up (show Bw wb _ from BWX)) mb1 mb2 (by omega) HM2.out).mono ?_;rintro ee wf ⟨t2,rfl,f1,f2,f3,f4,f5,f6,f7⟩;have F1:=Lib.hid f1;have F2:=Lib.hid (And.intro f2 f3);have F5:=Lib.hid (f5.more (show wb.heap.size ≤ _ from (show Bw wb _ from BWX).size));have F6:=Lib.hid (f6.more (show wb.heap.size ≤ _ from (show Bw wb _ from BWX).size));have F7r:=Lib.hid f7;have F7:=Lib.hid (Bw.trans (show Bw wb _ from BWX) f7);have hzf : wb.heap.size ≤ wf.heap.size:=F7.out.size;have HKf:=Lib.hid (show ∀ w',Bw wf w' → Sb w' g3 t'.vals.toArray 53 from fun w' hb => ((H1.out.far HGr.out hg3b).up F7.out).up hb);clear f1 f2 f3 f4 f5 f6 f7;go_wp2_with fail
   refine hK.out _ _ ?_ (fun hHeld => ?_)
   ·(try dsimp only);skip
   clear hK K
   (try simp only [Act.put,zP1,zP2,zP3,zP4,zP5,zP6])
   refine arO 4 (fun K hK => ?_)
   (refine (if_pos (by kernel_rfl)).mpr ?_);((with_reducible refine wp_store_tr t2 g3 (.tmp 7) (.tmp 21) ?_ ?_ ?_ ?_ ?_);(focus rfl);(focus rfl);(focus rfl);(focus (exact ⟨_,HKf.out _ BWX,rfl⟩)));intro w3 hS3 hg3';have HS3:=Lib.hid hS3;have HG3:=Lib.hid ((grown_bw (show Bw wf _ from BWX) (some g3)).trans hg3');clear hS3 hg3'
   refine hK.out _ _ ?_ (fun hHeld => ?_)
   ·(try dsimp only);skip
   clear hK K
   (try simp only [Act.put,zP1,zP2,zP3,zP4,zP5,zP6])
   refine wpAnyH_done (by kernel_rfl) ?_ _
   go_wp2_with fail
   go_meet
   case rel =>
    have hg3g:=HG3.out
    have hb7:=F7.out
    have hT1:=HKf.out wf (Bw.refl _)
    have hA2 : ∀ ad,t2.s.A = some ad → b < ad.block ∧ ad.block ≠ g3:=fun ad e => by
     rcases F5.out with h|h
     ·exact H5.out ad (by rw [← h];exact e)
     ·have:=h ad e
      omega
    have hH2 : 0 < t2.Hn → ∀ ad,t2.HA = some ad → b < ad.block ∧ ad.block ≠ g3:=fun h0 ad e => by
     rcases F6.out with h|h
     ·exact H6.out (by rw [← h.2];exact h0) ad (by rw [← h.1];exact e)
     ·have:=h ad e
      omega
    have hgv0 : some v0 ≠ some g3:=fun e => by have:=Option.some.inj e;omega
    have hgv1 : some v1 ≠ some g3:=fun e => by have:=Option.some.inj e;omega
    refine ⟨⟨t2,HS3.out,Trm.Ok.more (F1.out.far hg3g (fun ad e e2 => (hA2 ad e).2 (Option.some.inj e2)) (fun h0 => F1.out.2.1.1.ne_sbf h0 hT1 t'.no8) (F1.out.2.2.2.1.ne hT1 (by decide)) (fun h0 ad e e2 => (hH2 h0 ad e).2 (Option.some.inj e2))) (by omega),F2.out.1.trans H34.out.1,F2.out.2.trans H34.out.2,hA2,hH2,(HM4.out.up hb7).grown hg3g (by omega),h10,by have:=hg3g.size;omega⟩,((HV06.out.far HGr.out hbv0).up hb7).far hg3g hgv0,((HV16.out.far HGr.out hbv1).up hb7).far hg3g hgv1,?_⟩
    exact Bw.grown (Bw.trans (Bw.grown HBW6.out HGr.out (fun k hk => by cases hk;exact hbw0)) hb7) hg3g (fun k hk => by cases hk;omega)
  refine AllReadyH.cons rfl (fun K hK => ?_) ?_
  ·go_simp
   refine (mbytes_dk b A n c xs _ (H7.out.up (show Bw wr _ from BWX))).mono ?_;rintro ee wb ⟨vb,rfl,hMB⟩;obtain ⟨bs,m1,m2,m3,m4,m5⟩:=hMB;obtain ⟨Db,cb,rfl,mb1,mb2⟩:=own_form m1;have HM1:=Lib.hid m1;have HM2:=Lib.hid m2;have HM4:=Lib.hid m4;have M5:=Lib.hid m5;have HGr:=Lib.hid ((grown_bw (show Bw wr _ from BWX) (some b)).trans m5);have hzb : wr.heap.size ≤ wb.heap.size:=HGr.out.size;have HKb:=Lib.hid (show ∀ w',Bw wb w' → Sb w' g3 t'.vals.toArray 53 from fun w' hb => (H1.out.far HGr.out hg3b).up hb);have HOb:=Lib.hid (H2.out.deck H7.out HGr.out (fun ad e => by have:=H5.out ad e;omega) (fun h0 ad e => by have:=H6.out h0 ad e;omega));clear m1 m2 m4 m5;go_wp2_with fail
   refine hK.out _ _ ?_ (fun hHeld => ?_)
   ·(try dsimp only);skip
   clear hK K
   (try simp only [Act.put,zP1,zP2,zP3,zP4,zP5,zP6])
   refine arO 0 (fun K hK => ?_)
   (refine (if_pos (by kernel_rfl)).mpr ?_);(first|((with_reducible refine wp_load_tr t' g3 (.tmp 7) ?_ ?_ ?_ ?_);(focus rfl);(focus rfl);(focus (refine HKr.out _ ?_;(repeat (first|with_reducible (first|assumption|exact Bw.refl _|refine Bw.alloc ?_ _|refine Bw.more ?_ _ _|refine Bw.drew ?_|refine Bw.drewN ?_ _)|((with_reducible refine Bw.set2 ?_ ?_ _);(focus exact SZX))|with_reducible refine Bw.trans ?_ (by assumption)));done)))|((with_reducible refine wp_load_tr t' g3 (.tmp 7) ?_ ?_ ?_ ?_);(focus rfl);(focus rfl);(focus (refine HKb.out _ ?_;(repeat (first|with_reducible (first|assumption|exact Bw.refl _|refine Bw.alloc ?_ _|refine Bw.more ?_ _ _|refine Bw.drew ?_|refine Bw.drewN ?_ _)|((with_reducible refine Bw.set2 ?_ ?_ _);(focus exact SZX))|with_reducible refine Bw.trans ?_ (by assumption)));done))))
   refine hK.out _ _ ?_ (fun hHeld => ?_)
   ·(try dsimp only);skip
   clear hK K
   (try simp only [Act.put,zP1,zP2,zP3,zP4,zP5,zP6])
   refine arO 3 (fun K hK => ?_)
   go_simp
   refine (rfeed_ok t' _ Db bs.length cb bs _ (HOb.out.up (show Bw wb _ from BWX)) ⟨by omega,by omega⟩ ((own_rd HM1.out).up (show Bw wb _ from BWX)) mb1 mb2 (by omega) HM2.out).mono ?_;rintro ee wf ⟨t2,rfl,f1,f2,f3,f4,f5,f6,f7⟩;have F1:=Lib.hid f1;have F2:=Lib.hid (And.intro f2 f3);have F5:=Lib.hid (f5.more (show wb.heap.size ≤ _ from (show Bw wb _ from BWX).size));have F6:=Lib.hid (f6.more (show wb.heap.size ≤ _ from (show Bw wb _ from BWX).size));have F7r:=Lib.hid f7;have F7:=Lib.hid (Bw.trans (show Bw wb _ from BWX) f7);have hzf : wb.heap.size ≤ wf.heap.size:=F7.out.size;have HKf:=Lib.hid (show ∀ w',Bw wf w' → Sb w' g3 t'.vals.toArray 53 from fun w' hb => ((H1.out.far HGr.out hg3b).up F7.out).up hb);clear f1 f2 f3 f4 f5 f6 f7;go_wp2_with fail
   refine hK.out _ _ ?_ (fun hHeld => ?_)
   ·(try dsimp only);skip
   clear hK K
   (try simp only [Act.put,zP1,zP2,zP3,zP4,zP5,zP6])
   refine arO 4 (fun K hK => ?_)
   (refine (if_pos (by kernel_rfl)).mpr ?_);((with_reducible refine wp_store_tr t2 g3 (.tmp 7) (.tmp 21) ?_ ?_ ?_ ?_ ?_);(focus rfl);(focus rfl);(focus rfl);(focus (exact ⟨_,HKf.out _ BWX,rfl⟩)));intro w3 hS3 hg3';have HS3:=Lib.hid hS3;have HG3:=Lib.hid ((grown_bw (show Bw wf _ from BWX) (some g3)).trans hg3');clear hS3 hg3'
   refine hK.out _ _ ?_ (fun hHeld => ?_)
   ·(try dsimp only);skip
   clear hK K
   (try simp only [Act.put,zP1,zP2,zP3,zP4,zP5,zP6])
   refine wpAnyH_done (by kernel_rfl) ?_ _
   go_wp2_with fail
   go_meet
   case rel =>
    have hg3g:=HG3.out
    have hb7:=F7.out
    have hT1:=HKf.out wf (Bw.refl _)
    have hA2 : ∀ ad,t2.s.A = some ad → b < ad.block ∧ ad.block ≠ g3:=fun ad e => by
     rcases F5.out with h|h
     ·exact H5.out ad (by rw [← h];exact e)
     ·have:=h ad e
      omega
    have hH2 : 0 < t2.Hn → ∀ ad,t2.HA = some ad → b < ad.block ∧ ad.block ≠ g3:=fun h0 ad e => by
     rcases F6.out with h|h
     ·exact H6.out (by rw [← h.2];exact h0) ad (by rw [← h.1];exact e)
     ·have:=h ad e
      omega
    have hgv0 : some v0 ≠ some g3:=fun e => by have:=Option.some.inj e;omega
    have hgv1 : some v1 ≠ some g3:=fun e => by have:=Option.some.inj e;omega
    refine ⟨⟨t2,HS3.out,Trm.Ok.more (F1.out.far hg3g (fun ad e e2 => (hA2 ad e).2 (Option.some.inj e2)) (fun h0 => F1.out.2.1.1.ne_sbf h0 hT1 t'.no8) (F1.out.2.2.2.1.ne hT1 (by decide)) (fun h0 ad e e2 => (hH2 h0 ad e).2 (Option.some.inj e2))) (by omega),F2.out.1.trans H34.out.1,F2.out.2.trans H34.out.2,hA2,hH2,(HM4.out.up hb7).grown hg3g (by omega),h10,by have:=hg3g.size;omega⟩,((HV06.out.far HGr.out hbv0).up hb7).far hg3g hgv0,((HV16.out.far HGr.out hbv1).up hb7).far hg3g hgv1,?_⟩
    exact Bw.grown (Bw.trans (Bw.grown HBW6.out HGr.out (fun k hk => by cases hk;exact hbw0)) hb7) hg3g (fun k hk => by cases hk;omega)
  exact AllReadyH.nil
 case rest =>
 obtain ⟨hT,hv0',hv1',hbw'⟩:=hcut
 clear HT6 HV06 HV16 HBW6 hzr
 obtain ⟨wr,hwr⟩ : ∃ wr : World,wr = wc:=⟨_,rfl⟩
 subst hwr
 have HV07:=Lib.hid hv0'
 have HV17:=Lib.hid hv1'
 have HBW7:=Lib.hid hbw'
 have HT7:=Lib.hid hT
 clear hT hv0' hv1' hbw'
 go_upto_region 5 with (fail)
 go_cut [8] (fun v8 w' => ∃ (g8 : Nat) (t u : Trm),v8 = .pointer (some ⟨g8,0,none⟩) ∧ Sb w' g3 t.vals.toArray 53 ∧ Sb w' g8 u.vals.toArray 53 ∧ t.s.Ok w' ∧ u.s.Ok w' ∧ t.s.Rn = Rn ∧ t.s.Cn = Cn ∧ u.s.Rn = Rn ∧ u.s.Cn = Cn ∧ (∀ ad,t.s.A = some ad → b < ad.block) ∧ (∀ ad,u.s.A = some ad → b < ad.block) ∧ Dk2 w' b A n c xs ∧ Ov w' v0 ∧ Ov w' v1 ∧ Bw w w' ∧ b < g3 ∧ b < g8)
 case first =>
  obtain ⟨t',h1,h2,h3,h4,h5,h6,h7,h10,h11⟩:=HT7.out
  have H1:=Lib.hid h1
  have H2:=Lib.hid h2
  have H5:=Lib.hid h5
  have H6:=Lib.hid h6
  have H7:=Lib.hid h7
  have H34:=Lib.hid (And.intro h3 h4)
  clear h1 h2 h3 h4 h5 h6 h7
  have hg3b : some g3 ≠ some b:=(by intro e;have:=Option.some.inj e;omega)
  have HKr:=Lib.hid (show ∀ w',Bw wr w' → Sb w' g3 t'.vals.toArray 53 from fun w' hb => H1.out.up hb)
  refine wp_region_held_drew (S:=(fun w' => Sb w' g3 t'.vals.toArray 53)) (by kernel_rfl) ?_ (fun hHeld => ?_)
  ·(try dsimp only);(first|(refine HKr.out _ ?_;(repeat (first|with_reducible (first|assumption|exact Bw.refl _|refine Bw.alloc ?_ _|refine Bw.more ?_ _ _|refine Bw.drew ?_|refine Bw.drewN ?_ _)|((with_reducible refine Bw.set2 ?_ ?_ _);(focus exact SZX))|with_reducible refine Bw.trans ?_ (by assumption)));done)|(refine HKb.out _ ?_;(repeat (first|with_reducible (first|assumption|exact Bw.refl _|refine Bw.alloc ?_ _|refine Bw.more ?_ _ _|refine Bw.drew ?_|refine Bw.drewN ?_ _)|((with_reducible refine Bw.set2 ?_ ?_ _);(focus exact SZX))|with_reducible refine Bw.trans ?_ (by assumption)));done)|(refine HKf.out _ ?_;(repeat (first|with_reducible (first|assumption|exact Bw.refl _|refine Bw.alloc ?_ _|refine Bw.more ?_ _ _|refine Bw.drew ?_|refine Bw.drewN ?_ _)|((with_reducible refine Bw.set2 ?_ ?_ _);(focus exact SZX))|with_reducible refine Bw.trans ?_ (by assumption)));done)|(refine HK3.out _ ?_;(repeat (first|with_reducible (first|assumption|exact Bw.refl _|refine Bw.alloc ?_ _|refine Bw.more ?_ _ _|refine Bw.drew ?_|refine Bw.drewN ?_ _)|((with_reducible refine Bw.set2 ?_ ?_ _);(focus exact SZX))|with_reducible refine Bw.trans ?_ (by assumption)));done))
  refine wpAnyH_take (i:=0) (v:=.agg t'.vals.toArray) rfl (by kernel_rfl) (by kernel_rfl) (by kernel_rfl) (fun _ _ _ h => h) (yieldsIf_load_mid (by rfl) 53 (.tmp 7) rfl g3 0 rfl t'.vals _ (fun w' h => tmRange h) Tryz.underlying53 rfl infoTrm) (by assumption) ?_
  (try simp only [Act.put,zP1,zP2,zP3,zP4,zP5,zP6])
  refine tkQ 1 ?_
  (try simp only [Act.put,zP1,zP2,zP3,zP4,zP5,zP6])
  refine wpAnyH_ready (rs:=[2,4]) (by kernel_rfl) (by simp) ?_
  refine AllReadyH.cons rfl (fun K hK => ?_) ?_
  ·go_simp
   refine (mbytes_dk b A n c xs _ (H7.out.up (show Bw wr _ from BWX))).mono ?_;rintro ee wb ⟨vb,rfl,hMB⟩;obtain ⟨bs,m1,m2,m3,m4,m5⟩:=hMB;obtain ⟨Db,cb,rfl,mb1,mb2⟩:=own_form m1;have HM1:=Lib.hid m1;have HM2:=Lib.hid m2;have HM4:=Lib.hid m4;have M5:=Lib.hid m5;have HGr:=Lib.hid ((grown_bw (show Bw wr _ from BWX) (some b)).trans m5);have hzb : wr.heap.size ≤ wb.heap.size:=HGr.out.size;have HKb:=Lib.hid (show ∀ w',Bw wb w' → Sb w' g3 t'.vals.toArray 53 from fun w' hb => (H1.out.far HGr.out hg3b).up hb);have HOb:=Lib.hid (H2.out.deck H7.out HGr.out (fun ad e => by have:=H5.out ad e;omega) (fun h0 ad e => by have:=H6.out h0 ad e;omega));clear m1 m2 m4 m5;go_wp2_with fail
   refine hK.out _ _ ?_ (fun hHeld => ?_)
   ·(try dsimp only);(first|(refine HKr.out _ ?_;(repeat (first|with_reducible (first|assumption|exact Bw.refl _|refine Bw.alloc ?_ _|refine Bw.more ?_ _ _|refine Bw.drew ?_|refine Bw.drewN ?_ _)|((with_reducible refine Bw.set2 ?_ ?_ _);(focus exact SZX))|with_reducible refine Bw.trans ?_ (by assumption)));done)|(refine HKb.out _ ?_;(repeat (first|with_reducible (first|assumption|exact Bw.refl _|refine Bw.alloc ?_ _|refine Bw.more ?_ _ _|refine Bw.drew ?_|refine Bw.drewN ?_ _)|((with_reducible refine Bw.set2 ?_ ?_ _);(focus exact SZX))|with_reducible refine Bw.trans ?_ (by assumption)));done)|(refine HKf.out _ ?_;(repeat (first|with_reducible (first|assumption|exact Bw.refl _|refine Bw.alloc ?_ _|refine Bw.more ?_ _ _|refine Bw.drew ?_|refine Bw.drewN ?_ _)|((with_reducible refine Bw.set2 ?_ ?_ _);(focus exact SZX))|with_reducible refine Bw.trans ?_ (by assumption)));done)|(refine HK3.out _ ?_;(repeat (first|with_reducible (first|assumption|exact Bw.refl _|refine Bw.alloc ?_ _|refine Bw.more ?_ _ _|refine Bw.drew ?_|refine Bw.drewN ?_ _)|((with_reducible refine Bw.set2 ?_ ?_ _);(focus exact SZX))|with_reducible refine Bw.trans ?_ (by assumption)));done))
   clear hK K
   (try simp only [Act.put,zP1,zP2,zP3,zP4,zP5,zP6])
   refine wpAnyH_ready (rs:=[3,4]) (by kernel_rfl) (by simp) ?_
   refine AllReadyH.cons rfl (fun K hK => ?_) ?_
   ·go_simp
    refine (rfeed_ok t' _ Db bs.length cb bs _ (HOb.out.up (show Bw wb _ from BWX)) ⟨by omega,by omega⟩ ((own_rd HM1.out).up (show Bw wb _ from BWX)) mb1 mb2 (by omega) HM2.out).mono ?_;rintro ee wf ⟨t2,rfl,f1,f2,f3,f4,f5,f6,f7⟩;have F1:=Lib.hid f1;have F2:=Lib.hid (And.intro f2 f3);have F5:=Lib.hid (f5.more (show wb.heap.size ≤ _ from (show Bw wb _ from BWX).size));have F6:=Lib.hid (f6.more (show wb.heap.size ≤ _ from (show Bw wb _ from BWX).size));have F7r:=Lib.hid f7;have F7:=Lib.hid (Bw.trans (show Bw wb _ from BWX) f7);have hzf : wb.heap.size ≤ wf.heap.size:=F7.out.size;have HKf:=Lib.hid (show ∀ w',Bw wf w' → Sb w' g3 t'.vals.toArray 53 from fun w' hb => ((H1.out.far HGr.out hg3b).up F7.out).up hb);clear f1 f2 f3 f4 f5 f6 f7;go_wp2_with fail
    refine hK.out _ _ ?_ (fun hHeld => ?_)
    ·(try dsimp only);(first|(refine HKr.out _ ?_;(repeat (first|with_reducible (first|assumption|exact Bw.refl _|refine Bw.alloc ?_ _|refine Bw.more ?_ _ _|refine Bw.drew ?_|refine Bw.drewN ?_ _)|((with_reducible refine Bw.set2 ?_ ?_ _);(focus exact SZX))|with_reducible refine Bw.trans ?_ (by assumption)));done)|(refine HKb.out _ ?_;(repeat (first|with_reducible (first|assumption|exact Bw.refl _|refine Bw.alloc ?_ _|refine Bw.more ?_ _ _|refine Bw.drew ?_|refine Bw.drewN ?_ _)|((with_reducible refine Bw.set2 ?_ ?_ _);(focus exact SZX))|with_reducible refine Bw.trans ?_ (by assumption)));done)|(refine HKf.out _ ?_;(repeat (first|with_reducible (first|assumption|exact Bw.refl _|refine Bw.alloc ?_ _|refine Bw.more ?_ _ _|refine Bw.drew ?_|refine Bw.drewN ?_ _)|((with_reducible refine Bw.set2 ?_ ?_ _);(focus exact SZX))|with_reducible refine Bw.trans ?_ (by assumption)));done)|(refine HK3.out _ ?_;(repeat (first|with_reducible (first|assumption|exact Bw.refl _|refine Bw.alloc ?_ _|refine Bw.more ?_ _ _|refine Bw.drew ?_|refine Bw.drewN ?_ _)|((with_reducible refine Bw.set2 ?_ ?_ _);(focus exact SZX))|with_reducible refine Bw.trans ?_ (by assumption)));done))
    clear hK K
    (try simp only [Act.put,zP1,zP2,zP3,zP4,zP5,zP6])
    refine arO 4 (fun K hK => ?_)
    go_simp
    generalize hx : World.alloc _ _ = wx;obtain ⟨hxs,hxb0,hxz⟩:=sb1 hx;have hxb : Bw wf wx:=Bw.trans (show Bw wf _ from BWX) hxb0;have HX:=Lib.hid (show Sb wx wf.heap.size _ 53 from hxs);have hxz2 : wx.heap.size = wf.heap.size + 1:=hxz;clear hx hxs hxb0 hxz
    refine hK.out _ _ ?_ (fun hHeld => ?_)
    ·(try dsimp only);(first|(refine HKr.out _ ?_;(repeat (first|with_reducible (first|assumption|exact Bw.refl _|refine Bw.alloc ?_ _|refine Bw.more ?_ _ _|refine Bw.drew ?_|refine Bw.drewN ?_ _)|((with_reducible refine Bw.set2 ?_ ?_ _);(focus exact SZX))|with_reducible refine Bw.trans ?_ (by assumption)));done)|(refine HKb.out _ ?_;(repeat (first|with_reducible (first|assumption|exact Bw.refl _|refine Bw.alloc ?_ _|refine Bw.more ?_ _ _|refine Bw.drew ?_|refine Bw.drewN ?_ _)|((with_reducible refine Bw.set2 ?_ ?_ _);(focus exact SZX))|with_reducible refine Bw.trans ?_ (by assumption)));done)|(refine HKf.out _ ?_;(repeat (first|with_reducible (first|assumption|exact Bw.refl _|refine Bw.alloc ?_ _|refine Bw.more ?_ _ _|refine Bw.drew ?_|refine Bw.drewN ?_ _)|((with_reducible refine Bw.set2 ?_ ?_ _);(focus exact SZX))|with_reducible refine Bw.trans ?_ (by assumption)));done)|(refine HK3.out _ ?_;(repeat (first|with_reducible (first|assumption|exact Bw.refl _|refine Bw.alloc ?_ _|refine Bw.more ?_ _ _|refine Bw.drew ?_|refine Bw.drewN ?_ _)|((with_reducible refine Bw.set2 ?_ ?_ _);(focus exact SZX))|with_reducible refine Bw.trans ?_ (by assumption)));done))
    clear hK K
    (try simp only [Act.put,zP1,zP2,zP3,zP4,zP5,zP6])
    refine arO 5 (fun K hK => ?_)
    (refine (if_pos (by kernel_rfl)).mpr ?_);((with_reducible refine wp_store_tr t2 wf.heap.size (.tmp 8) (.tmp 25) ?_ ?_ ?_ ?_ ?_);(focus rfl);(focus rfl);(focus rfl);(focus (exact ⟨_,HX.out.up (show Bw wx _ from BWX),rfl⟩)));intro w3 hS3 hg3';have HS3:=Lib.hid hS3;have HG3:=Lib.hid ((grown_bw (show Bw wf _ from BWX) (some wf.heap.size)).trans hg3');have hne3 : some g3 ≠ some wf.heap.size:=(by intro e;have:=Option.some.inj e;omega);have HK3:=Lib.hid (show ∀ w',Bw w3 w' → Sb w' g3 t'.vals.toArray 53 from fun w' hb => ((HKf.out wf (Bw.refl _)).far HG3.out hne3).up hb);clear hS3 hg3'
    refine hK.out _ _ ?_ (fun hHeld => ?_)
    ·(try dsimp only);(first|(refine HKr.out _ ?_;(repeat (first|with_reducible (first|assumption|exact Bw.refl _|refine Bw.alloc ?_ _|refine Bw.more ?_ _ _|refine Bw.drew ?_|refine Bw.drewN ?_ _)|((with_reducible refine Bw.set2 ?_ ?_ _);(focus exact SZX))|with_reducible refine Bw.trans ?_ (by assumption)));done)|(refine HKb.out _ ?_;(repeat (first|with_reducible (first|assumption|exact Bw.refl _|refine Bw.alloc ?_ _|refine Bw.more ?_ _ _|refine Bw.drew ?_|refine Bw.drewN ?_ _)|((with_reducible refine Bw.set2 ?_ ?_ _);(focus exact SZX))|with_reducible refine Bw.trans ?_ (by assumption)));done)|(refine HKf.out _ ?_;(repeat (first|with_reducible (first|assumption|exact Bw.refl _|refine Bw.alloc ?_ _|refine Bw.more ?_ _ _|refine Bw.drew ?_|refine Bw.drewN ?_ _)|((with_reducible refine Bw.set2 ?_ ?_ _);(focus exact SZX))|with_reducible refine Bw.trans ?_ (by assumption)));done)|(refine HK3.out _ ?_;(repeat (first|with_reducible (first|assumption|exact Bw.refl _|refine Bw.alloc ?_ _|refine Bw.more ?_ _ _|refine Bw.drew ?_|refine Bw.drewN ?_ _)|((with_reducible refine Bw.set2 ?_ ?_ _);(focus exact SZX))|with_reducible refine Bw.trans ?_ (by assumption)));done))
    clear hK K
    (try simp only [Act.put,zP1,zP2,zP3,zP4,zP5,zP6])
    refine wpAnyH_done (by kernel_rfl) ?_ _
    go_wp2_with fail
    go_meet
    case rel =>
     have hb7:=F7.out
     have hbg:=HG3.out
     have hA1 : ∀ ad,t'.s.A = some ad → b < ad.block ∧ ad.block < wr.heap.size:=fun ad e => ⟨(H5.out ad e).1,H2.out.1.1.lt ad e⟩
     have hA2 : ∀ ad,t2.s.A = some ad → b < ad.block ∧ ad.block ≠ wf.heap.size:=fun ad e => by
      have hlt:=F1.out.1.1.lt ad e
      rcases F5.out with h|h
      ·have:=hA1 ad (by rw [← h];exact e)
       omega
      ·have:=h ad e
       omega
     have hgv0 : some v0 ≠ some wf.heap.size:=fun e => by have:=Option.some.inj e;omega
     have hgv1 : some v1 ≠ some wf.heap.size:=fun e => by have:=Option.some.inj e;omega
     refine ⟨wf.heap.size,t',t2,rfl,HK3.out _ (Bw.refl _),HS3.out,(HOb.out.1.up hb7).far hbg (fun ad e e2 => by have:=hA1 ad e;have:=Option.some.inj e2;omega),F1.out.1.far hbg (fun ad e e2 => (hA2 ad e).2 (Option.some.inj e2)),H34.out.1,H34.out.2,F2.out.1.trans H34.out.1,F2.out.2.trans H34.out.2,fun ad e => (hA1 ad e).1,fun ad e => (hA2 ad e).1,(HM4.out.up hb7).grown hbg (by omega),((HV07.out.far HGr.out hbv0).up hb7).far hbg hgv0,((HV17.out.far HGr.out hbv1).up hb7).far hbg hgv1,?_,h10,by omega⟩
     exact Bw.grown (Bw.trans (Bw.grown HBW7.out HGr.out (fun k hk => by cases hk;exact hbw0)) hb7) hbg (fun k hk => by cases hk;omega)
   refine AllReadyH.cons rfl (fun K hK => ?_) ?_
   ·go_simp
    generalize hx : World.alloc _ _ = wx;obtain ⟨hxs,hxb0,hxz⟩:=sb1 hx;have hxb : Bw wb wx:=Bw.trans (show Bw wb _ from BWX) hxb0;have HX:=Lib.hid (show Sb wx wb.heap.size _ 53 from hxs);have hxz2 : wx.heap.size = wb.heap.size + 1:=hxz;clear hx hxs hxb0 hxz
    refine hK.out _ _ ?_ (fun hHeld => ?_)
    ·(try dsimp only);(first|(refine HKr.out _ ?_;(repeat (first|with_reducible (first|assumption|exact Bw.refl _|refine Bw.alloc ?_ _|refine Bw.more ?_ _ _|refine Bw.drew ?_|refine Bw.drewN ?_ _)|((with_reducible refine Bw.set2 ?_ ?_ _);(focus exact SZX))|with_reducible refine Bw.trans ?_ (by assumption)));done)|(refine HKb.out _ ?_;(repeat (first|with_reducible (first|assumption|exact Bw.refl _|refine Bw.alloc ?_ _|refine Bw.more ?_ _ _|refine Bw.drew ?_|refine Bw.drewN ?_ _)|((with_reducible refine Bw.set2 ?_ ?_ _);(focus exact SZX))|with_reducible refine Bw.trans ?_ (by assumption)));done)|(refine HKf.out _ ?_;(repeat (first|with_reducible (first|assumption|exact Bw.refl _|refine Bw.alloc ?_ _|refine Bw.more ?_ _ _|refine Bw.drew ?_|refine Bw.drewN ?_ _)|((with_reducible refine Bw.set2 ?_ ?_ _);(focus exact SZX))|with_reducible refine Bw.trans ?_ (by assumption)));done)|(refine HK3.out _ ?_;(repeat (first|with_reducible (first|assumption|exact Bw.refl _|refine Bw.alloc ?_ _|refine Bw.more ?_ _ _|refine Bw.drew ?_|refine Bw.drewN ?_ _)|((with_reducible refine Bw.set2 ?_ ?_ _);(focus exact SZX))|with_reducible refine Bw.trans ?_ (by assumption)));done))
    clear hK K
    (try simp only [Act.put,zP1,zP2,zP3,zP4,zP5,zP6])
    refine arO 3 (fun K hK => ?_)
    go_simp
    refine (rfeed_ok t' _ Db bs.length cb bs _ (HOb.out.up (show Bw wb _ from BWX)) ⟨by omega,by omega⟩ ((own_rd HM1.out).up (show Bw wb _ from BWX)) mb1 mb2 (by omega) HM2.out).mono ?_;rintro ee wf ⟨t2,rfl,f1,f2,f3,f4,f5,f6,f7⟩;have F1:=Lib.hid f1;have F2:=Lib.hid (And.intro f2 f3);have F5:=Lib.hid (f5.more (show wx.heap.size ≤ _ from (show Bw wx _ from BWX).size));have F6:=Lib.hid (f6.more (show wb.heap.size ≤ _ from (show Bw wb _ from BWX).size));have F7r:=Lib.hid f7;have F7:=Lib.hid (Bw.trans (show Bw wb _ from BWX) f7);have hzf : wb.heap.size ≤ wf.heap.size:=F7.out.size;have HKf:=Lib.hid (show ∀ w',Bw wf w' → Sb w' g3 t'.vals.toArray 53 from fun w' hb => ((H1.out.far HGr.out hg3b).up F7.out).up hb);have HX3:=Lib.hid ((HX.out.up (show Bw wx _ from BWX)).up f7);clear f1 f2 f3 f4 f5 f6 f7;go_wp2_with fail
    refine hK.out _ _ ?_ (fun hHeld => ?_)
    ·(try dsimp only);(first|(refine HKr.out _ ?_;(repeat (first|with_reducible (first|assumption|exact Bw.refl _|refine Bw.alloc ?_ _|refine Bw.more ?_ _ _|refine Bw.drew ?_|refine Bw.drewN ?_ _)|((with_reducible refine Bw.set2 ?_ ?_ _);(focus exact SZX))|with_reducible refine Bw.trans ?_ (by assumption)));done)|(refine HKb.out _ ?_;(repeat (first|with_reducible (first|assumption|exact Bw.refl _|refine Bw.alloc ?_ _|refine Bw.more ?_ _ _|refine Bw.drew ?_|refine Bw.drewN ?_ _)|((with_reducible refine Bw.set2 ?_ ?_ _);(focus exact SZX))|with_reducible refine Bw.trans ?_ (by assumption)));done)|(refine HKf.out _ ?_;(repeat (first|with_reducible (first|assumption|exact Bw.refl _|refine Bw.alloc ?_ _|refine Bw.more ?_ _ _|refine Bw.drew ?_|refine Bw.drewN ?_ _)|((with_reducible refine Bw.set2 ?_ ?_ _);(focus exact SZX))|with_reducible refine Bw.trans ?_ (by assumption)));done)|(refine HK3.out _ ?_;(repeat (first|with_reducible (first|assumption|exact Bw.refl _|refine Bw.alloc ?_ _|refine Bw.more ?_ _ _|refine Bw.drew ?_|refine Bw.drewN ?_ _)|((with_reducible refine Bw.set2 ?_ ?_ _);(focus exact SZX))|with_reducible refine Bw.trans ?_ (by assumption)));done))
    clear hK K
    (try simp only [Act.put,zP1,zP2,zP3,zP4,zP5,zP6])
    refine arO 5 (fun K hK => ?_)
    (refine (if_pos (by kernel_rfl)).mpr ?_);((with_reducible refine wp_store_tr t2 wb.heap.size (.tmp 8) (.tmp 25) ?_ ?_ ?_ ?_ ?_);(focus rfl);(focus rfl);(focus rfl);(focus (exact ⟨_,HX3.out.up BWX,rfl⟩)));intro w3 hS3 hg3';have HS3:=Lib.hid hS3;have HG3:=Lib.hid ((grown_bw (show Bw wf _ from BWX) (some wb.heap.size)).trans hg3');have hne3 : some g3 ≠ some wb.heap.size:=(by intro e;have:=Option.some.inj e;omega);have HK3:=Lib.hid (show ∀ w',Bw w3 w' → Sb w' g3 t'.vals.toArray 53 from fun w' hb => ((HKf.out wf (Bw.refl _)).far HG3.out hne3).up hb);clear hS3 hg3'
    refine hK.out _ _ ?_ (fun hHeld => ?_)
    ·(try dsimp only);(first|(refine HKr.out _ ?_;(repeat (first|with_reducible (first|assumption|exact Bw.refl _|refine Bw.alloc ?_ _|refine Bw.more ?_ _ _|refine Bw.drew ?_|refine Bw.drewN ?_ _)|((with_reducible refine Bw.set2 ?_ ?_ _);(focus exact SZX))|with_reducible refine Bw.trans ?_ (by assumption)));done)|(refine HKb.out _ ?_;(repeat (first|with_reducible (first|assumption|exact Bw.refl _|refine Bw.alloc ?_ _|refine Bw.more ?_ _ _|refine Bw.drew ?_|refine Bw.drewN ?_ _)|((with_reducible refine Bw.set2 ?_ ?_ _);(focus exact SZX))|with_reducible refine Bw.trans ?_ (by assumption)));done)|(refine HKf.out _ ?_;(repeat (first|with_reducible (first|assumption|exact Bw.refl _|refine Bw.alloc ?_ _|refine Bw.more ?_ _ _|refine Bw.drew ?_|refine Bw.drewN ?_ _)|((with_reducible refine Bw.set2 ?_ ?_ _);(focus exact SZX))|with_reducible refine Bw.trans ?_ (by assumption)));done)|(refine HK3.out _ ?_;(repeat (first|with_reducible (first|assumption|exact Bw.refl _|refine Bw.alloc ?_ _|refine Bw.more ?_ _ _|refine Bw.drew ?_|refine Bw.drewN ?_ _)|((with_reducible refine Bw.set2 ?_ ?_ _);(focus exact SZX))|with_reducible refine Bw.trans ?_ (by assumption)));done))
    clear hK K
    (try simp only [Act.put,zP1,zP2,zP3,zP4,zP5,zP6])
    refine wpAnyH_done (by kernel_rfl) ?_ _
    go_wp2_with fail
    go_meet
    case rel =>
     have hb7:=F7.out
     have hbg:=HG3.out
     have hA1 : ∀ ad,t'.s.A = some ad → b < ad.block ∧ ad.block < wr.heap.size:=fun ad e => ⟨(H5.out ad e).1,H2.out.1.1.lt ad e⟩
     have hA2 : ∀ ad,t2.s.A = some ad → b < ad.block ∧ ad.block ≠ wb.heap.size:=fun ad e => by
      have hlt:=F1.out.1.1.lt ad e
      rcases F5.out with h|h
      ·have:=hA1 ad (by rw [← h];exact e)
       omega
      ·have:=h ad e
       omega
     have hgv0 : some v0 ≠ some wb.heap.size:=fun e => by have:=Option.some.inj e;omega
     have hgv1 : some v1 ≠ some wb.heap.size:=fun e => by have:=Option.some.inj e;omega
     refine ⟨wb.heap.size,t',t2,rfl,HK3.out _ (Bw.refl _),HS3.out,(HOb.out.1.up hb7).far hbg (fun ad e e2 => by have:=hA1 ad e;have:=Option.some.inj e2;omega),F1.out.1.far hbg (fun ad e e2 => (hA2 ad e).2 (Option.some.inj e2)),H34.out.1,H34.out.2,F2.out.1.trans H34.out.1,F2.out.2.trans H34.out.2,fun ad e => (hA1 ad e).1,fun ad e => (hA2 ad e).1,(HM4.out.up hb7).grown hbg (by omega),((HV07.out.far HGr.out hbv0).up hb7).far hbg hgv0,((HV17.out.far HGr.out hbv1).up hb7).far hbg hgv1,?_,h10,by omega⟩
     exact Bw.grown (Bw.trans (Bw.grown HBW7.out HGr.out (fun k hk => by cases hk;exact hbw0)) hb7) hbg (fun k hk => by cases hk;omega)
   exact AllReadyH.nil
  refine AllReadyH.cons rfl (fun K hK => ?_) ?_
  ·go_simp
   generalize hx : World.alloc _ _ = wx;obtain ⟨hxs,hxb0,hxz⟩:=sb1 hx;have hxb : Bw wr wx:=Bw.trans (show Bw wr _ from BWX) hxb0;have HX:=Lib.hid (show Sb wx wr.heap.size _ 53 from hxs);have hxz2 : wx.heap.size = wr.heap.size + 1:=hxz;clear hx hxs hxb0 hxz
   refine hK.out _ _ ?_ (fun hHeld => ?_)
   ·(try dsimp only);(first|(refine HKr.out _ ?_;(repeat (first|with_reducible (first|assumption|exact Bw.refl _|refine Bw.alloc ?_ _|refine Bw.more ?_ _ _|refine Bw.drew ?_|refine Bw.drewN ?_ _)|((with_reducible refine Bw.set2 ?_ ?_ _);(focus exact SZX))|with_reducible refine Bw.trans ?_ (by assumption)));done)|(refine HKb.out _ ?_;(repeat (first|with_reducible (first|assumption|exact Bw.refl _|refine Bw.alloc ?_ _|refine Bw.more ?_ _ _|refine Bw.drew ?_|refine Bw.drewN ?_ _)|((with_reducible refine Bw.set2 ?_ ?_ _);(focus exact SZX))|with_reducible refine Bw.trans ?_ (by assumption)));done)|(refine HKf.out _ ?_;(repeat (first|with_reducible (first|assumption|exact Bw.refl _|refine Bw.alloc ?_ _|refine Bw.more ?_ _ _|refine Bw.drew ?_|refine Bw.drewN ?_ _)|((with_reducible refine Bw.set2 ?_ ?_ _);(focus exact SZX))|with_reducible refine Bw.trans ?_ (by assumption)));done)|(refine HK3.out _ ?_;(repeat (first|with_reducible (first|assumption|exact Bw.refl _|refine Bw.alloc ?_ _|refine Bw.more ?_ _ _|refine Bw.drew ?_|refine Bw.drewN ?_ _)|((with_reducible refine Bw.set2 ?_ ?_ _);(focus exact SZX))|with_reducible refine Bw.trans ?_ (by assumption)));done))
   clear hK K
   (try simp only [Act.put,zP1,zP2,zP3,zP4,zP5,zP6])
   refine arO 2 (fun K hK => ?_)
   go_simp
   refine (mbytes_dk b A n c xs _ (H7.out.up (show Bw wr _ from BWX))).mono ?_;rintro ee wb ⟨vb,rfl,hMB⟩;obtain ⟨bs,m1,m2,m3,m4,m5⟩:=hMB;obtain ⟨Db,cb,rfl,mb1,mb2⟩:=own_form m1;have HM1:=Lib.hid m1;have HM2:=Lib.hid m2;have HM4:=Lib.hid m4;have M5:=Lib.hid m5;have HGr:=Lib.hid ((grown_bw (show Bw wr _ from BWX) (some b)).trans m5);have hzb : wr.heap.size ≤ wb.heap.size:=HGr.out.size;have HKb:=Lib.hid (show ∀ w',Bw wb w' → Sb w' g3 t'.vals.toArray 53 from fun w' hb => (H1.out.far HGr.out hg3b).up hb);have HOb:=Lib.hid (H2.out.deck H7.out HGr.out (fun ad e => by have:=H5.out ad e;omega) (fun h0 ad e => by have:=H6.out h0 ad e;omega));have HX2:=Lib.hid ((HX.out.up (show Bw wx _ from BWX)).far m5 (fun e => by have:=Option.some.inj e;omega));clear m1 m2 m4 m5;go_wp2_with fail
   refine hK.out _ _ ?_ (fun hHeld => ?_)
   ·(try dsimp only);(first|(refine HKr.out _ ?_;(repeat (first|with_reducible (first|assumption|exact Bw.refl _|refine Bw.alloc ?_ _|refine Bw.more ?_ _ _|refine Bw.drew ?_|refine Bw.drewN ?_ _)|((with_reducible refine Bw.set2 ?_ ?_ _);(focus exact SZX))|with_reducible refine Bw.trans ?_ (by assumption)));done)|(refine HKb.out _ ?_;(repeat (first|with_reducible (first|assumption|exact Bw.refl _|refine Bw.alloc ?_ _|refine Bw.more ?_ _ _|refine Bw.drew ?_|refine Bw.drewN ?_ _)|((with_reducible refine Bw.set2 ?_ ?_ _);(focus exact SZX))|with_reducible refine Bw.trans ?_ (by assumption)));done)|(refine HKf.out _ ?_;(repeat (first|with_reducible (first|assumption|exact Bw.refl _|refine Bw.alloc ?_ _|refine Bw.more ?_ _ _|refine Bw.drew ?_|refine Bw.drewN ?_ _)|((with_reducible refine Bw.set2 ?_ ?_ _);(focus exact SZX))|with_reducible refine Bw.trans ?_ (by assumption)));done)|(refine HK3.out _ ?_;(repeat (first|with_reducible (first|assumption|exact Bw.refl _|refine Bw.alloc ?_ _|refine Bw.more ?_ _ _|refine Bw.drew ?_|refine Bw.drewN ?_ _)|((with_reducible refine Bw.set2 ?_ ?_ _);(focus exact SZX))|with_reducible refine Bw.trans ?_ (by assumption)));done))
   clear hK K
   (try simp only [Act.put,zP1,zP2,zP3,zP4,zP5,zP6])
   refine arO 3 (fun K hK => ?_)
   go_simp
   refine (rfeed_ok t' _ Db bs.length cb bs _ (HOb.out.up (show Bw wb _ from BWX)) ⟨by omega,by omega⟩ ((own_rd HM1.out).up (show Bw wb _ from BWX)) mb1 mb2 (by omega) HM2.out).mono ?_;rintro ee wf ⟨t2,rfl,f1,f2,f3,f4,f5,f6,f7⟩;have F1:=Lib.hid f1;have F2:=Lib.hid (And.intro f2 f3);have F5:=Lib.hid (f5.more (show wb.heap.size ≤ _ from (show Bw wb _ from BWX).size));have F6:=Lib.hid (f6.more (show wb.heap.size ≤ _ from (show Bw wb _ from BWX).size));have F7r:=Lib.hid f7;have F7:=Lib.hid (Bw.trans (show Bw wb _ from BWX) f7);have hzf : wb.heap.size ≤ wf.heap.size:=F7.out.size;have HKf:=Lib.hid (show ∀ w',Bw wf w' → Sb w' g3 t'.vals.toArray 53 from fun w' hb => ((H1.out.far HGr.out hg3b).up F7.out).up hb);have HX3:=Lib.hid ((HX2.out.up (show Bw wb _ from BWX)).up f7);clear f1 f2 f3 f4 f5 f6 f7;go_wp2_with fail
   refine hK.out _ _ ?_ (fun hHeld => ?_)
   ·(try dsimp only);(first|(refine HKr.out _ ?_;(repeat (first|with_reducible (first|assumption|exact Bw.refl _|refine Bw.alloc ?_ _|refine Bw.more ?_ _ _|refine Bw.drew ?_|refine Bw.drewN ?_ _)|((with_reducible refine Bw.set2 ?_ ?_ _);(focus exact SZX))|with_reducible refine Bw.trans ?_ (by assumption)));done)|(refine HKb.out _ ?_;(repeat (first|with_reducible (first|assumption|exact Bw.refl _|refine Bw.alloc ?_ _|refine Bw.more ?_ _ _|refine Bw.drew ?_|refine Bw.drewN ?_ _)|((with_reducible refine Bw.set2 ?_ ?_ _);(focus exact SZX))|with_reducible refine Bw.trans ?_ (by assumption)));done)|(refine HKf.out _ ?_;(repeat (first|with_reducible (first|assumption|exact Bw.refl _|refine Bw.alloc ?_ _|refine Bw.more ?_ _ _|refine Bw.drew ?_|refine Bw.drewN ?_ _)|((with_reducible refine Bw.set2 ?_ ?_ _);(focus exact SZX))|with_reducible refine Bw.trans ?_ (by assumption)));done)|(refine HK3.out _ ?_;(repeat (first|with_reducible (first|assumption|exact Bw.refl _|refine Bw.alloc ?_ _|refine Bw.more ?_ _ _|refine Bw.drew ?_|refine Bw.drewN ?_ _)|((with_reducible refine Bw.set2 ?_ ?_ _);(focus exact SZX))|with_reducible refine Bw.trans ?_ (by assumption)));done))
   clear hK K
   (try simp only [Act.put,zP1,zP2,zP3,zP4,zP5,zP6])
   refine arO 5 (fun K hK => ?_)
   (refine (if_pos (by kernel_rfl)).mpr ?_);((with_reducible refine wp_store_tr t2 wr.heap.size (.tmp 8) (.tmp 25) ?_ ?_ ?_ ?_ ?_);(focus rfl);(focus rfl);(focus rfl);(focus (exact ⟨_,HX3.out.up BWX,rfl⟩)));intro w3 hS3 hg3';have HS3:=Lib.hid hS3;have HG3:=Lib.hid ((grown_bw (show Bw wf _ from BWX) (some wr.heap.size)).trans hg3');have hne3 : some g3 ≠ some wr.heap.size:=(by intro e;have:=Option.some.inj e;omega);have HK3:=Lib.hid (show ∀ w',Bw w3 w' → Sb w' g3 t'.vals.toArray 53 from fun w' hb => ((HKf.out wf (Bw.refl _)).far HG3.out hne3).up hb);clear hS3 hg3'
   refine hK.out _ _ ?_ (fun hHeld => ?_)
   ·(try dsimp only);(first|(refine HKr.out _ ?_;(repeat (first|with_reducible (first|assumption|exact Bw.refl _|refine Bw.alloc ?_ _|refine Bw.more ?_ _ _|refine Bw.drew ?_|refine Bw.drewN ?_ _)|((with_reducible refine Bw.set2 ?_ ?_ _);(focus exact SZX))|with_reducible refine Bw.trans ?_ (by assumption)));done)|(refine HKb.out _ ?_;(repeat (first|with_reducible (first|assumption|exact Bw.refl _|refine Bw.alloc ?_ _|refine Bw.more ?_ _ _|refine Bw.drew ?_|refine Bw.drewN ?_ _)|((with_reducible refine Bw.set2 ?_ ?_ _);(focus exact SZX))|with_reducible refine Bw.trans ?_ (by assumption)));done)|(refine HKf.out _ ?_;(repeat (first|with_reducible (first|assumption|exact Bw.refl _|refine Bw.alloc ?_ _|refine Bw.more ?_ _ _|refine Bw.drew ?_|refine Bw.drewN ?_ _)|((with_reducible refine Bw.set2 ?_ ?_ _);(focus exact SZX))|with_reducible refine Bw.trans ?_ (by assumption)));done)|(refine HK3.out _ ?_;(repeat (first|with_reducible (first|assumption|exact Bw.refl _|refine Bw.alloc ?_ _|refine Bw.more ?_ _ _|refine Bw.drew ?_|refine Bw.drewN ?_ _)|((with_reducible refine Bw.set2 ?_ ?_ _);(focus exact SZX))|with_reducible refine Bw.trans ?_ (by assumption)));done))
   clear hK K
   (try simp only [Act.put,zP1,zP2,zP3,zP4,zP5,zP6])
   refine wpAnyH_done (by kernel_rfl) ?_ _
   go_wp2_with fail
   go_meet
   case rel =>
    have hb7:=F7.out
    have hbg:=HG3.out
    have hlx:=HX2.out.lt
    have hA1 : ∀ ad,t'.s.A = some ad → b < ad.block ∧ ad.block < wr.heap.size:=fun ad e => ⟨(H5.out ad e).1,H2.out.1.1.lt ad e⟩
    have hA2 : ∀ ad,t2.s.A = some ad → b < ad.block ∧ ad.block ≠ wr.heap.size:=fun ad e => by
     have hlt:=F1.out.1.1.lt ad e
     rcases F5.out with h|h
     ·have:=hA1 ad (by rw [← h];exact e)
      omega
     ·have:=h ad e
      omega
    have hgv0 : some v0 ≠ some wr.heap.size:=fun e => by have:=Option.some.inj e;omega
    have hgv1 : some v1 ≠ some wr.heap.size:=fun e => by have:=Option.some.inj e;omega
    refine ⟨wr.heap.size,t',t2,rfl,HK3.out _ (Bw.refl _),HS3.out,(HOb.out.1.up hb7).far hbg (fun ad e e2 => by have:=hA1 ad e;have:=Option.some.inj e2;omega),F1.out.1.far hbg (fun ad e e2 => (hA2 ad e).2 (Option.some.inj e2)),H34.out.1,H34.out.2,F2.out.1.trans H34.out.1,F2.out.2.trans H34.out.2,fun ad e => (hA1 ad e).1,fun ad e => (hA2 ad e).1,(HM4.out.up hb7).grown hbg (by omega),((HV07.out.far HGr.out hbv0).up hb7).far hbg hgv0,((HV17.out.far HGr.out hbv1).up hb7).far hbg hgv1,?_,h10,by omega⟩
    exact Bw.grown (Bw.trans (Bw.grown HBW7.out HGr.out (fun k hk => by cases hk;exact hbw0)) hb7) hbg (fun k hk => by cases hk;omega)
  exact AllReadyH.nil
 case rest =>
 clear HV07 HV17 HBW7 HT7
 obtain ⟨w5,hw5⟩ : ∃ w5 : World,w5 = wc:=⟨_,rfl⟩
 subst hw5
 obtain ⟨g8,t,u,rfl,s3,s8,ot,ou,et1,et2,eu1,eu2,at_,au_,hD,hv0',hv1',hbw',hbg3,hbg8⟩:=hcut
 go_wp2_with fail
 refine (mnext_dk2 b A n c 4 xs _ hD (by omega) (by omega)).mono ?_
 rintro e w6 ⟨q,rfl,hq1,hq2,hD6,hg6⟩
 have hg3b : some g3 ≠ some b:=(by intro e;have:=Option.some.inj e;omega)
 have hg8b : some g8 ≠ some b:=(by intro e;have:=Option.some.inj e;omega)
 have HS3:=Lib.hid (s3.far hg6 hg3b)
 have HS8:=Lib.hid (s8.far hg6 hg8b)
 have HOT:=Lib.hid (ot.far hg6 (fun ad e e2 => by have:=at_ ad e;have:=Option.some.inj e2;omega))
 have HOU:=Lib.hid (ou.far hg6 (fun ad e e2 => by have:=au_ ad e;have:=Option.some.inj e2;omega))
 have HV08:=Lib.hid (hv0'.far hg6 hbv0)
 have HV18:=Lib.hid (hv1'.far hg6 hbv1)
 have HBW8:=Lib.hid (Bw.grown hbw' hg6 (fun k hk => by cases hk;exact hbw0))
 have HD6:=Lib.hid hD6
 have HAT:=Lib.hid at_
 have HAU:=Lib.hid au_
 have eR:=HRC.out.1
 have eC:=HRC.out.2
 have HET:=Lib.hid (show (t.s.Rn : Int) = R ∧ (t.s.Cn : Int) = C from ⟨by rw [et1];exact eR,by rw [et2];exact eC⟩)
 have HEU:=Lib.hid (show (u.s.Rn : Int) = R ∧ (u.s.Cn : Int) = C from ⟨by rw [eu1];exact eR,by rw [eu2];exact eC⟩)
 have HVT:=Lib.hid (HOT.out.view (by have:=HET.out;omega) (by have:=HET.out;omega))
 have HVU:=Lib.hid (HOU.out.view (by have:=HEU.out;omega) (by have:=HEU.out;omega))
 clear s3 s8 ot ou et1 et2 eu1 eu2 at_ au_ hD hv0' hv1' hbw' hg6 hD6 eR eC
 by_cases hq0 : q = 0
 ·subst hq0
  go_wp2_with (first
   | ((with_reducible refine wpList_load_tr t g3 (.tmp 7) rfl rfl ?_ ?_ ?_);(focus rfl);(focus (exact HS3.out.up BWX)))
   | (go_at_call 23;refine (rpane_any t _).mono ?_;rintro ee w7 ⟨rfl,hb7⟩;have hb67 : Bw w6 w7:=Bw.trans (show Bw w6 _ from BWX) hb7;clear hb7)
   | (go_at_call 24;refine (mview_dk b A n c xs R C _ (HD6.out.up (Bw.trans hb67 BWX)) hR1 hR2 hC1 hC2).mono ?_;rintro ee w8 ⟨A',n',c',cs',row',col',hid',rfl,m1,m2,m3,m4,m5,m6,m7,m8⟩;have HG8:=Lib.hid ((grown_bw (Bw.trans hb67 (show Bw w7 _ from BWX)) (some b)).trans m8);have HM1:=Lib.hid m1;have HM5:=Lib.hid m5;have HM6:=Lib.hid (fun ad e => Nat.lt_of_le_of_lt (show w6.heap.size ≤ _ from (Bw.trans hb67 (show Bw w7 _ from BWX)).size) (m6 ad e));clear m1 m5 m6 m7 m8)
   | ((with_reducible refine wpList_store_vw t.s.Rn t.s.Cn t.s.A t.s.n t.s.c t.s.row t.s.col t.s.hid v0 (.tmp 2) (.tmp 30) rfl rfl ?_ ?_ ?_ ?_);(focus rfl);(focus rfl);(focus (exact (HV08.out.far HG8.out hbv0).up BWX));intro w9 hS9 hg9;have HS9:=Lib.hid hS9;have HG9:=Lib.hid ((grown_bw (show Bw w8 _ from BWX) (some v0)).trans hg9);clear hS9 hg9)
   | ((with_reducible refine wpList_store_vw R C A' n' c' row' col' hid' v1 (.tmp 3) (.tmp 34) rfl rfl ?_ ?_ ?_ ?_);(focus rfl);(focus rfl);(focus (exact ((HV18.out.far HG8.out hbv1).far HG9.out (fun e => hv01 (Option.some.inj e).symm)).up BWX));intro w10 hS10 hg10;have HS10:=Lib.hid hS10;have HG10:=Lib.hid ((grown_bw (show Bw w9 _ from BWX) (some v1)).trans hg10);clear hS10 hg10)
   | fail)
  refine bodyPost_ret (results_vw2 rfl _ _ v0 v1 (vwV t.s.Rn t.s.Cn t.s.A t.s.n t.s.c t.s.row t.s.col t.s.hid) (vwV R C A' n' c' row' col' hid') (by rfl) (by rfl) (HS9.out.far HG10.out (fun e => hv01 (Option.some.inj e))) HS10.out rfl rfl) rfl ?_
  obtain ⟨cs,k1,k2,k3,k4,k5⟩:=HVT.out
  have hz8:=HG8.out.size
  refine ⟨R,C,_,_,rfl,⟨t.s.A,t.s.n,t.s.c,cs,t.s.row,t.s.col,t.s.hid,by rw [HET.out.1,HET.out.2];rfl,?_,k2,k3,k4,by rw [HET.out.1,HET.out.2] at k5;exact k5⟩,⟨A',n',c',cs',row',col',hid',rfl,?_,m2,m3,m4,HM5.out⟩,⟨by omega,by omega⟩,?_⟩
  ·exact ((k1.far HG8.out (fun ad e e2 => by have:=HAT.out ad e;have:=Option.some.inj e2;omega)).far HG9.out (fun ad e e2 => by have:=HAT.out ad e;have:=Option.some.inj e2;omega)).far HG10.out (fun ad e e2 => by have:=HAT.out ad e;have:=Option.some.inj e2;omega)
  ·exact (HM1.out.far HG9.out (fun ad e e2 => by have:=HM6.out ad e;have:=Option.some.inj e2;have:=HS3.out.lt;omega)).far HG10.out (fun ad e e2 => by have:=HM6.out ad e;have:=Option.some.inj e2;have:=HS3.out.lt;omega)
  ·exact Bw.grown (Bw.grown (Bw.grown HBW8.out HG8.out (fun k hk => by cases hk;exact hbw0)) HG9.out (fun k hk => by cases hk;omega)) HG10.out (fun k hk => by cases hk;omega)
 ·have hqn : (q == 0) = false:=by simpa using hq0
  go_upto_region 8 with (fail)
  have HY:=Lib.hid (show ∀ w',Bw w6 w' → (Sb w' g3 t.vals.toArray 53 ∧ Sb w' g8 u.vals.toArray 53) from fun w' hb => ⟨HS3.out.up hb,HS8.out.up hb⟩)
  have hg3v0 : some g3 ≠ some v0:=(by intro e;have:=Option.some.inj e;omega)
  have hg3v1 : some g3 ≠ some v1:=(by intro e;have:=Option.some.inj e;omega)
  have hg8v0 : some g8 ≠ some v0:=(by intro e;have:=Option.some.inj e;omega)
  have hg8v1 : some g8 ≠ some v1:=(by intro e;have:=Option.some.inj e;omega)
  refine wp_region_held_drew (S:=(fun w' => Sb w' g3 t.vals.toArray 53 ∧ Sb w' g8 u.vals.toArray 53)) (by kernel_rfl) ?_ (fun hHeld => ?_)
  ·(try dsimp only);(first|(refine HY.out _ ?_;(repeat (first|with_reducible (first|assumption|exact Bw.refl _|refine Bw.alloc ?_ _|refine Bw.more ?_ _ _|refine Bw.drew ?_|refine Bw.drewN ?_ _)|((with_reducible refine Bw.set2 ?_ ?_ _);(focus exact SZX))|with_reducible refine Bw.trans ?_ (by assumption)));done)|(refine HY9.out _ ?_;(repeat (first|with_reducible (first|assumption|exact Bw.refl _|refine Bw.alloc ?_ _|refine Bw.more ?_ _ _|refine Bw.drew ?_|refine Bw.drewN ?_ _)|((with_reducible refine Bw.set2 ?_ ?_ _);(focus exact SZX))|with_reducible refine Bw.trans ?_ (by assumption)));done)|(refine HY10.out _ ?_;(repeat (first|with_reducible (first|assumption|exact Bw.refl _|refine Bw.alloc ?_ _|refine Bw.more ?_ _ _|refine Bw.drew ?_|refine Bw.drewN ?_ _)|((with_reducible refine Bw.set2 ?_ ?_ _);(focus exact SZX))|with_reducible refine Bw.trans ?_ (by assumption)));done))
  refine wpAnyH_take (i:=0) (v:=.agg t.vals.toArray) rfl (by kernel_rfl) (by kernel_rfl) (by kernel_rfl) (fun _ _ _ h => h) (yieldsIf_load_mid (by rfl) 53 (.tmp 7) rfl g3 0 rfl t.vals _ (fun w' h => tmRange h.1) Tryz.underlying53 rfl infoTrm) (by assumption) ?_
  (try simp only [Act.put,zP1,zP2,zP3,zP4,zP5,zP6])
  refine wpAnyH_take (i:=2) (v:=.agg u.vals.toArray) rfl (by kernel_rfl) (by kernel_rfl) (by kernel_rfl) (fun _ _ _ h => h) (yieldsIf_load_mid (by rfl) 53 (.tmp 8) rfl g8 0 rfl u.vals _ (fun w' h => tmRange h.2) Tryz.underlying53 rfl infoTrm) (by assumption) ?_
  (try simp only [Act.put,zP1,zP2,zP3,zP4,zP5,zP6])
  refine arO 1 (fun K hK => ?_)
  go_simp
  refine (rpane_any t _).mono ?_;rintro ee w7 ⟨rfl,hb7⟩;have hb67 : Bw w6 w7:=Bw.trans (show Bw w6 _ from BWX) hb7;clear hb7;go_wp2_with fail
  refine hK.out _ _ ?_ (fun hHeld => ?_)
  ·(try dsimp only);(first|(refine HY.out _ ?_;(repeat (first|with_reducible (first|assumption|exact Bw.refl _|refine Bw.alloc ?_ _|refine Bw.more ?_ _ _|refine Bw.drew ?_|refine Bw.drewN ?_ _)|((with_reducible refine Bw.set2 ?_ ?_ _);(focus exact SZX))|with_reducible refine Bw.trans ?_ (by assumption)));done)|(refine HY9.out _ ?_;(repeat (first|with_reducible (first|assumption|exact Bw.refl _|refine Bw.alloc ?_ _|refine Bw.more ?_ _ _|refine Bw.drew ?_|refine Bw.drewN ?_ _)|((with_reducible refine Bw.set2 ?_ ?_ _);(focus exact SZX))|with_reducible refine Bw.trans ?_ (by assumption)));done)|(refine HY10.out _ ?_;(repeat (first|with_reducible (first|assumption|exact Bw.refl _|refine Bw.alloc ?_ _|refine Bw.more ?_ _ _|refine Bw.drew ?_|refine Bw.drewN ?_ _)|((with_reducible refine Bw.set2 ?_ ?_ _);(focus exact SZX))|with_reducible refine Bw.trans ?_ (by assumption)));done))
  clear hK K
  (try simp only [Act.put,zP1,zP2,zP3,zP4,zP5,zP6])
  refine arO 3 (fun K hK => ?_)
  go_simp
  refine (rpane_any u _).mono ?_;rintro ee w8 ⟨rfl,hb8⟩;have hb68 : Bw w6 w8:=Bw.trans hb67 (Bw.trans (show Bw w7 _ from BWX) hb8);clear hb8;go_wp2_with fail
  refine hK.out _ _ ?_ (fun hHeld => ?_)
  ·(try dsimp only);(first|(refine HY.out _ ?_;(repeat (first|with_reducible (first|assumption|exact Bw.refl _|refine Bw.alloc ?_ _|refine Bw.more ?_ _ _|refine Bw.drew ?_|refine Bw.drewN ?_ _)|((with_reducible refine Bw.set2 ?_ ?_ _);(focus exact SZX))|with_reducible refine Bw.trans ?_ (by assumption)));done)|(refine HY9.out _ ?_;(repeat (first|with_reducible (first|assumption|exact Bw.refl _|refine Bw.alloc ?_ _|refine Bw.more ?_ _ _|refine Bw.drew ?_|refine Bw.drewN ?_ _)|((with_reducible refine Bw.set2 ?_ ?_ _);(focus exact SZX))|with_reducible refine Bw.trans ?_ (by assumption)));done)|(refine HY10.out _ ?_;(repeat (first|with_reducible (first|assumption|exact Bw.refl _|refine Bw.alloc ?_ _|refine Bw.more ?_ _ _|refine Bw.drew ?_|refine Bw.drewN ?_ _)|((with_reducible refine Bw.set2 ?_ ?_ _);(focus exact SZX))|with_reducible refine Bw.trans ?_ (by assumption)));done))
  clear hK K
  (try simp only [Act.put,zP1,zP2,zP3,zP4,zP5,zP6])
  refine arO 4 (fun K hK => ?_)
  (refine (if_pos (by kernel_rfl)).mpr ?_);((with_reducible refine wp_store_vw t.s.Rn t.s.Cn t.s.A t.s.n t.s.c t.s.row t.s.col t.s.hid v0 (.tmp 2) (.tmp 36) ?_ ?_ ?_ ?_ ?_);(focus rfl);(focus rfl);(focus rfl);(focus (exact (HV08.out.up hb68).up BWX)));intro w9 hS9 hg9;have HS9:=Lib.hid hS9;have HG9:=Lib.hid ((grown_bw (show Bw w8 _ from BWX) (some v0)).trans hg9);have HY9:=Lib.hid (show ∀ w',Bw w9 w' → (Sb w' g3 t.vals.toArray 53 ∧ Sb w' g8 u.vals.toArray 53) from fun w' hb => ⟨((HS3.out.up hb68).far HG9.out hg3v0).up hb,((HS8.out.up hb68).far HG9.out hg8v0).up hb⟩);clear hS9 hg9
  refine hK.out _ _ ?_ (fun hHeld => ?_)
  ·(try dsimp only);(first|(refine HY.out _ ?_;(repeat (first|with_reducible (first|assumption|exact Bw.refl _|refine Bw.alloc ?_ _|refine Bw.more ?_ _ _|refine Bw.drew ?_|refine Bw.drewN ?_ _)|((with_reducible refine Bw.set2 ?_ ?_ _);(focus exact SZX))|with_reducible refine Bw.trans ?_ (by assumption)));done)|(refine HY9.out _ ?_;(repeat (first|with_reducible (first|assumption|exact Bw.refl _|refine Bw.alloc ?_ _|refine Bw.more ?_ _ _|refine Bw.drew ?_|refine Bw.drewN ?_ _)|((with_reducible refine Bw.set2 ?_ ?_ _);(focus exact SZX))|with_reducible refine Bw.trans ?_ (by assumption)));done)|(refine HY10.out _ ?_;(repeat (first|with_reducible (first|assumption|exact Bw.refl _|refine Bw.alloc ?_ _|refine Bw.more ?_ _ _|refine Bw.drew ?_|refine Bw.drewN ?_ _)|((with_reducible refine Bw.set2 ?_ ?_ _);(focus exact SZX))|with_reducible refine Bw.trans ?_ (by assumption)));done))
  clear hK K
  (try simp only [Act.put,zP1,zP2,zP3,zP4,zP5,zP6])
  refine arO 5 (fun K hK => ?_)
  (refine (if_pos (by kernel_rfl)).mpr ?_);((with_reducible refine wp_store_vw u.s.Rn u.s.Cn u.s.A u.s.n u.s.c u.s.row u.s.col u.s.hid v1 (.tmp 3) (.tmp 38) ?_ ?_ ?_ ?_ ?_);(focus rfl);(focus rfl);(focus rfl);(focus (exact ((HV18.out.up hb68).far HG9.out (fun e => hv01 (Option.some.inj e).symm)).up BWX)));intro w10 hS10 hg10;have HS10:=Lib.hid hS10;have HG10:=Lib.hid ((grown_bw (show Bw w9 _ from BWX) (some v1)).trans hg10);have HY10:=Lib.hid (show ∀ w',Bw w10 w' → (Sb w' g3 t.vals.toArray 53 ∧ Sb w' g8 u.vals.toArray 53) from fun w' hb => ⟨((HY9.out w9 (Bw.refl _)).1.far HG10.out hg3v1).up hb,((HY9.out w9 (Bw.refl _)).2.far HG10.out hg8v1).up hb⟩);clear hS10 hg10
  refine hK.out _ _ ?_ (fun hHeld => ?_)
  ·(try dsimp only);(first|(refine HY.out _ ?_;(repeat (first|with_reducible (first|assumption|exact Bw.refl _|refine Bw.alloc ?_ _|refine Bw.more ?_ _ _|refine Bw.drew ?_|refine Bw.drewN ?_ _)|((with_reducible refine Bw.set2 ?_ ?_ _);(focus exact SZX))|with_reducible refine Bw.trans ?_ (by assumption)));done)|(refine HY9.out _ ?_;(repeat (first|with_reducible (first|assumption|exact Bw.refl _|refine Bw.alloc ?_ _|refine Bw.more ?_ _ _|refine Bw.drew ?_|refine Bw.drewN ?_ _)|((with_reducible refine Bw.set2 ?_ ?_ _);(focus exact SZX))|with_reducible refine Bw.trans ?_ (by assumption)));done)|(refine HY10.out _ ?_;(repeat (first|with_reducible (first|assumption|exact Bw.refl _|refine Bw.alloc ?_ _|refine Bw.more ?_ _ _|refine Bw.drew ?_|refine Bw.drewN ?_ _)|((with_reducible refine Bw.set2 ?_ ?_ _);(focus exact SZX))|with_reducible refine Bw.trans ?_ (by assumption)));done))
  clear hK K
  (try simp only [Act.put,zP1,zP2,zP3,zP4,zP5,zP6])
  refine wpAnyH_done (by kernel_rfl) ?_ _
  go_wp2_with fail
  refine bodyPost_ret (results_vw2 rfl _ _ v0 v1 (vwV t.s.Rn t.s.Cn t.s.A t.s.n t.s.c t.s.row t.s.col t.s.hid) (vwV u.s.Rn u.s.Cn u.s.A u.s.n u.s.c u.s.row u.s.col u.s.hid) (by rfl) (by rfl) (HS9.out.far HG10.out (fun e => hv01 (Option.some.inj e))) HS10.out rfl rfl) rfl ?_
  obtain ⟨cs,k1,k2,k3,k4,k5⟩:=HVT.out
  obtain ⟨ds,l1,l2,l3,l4,l5⟩:=HVU.out
  refine ⟨R,C,_,_,rfl,⟨t.s.A,t.s.n,t.s.c,cs,t.s.row,t.s.col,t.s.hid,by rw [HET.out.1,HET.out.2];rfl,?_,k2,k3,k4,by rw [HET.out.1,HET.out.2] at k5;exact k5⟩,⟨u.s.A,u.s.n,u.s.c,ds,u.s.row,u.s.col,u.s.hid,by rw [HEU.out.1,HEU.out.2];rfl,?_,l2,l3,l4,by rw [HEU.out.1,HEU.out.2] at l5;exact l5⟩,⟨by omega,by omega⟩,?_⟩
  ·exact ((k1.up hb68).far HG9.out (fun ad e e2 => by have:=HAT.out ad e;have:=Option.some.inj e2;omega)).far HG10.out (fun ad e e2 => by have:=HAT.out ad e;have:=Option.some.inj e2;omega)
  ·exact ((l1.up hb68).far HG9.out (fun ad e e2 => by have:=HAU.out ad e;have:=Option.some.inj e2;omega)).far HG10.out (fun ad e e2 => by have:=HAU.out ad e;have:=Option.some.inj e2;omega)
  ·exact Bw.grown (Bw.grown (Bw.trans HBW8.out hb68) HG9.out (fun k hk => by cases hk;omega)) HG10.out (fun k hk => by cases hk;omega)
theorem decL_one (v : Int) (h0 : 0 ≤ v) (h1 : v < 10) : decL v = [48 + v]:=by
 unfold decL bsI
 rw [Lib.decDigits,dif_pos (by omega)]
 simp only [List.map_cons,List.map_nil,List.cons.injEq,and_true]
 have h : (UInt8.ofNat (48 + v.toNat)).toNat = 48 + v.toNat:=by rw [UInt8.toNat_ofNat'];omega
 rw [h]
 omega
theorem full_sane20 : fullL 1 2 [(97,0,0,0),(32,0,0,0)] 0 1 false = [27,99,27,91,49,59,49,72,97,27,91,49,59,50,72]:=by
 have h1 : viewB 1 2 [(97,0,0,0),(32,0,0,0)] 0 1 = true:=by decide
 have h2 : rowF 1 2 [(97,0,0,0),(32,0,0,0)] (0 : Nat) = [(97,0,0,0),(32,0,0,0)]:=by decide
 have h3 : trimB [(97,0,0,0),(32,0,0,0)] = [(97,0,0,0)]:=by decide
 have h4 : bts (0,0,0) (0,0,0) = []:=by decide
 have g0 : goesL 0 0 = [27,91,49,59,49,72]:=by unfold goesL;rw [decL_one _ (by omega) (by omega)];rfl
 have g1 : goesL 0 1 = [27,91,49,59,50,72]:=by unfold goesL;rw [decL_one (0 + 1) (by omega) (by omega),decL_one (1 + 1) (by omega) (by omega)];rfl
 have h5 : rowsB (fun r => rowF 1 2 [(97,0,0,0),(32,0,0,0)] r) 1 = ([27,91,49,59,49,72,97],(0,0,0)):=by
  rw [rowsB,h2,h3,if_neg (by decide)]
  show ([] ++ (goesL ((0 : Nat) : Int) 0 ++ pntB (0,0,0) [(97,0,0,0)]),pntA (0,0,0) [(97,0,0,0)]) = _
  rw [show ((0 : Nat) : Int) = 0 from rfl,g0]
  decide
 unfold fullL
 rw [if_pos h1,show (1 : Int).toNat = 1 from rfl,h5,h4,g1]
 decide
theorem sane20_any (w : World) (ht : PowT w.heap.size w) : Calls Tryz.prog 8 #[] w fun e w' => e = .returned (.bool true) ∧ Bw w w':=by
 have HT:=Lib.hid ht
 clear ht
 go_enter Tryz.func8,Tryz.ntmps8
 go_upto_region 3 with (fail)
 generalize hwa : w.alloc _ = wa
 obtain ⟨hka,hba,hza⟩:=kb1 hwa
 generalize hwb : wa.alloc _ = wb
 obtain ⟨-,hbb,hzb⟩:=kb1 hwb
 generalize hwc : wb.alloc _ = wc
 obtain ⟨hkc,hbc,hzc⟩:=kb1 hwc
 rw [hzb,hza] at hkc
 obtain ⟨k,hk⟩ : ∃ k,k = w.heap.size:=⟨_,rfl⟩
 have HR:=Lib.hid (show Rg wc (some ⟨k,0,none⟩) 2 [(97,0,0,0),(32,0,0,0)] from by
  refine Rg.up (w:=wa) ⟨rfl,fun _ => ⟨k,0,rfl,fun i hi => ?_⟩⟩ (Bw.trans hbb hbc)
  rw [hk]
  rcases (show i = 0 ∨ i = 1 by simp at hi;omega) with rfl|rfl
  ·exact ⟨hka.cell 0 rfl,hka.cell 1 rfl,hka.cell 2 rfl,hka.cell 3 rfl⟩
  ·exact ⟨hka.cell 4 rfl,hka.cell 5 rfl,hka.cell 6 rfl,hka.cell 7 rfl⟩)
 have hb0:=Bw.trans hba (Bw.trans hbb hbc)
 rw [← hk] at hkc ⊢
 obtain ⟨kv,hkv⟩ : ∃ kv,kv = k + 1 + 1:=⟨_,rfl⟩
 rw [← hkv] at hkc ⊢
 have hlt:=lt_heap hkc
 have x0:=hkc.cell 0 (v:=.int .i64 1) rfl
 have x1:=hkc.cell 1 (v:=.int .i64 2) rfl
 have x2:=hkc.cell 2 (v:=.slice (some ⟨k,0,none⟩) 2 2) rfl
 have x3:=hkc.cell 3 (v:=.int .i64 0) rfl
 have x4:=hkc.cell 4 (v:=.int .i64 1) rfl
 have x5:=hkc.cell 5 (v:=.bool false) rfl
 have HB:=Lib.hid hb0
 have HS:=Lib.hid (show sameV 1 2 [(97,0,0,0),(32,0,0,0)] 0 1 false 1 2 [(97,0,0,0),(32,0,0,0)] 0 1 false = true from by decide)
 have HD:=Lib.hid (show diffL 1 2 [(97,0,0,0),(32,0,0,0)] 0 1 false 1 2 [(97,0,0,0),(32,0,0,0)] 0 1 false = [] from diffL_no (.inr HS.out))
 have hls : (strOfNums [27,99,27,91,49,59,49,72,97,27,91,49,59,50,72]).toList = [27,99,27,91,49,59,49,72,97,27,91,49,59,50,72]:=by first|rfl|decide|(simp [strOfNums,ByteArray.toList];done)|kernel_rfl
 clear hwa hwb hwc hka hkc hba hbb hbc hza hzb hzc hb0 hk hkv
 go_wp2_with (first
  | (go_at_call 11;refine (pfull_any 1 2 (some ⟨k,0,none⟩) 2 2 [(97,0,0,0),(32,0,0,0)] 0 1 false _ (HR.out.up (show Bw wc _ from BWX)) (by omega) (by omega) (by omega) (PowT.bump HT.out (Bw.trans HB.out (show Bw wc _ from BWX)))).mono ?_;rintro ee w1 ⟨v,rfl,hS,hb1⟩;rw [full_sane20] at hS;obtain ⟨A1,c1,rfl,hc1,hcm1,hR1⟩:=hS.get (N:=15) rfl;have hk1:=conv_run (cap:=c1) hR1;obtain ⟨L1,d1,rfl⟩:=Bw.isPlus hb1;clear hb1 hS hR1)
  | (go_at_call 13;refine (pdiff_any 1 2 (some ⟨k,0,none⟩) 2 2 [(97,0,0,0),(32,0,0,0)] 0 1 false 1 2 (some ⟨k,0,none⟩) 2 2 [(97,0,0,0),(32,0,0,0)] 0 1 false _ (HR.out.up (show Bw wc _ from BWX)) (by omega) (by omega) (by omega) (HR.out.up (show Bw wc _ from BWX)) (by omega) (by omega) (by omega) (PowT.bump HT.out (Bw.trans HB.out (show Bw wc _ from BWX)))).mono ?_;rintro ee w2 ⟨v,rfl,hS2,hb2⟩;rw [HD.out] at hS2;obtain ⟨A2,c2,rfl,hc2,hcm2,hR2⟩:=hS2.get (N:=0) rfl;obtain ⟨L2,d2,rfl⟩:=Bw.isPlus hb2;clear hb2 hS2 hR2)
  | (go_at_call 17;refine (gsameV_any 1 2 (some ⟨k,0,none⟩) 2 2 [(97,0,0,0),(32,0,0,0)] 0 1 false 1 2 (some ⟨k,0,none⟩) 2 2 [(97,0,0,0),(32,0,0,0)] 0 1 false _ (HR.out.up (show Bw wc _ from BWX)) (by omega) (by omega) (HR.out.up (show Bw wc _ from BWX)) (by omega) (by omega)).mono ?_;rintro ee w3 ⟨rfl,hb3⟩;rw [HS.out];obtain ⟨L3,d3,rfl⟩:=Bw.isPlus hb3;clear hb3)
  | (go_at_call 15;refine (gview_any 1 2 (some ⟨k,0,none⟩) 2 2 [(97,0,0,0),(32,0,0,0)] 0 1 false _ (HR.out.up (show Bw wc _ from BWX)) (by omega) (by omega)).mono ?_;rintro ee w4 ⟨rfl,hb4⟩;rw [show viewB 1 2 [(97,0,0,0),(32,0,0,0)] 0 1 = true by decide];obtain ⟨L4,d4,rfl⟩:=Bw.isPlus hb4;clear hb4)
  | fail)
 go_ret
 exact ⟨rfl,Bw.trans HB.out (show Bw wc _ from BWX)⟩
end Go.Proofs.YteebdjmjeahccaaGreatDoor
