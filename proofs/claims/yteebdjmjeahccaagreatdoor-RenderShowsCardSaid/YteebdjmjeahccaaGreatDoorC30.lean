/- Parts of the proof, one after the other. -/
import Derived.Test.YteebdjmjeahccaaGreatDoorC29
import Derived.Test.YteebdjmjeahccaaGreatDoorC15
import Derived.Test.YteebdjmjeahccaaGreatDoorC19
set_option linter.unusedSimpArgs false
set_option linter.unusedVariables false
set_option maxRecDepth 100000
set_option maxHeartbeats 16000000
namespace Go.Proofs.YteebdjmjeahccaaGreatDoor
open Go.RowKit
theorem rsor_x (A : Option Addr) (n c i : Nat) (d : Int) (xs : List Int) (w : World) (hx : Rd (.int .i64) w A n xs) (hn : n ≤ c) (hc : c ≤ 9223372036854775807) (hi : i ≤ 1000) :
  Calls Tryz.prog 106 #[.slice A n c,.int .i64 i,.int .i64 d] w fun e w' => e = .returned (.int .i64 (orN xs i d)) ∧ Bw w w':=by
 have HX:=Lib.hid hx
 clear hx
 by_cases hlt : i < n
 ·obtain ⟨g,o,rfl,hx⟩:=HX.out.2 (by omega)
  have hix : i < xs.length:=by rw [HX.out.1];exact hlt
  have hcx:=hx i hix
  have HM:=Lib.hid (show xs.getD i 0 = xs[i] by rw [List.getD_eq_getElem?_getD,List.getElem?_eq_getElem hix];rfl)
  obtain ⟨v,hv⟩ : ∃ v,xs[i] = v:=⟨_,rfl⟩
  rw [hv] at hcx
  have HM' : Hid (xs.getD i 0 = v):=Lib.hid (HM.out.trans hv)
  clear hx hv HM
  by_cases hz : v = 0
  ·subst hz
   go_enter Tryz.func106,Tryz.ntmps106
   go_wp2_with fail
   go_ret
   exact ⟨by unfold orN;rw [HM'.out,if_pos rfl];rfl,BWX⟩
  ·have hq : (v != 0) = true:=by simpa using hz
   have HZ:=Lib.hid hz
   clear hz
   go_enter Tryz.func106,Tryz.ntmps106
   go_wp2_with fail
   go_ret
   exact ⟨by unfold orN;rw [HM'.out,if_neg HZ.out];rfl,BWX⟩
 ·have HM:=Lib.hid (show xs.getD i 0 = 0 by rw [List.getD_eq_getElem?_getD,List.getElem?_eq_none (by rw [HX.out.1];omega)];rfl)
  go_enter Tryz.func106,Tryz.ntmps106
  go_wp2_with fail
  go_ret
  exact ⟨by unfold orN;rw [HM.out,if_pos rfl];rfl,BWX⟩
/-- A new grid whose cells are known. -/
theorem rnew_gx (R C : Int) (Rn Cn : Nat) (w : World) (hR : clamp R 30 = Rn) (hC : clamp C 100 = Cn) : Calls Tryz.prog 71 #[.int .i64 R,.int .i64 C] w fun e w' => ∃ A n c,e = .returned (.agg #[.int .i64 Rn,.int .i64 Cn,.slice A n c]) ∧ Gkx w' Rn Cn A n c (List.replicate (Rn * Cn) blk) ∧ (∀ ad,A = some ad → w.heap.size ≤ ad.block) ∧ Bw w w':=by
 have h1:=clamp_bd R 30 (by omega)
 have h2:=clamp_bd C 100 (by omega)
 rw [hR] at h1
 rw [hC] at h2
 refine (rnew16_any R C w).mono ?_
 rw [hR,hC]
 rintro e w' ⟨A,n,c,k1,k2,k3,k4,k5,k6⟩
 rw [show ((Rn : Int) * (Cn : Int)).toNat = Rn * Cn by rw [← Int.natCast_mul];exact Int.toNat_natCast _] at k2
 exact ⟨A,n,c,k1,⟨by omega,by omega,by omega,by omega,by rw [← k2.1];simp,k3,k4,k2,gridB_rep (by omega) (by omega) (by omega) (by omega)⟩,k5,k6⟩
/-- The call returns a new screen of that size. -/
def ScWX (w : World) (R C : Int) (e : Ending) (w' : World) : Prop:=∃ s' : Scr,(s'.Rn : Int) = clamp R 30 ∧ (s'.Cn : Int) = clamp C 100 ∧ e = .returned (.agg s'.vals.toArray) ∧ Mt w' s' (some (kn0 s'.Rn s'.Cn)) ∧ (∀ ad,s'.A = some ad → w.heap.size ≤ ad.block) ∧ Bw w w'
theorem rsnew_x (R C : Int) (w : World) : Calls Tryz.prog 51 #[.int .i64 R,.int .i64 C] w (ScWX w R C):=by
 obtain ⟨Rn,hRn⟩ : ∃ Rn : Nat,clamp R 30 = Rn:=⟨(clamp R 30).toNat,by have:=clamp_bd R 30 (by omega);omega⟩
 obtain ⟨Cn,hCn⟩ : ∃ Cn : Nat,clamp C 100 = Cn:=⟨(clamp C 100).toNat,by have:=clamp_bd C 100 (by omega);omega⟩
 have HRn:=Lib.hid hRn
 have HCn:=Lib.hid hCn
 clear hRn hCn
 go_enter Tryz.func51,Tryz.ntmps51
 go_upto_region 1 with (fail)
 generalize hw1 : w.alloc _ = w1
 obtain ⟨hb0,hbw,hz⟩:=sb1 hw1
 have HB0:=Lib.hid (show ∃ old,Sb w1 w.heap.size old 46 ∧ old.size = 19 from ⟨_,hb0,rfl⟩)
 have hz1 : w.heap.size < w1.heap.size:=by omega
 clear hw1 hb0 hz
 go_upto_region 2 with (go_at_call 71;refine (rnew_gx _ _ Rn Cn _ HRn.out HCn.out).mono ?_;rintro ee w2 ⟨A,n,c,rfl,hG,hN,hb2⟩;have HB02:=Lib.hid (show ∃ old,Sb w2 w.heap.size old 46 ∧ old.size = 19 from (Exists.elim HB0.out (fun old h => ⟨old,h.1.up hb2,h.2⟩)));have hbw2:=Bw.trans hbw hb2;have hz2:=hb2.size;have HG2:=Lib.hid hG;have HN:=Lib.hid hN;clear hG hN hb2)
 generalize hw3 : w2.alloc _ = w3
 obtain ⟨hb3,hbw3,hz3⟩:=sb1 hw3
 have HB3:=Lib.hid hb3
 have HG3:=Lib.hid (HG2.out.up hbw3)
 have HB03:=Lib.hid (show ∃ old,Sb w3 w.heap.size old 46 ∧ old.size = 19 from (Exists.elim HB02.out (fun old h => ⟨old,h.1.up hbw3,h.2⟩)))
 have hr1:=HG2.out.1
 have hr2:=HG2.out.2.1
 clear hw3 hb3
 have hY:=(show ∀ w',Bw w3 w' → (w'.cell? ⟨w2.heap.size,0,none⟩ = some (.int .i64 (Rn : Int)) ∧ w'.cell? ⟨w2.heap.size,1,none⟩ = some (.int .i64 (Cn : Int)) ∧ w'.cell? ⟨w2.heap.size,2,none⟩ = some (.slice A n c)) from fun w' hb => ⟨(HB3.out.up hb).cell 0 rfl,(HB3.out.up hb).cell 1 rfl,(HB3.out.up hb).cell 2 rfl⟩)
 have hYg:=(show ∀ w' w'',Bw w3 w' → w'.grownBy w'' (some w.heap.size) → (w''.cell? ⟨w2.heap.size,0,none⟩ = some (.int .i64 (Rn : Int)) ∧ w''.cell? ⟨w2.heap.size,1,none⟩ = some (.int .i64 (Cn : Int)) ∧ w''.cell? ⟨w2.heap.size,2,none⟩ = some (.slice A n c)) from fun w' w'' hb hg => by
  have h:=(HB3.out.up hb).far hg (by intro e;have:=Option.some.inj e;omega)
  exact ⟨h.cell 0 rfl,h.cell 1 rfl,h.cell 2 rfl⟩)
 have HY:=Lib.hid hY
 have HYg:=Lib.hid hYg
 clear hY hYg
 refine wp_region_held_drew (S:=(fun w' => w'.cell? ⟨w2.heap.size,0,none⟩ = some (.int .i64 (Rn : Int)) ∧ w'.cell? ⟨w2.heap.size,1,none⟩ = some (.int .i64 (Cn : Int)) ∧ w'.cell? ⟨w2.heap.size,2,none⟩ = some (.slice A n c))) (by kernel_rfl) ?_ (fun hHeld => ?_)
 ·(try dsimp only);(first|(exact HYg.out _ _ BWX HG5.out)|(refine HY.out _ ?_;exact BWX))
 refine tkQ 0 ?_
 refine tkQ 1 ?_
 refine tkQ 2 ?_
 (try simp only [Act.put,zP4,zP5,zP6])
 refine arO 3 (fun K hK => ?_)
 go_simp
 refine (rsall_any _ _ (by omega) (by omega)).mono ?_;rintro ee w4 ⟨rfl,hb4⟩;have hbw4 : Bw w3 w4:=Bw.trans (show Bw w3 _ from BWX) hb4;have HB04:=Lib.hid (show ∃ old,Sb w4 w.heap.size old 46 ∧ old.size = 19 from (Exists.elim HB03.out (fun old h => ⟨old,h.1.up hbw4,h.2⟩)));have HG4:=Lib.hid (HG3.out.up hbw4);clear hb4;go_wp2_with fail
 refine hK.out _ _ ?_ (fun hHeld => ?_)
 ·(try dsimp only);(first|(exact HYg.out _ _ BWX HG5.out)|(refine HY.out _ ?_;exact BWX))
 clear hK K
 (try simp only [Act.put,zP4,zP5,zP6])
 refine arO 4 (fun K hK => ?_)
 go_simp
 refine hK.out _ _ ?_ (fun hHeld => ?_)
 ·(try dsimp only);(first|(exact HYg.out _ _ BWX HG5.out)|(refine HY.out _ ?_;exact BWX))
 clear hK K
 (try simp only [Act.put,zP4,zP5,zP6])
 refine arO 5 (fun K hK => ?_)
 (refine (if_pos (by kernel_rfl)).mpr ?_);(with_reducible refine wp_store_sc (⟨Rn,Cn,A,n,c,0,0,false,0,0,0,0,(Rn : Int) - 1,0,0,false,0,0,0,false,false⟩) w.heap.size (.tmp 4) (.tmp 13) ?ho ?_ ?_ ?_ ?_);(case ho => rfl);(focus rfl);(focus rfl);(focus (exact HB04.out));intro w5 hS5 hg5;have HS5:=Lib.hid hS5;have HG5:=Lib.hid hg5;clear hS5 hg5
 refine hK.out _ _ ?_ (fun hHeld => ?_)
 ·(try dsimp only);(first|(exact HYg.out _ _ BWX HG5.out)|(refine HY.out _ ?_;exact BWX))
 clear hK K
 (try simp only [Act.put,zP4,zP5,zP6])
 refine wpAnyH_done (by kernel_rfl) ?_ _
 go_wp2_with fail
 refine bodyPost_ret (results_sc rfl _ _ w.heap.size (⟨Rn,Cn,A,n,c,0,0,false,0,0,0,0,(Rn : Int) - 1,0,0,false,0,0,0,false,false⟩) (by rfl) HS5.out) rfl ?_
 have hGf:=HG4.out.far HG5.out (ne_some (fun ad e => by have:=HN.out ad e;omega))
 exact ⟨⟨Rn,Cn,A,n,c,0,0,false,0,0,0,0,(Rn : Int) - 1,0,0,false,0,0,0,false,false⟩,HRn.out.symm,HCn.out.symm,rfl,(fun x hx => by cases hx;exact ⟨⟨hGf,⟨by show (0 : Int) ≤ 0;omega,by show (0 : Int) < (Rn : Int);omega,by show (0 : Int) ≤ 0;omega,by have:=hGf.2.2.1;show (0 : Int) < (Cn : Int);omega⟩,(show avB 0 0 0 = true by decide),⟨by show (0 : Int) ≤ 0;omega,by show (0 : Int) ≤ (Rn : Int) - 1;omega,by show (Rn : Int) - 1 < (Rn : Int);omega⟩,⟨by show (0 : Int) ≤ 0;omega,by show (0 : Int) < (Rn : Int);omega,by show (0 : Int) ≤ 0;omega,by have:=hGf.2.2.1;show (0 : Int) < (Cn : Int);omega⟩,(show avB 0 0 0 = true by decide)⟩,rfl,rfl,rfl,rfl,rfl,rfl⟩),(fun ad e => by have:=HN.out ad e;omega),Bw.grown (Bw.trans hbw2 (Bw.trans hbw3 hbw4)) HG5.out (fun k hk => by cases hk;omega)⟩
theorem rsput_x (s : Scr) (x : Kn) (nn : Int) (w : World) (hM : Mt w s (some x)) (hn : runeB nn = true) (hw : x.wrap = false) : Calls Tryz.prog 80 #[.agg s.vals.toArray,.int .i64 nn] w (ScX w s (some (putK s.Rn s.Cn x nn))):=by
 obtain ⟨hO,m1,m2,m3,m4,m5,m6⟩:=hM x rfl
 have HM:=Lib.hid (And.intro m1 (And.intro m2 (And.intro m4 (And.intro m5 m6))))
 have HWr:=Lib.hid (m3.trans hw)
 have HOk:=Lib.hid hO
 have HAl:=Lib.hid hO.1.lt
 have HCel:=Lib.hid (show cellB (nn,s.f,s.g,s.b) = true by unfold cellB;rw [hn,hO.2.2.1];rfl)
 have hcur:=hO.2.1
 have hCn:=hO.1.2.2.2.1
 obtain ⟨cs,hcs⟩ : ∃ cs,x.cs = cs:=⟨_,rfl⟩
 rw [hcs] at HOk
 have HCs:=Lib.hid hcs
 clear hM hn hw m1 m2 m3 m4 m5 m6 hO hcs
 go_enter Tryz.func80,Tryz.ntmps80
 go_upto_region 1 with (fail)
 generalize hw1 : (w.alloc (.cells s.vals.toArray 46)).alloc _ = w1
 obtain ⟨hb0,hb1,hbw,hz⟩:=sb2 hw1
 have HB0:=Lib.hid hb0
 have HB1:=Lib.hid hb1
 have hz1 : w.heap.size + 1 < w1.heap.size:=by omega
 have HOk1:=Lib.hid (HOk.out.up hbw)
 have HNe0:=Lib.hid (show ∀ ad,s.A = some ad → ad.block ≠ w.heap.size from fun ad e => by have:=HAl.out ad e;omega)
 have HNe1:=Lib.hid (show ∀ ad,s.A = some ad → ad.block ≠ w.heap.size + 1 from fun ad e => by have:=HAl.out ad e;omega)
 have hne01 : w.heap.size + 1 ≠ w.heap.size:=by omega
 have hz0 : w.heap.size < w1.heap.size:=by omega
 clear hw1 hb0 hb1 hz
 (have x0:=HB0.out.cell 0 (v:=.int .i64 (s.Rn : Int)) rfl;have x1:=HB0.out.cell 1 (v:=.int .i64 (s.Cn : Int)) rfl;have x2:=HB0.out.cell 2 (v:=.slice s.A s.n s.c) rfl;have x3:=HB0.out.cell 3 (v:=.int .i64 s.row) rfl;have x4:=HB0.out.cell 4 (v:=.int .i64 s.col) rfl;have x5:=HB0.out.cell 5 (v:=.bool s.wrap) rfl;have x6:=HB0.out.cell 6 (v:=.int .i64 s.f) rfl;have x7:=HB0.out.cell 7 (v:=.int .i64 s.g) rfl;have x8:=HB0.out.cell 8 (v:=.int .i64 s.b) rfl;have x18:=HB0.out.cell 18 (v:=.bool s.now) rfl)
 (have z0:=HB0.out.free 0;have z1:=HB0.out.free 1;have z2:=HB0.out.free 2;have z4:=HB0.out.free 4;have z5:=HB0.out.free 5)
 rw [HWr.out] at x5
 rw [HM.out.2.2.2.2] at x18
 obtain ⟨c0,c1,c2,c3⟩:=hcur
 have hways : s.col = (s.Cn : Int) - 1 ∨ s.col < (s.Cn : Int) - 1:=by omega
 go_upto_region 7 with (first
  | (go_at_call 103;refine (rfill_x s.Rn s.Cn s.A s.n s.c cs s.row s.col (s.col + 1) nn s.f s.g s.b _ (by exact HOk1.out.1.up BWX) HCel.out).mono ?_;rintro ee wd ⟨A',n',c',rfl,hGd,hnd,hbd⟩;have hbwd : Bw w1 wd:=Bw.trans (show Bw w1 _ from BWX) hbd;have HGd:=Lib.hid hGd;have HNd:=Lib.hid hnd;have HSd:=Lib.hid (HB0.out.up hbwd);have HCd:=Lib.hid (Sb.up (show Sb (w1.alloc (.cells #[.int .i64 s.row,.int .i64 s.col,.bool false] 40)) w1.heap.size #[.int .i64 s.row,.int .i64 s.col,.bool false] 40 from heap_at rfl) hbd);have hzd:=HSd.out.lt;have hze:=HCd.out.lt;clear x0 x1 x2 x3 x4 x5 x6 x7 x8 x18 z0 z1 z2 z4 z5;(have x0:=HSd.out.cell 0 (v:=.int .i64 (s.Rn : Int)) rfl;have x1:=HSd.out.cell 1 (v:=.int .i64 (s.Cn : Int)) rfl;have x2:=HSd.out.cell 2 (v:=.slice s.A s.n s.c) rfl;have x4:=HSd.out.cell 4 (v:=.int .i64 s.col) rfl;have x5:=HSd.out.cell 5 (v:=.bool s.wrap) rfl;have x18:=HSd.out.cell 18 (v:=.bool s.now) rfl);(have z0:=HSd.out.free 0;have z1:=HSd.out.free 1;have z2:=HSd.out.free 2;have z4:=HSd.out.free 4;have z5:=HSd.out.free 5);have y1:=HCd.out.cell 1 (v:=.int .i64 s.col) rfl;clear hGd hnd hbd)
  | fail)
 have HneA:=Lib.hid (show ∀ ad,A' = some ad → w1.heap.size ≤ ad.block from fun ad e => by have:=HNd.out ad e;first|omega|(simp only [szA,szS,szD,szN,plus_size] at this;omega))
 have HOld2:=Lib.hid (show ∃ old,Sb wd (w.heap.size + 1) old 46 ∧ old.size = 19 from ⟨_,HB1.out.up hbwd,rfl⟩)
 rw [HM.out.2.2.2.2] at x18
 rcases hways with hq|hq
 ·have hq1 : (s.col == (s.Cn : Int) - 1) = true:=by simpa using hq
  have HQ:=Lib.hid hq
  clear hq
  go_wp2_with (first
   | ((with_reducible refine wpList_load_sc ({ s.gr A' n' c' with wrap:=true } : Scr) w.heap.size (.tmp 2) rfl rfl ?_ ?_ ?_);(focus rfl);(focus (exact HSd.out.gr3.set 5 _ rfl)))
   | ((with_reducible refine wpList_store_sc ({ s.gr A' n' c' with wrap:=true } : Scr) (w.heap.size + 1) (.tmp 4) (.tmp 59) rfl rfl ?_ ?_ ?_ ?_);(focus rfl);(focus rfl);(focus (obtain ⟨old,g1,g2⟩:=HOld2.out;exact ⟨old,((((g1.away hne01 _).away hne01 _).away hne01 _).away hne01 _),g2⟩));intro w3 hS3 hg3;have HS3:=Lib.hid hS3;have HG3:=Lib.hid hg3;clear hS3 hg3)
   | fail)
  refine bodyPost_ret (results_sc2 rfl _ _ (w.heap.size + 1) ({ s.gr A' n' c' with wrap:=true } : Scr) (by rfl) HS3.out) rfl ?_
  have hA0 : ∀ ad,A' = some ad → ad.block ≠ w.heap.size:=fun ad e => by have:=HneA.out ad e;omega
  have hA1 : ∀ ad,A' = some ad → ad.block ≠ w.heap.size + 1:=fun ad e => by have:=HneA.out ad e;omega
  have hO:=HOk.out.2
  have hK:=((((HGd.out.away hA0 _ _).away hA0 _ _).away hA0 _ _).away hA0 _ _).far HG3.out (ne_some hA1)
  have hX : ({ s.gr A' n' c' with wrap:=true } : Scr).Okx w3 (tab s.Rn s.Cn (fillF s.Rn s.Cn cs s.row s.col (s.col + 1) (nn,s.f,s.g,s.b))):=⟨hK,hO.1,hO.2⟩
  refine ⟨({ s.gr A' n' c' with wrap:=true } : Scr),rfl,rfl,rfl,hX.ok,fun y hy => ?_,.inr (fun ad e => by have:=HneA.out ad e;omega),Bw.grown (show Bw w _ from BWX) HG3.out (fun k hk => by cases hk;omega)⟩
  cases hy
  obtain ⟨m1,m2,m4,m5,m6⟩:=HM.out
  have hq2:=HQ.out
  unfold putK
  dsimp only
  rw [HCs.out,← m1,← m2,← m4,if_pos hq2,decide_eq_true hq2]
  exact ⟨hX,rfl,rfl,rfl,rfl,m5,m6⟩
 ·have hq1 : (s.col == (s.Cn : Int) - 1) = false:=by rw [beq_eq_false_iff_ne];omega
  have hq9:=hq
  have HQ:=Lib.hid (show ¬ s.col = (s.Cn : Int) - 1 by omega)
  clear hq
  go_wp2_with (first
   | ((with_reducible refine wpList_load_sc ({ s.gr A' n' c' with col:=s.col + 1,wrap:=false } : Scr) w.heap.size (.tmp 2) rfl rfl ?_ ?_ ?_);(focus rfl);(focus (exact (HSd.out.gr3.set 4 _ rfl).set 5 _ rfl)))
   | ((with_reducible refine wpList_store_sc ({ s.gr A' n' c' with col:=s.col + 1,wrap:=false } : Scr) (w.heap.size + 1) (.tmp 4) (.tmp 59) rfl rfl ?_ ?_ ?_ ?_);(focus rfl);(focus rfl);(focus (obtain ⟨old,g1,g2⟩:=HOld2.out;exact ⟨old,(((((g1.away hne01 _).away hne01 _).away hne01 _).away hne01 _).away hne01 _),g2⟩));intro w3 hS3 hg3;have HS3:=Lib.hid hS3;have HG3:=Lib.hid hg3;clear hS3 hg3)
   | fail)
  refine bodyPost_ret (results_sc2 rfl _ _ (w.heap.size + 1) ({ s.gr A' n' c' with col:=s.col + 1,wrap:=false } : Scr) (by rfl) HS3.out) rfl ?_
  have hA0 : ∀ ad,A' = some ad → ad.block ≠ w.heap.size:=fun ad e => by have:=HneA.out ad e;omega
  have hA1 : ∀ ad,A' = some ad → ad.block ≠ w.heap.size + 1:=fun ad e => by have:=HneA.out ad e;omega
  have hO:=HOk.out.2
  have hK:=(((((HGd.out.away hA0 _ _).away hA0 _ _).away hA0 _ _).away hA0 _ _).away hA0 _ _).far HG3.out (ne_some hA1)
  have hX : ({ s.gr A' n' c' with col:=s.col + 1,wrap:=false } : Scr).Okx w3 (tab s.Rn s.Cn (fillF s.Rn s.Cn cs s.row s.col (s.col + 1) (nn,s.f,s.g,s.b))):=⟨hK,⟨hO.1.1,hO.1.2.1,by show 0 ≤ s.col + 1;omega,by show s.col + 1 < (s.Cn : Int);omega⟩,hO.2⟩
  refine ⟨({ s.gr A' n' c' with col:=s.col + 1,wrap:=false } : Scr),rfl,rfl,rfl,hX.ok,fun y hy => ?_,.inr (fun ad e => by have:=HneA.out ad e;omega),Bw.grown (show Bw w _ from BWX) HG3.out (fun k hk => by cases hk;omega)⟩
  cases hy
  obtain ⟨m1,m2,m4,m5,m6⟩:=HM.out
  have hq2:=HQ.out
  unfold putK
  dsimp only
  rw [HCs.out,← m1,← m2,← m4,if_neg hq2,decide_eq_false hq2]
  exact ⟨hX,rfl,rfl,rfl,rfl,m5,m6⟩
theorem rsescape_x (s : Scr) (w : World) (hs : s.Ok w) : Calls Tryz.prog 82 #[.agg s.vals.toArray,.int .i64 99] w (ScX w s (some (kn0 s.Rn s.Cn))):=by
 have HOk:=Lib.hid hs
 have HAl:=Lib.hid hs.1.lt
 clear hs
 go_enter Tryz.func82,Tryz.ntmps82
 go_upto_region 1 with (fail)
 generalize hw1 : (w.alloc (.cells s.vals.toArray 46)).alloc _ = w1
 obtain ⟨hb0,hb1,hbw,hz⟩:=sb2 hw1
 have HB0:=Lib.hid hb0
 have HB1:=Lib.hid hb1
 have hz1 : w.heap.size + 1 < w1.heap.size:=by omega
 have HOk1:=Lib.hid (HOk.out.up hbw)
 have HNe0:=Lib.hid (show ∀ ad,s.A = some ad → ad.block ≠ w.heap.size from fun ad e => by have:=HAl.out ad e;omega)
 have HNe1:=Lib.hid (show ∀ ad,s.A = some ad → ad.block ≠ w.heap.size + 1 from fun ad e => by have:=HAl.out ad e;omega)
 have hne10 : w.heap.size + 1 ≠ w.heap.size:=by omega
 clear hw1 hb0 hb1 hz
 (have x0:=HB0.out.cell 0 (v:=.int .i64 (s.Rn : Int)) rfl;have x1:=HB0.out.cell 1 (v:=.int .i64 (s.Cn : Int)) rfl)
 go_upto_region 16 with (fail)
 have HRs:=Lib.hid (clamp_in (x:=(s.Rn : Int)) (hi:=30) (by have:=HOk1.out.1.1;omega) (by have:=HOk1.out.1.2.1;omega))
 have HCs:=Lib.hid (clamp_in (x:=(s.Cn : Int)) (hi:=100) (by have:=HOk1.out.1.2.2.1;omega) (by have:=HOk1.out.1.2.2.2.1;omega))
 go_wp2_with (first
  | (go_at_call 51;refine (rsnew_x _ _ _).mono ?_;rintro ee w2 ⟨s',e1,e2,rfl,hOk',hN,hb2⟩;have HB12:=Lib.hid (HB1.out.up hb2);have hbm2:=hb2;have hzm2:=hb2.size;have HOk':=Lib.hid hOk';have HN:=Lib.hid hN;have HE:=Lib.hid (And.intro e1 e2);clear hOk' hN hb2 e1 e2)
  | ((with_reducible refine wpList_store_sc (s') (w.heap.size + 1) (.tmp 4) (.tmp 75) rfl rfl ?_ ?_ ?_ ?_);(focus rfl);(focus rfl);(focus (exact ⟨_,HB12.out,rfl⟩));intro w3 hS3 hg3;have HS3:=Lib.hid hS3;have HG3:=Lib.hid hg3;clear hS3 hg3)
  | fail)
 have hA1 : ∀ ad,s'.A = some ad → ad.block ≠ w.heap.size + 1:=fun ad e => by have:=HN.out ad e;omega
 have eR : s'.Rn = s.Rn:=by have:=HE.out.1;have:=HRs.out;omega
 have eC : s'.Cn = s.Cn:=by have:=HE.out.2;have:=HCs.out;omega
 refine bodyPost_ret (results_sc2 rfl _ _ (w.heap.size + 1) (s') (by rfl) HS3.out) rfl ?_
 have hK:=HOk'.out.far HG3.out (ne_some hA1)
 exact ⟨s',eR,eC,rfl,(hK _ rfl).1.ok,by rw [← eR,← eC];exact hK,.inr (fun ad e => by have:=HN.out ad e;omega),Bw.grown (Bw.trans hbw hbm2) HG3.out (fun k hk => by cases hk;omega)⟩
theorem rsmodes_x (s : Scr) (A : Option Addr) (c : Nat) (on : Bool) (w : World) (hs : s.Ok w) (hx : Rd (.int .i64) w A 1 [25]) (hn : 1 ≤ c) (hc : c ≤ 9223372036854775807) : Calls Tryz.prog 85 #[.agg s.vals.toArray,.slice A 1 c,.bool on] w (fun e w' => e = .returned (.agg (s.md (!on) s.now).vals.toArray) ∧ s.Ok w' ∧ Bw w w' ∧ ∀ cs,s.Okx w cs → s.Okx w' cs):=by
 have HX:=Lib.hid hx
 clear hx
 have HOk:=Lib.hid hs
 have HAl:=Lib.hid hs.1.lt
 clear hs
 go_enter Tryz.func85,Tryz.ntmps85
 go_upto_region 1 with (fail)
 generalize hw1 : (w.alloc (.cells s.vals.toArray 46)).alloc _ = w1
 obtain ⟨hb0,hb1,hbw,hz⟩:=sb2 hw1
 have HB0:=Lib.hid hb0
 have HB1:=Lib.hid hb1
 have hz1 : w.heap.size + 1 < w1.heap.size:=by omega
 have HOk1:=Lib.hid (HOk.out.up hbw)
 have HNe0:=Lib.hid (show ∀ ad,s.A = some ad → ad.block ≠ w.heap.size from fun ad e => by have:=HAl.out ad e;omega)
 have HNe1:=Lib.hid (show ∀ ad,s.A = some ad → ad.block ≠ w.heap.size + 1 from fun ad e => by have:=HAl.out ad e;omega)
 have hne10 : w.heap.size + 1 ≠ w.heap.size:=by omega
 clear hw1 hb0 hb1 hz
 go_wp2_with fail
 go_loopw [7] (fun i wr => ∃ (k : Nat),i = .int .i64 k ∧ k ≤ 1 ∧ Sb wr w.heap.size (s.md (if k = 0 then s.hid else !on) s.now).vals.toArray 46 ∧ (∃ old,Sb wr (w.heap.size + 1) old 46 ∧ old.size = 19) ∧ s.Ok wr ∧ Bw w wr) (fun i _ => 1 - (intOf i).toNat)
 case atStart => exact ⟨0,rfl,by omega,HB0.out,⟨_,HB1.out,rfl⟩,HOk1.out,hbw⟩
 case round =>
  rename_i wr
  obtain ⟨k,rfl,hk,hS,hold,hOk,hbwr⟩:=hrel
  have HS:=Lib.hid hS
  have HOld:=Lib.hid hold
  have HOkr:=Lib.hid hOk
  have hzr : w.heap.size < wr.heap.size:=hS.lt
  clear hS hold hOk
  by_cases hlt : k < 1
  ·have hk0 : k = 0:=by omega
   obtain ⟨g,o,rfl,hx⟩:=HX.out.2 (by omega)
   have hkx : k < ([25] : List Int).length:=by simpa using hlt
   have hcx:=(hbwr.cell (lt_of_cell (hx k hkx))).trans (hx k hkx)
   rw [show ([25] : List Int)[k]'hkx = 25 by subst hk0;rfl] at hcx
   have hgl:=lt_of_cell (hx k hkx)
   dsimp only at hgl
   have HS1:=Lib.hid (show Sb wr w.heap.size (s.md s.hid s.now).vals.toArray 46 by have h:=HS.out;rw [if_pos hk0] at h;exact h)
   have HK0:=Lib.hid hk0
   clear hx HS hk0
   have x17:=HS1.out.cell 17 (v:=.bool s.hid) rfl
   have x18:=HS1.out.cell 18 (v:=.bool s.now) rfl
   have z17:=HS1.out.free 17
   have z18:=HS1.out.free 18
   go_wp2_with fail
   go_roundw
   case rel => exact ⟨k + 1,by go_num,by omega,by rw [if_neg (by omega)];exact HS1.out.set 17 _ rfl,Exists.elim HOld.out (fun old h => ⟨old,h.1.away hne10 _,h.2⟩),HOkr.out.away HNe0.out _ _,BWX⟩
   case measure => simp [intOf];omega
  ·obtain rfl : k = 1:=by omega
   have HS:=Lib.hid (show Sb wr w.heap.size (s.md (!on) s.now).vals.toArray 46 by have h:=HS.out;rw [if_neg (by omega)] at h;exact h)
   go_wp2_with (first
    | ((with_reducible refine wpList_load_sc (s.md (!on) s.now) (w.heap.size) (.tmp 3) rfl rfl ?_ ?_ ?_);(focus rfl);(focus (exact HS.out)))
    | ((with_reducible refine wpList_store_sc (s.md (!on) s.now) (w.heap.size + 1) (.tmp 6) (.tmp 28) rfl rfl ?_ ?_ ?_ ?_);(focus rfl);(focus rfl);(focus (exact HOld.out));intro w3 hS3 hg3;have HS3:=Lib.hid hS3;have HG3:=Lib.hid hg3;clear hS3 hg3)
    | fail)
   refine bodyPost_ret (results_sc rfl _ _ (w.heap.size + 1) (s.md (!on) s.now) (by rfl) HS3.out) rfl ?_
   have hbr:=Bw.grown (hbwr) HG3.out (fun k hk => by cases hk;omega)
   exact ⟨rfl,(HOkr.out).far HG3.out (ne_some HNe1.out),hbr,fun cs h => h.up hbr⟩
theorem orN_bd {xs : List Int} {i : Nat} {d : Int} (hp : ∀ x ∈ xs,0 ≤ x ∧ x ≤ 9999) (hd : 0 ≤ d ∧ d ≤ 9999) : 0 ≤ orN xs i d ∧ orN xs i d ≤ 9999:=by
 unfold orN
 split
 ·exact hd
 ·rw [List.getD_eq_getElem?_getD]
  cases h : xs[i]? with
  | none => exact ⟨Int.le_refl 0,by show (0 : Int) ≤ 9999;omega⟩
  | some v => exact hp v (List.mem_of_getElem? h)
theorem rsor_x0 (A : Option Addr) (n c : Nat) (d : Int) (xs : List Int) (w : World) (hx : Rd (.int .i64) w A n xs) (hn : n ≤ c) (hc : c ≤ 9223372036854775807) :
  Calls Tryz.prog 106 #[.slice A n c,.int .i64 0,.int .i64 d] w fun e w' => e = .returned (.int .i64 (orN xs 0 d)) ∧ Bw w w':=rsor_x A n c 0 d xs w hx hn hc (by omega)
theorem rsor_x1 (A : Option Addr) (n c : Nat) (d : Int) (xs : List Int) (w : World) (hx : Rd (.int .i64) w A n xs) (hn : n ≤ c) (hc : c ≤ 9223372036854775807) :
  Calls Tryz.prog 106 #[.slice A n c,.int .i64 1,.int .i64 d] w fun e w' => e = .returned (.int .i64 (orN xs 1 d)) ∧ Bw w w':=rsor_x A n c 1 d xs w hx hn hc (by omega)
theorem rsmove_x (s : Scr) (kind k : Int) (w : World) (hs : s.Ok w) (hk : k ≤ 9223372036854775807) : Calls Tryz.prog 104 #[.agg s.vals.toArray,.int .i64 kind,.int .i64 k] w (fun e w' => e = .returned (.agg ({ s with row:=(mv s.row s.col s.wrap kind k s.top s.bot s.Rn s.Cn).1,col:=(mv s.row s.col s.wrap kind k s.top s.bot s.Rn s.Cn).2.1,wrap:=(mv s.row s.col s.wrap kind k s.top s.bot s.Rn s.Cn).2.2 } : Scr).vals.toArray) ∧ Bw w w'):=by
 have HMV:=Lib.hid (mv_bd (b:=s.wrap) (kind:=kind) (n:=k) hs.2.1 hs.2.2.2.1)
 obtain ⟨⟨h1,h2,h3,h4,-,-,-,-⟩,-⟩:=hs
 obtain ⟨⟨r',c',b'⟩,hmv⟩ : ∃ x,mv s.row s.col s.wrap kind k s.top s.bot s.Rn s.Cn = x:=⟨_,rfl⟩
 rw [hmv] at HMV
 have HM:=Lib.hid hmv
 clear hmv
 go_enter Tryz.func104,Tryz.ntmps104
 go_upto_region 1 with (fail)
 generalize hw1 : (w.alloc (.cells s.vals.toArray 46)).alloc _ = w1
 obtain ⟨hb0,hb1,hbw,hz⟩:=sb2 hw1
 have HB0:=Lib.hid hb0
 have HB1:=Lib.hid hb1
 have hz1 : w.heap.size + 1 < w1.heap.size:=by omega
 clear hw1 hb0 hb1 hz
 (have x0:=HB0.out.cell 0 (v:=.int .i64 (s.Rn : Int)) rfl;have x1:=HB0.out.cell 1 (v:=.int .i64 (s.Cn : Int)) rfl;have x3:=HB0.out.cell 3 (v:=.int .i64 s.row) rfl;have x4:=HB0.out.cell 4 (v:=.int .i64 s.col) rfl;have x5:=HB0.out.cell 5 (v:=.bool s.wrap) rfl;have x9:=HB0.out.cell 9 (v:=.int .i64 s.top) rfl;have x10:=HB0.out.cell 10 (v:=.int .i64 s.bot) rfl)
 go_wp2_with (first
  | (go_at_call 118;refine (rmove_any s.row s.col s.wrap kind k s.top s.bot s.Rn s.Cn _ (by omega) (by omega) hk).mono ?_;rintro ee w2 ⟨rfl,hb⟩;rw [HM.out];dsimp only [curV];have HC0:=Lib.hid (HB0.out.up hb);have HC1:=Lib.hid (HB1.out.up hb);have hbw2 : Bw w w2:=hbw.trans hb;have hz2:=Nat.lt_of_lt_of_le hz1 hb.size;clear hb x0 x1 x3 x4 x5 x9 x10;(have x3:=HC0.out.cell 3 (v:=.int .i64 s.row) rfl;have x4:=HC0.out.cell 4 (v:=.int .i64 s.col) rfl;have x5:=HC0.out.cell 5 (v:=.bool s.wrap) rfl);(have z3:=HC0.out.free 3;have z4:=HC0.out.free 4;have z5:=HC0.out.free 5))
  | ((with_reducible refine wpList_load_sc ({ s with row:=r',col:=c',wrap:=b' } : Scr) w.heap.size (.tmp 3) rfl rfl ?_ ?_ ?_);(focus rfl);(focus (exact ((HC0.out.set 3 _ rfl).set 4 _ rfl).set 5 _ rfl)))
  | ((with_reducible refine wpList_store_sc ({ s with row:=r',col:=c',wrap:=b' } : Scr) (w.heap.size + 1) (.tmp 6) (.tmp 21) rfl rfl ?_ ?_ ?_ ?_);(focus rfl);(focus rfl);(focus (exact ⟨_,((HC1.out.away (by omega) _).away (by omega) _).away (by omega) _,rfl⟩));intro w3 hS3 hg3;have hbw3 : Bw w w3:=Bw.grown (show Bw w _ from BWX) hg3 (fun k hk => by cases hk;omega);have HS3:=Lib.hid hS3;clear hS3 hg3)
  | fail)
 refine bodyPost_ret (results_sc rfl _ _ (w.heap.size + 1) ({ s with row:=r',col:=c',wrap:=b' } : Scr) (by rfl) HS3.out) rfl ?_
 exact ⟨by rw [HM.out],hbw3⟩
theorem rscsi_x72 (s : Scr) (x : Kn) (kd pv : Int) (A : Option Addr) (n c : Nat) (xs : List Int) (w : World) (hM : Mt w s (some x)) (hx : Rd (.int .i64) w A n xs) (hn : n ≤ c) (hc : c ≤ 9223372036854775807) (hn0 : 0 < n) (hn1 : n ≤ 1000) (hp : ∀ x ∈ xs,0 ≤ x ∧ x ≤ 9999) : Calls Tryz.prog 84 #[.agg s.vals.toArray,.agg #[.int .i64 kd,.int .i64 72,.int .i64 pv,.slice A n c]] w (ScX w s (some (goK s.Rn s.Cn x (orN xs 0 1 - 1) (orN xs 1 1 - 1)))):=by
 obtain ⟨hO,m1,m2,m3,m4,m5,m6⟩:=hM x rfl
 have hs:=hO.ok
 have HM:=Lib.hid (And.intro m1 (And.intro m2 (And.intro m3 (And.intro m4 (And.intro m5 m6)))))
 have HOx:=Lib.hid hO
 obtain ⟨num,hnum⟩ : ∃ num,orN xs 0 1 = num:=⟨_,rfl⟩
 have hnb : 0 ≤ num ∧ num ≤ 9999:=by rw [← hnum];exact orN_bd hp (by omega)
 obtain ⟨hnum1,hnum2⟩:=hnb
 have HNUM:=Lib.hid hnum
 clear hM m1 m2 m3 m4 m5 m6 hO hnum
 have HOk:=Lib.hid hs
 have HAl:=Lib.hid hs.1.lt
 have HX:=Lib.hid hx
 have HP:=Lib.hid hp
 have HBl:=Lib.hid (blankC_ok hs.2.2.1)
 clear hs hx hp
 go_enter Tryz.func84,Tryz.ntmps84
 go_upto_region 1 with (fail)
 generalize hwa : ((w.alloc (.cells s.vals.toArray 46)).alloc _).alloc _ = wa
 obtain ⟨hb0,hb1,hb2,hbwa,hza⟩:=sb3 hwa
 have HB0a:=Lib.hid hb0
 have HBoa:=Lib.hid hb1
 have HB1a:=Lib.hid (show ∃ old,Sb wa (w.heap.size + 2) old 46 ∧ old.size = 19 from ⟨_,hb2,rfl⟩)
 have hza' : w.heap.size + 2 < wa.heap.size:=by omega
 clear hwa hb0 hb1 hb2 hza
 (have x3:=HB0a.out.cell 3 (v:=.int .i64 s.row) rfl;have x4:=HB0a.out.cell 4 (v:=.int .i64 s.col) rfl;have x5:=HB0a.out.cell 5 (v:=.bool s.wrap) rfl)
 have xo:=HBoa.out.cell 3 (v:=.slice A n c) rfl
 go_cut [6,7,8] (fun v6 v7 v8 w' => v6 = .slice A n c ∧ v7 = .int .i64 num ∧ ∃ g8,v8 = .pointer (some ⟨g8,0,none⟩) ∧ Sb w' g8 #[.int .i64 s.row,.int .i64 s.col,.bool s.wrap] 40 ∧ wa.heap.size ≤ g8 ∧ Bw wa w')
 case first =>
  have HY:=Lib.hid (show ∀ w',Bw wa w' → (w'.cell? ⟨w.heap.size,3,none⟩ = some (.int .i64 s.row) ∧ w'.cell? ⟨w.heap.size,4,none⟩ = some (.int .i64 s.col) ∧ w'.cell? ⟨w.heap.size,5,none⟩ = some (.bool s.wrap) ∧ w'.cell? ⟨w.heap.size + 1,3,none⟩ = some (.slice A n c)) from fun w' hb => ⟨(HB0a.out.up hb).cell 3 rfl,(HB0a.out.up hb).cell 4 rfl,(HB0a.out.up hb).cell 5 rfl,(HBoa.out.up hb).cell 3 rfl⟩)
  go_region_held3 (fun w' => w'.cell? ⟨w.heap.size,3,none⟩ = some (.int .i64 s.row) ∧ w'.cell? ⟨w.heap.size,4,none⟩ = some (.int .i64 s.col) ∧ w'.cell? ⟨w.heap.size,5,none⟩ = some (.bool s.wrap) ∧ w'.cell? ⟨w.heap.size + 1,3,none⟩ = some (.slice A n c)) ((refine HY.out _ ?_;exact BWX)) ((first|(go_at_call 106;refine (rsor_x0 A n c 1 xs _ (by exact HX.out.up BWX) hn hc).mono ?_;rintro ee wv ⟨rfl,hbv⟩;rw [HNUM.out];have hbwv : Bw wa wv:=Bw.trans (show Bw wa _ from BWX) hbv;obtain ⟨L8,d8,rfl⟩:=hbv.isPlus;clear hbv)|fail))
  all_goals go_wp2
  all_goals go_meet
  all_goals
   case rel =>
    refine ⟨rfl,rfl,_,rfl,?_,?_,?_⟩
    ·first|(refine heap_at ?_;simp [plus_size];done)|(refine Sb.up (w:=wa.alloc _) (heap_at rfl) ?_;(repeat (first|with_reducible (first|assumption|exact Bw.refl _|refine Bw.alloc ?_ _|refine Bw.more ?_ _ _|refine Bw.drew ?_|refine Bw.drewN ?_ _)|((with_reducible refine Bw.set2 ?_ ?_ _);(focus exact SZX))|with_reducible refine Bw.trans ?_ (by assumption)));done)|fail
    ·first|omega|(simp only [plus_size];omega)|fail
    ·(repeat (first|with_reducible (first|assumption|exact Bw.refl _|refine Bw.alloc ?_ _|refine Bw.more ?_ _ _|refine Bw.drew ?_|refine Bw.drewN ?_ _)|((with_reducible refine Bw.set2 ?_ ?_ _);(focus exact SZX))|with_reducible refine Bw.trans ?_ (by assumption)))
 case rest =>
 obtain ⟨rfl,rfl,g8,rfl,h8,hg8,hbc⟩:=hcut
 have HB0c:=Lib.hid (HB0a.out.up hbc)
 have H8c:=Lib.hid h8
 have hg8c:=h8.lt
 clear x3 x4 x5 xo h8
 (have x6:=HB0c.out.cell 6 (v:=.int .i64 s.f) rfl;have x7:=HB0c.out.cell 7 (v:=.int .i64 s.g) rfl;have x8:=HB0c.out.cell 8 (v:=.int .i64 s.b) rfl)
 go_upto_region 3 with (go_at_call 105;refine (rblank_any s.f s.g s.b _).mono ?_;rintro ee wb ⟨rfl,hbb⟩;have hbb' : Bw wc wb:=Bw.trans (show Bw wc _ from BWX) hbb;clear hbb)
 generalize hw1 : wb.alloc _ = w1
 obtain ⟨h9,hb19,hz19⟩:=sb1 hw1
 have hbc1 : Bw wc w1:=Bw.trans hbb' hb19
 have hba1 : Bw wa w1:=Bw.trans hbc hbc1
 have hbw : Bw w w1:=Bw.trans hbwa hba1
 have HB0:=Lib.hid (HB0a.out.up hba1)
 have HBo:=Lib.hid (HBoa.out.up hba1)
 obtain ⟨old1,hold1,hosz⟩:=HB1a.out
 have HB1:=Lib.hid (hold1.up hba1)
 have HOsz:=Lib.hid hosz
 have H8:=Lib.hid (H8c.out.up hbc1)
 have H9:=Lib.hid h9
 obtain ⟨g9,hg9⟩ : ∃ g9,wb.heap.size = g9:=⟨_,rfl⟩
 have hzb:=hbb'.size
 rw [hg9] at h9
 have hz1 : w.heap.size + 2 < w1.heap.size:=by have:=hba1.size;omega
 have hz8 : w.heap.size + 2 < g8:=by omega
 have hz81 : g8 < w1.heap.size:=H8.out.lt
 have hz9 : w.heap.size + 2 < g9:=by omega
 have hz91 : g9 < w1.heap.size:=h9.lt
 have HOk1:=Lib.hid (HOk.out.up hbw)
 have HX1:=Lib.hid (HX.out.up hbw)
 have HNe0:=Lib.hid (show ∀ ad,s.A = some ad → ad.block ≠ w.heap.size from fun ad e => by have:=HAl.out ad e;omega)
 have HNe1:=Lib.hid (show ∀ ad,s.A = some ad → ad.block ≠ w.heap.size + 2 from fun ad e => by have:=HAl.out ad e;omega)
 have hne10 : w.heap.size + 2 ≠ w.heap.size:=by omega
 have xo1:=HBo.out.cell 1 (v:=.int .i64 72) rfl
 clear H9
 have H9:=Lib.hid h9
 clear hw1 h9 hb19 hz19 hold1 hosz HB0a HBoa HB1a HB0c H8c hbc hbc1 hba1 hbb' hbwa hg8c x6 x7 x8 hza' hg8 hzb HX
 rw [hg9]
 clear hg9
 go_upto_region 25 with (fail)
 go_wp2_with (first
  | ((with_reducible refine wpList_load_sc (s) (w.heap.size) (.tmp 2) rfl rfl ?_ ?_ ?_);(focus rfl);(focus (exact HB0.out)))
  | (go_at_call 106;refine (rsor_x1 A n c 1 xs _ (by exact HX1.out.up hbm2) hn hc).mono ?_;rintro ee wv ⟨rfl,hbv⟩;obtain ⟨v,hv⟩ : ∃ v,orN xs 1 1 = v:=⟨_,rfl⟩;rw [hv];have HV:=Lib.hid hv;have hvb : 0 ≤ v ∧ v ≤ 9999:=(by rw [← hv];exact orN_bd HP.out (by omega));obtain ⟨hv1,hv2⟩:=hvb;have hbmv:=hbv;have hzmv:=hbv.size;clear hv hbv)
  | (go_at_call 104;refine (rsmove_x ({ s with row:=r2,col:=s.col,wrap:=false } : Scr) 6 (v - 1) _ (HOk2.out.up hbmv) (by omega)).mono ?_;rintro ee w4 ⟨rfl,hb4⟩;rw [mv_col HOk2.out.2.1 HOk2.out.2.2.2.1];dsimp only;obtain ⟨c4,hc4⟩ : ∃ c4,min (max (v - 1) 0) ((s.Cn : Int) - 1) = c4:=⟨_,rfl⟩;rw [hc4];have HC4:=Lib.hid hc4;have hc40 : 0 ≤ c4 ∧ c4 < s.Cn:=(by have:=HOk1.out.2.1;omega);obtain ⟨hc41,hc42⟩:=hc40;have HB14:=Lib.hid ((HB12.out.up hbmv).up hb4);have hbm4:=hb4;have hzm4:=hb4.size;clear hb4 hc4)
  | (go_at_call 104;refine (rsmove_x s 7 (num - 1) _ HOk1.out (by omega)).mono ?_;rintro ee w2 ⟨rfl,hb2⟩;rw [mv_row HOk1.out.2.1 HOk1.out.2.2.2.1];dsimp only;obtain ⟨r2,hr2⟩ : ∃ r2,min (max (num - 1) 0) ((s.Rn : Int) - 1) = r2:=⟨_,rfl⟩;rw [hr2];have HR2:=Lib.hid hr2;have hr20 : 0 ≤ r2 ∧ r2 < s.Rn:=(by have:=HOk1.out.2.1;omega);obtain ⟨hr21,hr22⟩:=hr20;have HOk2:=Lib.hid (show ({ s with row:=r2,col:=s.col,wrap:=false } : Scr).Ok w2 from ⟨(HOk1.out.up hb2).1,⟨hr21,hr22,HOk1.out.2.1.2.2.1,HOk1.out.2.1.2.2.2⟩,HOk1.out.2.2⟩);have HB12:=Lib.hid (HB1.out.up hb2);have hbm2:=hb2;have hzm2:=hb2.size;clear hb2 hr2)
  | ((with_reducible refine wpList_store_sc ({ s with row:=r2,col:=c4,wrap:=false } : Scr) (w.heap.size + 2) (.tmp 4) (.tmp 79) rfl rfl ?_ ?_ ?_ ?_);(focus rfl);(focus rfl);(focus (exact ⟨_,HB14.out,HOsz.out⟩));intro w3 hS3 hg3;have HS3:=Lib.hid hS3;have HG3:=Lib.hid hg3;clear hS3 hg3)
  | fail)
 refine bodyPost_ret (results_sc2 rfl _ _ (w.heap.size + 2) ({ s with row:=r2,col:=c4,wrap:=false } : Scr) (by rfl) HS3.out) rfl ?_
 have hbA:=Bw.trans (Bw.trans (Bw.trans hbw hbm2) hbmv) hbm4
 have hX : ({ s with row:=r2,col:=c4,wrap:=false } : Scr).Okx w3 x.cs:=⟨((HOx.out.up hbA).far HG3.out (ne_some HNe1.out)).1,⟨hr21,hr22,hc41,hc42⟩,HOx.out.2.2⟩
 refine ⟨({ s with row:=r2,col:=c4,wrap:=false } : Scr),rfl,rfl,rfl,hX.ok,fun y hy => ?_,.inl rfl,Bw.grown hbA HG3.out (fun k hk => by cases hk;omega)⟩
 cases hy
 obtain ⟨m1,m2,m3,m4,m5,m6⟩:=HM.out
 unfold goK
 dsimp only
 rw [HNUM.out,HV.out,HR2.out,HC4.out]
 exact ⟨hX,rfl,rfl,rfl,m4,m5,m6⟩
theorem rscsi_x109 (s : Scr) (x : Kn) (kd pv : Int) (A : Option Addr) (n c : Nat) (xs : List Int) (w : World) (hM : Mt w s (some x)) (hx : Rd (.int .i64) w A n xs) (hn : n ≤ c) (hc : c ≤ 9223372036854775807) (hn0 : 0 < n) (hn1 : n ≤ 1000) (hp : ∀ x ∈ xs,0 ≤ x ∧ x ≤ 9999) : Calls Tryz.prog 84 #[.agg s.vals.toArray,.agg #[.int .i64 kd,.int .i64 109,.int .i64 pv,.slice A n c]] w (ScX w s (some ({ x with a:=applA xs x.a }))):=by
 obtain ⟨hO,m1,m2,m3,m4,m5,m6⟩:=hM x rfl
 have hs:=hO.ok
 have HM:=Lib.hid (And.intro m1 (And.intro m2 (And.intro m3 (And.intro m4 (And.intro m5 m6)))))
 have HOx:=Lib.hid hO
 obtain ⟨num,hnum⟩ : ∃ num,orN xs 0 1 = num:=⟨_,rfl⟩
 have hnb : 0 ≤ num ∧ num ≤ 9999:=by rw [← hnum];exact orN_bd hp (by omega)
 obtain ⟨hnum1,hnum2⟩:=hnb
 have HNUM:=Lib.hid hnum
 clear hM m1 m2 m3 m4 m5 m6 hO hnum
 have HOk:=Lib.hid hs
 have HAl:=Lib.hid hs.1.lt
 have HX:=Lib.hid hx
 have HP:=Lib.hid hp
 have HBl:=Lib.hid (blankC_ok hs.2.2.1)
 clear hs hx hp
 go_enter Tryz.func84,Tryz.ntmps84
 go_upto_region 1 with (fail)
 generalize hwa : ((w.alloc (.cells s.vals.toArray 46)).alloc _).alloc _ = wa
 obtain ⟨hb0,hb1,hb2,hbwa,hza⟩:=sb3 hwa
 have HB0a:=Lib.hid hb0
 have HBoa:=Lib.hid hb1
 have HB1a:=Lib.hid (show ∃ old,Sb wa (w.heap.size + 2) old 46 ∧ old.size = 19 from ⟨_,hb2,rfl⟩)
 have hza' : w.heap.size + 2 < wa.heap.size:=by omega
 clear hwa hb0 hb1 hb2 hza
 (have x3:=HB0a.out.cell 3 (v:=.int .i64 s.row) rfl;have x4:=HB0a.out.cell 4 (v:=.int .i64 s.col) rfl;have x5:=HB0a.out.cell 5 (v:=.bool s.wrap) rfl)
 have xo:=HBoa.out.cell 3 (v:=.slice A n c) rfl
 go_cut [6,7,8] (fun v6 v7 v8 w' => v6 = .slice A n c ∧ v7 = .int .i64 num ∧ ∃ g8,v8 = .pointer (some ⟨g8,0,none⟩) ∧ Sb w' g8 #[.int .i64 s.row,.int .i64 s.col,.bool s.wrap] 40 ∧ wa.heap.size ≤ g8 ∧ Bw wa w')
 case first =>
  have HY:=Lib.hid (show ∀ w',Bw wa w' → (w'.cell? ⟨w.heap.size,3,none⟩ = some (.int .i64 s.row) ∧ w'.cell? ⟨w.heap.size,4,none⟩ = some (.int .i64 s.col) ∧ w'.cell? ⟨w.heap.size,5,none⟩ = some (.bool s.wrap) ∧ w'.cell? ⟨w.heap.size + 1,3,none⟩ = some (.slice A n c)) from fun w' hb => ⟨(HB0a.out.up hb).cell 3 rfl,(HB0a.out.up hb).cell 4 rfl,(HB0a.out.up hb).cell 5 rfl,(HBoa.out.up hb).cell 3 rfl⟩)
  go_region_held3 (fun w' => w'.cell? ⟨w.heap.size,3,none⟩ = some (.int .i64 s.row) ∧ w'.cell? ⟨w.heap.size,4,none⟩ = some (.int .i64 s.col) ∧ w'.cell? ⟨w.heap.size,5,none⟩ = some (.bool s.wrap) ∧ w'.cell? ⟨w.heap.size + 1,3,none⟩ = some (.slice A n c)) ((refine HY.out _ ?_;exact BWX)) ((first|(go_at_call 106;refine (rsor_x0 A n c 1 xs _ (by exact HX.out.up BWX) hn hc).mono ?_;rintro ee wv ⟨rfl,hbv⟩;rw [HNUM.out];have hbwv : Bw wa wv:=Bw.trans (show Bw wa _ from BWX) hbv;obtain ⟨L8,d8,rfl⟩:=hbv.isPlus;clear hbv)|fail))
  all_goals go_wp2
  all_goals go_meet
  all_goals
   case rel =>
    refine ⟨rfl,rfl,_,rfl,?_,?_,?_⟩
    ·first|(refine heap_at ?_;simp [plus_size];done)|(refine Sb.up (w:=wa.alloc _) (heap_at rfl) ?_;(repeat (first|with_reducible (first|assumption|exact Bw.refl _|refine Bw.alloc ?_ _|refine Bw.more ?_ _ _|refine Bw.drew ?_|refine Bw.drewN ?_ _)|((with_reducible refine Bw.set2 ?_ ?_ _);(focus exact SZX))|with_reducible refine Bw.trans ?_ (by assumption)));done)|fail
    ·first|omega|(simp only [plus_size];omega)|fail
    ·(repeat (first|with_reducible (first|assumption|exact Bw.refl _|refine Bw.alloc ?_ _|refine Bw.more ?_ _ _|refine Bw.drew ?_|refine Bw.drewN ?_ _)|((with_reducible refine Bw.set2 ?_ ?_ _);(focus exact SZX))|with_reducible refine Bw.trans ?_ (by assumption)))
 case rest =>
 obtain ⟨rfl,rfl,g8,rfl,h8,hg8,hbc⟩:=hcut
 have HB0c:=Lib.hid (HB0a.out.up hbc)
 have H8c:=Lib.hid h8
 have hg8c:=h8.lt
 clear x3 x4 x5 xo h8
 (have x6:=HB0c.out.cell 6 (v:=.int .i64 s.f) rfl;have x7:=HB0c.out.cell 7 (v:=.int .i64 s.g) rfl;have x8:=HB0c.out.cell 8 (v:=.int .i64 s.b) rfl)
 go_upto_region 3 with (go_at_call 105;refine (rblank_any s.f s.g s.b _).mono ?_;rintro ee wb ⟨rfl,hbb⟩;have hbb' : Bw wc wb:=Bw.trans (show Bw wc _ from BWX) hbb;clear hbb)
 generalize hw1 : wb.alloc _ = w1
 obtain ⟨h9,hb19,hz19⟩:=sb1 hw1
 have hbc1 : Bw wc w1:=Bw.trans hbb' hb19
 have hba1 : Bw wa w1:=Bw.trans hbc hbc1
 have hbw : Bw w w1:=Bw.trans hbwa hba1
 have HB0:=Lib.hid (HB0a.out.up hba1)
 have HBo:=Lib.hid (HBoa.out.up hba1)
 obtain ⟨old1,hold1,hosz⟩:=HB1a.out
 have HB1:=Lib.hid (hold1.up hba1)
 have HOsz:=Lib.hid hosz
 have H8:=Lib.hid (H8c.out.up hbc1)
 have H9:=Lib.hid h9
 obtain ⟨g9,hg9⟩ : ∃ g9,wb.heap.size = g9:=⟨_,rfl⟩
 have hzb:=hbb'.size
 rw [hg9] at h9
 have hz1 : w.heap.size + 2 < w1.heap.size:=by have:=hba1.size;omega
 have hz8 : w.heap.size + 2 < g8:=by omega
 have hz81 : g8 < w1.heap.size:=H8.out.lt
 have hz9 : w.heap.size + 2 < g9:=by omega
 have hz91 : g9 < w1.heap.size:=h9.lt
 have HOk1:=Lib.hid (HOk.out.up hbw)
 have HX1:=Lib.hid (HX.out.up hbw)
 have HNe0:=Lib.hid (show ∀ ad,s.A = some ad → ad.block ≠ w.heap.size from fun ad e => by have:=HAl.out ad e;omega)
 have HNe1:=Lib.hid (show ∀ ad,s.A = some ad → ad.block ≠ w.heap.size + 2 from fun ad e => by have:=HAl.out ad e;omega)
 have hne10 : w.heap.size + 2 ≠ w.heap.size:=by omega
 have xo1:=HBo.out.cell 1 (v:=.int .i64 109) rfl
 clear H9
 have H9:=Lib.hid h9
 clear hw1 h9 hb19 hz19 hold1 hosz HB0a HBoa HB1a HB0c H8c hbc hbc1 hba1 hbb' hbwa hg8c x6 x7 x8 hza' hg8 hzb HX
 rw [hg9]
 clear hg9
 (have x6:=HB0.out.cell 6 (v:=.int .i64 s.f) rfl;have x7:=HB0.out.cell 7 (v:=.int .i64 s.g) rfl;have x8:=HB0.out.cell 8 (v:=.int .i64 s.b) rfl)
 go_upto_region 45 with (fail)
 go_wp2_with (first
  | ((with_reducible refine wpList_load_sc ({ s with f:=(applA xs (s.f,s.g,s.b)).1,g:=(applA xs (s.f,s.g,s.b)).2.1,b:=(applA xs (s.f,s.g,s.b)).2.2 } : Scr) (w.heap.size) (.tmp 2) rfl rfl ?_ ?_ ?_);(focus rfl);(focus (exact ((HB0d.out.set 6 _ rfl).set 7 _ rfl).set 8 _ rfl)))
  | (go_at_call 111;refine (rapply_any s.f s.g s.b A n c xs _ (HX1.out) hn hc hn1).mono ?_;rintro ee wd ⟨rfl,hbd⟩;have hbmd : Bw w1 wd:=hbd;have HB0d:=Lib.hid (HB0.out.up hbmd);have HB1d:=Lib.hid (HB1.out.up hbmd);have hzd:=HB0d.out.lt;have hzwd:=hbmd.size;(have q6:=HB0d.out.cell 6 (v:=.int .i64 s.f) rfl;have q7:=HB0d.out.cell 7 (v:=.int .i64 s.g) rfl;have q8:=HB0d.out.cell 8 (v:=.int .i64 s.b) rfl);(have p6:=HB0d.out.free 6;have p7:=HB0d.out.free 7;have p8:=HB0d.out.free 8);clear hbd;dsimp only [at3,atV])
  | ((with_reducible refine wpList_store_sc ({ s with f:=(applA xs (s.f,s.g,s.b)).1,g:=(applA xs (s.f,s.g,s.b)).2.1,b:=(applA xs (s.f,s.g,s.b)).2.2 } : Scr) (w.heap.size + 2) (.tmp 4) (.tmp 216) rfl rfl ?_ ?_ ?_ ?_);(focus rfl);(focus rfl);(focus (exact ⟨_,((HB1d.out.away hne10 _).away hne10 _).away hne10 _,HOsz.out⟩));intro w3 hS3 hg3;have HS3:=Lib.hid hS3;have HG3:=Lib.hid hg3;clear hS3 hg3)
  | fail)
 refine bodyPost_ret (results_sc2 rfl _ _ (w.heap.size + 2) ({ s with f:=(applA xs (s.f,s.g,s.b)).1,g:=(applA xs (s.f,s.g,s.b)).2.1,b:=(applA xs (s.f,s.g,s.b)).2.2 } : Scr) (by rfl) HS3.out) rfl ?_
 have hO:=((((HOx.out.up (Bw.trans hbw hbmd)).away HNe0.out _ _).away HNe0.out _ _).away HNe0.out _ _).far HG3.out (ne_some HNe1.out)
 have hX : ({ s with f:=(applA xs (s.f,s.g,s.b)).1,g:=(applA xs (s.f,s.g,s.b)).2.1,b:=(applA xs (s.f,s.g,s.b)).2.2 } : Scr).Okx w3 x.cs:=⟨hO.1,hO.2.1,applA_keeps xs (s.f,s.g,s.b) hO.2.2.1,hO.2.2.2⟩
 refine ⟨({ s with f:=(applA xs (s.f,s.g,s.b)).1,g:=(applA xs (s.f,s.g,s.b)).2.1,b:=(applA xs (s.f,s.g,s.b)).2.2 } : Scr),rfl,rfl,rfl,hX.ok,fun y hy => ?_,.inl rfl,Bw.grown (show Bw w _ from BWX) HG3.out (fun k hk => by cases hk;omega)⟩
 cases hy
 obtain ⟨m1,m2,m3,m4,m5,m6⟩:=HM.out
 rw [← m4]
 exact ⟨hX,m1,m2,m3,rfl,m5,m6⟩
theorem rsapply_xa (s : Scr) (pv : Int) (A : Option Addr) (n c : Nat) (xs : List Int) (w : World) (hs : s.Ok w) (hx : Rd (.int .i64) w A n xs) (hn : n ≤ c) (hc : c ≤ 9223372036854775807) (hn1 : n ≤ 1000) : Calls Tryz.prog 50 #[.agg s.vals.toArray,.agg #[.int .i64 3,.int .i64 99,.int .i64 pv,.slice A n c]] w (ScX w s (some (kn0 s.Rn s.Cn))):=by
 have HOk:=Lib.hid hs
 have HAl:=Lib.hid hs.1.lt
 have HX:=Lib.hid hx
 clear hs hx
 go_enter Tryz.func50,Tryz.ntmps50
 go_upto_region 1 with (fail)
 generalize hwa : ((w.alloc (.cells s.vals.toArray 46)).alloc _).alloc _ = wa
 obtain ⟨hb0,hb1,hb2,hbwa,hza⟩:=sb3 hwa
 have HB0a:=Lib.hid hb0
 have HBoa:=Lib.hid hb1
 have HB1a:=Lib.hid (show ∃ old,Sb wa (w.heap.size + 2) old 46 ∧ old.size = 19 from ⟨_,hb2,rfl⟩)
 have hza' : w.heap.size + 2 < wa.heap.size:=by omega
 clear hwa hb0 hb1 hb2 hza
 go_upto_region 3 with (first
  | ((with_reducible refine wpList_load_sc (s) (w.heap.size) (.tmp 2) rfl rfl ?_ ?_ ?_);(focus rfl);(focus (exact HB0a.out)))
  | (go_at_call 68;refine (rsvalid_ok s _ (HOk.out.up hbwa)).mono ?_;rintro ee w1 ⟨rfl,hba1⟩;have hba1':=Lib.hid hba1;clear hba1)
  | fail)
 have hba1:=hba1'.out
 have hbw : Bw w w1:=Bw.trans hbwa hba1
 have HB0:=Lib.hid (HB0a.out.up hba1)
 have HBo:=Lib.hid (HBoa.out.up hba1)
 obtain ⟨old1,hold1,hosz⟩:=HB1a.out
 have HB1:=Lib.hid (hold1.up hba1)
 have HOsz:=Lib.hid hosz
 have hz1 : w.heap.size + 2 < w1.heap.size:=by have:=hba1.size;omega
 have HOk1:=Lib.hid (HOk.out.up hbw)
 have HX1:=Lib.hid (HX.out.up hbw)
 have HNe0:=Lib.hid (show ∀ ad,s.A = some ad → ad.block ≠ w.heap.size from fun ad e => by have:=HAl.out ad e;omega)
 have HNe1:=Lib.hid (show ∀ ad,s.A = some ad → ad.block ≠ w.heap.size + 2 from fun ad e => by have:=HAl.out ad e;omega)
 have hne10 : w.heap.size + 2 ≠ w.heap.size:=by omega
 have y0:=HBo.out.cell 0 (v:=.int .i64 3) rfl
 have y1:=HBo.out.cell 1 (v:=.int .i64 99) rfl
 have y2:=HBo.out.cell 2 (v:=.int .i64 pv) rfl
 have y3:=HBo.out.cell 3 (v:=.slice A n c) rfl
 clear hold1 hosz HB0a HBoa HB1a hba1 hba1' hbwa hza' HX
 go_upto_region 8 with (fail)
 go_wp2_with (first
  | ((with_reducible refine wpList_load_sc (s) (w.heap.size) (.tmp 2) rfl rfl ?_ ?_ ?_);(focus rfl);(focus (exact HB0.out)))
  | (go_at_call 82;refine (rsescape_x s _ HOk1.out).mono ?_;rintro ee w2 ⟨s',e1,e2,rfl,hOk',hMt,hAn,hb2⟩;have HB12:=Lib.hid ((HB1.out).up hb2);have hbm2:=hb2;have hzm2:=hb2.size;have HOk':=Lib.hid hOk';have HMt:=Lib.hid hMt;have HAn:=Lib.hid hAn;have HE:=Lib.hid (And.intro e1 e2);clear hOk' hMt hAn hb2 e1 e2)
  | ((with_reducible refine wpList_store_sc (s') (w.heap.size + 2) (.tmp 4) (.tmp 43) rfl rfl ?_ ?_ ?_ ?_);(focus rfl);(focus rfl);(focus (exact ⟨_,HB12.out,HOsz.out⟩));intro w3 hS3 hg3;have HS3:=Lib.hid hS3;have HG3:=Lib.hid hg3;clear hS3 hg3)
  | fail)
 refine bodyPost_ret (results_sc2 rfl _ _ (w.heap.size + 2) (s') (by rfl) HS3.out) rfl ?_
 have hAnw : An w s.A s'.A:=HAn.out.more (by omega)
 have hne : ∀ ad,s'.A = some ad → ad.block ≠ w.heap.size + 2:=HAn.out.ne (fun ad e => by have:=HAl.out ad e;omega) (by omega)
 exact ⟨s',HE.out.1,HE.out.2,rfl,HOk'.out.far HG3.out (ne_some hne),HMt.out.far HG3.out (ne_some hne),hAnw,Bw.grown (Bw.trans hbw hbm2) HG3.out (fun k hk => by cases hk;omega)⟩
theorem rsapply_xp (s : Scr) (f pv : Int) (A : Option Addr) (n c : Nat) (xs : List Int) (w : World) (hs : s.Ok w) (hx : Rd (.int .i64) w A n xs) (hn : n ≤ c) (hc : c ≤ 9223372036854775807) (hn1 : n ≤ 1000) (x : Kn) (hM : Mt w s (some x)) (hr : runeB f = true) (hw : x.wrap = false) : Calls Tryz.prog 50 #[.agg s.vals.toArray,.agg #[.int .i64 1,.int .i64 f,.int .i64 pv,.slice A n c]] w (ScX w s (some (putK s.Rn s.Cn x f))):=by
 have HM0:=Lib.hid hM
 clear hM
 have HR:=Lib.hid hr
 clear hr
 have HW:=Lib.hid hw
 clear hw
 have HOk:=Lib.hid hs
 have HAl:=Lib.hid hs.1.lt
 have HX:=Lib.hid hx
 clear hs hx
 go_enter Tryz.func50,Tryz.ntmps50
 go_upto_region 1 with (fail)
 generalize hwa : ((w.alloc (.cells s.vals.toArray 46)).alloc _).alloc _ = wa
 obtain ⟨hb0,hb1,hb2,hbwa,hza⟩:=sb3 hwa
 have HB0a:=Lib.hid hb0
 have HBoa:=Lib.hid hb1
 have HB1a:=Lib.hid (show ∃ old,Sb wa (w.heap.size + 2) old 46 ∧ old.size = 19 from ⟨_,hb2,rfl⟩)
 have hza' : w.heap.size + 2 < wa.heap.size:=by omega
 clear hwa hb0 hb1 hb2 hza
 go_upto_region 3 with (first
  | ((with_reducible refine wpList_load_sc (s) (w.heap.size) (.tmp 2) rfl rfl ?_ ?_ ?_);(focus rfl);(focus (exact HB0a.out)))
  | (go_at_call 68;refine (rsvalid_ok s _ (HOk.out.up hbwa)).mono ?_;rintro ee w1 ⟨rfl,hba1⟩;have hba1':=Lib.hid hba1;clear hba1)
  | fail)
 have hba1:=hba1'.out
 have hbw : Bw w w1:=Bw.trans hbwa hba1
 have HB0:=Lib.hid (HB0a.out.up hba1)
 have HBo:=Lib.hid (HBoa.out.up hba1)
 obtain ⟨old1,hold1,hosz⟩:=HB1a.out
 have HB1:=Lib.hid (hold1.up hba1)
 have HOsz:=Lib.hid hosz
 have hz1 : w.heap.size + 2 < w1.heap.size:=by have:=hba1.size;omega
 have HOk1:=Lib.hid (HOk.out.up hbw)
 have HX1:=Lib.hid (HX.out.up hbw)
 have HNe0:=Lib.hid (show ∀ ad,s.A = some ad → ad.block ≠ w.heap.size from fun ad e => by have:=HAl.out ad e;omega)
 have HNe1:=Lib.hid (show ∀ ad,s.A = some ad → ad.block ≠ w.heap.size + 2 from fun ad e => by have:=HAl.out ad e;omega)
 have hne10 : w.heap.size + 2 ≠ w.heap.size:=by omega
 have y0:=HBo.out.cell 0 (v:=.int .i64 1) rfl
 have y1:=HBo.out.cell 1 (v:=.int .i64 f) rfl
 have y2:=HBo.out.cell 2 (v:=.int .i64 pv) rfl
 have y3:=HBo.out.cell 3 (v:=.slice A n c) rfl
 clear hold1 hosz HB0a HBoa HB1a hba1 hba1' hbwa hza' HX
 go_upto_region 4 with ((go_at_call 79;refine (rrune_any f _).mono ?_;rintro ee ww ⟨rfl,rfl⟩;rw [HR.out]))
 go_wp2_with (first
  | ((with_reducible refine wpList_load_sc (s) (w.heap.size) (.tmp 2) rfl rfl ?_ ?_ ?_);(focus rfl);(focus (exact HB0.out)))
  | (go_at_call 80;refine (rsput_x s x f _ (HM0.out.up hbw) HR.out HW.out).mono ?_;rintro ee w2 ⟨s',e1,e2,rfl,hOk',hMt,hAn,hb2⟩;have HB12:=Lib.hid ((HB1.out).up hb2);have hbm2:=hb2;have hzm2:=hb2.size;have HOk':=Lib.hid hOk';have HMt:=Lib.hid hMt;have HAn:=Lib.hid hAn;have HE:=Lib.hid (And.intro e1 e2);clear hOk' hMt hAn hb2 e1 e2)
  | ((with_reducible refine wpList_store_sc (s') (w.heap.size + 2) (.tmp 4) (.tmp 23) rfl rfl ?_ ?_ ?_ ?_);(focus rfl);(focus rfl);(focus (exact ⟨_,HB12.out,HOsz.out⟩));intro w3 hS3 hg3;have HS3:=Lib.hid hS3;have HG3:=Lib.hid hg3;clear hS3 hg3)
  | fail)
 refine bodyPost_ret (results_sc2 rfl _ _ (w.heap.size + 2) (s') (by rfl) HS3.out) rfl ?_
 have hAnw : An w s.A s'.A:=HAn.out.more (by omega)
 have hne : ∀ ad,s'.A = some ad → ad.block ≠ w.heap.size + 2:=HAn.out.ne (fun ad e => by have:=HAl.out ad e;omega) (by omega)
 exact ⟨s',HE.out.1,HE.out.2,rfl,HOk'.out.far HG3.out (ne_some hne),HMt.out.far HG3.out (ne_some hne),hAnw,Bw.grown (Bw.trans hbw hbm2) HG3.out (fun k hk => by cases hk;omega)⟩
theorem rsapply_xh (s : Scr) (A : Option Addr) (n c : Nat) (xs : List Int) (w : World) (hs : s.Ok w) (hx : Rd (.int .i64) w A n xs) (hn : n ≤ c) (hc : c ≤ 9223372036854775807) (hn1 : n ≤ 1000) (x : Kn) (hM : Mt w s (some x)) (hr : propN n xs = true) : Calls Tryz.prog 50 #[.agg s.vals.toArray,.agg #[.int .i64 4,.int .i64 72,.int .i64 0,.slice A n c]] w (ScX w s (some (goK s.Rn s.Cn x (orN xs 0 1 - 1) (orN xs 1 1 - 1)))):=by
 have HM0:=Lib.hid hM
 clear hM
 have HR:=Lib.hid hr
 clear hr
 have HOk:=Lib.hid hs
 have HAl:=Lib.hid hs.1.lt
 have HX:=Lib.hid hx
 clear hs hx
 go_enter Tryz.func50,Tryz.ntmps50
 go_upto_region 1 with (fail)
 generalize hwa : ((w.alloc (.cells s.vals.toArray 46)).alloc _).alloc _ = wa
 obtain ⟨hb0,hb1,hb2,hbwa,hza⟩:=sb3 hwa
 have HB0a:=Lib.hid hb0
 have HBoa:=Lib.hid hb1
 have HB1a:=Lib.hid (show ∃ old,Sb wa (w.heap.size + 2) old 46 ∧ old.size = 19 from ⟨_,hb2,rfl⟩)
 have hza' : w.heap.size + 2 < wa.heap.size:=by omega
 clear hwa hb0 hb1 hb2 hza
 go_upto_region 3 with (first
  | ((with_reducible refine wpList_load_sc (s) (w.heap.size) (.tmp 2) rfl rfl ?_ ?_ ?_);(focus rfl);(focus (exact HB0a.out)))
  | (go_at_call 68;refine (rsvalid_ok s _ (HOk.out.up hbwa)).mono ?_;rintro ee w1 ⟨rfl,hba1⟩;have hba1':=Lib.hid hba1;clear hba1)
  | fail)
 have hba1:=hba1'.out
 have hbw : Bw w w1:=Bw.trans hbwa hba1
 have HB0:=Lib.hid (HB0a.out.up hba1)
 have HBo:=Lib.hid (HBoa.out.up hba1)
 obtain ⟨old1,hold1,hosz⟩:=HB1a.out
 have HB1:=Lib.hid (hold1.up hba1)
 have HOsz:=Lib.hid hosz
 have hz1 : w.heap.size + 2 < w1.heap.size:=by have:=hba1.size;omega
 have HOk1:=Lib.hid (HOk.out.up hbw)
 have HX1:=Lib.hid (HX.out.up hbw)
 have HNe0:=Lib.hid (show ∀ ad,s.A = some ad → ad.block ≠ w.heap.size from fun ad e => by have:=HAl.out ad e;omega)
 have HNe1:=Lib.hid (show ∀ ad,s.A = some ad → ad.block ≠ w.heap.size + 2 from fun ad e => by have:=HAl.out ad e;omega)
 have hne10 : w.heap.size + 2 ≠ w.heap.size:=by omega
 have y0:=HBo.out.cell 0 (v:=.int .i64 4) rfl
 have y1:=HBo.out.cell 1 (v:=.int .i64 72) rfl
 have y2:=HBo.out.cell 2 (v:=.int .i64 0) rfl
 have y3:=HBo.out.cell 3 (v:=.slice A n c) rfl
 clear hold1 hosz HB0a HBoa HB1a hba1 hba1' hbwa hza' HX
 go_upto_region 12 with ((go_at_call 83;refine (rsproper_b A n c xs _ (by exact HX1.out.up BWX) hn hc).mono ?_;rintro ee wp ⟨rfl,hbp⟩;rw [HR.out];have z0:=(HBo.out.up hbp).cell 0 (v:=.int .i64 4) rfl;have z1:=(HBo.out.up hbp).cell 1 (v:=.int .i64 72) rfl;have z2:=(HBo.out.up hbp).cell 2 (v:=.int .i64 0) rfl;have z3:=(HBo.out.up hbp).cell 3 (v:=.slice A n c) rfl;have hbp':=Lib.hid hbp;clear hbp y0 y1 y2 y3))
 have hbp:=hbp'.out
 have HB0q:=Lib.hid (HB0.out.up hbp)
 have HBoq:=Lib.hid (HBo.out.up hbp)
 have HB1q:=Lib.hid (HB1.out.up hbp)
 have hbwq : Bw w wp:=Bw.trans hbw hbp
 have hzq : w.heap.size + 2 < wp.heap.size:=by have:=hbp.size;omega
 have HOkq:=Lib.hid (HOk1.out.up hbp)
 have HXq:=Lib.hid (HX1.out.up hbp)
 clear z0 z1 z2 z3 HB0 HBo HB1 hz1 HOk1 HX1 hbp hbw hbp'
 have HB0:=HB0q
 have HBo:=HBoq
 have HB1:=HB1q
 have hbw:=hbwq
 have hz1:=hzq
 have HOk1:=HOkq
 have HX1:=HXq
 have y0:=HBo.out.cell 0 (v:=.int .i64 4) rfl
 have y1:=HBo.out.cell 1 (v:=.int .i64 72) rfl
 have y2:=HBo.out.cell 2 (v:=.int .i64 0) rfl
 have y3:=HBo.out.cell 3 (v:=.slice A n c) rfl
 clear HB0q HBoq HB1q hbwq hzq HOkq HXq
 go_wp2_with (first
  | ((with_reducible refine wpList_load_sc (s) (w.heap.size) (.tmp 2) rfl rfl ?_ ?_ ?_);(focus rfl);(focus (exact HB0.out)))
  | (go_at_call 84;refine (rscsi_x72 s x 4 0 A n c xs _ (HM0.out.up hbw) HX1.out hn hc (propN_iff HR.out).1 hn1 (propN_iff HR.out).2).mono ?_;rintro ee w2 ⟨s',e1,e2,rfl,hOk',hMt,hAn,hb2⟩;have HB12:=Lib.hid ((HB1.out).up hb2);have hbm2:=hb2;have hzm2:=hb2.size;have HOk':=Lib.hid hOk';have HMt:=Lib.hid hMt;have HAn:=Lib.hid hAn;have HE:=Lib.hid (And.intro e1 e2);clear hOk' hMt hAn hb2 e1 e2)
  | ((with_reducible refine wpList_store_sc (s') (w.heap.size + 2) (.tmp 4) (.tmp 68) rfl rfl ?_ ?_ ?_ ?_);(focus rfl);(focus rfl);(focus (exact ⟨_,HB12.out,HOsz.out⟩));intro w3 hS3 hg3;have HS3:=Lib.hid hS3;have HG3:=Lib.hid hg3;clear hS3 hg3)
  | fail)
 refine bodyPost_ret (results_sc2 rfl _ _ (w.heap.size + 2) (s') (by rfl) HS3.out) rfl ?_
 have hAnw : An w s.A s'.A:=HAn.out.more (by omega)
 have hne : ∀ ad,s'.A = some ad → ad.block ≠ w.heap.size + 2:=HAn.out.ne (fun ad e => by have:=HAl.out ad e;omega) (by omega)
 exact ⟨s',HE.out.1,HE.out.2,rfl,HOk'.out.far HG3.out (ne_some hne),HMt.out.far HG3.out (ne_some hne),hAnw,Bw.grown (Bw.trans hbw hbm2) HG3.out (fun k hk => by cases hk;omega)⟩
theorem rsapply_xm (s : Scr) (A : Option Addr) (n c : Nat) (xs : List Int) (w : World) (hs : s.Ok w) (hx : Rd (.int .i64) w A n xs) (hn : n ≤ c) (hc : c ≤ 9223372036854775807) (hn1 : n ≤ 1000) (x : Kn) (hM : Mt w s (some x)) (hr : propN n xs = true) : Calls Tryz.prog 50 #[.agg s.vals.toArray,.agg #[.int .i64 4,.int .i64 109,.int .i64 0,.slice A n c]] w (ScX w s (some ({ x with a:=applA xs x.a }))):=by
 have HM0:=Lib.hid hM
 clear hM
 have HR:=Lib.hid hr
 clear hr
 have HOk:=Lib.hid hs
 have HAl:=Lib.hid hs.1.lt
 have HX:=Lib.hid hx
 clear hs hx
 go_enter Tryz.func50,Tryz.ntmps50
 go_upto_region 1 with (fail)
 generalize hwa : ((w.alloc (.cells s.vals.toArray 46)).alloc _).alloc _ = wa
 obtain ⟨hb0,hb1,hb2,hbwa,hza⟩:=sb3 hwa
 have HB0a:=Lib.hid hb0
 have HBoa:=Lib.hid hb1
 have HB1a:=Lib.hid (show ∃ old,Sb wa (w.heap.size + 2) old 46 ∧ old.size = 19 from ⟨_,hb2,rfl⟩)
 have hza' : w.heap.size + 2 < wa.heap.size:=by omega
 clear hwa hb0 hb1 hb2 hza
 go_upto_region 3 with (first
  | ((with_reducible refine wpList_load_sc (s) (w.heap.size) (.tmp 2) rfl rfl ?_ ?_ ?_);(focus rfl);(focus (exact HB0a.out)))
  | (go_at_call 68;refine (rsvalid_ok s _ (HOk.out.up hbwa)).mono ?_;rintro ee w1 ⟨rfl,hba1⟩;have hba1':=Lib.hid hba1;clear hba1)
  | fail)
 have hba1:=hba1'.out
 have hbw : Bw w w1:=Bw.trans hbwa hba1
 have HB0:=Lib.hid (HB0a.out.up hba1)
 have HBo:=Lib.hid (HBoa.out.up hba1)
 obtain ⟨old1,hold1,hosz⟩:=HB1a.out
 have HB1:=Lib.hid (hold1.up hba1)
 have HOsz:=Lib.hid hosz
 have hz1 : w.heap.size + 2 < w1.heap.size:=by have:=hba1.size;omega
 have HOk1:=Lib.hid (HOk.out.up hbw)
 have HX1:=Lib.hid (HX.out.up hbw)
 have HNe0:=Lib.hid (show ∀ ad,s.A = some ad → ad.block ≠ w.heap.size from fun ad e => by have:=HAl.out ad e;omega)
 have HNe1:=Lib.hid (show ∀ ad,s.A = some ad → ad.block ≠ w.heap.size + 2 from fun ad e => by have:=HAl.out ad e;omega)
 have hne10 : w.heap.size + 2 ≠ w.heap.size:=by omega
 have y0:=HBo.out.cell 0 (v:=.int .i64 4) rfl
 have y1:=HBo.out.cell 1 (v:=.int .i64 109) rfl
 have y2:=HBo.out.cell 2 (v:=.int .i64 0) rfl
 have y3:=HBo.out.cell 3 (v:=.slice A n c) rfl
 clear hold1 hosz HB0a HBoa HB1a hba1 hba1' hbwa hza' HX
 go_upto_region 12 with ((go_at_call 83;refine (rsproper_b A n c xs _ (by exact HX1.out.up BWX) hn hc).mono ?_;rintro ee wp ⟨rfl,hbp⟩;rw [HR.out];have z0:=(HBo.out.up hbp).cell 0 (v:=.int .i64 4) rfl;have z1:=(HBo.out.up hbp).cell 1 (v:=.int .i64 109) rfl;have z2:=(HBo.out.up hbp).cell 2 (v:=.int .i64 0) rfl;have z3:=(HBo.out.up hbp).cell 3 (v:=.slice A n c) rfl;have hbp':=Lib.hid hbp;clear hbp y0 y1 y2 y3))
 have hbp:=hbp'.out
 have HB0q:=Lib.hid (HB0.out.up hbp)
 have HBoq:=Lib.hid (HBo.out.up hbp)
 have HB1q:=Lib.hid (HB1.out.up hbp)
 have hbwq : Bw w wp:=Bw.trans hbw hbp
 have hzq : w.heap.size + 2 < wp.heap.size:=by have:=hbp.size;omega
 have HOkq:=Lib.hid (HOk1.out.up hbp)
 have HXq:=Lib.hid (HX1.out.up hbp)
 clear z0 z1 z2 z3 HB0 HBo HB1 hz1 HOk1 HX1 hbp hbw hbp'
 have HB0:=HB0q
 have HBo:=HBoq
 have HB1:=HB1q
 have hbw:=hbwq
 have hz1:=hzq
 have HOk1:=HOkq
 have HX1:=HXq
 have y0:=HBo.out.cell 0 (v:=.int .i64 4) rfl
 have y1:=HBo.out.cell 1 (v:=.int .i64 109) rfl
 have y2:=HBo.out.cell 2 (v:=.int .i64 0) rfl
 have y3:=HBo.out.cell 3 (v:=.slice A n c) rfl
 clear HB0q HBoq HB1q hbwq hzq HOkq HXq
 go_wp2_with (first
  | ((with_reducible refine wpList_load_sc (s) (w.heap.size) (.tmp 2) rfl rfl ?_ ?_ ?_);(focus rfl);(focus (exact HB0.out)))
  | (go_at_call 84;refine (rscsi_x109 s x 4 0 A n c xs _ (HM0.out.up hbw) HX1.out hn hc (propN_iff HR.out).1 hn1 (propN_iff HR.out).2).mono ?_;rintro ee w2 ⟨s',e1,e2,rfl,hOk',hMt,hAn,hb2⟩;have HB12:=Lib.hid ((HB1.out).up hb2);have hbm2:=hb2;have hzm2:=hb2.size;have HOk':=Lib.hid hOk';have HMt:=Lib.hid hMt;have HAn:=Lib.hid hAn;have HE:=Lib.hid (And.intro e1 e2);clear hOk' hMt hAn hb2 e1 e2)
  | ((with_reducible refine wpList_store_sc (s') (w.heap.size + 2) (.tmp 4) (.tmp 68) rfl rfl ?_ ?_ ?_ ?_);(focus rfl);(focus rfl);(focus (exact ⟨_,HB12.out,HOsz.out⟩));intro w3 hS3 hg3;have HS3:=Lib.hid hS3;have HG3:=Lib.hid hg3;clear hS3 hg3)
  | fail)
 refine bodyPost_ret (results_sc2 rfl _ _ (w.heap.size + 2) (s') (by rfl) HS3.out) rfl ?_
 have hAnw : An w s.A s'.A:=HAn.out.more (by omega)
 have hne : ∀ ad,s'.A = some ad → ad.block ≠ w.heap.size + 2:=HAn.out.ne (fun ad e => by have:=HAl.out ad e;omega) (by omega)
 exact ⟨s',HE.out.1,HE.out.2,rfl,HOk'.out.far HG3.out (ne_some hne),HMt.out.far HG3.out (ne_some hne),hAnw,Bw.grown (Bw.trans hbw hbm2) HG3.out (fun k hk => by cases hk;omega)⟩
theorem rsapply_xs (s : Scr) (A : Option Addr) (c : Nat) (w : World) (hs : s.Ok w) (hx : Rd (.int .i64) w A 1 [25]) (hn : 1 ≤ c) (hc : c ≤ 9223372036854775807)  (x : Kn) (hM : Mt w s (some x)) : Calls Tryz.prog 50 #[.agg s.vals.toArray,.agg #[.int .i64 4,.int .i64 104,.int .i64 63,.slice A 1 c]] w (ScX w s (some ({ x with hid:=false }))):=by
 have HM0:=Lib.hid hM
 clear hM
 have HOk:=Lib.hid hs
 have HAl:=Lib.hid hs.1.lt
 have HX:=Lib.hid hx
 clear hs hx
 go_enter Tryz.func50,Tryz.ntmps50
 go_upto_region 1 with (fail)
 generalize hwa : ((w.alloc (.cells s.vals.toArray 46)).alloc _).alloc _ = wa
 obtain ⟨hb0,hb1,hb2,hbwa,hza⟩:=sb3 hwa
 have HB0a:=Lib.hid hb0
 have HBoa:=Lib.hid hb1
 have HB1a:=Lib.hid (show ∃ old,Sb wa (w.heap.size + 2) old 46 ∧ old.size = 19 from ⟨_,hb2,rfl⟩)
 have hza' : w.heap.size + 2 < wa.heap.size:=by omega
 clear hwa hb0 hb1 hb2 hza
 go_upto_region 3 with (first
  | ((with_reducible refine wpList_load_sc (s) (w.heap.size) (.tmp 2) rfl rfl ?_ ?_ ?_);(focus rfl);(focus (exact HB0a.out)))
  | (go_at_call 68;refine (rsvalid_ok s _ (HOk.out.up hbwa)).mono ?_;rintro ee w1 ⟨rfl,hba1⟩;have hba1':=Lib.hid hba1;clear hba1)
  | fail)
 have hba1:=hba1'.out
 have hbw : Bw w w1:=Bw.trans hbwa hba1
 have HB0:=Lib.hid (HB0a.out.up hba1)
 have HBo:=Lib.hid (HBoa.out.up hba1)
 obtain ⟨old1,hold1,hosz⟩:=HB1a.out
 have HB1:=Lib.hid (hold1.up hba1)
 have HOsz:=Lib.hid hosz
 have hz1 : w.heap.size + 2 < w1.heap.size:=by have:=hba1.size;omega
 have HOk1:=Lib.hid (HOk.out.up hbw)
 have HX1:=Lib.hid (HX.out.up hbw)
 have HNe0:=Lib.hid (show ∀ ad,s.A = some ad → ad.block ≠ w.heap.size from fun ad e => by have:=HAl.out ad e;omega)
 have HNe1:=Lib.hid (show ∀ ad,s.A = some ad → ad.block ≠ w.heap.size + 2 from fun ad e => by have:=HAl.out ad e;omega)
 have hne10 : w.heap.size + 2 ≠ w.heap.size:=by omega
 have y0:=HBo.out.cell 0 (v:=.int .i64 4) rfl
 have y1:=HBo.out.cell 1 (v:=.int .i64 104) rfl
 have y2:=HBo.out.cell 2 (v:=.int .i64 63) rfl
 have y3:=HBo.out.cell 3 (v:=.slice A 1 c) rfl
 clear hold1 hosz HB0a HBoa HB1a hba1 hba1' hbwa hza' HX
 have HR:=Lib.hid (show propN 1 [25] = true by decide)
 go_upto_region 14 with ((go_at_call 83;refine (rsproper_b A 1 c [25] _ (by exact HX1.out.up BWX) hn hc).mono ?_;rintro ee wp ⟨rfl,hbp⟩;rw [HR.out];have z0:=(HBo.out.up hbp).cell 0 (v:=.int .i64 4) rfl;have z1:=(HBo.out.up hbp).cell 1 (v:=.int .i64 104) rfl;have z2:=(HBo.out.up hbp).cell 2 (v:=.int .i64 63) rfl;have z3:=(HBo.out.up hbp).cell 3 (v:=.slice A 1 c) rfl;have hbp':=Lib.hid hbp;clear hbp y0 y1 y2 y3))
 have hbp:=hbp'.out
 have HB0q:=Lib.hid (HB0.out.up hbp)
 have HBoq:=Lib.hid (HBo.out.up hbp)
 have HB1q:=Lib.hid (HB1.out.up hbp)
 have hbwq : Bw w wp:=Bw.trans hbw hbp
 have hzq : w.heap.size + 2 < wp.heap.size:=by have:=hbp.size;omega
 have HOkq:=Lib.hid (HOk1.out.up hbp)
 have HXq:=Lib.hid (HX1.out.up hbp)
 clear z0 z1 z2 z3 HB0 HBo HB1 hz1 HOk1 HX1 hbp hbw hbp'
 have HB0:=HB0q
 have HBo:=HBoq
 have HB1:=HB1q
 have hbw:=hbwq
 have hz1:=hzq
 have HOk1:=HOkq
 have HX1:=HXq
 have y0:=HBo.out.cell 0 (v:=.int .i64 4) rfl
 have y1:=HBo.out.cell 1 (v:=.int .i64 104) rfl
 have y2:=HBo.out.cell 2 (v:=.int .i64 63) rfl
 have y3:=HBo.out.cell 3 (v:=.slice A 1 c) rfl
 clear HB0q HBoq HB1q hbwq hzq HOkq HXq
 go_wp2_with (first
  | ((with_reducible refine wpList_load_sc (s) (w.heap.size) (.tmp 2) rfl rfl ?_ ?_ ?_);(focus rfl);(focus (exact HB0.out)))
  | (go_at_call 85;refine (rsmodes_x s A c true _ HOk1.out HX1.out hn hc).mono ?_;rintro ee w2 ⟨rfl,hOk',hb2,hOx⟩;have HB12:=Lib.hid ((HB1.out).up hb2);have hbm2:=hb2;have hzm2:=hb2.size;have HOk':=Lib.hid hOk';have HOX:=Lib.hid hOx;clear hOk' hb2 hOx)
  | ((with_reducible refine wpList_store_sc (s.md (!true) s.now) (w.heap.size + 2) (.tmp 4) (.tmp 95) rfl rfl ?_ ?_ ?_ ?_);(focus rfl);(focus rfl);(focus (exact ⟨_,HB12.out,HOsz.out⟩));intro w3 hS3 hg3;have HS3:=Lib.hid hS3;have HG3:=Lib.hid hg3;clear hS3 hg3)
  | fail)
 refine bodyPost_ret (results_sc2 rfl _ _ (w.heap.size + 2) (s.md (!true) s.now) (by rfl) HS3.out) rfl ?_
 have hbx:=Bw.trans hbw hbm2
 refine ⟨s.md (!true) s.now,rfl,rfl,rfl,(HOk'.out.md _ _).far HG3.out (ne_some HNe1.out),fun y hy => ?_,.inl rfl,Bw.grown hbx HG3.out (fun k hk => by cases hk;omega)⟩
 cases hy
 obtain ⟨hO,m1,m2,m3,m4,m5,m6⟩:=HM0.out x rfl
 have hX:=(hO.up hbx).far HG3.out (ne_some HNe1.out)
 exact ⟨⟨hX.1,hX.2⟩,m1,m2,m3,m4,rfl,m6⟩
theorem rsapply_xl (s : Scr) (A : Option Addr) (c : Nat) (w : World) (hs : s.Ok w) (hx : Rd (.int .i64) w A 1 [25]) (hn : 1 ≤ c) (hc : c ≤ 9223372036854775807)  (x : Kn) (hM : Mt w s (some x)) : Calls Tryz.prog 50 #[.agg s.vals.toArray,.agg #[.int .i64 4,.int .i64 108,.int .i64 63,.slice A 1 c]] w (ScX w s (some ({ x with hid:=true }))):=by
 have HM0:=Lib.hid hM
 clear hM
 have HOk:=Lib.hid hs
 have HAl:=Lib.hid hs.1.lt
 have HX:=Lib.hid hx
 clear hs hx
 go_enter Tryz.func50,Tryz.ntmps50
 go_upto_region 1 with (fail)
 generalize hwa : ((w.alloc (.cells s.vals.toArray 46)).alloc _).alloc _ = wa
 obtain ⟨hb0,hb1,hb2,hbwa,hza⟩:=sb3 hwa
 have HB0a:=Lib.hid hb0
 have HBoa:=Lib.hid hb1
 have HB1a:=Lib.hid (show ∃ old,Sb wa (w.heap.size + 2) old 46 ∧ old.size = 19 from ⟨_,hb2,rfl⟩)
 have hza' : w.heap.size + 2 < wa.heap.size:=by omega
 clear hwa hb0 hb1 hb2 hza
 go_upto_region 3 with (first
  | ((with_reducible refine wpList_load_sc (s) (w.heap.size) (.tmp 2) rfl rfl ?_ ?_ ?_);(focus rfl);(focus (exact HB0a.out)))
  | (go_at_call 68;refine (rsvalid_ok s _ (HOk.out.up hbwa)).mono ?_;rintro ee w1 ⟨rfl,hba1⟩;have hba1':=Lib.hid hba1;clear hba1)
  | fail)
 have hba1:=hba1'.out
 have hbw : Bw w w1:=Bw.trans hbwa hba1
 have HB0:=Lib.hid (HB0a.out.up hba1)
 have HBo:=Lib.hid (HBoa.out.up hba1)
 obtain ⟨old1,hold1,hosz⟩:=HB1a.out
 have HB1:=Lib.hid (hold1.up hba1)
 have HOsz:=Lib.hid hosz
 have hz1 : w.heap.size + 2 < w1.heap.size:=by have:=hba1.size;omega
 have HOk1:=Lib.hid (HOk.out.up hbw)
 have HX1:=Lib.hid (HX.out.up hbw)
 have HNe0:=Lib.hid (show ∀ ad,s.A = some ad → ad.block ≠ w.heap.size from fun ad e => by have:=HAl.out ad e;omega)
 have HNe1:=Lib.hid (show ∀ ad,s.A = some ad → ad.block ≠ w.heap.size + 2 from fun ad e => by have:=HAl.out ad e;omega)
 have hne10 : w.heap.size + 2 ≠ w.heap.size:=by omega
 have y0:=HBo.out.cell 0 (v:=.int .i64 4) rfl
 have y1:=HBo.out.cell 1 (v:=.int .i64 108) rfl
 have y2:=HBo.out.cell 2 (v:=.int .i64 63) rfl
 have y3:=HBo.out.cell 3 (v:=.slice A 1 c) rfl
 clear hold1 hosz HB0a HBoa HB1a hba1 hba1' hbwa hza' HX
 have HR:=Lib.hid (show propN 1 [25] = true by decide)
 go_upto_region 14 with ((go_at_call 83;refine (rsproper_b A 1 c [25] _ (by exact HX1.out.up BWX) hn hc).mono ?_;rintro ee wp ⟨rfl,hbp⟩;rw [HR.out];have z0:=(HBo.out.up hbp).cell 0 (v:=.int .i64 4) rfl;have z1:=(HBo.out.up hbp).cell 1 (v:=.int .i64 108) rfl;have z2:=(HBo.out.up hbp).cell 2 (v:=.int .i64 63) rfl;have z3:=(HBo.out.up hbp).cell 3 (v:=.slice A 1 c) rfl;have hbp':=Lib.hid hbp;clear hbp y0 y1 y2 y3))
 have hbp:=hbp'.out
 have HB0q:=Lib.hid (HB0.out.up hbp)
 have HBoq:=Lib.hid (HBo.out.up hbp)
 have HB1q:=Lib.hid (HB1.out.up hbp)
 have hbwq : Bw w wp:=Bw.trans hbw hbp
 have hzq : w.heap.size + 2 < wp.heap.size:=by have:=hbp.size;omega
 have HOkq:=Lib.hid (HOk1.out.up hbp)
 have HXq:=Lib.hid (HX1.out.up hbp)
 clear z0 z1 z2 z3 HB0 HBo HB1 hz1 HOk1 HX1 hbp hbw hbp'
 have HB0:=HB0q
 have HBo:=HBoq
 have HB1:=HB1q
 have hbw:=hbwq
 have hz1:=hzq
 have HOk1:=HOkq
 have HX1:=HXq
 have y0:=HBo.out.cell 0 (v:=.int .i64 4) rfl
 have y1:=HBo.out.cell 1 (v:=.int .i64 108) rfl
 have y2:=HBo.out.cell 2 (v:=.int .i64 63) rfl
 have y3:=HBo.out.cell 3 (v:=.slice A 1 c) rfl
 clear HB0q HBoq HB1q hbwq hzq HOkq HXq
 go_wp2_with (first
  | ((with_reducible refine wpList_load_sc (s) (w.heap.size) (.tmp 2) rfl rfl ?_ ?_ ?_);(focus rfl);(focus (exact HB0.out)))
  | (go_at_call 85;refine (rsmodes_x s A c false _ HOk1.out HX1.out hn hc).mono ?_;rintro ee w2 ⟨rfl,hOk',hb2,hOx⟩;have HB12:=Lib.hid ((HB1.out).up hb2);have hbm2:=hb2;have hzm2:=hb2.size;have HOk':=Lib.hid hOk';have HOX:=Lib.hid hOx;clear hOk' hb2 hOx)
  | ((with_reducible refine wpList_store_sc (s.md (!false) s.now) (w.heap.size + 2) (.tmp 4) (.tmp 95) rfl rfl ?_ ?_ ?_ ?_);(focus rfl);(focus rfl);(focus (exact ⟨_,HB12.out,HOsz.out⟩));intro w3 hS3 hg3;have HS3:=Lib.hid hS3;have HG3:=Lib.hid hg3;clear hS3 hg3)
  | fail)
 refine bodyPost_ret (results_sc2 rfl _ _ (w.heap.size + 2) (s.md (!false) s.now) (by rfl) HS3.out) rfl ?_
 have hbx:=Bw.trans hbw hbm2
 refine ⟨s.md (!false) s.now,rfl,rfl,rfl,(HOk'.out.md _ _).far HG3.out (ne_some HNe1.out),fun y hy => ?_,.inl rfl,Bw.grown hbx HG3.out (fun k hk => by cases hk;omega)⟩
 cases hy
 obtain ⟨hO,m1,m2,m3,m4,m5,m6⟩:=HM0.out x rfl
 have hX:=(hO.up hbx).far HG3.out (ne_some HNe1.out)
 exact ⟨⟨hX.1,hX.2⟩,m1,m2,m3,m4,rfl,m6⟩
/-- Apply, with what is known of the screen. -/
theorem rsapply_x (s : Scr) (K : Option Kn) (kd f pv : Int) (A : Option Addr) (n c : Nat) (xs : List Int) (w : World) (hs : s.Ok w) (hM : Mt w s K) (hx : Rd (.int .i64) w A n xs) (hn : n ≤ c) (hc : c ≤ 9223372036854775807) (hn1 : n ≤ 1000) : Calls Tryz.prog 50 #[.agg s.vals.toArray,.agg #[.int .i64 kd,.int .i64 f,.int .i64 pv,.slice A n c]] w (ScLX w s (stepX s.Rn s.Cn K (kd,f,pv,xs))):=by
 have hl : xs.length = n:=hx.1
 unfold stepX
 dsimp only
 by_cases h1 : kd = 3 ∧ f = 99
 ·obtain ⟨rfl,rfl⟩:=h1
  rw [if_pos ⟨rfl,rfl⟩]
  exact (rsapply_xa s pv A n c xs w hs hx hn hc hn1).mono fun _ _ h => h.lx
 rw [if_neg h1]
 cases K with
 | none => exact (rsapply_ok s kd f pv A n c xs w hs hx hn hc hn1).mono fun _ _ h => h.lx
 | some x =>
  dsimp only
  by_cases h2 : kd = 1 ∧ runeB f = true ∧ x.wrap = false
  ·rw [if_pos h2]
   obtain ⟨rfl,h3,h4⟩:=h2
   exact (rsapply_xp s f pv A n c xs w hs hx hn hc hn1 x hM h3 h4).mono fun _ _ h => h.lx
  rw [if_neg h2]
  by_cases h2 : kd = 4 ∧ f = 72 ∧ pv = 0 ∧ propN xs.length xs = true
  ·rw [if_pos h2]
   obtain ⟨rfl,rfl,rfl,h3⟩:=h2
   rw [hl] at h3
   exact (rsapply_xh s A n c xs w hs hx hn hc hn1 x hM h3).mono fun _ _ h => h.lx
  rw [if_neg h2]
  by_cases h2 : kd = 4 ∧ f = 109 ∧ pv = 0 ∧ propN xs.length xs = true
  ·rw [if_pos h2]
   obtain ⟨rfl,rfl,rfl,h3⟩:=h2
   rw [hl] at h3
   exact (rsapply_xm s A n c xs w hs hx hn hc hn1 x hM h3).mono fun _ _ h => h.lx
  rw [if_neg h2]
  by_cases h2 : kd = 4 ∧ f = 104 ∧ pv = 63 ∧ xs = [25]
  ·rw [if_pos h2]
   obtain ⟨rfl,rfl,rfl,rfl⟩:=h2
   obtain rfl : 1 = n:=hl
   exact (rsapply_xs s A c w hs hx hn hc x hM).mono fun _ _ h => h.lx
  rw [if_neg h2]
  by_cases h2 : kd = 4 ∧ f = 108 ∧ pv = 63 ∧ xs = [25]
  ·rw [if_pos h2]
   obtain ⟨rfl,rfl,rfl,rfl⟩:=h2
   obtain rfl : 1 = n:=hl
   exact (rsapply_xl s A c w hs hx hn hc x hM).mono fun _ _ h => h.lx
  rw [if_neg h2]
  exact (rsapply_ok s kd f pv A n c xs w hs hx hn hc hn1).mono fun _ _ h => h.lx
end Go.Proofs.YteebdjmjeahccaaGreatDoor
