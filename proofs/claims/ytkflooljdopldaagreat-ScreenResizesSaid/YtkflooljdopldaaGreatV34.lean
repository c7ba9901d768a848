/- Parts of the proof, one after the other. -/
import Derived.Test.YtkflooljdopldaaGreatV33
import Derived.Deep.RegionHeld3
import Derived.Test.YtkflooljdopldaaGreatV29
import Derived.Test.YtkflooljdopldaaGreatV01
import Derived.Test.YtkflooljdopldaaGreatV30
import Derived.Test.YtkflooljdopldaaGreatV25
import Derived.Test.YtkflooljdopldaaGreatV03
import Derived.Great.BuildSlice
set_option linter.unusedSimpArgs false
set_option linter.unusedVariables false
/- Screens: Resize of any screen; lists of rows alike. -/
namespace Go.Proofs.YtkflooljdopldaaGreat
open Go.RowKit

def zS (s : Scr) (cs : List C4) (R C : Nat) : Scr:=if scV s cs = true then rzS s R C else s
def zG (s : Scr) (cs : List C4) (R C : Nat) : List C4:=if scV s cs = true then rzG s cs R C else cs
def zN (s : Scr) (cs : List C4) (R : Nat) : Nat:=if scV s cs = true then rzN s R else 0
/-- The call returns the screen in the size R x C (the same one, if it is not valid), and the rows that went away. -/
def RzU (w : World) (s : Scr) (cs : List C4) (R C : Nat) (e : Ending) (w' : World) : Prop :=
 ∃ A n c L k,e = .returned (.tuple #[.agg ((zS s cs R C).gr A n c).vals.toArray,.slice L (zN s cs R) k]) ∧ Rg w' A n (zG s cs R C) ∧ n ≤ c ∧ c ≤ 9223372036854775807 ∧ LsF w' 0 L (zN s cs R) k (rwF s cs) ∧ Bw w w'
theorem RzU.yes {w : World} {s : Scr} {cs : List C4} {R C : Nat} {e : Ending} {w' : World} (hv : scV s cs = true) (h : RzP w s cs R C e w') : RzU w s cs R C e w':=by
 unfold RzU zS zG zN
 rw [if_pos hv,if_pos hv,if_pos hv]
 exact h
theorem RzU.no {w : World} {s : Scr} {cs : List C4} {R C : Nat} {e : Ending} {w' : World} (hv : scV s cs = false) (h : RzI w s cs e w') : RzU w s cs R C e w':=by
 have hn : ¬ scV s cs = true:=by rw [hv];decide
 unfold RzU zS zG zN
 rw [if_neg hn,if_neg hn,if_neg hn]
 obtain ⟨A,n,c,h1,h2,h3,h4,h5⟩:=h
 exact ⟨A,n,c,none,0,h1,h2,h3,h4,LsF.nil_ _ _ _,h5⟩
theorem sresize_all (s : Scr) (cs : List C4) (rows cols : Int) (R C : Nat) (w : World) (hR : clamp rows 30 = R) (hC : clamp cols 100 = C) (hr : Rg w s.A s.n cs) (hn : s.n ≤ s.c) (hn3 : s.n ≤ 3000) (hc : s.c ≤ 9223372036854775807) :
  Calls Tryz.prog 14 #[.agg s.vals.toArray,.int .i64 rows,.int .i64 cols] w (RzU w s cs R C):=by
 cases hv : scV s cs
 ·exact (sresize_no s cs rows cols w hr hn hn3 hc hv).mono fun _ _ h => RzU.no hv h
 ·obtain ⟨h1,h2⟩:=scV_ok hv hr hn hc
  exact (sresize_any s cs rows cols R C w hR hC h1 hr h2).mono fun _ _ h => RzU.yes hv h
theorem rresizeS_all (s : Scr) (cs : List C4) (rows cols : Int) (R C : Nat) (w : World) (hR : clamp rows 30 = R) (hC : clamp cols 100 = C) (hr : Rg w s.A s.n cs) (hn : s.n ≤ s.c) (hc : s.c ≤ 9223372036854775807) :
  Calls Tryz.prog 15 #[.agg s.vals.toArray,.int .i64 rows,.int .i64 cols] w (RzU w s cs R C):=by
 cases hv : scV s cs
 ·exact (rresizeS_no s cs rows cols w hr hn hc hv).mono fun _ _ h => RzU.no hv h
 ·obtain ⟨h1,h2⟩:=scV_ok hv hr hn hc
  exact (rresizeS_yes s cs rows cols R C w hR hC h1 hr h2).mono fun _ _ h => RzU.yes hv h

set_option maxRecDepth 100000 in
set_option maxHeartbeats 1000000 in
theorem rsamel_any (L M : Option Addr) (m k k' b b' : Nat) (F : Nat → List C4) (w : World) (hx : LsF w b L m k F) (hy : LsF w b' M m k' F) :
  Calls Tryz.prog 17 #[.slice L m k,.slice M m k'] w fun e w' => e = .returned (.bool true) ∧ Bw w w':=by
 obtain ⟨vs,ho,hF⟩:=hx
 obtain ⟨us,ho',hF'⟩:=hy
 have HX:=Lib.hid (own_rd (f:=fun v : Value => v) (xs:=vs) (by rw [List.map_id'];exact ho))
 have HY0:=Lib.hid (own_rd (f:=fun v : Value => v) (xs:=us) (by rw [List.map_id'];exact ho'))
 have HF:=Lib.hid hF
 have HG:=Lib.hid hF'
 have hk : m ≤ k ∧ k ≤ 9223372036854775807:=by obtain ⟨A,c,e,h1,h2⟩:=own_form ho;cases e;exact ⟨h1,h2⟩
 have hk' : m ≤ k' ∧ k' ≤ 9223372036854775807:=by obtain ⟨A,c,e,h1,h2⟩:=own_form ho';cases e;exact ⟨h1,h2⟩
 obtain ⟨hk1,hk2⟩:=hk
 obtain ⟨hk3,hk4⟩:=hk'
 clear ho ho' hF hF'
 go_enter Tryz.func17,Tryz.ntmps17
 go_wp2_with fail
 go_loopw [5] (fun i wr => ∃ j : Nat,i = .int .i64 j ∧ j ≤ m ∧ Bw w wr) (fun i _ => ((m : Int) - intOf i).toNat)
 case atStart => exact ⟨0,rfl,by omega,Bw.refl _⟩
 case round =>
  obtain ⟨j,rfl,hjm,hbr⟩:=hrel
  by_cases hlt : (j : Int) < m
  ·obtain ⟨g,o,rfl,hcx⟩:=HX.out.2 (by omega)
   obtain ⟨h,p,rfl,hcy⟩:=HY0.out.2 (by omega)
   have hlx : j < vs.length:=by have:=HX.out.1;omega
   have hly : j < us.length:=by have:=HY0.out.1;omega
   have hvx:=HF.out j vs[j] (by rw [List.getElem?_eq_getElem hlx])
   have hvy:=HG.out j us[j] (by rw [List.getElem?_eq_getElem hly])
   have hxj:=hcx j hlx
   have hyj:=hcy j hly
   obtain ⟨Aj,cj,ej,hc1,hc2⟩:=own_form hvx
   obtain ⟨Bj,dj,fj,hd1,hd2⟩:=own_form hvy
   rw [ej] at hvx hxj
   rw [fj] at hvy hyj
   have HJ:=Lib.hid (Rg.of_own hvx)
   have HI:=Lib.hid (Rg.of_own hvy)
   obtain ⟨nj,hnj⟩ : ∃ nj,(F j).length = nj:=⟨_,rfl⟩
   rw [hnj] at HJ HI hxj hyj hc1 hd1
   have hby : p + j < 9223372036854775807 ∨ True:=Or.inr trivial
   have HY:=Lib.hid (show ∀ w',Bw wr w' → (w'.cell? ⟨g,o + j,none⟩ = some (.slice Aj nj cj) ∧ w'.cell? ⟨h,p + j,none⟩ = some (.slice Bj nj dj)) from fun w' hb => ⟨cell_bw (Bw.trans hbr hb) hxj,cell_bw (Bw.trans hbr hb) hyj⟩)
   clear hcx hcy hvx hvy ej fj hxj hyj hby hlx hly hnj
   go_upto_region 6 with (fail)
   refine wp_region_held_drew (S:=(fun w' => w'.cell? ⟨g,o + j,none⟩ = some (.slice Aj nj cj) ∧ w'.cell? ⟨h,p + j,none⟩ = some (.slice Bj nj dj))) (by kernel_rfl) ?_ (fun hHeld => ?_)
   ·(try dsimp only);(refine HY.out _ ?_;exact BWX)
   refine tkQ 0 ?_
   refine tkQ 1 ?_
   refine tkQ 2 ?_
   (try simp only [Act.put,zP1,zP2,zP3,zP4,zP5,zP6])
   refine tkQ 3 ?_
   refine tkQ 4 ?_
   refine tkQ 5 ?_
   (try simp only [Act.put,zP1,zP2,zP3,zP4,zP5,zP6])
   refine tkQ 6 ?_
   refine tkQ 7 ?_
   (try simp only [Act.put,zP1,zP2,zP3,zP4,zP5,zP6])
   refine wpAnyH_ready (rs:=[8]) (by kernel_rfl) (by simp) ?_
   refine AllReadyH.cons rfl (fun K hK => ?_) ?_
   ·go_simp
    refine (rsc_any Aj Bj nj cj nj dj (F j) (F j) _ (HJ.out.up (Bw.trans hbr BWX)) hc1 hc2 (HI.out.up (Bw.trans hbr BWX)) hd1 hd2).mono ?_;rintro ee w2 ⟨rfl,hb2⟩;have hbw2 : Bw wr w2:=Bw.trans (show Bw wr _ from BWX) hb2;rw [show decide (F j = F j) = true from decide_eq_true rfl];clear hb2;go_wp2_with fail
    refine hK.out _ _ ?_ (fun hHeld => ?_)
    ·(try dsimp only);(refine HY.out _ ?_;exact BWX)
    clear hK K
    (try simp only [Act.put,zP1,zP2,zP3,zP4,zP5,zP6])
    refine tkQ 9 ?_
    (try simp only [Act.put,zP1,zP2,zP3,zP4,zP5,zP6])
    refine wpAnyH_done (by kernel_rfl) ?_ _
    go_wp2_with fail
    go_roundw
    case rel => exact ⟨j + 1,by go_num,by omega,Bw.trans hbr BWX⟩
    case measure => simp [intOf];omega
   exact AllReadyH.nil
  ·obtain rfl : j = m:=by omega
   go_wp2_with fail
   go_ret
   exact ⟨rfl,hbr⟩

/-- The call returns a screen whose cells are where those of s are. -/
def ScB (w : World) (s : Scr) (e : Ending) (w' : World) : Prop:=∃ s' : Scr,e = .returned (.agg s'.vals.toArray) ∧ s'.A = s.A ∧ s'.n = s.n ∧ s'.c = s.c ∧ Bw w w'

set_option maxRecDepth 100000 in
set_option maxHeartbeats 4000000 in
theorem bad18_any (s : Scr) (what : Int) (w : World) (hC : s.Cn ≤ 1000) (hb0 : -1000 ≤ s.bot) (hb1 : s.bot ≤ 1000) :
  Calls Tryz.prog 13 #[.agg s.vals.toArray,.int .i64 what] w (ScB w s):=by
 obtain ⟨v,hv⟩ : ∃ v,what % 7 = v:=⟨_,rfl⟩
 have hv7 : v = 0 ∨ v = 1 ∨ v = 2 ∨ v = 3 ∨ v = 4 ∨ v = 5 ∨ v = 6:=by omega
 have HVV:=Lib.hid hv
 clear hv
 go_enter Tryz.func13,Tryz.ntmps13
 go_upto_region 1 with (fail)
 generalize hwa : w.alloc (.cells s.vals.toArray 34) = wa
 obtain ⟨ha0,hbwa,hza⟩:=sb1 hwa
 generalize hw1 : wa.alloc _ = w1
 obtain ⟨hc0,hbwc,hzc⟩:=sb1 hw1
 rw [hza] at hc0
 have HA:=Lib.hid (ha0.up hbwc)
 have HT:=Lib.hid (show ∃ old,Sb w1 (w.heap.size + 1) old 34 ∧ old.size = 19 from ⟨_,hc0,rfl⟩)
 have hbw:=Bw.trans hbwa hbwc
 have hz1 : w.heap.size + 1 < w1.heap.size:=by omega
 clear hwa ha0 hbwa hza hw1 hc0 hbwc hzc
 go_upto_region 2 with (first
  | (go_at_call 12;refine (mmod_any _ _ _ (by omega) (by omega)).mono ?_;rintro ee ww ⟨rfl,rfl⟩;rw [HVV.out])
  | fail)
 have x0:=HA.out.cell 0 (v:=.int .i64 (s.Rn : Int)) rfl
 have x1:=HA.out.cell 1 (v:=.int .i64 (s.Cn : Int)) rfl
 have x10:=HA.out.cell 10 (v:=.int .i64 s.bot) rfl
 have x3:=HA.out.cell 3 (v:=.int .i64 s.row) rfl
 have x8:=HA.out.cell 8 (v:=.int .i64 s.b) rfl
 have x9:=HA.out.cell 9 (v:=.int .i64 s.top) rfl
 have x12:=HA.out.cell 12 (v:=.int .i64 s.scol) rfl
 have z1:=HA.out.free 1
 have z3:=HA.out.free 3
 have z8:=HA.out.free 8
 have z9:=HA.out.free 9
 have z10:=HA.out.free 10
 have z12:=HA.out.free 12
 rcases hv7 with rfl|rfl|rfl|rfl|rfl|rfl|rfl
 ·go_upto_region 14 with (fail)
  obtain ⟨sN,hsN⟩ : ∃ sN : Scr,sN = { s with row:=s.Rn }:=⟨_,rfl⟩
  generalize hw2 : w1.setCell ⟨w.heap.size,3,none⟩ (.int .i64 (s.Rn : Int)) = w2
  have HA2:=Lib.hid (show Sb w2 w.heap.size sN.vals.toArray 34 from by rw [← hw2,hsN];exact HA.out.set 3 _ rfl)
  have hg2 : w1.grownBy w2 (some w.heap.size):=by rw [← hw2];exact grown_set (grown_refl _ _) 3 _
  have HT2:=Lib.hid (show ∃ old,Sb w2 (w.heap.size + 1) old 34 ∧ old.size = 19 from Exists.elim HT.out (fun old h => ⟨old,h.1.far hg2 (fun e => by have:=Option.some.inj e;omega),h.2⟩))
  have hb2 : Bw w w2:=Bw.grown hbw hg2 (fun k hk => by cases hk;omega)
  have hlt2:=HA2.out.lt
  clear hw2 hg2 x0 x1 x3 x8 x9 x10 x12 z1 z3 z8 z9 z10 z12
  go_wp2_with (first
   | ((with_reducible refine wpList_load_sc sN w.heap.size (.tmp 2) rfl rfl ?_ ?_ ?_);(focus rfl);(focus (exact HA2.out)))
   | ((with_reducible refine wpList_store_sc sN (w.heap.size + 1) (.tmp 4) (.tmp 42) rfl rfl ?_ ?_ ?_ ?_);(focus rfl);(focus rfl);(focus (exact HT2.out));intro w3 hS3 hg3;have HS3:=Lib.hid hS3;have HG3:=Lib.hid hg3;clear hS3 hg3)
   | fail)
  refine bodyPost_ret (results_sc rfl _ _ (w.heap.size + 1) sN (by rfl) HS3.out) rfl ?_
  exact ⟨sN,rfl,by rw [hsN],by rw [hsN],by rw [hsN],Bw.grown hb2 HG3.out (fun k hk => by cases hk;omega)⟩
 ·go_upto_region 14 with (fail)
  obtain ⟨sN,hsN⟩ : ∃ sN : Scr,sN = { s with bot:=s.bot + 1 }:=⟨_,rfl⟩
  generalize hw2 : w1.setCell ⟨w.heap.size,10,none⟩ (.int .i64 (s.bot + 1)) = w2
  have HA2:=Lib.hid (show Sb w2 w.heap.size sN.vals.toArray 34 from by rw [← hw2,hsN];exact HA.out.set 10 _ rfl)
  have hg2 : w1.grownBy w2 (some w.heap.size):=by rw [← hw2];exact grown_set (grown_refl _ _) 10 _
  have HT2:=Lib.hid (show ∃ old,Sb w2 (w.heap.size + 1) old 34 ∧ old.size = 19 from Exists.elim HT.out (fun old h => ⟨old,h.1.far hg2 (fun e => by have:=Option.some.inj e;omega),h.2⟩))
  have hb2 : Bw w w2:=Bw.grown hbw hg2 (fun k hk => by cases hk;omega)
  have hlt2:=HA2.out.lt
  clear hw2 hg2 x0 x1 x3 x8 x9 x10 x12 z1 z3 z8 z9 z10 z12
  go_wp2_with (first
   | ((with_reducible refine wpList_load_sc sN w.heap.size (.tmp 2) rfl rfl ?_ ?_ ?_);(focus rfl);(focus (exact HA2.out)))
   | ((with_reducible refine wpList_store_sc sN (w.heap.size + 1) (.tmp 4) (.tmp 42) rfl rfl ?_ ?_ ?_ ?_);(focus rfl);(focus rfl);(focus (exact HT2.out));intro w3 hS3 hg3;have HS3:=Lib.hid hS3;have HG3:=Lib.hid hg3;clear hS3 hg3)
   | fail)
  refine bodyPost_ret (results_sc rfl _ _ (w.heap.size + 1) sN (by rfl) HS3.out) rfl ?_
  exact ⟨sN,rfl,by rw [hsN],by rw [hsN],by rw [hsN],Bw.grown hb2 HG3.out (fun k hk => by cases hk;omega)⟩
 ·go_upto_region 14 with (fail)
  obtain ⟨sN,hsN⟩ : ∃ sN : Scr,sN = { s with top:=-1 }:=⟨_,rfl⟩
  generalize hw2 : w1.setCell ⟨w.heap.size,9,none⟩ (.int .i64 (-1)) = w2
  have HA2:=Lib.hid (show Sb w2 w.heap.size sN.vals.toArray 34 from by rw [← hw2,hsN];exact HA.out.set 9 _ rfl)
  have hg2 : w1.grownBy w2 (some w.heap.size):=by rw [← hw2];exact grown_set (grown_refl _ _) 9 _
  have HT2:=Lib.hid (show ∃ old,Sb w2 (w.heap.size + 1) old 34 ∧ old.size = 19 from Exists.elim HT.out (fun old h => ⟨old,h.1.far hg2 (fun e => by have:=Option.some.inj e;omega),h.2⟩))
  have hb2 : Bw w w2:=Bw.grown hbw hg2 (fun k hk => by cases hk;omega)
  have hlt2:=HA2.out.lt
  clear hw2 hg2 x0 x1 x3 x8 x9 x10 x12 z1 z3 z8 z9 z10 z12
  go_wp2_with (first
   | ((with_reducible refine wpList_load_sc sN w.heap.size (.tmp 2) rfl rfl ?_ ?_ ?_);(focus rfl);(focus (exact HA2.out)))
   | ((with_reducible refine wpList_store_sc sN (w.heap.size + 1) (.tmp 4) (.tmp 42) rfl rfl ?_ ?_ ?_ ?_);(focus rfl);(focus rfl);(focus (exact HT2.out));intro w3 hS3 hg3;have HS3:=Lib.hid hS3;have HG3:=Lib.hid hg3;clear hS3 hg3)
   | fail)
  refine bodyPost_ret (results_sc rfl _ _ (w.heap.size + 1) sN (by rfl) HS3.out) rfl ?_
  exact ⟨sN,rfl,by rw [hsN],by rw [hsN],by rw [hsN],Bw.grown hb2 HG3.out (fun k hk => by cases hk;omega)⟩
 ·go_upto_region 14 with (fail)
  obtain ⟨sN,hsN⟩ : ∃ sN : Scr,sN = { s with b:=20 }:=⟨_,rfl⟩
  generalize hw2 : w1.setCell ⟨w.heap.size,8,none⟩ (.int .i64 20) = w2
  have HA2:=Lib.hid (show Sb w2 w.heap.size sN.vals.toArray 34 from by rw [← hw2,hsN];exact HA.out.set 8 _ rfl)
  have hg2 : w1.grownBy w2 (some w.heap.size):=by rw [← hw2];exact grown_set (grown_refl _ _) 8 _
  have HT2:=Lib.hid (show ∃ old,Sb w2 (w.heap.size + 1) old 34 ∧ old.size = 19 from Exists.elim HT.out (fun old h => ⟨old,h.1.far hg2 (fun e => by have:=Option.some.inj e;omega),h.2⟩))
  have hb2 : Bw w w2:=Bw.grown hbw hg2 (fun k hk => by cases hk;omega)
  have hlt2:=HA2.out.lt
  clear hw2 hg2 x0 x1 x3 x8 x9 x10 x12 z1 z3 z8 z9 z10 z12
  go_wp2_with (first
   | ((with_reducible refine wpList_load_sc sN w.heap.size (.tmp 2) rfl rfl ?_ ?_ ?_);(focus rfl);(focus (exact HA2.out)))
   | ((with_reducible refine wpList_store_sc sN (w.heap.size + 1) (.tmp 4) (.tmp 42) rfl rfl ?_ ?_ ?_ ?_);(focus rfl);(focus rfl);(focus (exact HT2.out));intro w3 hS3 hg3;have HS3:=Lib.hid hS3;have HG3:=Lib.hid hg3;clear hS3 hg3)
   | fail)
  refine bodyPost_ret (results_sc rfl _ _ (w.heap.size + 1) sN (by rfl) HS3.out) rfl ?_
  exact ⟨sN,rfl,by rw [hsN],by rw [hsN],by rw [hsN],Bw.grown hb2 HG3.out (fun k hk => by cases hk;omega)⟩
 ·go_upto_region 14 with (fail)
  obtain ⟨sN,hsN⟩ : ∃ sN : Scr,sN = { s with scol:=-1 }:=⟨_,rfl⟩
  generalize hw2 : w1.setCell ⟨w.heap.size,12,none⟩ (.int .i64 (-1)) = w2
  have HA2:=Lib.hid (show Sb w2 w.heap.size sN.vals.toArray 34 from by rw [← hw2,hsN];exact HA.out.set 12 _ rfl)
  have hg2 : w1.grownBy w2 (some w.heap.size):=by rw [← hw2];exact grown_set (grown_refl _ _) 12 _
  have HT2:=Lib.hid (show ∃ old,Sb w2 (w.heap.size + 1) old 34 ∧ old.size = 19 from Exists.elim HT.out (fun old h => ⟨old,h.1.far hg2 (fun e => by have:=Option.some.inj e;omega),h.2⟩))
  have hb2 : Bw w w2:=Bw.grown hbw hg2 (fun k hk => by cases hk;omega)
  have hlt2:=HA2.out.lt
  clear hw2 hg2 x0 x1 x3 x8 x9 x10 x12 z1 z3 z8 z9 z10 z12
  go_wp2_with (first
   | ((with_reducible refine wpList_load_sc sN w.heap.size (.tmp 2) rfl rfl ?_ ?_ ?_);(focus rfl);(focus (exact HA2.out)))
   | ((with_reducible refine wpList_store_sc sN (w.heap.size + 1) (.tmp 4) (.tmp 42) rfl rfl ?_ ?_ ?_ ?_);(focus rfl);(focus rfl);(focus (exact HT2.out));intro w3 hS3 hg3;have HS3:=Lib.hid hS3;have HG3:=Lib.hid hg3;clear hS3 hg3)
   | fail)
  refine bodyPost_ret (results_sc rfl _ _ (w.heap.size + 1) sN (by rfl) HS3.out) rfl ?_
  exact ⟨sN,rfl,by rw [hsN],by rw [hsN],by rw [hsN],Bw.grown hb2 HG3.out (fun k hk => by cases hk;omega)⟩
 ·go_upto_region 14 with (fail)
  obtain ⟨sN,hsN⟩ : ∃ sN : Scr,sN = { s with Cn:=s.Cn + 1 }:=⟨_,rfl⟩
  generalize hw2 : w1.setCell ⟨w.heap.size,1,none⟩ (.int .i64 ((s.Cn : Int) + 1)) = w2
  have HA2:=Lib.hid (show Sb w2 w.heap.size sN.vals.toArray 34 from by rw [← hw2,hsN];exact HA.out.set 1 _ rfl)
  have hg2 : w1.grownBy w2 (some w.heap.size):=by rw [← hw2];exact grown_set (grown_refl _ _) 1 _
  have HT2:=Lib.hid (show ∃ old,Sb w2 (w.heap.size + 1) old 34 ∧ old.size = 19 from Exists.elim HT.out (fun old h => ⟨old,h.1.far hg2 (fun e => by have:=Option.some.inj e;omega),h.2⟩))
  have hb2 : Bw w w2:=Bw.grown hbw hg2 (fun k hk => by cases hk;omega)
  have hlt2:=HA2.out.lt
  clear hw2 hg2 x0 x1 x3 x8 x9 x10 x12 z1 z3 z8 z9 z10 z12
  go_wp2_with (first
   | ((with_reducible refine wpList_load_sc sN w.heap.size (.tmp 2) rfl rfl ?_ ?_ ?_);(focus rfl);(focus (exact HA2.out)))
   | ((with_reducible refine wpList_store_sc sN (w.heap.size + 1) (.tmp 4) (.tmp 42) rfl rfl ?_ ?_ ?_ ?_);(focus rfl);(focus rfl);(focus (exact HT2.out));intro w3 hS3 hg3;have HS3:=Lib.hid hS3;have HG3:=Lib.hid hg3;clear hS3 hg3)
   | fail)
  refine bodyPost_ret (results_sc rfl _ _ (w.heap.size + 1) sN (by rfl) HS3.out) rfl ?_
  exact ⟨sN,rfl,by rw [hsN],by rw [hsN],by rw [hsN],Bw.grown hb2 HG3.out (fun k hk => by cases hk;omega)⟩
 ·go_upto_region 14 with (fail)
  obtain ⟨sN,hsN⟩ : ∃ sN : Scr,sN = s:=⟨_,rfl⟩
  obtain ⟨w2,hw2⟩ : ∃ w2,w2 = w1:=⟨_,rfl⟩
  rw [← hw2]
  have HA2:=Lib.hid (show Sb w2 w.heap.size sN.vals.toArray 34 from by rw [hw2,hsN];exact HA.out)
  have HT2:=Lib.hid (show ∃ old,Sb w2 (w.heap.size + 1) old 34 ∧ old.size = 19 from by rw [hw2];exact HT.out)
  have hb2 : Bw w w2:=by rw [hw2];exact hbw
  have hlt2:=HA2.out.lt
  clear hw2 x0 x1 x3 x8 x9 x10 x12 z1 z3 z8 z9 z10 z12
  go_wp2_with (first
   | ((with_reducible refine wpList_load_sc sN w.heap.size (.tmp 2) rfl rfl ?_ ?_ ?_);(focus rfl);(focus (exact HA2.out)))
   | ((with_reducible refine wpList_store_sc sN (w.heap.size + 1) (.tmp 4) (.tmp 42) rfl rfl ?_ ?_ ?_ ?_);(focus rfl);(focus rfl);(focus (exact HT2.out));intro w3 hS3 hg3;have HS3:=Lib.hid hS3;have HG3:=Lib.hid hg3;clear hS3 hg3)
   | fail)
  refine bodyPost_ret (results_sc rfl _ _ (w.heap.size + 1) sN (by rfl) HS3.out) rfl ?_
  exact ⟨sN,rfl,by rw [hsN],by rw [hsN],by rw [hsN],Bw.grown hb2 HG3.out (fun k hk => by cases hk;omega)⟩

theorem field_tv (t : Trm) (w : World) : (Instr.field 42 (.agg t.vals.toArray) 0).run Tryz.prog w = .ok (.agg t.s.vals.toArray) w:=by
 cases t
 kernel_rfl
theorem wpList_fieldY {P : Program} {w : World} {ops : Array Oper} {rest : List Oper} {o : Oper} {a : Act} {Q : Exit → Act → World → Prop} (T : TypeId) (i : Nat) (x : Operand) (v r : Value) (ho : o.op = .field T x i) (hgd : o.guard = none)
  (hx : a.eval x = v) (hrun : (Instr.field T v i).run P w = .ok r w) (h : wpList P ops Q rest (a.put o.dst r) w) : wpList P ops Q (o :: rest) a w:=by
 refine wpList_plain hgd fun K hK => ?_
 unfold Oper.wp
 unfold execOp
 simp only [ho,hx,Sem.run_bind,Sem.run_pure,hrun,Result.andThen_ok]
 exact hK _ _ h
/-- The load of a screen that lies in a row of screens. -/
theorem wpList_load_scM {ops : Array Oper} {rest : List Oper} {o : Oper} {a : Act} {w : World} {Q : Exit → Act → World → Prop} (s : Scr) (g k : Nat) (x : Operand) (ho : o.op = .load 34 x) (hgd : o.guard = none)
  (hx : a.eval x = .pointer (some ⟨g,k,none⟩)) (hg : w.rangeAt g k s.vals) (h : wpList Tryz.prog ops Q rest (a.put o.dst (.agg s.vals.toArray)) w) : wpList Tryz.prog ops Q (o :: rest) a w :=
 wpList_load_mid hgd 34 x ho g k hx s.vals _ hg Tryz.underlying34 rfl infoSc h
def zeroV : Value:=.agg (⟨0,0,none,0,0,0,0,false,0,0,0,0,0,0,0,false,0,0,0,false,false⟩ : Scr).vals.toArray
theorem infoSs : ∃ ie,Tryz.prog.info? 34 = some ie ∧ ie.zero = some zeroV ∧ ie.size = 19:=by
 have h : (Tryz.prog.info? 34).map (fun ie => (ie.zero,ie.size)) = some (some zeroV,19):=by kernel_rfl
 cases hie : Tryz.prog.info? 34 with
 | none => rw [hie] at h;cases h
 | some ie =>
  rw [hie] at h
  simp only [Option.map_some,Option.some.injEq,Prod.mk.injEq] at h
  exact ⟨ie,rfl,h.1,h.2⟩
theorem fill_two (s s' : Scr) : Instr.fill (fun i => some (i * 19,19)) ((Array.range (2 * 19)).map (zeroV.cells[· % zeroV.cells.size]!)) [(0,.agg s.vals.toArray),(1,.agg s'.vals.toArray)] = some (s.vals ++ s'.vals).toArray:=by
 cases s;cases s'
 kernel_rfl
theorem wp_two {op : Oper} {a : Act} {w : World} {K : Act → World → Prop} {Q : Exit → Act → World → Prop} (s s' : Scr) (x y : Operand) (ho : op.op = .buildSlice 57 2 #[(0,x),(1,y)]) (hx : a.eval x = .agg s.vals.toArray) (hy : a.eval y = .agg s'.vals.toArray)
  (h : K (a.put op.dst (.slice (some ⟨w.heap.size,0,none⟩) 2 2)) (w.alloc (.cells (s.vals ++ s'.vals).toArray 34))) : op.wp Tryz.prog a w K Q:=by
 obtain ⟨ie,h1,h2,h3⟩:=infoSs
 refine wp_buildSlice 57 34 2 _ ho (s.vals ++ s'.vals).toArray ie zeroV Tryz.underlying57 h1 h2 (by rw [h3];decide) (by rw [h3];decide) ?_ h
 have e : (#[(0,x),(1,y)].map fun (p : Nat × Operand) => (p.1,a.eval p.2)).toList = [(0,.agg s.vals.toArray),(1,.agg s'.vals.toArray)]:=by simp [hx,hy]
 rw [h3]
 exact (congrArg _ e).trans (fill_two s s')
theorem Scr.len (s : Scr) : s.vals.length = 19:=rfl
theorem two_at {w : World} {g : Nat} {s s' : Scr} {k : Nat} (h : Sb w g (s.vals ++ s'.vals).toArray 34) (hk : k < 2) : w.rangeAt g (k * 19) (if k = 0 then s else s').vals:=fun j v hv => by
 refine h.cell _ ?_
 have hj : j < 19:=by
  have h2:=(List.getElem?_eq_some_iff.1 hv).1
  rw [Scr.len] at h2
  exact h2
 rcases (show k = 0 ∨ k = 1 by omega) with rfl|rfl
 ·rw [if_pos rfl] at hv
  rw [List.getElem?_toArray,List.getElem?_append_left (by rw [Scr.len];omega)]
  simpa using hv
 ·rw [if_neg (by decide)] at hv
  rw [List.getElem?_toArray,List.getElem?_append_right (by rw [Scr.len];omega),Scr.len]
  rw [show 1 * 19 + j - 19 = j by omega]
  exact hv
theorem clamp_nat (v : Int) (m : Int) (h : 1 ≤ m) : ∃ R : Nat,clamp v m = R:=⟨(clamp v m).toNat,by have:=(clamp_bd v m h).1;omega⟩

set_option maxRecDepth 100000 in
set_option maxHeartbeats 1000000 in
theorem resizes18_any (A : Option Addr) (n c : Nat) (xs : List Int) (rows cols what : Int) (w : World) (hr : RdI w A n xs) (hA : 0 < n → ∀ ad,A = some ad → ad.block < w.heap.size) (hn : n ≤ 9223372036854775807) :
  Calls Tryz.prog 5 #[.slice A n c,.int .i64 rows,.int .i64 cols,.int .i64 what] w fun e w' => e = .returned (.bool true) ∧ Bw w w':=by
 have HR:=Lib.hid hr
 have HA:=Lib.hid hA
 clear hr hA
 go_enter Tryz.func5,Tryz.ntmps5
 go_upto_region 3 with (first
  | (go_at_call 7;refine (sane18_any _).mono ?_;rintro ee w1 ⟨rfl,hb1⟩;have HB1:=Lib.hid hb1;clear hb1)
  | fail)
 go_upto_region 4 with (first
  | (go_at_call 9;refine (mnew_any A n c _).mono ?_;rintro ee wn ⟨rfl,rfl⟩)
  | (go_at_call 8;refine (mterm_dk w1.heap.size A n c xs _ (Dk2.made (HR.out.up HA.out HB1.out) (fun h0 ad e => by have:=HA.out h0 ad e;have:=HB1.out.size;omega) hn)).mono ?_;rintro ee w3 ⟨t,rfl,ht,⟨t1,t2,t3,t4⟩,-,-,hg3⟩;have HOK3:=Lib.hid ht.1;have hb13 : Bw w1 w3:=Bw.grown (Bw.alloc (Bw.refl _) _) hg3 (fun k hk => by cases hk;omega);clear ht hg3)
  | ((with_reducible refine wpList_fieldY 42 0 (.tmp 22) (.agg t.vals.toArray) (.agg t.s.vals.toArray) rfl rfl ?_ (field_tv t _) ?_);(focus rfl))
  | ((with_reducible refine wpList_store_sc t.s w3.heap.size (.tmp 9) (.tmp 23) rfl rfl ?_ ?_ ?_ ?_);(focus rfl);(focus rfl);(focus (exact ⟨_,heap_at (by simp),rfl⟩));intro w4 hS4 hg4;have HS4:=Lib.hid hS4;have hb34 : Bw w3 w4:=Bw.grown (show Bw w3 _ from BWX) hg4 (fun j hj => by cases hj;omega);clear hS4 hg4)
  | fail)
 have HOK:=Lib.hid (HOK3.out.up hb34)
 have HBW:=Lib.hid (Bw.trans HB1.out (Bw.trans hb13 hb34))
 obtain ⟨s,hs⟩ : ∃ s,s = t.s:=⟨_,rfl⟩
 rw [← hs] at HOK HS4 t1 t2 t3 t4
 obtain ⟨gs,hgs⟩ : ∃ gs,gs = w3.heap.size:=⟨_,rfl⟩
 have hltg:=HS4.out.lt
 rw [← hgs] at HS4 hltg ⊢
 have hgw : w.heap.size ≤ gs:=by have:=HB1.out.size;have:=hb13.size;omega
 have hslt : ∀ ad,s.A = some ad → ad.block < gs:=fun ad e => by rw [hgs];exact HOK3.out.1.lt ad (hs ▸ e)
 have HSL:=Lib.hid hslt
 clear HOK3 hb13 hb34 HB1 hs hgs hslt
 obtain ⟨⟨-,-,-,-,-,knc,kcm,cs,kr,kg⟩,-⟩:=HOK.out
 have HRS:=Lib.hid kr
 have HGB:=Lib.hid kg
 have HSX:=Lib.hid HOK.out.num
 clear kr kg
 have hn3 : s.n ≤ 3000:=by
  obtain ⟨⟨h1,h2,h3,h4,h5,-⟩,-⟩:=HOK.out
  rw [h5];have:=Nat.mul_le_mul h2 h4;omega
 have hmar:=HSX.out.2.2.2.1
 obtain ⟨hm1,hm2,hm3⟩:=hmar
 simp only [Act.put]
 go_cut [28,29,30] (fun a b c' w' => ∃ (gl : Nat) (s' : Scr),a = .slice (some ⟨gl,0,none⟩) 2 2 ∧ b = .int .i64 2 ∧ c' = .int .i64 0 ∧ Sb w' gl (s.vals ++ s'.vals).toArray 34 ∧ s'.A = s.A ∧ s'.n = s.n ∧ s'.c = s.c ∧ Bw w4 w')
 case first =>
  have HY:=Lib.hid (show ∀ w',Bw w4 w' → Sb w' gs s.vals.toArray 34 from fun w' hb => HS4.out.up hb)
  refine wp_region_held_drew (S:=(fun w' => Sb w' gs s.vals.toArray 34)) (by kernel_rfl) ?_ (fun hHeld => ?_)
  ·(try dsimp only);(first|(refine HY.out _ ?_;(repeat (first|with_reducible (first|assumption|exact Bw.refl _|refine Bw.alloc ?_ _|refine Bw.more ?_ _ _|refine Bw.drew ?_|refine Bw.drewN ?_ _)|((with_reducible refine Bw.set2 ?_ ?_ _);(focus exact SZX))|with_reducible refine Bw.trans ?_ (by assumption)));done)|exact hHeld)
  refine wpAnyH_take (i:=0) (v:=.agg s.vals.toArray) rfl (by kernel_rfl) (by kernel_rfl) (by kernel_rfl) (fun _ _ _ h => h) (yieldsIf_load_mid (by rfl) 34 (.tmp 9) rfl gs 0 rfl s.vals _ (fun w' h => scRange h) Tryz.underlying34 rfl infoSc) (by assumption) ?_
  (try simp only [Act.put,zP1,zP2,zP3,zP4,zP5,zP6])
  refine wpAnyH_take (i:=1) (v:=.agg s.vals.toArray) rfl (by kernel_rfl) (by kernel_rfl) (by kernel_rfl) (fun _ _ _ h => h) (yieldsIf_load_mid (by rfl) 34 (.tmp 9) rfl gs 0 rfl s.vals _ (fun w' h => scRange h) Tryz.underlying34 rfl infoSc) (by assumption) ?_
  (try simp only [Act.put,zP1,zP2,zP3,zP4,zP5,zP6])
  refine tkQ 2 ?_
  refine tkQ 6 ?_
  (try simp only [Act.put,zP1,zP2,zP3,zP4,zP5,zP6])
  refine wpAnyH_ready (rs:=[3]) (by kernel_rfl) (by simp) ?_
  refine AllReadyH.cons rfl (fun K hK => ?_) ?_
  ·go_simp
   refine (bad18_any s what _ (by omega) (by omega) (by omega)).mono ?_;rintro ee w5 ⟨s',rfl,hsA,hsn,hsc,hb5⟩;have hb45 : Bw w4 w5:=Bw.trans (show Bw w4 _ from BWX) hb5;clear hb5;go_wp2_with fail
   refine hK.out _ _ ?_ (fun hHeld => ?_)
   ·(try dsimp only);(first|(refine HY.out _ ?_;(repeat (first|with_reducible (first|assumption|exact Bw.refl _|refine Bw.alloc ?_ _|refine Bw.more ?_ _ _|refine Bw.drew ?_|refine Bw.drewN ?_ _)|((with_reducible refine Bw.set2 ?_ ?_ _);(focus exact SZX))|with_reducible refine Bw.trans ?_ (by assumption)));done)|exact hHeld)
   clear hK K
   (try simp only [Act.put,zP1,zP2,zP3,zP4,zP5,zP6])
   refine wpAnyH_ready (rs:=[4]) (by kernel_rfl) (by simp) ?_
   refine AllReadyH.cons rfl (fun K hK => ?_) ?_
   ·(refine (if_pos (by kernel_rfl)).mpr ?_);(refine wp_two s s' (.tmp 24) (.tmp 27) ?ho ?_ ?_ ?_);(case ho => rfl);(focus rfl);(focus rfl)
    refine hK.out _ _ ?_ (fun hHeld => ?_)
    ·(try dsimp only);(first|(refine HY.out _ ?_;(repeat (first|with_reducible (first|assumption|exact Bw.refl _|refine Bw.alloc ?_ _|refine Bw.more ?_ _ _|refine Bw.drew ?_|refine Bw.drewN ?_ _)|((with_reducible refine Bw.set2 ?_ ?_ _);(focus exact SZX))|with_reducible refine Bw.trans ?_ (by assumption)));done)|exact hHeld)
    clear hK K
    (try simp only [Act.put,zP1,zP2,zP3,zP4,zP5,zP6])
    refine tkQ 5 ?_
    (try simp only [Act.put,zP1,zP2,zP3,zP4,zP5,zP6])
    refine wpAnyH_done (by kernel_rfl) ?_ _
    go_wp2_with fail
    go_meet
    case rel => exact ⟨_,s',rfl,rfl,rfl,heap_at (by simp),hsA,hsn,hsc,BWX⟩
   exact AllReadyH.nil
  exact AllReadyH.nil
 case rest =>
 obtain ⟨gl,s',rfl,rfl,rfl,hSl,hsA,hsn,hsc,hb5⟩:=hcut
 obtain ⟨w5,hw5⟩ : ∃ w5 : World,w5 = wc:=⟨_,rfl⟩
 subst hw5
 have HSL5:=Lib.hid hSl
 have HR5:=Lib.hid (HRS.out.up hb5)
 have HBW5:=Lib.hid (Bw.trans HBW.out hb5)
 have HEQ:=Lib.hid (And.intro hsA (And.intro hsn hsc))
 have hltl:=hSl.lt
 have HKN:=Lib.hid (show s.n ≤ s.c ∧ s.c ≤ 9223372036854775807 ∧ s.n ≤ 3000 from ⟨knc,kcm,hn3⟩)
 clear hSl hsA hsn hsc hb5 HS4 HRS HOK HBW HSX HGB HSL hltg hm1 hm2 hm3 hn3 knc kcm t1 t2 t3 t4 hgw
 obtain ⟨r1,hr1⟩ : ∃ r1,rows % 8 = r1:=⟨_,rfl⟩
 obtain ⟨r2,hr2⟩ : ∃ r2,cols % 12 = r2:=⟨_,rfl⟩
 have HM1:=Lib.hid hr1
 have HM2:=Lib.hid hr2
 clear hr1 hr2
 go_wp2_with fail
 go_loopw [30] (fun i wr => ∃ k : Nat,i = .int .i64 (k : Int) ∧ k ≤ 2 ∧ Bw w5 wr) (fun i _ => 2 - (intOf i).toNat)
 case atStart => exact ⟨0,rfl,by omega,Bw.refl _⟩
 case round =>
  obtain ⟨wz,hwz⟩ : ∃ wz : World,wz = wr:=⟨_,rfl⟩
  subst hwz
  obtain ⟨k,rfl,hk,hbz⟩:=hrel
  have HBZ:=Lib.hid hbz
  by_cases hlt : k < 2
  ·obtain ⟨x,hx⟩ : ∃ x,x = (if k = 0 then s else s'):=⟨_,rfl⟩
   have HX:=Lib.hid (show wz.rangeAt gl (k * 19) x.vals from by rw [hx];exact two_at (HSL5.out.up hbz) hlt)
   have hxe : x.A = s.A ∧ x.n = s.n ∧ x.c = s.c:=by
    rw [hx];split
    ·exact ⟨rfl,rfl,rfl⟩
    ·exact HEQ.out
   have HRX:=Lib.hid (show Rg wz x.A x.n cs from by rw [hxe.1,hxe.2.1];exact HR5.out.up hbz)
   have HNX:=Lib.hid (show x.n ≤ x.c ∧ x.c ≤ 9223372036854775807 ∧ x.n ≤ 3000 from by rw [hxe.2.1,hxe.2.2];exact HKN.out)
   have e1 : (0 : Int) ≤ k:=by omega
   have e2 : (k : Int) < 2:=by omega
   have hgz : gl < wz.heap.size:=Nat.lt_of_lt_of_le hltl hbz.size
   clear hx hxe hbz
   go_upto_region 7 with (first
    | ((with_reducible refine wpList_load_scM x gl (k * 19) (.tmp 32) rfl rfl ?_ ?_ ?_);(focus (first|rfl|simp));(focus (exact HX.out)))
    | ((with_reducible refine wpList_store_sc x wz.heap.size (.tmp 11) (.tmp 33) rfl rfl ?_ ?_ ?_ ?_);(focus rfl);(focus rfl);(focus (exact ⟨_,heap_at (by simp),rfl⟩));intro w6 hS6 hg6;have HS6:=Lib.hid hS6;have hbz6 : Bw wz w6:=Bw.grown (show Bw wz _ from BWX) hg6 (fun j hj => by cases hj;omega);clear hS6 hg6)
    | fail)
   obtain ⟨gx,hgx⟩ : ∃ gx,gx = wz.heap.size:=⟨_,rfl⟩
   rw [← hgx] at HS6 ⊢
   have hltx:=HS6.out.lt
   clear hgx
   go_upto_region 8 with (first
    | (go_at_call 12;(with_reducible refine (mmod_any rows 8 _ ?_ ?_).mono ?_);(focus omega);(focus omega);rintro ee ww ⟨rfl,rfl⟩;rw [HM1.out])
    | (go_at_call 12;(with_reducible refine (mmod_any cols 12 _ ?_ ?_).mono ?_);(focus omega);(focus omega);rintro ee ww ⟨rfl,rfl⟩;rw [HM2.out])
    | fail)
   generalize hw7 : w6.alloc _ = w7
   obtain ⟨hbp,hb67,hz7⟩:=sb1 hw7
   have HP:=Lib.hid hbp
   obtain ⟨gp,hgp⟩ : ∃ gp,gp = w6.heap.size:=⟨_,rfl⟩
   rw [← hgp] at HP ⊢
   have hltp:=HP.out.lt
   have HBZ7:=Lib.hid (Bw.trans hbz6 hb67)
   have HSX7:=Lib.hid (HS6.out.up hb67)
   have hltx7 : gx < w7.heap.size:=HSX7.out.lt
   have HRX7:=Lib.hid (HRX.out.up HBZ7.out)
   clear hw7 hbp hz7 hb67 hbz6 hgp HS6 hltx
   go_wp2_with fail
   go_loopw [44] (fun i wr => ∃ j : Nat,i = .int .i64 (j : Int) ∧ j ≤ 2 ∧ Bw w7 wr) (fun i _ => 2 - (intOf i).toNat)
   case atStart => exact ⟨0,rfl,by omega,Bw.refl _⟩
   case round =>
    obtain ⟨wy,hwy⟩ : ∃ wy : World,wy = wr:=⟨_,rfl⟩
    subst hwy
    obtain ⟨j,rfl,hj,hby⟩:=hrel
    have HBY:=Lib.hid hby
    by_cases hlt2 : j < 2
    ·have hp : ∃ a b : Int,wy.cell? ⟨gp,j * 2,none⟩ = some (.int .i64 a) ∧ wy.cell? ⟨gp,j * 2 + 1,none⟩ = some (.int .i64 b):=by
      rcases (show j = 0 ∨ j = 1 by omega) with rfl|rfl
      ·exact ⟨_,_,(HP.out.up hby).cell 0 rfl,(HP.out.up hby).cell 1 rfl⟩
      ·exact ⟨_,_,(HP.out.up hby).cell 2 rfl,(HP.out.up hby).cell 3 rfl⟩
     obtain ⟨a,b,ha,hb⟩:=hp
     obtain ⟨R,hR⟩:=clamp_nat a 30 (by omega)
     obtain ⟨C,hC⟩:=clamp_nat b 100 (by omega)
     have HRC:=Lib.hid (And.intro hR hC)
     have e3 : (0 : Int) ≤ j:=by omega
     have e4 : (j : Int) < 2:=by omega
     have hgy : gp < wy.heap.size:=Nat.lt_of_lt_of_le hltp hby.size
     clear hby hR hC
     go_upto_region 10 with (fail)
     generalize hwv : wy.alloc (.cells #[.int .i64 a,.int .i64 b] 58) = wv
     obtain ⟨hbv,hbyv,hzv⟩:=sb1 hwv
     have HB7V:=Lib.hid (Bw.trans HBY.out hbyv)
     have y0:=hbv.cell 0 (v:=.int .i64 a) rfl
     have y1:=hbv.cell 1 (v:=.int .i64 b) rfl
     have hltv:=hbv.lt
     have HV:=Lib.hid hbv
     have HSV:=Lib.hid (HSX7.out.up HB7V.out)
     have hltg:=HSV.out.lt
     have HRV:=Lib.hid (HRX7.out.up HB7V.out)
     clear hwv hbv hzv ha hb hbyv
     go_upto_region 11 with (first
      | ((with_reducible refine wpList_load_sc x gx (.tmp 11) rfl rfl ?_ ?_ ?_);(focus rfl);(focus (exact HSV.out)))
      | (go_at_call 14;refine (sresize_all x cs a b R C _ HRC.out.1 HRC.out.2 (HRV.out.up BWX) HNX.out.1 HNX.out.2.2 HNX.out.2.1).mono ?_;rintro ee w8 ⟨A1,n1,c1,L1,k1,rfl,hr1,hn1,hc1,hl1,hb1⟩;have HR1:=Lib.hid hr1;have HL1:=Lib.hid hl1;have hbv8 : Bw wv w8:=Bw.trans (show Bw wv _ from BWX) hb1;clear hr1 hl1 hb1 y0 y1)
      | ((with_reducible refine wpList_store_sc ((zS x cs R C).gr A1 n1 c1) w8.heap.size (.tmp 14) (.tmp 55) rfl rfl ?_ ?_ ?_ ?_);(focus rfl);(focus rfl);(focus (exact ⟨_,heap_at (by simp),rfl⟩));intro w9 hS9 hg9;have HS9:=Lib.hid hS9;have hb89 : Bw w8 w9:=Bw.grown (show Bw w8 _ from BWX) hg9 (fun j hj => by cases hj;omega);clear hS9 hg9)
      | fail)
     obtain ⟨ga,hga⟩ : ∃ ga,ga = w8.heap.size:=⟨_,rfl⟩
     rw [← hga] at HS9 ⊢
     have hlta:=HS9.out.lt
     have HBV9:=Lib.hid (Bw.trans hbv8 hb89)
     have HR19:=Lib.hid (HR1.out.up hb89)
     have HL19:=Lib.hid (HL1.out.up hb89)
     have HSV9:=Lib.hid (HSV.out.up HBV9.out)
     have hltg9:=HSV9.out.lt
     have HV9:=Lib.hid (HV.out.up HBV9.out)
     have hltv9:=HV9.out.lt
     have y0:=HV9.out.cell 0 (v:=.int .i64 a) rfl
     have y1:=HV9.out.cell 1 (v:=.int .i64 b) rfl
     clear HR1 HL1 hbv8 hb89 hga
     go_upto_region 12 with (first
      | ((with_reducible refine wpList_load_sc x gx (.tmp 11) rfl rfl ?_ ?_ ?_);(focus rfl);(focus (exact HSV9.out)))
      | (go_at_call 15;refine (rresizeS_all x cs a b R C _ HRC.out.1 HRC.out.2 (HRV.out.up (Bw.trans HBV9.out BWX)) HNX.out.1 HNX.out.2.1).mono ?_;rintro ee w10 ⟨A2,n2,c2,L2,k2,rfl,hr2,hn2,hc2,hl2,hb2⟩;have HR2:=Lib.hid hr2;have HL2:=Lib.hid hl2;have hb910 : Bw w9 w10:=Bw.trans (show Bw w9 _ from BWX) hb2;clear hr2 hl2 hb2 y0 y1)
      | ((with_reducible refine wpList_store_sc ((zS x cs R C).gr A2 n2 c2) w10.heap.size (.tmp 16) (.tmp 64) rfl rfl ?_ ?_ ?_ ?_);(focus rfl);(focus rfl);(focus (exact ⟨_,heap_at (by simp),rfl⟩));intro w11 hS11 hg11;have HS11:=Lib.hid hS11;have hb1011 : Bw w10 w11:=Bw.grown (show Bw w10 _ from BWX) hg11 (fun j hj => by cases hj;omega);clear hS11 hg11)
      | fail)
     obtain ⟨gb,hgb⟩ : ∃ gb,gb = w10.heap.size:=⟨_,rfl⟩
     rw [← hgb] at HS11 ⊢
     have hltb:=HS11.out.lt
     have HB911:=Lib.hid (Bw.trans hb910 hb1011)
     have HR211:=Lib.hid (HR2.out.up hb1011)
     have HL211:=Lib.hid (HL2.out.up hb1011)
     have HR111:=Lib.hid (HR19.out.up HB911.out)
     have HL111:=Lib.hid (HL19.out.up HB911.out)
     have HSA:=Lib.hid (HS9.out.up HB911.out)
     have hlta2:=HSA.out.lt
     have HBall:=Lib.hid (Bw.trans HB7V.out (Bw.trans HBV9.out HB911.out))
     clear HR2 HL2 hb910 hb1011 hgb HS9 HR19 HL19 hlta
     go_wp2_with (first
      | ((with_reducible refine wpList_load_sc ((zS x cs R C).gr A1 n1 c1) ga (.tmp 14) rfl rfl ?_ ?_ ?_);(focus rfl);(focus (exact HSA.out)))
      | ((with_reducible refine wpList_load_sc ((zS x cs R C).gr A2 n2 c2) gb (.tmp 16) rfl rfl ?_ ?_ ?_);(focus rfl);(focus (exact HS11.out)))
      | (go_at_call 16;refine (rsameS_any (zS x cs R C) A1 A2 n1 c1 n2 c2 (zG x cs R C) _ (HR111.out.up BWX) hn1 hc1 (HR211.out.up BWX) hn2 hc2).mono ?_;rintro ee w12 ⟨rfl,hb12⟩;have hb1112 : Bw w11 w12:=Bw.trans (show Bw w11 _ from BWX) hb12;clear hb12)
      | (go_at_call 17;refine (rsamel_any L1 L2 _ k1 k2 _ _ (rwF x cs) _ (HL111.out.up (Bw.trans hb1112 BWX)) (HL211.out.up (Bw.trans hb1112 BWX))).mono ?_;rintro ee w13 ⟨rfl,hb13⟩;have HB13:=Lib.hid (show Bw w11 w13 from Bw.trans hb1112 (Bw.trans (show Bw w12 _ from BWX) hb13));clear hb13)
      | fail)
     go_roundw
     case rel => exact ⟨j + 1,by go_num,by omega,Bw.trans HBall.out HB13.out⟩
     case measure => simp [intOf];omega
    ·obtain rfl : j = 2:=by omega
     go_wp2_with fail
     go_roundw
     case rel => exact ⟨k + 1,by go_num,by omega,Bw.trans HBZ.out (Bw.trans HBZ7.out HBY.out)⟩
     case measure => simp [intOf];omega
  ·obtain rfl : k = 2:=by omega
   go_wp2_with fail
   go_ret
   exact ⟨rfl,Bw.trans HBW5.out HBZ.out⟩
end Go.Proofs.YtkflooljdopldaaGreat
