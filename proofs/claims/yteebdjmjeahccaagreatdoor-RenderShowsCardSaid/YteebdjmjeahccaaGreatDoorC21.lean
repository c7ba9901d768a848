/- Parts of the proof, one after the other. -/
import Derived.Test.YteebdjmjeahccaaGreatDoorC20
set_option linter.unusedSimpArgs false
set_option linter.unusedVariables false
set_option maxRecDepth 100000
set_option maxHeartbeats 16000000
namespace Go.Proofs.YteebdjmjeahccaaGreatDoor
open Go.RowKit
theorem rcsi14_Gf (code pv : Int) (A : Option Addr) (n c : Nat) (xs : List Int) (w : World) (h : ScnOk w 3 pv A n c xs) (hq : (n < 16 ∧ code = 59) ∨ (64 ≤ code ∧ code ≤ 126 ∧ (code == 59) = false)) : Calls Tryz.prog 101 #[.agg #[.int .i64 3,.int .i64 pv,.slice A n c],.int .i64 code] w (Nxt w A (csiN pv xs code)):=by
 have HQ:=Lib.hid hq
 clear hq
 obtain ⟨hx,hn,hc,hv⟩:=h
 obtain ⟨hn1,hn16,hpv,hp⟩ : 1 ≤ n ∧ n ≤ 16 ∧ (pv = 0 ∨ (60 ≤ pv ∧ pv ≤ 63)) ∧ ∀ x ∈ xs,0 ≤ x ∧ x ≤ 9999:=by
  rcases hv with h|h
  ·exact absurd rfl h.1
  ·exact h.2
 have HX:=Lib.hid hx
 have HP:=Lib.hid hp
 have HPV:=Lib.hid hpv
 have HXA:=Lib.hid (show ∀ ad,A = some ad → 0 < n → ad.block < w.heap.size from fun ad e h0 => by
  obtain ⟨g,o,e2,h⟩:=hx.2 h0
  have h1:=lt_of_cell (h 0 (by rw [hx.1];exact h0))
  rw [e] at e2
  cases e2
  exact h1)
 clear hx hp hpv hv
 obtain ⟨i0,hi,hi0,hi1,hi2⟩:=info_parts infoI
 have hxl : xs.length = n:=HX.out.1
 go_enter Tryz.func101,Tryz.ntmps101
 go_upto_region 1 with (fail)
 generalize hw1 : (w.alloc (.cells #[.int .i64 3,.int .i64 pv,.slice A n c] 50)).alloc _ = w1
 obtain ⟨hb0,hb1,hbw,hz⟩:=sb2 hw1
 have HB0:=Lib.hid hb0
 have HB1:=Lib.hid (show ∃ old,Sb w1 (w.heap.size + 1) old 50 ∧ old.size = 3 from ⟨_,hb1,rfl⟩)
 have hz1 : w.heap.size + 1 < w1.heap.size:=by omega
 have hz0 : w.heap.size < w1.heap.size:=by omega
 have y2:=HB0.out.cell 2 (v:=.slice A n c) rfl
 clear hw1 hb0 hb1 hz
 go_upto_region 2 with (first
  | (at_builtin;refine wpList_append_srcG (by rfl) (.tmp 8) (.tmp 10) 22 rfl w1.heap.size 3 i0 (.int .i64 0) 1 8 Tryz.underlying22 hi hi0 hi1 hi2 rfl (by decide) (.slice (some ⟨w1.heap.size,0,none⟩) 0 0) 0 [] (by rfl) (own_made rfl (Nat.le_refl _)) A n c (xs.map (.int .i64)) (by rfl) (by rw [List.length_map,hxl];omega) (fun e => (HX.out.none_ e).1) (Rd.news2 (by exact HX.out.up BWX)) (one_map (fun _ => rfl) _) (by unfold maxLen;omega) (by omega) SZX ?_;intro v1 w2 hown hg2;simp only [Nat.zero_add,List.nil_append] at hown;have hb2 : Bw w1 w2:=Bw.grown (show Bw w1 (w1.alloc (.cells #[] 3)) from BWX) hg2 (fun k hk => by have e:=Option.some.inj (show some w1.heap.size = some k from hk);omega);have HOWN:=Lib.hid hown;have HB2:=Lib.hid hb2;clear hown hg2 hb2)
  | fail)
 obtain ⟨gp,cp,rfl,hgp,hgp2⟩:=HOWN.out.form (by omega)
 have hb2:=HB2.out
 have HB0':=Lib.hid (HB0.out.up hb2)
 have HB1':=Lib.hid (Exists.elim HB1.out (fun old h => (⟨old,h.1.up hb2,h.2⟩ : ∃ old,Sb w2 (w.heap.size + 1) old 50 ∧ old.size = 3)))
 have hbw2 : Bw w w2:=Bw.trans hbw hb2
 have hz2 : w.heap.size + 1 < w2.heap.size:=by have:=hb2.size;omega
 have hz02 : w.heap.size < w2.heap.size:=by omega
 have hcp:=own_form HOWN.out
 obtain ⟨A_,c_,e_,hcp1,hcp2⟩:=hcp
 cases e_
 clear HB2 y2 HB0 HB1 hb2
 have y1:=HB0'.out.cell 1 (v:=.int .i64 pv) rfl
 have y2:=HB0'.out.cell 2 (v:=.slice A n c) rfl
 obtain ⟨k,hk⟩ : ∃ k : Nat,n = k + 1:=⟨n - 1,by omega⟩
 have hk1 : (n : Int) - 1 = (k : Int):=by omega
 have hkn : k < n:=by omega
 have HK:=Lib.hid hk
 clear hk
 rcases HQ.out with ⟨hn16',hcode⟩|⟨h1,h2,h59⟩
 ·subst hcode
  have hY:=(show ∀ w',Bw w2 w' → (w'.cell? ⟨w.heap.size,1,none⟩ = some (.int .i64 pv)) from fun w' hb => cell_up y1 hb)
  have hYg:=(show ∀ w' w'',Bw w2 w' → w'.grownBy w'' (some gp) → (w''.cell? ⟨w.heap.size,1,none⟩ = some (.int .i64 pv)) from fun w' w'' hb hg => cell_far (cell_up y1 hb) hg (by intro e;have:=Option.some.inj e;omega))
  have HY:=Lib.hid hY
  have HYg:=Lib.hid hYg
  clear hY hYg y2
  go_upto_region 7 with ((go_at_call 100;refine (rin_any _ _ _ _).mono ?_;rintro ee ww ⟨rfl,rfl⟩;(first|rw [inB_yes (by omega) (by omega)]|rw [inB_no (by omega)])))
  clear y1
  refine wp_region_held_drew (S:=(fun w' => w'.cell? ⟨w.heap.size,1,none⟩ = some (.int .i64 pv))) (by kernel_rfl) ?_ (fun hHeld => ?_)
  ·(try dsimp only);(first|(refine HY.out _ ?_;(repeat (first|with_reducible (first|assumption|exact Bw.refl _|refine Bw.alloc ?_ _|refine Bw.more ?_ _ _|refine Bw.drew ?_|refine Bw.drewN ?_ _)|((with_reducible refine Bw.set2 ?_ ?_ _);(focus exact SZX))|with_reducible refine Bw.trans ?_ (by assumption)));done)|exact hHeld|(exact HYg.out _ _ BWX HG5.out)|(exact cell_far hHeld HG3.out (by intro e;have:=Option.some.inj e;omega))|(refine cell_up hHeld ?_;(repeat (first|with_reducible (first|assumption|exact Bw.refl _|refine Bw.alloc ?_ _|refine Bw.more ?_ _ _|refine Bw.drew ?_|refine Bw.drewN ?_ _)|((with_reducible refine Bw.set2 ?_ ?_ _);(focus exact SZX))|with_reducible refine Bw.trans ?_ (by assumption)));done))
  refine tkQ 0 ?_
  refine tkQ 1 ?_
  refine tkQ 2 ?_
  (try simp only [Act.put,zP1,zP2,zP3,zP4,zP5,zP6])
  refine arO 3 (fun K hK => ?_)
  go_simp
  refine hK.out _ _ ?_ (fun hHeld => ?_)
  ·(try dsimp only);(first|(refine HY.out _ ?_;(repeat (first|with_reducible (first|assumption|exact Bw.refl _|refine Bw.alloc ?_ _|refine Bw.more ?_ _ _|refine Bw.drew ?_|refine Bw.drewN ?_ _)|((with_reducible refine Bw.set2 ?_ ?_ _);(focus exact SZX))|with_reducible refine Bw.trans ?_ (by assumption)));done)|exact hHeld|(exact HYg.out _ _ BWX HG5.out)|(exact cell_far hHeld HG3.out (by intro e;have:=Option.some.inj e;omega))|(refine cell_up hHeld ?_;(repeat (first|with_reducible (first|assumption|exact Bw.refl _|refine Bw.alloc ?_ _|refine Bw.more ?_ _ _|refine Bw.drew ?_|refine Bw.drewN ?_ _)|((with_reducible refine Bw.set2 ?_ ?_ _);(focus exact SZX))|with_reducible refine Bw.trans ?_ (by assumption)));done))
  clear hK K
  (try simp only [Act.put,zP1,zP2,zP3,zP4,zP5,zP6])
  refine arO 4 (fun K hK => ?_)
  refine step_append_srcG (by rfl) (.tmp 44) (.tmp 45) 22 rfl w1.heap.size 3 i0 (.int .i64 0) 1 8 Tryz.underlying22 hi hi0 hi1 hi2 rfl (by decide) (.slice (some ⟨gp,0,none⟩) n cp) n (xs.map (.int .i64)) (by rfl) (HOWN.out.bw BWX) (some ⟨_,0,none⟩) 1 1 [.int .i64 0] (by rfl) rfl (fun e => by cases e) (fun ad e => by cases e;exact World.news_of_block (cs:=#[.int .i64 0]) (heap_at (by simp))) (by intro u hu;simp only [List.mem_singleton] at hu;subst hu;rfl) (by unfold maxLen;omega) (by omega) SZX ?_;intro v5 w5 hown5 hg5;have hg5' : World.grownBy _ w5 (some gp):=hg5;have HG5:=Lib.hid hg5';have HO5:=Lib.hid hown5;clear hown5 hg5 hg5';obtain ⟨g5,c5,rfl,hg5,hg5'⟩:=HO5.out.form (by omega)
  refine hK.out _ _ ?_ (fun hHeld => ?_)
  ·(try dsimp only);(first|(refine HY.out _ ?_;(repeat (first|with_reducible (first|assumption|exact Bw.refl _|refine Bw.alloc ?_ _|refine Bw.more ?_ _ _|refine Bw.drew ?_|refine Bw.drewN ?_ _)|((with_reducible refine Bw.set2 ?_ ?_ _);(focus exact SZX))|with_reducible refine Bw.trans ?_ (by assumption)));done)|exact hHeld|(exact HYg.out _ _ BWX HG5.out)|(exact cell_far hHeld HG3.out (by intro e;have:=Option.some.inj e;omega))|(refine cell_up hHeld ?_;(repeat (first|with_reducible (first|assumption|exact Bw.refl _|refine Bw.alloc ?_ _|refine Bw.more ?_ _ _|refine Bw.drew ?_|refine Bw.drewN ?_ _)|((with_reducible refine Bw.set2 ?_ ?_ _);(focus exact SZX))|with_reducible refine Bw.trans ?_ (by assumption)));done))
  clear hK K
  (try simp only [Act.put,zP1,zP2,zP3,zP4,zP5,zP6])
  refine arO 5 (fun K hK => ?_)
  go_simp
  refine hK.out _ _ ?_ (fun hHeld => ?_)
  ·(try dsimp only);(first|(refine HY.out _ ?_;(repeat (first|with_reducible (first|assumption|exact Bw.refl _|refine Bw.alloc ?_ _|refine Bw.more ?_ _ _|refine Bw.drew ?_|refine Bw.drewN ?_ _)|((with_reducible refine Bw.set2 ?_ ?_ _);(focus exact SZX))|with_reducible refine Bw.trans ?_ (by assumption)));done)|exact hHeld|(exact HYg.out _ _ BWX HG5.out)|(exact cell_far hHeld HG3.out (by intro e;have:=Option.some.inj e;omega))|(refine cell_up hHeld ?_;(repeat (first|with_reducible (first|assumption|exact Bw.refl _|refine Bw.alloc ?_ _|refine Bw.more ?_ _ _|refine Bw.drew ?_|refine Bw.drewN ?_ _)|((with_reducible refine Bw.set2 ?_ ?_ _);(focus exact SZX))|with_reducible refine Bw.trans ?_ (by assumption)));done))
  clear hK K
  (try simp only [Act.put,zP1,zP2,zP3,zP4,zP5,zP6])
  refine arO 6 (fun K hK => ?_)
  (refine (if_pos (by kernel_rfl)).mpr ?_);(with_reducible refine wp_store_scn 3 pv (some ⟨g5,0,none⟩) (n + 1) c5 (w.heap.size + 1) (.tmp 4) (.tmp 47) ?ho ?_ ?_ ?_ ?_);(case ho => rfl);(focus rfl);(focus rfl);(focus (exact Exists.elim HB1'.out (fun old h => ⟨old,(h.1.up (show Bw w2 _ from BWX)).far HG5.out (by intro e;have:=Option.some.inj e;omega),h.2⟩)));intro w3 hS3 hg3;have HS3:=Lib.hid hS3;have HG3:=Lib.hid hg3;clear hS3 hg3
  refine hK.out _ _ ?_ (fun hHeld => ?_)
  ·(try dsimp only);(first|(refine HY.out _ ?_;(repeat (first|with_reducible (first|assumption|exact Bw.refl _|refine Bw.alloc ?_ _|refine Bw.more ?_ _ _|refine Bw.drew ?_|refine Bw.drewN ?_ _)|((with_reducible refine Bw.set2 ?_ ?_ _);(focus exact SZX))|with_reducible refine Bw.trans ?_ (by assumption)));done)|exact hHeld|(exact HYg.out _ _ BWX HG5.out)|(exact cell_far hHeld HG3.out (by intro e;have:=Option.some.inj e;omega))|(refine cell_up hHeld ?_;(repeat (first|with_reducible (first|assumption|exact Bw.refl _|refine Bw.alloc ?_ _|refine Bw.more ?_ _ _|refine Bw.drew ?_|refine Bw.drewN ?_ _)|((with_reducible refine Bw.set2 ?_ ?_ _);(focus exact SZX))|with_reducible refine Bw.trans ?_ (by assumption)));done))
  clear hK K
  (try simp only [Act.put,zP1,zP2,zP3,zP4,zP5,zP6])
  refine arO 7 (fun K hK => ?_)
  go_simp
  refine hK.out _ _ ?_ (fun hHeld => ?_)
  ·(try dsimp only);(first|(refine HY.out _ ?_;(repeat (first|with_reducible (first|assumption|exact Bw.refl _|refine Bw.alloc ?_ _|refine Bw.more ?_ _ _|refine Bw.drew ?_|refine Bw.drewN ?_ _)|((with_reducible refine Bw.set2 ?_ ?_ _);(focus exact SZX))|with_reducible refine Bw.trans ?_ (by assumption)));done)|exact hHeld|(exact HYg.out _ _ BWX HG5.out)|(exact cell_far hHeld HG3.out (by intro e;have:=Option.some.inj e;omega))|(refine cell_up hHeld ?_;(repeat (first|with_reducible (first|assumption|exact Bw.refl _|refine Bw.alloc ?_ _|refine Bw.more ?_ _ _|refine Bw.drew ?_|refine Bw.drewN ?_ _)|((with_reducible refine Bw.set2 ?_ ?_ _);(focus exact SZX))|with_reducible refine Bw.trans ?_ (by assumption)));done))
  clear hK K
  (try simp only [Act.put,zP1,zP2,zP3,zP4,zP5,zP6])
  refine wpAnyH_done (by kernel_rfl) ?_ _
  go_wp2_with fail
  refine bodyPost_ret (results_scn rfl _ _ (w.heap.size + 1) 3 pv (some ⟨g5,0,none⟩) (n + 1) c5 (by rfl) HS3.out) rfl ?_
  have hO3:=HO5.out.kept HG3.out (.inr (by simp only [Value.ownBlock];intro e;have:=Option.some.inj e;omega))
  have hf:=own_form HO5.out
  obtain ⟨A_,c_,e_,hc51,hc52⟩:=hf
  cases e_
  have e1 : xs.map (Value.int .i64) ++ [.int .i64 0] = (xs ++ [0]).map (Value.int .i64):=by simp
  rw [e1] at hO3
  have hb5 : Bw w w5:=Bw.grown (Bw.trans hbw2 (show Bw w2 _ from BWX)) HG5.out (fun k hk => by have e:=Option.some.inj hk;omega)
  exact ⟨3,pv,some ⟨g5,0,none⟩,n + 1,c5,xs ++ [0],none,0,0,[],rfl,⟨own_rd hO3,hc51,hc52,.inr ⟨rfl,by omega,by omega,HPV.out,fun z hz => by
   rcases List.mem_append.mp hz with h|h
   ·exact HP.out z h
   ·simp only [List.mem_singleton] at h;subst h;omega⟩⟩,OpsL.nil_ _,by omega,by omega,by omega,Bw.grown hb5 HG3.out (fun k hk => by cases hk;omega),(by have hs3:=HG3.out.size;(try have hs5:=HG5.out.size);refine ⟨fun ad e => ?_,fun ad e => ?_,fun o ho ad e => ?_⟩;(focus (first|(cases e;done)|(right;exact e.symm)|(left;cases e;dsimp only;simp only [szA,szS,szD,szN] at *;omega)|(left;cases e;dsimp only;omega)));(focus (first|(cases e;done)|(cases e;dsimp only;omega)|(cases e;dsimp only;simp only [szA,szS,szD,szN] at *;omega)));(focus (first|(cases ho;done)|(simp only [List.mem_singleton] at ho;subst ho;dsimp only at e;first|(cases e;done)|(cases e;dsimp only;omega))))),(fun _ => TyA.own hO3),(fun o ho => by cases ho),(by unfold csiN;rw [if_neg (by omega),if_pos rfl,if_pos (by rw [HX.out.1];exact hn16')];rfl)⟩
 ·have h59' : ¬ code = 59:=by simpa using h59
  have hY:=(show ∀ w',Bw w2 w' → (w'.cell? ⟨w.heap.size,1,none⟩ = some (.int .i64 pv)) from fun w' hb => cell_up y1 hb)
  have hYg:=(show ∀ w' w'',Bw w2 w' → w'.grownBy w'' (some gp) → (w''.cell? ⟨w.heap.size,1,none⟩ = some (.int .i64 pv)) from fun w' w'' hb hg => cell_far (cell_up y1 hb) hg (by intro e;have:=Option.some.inj e;omega))
  have HY:=Lib.hid hY
  have HYg:=Lib.hid hYg
  clear hY hYg y2
  go_upto_region 11 with ((go_at_call 100;refine (rin_any _ _ _ _).mono ?_;rintro ee ww ⟨rfl,rfl⟩;(first|rw [inB_yes (by omega) (by omega)]|rw [inB_no (by omega)])))
  clear y1
  refine wp_region_held_drew (S:=(fun w' => w'.cell? ⟨w.heap.size,1,none⟩ = some (.int .i64 pv))) (by kernel_rfl) ?_ (fun hHeld => ?_)
  ·(try dsimp only);(first|(refine HY.out _ ?_;(repeat (first|with_reducible (first|assumption|exact Bw.refl _|refine Bw.alloc ?_ _|refine Bw.more ?_ _ _|refine Bw.drew ?_|refine Bw.drewN ?_ _)|((with_reducible refine Bw.set2 ?_ ?_ _);(focus exact SZX))|with_reducible refine Bw.trans ?_ (by assumption)));done)|exact hHeld|(exact HYg.out _ _ BWX HG5.out)|(exact cell_far hHeld HG3.out (by intro e;have:=Option.some.inj e;omega))|(refine cell_up hHeld ?_;(repeat (first|with_reducible (first|assumption|exact Bw.refl _|refine Bw.alloc ?_ _|refine Bw.more ?_ _ _|refine Bw.drew ?_|refine Bw.drewN ?_ _)|((with_reducible refine Bw.set2 ?_ ?_ _);(focus exact SZX))|with_reducible refine Bw.trans ?_ (by assumption)));done))
  refine tkQ 2 ?_
  refine tkQ 3 ?_
  refine tkQ 1 ?_
  (try simp only [Act.put,zP1,zP2,zP3,zP4,zP5,zP6])
  refine tkQ 4 ?_
  refine tkQ 5 ?_
  (try simp only [Act.put,zP1,zP2,zP3,zP4,zP5,zP6])
  refine wpAnyH_ready (rs:=[0,6]) (by kernel_rfl) (by simp) ?_
  refine AllReadyH.cons rfl (fun K hK => ?_) ?_
  ·go_simp
   refine (rto_any 0 _).mono ?_;rintro ee wt ⟨rfl,hbt⟩;have hzt:=hbt.size;go_wp2_with fail
   refine hK.out _ _ ?_ (fun hHeld => ?_)
   ·(try dsimp only);(first|(refine HY.out _ ?_;(repeat (first|with_reducible (first|assumption|exact Bw.refl _|refine Bw.alloc ?_ _|refine Bw.more ?_ _ _|refine Bw.drew ?_|refine Bw.drewN ?_ _)|((with_reducible refine Bw.set2 ?_ ?_ _);(focus exact SZX))|with_reducible refine Bw.trans ?_ (by assumption)));done)|exact hHeld|(exact HYg.out _ _ BWX HG5.out)|(exact cell_far hHeld HG3.out (by intro e;have:=Option.some.inj e;omega))|(refine cell_up hHeld ?_;(repeat (first|with_reducible (first|assumption|exact Bw.refl _|refine Bw.alloc ?_ _|refine Bw.more ?_ _ _|refine Bw.drew ?_|refine Bw.drewN ?_ _)|((with_reducible refine Bw.set2 ?_ ?_ _);(focus exact SZX))|with_reducible refine Bw.trans ?_ (by assumption)));done))
   clear hK K
   (try simp only [Act.put,zP1,zP2,zP3,zP4,zP5,zP6])
   refine wpAnyH_ready (rs:=[6,7]) (by kernel_rfl) (by simp) ?_
   refine AllReadyH.cons rfl (fun K hK => ?_) ?_
   ·go_simp;(generalize hwB : World.alloc _ (.cells #[.int .i64 4,.int .i64 code,.int .i64 pv,.slice (some ⟨gp,0,none⟩) n cp] 109) = wB);obtain ⟨hSB,hbB,hzB⟩:=sb1 hwB;have HSB:=Lib.hid hSB;clear hwB hSB
    refine hK.out _ _ ?_ (fun hHeld => ?_)
    ·(try dsimp only);(first|(refine HY.out _ ?_;(repeat (first|with_reducible (first|assumption|exact Bw.refl _|refine Bw.alloc ?_ _|refine Bw.more ?_ _ _|refine Bw.drew ?_|refine Bw.drewN ?_ _)|((with_reducible refine Bw.set2 ?_ ?_ _);(focus exact SZX))|with_reducible refine Bw.trans ?_ (by assumption)));done)|exact hHeld|(exact HYg.out _ _ BWX HG5.out)|(exact cell_far hHeld HG3.out (by intro e;have:=Option.some.inj e;omega))|(refine cell_up hHeld ?_;(repeat (first|with_reducible (first|assumption|exact Bw.refl _|refine Bw.alloc ?_ _|refine Bw.more ?_ _ _|refine Bw.drew ?_|refine Bw.drewN ?_ _)|((with_reducible refine Bw.set2 ?_ ?_ _);(focus exact SZX))|with_reducible refine Bw.trans ?_ (by assumption)));done))
    clear hK K
    (try simp only [Act.put,zP1,zP2,zP3,zP4,zP5,zP6])
    refine arO 7 (fun K hK => ?_)
    (refine (if_pos (by kernel_rfl)).mpr ?_);(with_reducible refine wp_store_scn 0 0 none 0 0 (w.heap.size + 1) (.tmp 4) (.tmp 73) ?ho ?_ ?_ ?_ ?_);(case ho => rfl);(focus rfl);(focus rfl);(focus (first|exact Exists.elim HB1'.out (fun old h => ⟨old,h.1.up BWX,h.2⟩)));intro w3 hS3 hg3;have HS3:=Lib.hid hS3;have HG3:=Lib.hid hg3;clear hS3 hg3
    refine hK.out _ _ ?_ (fun hHeld => ?_)
    ·(try dsimp only);(first|(refine HY.out _ ?_;(repeat (first|with_reducible (first|assumption|exact Bw.refl _|refine Bw.alloc ?_ _|refine Bw.more ?_ _ _|refine Bw.drew ?_|refine Bw.drewN ?_ _)|((with_reducible refine Bw.set2 ?_ ?_ _);(focus exact SZX))|with_reducible refine Bw.trans ?_ (by assumption)));done)|exact hHeld|(exact HYg.out _ _ BWX HG5.out)|(exact cell_far hHeld HG3.out (by intro e;have:=Option.some.inj e;omega))|(refine cell_up hHeld ?_;(repeat (first|with_reducible (first|assumption|exact Bw.refl _|refine Bw.alloc ?_ _|refine Bw.more ?_ _ _|refine Bw.drew ?_|refine Bw.drewN ?_ _)|((with_reducible refine Bw.set2 ?_ ?_ _);(focus exact SZX))|with_reducible refine Bw.trans ?_ (by assumption)));done))
    clear hK K
    (try simp only [Act.put,zP1,zP2,zP3,zP4,zP5,zP6])
    refine arO 8 (fun K hK => ?_)
    go_simp
    refine hK.out _ _ ?_ (fun hHeld => ?_)
    ·(try dsimp only);(first|(refine HY.out _ ?_;(repeat (first|with_reducible (first|assumption|exact Bw.refl _|refine Bw.alloc ?_ _|refine Bw.more ?_ _ _|refine Bw.drew ?_|refine Bw.drewN ?_ _)|((with_reducible refine Bw.set2 ?_ ?_ _);(focus exact SZX))|with_reducible refine Bw.trans ?_ (by assumption)));done)|exact hHeld|(exact HYg.out _ _ BWX HG5.out)|(exact cell_far hHeld HG3.out (by intro e;have:=Option.some.inj e;omega))|(refine cell_up hHeld ?_;(repeat (first|with_reducible (first|assumption|exact Bw.refl _|refine Bw.alloc ?_ _|refine Bw.more ?_ _ _|refine Bw.drew ?_|refine Bw.drewN ?_ _)|((with_reducible refine Bw.set2 ?_ ?_ _);(focus exact SZX))|with_reducible refine Bw.trans ?_ (by assumption)));done))
    clear hK K
    (try simp only [Act.put,zP1,zP2,zP3,zP4,zP5,zP6])
    refine wpAnyH_done (by kernel_rfl) ?_ _
    go_wp2_with fail
    first
     | refine bodyPost_ret (results_scn rfl _ _ (w.heap.size + 1) 0 0 none 0 0 (by rfl) HS3.out) rfl ?_
     | refine bodyPost_ret (results_scn rfl _ _ (w.heap.size + 1) 0 0 none 0 0 (by rfl) (HS3.out.up hbB)) rfl ?_
    first
     | exact ⟨0,0,none,0,0,[],some ⟨_,0,none⟩,1,1,[⟨4,code,pv,some ⟨gp,0,none⟩,n,cp,xs⟩],rfl,ScnOk.to _ _ (by omega),OpsL.one ⟨4,code,pv,some ⟨gp,0,none⟩,n,cp,xs⟩ ((HSB.out.up BWX).far HG3.out (by intro e;have:=Option.some.inj e;simp only [szA,szS,szD,szN] at *;omega)) ⟨own_rd ((HOWN.out.bw (show Bw w2 _ from BWX)).kept HG3.out (.inr (by simp only [Value.ownBlock];intro e;have:=Option.some.inj e;omega))),hcp1,hcp2,by show n ≤ 1000;omega⟩,by omega,by omega,by omega,Bw.grown (Bw.trans hbw2 (show Bw w2 _ from BWX)) HG3.out (fun k hk => by cases hk;omega),(by have hs3:=HG3.out.size;(try have hs5:=HG5.out.size);refine ⟨fun ad e => ?_,fun ad e => ?_,fun o ho ad e => ?_⟩;(focus (first|(cases e;done)|(right;exact e.symm)|(left;cases e;dsimp only;simp only [szA,szS,szD,szN] at *;omega)|(left;cases e;dsimp only;omega)));(focus (first|(cases e;done)|(cases e;dsimp only;omega)|(cases e;dsimp only;simp only [szA,szS,szD,szN] at *;omega)));(focus (first|(cases ho;done)|(simp only [List.mem_singleton] at ho;subst ho;dsimp only at e;first|(cases e;done)|(cases e;dsimp only;omega))))),(fun _ => TyA.none _),(fun o ho => by (simp only [List.mem_singleton] at ho;subst ho;exact TyA.own ((HOWN.out.bw (show Bw w2 _ from BWX)).kept HG3.out (.inr (by simp only [Value.ownBlock];intro e;have:=Option.some.inj e;omega))))),(by unfold csiN;rw [if_neg (by omega),if_neg h59',if_pos h1];rfl)⟩
     | exact ⟨0,0,none,0,0,[],some ⟨_,0,none⟩,1,1,[⟨4,code,pv,some ⟨gp,0,none⟩,n,cp,xs⟩],rfl,ScnOk.to _ _ (by omega),OpsL.one ⟨4,code,pv,some ⟨gp,0,none⟩,n,cp,xs⟩ HSB.out ⟨own_rd (((HOWN.out.bw (show Bw w2 _ from BWX)).kept HG3.out (.inr (by simp only [Value.ownBlock];intro e;have:=Option.some.inj e;omega))).bw hbB),hcp1,hcp2,by show n ≤ 1000;omega⟩,by omega,by omega,by omega,Bw.trans (Bw.grown (Bw.trans hbw2 (show Bw w2 _ from BWX)) HG3.out (fun k hk => by cases hk;omega)) hbB,(by have hs3:=HG3.out.size;(try have hs5:=HG5.out.size);refine ⟨fun ad e => ?_,fun ad e => ?_,fun o ho ad e => ?_⟩;(focus (first|(cases e;done)|(right;exact e.symm)|(left;cases e;dsimp only;simp only [szA,szS,szD,szN] at *;omega)|(left;cases e;dsimp only;omega)));(focus (first|(cases e;done)|(cases e;dsimp only;omega)|(cases e;dsimp only;simp only [szA,szS,szD,szN] at *;omega)));(focus (first|(cases ho;done)|(simp only [List.mem_singleton] at ho;subst ho;dsimp only at e;first|(cases e;done)|(cases e;dsimp only;omega))))),(fun _ => TyA.none _),(fun o ho => by (simp only [List.mem_singleton] at ho;subst ho;exact TyA.own (((HOWN.out.bw (show Bw w2 _ from BWX)).kept HG3.out (.inr (by simp only [Value.ownBlock];intro e;have:=Option.some.inj e;omega))).bw hbB))),(by unfold csiN;rw [if_neg (by omega),if_neg h59',if_pos h1];rfl)⟩
   refine AllReadyH.cons rfl (fun K hK => ?_) ?_
   ·(refine (if_pos (by kernel_rfl)).mpr ?_);(with_reducible refine wp_store_scn 0 0 none 0 0 (w.heap.size + 1) (.tmp 4) (.tmp 73) ?ho2 ?_ ?_ ?_ ?_);(case ho2 => rfl);(focus rfl);(focus rfl);(focus (first|exact Exists.elim HB1'.out (fun old h => ⟨old,h.1.up BWX,h.2⟩)));intro w3 hS3 hg3;have HS3:=Lib.hid hS3;have HG3:=Lib.hid hg3;clear hS3 hg3
    refine hK.out _ _ ?_ (fun hHeld => ?_)
    ·(try dsimp only);(first|(refine HY.out _ ?_;(repeat (first|with_reducible (first|assumption|exact Bw.refl _|refine Bw.alloc ?_ _|refine Bw.more ?_ _ _|refine Bw.drew ?_|refine Bw.drewN ?_ _)|((with_reducible refine Bw.set2 ?_ ?_ _);(focus exact SZX))|with_reducible refine Bw.trans ?_ (by assumption)));done)|exact hHeld|(exact HYg.out _ _ BWX HG5.out)|(exact cell_far hHeld HG3.out (by intro e;have:=Option.some.inj e;omega))|(refine cell_up hHeld ?_;(repeat (first|with_reducible (first|assumption|exact Bw.refl _|refine Bw.alloc ?_ _|refine Bw.more ?_ _ _|refine Bw.drew ?_|refine Bw.drewN ?_ _)|((with_reducible refine Bw.set2 ?_ ?_ _);(focus exact SZX))|with_reducible refine Bw.trans ?_ (by assumption)));done))
    clear hK K
    (try simp only [Act.put,zP1,zP2,zP3,zP4,zP5,zP6])
    refine arO 6 (fun K hK => ?_)
    go_simp;(generalize hwB : World.alloc _ (.cells #[.int .i64 4,.int .i64 code,.int .i64 pv,.slice (some ⟨gp,0,none⟩) n cp] 109) = wB);obtain ⟨hSB,hbB,hzB⟩:=sb1 hwB;have HSB:=Lib.hid hSB;clear hwB hSB
    refine hK.out _ _ ?_ (fun hHeld => ?_)
    ·(try dsimp only);(first|(refine HY.out _ ?_;(repeat (first|with_reducible (first|assumption|exact Bw.refl _|refine Bw.alloc ?_ _|refine Bw.more ?_ _ _|refine Bw.drew ?_|refine Bw.drewN ?_ _)|((with_reducible refine Bw.set2 ?_ ?_ _);(focus exact SZX))|with_reducible refine Bw.trans ?_ (by assumption)));done)|exact hHeld|(exact HYg.out _ _ BWX HG5.out)|(exact cell_far hHeld HG3.out (by intro e;have:=Option.some.inj e;omega))|(refine cell_up hHeld ?_;(repeat (first|with_reducible (first|assumption|exact Bw.refl _|refine Bw.alloc ?_ _|refine Bw.more ?_ _ _|refine Bw.drew ?_|refine Bw.drewN ?_ _)|((with_reducible refine Bw.set2 ?_ ?_ _);(focus exact SZX))|with_reducible refine Bw.trans ?_ (by assumption)));done))
    clear hK K
    (try simp only [Act.put,zP1,zP2,zP3,zP4,zP5,zP6])
    refine arO 8 (fun K hK => ?_)
    go_simp
    refine hK.out _ _ ?_ (fun hHeld => ?_)
    ·(try dsimp only);(first|(refine HY.out _ ?_;(repeat (first|with_reducible (first|assumption|exact Bw.refl _|refine Bw.alloc ?_ _|refine Bw.more ?_ _ _|refine Bw.drew ?_|refine Bw.drewN ?_ _)|((with_reducible refine Bw.set2 ?_ ?_ _);(focus exact SZX))|with_reducible refine Bw.trans ?_ (by assumption)));done)|exact hHeld|(exact HYg.out _ _ BWX HG5.out)|(exact cell_far hHeld HG3.out (by intro e;have:=Option.some.inj e;omega))|(refine cell_up hHeld ?_;(repeat (first|with_reducible (first|assumption|exact Bw.refl _|refine Bw.alloc ?_ _|refine Bw.more ?_ _ _|refine Bw.drew ?_|refine Bw.drewN ?_ _)|((with_reducible refine Bw.set2 ?_ ?_ _);(focus exact SZX))|with_reducible refine Bw.trans ?_ (by assumption)));done))
    clear hK K
    (try simp only [Act.put,zP1,zP2,zP3,zP4,zP5,zP6])
    refine wpAnyH_done (by kernel_rfl) ?_ _
    go_wp2_with fail
    first
     | refine bodyPost_ret (results_scn rfl _ _ (w.heap.size + 1) 0 0 none 0 0 (by rfl) HS3.out) rfl ?_
     | refine bodyPost_ret (results_scn rfl _ _ (w.heap.size + 1) 0 0 none 0 0 (by rfl) (HS3.out.up hbB)) rfl ?_
    first
     | exact ⟨0,0,none,0,0,[],some ⟨_,0,none⟩,1,1,[⟨4,code,pv,some ⟨gp,0,none⟩,n,cp,xs⟩],rfl,ScnOk.to _ _ (by omega),OpsL.one ⟨4,code,pv,some ⟨gp,0,none⟩,n,cp,xs⟩ ((HSB.out.up BWX).far HG3.out (by intro e;have:=Option.some.inj e;simp only [szA,szS,szD,szN] at *;omega)) ⟨own_rd ((HOWN.out.bw (show Bw w2 _ from BWX)).kept HG3.out (.inr (by simp only [Value.ownBlock];intro e;have:=Option.some.inj e;omega))),hcp1,hcp2,by show n ≤ 1000;omega⟩,by omega,by omega,by omega,Bw.grown (Bw.trans hbw2 (show Bw w2 _ from BWX)) HG3.out (fun k hk => by cases hk;omega),(by have hs3:=HG3.out.size;(try have hs5:=HG5.out.size);refine ⟨fun ad e => ?_,fun ad e => ?_,fun o ho ad e => ?_⟩;(focus (first|(cases e;done)|(right;exact e.symm)|(left;cases e;dsimp only;simp only [szA,szS,szD,szN] at *;omega)|(left;cases e;dsimp only;omega)));(focus (first|(cases e;done)|(cases e;dsimp only;omega)|(cases e;dsimp only;simp only [szA,szS,szD,szN] at *;omega)));(focus (first|(cases ho;done)|(simp only [List.mem_singleton] at ho;subst ho;dsimp only at e;first|(cases e;done)|(cases e;dsimp only;omega))))),(fun _ => TyA.none _),(fun o ho => by (simp only [List.mem_singleton] at ho;subst ho;exact TyA.own ((HOWN.out.bw (show Bw w2 _ from BWX)).kept HG3.out (.inr (by simp only [Value.ownBlock];intro e;have:=Option.some.inj e;omega))))),(by unfold csiN;rw [if_neg (by omega),if_neg h59',if_pos h1];rfl)⟩
     | exact ⟨0,0,none,0,0,[],some ⟨_,0,none⟩,1,1,[⟨4,code,pv,some ⟨gp,0,none⟩,n,cp,xs⟩],rfl,ScnOk.to _ _ (by omega),OpsL.one ⟨4,code,pv,some ⟨gp,0,none⟩,n,cp,xs⟩ HSB.out ⟨own_rd (((HOWN.out.bw (show Bw w2 _ from BWX)).kept HG3.out (.inr (by simp only [Value.ownBlock];intro e;have:=Option.some.inj e;omega))).bw hbB),hcp1,hcp2,by show n ≤ 1000;omega⟩,by omega,by omega,by omega,Bw.trans (Bw.grown (Bw.trans hbw2 (show Bw w2 _ from BWX)) HG3.out (fun k hk => by cases hk;omega)) hbB,(by have hs3:=HG3.out.size;(try have hs5:=HG5.out.size);refine ⟨fun ad e => ?_,fun ad e => ?_,fun o ho ad e => ?_⟩;(focus (first|(cases e;done)|(right;exact e.symm)|(left;cases e;dsimp only;simp only [szA,szS,szD,szN] at *;omega)|(left;cases e;dsimp only;omega)));(focus (first|(cases e;done)|(cases e;dsimp only;omega)|(cases e;dsimp only;simp only [szA,szS,szD,szN] at *;omega)));(focus (first|(cases ho;done)|(simp only [List.mem_singleton] at ho;subst ho;dsimp only at e;first|(cases e;done)|(cases e;dsimp only;omega))))),(fun _ => TyA.none _),(fun o ho => by (simp only [List.mem_singleton] at ho;subst ho;exact TyA.own (((HOWN.out.bw (show Bw w2 _ from BWX)).kept HG3.out (.inr (by simp only [Value.ownBlock];intro e;have:=Option.some.inj e;omega))).bw hbB))),(by unfold csiN;rw [if_neg (by omega),if_neg h59',if_pos h1];rfl)⟩
   exact AllReadyH.nil
  refine AllReadyH.cons rfl (fun K hK => ?_) ?_
  ·go_simp;(generalize hwB : World.alloc _ (.cells #[.int .i64 4,.int .i64 code,.int .i64 pv,.slice (some ⟨gp,0,none⟩) n cp] 109) = wB);obtain ⟨hSB,hbB,hzB⟩:=sb1 hwB;have HSB:=Lib.hid hSB;clear hwB hSB
   refine hK.out _ _ ?_ (fun hHeld => ?_)
   ·(try dsimp only);(first|(refine HY.out _ ?_;(repeat (first|with_reducible (first|assumption|exact Bw.refl _|refine Bw.alloc ?_ _|refine Bw.more ?_ _ _|refine Bw.drew ?_|refine Bw.drewN ?_ _)|((with_reducible refine Bw.set2 ?_ ?_ _);(focus exact SZX))|with_reducible refine Bw.trans ?_ (by assumption)));done)|exact hHeld|(exact HYg.out _ _ BWX HG5.out)|(exact cell_far hHeld HG3.out (by intro e;have:=Option.some.inj e;omega))|(refine cell_up hHeld ?_;(repeat (first|with_reducible (first|assumption|exact Bw.refl _|refine Bw.alloc ?_ _|refine Bw.more ?_ _ _|refine Bw.drew ?_|refine Bw.drewN ?_ _)|((with_reducible refine Bw.set2 ?_ ?_ _);(focus exact SZX))|with_reducible refine Bw.trans ?_ (by assumption)));done))
   clear hK K
   (try simp only [Act.put,zP1,zP2,zP3,zP4,zP5,zP6])
   refine arO 0 (fun K hK => ?_)
   go_simp
   refine (rto_any 0 _).mono ?_;rintro ee wt ⟨rfl,hbt⟩;have hzt:=hbt.size;go_wp2_with fail
   refine hK.out _ _ ?_ (fun hHeld => ?_)
   ·(try dsimp only);(first|(refine HY.out _ ?_;(repeat (first|with_reducible (first|assumption|exact Bw.refl _|refine Bw.alloc ?_ _|refine Bw.more ?_ _ _|refine Bw.drew ?_|refine Bw.drewN ?_ _)|((with_reducible refine Bw.set2 ?_ ?_ _);(focus exact SZX))|with_reducible refine Bw.trans ?_ (by assumption)));done)|exact hHeld|(exact HYg.out _ _ BWX HG5.out)|(exact cell_far hHeld HG3.out (by intro e;have:=Option.some.inj e;omega))|(refine cell_up hHeld ?_;(repeat (first|with_reducible (first|assumption|exact Bw.refl _|refine Bw.alloc ?_ _|refine Bw.more ?_ _ _|refine Bw.drew ?_|refine Bw.drewN ?_ _)|((with_reducible refine Bw.set2 ?_ ?_ _);(focus exact SZX))|with_reducible refine Bw.trans ?_ (by assumption)));done))
   clear hK K
   (try simp only [Act.put,zP1,zP2,zP3,zP4,zP5,zP6])
   refine arO 7 (fun K hK => ?_)
   (refine (if_pos (by kernel_rfl)).mpr ?_);(with_reducible refine wp_store_scn 0 0 none 0 0 (w.heap.size + 1) (.tmp 4) (.tmp 73) ?ho3 ?_ ?_ ?_ ?_);(case ho3 => rfl);(focus rfl);(focus rfl);(focus (first|exact Exists.elim HB1'.out (fun old h => ⟨old,h.1.up BWX,h.2⟩)));intro w3 hS3 hg3;have HS3:=Lib.hid hS3;have HG3:=Lib.hid hg3;clear hS3 hg3
   refine hK.out _ _ ?_ (fun hHeld => ?_)
   ·(try dsimp only);(first|(refine HY.out _ ?_;(repeat (first|with_reducible (first|assumption|exact Bw.refl _|refine Bw.alloc ?_ _|refine Bw.more ?_ _ _|refine Bw.drew ?_|refine Bw.drewN ?_ _)|((with_reducible refine Bw.set2 ?_ ?_ _);(focus exact SZX))|with_reducible refine Bw.trans ?_ (by assumption)));done)|exact hHeld|(exact HYg.out _ _ BWX HG5.out)|(exact cell_far hHeld HG3.out (by intro e;have:=Option.some.inj e;omega))|(refine cell_up hHeld ?_;(repeat (first|with_reducible (first|assumption|exact Bw.refl _|refine Bw.alloc ?_ _|refine Bw.more ?_ _ _|refine Bw.drew ?_|refine Bw.drewN ?_ _)|((with_reducible refine Bw.set2 ?_ ?_ _);(focus exact SZX))|with_reducible refine Bw.trans ?_ (by assumption)));done))
   clear hK K
   (try simp only [Act.put,zP1,zP2,zP3,zP4,zP5,zP6])
   refine arO 8 (fun K hK => ?_)
   go_simp
   refine hK.out _ _ ?_ (fun hHeld => ?_)
   ·(try dsimp only);(first|(refine HY.out _ ?_;(repeat (first|with_reducible (first|assumption|exact Bw.refl _|refine Bw.alloc ?_ _|refine Bw.more ?_ _ _|refine Bw.drew ?_|refine Bw.drewN ?_ _)|((with_reducible refine Bw.set2 ?_ ?_ _);(focus exact SZX))|with_reducible refine Bw.trans ?_ (by assumption)));done)|exact hHeld|(exact HYg.out _ _ BWX HG5.out)|(exact cell_far hHeld HG3.out (by intro e;have:=Option.some.inj e;omega))|(refine cell_up hHeld ?_;(repeat (first|with_reducible (first|assumption|exact Bw.refl _|refine Bw.alloc ?_ _|refine Bw.more ?_ _ _|refine Bw.drew ?_|refine Bw.drewN ?_ _)|((with_reducible refine Bw.set2 ?_ ?_ _);(focus exact SZX))|with_reducible refine Bw.trans ?_ (by assumption)));done))
   clear hK K
   (try simp only [Act.put,zP1,zP2,zP3,zP4,zP5,zP6])
   refine wpAnyH_done (by kernel_rfl) ?_ _
   go_wp2_with fail
   first
    | refine bodyPost_ret (results_scn rfl _ _ (w.heap.size + 1) 0 0 none 0 0 (by rfl) HS3.out) rfl ?_
    | refine bodyPost_ret (results_scn rfl _ _ (w.heap.size + 1) 0 0 none 0 0 (by rfl) (HS3.out.up hbB)) rfl ?_
   first
    | exact ⟨0,0,none,0,0,[],some ⟨_,0,none⟩,1,1,[⟨4,code,pv,some ⟨gp,0,none⟩,n,cp,xs⟩],rfl,ScnOk.to _ _ (by omega),OpsL.one ⟨4,code,pv,some ⟨gp,0,none⟩,n,cp,xs⟩ ((HSB.out.up BWX).far HG3.out (by intro e;have:=Option.some.inj e;simp only [szA,szS,szD,szN] at *;omega)) ⟨own_rd ((HOWN.out.bw (show Bw w2 _ from BWX)).kept HG3.out (.inr (by simp only [Value.ownBlock];intro e;have:=Option.some.inj e;omega))),hcp1,hcp2,by show n ≤ 1000;omega⟩,by omega,by omega,by omega,Bw.grown (Bw.trans hbw2 (show Bw w2 _ from BWX)) HG3.out (fun k hk => by cases hk;omega),(by have hs3:=HG3.out.size;(try have hs5:=HG5.out.size);refine ⟨fun ad e => ?_,fun ad e => ?_,fun o ho ad e => ?_⟩;(focus (first|(cases e;done)|(right;exact e.symm)|(left;cases e;dsimp only;simp only [szA,szS,szD,szN] at *;omega)|(left;cases e;dsimp only;omega)));(focus (first|(cases e;done)|(cases e;dsimp only;omega)|(cases e;dsimp only;simp only [szA,szS,szD,szN] at *;omega)));(focus (first|(cases ho;done)|(simp only [List.mem_singleton] at ho;subst ho;dsimp only at e;first|(cases e;done)|(cases e;dsimp only;omega))))),(fun _ => TyA.none _),(fun o ho => by (simp only [List.mem_singleton] at ho;subst ho;exact TyA.own ((HOWN.out.bw (show Bw w2 _ from BWX)).kept HG3.out (.inr (by simp only [Value.ownBlock];intro e;have:=Option.some.inj e;omega))))),(by unfold csiN;rw [if_neg (by omega),if_neg h59',if_pos h1];rfl)⟩
    | exact ⟨0,0,none,0,0,[],some ⟨_,0,none⟩,1,1,[⟨4,code,pv,some ⟨gp,0,none⟩,n,cp,xs⟩],rfl,ScnOk.to _ _ (by omega),OpsL.one ⟨4,code,pv,some ⟨gp,0,none⟩,n,cp,xs⟩ HSB.out ⟨own_rd (((HOWN.out.bw (show Bw w2 _ from BWX)).kept HG3.out (.inr (by simp only [Value.ownBlock];intro e;have:=Option.some.inj e;omega))).bw hbB),hcp1,hcp2,by show n ≤ 1000;omega⟩,by omega,by omega,by omega,Bw.trans (Bw.grown (Bw.trans hbw2 (show Bw w2 _ from BWX)) HG3.out (fun k hk => by cases hk;omega)) hbB,(by have hs3:=HG3.out.size;(try have hs5:=HG5.out.size);refine ⟨fun ad e => ?_,fun ad e => ?_,fun o ho ad e => ?_⟩;(focus (first|(cases e;done)|(right;exact e.symm)|(left;cases e;dsimp only;simp only [szA,szS,szD,szN] at *;omega)|(left;cases e;dsimp only;omega)));(focus (first|(cases e;done)|(cases e;dsimp only;omega)|(cases e;dsimp only;simp only [szA,szS,szD,szN] at *;omega)));(focus (first|(cases ho;done)|(simp only [List.mem_singleton] at ho;subst ho;dsimp only at e;first|(cases e;done)|(cases e;dsimp only;omega))))),(fun _ => TyA.none _),(fun o ho => by (simp only [List.mem_singleton] at ho;subst ho;exact TyA.own (((HOWN.out.bw (show Bw w2 _ from BWX)).kept HG3.out (.inr (by simp only [Value.ownBlock];intro e;have:=Option.some.inj e;omega))).bw hbB))),(by unfold csiN;rw [if_neg (by omega),if_neg h59',if_pos h1];rfl)⟩
  exact AllReadyH.nil
theorem rcsi14_ok (code pv : Int) (A : Option Addr) (n c : Nat) (xs : List Int) (w : World) (h : ScnOk w 3 pv A n c xs) (h1 : 32 ≤ code) (h2 : code ≤ 126) : Calls Tryz.prog 101 #[.agg #[.int .i64 3,.int .i64 pv,.slice A n c],.int .i64 code] w (Nxt w A (csiN pv xs code)):=by
 have hl:=h.1.1
 obtain ⟨hn1,hn16⟩ : 1 ≤ n ∧ n ≤ 16:=by
  rcases h.2.2.2 with h|h
  ·exact absurd rfl h.1
  ·exact ⟨h.2.1,h.2.2.1⟩
 by_cases hd : 48 ≤ code ∧ code ≤ 57
 ·exact rcsi14_Ga code pv A n c xs w h (.inl ⟨hd.1,hd.2⟩)
 by_cases hc : code = 59
 ·by_cases hn : n < 16
  ·exact rcsi14_Gf code pv A n c xs w h (.inl ⟨hn,hc⟩)
  ·exact rcsi14_Ga code pv A n c xs w h (.inr (.inl ⟨(by omega),hc⟩))
 have h59 : (code == 59) = false:=by simpa using hc
 by_cases hf : 64 ≤ code
 ·exact rcsi14_Gf code pv A n c xs w h (.inr ⟨hf,h2,h59⟩)
 by_cases hp : 60 ≤ code
 ·by_cases h0 : pv = 0
  ·by_cases hn : n = 1
   ·obtain ⟨x,rfl⟩ : ∃ x,xs = [x]:=by
     match xs,hl.trans hn with
     | [x],_ => exact ⟨x,rfl⟩
    by_cases hx : x = 0
    ·subst hx
     exact rcsi14_Ga code pv A n c _ w h (.inr (.inr (.inr (.inl ⟨hp,(by omega),h59,h0,hn,rfl⟩))))
    ·exact rcsi14_Ga code pv A n c _ w h (.inr (.inr (.inr (.inr (.inr (.inr ⟨hp,(by omega),h59,h0,hn,x,rfl,(by simpa using hx)⟩))))))
   ·exact rcsi14_Ga code pv A n c xs w h (.inr (.inr (.inr (.inr (.inr (.inl ⟨hp,(by omega),h59,h0,(by omega)⟩))))))
  ·exact rcsi14_Ga code pv A n c xs w h (.inr (.inr (.inr (.inr (.inl ⟨hp,(by omega),h59,(by simpa using h0)⟩)))))
 ·exact rcsi14_Ga code pv A n c xs w h (.inr (.inr (.inl ⟨(by omega),h59⟩)))
theorem Rd.far0 {α : Type} {f : α → Value} {w w' : World} {A : Option Addr} {n : Nat} {xs : List α} {row : Option Nat} (h : Rd f w A n xs) (hg : w.grownBy w' row) (hne : 0 < n → ∀ ad,A = some ad → some ad.block ≠ row) : Rd f w' A n xs:=by
 by_cases h0 : 0 < n
 ·exact h.far hg (hne h0)
 ·exact ⟨h.1,fun h1 => absurd h1 h0⟩
theorem ScnOk.far0 {w w' : World} {md pv : Int} {A : Option Addr} {n c : Nat} {xs : List Int} {row : Option Nat} (h : ScnOk w md pv A n c xs) (hg : w.grownBy w' row) (hne : 0 < n → ∀ ad,A = some ad → some ad.block ≠ row) : ScnOk w' md pv A n c xs:=⟨h.1.far0 hg hne,h.2⟩
theorem rnext_Ga (md code pv : Int) (A : Option Addr) (n c : Nat) (xs : List Int) (w : World) (h : ScnOk w md pv A n c xs) (hq : (code = 24 ∧ (md == 5) = false ∧ (md == 6) = false) ∨ (code = 26 ∧ (md == 5) = false ∧ (md == 6) = false) ∨ (code = 27 ∧ (md == 5) = false ∧ (md == 6) = false) ∨ (code = 127 ∧ (md == 5) = false ∧ (md == 6) = false) ∨ (code < 0 ∧ (code == 24) = false ∧ (code == 26) = false ∧ (code == 27) = false ∧ (code == 127) = false ∧ (md == 5) = false ∧ (md == 6) = false) ∨ (0 ≤ code ∧ code < 32 ∧ (code == 24) = false ∧ (code == 26) = false ∧ (code == 27) = false ∧ (code == 127) = false ∧ (md == 5) = false ∧ (md == 6) = false)) : Calls Tryz.prog 78 #[.agg #[.int .i64 md,.int .i64 pv,.slice A n c],.int .i64 code] w (Nxt w A (nextN md pv xs code)):=by
 have HQ:=Lib.hid hq
 clear hq
 have HOk:=Lib.hid h
 have hx:=h.1
 have HXA:=Lib.hid (show 0 < n → ∀ ad,A = some ad → ad.block < w.heap.size from fun h0 ad e => by
  obtain ⟨g,o,e2,h⟩:=hx.2 h0
  have h1:=lt_of_cell (h 0 (by rw [hx.1];exact h0))
  rw [e] at e2
  cases e2
  exact h1)
 clear h hx
 go_enter Tryz.func78,Tryz.ntmps78
 go_upto_region 1 with (fail)
 generalize hw1 : (w.alloc (.cells #[.int .i64 md,.int .i64 pv,.slice A n c] 50)).alloc _ = w1
 obtain ⟨hb0,hb1,hbw,hz⟩:=sb2 hw1
 have HB0a:=Lib.hid hb0
 have HB1a:=Lib.hid (show ∃ old,Sb w1 (w.heap.size + 1) old 50 ∧ old.size = 3 from ⟨_,hb1,rfl⟩)
 have hz1 : w.heap.size + 1 < w1.heap.size:=by omega
 have hz0 : w.heap.size < w1.heap.size:=by omega
 have y0:=HB0a.out.cell 0 (v:=.int .i64 md) rfl
 have y1:=HB0a.out.cell 1 (v:=.int .i64 pv) rfl
 have y2:=HB0a.out.cell 2 (v:=.slice A n c) rfl
 clear hw1 hb0 hb1 hz
 go_upto_region 3 with (first
  | (go_at_call 70;refine (rvalid14_ok md pv A n c xs _ (HOk.out.up (show Bw w _ from BWX))).mono ?_;rintro ee wv ⟨rfl,hbv⟩;have z0:=(HB0a.out.up hbv).cell 0 (v:=.int .i64 md) rfl;have z1:=(HB0a.out.up hbv).cell 1 (v:=.int .i64 pv) rfl;have z2:=(HB0a.out.up hbv).cell 2 (v:=.slice A n c) rfl;have HBV:=Lib.hid hbv;clear hbv y0 y1 y2)
  | fail)
 have hbv:=HBV.out
 have HB0:=Lib.hid (HB0a.out.up hbv)
 have HB1:=Lib.hid (Exists.elim HB1a.out (fun old h => (⟨old,h.1.up hbv,h.2⟩ : ∃ old,Sb wv (w.heap.size + 1) old 50 ∧ old.size = 3)))
 have hbw2 : Bw w wv:=Bw.trans hbw hbv
 have hz2 : w.heap.size + 1 < wv.heap.size:=by have:=hbv.size;omega
 have hz02 : w.heap.size < wv.heap.size:=by omega
 have HOk1:=Lib.hid (HOk.out.up hbw2)
 clear HBV HB0a HB1a hz1 hz0 hbw hbv
 rcases HQ.out with ⟨hk,hg5,hg6⟩|⟨hk,hg5,hg6⟩|⟨hk,hg5,hg6⟩|⟨hk,hg5,hg6⟩|⟨hlo,h24,h26,h27,h127,hg5,hg6⟩|⟨hlo,hhi,h24,h26,h27,h127,hg5,hg6⟩
 ·subst hk
  go_upto_region 5 with ((go_at_call 100;refine (rin_any _ _ _ _).mono ?_;rintro ee ww ⟨rfl,rfl⟩;(first|rw [inB_yes (by omega) (by omega)]|rw [inB_no (by omega)])))
  go_wp2_with (first
   | (go_at_call 77;refine (rto_any 0 _).mono ?_;rintro ee wt ⟨rfl,hbt⟩;have hbt':=Lib.hid hbt;clear hbt)
   | ((with_reducible refine wpList_store_scn 0 0 none 0 0 (w.heap.size + 1) (.tmp 4) (.tmp 26) rfl rfl ?_ ?_ ?_ ?_);(focus rfl);(focus rfl);(focus (exact Exists.elim HB1.out (fun old h => ⟨old,h.1.up hbt'.out,h.2⟩)));intro w3 hS3 hg3;have HS3:=Lib.hid hS3;have HG3:=Lib.hid hg3;clear hS3 hg3)
   | (go_at_call 100;refine (rin_any _ _ _ _).mono ?_;rintro ee ww ⟨rfl,rfl⟩;(first|rw [inB_yes (by omega) (by omega)]|rw [inB_no (by omega)]))
   | fail)
  refine bodyPost_ret (results_scn rfl _ _ (w.heap.size + 1) 0 0 none 0 0 (by rfl) HS3.out) rfl ?_
  exact ⟨0,0,none,0,0,[],none,0,0,[],rfl,ScnOk.to _ _ (by omega),OpsL.nil_ _,by omega,by omega,by omega,Bw.grown (Bw.trans hbw2 hbt'.out) HG3.out (fun k hk => by cases hk;omega),(by have hs3:=HG3.out.size;(try have hs5:=HG5.out.size);refine ⟨fun ad e => ?_,fun ad e => ?_,fun o ho ad e => ?_⟩;(focus (first|(cases e;done)|(right;exact e.symm)|(left;cases e;dsimp only;simp only [szA,szS,szD,szN] at *;omega)|(left;cases e;dsimp only;omega)));(focus (first|(cases e;done)|(cases e;dsimp only;omega)|(cases e;dsimp only;simp only [szA,szS,szD,szN] at *;omega)));(focus (first|(cases ho;done)|(simp only [List.mem_singleton] at ho;subst ho;dsimp only at e;first|(cases e;done)|(cases e;dsimp only;omega))))),(fun _ => TyA.none _),(fun o ho => by first|(cases ho;done)|(simp only [List.mem_singleton] at ho;subst ho;exact TyA.none _)),(by simp only [beq_eq_false_iff_ne,ne_eq] at hg5 hg6;unfold nextN nextB;(repeat (first|rw [if_pos (by omega)]|rw [if_neg (by omega)]));try rfl)⟩
 ·subst hk
  go_upto_region 5 with ((go_at_call 100;refine (rin_any _ _ _ _).mono ?_;rintro ee ww ⟨rfl,rfl⟩;(first|rw [inB_yes (by omega) (by omega)]|rw [inB_no (by omega)])))
  go_wp2_with (first
   | (go_at_call 77;refine (rto_any 0 _).mono ?_;rintro ee wt ⟨rfl,hbt⟩;have hbt':=Lib.hid hbt;clear hbt)
   | ((with_reducible refine wpList_store_scn 0 0 none 0 0 (w.heap.size + 1) (.tmp 4) (.tmp 26) rfl rfl ?_ ?_ ?_ ?_);(focus rfl);(focus rfl);(focus (exact Exists.elim HB1.out (fun old h => ⟨old,h.1.up hbt'.out,h.2⟩)));intro w3 hS3 hg3;have HS3:=Lib.hid hS3;have HG3:=Lib.hid hg3;clear hS3 hg3)
   | (go_at_call 100;refine (rin_any _ _ _ _).mono ?_;rintro ee ww ⟨rfl,rfl⟩;(first|rw [inB_yes (by omega) (by omega)]|rw [inB_no (by omega)]))
   | fail)
  refine bodyPost_ret (results_scn rfl _ _ (w.heap.size + 1) 0 0 none 0 0 (by rfl) HS3.out) rfl ?_
  exact ⟨0,0,none,0,0,[],none,0,0,[],rfl,ScnOk.to _ _ (by omega),OpsL.nil_ _,by omega,by omega,by omega,Bw.grown (Bw.trans hbw2 hbt'.out) HG3.out (fun k hk => by cases hk;omega),(by have hs3:=HG3.out.size;(try have hs5:=HG5.out.size);refine ⟨fun ad e => ?_,fun ad e => ?_,fun o ho ad e => ?_⟩;(focus (first|(cases e;done)|(right;exact e.symm)|(left;cases e;dsimp only;simp only [szA,szS,szD,szN] at *;omega)|(left;cases e;dsimp only;omega)));(focus (first|(cases e;done)|(cases e;dsimp only;omega)|(cases e;dsimp only;simp only [szA,szS,szD,szN] at *;omega)));(focus (first|(cases ho;done)|(simp only [List.mem_singleton] at ho;subst ho;dsimp only at e;first|(cases e;done)|(cases e;dsimp only;omega))))),(fun _ => TyA.none _),(fun o ho => by first|(cases ho;done)|(simp only [List.mem_singleton] at ho;subst ho;exact TyA.none _)),(by simp only [beq_eq_false_iff_ne,ne_eq] at hg5 hg6;unfold nextN nextB;(repeat (first|rw [if_pos (by omega)]|rw [if_neg (by omega)]));try rfl)⟩
 ·subst hk
  go_upto_region 9 with ((go_at_call 100;refine (rin_any _ _ _ _).mono ?_;rintro ee ww ⟨rfl,rfl⟩;(first|rw [inB_yes (by omega) (by omega)]|rw [inB_no (by omega)])))
  go_wp2_with (first
   | (go_at_call 77;refine (rto_any 1 _).mono ?_;rintro ee wt ⟨rfl,hbt⟩;have hbt':=Lib.hid hbt;clear hbt)
   | ((with_reducible refine wpList_store_scn 1 0 none 0 0 (w.heap.size + 1) (.tmp 4) (.tmp 37) rfl rfl ?_ ?_ ?_ ?_);(focus rfl);(focus rfl);(focus (exact Exists.elim HB1.out (fun old h => ⟨old,h.1.up hbt'.out,h.2⟩)));intro w3 hS3 hg3;have HS3:=Lib.hid hS3;have HG3:=Lib.hid hg3;clear hS3 hg3)
   | (go_at_call 100;refine (rin_any _ _ _ _).mono ?_;rintro ee ww ⟨rfl,rfl⟩;(first|rw [inB_yes (by omega) (by omega)]|rw [inB_no (by omega)]))
   | fail)
  refine bodyPost_ret (results_scn rfl _ _ (w.heap.size + 1) 1 0 none 0 0 (by rfl) HS3.out) rfl ?_
  exact ⟨1,0,none,0,0,[],none,0,0,[],rfl,ScnOk.to _ _ (by omega),OpsL.nil_ _,by omega,by omega,by omega,Bw.grown (Bw.trans hbw2 hbt'.out) HG3.out (fun k hk => by cases hk;omega),(by have hs3:=HG3.out.size;(try have hs5:=HG5.out.size);refine ⟨fun ad e => ?_,fun ad e => ?_,fun o ho ad e => ?_⟩;(focus (first|(cases e;done)|(right;exact e.symm)|(left;cases e;dsimp only;simp only [szA,szS,szD,szN] at *;omega)|(left;cases e;dsimp only;omega)));(focus (first|(cases e;done)|(cases e;dsimp only;omega)|(cases e;dsimp only;simp only [szA,szS,szD,szN] at *;omega)));(focus (first|(cases ho;done)|(simp only [List.mem_singleton] at ho;subst ho;dsimp only at e;first|(cases e;done)|(cases e;dsimp only;omega))))),(fun _ => TyA.none _),(fun o ho => by first|(cases ho;done)|(simp only [List.mem_singleton] at ho;subst ho;exact TyA.none _)),(by simp only [beq_eq_false_iff_ne,ne_eq] at hg5 hg6;unfold nextN nextB;(repeat (first|rw [if_pos (by omega)]|rw [if_neg (by omega)]));try rfl)⟩
 ·subst hk
  go_upto_region 17 with ((go_at_call 100;refine (rin_any _ _ _ _).mono ?_;rintro ee ww ⟨rfl,rfl⟩;(first|rw [inB_yes (by omega) (by omega)]|rw [inB_no (by omega)])))
  go_wp2_with (first
   | ((with_reducible refine wpList_store_scn md pv A n c (w.heap.size + 1) (.tmp 4) (.tmp 77) rfl rfl ?_ ?_ ?_ ?_);(focus rfl);(focus rfl);(focus (exact HB1.out));intro w3 hS3 hg3;have HS3:=Lib.hid hS3;have HG3:=Lib.hid hg3;clear hS3 hg3)
   | (go_at_call 100;refine (rin_any _ _ _ _).mono ?_;rintro ee ww ⟨rfl,rfl⟩;(first|rw [inB_yes (by omega) (by omega)]|rw [inB_no (by omega)]))
   | fail)
  refine bodyPost_ret (results_scn rfl _ _ (w.heap.size + 1) md pv A n c (by rfl) HS3.out) rfl ?_
  exact ⟨md,pv,A,n,c,xs,none,0,0,[],rfl,HOk1.out.far0 HG3.out (fun h0 ad e => by have:=HXA.out h0 ad e;intro e2;have:=Option.some.inj e2;omega),OpsL.nil_ _,by omega,by omega,by omega,Bw.grown (hbw2) HG3.out (fun k hk => by cases hk;omega),(by have hs3:=HG3.out.size;(try have hs5:=HG5.out.size);refine ⟨fun ad e => ?_,fun ad e => ?_,fun o ho ad e => ?_⟩;(focus (first|(cases e;done)|(right;exact e.symm)|(left;cases e;dsimp only;simp only [szA,szS,szD,szN] at *;omega)|(left;cases e;dsimp only;omega)));(focus (first|(cases e;done)|(cases e;dsimp only;omega)|(cases e;dsimp only;simp only [szA,szS,szD,szN] at *;omega)));(focus (first|(cases ho;done)|(simp only [List.mem_singleton] at ho;subst ho;dsimp only at e;first|(cases e;done)|(cases e;dsimp only;omega))))),(fun hT => hT.up (show Bw w w3 from Bw.grown (show Bw w _ from BWX) HG3.out (fun k hk => by cases hk;omega))),(fun o ho => by first|(cases ho;done)|(simp only [List.mem_singleton] at ho;subst ho;exact TyA.none _)),(by simp only [beq_eq_false_iff_ne,ne_eq] at hg5 hg6;unfold nextN nextB;(repeat (first|rw [if_pos (by omega)]|rw [if_neg (by omega)]));try rfl)⟩
 ·go_upto_region 17 with ((go_at_call 100;refine (rin_any _ _ _ _).mono ?_;rintro ee ww ⟨rfl,rfl⟩;(first|rw [inB_yes (by omega) (by omega)]|rw [inB_no (by omega)])))
  go_wp2_with (first
   | ((with_reducible refine wpList_store_scn md pv A n c (w.heap.size + 1) (.tmp 4) (.tmp 77) rfl rfl ?_ ?_ ?_ ?_);(focus rfl);(focus rfl);(focus (exact HB1.out));intro w3 hS3 hg3;have HS3:=Lib.hid hS3;have HG3:=Lib.hid hg3;clear hS3 hg3)
   | (go_at_call 100;refine (rin_any _ _ _ _).mono ?_;rintro ee ww ⟨rfl,rfl⟩;(first|rw [inB_yes (by omega) (by omega)]|rw [inB_no (by omega)]))
   | fail)
  refine bodyPost_ret (results_scn rfl _ _ (w.heap.size + 1) md pv A n c (by rfl) HS3.out) rfl ?_
  exact ⟨md,pv,A,n,c,xs,none,0,0,[],rfl,HOk1.out.far0 HG3.out (fun h0 ad e => by have:=HXA.out h0 ad e;intro e2;have:=Option.some.inj e2;omega),OpsL.nil_ _,by omega,by omega,by omega,Bw.grown (hbw2) HG3.out (fun k hk => by cases hk;omega),(by have hs3:=HG3.out.size;(try have hs5:=HG5.out.size);refine ⟨fun ad e => ?_,fun ad e => ?_,fun o ho ad e => ?_⟩;(focus (first|(cases e;done)|(right;exact e.symm)|(left;cases e;dsimp only;simp only [szA,szS,szD,szN] at *;omega)|(left;cases e;dsimp only;omega)));(focus (first|(cases e;done)|(cases e;dsimp only;omega)|(cases e;dsimp only;simp only [szA,szS,szD,szN] at *;omega)));(focus (first|(cases ho;done)|(simp only [List.mem_singleton] at ho;subst ho;dsimp only at e;first|(cases e;done)|(cases e;dsimp only;omega))))),(fun hT => hT.up (show Bw w w3 from Bw.grown (show Bw w _ from BWX) HG3.out (fun k hk => by cases hk;omega))),(fun o ho => by first|(cases ho;done)|(simp only [List.mem_singleton] at ho;subst ho;exact TyA.none _)),(by simp only [beq_eq_false_iff_ne,ne_eq] at h24 h26 h27 h127 hg5 hg6;unfold nextN nextB;(repeat (first|rw [if_pos (by omega)]|rw [if_neg (by omega)]));try rfl)⟩
 ·go_upto_region 19 with ((go_at_call 100;refine (rin_any _ _ _ _).mono ?_;rintro ee ww ⟨rfl,rfl⟩;(first|rw [inB_yes (by omega) (by omega)]|rw [inB_no (by omega)])))
  go_wp2_with (first
   | ((with_reducible refine wpList_store_scn md pv A n c (w.heap.size + 1) (.tmp 4) (.tmp 81) rfl rfl ?_ ?_ ?_ ?_);(focus rfl);(focus rfl);(focus (exact Exists.elim HB1.out (fun old h => ⟨old,h.1.up BWX,h.2⟩)));intro w3 hS3 hg3;have HS3:=Lib.hid hS3;have HG3:=Lib.hid hg3;clear hS3 hg3)
   | (go_at_call 100;refine (rin_any _ _ _ _).mono ?_;rintro ee ww ⟨rfl,rfl⟩;(first|rw [inB_yes (by omega) (by omega)]|rw [inB_no (by omega)]))
   | fail)
  refine bodyPost_ret (results_scn rfl _ _ (w.heap.size + 1) md pv A n c (by rfl) HS3.out) rfl ?_
  exact ⟨md,pv,A,n,c,xs,some ⟨_,0,none⟩,1,1,[⟨2,code,0,none,0,0,[]⟩],rfl,(HOk1.out.up (show Bw wv (wv.alloc (.cells #[.int .i64 2,.int .i64 code,.int .i64 0,.slice none 0 0] 109)) from BWX)).far0 HG3.out (fun h0 ad e => by have:=HXA.out h0 ad e;intro e2;have:=Option.some.inj e2;omega),OpsL.one ⟨2,code,0,none,0,0,[]⟩ ((show Sb (World.alloc wv (.cells #[.int .i64 2,.int .i64 code,.int .i64 0,.slice none 0 0] 109)) _ _ 109 from heap_at rfl).far HG3.out (by intro e;have:=Option.some.inj e;omega)) ⟨Rd.nil_ _ none,Nat.le_refl _,by show 0 ≤ 9223372036854775807;omega,by show 0 ≤ 1000;omega⟩,by omega,by omega,by omega,Bw.grown (show Bw w _ from BWX) HG3.out (fun k hk => by cases hk;omega),(by have hs3:=HG3.out.size;(try have hs5:=HG5.out.size);refine ⟨fun ad e => ?_,fun ad e => ?_,fun o ho ad e => ?_⟩;(focus (first|(cases e;done)|(right;exact e.symm)|(left;cases e;dsimp only;simp only [szA,szS,szD,szN] at *;omega)|(left;cases e;dsimp only;omega)));(focus (first|(cases e;done)|(cases e;dsimp only;omega)|(cases e;dsimp only;simp only [szA,szS,szD,szN] at *;omega)));(focus (first|(cases ho;done)|(simp only [List.mem_singleton] at ho;subst ho;dsimp only at e;first|(cases e;done)|(cases e;dsimp only;omega))))),(fun hT => hT.up (show Bw w w3 from Bw.grown (show Bw w _ from BWX) HG3.out (fun k hk => by cases hk;omega))),(fun o ho => by first|(cases ho;done)|(simp only [List.mem_singleton] at ho;subst ho;exact TyA.none _)),(by simp only [beq_eq_false_iff_ne,ne_eq] at h24 h26 h27 h127 hg5 hg6;unfold nextN nextB;(repeat (first|rw [if_pos (by omega)]|rw [if_neg (by omega)]));try rfl)⟩
end Go.Proofs.YteebdjmjeahccaaGreatDoor
