/- Parts of the proof, one after the other. -/
import Derived.Test.YtkflooljdopldaaGreatV16
set_option linter.unusedSimpArgs false
set_option linter.unusedVariables false
/- Scanners: the reference's csi: digit. -/
namespace Go.Proofs.YtkflooljdopldaaGreat
open Go.RowKit
set_option maxRecDepth 100000 in
set_option maxHeartbeats 4000000 in
theorem rcsi14_digit (code pv : Int) (A : Option Addr) (n c : Nat) (xs : List Int) (w : World) (h : ScnOk w 3 pv A n c xs) (h1 : 48 ≤ code) (h2 : code ≤ 57) : Calls Tryz.prog 103 #[.agg #[.int .i64 3,.int .i64 pv,.slice A n c],.int .i64 code] w (Nxt w A):=by
 have Zh1:=Lib.hid h1
 clear h1
 have Zh2:=Lib.hid h2
 clear h2
 obtain ⟨hx,hn,hc,hv⟩:=h
 obtain ⟨hn1,hn16,hpv,hp⟩ : 1 ≤ n ∧ n ≤ 16 ∧ (pv = 0 ∨ (60 ≤ pv ∧ pv ≤ 63)) ∧ ∀ x ∈ xs,0 ≤ x ∧ x ≤ 9999:=by
  rcases hv with h|h
  ·exact absurd rfl h.1
  ·exact h.2
 have HX:=Lib.hid hx
 have HP:=Lib.hid hp
 have HPV:=Lib.hid hpv
 have HXA:=Lib.hid (show ∀ ad,A = some ad → 0 < n → ad.block < w.heap.size from fun ad e h0 => by
  obtain ⟨g,o,e2,h⟩:=hx.2 h0
  have h1:=lt_of_cell (h 0 (by rw [hx.1];exact h0))
  rw [e] at e2
  cases e2
  exact h1)
 clear hx hp hpv hv
 obtain ⟨i0,hi,hi0,hi1,hi2⟩:=info_parts infoI
 have hxl : xs.length = n:=HX.out.1
 go_enter Tryz.func103,Tryz.ntmps103
 go_upto_region 1 with (fail)
 generalize hw1 : (w.alloc (.cells #[.int .i64 3,.int .i64 pv,.slice A n c] 39)).alloc _ = w1
 obtain ⟨hb0,hb1,hbw,hz⟩:=sb2 hw1
 have HB0:=Lib.hid hb0
 have HB1:=Lib.hid (show ∃ old,Sb w1 (w.heap.size + 1) old 39 ∧ old.size = 3 from ⟨_,hb1,rfl⟩)
 have hz1 : w.heap.size + 1 < w1.heap.size:=by omega
 have hz0 : w.heap.size < w1.heap.size:=by omega
 have y2:=HB0.out.cell 2 (v:=.slice A n c) rfl
 clear hw1 hb0 hb1 hz
 go_upto_region 2 with (first
  | (at_builtin;refine wpList_append_srcG (by rfl) (.tmp 8) (.tmp 10) 22 rfl w1.heap.size 3 i0 (.int .i64 0) 1 8 Tryz.underlying22 hi hi0 hi1 hi2 rfl (by decide) (.slice (some ⟨w1.heap.size,0,none⟩) 0 0) 0 [] (by rfl) (own_made rfl (Nat.le_refl _)) A n c (xs.map (.int .i64)) (by rfl) (by rw [List.length_map,hxl];omega) (fun e => (HX.out.none_ e).1) (Rd.news2 (by exact HX.out.up BWX)) (one_map (fun _ => rfl) _) (by unfold maxLen;omega) (by omega) SZX ?_;intro v1 w2 hown hg2;simp only [Nat.zero_add,List.nil_append] at hown;have hb2 : Bw w1 w2:=Bw.grown (show Bw w1 (w1.alloc (.cells #[] 3)) from BWX) hg2 (fun k hk => by have e:=Option.some.inj (show some w1.heap.size = some k from hk);omega);have HOWN:=Lib.hid hown;have HB2:=Lib.hid hb2;clear hown hg2 hb2)
  | fail)
 obtain ⟨gp,cp,rfl,hgp,hgp2⟩:=HOWN.out.form (by omega)
 have hb2:=HB2.out
 have HB0':=Lib.hid (HB0.out.up hb2)
 have HB1':=Lib.hid (Exists.elim HB1.out (fun old h => (⟨old,h.1.up hb2,h.2⟩ : ∃ old,Sb w2 (w.heap.size + 1) old 39 ∧ old.size = 3)))
 have hbw2 : Bw w w2:=Bw.trans hbw hb2
 have hz2 : w.heap.size + 1 < w2.heap.size:=by have:=hb2.size;omega
 have hz02 : w.heap.size < w2.heap.size:=by omega
 have hcp:=own_form HOWN.out
 obtain ⟨A_,c_,e_,hcp1,hcp2⟩:=hcp
 cases e_
 clear HB2 y2 HB0 HB1 hb2
 have y1:=HB0'.out.cell 1 (v:=.int .i64 pv) rfl
 have y2:=HB0'.out.cell 2 (v:=.slice A n c) rfl
 obtain ⟨k,hk⟩ : ∃ k : Nat,n = k + 1:=⟨n - 1,by omega⟩
 have hk1 : (n : Int) - 1 = (k : Int):=by omega
 have hkn : k < n:=by omega
 have HK:=Lib.hid hk
 clear hk
 have h1:=Zh1.out
 have h2:=Zh2.out
 have hcx : w2.cell? ⟨gp,k,none⟩ = some (.int .i64 (xs[k]'(by omega))):=by
  have h:=(own_rd HOWN.out).2 (by omega)
  obtain ⟨g,o,e,h⟩:=h
  cases e
  simpa using h k (by omega)
 obtain ⟨x,hxx⟩ : ∃ x,xs[k]'(by omega) = x:=⟨_,rfl⟩
 rw [hxx] at hcx
 obtain ⟨hx0,hx9⟩:=HP.out x (hxx ▸ List.getElem_mem (by omega))
 have hfz:=HOWN.out.frozenAt k
 have HD:=Lib.hid (show 0 ≤ min (10 * x + code - 48) 9999 ∧ min (10 * x + code - 48) 9999 ≤ 9999 from by omega)
 clear hxx
 go_upto_region 5 with ((go_at_call 102;refine (rin_any _ _ _ _).mono ?_;rintro ee ww ⟨rfl,rfl⟩;(first|rw [inB_yes (by omega) (by omega)]|rw [inB_no (by omega)])))
 obtain ⟨y,hy⟩ : ∃ y,(if 9999 < 10 * x + code - 48 then 9999 else 10 * x + code - 48) = y:=⟨_,rfl⟩
 have hy0 : 0 ≤ y ∧ y ≤ 9999:=by subst hy;split <;> omega
 have HY0:=Lib.hid hy0
 simp only [hy]
 clear hy0 hy HD
 obtain ⟨hOS,hGS⟩:=HOWN.out.stored k (.int .i64 y)
 have e1 : (xs.map (Value.int .i64)).set k (.int .i64 y) = (xs.set k y).map (Value.int .i64):=by rw [List.map_set]
 rw [e1] at hOS
 generalize hw5 : w2.setCell ⟨gp,k,none⟩ (.int .i64 y) = w5
 rw [hw5] at hOS hGS
 have HOS:=Lib.hid hOS
 have hbw5 : Bw w w5:=Bw.grown hbw2 hGS (fun k hk => by have e:=Option.some.inj hk;omega)
 have HB05:=Lib.hid (HB0'.out.far hGS (by intro e;have:=Option.some.inj e;omega))
 have HB15:=Lib.hid (Exists.elim HB1'.out (fun old h => (⟨old,h.1.far hGS (by intro e;have:=Option.some.inj e;omega),h.2⟩ : ∃ old,Sb w5 (w.heap.size + 1) old 39 ∧ old.size = 3)))
 clear y1 y2 hcx hw5 hOS hGS e1
 have y1:=HB05.out.cell 1 (v:=.int .i64 pv) rfl
 go_wp2_with (first
  | ((with_reducible refine wpList_store_scn 3 pv (some ⟨gp,0,none⟩) n cp (w.heap.size + 1) (.tmp 4) (.tmp 33) rfl rfl ?_ ?_ ?_ ?_);(focus rfl);(focus rfl);(focus (exact HB15.out));intro w3 hS3 hg3;have HS3:=Lib.hid hS3;have HG3:=Lib.hid hg3;clear hS3 hg3)
  | fail)
 refine bodyPost_ret (results_scn rfl _ _ (w.heap.size + 1) 3 pv (some ⟨gp,0,none⟩) n cp (by rfl) HS3.out) rfl ?_
 have hO3:=HOS.out.kept HG3.out (.inr (by simp only [Value.ownBlock];intro e;have:=Option.some.inj e;omega))
 exact ⟨3,pv,some ⟨gp,0,none⟩,n,cp,xs.set k y,none,0,0,[],rfl,⟨own_rd hO3,hcp1,hcp2,.inr ⟨rfl,hn1,hn16,HPV.out,fun z hz => by
  rcases List.mem_or_eq_of_mem_set hz with h|rfl
  ·exact HP.out z h
  ·exact HY0.out⟩⟩,OpsL.nil_ _,by omega,by omega,by omega,Bw.grown hbw5 HG3.out (fun k hk => by cases hk;omega),(by have hs3:=HG3.out.size;(try have hs5:=HG5.out.size);refine ⟨fun ad e => ?_,fun ad e => ?_,fun o ho ad e => ?_⟩;(focus (first|(cases e;done)|(right;exact e.symm)|(left;cases e;dsimp only;simp only [szA,szS,szD,szN] at *;omega)|(left;cases e;dsimp only;omega)));(focus (first|(cases e;done)|(cases e;dsimp only;omega)|(cases e;dsimp only;simp only [szA,szS,szD,szN] at *;omega)));(focus (first|(cases ho;done)|(simp only [List.mem_singleton] at ho;subst ho;dsimp only at e;first|(cases e;done)|(cases e;dsimp only;omega))))),fun _ => TyA.own hO3,fun o ho => by cases ho⟩
set_option maxRecDepth 100000 in
set_option maxHeartbeats 4000000 in
theorem rcsi14_colon (code pv : Int) (A : Option Addr) (n c : Nat) (xs : List Int) (w : World) (h : ScnOk w 3 pv A n c xs) (hn16' : n < 16) (hcode : code = 59) : Calls Tryz.prog 103 #[.agg #[.int .i64 3,.int .i64 pv,.slice A n c],.int .i64 code] w (Nxt w A):=by
 have Zhn16_:=Lib.hid hn16'
 clear hn16'
 have Zhcode:=Lib.hid hcode
 clear hcode
 obtain ⟨hx,hn,hc,hv⟩:=h
 obtain ⟨hn1,hn16,hpv,hp⟩ : 1 ≤ n ∧ n ≤ 16 ∧ (pv = 0 ∨ (60 ≤ pv ∧ pv ≤ 63)) ∧ ∀ x ∈ xs,0 ≤ x ∧ x ≤ 9999:=by
  rcases hv with h|h
  ·exact absurd rfl h.1
  ·exact h.2
 have HX:=Lib.hid hx
 have HP:=Lib.hid hp
 have HPV:=Lib.hid hpv
 have HXA:=Lib.hid (show ∀ ad,A = some ad → 0 < n → ad.block < w.heap.size from fun ad e h0 => by
  obtain ⟨g,o,e2,h⟩:=hx.2 h0
  have h1:=lt_of_cell (h 0 (by rw [hx.1];exact h0))
  rw [e] at e2
  cases e2
  exact h1)
 clear hx hp hpv hv
 obtain ⟨i0,hi,hi0,hi1,hi2⟩:=info_parts infoI
 have hxl : xs.length = n:=HX.out.1
 go_enter Tryz.func103,Tryz.ntmps103
 go_upto_region 1 with (fail)
 generalize hw1 : (w.alloc (.cells #[.int .i64 3,.int .i64 pv,.slice A n c] 39)).alloc _ = w1
 obtain ⟨hb0,hb1,hbw,hz⟩:=sb2 hw1
 have HB0:=Lib.hid hb0
 have HB1:=Lib.hid (show ∃ old,Sb w1 (w.heap.size + 1) old 39 ∧ old.size = 3 from ⟨_,hb1,rfl⟩)
 have hz1 : w.heap.size + 1 < w1.heap.size:=by omega
 have hz0 : w.heap.size < w1.heap.size:=by omega
 have y2:=HB0.out.cell 2 (v:=.slice A n c) rfl
 clear hw1 hb0 hb1 hz
 go_upto_region 2 with (first
  | (at_builtin;refine wpList_append_srcG (by rfl) (.tmp 8) (.tmp 10) 22 rfl w1.heap.size 3 i0 (.int .i64 0) 1 8 Tryz.underlying22 hi hi0 hi1 hi2 rfl (by decide) (.slice (some ⟨w1.heap.size,0,none⟩) 0 0) 0 [] (by rfl) (own_made rfl (Nat.le_refl _)) A n c (xs.map (.int .i64)) (by rfl) (by rw [List.length_map,hxl];omega) (fun e => (HX.out.none_ e).1) (Rd.news2 (by exact HX.out.up BWX)) (one_map (fun _ => rfl) _) (by unfold maxLen;omega) (by omega) SZX ?_;intro v1 w2 hown hg2;simp only [Nat.zero_add,List.nil_append] at hown;have hb2 : Bw w1 w2:=Bw.grown (show Bw w1 (w1.alloc (.cells #[] 3)) from BWX) hg2 (fun k hk => by have e:=Option.some.inj (show some w1.heap.size = some k from hk);omega);have HOWN:=Lib.hid hown;have HB2:=Lib.hid hb2;clear hown hg2 hb2)
  | fail)
 obtain ⟨gp,cp,rfl,hgp,hgp2⟩:=HOWN.out.form (by omega)
 have hb2:=HB2.out
 have HB0':=Lib.hid (HB0.out.up hb2)
 have HB1':=Lib.hid (Exists.elim HB1.out (fun old h => (⟨old,h.1.up hb2,h.2⟩ : ∃ old,Sb w2 (w.heap.size + 1) old 39 ∧ old.size = 3)))
 have hbw2 : Bw w w2:=Bw.trans hbw hb2
 have hz2 : w.heap.size + 1 < w2.heap.size:=by have:=hb2.size;omega
 have hz02 : w.heap.size < w2.heap.size:=by omega
 have hcp:=own_form HOWN.out
 obtain ⟨A_,c_,e_,hcp1,hcp2⟩:=hcp
 cases e_
 clear HB2 y2 HB0 HB1 hb2
 have y1:=HB0'.out.cell 1 (v:=.int .i64 pv) rfl
 have y2:=HB0'.out.cell 2 (v:=.slice A n c) rfl
 obtain ⟨k,hk⟩ : ∃ k : Nat,n = k + 1:=⟨n - 1,by omega⟩
 have hk1 : (n : Int) - 1 = (k : Int):=by omega
 have hkn : k < n:=by omega
 have HK:=Lib.hid hk
 clear hk
 have hn16':=Zhn16_.out
 have hcode:=Zhcode.out
 subst hcode
 have hY:=(show ∀ w',Bw w2 w' → (w'.cell? ⟨w.heap.size,1,none⟩ = some (.int .i64 pv)) from fun w' hb => cell_up y1 hb)
 have hYg:=(show ∀ w' w'',Bw w2 w' → w'.grownBy w'' (some gp) → (w''.cell? ⟨w.heap.size,1,none⟩ = some (.int .i64 pv)) from fun w' w'' hb hg => cell_far (cell_up y1 hb) hg (by intro e;have:=Option.some.inj e;omega))
 have HY:=Lib.hid hY
 have HYg:=Lib.hid hYg
 clear hY hYg y2
 go_upto_region 7 with ((go_at_call 102;refine (rin_any _ _ _ _).mono ?_;rintro ee ww ⟨rfl,rfl⟩;(first|rw [inB_yes (by omega) (by omega)]|rw [inB_no (by omega)])))
 clear y1
 refine wp_region_held_drew (S:=(fun w' => w'.cell? ⟨w.heap.size,1,none⟩ = some (.int .i64 pv))) (by kernel_rfl) ?_ (fun hHeld => ?_)
 ·(try dsimp only);(first|(refine HY.out _ ?_;(repeat (first|with_reducible (first|assumption|exact Bw.refl _|refine Bw.alloc ?_ _|refine Bw.more ?_ _ _|refine Bw.drew ?_|refine Bw.drewN ?_ _)|((with_reducible refine Bw.set2 ?_ ?_ _);(focus exact SZX))|with_reducible refine Bw.trans ?_ (by assumption)));done)|exact hHeld|(exact HYg.out _ _ BWX HG5.out)|(exact cell_far hHeld HG3.out (by intro e;have:=Option.some.inj e;omega))|(refine cell_up hHeld ?_;(repeat (first|with_reducible (first|assumption|exact Bw.refl _|refine Bw.alloc ?_ _|refine Bw.more ?_ _ _|refine Bw.drew ?_|refine Bw.drewN ?_ _)|((with_reducible refine Bw.set2 ?_ ?_ _);(focus exact SZX))|with_reducible refine Bw.trans ?_ (by assumption)));done))
 refine tkQ 0 ?_
 refine tkQ 1 ?_
 refine tkQ 2 ?_
 (try simp only [Act.put,zP1,zP2,zP3,zP4,zP5,zP6])
 refine wpAnyH_ready (rs:=[3]) (by kernel_rfl) (by simp) ?_
 refine AllReadyH.cons rfl (fun K hK => ?_) ?_
 ·go_simp
  refine hK.out _ _ ?_ (fun hHeld => ?_)
  ·(try dsimp only);(first|(refine HY.out _ ?_;(repeat (first|with_reducible (first|assumption|exact Bw.refl _|refine Bw.alloc ?_ _|refine Bw.more ?_ _ _|refine Bw.drew ?_|refine Bw.drewN ?_ _)|((with_reducible refine Bw.set2 ?_ ?_ _);(focus exact SZX))|with_reducible refine Bw.trans ?_ (by assumption)));done)|exact hHeld|(exact HYg.out _ _ BWX HG5.out)|(exact cell_far hHeld HG3.out (by intro e;have:=Option.some.inj e;omega))|(refine cell_up hHeld ?_;(repeat (first|with_reducible (first|assumption|exact Bw.refl _|refine Bw.alloc ?_ _|refine Bw.more ?_ _ _|refine Bw.drew ?_|refine Bw.drewN ?_ _)|((with_reducible refine Bw.set2 ?_ ?_ _);(focus exact SZX))|with_reducible refine Bw.trans ?_ (by assumption)));done))
  clear hK K
  (try simp only [Act.put,zP1,zP2,zP3,zP4,zP5,zP6])
  refine wpAnyH_ready (rs:=[4]) (by kernel_rfl) (by simp) ?_
  refine AllReadyH.cons rfl (fun K hK => ?_) ?_
  ·refine step_append_srcG (by rfl) (.tmp 44) (.tmp 45) 22 rfl w1.heap.size 3 i0 (.int .i64 0) 1 8 Tryz.underlying22 hi hi0 hi1 hi2 rfl (by decide) (.slice (some ⟨gp,0,none⟩) n cp) n (xs.map (.int .i64)) (by rfl) (HOWN.out.bw BWX) (some ⟨_,0,none⟩) 1 1 [.int .i64 0] (by rfl) rfl (fun e => by cases e) (fun ad e => by cases e;exact World.news_of_block (cs:=#[.int .i64 0]) (heap_at (by simp))) (by intro u hu;simp only [List.mem_singleton] at hu;subst hu;rfl) (by unfold maxLen;omega) (by omega) SZX ?_;intro v5 w5 hown5 hg5;have hg5' : World.grownBy _ w5 (some gp):=hg5;have HG5:=Lib.hid hg5';have HO5:=Lib.hid hown5;clear hown5 hg5 hg5';obtain ⟨g5,c5,rfl,hg5,hg5'⟩:=HO5.out.form (by omega)
   refine hK.out _ _ ?_ (fun hHeld => ?_)
   ·(try dsimp only);(first|(refine HY.out _ ?_;(repeat (first|with_reducible (first|assumption|exact Bw.refl _|refine Bw.alloc ?_ _|refine Bw.more ?_ _ _|refine Bw.drew ?_|refine Bw.drewN ?_ _)|((with_reducible refine Bw.set2 ?_ ?_ _);(focus exact SZX))|with_reducible refine Bw.trans ?_ (by assumption)));done)|exact hHeld|(exact HYg.out _ _ BWX HG5.out)|(exact cell_far hHeld HG3.out (by intro e;have:=Option.some.inj e;omega))|(refine cell_up hHeld ?_;(repeat (first|with_reducible (first|assumption|exact Bw.refl _|refine Bw.alloc ?_ _|refine Bw.more ?_ _ _|refine Bw.drew ?_|refine Bw.drewN ?_ _)|((with_reducible refine Bw.set2 ?_ ?_ _);(focus exact SZX))|with_reducible refine Bw.trans ?_ (by assumption)));done))
   clear hK K
   (try simp only [Act.put,zP1,zP2,zP3,zP4,zP5,zP6])
   refine wpAnyH_ready (rs:=[5]) (by kernel_rfl) (by simp) ?_
   refine AllReadyH.cons rfl (fun K hK => ?_) ?_
   ·go_simp
    refine hK.out _ _ ?_ (fun hHeld => ?_)
    ·(try dsimp only);(first|(refine HY.out _ ?_;(repeat (first|with_reducible (first|assumption|exact Bw.refl _|refine Bw.alloc ?_ _|refine Bw.more ?_ _ _|refine Bw.drew ?_|refine Bw.drewN ?_ _)|((with_reducible refine Bw.set2 ?_ ?_ _);(focus exact SZX))|with_reducible refine Bw.trans ?_ (by assumption)));done)|exact hHeld|(exact HYg.out _ _ BWX HG5.out)|(exact cell_far hHeld HG3.out (by intro e;have:=Option.some.inj e;omega))|(refine cell_up hHeld ?_;(repeat (first|with_reducible (first|assumption|exact Bw.refl _|refine Bw.alloc ?_ _|refine Bw.more ?_ _ _|refine Bw.drew ?_|refine Bw.drewN ?_ _)|((with_reducible refine Bw.set2 ?_ ?_ _);(focus exact SZX))|with_reducible refine Bw.trans ?_ (by assumption)));done))
    clear hK K
    (try simp only [Act.put,zP1,zP2,zP3,zP4,zP5,zP6])
    refine wpAnyH_ready (rs:=[6]) (by kernel_rfl) (by simp) ?_
    refine AllReadyH.cons rfl (fun K hK => ?_) ?_
    ·(refine (if_pos (by kernel_rfl)).mpr ?_);(with_reducible refine wp_store_scn 3 pv (some ⟨g5,0,none⟩) (n + 1) c5 (w.heap.size + 1) (.tmp 4) (.tmp 47) ?ho ?_ ?_ ?_ ?_);(case ho => rfl);(focus rfl);(focus rfl);(focus (exact Exists.elim HB1'.out (fun old h => ⟨old,(h.1.up (show Bw w2 _ from BWX)).far HG5.out (by intro e;have:=Option.some.inj e;omega),h.2⟩)));intro w3 hS3 hg3;have HS3:=Lib.hid hS3;have HG3:=Lib.hid hg3;clear hS3 hg3
     refine hK.out _ _ ?_ (fun hHeld => ?_)
     ·(try dsimp only);(first|(refine HY.out _ ?_;(repeat (first|with_reducible (first|assumption|exact Bw.refl _|refine Bw.alloc ?_ _|refine Bw.more ?_ _ _|refine Bw.drew ?_|refine Bw.drewN ?_ _)|((with_reducible refine Bw.set2 ?_ ?_ _);(focus exact SZX))|with_reducible refine Bw.trans ?_ (by assumption)));done)|exact hHeld|(exact HYg.out _ _ BWX HG5.out)|(exact cell_far hHeld HG3.out (by intro e;have:=Option.some.inj e;omega))|(refine cell_up hHeld ?_;(repeat (first|with_reducible (first|assumption|exact Bw.refl _|refine Bw.alloc ?_ _|refine Bw.more ?_ _ _|refine Bw.drew ?_|refine Bw.drewN ?_ _)|((with_reducible refine Bw.set2 ?_ ?_ _);(focus exact SZX))|with_reducible refine Bw.trans ?_ (by assumption)));done))
     clear hK K
     (try simp only [Act.put,zP1,zP2,zP3,zP4,zP5,zP6])
     refine wpAnyH_ready (rs:=[7]) (by kernel_rfl) (by simp) ?_
     refine AllReadyH.cons rfl (fun K hK => ?_) ?_
     ·go_simp
      refine hK.out _ _ ?_ (fun hHeld => ?_)
      ·(try dsimp only);(first|(refine HY.out _ ?_;(repeat (first|with_reducible (first|assumption|exact Bw.refl _|refine Bw.alloc ?_ _|refine Bw.more ?_ _ _|refine Bw.drew ?_|refine Bw.drewN ?_ _)|((with_reducible refine Bw.set2 ?_ ?_ _);(focus exact SZX))|with_reducible refine Bw.trans ?_ (by assumption)));done)|exact hHeld|(exact HYg.out _ _ BWX HG5.out)|(exact cell_far hHeld HG3.out (by intro e;have:=Option.some.inj e;omega))|(refine cell_up hHeld ?_;(repeat (first|with_reducible (first|assumption|exact Bw.refl _|refine Bw.alloc ?_ _|refine Bw.more ?_ _ _|refine Bw.drew ?_|refine Bw.drewN ?_ _)|((with_reducible refine Bw.set2 ?_ ?_ _);(focus exact SZX))|with_reducible refine Bw.trans ?_ (by assumption)));done))
      clear hK K
      (try simp only [Act.put,zP1,zP2,zP3,zP4,zP5,zP6])
      refine wpAnyH_done (by kernel_rfl) ?_ _
      go_wp2_with fail
      refine bodyPost_ret (results_scn rfl _ _ (w.heap.size + 1) 3 pv (some ⟨g5,0,none⟩) (n + 1) c5 (by rfl) HS3.out) rfl ?_
      have hO3:=HO5.out.kept HG3.out (.inr (by simp only [Value.ownBlock];intro e;have:=Option.some.inj e;omega))
      have hf:=own_form HO5.out
      obtain ⟨A_,c_,e_,hc51,hc52⟩:=hf
      cases e_
      have e1 : xs.map (Value.int .i64) ++ [.int .i64 0] = (xs ++ [0]).map (Value.int .i64):=by simp
      rw [e1] at hO3
      have hb5 : Bw w w5:=Bw.grown (Bw.trans hbw2 (show Bw w2 _ from BWX)) HG5.out (fun k hk => by have e:=Option.some.inj hk;omega)
      exact ⟨3,pv,some ⟨g5,0,none⟩,n + 1,c5,xs ++ [0],none,0,0,[],rfl,⟨own_rd hO3,hc51,hc52,.inr ⟨rfl,by omega,by omega,HPV.out,fun z hz => by
       rcases List.mem_append.mp hz with h|h
       ·exact HP.out z h
       ·simp only [List.mem_singleton] at h;subst h;omega⟩⟩,OpsL.nil_ _,by omega,by omega,by omega,Bw.grown hb5 HG3.out (fun k hk => by cases hk;omega),(by have hs3:=HG3.out.size;(try have hs5:=HG5.out.size);refine ⟨fun ad e => ?_,fun ad e => ?_,fun o ho ad e => ?_⟩;(focus (first|(cases e;done)|(right;exact e.symm)|(left;cases e;dsimp only;simp only [szA,szS,szD,szN] at *;omega)|(left;cases e;dsimp only;omega)));(focus (first|(cases e;done)|(cases e;dsimp only;omega)|(cases e;dsimp only;simp only [szA,szS,szD,szN] at *;omega)));(focus (first|(cases ho;done)|(simp only [List.mem_singleton] at ho;subst ho;dsimp only at e;first|(cases e;done)|(cases e;dsimp only;omega))))),fun _ => TyA.own hO3,fun o ho => by cases ho⟩
     exact AllReadyH.nil
    exact AllReadyH.nil
   exact AllReadyH.nil
  exact AllReadyH.nil
 exact AllReadyH.nil
set_option maxRecDepth 100000 in
set_option maxHeartbeats 4000000 in
theorem rcsi14_full (code pv : Int) (A : Option Addr) (n c : Nat) (xs : List Int) (w : World) (h : ScnOk w 3 pv A n c xs) (hn16' : n = 16) (hcode : code = 59) : Calls Tryz.prog 103 #[.agg #[.int .i64 3,.int .i64 pv,.slice A n c],.int .i64 code] w (Nxt w A):=by
 have Zhn16_:=Lib.hid hn16'
 clear hn16'
 have Zhcode:=Lib.hid hcode
 clear hcode
 obtain ⟨hx,hn,hc,hv⟩:=h
 obtain ⟨hn1,hn16,hpv,hp⟩ : 1 ≤ n ∧ n ≤ 16 ∧ (pv = 0 ∨ (60 ≤ pv ∧ pv ≤ 63)) ∧ ∀ x ∈ xs,0 ≤ x ∧ x ≤ 9999:=by
  rcases hv with h|h
  ·exact absurd rfl h.1
  ·exact h.2
 have HX:=Lib.hid hx
 have HP:=Lib.hid hp
 have HPV:=Lib.hid hpv
 have HXA:=Lib.hid (show ∀ ad,A = some ad → 0 < n → ad.block < w.heap.size from fun ad e h0 => by
  obtain ⟨g,o,e2,h⟩:=hx.2 h0
  have h1:=lt_of_cell (h 0 (by rw [hx.1];exact h0))
  rw [e] at e2
  cases e2
  exact h1)
 clear hx hp hpv hv
 obtain ⟨i0,hi,hi0,hi1,hi2⟩:=info_parts infoI
 have hxl : xs.length = n:=HX.out.1
 go_enter Tryz.func103,Tryz.ntmps103
 go_upto_region 1 with (fail)
 generalize hw1 : (w.alloc (.cells #[.int .i64 3,.int .i64 pv,.slice A n c] 39)).alloc _ = w1
 obtain ⟨hb0,hb1,hbw,hz⟩:=sb2 hw1
 have HB0:=Lib.hid hb0
 have HB1:=Lib.hid (show ∃ old,Sb w1 (w.heap.size + 1) old 39 ∧ old.size = 3 from ⟨_,hb1,rfl⟩)
 have hz1 : w.heap.size + 1 < w1.heap.size:=by omega
 have hz0 : w.heap.size < w1.heap.size:=by omega
 have y2:=HB0.out.cell 2 (v:=.slice A n c) rfl
 clear hw1 hb0 hb1 hz
 go_upto_region 2 with (first
  | (at_builtin;refine wpList_append_srcG (by rfl) (.tmp 8) (.tmp 10) 22 rfl w1.heap.size 3 i0 (.int .i64 0) 1 8 Tryz.underlying22 hi hi0 hi1 hi2 rfl (by decide) (.slice (some ⟨w1.heap.size,0,none⟩) 0 0) 0 [] (by rfl) (own_made rfl (Nat.le_refl _)) A n c (xs.map (.int .i64)) (by rfl) (by rw [List.length_map,hxl];omega) (fun e => (HX.out.none_ e).1) (Rd.news2 (by exact HX.out.up BWX)) (one_map (fun _ => rfl) _) (by unfold maxLen;omega) (by omega) SZX ?_;intro v1 w2 hown hg2;simp only [Nat.zero_add,List.nil_append] at hown;have hb2 : Bw w1 w2:=Bw.grown (show Bw w1 (w1.alloc (.cells #[] 3)) from BWX) hg2 (fun k hk => by have e:=Option.some.inj (show some w1.heap.size = some k from hk);omega);have HOWN:=Lib.hid hown;have HB2:=Lib.hid hb2;clear hown hg2 hb2)
  | fail)
 obtain ⟨gp,cp,rfl,hgp,hgp2⟩:=HOWN.out.form (by omega)
 have hb2:=HB2.out
 have HB0':=Lib.hid (HB0.out.up hb2)
 have HB1':=Lib.hid (Exists.elim HB1.out (fun old h => (⟨old,h.1.up hb2,h.2⟩ : ∃ old,Sb w2 (w.heap.size + 1) old 39 ∧ old.size = 3)))
 have hbw2 : Bw w w2:=Bw.trans hbw hb2
 have hz2 : w.heap.size + 1 < w2.heap.size:=by have:=hb2.size;omega
 have hz02 : w.heap.size < w2.heap.size:=by omega
 have hcp:=own_form HOWN.out
 obtain ⟨A_,c_,e_,hcp1,hcp2⟩:=hcp
 cases e_
 clear HB2 y2 HB0 HB1 hb2
 have y1:=HB0'.out.cell 1 (v:=.int .i64 pv) rfl
 have y2:=HB0'.out.cell 2 (v:=.slice A n c) rfl
 obtain ⟨k,hk⟩ : ∃ k : Nat,n = k + 1:=⟨n - 1,by omega⟩
 have hk1 : (n : Int) - 1 = (k : Int):=by omega
 have hkn : k < n:=by omega
 have HK:=Lib.hid hk
 clear hk
 have hn16':=Zhn16_.out
 have hcode:=Zhcode.out
 subst hcode
 have hlt : ¬ (n : Int) < 16:=by omega
 go_upto_region 12 with ((go_at_call 102;refine (rin_any _ _ _ _).mono ?_;rintro ee ww ⟨rfl,rfl⟩;(first|rw [inB_yes (by omega) (by omega)]|rw [inB_no (by omega)])))
 go_wp2_with (first
  | (go_at_call 83;refine (rto_any 4 _).mono ?_;rintro ee wt ⟨rfl,hbt⟩;have hbt':=Lib.hid hbt;clear hbt)
  | ((with_reducible refine wpList_store_scn 4 0 none 0 0 (w.heap.size + 1) (.tmp 4) (.tmp 80) rfl rfl ?_ ?_ ?_ ?_);(focus rfl);(focus rfl);(focus (exact Exists.elim HB1'.out (fun old h => ⟨old,h.1.up hbt'.out,h.2⟩)));intro w3 hS3 hg3;have HS3:=Lib.hid hS3;have HG3:=Lib.hid hg3;clear hS3 hg3)
  | fail)
 refine bodyPost_ret (results_scn rfl _ _ (w.heap.size + 1) 4 0 none 0 0 (by rfl) HS3.out) rfl ?_
 exact ⟨4,0,none,0,0,[],none,0,0,[],rfl,ScnOk.to _ _ (by omega),OpsL.nil_ _,by omega,by omega,by omega,Bw.grown (Bw.trans hbw2 hbt'.out) HG3.out (fun k hk => by cases hk;omega),(by have hs3:=HG3.out.size;(try have hs5:=HG5.out.size);refine ⟨fun ad e => ?_,fun ad e => ?_,fun o ho ad e => ?_⟩;(focus (first|(cases e;done)|(right;exact e.symm)|(left;cases e;dsimp only;simp only [szA,szS,szD,szN] at *;omega)|(left;cases e;dsimp only;omega)));(focus (first|(cases e;done)|(cases e;dsimp only;omega)|(cases e;dsimp only;simp only [szA,szS,szD,szN] at *;omega)));(focus (first|(cases ho;done)|(simp only [List.mem_singleton] at ho;subst ho;dsimp only at e;first|(cases e;done)|(cases e;dsimp only;omega))))),fun _ => TyA.none _,fun o ho => by cases ho⟩

set_option maxRecDepth 100000 in
set_option maxHeartbeats 4000000 in
theorem rcsi14_other (code pv : Int) (A : Option Addr) (n c : Nat) (xs : List Int) (w : World) (h : ScnOk w 3 pv A n c xs) (h1 : code < 48 ∨ code = 58) (h59 : (code == 59) = false) : Calls Tryz.prog 103 #[.agg #[.int .i64 3,.int .i64 pv,.slice A n c],.int .i64 code] w (Nxt w A):=by
 have Zh1:=Lib.hid h1
 clear h1
 have Zh59:=Lib.hid h59
 clear h59
 obtain ⟨hx,hn,hc,hv⟩:=h
 obtain ⟨hn1,hn16,hpv,hp⟩ : 1 ≤ n ∧ n ≤ 16 ∧ (pv = 0 ∨ (60 ≤ pv ∧ pv ≤ 63)) ∧ ∀ x ∈ xs,0 ≤ x ∧ x ≤ 9999:=by
  rcases hv with h|h
  ·exact absurd rfl h.1
  ·exact h.2
 have HX:=Lib.hid hx
 have HP:=Lib.hid hp
 have HPV:=Lib.hid hpv
 have HXA:=Lib.hid (show ∀ ad,A = some ad → 0 < n → ad.block < w.heap.size from fun ad e h0 => by
  obtain ⟨g,o,e2,h⟩:=hx.2 h0
  have h1:=lt_of_cell (h 0 (by rw [hx.1];exact h0))
  rw [e] at e2
  cases e2
  exact h1)
 clear hx hp hpv hv
 obtain ⟨i0,hi,hi0,hi1,hi2⟩:=info_parts infoI
 have hxl : xs.length = n:=HX.out.1
 go_enter Tryz.func103,Tryz.ntmps103
 go_upto_region 1 with (fail)
 generalize hw1 : (w.alloc (.cells #[.int .i64 3,.int .i64 pv,.slice A n c] 39)).alloc _ = w1
 obtain ⟨hb0,hb1,hbw,hz⟩:=sb2 hw1
 have HB0:=Lib.hid hb0
 have HB1:=Lib.hid (show ∃ old,Sb w1 (w.heap.size + 1) old 39 ∧ old.size = 3 from ⟨_,hb1,rfl⟩)
 have hz1 : w.heap.size + 1 < w1.heap.size:=by omega
 have hz0 : w.heap.size < w1.heap.size:=by omega
 have y2:=HB0.out.cell 2 (v:=.slice A n c) rfl
 clear hw1 hb0 hb1 hz
 go_upto_region 2 with (first
  | (at_builtin;refine wpList_append_srcG (by rfl) (.tmp 8) (.tmp 10) 22 rfl w1.heap.size 3 i0 (.int .i64 0) 1 8 Tryz.underlying22 hi hi0 hi1 hi2 rfl (by decide) (.slice (some ⟨w1.heap.size,0,none⟩) 0 0) 0 [] (by rfl) (own_made rfl (Nat.le_refl _)) A n c (xs.map (.int .i64)) (by rfl) (by rw [List.length_map,hxl];omega) (fun e => (HX.out.none_ e).1) (Rd.news2 (by exact HX.out.up BWX)) (one_map (fun _ => rfl) _) (by unfold maxLen;omega) (by omega) SZX ?_;intro v1 w2 hown hg2;simp only [Nat.zero_add,List.nil_append] at hown;have hb2 : Bw w1 w2:=Bw.grown (show Bw w1 (w1.alloc (.cells #[] 3)) from BWX) hg2 (fun k hk => by have e:=Option.some.inj (show some w1.heap.size = some k from hk);omega);have HOWN:=Lib.hid hown;have HB2:=Lib.hid hb2;clear hown hg2 hb2)
  | fail)
 obtain ⟨gp,cp,rfl,hgp,hgp2⟩:=HOWN.out.form (by omega)
 have hb2:=HB2.out
 have HB0':=Lib.hid (HB0.out.up hb2)
 have HB1':=Lib.hid (Exists.elim HB1.out (fun old h => (⟨old,h.1.up hb2,h.2⟩ : ∃ old,Sb w2 (w.heap.size + 1) old 39 ∧ old.size = 3)))
 have hbw2 : Bw w w2:=Bw.trans hbw hb2
 have hz2 : w.heap.size + 1 < w2.heap.size:=by have:=hb2.size;omega
 have hz02 : w.heap.size < w2.heap.size:=by omega
 have hcp:=own_form HOWN.out
 obtain ⟨A_,c_,e_,hcp1,hcp2⟩:=hcp
 cases e_
 clear HB2 y2 HB0 HB1 hb2
 have y1:=HB0'.out.cell 1 (v:=.int .i64 pv) rfl
 have y2:=HB0'.out.cell 2 (v:=.slice A n c) rfl
 obtain ⟨k,hk⟩ : ∃ k : Nat,n = k + 1:=⟨n - 1,by omega⟩
 have hk1 : (n : Int) - 1 = (k : Int):=by omega
 have hkn : k < n:=by omega
 have HK:=Lib.hid hk
 clear hk
 have h1:=Zh1.out
 have h59:=Zh59.out
 go_upto_region 12 with ((go_at_call 102;refine (rin_any _ _ _ _).mono ?_;rintro ee ww ⟨rfl,rfl⟩;(first|rw [inB_yes (by omega) (by omega)]|rw [inB_no (by omega)])))
 go_wp2_with (first
  | (go_at_call 83;refine (rto_any 4 _).mono ?_;rintro ee wt ⟨rfl,hbt⟩;have hbt':=Lib.hid hbt;clear hbt)
  | ((with_reducible refine wpList_store_scn 4 0 none 0 0 (w.heap.size + 1) (.tmp 4) (.tmp 80) rfl rfl ?_ ?_ ?_ ?_);(focus rfl);(focus rfl);(focus (exact Exists.elim HB1'.out (fun old h => ⟨old,h.1.up hbt'.out,h.2⟩)));intro w3 hS3 hg3;have HS3:=Lib.hid hS3;have HG3:=Lib.hid hg3;clear hS3 hg3)
  | fail)
 refine bodyPost_ret (results_scn rfl _ _ (w.heap.size + 1) 4 0 none 0 0 (by rfl) HS3.out) rfl ?_
 exact ⟨4,0,none,0,0,[],none,0,0,[],rfl,ScnOk.to _ _ (by omega),OpsL.nil_ _,by omega,by omega,by omega,Bw.grown (Bw.trans hbw2 hbt'.out) HG3.out (fun k hk => by cases hk;omega),(by have hs3:=HG3.out.size;(try have hs5:=HG5.out.size);refine ⟨fun ad e => ?_,fun ad e => ?_,fun o ho ad e => ?_⟩;(focus (first|(cases e;done)|(right;exact e.symm)|(left;cases e;dsimp only;simp only [szA,szS,szD,szN] at *;omega)|(left;cases e;dsimp only;omega)));(focus (first|(cases e;done)|(cases e;dsimp only;omega)|(cases e;dsimp only;simp only [szA,szS,szD,szN] at *;omega)));(focus (first|(cases ho;done)|(simp only [List.mem_singleton] at ho;subst ho;dsimp only at e;first|(cases e;done)|(cases e;dsimp only;omega))))),fun _ => TyA.none _,fun o ho => by cases ho⟩
set_option maxRecDepth 100000 in
set_option maxHeartbeats 4000000 in
theorem rcsi14_priv (code pv : Int) (A : Option Addr) (n c : Nat) (xs : List Int) (w : World) (h : ScnOk w 3 pv A n c xs) (h1 : 60 ≤ code) (h2 : code ≤ 63) (h59 : (code == 59) = false) (hpv0 : pv = 0) (hn0 : n = 1) (hx0 : xs = [0]) : Calls Tryz.prog 103 #[.agg #[.int .i64 3,.int .i64 pv,.slice A n c],.int .i64 code] w (Nxt w A):=by
 have Zh1:=Lib.hid h1
 clear h1
 have Zh2:=Lib.hid h2
 clear h2
 have Zh59:=Lib.hid h59
 clear h59
 have Zhpv0:=Lib.hid hpv0
 clear hpv0
 have Zhn0:=Lib.hid hn0
 clear hn0
 have Zhx0:=Lib.hid hx0
 clear hx0
 obtain ⟨hx,hn,hc,hv⟩:=h
 obtain ⟨hn1,hn16,hpv,hp⟩ : 1 ≤ n ∧ n ≤ 16 ∧ (pv = 0 ∨ (60 ≤ pv ∧ pv ≤ 63)) ∧ ∀ x ∈ xs,0 ≤ x ∧ x ≤ 9999:=by
  rcases hv with h|h
  ·exact absurd rfl h.1
  ·exact h.2
 have HX:=Lib.hid hx
 have HP:=Lib.hid hp
 have HPV:=Lib.hid hpv
 have HXA:=Lib.hid (show ∀ ad,A = some ad → 0 < n → ad.block < w.heap.size from fun ad e h0 => by
  obtain ⟨g,o,e2,h⟩:=hx.2 h0
  have h1:=lt_of_cell (h 0 (by rw [hx.1];exact h0))
  rw [e] at e2
  cases e2
  exact h1)
 clear hx hp hpv hv
 obtain ⟨i0,hi,hi0,hi1,hi2⟩:=info_parts infoI
 have hxl : xs.length = n:=HX.out.1
 go_enter Tryz.func103,Tryz.ntmps103
 go_upto_region 1 with (fail)
 generalize hw1 : (w.alloc (.cells #[.int .i64 3,.int .i64 pv,.slice A n c] 39)).alloc _ = w1
 obtain ⟨hb0,hb1,hbw,hz⟩:=sb2 hw1
 have HB0:=Lib.hid hb0
 have HB1:=Lib.hid (show ∃ old,Sb w1 (w.heap.size + 1) old 39 ∧ old.size = 3 from ⟨_,hb1,rfl⟩)
 have hz1 : w.heap.size + 1 < w1.heap.size:=by omega
 have hz0 : w.heap.size < w1.heap.size:=by omega
 have y2:=HB0.out.cell 2 (v:=.slice A n c) rfl
 clear hw1 hb0 hb1 hz
 go_upto_region 2 with (first
  | (at_builtin;refine wpList_append_srcG (by rfl) (.tmp 8) (.tmp 10) 22 rfl w1.heap.size 3 i0 (.int .i64 0) 1 8 Tryz.underlying22 hi hi0 hi1 hi2 rfl (by decide) (.slice (some ⟨w1.heap.size,0,none⟩) 0 0) 0 [] (by rfl) (own_made rfl (Nat.le_refl _)) A n c (xs.map (.int .i64)) (by rfl) (by rw [List.length_map,hxl];omega) (fun e => (HX.out.none_ e).1) (Rd.news2 (by exact HX.out.up BWX)) (one_map (fun _ => rfl) _) (by unfold maxLen;omega) (by omega) SZX ?_;intro v1 w2 hown hg2;simp only [Nat.zero_add,List.nil_append] at hown;have hb2 : Bw w1 w2:=Bw.grown (show Bw w1 (w1.alloc (.cells #[] 3)) from BWX) hg2 (fun k hk => by have e:=Option.some.inj (show some w1.heap.size = some k from hk);omega);have HOWN:=Lib.hid hown;have HB2:=Lib.hid hb2;clear hown hg2 hb2)
  | fail)
 obtain ⟨gp,cp,rfl,hgp,hgp2⟩:=HOWN.out.form (by omega)
 have hb2:=HB2.out
 have HB0':=Lib.hid (HB0.out.up hb2)
 have HB1':=Lib.hid (Exists.elim HB1.out (fun old h => (⟨old,h.1.up hb2,h.2⟩ : ∃ old,Sb w2 (w.heap.size + 1) old 39 ∧ old.size = 3)))
 have hbw2 : Bw w w2:=Bw.trans hbw hb2
 have hz2 : w.heap.size + 1 < w2.heap.size:=by have:=hb2.size;omega
 have hz02 : w.heap.size < w2.heap.size:=by omega
 have hcp:=own_form HOWN.out
 obtain ⟨A_,c_,e_,hcp1,hcp2⟩:=hcp
 cases e_
 clear HB2 y2 HB0 HB1 hb2
 have y1:=HB0'.out.cell 1 (v:=.int .i64 pv) rfl
 have y2:=HB0'.out.cell 2 (v:=.slice A n c) rfl
 obtain ⟨k,hk⟩ : ∃ k : Nat,n = k + 1:=⟨n - 1,by omega⟩
 have hk1 : (n : Int) - 1 = (k : Int):=by omega
 have hkn : k < n:=by omega
 have HK:=Lib.hid hk
 clear hk
 have h1:=Zh1.out
 have h2:=Zh2.out
 have h59:=Zh59.out
 have hpv0:=Zhpv0.out
 have hn0:=Zhn0.out
 have hx0:=Zhx0.out
 subst hpv0
 subst hx0
 subst hn0
 have hcx : w2.cell? ⟨gp,0,none⟩ = some (.int .i64 0):=by
  have h:=(own_rd HOWN.out).2 (by omega)
  obtain ⟨g,o,e,h⟩:=h
  cases e
  simpa using h 0 (by simp)
 go_upto_region 9 with ((go_at_call 102;refine (rin_any _ _ _ _).mono ?_;rintro ee ww ⟨rfl,rfl⟩;(first|rw [inB_yes (by omega) (by omega)]|rw [inB_no (by omega)])))
 go_wp2_with (first
  | ((with_reducible refine wpList_store_scn 3 code (some ⟨gp,0,none⟩) 1 cp (w.heap.size + 1) (.tmp 4) (.tmp 69) rfl rfl ?_ ?_ ?_ ?_);(focus rfl);(focus rfl);(focus (exact HB1'.out));intro w3 hS3 hg3;have HS3:=Lib.hid hS3;have HG3:=Lib.hid hg3;clear hS3 hg3)
  | fail)
 refine bodyPost_ret (results_scn rfl _ _ (w.heap.size + 1) 3 code (some ⟨gp,0,none⟩) 1 cp (by rfl) HS3.out) rfl ?_
 exact ⟨3,code,some ⟨gp,0,none⟩,1,cp,[0],none,0,0,[],rfl,⟨(own_rd (HOWN.out.kept HG3.out (.inr (by simp only [Value.ownBlock];intro e;have:=Option.some.inj e;omega)))),hcp1,hcp2,.inr ⟨rfl,hn1,hn16,.inr ⟨h1,h2⟩,HP.out⟩⟩,OpsL.nil_ _,by omega,by omega,by omega,Bw.grown hbw2 HG3.out (fun k hk => by cases hk;omega),(by have hs3:=HG3.out.size;(try have hs5:=HG5.out.size);refine ⟨fun ad e => ?_,fun ad e => ?_,fun o ho ad e => ?_⟩;(focus (first|(cases e;done)|(right;exact e.symm)|(left;cases e;dsimp only;simp only [szA,szS,szD,szN] at *;omega)|(left;cases e;dsimp only;omega)));(focus (first|(cases e;done)|(cases e;dsimp only;omega)|(cases e;dsimp only;simp only [szA,szS,szD,szN] at *;omega)));(focus (first|(cases ho;done)|(simp only [List.mem_singleton] at ho;subst ho;dsimp only at e;first|(cases e;done)|(cases e;dsimp only;omega))))),fun _ => TyA.own (HOWN.out.kept HG3.out (.inr (by simp only [Value.ownBlock];intro e;have:=Option.some.inj e;omega))),fun o ho => by cases ho⟩

set_option maxRecDepth 100000 in
set_option maxHeartbeats 4000000 in
theorem rcsi14_noprivA (code pv : Int) (A : Option Addr) (n c : Nat) (xs : List Int) (w : World) (h : ScnOk w 3 pv A n c xs) (h1 : 60 ≤ code) (h2 : code ≤ 63) (h59 : (code == 59) = false) (hpv0 : (pv == 0) = false) : Calls Tryz.prog 103 #[.agg #[.int .i64 3,.int .i64 pv,.slice A n c],.int .i64 code] w (Nxt w A):=by
 have Zh1:=Lib.hid h1
 clear h1
 have Zh2:=Lib.hid h2
 clear h2
 have Zh59:=Lib.hid h59
 clear h59
 have Zhpv0:=Lib.hid hpv0
 clear hpv0
 obtain ⟨hx,hn,hc,hv⟩:=h
 obtain ⟨hn1,hn16,hpv,hp⟩ : 1 ≤ n ∧ n ≤ 16 ∧ (pv = 0 ∨ (60 ≤ pv ∧ pv ≤ 63)) ∧ ∀ x ∈ xs,0 ≤ x ∧ x ≤ 9999:=by
  rcases hv with h|h
  ·exact absurd rfl h.1
  ·exact h.2
 have HX:=Lib.hid hx
 have HP:=Lib.hid hp
 have HPV:=Lib.hid hpv
 have HXA:=Lib.hid (show ∀ ad,A = some ad → 0 < n → ad.block < w.heap.size from fun ad e h0 => by
  obtain ⟨g,o,e2,h⟩:=hx.2 h0
  have h1:=lt_of_cell (h 0 (by rw [hx.1];exact h0))
  rw [e] at e2
  cases e2
  exact h1)
 clear hx hp hpv hv
 obtain ⟨i0,hi,hi0,hi1,hi2⟩:=info_parts infoI
 have hxl : xs.length = n:=HX.out.1
 go_enter Tryz.func103,Tryz.ntmps103
 go_upto_region 1 with (fail)
 generalize hw1 : (w.alloc (.cells #[.int .i64 3,.int .i64 pv,.slice A n c] 39)).alloc _ = w1
 obtain ⟨hb0,hb1,hbw,hz⟩:=sb2 hw1
 have HB0:=Lib.hid hb0
 have HB1:=Lib.hid (show ∃ old,Sb w1 (w.heap.size + 1) old 39 ∧ old.size = 3 from ⟨_,hb1,rfl⟩)
 have hz1 : w.heap.size + 1 < w1.heap.size:=by omega
 have hz0 : w.heap.size < w1.heap.size:=by omega
 have y2:=HB0.out.cell 2 (v:=.slice A n c) rfl
 clear hw1 hb0 hb1 hz
 go_upto_region 2 with (first
  | (at_builtin;refine wpList_append_srcG (by rfl) (.tmp 8) (.tmp 10) 22 rfl w1.heap.size 3 i0 (.int .i64 0) 1 8 Tryz.underlying22 hi hi0 hi1 hi2 rfl (by decide) (.slice (some ⟨w1.heap.size,0,none⟩) 0 0) 0 [] (by rfl) (own_made rfl (Nat.le_refl _)) A n c (xs.map (.int .i64)) (by rfl) (by rw [List.length_map,hxl];omega) (fun e => (HX.out.none_ e).1) (Rd.news2 (by exact HX.out.up BWX)) (one_map (fun _ => rfl) _) (by unfold maxLen;omega) (by omega) SZX ?_;intro v1 w2 hown hg2;simp only [Nat.zero_add,List.nil_append] at hown;have hb2 : Bw w1 w2:=Bw.grown (show Bw w1 (w1.alloc (.cells #[] 3)) from BWX) hg2 (fun k hk => by have e:=Option.some.inj (show some w1.heap.size = some k from hk);omega);have HOWN:=Lib.hid hown;have HB2:=Lib.hid hb2;clear hown hg2 hb2)
  | fail)
 obtain ⟨gp,cp,rfl,hgp,hgp2⟩:=HOWN.out.form (by omega)
 have hb2:=HB2.out
 have HB0':=Lib.hid (HB0.out.up hb2)
 have HB1':=Lib.hid (Exists.elim HB1.out (fun old h => (⟨old,h.1.up hb2,h.2⟩ : ∃ old,Sb w2 (w.heap.size + 1) old 39 ∧ old.size = 3)))
 have hbw2 : Bw w w2:=Bw.trans hbw hb2
 have hz2 : w.heap.size + 1 < w2.heap.size:=by have:=hb2.size;omega
 have hz02 : w.heap.size < w2.heap.size:=by omega
 have hcp:=own_form HOWN.out
 obtain ⟨A_,c_,e_,hcp1,hcp2⟩:=hcp
 cases e_
 clear HB2 y2 HB0 HB1 hb2
 have y1:=HB0'.out.cell 1 (v:=.int .i64 pv) rfl
 have y2:=HB0'.out.cell 2 (v:=.slice A n c) rfl
 obtain ⟨k,hk⟩ : ∃ k : Nat,n = k + 1:=⟨n - 1,by omega⟩
 have hk1 : (n : Int) - 1 = (k : Int):=by omega
 have hkn : k < n:=by omega
 have HK:=Lib.hid hk
 clear hk
 have h1:=Zh1.out
 have h2:=Zh2.out
 have h59:=Zh59.out
 have hpv0:=Zhpv0.out
 go_upto_region 12 with ((go_at_call 102;refine (rin_any _ _ _ _).mono ?_;rintro ee ww ⟨rfl,rfl⟩;(first|rw [inB_yes (by omega) (by omega)]|rw [inB_no (by omega)])))
 go_wp2_with (first
  | (go_at_call 83;refine (rto_any 4 _).mono ?_;rintro ee wt ⟨rfl,hbt⟩;have hbt':=Lib.hid hbt;clear hbt)
  | ((with_reducible refine wpList_store_scn 4 0 none 0 0 (w.heap.size + 1) (.tmp 4) (.tmp 80) rfl rfl ?_ ?_ ?_ ?_);(focus rfl);(focus rfl);(focus (exact Exists.elim HB1'.out (fun old h => ⟨old,h.1.up hbt'.out,h.2⟩)));intro w3 hS3 hg3;have HS3:=Lib.hid hS3;have HG3:=Lib.hid hg3;clear hS3 hg3)
  | fail)
 refine bodyPost_ret (results_scn rfl _ _ (w.heap.size + 1) 4 0 none 0 0 (by rfl) HS3.out) rfl ?_
 exact ⟨4,0,none,0,0,[],none,0,0,[],rfl,ScnOk.to _ _ (by omega),OpsL.nil_ _,by omega,by omega,by omega,Bw.grown (Bw.trans hbw2 hbt'.out) HG3.out (fun k hk => by cases hk;omega),(by have hs3:=HG3.out.size;(try have hs5:=HG5.out.size);refine ⟨fun ad e => ?_,fun ad e => ?_,fun o ho ad e => ?_⟩;(focus (first|(cases e;done)|(right;exact e.symm)|(left;cases e;dsimp only;simp only [szA,szS,szD,szN] at *;omega)|(left;cases e;dsimp only;omega)));(focus (first|(cases e;done)|(cases e;dsimp only;omega)|(cases e;dsimp only;simp only [szA,szS,szD,szN] at *;omega)));(focus (first|(cases ho;done)|(simp only [List.mem_singleton] at ho;subst ho;dsimp only at e;first|(cases e;done)|(cases e;dsimp only;omega))))),fun _ => TyA.none _,fun o ho => by cases ho⟩
set_option maxRecDepth 100000 in
set_option maxHeartbeats 4000000 in
theorem rcsi14_noprivB (code pv : Int) (A : Option Addr) (n c : Nat) (xs : List Int) (w : World) (h : ScnOk w 3 pv A n c xs) (h1 : 60 ≤ code) (h2 : code ≤ 63) (h59 : (code == 59) = false) (hpv0 : pv = 0) (hn0 : 1 < n) : Calls Tryz.prog 103 #[.agg #[.int .i64 3,.int .i64 pv,.slice A n c],.int .i64 code] w (Nxt w A):=by
 have Zh1:=Lib.hid h1
 clear h1
 have Zh2:=Lib.hid h2
 clear h2
 have Zh59:=Lib.hid h59
 clear h59
 have Zhpv0:=Lib.hid hpv0
 clear hpv0
 have Zhn0:=Lib.hid hn0
 clear hn0
 obtain ⟨hx,hn,hc,hv⟩:=h
 obtain ⟨hn1,hn16,hpv,hp⟩ : 1 ≤ n ∧ n ≤ 16 ∧ (pv = 0 ∨ (60 ≤ pv ∧ pv ≤ 63)) ∧ ∀ x ∈ xs,0 ≤ x ∧ x ≤ 9999:=by
  rcases hv with h|h
  ·exact absurd rfl h.1
  ·exact h.2
 have HX:=Lib.hid hx
 have HP:=Lib.hid hp
 have HPV:=Lib.hid hpv
 have HXA:=Lib.hid (show ∀ ad,A = some ad → 0 < n → ad.block < w.heap.size from fun ad e h0 => by
  obtain ⟨g,o,e2,h⟩:=hx.2 h0
  have h1:=lt_of_cell (h 0 (by rw [hx.1];exact h0))
  rw [e] at e2
  cases e2
  exact h1)
 clear hx hp hpv hv
 obtain ⟨i0,hi,hi0,hi1,hi2⟩:=info_parts infoI
 have hxl : xs.length = n:=HX.out.1
 go_enter Tryz.func103,Tryz.ntmps103
 go_upto_region 1 with (fail)
 generalize hw1 : (w.alloc (.cells #[.int .i64 3,.int .i64 pv,.slice A n c] 39)).alloc _ = w1
 obtain ⟨hb0,hb1,hbw,hz⟩:=sb2 hw1
 have HB0:=Lib.hid hb0
 have HB1:=Lib.hid (show ∃ old,Sb w1 (w.heap.size + 1) old 39 ∧ old.size = 3 from ⟨_,hb1,rfl⟩)
 have hz1 : w.heap.size + 1 < w1.heap.size:=by omega
 have hz0 : w.heap.size < w1.heap.size:=by omega
 have y2:=HB0.out.cell 2 (v:=.slice A n c) rfl
 clear hw1 hb0 hb1 hz
 go_upto_region 2 with (first
  | (at_builtin;refine wpList_append_srcG (by rfl) (.tmp 8) (.tmp 10) 22 rfl w1.heap.size 3 i0 (.int .i64 0) 1 8 Tryz.underlying22 hi hi0 hi1 hi2 rfl (by decide) (.slice (some ⟨w1.heap.size,0,none⟩) 0 0) 0 [] (by rfl) (own_made rfl (Nat.le_refl _)) A n c (xs.map (.int .i64)) (by rfl) (by rw [List.length_map,hxl];omega) (fun e => (HX.out.none_ e).1) (Rd.news2 (by exact HX.out.up BWX)) (one_map (fun _ => rfl) _) (by unfold maxLen;omega) (by omega) SZX ?_;intro v1 w2 hown hg2;simp only [Nat.zero_add,List.nil_append] at hown;have hb2 : Bw w1 w2:=Bw.grown (show Bw w1 (w1.alloc (.cells #[] 3)) from BWX) hg2 (fun k hk => by have e:=Option.some.inj (show some w1.heap.size = some k from hk);omega);have HOWN:=Lib.hid hown;have HB2:=Lib.hid hb2;clear hown hg2 hb2)
  | fail)
 obtain ⟨gp,cp,rfl,hgp,hgp2⟩:=HOWN.out.form (by omega)
 have hb2:=HB2.out
 have HB0':=Lib.hid (HB0.out.up hb2)
 have HB1':=Lib.hid (Exists.elim HB1.out (fun old h => (⟨old,h.1.up hb2,h.2⟩ : ∃ old,Sb w2 (w.heap.size + 1) old 39 ∧ old.size = 3)))
 have hbw2 : Bw w w2:=Bw.trans hbw hb2
 have hz2 : w.heap.size + 1 < w2.heap.size:=by have:=hb2.size;omega
 have hz02 : w.heap.size < w2.heap.size:=by omega
 have hcp:=own_form HOWN.out
 obtain ⟨A_,c_,e_,hcp1,hcp2⟩:=hcp
 cases e_
 clear HB2 y2 HB0 HB1 hb2
 have y1:=HB0'.out.cell 1 (v:=.int .i64 pv) rfl
 have y2:=HB0'.out.cell 2 (v:=.slice A n c) rfl
 obtain ⟨k,hk⟩ : ∃ k : Nat,n = k + 1:=⟨n - 1,by omega⟩
 have hk1 : (n : Int) - 1 = (k : Int):=by omega
 have hkn : k < n:=by omega
 have HK:=Lib.hid hk
 clear hk
 have h1:=Zh1.out
 have h2:=Zh2.out
 have h59:=Zh59.out
 have hpv0:=Zhpv0.out
 have hn0:=Zhn0.out
 subst hpv0
 have hnn : ((n : Int) == 1) = false:=by simp;omega
 go_upto_region 12 with ((go_at_call 102;refine (rin_any _ _ _ _).mono ?_;rintro ee ww ⟨rfl,rfl⟩;(first|rw [inB_yes (by omega) (by omega)]|rw [inB_no (by omega)])))
 go_wp2_with (first
  | (go_at_call 83;refine (rto_any 4 _).mono ?_;rintro ee wt ⟨rfl,hbt⟩;have hbt':=Lib.hid hbt;clear hbt)
  | ((with_reducible refine wpList_store_scn 4 0 none 0 0 (w.heap.size + 1) (.tmp 4) (.tmp 80) rfl rfl ?_ ?_ ?_ ?_);(focus rfl);(focus rfl);(focus (exact Exists.elim HB1'.out (fun old h => ⟨old,h.1.up hbt'.out,h.2⟩)));intro w3 hS3 hg3;have HS3:=Lib.hid hS3;have HG3:=Lib.hid hg3;clear hS3 hg3)
  | fail)
 refine bodyPost_ret (results_scn rfl _ _ (w.heap.size + 1) 4 0 none 0 0 (by rfl) HS3.out) rfl ?_
 exact ⟨4,0,none,0,0,[],none,0,0,[],rfl,ScnOk.to _ _ (by omega),OpsL.nil_ _,by omega,by omega,by omega,Bw.grown (Bw.trans hbw2 hbt'.out) HG3.out (fun k hk => by cases hk;omega),(by have hs3:=HG3.out.size;(try have hs5:=HG5.out.size);refine ⟨fun ad e => ?_,fun ad e => ?_,fun o ho ad e => ?_⟩;(focus (first|(cases e;done)|(right;exact e.symm)|(left;cases e;dsimp only;simp only [szA,szS,szD,szN] at *;omega)|(left;cases e;dsimp only;omega)));(focus (first|(cases e;done)|(cases e;dsimp only;omega)|(cases e;dsimp only;simp only [szA,szS,szD,szN] at *;omega)));(focus (first|(cases ho;done)|(simp only [List.mem_singleton] at ho;subst ho;dsimp only at e;first|(cases e;done)|(cases e;dsimp only;omega))))),fun _ => TyA.none _,fun o ho => by cases ho⟩

set_option maxRecDepth 100000 in
set_option maxHeartbeats 4000000 in
theorem rcsi14_noprivC (code pv : Int) (A : Option Addr) (n c : Nat) (xs : List Int) (w : World) (h : ScnOk w 3 pv A n c xs) (h1 : 60 ≤ code) (h2 : code ≤ 63) (h59 : (code == 59) = false) (hpv0 : pv = 0) (hn0 : n = 1) (x : Int) (hx0 : xs = [x]) (hx1 : (x == 0) = false) : Calls Tryz.prog 103 #[.agg #[.int .i64 3,.int .i64 pv,.slice A n c],.int .i64 code] w (Nxt w A):=by
 have Zh1:=Lib.hid h1
 clear h1
 have Zh2:=Lib.hid h2
 clear h2
 have Zh59:=Lib.hid h59
 clear h59
 have Zhpv0:=Lib.hid hpv0
 clear hpv0
 have Zhn0:=Lib.hid hn0
 clear hn0
 have Zhx0:=Lib.hid hx0
 clear hx0
 have Zhx1:=Lib.hid hx1
 clear hx1
 obtain ⟨hx,hn,hc,hv⟩:=h
 obtain ⟨hn1,hn16,hpv,hp⟩ : 1 ≤ n ∧ n ≤ 16 ∧ (pv = 0 ∨ (60 ≤ pv ∧ pv ≤ 63)) ∧ ∀ x ∈ xs,0 ≤ x ∧ x ≤ 9999:=by
  rcases hv with h|h
  ·exact absurd rfl h.1
  ·exact h.2
 have HX:=Lib.hid hx
 have HP:=Lib.hid hp
 have HPV:=Lib.hid hpv
 have HXA:=Lib.hid (show ∀ ad,A = some ad → 0 < n → ad.block < w.heap.size from fun ad e h0 => by
  obtain ⟨g,o,e2,h⟩:=hx.2 h0
  have h1:=lt_of_cell (h 0 (by rw [hx.1];exact h0))
  rw [e] at e2
  cases e2
  exact h1)
 clear hx hp hpv hv
 obtain ⟨i0,hi,hi0,hi1,hi2⟩:=info_parts infoI
 have hxl : xs.length = n:=HX.out.1
 go_enter Tryz.func103,Tryz.ntmps103
 go_upto_region 1 with (fail)
 generalize hw1 : (w.alloc (.cells #[.int .i64 3,.int .i64 pv,.slice A n c] 39)).alloc _ = w1
 obtain ⟨hb0,hb1,hbw,hz⟩:=sb2 hw1
 have HB0:=Lib.hid hb0
 have HB1:=Lib.hid (show ∃ old,Sb w1 (w.heap.size + 1) old 39 ∧ old.size = 3 from ⟨_,hb1,rfl⟩)
 have hz1 : w.heap.size + 1 < w1.heap.size:=by omega
 have hz0 : w.heap.size < w1.heap.size:=by omega
 have y2:=HB0.out.cell 2 (v:=.slice A n c) rfl
 clear hw1 hb0 hb1 hz
 go_upto_region 2 with (first
  | (at_builtin;refine wpList_append_srcG (by rfl) (.tmp 8) (.tmp 10) 22 rfl w1.heap.size 3 i0 (.int .i64 0) 1 8 Tryz.underlying22 hi hi0 hi1 hi2 rfl (by decide) (.slice (some ⟨w1.heap.size,0,none⟩) 0 0) 0 [] (by rfl) (own_made rfl (Nat.le_refl _)) A n c (xs.map (.int .i64)) (by rfl) (by rw [List.length_map,hxl];omega) (fun e => (HX.out.none_ e).1) (Rd.news2 (by exact HX.out.up BWX)) (one_map (fun _ => rfl) _) (by unfold maxLen;omega) (by omega) SZX ?_;intro v1 w2 hown hg2;simp only [Nat.zero_add,List.nil_append] at hown;have hb2 : Bw w1 w2:=Bw.grown (show Bw w1 (w1.alloc (.cells #[] 3)) from BWX) hg2 (fun k hk => by have e:=Option.some.inj (show some w1.heap.size = some k from hk);omega);have HOWN:=Lib.hid hown;have HB2:=Lib.hid hb2;clear hown hg2 hb2)
  | fail)
 obtain ⟨gp,cp,rfl,hgp,hgp2⟩:=HOWN.out.form (by omega)
 have hb2:=HB2.out
 have HB0':=Lib.hid (HB0.out.up hb2)
 have HB1':=Lib.hid (Exists.elim HB1.out (fun old h => (⟨old,h.1.up hb2,h.2⟩ : ∃ old,Sb w2 (w.heap.size + 1) old 39 ∧ old.size = 3)))
 have hbw2 : Bw w w2:=Bw.trans hbw hb2
 have hz2 : w.heap.size + 1 < w2.heap.size:=by have:=hb2.size;omega
 have hz02 : w.heap.size < w2.heap.size:=by omega
 have hcp:=own_form HOWN.out
 obtain ⟨A_,c_,e_,hcp1,hcp2⟩:=hcp
 cases e_
 clear HB2 y2 HB0 HB1 hb2
 have y1:=HB0'.out.cell 1 (v:=.int .i64 pv) rfl
 have y2:=HB0'.out.cell 2 (v:=.slice A n c) rfl
 obtain ⟨k,hk⟩ : ∃ k : Nat,n = k + 1:=⟨n - 1,by omega⟩
 have hk1 : (n : Int) - 1 = (k : Int):=by omega
 have hkn : k < n:=by omega
 have HK:=Lib.hid hk
 clear hk
 have h1:=Zh1.out
 have h2:=Zh2.out
 have h59:=Zh59.out
 have hpv0:=Zhpv0.out
 have hn0:=Zhn0.out
 have hx0:=Zhx0.out
 have hx1:=Zhx1.out
 subst hpv0
 subst hx0
 have hn1' : ((n : Int) == 1) = true:=by simp;omega
 have hcx : w2.cell? ⟨gp,0,none⟩ = some (.int .i64 x):=by
  have h:=(own_rd HOWN.out).2 (by omega)
  obtain ⟨g,o,e,h⟩:=h
  cases e
  simpa using h 0 (by simp)
 go_upto_region 12 with ((go_at_call 102;refine (rin_any _ _ _ _).mono ?_;rintro ee ww ⟨rfl,rfl⟩;(first|rw [inB_yes (by omega) (by omega)]|rw [inB_no (by omega)])))
 go_wp2_with (first
  | (go_at_call 83;refine (rto_any 4 _).mono ?_;rintro ee wt ⟨rfl,hbt⟩;have hbt':=Lib.hid hbt;clear hbt)
  | ((with_reducible refine wpList_store_scn 4 0 none 0 0 (w.heap.size + 1) (.tmp 4) (.tmp 80) rfl rfl ?_ ?_ ?_ ?_);(focus rfl);(focus rfl);(focus (exact Exists.elim HB1'.out (fun old h => ⟨old,h.1.up hbt'.out,h.2⟩)));intro w3 hS3 hg3;have HS3:=Lib.hid hS3;have HG3:=Lib.hid hg3;clear hS3 hg3)
  | fail)
 refine bodyPost_ret (results_scn rfl _ _ (w.heap.size + 1) 4 0 none 0 0 (by rfl) HS3.out) rfl ?_
 exact ⟨4,0,none,0,0,[],none,0,0,[],rfl,ScnOk.to _ _ (by omega),OpsL.nil_ _,by omega,by omega,by omega,Bw.grown (Bw.trans hbw2 hbt'.out) HG3.out (fun k hk => by cases hk;omega),(by have hs3:=HG3.out.size;(try have hs5:=HG5.out.size);refine ⟨fun ad e => ?_,fun ad e => ?_,fun o ho ad e => ?_⟩;(focus (first|(cases e;done)|(right;exact e.symm)|(left;cases e;dsimp only;simp only [szA,szS,szD,szN] at *;omega)|(left;cases e;dsimp only;omega)));(focus (first|(cases e;done)|(cases e;dsimp only;omega)|(cases e;dsimp only;simp only [szA,szS,szD,szN] at *;omega)));(focus (first|(cases ho;done)|(simp only [List.mem_singleton] at ho;subst ho;dsimp only at e;first|(cases e;done)|(cases e;dsimp only;omega))))),fun _ => TyA.none _,fun o ho => by cases ho⟩
end Go.Proofs.YtkflooljdopldaaGreat
