/- Parts of the proof, one after the other. -/
import Derived.Test.YteebdjmjeahccaaGreatDoorQ25
set_option linter.unusedSimpArgs false
set_option linter.unusedVariables false
/- Scanners: the reference's csi: priv, noprivA. -/
namespace Go.Proofs.YteebdjmjeahccaaGreatDoor
open Go.RowKit
set_option maxRecDepth 100000 in
set_option maxHeartbeats 4000000 in
theorem rcsi14_priv (code pv : Int) (A : Option Addr) (n c : Nat) (xs : List Int) (w : World) (h : ScnOk w 3 pv A n c xs) (h1 : 60 ≤ code) (h2 : code ≤ 63) (h59 : (code == 59) = false) (hpv0 : pv = 0) (hn0 : n = 1) (hx0 : xs = [0]) : Calls Tryz.prog 101 #[.agg #[.int .i64 3,.int .i64 pv,.slice A n c],.int .i64 code] w (Nxt w A):=by
 have Zh1:=Lib.hid h1
 clear h1
 have Zh2:=Lib.hid h2
 clear h2
 have Zh59:=Lib.hid h59
 clear h59
 have Zhpv0:=Lib.hid hpv0
 clear hpv0
 have Zhn0:=Lib.hid hn0
 clear hn0
 have Zhx0:=Lib.hid hx0
 clear hx0
 obtain ⟨hx,hn,hc,hv⟩:=h
 obtain ⟨hn1,hn16,hpv,hp⟩ : 1 ≤ n ∧ n ≤ 16 ∧ (pv = 0 ∨ (60 ≤ pv ∧ pv ≤ 63)) ∧ ∀ x ∈ xs,0 ≤ x ∧ x ≤ 9999:=by
  rcases hv with h|h
  ·exact absurd rfl h.1
  ·exact h.2
 have HX:=Lib.hid hx
 have HP:=Lib.hid hp
 have HPV:=Lib.hid hpv
 have HXA:=Lib.hid (show ∀ ad,A = some ad → 0 < n → ad.block < w.heap.size from fun ad e h0 => by
  obtain ⟨g,o,e2,h⟩:=hx.2 h0
  have h1:=lt_of_cell (h 0 (by rw [hx.1];exact h0))
  rw [e] at e2
  cases e2
  exact h1)
 clear hx hp hpv hv
 obtain ⟨i0,hi,hi0,hi1,hi2⟩:=info_parts infoI
 have hxl : xs.length = n:=HX.out.1
 go_enter Tryz.func101,Tryz.ntmps101
 go_upto_region 1 with (fail)
 generalize hw1 : (w.alloc (.cells #[.int .i64 3,.int .i64 pv,.slice A n c] 50)).alloc _ = w1
 obtain ⟨hb0,hb1,hbw,hz⟩:=sb2 hw1
 have HB0:=Lib.hid hb0
 have HB1:=Lib.hid (show ∃ old,Sb w1 (w.heap.size + 1) old 50 ∧ old.size = 3 from ⟨_,hb1,rfl⟩)
 have hz1 : w.heap.size + 1 < w1.heap.size:=by omega
 have hz0 : w.heap.size < w1.heap.size:=by omega
 have y2:=HB0.out.cell 2 (v:=.slice A n c) rfl
 clear hw1 hb0 hb1 hz
 go_upto_region 2 with (first
  | (at_builtin;refine wpList_append_srcG (by rfl) (.tmp 8) (.tmp 10) 22 rfl w1.heap.size 3 i0 (.int .i64 0) 1 8 Tryz.underlying22 hi hi0 hi1 hi2 rfl (by decide) (.slice (some ⟨w1.heap.size,0,none⟩) 0 0) 0 [] (by rfl) (own_made rfl (Nat.le_refl _)) A n c (xs.map (.int .i64)) (by rfl) (by rw [List.length_map,hxl];omega) (fun e => (HX.out.none_ e).1) (Rd.news2 (by exact HX.out.up BWX)) (one_map (fun _ => rfl) _) (by unfold maxLen;omega) (by omega) SZX ?_;intro v1 w2 hown hg2;simp only [Nat.zero_add,List.nil_append] at hown;have hb2 : Bw w1 w2:=Bw.grown (show Bw w1 (w1.alloc (.cells #[] 3)) from BWX) hg2 (fun k hk => by have e:=Option.some.inj (show some w1.heap.size = some k from hk);omega);have HOWN:=Lib.hid hown;have HB2:=Lib.hid hb2;clear hown hg2 hb2)
  | fail)
 obtain ⟨gp,cp,rfl,hgp,hgp2⟩:=HOWN.out.form (by omega)
 have hb2:=HB2.out
 have HB0':=Lib.hid (HB0.out.up hb2)
 have HB1':=Lib.hid (Exists.elim HB1.out (fun old h => (⟨old,h.1.up hb2,h.2⟩ : ∃ old,Sb w2 (w.heap.size + 1) old 50 ∧ old.size = 3)))
 have hbw2 : Bw w w2:=Bw.trans hbw hb2
 have hz2 : w.heap.size + 1 < w2.heap.size:=by have:=hb2.size;omega
 have hz02 : w.heap.size < w2.heap.size:=by omega
 have hcp:=own_form HOWN.out
 obtain ⟨A_,c_,e_,hcp1,hcp2⟩:=hcp
 cases e_
 clear HB2 y2 HB0 HB1 hb2
 have y1:=HB0'.out.cell 1 (v:=.int .i64 pv) rfl
 have y2:=HB0'.out.cell 2 (v:=.slice A n c) rfl
 obtain ⟨k,hk⟩ : ∃ k : Nat,n = k + 1:=⟨n - 1,by omega⟩
 have hk1 : (n : Int) - 1 = (k : Int):=by omega
 have hkn : k < n:=by omega
 have HK:=Lib.hid hk
 clear hk
 have h1:=Zh1.out
 have h2:=Zh2.out
 have h59:=Zh59.out
 have hpv0:=Zhpv0.out
 have hn0:=Zhn0.out
 have hx0:=Zhx0.out
 subst hpv0
 subst hx0
 subst hn0
 have hcx : w2.cell? ⟨gp,0,none⟩ = some (.int .i64 0):=by
  have h:=(own_rd HOWN.out).2 (by omega)
  obtain ⟨g,o,e,h⟩:=h
  cases e
  simpa using h 0 (by simp)
 go_upto_region 9 with ((go_at_call 100;refine (rin_any _ _ _ _).mono ?_;rintro ee ww ⟨rfl,rfl⟩;(first|rw [inB_yes (by omega) (by omega)]|rw [inB_no (by omega)])))
 go_wp2_with (first
  | ((with_reducible refine wpList_store_scn 3 code (some ⟨gp,0,none⟩) 1 cp (w.heap.size + 1) (.tmp 4) (.tmp 69) rfl rfl ?_ ?_ ?_ ?_);(focus rfl);(focus rfl);(focus (exact HB1'.out));intro w3 hS3 hg3;have HS3:=Lib.hid hS3;have HG3:=Lib.hid hg3;clear hS3 hg3)
  | fail)
 refine bodyPost_ret (results_scn rfl _ _ (w.heap.size + 1) 3 code (some ⟨gp,0,none⟩) 1 cp (by rfl) HS3.out) rfl ?_
 exact ⟨3,code,some ⟨gp,0,none⟩,1,cp,[0],none,0,0,[],rfl,⟨(own_rd (HOWN.out.kept HG3.out (.inr (by simp only [Value.ownBlock];intro e;have:=Option.some.inj e;omega)))),hcp1,hcp2,.inr ⟨rfl,hn1,hn16,.inr ⟨h1,h2⟩,HP.out⟩⟩,OpsL.nil_ _,by omega,by omega,by omega,Bw.grown hbw2 HG3.out (fun k hk => by cases hk;omega),(by have hs3:=HG3.out.size;(try have hs5:=HG5.out.size);refine ⟨fun ad e => ?_,fun ad e => ?_,fun o ho ad e => ?_⟩;(focus (first|(cases e;done)|(right;exact e.symm)|(left;cases e;dsimp only;simp only [szA,szS,szD,szN] at *;omega)|(left;cases e;dsimp only;omega)));(focus (first|(cases e;done)|(cases e;dsimp only;omega)|(cases e;dsimp only;simp only [szA,szS,szD,szN] at *;omega)));(focus (first|(cases ho;done)|(simp only [List.mem_singleton] at ho;subst ho;dsimp only at e;first|(cases e;done)|(cases e;dsimp only;omega))))),fun _ => TyA.own (HOWN.out.kept HG3.out (.inr (by simp only [Value.ownBlock];intro e;have:=Option.some.inj e;omega))),fun o ho => by cases ho⟩

set_option maxRecDepth 100000 in
set_option maxHeartbeats 4000000 in
theorem rcsi14_noprivA (code pv : Int) (A : Option Addr) (n c : Nat) (xs : List Int) (w : World) (h : ScnOk w 3 pv A n c xs) (h1 : 60 ≤ code) (h2 : code ≤ 63) (h59 : (code == 59) = false) (hpv0 : (pv == 0) = false) : Calls Tryz.prog 101 #[.agg #[.int .i64 3,.int .i64 pv,.slice A n c],.int .i64 code] w (Nxt w A):=by
 have Zh1:=Lib.hid h1
 clear h1
 have Zh2:=Lib.hid h2
 clear h2
 have Zh59:=Lib.hid h59
 clear h59
 have Zhpv0:=Lib.hid hpv0
 clear hpv0
 obtain ⟨hx,hn,hc,hv⟩:=h
 obtain ⟨hn1,hn16,hpv,hp⟩ : 1 ≤ n ∧ n ≤ 16 ∧ (pv = 0 ∨ (60 ≤ pv ∧ pv ≤ 63)) ∧ ∀ x ∈ xs,0 ≤ x ∧ x ≤ 9999:=by
  rcases hv with h|h
  ·exact absurd rfl h.1
  ·exact h.2
 have HX:=Lib.hid hx
 have HP:=Lib.hid hp
 have HPV:=Lib.hid hpv
 have HXA:=Lib.hid (show ∀ ad,A = some ad → 0 < n → ad.block < w.heap.size from fun ad e h0 => by
  obtain ⟨g,o,e2,h⟩:=hx.2 h0
  have h1:=lt_of_cell (h 0 (by rw [hx.1];exact h0))
  rw [e] at e2
  cases e2
  exact h1)
 clear hx hp hpv hv
 obtain ⟨i0,hi,hi0,hi1,hi2⟩:=info_parts infoI
 have hxl : xs.length = n:=HX.out.1
 go_enter Tryz.func101,Tryz.ntmps101
 go_upto_region 1 with (fail)
 generalize hw1 : (w.alloc (.cells #[.int .i64 3,.int .i64 pv,.slice A n c] 50)).alloc _ = w1
 obtain ⟨hb0,hb1,hbw,hz⟩:=sb2 hw1
 have HB0:=Lib.hid hb0
 have HB1:=Lib.hid (show ∃ old,Sb w1 (w.heap.size + 1) old 50 ∧ old.size = 3 from ⟨_,hb1,rfl⟩)
 have hz1 : w.heap.size + 1 < w1.heap.size:=by omega
 have hz0 : w.heap.size < w1.heap.size:=by omega
 have y2:=HB0.out.cell 2 (v:=.slice A n c) rfl
 clear hw1 hb0 hb1 hz
 go_upto_region 2 with (first
  | (at_builtin;refine wpList_append_srcG (by rfl) (.tmp 8) (.tmp 10) 22 rfl w1.heap.size 3 i0 (.int .i64 0) 1 8 Tryz.underlying22 hi hi0 hi1 hi2 rfl (by decide) (.slice (some ⟨w1.heap.size,0,none⟩) 0 0) 0 [] (by rfl) (own_made rfl (Nat.le_refl _)) A n c (xs.map (.int .i64)) (by rfl) (by rw [List.length_map,hxl];omega) (fun e => (HX.out.none_ e).1) (Rd.news2 (by exact HX.out.up BWX)) (one_map (fun _ => rfl) _) (by unfold maxLen;omega) (by omega) SZX ?_;intro v1 w2 hown hg2;simp only [Nat.zero_add,List.nil_append] at hown;have hb2 : Bw w1 w2:=Bw.grown (show Bw w1 (w1.alloc (.cells #[] 3)) from BWX) hg2 (fun k hk => by have e:=Option.some.inj (show some w1.heap.size = some k from hk);omega);have HOWN:=Lib.hid hown;have HB2:=Lib.hid hb2;clear hown hg2 hb2)
  | fail)
 obtain ⟨gp,cp,rfl,hgp,hgp2⟩:=HOWN.out.form (by omega)
 have hb2:=HB2.out
 have HB0':=Lib.hid (HB0.out.up hb2)
 have HB1':=Lib.hid (Exists.elim HB1.out (fun old h => (⟨old,h.1.up hb2,h.2⟩ : ∃ old,Sb w2 (w.heap.size + 1) old 50 ∧ old.size = 3)))
 have hbw2 : Bw w w2:=Bw.trans hbw hb2
 have hz2 : w.heap.size + 1 < w2.heap.size:=by have:=hb2.size;omega
 have hz02 : w.heap.size < w2.heap.size:=by omega
 have hcp:=own_form HOWN.out
 obtain ⟨A_,c_,e_,hcp1,hcp2⟩:=hcp
 cases e_
 clear HB2 y2 HB0 HB1 hb2
 have y1:=HB0'.out.cell 1 (v:=.int .i64 pv) rfl
 have y2:=HB0'.out.cell 2 (v:=.slice A n c) rfl
 obtain ⟨k,hk⟩ : ∃ k : Nat,n = k + 1:=⟨n - 1,by omega⟩
 have hk1 : (n : Int) - 1 = (k : Int):=by omega
 have hkn : k < n:=by omega
 have HK:=Lib.hid hk
 clear hk
 have h1:=Zh1.out
 have h2:=Zh2.out
 have h59:=Zh59.out
 have hpv0:=Zhpv0.out
 go_upto_region 12 with ((go_at_call 100;refine (rin_any _ _ _ _).mono ?_;rintro ee ww ⟨rfl,rfl⟩;(first|rw [inB_yes (by omega) (by omega)]|rw [inB_no (by omega)])))
 go_wp2_with (first
  | (go_at_call 77;refine (rto_any 4 _).mono ?_;rintro ee wt ⟨rfl,hbt⟩;have hbt':=Lib.hid hbt;clear hbt)
  | ((with_reducible refine wpList_store_scn 4 0 none 0 0 (w.heap.size + 1) (.tmp 4) (.tmp 80) rfl rfl ?_ ?_ ?_ ?_);(focus rfl);(focus rfl);(focus (exact Exists.elim HB1'.out (fun old h => ⟨old,h.1.up hbt'.out,h.2⟩)));intro w3 hS3 hg3;have HS3:=Lib.hid hS3;have HG3:=Lib.hid hg3;clear hS3 hg3)
  | fail)
 refine bodyPost_ret (results_scn rfl _ _ (w.heap.size + 1) 4 0 none 0 0 (by rfl) HS3.out) rfl ?_
 exact ⟨4,0,none,0,0,[],none,0,0,[],rfl,ScnOk.to _ _ (by omega),OpsL.nil_ _,by omega,by omega,by omega,Bw.grown (Bw.trans hbw2 hbt'.out) HG3.out (fun k hk => by cases hk;omega),(by have hs3:=HG3.out.size;(try have hs5:=HG5.out.size);refine ⟨fun ad e => ?_,fun ad e => ?_,fun o ho ad e => ?_⟩;(focus (first|(cases e;done)|(right;exact e.symm)|(left;cases e;dsimp only;simp only [szA,szS,szD,szN] at *;omega)|(left;cases e;dsimp only;omega)));(focus (first|(cases e;done)|(cases e;dsimp only;omega)|(cases e;dsimp only;simp only [szA,szS,szD,szN] at *;omega)));(focus (first|(cases ho;done)|(simp only [List.mem_singleton] at ho;subst ho;dsimp only at e;first|(cases e;done)|(cases e;dsimp only;omega))))),fun _ => TyA.none _,fun o ho => by cases ho⟩
set_option maxRecDepth 100000 in
set_option maxHeartbeats 4000000 in
theorem rcsi14_noprivB (code pv : Int) (A : Option Addr) (n c : Nat) (xs : List Int) (w : World) (h : ScnOk w 3 pv A n c xs) (h1 : 60 ≤ code) (h2 : code ≤ 63) (h59 : (code == 59) = false) (hpv0 : pv = 0) (hn0 : 1 < n) : Calls Tryz.prog 101 #[.agg #[.int .i64 3,.int .i64 pv,.slice A n c],.int .i64 code] w (Nxt w A):=by
 have Zh1:=Lib.hid h1
 clear h1
 have Zh2:=Lib.hid h2
 clear h2
 have Zh59:=Lib.hid h59
 clear h59
 have Zhpv0:=Lib.hid hpv0
 clear hpv0
 have Zhn0:=Lib.hid hn0
 clear hn0
 obtain ⟨hx,hn,hc,hv⟩:=h
 obtain ⟨hn1,hn16,hpv,hp⟩ : 1 ≤ n ∧ n ≤ 16 ∧ (pv = 0 ∨ (60 ≤ pv ∧ pv ≤ 63)) ∧ ∀ x ∈ xs,0 ≤ x ∧ x ≤ 9999:=by
  rcases hv with h|h
  ·exact absurd rfl h.1
  ·exact h.2
 have HX:=Lib.hid hx
 have HP:=Lib.hid hp
 have HPV:=Lib.hid hpv
 have HXA:=Lib.hid (show ∀ ad,A = some ad → 0 < n → ad.block < w.heap.size from fun ad e h0 => by
  obtain ⟨g,o,e2,h⟩:=hx.2 h0
  have h1:=lt_of_cell (h 0 (by rw [hx.1];exact h0))
  rw [e] at e2
  cases e2
  exact h1)
 clear hx hp hpv hv
 obtain ⟨i0,hi,hi0,hi1,hi2⟩:=info_parts infoI
 have hxl : xs.length = n:=HX.out.1
 go_enter Tryz.func101,Tryz.ntmps101
 go_upto_region 1 with (fail)
 generalize hw1 : (w.alloc (.cells #[.int .i64 3,.int .i64 pv,.slice A n c] 50)).alloc _ = w1
 obtain ⟨hb0,hb1,hbw,hz⟩:=sb2 hw1
 have HB0:=Lib.hid hb0
 have HB1:=Lib.hid (show ∃ old,Sb w1 (w.heap.size + 1) old 50 ∧ old.size = 3 from ⟨_,hb1,rfl⟩)
 have hz1 : w.heap.size + 1 < w1.heap.size:=by omega
 have hz0 : w.heap.size < w1.heap.size:=by omega
 have y2:=HB0.out.cell 2 (v:=.slice A n c) rfl
 clear hw1 hb0 hb1 hz
 go_upto_region 2 with (first
  | (at_builtin;refine wpList_append_srcG (by rfl) (.tmp 8) (.tmp 10) 22 rfl w1.heap.size 3 i0 (.int .i64 0) 1 8 Tryz.underlying22 hi hi0 hi1 hi2 rfl (by decide) (.slice (some ⟨w1.heap.size,0,none⟩) 0 0) 0 [] (by rfl) (own_made rfl (Nat.le_refl _)) A n c (xs.map (.int .i64)) (by rfl) (by rw [List.length_map,hxl];omega) (fun e => (HX.out.none_ e).1) (Rd.news2 (by exact HX.out.up BWX)) (one_map (fun _ => rfl) _) (by unfold maxLen;omega) (by omega) SZX ?_;intro v1 w2 hown hg2;simp only [Nat.zero_add,List.nil_append] at hown;have hb2 : Bw w1 w2:=Bw.grown (show Bw w1 (w1.alloc (.cells #[] 3)) from BWX) hg2 (fun k hk => by have e:=Option.some.inj (show some w1.heap.size = some k from hk);omega);have HOWN:=Lib.hid hown;have HB2:=Lib.hid hb2;clear hown hg2 hb2)
  | fail)
 obtain ⟨gp,cp,rfl,hgp,hgp2⟩:=HOWN.out.form (by omega)
 have hb2:=HB2.out
 have HB0':=Lib.hid (HB0.out.up hb2)
 have HB1':=Lib.hid (Exists.elim HB1.out (fun old h => (⟨old,h.1.up hb2,h.2⟩ : ∃ old,Sb w2 (w.heap.size + 1) old 50 ∧ old.size = 3)))
 have hbw2 : Bw w w2:=Bw.trans hbw hb2
 have hz2 : w.heap.size + 1 < w2.heap.size:=by have:=hb2.size;omega
 have hz02 : w.heap.size < w2.heap.size:=by omega
 have hcp:=own_form HOWN.out
 obtain ⟨A_,c_,e_,hcp1,hcp2⟩:=hcp
 cases e_
 clear HB2 y2 HB0 HB1 hb2
 have y1:=HB0'.out.cell 1 (v:=.int .i64 pv) rfl
 have y2:=HB0'.out.cell 2 (v:=.slice A n c) rfl
 obtain ⟨k,hk⟩ : ∃ k : Nat,n = k + 1:=⟨n - 1,by omega⟩
 have hk1 : (n : Int) - 1 = (k : Int):=by omega
 have hkn : k < n:=by omega
 have HK:=Lib.hid hk
 clear hk
 have h1:=Zh1.out
 have h2:=Zh2.out
 have h59:=Zh59.out
 have hpv0:=Zhpv0.out
 have hn0:=Zhn0.out
 subst hpv0
 have hnn : ((n : Int) == 1) = false:=by simp;omega
 go_upto_region 12 with ((go_at_call 100;refine (rin_any _ _ _ _).mono ?_;rintro ee ww ⟨rfl,rfl⟩;(first|rw [inB_yes (by omega) (by omega)]|rw [inB_no (by omega)])))
 go_wp2_with (first
  | (go_at_call 77;refine (rto_any 4 _).mono ?_;rintro ee wt ⟨rfl,hbt⟩;have hbt':=Lib.hid hbt;clear hbt)
  | ((with_reducible refine wpList_store_scn 4 0 none 0 0 (w.heap.size + 1) (.tmp 4) (.tmp 80) rfl rfl ?_ ?_ ?_ ?_);(focus rfl);(focus rfl);(focus (exact Exists.elim HB1'.out (fun old h => ⟨old,h.1.up hbt'.out,h.2⟩)));intro w3 hS3 hg3;have HS3:=Lib.hid hS3;have HG3:=Lib.hid hg3;clear hS3 hg3)
  | fail)
 refine bodyPost_ret (results_scn rfl _ _ (w.heap.size + 1) 4 0 none 0 0 (by rfl) HS3.out) rfl ?_
 exact ⟨4,0,none,0,0,[],none,0,0,[],rfl,ScnOk.to _ _ (by omega),OpsL.nil_ _,by omega,by omega,by omega,Bw.grown (Bw.trans hbw2 hbt'.out) HG3.out (fun k hk => by cases hk;omega),(by have hs3:=HG3.out.size;(try have hs5:=HG5.out.size);refine ⟨fun ad e => ?_,fun ad e => ?_,fun o ho ad e => ?_⟩;(focus (first|(cases e;done)|(right;exact e.symm)|(left;cases e;dsimp only;simp only [szA,szS,szD,szN] at *;omega)|(left;cases e;dsimp only;omega)));(focus (first|(cases e;done)|(cases e;dsimp only;omega)|(cases e;dsimp only;simp only [szA,szS,szD,szN] at *;omega)));(focus (first|(cases ho;done)|(simp only [List.mem_singleton] at ho;subst ho;dsimp only at e;first|(cases e;done)|(cases e;dsimp only;omega))))),fun _ => TyA.none _,fun o ho => by cases ho⟩

set_option maxRecDepth 100000 in
set_option maxHeartbeats 4000000 in
theorem rcsi14_noprivC (code pv : Int) (A : Option Addr) (n c : Nat) (xs : List Int) (w : World) (h : ScnOk w 3 pv A n c xs) (h1 : 60 ≤ code) (h2 : code ≤ 63) (h59 : (code == 59) = false) (hpv0 : pv = 0) (hn0 : n = 1) (x : Int) (hx0 : xs = [x]) (hx1 : (x == 0) = false) : Calls Tryz.prog 101 #[.agg #[.int .i64 3,.int .i64 pv,.slice A n c],.int .i64 code] w (Nxt w A):=by
 have Zh1:=Lib.hid h1
 clear h1
 have Zh2:=Lib.hid h2
 clear h2
 have Zh59:=Lib.hid h59
 clear h59
 have Zhpv0:=Lib.hid hpv0
 clear hpv0
 have Zhn0:=Lib.hid hn0
 clear hn0
 have Zhx0:=Lib.hid hx0
 clear hx0
 have Zhx1:=Lib.hid hx1
 clear hx1
 obtain ⟨hx,hn,hc,hv⟩:=h
 obtain ⟨hn1,hn16,hpv,hp⟩ : 1 ≤ n ∧ n ≤ 16 ∧ (pv = 0 ∨ (60 ≤ pv ∧ pv ≤ 63)) ∧ ∀ x ∈ xs,0 ≤ x ∧ x ≤ 9999:=by
  rcases hv with h|h
  ·exact absurd rfl h.1
  ·exact h.2
 have HX:=Lib.hid hx
 have HP:=Lib.hid hp
 have HPV:=Lib.hid hpv
 have HXA:=Lib.hid (show ∀ ad,A = some ad → 0 < n → ad.block < w.heap.size from fun ad e h0 => by
  obtain ⟨g,o,e2,h⟩:=hx.2 h0
  have h1:=lt_of_cell (h 0 (by rw [hx.1];exact h0))
  rw [e] at e2
  cases e2
  exact h1)
 clear hx hp hpv hv
 obtain ⟨i0,hi,hi0,hi1,hi2⟩:=info_parts infoI
 have hxl : xs.length = n:=HX.out.1
 go_enter Tryz.func101,Tryz.ntmps101
 go_upto_region 1 with (fail)
 generalize hw1 : (w.alloc (.cells #[.int .i64 3,.int .i64 pv,.slice A n c] 50)).alloc _ = w1
 obtain ⟨hb0,hb1,hbw,hz⟩:=sb2 hw1
 have HB0:=Lib.hid hb0
 have HB1:=Lib.hid (show ∃ old,Sb w1 (w.heap.size + 1) old 50 ∧ old.size = 3 from ⟨_,hb1,rfl⟩)
 have hz1 : w.heap.size + 1 < w1.heap.size:=by omega
 have hz0 : w.heap.size < w1.heap.size:=by omega
 have y2:=HB0.out.cell 2 (v:=.slice A n c) rfl
 clear hw1 hb0 hb1 hz
 go_upto_region 2 with (first
  | (at_builtin;refine wpList_append_srcG (by rfl) (.tmp 8) (.tmp 10) 22 rfl w1.heap.size 3 i0 (.int .i64 0) 1 8 Tryz.underlying22 hi hi0 hi1 hi2 rfl (by decide) (.slice (some ⟨w1.heap.size,0,none⟩) 0 0) 0 [] (by rfl) (own_made rfl (Nat.le_refl _)) A n c (xs.map (.int .i64)) (by rfl) (by rw [List.length_map,hxl];omega) (fun e => (HX.out.none_ e).1) (Rd.news2 (by exact HX.out.up BWX)) (one_map (fun _ => rfl) _) (by unfold maxLen;omega) (by omega) SZX ?_;intro v1 w2 hown hg2;simp only [Nat.zero_add,List.nil_append] at hown;have hb2 : Bw w1 w2:=Bw.grown (show Bw w1 (w1.alloc (.cells #[] 3)) from BWX) hg2 (fun k hk => by have e:=Option.some.inj (show some w1.heap.size = some k from hk);omega);have HOWN:=Lib.hid hown;have HB2:=Lib.hid hb2;clear hown hg2 hb2)
  | fail)
 obtain ⟨gp,cp,rfl,hgp,hgp2⟩:=HOWN.out.form (by omega)
 have hb2:=HB2.out
 have HB0':=Lib.hid (HB0.out.up hb2)
 have HB1':=Lib.hid (Exists.elim HB1.out (fun old h => (⟨old,h.1.up hb2,h.2⟩ : ∃ old,Sb w2 (w.heap.size + 1) old 50 ∧ old.size = 3)))
 have hbw2 : Bw w w2:=Bw.trans hbw hb2
 have hz2 : w.heap.size + 1 < w2.heap.size:=by have:=hb2.size;omega
 have hz02 : w.heap.size < w2.heap.size:=by omega
 have hcp:=own_form HOWN.out
 obtain ⟨A_,c_,e_,hcp1,hcp2⟩:=hcp
 cases e_
 clear HB2 y2 HB0 HB1 hb2
 have y1:=HB0'.out.cell 1 (v:=.int .i64 pv) rfl
 have y2:=HB0'.out.cell 2 (v:=.slice A n c) rfl
 obtain ⟨k,hk⟩ : ∃ k : Nat,n = k + 1:=⟨n - 1,by omega⟩
 have hk1 : (n : Int) - 1 = (k : Int):=by omega
 have hkn : k < n:=by omega
 have HK:=Lib.hid hk
 clear hk
 have h1:=Zh1.out
 have h2:=Zh2.out
 have h59:=Zh59.out
 have hpv0:=Zhpv0.out
 have hn0:=Zhn0.out
 have hx0:=Zhx0.out
 have hx1:=Zhx1.out
 subst hpv0
 subst hx0
 have hn1' : ((n : Int) == 1) = true:=by simp;omega
 have hcx : w2.cell? ⟨gp,0,none⟩ = some (.int .i64 x):=by
  have h:=(own_rd HOWN.out).2 (by omega)
  obtain ⟨g,o,e,h⟩:=h
  cases e
  simpa using h 0 (by simp)
 go_upto_region 12 with ((go_at_call 100;refine (rin_any _ _ _ _).mono ?_;rintro ee ww ⟨rfl,rfl⟩;(first|rw [inB_yes (by omega) (by omega)]|rw [inB_no (by omega)])))
 go_wp2_with (first
  | (go_at_call 77;refine (rto_any 4 _).mono ?_;rintro ee wt ⟨rfl,hbt⟩;have hbt':=Lib.hid hbt;clear hbt)
  | ((with_reducible refine wpList_store_scn 4 0 none 0 0 (w.heap.size + 1) (.tmp 4) (.tmp 80) rfl rfl ?_ ?_ ?_ ?_);(focus rfl);(focus rfl);(focus (exact Exists.elim HB1'.out (fun old h => ⟨old,h.1.up hbt'.out,h.2⟩)));intro w3 hS3 hg3;have HS3:=Lib.hid hS3;have HG3:=Lib.hid hg3;clear hS3 hg3)
  | fail)
 refine bodyPost_ret (results_scn rfl _ _ (w.heap.size + 1) 4 0 none 0 0 (by rfl) HS3.out) rfl ?_
 exact ⟨4,0,none,0,0,[],none,0,0,[],rfl,ScnOk.to _ _ (by omega),OpsL.nil_ _,by omega,by omega,by omega,Bw.grown (Bw.trans hbw2 hbt'.out) HG3.out (fun k hk => by cases hk;omega),(by have hs3:=HG3.out.size;(try have hs5:=HG5.out.size);refine ⟨fun ad e => ?_,fun ad e => ?_,fun o ho ad e => ?_⟩;(focus (first|(cases e;done)|(right;exact e.symm)|(left;cases e;dsimp only;simp only [szA,szS,szD,szN] at *;omega)|(left;cases e;dsimp only;omega)));(focus (first|(cases e;done)|(cases e;dsimp only;omega)|(cases e;dsimp only;simp only [szA,szS,szD,szN] at *;omega)));(focus (first|(cases ho;done)|(simp only [List.mem_singleton] at ho;subst ho;dsimp only at e;first|(cases e;done)|(cases e;dsimp only;omega))))),fun _ => TyA.none _,fun o ho => by cases ho⟩
set_option maxRecDepth 100000 in
set_option maxHeartbeats 4000000 in
theorem rcsi14_final (code pv : Int) (A : Option Addr) (n c : Nat) (xs : List Int) (w : World) (h : ScnOk w 3 pv A n c xs) (h1 : 64 ≤ code) (h2 : code ≤ 126) (h59 : (code == 59) = false) : Calls Tryz.prog 101 #[.agg #[.int .i64 3,.int .i64 pv,.slice A n c],.int .i64 code] w (Nxt w A):=by
 have Zh1:=Lib.hid h1
 clear h1
 have Zh2:=Lib.hid h2
 clear h2
 have Zh59:=Lib.hid h59
 clear h59
 obtain ⟨hx,hn,hc,hv⟩:=h
 obtain ⟨hn1,hn16,hpv,hp⟩ : 1 ≤ n ∧ n ≤ 16 ∧ (pv = 0 ∨ (60 ≤ pv ∧ pv ≤ 63)) ∧ ∀ x ∈ xs,0 ≤ x ∧ x ≤ 9999:=by
  rcases hv with h|h
  ·exact absurd rfl h.1
  ·exact h.2
 have HX:=Lib.hid hx
 have HP:=Lib.hid hp
 have HPV:=Lib.hid hpv
 have HXA:=Lib.hid (show ∀ ad,A = some ad → 0 < n → ad.block < w.heap.size from fun ad e h0 => by
  obtain ⟨g,o,e2,h⟩:=hx.2 h0
  have h1:=lt_of_cell (h 0 (by rw [hx.1];exact h0))
  rw [e] at e2
  cases e2
  exact h1)
 clear hx hp hpv hv
 obtain ⟨i0,hi,hi0,hi1,hi2⟩:=info_parts infoI
 have hxl : xs.length = n:=HX.out.1
 go_enter Tryz.func101,Tryz.ntmps101
 go_upto_region 1 with (fail)
 generalize hw1 : (w.alloc (.cells #[.int .i64 3,.int .i64 pv,.slice A n c] 50)).alloc _ = w1
 obtain ⟨hb0,hb1,hbw,hz⟩:=sb2 hw1
 have HB0:=Lib.hid hb0
 have HB1:=Lib.hid (show ∃ old,Sb w1 (w.heap.size + 1) old 50 ∧ old.size = 3 from ⟨_,hb1,rfl⟩)
 have hz1 : w.heap.size + 1 < w1.heap.size:=by omega
 have hz0 : w.heap.size < w1.heap.size:=by omega
 have y2:=HB0.out.cell 2 (v:=.slice A n c) rfl
 clear hw1 hb0 hb1 hz
 go_upto_region 2 with (first
  | (at_builtin;refine wpList_append_srcG (by rfl) (.tmp 8) (.tmp 10) 22 rfl w1.heap.size 3 i0 (.int .i64 0) 1 8 Tryz.underlying22 hi hi0 hi1 hi2 rfl (by decide) (.slice (some ⟨w1.heap.size,0,none⟩) 0 0) 0 [] (by rfl) (own_made rfl (Nat.le_refl _)) A n c (xs.map (.int .i64)) (by rfl) (by rw [List.length_map,hxl];omega) (fun e => (HX.out.none_ e).1) (Rd.news2 (by exact HX.out.up BWX)) (one_map (fun _ => rfl) _) (by unfold maxLen;omega) (by omega) SZX ?_;intro v1 w2 hown hg2;simp only [Nat.zero_add,List.nil_append] at hown;have hb2 : Bw w1 w2:=Bw.grown (show Bw w1 (w1.alloc (.cells #[] 3)) from BWX) hg2 (fun k hk => by have e:=Option.some.inj (show some w1.heap.size = some k from hk);omega);have HOWN:=Lib.hid hown;have HB2:=Lib.hid hb2;clear hown hg2 hb2)
  | fail)
 obtain ⟨gp,cp,rfl,hgp,hgp2⟩:=HOWN.out.form (by omega)
 have hb2:=HB2.out
 have HB0':=Lib.hid (HB0.out.up hb2)
 have HB1':=Lib.hid (Exists.elim HB1.out (fun old h => (⟨old,h.1.up hb2,h.2⟩ : ∃ old,Sb w2 (w.heap.size + 1) old 50 ∧ old.size = 3)))
 have hbw2 : Bw w w2:=Bw.trans hbw hb2
 have hz2 : w.heap.size + 1 < w2.heap.size:=by have:=hb2.size;omega
 have hz02 : w.heap.size < w2.heap.size:=by omega
 have hcp:=own_form HOWN.out
 obtain ⟨A_,c_,e_,hcp1,hcp2⟩:=hcp
 cases e_
 clear HB2 y2 HB0 HB1 hb2
 have y1:=HB0'.out.cell 1 (v:=.int .i64 pv) rfl
 have y2:=HB0'.out.cell 2 (v:=.slice A n c) rfl
 obtain ⟨k,hk⟩ : ∃ k : Nat,n = k + 1:=⟨n - 1,by omega⟩
 have hk1 : (n : Int) - 1 = (k : Int):=by omega
 have hkn : k < n:=by omega
 have HK:=Lib.hid hk
 clear hk
 have h1:=Zh1.out
 have h2:=Zh2.out
 have h59:=Zh59.out
 have hY:=(show ∀ w',Bw w2 w' → (w'.cell? ⟨w.heap.size,1,none⟩ = some (.int .i64 pv)) from fun w' hb => cell_up y1 hb)
 have hYg:=(show ∀ w' w'',Bw w2 w' → w'.grownBy w'' (some gp) → (w''.cell? ⟨w.heap.size,1,none⟩ = some (.int .i64 pv)) from fun w' w'' hb hg => cell_far (cell_up y1 hb) hg (by intro e;have:=Option.some.inj e;omega))
 have HY:=Lib.hid hY
 have HYg:=Lib.hid hYg
 clear hY hYg y2
 go_upto_region 11 with ((go_at_call 100;refine (rin_any _ _ _ _).mono ?_;rintro ee ww ⟨rfl,rfl⟩;(first|rw [inB_yes (by omega) (by omega)]|rw [inB_no (by omega)])))
 clear y1
 refine wp_region_held_drew (S:=(fun w' => w'.cell? ⟨w.heap.size,1,none⟩ = some (.int .i64 pv))) (by kernel_rfl) ?_ (fun hHeld => ?_)
 ·(try dsimp only);(first|(refine HY.out _ ?_;(repeat (first|with_reducible (first|assumption|exact Bw.refl _|refine Bw.alloc ?_ _|refine Bw.more ?_ _ _|refine Bw.drew ?_|refine Bw.drewN ?_ _)|((with_reducible refine Bw.set2 ?_ ?_ _);(focus exact SZX))|with_reducible refine Bw.trans ?_ (by assumption)));done)|exact hHeld|(exact HYg.out _ _ BWX HG5.out)|(exact cell_far hHeld HG3.out (by intro e;have:=Option.some.inj e;omega))|(refine cell_up hHeld ?_;(repeat (first|with_reducible (first|assumption|exact Bw.refl _|refine Bw.alloc ?_ _|refine Bw.more ?_ _ _|refine Bw.drew ?_|refine Bw.drewN ?_ _)|((with_reducible refine Bw.set2 ?_ ?_ _);(focus exact SZX))|with_reducible refine Bw.trans ?_ (by assumption)));done))
 refine tkQ 2 ?_
 refine tkQ 3 ?_
 refine tkQ 1 ?_
 (try simp only [Act.put,zP1,zP2,zP3,zP4,zP5,zP6])
 refine tkQ 4 ?_
 refine tkQ 5 ?_
 (try simp only [Act.put,zP1,zP2,zP3,zP4,zP5,zP6])
 refine wpAnyH_ready (rs:=[0,6]) (by kernel_rfl) (by simp) ?_
 refine AllReadyH.cons rfl (fun K hK => ?_) ?_
 ·go_simp
  refine (rto_any 0 _).mono ?_;rintro ee wt ⟨rfl,hbt⟩;have hzt:=hbt.size;go_wp2_with fail
  refine hK.out _ _ ?_ (fun hHeld => ?_)
  ·(try dsimp only);(first|(refine HY.out _ ?_;(repeat (first|with_reducible (first|assumption|exact Bw.refl _|refine Bw.alloc ?_ _|refine Bw.more ?_ _ _|refine Bw.drew ?_|refine Bw.drewN ?_ _)|((with_reducible refine Bw.set2 ?_ ?_ _);(focus exact SZX))|with_reducible refine Bw.trans ?_ (by assumption)));done)|exact hHeld|(exact HYg.out _ _ BWX HG5.out)|(exact cell_far hHeld HG3.out (by intro e;have:=Option.some.inj e;omega))|(refine cell_up hHeld ?_;(repeat (first|with_reducible (first|assumption|exact Bw.refl _|refine Bw.alloc ?_ _|refine Bw.more ?_ _ _|refine Bw.drew ?_|refine Bw.drewN ?_ _)|((with_reducible refine Bw.set2 ?_ ?_ _);(focus exact SZX))|with_reducible refine Bw.trans ?_ (by assumption)));done))
  clear hK K
  (try simp only [Act.put,zP1,zP2,zP3,zP4,zP5,zP6])
  refine wpAnyH_ready (rs:=[6,7]) (by kernel_rfl) (by simp) ?_
  refine AllReadyH.cons rfl (fun K hK => ?_) ?_
  ·go_simp;(generalize hwB : World.alloc _ (.cells #[.int .i64 4,.int .i64 code,.int .i64 pv,.slice (some ⟨gp,0,none⟩) n cp] 109) = wB);obtain ⟨hSB,hbB,hzB⟩:=sb1 hwB;have HSB:=Lib.hid hSB;clear hwB hSB
   refine hK.out _ _ ?_ (fun hHeld => ?_)
   ·(try dsimp only);(first|(refine HY.out _ ?_;(repeat (first|with_reducible (first|assumption|exact Bw.refl _|refine Bw.alloc ?_ _|refine Bw.more ?_ _ _|refine Bw.drew ?_|refine Bw.drewN ?_ _)|((with_reducible refine Bw.set2 ?_ ?_ _);(focus exact SZX))|with_reducible refine Bw.trans ?_ (by assumption)));done)|exact hHeld|(exact HYg.out _ _ BWX HG5.out)|(exact cell_far hHeld HG3.out (by intro e;have:=Option.some.inj e;omega))|(refine cell_up hHeld ?_;(repeat (first|with_reducible (first|assumption|exact Bw.refl _|refine Bw.alloc ?_ _|refine Bw.more ?_ _ _|refine Bw.drew ?_|refine Bw.drewN ?_ _)|((with_reducible refine Bw.set2 ?_ ?_ _);(focus exact SZX))|with_reducible refine Bw.trans ?_ (by assumption)));done))
   clear hK K
   (try simp only [Act.put,zP1,zP2,zP3,zP4,zP5,zP6])
   refine wpAnyH_ready (rs:=[7]) (by kernel_rfl) (by simp) ?_
   refine AllReadyH.cons rfl (fun K hK => ?_) ?_
   ·(refine (if_pos (by kernel_rfl)).mpr ?_);(with_reducible refine wp_store_scn 0 0 none 0 0 (w.heap.size + 1) (.tmp 4) (.tmp 73) ?ho ?_ ?_ ?_ ?_);(case ho => rfl);(focus rfl);(focus rfl);(focus (first|exact Exists.elim HB1'.out (fun old h => ⟨old,h.1.up BWX,h.2⟩)));intro w3 hS3 hg3;have HS3:=Lib.hid hS3;have HG3:=Lib.hid hg3;clear hS3 hg3
    refine hK.out _ _ ?_ (fun hHeld => ?_)
    ·(try dsimp only);(first|(refine HY.out _ ?_;(repeat (first|with_reducible (first|assumption|exact Bw.refl _|refine Bw.alloc ?_ _|refine Bw.more ?_ _ _|refine Bw.drew ?_|refine Bw.drewN ?_ _)|((with_reducible refine Bw.set2 ?_ ?_ _);(focus exact SZX))|with_reducible refine Bw.trans ?_ (by assumption)));done)|exact hHeld|(exact HYg.out _ _ BWX HG5.out)|(exact cell_far hHeld HG3.out (by intro e;have:=Option.some.inj e;omega))|(refine cell_up hHeld ?_;(repeat (first|with_reducible (first|assumption|exact Bw.refl _|refine Bw.alloc ?_ _|refine Bw.more ?_ _ _|refine Bw.drew ?_|refine Bw.drewN ?_ _)|((with_reducible refine Bw.set2 ?_ ?_ _);(focus exact SZX))|with_reducible refine Bw.trans ?_ (by assumption)));done))
    clear hK K
    (try simp only [Act.put,zP1,zP2,zP3,zP4,zP5,zP6])
    refine wpAnyH_ready (rs:=[8]) (by kernel_rfl) (by simp) ?_
    refine AllReadyH.cons rfl (fun K hK => ?_) ?_
    ·go_simp
     refine hK.out _ _ ?_ (fun hHeld => ?_)
     ·(try dsimp only);(first|(refine HY.out _ ?_;(repeat (first|with_reducible (first|assumption|exact Bw.refl _|refine Bw.alloc ?_ _|refine Bw.more ?_ _ _|refine Bw.drew ?_|refine Bw.drewN ?_ _)|((with_reducible refine Bw.set2 ?_ ?_ _);(focus exact SZX))|with_reducible refine Bw.trans ?_ (by assumption)));done)|exact hHeld|(exact HYg.out _ _ BWX HG5.out)|(exact cell_far hHeld HG3.out (by intro e;have:=Option.some.inj e;omega))|(refine cell_up hHeld ?_;(repeat (first|with_reducible (first|assumption|exact Bw.refl _|refine Bw.alloc ?_ _|refine Bw.more ?_ _ _|refine Bw.drew ?_|refine Bw.drewN ?_ _)|((with_reducible refine Bw.set2 ?_ ?_ _);(focus exact SZX))|with_reducible refine Bw.trans ?_ (by assumption)));done))
     clear hK K
     (try simp only [Act.put,zP1,zP2,zP3,zP4,zP5,zP6])
     refine wpAnyH_done (by kernel_rfl) ?_ _
     go_wp2_with fail
     first
      | refine bodyPost_ret (results_scn rfl _ _ (w.heap.size + 1) 0 0 none 0 0 (by rfl) HS3.out) rfl ?_
      | refine bodyPost_ret (results_scn rfl _ _ (w.heap.size + 1) 0 0 none 0 0 (by rfl) (HS3.out.up hbB)) rfl ?_
     first
      | exact ⟨0,0,none,0,0,[],some ⟨_,0,none⟩,1,1,[⟨4,code,pv,some ⟨gp,0,none⟩,n,cp,xs⟩],rfl,ScnOk.to _ _ (by omega),OpsL.one ⟨4,code,pv,some ⟨gp,0,none⟩,n,cp,xs⟩ ((HSB.out.up BWX).far HG3.out (by intro e;have:=Option.some.inj e;simp only [szA,szS,szD,szN] at *;omega)) ⟨own_rd ((HOWN.out.bw (show Bw w2 _ from BWX)).kept HG3.out (.inr (by simp only [Value.ownBlock];intro e;have:=Option.some.inj e;omega))),hcp1,hcp2,by show n ≤ 1000;omega⟩,by omega,by omega,by omega,Bw.grown (Bw.trans hbw2 (show Bw w2 _ from BWX)) HG3.out (fun k hk => by cases hk;omega),(by have hs3:=HG3.out.size;(try have hs5:=HG5.out.size);refine ⟨fun ad e => ?_,fun ad e => ?_,fun o ho ad e => ?_⟩;(focus (first|(cases e;done)|(right;exact e.symm)|(left;cases e;dsimp only;simp only [szA,szS,szD,szN] at *;omega)|(left;cases e;dsimp only;omega)));(focus (first|(cases e;done)|(cases e;dsimp only;omega)|(cases e;dsimp only;simp only [szA,szS,szD,szN] at *;omega)));(focus (first|(cases ho;done)|(simp only [List.mem_singleton] at ho;subst ho;dsimp only at e;first|(cases e;done)|(cases e;dsimp only;omega))))),fun _ => TyA.none _,fun o ho => by (simp only [List.mem_singleton] at ho;subst ho;exact TyA.own ((HOWN.out.bw (show Bw w2 _ from BWX)).kept HG3.out (.inr (by simp only [Value.ownBlock];intro e;have:=Option.some.inj e;omega))))⟩
      | exact ⟨0,0,none,0,0,[],some ⟨_,0,none⟩,1,1,[⟨4,code,pv,some ⟨gp,0,none⟩,n,cp,xs⟩],rfl,ScnOk.to _ _ (by omega),OpsL.one ⟨4,code,pv,some ⟨gp,0,none⟩,n,cp,xs⟩ HSB.out ⟨own_rd (((HOWN.out.bw (show Bw w2 _ from BWX)).kept HG3.out (.inr (by simp only [Value.ownBlock];intro e;have:=Option.some.inj e;omega))).bw hbB),hcp1,hcp2,by show n ≤ 1000;omega⟩,by omega,by omega,by omega,Bw.trans (Bw.grown (Bw.trans hbw2 (show Bw w2 _ from BWX)) HG3.out (fun k hk => by cases hk;omega)) hbB,(by have hs3:=HG3.out.size;(try have hs5:=HG5.out.size);refine ⟨fun ad e => ?_,fun ad e => ?_,fun o ho ad e => ?_⟩;(focus (first|(cases e;done)|(right;exact e.symm)|(left;cases e;dsimp only;simp only [szA,szS,szD,szN] at *;omega)|(left;cases e;dsimp only;omega)));(focus (first|(cases e;done)|(cases e;dsimp only;omega)|(cases e;dsimp only;simp only [szA,szS,szD,szN] at *;omega)));(focus (first|(cases ho;done)|(simp only [List.mem_singleton] at ho;subst ho;dsimp only at e;first|(cases e;done)|(cases e;dsimp only;omega))))),fun _ => TyA.none _,fun o ho => by (simp only [List.mem_singleton] at ho;subst ho;exact TyA.own (((HOWN.out.bw (show Bw w2 _ from BWX)).kept HG3.out (.inr (by simp only [Value.ownBlock];intro e;have:=Option.some.inj e;omega))).bw hbB))⟩
    exact AllReadyH.nil
   exact AllReadyH.nil
  refine AllReadyH.cons rfl (fun K hK => ?_) ?_
  ·(refine (if_pos (by kernel_rfl)).mpr ?_);(with_reducible refine wp_store_scn 0 0 none 0 0 (w.heap.size + 1) (.tmp 4) (.tmp 73) ?ho ?_ ?_ ?_ ?_);(case ho => rfl);(focus rfl);(focus rfl);(focus (first|exact Exists.elim HB1'.out (fun old h => ⟨old,h.1.up BWX,h.2⟩)));intro w3 hS3 hg3;have HS3:=Lib.hid hS3;have HG3:=Lib.hid hg3;clear hS3 hg3
   refine hK.out _ _ ?_ (fun hHeld => ?_)
   ·(try dsimp only);(first|(refine HY.out _ ?_;(repeat (first|with_reducible (first|assumption|exact Bw.refl _|refine Bw.alloc ?_ _|refine Bw.more ?_ _ _|refine Bw.drew ?_|refine Bw.drewN ?_ _)|((with_reducible refine Bw.set2 ?_ ?_ _);(focus exact SZX))|with_reducible refine Bw.trans ?_ (by assumption)));done)|exact hHeld|(exact HYg.out _ _ BWX HG5.out)|(exact cell_far hHeld HG3.out (by intro e;have:=Option.some.inj e;omega))|(refine cell_up hHeld ?_;(repeat (first|with_reducible (first|assumption|exact Bw.refl _|refine Bw.alloc ?_ _|refine Bw.more ?_ _ _|refine Bw.drew ?_|refine Bw.drewN ?_ _)|((with_reducible refine Bw.set2 ?_ ?_ _);(focus exact SZX))|with_reducible refine Bw.trans ?_ (by assumption)));done))
   clear hK K
   (try simp only [Act.put,zP1,zP2,zP3,zP4,zP5,zP6])
   refine wpAnyH_ready (rs:=[6]) (by kernel_rfl) (by simp) ?_
   refine AllReadyH.cons rfl (fun K hK => ?_) ?_
   ·go_simp;(generalize hwB : World.alloc _ (.cells #[.int .i64 4,.int .i64 code,.int .i64 pv,.slice (some ⟨gp,0,none⟩) n cp] 109) = wB);obtain ⟨hSB,hbB,hzB⟩:=sb1 hwB;have HSB:=Lib.hid hSB;clear hwB hSB
    refine hK.out _ _ ?_ (fun hHeld => ?_)
    ·(try dsimp only);(first|(refine HY.out _ ?_;(repeat (first|with_reducible (first|assumption|exact Bw.refl _|refine Bw.alloc ?_ _|refine Bw.more ?_ _ _|refine Bw.drew ?_|refine Bw.drewN ?_ _)|((with_reducible refine Bw.set2 ?_ ?_ _);(focus exact SZX))|with_reducible refine Bw.trans ?_ (by assumption)));done)|exact hHeld|(exact HYg.out _ _ BWX HG5.out)|(exact cell_far hHeld HG3.out (by intro e;have:=Option.some.inj e;omega))|(refine cell_up hHeld ?_;(repeat (first|with_reducible (first|assumption|exact Bw.refl _|refine Bw.alloc ?_ _|refine Bw.more ?_ _ _|refine Bw.drew ?_|refine Bw.drewN ?_ _)|((with_reducible refine Bw.set2 ?_ ?_ _);(focus exact SZX))|with_reducible refine Bw.trans ?_ (by assumption)));done))
    clear hK K
    (try simp only [Act.put,zP1,zP2,zP3,zP4,zP5,zP6])
    refine wpAnyH_ready (rs:=[8]) (by kernel_rfl) (by simp) ?_
    refine AllReadyH.cons rfl (fun K hK => ?_) ?_
    ·go_simp
     refine hK.out _ _ ?_ (fun hHeld => ?_)
     ·(try dsimp only);(first|(refine HY.out _ ?_;(repeat (first|with_reducible (first|assumption|exact Bw.refl _|refine Bw.alloc ?_ _|refine Bw.more ?_ _ _|refine Bw.drew ?_|refine Bw.drewN ?_ _)|((with_reducible refine Bw.set2 ?_ ?_ _);(focus exact SZX))|with_reducible refine Bw.trans ?_ (by assumption)));done)|exact hHeld|(exact HYg.out _ _ BWX HG5.out)|(exact cell_far hHeld HG3.out (by intro e;have:=Option.some.inj e;omega))|(refine cell_up hHeld ?_;(repeat (first|with_reducible (first|assumption|exact Bw.refl _|refine Bw.alloc ?_ _|refine Bw.more ?_ _ _|refine Bw.drew ?_|refine Bw.drewN ?_ _)|((with_reducible refine Bw.set2 ?_ ?_ _);(focus exact SZX))|with_reducible refine Bw.trans ?_ (by assumption)));done))
     clear hK K
     (try simp only [Act.put,zP1,zP2,zP3,zP4,zP5,zP6])
     refine wpAnyH_done (by kernel_rfl) ?_ _
     go_wp2_with fail
     first
      | refine bodyPost_ret (results_scn rfl _ _ (w.heap.size + 1) 0 0 none 0 0 (by rfl) HS3.out) rfl ?_
      | refine bodyPost_ret (results_scn rfl _ _ (w.heap.size + 1) 0 0 none 0 0 (by rfl) (HS3.out.up hbB)) rfl ?_
     first
      | exact ⟨0,0,none,0,0,[],some ⟨_,0,none⟩,1,1,[⟨4,code,pv,some ⟨gp,0,none⟩,n,cp,xs⟩],rfl,ScnOk.to _ _ (by omega),OpsL.one ⟨4,code,pv,some ⟨gp,0,none⟩,n,cp,xs⟩ ((HSB.out.up BWX).far HG3.out (by intro e;have:=Option.some.inj e;simp only [szA,szS,szD,szN] at *;omega)) ⟨own_rd ((HOWN.out.bw (show Bw w2 _ from BWX)).kept HG3.out (.inr (by simp only [Value.ownBlock];intro e;have:=Option.some.inj e;omega))),hcp1,hcp2,by show n ≤ 1000;omega⟩,by omega,by omega,by omega,Bw.grown (Bw.trans hbw2 (show Bw w2 _ from BWX)) HG3.out (fun k hk => by cases hk;omega),(by have hs3:=HG3.out.size;(try have hs5:=HG5.out.size);refine ⟨fun ad e => ?_,fun ad e => ?_,fun o ho ad e => ?_⟩;(focus (first|(cases e;done)|(right;exact e.symm)|(left;cases e;dsimp only;simp only [szA,szS,szD,szN] at *;omega)|(left;cases e;dsimp only;omega)));(focus (first|(cases e;done)|(cases e;dsimp only;omega)|(cases e;dsimp only;simp only [szA,szS,szD,szN] at *;omega)));(focus (first|(cases ho;done)|(simp only [List.mem_singleton] at ho;subst ho;dsimp only at e;first|(cases e;done)|(cases e;dsimp only;omega))))),fun _ => TyA.none _,fun o ho => by (simp only [List.mem_singleton] at ho;subst ho;exact TyA.own ((HOWN.out.bw (show Bw w2 _ from BWX)).kept HG3.out (.inr (by simp only [Value.ownBlock];intro e;have:=Option.some.inj e;omega))))⟩
      | exact ⟨0,0,none,0,0,[],some ⟨_,0,none⟩,1,1,[⟨4,code,pv,some ⟨gp,0,none⟩,n,cp,xs⟩],rfl,ScnOk.to _ _ (by omega),OpsL.one ⟨4,code,pv,some ⟨gp,0,none⟩,n,cp,xs⟩ HSB.out ⟨own_rd (((HOWN.out.bw (show Bw w2 _ from BWX)).kept HG3.out (.inr (by simp only [Value.ownBlock];intro e;have:=Option.some.inj e;omega))).bw hbB),hcp1,hcp2,by show n ≤ 1000;omega⟩,by omega,by omega,by omega,Bw.trans (Bw.grown (Bw.trans hbw2 (show Bw w2 _ from BWX)) HG3.out (fun k hk => by cases hk;omega)) hbB,(by have hs3:=HG3.out.size;(try have hs5:=HG5.out.size);refine ⟨fun ad e => ?_,fun ad e => ?_,fun o ho ad e => ?_⟩;(focus (first|(cases e;done)|(right;exact e.symm)|(left;cases e;dsimp only;simp only [szA,szS,szD,szN] at *;omega)|(left;cases e;dsimp only;omega)));(focus (first|(cases e;done)|(cases e;dsimp only;omega)|(cases e;dsimp only;simp only [szA,szS,szD,szN] at *;omega)));(focus (first|(cases ho;done)|(simp only [List.mem_singleton] at ho;subst ho;dsimp only at e;first|(cases e;done)|(cases e;dsimp only;omega))))),fun _ => TyA.none _,fun o ho => by (simp only [List.mem_singleton] at ho;subst ho;exact TyA.own (((HOWN.out.bw (show Bw w2 _ from BWX)).kept HG3.out (.inr (by simp only [Value.ownBlock];intro e;have:=Option.some.inj e;omega))).bw hbB))⟩
    exact AllReadyH.nil
   exact AllReadyH.nil
  exact AllReadyH.nil
 refine AllReadyH.cons rfl (fun K hK => ?_) ?_
 ·go_simp;(generalize hwB : World.alloc _ (.cells #[.int .i64 4,.int .i64 code,.int .i64 pv,.slice (some ⟨gp,0,none⟩) n cp] 109) = wB);obtain ⟨hSB,hbB,hzB⟩:=sb1 hwB;have HSB:=Lib.hid hSB;clear hwB hSB
  refine hK.out _ _ ?_ (fun hHeld => ?_)
  ·(try dsimp only);(first|(refine HY.out _ ?_;(repeat (first|with_reducible (first|assumption|exact Bw.refl _|refine Bw.alloc ?_ _|refine Bw.more ?_ _ _|refine Bw.drew ?_|refine Bw.drewN ?_ _)|((with_reducible refine Bw.set2 ?_ ?_ _);(focus exact SZX))|with_reducible refine Bw.trans ?_ (by assumption)));done)|exact hHeld|(exact HYg.out _ _ BWX HG5.out)|(exact cell_far hHeld HG3.out (by intro e;have:=Option.some.inj e;omega))|(refine cell_up hHeld ?_;(repeat (first|with_reducible (first|assumption|exact Bw.refl _|refine Bw.alloc ?_ _|refine Bw.more ?_ _ _|refine Bw.drew ?_|refine Bw.drewN ?_ _)|((with_reducible refine Bw.set2 ?_ ?_ _);(focus exact SZX))|with_reducible refine Bw.trans ?_ (by assumption)));done))
  clear hK K
  (try simp only [Act.put,zP1,zP2,zP3,zP4,zP5,zP6])
  refine wpAnyH_ready (rs:=[0]) (by kernel_rfl) (by simp) ?_
  refine AllReadyH.cons rfl (fun K hK => ?_) ?_
  ·go_simp
   refine (rto_any 0 _).mono ?_;rintro ee wt ⟨rfl,hbt⟩;have hzt:=hbt.size;go_wp2_with fail
   refine hK.out _ _ ?_ (fun hHeld => ?_)
   ·(try dsimp only);(first|(refine HY.out _ ?_;(repeat (first|with_reducible (first|assumption|exact Bw.refl _|refine Bw.alloc ?_ _|refine Bw.more ?_ _ _|refine Bw.drew ?_|refine Bw.drewN ?_ _)|((with_reducible refine Bw.set2 ?_ ?_ _);(focus exact SZX))|with_reducible refine Bw.trans ?_ (by assumption)));done)|exact hHeld|(exact HYg.out _ _ BWX HG5.out)|(exact cell_far hHeld HG3.out (by intro e;have:=Option.some.inj e;omega))|(refine cell_up hHeld ?_;(repeat (first|with_reducible (first|assumption|exact Bw.refl _|refine Bw.alloc ?_ _|refine Bw.more ?_ _ _|refine Bw.drew ?_|refine Bw.drewN ?_ _)|((with_reducible refine Bw.set2 ?_ ?_ _);(focus exact SZX))|with_reducible refine Bw.trans ?_ (by assumption)));done))
   clear hK K
   (try simp only [Act.put,zP1,zP2,zP3,zP4,zP5,zP6])
   refine wpAnyH_ready (rs:=[7]) (by kernel_rfl) (by simp) ?_
   refine AllReadyH.cons rfl (fun K hK => ?_) ?_
   ·(refine (if_pos (by kernel_rfl)).mpr ?_);(with_reducible refine wp_store_scn 0 0 none 0 0 (w.heap.size + 1) (.tmp 4) (.tmp 73) ?ho ?_ ?_ ?_ ?_);(case ho => rfl);(focus rfl);(focus rfl);(focus (first|exact Exists.elim HB1'.out (fun old h => ⟨old,h.1.up BWX,h.2⟩)));intro w3 hS3 hg3;have HS3:=Lib.hid hS3;have HG3:=Lib.hid hg3;clear hS3 hg3
    refine hK.out _ _ ?_ (fun hHeld => ?_)
    ·(try dsimp only);(first|(refine HY.out _ ?_;(repeat (first|with_reducible (first|assumption|exact Bw.refl _|refine Bw.alloc ?_ _|refine Bw.more ?_ _ _|refine Bw.drew ?_|refine Bw.drewN ?_ _)|((with_reducible refine Bw.set2 ?_ ?_ _);(focus exact SZX))|with_reducible refine Bw.trans ?_ (by assumption)));done)|exact hHeld|(exact HYg.out _ _ BWX HG5.out)|(exact cell_far hHeld HG3.out (by intro e;have:=Option.some.inj e;omega))|(refine cell_up hHeld ?_;(repeat (first|with_reducible (first|assumption|exact Bw.refl _|refine Bw.alloc ?_ _|refine Bw.more ?_ _ _|refine Bw.drew ?_|refine Bw.drewN ?_ _)|((with_reducible refine Bw.set2 ?_ ?_ _);(focus exact SZX))|with_reducible refine Bw.trans ?_ (by assumption)));done))
    clear hK K
    (try simp only [Act.put,zP1,zP2,zP3,zP4,zP5,zP6])
    refine wpAnyH_ready (rs:=[8]) (by kernel_rfl) (by simp) ?_
    refine AllReadyH.cons rfl (fun K hK => ?_) ?_
    ·go_simp
     refine hK.out _ _ ?_ (fun hHeld => ?_)
     ·(try dsimp only);(first|(refine HY.out _ ?_;(repeat (first|with_reducible (first|assumption|exact Bw.refl _|refine Bw.alloc ?_ _|refine Bw.more ?_ _ _|refine Bw.drew ?_|refine Bw.drewN ?_ _)|((with_reducible refine Bw.set2 ?_ ?_ _);(focus exact SZX))|with_reducible refine Bw.trans ?_ (by assumption)));done)|exact hHeld|(exact HYg.out _ _ BWX HG5.out)|(exact cell_far hHeld HG3.out (by intro e;have:=Option.some.inj e;omega))|(refine cell_up hHeld ?_;(repeat (first|with_reducible (first|assumption|exact Bw.refl _|refine Bw.alloc ?_ _|refine Bw.more ?_ _ _|refine Bw.drew ?_|refine Bw.drewN ?_ _)|((with_reducible refine Bw.set2 ?_ ?_ _);(focus exact SZX))|with_reducible refine Bw.trans ?_ (by assumption)));done))
     clear hK K
     (try simp only [Act.put,zP1,zP2,zP3,zP4,zP5,zP6])
     refine wpAnyH_done (by kernel_rfl) ?_ _
     go_wp2_with fail
     first
      | refine bodyPost_ret (results_scn rfl _ _ (w.heap.size + 1) 0 0 none 0 0 (by rfl) HS3.out) rfl ?_
      | refine bodyPost_ret (results_scn rfl _ _ (w.heap.size + 1) 0 0 none 0 0 (by rfl) (HS3.out.up hbB)) rfl ?_
     first
      | exact ⟨0,0,none,0,0,[],some ⟨_,0,none⟩,1,1,[⟨4,code,pv,some ⟨gp,0,none⟩,n,cp,xs⟩],rfl,ScnOk.to _ _ (by omega),OpsL.one ⟨4,code,pv,some ⟨gp,0,none⟩,n,cp,xs⟩ ((HSB.out.up BWX).far HG3.out (by intro e;have:=Option.some.inj e;simp only [szA,szS,szD,szN] at *;omega)) ⟨own_rd ((HOWN.out.bw (show Bw w2 _ from BWX)).kept HG3.out (.inr (by simp only [Value.ownBlock];intro e;have:=Option.some.inj e;omega))),hcp1,hcp2,by show n ≤ 1000;omega⟩,by omega,by omega,by omega,Bw.grown (Bw.trans hbw2 (show Bw w2 _ from BWX)) HG3.out (fun k hk => by cases hk;omega),(by have hs3:=HG3.out.size;(try have hs5:=HG5.out.size);refine ⟨fun ad e => ?_,fun ad e => ?_,fun o ho ad e => ?_⟩;(focus (first|(cases e;done)|(right;exact e.symm)|(left;cases e;dsimp only;simp only [szA,szS,szD,szN] at *;omega)|(left;cases e;dsimp only;omega)));(focus (first|(cases e;done)|(cases e;dsimp only;omega)|(cases e;dsimp only;simp only [szA,szS,szD,szN] at *;omega)));(focus (first|(cases ho;done)|(simp only [List.mem_singleton] at ho;subst ho;dsimp only at e;first|(cases e;done)|(cases e;dsimp only;omega))))),fun _ => TyA.none _,fun o ho => by (simp only [List.mem_singleton] at ho;subst ho;exact TyA.own ((HOWN.out.bw (show Bw w2 _ from BWX)).kept HG3.out (.inr (by simp only [Value.ownBlock];intro e;have:=Option.some.inj e;omega))))⟩
      | exact ⟨0,0,none,0,0,[],some ⟨_,0,none⟩,1,1,[⟨4,code,pv,some ⟨gp,0,none⟩,n,cp,xs⟩],rfl,ScnOk.to _ _ (by omega),OpsL.one ⟨4,code,pv,some ⟨gp,0,none⟩,n,cp,xs⟩ HSB.out ⟨own_rd (((HOWN.out.bw (show Bw w2 _ from BWX)).kept HG3.out (.inr (by simp only [Value.ownBlock];intro e;have:=Option.some.inj e;omega))).bw hbB),hcp1,hcp2,by show n ≤ 1000;omega⟩,by omega,by omega,by omega,Bw.trans (Bw.grown (Bw.trans hbw2 (show Bw w2 _ from BWX)) HG3.out (fun k hk => by cases hk;omega)) hbB,(by have hs3:=HG3.out.size;(try have hs5:=HG5.out.size);refine ⟨fun ad e => ?_,fun ad e => ?_,fun o ho ad e => ?_⟩;(focus (first|(cases e;done)|(right;exact e.symm)|(left;cases e;dsimp only;simp only [szA,szS,szD,szN] at *;omega)|(left;cases e;dsimp only;omega)));(focus (first|(cases e;done)|(cases e;dsimp only;omega)|(cases e;dsimp only;simp only [szA,szS,szD,szN] at *;omega)));(focus (first|(cases ho;done)|(simp only [List.mem_singleton] at ho;subst ho;dsimp only at e;first|(cases e;done)|(cases e;dsimp only;omega))))),fun _ => TyA.none _,fun o ho => by (simp only [List.mem_singleton] at ho;subst ho;exact TyA.own (((HOWN.out.bw (show Bw w2 _ from BWX)).kept HG3.out (.inr (by simp only [Value.ownBlock];intro e;have:=Option.some.inj e;omega))).bw hbB))⟩
    exact AllReadyH.nil
   exact AllReadyH.nil
  exact AllReadyH.nil
 exact AllReadyH.nil

theorem rcsi14_ok (code pv : Int) (A : Option Addr) (n c : Nat) (xs : List Int) (w : World) (h : ScnOk w 3 pv A n c xs) (h1 : 32 ≤ code) (h2 : code ≤ 126) : Calls Tryz.prog 101 #[.agg #[.int .i64 3,.int .i64 pv,.slice A n c],.int .i64 code] w (Nxt w A):=by
 have hl:=h.1.1
 obtain ⟨hn1,hn16⟩ : 1 ≤ n ∧ n ≤ 16:=by
  rcases h.2.2.2 with h|h
  ·exact absurd rfl h.1
  ·exact ⟨h.2.1,h.2.2.1⟩
 by_cases hd : 48 ≤ code ∧ code ≤ 57
 ·exact rcsi14_digit code pv A n c xs w h hd.1 hd.2
 by_cases hc : code = 59
 ·by_cases hn : n < 16
  ·exact rcsi14_colon code pv A n c xs w h hn hc
  ·exact rcsi14_full code pv A n c xs w h (by omega) hc
 have h59 : (code == 59) = false:=by simpa using hc
 by_cases hf : 64 ≤ code
 ·exact rcsi14_final code pv A n c xs w h hf h2 h59
 by_cases hp : 60 ≤ code
 ·by_cases h0 : pv = 0
  ·by_cases hn : n = 1
   ·obtain ⟨x,rfl⟩ : ∃ x,xs = [x]:=by
     match xs,hl.trans hn with
     | [x],_ => exact ⟨x,rfl⟩
    by_cases hx : x = 0
    ·subst hx
     exact rcsi14_priv code pv A n c _ w h hp (by omega) h59 h0 hn rfl
    ·exact rcsi14_noprivC code pv A n c _ w h hp (by omega) h59 h0 hn x rfl (by simpa using hx)
   ·exact rcsi14_noprivB code pv A n c xs w h hp (by omega) h59 h0 (by omega)
  ·exact rcsi14_noprivA code pv A n c xs w h hp (by omega) h59 (by simpa using h0)
 ·exact rcsi14_other code pv A n c xs w h (by omega) h59
theorem Rd.far0 {α : Type} {f : α → Value} {w w' : World} {A : Option Addr} {n : Nat} {xs : List α} {row : Option Nat} (h : Rd f w A n xs) (hg : w.grownBy w' row) (hne : 0 < n → ∀ ad,A = some ad → some ad.block ≠ row) : Rd f w' A n xs:=by
 by_cases h0 : 0 < n
 ·exact h.far hg (hne h0)
 ·exact ⟨h.1,fun h1 => absurd h1 h0⟩
theorem ScnOk.far0 {w w' : World} {md pv : Int} {A : Option Addr} {n c : Nat} {xs : List Int} {row : Option Nat} (h : ScnOk w md pv A n c xs) (hg : w.grownBy w' row) (hne : 0 < n → ∀ ad,A = some ad → some ad.block ≠ row) : ScnOk w' md pv A n c xs:=⟨h.1.far0 hg hne,h.2⟩
set_option maxRecDepth 100000 in
set_option maxHeartbeats 4000000 in
theorem rnext_g24 (md code pv : Int) (A : Option Addr) (n c : Nat) (xs : List Int) (w : World) (h : ScnOk w md pv A n c xs) (hk : code = 24) (hg5 : (md == 5) = false) (hg6 : (md == 6) = false) : Calls Tryz.prog 78 #[.agg #[.int .i64 md,.int .i64 pv,.slice A n c],.int .i64 code] w (Nxt w A):=by
 have Zhk:=Lib.hid hk
 clear hk
 have Zhg5:=Lib.hid hg5
 clear hg5
 have Zhg6:=Lib.hid hg6
 clear hg6
 have HOk:=Lib.hid h
 have hx:=h.1
 have HXA:=Lib.hid (show 0 < n → ∀ ad,A = some ad → ad.block < w.heap.size from fun h0 ad e => by
  obtain ⟨g,o,e2,h⟩:=hx.2 h0
  have h1:=lt_of_cell (h 0 (by rw [hx.1];exact h0))
  rw [e] at e2
  cases e2
  exact h1)
 clear h hx
 go_enter Tryz.func78,Tryz.ntmps78
 go_upto_region 1 with (fail)
 generalize hw1 : (w.alloc (.cells #[.int .i64 md,.int .i64 pv,.slice A n c] 50)).alloc _ = w1
 obtain ⟨hb0,hb1,hbw,hz⟩:=sb2 hw1
 have HB0a:=Lib.hid hb0
 have HB1a:=Lib.hid (show ∃ old,Sb w1 (w.heap.size + 1) old 50 ∧ old.size = 3 from ⟨_,hb1,rfl⟩)
 have hz1 : w.heap.size + 1 < w1.heap.size:=by omega
 have hz0 : w.heap.size < w1.heap.size:=by omega
 have y0:=HB0a.out.cell 0 (v:=.int .i64 md) rfl
 have y1:=HB0a.out.cell 1 (v:=.int .i64 pv) rfl
 have y2:=HB0a.out.cell 2 (v:=.slice A n c) rfl
 clear hw1 hb0 hb1 hz
 go_upto_region 3 with (first
  | (go_at_call 70;refine (rvalid14_ok md pv A n c xs _ (HOk.out.up (show Bw w _ from BWX))).mono ?_;rintro ee wv ⟨rfl,hbv⟩;have z0:=(HB0a.out.up hbv).cell 0 (v:=.int .i64 md) rfl;have z1:=(HB0a.out.up hbv).cell 1 (v:=.int .i64 pv) rfl;have z2:=(HB0a.out.up hbv).cell 2 (v:=.slice A n c) rfl;have HBV:=Lib.hid hbv;clear hbv y0 y1 y2)
  | fail)
 have hbv:=HBV.out
 have HB0:=Lib.hid (HB0a.out.up hbv)
 have HB1:=Lib.hid (Exists.elim HB1a.out (fun old h => (⟨old,h.1.up hbv,h.2⟩ : ∃ old,Sb wv (w.heap.size + 1) old 50 ∧ old.size = 3)))
 have hbw2 : Bw w wv:=Bw.trans hbw hbv
 have hz2 : w.heap.size + 1 < wv.heap.size:=by have:=hbv.size;omega
 have hz02 : w.heap.size < wv.heap.size:=by omega
 have HOk1:=Lib.hid (HOk.out.up hbw2)
 clear HBV HB0a HB1a hz1 hz0 hbw hbv
 have hk:=Zhk.out
 have hg5:=Zhg5.out
 have hg6:=Zhg6.out
 subst hk
 go_upto_region 5 with ((go_at_call 100;refine (rin_any _ _ _ _).mono ?_;rintro ee ww ⟨rfl,rfl⟩;(first|rw [inB_yes (by omega) (by omega)]|rw [inB_no (by omega)])))
 go_wp2_with (first
  | (go_at_call 77;refine (rto_any 0 _).mono ?_;rintro ee wt ⟨rfl,hbt⟩;have hbt':=Lib.hid hbt;clear hbt)
  | ((with_reducible refine wpList_store_scn 0 0 none 0 0 (w.heap.size + 1) (.tmp 4) (.tmp 26) rfl rfl ?_ ?_ ?_ ?_);(focus rfl);(focus rfl);(focus (exact Exists.elim HB1.out (fun old h => ⟨old,h.1.up hbt'.out,h.2⟩)));intro w3 hS3 hg3;have HS3:=Lib.hid hS3;have HG3:=Lib.hid hg3;clear hS3 hg3)
  | (go_at_call 100;refine (rin_any _ _ _ _).mono ?_;rintro ee ww ⟨rfl,rfl⟩;(first|rw [inB_yes (by omega) (by omega)]|rw [inB_no (by omega)]))
  | fail)
 refine bodyPost_ret (results_scn rfl _ _ (w.heap.size + 1) 0 0 none 0 0 (by rfl) HS3.out) rfl ?_
 exact ⟨0,0,none,0,0,[],none,0,0,[],rfl,ScnOk.to _ _ (by omega),OpsL.nil_ _,by omega,by omega,by omega,Bw.grown (Bw.trans hbw2 hbt'.out) HG3.out (fun k hk => by cases hk;omega),(by have hs3:=HG3.out.size;(try have hs5:=HG5.out.size);refine ⟨fun ad e => ?_,fun ad e => ?_,fun o ho ad e => ?_⟩;(focus (first|(cases e;done)|(right;exact e.symm)|(left;cases e;dsimp only;simp only [szA,szS,szD,szN] at *;omega)|(left;cases e;dsimp only;omega)));(focus (first|(cases e;done)|(cases e;dsimp only;omega)|(cases e;dsimp only;simp only [szA,szS,szD,szN] at *;omega)));(focus (first|(cases ho;done)|(simp only [List.mem_singleton] at ho;subst ho;dsimp only at e;first|(cases e;done)|(cases e;dsimp only;omega))))),fun _ => TyA.none _,fun o ho => by first|(cases ho;done)|(simp only [List.mem_singleton] at ho;subst ho;exact TyA.none _)⟩

set_option maxRecDepth 100000 in
set_option maxHeartbeats 4000000 in
theorem rnext_g26 (md code pv : Int) (A : Option Addr) (n c : Nat) (xs : List Int) (w : World) (h : ScnOk w md pv A n c xs) (hk : code = 26) (hg5 : (md == 5) = false) (hg6 : (md == 6) = false) : Calls Tryz.prog 78 #[.agg #[.int .i64 md,.int .i64 pv,.slice A n c],.int .i64 code] w (Nxt w A):=by
 have Zhk:=Lib.hid hk
 clear hk
 have Zhg5:=Lib.hid hg5
 clear hg5
 have Zhg6:=Lib.hid hg6
 clear hg6
 have HOk:=Lib.hid h
 have hx:=h.1
 have HXA:=Lib.hid (show 0 < n → ∀ ad,A = some ad → ad.block < w.heap.size from fun h0 ad e => by
  obtain ⟨g,o,e2,h⟩:=hx.2 h0
  have h1:=lt_of_cell (h 0 (by rw [hx.1];exact h0))
  rw [e] at e2
  cases e2
  exact h1)
 clear h hx
 go_enter Tryz.func78,Tryz.ntmps78
 go_upto_region 1 with (fail)
 generalize hw1 : (w.alloc (.cells #[.int .i64 md,.int .i64 pv,.slice A n c] 50)).alloc _ = w1
 obtain ⟨hb0,hb1,hbw,hz⟩:=sb2 hw1
 have HB0a:=Lib.hid hb0
 have HB1a:=Lib.hid (show ∃ old,Sb w1 (w.heap.size + 1) old 50 ∧ old.size = 3 from ⟨_,hb1,rfl⟩)
 have hz1 : w.heap.size + 1 < w1.heap.size:=by omega
 have hz0 : w.heap.size < w1.heap.size:=by omega
 have y0:=HB0a.out.cell 0 (v:=.int .i64 md) rfl
 have y1:=HB0a.out.cell 1 (v:=.int .i64 pv) rfl
 have y2:=HB0a.out.cell 2 (v:=.slice A n c) rfl
 clear hw1 hb0 hb1 hz
 go_upto_region 3 with (first
  | (go_at_call 70;refine (rvalid14_ok md pv A n c xs _ (HOk.out.up (show Bw w _ from BWX))).mono ?_;rintro ee wv ⟨rfl,hbv⟩;have z0:=(HB0a.out.up hbv).cell 0 (v:=.int .i64 md) rfl;have z1:=(HB0a.out.up hbv).cell 1 (v:=.int .i64 pv) rfl;have z2:=(HB0a.out.up hbv).cell 2 (v:=.slice A n c) rfl;have HBV:=Lib.hid hbv;clear hbv y0 y1 y2)
  | fail)
 have hbv:=HBV.out
 have HB0:=Lib.hid (HB0a.out.up hbv)
 have HB1:=Lib.hid (Exists.elim HB1a.out (fun old h => (⟨old,h.1.up hbv,h.2⟩ : ∃ old,Sb wv (w.heap.size + 1) old 50 ∧ old.size = 3)))
 have hbw2 : Bw w wv:=Bw.trans hbw hbv
 have hz2 : w.heap.size + 1 < wv.heap.size:=by have:=hbv.size;omega
 have hz02 : w.heap.size < wv.heap.size:=by omega
 have HOk1:=Lib.hid (HOk.out.up hbw2)
 clear HBV HB0a HB1a hz1 hz0 hbw hbv
 have hk:=Zhk.out
 have hg5:=Zhg5.out
 have hg6:=Zhg6.out
 subst hk
 go_upto_region 5 with ((go_at_call 100;refine (rin_any _ _ _ _).mono ?_;rintro ee ww ⟨rfl,rfl⟩;(first|rw [inB_yes (by omega) (by omega)]|rw [inB_no (by omega)])))
 go_wp2_with (first
  | (go_at_call 77;refine (rto_any 0 _).mono ?_;rintro ee wt ⟨rfl,hbt⟩;have hbt':=Lib.hid hbt;clear hbt)
  | ((with_reducible refine wpList_store_scn 0 0 none 0 0 (w.heap.size + 1) (.tmp 4) (.tmp 26) rfl rfl ?_ ?_ ?_ ?_);(focus rfl);(focus rfl);(focus (exact Exists.elim HB1.out (fun old h => ⟨old,h.1.up hbt'.out,h.2⟩)));intro w3 hS3 hg3;have HS3:=Lib.hid hS3;have HG3:=Lib.hid hg3;clear hS3 hg3)
  | (go_at_call 100;refine (rin_any _ _ _ _).mono ?_;rintro ee ww ⟨rfl,rfl⟩;(first|rw [inB_yes (by omega) (by omega)]|rw [inB_no (by omega)]))
  | fail)
 refine bodyPost_ret (results_scn rfl _ _ (w.heap.size + 1) 0 0 none 0 0 (by rfl) HS3.out) rfl ?_
 exact ⟨0,0,none,0,0,[],none,0,0,[],rfl,ScnOk.to _ _ (by omega),OpsL.nil_ _,by omega,by omega,by omega,Bw.grown (Bw.trans hbw2 hbt'.out) HG3.out (fun k hk => by cases hk;omega),(by have hs3:=HG3.out.size;(try have hs5:=HG5.out.size);refine ⟨fun ad e => ?_,fun ad e => ?_,fun o ho ad e => ?_⟩;(focus (first|(cases e;done)|(right;exact e.symm)|(left;cases e;dsimp only;simp only [szA,szS,szD,szN] at *;omega)|(left;cases e;dsimp only;omega)));(focus (first|(cases e;done)|(cases e;dsimp only;omega)|(cases e;dsimp only;simp only [szA,szS,szD,szN] at *;omega)));(focus (first|(cases ho;done)|(simp only [List.mem_singleton] at ho;subst ho;dsimp only at e;first|(cases e;done)|(cases e;dsimp only;omega))))),fun _ => TyA.none _,fun o ho => by first|(cases ho;done)|(simp only [List.mem_singleton] at ho;subst ho;exact TyA.none _)⟩

set_option maxRecDepth 100000 in
set_option maxHeartbeats 4000000 in
theorem rnext_g27 (md code pv : Int) (A : Option Addr) (n c : Nat) (xs : List Int) (w : World) (h : ScnOk w md pv A n c xs) (hk : code = 27) (hg5 : (md == 5) = false) (hg6 : (md == 6) = false) : Calls Tryz.prog 78 #[.agg #[.int .i64 md,.int .i64 pv,.slice A n c],.int .i64 code] w (Nxt w A):=by
 have Zhk:=Lib.hid hk
 clear hk
 have Zhg5:=Lib.hid hg5
 clear hg5
 have Zhg6:=Lib.hid hg6
 clear hg6
 have HOk:=Lib.hid h
 have hx:=h.1
 have HXA:=Lib.hid (show 0 < n → ∀ ad,A = some ad → ad.block < w.heap.size from fun h0 ad e => by
  obtain ⟨g,o,e2,h⟩:=hx.2 h0
  have h1:=lt_of_cell (h 0 (by rw [hx.1];exact h0))
  rw [e] at e2
  cases e2
  exact h1)
 clear h hx
 go_enter Tryz.func78,Tryz.ntmps78
 go_upto_region 1 with (fail)
 generalize hw1 : (w.alloc (.cells #[.int .i64 md,.int .i64 pv,.slice A n c] 50)).alloc _ = w1
 obtain ⟨hb0,hb1,hbw,hz⟩:=sb2 hw1
 have HB0a:=Lib.hid hb0
 have HB1a:=Lib.hid (show ∃ old,Sb w1 (w.heap.size + 1) old 50 ∧ old.size = 3 from ⟨_,hb1,rfl⟩)
 have hz1 : w.heap.size + 1 < w1.heap.size:=by omega
 have hz0 : w.heap.size < w1.heap.size:=by omega
 have y0:=HB0a.out.cell 0 (v:=.int .i64 md) rfl
 have y1:=HB0a.out.cell 1 (v:=.int .i64 pv) rfl
 have y2:=HB0a.out.cell 2 (v:=.slice A n c) rfl
 clear hw1 hb0 hb1 hz
 go_upto_region 3 with (first
  | (go_at_call 70;refine (rvalid14_ok md pv A n c xs _ (HOk.out.up (show Bw w _ from BWX))).mono ?_;rintro ee wv ⟨rfl,hbv⟩;have z0:=(HB0a.out.up hbv).cell 0 (v:=.int .i64 md) rfl;have z1:=(HB0a.out.up hbv).cell 1 (v:=.int .i64 pv) rfl;have z2:=(HB0a.out.up hbv).cell 2 (v:=.slice A n c) rfl;have HBV:=Lib.hid hbv;clear hbv y0 y1 y2)
  | fail)
 have hbv:=HBV.out
 have HB0:=Lib.hid (HB0a.out.up hbv)
 have HB1:=Lib.hid (Exists.elim HB1a.out (fun old h => (⟨old,h.1.up hbv,h.2⟩ : ∃ old,Sb wv (w.heap.size + 1) old 50 ∧ old.size = 3)))
 have hbw2 : Bw w wv:=Bw.trans hbw hbv
 have hz2 : w.heap.size + 1 < wv.heap.size:=by have:=hbv.size;omega
 have hz02 : w.heap.size < wv.heap.size:=by omega
 have HOk1:=Lib.hid (HOk.out.up hbw2)
 clear HBV HB0a HB1a hz1 hz0 hbw hbv
 have hk:=Zhk.out
 have hg5:=Zhg5.out
 have hg6:=Zhg6.out
 subst hk
 go_upto_region 9 with ((go_at_call 100;refine (rin_any _ _ _ _).mono ?_;rintro ee ww ⟨rfl,rfl⟩;(first|rw [inB_yes (by omega) (by omega)]|rw [inB_no (by omega)])))
 go_wp2_with (first
  | (go_at_call 77;refine (rto_any 1 _).mono ?_;rintro ee wt ⟨rfl,hbt⟩;have hbt':=Lib.hid hbt;clear hbt)
  | ((with_reducible refine wpList_store_scn 1 0 none 0 0 (w.heap.size + 1) (.tmp 4) (.tmp 37) rfl rfl ?_ ?_ ?_ ?_);(focus rfl);(focus rfl);(focus (exact Exists.elim HB1.out (fun old h => ⟨old,h.1.up hbt'.out,h.2⟩)));intro w3 hS3 hg3;have HS3:=Lib.hid hS3;have HG3:=Lib.hid hg3;clear hS3 hg3)
  | (go_at_call 100;refine (rin_any _ _ _ _).mono ?_;rintro ee ww ⟨rfl,rfl⟩;(first|rw [inB_yes (by omega) (by omega)]|rw [inB_no (by omega)]))
  | fail)
 refine bodyPost_ret (results_scn rfl _ _ (w.heap.size + 1) 1 0 none 0 0 (by rfl) HS3.out) rfl ?_
 exact ⟨1,0,none,0,0,[],none,0,0,[],rfl,ScnOk.to _ _ (by omega),OpsL.nil_ _,by omega,by omega,by omega,Bw.grown (Bw.trans hbw2 hbt'.out) HG3.out (fun k hk => by cases hk;omega),(by have hs3:=HG3.out.size;(try have hs5:=HG5.out.size);refine ⟨fun ad e => ?_,fun ad e => ?_,fun o ho ad e => ?_⟩;(focus (first|(cases e;done)|(right;exact e.symm)|(left;cases e;dsimp only;simp only [szA,szS,szD,szN] at *;omega)|(left;cases e;dsimp only;omega)));(focus (first|(cases e;done)|(cases e;dsimp only;omega)|(cases e;dsimp only;simp only [szA,szS,szD,szN] at *;omega)));(focus (first|(cases ho;done)|(simp only [List.mem_singleton] at ho;subst ho;dsimp only at e;first|(cases e;done)|(cases e;dsimp only;omega))))),fun _ => TyA.none _,fun o ho => by first|(cases ho;done)|(simp only [List.mem_singleton] at ho;subst ho;exact TyA.none _)⟩

set_option maxRecDepth 100000 in
set_option maxHeartbeats 4000000 in
theorem rnext_g127 (md code pv : Int) (A : Option Addr) (n c : Nat) (xs : List Int) (w : World) (h : ScnOk w md pv A n c xs) (hk : code = 127) (hg5 : (md == 5) = false) (hg6 : (md == 6) = false) : Calls Tryz.prog 78 #[.agg #[.int .i64 md,.int .i64 pv,.slice A n c],.int .i64 code] w (Nxt w A):=by
 have Zhk:=Lib.hid hk
 clear hk
 have Zhg5:=Lib.hid hg5
 clear hg5
 have Zhg6:=Lib.hid hg6
 clear hg6
 have HOk:=Lib.hid h
 have hx:=h.1
 have HXA:=Lib.hid (show 0 < n → ∀ ad,A = some ad → ad.block < w.heap.size from fun h0 ad e => by
  obtain ⟨g,o,e2,h⟩:=hx.2 h0
  have h1:=lt_of_cell (h 0 (by rw [hx.1];exact h0))
  rw [e] at e2
  cases e2
  exact h1)
 clear h hx
 go_enter Tryz.func78,Tryz.ntmps78
 go_upto_region 1 with (fail)
 generalize hw1 : (w.alloc (.cells #[.int .i64 md,.int .i64 pv,.slice A n c] 50)).alloc _ = w1
 obtain ⟨hb0,hb1,hbw,hz⟩:=sb2 hw1
 have HB0a:=Lib.hid hb0
 have HB1a:=Lib.hid (show ∃ old,Sb w1 (w.heap.size + 1) old 50 ∧ old.size = 3 from ⟨_,hb1,rfl⟩)
 have hz1 : w.heap.size + 1 < w1.heap.size:=by omega
 have hz0 : w.heap.size < w1.heap.size:=by omega
 have y0:=HB0a.out.cell 0 (v:=.int .i64 md) rfl
 have y1:=HB0a.out.cell 1 (v:=.int .i64 pv) rfl
 have y2:=HB0a.out.cell 2 (v:=.slice A n c) rfl
 clear hw1 hb0 hb1 hz
 go_upto_region 3 with (first
  | (go_at_call 70;refine (rvalid14_ok md pv A n c xs _ (HOk.out.up (show Bw w _ from BWX))).mono ?_;rintro ee wv ⟨rfl,hbv⟩;have z0:=(HB0a.out.up hbv).cell 0 (v:=.int .i64 md) rfl;have z1:=(HB0a.out.up hbv).cell 1 (v:=.int .i64 pv) rfl;have z2:=(HB0a.out.up hbv).cell 2 (v:=.slice A n c) rfl;have HBV:=Lib.hid hbv;clear hbv y0 y1 y2)
  | fail)
 have hbv:=HBV.out
 have HB0:=Lib.hid (HB0a.out.up hbv)
 have HB1:=Lib.hid (Exists.elim HB1a.out (fun old h => (⟨old,h.1.up hbv,h.2⟩ : ∃ old,Sb wv (w.heap.size + 1) old 50 ∧ old.size = 3)))
 have hbw2 : Bw w wv:=Bw.trans hbw hbv
 have hz2 : w.heap.size + 1 < wv.heap.size:=by have:=hbv.size;omega
 have hz02 : w.heap.size < wv.heap.size:=by omega
 have HOk1:=Lib.hid (HOk.out.up hbw2)
 clear HBV HB0a HB1a hz1 hz0 hbw hbv
 have hk:=Zhk.out
 have hg5:=Zhg5.out
 have hg6:=Zhg6.out
 subst hk
 go_upto_region 17 with ((go_at_call 100;refine (rin_any _ _ _ _).mono ?_;rintro ee ww ⟨rfl,rfl⟩;(first|rw [inB_yes (by omega) (by omega)]|rw [inB_no (by omega)])))
 go_wp2_with (first
  | ((with_reducible refine wpList_store_scn md pv A n c (w.heap.size + 1) (.tmp 4) (.tmp 77) rfl rfl ?_ ?_ ?_ ?_);(focus rfl);(focus rfl);(focus (exact HB1.out));intro w3 hS3 hg3;have HS3:=Lib.hid hS3;have HG3:=Lib.hid hg3;clear hS3 hg3)
  | (go_at_call 100;refine (rin_any _ _ _ _).mono ?_;rintro ee ww ⟨rfl,rfl⟩;(first|rw [inB_yes (by omega) (by omega)]|rw [inB_no (by omega)]))
  | fail)
 refine bodyPost_ret (results_scn rfl _ _ (w.heap.size + 1) md pv A n c (by rfl) HS3.out) rfl ?_
 exact ⟨md,pv,A,n,c,xs,none,0,0,[],rfl,HOk1.out.far0 HG3.out (fun h0 ad e => by have:=HXA.out h0 ad e;intro e2;have:=Option.some.inj e2;omega),OpsL.nil_ _,by omega,by omega,by omega,Bw.grown (hbw2) HG3.out (fun k hk => by cases hk;omega),(by have hs3:=HG3.out.size;(try have hs5:=HG5.out.size);refine ⟨fun ad e => ?_,fun ad e => ?_,fun o ho ad e => ?_⟩;(focus (first|(cases e;done)|(right;exact e.symm)|(left;cases e;dsimp only;simp only [szA,szS,szD,szN] at *;omega)|(left;cases e;dsimp only;omega)));(focus (first|(cases e;done)|(cases e;dsimp only;omega)|(cases e;dsimp only;simp only [szA,szS,szD,szN] at *;omega)));(focus (first|(cases ho;done)|(simp only [List.mem_singleton] at ho;subst ho;dsimp only at e;first|(cases e;done)|(cases e;dsimp only;omega))))),fun hT => hT.up (show Bw w w3 from Bw.grown (show Bw w _ from BWX) HG3.out (fun k hk => by cases hk;omega)),fun o ho => by first|(cases ho;done)|(simp only [List.mem_singleton] at ho;subst ho;exact TyA.none _)⟩

set_option maxRecDepth 100000 in
set_option maxHeartbeats 4000000 in
theorem rnext_gneg (md code pv : Int) (A : Option Addr) (n c : Nat) (xs : List Int) (w : World) (h : ScnOk w md pv A n c xs) (hlo : code < 0) (h24 : (code == 24) = false) (h26 : (code == 26) = false) (h27 : (code == 27) = false) (h127 : (code == 127) = false) (hg5 : (md == 5) = false) (hg6 : (md == 6) = false) : Calls Tryz.prog 78 #[.agg #[.int .i64 md,.int .i64 pv,.slice A n c],.int .i64 code] w (Nxt w A):=by
 have Zhlo:=Lib.hid hlo
 clear hlo
 have Zh24:=Lib.hid h24
 clear h24
 have Zh26:=Lib.hid h26
 clear h26
 have Zh27:=Lib.hid h27
 clear h27
 have Zh127:=Lib.hid h127
 clear h127
 have Zhg5:=Lib.hid hg5
 clear hg5
 have Zhg6:=Lib.hid hg6
 clear hg6
 have HOk:=Lib.hid h
 have hx:=h.1
 have HXA:=Lib.hid (show 0 < n → ∀ ad,A = some ad → ad.block < w.heap.size from fun h0 ad e => by
  obtain ⟨g,o,e2,h⟩:=hx.2 h0
  have h1:=lt_of_cell (h 0 (by rw [hx.1];exact h0))
  rw [e] at e2
  cases e2
  exact h1)
 clear h hx
 go_enter Tryz.func78,Tryz.ntmps78
 go_upto_region 1 with (fail)
 generalize hw1 : (w.alloc (.cells #[.int .i64 md,.int .i64 pv,.slice A n c] 50)).alloc _ = w1
 obtain ⟨hb0,hb1,hbw,hz⟩:=sb2 hw1
 have HB0a:=Lib.hid hb0
 have HB1a:=Lib.hid (show ∃ old,Sb w1 (w.heap.size + 1) old 50 ∧ old.size = 3 from ⟨_,hb1,rfl⟩)
 have hz1 : w.heap.size + 1 < w1.heap.size:=by omega
 have hz0 : w.heap.size < w1.heap.size:=by omega
 have y0:=HB0a.out.cell 0 (v:=.int .i64 md) rfl
 have y1:=HB0a.out.cell 1 (v:=.int .i64 pv) rfl
 have y2:=HB0a.out.cell 2 (v:=.slice A n c) rfl
 clear hw1 hb0 hb1 hz
 go_upto_region 3 with (first
  | (go_at_call 70;refine (rvalid14_ok md pv A n c xs _ (HOk.out.up (show Bw w _ from BWX))).mono ?_;rintro ee wv ⟨rfl,hbv⟩;have z0:=(HB0a.out.up hbv).cell 0 (v:=.int .i64 md) rfl;have z1:=(HB0a.out.up hbv).cell 1 (v:=.int .i64 pv) rfl;have z2:=(HB0a.out.up hbv).cell 2 (v:=.slice A n c) rfl;have HBV:=Lib.hid hbv;clear hbv y0 y1 y2)
  | fail)
 have hbv:=HBV.out
 have HB0:=Lib.hid (HB0a.out.up hbv)
 have HB1:=Lib.hid (Exists.elim HB1a.out (fun old h => (⟨old,h.1.up hbv,h.2⟩ : ∃ old,Sb wv (w.heap.size + 1) old 50 ∧ old.size = 3)))
 have hbw2 : Bw w wv:=Bw.trans hbw hbv
 have hz2 : w.heap.size + 1 < wv.heap.size:=by have:=hbv.size;omega
 have hz02 : w.heap.size < wv.heap.size:=by omega
 have HOk1:=Lib.hid (HOk.out.up hbw2)
 clear HBV HB0a HB1a hz1 hz0 hbw hbv
 have hlo:=Zhlo.out
 have h24:=Zh24.out
 have h26:=Zh26.out
 have h27:=Zh27.out
 have h127:=Zh127.out
 have hg5:=Zhg5.out
 have hg6:=Zhg6.out
 go_upto_region 17 with ((go_at_call 100;refine (rin_any _ _ _ _).mono ?_;rintro ee ww ⟨rfl,rfl⟩;(first|rw [inB_yes (by omega) (by omega)]|rw [inB_no (by omega)])))
 go_wp2_with (first
  | ((with_reducible refine wpList_store_scn md pv A n c (w.heap.size + 1) (.tmp 4) (.tmp 77) rfl rfl ?_ ?_ ?_ ?_);(focus rfl);(focus rfl);(focus (exact HB1.out));intro w3 hS3 hg3;have HS3:=Lib.hid hS3;have HG3:=Lib.hid hg3;clear hS3 hg3)
  | (go_at_call 100;refine (rin_any _ _ _ _).mono ?_;rintro ee ww ⟨rfl,rfl⟩;(first|rw [inB_yes (by omega) (by omega)]|rw [inB_no (by omega)]))
  | fail)
 refine bodyPost_ret (results_scn rfl _ _ (w.heap.size + 1) md pv A n c (by rfl) HS3.out) rfl ?_
 exact ⟨md,pv,A,n,c,xs,none,0,0,[],rfl,HOk1.out.far0 HG3.out (fun h0 ad e => by have:=HXA.out h0 ad e;intro e2;have:=Option.some.inj e2;omega),OpsL.nil_ _,by omega,by omega,by omega,Bw.grown (hbw2) HG3.out (fun k hk => by cases hk;omega),(by have hs3:=HG3.out.size;(try have hs5:=HG5.out.size);refine ⟨fun ad e => ?_,fun ad e => ?_,fun o ho ad e => ?_⟩;(focus (first|(cases e;done)|(right;exact e.symm)|(left;cases e;dsimp only;simp only [szA,szS,szD,szN] at *;omega)|(left;cases e;dsimp only;omega)));(focus (first|(cases e;done)|(cases e;dsimp only;omega)|(cases e;dsimp only;simp only [szA,szS,szD,szN] at *;omega)));(focus (first|(cases ho;done)|(simp only [List.mem_singleton] at ho;subst ho;dsimp only at e;first|(cases e;done)|(cases e;dsimp only;omega))))),fun hT => hT.up (show Bw w w3 from Bw.grown (show Bw w _ from BWX) HG3.out (fun k hk => by cases hk;omega)),fun o ho => by first|(cases ho;done)|(simp only [List.mem_singleton] at ho;subst ho;exact TyA.none _)⟩
end Go.Proofs.YteebdjmjeahccaaGreatDoor
