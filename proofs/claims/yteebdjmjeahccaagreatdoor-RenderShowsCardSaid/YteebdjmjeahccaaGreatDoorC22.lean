/- Parts of the proof, one after the other. -/
import Derived.Test.YteebdjmjeahccaaGreatDoorC21
set_option linter.unusedSimpArgs false
set_option linter.unusedVariables false
set_option maxRecDepth 100000
set_option maxHeartbeats 16000000
namespace Go.Proofs.YteebdjmjeahccaaGreatDoor
open Go.RowKit
theorem rnext_Gb (md code pv : Int) (A : Option Addr) (n c : Nat) (xs : List Int) (w : World) (h : ScnOk w md pv A n c xs) (hq : (128 ≤ code ∧ (code == 24) = false ∧ (code == 26) = false ∧ (code == 27) = false ∧ (code == 127) = false ∧ (md == 5) = false ∧ (md == 6) = false ∧ (md == 0) = false) ∨ (md = 0 ∧ 128 ≤ code ∧ code ≤ 159 ∧ (code == 24) = false ∧ (code == 26) = false ∧ (code == 27) = false ∧ (code == 127) = false) ∨ (md = 0 ∧ 32 ≤ code ∧ code ≤ 126 ∧ (code == 24) = false ∧ (code == 26) = false ∧ (code == 27) = false ∧ (code == 127) = false) ∨ (md = 0 ∧ 160 ≤ code ∧ (code == 24) = false ∧ (code == 26) = false ∧ (code == 27) = false ∧ (code == 127) = false) ∨ (md = 1 ∧ code = 91) ∨ (md = 1 ∧ code = 80) ∨ (md = 1 ∧ code = 88)) : Calls Tryz.prog 78 #[.agg #[.int .i64 md,.int .i64 pv,.slice A n c],.int .i64 code] w (Nxt w A (nextN md pv xs code)):=by
 have HQ:=Lib.hid hq
 clear hq
 have HOk:=Lib.hid h
 have hx:=h.1
 have HXA:=Lib.hid (show 0 < n → ∀ ad,A = some ad → ad.block < w.heap.size from fun h0 ad e => by
  obtain ⟨g,o,e2,h⟩:=hx.2 h0
  have h1:=lt_of_cell (h 0 (by rw [hx.1];exact h0))
  rw [e] at e2
  cases e2
  exact h1)
 clear h hx
 go_enter Tryz.func78,Tryz.ntmps78
 go_upto_region 1 with (fail)
 generalize hw1 : (w.alloc (.cells #[.int .i64 md,.int .i64 pv,.slice A n c] 50)).alloc _ = w1
 obtain ⟨hb0,hb1,hbw,hz⟩:=sb2 hw1
 have HB0a:=Lib.hid hb0
 have HB1a:=Lib.hid (show ∃ old,Sb w1 (w.heap.size + 1) old 50 ∧ old.size = 3 from ⟨_,hb1,rfl⟩)
 have hz1 : w.heap.size + 1 < w1.heap.size:=by omega
 have hz0 : w.heap.size < w1.heap.size:=by omega
 have y0:=HB0a.out.cell 0 (v:=.int .i64 md) rfl
 have y1:=HB0a.out.cell 1 (v:=.int .i64 pv) rfl
 have y2:=HB0a.out.cell 2 (v:=.slice A n c) rfl
 clear hw1 hb0 hb1 hz
 go_upto_region 3 with (first
  | (go_at_call 70;refine (rvalid14_ok md pv A n c xs _ (HOk.out.up (show Bw w _ from BWX))).mono ?_;rintro ee wv ⟨rfl,hbv⟩;have z0:=(HB0a.out.up hbv).cell 0 (v:=.int .i64 md) rfl;have z1:=(HB0a.out.up hbv).cell 1 (v:=.int .i64 pv) rfl;have z2:=(HB0a.out.up hbv).cell 2 (v:=.slice A n c) rfl;have HBV:=Lib.hid hbv;clear hbv y0 y1 y2)
  | fail)
 have hbv:=HBV.out
 have HB0:=Lib.hid (HB0a.out.up hbv)
 have HB1:=Lib.hid (Exists.elim HB1a.out (fun old h => (⟨old,h.1.up hbv,h.2⟩ : ∃ old,Sb wv (w.heap.size + 1) old 50 ∧ old.size = 3)))
 have hbw2 : Bw w wv:=Bw.trans hbw hbv
 have hz2 : w.heap.size + 1 < wv.heap.size:=by have:=hbv.size;omega
 have hz02 : w.heap.size < wv.heap.size:=by omega
 have HOk1:=Lib.hid (HOk.out.up hbw2)
 clear HBV HB0a HB1a hz1 hz0 hbw hbv
 rcases HQ.out with ⟨hlo,h24,h26,h27,h127,hg5,hg6,hg0⟩|⟨rfl,hlo,hhi,h24,h26,h27,h127⟩|⟨rfl,hlo,hhi,h24,h26,h27,h127⟩|⟨rfl,hlo,h24,h26,h27,h127⟩|⟨rfl,hk⟩|⟨rfl,hk⟩|⟨rfl,hk⟩
 ·go_upto_region 25 with ((go_at_call 100;refine (rin_any _ _ _ _).mono ?_;rintro ee ww ⟨rfl,rfl⟩;(first|rw [inB_yes (by omega) (by omega)]|rw [inB_no (by omega)])))
  go_wp2_with (first
   | (go_at_call 77;refine (rto_any 0 _).mono ?_;rintro ee wt ⟨rfl,hbt⟩;have hbt':=Lib.hid hbt;clear hbt)
   | ((with_reducible refine wpList_store_scn 0 0 none 0 0 (w.heap.size + 1) (.tmp 4) (.tmp 105) rfl rfl ?_ ?_ ?_ ?_);(focus rfl);(focus rfl);(focus (exact Exists.elim HB1.out (fun old h => ⟨old,h.1.up hbt'.out,h.2⟩)));intro w3 hS3 hg3;have HS3:=Lib.hid hS3;have HG3:=Lib.hid hg3;clear hS3 hg3)
   | (go_at_call 100;refine (rin_any _ _ _ _).mono ?_;rintro ee ww ⟨rfl,rfl⟩;(first|rw [inB_yes (by omega) (by omega)]|rw [inB_no (by omega)]))
   | fail)
  refine bodyPost_ret (results_scn rfl _ _ (w.heap.size + 1) 0 0 none 0 0 (by rfl) HS3.out) rfl ?_
  exact ⟨0,0,none,0,0,[],none,0,0,[],rfl,ScnOk.to _ _ (by omega),OpsL.nil_ _,by omega,by omega,by omega,Bw.grown (Bw.trans hbw2 hbt'.out) HG3.out (fun k hk => by cases hk;omega),(by have hs3:=HG3.out.size;(try have hs5:=HG5.out.size);refine ⟨fun ad e => ?_,fun ad e => ?_,fun o ho ad e => ?_⟩;(focus (first|(cases e;done)|(right;exact e.symm)|(left;cases e;dsimp only;simp only [szA,szS,szD,szN] at *;omega)|(left;cases e;dsimp only;omega)));(focus (first|(cases e;done)|(cases e;dsimp only;omega)|(cases e;dsimp only;simp only [szA,szS,szD,szN] at *;omega)));(focus (first|(cases ho;done)|(simp only [List.mem_singleton] at ho;subst ho;dsimp only at e;first|(cases e;done)|(cases e;dsimp only;omega))))),(fun _ => TyA.none _),(fun o ho => by first|(cases ho;done)|(simp only [List.mem_singleton] at ho;subst ho;exact TyA.none _)),(by simp only [beq_eq_false_iff_ne,ne_eq] at h24 h26 h27 h127 hg5 hg6 hg0;unfold nextN nextB;(repeat (first|rw [if_pos (by omega)]|rw [if_neg (by omega)]));try rfl)⟩
 ·go_upto_region 21 with ((go_at_call 100;refine (rin_any _ _ _ _).mono ?_;rintro ee ww ⟨rfl,rfl⟩;(first|rw [inB_yes (by omega) (by omega)]|rw [inB_no (by omega)])))
  go_wp2_with (first
   | ((with_reducible refine wpList_store_scn 0 pv A n c (w.heap.size + 1) (.tmp 4) (.tmp 93) rfl rfl ?_ ?_ ?_ ?_);(focus rfl);(focus rfl);(focus (exact HB1.out));intro w3 hS3 hg3;have HS3:=Lib.hid hS3;have HG3:=Lib.hid hg3;clear hS3 hg3)
   | (go_at_call 100;refine (rin_any _ _ _ _).mono ?_;rintro ee ww ⟨rfl,rfl⟩;(first|rw [inB_yes (by omega) (by omega)]|rw [inB_no (by omega)]))
   | fail)
  refine bodyPost_ret (results_scn rfl _ _ (w.heap.size + 1) 0 pv A n c (by rfl) HS3.out) rfl ?_
  exact ⟨0,pv,A,n,c,xs,none,0,0,[],rfl,HOk1.out.far0 HG3.out (fun h0 ad e => by have:=HXA.out h0 ad e;intro e2;have:=Option.some.inj e2;omega),OpsL.nil_ _,by omega,by omega,by omega,Bw.grown (hbw2) HG3.out (fun k hk => by cases hk;omega),(by have hs3:=HG3.out.size;(try have hs5:=HG5.out.size);refine ⟨fun ad e => ?_,fun ad e => ?_,fun o ho ad e => ?_⟩;(focus (first|(cases e;done)|(right;exact e.symm)|(left;cases e;dsimp only;simp only [szA,szS,szD,szN] at *;omega)|(left;cases e;dsimp only;omega)));(focus (first|(cases e;done)|(cases e;dsimp only;omega)|(cases e;dsimp only;simp only [szA,szS,szD,szN] at *;omega)));(focus (first|(cases ho;done)|(simp only [List.mem_singleton] at ho;subst ho;dsimp only at e;first|(cases e;done)|(cases e;dsimp only;omega))))),(fun hT => hT.up (show Bw w w3 from Bw.grown (show Bw w _ from BWX) HG3.out (fun k hk => by cases hk;omega))),(fun o ho => by first|(cases ho;done)|(simp only [List.mem_singleton] at ho;subst ho;exact TyA.none _)),(by simp only [beq_eq_false_iff_ne,ne_eq] at h24 h26 h27 h127;unfold nextN nextB;(repeat (first|rw [if_pos (by omega)]|rw [if_neg (by omega)]));try rfl)⟩
 ·go_upto_region 23 with ((go_at_call 100;refine (rin_any _ _ _ _).mono ?_;rintro ee ww ⟨rfl,rfl⟩;(first|rw [inB_yes (by omega) (by omega)]|rw [inB_no (by omega)])))
  go_wp2_with (first
   | ((with_reducible refine wpList_store_scn 0 pv A n c (w.heap.size + 1) (.tmp 4) (.tmp 98) rfl rfl ?_ ?_ ?_ ?_);(focus rfl);(focus rfl);(focus (exact Exists.elim HB1.out (fun old h => ⟨old,h.1.up BWX,h.2⟩)));intro w3 hS3 hg3;have HS3:=Lib.hid hS3;have HG3:=Lib.hid hg3;clear hS3 hg3)
   | (go_at_call 100;refine (rin_any _ _ _ _).mono ?_;rintro ee ww ⟨rfl,rfl⟩;(first|rw [inB_yes (by omega) (by omega)]|rw [inB_no (by omega)]))
   | fail)
  refine bodyPost_ret (results_scn rfl _ _ (w.heap.size + 1) 0 pv A n c (by rfl) HS3.out) rfl ?_
  exact ⟨0,pv,A,n,c,xs,some ⟨_,0,none⟩,1,1,[⟨1,code,0,none,0,0,[]⟩],rfl,(HOk1.out.up (show Bw wv (wv.alloc (.cells #[.int .i64 1,.int .i64 code,.int .i64 0,.slice none 0 0] 109)) from BWX)).far0 HG3.out (fun h0 ad e => by have:=HXA.out h0 ad e;intro e2;have:=Option.some.inj e2;omega),OpsL.one ⟨1,code,0,none,0,0,[]⟩ ((show Sb (World.alloc wv (.cells #[.int .i64 1,.int .i64 code,.int .i64 0,.slice none 0 0] 109)) _ _ 109 from heap_at rfl).far HG3.out (by intro e;have:=Option.some.inj e;omega)) ⟨Rd.nil_ _ none,Nat.le_refl _,by show 0 ≤ 9223372036854775807;omega,by show 0 ≤ 1000;omega⟩,by omega,by omega,by omega,Bw.grown (show Bw w _ from BWX) HG3.out (fun k hk => by cases hk;omega),(by have hs3:=HG3.out.size;(try have hs5:=HG5.out.size);refine ⟨fun ad e => ?_,fun ad e => ?_,fun o ho ad e => ?_⟩;(focus (first|(cases e;done)|(right;exact e.symm)|(left;cases e;dsimp only;simp only [szA,szS,szD,szN] at *;omega)|(left;cases e;dsimp only;omega)));(focus (first|(cases e;done)|(cases e;dsimp only;omega)|(cases e;dsimp only;simp only [szA,szS,szD,szN] at *;omega)));(focus (first|(cases ho;done)|(simp only [List.mem_singleton] at ho;subst ho;dsimp only at e;first|(cases e;done)|(cases e;dsimp only;omega))))),(fun hT => hT.up (show Bw w w3 from Bw.grown (show Bw w _ from BWX) HG3.out (fun k hk => by cases hk;omega))),(fun o ho => by first|(cases ho;done)|(simp only [List.mem_singleton] at ho;subst ho;exact TyA.none _)),(by simp only [beq_eq_false_iff_ne,ne_eq] at h24 h26 h27 h127;unfold nextN nextB;(repeat (first|rw [if_pos (by omega)]|rw [if_neg (by omega)]));try rfl)⟩
 ·go_upto_region 23 with ((go_at_call 100;refine (rin_any _ _ _ _).mono ?_;rintro ee ww ⟨rfl,rfl⟩;(first|rw [inB_yes (by omega) (by omega)]|rw [inB_no (by omega)])))
  go_wp2_with (first
   | ((with_reducible refine wpList_store_scn 0 pv A n c (w.heap.size + 1) (.tmp 4) (.tmp 98) rfl rfl ?_ ?_ ?_ ?_);(focus rfl);(focus rfl);(focus (exact Exists.elim HB1.out (fun old h => ⟨old,h.1.up BWX,h.2⟩)));intro w3 hS3 hg3;have HS3:=Lib.hid hS3;have HG3:=Lib.hid hg3;clear hS3 hg3)
   | (go_at_call 100;refine (rin_any _ _ _ _).mono ?_;rintro ee ww ⟨rfl,rfl⟩;(first|rw [inB_yes (by omega) (by omega)]|rw [inB_no (by omega)]))
   | fail)
  refine bodyPost_ret (results_scn rfl _ _ (w.heap.size + 1) 0 pv A n c (by rfl) HS3.out) rfl ?_
  exact ⟨0,pv,A,n,c,xs,some ⟨_,0,none⟩,1,1,[⟨1,code,0,none,0,0,[]⟩],rfl,(HOk1.out.up (show Bw wv (wv.alloc (.cells #[.int .i64 1,.int .i64 code,.int .i64 0,.slice none 0 0] 109)) from BWX)).far0 HG3.out (fun h0 ad e => by have:=HXA.out h0 ad e;intro e2;have:=Option.some.inj e2;omega),OpsL.one ⟨1,code,0,none,0,0,[]⟩ ((show Sb (World.alloc wv (.cells #[.int .i64 1,.int .i64 code,.int .i64 0,.slice none 0 0] 109)) _ _ 109 from heap_at rfl).far HG3.out (by intro e;have:=Option.some.inj e;omega)) ⟨Rd.nil_ _ none,Nat.le_refl _,by show 0 ≤ 9223372036854775807;omega,by show 0 ≤ 1000;omega⟩,by omega,by omega,by omega,Bw.grown (show Bw w _ from BWX) HG3.out (fun k hk => by cases hk;omega),(by have hs3:=HG3.out.size;(try have hs5:=HG5.out.size);refine ⟨fun ad e => ?_,fun ad e => ?_,fun o ho ad e => ?_⟩;(focus (first|(cases e;done)|(right;exact e.symm)|(left;cases e;dsimp only;simp only [szA,szS,szD,szN] at *;omega)|(left;cases e;dsimp only;omega)));(focus (first|(cases e;done)|(cases e;dsimp only;omega)|(cases e;dsimp only;simp only [szA,szS,szD,szN] at *;omega)));(focus (first|(cases ho;done)|(simp only [List.mem_singleton] at ho;subst ho;dsimp only at e;first|(cases e;done)|(cases e;dsimp only;omega))))),(fun hT => hT.up (show Bw w w3 from Bw.grown (show Bw w _ from BWX) HG3.out (fun k hk => by cases hk;omega))),(fun o ho => by first|(cases ho;done)|(simp only [List.mem_singleton] at ho;subst ho;exact TyA.none _)),(by simp only [beq_eq_false_iff_ne,ne_eq] at h24 h26 h27 h127;unfold nextN nextB;(repeat (first|rw [if_pos (by omega)]|rw [if_neg (by omega)]));try rfl)⟩
 ·subst hk
  go_upto_region 31 with ((go_at_call 100;refine (rin_any _ _ _ _).mono ?_;rintro ee ww ⟨rfl,rfl⟩;(first|rw [inB_yes (by omega) (by omega)]|rw [inB_no (by omega)])))
  go_wp2_with (first
   | ((with_reducible refine wpList_store_scn 3 0 (some ⟨wv.heap.size,0,none⟩) 1 1 (w.heap.size + 1) (.tmp 4) (.tmp 121) rfl rfl ?_ ?_ ?_ ?_);(focus rfl);(focus rfl);(focus (exact Exists.elim HB1.out (fun old h => ⟨old,h.1.up BWX,h.2⟩)));intro w3 hS3 hg3;have HS3:=Lib.hid hS3;have HG3:=Lib.hid hg3;clear hS3 hg3)
   | (go_at_call 100;refine (rin_any _ _ _ _).mono ?_;rintro ee ww ⟨rfl,rfl⟩;(first|rw [inB_yes (by omega) (by omega)]|rw [inB_no (by omega)]))
   | fail)
  refine bodyPost_ret (results_scn rfl _ _ (w.heap.size + 1) 3 0 (some ⟨wv.heap.size,0,none⟩) 1 1 (by rfl) HS3.out) rfl ?_
  have hR : Rd (.int .i64) (wv.alloc (.cells #[.int .i64 0] 3)) (some ⟨wv.heap.size,0,none⟩) 1 [(0 : Int)]:=Rd.lit wv 3 #[.int .i64 0] [0] 1 rfl rfl
  exact ⟨3,0,some ⟨wv.heap.size,0,none⟩,1,1,[0],none,0,0,[],rfl,⟨hR.far HG3.out (fun ad e => by cases e;intro e2;have:=Option.some.inj e2;(try dsimp only at this);omega),by omega,by omega,.inr ⟨rfl,by omega,by omega,.inl rfl,fun x hx => by simp only [List.mem_singleton] at hx;subst hx;omega⟩⟩,OpsL.nil_ _,by omega,by omega,by omega,Bw.grown (show Bw w _ from BWX) HG3.out (fun k hk => by cases hk;omega),(by have hs3:=HG3.out.size;(try have hs5:=HG5.out.size);refine ⟨fun ad e => ?_,fun ad e => ?_,fun o ho ad e => ?_⟩;(focus (first|(cases e;done)|(right;exact e.symm)|(left;cases e;dsimp only;simp only [szA,szS,szD,szN] at *;omega)|(left;cases e;dsimp only;omega)));(focus (first|(cases e;done)|(cases e;dsimp only;omega)|(cases e;dsimp only;simp only [szA,szS,szD,szN] at *;omega)));(focus (first|(cases ho;done)|(simp only [List.mem_singleton] at ho;subst ho;dsimp only at e;first|(cases e;done)|(cases e;dsimp only;omega))))),(fun _ => (TyA.sb (show Sb (wv.alloc (.cells #[.int .i64 0] 3)) wv.heap.size _ 3 from heap_at rfl)).far HG3.out (fun ad e => by cases e;intro e2;have:=Option.some.inj e2;(try dsimp only at this);omega)),(fun o ho => by cases ho),(by unfold nextN nextB;(repeat (first|rw [if_pos (by omega)]|rw [if_neg (by omega)]));try rfl)⟩
 ·subst hk
  go_upto_region 33 with ((go_at_call 100;refine (rin_any _ _ _ _).mono ?_;rintro ee ww ⟨rfl,rfl⟩;(first|rw [inB_yes (by omega) (by omega)]|rw [inB_no (by omega)])))
  go_wp2_with (first
   | (go_at_call 77;refine (rto_any 5 _).mono ?_;rintro ee wt ⟨rfl,hbt⟩;have hbt':=Lib.hid hbt;clear hbt)
   | ((with_reducible refine wpList_store_scn 5 0 none 0 0 (w.heap.size + 1) (.tmp 4) (.tmp 133) rfl rfl ?_ ?_ ?_ ?_);(focus rfl);(focus rfl);(focus (exact Exists.elim HB1.out (fun old h => ⟨old,h.1.up hbt'.out,h.2⟩)));intro w3 hS3 hg3;have HS3:=Lib.hid hS3;have HG3:=Lib.hid hg3;clear hS3 hg3)
   | (go_at_call 100;refine (rin_any _ _ _ _).mono ?_;rintro ee ww ⟨rfl,rfl⟩;(first|rw [inB_yes (by omega) (by omega)]|rw [inB_no (by omega)]))
   | fail)
  refine bodyPost_ret (results_scn rfl _ _ (w.heap.size + 1) 5 0 none 0 0 (by rfl) HS3.out) rfl ?_
  exact ⟨5,0,none,0,0,[],none,0,0,[],rfl,ScnOk.to _ _ (by omega),OpsL.nil_ _,by omega,by omega,by omega,Bw.grown (Bw.trans hbw2 hbt'.out) HG3.out (fun k hk => by cases hk;omega),(by have hs3:=HG3.out.size;(try have hs5:=HG5.out.size);refine ⟨fun ad e => ?_,fun ad e => ?_,fun o ho ad e => ?_⟩;(focus (first|(cases e;done)|(right;exact e.symm)|(left;cases e;dsimp only;simp only [szA,szS,szD,szN] at *;omega)|(left;cases e;dsimp only;omega)));(focus (first|(cases e;done)|(cases e;dsimp only;omega)|(cases e;dsimp only;simp only [szA,szS,szD,szN] at *;omega)));(focus (first|(cases ho;done)|(simp only [List.mem_singleton] at ho;subst ho;dsimp only at e;first|(cases e;done)|(cases e;dsimp only;omega))))),(fun _ => TyA.none _),(fun o ho => by first|(cases ho;done)|(simp only [List.mem_singleton] at ho;subst ho;exact TyA.none _)),(by unfold nextN nextB;(repeat (first|rw [if_pos (by omega)]|rw [if_neg (by omega)]));try rfl)⟩
 ·subst hk
  go_upto_region 33 with ((go_at_call 100;refine (rin_any _ _ _ _).mono ?_;rintro ee ww ⟨rfl,rfl⟩;(first|rw [inB_yes (by omega) (by omega)]|rw [inB_no (by omega)])))
  go_wp2_with (first
   | (go_at_call 77;refine (rto_any 5 _).mono ?_;rintro ee wt ⟨rfl,hbt⟩;have hbt':=Lib.hid hbt;clear hbt)
   | ((with_reducible refine wpList_store_scn 5 0 none 0 0 (w.heap.size + 1) (.tmp 4) (.tmp 133) rfl rfl ?_ ?_ ?_ ?_);(focus rfl);(focus rfl);(focus (exact Exists.elim HB1.out (fun old h => ⟨old,h.1.up hbt'.out,h.2⟩)));intro w3 hS3 hg3;have HS3:=Lib.hid hS3;have HG3:=Lib.hid hg3;clear hS3 hg3)
   | (go_at_call 100;refine (rin_any _ _ _ _).mono ?_;rintro ee ww ⟨rfl,rfl⟩;(first|rw [inB_yes (by omega) (by omega)]|rw [inB_no (by omega)]))
   | fail)
  refine bodyPost_ret (results_scn rfl _ _ (w.heap.size + 1) 5 0 none 0 0 (by rfl) HS3.out) rfl ?_
  exact ⟨5,0,none,0,0,[],none,0,0,[],rfl,ScnOk.to _ _ (by omega),OpsL.nil_ _,by omega,by omega,by omega,Bw.grown (Bw.trans hbw2 hbt'.out) HG3.out (fun k hk => by cases hk;omega),(by have hs3:=HG3.out.size;(try have hs5:=HG5.out.size);refine ⟨fun ad e => ?_,fun ad e => ?_,fun o ho ad e => ?_⟩;(focus (first|(cases e;done)|(right;exact e.symm)|(left;cases e;dsimp only;simp only [szA,szS,szD,szN] at *;omega)|(left;cases e;dsimp only;omega)));(focus (first|(cases e;done)|(cases e;dsimp only;omega)|(cases e;dsimp only;simp only [szA,szS,szD,szN] at *;omega)));(focus (first|(cases ho;done)|(simp only [List.mem_singleton] at ho;subst ho;dsimp only at e;first|(cases e;done)|(cases e;dsimp only;omega))))),(fun _ => TyA.none _),(fun o ho => by first|(cases ho;done)|(simp only [List.mem_singleton] at ho;subst ho;exact TyA.none _)),(by unfold nextN nextB;(repeat (first|rw [if_pos (by omega)]|rw [if_neg (by omega)]));try rfl)⟩
theorem rnext_Gc (md code pv : Int) (A : Option Addr) (n c : Nat) (xs : List Int) (w : World) (h : ScnOk w md pv A n c xs) (hq : (md = 1 ∧ 93 ≤ code ∧ code ≤ 95 ∧ (code == 24) = false ∧ (code == 26) = false ∧ (code == 27) = false ∧ (code == 127) = false ∧ (code == 91) = false ∧ (code == 80) = false ∧ (code == 88) = false) ∨ (md = 1 ∧ 32 ≤ code ∧ code ≤ 47 ∧ (code == 24) = false ∧ (code == 26) = false ∧ (code == 27) = false ∧ (code == 127) = false ∧ (code == 91) = false ∧ (code == 80) = false ∧ (code == 88) = false) ∨ (md = 1 ∧ 48 ≤ code ∧ code ≤ 126 ∧ (code < 93 ∨ 95 < code) ∧ (code == 24) = false ∧ (code == 26) = false ∧ (code == 27) = false ∧ (code == 127) = false ∧ (code == 91) = false ∧ (code == 80) = false ∧ (code == 88) = false) ∨ (md = 2 ∧ 32 ≤ code ∧ code ≤ 47 ∧ (code == 24) = false ∧ (code == 26) = false ∧ (code == 27) = false ∧ (code == 127) = false) ∨ (md = 2 ∧ 48 ≤ code ∧ code ≤ 126 ∧ (code == 24) = false ∧ (code == 26) = false ∧ (code == 27) = false ∧ (code == 127) = false) ∨ (md = 4 ∧ 64 ≤ code ∧ code ≤ 126 ∧ (code == 24) = false ∧ (code == 26) = false ∧ (code == 27) = false ∧ (code == 127) = false) ∨ (md = 4 ∧ 32 ≤ code ∧ code ≤ 63 ∧ (code == 24) = false ∧ (code == 26) = false ∧ (code == 27) = false ∧ (code == 127) = false)) : Calls Tryz.prog 78 #[.agg #[.int .i64 md,.int .i64 pv,.slice A n c],.int .i64 code] w (Nxt w A (nextN md pv xs code)):=by
 have HQ:=Lib.hid hq
 clear hq
 have HOk:=Lib.hid h
 have hx:=h.1
 have HXA:=Lib.hid (show 0 < n → ∀ ad,A = some ad → ad.block < w.heap.size from fun h0 ad e => by
  obtain ⟨g,o,e2,h⟩:=hx.2 h0
  have h1:=lt_of_cell (h 0 (by rw [hx.1];exact h0))
  rw [e] at e2
  cases e2
  exact h1)
 clear h hx
 go_enter Tryz.func78,Tryz.ntmps78
 go_upto_region 1 with (fail)
 generalize hw1 : (w.alloc (.cells #[.int .i64 md,.int .i64 pv,.slice A n c] 50)).alloc _ = w1
 obtain ⟨hb0,hb1,hbw,hz⟩:=sb2 hw1
 have HB0a:=Lib.hid hb0
 have HB1a:=Lib.hid (show ∃ old,Sb w1 (w.heap.size + 1) old 50 ∧ old.size = 3 from ⟨_,hb1,rfl⟩)
 have hz1 : w.heap.size + 1 < w1.heap.size:=by omega
 have hz0 : w.heap.size < w1.heap.size:=by omega
 have y0:=HB0a.out.cell 0 (v:=.int .i64 md) rfl
 have y1:=HB0a.out.cell 1 (v:=.int .i64 pv) rfl
 have y2:=HB0a.out.cell 2 (v:=.slice A n c) rfl
 clear hw1 hb0 hb1 hz
 go_upto_region 3 with (first
  | (go_at_call 70;refine (rvalid14_ok md pv A n c xs _ (HOk.out.up (show Bw w _ from BWX))).mono ?_;rintro ee wv ⟨rfl,hbv⟩;have z0:=(HB0a.out.up hbv).cell 0 (v:=.int .i64 md) rfl;have z1:=(HB0a.out.up hbv).cell 1 (v:=.int .i64 pv) rfl;have z2:=(HB0a.out.up hbv).cell 2 (v:=.slice A n c) rfl;have HBV:=Lib.hid hbv;clear hbv y0 y1 y2)
  | fail)
 have hbv:=HBV.out
 have HB0:=Lib.hid (HB0a.out.up hbv)
 have HB1:=Lib.hid (Exists.elim HB1a.out (fun old h => (⟨old,h.1.up hbv,h.2⟩ : ∃ old,Sb wv (w.heap.size + 1) old 50 ∧ old.size = 3)))
 have hbw2 : Bw w wv:=Bw.trans hbw hbv
 have hz2 : w.heap.size + 1 < wv.heap.size:=by have:=hbv.size;omega
 have hz02 : w.heap.size < wv.heap.size:=by omega
 have HOk1:=Lib.hid (HOk.out.up hbw2)
 clear HBV HB0a HB1a hz1 hz0 hbw hbv
 rcases HQ.out with ⟨rfl,hlo,hhi,h24,h26,h27,h127,h91,h80,h88⟩|⟨rfl,hlo,hhi,h24,h26,h27,h127,h91,h80,h88⟩|⟨rfl,hlo,hhi,hno,h24,h26,h27,h127,h91,h80,h88⟩|⟨rfl,hlo,hhi,h24,h26,h27,h127⟩|⟨rfl,hlo,hhi,h24,h26,h27,h127⟩|⟨rfl,hlo,hhi,h24,h26,h27,h127⟩|⟨rfl,hlo,hhi,h24,h26,h27,h127⟩
 ·go_upto_region 33 with ((go_at_call 100;refine (rin_any _ _ _ _).mono ?_;rintro ee ww ⟨rfl,rfl⟩;(first|rw [inB_yes (by omega) (by omega)]|rw [inB_no (by omega)])))
  go_wp2_with (first
   | (go_at_call 77;refine (rto_any 5 _).mono ?_;rintro ee wt ⟨rfl,hbt⟩;have hbt':=Lib.hid hbt;clear hbt)
   | ((with_reducible refine wpList_store_scn 5 0 none 0 0 (w.heap.size + 1) (.tmp 4) (.tmp 133) rfl rfl ?_ ?_ ?_ ?_);(focus rfl);(focus rfl);(focus (exact Exists.elim HB1.out (fun old h => ⟨old,h.1.up hbt'.out,h.2⟩)));intro w3 hS3 hg3;have HS3:=Lib.hid hS3;have HG3:=Lib.hid hg3;clear hS3 hg3)
   | (go_at_call 100;refine (rin_any _ _ _ _).mono ?_;rintro ee ww ⟨rfl,rfl⟩;(first|rw [inB_yes (by omega) (by omega)]|rw [inB_no (by omega)]))
   | fail)
  refine bodyPost_ret (results_scn rfl _ _ (w.heap.size + 1) 5 0 none 0 0 (by rfl) HS3.out) rfl ?_
  exact ⟨5,0,none,0,0,[],none,0,0,[],rfl,ScnOk.to _ _ (by omega),OpsL.nil_ _,by omega,by omega,by omega,Bw.grown (Bw.trans hbw2 hbt'.out) HG3.out (fun k hk => by cases hk;omega),(by have hs3:=HG3.out.size;(try have hs5:=HG5.out.size);refine ⟨fun ad e => ?_,fun ad e => ?_,fun o ho ad e => ?_⟩;(focus (first|(cases e;done)|(right;exact e.symm)|(left;cases e;dsimp only;simp only [szA,szS,szD,szN] at *;omega)|(left;cases e;dsimp only;omega)));(focus (first|(cases e;done)|(cases e;dsimp only;omega)|(cases e;dsimp only;simp only [szA,szS,szD,szN] at *;omega)));(focus (first|(cases ho;done)|(simp only [List.mem_singleton] at ho;subst ho;dsimp only at e;first|(cases e;done)|(cases e;dsimp only;omega))))),(fun _ => TyA.none _),(fun o ho => by first|(cases ho;done)|(simp only [List.mem_singleton] at ho;subst ho;exact TyA.none _)),(by simp only [beq_eq_false_iff_ne,ne_eq] at h24 h26 h27 h127 h91 h80 h88;unfold nextN nextB;(repeat (first|rw [if_pos (by omega)]|rw [if_neg (by omega)]));try rfl)⟩
 ·go_upto_region 35 with ((go_at_call 100;refine (rin_any _ _ _ _).mono ?_;rintro ee ww ⟨rfl,rfl⟩;(first|rw [inB_yes (by omega) (by omega)]|rw [inB_no (by omega)])))
  go_wp2_with (first
   | (go_at_call 77;refine (rto_any 2 _).mono ?_;rintro ee wt ⟨rfl,hbt⟩;have hbt':=Lib.hid hbt;clear hbt)
   | ((with_reducible refine wpList_store_scn 2 0 none 0 0 (w.heap.size + 1) (.tmp 4) (.tmp 137) rfl rfl ?_ ?_ ?_ ?_);(focus rfl);(focus rfl);(focus (exact Exists.elim HB1.out (fun old h => ⟨old,h.1.up hbt'.out,h.2⟩)));intro w3 hS3 hg3;have HS3:=Lib.hid hS3;have HG3:=Lib.hid hg3;clear hS3 hg3)
   | (go_at_call 100;refine (rin_any _ _ _ _).mono ?_;rintro ee ww ⟨rfl,rfl⟩;(first|rw [inB_yes (by omega) (by omega)]|rw [inB_no (by omega)]))
   | fail)
  refine bodyPost_ret (results_scn rfl _ _ (w.heap.size + 1) 2 0 none 0 0 (by rfl) HS3.out) rfl ?_
  exact ⟨2,0,none,0,0,[],none,0,0,[],rfl,ScnOk.to _ _ (by omega),OpsL.nil_ _,by omega,by omega,by omega,Bw.grown (Bw.trans hbw2 hbt'.out) HG3.out (fun k hk => by cases hk;omega),(by have hs3:=HG3.out.size;(try have hs5:=HG5.out.size);refine ⟨fun ad e => ?_,fun ad e => ?_,fun o ho ad e => ?_⟩;(focus (first|(cases e;done)|(right;exact e.symm)|(left;cases e;dsimp only;simp only [szA,szS,szD,szN] at *;omega)|(left;cases e;dsimp only;omega)));(focus (first|(cases e;done)|(cases e;dsimp only;omega)|(cases e;dsimp only;simp only [szA,szS,szD,szN] at *;omega)));(focus (first|(cases ho;done)|(simp only [List.mem_singleton] at ho;subst ho;dsimp only at e;first|(cases e;done)|(cases e;dsimp only;omega))))),(fun _ => TyA.none _),(fun o ho => by first|(cases ho;done)|(simp only [List.mem_singleton] at ho;subst ho;exact TyA.none _)),(by simp only [beq_eq_false_iff_ne,ne_eq] at h24 h26 h27 h127 h91 h80 h88;unfold nextN nextB;(repeat (first|rw [if_pos (by omega)]|rw [if_neg (by omega)]));try rfl)⟩
 ·go_upto_region 36 with ((go_at_call 100;refine (rin_any _ _ _ _).mono ?_;rintro ee ww ⟨rfl,rfl⟩;(first|rw [inB_yes (by omega) (by omega)]|rw [inB_no (by omega)])))
  go_wp2_with (first
   | (go_at_call 77;refine (rto_any 0 _).mono ?_;rintro ee wt ⟨rfl,hbt⟩;have hbt':=Lib.hid hbt;have hbt2:=hbt'.out;have hzt:=hbt.size;clear hbt)
   | ((with_reducible refine wpList_store_scn 0 0 none 0 0 (w.heap.size + 1) (.tmp 4) (.tmp 138) rfl rfl ?_ ?_ ?_ ?_);(focus rfl);(focus rfl);(focus (exact Exists.elim HB1.out (fun old h => ⟨old,h.1.up BWX,h.2⟩)));intro w3 hS3 hg3;have HS3:=Lib.hid hS3;have HG3:=Lib.hid hg3;clear hS3 hg3)
   | (go_at_call 100;refine (rin_any _ _ _ _).mono ?_;rintro ee ww ⟨rfl,rfl⟩;(first|rw [inB_yes (by omega) (by omega)]|rw [inB_no (by omega)]))
   | fail)
  refine bodyPost_ret (results_scn rfl _ _ (w.heap.size + 1) 0 0 none 0 0 (by rfl) HS3.out) rfl ?_
  exact ⟨0,0,none,0,0,[],some ⟨_,0,none⟩,1,1,[⟨3,code,0,none,0,0,[]⟩],rfl,ScnOk.to _ _ (by omega),OpsL.one ⟨3,code,0,none,0,0,[]⟩ ((show Sb (World.alloc wt (.cells #[.int .i64 3,.int .i64 code,.int .i64 0,.slice none 0 0] 109)) _ _ 109 from heap_at rfl).far HG3.out (by intro e;have:=Option.some.inj e;omega)) ⟨Rd.nil_ _ none,Nat.le_refl _,by show 0 ≤ 9223372036854775807;omega,by show 0 ≤ 1000;omega⟩,by omega,by omega,by omega,Bw.grown (show Bw w _ from BWX) HG3.out (fun k hk => by cases hk;omega),(by have hs3:=HG3.out.size;(try have hs5:=HG5.out.size);refine ⟨fun ad e => ?_,fun ad e => ?_,fun o ho ad e => ?_⟩;(focus (first|(cases e;done)|(right;exact e.symm)|(left;cases e;dsimp only;simp only [szA,szS,szD,szN] at *;omega)|(left;cases e;dsimp only;omega)));(focus (first|(cases e;done)|(cases e;dsimp only;omega)|(cases e;dsimp only;simp only [szA,szS,szD,szN] at *;omega)));(focus (first|(cases ho;done)|(simp only [List.mem_singleton] at ho;subst ho;dsimp only at e;first|(cases e;done)|(cases e;dsimp only;omega))))),(fun _ => TyA.none _),(fun o ho => by first|(cases ho;done)|(simp only [List.mem_singleton] at ho;subst ho;exact TyA.none _)),(by simp only [beq_eq_false_iff_ne,ne_eq] at h24 h26 h27 h127 h91 h80 h88;unfold nextN nextB;(repeat (first|rw [if_pos (by omega)]|rw [if_neg (by omega)]));try rfl)⟩
 ·go_upto_region 39 with ((go_at_call 100;refine (rin_any _ _ _ _).mono ?_;rintro ee ww ⟨rfl,rfl⟩;(first|rw [inB_yes (by omega) (by omega)]|rw [inB_no (by omega)])))
  go_wp2_with (first
   | ((with_reducible refine wpList_store_scn 2 pv A n c (w.heap.size + 1) (.tmp 4) (.tmp 146) rfl rfl ?_ ?_ ?_ ?_);(focus rfl);(focus rfl);(focus (exact HB1.out));intro w3 hS3 hg3;have HS3:=Lib.hid hS3;have HG3:=Lib.hid hg3;clear hS3 hg3)
   | (go_at_call 100;refine (rin_any _ _ _ _).mono ?_;rintro ee ww ⟨rfl,rfl⟩;(first|rw [inB_yes (by omega) (by omega)]|rw [inB_no (by omega)]))
   | fail)
  refine bodyPost_ret (results_scn rfl _ _ (w.heap.size + 1) 2 pv A n c (by rfl) HS3.out) rfl ?_
  exact ⟨2,pv,A,n,c,xs,none,0,0,[],rfl,HOk1.out.far0 HG3.out (fun h0 ad e => by have:=HXA.out h0 ad e;intro e2;have:=Option.some.inj e2;omega),OpsL.nil_ _,by omega,by omega,by omega,Bw.grown (hbw2) HG3.out (fun k hk => by cases hk;omega),(by have hs3:=HG3.out.size;(try have hs5:=HG5.out.size);refine ⟨fun ad e => ?_,fun ad e => ?_,fun o ho ad e => ?_⟩;(focus (first|(cases e;done)|(right;exact e.symm)|(left;cases e;dsimp only;simp only [szA,szS,szD,szN] at *;omega)|(left;cases e;dsimp only;omega)));(focus (first|(cases e;done)|(cases e;dsimp only;omega)|(cases e;dsimp only;simp only [szA,szS,szD,szN] at *;omega)));(focus (first|(cases ho;done)|(simp only [List.mem_singleton] at ho;subst ho;dsimp only at e;first|(cases e;done)|(cases e;dsimp only;omega))))),(fun hT => hT.up (show Bw w w3 from Bw.grown (show Bw w _ from BWX) HG3.out (fun k hk => by cases hk;omega))),(fun o ho => by first|(cases ho;done)|(simp only [List.mem_singleton] at ho;subst ho;exact TyA.none _)),(by simp only [beq_eq_false_iff_ne,ne_eq] at h24 h26 h27 h127;unfold nextN nextB;(repeat (first|rw [if_pos (by omega)]|rw [if_neg (by omega)]));try rfl)⟩
 ·go_upto_region 40 with ((go_at_call 100;refine (rin_any _ _ _ _).mono ?_;rintro ee ww ⟨rfl,rfl⟩;(first|rw [inB_yes (by omega) (by omega)]|rw [inB_no (by omega)])))
  go_wp2_with (first
   | (go_at_call 77;refine (rto_any 0 _).mono ?_;rintro ee wt ⟨rfl,hbt⟩;have hbt':=Lib.hid hbt;clear hbt)
   | ((with_reducible refine wpList_store_scn 0 0 none 0 0 (w.heap.size + 1) (.tmp 4) (.tmp 147) rfl rfl ?_ ?_ ?_ ?_);(focus rfl);(focus rfl);(focus (exact Exists.elim HB1.out (fun old h => ⟨old,h.1.up hbt'.out,h.2⟩)));intro w3 hS3 hg3;have HS3:=Lib.hid hS3;have HG3:=Lib.hid hg3;clear hS3 hg3)
   | (go_at_call 100;refine (rin_any _ _ _ _).mono ?_;rintro ee ww ⟨rfl,rfl⟩;(first|rw [inB_yes (by omega) (by omega)]|rw [inB_no (by omega)]))
   | fail)
  refine bodyPost_ret (results_scn rfl _ _ (w.heap.size + 1) 0 0 none 0 0 (by rfl) HS3.out) rfl ?_
  exact ⟨0,0,none,0,0,[],none,0,0,[],rfl,ScnOk.to _ _ (by omega),OpsL.nil_ _,by omega,by omega,by omega,Bw.grown (Bw.trans hbw2 hbt'.out) HG3.out (fun k hk => by cases hk;omega),(by have hs3:=HG3.out.size;(try have hs5:=HG5.out.size);refine ⟨fun ad e => ?_,fun ad e => ?_,fun o ho ad e => ?_⟩;(focus (first|(cases e;done)|(right;exact e.symm)|(left;cases e;dsimp only;simp only [szA,szS,szD,szN] at *;omega)|(left;cases e;dsimp only;omega)));(focus (first|(cases e;done)|(cases e;dsimp only;omega)|(cases e;dsimp only;simp only [szA,szS,szD,szN] at *;omega)));(focus (first|(cases ho;done)|(simp only [List.mem_singleton] at ho;subst ho;dsimp only at e;first|(cases e;done)|(cases e;dsimp only;omega))))),(fun _ => TyA.none _),(fun o ho => by first|(cases ho;done)|(simp only [List.mem_singleton] at ho;subst ho;exact TyA.none _)),(by simp only [beq_eq_false_iff_ne,ne_eq] at h24 h26 h27 h127;unfold nextN nextB;(repeat (first|rw [if_pos (by omega)]|rw [if_neg (by omega)]));try rfl)⟩
 ·go_upto_region 42 with ((go_at_call 100;refine (rin_any _ _ _ _).mono ?_;rintro ee ww ⟨rfl,rfl⟩;(first|rw [inB_yes (by omega) (by omega)]|rw [inB_no (by omega)])))
  go_wp2_with (first
   | (go_at_call 77;refine (rto_any 0 _).mono ?_;rintro ee wt ⟨rfl,hbt⟩;have hbt':=Lib.hid hbt;clear hbt)
   | ((with_reducible refine wpList_store_scn 0 0 none 0 0 (w.heap.size + 1) (.tmp 4) (.tmp 150) rfl rfl ?_ ?_ ?_ ?_);(focus rfl);(focus rfl);(focus (exact Exists.elim HB1.out (fun old h => ⟨old,h.1.up hbt'.out,h.2⟩)));intro w3 hS3 hg3;have HS3:=Lib.hid hS3;have HG3:=Lib.hid hg3;clear hS3 hg3)
   | (go_at_call 100;refine (rin_any _ _ _ _).mono ?_;rintro ee ww ⟨rfl,rfl⟩;(first|rw [inB_yes (by omega) (by omega)]|rw [inB_no (by omega)]))
   | fail)
  refine bodyPost_ret (results_scn rfl _ _ (w.heap.size + 1) 0 0 none 0 0 (by rfl) HS3.out) rfl ?_
  exact ⟨0,0,none,0,0,[],none,0,0,[],rfl,ScnOk.to _ _ (by omega),OpsL.nil_ _,by omega,by omega,by omega,Bw.grown (Bw.trans hbw2 hbt'.out) HG3.out (fun k hk => by cases hk;omega),(by have hs3:=HG3.out.size;(try have hs5:=HG5.out.size);refine ⟨fun ad e => ?_,fun ad e => ?_,fun o ho ad e => ?_⟩;(focus (first|(cases e;done)|(right;exact e.symm)|(left;cases e;dsimp only;simp only [szA,szS,szD,szN] at *;omega)|(left;cases e;dsimp only;omega)));(focus (first|(cases e;done)|(cases e;dsimp only;omega)|(cases e;dsimp only;simp only [szA,szS,szD,szN] at *;omega)));(focus (first|(cases ho;done)|(simp only [List.mem_singleton] at ho;subst ho;dsimp only at e;first|(cases e;done)|(cases e;dsimp only;omega))))),(fun _ => TyA.none _),(fun o ho => by first|(cases ho;done)|(simp only [List.mem_singleton] at ho;subst ho;exact TyA.none _)),(by simp only [beq_eq_false_iff_ne,ne_eq] at h24 h26 h27 h127;unfold nextN nextB;(repeat (first|rw [if_pos (by omega)]|rw [if_neg (by omega)]));try rfl)⟩
 ·go_upto_region 43 with ((go_at_call 100;refine (rin_any _ _ _ _).mono ?_;rintro ee ww ⟨rfl,rfl⟩;(first|rw [inB_yes (by omega) (by omega)]|rw [inB_no (by omega)])))
  go_wp2_with (first
   | ((with_reducible refine wpList_store_scn 4 pv A n c (w.heap.size + 1) (.tmp 4) (.tmp 151) rfl rfl ?_ ?_ ?_ ?_);(focus rfl);(focus rfl);(focus (exact HB1.out));intro w3 hS3 hg3;have HS3:=Lib.hid hS3;have HG3:=Lib.hid hg3;clear hS3 hg3)
   | (go_at_call 100;refine (rin_any _ _ _ _).mono ?_;rintro ee ww ⟨rfl,rfl⟩;(first|rw [inB_yes (by omega) (by omega)]|rw [inB_no (by omega)]))
   | fail)
  refine bodyPost_ret (results_scn rfl _ _ (w.heap.size + 1) 4 pv A n c (by rfl) HS3.out) rfl ?_
  exact ⟨4,pv,A,n,c,xs,none,0,0,[],rfl,HOk1.out.far0 HG3.out (fun h0 ad e => by have:=HXA.out h0 ad e;intro e2;have:=Option.some.inj e2;omega),OpsL.nil_ _,by omega,by omega,by omega,Bw.grown (hbw2) HG3.out (fun k hk => by cases hk;omega),(by have hs3:=HG3.out.size;(try have hs5:=HG5.out.size);refine ⟨fun ad e => ?_,fun ad e => ?_,fun o ho ad e => ?_⟩;(focus (first|(cases e;done)|(right;exact e.symm)|(left;cases e;dsimp only;simp only [szA,szS,szD,szN] at *;omega)|(left;cases e;dsimp only;omega)));(focus (first|(cases e;done)|(cases e;dsimp only;omega)|(cases e;dsimp only;simp only [szA,szS,szD,szN] at *;omega)));(focus (first|(cases ho;done)|(simp only [List.mem_singleton] at ho;subst ho;dsimp only at e;first|(cases e;done)|(cases e;dsimp only;omega))))),(fun hT => hT.up (show Bw w w3 from Bw.grown (show Bw w _ from BWX) HG3.out (fun k hk => by cases hk;omega))),(fun o ho => by first|(cases ho;done)|(simp only [List.mem_singleton] at ho;subst ho;exact TyA.none _)),(by simp only [beq_eq_false_iff_ne,ne_eq] at h24 h26 h27 h127;unfold nextN nextB;(repeat (first|rw [if_pos (by omega)]|rw [if_neg (by omega)]));try rfl)⟩
theorem rnext_Gd (md code pv : Int) (A : Option Addr) (n c : Nat) (xs : List Int) (w : World) (h : ScnOk w md pv A n c xs) (hq : (md = 5 ∧ code = 24) ∨ (md = 5 ∧ code = 26) ∨ (md = 5 ∧ code = 27) ∨ (md = 5 ∧ code = 7) ∨ (md = 5 ∧ (code == 24) = false ∧ (code == 26) = false ∧ (code == 27) = false ∧ (code == 7) = false) ∨ (md = 6 ∧ code = 24) ∨ (md = 6 ∧ code = 26) ∨ (md = 6 ∧ code = 27) ∨ (md = 6 ∧ code = 92)) : Calls Tryz.prog 78 #[.agg #[.int .i64 md,.int .i64 pv,.slice A n c],.int .i64 code] w (Nxt w A (nextN md pv xs code)):=by
 have HQ:=Lib.hid hq
 clear hq
 have HOk:=Lib.hid h
 have hx:=h.1
 have HXA:=Lib.hid (show 0 < n → ∀ ad,A = some ad → ad.block < w.heap.size from fun h0 ad e => by
  obtain ⟨g,o,e2,h⟩:=hx.2 h0
  have h1:=lt_of_cell (h 0 (by rw [hx.1];exact h0))
  rw [e] at e2
  cases e2
  exact h1)
 clear h hx
 go_enter Tryz.func78,Tryz.ntmps78
 go_upto_region 1 with (fail)
 generalize hw1 : (w.alloc (.cells #[.int .i64 md,.int .i64 pv,.slice A n c] 50)).alloc _ = w1
 obtain ⟨hb0,hb1,hbw,hz⟩:=sb2 hw1
 have HB0a:=Lib.hid hb0
 have HB1a:=Lib.hid (show ∃ old,Sb w1 (w.heap.size + 1) old 50 ∧ old.size = 3 from ⟨_,hb1,rfl⟩)
 have hz1 : w.heap.size + 1 < w1.heap.size:=by omega
 have hz0 : w.heap.size < w1.heap.size:=by omega
 have y0:=HB0a.out.cell 0 (v:=.int .i64 md) rfl
 have y1:=HB0a.out.cell 1 (v:=.int .i64 pv) rfl
 have y2:=HB0a.out.cell 2 (v:=.slice A n c) rfl
 clear hw1 hb0 hb1 hz
 go_upto_region 3 with (first
  | (go_at_call 70;refine (rvalid14_ok md pv A n c xs _ (HOk.out.up (show Bw w _ from BWX))).mono ?_;rintro ee wv ⟨rfl,hbv⟩;have z0:=(HB0a.out.up hbv).cell 0 (v:=.int .i64 md) rfl;have z1:=(HB0a.out.up hbv).cell 1 (v:=.int .i64 pv) rfl;have z2:=(HB0a.out.up hbv).cell 2 (v:=.slice A n c) rfl;have HBV:=Lib.hid hbv;clear hbv y0 y1 y2)
  | fail)
 have hbv:=HBV.out
 have HB0:=Lib.hid (HB0a.out.up hbv)
 have HB1:=Lib.hid (Exists.elim HB1a.out (fun old h => (⟨old,h.1.up hbv,h.2⟩ : ∃ old,Sb wv (w.heap.size + 1) old 50 ∧ old.size = 3)))
 have hbw2 : Bw w wv:=Bw.trans hbw hbv
 have hz2 : w.heap.size + 1 < wv.heap.size:=by have:=hbv.size;omega
 have hz02 : w.heap.size < wv.heap.size:=by omega
 have HOk1:=Lib.hid (HOk.out.up hbw2)
 clear HBV HB0a HB1a hz1 hz0 hbw hbv
 rcases HQ.out with ⟨rfl,hk⟩|⟨rfl,hk⟩|⟨rfl,hk⟩|⟨rfl,hk⟩|⟨rfl,h24,h26,h27,h7⟩|⟨rfl,hk⟩|⟨rfl,hk⟩|⟨rfl,hk⟩|⟨rfl,hk⟩
 ·subst hk
  go_upto_region 5 with ((go_at_call 100;refine (rin_any _ _ _ _).mono ?_;rintro ee ww ⟨rfl,rfl⟩;(first|rw [inB_yes (by omega) (by omega)]|rw [inB_no (by omega)])))
  go_wp2_with (first
   | (go_at_call 77;refine (rto_any 0 _).mono ?_;rintro ee wt ⟨rfl,hbt⟩;have hbt':=Lib.hid hbt;clear hbt)
   | ((with_reducible refine wpList_store_scn 0 0 none 0 0 (w.heap.size + 1) (.tmp 4) (.tmp 26) rfl rfl ?_ ?_ ?_ ?_);(focus rfl);(focus rfl);(focus (exact Exists.elim HB1.out (fun old h => ⟨old,h.1.up hbt'.out,h.2⟩)));intro w3 hS3 hg3;have HS3:=Lib.hid hS3;have HG3:=Lib.hid hg3;clear hS3 hg3)
   | (go_at_call 100;refine (rin_any _ _ _ _).mono ?_;rintro ee ww ⟨rfl,rfl⟩;(first|rw [inB_yes (by omega) (by omega)]|rw [inB_no (by omega)]))
   | fail)
  refine bodyPost_ret (results_scn rfl _ _ (w.heap.size + 1) 0 0 none 0 0 (by rfl) HS3.out) rfl ?_
  exact ⟨0,0,none,0,0,[],none,0,0,[],rfl,ScnOk.to _ _ (by omega),OpsL.nil_ _,by omega,by omega,by omega,Bw.grown (Bw.trans hbw2 hbt'.out) HG3.out (fun k hk => by cases hk;omega),(by have hs3:=HG3.out.size;(try have hs5:=HG5.out.size);refine ⟨fun ad e => ?_,fun ad e => ?_,fun o ho ad e => ?_⟩;(focus (first|(cases e;done)|(right;exact e.symm)|(left;cases e;dsimp only;simp only [szA,szS,szD,szN] at *;omega)|(left;cases e;dsimp only;omega)));(focus (first|(cases e;done)|(cases e;dsimp only;omega)|(cases e;dsimp only;simp only [szA,szS,szD,szN] at *;omega)));(focus (first|(cases ho;done)|(simp only [List.mem_singleton] at ho;subst ho;dsimp only at e;first|(cases e;done)|(cases e;dsimp only;omega))))),(fun _ => TyA.none _),(fun o ho => by first|(cases ho;done)|(simp only [List.mem_singleton] at ho;subst ho;exact TyA.none _)),(by unfold nextN nextB;(repeat (first|rw [if_pos (by omega)]|rw [if_neg (by omega)]));try rfl)⟩
 ·subst hk
  go_upto_region 5 with ((go_at_call 100;refine (rin_any _ _ _ _).mono ?_;rintro ee ww ⟨rfl,rfl⟩;(first|rw [inB_yes (by omega) (by omega)]|rw [inB_no (by omega)])))
  go_wp2_with (first
   | (go_at_call 77;refine (rto_any 0 _).mono ?_;rintro ee wt ⟨rfl,hbt⟩;have hbt':=Lib.hid hbt;clear hbt)
   | ((with_reducible refine wpList_store_scn 0 0 none 0 0 (w.heap.size + 1) (.tmp 4) (.tmp 26) rfl rfl ?_ ?_ ?_ ?_);(focus rfl);(focus rfl);(focus (exact Exists.elim HB1.out (fun old h => ⟨old,h.1.up hbt'.out,h.2⟩)));intro w3 hS3 hg3;have HS3:=Lib.hid hS3;have HG3:=Lib.hid hg3;clear hS3 hg3)
   | (go_at_call 100;refine (rin_any _ _ _ _).mono ?_;rintro ee ww ⟨rfl,rfl⟩;(first|rw [inB_yes (by omega) (by omega)]|rw [inB_no (by omega)]))
   | fail)
  refine bodyPost_ret (results_scn rfl _ _ (w.heap.size + 1) 0 0 none 0 0 (by rfl) HS3.out) rfl ?_
  exact ⟨0,0,none,0,0,[],none,0,0,[],rfl,ScnOk.to _ _ (by omega),OpsL.nil_ _,by omega,by omega,by omega,Bw.grown (Bw.trans hbw2 hbt'.out) HG3.out (fun k hk => by cases hk;omega),(by have hs3:=HG3.out.size;(try have hs5:=HG5.out.size);refine ⟨fun ad e => ?_,fun ad e => ?_,fun o ho ad e => ?_⟩;(focus (first|(cases e;done)|(right;exact e.symm)|(left;cases e;dsimp only;simp only [szA,szS,szD,szN] at *;omega)|(left;cases e;dsimp only;omega)));(focus (first|(cases e;done)|(cases e;dsimp only;omega)|(cases e;dsimp only;simp only [szA,szS,szD,szN] at *;omega)));(focus (first|(cases ho;done)|(simp only [List.mem_singleton] at ho;subst ho;dsimp only at e;first|(cases e;done)|(cases e;dsimp only;omega))))),(fun _ => TyA.none _),(fun o ho => by first|(cases ho;done)|(simp only [List.mem_singleton] at ho;subst ho;exact TyA.none _)),(by unfold nextN nextB;(repeat (first|rw [if_pos (by omega)]|rw [if_neg (by omega)]));try rfl)⟩
 ·subst hk
  go_upto_region 7 with ((go_at_call 100;refine (rin_any _ _ _ _).mono ?_;rintro ee ww ⟨rfl,rfl⟩;(first|rw [inB_yes (by omega) (by omega)]|rw [inB_no (by omega)])))
  go_wp2_with (first
   | (go_at_call 77;refine (rto_any 6 _).mono ?_;rintro ee wt ⟨rfl,hbt⟩;have hbt':=Lib.hid hbt;clear hbt)
   | ((with_reducible refine wpList_store_scn 6 0 none 0 0 (w.heap.size + 1) (.tmp 4) (.tmp 33) rfl rfl ?_ ?_ ?_ ?_);(focus rfl);(focus rfl);(focus (exact Exists.elim HB1.out (fun old h => ⟨old,h.1.up hbt'.out,h.2⟩)));intro w3 hS3 hg3;have HS3:=Lib.hid hS3;have HG3:=Lib.hid hg3;clear hS3 hg3)
   | (go_at_call 100;refine (rin_any _ _ _ _).mono ?_;rintro ee ww ⟨rfl,rfl⟩;(first|rw [inB_yes (by omega) (by omega)]|rw [inB_no (by omega)]))
   | fail)
  refine bodyPost_ret (results_scn rfl _ _ (w.heap.size + 1) 6 0 none 0 0 (by rfl) HS3.out) rfl ?_
  exact ⟨6,0,none,0,0,[],none,0,0,[],rfl,ScnOk.to _ _ (by omega),OpsL.nil_ _,by omega,by omega,by omega,Bw.grown (Bw.trans hbw2 hbt'.out) HG3.out (fun k hk => by cases hk;omega),(by have hs3:=HG3.out.size;(try have hs5:=HG5.out.size);refine ⟨fun ad e => ?_,fun ad e => ?_,fun o ho ad e => ?_⟩;(focus (first|(cases e;done)|(right;exact e.symm)|(left;cases e;dsimp only;simp only [szA,szS,szD,szN] at *;omega)|(left;cases e;dsimp only;omega)));(focus (first|(cases e;done)|(cases e;dsimp only;omega)|(cases e;dsimp only;simp only [szA,szS,szD,szN] at *;omega)));(focus (first|(cases ho;done)|(simp only [List.mem_singleton] at ho;subst ho;dsimp only at e;first|(cases e;done)|(cases e;dsimp only;omega))))),(fun _ => TyA.none _),(fun o ho => by first|(cases ho;done)|(simp only [List.mem_singleton] at ho;subst ho;exact TyA.none _)),(by unfold nextN nextB;(repeat (first|rw [if_pos (by omega)]|rw [if_neg (by omega)]));try rfl)⟩
 ·subst hk
  go_upto_region 15 with ((go_at_call 100;refine (rin_any _ _ _ _).mono ?_;rintro ee ww ⟨rfl,rfl⟩;(first|rw [inB_yes (by omega) (by omega)]|rw [inB_no (by omega)])))
  go_wp2_with (first
   | (go_at_call 77;refine (rto_any 0 _).mono ?_;rintro ee wt ⟨rfl,hbt⟩;have hbt':=Lib.hid hbt;clear hbt)
   | ((with_reducible refine wpList_store_scn 0 0 none 0 0 (w.heap.size + 1) (.tmp 4) (.tmp 64) rfl rfl ?_ ?_ ?_ ?_);(focus rfl);(focus rfl);(focus (exact Exists.elim HB1.out (fun old h => ⟨old,h.1.up hbt'.out,h.2⟩)));intro w3 hS3 hg3;have HS3:=Lib.hid hS3;have HG3:=Lib.hid hg3;clear hS3 hg3)
   | (go_at_call 100;refine (rin_any _ _ _ _).mono ?_;rintro ee ww ⟨rfl,rfl⟩;(first|rw [inB_yes (by omega) (by omega)]|rw [inB_no (by omega)]))
   | fail)
  refine bodyPost_ret (results_scn rfl _ _ (w.heap.size + 1) 0 0 none 0 0 (by rfl) HS3.out) rfl ?_
  exact ⟨0,0,none,0,0,[],none,0,0,[],rfl,ScnOk.to _ _ (by omega),OpsL.nil_ _,by omega,by omega,by omega,Bw.grown (Bw.trans hbw2 hbt'.out) HG3.out (fun k hk => by cases hk;omega),(by have hs3:=HG3.out.size;(try have hs5:=HG5.out.size);refine ⟨fun ad e => ?_,fun ad e => ?_,fun o ho ad e => ?_⟩;(focus (first|(cases e;done)|(right;exact e.symm)|(left;cases e;dsimp only;simp only [szA,szS,szD,szN] at *;omega)|(left;cases e;dsimp only;omega)));(focus (first|(cases e;done)|(cases e;dsimp only;omega)|(cases e;dsimp only;simp only [szA,szS,szD,szN] at *;omega)));(focus (first|(cases ho;done)|(simp only [List.mem_singleton] at ho;subst ho;dsimp only at e;first|(cases e;done)|(cases e;dsimp only;omega))))),(fun _ => TyA.none _),(fun o ho => by first|(cases ho;done)|(simp only [List.mem_singleton] at ho;subst ho;exact TyA.none _)),(by unfold nextN nextB;(repeat (first|rw [if_pos (by omega)]|rw [if_neg (by omega)]));try rfl)⟩
 ·go_upto_region 17 with ((go_at_call 100;refine (rin_any _ _ _ _).mono ?_;rintro ee ww ⟨rfl,rfl⟩;(first|rw [inB_yes (by omega) (by omega)]|rw [inB_no (by omega)])))
  go_wp2_with (first
   | ((with_reducible refine wpList_store_scn 5 pv A n c (w.heap.size + 1) (.tmp 4) (.tmp 77) rfl rfl ?_ ?_ ?_ ?_);(focus rfl);(focus rfl);(focus (exact HB1.out));intro w3 hS3 hg3;have HS3:=Lib.hid hS3;have HG3:=Lib.hid hg3;clear hS3 hg3)
   | (go_at_call 100;refine (rin_any _ _ _ _).mono ?_;rintro ee ww ⟨rfl,rfl⟩;(first|rw [inB_yes (by omega) (by omega)]|rw [inB_no (by omega)]))
   | fail)
  refine bodyPost_ret (results_scn rfl _ _ (w.heap.size + 1) 5 pv A n c (by rfl) HS3.out) rfl ?_
  exact ⟨5,pv,A,n,c,xs,none,0,0,[],rfl,HOk1.out.far0 HG3.out (fun h0 ad e => by have:=HXA.out h0 ad e;intro e2;have:=Option.some.inj e2;omega),OpsL.nil_ _,by omega,by omega,by omega,Bw.grown (hbw2) HG3.out (fun k hk => by cases hk;omega),(by have hs3:=HG3.out.size;(try have hs5:=HG5.out.size);refine ⟨fun ad e => ?_,fun ad e => ?_,fun o ho ad e => ?_⟩;(focus (first|(cases e;done)|(right;exact e.symm)|(left;cases e;dsimp only;simp only [szA,szS,szD,szN] at *;omega)|(left;cases e;dsimp only;omega)));(focus (first|(cases e;done)|(cases e;dsimp only;omega)|(cases e;dsimp only;simp only [szA,szS,szD,szN] at *;omega)));(focus (first|(cases ho;done)|(simp only [List.mem_singleton] at ho;subst ho;dsimp only at e;first|(cases e;done)|(cases e;dsimp only;omega))))),(fun hT => hT.up (show Bw w w3 from Bw.grown (show Bw w _ from BWX) HG3.out (fun k hk => by cases hk;omega))),(fun o ho => by first|(cases ho;done)|(simp only [List.mem_singleton] at ho;subst ho;exact TyA.none _)),(by simp only [beq_eq_false_iff_ne,ne_eq] at h24 h26 h27 h7;unfold nextN nextB;(repeat (first|rw [if_pos (by omega)]|rw [if_neg (by omega)]));try rfl)⟩
 ·subst hk
  go_upto_region 5 with ((go_at_call 100;refine (rin_any _ _ _ _).mono ?_;rintro ee ww ⟨rfl,rfl⟩;(first|rw [inB_yes (by omega) (by omega)]|rw [inB_no (by omega)])))
  go_wp2_with (first
   | (go_at_call 77;refine (rto_any 0 _).mono ?_;rintro ee wt ⟨rfl,hbt⟩;have hbt':=Lib.hid hbt;clear hbt)
   | ((with_reducible refine wpList_store_scn 0 0 none 0 0 (w.heap.size + 1) (.tmp 4) (.tmp 26) rfl rfl ?_ ?_ ?_ ?_);(focus rfl);(focus rfl);(focus (exact Exists.elim HB1.out (fun old h => ⟨old,h.1.up hbt'.out,h.2⟩)));intro w3 hS3 hg3;have HS3:=Lib.hid hS3;have HG3:=Lib.hid hg3;clear hS3 hg3)
   | (go_at_call 100;refine (rin_any _ _ _ _).mono ?_;rintro ee ww ⟨rfl,rfl⟩;(first|rw [inB_yes (by omega) (by omega)]|rw [inB_no (by omega)]))
   | fail)
  refine bodyPost_ret (results_scn rfl _ _ (w.heap.size + 1) 0 0 none 0 0 (by rfl) HS3.out) rfl ?_
  exact ⟨0,0,none,0,0,[],none,0,0,[],rfl,ScnOk.to _ _ (by omega),OpsL.nil_ _,by omega,by omega,by omega,Bw.grown (Bw.trans hbw2 hbt'.out) HG3.out (fun k hk => by cases hk;omega),(by have hs3:=HG3.out.size;(try have hs5:=HG5.out.size);refine ⟨fun ad e => ?_,fun ad e => ?_,fun o ho ad e => ?_⟩;(focus (first|(cases e;done)|(right;exact e.symm)|(left;cases e;dsimp only;simp only [szA,szS,szD,szN] at *;omega)|(left;cases e;dsimp only;omega)));(focus (first|(cases e;done)|(cases e;dsimp only;omega)|(cases e;dsimp only;simp only [szA,szS,szD,szN] at *;omega)));(focus (first|(cases ho;done)|(simp only [List.mem_singleton] at ho;subst ho;dsimp only at e;first|(cases e;done)|(cases e;dsimp only;omega))))),(fun _ => TyA.none _),(fun o ho => by first|(cases ho;done)|(simp only [List.mem_singleton] at ho;subst ho;exact TyA.none _)),(by unfold nextN nextB;(repeat (first|rw [if_pos (by omega)]|rw [if_neg (by omega)]));try rfl)⟩
 ·subst hk
  go_upto_region 5 with ((go_at_call 100;refine (rin_any _ _ _ _).mono ?_;rintro ee ww ⟨rfl,rfl⟩;(first|rw [inB_yes (by omega) (by omega)]|rw [inB_no (by omega)])))
  go_wp2_with (first
   | (go_at_call 77;refine (rto_any 0 _).mono ?_;rintro ee wt ⟨rfl,hbt⟩;have hbt':=Lib.hid hbt;clear hbt)
   | ((with_reducible refine wpList_store_scn 0 0 none 0 0 (w.heap.size + 1) (.tmp 4) (.tmp 26) rfl rfl ?_ ?_ ?_ ?_);(focus rfl);(focus rfl);(focus (exact Exists.elim HB1.out (fun old h => ⟨old,h.1.up hbt'.out,h.2⟩)));intro w3 hS3 hg3;have HS3:=Lib.hid hS3;have HG3:=Lib.hid hg3;clear hS3 hg3)
   | (go_at_call 100;refine (rin_any _ _ _ _).mono ?_;rintro ee ww ⟨rfl,rfl⟩;(first|rw [inB_yes (by omega) (by omega)]|rw [inB_no (by omega)]))
   | fail)
  refine bodyPost_ret (results_scn rfl _ _ (w.heap.size + 1) 0 0 none 0 0 (by rfl) HS3.out) rfl ?_
  exact ⟨0,0,none,0,0,[],none,0,0,[],rfl,ScnOk.to _ _ (by omega),OpsL.nil_ _,by omega,by omega,by omega,Bw.grown (Bw.trans hbw2 hbt'.out) HG3.out (fun k hk => by cases hk;omega),(by have hs3:=HG3.out.size;(try have hs5:=HG5.out.size);refine ⟨fun ad e => ?_,fun ad e => ?_,fun o ho ad e => ?_⟩;(focus (first|(cases e;done)|(right;exact e.symm)|(left;cases e;dsimp only;simp only [szA,szS,szD,szN] at *;omega)|(left;cases e;dsimp only;omega)));(focus (first|(cases e;done)|(cases e;dsimp only;omega)|(cases e;dsimp only;simp only [szA,szS,szD,szN] at *;omega)));(focus (first|(cases ho;done)|(simp only [List.mem_singleton] at ho;subst ho;dsimp only at e;first|(cases e;done)|(cases e;dsimp only;omega))))),(fun _ => TyA.none _),(fun o ho => by first|(cases ho;done)|(simp only [List.mem_singleton] at ho;subst ho;exact TyA.none _)),(by unfold nextN nextB;(repeat (first|rw [if_pos (by omega)]|rw [if_neg (by omega)]));try rfl)⟩
 ·subst hk
  go_upto_region 7 with ((go_at_call 100;refine (rin_any _ _ _ _).mono ?_;rintro ee ww ⟨rfl,rfl⟩;(first|rw [inB_yes (by omega) (by omega)]|rw [inB_no (by omega)])))
  go_wp2_with (first
   | (go_at_call 77;refine (rto_any 6 _).mono ?_;rintro ee wt ⟨rfl,hbt⟩;have hbt':=Lib.hid hbt;clear hbt)
   | ((with_reducible refine wpList_store_scn 6 0 none 0 0 (w.heap.size + 1) (.tmp 4) (.tmp 33) rfl rfl ?_ ?_ ?_ ?_);(focus rfl);(focus rfl);(focus (exact Exists.elim HB1.out (fun old h => ⟨old,h.1.up hbt'.out,h.2⟩)));intro w3 hS3 hg3;have HS3:=Lib.hid hS3;have HG3:=Lib.hid hg3;clear hS3 hg3)
   | (go_at_call 100;refine (rin_any _ _ _ _).mono ?_;rintro ee ww ⟨rfl,rfl⟩;(first|rw [inB_yes (by omega) (by omega)]|rw [inB_no (by omega)]))
   | fail)
  refine bodyPost_ret (results_scn rfl _ _ (w.heap.size + 1) 6 0 none 0 0 (by rfl) HS3.out) rfl ?_
  exact ⟨6,0,none,0,0,[],none,0,0,[],rfl,ScnOk.to _ _ (by omega),OpsL.nil_ _,by omega,by omega,by omega,Bw.grown (Bw.trans hbw2 hbt'.out) HG3.out (fun k hk => by cases hk;omega),(by have hs3:=HG3.out.size;(try have hs5:=HG5.out.size);refine ⟨fun ad e => ?_,fun ad e => ?_,fun o ho ad e => ?_⟩;(focus (first|(cases e;done)|(right;exact e.symm)|(left;cases e;dsimp only;simp only [szA,szS,szD,szN] at *;omega)|(left;cases e;dsimp only;omega)));(focus (first|(cases e;done)|(cases e;dsimp only;omega)|(cases e;dsimp only;simp only [szA,szS,szD,szN] at *;omega)));(focus (first|(cases ho;done)|(simp only [List.mem_singleton] at ho;subst ho;dsimp only at e;first|(cases e;done)|(cases e;dsimp only;omega))))),(fun _ => TyA.none _),(fun o ho => by first|(cases ho;done)|(simp only [List.mem_singleton] at ho;subst ho;exact TyA.none _)),(by unfold nextN nextB;(repeat (first|rw [if_pos (by omega)]|rw [if_neg (by omega)]));try rfl)⟩
 ·subst hk
  go_upto_region 11 with ((go_at_call 100;refine (rin_any _ _ _ _).mono ?_;rintro ee ww ⟨rfl,rfl⟩;(first|rw [inB_yes (by omega) (by omega)]|rw [inB_no (by omega)])))
  go_wp2_with (first
   | (go_at_call 77;refine (rto_any 0 _).mono ?_;rintro ee wt ⟨rfl,hbt⟩;have hbt':=Lib.hid hbt;clear hbt)
   | ((with_reducible refine wpList_store_scn 0 0 none 0 0 (w.heap.size + 1) (.tmp 4) (.tmp 46) rfl rfl ?_ ?_ ?_ ?_);(focus rfl);(focus rfl);(focus (exact Exists.elim HB1.out (fun old h => ⟨old,h.1.up hbt'.out,h.2⟩)));intro w3 hS3 hg3;have HS3:=Lib.hid hS3;have HG3:=Lib.hid hg3;clear hS3 hg3)
   | (go_at_call 100;refine (rin_any _ _ _ _).mono ?_;rintro ee ww ⟨rfl,rfl⟩;(first|rw [inB_yes (by omega) (by omega)]|rw [inB_no (by omega)]))
   | fail)
  refine bodyPost_ret (results_scn rfl _ _ (w.heap.size + 1) 0 0 none 0 0 (by rfl) HS3.out) rfl ?_
  exact ⟨0,0,none,0,0,[],none,0,0,[],rfl,ScnOk.to _ _ (by omega),OpsL.nil_ _,by omega,by omega,by omega,Bw.grown (Bw.trans hbw2 hbt'.out) HG3.out (fun k hk => by cases hk;omega),(by have hs3:=HG3.out.size;(try have hs5:=HG5.out.size);refine ⟨fun ad e => ?_,fun ad e => ?_,fun o ho ad e => ?_⟩;(focus (first|(cases e;done)|(right;exact e.symm)|(left;cases e;dsimp only;simp only [szA,szS,szD,szN] at *;omega)|(left;cases e;dsimp only;omega)));(focus (first|(cases e;done)|(cases e;dsimp only;omega)|(cases e;dsimp only;simp only [szA,szS,szD,szN] at *;omega)));(focus (first|(cases ho;done)|(simp only [List.mem_singleton] at ho;subst ho;dsimp only at e;first|(cases e;done)|(cases e;dsimp only;omega))))),(fun _ => TyA.none _),(fun o ho => by first|(cases ho;done)|(simp only [List.mem_singleton] at ho;subst ho;exact TyA.none _)),(by unfold nextN nextB;(repeat (first|rw [if_pos (by omega)]|rw [if_neg (by omega)]));try rfl)⟩
end Go.Proofs.YteebdjmjeahccaaGreatDoor
