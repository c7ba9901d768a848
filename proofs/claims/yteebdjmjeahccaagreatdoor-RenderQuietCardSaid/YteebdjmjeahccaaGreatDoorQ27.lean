/- Parts of the proof, one after the other. -/
import Derived.Test.YteebdjmjeahccaaGreatDoorQ26
set_option linter.unusedSimpArgs false
set_option linter.unusedVariables false
/- Scanners: the reference's Next: gctl, ghi, 0c1, 0p1, 0p2. -/
namespace Go.Proofs.YteebdjmjeahccaaGreatDoor
open Go.RowKit
set_option maxRecDepth 100000 in
set_option maxHeartbeats 4000000 in
theorem rnext_gctl (md code pv : Int) (A : Option Addr) (n c : Nat) (xs : List Int) (w : World) (h : ScnOk w md pv A n c xs) (hlo : 0 ≤ code) (hhi : code < 32) (h24 : (code == 24) = false) (h26 : (code == 26) = false) (h27 : (code == 27) = false) (h127 : (code == 127) = false) (hg5 : (md == 5) = false) (hg6 : (md == 6) = false) : Calls Tryz.prog 78 #[.agg #[.int .i64 md,.int .i64 pv,.slice A n c],.int .i64 code] w (Nxt w A):=by
 have Zhlo:=Lib.hid hlo
 clear hlo
 have Zhhi:=Lib.hid hhi
 clear hhi
 have Zh24:=Lib.hid h24
 clear h24
 have Zh26:=Lib.hid h26
 clear h26
 have Zh27:=Lib.hid h27
 clear h27
 have Zh127:=Lib.hid h127
 clear h127
 have Zhg5:=Lib.hid hg5
 clear hg5
 have Zhg6:=Lib.hid hg6
 clear hg6
 have HOk:=Lib.hid h
 have hx:=h.1
 have HXA:=Lib.hid (show 0 < n → ∀ ad,A = some ad → ad.block < w.heap.size from fun h0 ad e => by
  obtain ⟨g,o,e2,h⟩:=hx.2 h0
  have h1:=lt_of_cell (h 0 (by rw [hx.1];exact h0))
  rw [e] at e2
  cases e2
  exact h1)
 clear h hx
 go_enter Tryz.func78,Tryz.ntmps78
 go_upto_region 1 with (fail)
 generalize hw1 : (w.alloc (.cells #[.int .i64 md,.int .i64 pv,.slice A n c] 50)).alloc _ = w1
 obtain ⟨hb0,hb1,hbw,hz⟩:=sb2 hw1
 have HB0a:=Lib.hid hb0
 have HB1a:=Lib.hid (show ∃ old,Sb w1 (w.heap.size + 1) old 50 ∧ old.size = 3 from ⟨_,hb1,rfl⟩)
 have hz1 : w.heap.size + 1 < w1.heap.size:=by omega
 have hz0 : w.heap.size < w1.heap.size:=by omega
 have y0:=HB0a.out.cell 0 (v:=.int .i64 md) rfl
 have y1:=HB0a.out.cell 1 (v:=.int .i64 pv) rfl
 have y2:=HB0a.out.cell 2 (v:=.slice A n c) rfl
 clear hw1 hb0 hb1 hz
 go_upto_region 3 with (first
  | (go_at_call 70;refine (rvalid14_ok md pv A n c xs _ (HOk.out.up (show Bw w _ from BWX))).mono ?_;rintro ee wv ⟨rfl,hbv⟩;have z0:=(HB0a.out.up hbv).cell 0 (v:=.int .i64 md) rfl;have z1:=(HB0a.out.up hbv).cell 1 (v:=.int .i64 pv) rfl;have z2:=(HB0a.out.up hbv).cell 2 (v:=.slice A n c) rfl;have HBV:=Lib.hid hbv;clear hbv y0 y1 y2)
  | fail)
 have hbv:=HBV.out
 have HB0:=Lib.hid (HB0a.out.up hbv)
 have HB1:=Lib.hid (Exists.elim HB1a.out (fun old h => (⟨old,h.1.up hbv,h.2⟩ : ∃ old,Sb wv (w.heap.size + 1) old 50 ∧ old.size = 3)))
 have hbw2 : Bw w wv:=Bw.trans hbw hbv
 have hz2 : w.heap.size + 1 < wv.heap.size:=by have:=hbv.size;omega
 have hz02 : w.heap.size < wv.heap.size:=by omega
 have HOk1:=Lib.hid (HOk.out.up hbw2)
 clear HBV HB0a HB1a hz1 hz0 hbw hbv
 have hlo:=Zhlo.out
 have hhi:=Zhhi.out
 have h24:=Zh24.out
 have h26:=Zh26.out
 have h27:=Zh27.out
 have h127:=Zh127.out
 have hg5:=Zhg5.out
 have hg6:=Zhg6.out
 go_upto_region 19 with ((go_at_call 100;refine (rin_any _ _ _ _).mono ?_;rintro ee ww ⟨rfl,rfl⟩;(first|rw [inB_yes (by omega) (by omega)]|rw [inB_no (by omega)])))
 go_wp2_with (first
  | ((with_reducible refine wpList_store_scn md pv A n c (w.heap.size + 1) (.tmp 4) (.tmp 81) rfl rfl ?_ ?_ ?_ ?_);(focus rfl);(focus rfl);(focus (exact Exists.elim HB1.out (fun old h => ⟨old,h.1.up BWX,h.2⟩)));intro w3 hS3 hg3;have HS3:=Lib.hid hS3;have HG3:=Lib.hid hg3;clear hS3 hg3)
  | (go_at_call 100;refine (rin_any _ _ _ _).mono ?_;rintro ee ww ⟨rfl,rfl⟩;(first|rw [inB_yes (by omega) (by omega)]|rw [inB_no (by omega)]))
  | fail)
 refine bodyPost_ret (results_scn rfl _ _ (w.heap.size + 1) md pv A n c (by rfl) HS3.out) rfl ?_
 exact ⟨md,pv,A,n,c,xs,some ⟨_,0,none⟩,1,1,[⟨2,code,0,none,0,0,[]⟩],rfl,(HOk1.out.up (show Bw wv (wv.alloc (.cells #[.int .i64 2,.int .i64 code,.int .i64 0,.slice none 0 0] 109)) from BWX)).far0 HG3.out (fun h0 ad e => by have:=HXA.out h0 ad e;intro e2;have:=Option.some.inj e2;omega),OpsL.one ⟨2,code,0,none,0,0,[]⟩ ((show Sb (World.alloc wv (.cells #[.int .i64 2,.int .i64 code,.int .i64 0,.slice none 0 0] 109)) _ _ 109 from heap_at rfl).far HG3.out (by intro e;have:=Option.some.inj e;omega)) ⟨Rd.nil_ _ none,Nat.le_refl _,by show 0 ≤ 9223372036854775807;omega,by show 0 ≤ 1000;omega⟩,by omega,by omega,by omega,Bw.grown (show Bw w _ from BWX) HG3.out (fun k hk => by cases hk;omega),(by have hs3:=HG3.out.size;(try have hs5:=HG5.out.size);refine ⟨fun ad e => ?_,fun ad e => ?_,fun o ho ad e => ?_⟩;(focus (first|(cases e;done)|(right;exact e.symm)|(left;cases e;dsimp only;simp only [szA,szS,szD,szN] at *;omega)|(left;cases e;dsimp only;omega)));(focus (first|(cases e;done)|(cases e;dsimp only;omega)|(cases e;dsimp only;simp only [szA,szS,szD,szN] at *;omega)));(focus (first|(cases ho;done)|(simp only [List.mem_singleton] at ho;subst ho;dsimp only at e;first|(cases e;done)|(cases e;dsimp only;omega))))),fun hT => hT.up (show Bw w w3 from Bw.grown (show Bw w _ from BWX) HG3.out (fun k hk => by cases hk;omega)),fun o ho => by first|(cases ho;done)|(simp only [List.mem_singleton] at ho;subst ho;exact TyA.none _)⟩

set_option maxRecDepth 100000 in
set_option maxHeartbeats 4000000 in
theorem rnext_ghi (md code pv : Int) (A : Option Addr) (n c : Nat) (xs : List Int) (w : World) (h : ScnOk w md pv A n c xs) (hlo : 128 ≤ code) (h24 : (code == 24) = false) (h26 : (code == 26) = false) (h27 : (code == 27) = false) (h127 : (code == 127) = false) (hg5 : (md == 5) = false) (hg6 : (md == 6) = false) (hg0 : (md == 0) = false) : Calls Tryz.prog 78 #[.agg #[.int .i64 md,.int .i64 pv,.slice A n c],.int .i64 code] w (Nxt w A):=by
 have Zhlo:=Lib.hid hlo
 clear hlo
 have Zh24:=Lib.hid h24
 clear h24
 have Zh26:=Lib.hid h26
 clear h26
 have Zh27:=Lib.hid h27
 clear h27
 have Zh127:=Lib.hid h127
 clear h127
 have Zhg5:=Lib.hid hg5
 clear hg5
 have Zhg6:=Lib.hid hg6
 clear hg6
 have Zhg0:=Lib.hid hg0
 clear hg0
 have HOk:=Lib.hid h
 have hx:=h.1
 have HXA:=Lib.hid (show 0 < n → ∀ ad,A = some ad → ad.block < w.heap.size from fun h0 ad e => by
  obtain ⟨g,o,e2,h⟩:=hx.2 h0
  have h1:=lt_of_cell (h 0 (by rw [hx.1];exact h0))
  rw [e] at e2
  cases e2
  exact h1)
 clear h hx
 go_enter Tryz.func78,Tryz.ntmps78
 go_upto_region 1 with (fail)
 generalize hw1 : (w.alloc (.cells #[.int .i64 md,.int .i64 pv,.slice A n c] 50)).alloc _ = w1
 obtain ⟨hb0,hb1,hbw,hz⟩:=sb2 hw1
 have HB0a:=Lib.hid hb0
 have HB1a:=Lib.hid (show ∃ old,Sb w1 (w.heap.size + 1) old 50 ∧ old.size = 3 from ⟨_,hb1,rfl⟩)
 have hz1 : w.heap.size + 1 < w1.heap.size:=by omega
 have hz0 : w.heap.size < w1.heap.size:=by omega
 have y0:=HB0a.out.cell 0 (v:=.int .i64 md) rfl
 have y1:=HB0a.out.cell 1 (v:=.int .i64 pv) rfl
 have y2:=HB0a.out.cell 2 (v:=.slice A n c) rfl
 clear hw1 hb0 hb1 hz
 go_upto_region 3 with (first
  | (go_at_call 70;refine (rvalid14_ok md pv A n c xs _ (HOk.out.up (show Bw w _ from BWX))).mono ?_;rintro ee wv ⟨rfl,hbv⟩;have z0:=(HB0a.out.up hbv).cell 0 (v:=.int .i64 md) rfl;have z1:=(HB0a.out.up hbv).cell 1 (v:=.int .i64 pv) rfl;have z2:=(HB0a.out.up hbv).cell 2 (v:=.slice A n c) rfl;have HBV:=Lib.hid hbv;clear hbv y0 y1 y2)
  | fail)
 have hbv:=HBV.out
 have HB0:=Lib.hid (HB0a.out.up hbv)
 have HB1:=Lib.hid (Exists.elim HB1a.out (fun old h => (⟨old,h.1.up hbv,h.2⟩ : ∃ old,Sb wv (w.heap.size + 1) old 50 ∧ old.size = 3)))
 have hbw2 : Bw w wv:=Bw.trans hbw hbv
 have hz2 : w.heap.size + 1 < wv.heap.size:=by have:=hbv.size;omega
 have hz02 : w.heap.size < wv.heap.size:=by omega
 have HOk1:=Lib.hid (HOk.out.up hbw2)
 clear HBV HB0a HB1a hz1 hz0 hbw hbv
 have hlo:=Zhlo.out
 have h24:=Zh24.out
 have h26:=Zh26.out
 have h27:=Zh27.out
 have h127:=Zh127.out
 have hg5:=Zhg5.out
 have hg6:=Zhg6.out
 have hg0:=Zhg0.out
 go_upto_region 25 with ((go_at_call 100;refine (rin_any _ _ _ _).mono ?_;rintro ee ww ⟨rfl,rfl⟩;(first|rw [inB_yes (by omega) (by omega)]|rw [inB_no (by omega)])))
 go_wp2_with (first
  | (go_at_call 77;refine (rto_any 0 _).mono ?_;rintro ee wt ⟨rfl,hbt⟩;have hbt':=Lib.hid hbt;clear hbt)
  | ((with_reducible refine wpList_store_scn 0 0 none 0 0 (w.heap.size + 1) (.tmp 4) (.tmp 105) rfl rfl ?_ ?_ ?_ ?_);(focus rfl);(focus rfl);(focus (exact Exists.elim HB1.out (fun old h => ⟨old,h.1.up hbt'.out,h.2⟩)));intro w3 hS3 hg3;have HS3:=Lib.hid hS3;have HG3:=Lib.hid hg3;clear hS3 hg3)
  | (go_at_call 100;refine (rin_any _ _ _ _).mono ?_;rintro ee ww ⟨rfl,rfl⟩;(first|rw [inB_yes (by omega) (by omega)]|rw [inB_no (by omega)]))
  | fail)
 refine bodyPost_ret (results_scn rfl _ _ (w.heap.size + 1) 0 0 none 0 0 (by rfl) HS3.out) rfl ?_
 exact ⟨0,0,none,0,0,[],none,0,0,[],rfl,ScnOk.to _ _ (by omega),OpsL.nil_ _,by omega,by omega,by omega,Bw.grown (Bw.trans hbw2 hbt'.out) HG3.out (fun k hk => by cases hk;omega),(by have hs3:=HG3.out.size;(try have hs5:=HG5.out.size);refine ⟨fun ad e => ?_,fun ad e => ?_,fun o ho ad e => ?_⟩;(focus (first|(cases e;done)|(right;exact e.symm)|(left;cases e;dsimp only;simp only [szA,szS,szD,szN] at *;omega)|(left;cases e;dsimp only;omega)));(focus (first|(cases e;done)|(cases e;dsimp only;omega)|(cases e;dsimp only;simp only [szA,szS,szD,szN] at *;omega)));(focus (first|(cases ho;done)|(simp only [List.mem_singleton] at ho;subst ho;dsimp only at e;first|(cases e;done)|(cases e;dsimp only;omega))))),fun _ => TyA.none _,fun o ho => by first|(cases ho;done)|(simp only [List.mem_singleton] at ho;subst ho;exact TyA.none _)⟩

set_option maxRecDepth 100000 in
set_option maxHeartbeats 4000000 in
theorem rnext_0c1 (code pv : Int) (A : Option Addr) (n c : Nat) (xs : List Int) (w : World) (h : ScnOk w 0 pv A n c xs) (hlo : 128 ≤ code) (hhi : code ≤ 159) (h24 : (code == 24) = false) (h26 : (code == 26) = false) (h27 : (code == 27) = false) (h127 : (code == 127) = false) : Calls Tryz.prog 78 #[.agg #[.int .i64 0,.int .i64 pv,.slice A n c],.int .i64 code] w (Nxt w A):=by
 have Zhlo:=Lib.hid hlo
 clear hlo
 have Zhhi:=Lib.hid hhi
 clear hhi
 have Zh24:=Lib.hid h24
 clear h24
 have Zh26:=Lib.hid h26
 clear h26
 have Zh27:=Lib.hid h27
 clear h27
 have Zh127:=Lib.hid h127
 clear h127
 have HOk:=Lib.hid h
 have hx:=h.1
 have HXA:=Lib.hid (show 0 < n → ∀ ad,A = some ad → ad.block < w.heap.size from fun h0 ad e => by
  obtain ⟨g,o,e2,h⟩:=hx.2 h0
  have h1:=lt_of_cell (h 0 (by rw [hx.1];exact h0))
  rw [e] at e2
  cases e2
  exact h1)
 clear h hx
 go_enter Tryz.func78,Tryz.ntmps78
 go_upto_region 1 with (fail)
 generalize hw1 : (w.alloc (.cells #[.int .i64 0,.int .i64 pv,.slice A n c] 50)).alloc _ = w1
 obtain ⟨hb0,hb1,hbw,hz⟩:=sb2 hw1
 have HB0a:=Lib.hid hb0
 have HB1a:=Lib.hid (show ∃ old,Sb w1 (w.heap.size + 1) old 50 ∧ old.size = 3 from ⟨_,hb1,rfl⟩)
 have hz1 : w.heap.size + 1 < w1.heap.size:=by omega
 have hz0 : w.heap.size < w1.heap.size:=by omega
 have y0:=HB0a.out.cell 0 (v:=.int .i64 0) rfl
 have y1:=HB0a.out.cell 1 (v:=.int .i64 pv) rfl
 have y2:=HB0a.out.cell 2 (v:=.slice A n c) rfl
 clear hw1 hb0 hb1 hz
 go_upto_region 3 with (first
  | (go_at_call 70;refine (rvalid14_ok 0 pv A n c xs _ (HOk.out.up (show Bw w _ from BWX))).mono ?_;rintro ee wv ⟨rfl,hbv⟩;have z0:=(HB0a.out.up hbv).cell 0 (v:=.int .i64 0) rfl;have z1:=(HB0a.out.up hbv).cell 1 (v:=.int .i64 pv) rfl;have z2:=(HB0a.out.up hbv).cell 2 (v:=.slice A n c) rfl;have HBV:=Lib.hid hbv;clear hbv y0 y1 y2)
  | fail)
 have hbv:=HBV.out
 have HB0:=Lib.hid (HB0a.out.up hbv)
 have HB1:=Lib.hid (Exists.elim HB1a.out (fun old h => (⟨old,h.1.up hbv,h.2⟩ : ∃ old,Sb wv (w.heap.size + 1) old 50 ∧ old.size = 3)))
 have hbw2 : Bw w wv:=Bw.trans hbw hbv
 have hz2 : w.heap.size + 1 < wv.heap.size:=by have:=hbv.size;omega
 have hz02 : w.heap.size < wv.heap.size:=by omega
 have HOk1:=Lib.hid (HOk.out.up hbw2)
 clear HBV HB0a HB1a hz1 hz0 hbw hbv
 have hlo:=Zhlo.out
 have hhi:=Zhhi.out
 have h24:=Zh24.out
 have h26:=Zh26.out
 have h27:=Zh27.out
 have h127:=Zh127.out
 go_upto_region 21 with ((go_at_call 100;refine (rin_any _ _ _ _).mono ?_;rintro ee ww ⟨rfl,rfl⟩;(first|rw [inB_yes (by omega) (by omega)]|rw [inB_no (by omega)])))
 go_wp2_with (first
  | ((with_reducible refine wpList_store_scn 0 pv A n c (w.heap.size + 1) (.tmp 4) (.tmp 93) rfl rfl ?_ ?_ ?_ ?_);(focus rfl);(focus rfl);(focus (exact HB1.out));intro w3 hS3 hg3;have HS3:=Lib.hid hS3;have HG3:=Lib.hid hg3;clear hS3 hg3)
  | (go_at_call 100;refine (rin_any _ _ _ _).mono ?_;rintro ee ww ⟨rfl,rfl⟩;(first|rw [inB_yes (by omega) (by omega)]|rw [inB_no (by omega)]))
  | fail)
 refine bodyPost_ret (results_scn rfl _ _ (w.heap.size + 1) 0 pv A n c (by rfl) HS3.out) rfl ?_
 exact ⟨0,pv,A,n,c,xs,none,0,0,[],rfl,HOk1.out.far0 HG3.out (fun h0 ad e => by have:=HXA.out h0 ad e;intro e2;have:=Option.some.inj e2;omega),OpsL.nil_ _,by omega,by omega,by omega,Bw.grown (hbw2) HG3.out (fun k hk => by cases hk;omega),(by have hs3:=HG3.out.size;(try have hs5:=HG5.out.size);refine ⟨fun ad e => ?_,fun ad e => ?_,fun o ho ad e => ?_⟩;(focus (first|(cases e;done)|(right;exact e.symm)|(left;cases e;dsimp only;simp only [szA,szS,szD,szN] at *;omega)|(left;cases e;dsimp only;omega)));(focus (first|(cases e;done)|(cases e;dsimp only;omega)|(cases e;dsimp only;simp only [szA,szS,szD,szN] at *;omega)));(focus (first|(cases ho;done)|(simp only [List.mem_singleton] at ho;subst ho;dsimp only at e;first|(cases e;done)|(cases e;dsimp only;omega))))),fun hT => hT.up (show Bw w w3 from Bw.grown (show Bw w _ from BWX) HG3.out (fun k hk => by cases hk;omega)),fun o ho => by first|(cases ho;done)|(simp only [List.mem_singleton] at ho;subst ho;exact TyA.none _)⟩

set_option maxRecDepth 100000 in
set_option maxHeartbeats 4000000 in
theorem rnext_0p1 (code pv : Int) (A : Option Addr) (n c : Nat) (xs : List Int) (w : World) (h : ScnOk w 0 pv A n c xs) (hlo : 32 ≤ code) (hhi : code ≤ 126) (h24 : (code == 24) = false) (h26 : (code == 26) = false) (h27 : (code == 27) = false) (h127 : (code == 127) = false) : Calls Tryz.prog 78 #[.agg #[.int .i64 0,.int .i64 pv,.slice A n c],.int .i64 code] w (Nxt w A):=by
 have Zhlo:=Lib.hid hlo
 clear hlo
 have Zhhi:=Lib.hid hhi
 clear hhi
 have Zh24:=Lib.hid h24
 clear h24
 have Zh26:=Lib.hid h26
 clear h26
 have Zh27:=Lib.hid h27
 clear h27
 have Zh127:=Lib.hid h127
 clear h127
 have HOk:=Lib.hid h
 have hx:=h.1
 have HXA:=Lib.hid (show 0 < n → ∀ ad,A = some ad → ad.block < w.heap.size from fun h0 ad e => by
  obtain ⟨g,o,e2,h⟩:=hx.2 h0
  have h1:=lt_of_cell (h 0 (by rw [hx.1];exact h0))
  rw [e] at e2
  cases e2
  exact h1)
 clear h hx
 go_enter Tryz.func78,Tryz.ntmps78
 go_upto_region 1 with (fail)
 generalize hw1 : (w.alloc (.cells #[.int .i64 0,.int .i64 pv,.slice A n c] 50)).alloc _ = w1
 obtain ⟨hb0,hb1,hbw,hz⟩:=sb2 hw1
 have HB0a:=Lib.hid hb0
 have HB1a:=Lib.hid (show ∃ old,Sb w1 (w.heap.size + 1) old 50 ∧ old.size = 3 from ⟨_,hb1,rfl⟩)
 have hz1 : w.heap.size + 1 < w1.heap.size:=by omega
 have hz0 : w.heap.size < w1.heap.size:=by omega
 have y0:=HB0a.out.cell 0 (v:=.int .i64 0) rfl
 have y1:=HB0a.out.cell 1 (v:=.int .i64 pv) rfl
 have y2:=HB0a.out.cell 2 (v:=.slice A n c) rfl
 clear hw1 hb0 hb1 hz
 go_upto_region 3 with (first
  | (go_at_call 70;refine (rvalid14_ok 0 pv A n c xs _ (HOk.out.up (show Bw w _ from BWX))).mono ?_;rintro ee wv ⟨rfl,hbv⟩;have z0:=(HB0a.out.up hbv).cell 0 (v:=.int .i64 0) rfl;have z1:=(HB0a.out.up hbv).cell 1 (v:=.int .i64 pv) rfl;have z2:=(HB0a.out.up hbv).cell 2 (v:=.slice A n c) rfl;have HBV:=Lib.hid hbv;clear hbv y0 y1 y2)
  | fail)
 have hbv:=HBV.out
 have HB0:=Lib.hid (HB0a.out.up hbv)
 have HB1:=Lib.hid (Exists.elim HB1a.out (fun old h => (⟨old,h.1.up hbv,h.2⟩ : ∃ old,Sb wv (w.heap.size + 1) old 50 ∧ old.size = 3)))
 have hbw2 : Bw w wv:=Bw.trans hbw hbv
 have hz2 : w.heap.size + 1 < wv.heap.size:=by have:=hbv.size;omega
 have hz02 : w.heap.size < wv.heap.size:=by omega
 have HOk1:=Lib.hid (HOk.out.up hbw2)
 clear HBV HB0a HB1a hz1 hz0 hbw hbv
 have hlo:=Zhlo.out
 have hhi:=Zhhi.out
 have h24:=Zh24.out
 have h26:=Zh26.out
 have h27:=Zh27.out
 have h127:=Zh127.out
 go_upto_region 23 with ((go_at_call 100;refine (rin_any _ _ _ _).mono ?_;rintro ee ww ⟨rfl,rfl⟩;(first|rw [inB_yes (by omega) (by omega)]|rw [inB_no (by omega)])))
 go_wp2_with (first
  | ((with_reducible refine wpList_store_scn 0 pv A n c (w.heap.size + 1) (.tmp 4) (.tmp 98) rfl rfl ?_ ?_ ?_ ?_);(focus rfl);(focus rfl);(focus (exact Exists.elim HB1.out (fun old h => ⟨old,h.1.up BWX,h.2⟩)));intro w3 hS3 hg3;have HS3:=Lib.hid hS3;have HG3:=Lib.hid hg3;clear hS3 hg3)
  | (go_at_call 100;refine (rin_any _ _ _ _).mono ?_;rintro ee ww ⟨rfl,rfl⟩;(first|rw [inB_yes (by omega) (by omega)]|rw [inB_no (by omega)]))
  | fail)
 refine bodyPost_ret (results_scn rfl _ _ (w.heap.size + 1) 0 pv A n c (by rfl) HS3.out) rfl ?_
 exact ⟨0,pv,A,n,c,xs,some ⟨_,0,none⟩,1,1,[⟨1,code,0,none,0,0,[]⟩],rfl,(HOk1.out.up (show Bw wv (wv.alloc (.cells #[.int .i64 1,.int .i64 code,.int .i64 0,.slice none 0 0] 109)) from BWX)).far0 HG3.out (fun h0 ad e => by have:=HXA.out h0 ad e;intro e2;have:=Option.some.inj e2;omega),OpsL.one ⟨1,code,0,none,0,0,[]⟩ ((show Sb (World.alloc wv (.cells #[.int .i64 1,.int .i64 code,.int .i64 0,.slice none 0 0] 109)) _ _ 109 from heap_at rfl).far HG3.out (by intro e;have:=Option.some.inj e;omega)) ⟨Rd.nil_ _ none,Nat.le_refl _,by show 0 ≤ 9223372036854775807;omega,by show 0 ≤ 1000;omega⟩,by omega,by omega,by omega,Bw.grown (show Bw w _ from BWX) HG3.out (fun k hk => by cases hk;omega),(by have hs3:=HG3.out.size;(try have hs5:=HG5.out.size);refine ⟨fun ad e => ?_,fun ad e => ?_,fun o ho ad e => ?_⟩;(focus (first|(cases e;done)|(right;exact e.symm)|(left;cases e;dsimp only;simp only [szA,szS,szD,szN] at *;omega)|(left;cases e;dsimp only;omega)));(focus (first|(cases e;done)|(cases e;dsimp only;omega)|(cases e;dsimp only;simp only [szA,szS,szD,szN] at *;omega)));(focus (first|(cases ho;done)|(simp only [List.mem_singleton] at ho;subst ho;dsimp only at e;first|(cases e;done)|(cases e;dsimp only;omega))))),fun hT => hT.up (show Bw w w3 from Bw.grown (show Bw w _ from BWX) HG3.out (fun k hk => by cases hk;omega)),fun o ho => by first|(cases ho;done)|(simp only [List.mem_singleton] at ho;subst ho;exact TyA.none _)⟩

set_option maxRecDepth 100000 in
set_option maxHeartbeats 4000000 in
theorem rnext_0p2 (code pv : Int) (A : Option Addr) (n c : Nat) (xs : List Int) (w : World) (h : ScnOk w 0 pv A n c xs) (hlo : 160 ≤ code) (h24 : (code == 24) = false) (h26 : (code == 26) = false) (h27 : (code == 27) = false) (h127 : (code == 127) = false) : Calls Tryz.prog 78 #[.agg #[.int .i64 0,.int .i64 pv,.slice A n c],.int .i64 code] w (Nxt w A):=by
 have Zhlo:=Lib.hid hlo
 clear hlo
 have Zh24:=Lib.hid h24
 clear h24
 have Zh26:=Lib.hid h26
 clear h26
 have Zh27:=Lib.hid h27
 clear h27
 have Zh127:=Lib.hid h127
 clear h127
 have HOk:=Lib.hid h
 have hx:=h.1
 have HXA:=Lib.hid (show 0 < n → ∀ ad,A = some ad → ad.block < w.heap.size from fun h0 ad e => by
  obtain ⟨g,o,e2,h⟩:=hx.2 h0
  have h1:=lt_of_cell (h 0 (by rw [hx.1];exact h0))
  rw [e] at e2
  cases e2
  exact h1)
 clear h hx
 go_enter Tryz.func78,Tryz.ntmps78
 go_upto_region 1 with (fail)
 generalize hw1 : (w.alloc (.cells #[.int .i64 0,.int .i64 pv,.slice A n c] 50)).alloc _ = w1
 obtain ⟨hb0,hb1,hbw,hz⟩:=sb2 hw1
 have HB0a:=Lib.hid hb0
 have HB1a:=Lib.hid (show ∃ old,Sb w1 (w.heap.size + 1) old 50 ∧ old.size = 3 from ⟨_,hb1,rfl⟩)
 have hz1 : w.heap.size + 1 < w1.heap.size:=by omega
 have hz0 : w.heap.size < w1.heap.size:=by omega
 have y0:=HB0a.out.cell 0 (v:=.int .i64 0) rfl
 have y1:=HB0a.out.cell 1 (v:=.int .i64 pv) rfl
 have y2:=HB0a.out.cell 2 (v:=.slice A n c) rfl
 clear hw1 hb0 hb1 hz
 go_upto_region 3 with (first
  | (go_at_call 70;refine (rvalid14_ok 0 pv A n c xs _ (HOk.out.up (show Bw w _ from BWX))).mono ?_;rintro ee wv ⟨rfl,hbv⟩;have z0:=(HB0a.out.up hbv).cell 0 (v:=.int .i64 0) rfl;have z1:=(HB0a.out.up hbv).cell 1 (v:=.int .i64 pv) rfl;have z2:=(HB0a.out.up hbv).cell 2 (v:=.slice A n c) rfl;have HBV:=Lib.hid hbv;clear hbv y0 y1 y2)
  | fail)
 have hbv:=HBV.out
 have HB0:=Lib.hid (HB0a.out.up hbv)
 have HB1:=Lib.hid (Exists.elim HB1a.out (fun old h => (⟨old,h.1.up hbv,h.2⟩ : ∃ old,Sb wv (w.heap.size + 1) old 50 ∧ old.size = 3)))
 have hbw2 : Bw w wv:=Bw.trans hbw hbv
 have hz2 : w.heap.size + 1 < wv.heap.size:=by have:=hbv.size;omega
 have hz02 : w.heap.size < wv.heap.size:=by omega
 have HOk1:=Lib.hid (HOk.out.up hbw2)
 clear HBV HB0a HB1a hz1 hz0 hbw hbv
 have hlo:=Zhlo.out
 have h24:=Zh24.out
 have h26:=Zh26.out
 have h27:=Zh27.out
 have h127:=Zh127.out
 go_upto_region 23 with ((go_at_call 100;refine (rin_any _ _ _ _).mono ?_;rintro ee ww ⟨rfl,rfl⟩;(first|rw [inB_yes (by omega) (by omega)]|rw [inB_no (by omega)])))
 go_wp2_with (first
  | ((with_reducible refine wpList_store_scn 0 pv A n c (w.heap.size + 1) (.tmp 4) (.tmp 98) rfl rfl ?_ ?_ ?_ ?_);(focus rfl);(focus rfl);(focus (exact Exists.elim HB1.out (fun old h => ⟨old,h.1.up BWX,h.2⟩)));intro w3 hS3 hg3;have HS3:=Lib.hid hS3;have HG3:=Lib.hid hg3;clear hS3 hg3)
  | (go_at_call 100;refine (rin_any _ _ _ _).mono ?_;rintro ee ww ⟨rfl,rfl⟩;(first|rw [inB_yes (by omega) (by omega)]|rw [inB_no (by omega)]))
  | fail)
 refine bodyPost_ret (results_scn rfl _ _ (w.heap.size + 1) 0 pv A n c (by rfl) HS3.out) rfl ?_
 exact ⟨0,pv,A,n,c,xs,some ⟨_,0,none⟩,1,1,[⟨1,code,0,none,0,0,[]⟩],rfl,(HOk1.out.up (show Bw wv (wv.alloc (.cells #[.int .i64 1,.int .i64 code,.int .i64 0,.slice none 0 0] 109)) from BWX)).far0 HG3.out (fun h0 ad e => by have:=HXA.out h0 ad e;intro e2;have:=Option.some.inj e2;omega),OpsL.one ⟨1,code,0,none,0,0,[]⟩ ((show Sb (World.alloc wv (.cells #[.int .i64 1,.int .i64 code,.int .i64 0,.slice none 0 0] 109)) _ _ 109 from heap_at rfl).far HG3.out (by intro e;have:=Option.some.inj e;omega)) ⟨Rd.nil_ _ none,Nat.le_refl _,by show 0 ≤ 9223372036854775807;omega,by show 0 ≤ 1000;omega⟩,by omega,by omega,by omega,Bw.grown (show Bw w _ from BWX) HG3.out (fun k hk => by cases hk;omega),(by have hs3:=HG3.out.size;(try have hs5:=HG5.out.size);refine ⟨fun ad e => ?_,fun ad e => ?_,fun o ho ad e => ?_⟩;(focus (first|(cases e;done)|(right;exact e.symm)|(left;cases e;dsimp only;simp only [szA,szS,szD,szN] at *;omega)|(left;cases e;dsimp only;omega)));(focus (first|(cases e;done)|(cases e;dsimp only;omega)|(cases e;dsimp only;simp only [szA,szS,szD,szN] at *;omega)));(focus (first|(cases ho;done)|(simp only [List.mem_singleton] at ho;subst ho;dsimp only at e;first|(cases e;done)|(cases e;dsimp only;omega))))),fun hT => hT.up (show Bw w w3 from Bw.grown (show Bw w _ from BWX) HG3.out (fun k hk => by cases hk;omega)),fun o ho => by first|(cases ho;done)|(simp only [List.mem_singleton] at ho;subst ho;exact TyA.none _)⟩
set_option maxRecDepth 100000 in
set_option maxHeartbeats 4000000 in
theorem rnext_1x91 (code pv : Int) (A : Option Addr) (n c : Nat) (xs : List Int) (w : World) (h : ScnOk w 1 pv A n c xs) (hk : code = 91) : Calls Tryz.prog 78 #[.agg #[.int .i64 1,.int .i64 pv,.slice A n c],.int .i64 code] w (Nxt w A):=by
 have Zhk:=Lib.hid hk
 clear hk
 have HOk:=Lib.hid h
 have hx:=h.1
 have HXA:=Lib.hid (show 0 < n → ∀ ad,A = some ad → ad.block < w.heap.size from fun h0 ad e => by
  obtain ⟨g,o,e2,h⟩:=hx.2 h0
  have h1:=lt_of_cell (h 0 (by rw [hx.1];exact h0))
  rw [e] at e2
  cases e2
  exact h1)
 clear h hx
 go_enter Tryz.func78,Tryz.ntmps78
 go_upto_region 1 with (fail)
 generalize hw1 : (w.alloc (.cells #[.int .i64 1,.int .i64 pv,.slice A n c] 50)).alloc _ = w1
 obtain ⟨hb0,hb1,hbw,hz⟩:=sb2 hw1
 have HB0a:=Lib.hid hb0
 have HB1a:=Lib.hid (show ∃ old,Sb w1 (w.heap.size + 1) old 50 ∧ old.size = 3 from ⟨_,hb1,rfl⟩)
 have hz1 : w.heap.size + 1 < w1.heap.size:=by omega
 have hz0 : w.heap.size < w1.heap.size:=by omega
 have y0:=HB0a.out.cell 0 (v:=.int .i64 1) rfl
 have y1:=HB0a.out.cell 1 (v:=.int .i64 pv) rfl
 have y2:=HB0a.out.cell 2 (v:=.slice A n c) rfl
 clear hw1 hb0 hb1 hz
 go_upto_region 3 with (first
  | (go_at_call 70;refine (rvalid14_ok 1 pv A n c xs _ (HOk.out.up (show Bw w _ from BWX))).mono ?_;rintro ee wv ⟨rfl,hbv⟩;have z0:=(HB0a.out.up hbv).cell 0 (v:=.int .i64 1) rfl;have z1:=(HB0a.out.up hbv).cell 1 (v:=.int .i64 pv) rfl;have z2:=(HB0a.out.up hbv).cell 2 (v:=.slice A n c) rfl;have HBV:=Lib.hid hbv;clear hbv y0 y1 y2)
  | fail)
 have hbv:=HBV.out
 have HB0:=Lib.hid (HB0a.out.up hbv)
 have HB1:=Lib.hid (Exists.elim HB1a.out (fun old h => (⟨old,h.1.up hbv,h.2⟩ : ∃ old,Sb wv (w.heap.size + 1) old 50 ∧ old.size = 3)))
 have hbw2 : Bw w wv:=Bw.trans hbw hbv
 have hz2 : w.heap.size + 1 < wv.heap.size:=by have:=hbv.size;omega
 have hz02 : w.heap.size < wv.heap.size:=by omega
 have HOk1:=Lib.hid (HOk.out.up hbw2)
 clear HBV HB0a HB1a hz1 hz0 hbw hbv
 have hk:=Zhk.out
 subst hk
 go_upto_region 31 with ((go_at_call 100;refine (rin_any _ _ _ _).mono ?_;rintro ee ww ⟨rfl,rfl⟩;(first|rw [inB_yes (by omega) (by omega)]|rw [inB_no (by omega)])))
 go_wp2_with (first
  | ((with_reducible refine wpList_store_scn 3 0 (some ⟨wv.heap.size,0,none⟩) 1 1 (w.heap.size + 1) (.tmp 4) (.tmp 121) rfl rfl ?_ ?_ ?_ ?_);(focus rfl);(focus rfl);(focus (exact Exists.elim HB1.out (fun old h => ⟨old,h.1.up BWX,h.2⟩)));intro w3 hS3 hg3;have HS3:=Lib.hid hS3;have HG3:=Lib.hid hg3;clear hS3 hg3)
  | (go_at_call 100;refine (rin_any _ _ _ _).mono ?_;rintro ee ww ⟨rfl,rfl⟩;(first|rw [inB_yes (by omega) (by omega)]|rw [inB_no (by omega)]))
  | fail)
 refine bodyPost_ret (results_scn rfl _ _ (w.heap.size + 1) 3 0 (some ⟨wv.heap.size,0,none⟩) 1 1 (by rfl) HS3.out) rfl ?_
 have hR : Rd (.int .i64) (wv.alloc (.cells #[.int .i64 0] 3)) (some ⟨wv.heap.size,0,none⟩) 1 [(0 : Int)]:=Rd.lit wv 3 #[.int .i64 0] [0] 1 rfl rfl
 exact ⟨3,0,some ⟨wv.heap.size,0,none⟩,1,1,[0],none,0,0,[],rfl,⟨hR.far HG3.out (fun ad e => by cases e;intro e2;have:=Option.some.inj e2;(try dsimp only at this);omega),by omega,by omega,.inr ⟨rfl,by omega,by omega,.inl rfl,fun x hx => by simp only [List.mem_singleton] at hx;subst hx;omega⟩⟩,OpsL.nil_ _,by omega,by omega,by omega,Bw.grown (show Bw w _ from BWX) HG3.out (fun k hk => by cases hk;omega),(by have hs3:=HG3.out.size;(try have hs5:=HG5.out.size);refine ⟨fun ad e => ?_,fun ad e => ?_,fun o ho ad e => ?_⟩;(focus (first|(cases e;done)|(right;exact e.symm)|(left;cases e;dsimp only;simp only [szA,szS,szD,szN] at *;omega)|(left;cases e;dsimp only;omega)));(focus (first|(cases e;done)|(cases e;dsimp only;omega)|(cases e;dsimp only;simp only [szA,szS,szD,szN] at *;omega)));(focus (first|(cases ho;done)|(simp only [List.mem_singleton] at ho;subst ho;dsimp only at e;first|(cases e;done)|(cases e;dsimp only;omega))))),fun _ => (TyA.sb (show Sb (wv.alloc (.cells #[.int .i64 0] 3)) wv.heap.size _ 3 from heap_at rfl)).far HG3.out (fun ad e => by cases e;intro e2;have:=Option.some.inj e2;(try dsimp only at this);omega),fun o ho => by cases ho⟩

set_option maxRecDepth 100000 in
set_option maxHeartbeats 4000000 in
theorem rnext_1x80 (code pv : Int) (A : Option Addr) (n c : Nat) (xs : List Int) (w : World) (h : ScnOk w 1 pv A n c xs) (hk : code = 80) : Calls Tryz.prog 78 #[.agg #[.int .i64 1,.int .i64 pv,.slice A n c],.int .i64 code] w (Nxt w A):=by
 have Zhk:=Lib.hid hk
 clear hk
 have HOk:=Lib.hid h
 have hx:=h.1
 have HXA:=Lib.hid (show 0 < n → ∀ ad,A = some ad → ad.block < w.heap.size from fun h0 ad e => by
  obtain ⟨g,o,e2,h⟩:=hx.2 h0
  have h1:=lt_of_cell (h 0 (by rw [hx.1];exact h0))
  rw [e] at e2
  cases e2
  exact h1)
 clear h hx
 go_enter Tryz.func78,Tryz.ntmps78
 go_upto_region 1 with (fail)
 generalize hw1 : (w.alloc (.cells #[.int .i64 1,.int .i64 pv,.slice A n c] 50)).alloc _ = w1
 obtain ⟨hb0,hb1,hbw,hz⟩:=sb2 hw1
 have HB0a:=Lib.hid hb0
 have HB1a:=Lib.hid (show ∃ old,Sb w1 (w.heap.size + 1) old 50 ∧ old.size = 3 from ⟨_,hb1,rfl⟩)
 have hz1 : w.heap.size + 1 < w1.heap.size:=by omega
 have hz0 : w.heap.size < w1.heap.size:=by omega
 have y0:=HB0a.out.cell 0 (v:=.int .i64 1) rfl
 have y1:=HB0a.out.cell 1 (v:=.int .i64 pv) rfl
 have y2:=HB0a.out.cell 2 (v:=.slice A n c) rfl
 clear hw1 hb0 hb1 hz
 go_upto_region 3 with (first
  | (go_at_call 70;refine (rvalid14_ok 1 pv A n c xs _ (HOk.out.up (show Bw w _ from BWX))).mono ?_;rintro ee wv ⟨rfl,hbv⟩;have z0:=(HB0a.out.up hbv).cell 0 (v:=.int .i64 1) rfl;have z1:=(HB0a.out.up hbv).cell 1 (v:=.int .i64 pv) rfl;have z2:=(HB0a.out.up hbv).cell 2 (v:=.slice A n c) rfl;have HBV:=Lib.hid hbv;clear hbv y0 y1 y2)
  | fail)
 have hbv:=HBV.out
 have HB0:=Lib.hid (HB0a.out.up hbv)
 have HB1:=Lib.hid (Exists.elim HB1a.out (fun old h => (⟨old,h.1.up hbv,h.2⟩ : ∃ old,Sb wv (w.heap.size + 1) old 50 ∧ old.size = 3)))
 have hbw2 : Bw w wv:=Bw.trans hbw hbv
 have hz2 : w.heap.size + 1 < wv.heap.size:=by have:=hbv.size;omega
 have hz02 : w.heap.size < wv.heap.size:=by omega
 have HOk1:=Lib.hid (HOk.out.up hbw2)
 clear HBV HB0a HB1a hz1 hz0 hbw hbv
 have hk:=Zhk.out
 subst hk
 go_upto_region 33 with ((go_at_call 100;refine (rin_any _ _ _ _).mono ?_;rintro ee ww ⟨rfl,rfl⟩;(first|rw [inB_yes (by omega) (by omega)]|rw [inB_no (by omega)])))
 go_wp2_with (first
  | (go_at_call 77;refine (rto_any 5 _).mono ?_;rintro ee wt ⟨rfl,hbt⟩;have hbt':=Lib.hid hbt;clear hbt)
  | ((with_reducible refine wpList_store_scn 5 0 none 0 0 (w.heap.size + 1) (.tmp 4) (.tmp 133) rfl rfl ?_ ?_ ?_ ?_);(focus rfl);(focus rfl);(focus (exact Exists.elim HB1.out (fun old h => ⟨old,h.1.up hbt'.out,h.2⟩)));intro w3 hS3 hg3;have HS3:=Lib.hid hS3;have HG3:=Lib.hid hg3;clear hS3 hg3)
  | (go_at_call 100;refine (rin_any _ _ _ _).mono ?_;rintro ee ww ⟨rfl,rfl⟩;(first|rw [inB_yes (by omega) (by omega)]|rw [inB_no (by omega)]))
  | fail)
 refine bodyPost_ret (results_scn rfl _ _ (w.heap.size + 1) 5 0 none 0 0 (by rfl) HS3.out) rfl ?_
 exact ⟨5,0,none,0,0,[],none,0,0,[],rfl,ScnOk.to _ _ (by omega),OpsL.nil_ _,by omega,by omega,by omega,Bw.grown (Bw.trans hbw2 hbt'.out) HG3.out (fun k hk => by cases hk;omega),(by have hs3:=HG3.out.size;(try have hs5:=HG5.out.size);refine ⟨fun ad e => ?_,fun ad e => ?_,fun o ho ad e => ?_⟩;(focus (first|(cases e;done)|(right;exact e.symm)|(left;cases e;dsimp only;simp only [szA,szS,szD,szN] at *;omega)|(left;cases e;dsimp only;omega)));(focus (first|(cases e;done)|(cases e;dsimp only;omega)|(cases e;dsimp only;simp only [szA,szS,szD,szN] at *;omega)));(focus (first|(cases ho;done)|(simp only [List.mem_singleton] at ho;subst ho;dsimp only at e;first|(cases e;done)|(cases e;dsimp only;omega))))),fun _ => TyA.none _,fun o ho => by first|(cases ho;done)|(simp only [List.mem_singleton] at ho;subst ho;exact TyA.none _)⟩

set_option maxRecDepth 100000 in
set_option maxHeartbeats 4000000 in
theorem rnext_1x88 (code pv : Int) (A : Option Addr) (n c : Nat) (xs : List Int) (w : World) (h : ScnOk w 1 pv A n c xs) (hk : code = 88) : Calls Tryz.prog 78 #[.agg #[.int .i64 1,.int .i64 pv,.slice A n c],.int .i64 code] w (Nxt w A):=by
 have Zhk:=Lib.hid hk
 clear hk
 have HOk:=Lib.hid h
 have hx:=h.1
 have HXA:=Lib.hid (show 0 < n → ∀ ad,A = some ad → ad.block < w.heap.size from fun h0 ad e => by
  obtain ⟨g,o,e2,h⟩:=hx.2 h0
  have h1:=lt_of_cell (h 0 (by rw [hx.1];exact h0))
  rw [e] at e2
  cases e2
  exact h1)
 clear h hx
 go_enter Tryz.func78,Tryz.ntmps78
 go_upto_region 1 with (fail)
 generalize hw1 : (w.alloc (.cells #[.int .i64 1,.int .i64 pv,.slice A n c] 50)).alloc _ = w1
 obtain ⟨hb0,hb1,hbw,hz⟩:=sb2 hw1
 have HB0a:=Lib.hid hb0
 have HB1a:=Lib.hid (show ∃ old,Sb w1 (w.heap.size + 1) old 50 ∧ old.size = 3 from ⟨_,hb1,rfl⟩)
 have hz1 : w.heap.size + 1 < w1.heap.size:=by omega
 have hz0 : w.heap.size < w1.heap.size:=by omega
 have y0:=HB0a.out.cell 0 (v:=.int .i64 1) rfl
 have y1:=HB0a.out.cell 1 (v:=.int .i64 pv) rfl
 have y2:=HB0a.out.cell 2 (v:=.slice A n c) rfl
 clear hw1 hb0 hb1 hz
 go_upto_region 3 with (first
  | (go_at_call 70;refine (rvalid14_ok 1 pv A n c xs _ (HOk.out.up (show Bw w _ from BWX))).mono ?_;rintro ee wv ⟨rfl,hbv⟩;have z0:=(HB0a.out.up hbv).cell 0 (v:=.int .i64 1) rfl;have z1:=(HB0a.out.up hbv).cell 1 (v:=.int .i64 pv) rfl;have z2:=(HB0a.out.up hbv).cell 2 (v:=.slice A n c) rfl;have HBV:=Lib.hid hbv;clear hbv y0 y1 y2)
  | fail)
 have hbv:=HBV.out
 have HB0:=Lib.hid (HB0a.out.up hbv)
 have HB1:=Lib.hid (Exists.elim HB1a.out (fun old h => (⟨old,h.1.up hbv,h.2⟩ : ∃ old,Sb wv (w.heap.size + 1) old 50 ∧ old.size = 3)))
 have hbw2 : Bw w wv:=Bw.trans hbw hbv
 have hz2 : w.heap.size + 1 < wv.heap.size:=by have:=hbv.size;omega
 have hz02 : w.heap.size < wv.heap.size:=by omega
 have HOk1:=Lib.hid (HOk.out.up hbw2)
 clear HBV HB0a HB1a hz1 hz0 hbw hbv
 have hk:=Zhk.out
 subst hk
 go_upto_region 33 with ((go_at_call 100;refine (rin_any _ _ _ _).mono ?_;rintro ee ww ⟨rfl,rfl⟩;(first|rw [inB_yes (by omega) (by omega)]|rw [inB_no (by omega)])))
 go_wp2_with (first
  | (go_at_call 77;refine (rto_any 5 _).mono ?_;rintro ee wt ⟨rfl,hbt⟩;have hbt':=Lib.hid hbt;clear hbt)
  | ((with_reducible refine wpList_store_scn 5 0 none 0 0 (w.heap.size + 1) (.tmp 4) (.tmp 133) rfl rfl ?_ ?_ ?_ ?_);(focus rfl);(focus rfl);(focus (exact Exists.elim HB1.out (fun old h => ⟨old,h.1.up hbt'.out,h.2⟩)));intro w3 hS3 hg3;have HS3:=Lib.hid hS3;have HG3:=Lib.hid hg3;clear hS3 hg3)
  | (go_at_call 100;refine (rin_any _ _ _ _).mono ?_;rintro ee ww ⟨rfl,rfl⟩;(first|rw [inB_yes (by omega) (by omega)]|rw [inB_no (by omega)]))
  | fail)
 refine bodyPost_ret (results_scn rfl _ _ (w.heap.size + 1) 5 0 none 0 0 (by rfl) HS3.out) rfl ?_
 exact ⟨5,0,none,0,0,[],none,0,0,[],rfl,ScnOk.to _ _ (by omega),OpsL.nil_ _,by omega,by omega,by omega,Bw.grown (Bw.trans hbw2 hbt'.out) HG3.out (fun k hk => by cases hk;omega),(by have hs3:=HG3.out.size;(try have hs5:=HG5.out.size);refine ⟨fun ad e => ?_,fun ad e => ?_,fun o ho ad e => ?_⟩;(focus (first|(cases e;done)|(right;exact e.symm)|(left;cases e;dsimp only;simp only [szA,szS,szD,szN] at *;omega)|(left;cases e;dsimp only;omega)));(focus (first|(cases e;done)|(cases e;dsimp only;omega)|(cases e;dsimp only;simp only [szA,szS,szD,szN] at *;omega)));(focus (first|(cases ho;done)|(simp only [List.mem_singleton] at ho;subst ho;dsimp only at e;first|(cases e;done)|(cases e;dsimp only;omega))))),fun _ => TyA.none _,fun o ho => by first|(cases ho;done)|(simp only [List.mem_singleton] at ho;subst ho;exact TyA.none _)⟩

set_option maxRecDepth 100000 in
set_option maxHeartbeats 4000000 in
theorem rnext_1str (code pv : Int) (A : Option Addr) (n c : Nat) (xs : List Int) (w : World) (h : ScnOk w 1 pv A n c xs) (hlo : 93 ≤ code) (hhi : code ≤ 95) (h24 : (code == 24) = false) (h26 : (code == 26) = false) (h27 : (code == 27) = false) (h127 : (code == 127) = false) (h91 : (code == 91) = false) (h80 : (code == 80) = false) (h88 : (code == 88) = false) : Calls Tryz.prog 78 #[.agg #[.int .i64 1,.int .i64 pv,.slice A n c],.int .i64 code] w (Nxt w A):=by
 have Zhlo:=Lib.hid hlo
 clear hlo
 have Zhhi:=Lib.hid hhi
 clear hhi
 have Zh24:=Lib.hid h24
 clear h24
 have Zh26:=Lib.hid h26
 clear h26
 have Zh27:=Lib.hid h27
 clear h27
 have Zh127:=Lib.hid h127
 clear h127
 have Zh91:=Lib.hid h91
 clear h91
 have Zh80:=Lib.hid h80
 clear h80
 have Zh88:=Lib.hid h88
 clear h88
 have HOk:=Lib.hid h
 have hx:=h.1
 have HXA:=Lib.hid (show 0 < n → ∀ ad,A = some ad → ad.block < w.heap.size from fun h0 ad e => by
  obtain ⟨g,o,e2,h⟩:=hx.2 h0
  have h1:=lt_of_cell (h 0 (by rw [hx.1];exact h0))
  rw [e] at e2
  cases e2
  exact h1)
 clear h hx
 go_enter Tryz.func78,Tryz.ntmps78
 go_upto_region 1 with (fail)
 generalize hw1 : (w.alloc (.cells #[.int .i64 1,.int .i64 pv,.slice A n c] 50)).alloc _ = w1
 obtain ⟨hb0,hb1,hbw,hz⟩:=sb2 hw1
 have HB0a:=Lib.hid hb0
 have HB1a:=Lib.hid (show ∃ old,Sb w1 (w.heap.size + 1) old 50 ∧ old.size = 3 from ⟨_,hb1,rfl⟩)
 have hz1 : w.heap.size + 1 < w1.heap.size:=by omega
 have hz0 : w.heap.size < w1.heap.size:=by omega
 have y0:=HB0a.out.cell 0 (v:=.int .i64 1) rfl
 have y1:=HB0a.out.cell 1 (v:=.int .i64 pv) rfl
 have y2:=HB0a.out.cell 2 (v:=.slice A n c) rfl
 clear hw1 hb0 hb1 hz
 go_upto_region 3 with (first
  | (go_at_call 70;refine (rvalid14_ok 1 pv A n c xs _ (HOk.out.up (show Bw w _ from BWX))).mono ?_;rintro ee wv ⟨rfl,hbv⟩;have z0:=(HB0a.out.up hbv).cell 0 (v:=.int .i64 1) rfl;have z1:=(HB0a.out.up hbv).cell 1 (v:=.int .i64 pv) rfl;have z2:=(HB0a.out.up hbv).cell 2 (v:=.slice A n c) rfl;have HBV:=Lib.hid hbv;clear hbv y0 y1 y2)
  | fail)
 have hbv:=HBV.out
 have HB0:=Lib.hid (HB0a.out.up hbv)
 have HB1:=Lib.hid (Exists.elim HB1a.out (fun old h => (⟨old,h.1.up hbv,h.2⟩ : ∃ old,Sb wv (w.heap.size + 1) old 50 ∧ old.size = 3)))
 have hbw2 : Bw w wv:=Bw.trans hbw hbv
 have hz2 : w.heap.size + 1 < wv.heap.size:=by have:=hbv.size;omega
 have hz02 : w.heap.size < wv.heap.size:=by omega
 have HOk1:=Lib.hid (HOk.out.up hbw2)
 clear HBV HB0a HB1a hz1 hz0 hbw hbv
 have hlo:=Zhlo.out
 have hhi:=Zhhi.out
 have h24:=Zh24.out
 have h26:=Zh26.out
 have h27:=Zh27.out
 have h127:=Zh127.out
 have h91:=Zh91.out
 have h80:=Zh80.out
 have h88:=Zh88.out
 go_upto_region 33 with ((go_at_call 100;refine (rin_any _ _ _ _).mono ?_;rintro ee ww ⟨rfl,rfl⟩;(first|rw [inB_yes (by omega) (by omega)]|rw [inB_no (by omega)])))
 go_wp2_with (first
  | (go_at_call 77;refine (rto_any 5 _).mono ?_;rintro ee wt ⟨rfl,hbt⟩;have hbt':=Lib.hid hbt;clear hbt)
  | ((with_reducible refine wpList_store_scn 5 0 none 0 0 (w.heap.size + 1) (.tmp 4) (.tmp 133) rfl rfl ?_ ?_ ?_ ?_);(focus rfl);(focus rfl);(focus (exact Exists.elim HB1.out (fun old h => ⟨old,h.1.up hbt'.out,h.2⟩)));intro w3 hS3 hg3;have HS3:=Lib.hid hS3;have HG3:=Lib.hid hg3;clear hS3 hg3)
  | (go_at_call 100;refine (rin_any _ _ _ _).mono ?_;rintro ee ww ⟨rfl,rfl⟩;(first|rw [inB_yes (by omega) (by omega)]|rw [inB_no (by omega)]))
  | fail)
 refine bodyPost_ret (results_scn rfl _ _ (w.heap.size + 1) 5 0 none 0 0 (by rfl) HS3.out) rfl ?_
 exact ⟨5,0,none,0,0,[],none,0,0,[],rfl,ScnOk.to _ _ (by omega),OpsL.nil_ _,by omega,by omega,by omega,Bw.grown (Bw.trans hbw2 hbt'.out) HG3.out (fun k hk => by cases hk;omega),(by have hs3:=HG3.out.size;(try have hs5:=HG5.out.size);refine ⟨fun ad e => ?_,fun ad e => ?_,fun o ho ad e => ?_⟩;(focus (first|(cases e;done)|(right;exact e.symm)|(left;cases e;dsimp only;simp only [szA,szS,szD,szN] at *;omega)|(left;cases e;dsimp only;omega)));(focus (first|(cases e;done)|(cases e;dsimp only;omega)|(cases e;dsimp only;simp only [szA,szS,szD,szN] at *;omega)));(focus (first|(cases ho;done)|(simp only [List.mem_singleton] at ho;subst ho;dsimp only at e;first|(cases e;done)|(cases e;dsimp only;omega))))),fun _ => TyA.none _,fun o ho => by first|(cases ho;done)|(simp only [List.mem_singleton] at ho;subst ho;exact TyA.none _)⟩
set_option maxRecDepth 100000 in
set_option maxHeartbeats 4000000 in
theorem rnext_1skip (code pv : Int) (A : Option Addr) (n c : Nat) (xs : List Int) (w : World) (h : ScnOk w 1 pv A n c xs) (hlo : 32 ≤ code) (hhi : code ≤ 47) (h24 : (code == 24) = false) (h26 : (code == 26) = false) (h27 : (code == 27) = false) (h127 : (code == 127) = false) (h91 : (code == 91) = false) (h80 : (code == 80) = false) (h88 : (code == 88) = false) : Calls Tryz.prog 78 #[.agg #[.int .i64 1,.int .i64 pv,.slice A n c],.int .i64 code] w (Nxt w A):=by
 have Zhlo:=Lib.hid hlo
 clear hlo
 have Zhhi:=Lib.hid hhi
 clear hhi
 have Zh24:=Lib.hid h24
 clear h24
 have Zh26:=Lib.hid h26
 clear h26
 have Zh27:=Lib.hid h27
 clear h27
 have Zh127:=Lib.hid h127
 clear h127
 have Zh91:=Lib.hid h91
 clear h91
 have Zh80:=Lib.hid h80
 clear h80
 have Zh88:=Lib.hid h88
 clear h88
 have HOk:=Lib.hid h
 have hx:=h.1
 have HXA:=Lib.hid (show 0 < n → ∀ ad,A = some ad → ad.block < w.heap.size from fun h0 ad e => by
  obtain ⟨g,o,e2,h⟩:=hx.2 h0
  have h1:=lt_of_cell (h 0 (by rw [hx.1];exact h0))
  rw [e] at e2
  cases e2
  exact h1)
 clear h hx
 go_enter Tryz.func78,Tryz.ntmps78
 go_upto_region 1 with (fail)
 generalize hw1 : (w.alloc (.cells #[.int .i64 1,.int .i64 pv,.slice A n c] 50)).alloc _ = w1
 obtain ⟨hb0,hb1,hbw,hz⟩:=sb2 hw1
 have HB0a:=Lib.hid hb0
 have HB1a:=Lib.hid (show ∃ old,Sb w1 (w.heap.size + 1) old 50 ∧ old.size = 3 from ⟨_,hb1,rfl⟩)
 have hz1 : w.heap.size + 1 < w1.heap.size:=by omega
 have hz0 : w.heap.size < w1.heap.size:=by omega
 have y0:=HB0a.out.cell 0 (v:=.int .i64 1) rfl
 have y1:=HB0a.out.cell 1 (v:=.int .i64 pv) rfl
 have y2:=HB0a.out.cell 2 (v:=.slice A n c) rfl
 clear hw1 hb0 hb1 hz
 go_upto_region 3 with (first
  | (go_at_call 70;refine (rvalid14_ok 1 pv A n c xs _ (HOk.out.up (show Bw w _ from BWX))).mono ?_;rintro ee wv ⟨rfl,hbv⟩;have z0:=(HB0a.out.up hbv).cell 0 (v:=.int .i64 1) rfl;have z1:=(HB0a.out.up hbv).cell 1 (v:=.int .i64 pv) rfl;have z2:=(HB0a.out.up hbv).cell 2 (v:=.slice A n c) rfl;have HBV:=Lib.hid hbv;clear hbv y0 y1 y2)
  | fail)
 have hbv:=HBV.out
 have HB0:=Lib.hid (HB0a.out.up hbv)
 have HB1:=Lib.hid (Exists.elim HB1a.out (fun old h => (⟨old,h.1.up hbv,h.2⟩ : ∃ old,Sb wv (w.heap.size + 1) old 50 ∧ old.size = 3)))
 have hbw2 : Bw w wv:=Bw.trans hbw hbv
 have hz2 : w.heap.size + 1 < wv.heap.size:=by have:=hbv.size;omega
 have hz02 : w.heap.size < wv.heap.size:=by omega
 have HOk1:=Lib.hid (HOk.out.up hbw2)
 clear HBV HB0a HB1a hz1 hz0 hbw hbv
 have hlo:=Zhlo.out
 have hhi:=Zhhi.out
 have h24:=Zh24.out
 have h26:=Zh26.out
 have h27:=Zh27.out
 have h127:=Zh127.out
 have h91:=Zh91.out
 have h80:=Zh80.out
 have h88:=Zh88.out
 go_upto_region 35 with ((go_at_call 100;refine (rin_any _ _ _ _).mono ?_;rintro ee ww ⟨rfl,rfl⟩;(first|rw [inB_yes (by omega) (by omega)]|rw [inB_no (by omega)])))
 go_wp2_with (first
  | (go_at_call 77;refine (rto_any 2 _).mono ?_;rintro ee wt ⟨rfl,hbt⟩;have hbt':=Lib.hid hbt;clear hbt)
  | ((with_reducible refine wpList_store_scn 2 0 none 0 0 (w.heap.size + 1) (.tmp 4) (.tmp 137) rfl rfl ?_ ?_ ?_ ?_);(focus rfl);(focus rfl);(focus (exact Exists.elim HB1.out (fun old h => ⟨old,h.1.up hbt'.out,h.2⟩)));intro w3 hS3 hg3;have HS3:=Lib.hid hS3;have HG3:=Lib.hid hg3;clear hS3 hg3)
  | (go_at_call 100;refine (rin_any _ _ _ _).mono ?_;rintro ee ww ⟨rfl,rfl⟩;(first|rw [inB_yes (by omega) (by omega)]|rw [inB_no (by omega)]))
  | fail)
 refine bodyPost_ret (results_scn rfl _ _ (w.heap.size + 1) 2 0 none 0 0 (by rfl) HS3.out) rfl ?_
 exact ⟨2,0,none,0,0,[],none,0,0,[],rfl,ScnOk.to _ _ (by omega),OpsL.nil_ _,by omega,by omega,by omega,Bw.grown (Bw.trans hbw2 hbt'.out) HG3.out (fun k hk => by cases hk;omega),(by have hs3:=HG3.out.size;(try have hs5:=HG5.out.size);refine ⟨fun ad e => ?_,fun ad e => ?_,fun o ho ad e => ?_⟩;(focus (first|(cases e;done)|(right;exact e.symm)|(left;cases e;dsimp only;simp only [szA,szS,szD,szN] at *;omega)|(left;cases e;dsimp only;omega)));(focus (first|(cases e;done)|(cases e;dsimp only;omega)|(cases e;dsimp only;simp only [szA,szS,szD,szN] at *;omega)));(focus (first|(cases ho;done)|(simp only [List.mem_singleton] at ho;subst ho;dsimp only at e;first|(cases e;done)|(cases e;dsimp only;omega))))),fun _ => TyA.none _,fun o ho => by first|(cases ho;done)|(simp only [List.mem_singleton] at ho;subst ho;exact TyA.none _)⟩

set_option maxRecDepth 100000 in
set_option maxHeartbeats 4000000 in
theorem rnext_1esc (code pv : Int) (A : Option Addr) (n c : Nat) (xs : List Int) (w : World) (h : ScnOk w 1 pv A n c xs) (hlo : 48 ≤ code) (hhi : code ≤ 126) (hno : code < 93 ∨ 95 < code) (h24 : (code == 24) = false) (h26 : (code == 26) = false) (h27 : (code == 27) = false) (h127 : (code == 127) = false) (h91 : (code == 91) = false) (h80 : (code == 80) = false) (h88 : (code == 88) = false) : Calls Tryz.prog 78 #[.agg #[.int .i64 1,.int .i64 pv,.slice A n c],.int .i64 code] w (Nxt w A):=by
 have Zhlo:=Lib.hid hlo
 clear hlo
 have Zhhi:=Lib.hid hhi
 clear hhi
 have Zhno:=Lib.hid hno
 clear hno
 have Zh24:=Lib.hid h24
 clear h24
 have Zh26:=Lib.hid h26
 clear h26
 have Zh27:=Lib.hid h27
 clear h27
 have Zh127:=Lib.hid h127
 clear h127
 have Zh91:=Lib.hid h91
 clear h91
 have Zh80:=Lib.hid h80
 clear h80
 have Zh88:=Lib.hid h88
 clear h88
 have HOk:=Lib.hid h
 have hx:=h.1
 have HXA:=Lib.hid (show 0 < n → ∀ ad,A = some ad → ad.block < w.heap.size from fun h0 ad e => by
  obtain ⟨g,o,e2,h⟩:=hx.2 h0
  have h1:=lt_of_cell (h 0 (by rw [hx.1];exact h0))
  rw [e] at e2
  cases e2
  exact h1)
 clear h hx
 go_enter Tryz.func78,Tryz.ntmps78
 go_upto_region 1 with (fail)
 generalize hw1 : (w.alloc (.cells #[.int .i64 1,.int .i64 pv,.slice A n c] 50)).alloc _ = w1
 obtain ⟨hb0,hb1,hbw,hz⟩:=sb2 hw1
 have HB0a:=Lib.hid hb0
 have HB1a:=Lib.hid (show ∃ old,Sb w1 (w.heap.size + 1) old 50 ∧ old.size = 3 from ⟨_,hb1,rfl⟩)
 have hz1 : w.heap.size + 1 < w1.heap.size:=by omega
 have hz0 : w.heap.size < w1.heap.size:=by omega
 have y0:=HB0a.out.cell 0 (v:=.int .i64 1) rfl
 have y1:=HB0a.out.cell 1 (v:=.int .i64 pv) rfl
 have y2:=HB0a.out.cell 2 (v:=.slice A n c) rfl
 clear hw1 hb0 hb1 hz
 go_upto_region 3 with (first
  | (go_at_call 70;refine (rvalid14_ok 1 pv A n c xs _ (HOk.out.up (show Bw w _ from BWX))).mono ?_;rintro ee wv ⟨rfl,hbv⟩;have z0:=(HB0a.out.up hbv).cell 0 (v:=.int .i64 1) rfl;have z1:=(HB0a.out.up hbv).cell 1 (v:=.int .i64 pv) rfl;have z2:=(HB0a.out.up hbv).cell 2 (v:=.slice A n c) rfl;have HBV:=Lib.hid hbv;clear hbv y0 y1 y2)
  | fail)
 have hbv:=HBV.out
 have HB0:=Lib.hid (HB0a.out.up hbv)
 have HB1:=Lib.hid (Exists.elim HB1a.out (fun old h => (⟨old,h.1.up hbv,h.2⟩ : ∃ old,Sb wv (w.heap.size + 1) old 50 ∧ old.size = 3)))
 have hbw2 : Bw w wv:=Bw.trans hbw hbv
 have hz2 : w.heap.size + 1 < wv.heap.size:=by have:=hbv.size;omega
 have hz02 : w.heap.size < wv.heap.size:=by omega
 have HOk1:=Lib.hid (HOk.out.up hbw2)
 clear HBV HB0a HB1a hz1 hz0 hbw hbv
 have hlo:=Zhlo.out
 have hhi:=Zhhi.out
 have hno:=Zhno.out
 have h24:=Zh24.out
 have h26:=Zh26.out
 have h27:=Zh27.out
 have h127:=Zh127.out
 have h91:=Zh91.out
 have h80:=Zh80.out
 have h88:=Zh88.out
 go_upto_region 36 with ((go_at_call 100;refine (rin_any _ _ _ _).mono ?_;rintro ee ww ⟨rfl,rfl⟩;(first|rw [inB_yes (by omega) (by omega)]|rw [inB_no (by omega)])))
 go_wp2_with (first
  | (go_at_call 77;refine (rto_any 0 _).mono ?_;rintro ee wt ⟨rfl,hbt⟩;have hbt':=Lib.hid hbt;have hbt2:=hbt'.out;have hzt:=hbt.size;clear hbt)
  | ((with_reducible refine wpList_store_scn 0 0 none 0 0 (w.heap.size + 1) (.tmp 4) (.tmp 138) rfl rfl ?_ ?_ ?_ ?_);(focus rfl);(focus rfl);(focus (exact Exists.elim HB1.out (fun old h => ⟨old,h.1.up BWX,h.2⟩)));intro w3 hS3 hg3;have HS3:=Lib.hid hS3;have HG3:=Lib.hid hg3;clear hS3 hg3)
  | (go_at_call 100;refine (rin_any _ _ _ _).mono ?_;rintro ee ww ⟨rfl,rfl⟩;(first|rw [inB_yes (by omega) (by omega)]|rw [inB_no (by omega)]))
  | fail)
 refine bodyPost_ret (results_scn rfl _ _ (w.heap.size + 1) 0 0 none 0 0 (by rfl) HS3.out) rfl ?_
 exact ⟨0,0,none,0,0,[],some ⟨_,0,none⟩,1,1,[⟨3,code,0,none,0,0,[]⟩],rfl,ScnOk.to _ _ (by omega),OpsL.one ⟨3,code,0,none,0,0,[]⟩ ((show Sb (World.alloc wt (.cells #[.int .i64 3,.int .i64 code,.int .i64 0,.slice none 0 0] 109)) _ _ 109 from heap_at rfl).far HG3.out (by intro e;have:=Option.some.inj e;omega)) ⟨Rd.nil_ _ none,Nat.le_refl _,by show 0 ≤ 9223372036854775807;omega,by show 0 ≤ 1000;omega⟩,by omega,by omega,by omega,Bw.grown (show Bw w _ from BWX) HG3.out (fun k hk => by cases hk;omega),(by have hs3:=HG3.out.size;(try have hs5:=HG5.out.size);refine ⟨fun ad e => ?_,fun ad e => ?_,fun o ho ad e => ?_⟩;(focus (first|(cases e;done)|(right;exact e.symm)|(left;cases e;dsimp only;simp only [szA,szS,szD,szN] at *;omega)|(left;cases e;dsimp only;omega)));(focus (first|(cases e;done)|(cases e;dsimp only;omega)|(cases e;dsimp only;simp only [szA,szS,szD,szN] at *;omega)));(focus (first|(cases ho;done)|(simp only [List.mem_singleton] at ho;subst ho;dsimp only at e;first|(cases e;done)|(cases e;dsimp only;omega))))),fun _ => TyA.none _,fun o ho => by first|(cases ho;done)|(simp only [List.mem_singleton] at ho;subst ho;exact TyA.none _)⟩

set_option maxRecDepth 100000 in
set_option maxHeartbeats 4000000 in
theorem rnext_2a (code pv : Int) (A : Option Addr) (n c : Nat) (xs : List Int) (w : World) (h : ScnOk w 2 pv A n c xs) (hlo : 32 ≤ code) (hhi : code ≤ 47) (h24 : (code == 24) = false) (h26 : (code == 26) = false) (h27 : (code == 27) = false) (h127 : (code == 127) = false) : Calls Tryz.prog 78 #[.agg #[.int .i64 2,.int .i64 pv,.slice A n c],.int .i64 code] w (Nxt w A):=by
 have Zhlo:=Lib.hid hlo
 clear hlo
 have Zhhi:=Lib.hid hhi
 clear hhi
 have Zh24:=Lib.hid h24
 clear h24
 have Zh26:=Lib.hid h26
 clear h26
 have Zh27:=Lib.hid h27
 clear h27
 have Zh127:=Lib.hid h127
 clear h127
 have HOk:=Lib.hid h
 have hx:=h.1
 have HXA:=Lib.hid (show 0 < n → ∀ ad,A = some ad → ad.block < w.heap.size from fun h0 ad e => by
  obtain ⟨g,o,e2,h⟩:=hx.2 h0
  have h1:=lt_of_cell (h 0 (by rw [hx.1];exact h0))
  rw [e] at e2
  cases e2
  exact h1)
 clear h hx
 go_enter Tryz.func78,Tryz.ntmps78
 go_upto_region 1 with (fail)
 generalize hw1 : (w.alloc (.cells #[.int .i64 2,.int .i64 pv,.slice A n c] 50)).alloc _ = w1
 obtain ⟨hb0,hb1,hbw,hz⟩:=sb2 hw1
 have HB0a:=Lib.hid hb0
 have HB1a:=Lib.hid (show ∃ old,Sb w1 (w.heap.size + 1) old 50 ∧ old.size = 3 from ⟨_,hb1,rfl⟩)
 have hz1 : w.heap.size + 1 < w1.heap.size:=by omega
 have hz0 : w.heap.size < w1.heap.size:=by omega
 have y0:=HB0a.out.cell 0 (v:=.int .i64 2) rfl
 have y1:=HB0a.out.cell 1 (v:=.int .i64 pv) rfl
 have y2:=HB0a.out.cell 2 (v:=.slice A n c) rfl
 clear hw1 hb0 hb1 hz
 go_upto_region 3 with (first
  | (go_at_call 70;refine (rvalid14_ok 2 pv A n c xs _ (HOk.out.up (show Bw w _ from BWX))).mono ?_;rintro ee wv ⟨rfl,hbv⟩;have z0:=(HB0a.out.up hbv).cell 0 (v:=.int .i64 2) rfl;have z1:=(HB0a.out.up hbv).cell 1 (v:=.int .i64 pv) rfl;have z2:=(HB0a.out.up hbv).cell 2 (v:=.slice A n c) rfl;have HBV:=Lib.hid hbv;clear hbv y0 y1 y2)
  | fail)
 have hbv:=HBV.out
 have HB0:=Lib.hid (HB0a.out.up hbv)
 have HB1:=Lib.hid (Exists.elim HB1a.out (fun old h => (⟨old,h.1.up hbv,h.2⟩ : ∃ old,Sb wv (w.heap.size + 1) old 50 ∧ old.size = 3)))
 have hbw2 : Bw w wv:=Bw.trans hbw hbv
 have hz2 : w.heap.size + 1 < wv.heap.size:=by have:=hbv.size;omega
 have hz02 : w.heap.size < wv.heap.size:=by omega
 have HOk1:=Lib.hid (HOk.out.up hbw2)
 clear HBV HB0a HB1a hz1 hz0 hbw hbv
 have hlo:=Zhlo.out
 have hhi:=Zhhi.out
 have h24:=Zh24.out
 have h26:=Zh26.out
 have h27:=Zh27.out
 have h127:=Zh127.out
 go_upto_region 39 with ((go_at_call 100;refine (rin_any _ _ _ _).mono ?_;rintro ee ww ⟨rfl,rfl⟩;(first|rw [inB_yes (by omega) (by omega)]|rw [inB_no (by omega)])))
 go_wp2_with (first
  | ((with_reducible refine wpList_store_scn 2 pv A n c (w.heap.size + 1) (.tmp 4) (.tmp 146) rfl rfl ?_ ?_ ?_ ?_);(focus rfl);(focus rfl);(focus (exact HB1.out));intro w3 hS3 hg3;have HS3:=Lib.hid hS3;have HG3:=Lib.hid hg3;clear hS3 hg3)
  | (go_at_call 100;refine (rin_any _ _ _ _).mono ?_;rintro ee ww ⟨rfl,rfl⟩;(first|rw [inB_yes (by omega) (by omega)]|rw [inB_no (by omega)]))
  | fail)
 refine bodyPost_ret (results_scn rfl _ _ (w.heap.size + 1) 2 pv A n c (by rfl) HS3.out) rfl ?_
 exact ⟨2,pv,A,n,c,xs,none,0,0,[],rfl,HOk1.out.far0 HG3.out (fun h0 ad e => by have:=HXA.out h0 ad e;intro e2;have:=Option.some.inj e2;omega),OpsL.nil_ _,by omega,by omega,by omega,Bw.grown (hbw2) HG3.out (fun k hk => by cases hk;omega),(by have hs3:=HG3.out.size;(try have hs5:=HG5.out.size);refine ⟨fun ad e => ?_,fun ad e => ?_,fun o ho ad e => ?_⟩;(focus (first|(cases e;done)|(right;exact e.symm)|(left;cases e;dsimp only;simp only [szA,szS,szD,szN] at *;omega)|(left;cases e;dsimp only;omega)));(focus (first|(cases e;done)|(cases e;dsimp only;omega)|(cases e;dsimp only;simp only [szA,szS,szD,szN] at *;omega)));(focus (first|(cases ho;done)|(simp only [List.mem_singleton] at ho;subst ho;dsimp only at e;first|(cases e;done)|(cases e;dsimp only;omega))))),fun hT => hT.up (show Bw w w3 from Bw.grown (show Bw w _ from BWX) HG3.out (fun k hk => by cases hk;omega)),fun o ho => by first|(cases ho;done)|(simp only [List.mem_singleton] at ho;subst ho;exact TyA.none _)⟩

set_option maxRecDepth 100000 in
set_option maxHeartbeats 4000000 in
theorem rnext_2b (code pv : Int) (A : Option Addr) (n c : Nat) (xs : List Int) (w : World) (h : ScnOk w 2 pv A n c xs) (hlo : 48 ≤ code) (hhi : code ≤ 126) (h24 : (code == 24) = false) (h26 : (code == 26) = false) (h27 : (code == 27) = false) (h127 : (code == 127) = false) : Calls Tryz.prog 78 #[.agg #[.int .i64 2,.int .i64 pv,.slice A n c],.int .i64 code] w (Nxt w A):=by
 have Zhlo:=Lib.hid hlo
 clear hlo
 have Zhhi:=Lib.hid hhi
 clear hhi
 have Zh24:=Lib.hid h24
 clear h24
 have Zh26:=Lib.hid h26
 clear h26
 have Zh27:=Lib.hid h27
 clear h27
 have Zh127:=Lib.hid h127
 clear h127
 have HOk:=Lib.hid h
 have hx:=h.1
 have HXA:=Lib.hid (show 0 < n → ∀ ad,A = some ad → ad.block < w.heap.size from fun h0 ad e => by
  obtain ⟨g,o,e2,h⟩:=hx.2 h0
  have h1:=lt_of_cell (h 0 (by rw [hx.1];exact h0))
  rw [e] at e2
  cases e2
  exact h1)
 clear h hx
 go_enter Tryz.func78,Tryz.ntmps78
 go_upto_region 1 with (fail)
 generalize hw1 : (w.alloc (.cells #[.int .i64 2,.int .i64 pv,.slice A n c] 50)).alloc _ = w1
 obtain ⟨hb0,hb1,hbw,hz⟩:=sb2 hw1
 have HB0a:=Lib.hid hb0
 have HB1a:=Lib.hid (show ∃ old,Sb w1 (w.heap.size + 1) old 50 ∧ old.size = 3 from ⟨_,hb1,rfl⟩)
 have hz1 : w.heap.size + 1 < w1.heap.size:=by omega
 have hz0 : w.heap.size < w1.heap.size:=by omega
 have y0:=HB0a.out.cell 0 (v:=.int .i64 2) rfl
 have y1:=HB0a.out.cell 1 (v:=.int .i64 pv) rfl
 have y2:=HB0a.out.cell 2 (v:=.slice A n c) rfl
 clear hw1 hb0 hb1 hz
 go_upto_region 3 with (first
  | (go_at_call 70;refine (rvalid14_ok 2 pv A n c xs _ (HOk.out.up (show Bw w _ from BWX))).mono ?_;rintro ee wv ⟨rfl,hbv⟩;have z0:=(HB0a.out.up hbv).cell 0 (v:=.int .i64 2) rfl;have z1:=(HB0a.out.up hbv).cell 1 (v:=.int .i64 pv) rfl;have z2:=(HB0a.out.up hbv).cell 2 (v:=.slice A n c) rfl;have HBV:=Lib.hid hbv;clear hbv y0 y1 y2)
  | fail)
 have hbv:=HBV.out
 have HB0:=Lib.hid (HB0a.out.up hbv)
 have HB1:=Lib.hid (Exists.elim HB1a.out (fun old h => (⟨old,h.1.up hbv,h.2⟩ : ∃ old,Sb wv (w.heap.size + 1) old 50 ∧ old.size = 3)))
 have hbw2 : Bw w wv:=Bw.trans hbw hbv
 have hz2 : w.heap.size + 1 < wv.heap.size:=by have:=hbv.size;omega
 have hz02 : w.heap.size < wv.heap.size:=by omega
 have HOk1:=Lib.hid (HOk.out.up hbw2)
 clear HBV HB0a HB1a hz1 hz0 hbw hbv
 have hlo:=Zhlo.out
 have hhi:=Zhhi.out
 have h24:=Zh24.out
 have h26:=Zh26.out
 have h27:=Zh27.out
 have h127:=Zh127.out
 go_upto_region 40 with ((go_at_call 100;refine (rin_any _ _ _ _).mono ?_;rintro ee ww ⟨rfl,rfl⟩;(first|rw [inB_yes (by omega) (by omega)]|rw [inB_no (by omega)])))
 go_wp2_with (first
  | (go_at_call 77;refine (rto_any 0 _).mono ?_;rintro ee wt ⟨rfl,hbt⟩;have hbt':=Lib.hid hbt;clear hbt)
  | ((with_reducible refine wpList_store_scn 0 0 none 0 0 (w.heap.size + 1) (.tmp 4) (.tmp 147) rfl rfl ?_ ?_ ?_ ?_);(focus rfl);(focus rfl);(focus (exact Exists.elim HB1.out (fun old h => ⟨old,h.1.up hbt'.out,h.2⟩)));intro w3 hS3 hg3;have HS3:=Lib.hid hS3;have HG3:=Lib.hid hg3;clear hS3 hg3)
  | (go_at_call 100;refine (rin_any _ _ _ _).mono ?_;rintro ee ww ⟨rfl,rfl⟩;(first|rw [inB_yes (by omega) (by omega)]|rw [inB_no (by omega)]))
  | fail)
 refine bodyPost_ret (results_scn rfl _ _ (w.heap.size + 1) 0 0 none 0 0 (by rfl) HS3.out) rfl ?_
 exact ⟨0,0,none,0,0,[],none,0,0,[],rfl,ScnOk.to _ _ (by omega),OpsL.nil_ _,by omega,by omega,by omega,Bw.grown (Bw.trans hbw2 hbt'.out) HG3.out (fun k hk => by cases hk;omega),(by have hs3:=HG3.out.size;(try have hs5:=HG5.out.size);refine ⟨fun ad e => ?_,fun ad e => ?_,fun o ho ad e => ?_⟩;(focus (first|(cases e;done)|(right;exact e.symm)|(left;cases e;dsimp only;simp only [szA,szS,szD,szN] at *;omega)|(left;cases e;dsimp only;omega)));(focus (first|(cases e;done)|(cases e;dsimp only;omega)|(cases e;dsimp only;simp only [szA,szS,szD,szN] at *;omega)));(focus (first|(cases ho;done)|(simp only [List.mem_singleton] at ho;subst ho;dsimp only at e;first|(cases e;done)|(cases e;dsimp only;omega))))),fun _ => TyA.none _,fun o ho => by first|(cases ho;done)|(simp only [List.mem_singleton] at ho;subst ho;exact TyA.none _)⟩
set_option maxRecDepth 100000 in
set_option maxHeartbeats 4000000 in
theorem rnext_4a (code pv : Int) (A : Option Addr) (n c : Nat) (xs : List Int) (w : World) (h : ScnOk w 4 pv A n c xs) (hlo : 64 ≤ code) (hhi : code ≤ 126) (h24 : (code == 24) = false) (h26 : (code == 26) = false) (h27 : (code == 27) = false) (h127 : (code == 127) = false) : Calls Tryz.prog 78 #[.agg #[.int .i64 4,.int .i64 pv,.slice A n c],.int .i64 code] w (Nxt w A):=by
 have Zhlo:=Lib.hid hlo
 clear hlo
 have Zhhi:=Lib.hid hhi
 clear hhi
 have Zh24:=Lib.hid h24
 clear h24
 have Zh26:=Lib.hid h26
 clear h26
 have Zh27:=Lib.hid h27
 clear h27
 have Zh127:=Lib.hid h127
 clear h127
 have HOk:=Lib.hid h
 have hx:=h.1
 have HXA:=Lib.hid (show 0 < n → ∀ ad,A = some ad → ad.block < w.heap.size from fun h0 ad e => by
  obtain ⟨g,o,e2,h⟩:=hx.2 h0
  have h1:=lt_of_cell (h 0 (by rw [hx.1];exact h0))
  rw [e] at e2
  cases e2
  exact h1)
 clear h hx
 go_enter Tryz.func78,Tryz.ntmps78
 go_upto_region 1 with (fail)
 generalize hw1 : (w.alloc (.cells #[.int .i64 4,.int .i64 pv,.slice A n c] 50)).alloc _ = w1
 obtain ⟨hb0,hb1,hbw,hz⟩:=sb2 hw1
 have HB0a:=Lib.hid hb0
 have HB1a:=Lib.hid (show ∃ old,Sb w1 (w.heap.size + 1) old 50 ∧ old.size = 3 from ⟨_,hb1,rfl⟩)
 have hz1 : w.heap.size + 1 < w1.heap.size:=by omega
 have hz0 : w.heap.size < w1.heap.size:=by omega
 have y0:=HB0a.out.cell 0 (v:=.int .i64 4) rfl
 have y1:=HB0a.out.cell 1 (v:=.int .i64 pv) rfl
 have y2:=HB0a.out.cell 2 (v:=.slice A n c) rfl
 clear hw1 hb0 hb1 hz
 go_upto_region 3 with (first
  | (go_at_call 70;refine (rvalid14_ok 4 pv A n c xs _ (HOk.out.up (show Bw w _ from BWX))).mono ?_;rintro ee wv ⟨rfl,hbv⟩;have z0:=(HB0a.out.up hbv).cell 0 (v:=.int .i64 4) rfl;have z1:=(HB0a.out.up hbv).cell 1 (v:=.int .i64 pv) rfl;have z2:=(HB0a.out.up hbv).cell 2 (v:=.slice A n c) rfl;have HBV:=Lib.hid hbv;clear hbv y0 y1 y2)
  | fail)
 have hbv:=HBV.out
 have HB0:=Lib.hid (HB0a.out.up hbv)
 have HB1:=Lib.hid (Exists.elim HB1a.out (fun old h => (⟨old,h.1.up hbv,h.2⟩ : ∃ old,Sb wv (w.heap.size + 1) old 50 ∧ old.size = 3)))
 have hbw2 : Bw w wv:=Bw.trans hbw hbv
 have hz2 : w.heap.size + 1 < wv.heap.size:=by have:=hbv.size;omega
 have hz02 : w.heap.size < wv.heap.size:=by omega
 have HOk1:=Lib.hid (HOk.out.up hbw2)
 clear HBV HB0a HB1a hz1 hz0 hbw hbv
 have hlo:=Zhlo.out
 have hhi:=Zhhi.out
 have h24:=Zh24.out
 have h26:=Zh26.out
 have h27:=Zh27.out
 have h127:=Zh127.out
 go_upto_region 42 with ((go_at_call 100;refine (rin_any _ _ _ _).mono ?_;rintro ee ww ⟨rfl,rfl⟩;(first|rw [inB_yes (by omega) (by omega)]|rw [inB_no (by omega)])))
 go_wp2_with (first
  | (go_at_call 77;refine (rto_any 0 _).mono ?_;rintro ee wt ⟨rfl,hbt⟩;have hbt':=Lib.hid hbt;clear hbt)
  | ((with_reducible refine wpList_store_scn 0 0 none 0 0 (w.heap.size + 1) (.tmp 4) (.tmp 150) rfl rfl ?_ ?_ ?_ ?_);(focus rfl);(focus rfl);(focus (exact Exists.elim HB1.out (fun old h => ⟨old,h.1.up hbt'.out,h.2⟩)));intro w3 hS3 hg3;have HS3:=Lib.hid hS3;have HG3:=Lib.hid hg3;clear hS3 hg3)
  | (go_at_call 100;refine (rin_any _ _ _ _).mono ?_;rintro ee ww ⟨rfl,rfl⟩;(first|rw [inB_yes (by omega) (by omega)]|rw [inB_no (by omega)]))
  | fail)
 refine bodyPost_ret (results_scn rfl _ _ (w.heap.size + 1) 0 0 none 0 0 (by rfl) HS3.out) rfl ?_
 exact ⟨0,0,none,0,0,[],none,0,0,[],rfl,ScnOk.to _ _ (by omega),OpsL.nil_ _,by omega,by omega,by omega,Bw.grown (Bw.trans hbw2 hbt'.out) HG3.out (fun k hk => by cases hk;omega),(by have hs3:=HG3.out.size;(try have hs5:=HG5.out.size);refine ⟨fun ad e => ?_,fun ad e => ?_,fun o ho ad e => ?_⟩;(focus (first|(cases e;done)|(right;exact e.symm)|(left;cases e;dsimp only;simp only [szA,szS,szD,szN] at *;omega)|(left;cases e;dsimp only;omega)));(focus (first|(cases e;done)|(cases e;dsimp only;omega)|(cases e;dsimp only;simp only [szA,szS,szD,szN] at *;omega)));(focus (first|(cases ho;done)|(simp only [List.mem_singleton] at ho;subst ho;dsimp only at e;first|(cases e;done)|(cases e;dsimp only;omega))))),fun _ => TyA.none _,fun o ho => by first|(cases ho;done)|(simp only [List.mem_singleton] at ho;subst ho;exact TyA.none _)⟩

set_option maxRecDepth 100000 in
set_option maxHeartbeats 4000000 in
theorem rnext_4b (code pv : Int) (A : Option Addr) (n c : Nat) (xs : List Int) (w : World) (h : ScnOk w 4 pv A n c xs) (hlo : 32 ≤ code) (hhi : code ≤ 63) (h24 : (code == 24) = false) (h26 : (code == 26) = false) (h27 : (code == 27) = false) (h127 : (code == 127) = false) : Calls Tryz.prog 78 #[.agg #[.int .i64 4,.int .i64 pv,.slice A n c],.int .i64 code] w (Nxt w A):=by
 have Zhlo:=Lib.hid hlo
 clear hlo
 have Zhhi:=Lib.hid hhi
 clear hhi
 have Zh24:=Lib.hid h24
 clear h24
 have Zh26:=Lib.hid h26
 clear h26
 have Zh27:=Lib.hid h27
 clear h27
 have Zh127:=Lib.hid h127
 clear h127
 have HOk:=Lib.hid h
 have hx:=h.1
 have HXA:=Lib.hid (show 0 < n → ∀ ad,A = some ad → ad.block < w.heap.size from fun h0 ad e => by
  obtain ⟨g,o,e2,h⟩:=hx.2 h0
  have h1:=lt_of_cell (h 0 (by rw [hx.1];exact h0))
  rw [e] at e2
  cases e2
  exact h1)
 clear h hx
 go_enter Tryz.func78,Tryz.ntmps78
 go_upto_region 1 with (fail)
 generalize hw1 : (w.alloc (.cells #[.int .i64 4,.int .i64 pv,.slice A n c] 50)).alloc _ = w1
 obtain ⟨hb0,hb1,hbw,hz⟩:=sb2 hw1
 have HB0a:=Lib.hid hb0
 have HB1a:=Lib.hid (show ∃ old,Sb w1 (w.heap.size + 1) old 50 ∧ old.size = 3 from ⟨_,hb1,rfl⟩)
 have hz1 : w.heap.size + 1 < w1.heap.size:=by omega
 have hz0 : w.heap.size < w1.heap.size:=by omega
 have y0:=HB0a.out.cell 0 (v:=.int .i64 4) rfl
 have y1:=HB0a.out.cell 1 (v:=.int .i64 pv) rfl
 have y2:=HB0a.out.cell 2 (v:=.slice A n c) rfl
 clear hw1 hb0 hb1 hz
 go_upto_region 3 with (first
  | (go_at_call 70;refine (rvalid14_ok 4 pv A n c xs _ (HOk.out.up (show Bw w _ from BWX))).mono ?_;rintro ee wv ⟨rfl,hbv⟩;have z0:=(HB0a.out.up hbv).cell 0 (v:=.int .i64 4) rfl;have z1:=(HB0a.out.up hbv).cell 1 (v:=.int .i64 pv) rfl;have z2:=(HB0a.out.up hbv).cell 2 (v:=.slice A n c) rfl;have HBV:=Lib.hid hbv;clear hbv y0 y1 y2)
  | fail)
 have hbv:=HBV.out
 have HB0:=Lib.hid (HB0a.out.up hbv)
 have HB1:=Lib.hid (Exists.elim HB1a.out (fun old h => (⟨old,h.1.up hbv,h.2⟩ : ∃ old,Sb wv (w.heap.size + 1) old 50 ∧ old.size = 3)))
 have hbw2 : Bw w wv:=Bw.trans hbw hbv
 have hz2 : w.heap.size + 1 < wv.heap.size:=by have:=hbv.size;omega
 have hz02 : w.heap.size < wv.heap.size:=by omega
 have HOk1:=Lib.hid (HOk.out.up hbw2)
 clear HBV HB0a HB1a hz1 hz0 hbw hbv
 have hlo:=Zhlo.out
 have hhi:=Zhhi.out
 have h24:=Zh24.out
 have h26:=Zh26.out
 have h27:=Zh27.out
 have h127:=Zh127.out
 go_upto_region 43 with ((go_at_call 100;refine (rin_any _ _ _ _).mono ?_;rintro ee ww ⟨rfl,rfl⟩;(first|rw [inB_yes (by omega) (by omega)]|rw [inB_no (by omega)])))
 go_wp2_with (first
  | ((with_reducible refine wpList_store_scn 4 pv A n c (w.heap.size + 1) (.tmp 4) (.tmp 151) rfl rfl ?_ ?_ ?_ ?_);(focus rfl);(focus rfl);(focus (exact HB1.out));intro w3 hS3 hg3;have HS3:=Lib.hid hS3;have HG3:=Lib.hid hg3;clear hS3 hg3)
  | (go_at_call 100;refine (rin_any _ _ _ _).mono ?_;rintro ee ww ⟨rfl,rfl⟩;(first|rw [inB_yes (by omega) (by omega)]|rw [inB_no (by omega)]))
  | fail)
 refine bodyPost_ret (results_scn rfl _ _ (w.heap.size + 1) 4 pv A n c (by rfl) HS3.out) rfl ?_
 exact ⟨4,pv,A,n,c,xs,none,0,0,[],rfl,HOk1.out.far0 HG3.out (fun h0 ad e => by have:=HXA.out h0 ad e;intro e2;have:=Option.some.inj e2;omega),OpsL.nil_ _,by omega,by omega,by omega,Bw.grown (hbw2) HG3.out (fun k hk => by cases hk;omega),(by have hs3:=HG3.out.size;(try have hs5:=HG5.out.size);refine ⟨fun ad e => ?_,fun ad e => ?_,fun o ho ad e => ?_⟩;(focus (first|(cases e;done)|(right;exact e.symm)|(left;cases e;dsimp only;simp only [szA,szS,szD,szN] at *;omega)|(left;cases e;dsimp only;omega)));(focus (first|(cases e;done)|(cases e;dsimp only;omega)|(cases e;dsimp only;simp only [szA,szS,szD,szN] at *;omega)));(focus (first|(cases ho;done)|(simp only [List.mem_singleton] at ho;subst ho;dsimp only at e;first|(cases e;done)|(cases e;dsimp only;omega))))),fun hT => hT.up (show Bw w w3 from Bw.grown (show Bw w _ from BWX) HG3.out (fun k hk => by cases hk;omega)),fun o ho => by first|(cases ho;done)|(simp only [List.mem_singleton] at ho;subst ho;exact TyA.none _)⟩

set_option maxRecDepth 100000 in
set_option maxHeartbeats 4000000 in
theorem rnext_5x24 (code pv : Int) (A : Option Addr) (n c : Nat) (xs : List Int) (w : World) (h : ScnOk w 5 pv A n c xs) (hk : code = 24) : Calls Tryz.prog 78 #[.agg #[.int .i64 5,.int .i64 pv,.slice A n c],.int .i64 code] w (Nxt w A):=by
 have Zhk:=Lib.hid hk
 clear hk
 have HOk:=Lib.hid h
 have hx:=h.1
 have HXA:=Lib.hid (show 0 < n → ∀ ad,A = some ad → ad.block < w.heap.size from fun h0 ad e => by
  obtain ⟨g,o,e2,h⟩:=hx.2 h0
  have h1:=lt_of_cell (h 0 (by rw [hx.1];exact h0))
  rw [e] at e2
  cases e2
  exact h1)
 clear h hx
 go_enter Tryz.func78,Tryz.ntmps78
 go_upto_region 1 with (fail)
 generalize hw1 : (w.alloc (.cells #[.int .i64 5,.int .i64 pv,.slice A n c] 50)).alloc _ = w1
 obtain ⟨hb0,hb1,hbw,hz⟩:=sb2 hw1
 have HB0a:=Lib.hid hb0
 have HB1a:=Lib.hid (show ∃ old,Sb w1 (w.heap.size + 1) old 50 ∧ old.size = 3 from ⟨_,hb1,rfl⟩)
 have hz1 : w.heap.size + 1 < w1.heap.size:=by omega
 have hz0 : w.heap.size < w1.heap.size:=by omega
 have y0:=HB0a.out.cell 0 (v:=.int .i64 5) rfl
 have y1:=HB0a.out.cell 1 (v:=.int .i64 pv) rfl
 have y2:=HB0a.out.cell 2 (v:=.slice A n c) rfl
 clear hw1 hb0 hb1 hz
 go_upto_region 3 with (first
  | (go_at_call 70;refine (rvalid14_ok 5 pv A n c xs _ (HOk.out.up (show Bw w _ from BWX))).mono ?_;rintro ee wv ⟨rfl,hbv⟩;have z0:=(HB0a.out.up hbv).cell 0 (v:=.int .i64 5) rfl;have z1:=(HB0a.out.up hbv).cell 1 (v:=.int .i64 pv) rfl;have z2:=(HB0a.out.up hbv).cell 2 (v:=.slice A n c) rfl;have HBV:=Lib.hid hbv;clear hbv y0 y1 y2)
  | fail)
 have hbv:=HBV.out
 have HB0:=Lib.hid (HB0a.out.up hbv)
 have HB1:=Lib.hid (Exists.elim HB1a.out (fun old h => (⟨old,h.1.up hbv,h.2⟩ : ∃ old,Sb wv (w.heap.size + 1) old 50 ∧ old.size = 3)))
 have hbw2 : Bw w wv:=Bw.trans hbw hbv
 have hz2 : w.heap.size + 1 < wv.heap.size:=by have:=hbv.size;omega
 have hz02 : w.heap.size < wv.heap.size:=by omega
 have HOk1:=Lib.hid (HOk.out.up hbw2)
 clear HBV HB0a HB1a hz1 hz0 hbw hbv
 have hk:=Zhk.out
 subst hk
 go_upto_region 5 with ((go_at_call 100;refine (rin_any _ _ _ _).mono ?_;rintro ee ww ⟨rfl,rfl⟩;(first|rw [inB_yes (by omega) (by omega)]|rw [inB_no (by omega)])))
 go_wp2_with (first
  | (go_at_call 77;refine (rto_any 0 _).mono ?_;rintro ee wt ⟨rfl,hbt⟩;have hbt':=Lib.hid hbt;clear hbt)
  | ((with_reducible refine wpList_store_scn 0 0 none 0 0 (w.heap.size + 1) (.tmp 4) (.tmp 26) rfl rfl ?_ ?_ ?_ ?_);(focus rfl);(focus rfl);(focus (exact Exists.elim HB1.out (fun old h => ⟨old,h.1.up hbt'.out,h.2⟩)));intro w3 hS3 hg3;have HS3:=Lib.hid hS3;have HG3:=Lib.hid hg3;clear hS3 hg3)
  | (go_at_call 100;refine (rin_any _ _ _ _).mono ?_;rintro ee ww ⟨rfl,rfl⟩;(first|rw [inB_yes (by omega) (by omega)]|rw [inB_no (by omega)]))
  | fail)
 refine bodyPost_ret (results_scn rfl _ _ (w.heap.size + 1) 0 0 none 0 0 (by rfl) HS3.out) rfl ?_
 exact ⟨0,0,none,0,0,[],none,0,0,[],rfl,ScnOk.to _ _ (by omega),OpsL.nil_ _,by omega,by omega,by omega,Bw.grown (Bw.trans hbw2 hbt'.out) HG3.out (fun k hk => by cases hk;omega),(by have hs3:=HG3.out.size;(try have hs5:=HG5.out.size);refine ⟨fun ad e => ?_,fun ad e => ?_,fun o ho ad e => ?_⟩;(focus (first|(cases e;done)|(right;exact e.symm)|(left;cases e;dsimp only;simp only [szA,szS,szD,szN] at *;omega)|(left;cases e;dsimp only;omega)));(focus (first|(cases e;done)|(cases e;dsimp only;omega)|(cases e;dsimp only;simp only [szA,szS,szD,szN] at *;omega)));(focus (first|(cases ho;done)|(simp only [List.mem_singleton] at ho;subst ho;dsimp only at e;first|(cases e;done)|(cases e;dsimp only;omega))))),fun _ => TyA.none _,fun o ho => by first|(cases ho;done)|(simp only [List.mem_singleton] at ho;subst ho;exact TyA.none _)⟩

set_option maxRecDepth 100000 in
set_option maxHeartbeats 4000000 in
theorem rnext_5x26 (code pv : Int) (A : Option Addr) (n c : Nat) (xs : List Int) (w : World) (h : ScnOk w 5 pv A n c xs) (hk : code = 26) : Calls Tryz.prog 78 #[.agg #[.int .i64 5,.int .i64 pv,.slice A n c],.int .i64 code] w (Nxt w A):=by
 have Zhk:=Lib.hid hk
 clear hk
 have HOk:=Lib.hid h
 have hx:=h.1
 have HXA:=Lib.hid (show 0 < n → ∀ ad,A = some ad → ad.block < w.heap.size from fun h0 ad e => by
  obtain ⟨g,o,e2,h⟩:=hx.2 h0
  have h1:=lt_of_cell (h 0 (by rw [hx.1];exact h0))
  rw [e] at e2
  cases e2
  exact h1)
 clear h hx
 go_enter Tryz.func78,Tryz.ntmps78
 go_upto_region 1 with (fail)
 generalize hw1 : (w.alloc (.cells #[.int .i64 5,.int .i64 pv,.slice A n c] 50)).alloc _ = w1
 obtain ⟨hb0,hb1,hbw,hz⟩:=sb2 hw1
 have HB0a:=Lib.hid hb0
 have HB1a:=Lib.hid (show ∃ old,Sb w1 (w.heap.size + 1) old 50 ∧ old.size = 3 from ⟨_,hb1,rfl⟩)
 have hz1 : w.heap.size + 1 < w1.heap.size:=by omega
 have hz0 : w.heap.size < w1.heap.size:=by omega
 have y0:=HB0a.out.cell 0 (v:=.int .i64 5) rfl
 have y1:=HB0a.out.cell 1 (v:=.int .i64 pv) rfl
 have y2:=HB0a.out.cell 2 (v:=.slice A n c) rfl
 clear hw1 hb0 hb1 hz
 go_upto_region 3 with (first
  | (go_at_call 70;refine (rvalid14_ok 5 pv A n c xs _ (HOk.out.up (show Bw w _ from BWX))).mono ?_;rintro ee wv ⟨rfl,hbv⟩;have z0:=(HB0a.out.up hbv).cell 0 (v:=.int .i64 5) rfl;have z1:=(HB0a.out.up hbv).cell 1 (v:=.int .i64 pv) rfl;have z2:=(HB0a.out.up hbv).cell 2 (v:=.slice A n c) rfl;have HBV:=Lib.hid hbv;clear hbv y0 y1 y2)
  | fail)
 have hbv:=HBV.out
 have HB0:=Lib.hid (HB0a.out.up hbv)
 have HB1:=Lib.hid (Exists.elim HB1a.out (fun old h => (⟨old,h.1.up hbv,h.2⟩ : ∃ old,Sb wv (w.heap.size + 1) old 50 ∧ old.size = 3)))
 have hbw2 : Bw w wv:=Bw.trans hbw hbv
 have hz2 : w.heap.size + 1 < wv.heap.size:=by have:=hbv.size;omega
 have hz02 : w.heap.size < wv.heap.size:=by omega
 have HOk1:=Lib.hid (HOk.out.up hbw2)
 clear HBV HB0a HB1a hz1 hz0 hbw hbv
 have hk:=Zhk.out
 subst hk
 go_upto_region 5 with ((go_at_call 100;refine (rin_any _ _ _ _).mono ?_;rintro ee ww ⟨rfl,rfl⟩;(first|rw [inB_yes (by omega) (by omega)]|rw [inB_no (by omega)])))
 go_wp2_with (first
  | (go_at_call 77;refine (rto_any 0 _).mono ?_;rintro ee wt ⟨rfl,hbt⟩;have hbt':=Lib.hid hbt;clear hbt)
  | ((with_reducible refine wpList_store_scn 0 0 none 0 0 (w.heap.size + 1) (.tmp 4) (.tmp 26) rfl rfl ?_ ?_ ?_ ?_);(focus rfl);(focus rfl);(focus (exact Exists.elim HB1.out (fun old h => ⟨old,h.1.up hbt'.out,h.2⟩)));intro w3 hS3 hg3;have HS3:=Lib.hid hS3;have HG3:=Lib.hid hg3;clear hS3 hg3)
  | (go_at_call 100;refine (rin_any _ _ _ _).mono ?_;rintro ee ww ⟨rfl,rfl⟩;(first|rw [inB_yes (by omega) (by omega)]|rw [inB_no (by omega)]))
  | fail)
 refine bodyPost_ret (results_scn rfl _ _ (w.heap.size + 1) 0 0 none 0 0 (by rfl) HS3.out) rfl ?_
 exact ⟨0,0,none,0,0,[],none,0,0,[],rfl,ScnOk.to _ _ (by omega),OpsL.nil_ _,by omega,by omega,by omega,Bw.grown (Bw.trans hbw2 hbt'.out) HG3.out (fun k hk => by cases hk;omega),(by have hs3:=HG3.out.size;(try have hs5:=HG5.out.size);refine ⟨fun ad e => ?_,fun ad e => ?_,fun o ho ad e => ?_⟩;(focus (first|(cases e;done)|(right;exact e.symm)|(left;cases e;dsimp only;simp only [szA,szS,szD,szN] at *;omega)|(left;cases e;dsimp only;omega)));(focus (first|(cases e;done)|(cases e;dsimp only;omega)|(cases e;dsimp only;simp only [szA,szS,szD,szN] at *;omega)));(focus (first|(cases ho;done)|(simp only [List.mem_singleton] at ho;subst ho;dsimp only at e;first|(cases e;done)|(cases e;dsimp only;omega))))),fun _ => TyA.none _,fun o ho => by first|(cases ho;done)|(simp only [List.mem_singleton] at ho;subst ho;exact TyA.none _)⟩

set_option maxRecDepth 100000 in
set_option maxHeartbeats 4000000 in
theorem rnext_5x27 (code pv : Int) (A : Option Addr) (n c : Nat) (xs : List Int) (w : World) (h : ScnOk w 5 pv A n c xs) (hk : code = 27) : Calls Tryz.prog 78 #[.agg #[.int .i64 5,.int .i64 pv,.slice A n c],.int .i64 code] w (Nxt w A):=by
 have Zhk:=Lib.hid hk
 clear hk
 have HOk:=Lib.hid h
 have hx:=h.1
 have HXA:=Lib.hid (show 0 < n → ∀ ad,A = some ad → ad.block < w.heap.size from fun h0 ad e => by
  obtain ⟨g,o,e2,h⟩:=hx.2 h0
  have h1:=lt_of_cell (h 0 (by rw [hx.1];exact h0))
  rw [e] at e2
  cases e2
  exact h1)
 clear h hx
 go_enter Tryz.func78,Tryz.ntmps78
 go_upto_region 1 with (fail)
 generalize hw1 : (w.alloc (.cells #[.int .i64 5,.int .i64 pv,.slice A n c] 50)).alloc _ = w1
 obtain ⟨hb0,hb1,hbw,hz⟩:=sb2 hw1
 have HB0a:=Lib.hid hb0
 have HB1a:=Lib.hid (show ∃ old,Sb w1 (w.heap.size + 1) old 50 ∧ old.size = 3 from ⟨_,hb1,rfl⟩)
 have hz1 : w.heap.size + 1 < w1.heap.size:=by omega
 have hz0 : w.heap.size < w1.heap.size:=by omega
 have y0:=HB0a.out.cell 0 (v:=.int .i64 5) rfl
 have y1:=HB0a.out.cell 1 (v:=.int .i64 pv) rfl
 have y2:=HB0a.out.cell 2 (v:=.slice A n c) rfl
 clear hw1 hb0 hb1 hz
 go_upto_region 3 with (first
  | (go_at_call 70;refine (rvalid14_ok 5 pv A n c xs _ (HOk.out.up (show Bw w _ from BWX))).mono ?_;rintro ee wv ⟨rfl,hbv⟩;have z0:=(HB0a.out.up hbv).cell 0 (v:=.int .i64 5) rfl;have z1:=(HB0a.out.up hbv).cell 1 (v:=.int .i64 pv) rfl;have z2:=(HB0a.out.up hbv).cell 2 (v:=.slice A n c) rfl;have HBV:=Lib.hid hbv;clear hbv y0 y1 y2)
  | fail)
 have hbv:=HBV.out
 have HB0:=Lib.hid (HB0a.out.up hbv)
 have HB1:=Lib.hid (Exists.elim HB1a.out (fun old h => (⟨old,h.1.up hbv,h.2⟩ : ∃ old,Sb wv (w.heap.size + 1) old 50 ∧ old.size = 3)))
 have hbw2 : Bw w wv:=Bw.trans hbw hbv
 have hz2 : w.heap.size + 1 < wv.heap.size:=by have:=hbv.size;omega
 have hz02 : w.heap.size < wv.heap.size:=by omega
 have HOk1:=Lib.hid (HOk.out.up hbw2)
 clear HBV HB0a HB1a hz1 hz0 hbw hbv
 have hk:=Zhk.out
 subst hk
 go_upto_region 7 with ((go_at_call 100;refine (rin_any _ _ _ _).mono ?_;rintro ee ww ⟨rfl,rfl⟩;(first|rw [inB_yes (by omega) (by omega)]|rw [inB_no (by omega)])))
 go_wp2_with (first
  | (go_at_call 77;refine (rto_any 6 _).mono ?_;rintro ee wt ⟨rfl,hbt⟩;have hbt':=Lib.hid hbt;clear hbt)
  | ((with_reducible refine wpList_store_scn 6 0 none 0 0 (w.heap.size + 1) (.tmp 4) (.tmp 33) rfl rfl ?_ ?_ ?_ ?_);(focus rfl);(focus rfl);(focus (exact Exists.elim HB1.out (fun old h => ⟨old,h.1.up hbt'.out,h.2⟩)));intro w3 hS3 hg3;have HS3:=Lib.hid hS3;have HG3:=Lib.hid hg3;clear hS3 hg3)
  | (go_at_call 100;refine (rin_any _ _ _ _).mono ?_;rintro ee ww ⟨rfl,rfl⟩;(first|rw [inB_yes (by omega) (by omega)]|rw [inB_no (by omega)]))
  | fail)
 refine bodyPost_ret (results_scn rfl _ _ (w.heap.size + 1) 6 0 none 0 0 (by rfl) HS3.out) rfl ?_
 exact ⟨6,0,none,0,0,[],none,0,0,[],rfl,ScnOk.to _ _ (by omega),OpsL.nil_ _,by omega,by omega,by omega,Bw.grown (Bw.trans hbw2 hbt'.out) HG3.out (fun k hk => by cases hk;omega),(by have hs3:=HG3.out.size;(try have hs5:=HG5.out.size);refine ⟨fun ad e => ?_,fun ad e => ?_,fun o ho ad e => ?_⟩;(focus (first|(cases e;done)|(right;exact e.symm)|(left;cases e;dsimp only;simp only [szA,szS,szD,szN] at *;omega)|(left;cases e;dsimp only;omega)));(focus (first|(cases e;done)|(cases e;dsimp only;omega)|(cases e;dsimp only;simp only [szA,szS,szD,szN] at *;omega)));(focus (first|(cases ho;done)|(simp only [List.mem_singleton] at ho;subst ho;dsimp only at e;first|(cases e;done)|(cases e;dsimp only;omega))))),fun _ => TyA.none _,fun o ho => by first|(cases ho;done)|(simp only [List.mem_singleton] at ho;subst ho;exact TyA.none _)⟩
set_option maxRecDepth 100000 in
set_option maxHeartbeats 4000000 in
theorem rnext_5x7 (code pv : Int) (A : Option Addr) (n c : Nat) (xs : List Int) (w : World) (h : ScnOk w 5 pv A n c xs) (hk : code = 7) : Calls Tryz.prog 78 #[.agg #[.int .i64 5,.int .i64 pv,.slice A n c],.int .i64 code] w (Nxt w A):=by
 have Zhk:=Lib.hid hk
 clear hk
 have HOk:=Lib.hid h
 have hx:=h.1
 have HXA:=Lib.hid (show 0 < n → ∀ ad,A = some ad → ad.block < w.heap.size from fun h0 ad e => by
  obtain ⟨g,o,e2,h⟩:=hx.2 h0
  have h1:=lt_of_cell (h 0 (by rw [hx.1];exact h0))
  rw [e] at e2
  cases e2
  exact h1)
 clear h hx
 go_enter Tryz.func78,Tryz.ntmps78
 go_upto_region 1 with (fail)
 generalize hw1 : (w.alloc (.cells #[.int .i64 5,.int .i64 pv,.slice A n c] 50)).alloc _ = w1
 obtain ⟨hb0,hb1,hbw,hz⟩:=sb2 hw1
 have HB0a:=Lib.hid hb0
 have HB1a:=Lib.hid (show ∃ old,Sb w1 (w.heap.size + 1) old 50 ∧ old.size = 3 from ⟨_,hb1,rfl⟩)
 have hz1 : w.heap.size + 1 < w1.heap.size:=by omega
 have hz0 : w.heap.size < w1.heap.size:=by omega
 have y0:=HB0a.out.cell 0 (v:=.int .i64 5) rfl
 have y1:=HB0a.out.cell 1 (v:=.int .i64 pv) rfl
 have y2:=HB0a.out.cell 2 (v:=.slice A n c) rfl
 clear hw1 hb0 hb1 hz
 go_upto_region 3 with (first
  | (go_at_call 70;refine (rvalid14_ok 5 pv A n c xs _ (HOk.out.up (show Bw w _ from BWX))).mono ?_;rintro ee wv ⟨rfl,hbv⟩;have z0:=(HB0a.out.up hbv).cell 0 (v:=.int .i64 5) rfl;have z1:=(HB0a.out.up hbv).cell 1 (v:=.int .i64 pv) rfl;have z2:=(HB0a.out.up hbv).cell 2 (v:=.slice A n c) rfl;have HBV:=Lib.hid hbv;clear hbv y0 y1 y2)
  | fail)
 have hbv:=HBV.out
 have HB0:=Lib.hid (HB0a.out.up hbv)
 have HB1:=Lib.hid (Exists.elim HB1a.out (fun old h => (⟨old,h.1.up hbv,h.2⟩ : ∃ old,Sb wv (w.heap.size + 1) old 50 ∧ old.size = 3)))
 have hbw2 : Bw w wv:=Bw.trans hbw hbv
 have hz2 : w.heap.size + 1 < wv.heap.size:=by have:=hbv.size;omega
 have hz02 : w.heap.size < wv.heap.size:=by omega
 have HOk1:=Lib.hid (HOk.out.up hbw2)
 clear HBV HB0a HB1a hz1 hz0 hbw hbv
 have hk:=Zhk.out
 subst hk
 go_upto_region 15 with ((go_at_call 100;refine (rin_any _ _ _ _).mono ?_;rintro ee ww ⟨rfl,rfl⟩;(first|rw [inB_yes (by omega) (by omega)]|rw [inB_no (by omega)])))
 go_wp2_with (first
  | (go_at_call 77;refine (rto_any 0 _).mono ?_;rintro ee wt ⟨rfl,hbt⟩;have hbt':=Lib.hid hbt;clear hbt)
  | ((with_reducible refine wpList_store_scn 0 0 none 0 0 (w.heap.size + 1) (.tmp 4) (.tmp 64) rfl rfl ?_ ?_ ?_ ?_);(focus rfl);(focus rfl);(focus (exact Exists.elim HB1.out (fun old h => ⟨old,h.1.up hbt'.out,h.2⟩)));intro w3 hS3 hg3;have HS3:=Lib.hid hS3;have HG3:=Lib.hid hg3;clear hS3 hg3)
  | (go_at_call 100;refine (rin_any _ _ _ _).mono ?_;rintro ee ww ⟨rfl,rfl⟩;(first|rw [inB_yes (by omega) (by omega)]|rw [inB_no (by omega)]))
  | fail)
 refine bodyPost_ret (results_scn rfl _ _ (w.heap.size + 1) 0 0 none 0 0 (by rfl) HS3.out) rfl ?_
 exact ⟨0,0,none,0,0,[],none,0,0,[],rfl,ScnOk.to _ _ (by omega),OpsL.nil_ _,by omega,by omega,by omega,Bw.grown (Bw.trans hbw2 hbt'.out) HG3.out (fun k hk => by cases hk;omega),(by have hs3:=HG3.out.size;(try have hs5:=HG5.out.size);refine ⟨fun ad e => ?_,fun ad e => ?_,fun o ho ad e => ?_⟩;(focus (first|(cases e;done)|(right;exact e.symm)|(left;cases e;dsimp only;simp only [szA,szS,szD,szN] at *;omega)|(left;cases e;dsimp only;omega)));(focus (first|(cases e;done)|(cases e;dsimp only;omega)|(cases e;dsimp only;simp only [szA,szS,szD,szN] at *;omega)));(focus (first|(cases ho;done)|(simp only [List.mem_singleton] at ho;subst ho;dsimp only at e;first|(cases e;done)|(cases e;dsimp only;omega))))),fun _ => TyA.none _,fun o ho => by first|(cases ho;done)|(simp only [List.mem_singleton] at ho;subst ho;exact TyA.none _)⟩

set_option maxRecDepth 100000 in
set_option maxHeartbeats 4000000 in
theorem rnext_5s (code pv : Int) (A : Option Addr) (n c : Nat) (xs : List Int) (w : World) (h : ScnOk w 5 pv A n c xs) (h24 : (code == 24) = false) (h26 : (code == 26) = false) (h27 : (code == 27) = false) (h7 : (code == 7) = false) : Calls Tryz.prog 78 #[.agg #[.int .i64 5,.int .i64 pv,.slice A n c],.int .i64 code] w (Nxt w A):=by
 have Zh24:=Lib.hid h24
 clear h24
 have Zh26:=Lib.hid h26
 clear h26
 have Zh27:=Lib.hid h27
 clear h27
 have Zh7:=Lib.hid h7
 clear h7
 have HOk:=Lib.hid h
 have hx:=h.1
 have HXA:=Lib.hid (show 0 < n → ∀ ad,A = some ad → ad.block < w.heap.size from fun h0 ad e => by
  obtain ⟨g,o,e2,h⟩:=hx.2 h0
  have h1:=lt_of_cell (h 0 (by rw [hx.1];exact h0))
  rw [e] at e2
  cases e2
  exact h1)
 clear h hx
 go_enter Tryz.func78,Tryz.ntmps78
 go_upto_region 1 with (fail)
 generalize hw1 : (w.alloc (.cells #[.int .i64 5,.int .i64 pv,.slice A n c] 50)).alloc _ = w1
 obtain ⟨hb0,hb1,hbw,hz⟩:=sb2 hw1
 have HB0a:=Lib.hid hb0
 have HB1a:=Lib.hid (show ∃ old,Sb w1 (w.heap.size + 1) old 50 ∧ old.size = 3 from ⟨_,hb1,rfl⟩)
 have hz1 : w.heap.size + 1 < w1.heap.size:=by omega
 have hz0 : w.heap.size < w1.heap.size:=by omega
 have y0:=HB0a.out.cell 0 (v:=.int .i64 5) rfl
 have y1:=HB0a.out.cell 1 (v:=.int .i64 pv) rfl
 have y2:=HB0a.out.cell 2 (v:=.slice A n c) rfl
 clear hw1 hb0 hb1 hz
 go_upto_region 3 with (first
  | (go_at_call 70;refine (rvalid14_ok 5 pv A n c xs _ (HOk.out.up (show Bw w _ from BWX))).mono ?_;rintro ee wv ⟨rfl,hbv⟩;have z0:=(HB0a.out.up hbv).cell 0 (v:=.int .i64 5) rfl;have z1:=(HB0a.out.up hbv).cell 1 (v:=.int .i64 pv) rfl;have z2:=(HB0a.out.up hbv).cell 2 (v:=.slice A n c) rfl;have HBV:=Lib.hid hbv;clear hbv y0 y1 y2)
  | fail)
 have hbv:=HBV.out
 have HB0:=Lib.hid (HB0a.out.up hbv)
 have HB1:=Lib.hid (Exists.elim HB1a.out (fun old h => (⟨old,h.1.up hbv,h.2⟩ : ∃ old,Sb wv (w.heap.size + 1) old 50 ∧ old.size = 3)))
 have hbw2 : Bw w wv:=Bw.trans hbw hbv
 have hz2 : w.heap.size + 1 < wv.heap.size:=by have:=hbv.size;omega
 have hz02 : w.heap.size < wv.heap.size:=by omega
 have HOk1:=Lib.hid (HOk.out.up hbw2)
 clear HBV HB0a HB1a hz1 hz0 hbw hbv
 have h24:=Zh24.out
 have h26:=Zh26.out
 have h27:=Zh27.out
 have h7:=Zh7.out
 go_upto_region 17 with ((go_at_call 100;refine (rin_any _ _ _ _).mono ?_;rintro ee ww ⟨rfl,rfl⟩;(first|rw [inB_yes (by omega) (by omega)]|rw [inB_no (by omega)])))
 go_wp2_with (first
  | ((with_reducible refine wpList_store_scn 5 pv A n c (w.heap.size + 1) (.tmp 4) (.tmp 77) rfl rfl ?_ ?_ ?_ ?_);(focus rfl);(focus rfl);(focus (exact HB1.out));intro w3 hS3 hg3;have HS3:=Lib.hid hS3;have HG3:=Lib.hid hg3;clear hS3 hg3)
  | (go_at_call 100;refine (rin_any _ _ _ _).mono ?_;rintro ee ww ⟨rfl,rfl⟩;(first|rw [inB_yes (by omega) (by omega)]|rw [inB_no (by omega)]))
  | fail)
 refine bodyPost_ret (results_scn rfl _ _ (w.heap.size + 1) 5 pv A n c (by rfl) HS3.out) rfl ?_
 exact ⟨5,pv,A,n,c,xs,none,0,0,[],rfl,HOk1.out.far0 HG3.out (fun h0 ad e => by have:=HXA.out h0 ad e;intro e2;have:=Option.some.inj e2;omega),OpsL.nil_ _,by omega,by omega,by omega,Bw.grown (hbw2) HG3.out (fun k hk => by cases hk;omega),(by have hs3:=HG3.out.size;(try have hs5:=HG5.out.size);refine ⟨fun ad e => ?_,fun ad e => ?_,fun o ho ad e => ?_⟩;(focus (first|(cases e;done)|(right;exact e.symm)|(left;cases e;dsimp only;simp only [szA,szS,szD,szN] at *;omega)|(left;cases e;dsimp only;omega)));(focus (first|(cases e;done)|(cases e;dsimp only;omega)|(cases e;dsimp only;simp only [szA,szS,szD,szN] at *;omega)));(focus (first|(cases ho;done)|(simp only [List.mem_singleton] at ho;subst ho;dsimp only at e;first|(cases e;done)|(cases e;dsimp only;omega))))),fun hT => hT.up (show Bw w w3 from Bw.grown (show Bw w _ from BWX) HG3.out (fun k hk => by cases hk;omega)),fun o ho => by first|(cases ho;done)|(simp only [List.mem_singleton] at ho;subst ho;exact TyA.none _)⟩

set_option maxRecDepth 100000 in
set_option maxHeartbeats 4000000 in
theorem rnext_6x24 (code pv : Int) (A : Option Addr) (n c : Nat) (xs : List Int) (w : World) (h : ScnOk w 6 pv A n c xs) (hk : code = 24) : Calls Tryz.prog 78 #[.agg #[.int .i64 6,.int .i64 pv,.slice A n c],.int .i64 code] w (Nxt w A):=by
 have Zhk:=Lib.hid hk
 clear hk
 have HOk:=Lib.hid h
 have hx:=h.1
 have HXA:=Lib.hid (show 0 < n → ∀ ad,A = some ad → ad.block < w.heap.size from fun h0 ad e => by
  obtain ⟨g,o,e2,h⟩:=hx.2 h0
  have h1:=lt_of_cell (h 0 (by rw [hx.1];exact h0))
  rw [e] at e2
  cases e2
  exact h1)
 clear h hx
 go_enter Tryz.func78,Tryz.ntmps78
 go_upto_region 1 with (fail)
 generalize hw1 : (w.alloc (.cells #[.int .i64 6,.int .i64 pv,.slice A n c] 50)).alloc _ = w1
 obtain ⟨hb0,hb1,hbw,hz⟩:=sb2 hw1
 have HB0a:=Lib.hid hb0
 have HB1a:=Lib.hid (show ∃ old,Sb w1 (w.heap.size + 1) old 50 ∧ old.size = 3 from ⟨_,hb1,rfl⟩)
 have hz1 : w.heap.size + 1 < w1.heap.size:=by omega
 have hz0 : w.heap.size < w1.heap.size:=by omega
 have y0:=HB0a.out.cell 0 (v:=.int .i64 6) rfl
 have y1:=HB0a.out.cell 1 (v:=.int .i64 pv) rfl
 have y2:=HB0a.out.cell 2 (v:=.slice A n c) rfl
 clear hw1 hb0 hb1 hz
 go_upto_region 3 with (first
  | (go_at_call 70;refine (rvalid14_ok 6 pv A n c xs _ (HOk.out.up (show Bw w _ from BWX))).mono ?_;rintro ee wv ⟨rfl,hbv⟩;have z0:=(HB0a.out.up hbv).cell 0 (v:=.int .i64 6) rfl;have z1:=(HB0a.out.up hbv).cell 1 (v:=.int .i64 pv) rfl;have z2:=(HB0a.out.up hbv).cell 2 (v:=.slice A n c) rfl;have HBV:=Lib.hid hbv;clear hbv y0 y1 y2)
  | fail)
 have hbv:=HBV.out
 have HB0:=Lib.hid (HB0a.out.up hbv)
 have HB1:=Lib.hid (Exists.elim HB1a.out (fun old h => (⟨old,h.1.up hbv,h.2⟩ : ∃ old,Sb wv (w.heap.size + 1) old 50 ∧ old.size = 3)))
 have hbw2 : Bw w wv:=Bw.trans hbw hbv
 have hz2 : w.heap.size + 1 < wv.heap.size:=by have:=hbv.size;omega
 have hz02 : w.heap.size < wv.heap.size:=by omega
 have HOk1:=Lib.hid (HOk.out.up hbw2)
 clear HBV HB0a HB1a hz1 hz0 hbw hbv
 have hk:=Zhk.out
 subst hk
 go_upto_region 5 with ((go_at_call 100;refine (rin_any _ _ _ _).mono ?_;rintro ee ww ⟨rfl,rfl⟩;(first|rw [inB_yes (by omega) (by omega)]|rw [inB_no (by omega)])))
 go_wp2_with (first
  | (go_at_call 77;refine (rto_any 0 _).mono ?_;rintro ee wt ⟨rfl,hbt⟩;have hbt':=Lib.hid hbt;clear hbt)
  | ((with_reducible refine wpList_store_scn 0 0 none 0 0 (w.heap.size + 1) (.tmp 4) (.tmp 26) rfl rfl ?_ ?_ ?_ ?_);(focus rfl);(focus rfl);(focus (exact Exists.elim HB1.out (fun old h => ⟨old,h.1.up hbt'.out,h.2⟩)));intro w3 hS3 hg3;have HS3:=Lib.hid hS3;have HG3:=Lib.hid hg3;clear hS3 hg3)
  | (go_at_call 100;refine (rin_any _ _ _ _).mono ?_;rintro ee ww ⟨rfl,rfl⟩;(first|rw [inB_yes (by omega) (by omega)]|rw [inB_no (by omega)]))
  | fail)
 refine bodyPost_ret (results_scn rfl _ _ (w.heap.size + 1) 0 0 none 0 0 (by rfl) HS3.out) rfl ?_
 exact ⟨0,0,none,0,0,[],none,0,0,[],rfl,ScnOk.to _ _ (by omega),OpsL.nil_ _,by omega,by omega,by omega,Bw.grown (Bw.trans hbw2 hbt'.out) HG3.out (fun k hk => by cases hk;omega),(by have hs3:=HG3.out.size;(try have hs5:=HG5.out.size);refine ⟨fun ad e => ?_,fun ad e => ?_,fun o ho ad e => ?_⟩;(focus (first|(cases e;done)|(right;exact e.symm)|(left;cases e;dsimp only;simp only [szA,szS,szD,szN] at *;omega)|(left;cases e;dsimp only;omega)));(focus (first|(cases e;done)|(cases e;dsimp only;omega)|(cases e;dsimp only;simp only [szA,szS,szD,szN] at *;omega)));(focus (first|(cases ho;done)|(simp only [List.mem_singleton] at ho;subst ho;dsimp only at e;first|(cases e;done)|(cases e;dsimp only;omega))))),fun _ => TyA.none _,fun o ho => by first|(cases ho;done)|(simp only [List.mem_singleton] at ho;subst ho;exact TyA.none _)⟩

set_option maxRecDepth 100000 in
set_option maxHeartbeats 4000000 in
theorem rnext_6x26 (code pv : Int) (A : Option Addr) (n c : Nat) (xs : List Int) (w : World) (h : ScnOk w 6 pv A n c xs) (hk : code = 26) : Calls Tryz.prog 78 #[.agg #[.int .i64 6,.int .i64 pv,.slice A n c],.int .i64 code] w (Nxt w A):=by
 have Zhk:=Lib.hid hk
 clear hk
 have HOk:=Lib.hid h
 have hx:=h.1
 have HXA:=Lib.hid (show 0 < n → ∀ ad,A = some ad → ad.block < w.heap.size from fun h0 ad e => by
  obtain ⟨g,o,e2,h⟩:=hx.2 h0
  have h1:=lt_of_cell (h 0 (by rw [hx.1];exact h0))
  rw [e] at e2
  cases e2
  exact h1)
 clear h hx
 go_enter Tryz.func78,Tryz.ntmps78
 go_upto_region 1 with (fail)
 generalize hw1 : (w.alloc (.cells #[.int .i64 6,.int .i64 pv,.slice A n c] 50)).alloc _ = w1
 obtain ⟨hb0,hb1,hbw,hz⟩:=sb2 hw1
 have HB0a:=Lib.hid hb0
 have HB1a:=Lib.hid (show ∃ old,Sb w1 (w.heap.size + 1) old 50 ∧ old.size = 3 from ⟨_,hb1,rfl⟩)
 have hz1 : w.heap.size + 1 < w1.heap.size:=by omega
 have hz0 : w.heap.size < w1.heap.size:=by omega
 have y0:=HB0a.out.cell 0 (v:=.int .i64 6) rfl
 have y1:=HB0a.out.cell 1 (v:=.int .i64 pv) rfl
 have y2:=HB0a.out.cell 2 (v:=.slice A n c) rfl
 clear hw1 hb0 hb1 hz
 go_upto_region 3 with (first
  | (go_at_call 70;refine (rvalid14_ok 6 pv A n c xs _ (HOk.out.up (show Bw w _ from BWX))).mono ?_;rintro ee wv ⟨rfl,hbv⟩;have z0:=(HB0a.out.up hbv).cell 0 (v:=.int .i64 6) rfl;have z1:=(HB0a.out.up hbv).cell 1 (v:=.int .i64 pv) rfl;have z2:=(HB0a.out.up hbv).cell 2 (v:=.slice A n c) rfl;have HBV:=Lib.hid hbv;clear hbv y0 y1 y2)
  | fail)
 have hbv:=HBV.out
 have HB0:=Lib.hid (HB0a.out.up hbv)
 have HB1:=Lib.hid (Exists.elim HB1a.out (fun old h => (⟨old,h.1.up hbv,h.2⟩ : ∃ old,Sb wv (w.heap.size + 1) old 50 ∧ old.size = 3)))
 have hbw2 : Bw w wv:=Bw.trans hbw hbv
 have hz2 : w.heap.size + 1 < wv.heap.size:=by have:=hbv.size;omega
 have hz02 : w.heap.size < wv.heap.size:=by omega
 have HOk1:=Lib.hid (HOk.out.up hbw2)
 clear HBV HB0a HB1a hz1 hz0 hbw hbv
 have hk:=Zhk.out
 subst hk
 go_upto_region 5 with ((go_at_call 100;refine (rin_any _ _ _ _).mono ?_;rintro ee ww ⟨rfl,rfl⟩;(first|rw [inB_yes (by omega) (by omega)]|rw [inB_no (by omega)])))
 go_wp2_with (first
  | (go_at_call 77;refine (rto_any 0 _).mono ?_;rintro ee wt ⟨rfl,hbt⟩;have hbt':=Lib.hid hbt;clear hbt)
  | ((with_reducible refine wpList_store_scn 0 0 none 0 0 (w.heap.size + 1) (.tmp 4) (.tmp 26) rfl rfl ?_ ?_ ?_ ?_);(focus rfl);(focus rfl);(focus (exact Exists.elim HB1.out (fun old h => ⟨old,h.1.up hbt'.out,h.2⟩)));intro w3 hS3 hg3;have HS3:=Lib.hid hS3;have HG3:=Lib.hid hg3;clear hS3 hg3)
  | (go_at_call 100;refine (rin_any _ _ _ _).mono ?_;rintro ee ww ⟨rfl,rfl⟩;(first|rw [inB_yes (by omega) (by omega)]|rw [inB_no (by omega)]))
  | fail)
 refine bodyPost_ret (results_scn rfl _ _ (w.heap.size + 1) 0 0 none 0 0 (by rfl) HS3.out) rfl ?_
 exact ⟨0,0,none,0,0,[],none,0,0,[],rfl,ScnOk.to _ _ (by omega),OpsL.nil_ _,by omega,by omega,by omega,Bw.grown (Bw.trans hbw2 hbt'.out) HG3.out (fun k hk => by cases hk;omega),(by have hs3:=HG3.out.size;(try have hs5:=HG5.out.size);refine ⟨fun ad e => ?_,fun ad e => ?_,fun o ho ad e => ?_⟩;(focus (first|(cases e;done)|(right;exact e.symm)|(left;cases e;dsimp only;simp only [szA,szS,szD,szN] at *;omega)|(left;cases e;dsimp only;omega)));(focus (first|(cases e;done)|(cases e;dsimp only;omega)|(cases e;dsimp only;simp only [szA,szS,szD,szN] at *;omega)));(focus (first|(cases ho;done)|(simp only [List.mem_singleton] at ho;subst ho;dsimp only at e;first|(cases e;done)|(cases e;dsimp only;omega))))),fun _ => TyA.none _,fun o ho => by first|(cases ho;done)|(simp only [List.mem_singleton] at ho;subst ho;exact TyA.none _)⟩

set_option maxRecDepth 100000 in
set_option maxHeartbeats 4000000 in
theorem rnext_6x27 (code pv : Int) (A : Option Addr) (n c : Nat) (xs : List Int) (w : World) (h : ScnOk w 6 pv A n c xs) (hk : code = 27) : Calls Tryz.prog 78 #[.agg #[.int .i64 6,.int .i64 pv,.slice A n c],.int .i64 code] w (Nxt w A):=by
 have Zhk:=Lib.hid hk
 clear hk
 have HOk:=Lib.hid h
 have hx:=h.1
 have HXA:=Lib.hid (show 0 < n → ∀ ad,A = some ad → ad.block < w.heap.size from fun h0 ad e => by
  obtain ⟨g,o,e2,h⟩:=hx.2 h0
  have h1:=lt_of_cell (h 0 (by rw [hx.1];exact h0))
  rw [e] at e2
  cases e2
  exact h1)
 clear h hx
 go_enter Tryz.func78,Tryz.ntmps78
 go_upto_region 1 with (fail)
 generalize hw1 : (w.alloc (.cells #[.int .i64 6,.int .i64 pv,.slice A n c] 50)).alloc _ = w1
 obtain ⟨hb0,hb1,hbw,hz⟩:=sb2 hw1
 have HB0a:=Lib.hid hb0
 have HB1a:=Lib.hid (show ∃ old,Sb w1 (w.heap.size + 1) old 50 ∧ old.size = 3 from ⟨_,hb1,rfl⟩)
 have hz1 : w.heap.size + 1 < w1.heap.size:=by omega
 have hz0 : w.heap.size < w1.heap.size:=by omega
 have y0:=HB0a.out.cell 0 (v:=.int .i64 6) rfl
 have y1:=HB0a.out.cell 1 (v:=.int .i64 pv) rfl
 have y2:=HB0a.out.cell 2 (v:=.slice A n c) rfl
 clear hw1 hb0 hb1 hz
 go_upto_region 3 with (first
  | (go_at_call 70;refine (rvalid14_ok 6 pv A n c xs _ (HOk.out.up (show Bw w _ from BWX))).mono ?_;rintro ee wv ⟨rfl,hbv⟩;have z0:=(HB0a.out.up hbv).cell 0 (v:=.int .i64 6) rfl;have z1:=(HB0a.out.up hbv).cell 1 (v:=.int .i64 pv) rfl;have z2:=(HB0a.out.up hbv).cell 2 (v:=.slice A n c) rfl;have HBV:=Lib.hid hbv;clear hbv y0 y1 y2)
  | fail)
 have hbv:=HBV.out
 have HB0:=Lib.hid (HB0a.out.up hbv)
 have HB1:=Lib.hid (Exists.elim HB1a.out (fun old h => (⟨old,h.1.up hbv,h.2⟩ : ∃ old,Sb wv (w.heap.size + 1) old 50 ∧ old.size = 3)))
 have hbw2 : Bw w wv:=Bw.trans hbw hbv
 have hz2 : w.heap.size + 1 < wv.heap.size:=by have:=hbv.size;omega
 have hz02 : w.heap.size < wv.heap.size:=by omega
 have HOk1:=Lib.hid (HOk.out.up hbw2)
 clear HBV HB0a HB1a hz1 hz0 hbw hbv
 have hk:=Zhk.out
 subst hk
 go_upto_region 7 with ((go_at_call 100;refine (rin_any _ _ _ _).mono ?_;rintro ee ww ⟨rfl,rfl⟩;(first|rw [inB_yes (by omega) (by omega)]|rw [inB_no (by omega)])))
 go_wp2_with (first
  | (go_at_call 77;refine (rto_any 6 _).mono ?_;rintro ee wt ⟨rfl,hbt⟩;have hbt':=Lib.hid hbt;clear hbt)
  | ((with_reducible refine wpList_store_scn 6 0 none 0 0 (w.heap.size + 1) (.tmp 4) (.tmp 33) rfl rfl ?_ ?_ ?_ ?_);(focus rfl);(focus rfl);(focus (exact Exists.elim HB1.out (fun old h => ⟨old,h.1.up hbt'.out,h.2⟩)));intro w3 hS3 hg3;have HS3:=Lib.hid hS3;have HG3:=Lib.hid hg3;clear hS3 hg3)
  | (go_at_call 100;refine (rin_any _ _ _ _).mono ?_;rintro ee ww ⟨rfl,rfl⟩;(first|rw [inB_yes (by omega) (by omega)]|rw [inB_no (by omega)]))
  | fail)
 refine bodyPost_ret (results_scn rfl _ _ (w.heap.size + 1) 6 0 none 0 0 (by rfl) HS3.out) rfl ?_
 exact ⟨6,0,none,0,0,[],none,0,0,[],rfl,ScnOk.to _ _ (by omega),OpsL.nil_ _,by omega,by omega,by omega,Bw.grown (Bw.trans hbw2 hbt'.out) HG3.out (fun k hk => by cases hk;omega),(by have hs3:=HG3.out.size;(try have hs5:=HG5.out.size);refine ⟨fun ad e => ?_,fun ad e => ?_,fun o ho ad e => ?_⟩;(focus (first|(cases e;done)|(right;exact e.symm)|(left;cases e;dsimp only;simp only [szA,szS,szD,szN] at *;omega)|(left;cases e;dsimp only;omega)));(focus (first|(cases e;done)|(cases e;dsimp only;omega)|(cases e;dsimp only;simp only [szA,szS,szD,szN] at *;omega)));(focus (first|(cases ho;done)|(simp only [List.mem_singleton] at ho;subst ho;dsimp only at e;first|(cases e;done)|(cases e;dsimp only;omega))))),fun _ => TyA.none _,fun o ho => by first|(cases ho;done)|(simp only [List.mem_singleton] at ho;subst ho;exact TyA.none _)⟩

set_option maxRecDepth 100000 in
set_option maxHeartbeats 4000000 in
theorem rnext_6x92 (code pv : Int) (A : Option Addr) (n c : Nat) (xs : List Int) (w : World) (h : ScnOk w 6 pv A n c xs) (hk : code = 92) : Calls Tryz.prog 78 #[.agg #[.int .i64 6,.int .i64 pv,.slice A n c],.int .i64 code] w (Nxt w A):=by
 have Zhk:=Lib.hid hk
 clear hk
 have HOk:=Lib.hid h
 have hx:=h.1
 have HXA:=Lib.hid (show 0 < n → ∀ ad,A = some ad → ad.block < w.heap.size from fun h0 ad e => by
  obtain ⟨g,o,e2,h⟩:=hx.2 h0
  have h1:=lt_of_cell (h 0 (by rw [hx.1];exact h0))
  rw [e] at e2
  cases e2
  exact h1)
 clear h hx
 go_enter Tryz.func78,Tryz.ntmps78
 go_upto_region 1 with (fail)
 generalize hw1 : (w.alloc (.cells #[.int .i64 6,.int .i64 pv,.slice A n c] 50)).alloc _ = w1
 obtain ⟨hb0,hb1,hbw,hz⟩:=sb2 hw1
 have HB0a:=Lib.hid hb0
 have HB1a:=Lib.hid (show ∃ old,Sb w1 (w.heap.size + 1) old 50 ∧ old.size = 3 from ⟨_,hb1,rfl⟩)
 have hz1 : w.heap.size + 1 < w1.heap.size:=by omega
 have hz0 : w.heap.size < w1.heap.size:=by omega
 have y0:=HB0a.out.cell 0 (v:=.int .i64 6) rfl
 have y1:=HB0a.out.cell 1 (v:=.int .i64 pv) rfl
 have y2:=HB0a.out.cell 2 (v:=.slice A n c) rfl
 clear hw1 hb0 hb1 hz
 go_upto_region 3 with (first
  | (go_at_call 70;refine (rvalid14_ok 6 pv A n c xs _ (HOk.out.up (show Bw w _ from BWX))).mono ?_;rintro ee wv ⟨rfl,hbv⟩;have z0:=(HB0a.out.up hbv).cell 0 (v:=.int .i64 6) rfl;have z1:=(HB0a.out.up hbv).cell 1 (v:=.int .i64 pv) rfl;have z2:=(HB0a.out.up hbv).cell 2 (v:=.slice A n c) rfl;have HBV:=Lib.hid hbv;clear hbv y0 y1 y2)
  | fail)
 have hbv:=HBV.out
 have HB0:=Lib.hid (HB0a.out.up hbv)
 have HB1:=Lib.hid (Exists.elim HB1a.out (fun old h => (⟨old,h.1.up hbv,h.2⟩ : ∃ old,Sb wv (w.heap.size + 1) old 50 ∧ old.size = 3)))
 have hbw2 : Bw w wv:=Bw.trans hbw hbv
 have hz2 : w.heap.size + 1 < wv.heap.size:=by have:=hbv.size;omega
 have hz02 : w.heap.size < wv.heap.size:=by omega
 have HOk1:=Lib.hid (HOk.out.up hbw2)
 clear HBV HB0a HB1a hz1 hz0 hbw hbv
 have hk:=Zhk.out
 subst hk
 go_upto_region 11 with ((go_at_call 100;refine (rin_any _ _ _ _).mono ?_;rintro ee ww ⟨rfl,rfl⟩;(first|rw [inB_yes (by omega) (by omega)]|rw [inB_no (by omega)])))
 go_wp2_with (first
  | (go_at_call 77;refine (rto_any 0 _).mono ?_;rintro ee wt ⟨rfl,hbt⟩;have hbt':=Lib.hid hbt;clear hbt)
  | ((with_reducible refine wpList_store_scn 0 0 none 0 0 (w.heap.size + 1) (.tmp 4) (.tmp 46) rfl rfl ?_ ?_ ?_ ?_);(focus rfl);(focus rfl);(focus (exact Exists.elim HB1.out (fun old h => ⟨old,h.1.up hbt'.out,h.2⟩)));intro w3 hS3 hg3;have HS3:=Lib.hid hS3;have HG3:=Lib.hid hg3;clear hS3 hg3)
  | (go_at_call 100;refine (rin_any _ _ _ _).mono ?_;rintro ee ww ⟨rfl,rfl⟩;(first|rw [inB_yes (by omega) (by omega)]|rw [inB_no (by omega)]))
  | fail)
 refine bodyPost_ret (results_scn rfl _ _ (w.heap.size + 1) 0 0 none 0 0 (by rfl) HS3.out) rfl ?_
 exact ⟨0,0,none,0,0,[],none,0,0,[],rfl,ScnOk.to _ _ (by omega),OpsL.nil_ _,by omega,by omega,by omega,Bw.grown (Bw.trans hbw2 hbt'.out) HG3.out (fun k hk => by cases hk;omega),(by have hs3:=HG3.out.size;(try have hs5:=HG5.out.size);refine ⟨fun ad e => ?_,fun ad e => ?_,fun o ho ad e => ?_⟩;(focus (first|(cases e;done)|(right;exact e.symm)|(left;cases e;dsimp only;simp only [szA,szS,szD,szN] at *;omega)|(left;cases e;dsimp only;omega)));(focus (first|(cases e;done)|(cases e;dsimp only;omega)|(cases e;dsimp only;simp only [szA,szS,szD,szN] at *;omega)));(focus (first|(cases ho;done)|(simp only [List.mem_singleton] at ho;subst ho;dsimp only at e;first|(cases e;done)|(cases e;dsimp only;omega))))),fun _ => TyA.none _,fun o ho => by first|(cases ho;done)|(simp only [List.mem_singleton] at ho;subst ho;exact TyA.none _)⟩
end Go.Proofs.YteebdjmjeahccaaGreatDoor
