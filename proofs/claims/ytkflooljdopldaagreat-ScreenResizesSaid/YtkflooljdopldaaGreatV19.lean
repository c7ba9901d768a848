/- Parts of the proof, one after the other. -/
import Derived.Test.YtkflooljdopldaaGreatV18
set_option linter.unusedSimpArgs false
set_option linter.unusedVariables false
/- Scanners: the reference's Next: 1skip, 1esc, 2a, 2b. -/
namespace Go.Proofs.YtkflooljdopldaaGreat
open Go.RowKit
set_option maxRecDepth 100000 in
set_option maxHeartbeats 4000000 in
theorem rnext_1skip (code pv : Int) (A : Option Addr) (n c : Nat) (xs : List Int) (w : World) (h : ScnOk w 1 pv A n c xs) (hlo : 32 ≤ code) (hhi : code ≤ 47) (h24 : (code == 24) = false) (h26 : (code == 26) = false) (h27 : (code == 27) = false) (h127 : (code == 127) = false) (h91 : (code == 91) = false) (h80 : (code == 80) = false) (h88 : (code == 88) = false) : Calls Tryz.prog 84 #[.agg #[.int .i64 1,.int .i64 pv,.slice A n c],.int .i64 code] w (Nxt w A):=by
 have Zhlo:=Lib.hid hlo
 clear hlo
 have Zhhi:=Lib.hid hhi
 clear hhi
 have Zh24:=Lib.hid h24
 clear h24
 have Zh26:=Lib.hid h26
 clear h26
 have Zh27:=Lib.hid h27
 clear h27
 have Zh127:=Lib.hid h127
 clear h127
 have Zh91:=Lib.hid h91
 clear h91
 have Zh80:=Lib.hid h80
 clear h80
 have Zh88:=Lib.hid h88
 clear h88
 have HOk:=Lib.hid h
 have hx:=h.1
 have HXA:=Lib.hid (show 0 < n → ∀ ad,A = some ad → ad.block < w.heap.size from fun h0 ad e => by
  obtain ⟨g,o,e2,h⟩:=hx.2 h0
  have h1:=lt_of_cell (h 0 (by rw [hx.1];exact h0))
  rw [e] at e2
  cases e2
  exact h1)
 clear h hx
 go_enter Tryz.func84,Tryz.ntmps84
 go_upto_region 1 with (fail)
 generalize hw1 : (w.alloc (.cells #[.int .i64 1,.int .i64 pv,.slice A n c] 39)).alloc _ = w1
 obtain ⟨hb0,hb1,hbw,hz⟩:=sb2 hw1
 have HB0a:=Lib.hid hb0
 have HB1a:=Lib.hid (show ∃ old,Sb w1 (w.heap.size + 1) old 39 ∧ old.size = 3 from ⟨_,hb1,rfl⟩)
 have hz1 : w.heap.size + 1 < w1.heap.size:=by omega
 have hz0 : w.heap.size < w1.heap.size:=by omega
 have y0:=HB0a.out.cell 0 (v:=.int .i64 1) rfl
 have y1:=HB0a.out.cell 1 (v:=.int .i64 pv) rfl
 have y2:=HB0a.out.cell 2 (v:=.slice A n c) rfl
 clear hw1 hb0 hb1 hz
 go_upto_region 3 with (first
  | (go_at_call 80;refine (rvalid14_ok 1 pv A n c xs _ (HOk.out.up (show Bw w _ from BWX))).mono ?_;rintro ee wv ⟨rfl,hbv⟩;have z0:=(HB0a.out.up hbv).cell 0 (v:=.int .i64 1) rfl;have z1:=(HB0a.out.up hbv).cell 1 (v:=.int .i64 pv) rfl;have z2:=(HB0a.out.up hbv).cell 2 (v:=.slice A n c) rfl;have HBV:=Lib.hid hbv;clear hbv y0 y1 y2)
  | fail)
 have hbv:=HBV.out
 have HB0:=Lib.hid (HB0a.out.up hbv)
 have HB1:=Lib.hid (Exists.elim HB1a.out (fun old h => (⟨old,h.1.up hbv,h.2⟩ : ∃ old,Sb wv (w.heap.size + 1) old 39 ∧ old.size = 3)))
 have hbw2 : Bw w wv:=Bw.trans hbw hbv
 have hz2 : w.heap.size + 1 < wv.heap.size:=by have:=hbv.size;omega
 have hz02 : w.heap.size < wv.heap.size:=by omega
 have HOk1:=Lib.hid (HOk.out.up hbw2)
 clear HBV HB0a HB1a hz1 hz0 hbw hbv
 have hlo:=Zhlo.out
 have hhi:=Zhhi.out
 have h24:=Zh24.out
 have h26:=Zh26.out
 have h27:=Zh27.out
 have h127:=Zh127.out
 have h91:=Zh91.out
 have h80:=Zh80.out
 have h88:=Zh88.out
 go_upto_region 35 with ((go_at_call 102;refine (rin_any _ _ _ _).mono ?_;rintro ee ww ⟨rfl,rfl⟩;(first|rw [inB_yes (by omega) (by omega)]|rw [inB_no (by omega)])))
 go_wp2_with (first
  | (go_at_call 83;refine (rto_any 2 _).mono ?_;rintro ee wt ⟨rfl,hbt⟩;have hbt':=Lib.hid hbt;clear hbt)
  | ((with_reducible refine wpList_store_scn 2 0 none 0 0 (w.heap.size + 1) (.tmp 4) (.tmp 137) rfl rfl ?_ ?_ ?_ ?_);(focus rfl);(focus rfl);(focus (exact Exists.elim HB1.out (fun old h => ⟨old,h.1.up hbt'.out,h.2⟩)));intro w3 hS3 hg3;have HS3:=Lib.hid hS3;have HG3:=Lib.hid hg3;clear hS3 hg3)
  | (go_at_call 102;refine (rin_any _ _ _ _).mono ?_;rintro ee ww ⟨rfl,rfl⟩;(first|rw [inB_yes (by omega) (by omega)]|rw [inB_no (by omega)]))
  | fail)
 refine bodyPost_ret (results_scn rfl _ _ (w.heap.size + 1) 2 0 none 0 0 (by rfl) HS3.out) rfl ?_
 exact ⟨2,0,none,0,0,[],none,0,0,[],rfl,ScnOk.to _ _ (by omega),OpsL.nil_ _,by omega,by omega,by omega,Bw.grown (Bw.trans hbw2 hbt'.out) HG3.out (fun k hk => by cases hk;omega),(by have hs3:=HG3.out.size;(try have hs5:=HG5.out.size);refine ⟨fun ad e => ?_,fun ad e => ?_,fun o ho ad e => ?_⟩;(focus (first|(cases e;done)|(right;exact e.symm)|(left;cases e;dsimp only;simp only [szA,szS,szD,szN] at *;omega)|(left;cases e;dsimp only;omega)));(focus (first|(cases e;done)|(cases e;dsimp only;omega)|(cases e;dsimp only;simp only [szA,szS,szD,szN] at *;omega)));(focus (first|(cases ho;done)|(simp only [List.mem_singleton] at ho;subst ho;dsimp only at e;first|(cases e;done)|(cases e;dsimp only;omega))))),fun _ => TyA.none _,fun o ho => by first|(cases ho;done)|(simp only [List.mem_singleton] at ho;subst ho;exact TyA.none _)⟩

set_option maxRecDepth 100000 in
set_option maxHeartbeats 4000000 in
theorem rnext_1esc (code pv : Int) (A : Option Addr) (n c : Nat) (xs : List Int) (w : World) (h : ScnOk w 1 pv A n c xs) (hlo : 48 ≤ code) (hhi : code ≤ 126) (hno : code < 93 ∨ 95 < code) (h24 : (code == 24) = false) (h26 : (code == 26) = false) (h27 : (code == 27) = false) (h127 : (code == 127) = false) (h91 : (code == 91) = false) (h80 : (code == 80) = false) (h88 : (code == 88) = false) : Calls Tryz.prog 84 #[.agg #[.int .i64 1,.int .i64 pv,.slice A n c],.int .i64 code] w (Nxt w A):=by
 have Zhlo:=Lib.hid hlo
 clear hlo
 have Zhhi:=Lib.hid hhi
 clear hhi
 have Zhno:=Lib.hid hno
 clear hno
 have Zh24:=Lib.hid h24
 clear h24
 have Zh26:=Lib.hid h26
 clear h26
 have Zh27:=Lib.hid h27
 clear h27
 have Zh127:=Lib.hid h127
 clear h127
 have Zh91:=Lib.hid h91
 clear h91
 have Zh80:=Lib.hid h80
 clear h80
 have Zh88:=Lib.hid h88
 clear h88
 have HOk:=Lib.hid h
 have hx:=h.1
 have HXA:=Lib.hid (show 0 < n → ∀ ad,A = some ad → ad.block < w.heap.size from fun h0 ad e => by
  obtain ⟨g,o,e2,h⟩:=hx.2 h0
  have h1:=lt_of_cell (h 0 (by rw [hx.1];exact h0))
  rw [e] at e2
  cases e2
  exact h1)
 clear h hx
 go_enter Tryz.func84,Tryz.ntmps84
 go_upto_region 1 with (fail)
 generalize hw1 : (w.alloc (.cells #[.int .i64 1,.int .i64 pv,.slice A n c] 39)).alloc _ = w1
 obtain ⟨hb0,hb1,hbw,hz⟩:=sb2 hw1
 have HB0a:=Lib.hid hb0
 have HB1a:=Lib.hid (show ∃ old,Sb w1 (w.heap.size + 1) old 39 ∧ old.size = 3 from ⟨_,hb1,rfl⟩)
 have hz1 : w.heap.size + 1 < w1.heap.size:=by omega
 have hz0 : w.heap.size < w1.heap.size:=by omega
 have y0:=HB0a.out.cell 0 (v:=.int .i64 1) rfl
 have y1:=HB0a.out.cell 1 (v:=.int .i64 pv) rfl
 have y2:=HB0a.out.cell 2 (v:=.slice A n c) rfl
 clear hw1 hb0 hb1 hz
 go_upto_region 3 with (first
  | (go_at_call 80;refine (rvalid14_ok 1 pv A n c xs _ (HOk.out.up (show Bw w _ from BWX))).mono ?_;rintro ee wv ⟨rfl,hbv⟩;have z0:=(HB0a.out.up hbv).cell 0 (v:=.int .i64 1) rfl;have z1:=(HB0a.out.up hbv).cell 1 (v:=.int .i64 pv) rfl;have z2:=(HB0a.out.up hbv).cell 2 (v:=.slice A n c) rfl;have HBV:=Lib.hid hbv;clear hbv y0 y1 y2)
  | fail)
 have hbv:=HBV.out
 have HB0:=Lib.hid (HB0a.out.up hbv)
 have HB1:=Lib.hid (Exists.elim HB1a.out (fun old h => (⟨old,h.1.up hbv,h.2⟩ : ∃ old,Sb wv (w.heap.size + 1) old 39 ∧ old.size = 3)))
 have hbw2 : Bw w wv:=Bw.trans hbw hbv
 have hz2 : w.heap.size + 1 < wv.heap.size:=by have:=hbv.size;omega
 have hz02 : w.heap.size < wv.heap.size:=by omega
 have HOk1:=Lib.hid (HOk.out.up hbw2)
 clear HBV HB0a HB1a hz1 hz0 hbw hbv
 have hlo:=Zhlo.out
 have hhi:=Zhhi.out
 have hno:=Zhno.out
 have h24:=Zh24.out
 have h26:=Zh26.out
 have h27:=Zh27.out
 have h127:=Zh127.out
 have h91:=Zh91.out
 have h80:=Zh80.out
 have h88:=Zh88.out
 go_upto_region 36 with ((go_at_call 102;refine (rin_any _ _ _ _).mono ?_;rintro ee ww ⟨rfl,rfl⟩;(first|rw [inB_yes (by omega) (by omega)]|rw [inB_no (by omega)])))
 go_wp2_with (first
  | (go_at_call 83;refine (rto_any 0 _).mono ?_;rintro ee wt ⟨rfl,hbt⟩;have hbt':=Lib.hid hbt;have hbt2:=hbt'.out;have hzt:=hbt.size;clear hbt)
  | ((with_reducible refine wpList_store_scn 0 0 none 0 0 (w.heap.size + 1) (.tmp 4) (.tmp 138) rfl rfl ?_ ?_ ?_ ?_);(focus rfl);(focus rfl);(focus (exact Exists.elim HB1.out (fun old h => ⟨old,h.1.up BWX,h.2⟩)));intro w3 hS3 hg3;have HS3:=Lib.hid hS3;have HG3:=Lib.hid hg3;clear hS3 hg3)
  | (go_at_call 102;refine (rin_any _ _ _ _).mono ?_;rintro ee ww ⟨rfl,rfl⟩;(first|rw [inB_yes (by omega) (by omega)]|rw [inB_no (by omega)]))
  | fail)
 refine bodyPost_ret (results_scn rfl _ _ (w.heap.size + 1) 0 0 none 0 0 (by rfl) HS3.out) rfl ?_
 exact ⟨0,0,none,0,0,[],some ⟨_,0,none⟩,1,1,[⟨3,code,0,none,0,0,[]⟩],rfl,ScnOk.to _ _ (by omega),OpsL.one ⟨3,code,0,none,0,0,[]⟩ ((show Sb (World.alloc wt (.cells #[.int .i64 3,.int .i64 code,.int .i64 0,.slice none 0 0] 49)) _ _ 49 from heap_at rfl).far HG3.out (by intro e;have:=Option.some.inj e;omega)) ⟨Rd.nil_ _ none,Nat.le_refl _,by show 0 ≤ 9223372036854775807;omega,by show 0 ≤ 1000;omega⟩,by omega,by omega,by omega,Bw.grown (show Bw w _ from BWX) HG3.out (fun k hk => by cases hk;omega),(by have hs3:=HG3.out.size;(try have hs5:=HG5.out.size);refine ⟨fun ad e => ?_,fun ad e => ?_,fun o ho ad e => ?_⟩;(focus (first|(cases e;done)|(right;exact e.symm)|(left;cases e;dsimp only;simp only [szA,szS,szD,szN] at *;omega)|(left;cases e;dsimp only;omega)));(focus (first|(cases e;done)|(cases e;dsimp only;omega)|(cases e;dsimp only;simp only [szA,szS,szD,szN] at *;omega)));(focus (first|(cases ho;done)|(simp only [List.mem_singleton] at ho;subst ho;dsimp only at e;first|(cases e;done)|(cases e;dsimp only;omega))))),fun _ => TyA.none _,fun o ho => by first|(cases ho;done)|(simp only [List.mem_singleton] at ho;subst ho;exact TyA.none _)⟩

set_option maxRecDepth 100000 in
set_option maxHeartbeats 4000000 in
theorem rnext_2a (code pv : Int) (A : Option Addr) (n c : Nat) (xs : List Int) (w : World) (h : ScnOk w 2 pv A n c xs) (hlo : 32 ≤ code) (hhi : code ≤ 47) (h24 : (code == 24) = false) (h26 : (code == 26) = false) (h27 : (code == 27) = false) (h127 : (code == 127) = false) : Calls Tryz.prog 84 #[.agg #[.int .i64 2,.int .i64 pv,.slice A n c],.int .i64 code] w (Nxt w A):=by
 have Zhlo:=Lib.hid hlo
 clear hlo
 have Zhhi:=Lib.hid hhi
 clear hhi
 have Zh24:=Lib.hid h24
 clear h24
 have Zh26:=Lib.hid h26
 clear h26
 have Zh27:=Lib.hid h27
 clear h27
 have Zh127:=Lib.hid h127
 clear h127
 have HOk:=Lib.hid h
 have hx:=h.1
 have HXA:=Lib.hid (show 0 < n → ∀ ad,A = some ad → ad.block < w.heap.size from fun h0 ad e => by
  obtain ⟨g,o,e2,h⟩:=hx.2 h0
  have h1:=lt_of_cell (h 0 (by rw [hx.1];exact h0))
  rw [e] at e2
  cases e2
  exact h1)
 clear h hx
 go_enter Tryz.func84,Tryz.ntmps84
 go_upto_region 1 with (fail)
 generalize hw1 : (w.alloc (.cells #[.int .i64 2,.int .i64 pv,.slice A n c] 39)).alloc _ = w1
 obtain ⟨hb0,hb1,hbw,hz⟩:=sb2 hw1
 have HB0a:=Lib.hid hb0
 have HB1a:=Lib.hid (show ∃ old,Sb w1 (w.heap.size + 1) old 39 ∧ old.size = 3 from ⟨_,hb1,rfl⟩)
 have hz1 : w.heap.size + 1 < w1.heap.size:=by omega
 have hz0 : w.heap.size < w1.heap.size:=by omega
 have y0:=HB0a.out.cell 0 (v:=.int .i64 2) rfl
 have y1:=HB0a.out.cell 1 (v:=.int .i64 pv) rfl
 have y2:=HB0a.out.cell 2 (v:=.slice A n c) rfl
 clear hw1 hb0 hb1 hz
 go_upto_region 3 with (first
  | (go_at_call 80;refine (rvalid14_ok 2 pv A n c xs _ (HOk.out.up (show Bw w _ from BWX))).mono ?_;rintro ee wv ⟨rfl,hbv⟩;have z0:=(HB0a.out.up hbv).cell 0 (v:=.int .i64 2) rfl;have z1:=(HB0a.out.up hbv).cell 1 (v:=.int .i64 pv) rfl;have z2:=(HB0a.out.up hbv).cell 2 (v:=.slice A n c) rfl;have HBV:=Lib.hid hbv;clear hbv y0 y1 y2)
  | fail)
 have hbv:=HBV.out
 have HB0:=Lib.hid (HB0a.out.up hbv)
 have HB1:=Lib.hid (Exists.elim HB1a.out (fun old h => (⟨old,h.1.up hbv,h.2⟩ : ∃ old,Sb wv (w.heap.size + 1) old 39 ∧ old.size = 3)))
 have hbw2 : Bw w wv:=Bw.trans hbw hbv
 have hz2 : w.heap.size + 1 < wv.heap.size:=by have:=hbv.size;omega
 have hz02 : w.heap.size < wv.heap.size:=by omega
 have HOk1:=Lib.hid (HOk.out.up hbw2)
 clear HBV HB0a HB1a hz1 hz0 hbw hbv
 have hlo:=Zhlo.out
 have hhi:=Zhhi.out
 have h24:=Zh24.out
 have h26:=Zh26.out
 have h27:=Zh27.out
 have h127:=Zh127.out
 go_upto_region 39 with ((go_at_call 102;refine (rin_any _ _ _ _).mono ?_;rintro ee ww ⟨rfl,rfl⟩;(first|rw [inB_yes (by omega) (by omega)]|rw [inB_no (by omega)])))
 go_wp2_with (first
  | ((with_reducible refine wpList_store_scn 2 pv A n c (w.heap.size + 1) (.tmp 4) (.tmp 146) rfl rfl ?_ ?_ ?_ ?_);(focus rfl);(focus rfl);(focus (exact HB1.out));intro w3 hS3 hg3;have HS3:=Lib.hid hS3;have HG3:=Lib.hid hg3;clear hS3 hg3)
  | (go_at_call 102;refine (rin_any _ _ _ _).mono ?_;rintro ee ww ⟨rfl,rfl⟩;(first|rw [inB_yes (by omega) (by omega)]|rw [inB_no (by omega)]))
  | fail)
 refine bodyPost_ret (results_scn rfl _ _ (w.heap.size + 1) 2 pv A n c (by rfl) HS3.out) rfl ?_
 exact ⟨2,pv,A,n,c,xs,none,0,0,[],rfl,HOk1.out.far0 HG3.out (fun h0 ad e => by have:=HXA.out h0 ad e;intro e2;have:=Option.some.inj e2;omega),OpsL.nil_ _,by omega,by omega,by omega,Bw.grown (hbw2) HG3.out (fun k hk => by cases hk;omega),(by have hs3:=HG3.out.size;(try have hs5:=HG5.out.size);refine ⟨fun ad e => ?_,fun ad e => ?_,fun o ho ad e => ?_⟩;(focus (first|(cases e;done)|(right;exact e.symm)|(left;cases e;dsimp only;simp only [szA,szS,szD,szN] at *;omega)|(left;cases e;dsimp only;omega)));(focus (first|(cases e;done)|(cases e;dsimp only;omega)|(cases e;dsimp only;simp only [szA,szS,szD,szN] at *;omega)));(focus (first|(cases ho;done)|(simp only [List.mem_singleton] at ho;subst ho;dsimp only at e;first|(cases e;done)|(cases e;dsimp only;omega))))),fun hT => hT.up (show Bw w w3 from Bw.grown (show Bw w _ from BWX) HG3.out (fun k hk => by cases hk;omega)),fun o ho => by first|(cases ho;done)|(simp only [List.mem_singleton] at ho;subst ho;exact TyA.none _)⟩

set_option maxRecDepth 100000 in
set_option maxHeartbeats 4000000 in
theorem rnext_2b (code pv : Int) (A : Option Addr) (n c : Nat) (xs : List Int) (w : World) (h : ScnOk w 2 pv A n c xs) (hlo : 48 ≤ code) (hhi : code ≤ 126) (h24 : (code == 24) = false) (h26 : (code == 26) = false) (h27 : (code == 27) = false) (h127 : (code == 127) = false) : Calls Tryz.prog 84 #[.agg #[.int .i64 2,.int .i64 pv,.slice A n c],.int .i64 code] w (Nxt w A):=by
 have Zhlo:=Lib.hid hlo
 clear hlo
 have Zhhi:=Lib.hid hhi
 clear hhi
 have Zh24:=Lib.hid h24
 clear h24
 have Zh26:=Lib.hid h26
 clear h26
 have Zh27:=Lib.hid h27
 clear h27
 have Zh127:=Lib.hid h127
 clear h127
 have HOk:=Lib.hid h
 have hx:=h.1
 have HXA:=Lib.hid (show 0 < n → ∀ ad,A = some ad → ad.block < w.heap.size from fun h0 ad e => by
  obtain ⟨g,o,e2,h⟩:=hx.2 h0
  have h1:=lt_of_cell (h 0 (by rw [hx.1];exact h0))
  rw [e] at e2
  cases e2
  exact h1)
 clear h hx
 go_enter Tryz.func84,Tryz.ntmps84
 go_upto_region 1 with (fail)
 generalize hw1 : (w.alloc (.cells #[.int .i64 2,.int .i64 pv,.slice A n c] 39)).alloc _ = w1
 obtain ⟨hb0,hb1,hbw,hz⟩:=sb2 hw1
 have HB0a:=Lib.hid hb0
 have HB1a:=Lib.hid (show ∃ old,Sb w1 (w.heap.size + 1) old 39 ∧ old.size = 3 from ⟨_,hb1,rfl⟩)
 have hz1 : w.heap.size + 1 < w1.heap.size:=by omega
 have hz0 : w.heap.size < w1.heap.size:=by omega
 have y0:=HB0a.out.cell 0 (v:=.int .i64 2) rfl
 have y1:=HB0a.out.cell 1 (v:=.int .i64 pv) rfl
 have y2:=HB0a.out.cell 2 (v:=.slice A n c) rfl
 clear hw1 hb0 hb1 hz
 go_upto_region 3 with (first
  | (go_at_call 80;refine (rvalid14_ok 2 pv A n c xs _ (HOk.out.up (show Bw w _ from BWX))).mono ?_;rintro ee wv ⟨rfl,hbv⟩;have z0:=(HB0a.out.up hbv).cell 0 (v:=.int .i64 2) rfl;have z1:=(HB0a.out.up hbv).cell 1 (v:=.int .i64 pv) rfl;have z2:=(HB0a.out.up hbv).cell 2 (v:=.slice A n c) rfl;have HBV:=Lib.hid hbv;clear hbv y0 y1 y2)
  | fail)
 have hbv:=HBV.out
 have HB0:=Lib.hid (HB0a.out.up hbv)
 have HB1:=Lib.hid (Exists.elim HB1a.out (fun old h => (⟨old,h.1.up hbv,h.2⟩ : ∃ old,Sb wv (w.heap.size + 1) old 39 ∧ old.size = 3)))
 have hbw2 : Bw w wv:=Bw.trans hbw hbv
 have hz2 : w.heap.size + 1 < wv.heap.size:=by have:=hbv.size;omega
 have hz02 : w.heap.size < wv.heap.size:=by omega
 have HOk1:=Lib.hid (HOk.out.up hbw2)
 clear HBV HB0a HB1a hz1 hz0 hbw hbv
 have hlo:=Zhlo.out
 have hhi:=Zhhi.out
 have h24:=Zh24.out
 have h26:=Zh26.out
 have h27:=Zh27.out
 have h127:=Zh127.out
 go_upto_region 40 with ((go_at_call 102;refine (rin_any _ _ _ _).mono ?_;rintro ee ww ⟨rfl,rfl⟩;(first|rw [inB_yes (by omega) (by omega)]|rw [inB_no (by omega)])))
 go_wp2_with (first
  | (go_at_call 83;refine (rto_any 0 _).mono ?_;rintro ee wt ⟨rfl,hbt⟩;have hbt':=Lib.hid hbt;clear hbt)
  | ((with_reducible refine wpList_store_scn 0 0 none 0 0 (w.heap.size + 1) (.tmp 4) (.tmp 147) rfl rfl ?_ ?_ ?_ ?_);(focus rfl);(focus rfl);(focus (exact Exists.elim HB1.out (fun old h => ⟨old,h.1.up hbt'.out,h.2⟩)));intro w3 hS3 hg3;have HS3:=Lib.hid hS3;have HG3:=Lib.hid hg3;clear hS3 hg3)
  | (go_at_call 102;refine (rin_any _ _ _ _).mono ?_;rintro ee ww ⟨rfl,rfl⟩;(first|rw [inB_yes (by omega) (by omega)]|rw [inB_no (by omega)]))
  | fail)
 refine bodyPost_ret (results_scn rfl _ _ (w.heap.size + 1) 0 0 none 0 0 (by rfl) HS3.out) rfl ?_
 exact ⟨0,0,none,0,0,[],none,0,0,[],rfl,ScnOk.to _ _ (by omega),OpsL.nil_ _,by omega,by omega,by omega,Bw.grown (Bw.trans hbw2 hbt'.out) HG3.out (fun k hk => by cases hk;omega),(by have hs3:=HG3.out.size;(try have hs5:=HG5.out.size);refine ⟨fun ad e => ?_,fun ad e => ?_,fun o ho ad e => ?_⟩;(focus (first|(cases e;done)|(right;exact e.symm)|(left;cases e;dsimp only;simp only [szA,szS,szD,szN] at *;omega)|(left;cases e;dsimp only;omega)));(focus (first|(cases e;done)|(cases e;dsimp only;omega)|(cases e;dsimp only;simp only [szA,szS,szD,szN] at *;omega)));(focus (first|(cases ho;done)|(simp only [List.mem_singleton] at ho;subst ho;dsimp only at e;first|(cases e;done)|(cases e;dsimp only;omega))))),fun _ => TyA.none _,fun o ho => by first|(cases ho;done)|(simp only [List.mem_singleton] at ho;subst ho;exact TyA.none _)⟩
set_option maxRecDepth 100000 in
set_option maxHeartbeats 4000000 in
theorem rnext_4a (code pv : Int) (A : Option Addr) (n c : Nat) (xs : List Int) (w : World) (h : ScnOk w 4 pv A n c xs) (hlo : 64 ≤ code) (hhi : code ≤ 126) (h24 : (code == 24) = false) (h26 : (code == 26) = false) (h27 : (code == 27) = false) (h127 : (code == 127) = false) : Calls Tryz.prog 84 #[.agg #[.int .i64 4,.int .i64 pv,.slice A n c],.int .i64 code] w (Nxt w A):=by
 have Zhlo:=Lib.hid hlo
 clear hlo
 have Zhhi:=Lib.hid hhi
 clear hhi
 have Zh24:=Lib.hid h24
 clear h24
 have Zh26:=Lib.hid h26
 clear h26
 have Zh27:=Lib.hid h27
 clear h27
 have Zh127:=Lib.hid h127
 clear h127
 have HOk:=Lib.hid h
 have hx:=h.1
 have HXA:=Lib.hid (show 0 < n → ∀ ad,A = some ad → ad.block < w.heap.size from fun h0 ad e => by
  obtain ⟨g,o,e2,h⟩:=hx.2 h0
  have h1:=lt_of_cell (h 0 (by rw [hx.1];exact h0))
  rw [e] at e2
  cases e2
  exact h1)
 clear h hx
 go_enter Tryz.func84,Tryz.ntmps84
 go_upto_region 1 with (fail)
 generalize hw1 : (w.alloc (.cells #[.int .i64 4,.int .i64 pv,.slice A n c] 39)).alloc _ = w1
 obtain ⟨hb0,hb1,hbw,hz⟩:=sb2 hw1
 have HB0a:=Lib.hid hb0
 have HB1a:=Lib.hid (show ∃ old,Sb w1 (w.heap.size + 1) old 39 ∧ old.size = 3 from ⟨_,hb1,rfl⟩)
 have hz1 : w.heap.size + 1 < w1.heap.size:=by omega
 have hz0 : w.heap.size < w1.heap.size:=by omega
 have y0:=HB0a.out.cell 0 (v:=.int .i64 4) rfl
 have y1:=HB0a.out.cell 1 (v:=.int .i64 pv) rfl
 have y2:=HB0a.out.cell 2 (v:=.slice A n c) rfl
 clear hw1 hb0 hb1 hz
 go_upto_region 3 with (first
  | (go_at_call 80;refine (rvalid14_ok 4 pv A n c xs _ (HOk.out.up (show Bw w _ from BWX))).mono ?_;rintro ee wv ⟨rfl,hbv⟩;have z0:=(HB0a.out.up hbv).cell 0 (v:=.int .i64 4) rfl;have z1:=(HB0a.out.up hbv).cell 1 (v:=.int .i64 pv) rfl;have z2:=(HB0a.out.up hbv).cell 2 (v:=.slice A n c) rfl;have HBV:=Lib.hid hbv;clear hbv y0 y1 y2)
  | fail)
 have hbv:=HBV.out
 have HB0:=Lib.hid (HB0a.out.up hbv)
 have HB1:=Lib.hid (Exists.elim HB1a.out (fun old h => (⟨old,h.1.up hbv,h.2⟩ : ∃ old,Sb wv (w.heap.size + 1) old 39 ∧ old.size = 3)))
 have hbw2 : Bw w wv:=Bw.trans hbw hbv
 have hz2 : w.heap.size + 1 < wv.heap.size:=by have:=hbv.size;omega
 have hz02 : w.heap.size < wv.heap.size:=by omega
 have HOk1:=Lib.hid (HOk.out.up hbw2)
 clear HBV HB0a HB1a hz1 hz0 hbw hbv
 have hlo:=Zhlo.out
 have hhi:=Zhhi.out
 have h24:=Zh24.out
 have h26:=Zh26.out
 have h27:=Zh27.out
 have h127:=Zh127.out
 go_upto_region 42 with ((go_at_call 102;refine (rin_any _ _ _ _).mono ?_;rintro ee ww ⟨rfl,rfl⟩;(first|rw [inB_yes (by omega) (by omega)]|rw [inB_no (by omega)])))
 go_wp2_with (first
  | (go_at_call 83;refine (rto_any 0 _).mono ?_;rintro ee wt ⟨rfl,hbt⟩;have hbt':=Lib.hid hbt;clear hbt)
  | ((with_reducible refine wpList_store_scn 0 0 none 0 0 (w.heap.size + 1) (.tmp 4) (.tmp 150) rfl rfl ?_ ?_ ?_ ?_);(focus rfl);(focus rfl);(focus (exact Exists.elim HB1.out (fun old h => ⟨old,h.1.up hbt'.out,h.2⟩)));intro w3 hS3 hg3;have HS3:=Lib.hid hS3;have HG3:=Lib.hid hg3;clear hS3 hg3)
  | (go_at_call 102;refine (rin_any _ _ _ _).mono ?_;rintro ee ww ⟨rfl,rfl⟩;(first|rw [inB_yes (by omega) (by omega)]|rw [inB_no (by omega)]))
  | fail)
 refine bodyPost_ret (results_scn rfl _ _ (w.heap.size + 1) 0 0 none 0 0 (by rfl) HS3.out) rfl ?_
 exact ⟨0,0,none,0,0,[],none,0,0,[],rfl,ScnOk.to _ _ (by omega),OpsL.nil_ _,by omega,by omega,by omega,Bw.grown (Bw.trans hbw2 hbt'.out) HG3.out (fun k hk => by cases hk;omega),(by have hs3:=HG3.out.size;(try have hs5:=HG5.out.size);refine ⟨fun ad e => ?_,fun ad e => ?_,fun o ho ad e => ?_⟩;(focus (first|(cases e;done)|(right;exact e.symm)|(left;cases e;dsimp only;simp only [szA,szS,szD,szN] at *;omega)|(left;cases e;dsimp only;omega)));(focus (first|(cases e;done)|(cases e;dsimp only;omega)|(cases e;dsimp only;simp only [szA,szS,szD,szN] at *;omega)));(focus (first|(cases ho;done)|(simp only [List.mem_singleton] at ho;subst ho;dsimp only at e;first|(cases e;done)|(cases e;dsimp only;omega))))),fun _ => TyA.none _,fun o ho => by first|(cases ho;done)|(simp only [List.mem_singleton] at ho;subst ho;exact TyA.none _)⟩

set_option maxRecDepth 100000 in
set_option maxHeartbeats 4000000 in
theorem rnext_4b (code pv : Int) (A : Option Addr) (n c : Nat) (xs : List Int) (w : World) (h : ScnOk w 4 pv A n c xs) (hlo : 32 ≤ code) (hhi : code ≤ 63) (h24 : (code == 24) = false) (h26 : (code == 26) = false) (h27 : (code == 27) = false) (h127 : (code == 127) = false) : Calls Tryz.prog 84 #[.agg #[.int .i64 4,.int .i64 pv,.slice A n c],.int .i64 code] w (Nxt w A):=by
 have Zhlo:=Lib.hid hlo
 clear hlo
 have Zhhi:=Lib.hid hhi
 clear hhi
 have Zh24:=Lib.hid h24
 clear h24
 have Zh26:=Lib.hid h26
 clear h26
 have Zh27:=Lib.hid h27
 clear h27
 have Zh127:=Lib.hid h127
 clear h127
 have HOk:=Lib.hid h
 have hx:=h.1
 have HXA:=Lib.hid (show 0 < n → ∀ ad,A = some ad → ad.block < w.heap.size from fun h0 ad e => by
  obtain ⟨g,o,e2,h⟩:=hx.2 h0
  have h1:=lt_of_cell (h 0 (by rw [hx.1];exact h0))
  rw [e] at e2
  cases e2
  exact h1)
 clear h hx
 go_enter Tryz.func84,Tryz.ntmps84
 go_upto_region 1 with (fail)
 generalize hw1 : (w.alloc (.cells #[.int .i64 4,.int .i64 pv,.slice A n c] 39)).alloc _ = w1
 obtain ⟨hb0,hb1,hbw,hz⟩:=sb2 hw1
 have HB0a:=Lib.hid hb0
 have HB1a:=Lib.hid (show ∃ old,Sb w1 (w.heap.size + 1) old 39 ∧ old.size = 3 from ⟨_,hb1,rfl⟩)
 have hz1 : w.heap.size + 1 < w1.heap.size:=by omega
 have hz0 : w.heap.size < w1.heap.size:=by omega
 have y0:=HB0a.out.cell 0 (v:=.int .i64 4) rfl
 have y1:=HB0a.out.cell 1 (v:=.int .i64 pv) rfl
 have y2:=HB0a.out.cell 2 (v:=.slice A n c) rfl
 clear hw1 hb0 hb1 hz
 go_upto_region 3 with (first
  | (go_at_call 80;refine (rvalid14_ok 4 pv A n c xs _ (HOk.out.up (show Bw w _ from BWX))).mono ?_;rintro ee wv ⟨rfl,hbv⟩;have z0:=(HB0a.out.up hbv).cell 0 (v:=.int .i64 4) rfl;have z1:=(HB0a.out.up hbv).cell 1 (v:=.int .i64 pv) rfl;have z2:=(HB0a.out.up hbv).cell 2 (v:=.slice A n c) rfl;have HBV:=Lib.hid hbv;clear hbv y0 y1 y2)
  | fail)
 have hbv:=HBV.out
 have HB0:=Lib.hid (HB0a.out.up hbv)
 have HB1:=Lib.hid (Exists.elim HB1a.out (fun old h => (⟨old,h.1.up hbv,h.2⟩ : ∃ old,Sb wv (w.heap.size + 1) old 39 ∧ old.size = 3)))
 have hbw2 : Bw w wv:=Bw.trans hbw hbv
 have hz2 : w.heap.size + 1 < wv.heap.size:=by have:=hbv.size;omega
 have hz02 : w.heap.size < wv.heap.size:=by omega
 have HOk1:=Lib.hid (HOk.out.up hbw2)
 clear HBV HB0a HB1a hz1 hz0 hbw hbv
 have hlo:=Zhlo.out
 have hhi:=Zhhi.out
 have h24:=Zh24.out
 have h26:=Zh26.out
 have h27:=Zh27.out
 have h127:=Zh127.out
 go_upto_region 43 with ((go_at_call 102;refine (rin_any _ _ _ _).mono ?_;rintro ee ww ⟨rfl,rfl⟩;(first|rw [inB_yes (by omega) (by omega)]|rw [inB_no (by omega)])))
 go_wp2_with (first
  | ((with_reducible refine wpList_store_scn 4 pv A n c (w.heap.size + 1) (.tmp 4) (.tmp 151) rfl rfl ?_ ?_ ?_ ?_);(focus rfl);(focus rfl);(focus (exact HB1.out));intro w3 hS3 hg3;have HS3:=Lib.hid hS3;have HG3:=Lib.hid hg3;clear hS3 hg3)
  | (go_at_call 102;refine (rin_any _ _ _ _).mono ?_;rintro ee ww ⟨rfl,rfl⟩;(first|rw [inB_yes (by omega) (by omega)]|rw [inB_no (by omega)]))
  | fail)
 refine bodyPost_ret (results_scn rfl _ _ (w.heap.size + 1) 4 pv A n c (by rfl) HS3.out) rfl ?_
 exact ⟨4,pv,A,n,c,xs,none,0,0,[],rfl,HOk1.out.far0 HG3.out (fun h0 ad e => by have:=HXA.out h0 ad e;intro e2;have:=Option.some.inj e2;omega),OpsL.nil_ _,by omega,by omega,by omega,Bw.grown (hbw2) HG3.out (fun k hk => by cases hk;omega),(by have hs3:=HG3.out.size;(try have hs5:=HG5.out.size);refine ⟨fun ad e => ?_,fun ad e => ?_,fun o ho ad e => ?_⟩;(focus (first|(cases e;done)|(right;exact e.symm)|(left;cases e;dsimp only;simp only [szA,szS,szD,szN] at *;omega)|(left;cases e;dsimp only;omega)));(focus (first|(cases e;done)|(cases e;dsimp only;omega)|(cases e;dsimp only;simp only [szA,szS,szD,szN] at *;omega)));(focus (first|(cases ho;done)|(simp only [List.mem_singleton] at ho;subst ho;dsimp only at e;first|(cases e;done)|(cases e;dsimp only;omega))))),fun hT => hT.up (show Bw w w3 from Bw.grown (show Bw w _ from BWX) HG3.out (fun k hk => by cases hk;omega)),fun o ho => by first|(cases ho;done)|(simp only [List.mem_singleton] at ho;subst ho;exact TyA.none _)⟩

set_option maxRecDepth 100000 in
set_option maxHeartbeats 4000000 in
theorem rnext_5x24 (code pv : Int) (A : Option Addr) (n c : Nat) (xs : List Int) (w : World) (h : ScnOk w 5 pv A n c xs) (hk : code = 24) : Calls Tryz.prog 84 #[.agg #[.int .i64 5,.int .i64 pv,.slice A n c],.int .i64 code] w (Nxt w A):=by
 have Zhk:=Lib.hid hk
 clear hk
 have HOk:=Lib.hid h
 have hx:=h.1
 have HXA:=Lib.hid (show 0 < n → ∀ ad,A = some ad → ad.block < w.heap.size from fun h0 ad e => by
  obtain ⟨g,o,e2,h⟩:=hx.2 h0
  have h1:=lt_of_cell (h 0 (by rw [hx.1];exact h0))
  rw [e] at e2
  cases e2
  exact h1)
 clear h hx
 go_enter Tryz.func84,Tryz.ntmps84
 go_upto_region 1 with (fail)
 generalize hw1 : (w.alloc (.cells #[.int .i64 5,.int .i64 pv,.slice A n c] 39)).alloc _ = w1
 obtain ⟨hb0,hb1,hbw,hz⟩:=sb2 hw1
 have HB0a:=Lib.hid hb0
 have HB1a:=Lib.hid (show ∃ old,Sb w1 (w.heap.size + 1) old 39 ∧ old.size = 3 from ⟨_,hb1,rfl⟩)
 have hz1 : w.heap.size + 1 < w1.heap.size:=by omega
 have hz0 : w.heap.size < w1.heap.size:=by omega
 have y0:=HB0a.out.cell 0 (v:=.int .i64 5) rfl
 have y1:=HB0a.out.cell 1 (v:=.int .i64 pv) rfl
 have y2:=HB0a.out.cell 2 (v:=.slice A n c) rfl
 clear hw1 hb0 hb1 hz
 go_upto_region 3 with (first
  | (go_at_call 80;refine (rvalid14_ok 5 pv A n c xs _ (HOk.out.up (show Bw w _ from BWX))).mono ?_;rintro ee wv ⟨rfl,hbv⟩;have z0:=(HB0a.out.up hbv).cell 0 (v:=.int .i64 5) rfl;have z1:=(HB0a.out.up hbv).cell 1 (v:=.int .i64 pv) rfl;have z2:=(HB0a.out.up hbv).cell 2 (v:=.slice A n c) rfl;have HBV:=Lib.hid hbv;clear hbv y0 y1 y2)
  | fail)
 have hbv:=HBV.out
 have HB0:=Lib.hid (HB0a.out.up hbv)
 have HB1:=Lib.hid (Exists.elim HB1a.out (fun old h => (⟨old,h.1.up hbv,h.2⟩ : ∃ old,Sb wv (w.heap.size + 1) old 39 ∧ old.size = 3)))
 have hbw2 : Bw w wv:=Bw.trans hbw hbv
 have hz2 : w.heap.size + 1 < wv.heap.size:=by have:=hbv.size;omega
 have hz02 : w.heap.size < wv.heap.size:=by omega
 have HOk1:=Lib.hid (HOk.out.up hbw2)
 clear HBV HB0a HB1a hz1 hz0 hbw hbv
 have hk:=Zhk.out
 subst hk
 go_upto_region 5 with ((go_at_call 102;refine (rin_any _ _ _ _).mono ?_;rintro ee ww ⟨rfl,rfl⟩;(first|rw [inB_yes (by omega) (by omega)]|rw [inB_no (by omega)])))
 go_wp2_with (first
  | (go_at_call 83;refine (rto_any 0 _).mono ?_;rintro ee wt ⟨rfl,hbt⟩;have hbt':=Lib.hid hbt;clear hbt)
  | ((with_reducible refine wpList_store_scn 0 0 none 0 0 (w.heap.size + 1) (.tmp 4) (.tmp 26) rfl rfl ?_ ?_ ?_ ?_);(focus rfl);(focus rfl);(focus (exact Exists.elim HB1.out (fun old h => ⟨old,h.1.up hbt'.out,h.2⟩)));intro w3 hS3 hg3;have HS3:=Lib.hid hS3;have HG3:=Lib.hid hg3;clear hS3 hg3)
  | (go_at_call 102;refine (rin_any _ _ _ _).mono ?_;rintro ee ww ⟨rfl,rfl⟩;(first|rw [inB_yes (by omega) (by omega)]|rw [inB_no (by omega)]))
  | fail)
 refine bodyPost_ret (results_scn rfl _ _ (w.heap.size + 1) 0 0 none 0 0 (by rfl) HS3.out) rfl ?_
 exact ⟨0,0,none,0,0,[],none,0,0,[],rfl,ScnOk.to _ _ (by omega),OpsL.nil_ _,by omega,by omega,by omega,Bw.grown (Bw.trans hbw2 hbt'.out) HG3.out (fun k hk => by cases hk;omega),(by have hs3:=HG3.out.size;(try have hs5:=HG5.out.size);refine ⟨fun ad e => ?_,fun ad e => ?_,fun o ho ad e => ?_⟩;(focus (first|(cases e;done)|(right;exact e.symm)|(left;cases e;dsimp only;simp only [szA,szS,szD,szN] at *;omega)|(left;cases e;dsimp only;omega)));(focus (first|(cases e;done)|(cases e;dsimp only;omega)|(cases e;dsimp only;simp only [szA,szS,szD,szN] at *;omega)));(focus (first|(cases ho;done)|(simp only [List.mem_singleton] at ho;subst ho;dsimp only at e;first|(cases e;done)|(cases e;dsimp only;omega))))),fun _ => TyA.none _,fun o ho => by first|(cases ho;done)|(simp only [List.mem_singleton] at ho;subst ho;exact TyA.none _)⟩

set_option maxRecDepth 100000 in
set_option maxHeartbeats 4000000 in
theorem rnext_5x26 (code pv : Int) (A : Option Addr) (n c : Nat) (xs : List Int) (w : World) (h : ScnOk w 5 pv A n c xs) (hk : code = 26) : Calls Tryz.prog 84 #[.agg #[.int .i64 5,.int .i64 pv,.slice A n c],.int .i64 code] w (Nxt w A):=by
 have Zhk:=Lib.hid hk
 clear hk
 have HOk:=Lib.hid h
 have hx:=h.1
 have HXA:=Lib.hid (show 0 < n → ∀ ad,A = some ad → ad.block < w.heap.size from fun h0 ad e => by
  obtain ⟨g,o,e2,h⟩:=hx.2 h0
  have h1:=lt_of_cell (h 0 (by rw [hx.1];exact h0))
  rw [e] at e2
  cases e2
  exact h1)
 clear h hx
 go_enter Tryz.func84,Tryz.ntmps84
 go_upto_region 1 with (fail)
 generalize hw1 : (w.alloc (.cells #[.int .i64 5,.int .i64 pv,.slice A n c] 39)).alloc _ = w1
 obtain ⟨hb0,hb1,hbw,hz⟩:=sb2 hw1
 have HB0a:=Lib.hid hb0
 have HB1a:=Lib.hid (show ∃ old,Sb w1 (w.heap.size + 1) old 39 ∧ old.size = 3 from ⟨_,hb1,rfl⟩)
 have hz1 : w.heap.size + 1 < w1.heap.size:=by omega
 have hz0 : w.heap.size < w1.heap.size:=by omega
 have y0:=HB0a.out.cell 0 (v:=.int .i64 5) rfl
 have y1:=HB0a.out.cell 1 (v:=.int .i64 pv) rfl
 have y2:=HB0a.out.cell 2 (v:=.slice A n c) rfl
 clear hw1 hb0 hb1 hz
 go_upto_region 3 with (first
  | (go_at_call 80;refine (rvalid14_ok 5 pv A n c xs _ (HOk.out.up (show Bw w _ from BWX))).mono ?_;rintro ee wv ⟨rfl,hbv⟩;have z0:=(HB0a.out.up hbv).cell 0 (v:=.int .i64 5) rfl;have z1:=(HB0a.out.up hbv).cell 1 (v:=.int .i64 pv) rfl;have z2:=(HB0a.out.up hbv).cell 2 (v:=.slice A n c) rfl;have HBV:=Lib.hid hbv;clear hbv y0 y1 y2)
  | fail)
 have hbv:=HBV.out
 have HB0:=Lib.hid (HB0a.out.up hbv)
 have HB1:=Lib.hid (Exists.elim HB1a.out (fun old h => (⟨old,h.1.up hbv,h.2⟩ : ∃ old,Sb wv (w.heap.size + 1) old 39 ∧ old.size = 3)))
 have hbw2 : Bw w wv:=Bw.trans hbw hbv
 have hz2 : w.heap.size + 1 < wv.heap.size:=by have:=hbv.size;omega
 have hz02 : w.heap.size < wv.heap.size:=by omega
 have HOk1:=Lib.hid (HOk.out.up hbw2)
 clear HBV HB0a HB1a hz1 hz0 hbw hbv
 have hk:=Zhk.out
 subst hk
 go_upto_region 5 with ((go_at_call 102;refine (rin_any _ _ _ _).mono ?_;rintro ee ww ⟨rfl,rfl⟩;(first|rw [inB_yes (by omega) (by omega)]|rw [inB_no (by omega)])))
 go_wp2_with (first
  | (go_at_call 83;refine (rto_any 0 _).mono ?_;rintro ee wt ⟨rfl,hbt⟩;have hbt':=Lib.hid hbt;clear hbt)
  | ((with_reducible refine wpList_store_scn 0 0 none 0 0 (w.heap.size + 1) (.tmp 4) (.tmp 26) rfl rfl ?_ ?_ ?_ ?_);(focus rfl);(focus rfl);(focus (exact Exists.elim HB1.out (fun old h => ⟨old,h.1.up hbt'.out,h.2⟩)));intro w3 hS3 hg3;have HS3:=Lib.hid hS3;have HG3:=Lib.hid hg3;clear hS3 hg3)
  | (go_at_call 102;refine (rin_any _ _ _ _).mono ?_;rintro ee ww ⟨rfl,rfl⟩;(first|rw [inB_yes (by omega) (by omega)]|rw [inB_no (by omega)]))
  | fail)
 refine bodyPost_ret (results_scn rfl _ _ (w.heap.size + 1) 0 0 none 0 0 (by rfl) HS3.out) rfl ?_
 exact ⟨0,0,none,0,0,[],none,0,0,[],rfl,ScnOk.to _ _ (by omega),OpsL.nil_ _,by omega,by omega,by omega,Bw.grown (Bw.trans hbw2 hbt'.out) HG3.out (fun k hk => by cases hk;omega),(by have hs3:=HG3.out.size;(try have hs5:=HG5.out.size);refine ⟨fun ad e => ?_,fun ad e => ?_,fun o ho ad e => ?_⟩;(focus (first|(cases e;done)|(right;exact e.symm)|(left;cases e;dsimp only;simp only [szA,szS,szD,szN] at *;omega)|(left;cases e;dsimp only;omega)));(focus (first|(cases e;done)|(cases e;dsimp only;omega)|(cases e;dsimp only;simp only [szA,szS,szD,szN] at *;omega)));(focus (first|(cases ho;done)|(simp only [List.mem_singleton] at ho;subst ho;dsimp only at e;first|(cases e;done)|(cases e;dsimp only;omega))))),fun _ => TyA.none _,fun o ho => by first|(cases ho;done)|(simp only [List.mem_singleton] at ho;subst ho;exact TyA.none _)⟩

set_option maxRecDepth 100000 in
set_option maxHeartbeats 4000000 in
theorem rnext_5x27 (code pv : Int) (A : Option Addr) (n c : Nat) (xs : List Int) (w : World) (h : ScnOk w 5 pv A n c xs) (hk : code = 27) : Calls Tryz.prog 84 #[.agg #[.int .i64 5,.int .i64 pv,.slice A n c],.int .i64 code] w (Nxt w A):=by
 have Zhk:=Lib.hid hk
 clear hk
 have HOk:=Lib.hid h
 have hx:=h.1
 have HXA:=Lib.hid (show 0 < n → ∀ ad,A = some ad → ad.block < w.heap.size from fun h0 ad e => by
  obtain ⟨g,o,e2,h⟩:=hx.2 h0
  have h1:=lt_of_cell (h 0 (by rw [hx.1];exact h0))
  rw [e] at e2
  cases e2
  exact h1)
 clear h hx
 go_enter Tryz.func84,Tryz.ntmps84
 go_upto_region 1 with (fail)
 generalize hw1 : (w.alloc (.cells #[.int .i64 5,.int .i64 pv,.slice A n c] 39)).alloc _ = w1
 obtain ⟨hb0,hb1,hbw,hz⟩:=sb2 hw1
 have HB0a:=Lib.hid hb0
 have HB1a:=Lib.hid (show ∃ old,Sb w1 (w.heap.size + 1) old 39 ∧ old.size = 3 from ⟨_,hb1,rfl⟩)
 have hz1 : w.heap.size + 1 < w1.heap.size:=by omega
 have hz0 : w.heap.size < w1.heap.size:=by omega
 have y0:=HB0a.out.cell 0 (v:=.int .i64 5) rfl
 have y1:=HB0a.out.cell 1 (v:=.int .i64 pv) rfl
 have y2:=HB0a.out.cell 2 (v:=.slice A n c) rfl
 clear hw1 hb0 hb1 hz
 go_upto_region 3 with (first
  | (go_at_call 80;refine (rvalid14_ok 5 pv A n c xs _ (HOk.out.up (show Bw w _ from BWX))).mono ?_;rintro ee wv ⟨rfl,hbv⟩;have z0:=(HB0a.out.up hbv).cell 0 (v:=.int .i64 5) rfl;have z1:=(HB0a.out.up hbv).cell 1 (v:=.int .i64 pv) rfl;have z2:=(HB0a.out.up hbv).cell 2 (v:=.slice A n c) rfl;have HBV:=Lib.hid hbv;clear hbv y0 y1 y2)
  | fail)
 have hbv:=HBV.out
 have HB0:=Lib.hid (HB0a.out.up hbv)
 have HB1:=Lib.hid (Exists.elim HB1a.out (fun old h => (⟨old,h.1.up hbv,h.2⟩ : ∃ old,Sb wv (w.heap.size + 1) old 39 ∧ old.size = 3)))
 have hbw2 : Bw w wv:=Bw.trans hbw hbv
 have hz2 : w.heap.size + 1 < wv.heap.size:=by have:=hbv.size;omega
 have hz02 : w.heap.size < wv.heap.size:=by omega
 have HOk1:=Lib.hid (HOk.out.up hbw2)
 clear HBV HB0a HB1a hz1 hz0 hbw hbv
 have hk:=Zhk.out
 subst hk
 go_upto_region 7 with ((go_at_call 102;refine (rin_any _ _ _ _).mono ?_;rintro ee ww ⟨rfl,rfl⟩;(first|rw [inB_yes (by omega) (by omega)]|rw [inB_no (by omega)])))
 go_wp2_with (first
  | (go_at_call 83;refine (rto_any 6 _).mono ?_;rintro ee wt ⟨rfl,hbt⟩;have hbt':=Lib.hid hbt;clear hbt)
  | ((with_reducible refine wpList_store_scn 6 0 none 0 0 (w.heap.size + 1) (.tmp 4) (.tmp 33) rfl rfl ?_ ?_ ?_ ?_);(focus rfl);(focus rfl);(focus (exact Exists.elim HB1.out (fun old h => ⟨old,h.1.up hbt'.out,h.2⟩)));intro w3 hS3 hg3;have HS3:=Lib.hid hS3;have HG3:=Lib.hid hg3;clear hS3 hg3)
  | (go_at_call 102;refine (rin_any _ _ _ _).mono ?_;rintro ee ww ⟨rfl,rfl⟩;(first|rw [inB_yes (by omega) (by omega)]|rw [inB_no (by omega)]))
  | fail)
 refine bodyPost_ret (results_scn rfl _ _ (w.heap.size + 1) 6 0 none 0 0 (by rfl) HS3.out) rfl ?_
 exact ⟨6,0,none,0,0,[],none,0,0,[],rfl,ScnOk.to _ _ (by omega),OpsL.nil_ _,by omega,by omega,by omega,Bw.grown (Bw.trans hbw2 hbt'.out) HG3.out (fun k hk => by cases hk;omega),(by have hs3:=HG3.out.size;(try have hs5:=HG5.out.size);refine ⟨fun ad e => ?_,fun ad e => ?_,fun o ho ad e => ?_⟩;(focus (first|(cases e;done)|(right;exact e.symm)|(left;cases e;dsimp only;simp only [szA,szS,szD,szN] at *;omega)|(left;cases e;dsimp only;omega)));(focus (first|(cases e;done)|(cases e;dsimp only;omega)|(cases e;dsimp only;simp only [szA,szS,szD,szN] at *;omega)));(focus (first|(cases ho;done)|(simp only [List.mem_singleton] at ho;subst ho;dsimp only at e;first|(cases e;done)|(cases e;dsimp only;omega))))),fun _ => TyA.none _,fun o ho => by first|(cases ho;done)|(simp only [List.mem_singleton] at ho;subst ho;exact TyA.none _)⟩
set_option maxRecDepth 100000 in
set_option maxHeartbeats 4000000 in
theorem rnext_5x7 (code pv : Int) (A : Option Addr) (n c : Nat) (xs : List Int) (w : World) (h : ScnOk w 5 pv A n c xs) (hk : code = 7) : Calls Tryz.prog 84 #[.agg #[.int .i64 5,.int .i64 pv,.slice A n c],.int .i64 code] w (Nxt w A):=by
 have Zhk:=Lib.hid hk
 clear hk
 have HOk:=Lib.hid h
 have hx:=h.1
 have HXA:=Lib.hid (show 0 < n → ∀ ad,A = some ad → ad.block < w.heap.size from fun h0 ad e => by
  obtain ⟨g,o,e2,h⟩:=hx.2 h0
  have h1:=lt_of_cell (h 0 (by rw [hx.1];exact h0))
  rw [e] at e2
  cases e2
  exact h1)
 clear h hx
 go_enter Tryz.func84,Tryz.ntmps84
 go_upto_region 1 with (fail)
 generalize hw1 : (w.alloc (.cells #[.int .i64 5,.int .i64 pv,.slice A n c] 39)).alloc _ = w1
 obtain ⟨hb0,hb1,hbw,hz⟩:=sb2 hw1
 have HB0a:=Lib.hid hb0
 have HB1a:=Lib.hid (show ∃ old,Sb w1 (w.heap.size + 1) old 39 ∧ old.size = 3 from ⟨_,hb1,rfl⟩)
 have hz1 : w.heap.size + 1 < w1.heap.size:=by omega
 have hz0 : w.heap.size < w1.heap.size:=by omega
 have y0:=HB0a.out.cell 0 (v:=.int .i64 5) rfl
 have y1:=HB0a.out.cell 1 (v:=.int .i64 pv) rfl
 have y2:=HB0a.out.cell 2 (v:=.slice A n c) rfl
 clear hw1 hb0 hb1 hz
 go_upto_region 3 with (first
  | (go_at_call 80;refine (rvalid14_ok 5 pv A n c xs _ (HOk.out.up (show Bw w _ from BWX))).mono ?_;rintro ee wv ⟨rfl,hbv⟩;have z0:=(HB0a.out.up hbv).cell 0 (v:=.int .i64 5) rfl;have z1:=(HB0a.out.up hbv).cell 1 (v:=.int .i64 pv) rfl;have z2:=(HB0a.out.up hbv).cell 2 (v:=.slice A n c) rfl;have HBV:=Lib.hid hbv;clear hbv y0 y1 y2)
  | fail)
 have hbv:=HBV.out
 have HB0:=Lib.hid (HB0a.out.up hbv)
 have HB1:=Lib.hid (Exists.elim HB1a.out (fun old h => (⟨old,h.1.up hbv,h.2⟩ : ∃ old,Sb wv (w.heap.size + 1) old 39 ∧ old.size = 3)))
 have hbw2 : Bw w wv:=Bw.trans hbw hbv
 have hz2 : w.heap.size + 1 < wv.heap.size:=by have:=hbv.size;omega
 have hz02 : w.heap.size < wv.heap.size:=by omega
 have HOk1:=Lib.hid (HOk.out.up hbw2)
 clear HBV HB0a HB1a hz1 hz0 hbw hbv
 have hk:=Zhk.out
 subst hk
 go_upto_region 15 with ((go_at_call 102;refine (rin_any _ _ _ _).mono ?_;rintro ee ww ⟨rfl,rfl⟩;(first|rw [inB_yes (by omega) (by omega)]|rw [inB_no (by omega)])))
 go_wp2_with (first
  | (go_at_call 83;refine (rto_any 0 _).mono ?_;rintro ee wt ⟨rfl,hbt⟩;have hbt':=Lib.hid hbt;clear hbt)
  | ((with_reducible refine wpList_store_scn 0 0 none 0 0 (w.heap.size + 1) (.tmp 4) (.tmp 64) rfl rfl ?_ ?_ ?_ ?_);(focus rfl);(focus rfl);(focus (exact Exists.elim HB1.out (fun old h => ⟨old,h.1.up hbt'.out,h.2⟩)));intro w3 hS3 hg3;have HS3:=Lib.hid hS3;have HG3:=Lib.hid hg3;clear hS3 hg3)
  | (go_at_call 102;refine (rin_any _ _ _ _).mono ?_;rintro ee ww ⟨rfl,rfl⟩;(first|rw [inB_yes (by omega) (by omega)]|rw [inB_no (by omega)]))
  | fail)
 refine bodyPost_ret (results_scn rfl _ _ (w.heap.size + 1) 0 0 none 0 0 (by rfl) HS3.out) rfl ?_
 exact ⟨0,0,none,0,0,[],none,0,0,[],rfl,ScnOk.to _ _ (by omega),OpsL.nil_ _,by omega,by omega,by omega,Bw.grown (Bw.trans hbw2 hbt'.out) HG3.out (fun k hk => by cases hk;omega),(by have hs3:=HG3.out.size;(try have hs5:=HG5.out.size);refine ⟨fun ad e => ?_,fun ad e => ?_,fun o ho ad e => ?_⟩;(focus (first|(cases e;done)|(right;exact e.symm)|(left;cases e;dsimp only;simp only [szA,szS,szD,szN] at *;omega)|(left;cases e;dsimp only;omega)));(focus (first|(cases e;done)|(cases e;dsimp only;omega)|(cases e;dsimp only;simp only [szA,szS,szD,szN] at *;omega)));(focus (first|(cases ho;done)|(simp only [List.mem_singleton] at ho;subst ho;dsimp only at e;first|(cases e;done)|(cases e;dsimp only;omega))))),fun _ => TyA.none _,fun o ho => by first|(cases ho;done)|(simp only [List.mem_singleton] at ho;subst ho;exact TyA.none _)⟩

set_option maxRecDepth 100000 in
set_option maxHeartbeats 4000000 in
theorem rnext_5s (code pv : Int) (A : Option Addr) (n c : Nat) (xs : List Int) (w : World) (h : ScnOk w 5 pv A n c xs) (h24 : (code == 24) = false) (h26 : (code == 26) = false) (h27 : (code == 27) = false) (h7 : (code == 7) = false) : Calls Tryz.prog 84 #[.agg #[.int .i64 5,.int .i64 pv,.slice A n c],.int .i64 code] w (Nxt w A):=by
 have Zh24:=Lib.hid h24
 clear h24
 have Zh26:=Lib.hid h26
 clear h26
 have Zh27:=Lib.hid h27
 clear h27
 have Zh7:=Lib.hid h7
 clear h7
 have HOk:=Lib.hid h
 have hx:=h.1
 have HXA:=Lib.hid (show 0 < n → ∀ ad,A = some ad → ad.block < w.heap.size from fun h0 ad e => by
  obtain ⟨g,o,e2,h⟩:=hx.2 h0
  have h1:=lt_of_cell (h 0 (by rw [hx.1];exact h0))
  rw [e] at e2
  cases e2
  exact h1)
 clear h hx
 go_enter Tryz.func84,Tryz.ntmps84
 go_upto_region 1 with (fail)
 generalize hw1 : (w.alloc (.cells #[.int .i64 5,.int .i64 pv,.slice A n c] 39)).alloc _ = w1
 obtain ⟨hb0,hb1,hbw,hz⟩:=sb2 hw1
 have HB0a:=Lib.hid hb0
 have HB1a:=Lib.hid (show ∃ old,Sb w1 (w.heap.size + 1) old 39 ∧ old.size = 3 from ⟨_,hb1,rfl⟩)
 have hz1 : w.heap.size + 1 < w1.heap.size:=by omega
 have hz0 : w.heap.size < w1.heap.size:=by omega
 have y0:=HB0a.out.cell 0 (v:=.int .i64 5) rfl
 have y1:=HB0a.out.cell 1 (v:=.int .i64 pv) rfl
 have y2:=HB0a.out.cell 2 (v:=.slice A n c) rfl
 clear hw1 hb0 hb1 hz
 go_upto_region 3 with (first
  | (go_at_call 80;refine (rvalid14_ok 5 pv A n c xs _ (HOk.out.up (show Bw w _ from BWX))).mono ?_;rintro ee wv ⟨rfl,hbv⟩;have z0:=(HB0a.out.up hbv).cell 0 (v:=.int .i64 5) rfl;have z1:=(HB0a.out.up hbv).cell 1 (v:=.int .i64 pv) rfl;have z2:=(HB0a.out.up hbv).cell 2 (v:=.slice A n c) rfl;have HBV:=Lib.hid hbv;clear hbv y0 y1 y2)
  | fail)
 have hbv:=HBV.out
 have HB0:=Lib.hid (HB0a.out.up hbv)
 have HB1:=Lib.hid (Exists.elim HB1a.out (fun old h => (⟨old,h.1.up hbv,h.2⟩ : ∃ old,Sb wv (w.heap.size + 1) old 39 ∧ old.size = 3)))
 have hbw2 : Bw w wv:=Bw.trans hbw hbv
 have hz2 : w.heap.size + 1 < wv.heap.size:=by have:=hbv.size;omega
 have hz02 : w.heap.size < wv.heap.size:=by omega
 have HOk1:=Lib.hid (HOk.out.up hbw2)
 clear HBV HB0a HB1a hz1 hz0 hbw hbv
 have h24:=Zh24.out
 have h26:=Zh26.out
 have h27:=Zh27.out
 have h7:=Zh7.out
 go_upto_region 17 with ((go_at_call 102;refine (rin_any _ _ _ _).mono ?_;rintro ee ww ⟨rfl,rfl⟩;(first|rw [inB_yes (by omega) (by omega)]|rw [inB_no (by omega)])))
 go_wp2_with (first
  | ((with_reducible refine wpList_store_scn 5 pv A n c (w.heap.size + 1) (.tmp 4) (.tmp 77) rfl rfl ?_ ?_ ?_ ?_);(focus rfl);(focus rfl);(focus (exact HB1.out));intro w3 hS3 hg3;have HS3:=Lib.hid hS3;have HG3:=Lib.hid hg3;clear hS3 hg3)
  | (go_at_call 102;refine (rin_any _ _ _ _).mono ?_;rintro ee ww ⟨rfl,rfl⟩;(first|rw [inB_yes (by omega) (by omega)]|rw [inB_no (by omega)]))
  | fail)
 refine bodyPost_ret (results_scn rfl _ _ (w.heap.size + 1) 5 pv A n c (by rfl) HS3.out) rfl ?_
 exact ⟨5,pv,A,n,c,xs,none,0,0,[],rfl,HOk1.out.far0 HG3.out (fun h0 ad e => by have:=HXA.out h0 ad e;intro e2;have:=Option.some.inj e2;omega),OpsL.nil_ _,by omega,by omega,by omega,Bw.grown (hbw2) HG3.out (fun k hk => by cases hk;omega),(by have hs3:=HG3.out.size;(try have hs5:=HG5.out.size);refine ⟨fun ad e => ?_,fun ad e => ?_,fun o ho ad e => ?_⟩;(focus (first|(cases e;done)|(right;exact e.symm)|(left;cases e;dsimp only;simp only [szA,szS,szD,szN] at *;omega)|(left;cases e;dsimp only;omega)));(focus (first|(cases e;done)|(cases e;dsimp only;omega)|(cases e;dsimp only;simp only [szA,szS,szD,szN] at *;omega)));(focus (first|(cases ho;done)|(simp only [List.mem_singleton] at ho;subst ho;dsimp only at e;first|(cases e;done)|(cases e;dsimp only;omega))))),fun hT => hT.up (show Bw w w3 from Bw.grown (show Bw w _ from BWX) HG3.out (fun k hk => by cases hk;omega)),fun o ho => by first|(cases ho;done)|(simp only [List.mem_singleton] at ho;subst ho;exact TyA.none _)⟩

set_option maxRecDepth 100000 in
set_option maxHeartbeats 4000000 in
theorem rnext_6x24 (code pv : Int) (A : Option Addr) (n c : Nat) (xs : List Int) (w : World) (h : ScnOk w 6 pv A n c xs) (hk : code = 24) : Calls Tryz.prog 84 #[.agg #[.int .i64 6,.int .i64 pv,.slice A n c],.int .i64 code] w (Nxt w A):=by
 have Zhk:=Lib.hid hk
 clear hk
 have HOk:=Lib.hid h
 have hx:=h.1
 have HXA:=Lib.hid (show 0 < n → ∀ ad,A = some ad → ad.block < w.heap.size from fun h0 ad e => by
  obtain ⟨g,o,e2,h⟩:=hx.2 h0
  have h1:=lt_of_cell (h 0 (by rw [hx.1];exact h0))
  rw [e] at e2
  cases e2
  exact h1)
 clear h hx
 go_enter Tryz.func84,Tryz.ntmps84
 go_upto_region 1 with (fail)
 generalize hw1 : (w.alloc (.cells #[.int .i64 6,.int .i64 pv,.slice A n c] 39)).alloc _ = w1
 obtain ⟨hb0,hb1,hbw,hz⟩:=sb2 hw1
 have HB0a:=Lib.hid hb0
 have HB1a:=Lib.hid (show ∃ old,Sb w1 (w.heap.size + 1) old 39 ∧ old.size = 3 from ⟨_,hb1,rfl⟩)
 have hz1 : w.heap.size + 1 < w1.heap.size:=by omega
 have hz0 : w.heap.size < w1.heap.size:=by omega
 have y0:=HB0a.out.cell 0 (v:=.int .i64 6) rfl
 have y1:=HB0a.out.cell 1 (v:=.int .i64 pv) rfl
 have y2:=HB0a.out.cell 2 (v:=.slice A n c) rfl
 clear hw1 hb0 hb1 hz
 go_upto_region 3 with (first
  | (go_at_call 80;refine (rvalid14_ok 6 pv A n c xs _ (HOk.out.up (show Bw w _ from BWX))).mono ?_;rintro ee wv ⟨rfl,hbv⟩;have z0:=(HB0a.out.up hbv).cell 0 (v:=.int .i64 6) rfl;have z1:=(HB0a.out.up hbv).cell 1 (v:=.int .i64 pv) rfl;have z2:=(HB0a.out.up hbv).cell 2 (v:=.slice A n c) rfl;have HBV:=Lib.hid hbv;clear hbv y0 y1 y2)
  | fail)
 have hbv:=HBV.out
 have HB0:=Lib.hid (HB0a.out.up hbv)
 have HB1:=Lib.hid (Exists.elim HB1a.out (fun old h => (⟨old,h.1.up hbv,h.2⟩ : ∃ old,Sb wv (w.heap.size + 1) old 39 ∧ old.size = 3)))
 have hbw2 : Bw w wv:=Bw.trans hbw hbv
 have hz2 : w.heap.size + 1 < wv.heap.size:=by have:=hbv.size;omega
 have hz02 : w.heap.size < wv.heap.size:=by omega
 have HOk1:=Lib.hid (HOk.out.up hbw2)
 clear HBV HB0a HB1a hz1 hz0 hbw hbv
 have hk:=Zhk.out
 subst hk
 go_upto_region 5 with ((go_at_call 102;refine (rin_any _ _ _ _).mono ?_;rintro ee ww ⟨rfl,rfl⟩;(first|rw [inB_yes (by omega) (by omega)]|rw [inB_no (by omega)])))
 go_wp2_with (first
  | (go_at_call 83;refine (rto_any 0 _).mono ?_;rintro ee wt ⟨rfl,hbt⟩;have hbt':=Lib.hid hbt;clear hbt)
  | ((with_reducible refine wpList_store_scn 0 0 none 0 0 (w.heap.size + 1) (.tmp 4) (.tmp 26) rfl rfl ?_ ?_ ?_ ?_);(focus rfl);(focus rfl);(focus (exact Exists.elim HB1.out (fun old h => ⟨old,h.1.up hbt'.out,h.2⟩)));intro w3 hS3 hg3;have HS3:=Lib.hid hS3;have HG3:=Lib.hid hg3;clear hS3 hg3)
  | (go_at_call 102;refine (rin_any _ _ _ _).mono ?_;rintro ee ww ⟨rfl,rfl⟩;(first|rw [inB_yes (by omega) (by omega)]|rw [inB_no (by omega)]))
  | fail)
 refine bodyPost_ret (results_scn rfl _ _ (w.heap.size + 1) 0 0 none 0 0 (by rfl) HS3.out) rfl ?_
 exact ⟨0,0,none,0,0,[],none,0,0,[],rfl,ScnOk.to _ _ (by omega),OpsL.nil_ _,by omega,by omega,by omega,Bw.grown (Bw.trans hbw2 hbt'.out) HG3.out (fun k hk => by cases hk;omega),(by have hs3:=HG3.out.size;(try have hs5:=HG5.out.size);refine ⟨fun ad e => ?_,fun ad e => ?_,fun o ho ad e => ?_⟩;(focus (first|(cases e;done)|(right;exact e.symm)|(left;cases e;dsimp only;simp only [szA,szS,szD,szN] at *;omega)|(left;cases e;dsimp only;omega)));(focus (first|(cases e;done)|(cases e;dsimp only;omega)|(cases e;dsimp only;simp only [szA,szS,szD,szN] at *;omega)));(focus (first|(cases ho;done)|(simp only [List.mem_singleton] at ho;subst ho;dsimp only at e;first|(cases e;done)|(cases e;dsimp only;omega))))),fun _ => TyA.none _,fun o ho => by first|(cases ho;done)|(simp only [List.mem_singleton] at ho;subst ho;exact TyA.none _)⟩

set_option maxRecDepth 100000 in
set_option maxHeartbeats 4000000 in
theorem rnext_6x26 (code pv : Int) (A : Option Addr) (n c : Nat) (xs : List Int) (w : World) (h : ScnOk w 6 pv A n c xs) (hk : code = 26) : Calls Tryz.prog 84 #[.agg #[.int .i64 6,.int .i64 pv,.slice A n c],.int .i64 code] w (Nxt w A):=by
 have Zhk:=Lib.hid hk
 clear hk
 have HOk:=Lib.hid h
 have hx:=h.1
 have HXA:=Lib.hid (show 0 < n → ∀ ad,A = some ad → ad.block < w.heap.size from fun h0 ad e => by
  obtain ⟨g,o,e2,h⟩:=hx.2 h0
  have h1:=lt_of_cell (h 0 (by rw [hx.1];exact h0))
  rw [e] at e2
  cases e2
  exact h1)
 clear h hx
 go_enter Tryz.func84,Tryz.ntmps84
 go_upto_region 1 with (fail)
 generalize hw1 : (w.alloc (.cells #[.int .i64 6,.int .i64 pv,.slice A n c] 39)).alloc _ = w1
 obtain ⟨hb0,hb1,hbw,hz⟩:=sb2 hw1
 have HB0a:=Lib.hid hb0
 have HB1a:=Lib.hid (show ∃ old,Sb w1 (w.heap.size + 1) old 39 ∧ old.size = 3 from ⟨_,hb1,rfl⟩)
 have hz1 : w.heap.size + 1 < w1.heap.size:=by omega
 have hz0 : w.heap.size < w1.heap.size:=by omega
 have y0:=HB0a.out.cell 0 (v:=.int .i64 6) rfl
 have y1:=HB0a.out.cell 1 (v:=.int .i64 pv) rfl
 have y2:=HB0a.out.cell 2 (v:=.slice A n c) rfl
 clear hw1 hb0 hb1 hz
 go_upto_region 3 with (first
  | (go_at_call 80;refine (rvalid14_ok 6 pv A n c xs _ (HOk.out.up (show Bw w _ from BWX))).mono ?_;rintro ee wv ⟨rfl,hbv⟩;have z0:=(HB0a.out.up hbv).cell 0 (v:=.int .i64 6) rfl;have z1:=(HB0a.out.up hbv).cell 1 (v:=.int .i64 pv) rfl;have z2:=(HB0a.out.up hbv).cell 2 (v:=.slice A n c) rfl;have HBV:=Lib.hid hbv;clear hbv y0 y1 y2)
  | fail)
 have hbv:=HBV.out
 have HB0:=Lib.hid (HB0a.out.up hbv)
 have HB1:=Lib.hid (Exists.elim HB1a.out (fun old h => (⟨old,h.1.up hbv,h.2⟩ : ∃ old,Sb wv (w.heap.size + 1) old 39 ∧ old.size = 3)))
 have hbw2 : Bw w wv:=Bw.trans hbw hbv
 have hz2 : w.heap.size + 1 < wv.heap.size:=by have:=hbv.size;omega
 have hz02 : w.heap.size < wv.heap.size:=by omega
 have HOk1:=Lib.hid (HOk.out.up hbw2)
 clear HBV HB0a HB1a hz1 hz0 hbw hbv
 have hk:=Zhk.out
 subst hk
 go_upto_region 5 with ((go_at_call 102;refine (rin_any _ _ _ _).mono ?_;rintro ee ww ⟨rfl,rfl⟩;(first|rw [inB_yes (by omega) (by omega)]|rw [inB_no (by omega)])))
 go_wp2_with (first
  | (go_at_call 83;refine (rto_any 0 _).mono ?_;rintro ee wt ⟨rfl,hbt⟩;have hbt':=Lib.hid hbt;clear hbt)
  | ((with_reducible refine wpList_store_scn 0 0 none 0 0 (w.heap.size + 1) (.tmp 4) (.tmp 26) rfl rfl ?_ ?_ ?_ ?_);(focus rfl);(focus rfl);(focus (exact Exists.elim HB1.out (fun old h => ⟨old,h.1.up hbt'.out,h.2⟩)));intro w3 hS3 hg3;have HS3:=Lib.hid hS3;have HG3:=Lib.hid hg3;clear hS3 hg3)
  | (go_at_call 102;refine (rin_any _ _ _ _).mono ?_;rintro ee ww ⟨rfl,rfl⟩;(first|rw [inB_yes (by omega) (by omega)]|rw [inB_no (by omega)]))
  | fail)
 refine bodyPost_ret (results_scn rfl _ _ (w.heap.size + 1) 0 0 none 0 0 (by rfl) HS3.out) rfl ?_
 exact ⟨0,0,none,0,0,[],none,0,0,[],rfl,ScnOk.to _ _ (by omega),OpsL.nil_ _,by omega,by omega,by omega,Bw.grown (Bw.trans hbw2 hbt'.out) HG3.out (fun k hk => by cases hk;omega),(by have hs3:=HG3.out.size;(try have hs5:=HG5.out.size);refine ⟨fun ad e => ?_,fun ad e => ?_,fun o ho ad e => ?_⟩;(focus (first|(cases e;done)|(right;exact e.symm)|(left;cases e;dsimp only;simp only [szA,szS,szD,szN] at *;omega)|(left;cases e;dsimp only;omega)));(focus (first|(cases e;done)|(cases e;dsimp only;omega)|(cases e;dsimp only;simp only [szA,szS,szD,szN] at *;omega)));(focus (first|(cases ho;done)|(simp only [List.mem_singleton] at ho;subst ho;dsimp only at e;first|(cases e;done)|(cases e;dsimp only;omega))))),fun _ => TyA.none _,fun o ho => by first|(cases ho;done)|(simp only [List.mem_singleton] at ho;subst ho;exact TyA.none _)⟩

set_option maxRecDepth 100000 in
set_option maxHeartbeats 4000000 in
theorem rnext_6x27 (code pv : Int) (A : Option Addr) (n c : Nat) (xs : List Int) (w : World) (h : ScnOk w 6 pv A n c xs) (hk : code = 27) : Calls Tryz.prog 84 #[.agg #[.int .i64 6,.int .i64 pv,.slice A n c],.int .i64 code] w (Nxt w A):=by
 have Zhk:=Lib.hid hk
 clear hk
 have HOk:=Lib.hid h
 have hx:=h.1
 have HXA:=Lib.hid (show 0 < n → ∀ ad,A = some ad → ad.block < w.heap.size from fun h0 ad e => by
  obtain ⟨g,o,e2,h⟩:=hx.2 h0
  have h1:=lt_of_cell (h 0 (by rw [hx.1];exact h0))
  rw [e] at e2
  cases e2
  exact h1)
 clear h hx
 go_enter Tryz.func84,Tryz.ntmps84
 go_upto_region 1 with (fail)
 generalize hw1 : (w.alloc (.cells #[.int .i64 6,.int .i64 pv,.slice A n c] 39)).alloc _ = w1
 obtain ⟨hb0,hb1,hbw,hz⟩:=sb2 hw1
 have HB0a:=Lib.hid hb0
 have HB1a:=Lib.hid (show ∃ old,Sb w1 (w.heap.size + 1) old 39 ∧ old.size = 3 from ⟨_,hb1,rfl⟩)
 have hz1 : w.heap.size + 1 < w1.heap.size:=by omega
 have hz0 : w.heap.size < w1.heap.size:=by omega
 have y0:=HB0a.out.cell 0 (v:=.int .i64 6) rfl
 have y1:=HB0a.out.cell 1 (v:=.int .i64 pv) rfl
 have y2:=HB0a.out.cell 2 (v:=.slice A n c) rfl
 clear hw1 hb0 hb1 hz
 go_upto_region 3 with (first
  | (go_at_call 80;refine (rvalid14_ok 6 pv A n c xs _ (HOk.out.up (show Bw w _ from BWX))).mono ?_;rintro ee wv ⟨rfl,hbv⟩;have z0:=(HB0a.out.up hbv).cell 0 (v:=.int .i64 6) rfl;have z1:=(HB0a.out.up hbv).cell 1 (v:=.int .i64 pv) rfl;have z2:=(HB0a.out.up hbv).cell 2 (v:=.slice A n c) rfl;have HBV:=Lib.hid hbv;clear hbv y0 y1 y2)
  | fail)
 have hbv:=HBV.out
 have HB0:=Lib.hid (HB0a.out.up hbv)
 have HB1:=Lib.hid (Exists.elim HB1a.out (fun old h => (⟨old,h.1.up hbv,h.2⟩ : ∃ old,Sb wv (w.heap.size + 1) old 39 ∧ old.size = 3)))
 have hbw2 : Bw w wv:=Bw.trans hbw hbv
 have hz2 : w.heap.size + 1 < wv.heap.size:=by have:=hbv.size;omega
 have hz02 : w.heap.size < wv.heap.size:=by omega
 have HOk1:=Lib.hid (HOk.out.up hbw2)
 clear HBV HB0a HB1a hz1 hz0 hbw hbv
 have hk:=Zhk.out
 subst hk
 go_upto_region 7 with ((go_at_call 102;refine (rin_any _ _ _ _).mono ?_;rintro ee ww ⟨rfl,rfl⟩;(first|rw [inB_yes (by omega) (by omega)]|rw [inB_no (by omega)])))
 go_wp2_with (first
  | (go_at_call 83;refine (rto_any 6 _).mono ?_;rintro ee wt ⟨rfl,hbt⟩;have hbt':=Lib.hid hbt;clear hbt)
  | ((with_reducible refine wpList_store_scn 6 0 none 0 0 (w.heap.size + 1) (.tmp 4) (.tmp 33) rfl rfl ?_ ?_ ?_ ?_);(focus rfl);(focus rfl);(focus (exact Exists.elim HB1.out (fun old h => ⟨old,h.1.up hbt'.out,h.2⟩)));intro w3 hS3 hg3;have HS3:=Lib.hid hS3;have HG3:=Lib.hid hg3;clear hS3 hg3)
  | (go_at_call 102;refine (rin_any _ _ _ _).mono ?_;rintro ee ww ⟨rfl,rfl⟩;(first|rw [inB_yes (by omega) (by omega)]|rw [inB_no (by omega)]))
  | fail)
 refine bodyPost_ret (results_scn rfl _ _ (w.heap.size + 1) 6 0 none 0 0 (by rfl) HS3.out) rfl ?_
 exact ⟨6,0,none,0,0,[],none,0,0,[],rfl,ScnOk.to _ _ (by omega),OpsL.nil_ _,by omega,by omega,by omega,Bw.grown (Bw.trans hbw2 hbt'.out) HG3.out (fun k hk => by cases hk;omega),(by have hs3:=HG3.out.size;(try have hs5:=HG5.out.size);refine ⟨fun ad e => ?_,fun ad e => ?_,fun o ho ad e => ?_⟩;(focus (first|(cases e;done)|(right;exact e.symm)|(left;cases e;dsimp only;simp only [szA,szS,szD,szN] at *;omega)|(left;cases e;dsimp only;omega)));(focus (first|(cases e;done)|(cases e;dsimp only;omega)|(cases e;dsimp only;simp only [szA,szS,szD,szN] at *;omega)));(focus (first|(cases ho;done)|(simp only [List.mem_singleton] at ho;subst ho;dsimp only at e;first|(cases e;done)|(cases e;dsimp only;omega))))),fun _ => TyA.none _,fun o ho => by first|(cases ho;done)|(simp only [List.mem_singleton] at ho;subst ho;exact TyA.none _)⟩

set_option maxRecDepth 100000 in
set_option maxHeartbeats 4000000 in
theorem rnext_6x92 (code pv : Int) (A : Option Addr) (n c : Nat) (xs : List Int) (w : World) (h : ScnOk w 6 pv A n c xs) (hk : code = 92) : Calls Tryz.prog 84 #[.agg #[.int .i64 6,.int .i64 pv,.slice A n c],.int .i64 code] w (Nxt w A):=by
 have Zhk:=Lib.hid hk
 clear hk
 have HOk:=Lib.hid h
 have hx:=h.1
 have HXA:=Lib.hid (show 0 < n → ∀ ad,A = some ad → ad.block < w.heap.size from fun h0 ad e => by
  obtain ⟨g,o,e2,h⟩:=hx.2 h0
  have h1:=lt_of_cell (h 0 (by rw [hx.1];exact h0))
  rw [e] at e2
  cases e2
  exact h1)
 clear h hx
 go_enter Tryz.func84,Tryz.ntmps84
 go_upto_region 1 with (fail)
 generalize hw1 : (w.alloc (.cells #[.int .i64 6,.int .i64 pv,.slice A n c] 39)).alloc _ = w1
 obtain ⟨hb0,hb1,hbw,hz⟩:=sb2 hw1
 have HB0a:=Lib.hid hb0
 have HB1a:=Lib.hid (show ∃ old,Sb w1 (w.heap.size + 1) old 39 ∧ old.size = 3 from ⟨_,hb1,rfl⟩)
 have hz1 : w.heap.size + 1 < w1.heap.size:=by omega
 have hz0 : w.heap.size < w1.heap.size:=by omega
 have y0:=HB0a.out.cell 0 (v:=.int .i64 6) rfl
 have y1:=HB0a.out.cell 1 (v:=.int .i64 pv) rfl
 have y2:=HB0a.out.cell 2 (v:=.slice A n c) rfl
 clear hw1 hb0 hb1 hz
 go_upto_region 3 with (first
  | (go_at_call 80;refine (rvalid14_ok 6 pv A n c xs _ (HOk.out.up (show Bw w _ from BWX))).mono ?_;rintro ee wv ⟨rfl,hbv⟩;have z0:=(HB0a.out.up hbv).cell 0 (v:=.int .i64 6) rfl;have z1:=(HB0a.out.up hbv).cell 1 (v:=.int .i64 pv) rfl;have z2:=(HB0a.out.up hbv).cell 2 (v:=.slice A n c) rfl;have HBV:=Lib.hid hbv;clear hbv y0 y1 y2)
  | fail)
 have hbv:=HBV.out
 have HB0:=Lib.hid (HB0a.out.up hbv)
 have HB1:=Lib.hid (Exists.elim HB1a.out (fun old h => (⟨old,h.1.up hbv,h.2⟩ : ∃ old,Sb wv (w.heap.size + 1) old 39 ∧ old.size = 3)))
 have hbw2 : Bw w wv:=Bw.trans hbw hbv
 have hz2 : w.heap.size + 1 < wv.heap.size:=by have:=hbv.size;omega
 have hz02 : w.heap.size < wv.heap.size:=by omega
 have HOk1:=Lib.hid (HOk.out.up hbw2)
 clear HBV HB0a HB1a hz1 hz0 hbw hbv
 have hk:=Zhk.out
 subst hk
 go_upto_region 11 with ((go_at_call 102;refine (rin_any _ _ _ _).mono ?_;rintro ee ww ⟨rfl,rfl⟩;(first|rw [inB_yes (by omega) (by omega)]|rw [inB_no (by omega)])))
 go_wp2_with (first
  | (go_at_call 83;refine (rto_any 0 _).mono ?_;rintro ee wt ⟨rfl,hbt⟩;have hbt':=Lib.hid hbt;clear hbt)
  | ((with_reducible refine wpList_store_scn 0 0 none 0 0 (w.heap.size + 1) (.tmp 4) (.tmp 46) rfl rfl ?_ ?_ ?_ ?_);(focus rfl);(focus rfl);(focus (exact Exists.elim HB1.out (fun old h => ⟨old,h.1.up hbt'.out,h.2⟩)));intro w3 hS3 hg3;have HS3:=Lib.hid hS3;have HG3:=Lib.hid hg3;clear hS3 hg3)
  | (go_at_call 102;refine (rin_any _ _ _ _).mono ?_;rintro ee ww ⟨rfl,rfl⟩;(first|rw [inB_yes (by omega) (by omega)]|rw [inB_no (by omega)]))
  | fail)
 refine bodyPost_ret (results_scn rfl _ _ (w.heap.size + 1) 0 0 none 0 0 (by rfl) HS3.out) rfl ?_
 exact ⟨0,0,none,0,0,[],none,0,0,[],rfl,ScnOk.to _ _ (by omega),OpsL.nil_ _,by omega,by omega,by omega,Bw.grown (Bw.trans hbw2 hbt'.out) HG3.out (fun k hk => by cases hk;omega),(by have hs3:=HG3.out.size;(try have hs5:=HG5.out.size);refine ⟨fun ad e => ?_,fun ad e => ?_,fun o ho ad e => ?_⟩;(focus (first|(cases e;done)|(right;exact e.symm)|(left;cases e;dsimp only;simp only [szA,szS,szD,szN] at *;omega)|(left;cases e;dsimp only;omega)));(focus (first|(cases e;done)|(cases e;dsimp only;omega)|(cases e;dsimp only;simp only [szA,szS,szD,szN] at *;omega)));(focus (first|(cases ho;done)|(simp only [List.mem_singleton] at ho;subst ho;dsimp only at e;first|(cases e;done)|(cases e;dsimp only;omega))))),fun _ => TyA.none _,fun o ho => by first|(cases ho;done)|(simp only [List.mem_singleton] at ho;subst ho;exact TyA.none _)⟩
theorem rnext_1 (code pv : Int) (A : Option Addr) (n c : Nat) (xs : List Int) (w : World) (h : ScnOk w 1 pv A n c xs) : Calls Tryz.prog 84 #[.agg #[.int .i64 1,.int .i64 pv,.slice A n c],.int .i64 code] w (Nxt w A):=by
 by_cases k24 : code = 24
 ·exact rnext_g24 1 code pv A n c xs w h k24 rfl rfl
 by_cases k26 : code = 26
 ·exact rnext_g26 1 code pv A n c xs w h k26 rfl rfl
 by_cases k27 : code = 27
 ·exact rnext_g27 1 code pv A n c xs w h k27 rfl rfl
 by_cases k127 : code = 127
 ·exact rnext_g127 1 code pv A n c xs w h k127 rfl rfl
 have h24 : (code == 24) = false:=by simpa using k24
 have h26 : (code == 26) = false:=by simpa using k26
 have h27 : (code == 27) = false:=by simpa using k27
 have h127 : (code == 127) = false:=by simpa using k127
 by_cases hneg : code < 0
 ·exact rnext_gneg 1 code pv A n c xs w h hneg h24 h26 h27 h127 rfl rfl
 by_cases hctl : code < 32
 ·exact rnext_gctl 1 code pv A n c xs w h (by omega) hctl h24 h26 h27 h127 rfl rfl
 by_cases hhi : 128 ≤ code
 ·exact rnext_ghi 1 code pv A n c xs w h hhi h24 h26 h27 h127 rfl rfl rfl
 by_cases k91 : code = 91
 ·exact rnext_1x91 code pv A n c xs w h k91
 by_cases k80 : code = 80
 ·exact rnext_1x80 code pv A n c xs w h k80
 by_cases k88 : code = 88
 ·exact rnext_1x88 code pv A n c xs w h k88
 have h91 : (code == 91) = false:=by simpa using k91
 have h80 : (code == 80) = false:=by simpa using k80
 have h88 : (code == 88) = false:=by simpa using k88
 by_cases hst : 93 ≤ code ∧ code ≤ 95
 ·exact rnext_1str code pv A n c xs w h hst.1 hst.2 h24 h26 h27 h127 h91 h80 h88
 by_cases hsk : code ≤ 47
 ·exact rnext_1skip code pv A n c xs w h (by omega) hsk h24 h26 h27 h127 h91 h80 h88
 exact rnext_1esc code pv A n c xs w h (by omega) (by omega) (by omega) h24 h26 h27 h127 h91 h80 h88
set_option maxRecDepth 100000 in
set_option maxHeartbeats 4000000 in
theorem rnext_3csi (code pv : Int) (A : Option Addr) (n c : Nat) (xs : List Int) (w : World) (h : ScnOk w 3 pv A n c xs) (hlo : 32 ≤ code) (hhi : code ≤ 126) (h24 : (code == 24) = false) (h26 : (code == 26) = false) (h27 : (code == 27) = false) (h127 : (code == 127) = false) : Calls Tryz.prog 84 #[.agg #[.int .i64 3,.int .i64 pv,.slice A n c],.int .i64 code] w (Nxt w A):=by
 have Zhlo:=Lib.hid hlo
 clear hlo
 have Zhhi:=Lib.hid hhi
 clear hhi
 have Zh24:=Lib.hid h24
 clear h24
 have Zh26:=Lib.hid h26
 clear h26
 have Zh27:=Lib.hid h27
 clear h27
 have Zh127:=Lib.hid h127
 clear h127
 have HOk:=Lib.hid h
 have hx:=h.1
 have HXA:=Lib.hid (show 0 < n → ∀ ad,A = some ad → ad.block < w.heap.size from fun h0 ad e => by
  obtain ⟨g,o,e2,h⟩:=hx.2 h0
  have h1:=lt_of_cell (h 0 (by rw [hx.1];exact h0))
  rw [e] at e2
  cases e2
  exact h1)
 clear h hx
 go_enter Tryz.func84,Tryz.ntmps84
 go_upto_region 1 with (fail)
 generalize hw1 : (w.alloc (.cells #[.int .i64 3,.int .i64 pv,.slice A n c] 39)).alloc _ = w1
 obtain ⟨hb0,hb1,hbw,hz⟩:=sb2 hw1
 have HB0a:=Lib.hid hb0
 have HB1a:=Lib.hid (show ∃ old,Sb w1 (w.heap.size + 1) old 39 ∧ old.size = 3 from ⟨_,hb1,rfl⟩)
 have hz1 : w.heap.size + 1 < w1.heap.size:=by omega
 have hz0 : w.heap.size < w1.heap.size:=by omega
 have y0:=HB0a.out.cell 0 (v:=.int .i64 3) rfl
 have y1:=HB0a.out.cell 1 (v:=.int .i64 pv) rfl
 have y2:=HB0a.out.cell 2 (v:=.slice A n c) rfl
 clear hw1 hb0 hb1 hz
 go_upto_region 3 with (first
  | (go_at_call 80;refine (rvalid14_ok 3 pv A n c xs _ (HOk.out.up (show Bw w _ from BWX))).mono ?_;rintro ee wv ⟨rfl,hbv⟩;have z0:=(HB0a.out.up hbv).cell 0 (v:=.int .i64 3) rfl;have z1:=(HB0a.out.up hbv).cell 1 (v:=.int .i64 pv) rfl;have z2:=(HB0a.out.up hbv).cell 2 (v:=.slice A n c) rfl;have HBV:=Lib.hid hbv;clear hbv y0 y1 y2)
  | fail)
 have hbv:=HBV.out
 have HB0:=Lib.hid (HB0a.out.up hbv)
 have HB1:=Lib.hid (Exists.elim HB1a.out (fun old h => (⟨old,h.1.up hbv,h.2⟩ : ∃ old,Sb wv (w.heap.size + 1) old 39 ∧ old.size = 3)))
 have hbw2 : Bw w wv:=Bw.trans hbw hbv
 have hz2 : w.heap.size + 1 < wv.heap.size:=by have:=hbv.size;omega
 have hz02 : w.heap.size < wv.heap.size:=by omega
 have HOk1:=Lib.hid (HOk.out.up hbw2)
 clear HBV HB0a HB1a hz1 hz0 hbw hbv
 have hlo:=Zhlo.out
 have hhi:=Zhhi.out
 have h24:=Zh24.out
 have h26:=Zh26.out
 have h27:=Zh27.out
 have h127:=Zh127.out
 have hn0 : 0 < n:=by
  rcases HOk1.out.2.2.2 with h|h
  ·exact absurd rfl h.1
  ·omega
 go_upto_region 28 with ((go_at_call 102;refine (rin_any _ _ _ _).mono ?_;rintro ee ww ⟨rfl,rfl⟩;(first|rw [inB_yes (by omega) (by omega)]|rw [inB_no (by omega)])))
 go_wp2_with (first
  | (go_at_call 103;refine (rcsi14_ok code pv A n c xs _ (HOk1.out.up BWX) (by omega) (by omega)).mono ?_;rintro ee wn ⟨md',pv',A',n',c',xs',B',m',c2',l',rfl,hK,hL,hm,hmc,hc2,hbn,hN,hT1,hT2⟩;have HK:=Lib.hid hK;have HL:=Lib.hid hL;have HBN:=Lib.hid hbn;have HN:=Lib.hid hN;have HT1:=Lib.hid hT1;have HT2:=Lib.hid hT2;have hzn:=hbn.size;clear hK hL hbn hN hT1 hT2)
  | ((with_reducible refine wpList_store_scn md' pv' A' n' c' (w.heap.size + 1) (.tmp 4) (.tmp 113) rfl rfl ?_ ?_ ?_ ?_);(focus rfl);(focus rfl);(focus (exact Exists.elim HB1.out (fun old h => ⟨old,h.1.up HBN.out,h.2⟩)));intro w3 hS3 hg3;have HS3:=Lib.hid hS3;have HG3:=Lib.hid hg3;clear hS3 hg3)
  | fail)
 refine bodyPost_ret (results_scn rfl _ _ (w.heap.size + 1) md' pv' A' n' c' (by rfl) HS3.out) rfl ?_
 have hB:=HBN.out
 have hfar : 0 < n' → ∀ ad,A' = some ad → some ad.block ≠ some (w.heap.size + 1):=fun h0 ad e e2 => by
  have e3:=Option.some.inj e2
  rcases HN.out.1 ad e with h|h
  ·omega
  ·have:=HXA.out hn0 ad h.symm;omega
 exact ⟨md',pv',A',n',c',xs',B',m',c2',l',rfl,HK.out.far0 HG3.out hfar,HL.out.far HG3.out (fun ad e e2 => by have:=HN.out.2.1 ad e;have e3:=Option.some.inj e2;omega) (fun o ho ad e e2 => by have:=HN.out.2.2 o ho ad e;have e3:=Option.some.inj e2;omega),hm,hmc,hc2,Bw.grown (Bw.trans hbw2 hB) HG3.out (fun k hk => by cases hk;omega),⟨fun ad e => by
  rcases HN.out.1 ad e with h|h
  ·left;omega
  ·right;exact h,fun ad e => by have:=HN.out.2.1 ad e;omega,fun o ho ad e => by have:=HN.out.2.2 o ho ad e;omega⟩,fun hT => (HT1.out (hT.up (show Bw w _ from BWX))).far HG3.out (fun ad e e2 => by have e3:=Option.some.inj e2;rcases HN.out.1 ad e with h|h;omega;(have:=hT.lt ad h.symm;omega)),fun o ho => (HT2.out o ho).far HG3.out (fun ad e e2 => by have:=HN.out.2.2 o ho ad e;have e3:=Option.some.inj e2;omega)⟩

set_option maxRecDepth 100000 in
set_option maxHeartbeats 4000000 in
theorem rnext_6s (code pv : Int) (A : Option Addr) (n c : Nat) (xs : List Int) (w : World) (h : ScnOk w 6 pv A n c xs) (h24 : (code == 24) = false) (h26 : (code == 26) = false) (h27 : (code == 27) = false) (h92 : (code == 92) = false) : Calls Tryz.prog 84 #[.agg #[.int .i64 6,.int .i64 pv,.slice A n c],.int .i64 code] w (Nxt w A):=by
 have Zh24:=Lib.hid h24
 clear h24
 have Zh26:=Lib.hid h26
 clear h26
 have Zh27:=Lib.hid h27
 clear h27
 have Zh92:=Lib.hid h92
 clear h92
 have HOk:=Lib.hid h
 have hx:=h.1
 have HXA:=Lib.hid (show 0 < n → ∀ ad,A = some ad → ad.block < w.heap.size from fun h0 ad e => by
  obtain ⟨g,o,e2,h⟩:=hx.2 h0
  have h1:=lt_of_cell (h 0 (by rw [hx.1];exact h0))
  rw [e] at e2
  cases e2
  exact h1)
 clear h hx
 go_enter Tryz.func84,Tryz.ntmps84
 go_upto_region 1 with (fail)
 generalize hw1 : (w.alloc (.cells #[.int .i64 6,.int .i64 pv,.slice A n c] 39)).alloc _ = w1
 obtain ⟨hb0,hb1,hbw,hz⟩:=sb2 hw1
 have HB0a:=Lib.hid hb0
 have HB1a:=Lib.hid (show ∃ old,Sb w1 (w.heap.size + 1) old 39 ∧ old.size = 3 from ⟨_,hb1,rfl⟩)
 have hz1 : w.heap.size + 1 < w1.heap.size:=by omega
 have hz0 : w.heap.size < w1.heap.size:=by omega
 have y0:=HB0a.out.cell 0 (v:=.int .i64 6) rfl
 have y1:=HB0a.out.cell 1 (v:=.int .i64 pv) rfl
 have y2:=HB0a.out.cell 2 (v:=.slice A n c) rfl
 clear hw1 hb0 hb1 hz
 go_upto_region 3 with (first
  | (go_at_call 80;refine (rvalid14_ok 6 pv A n c xs _ (HOk.out.up (show Bw w _ from BWX))).mono ?_;rintro ee wv ⟨rfl,hbv⟩;have z0:=(HB0a.out.up hbv).cell 0 (v:=.int .i64 6) rfl;have z1:=(HB0a.out.up hbv).cell 1 (v:=.int .i64 pv) rfl;have z2:=(HB0a.out.up hbv).cell 2 (v:=.slice A n c) rfl;have HBV:=Lib.hid hbv;clear hbv y0 y1 y2)
  | fail)
 have hbv:=HBV.out
 have HB0:=Lib.hid (HB0a.out.up hbv)
 have HB1:=Lib.hid (Exists.elim HB1a.out (fun old h => (⟨old,h.1.up hbv,h.2⟩ : ∃ old,Sb wv (w.heap.size + 1) old 39 ∧ old.size = 3)))
 have hbw2 : Bw w wv:=Bw.trans hbw hbv
 have hz2 : w.heap.size + 1 < wv.heap.size:=by have:=hbv.size;omega
 have hz02 : w.heap.size < wv.heap.size:=by omega
 have HOk1:=Lib.hid (HOk.out.up hbw2)
 clear HBV HB0a HB1a hz1 hz0 hbw hbv
 have h24:=Zh24.out
 have h26:=Zh26.out
 have h27:=Zh27.out
 have h92:=Zh92.out
 go_upto_region 13 with ((go_at_call 102;refine (rin_any _ _ _ _).mono ?_;rintro ee ww ⟨rfl,rfl⟩;(first|rw [inB_yes (by omega) (by omega)]|rw [inB_no (by omega)])))
 go_wp2_with (first
  | (go_at_call 84;refine (rnext_1 code 0 none 0 0 [] _ (ScnOk.to _ 1 (by omega))).mono ?_;rintro ee wn ⟨md',pv',A',n',c',xs',B',m',c2',l',rfl,hK,hL,hm,hmc,hc2,hbn,hN,hT1,hT2⟩;have HK:=Lib.hid hK;have HL:=Lib.hid hL;have HBN:=Lib.hid hbn;have HN:=Lib.hid hN;have HT1:=Lib.hid hT1;have HT2:=Lib.hid hT2;have hzn:=hbn.size;clear hK hL hbn hN hT1 hT2)
  | (go_at_call 83;refine (rto_any 1 _).mono ?_;rintro ee wt ⟨rfl,hbt⟩;have hbt':=Lib.hid hbt;have hzt:=hbt.size;clear hbt)
  | ((with_reducible refine wpList_store_scn md' pv' A' n' c' (w.heap.size + 1) (.tmp 4) (.tmp 54) rfl rfl ?_ ?_ ?_ ?_);(focus rfl);(focus rfl);(focus (exact Exists.elim HB1.out (fun old h => ⟨old,(h.1.up hbt'.out).up HBN.out,h.2⟩)));intro w3 hS3 hg3;have HS3:=Lib.hid hS3;have HG3:=Lib.hid hg3;clear hS3 hg3)
  | fail)
 refine bodyPost_ret (results_scn rfl _ _ (w.heap.size + 1) md' pv' A' n' c' (by rfl) HS3.out) rfl ?_
 have hB:=HBN.out
 have hfar : 0 < n' → ∀ ad,A' = some ad → some ad.block ≠ some (w.heap.size + 1):=fun h0 ad e e2 => by
  have e3:=Option.some.inj e2
  rcases HN.out.1 ad e with h|h
  ·omega
  ·(cases h)
 exact ⟨md',pv',A',n',c',xs',B',m',c2',l',rfl,HK.out.far0 HG3.out hfar,HL.out.far HG3.out (fun ad e e2 => by have:=HN.out.2.1 ad e;have e3:=Option.some.inj e2;omega) (fun o ho ad e e2 => by have:=HN.out.2.2 o ho ad e;have e3:=Option.some.inj e2;omega),hm,hmc,hc2,Bw.grown (Bw.trans (Bw.trans hbw2 hbt'.out) hB) HG3.out (fun k hk => by cases hk;omega),⟨fun ad e => by
  rcases HN.out.1 ad e with h|h
  ·left;omega
  ·(cases h),fun ad e => by have:=HN.out.2.1 ad e;omega,fun o ho ad e => by have:=HN.out.2.2 o ho ad e;omega⟩,fun hT => (HT1.out (TyA.none _)).far HG3.out (fun ad e e2 => by have e3:=Option.some.inj e2;rcases HN.out.1 ad e with h|h;omega;(cases h)),fun o ho => (HT2.out o ho).far HG3.out (fun ad e e2 => by have:=HN.out.2.2 o ho ad e;have e3:=Option.some.inj e2;omega)⟩

theorem rnext_0 (code pv : Int) (A : Option Addr) (n c : Nat) (xs : List Int) (w : World) (h : ScnOk w 0 pv A n c xs) : Calls Tryz.prog 84 #[.agg #[.int .i64 0,.int .i64 pv,.slice A n c],.int .i64 code] w (Nxt w A):=by
 by_cases k24 : code = 24
 ·exact rnext_g24 0 code pv A n c xs w h k24 rfl rfl
 by_cases k26 : code = 26
 ·exact rnext_g26 0 code pv A n c xs w h k26 rfl rfl
 by_cases k27 : code = 27
 ·exact rnext_g27 0 code pv A n c xs w h k27 rfl rfl
 by_cases k127 : code = 127
 ·exact rnext_g127 0 code pv A n c xs w h k127 rfl rfl
 have h24 : (code == 24) = false:=by simpa using k24
 have h26 : (code == 26) = false:=by simpa using k26
 have h27 : (code == 27) = false:=by simpa using k27
 have h127 : (code == 127) = false:=by simpa using k127
 by_cases hneg : code < 0
 ·exact rnext_gneg 0 code pv A n c xs w h hneg h24 h26 h27 h127 rfl rfl
 by_cases hctl : code < 32
 ·exact rnext_gctl 0 code pv A n c xs w h (by omega) hctl h24 h26 h27 h127 rfl rfl
 by_cases hp : code ≤ 126
 ·exact rnext_0p1 code pv A n c xs w h (by omega) hp h24 h26 h27 h127
 by_cases hc : code < 128
 ·omega
 by_cases hc1 : code ≤ 159
 ·exact rnext_0c1 code pv A n c xs w h (by omega) hc1 h24 h26 h27 h127
 ·exact rnext_0p2 code pv A n c xs w h (by omega) h24 h26 h27 h127
theorem rnext_2 (code pv : Int) (A : Option Addr) (n c : Nat) (xs : List Int) (w : World) (h : ScnOk w 2 pv A n c xs) : Calls Tryz.prog 84 #[.agg #[.int .i64 2,.int .i64 pv,.slice A n c],.int .i64 code] w (Nxt w A):=by
 by_cases k24 : code = 24
 ·exact rnext_g24 2 code pv A n c xs w h k24 rfl rfl
 by_cases k26 : code = 26
 ·exact rnext_g26 2 code pv A n c xs w h k26 rfl rfl
 by_cases k27 : code = 27
 ·exact rnext_g27 2 code pv A n c xs w h k27 rfl rfl
 by_cases k127 : code = 127
 ·exact rnext_g127 2 code pv A n c xs w h k127 rfl rfl
 have h24 : (code == 24) = false:=by simpa using k24
 have h26 : (code == 26) = false:=by simpa using k26
 have h27 : (code == 27) = false:=by simpa using k27
 have h127 : (code == 127) = false:=by simpa using k127
 by_cases hneg : code < 0
 ·exact rnext_gneg 2 code pv A n c xs w h hneg h24 h26 h27 h127 rfl rfl
 by_cases hctl : code < 32
 ·exact rnext_gctl 2 code pv A n c xs w h (by omega) hctl h24 h26 h27 h127 rfl rfl
 by_cases hhi : 128 ≤ code
 ·exact rnext_ghi 2 code pv A n c xs w h hhi h24 h26 h27 h127 rfl rfl rfl
 by_cases hsk : code ≤ 47
 ·exact rnext_2a code pv A n c xs w h (by omega) hsk h24 h26 h27 h127
 exact rnext_2b code pv A n c xs w h (by omega) (by omega) h24 h26 h27 h127
theorem rnext_3 (code pv : Int) (A : Option Addr) (n c : Nat) (xs : List Int) (w : World) (h : ScnOk w 3 pv A n c xs) : Calls Tryz.prog 84 #[.agg #[.int .i64 3,.int .i64 pv,.slice A n c],.int .i64 code] w (Nxt w A):=by
 by_cases k24 : code = 24
 ·exact rnext_g24 3 code pv A n c xs w h k24 rfl rfl
 by_cases k26 : code = 26
 ·exact rnext_g26 3 code pv A n c xs w h k26 rfl rfl
 by_cases k27 : code = 27
 ·exact rnext_g27 3 code pv A n c xs w h k27 rfl rfl
 by_cases k127 : code = 127
 ·exact rnext_g127 3 code pv A n c xs w h k127 rfl rfl
 have h24 : (code == 24) = false:=by simpa using k24
 have h26 : (code == 26) = false:=by simpa using k26
 have h27 : (code == 27) = false:=by simpa using k27
 have h127 : (code == 127) = false:=by simpa using k127
 by_cases hneg : code < 0
 ·exact rnext_gneg 3 code pv A n c xs w h hneg h24 h26 h27 h127 rfl rfl
 by_cases hctl : code < 32
 ·exact rnext_gctl 3 code pv A n c xs w h (by omega) hctl h24 h26 h27 h127 rfl rfl
 by_cases hhi : 128 ≤ code
 ·exact rnext_ghi 3 code pv A n c xs w h hhi h24 h26 h27 h127 rfl rfl rfl
 exact rnext_3csi code pv A n c xs w h (by omega) (by omega) h24 h26 h27 h127
theorem rnext_4 (code pv : Int) (A : Option Addr) (n c : Nat) (xs : List Int) (w : World) (h : ScnOk w 4 pv A n c xs) : Calls Tryz.prog 84 #[.agg #[.int .i64 4,.int .i64 pv,.slice A n c],.int .i64 code] w (Nxt w A):=by
 by_cases k24 : code = 24
 ·exact rnext_g24 4 code pv A n c xs w h k24 rfl rfl
 by_cases k26 : code = 26
 ·exact rnext_g26 4 code pv A n c xs w h k26 rfl rfl
 by_cases k27 : code = 27
 ·exact rnext_g27 4 code pv A n c xs w h k27 rfl rfl
 by_cases k127 : code = 127
 ·exact rnext_g127 4 code pv A n c xs w h k127 rfl rfl
 have h24 : (code == 24) = false:=by simpa using k24
 have h26 : (code == 26) = false:=by simpa using k26
 have h27 : (code == 27) = false:=by simpa using k27
 have h127 : (code == 127) = false:=by simpa using k127
 by_cases hneg : code < 0
 ·exact rnext_gneg 4 code pv A n c xs w h hneg h24 h26 h27 h127 rfl rfl
 by_cases hctl : code < 32
 ·exact rnext_gctl 4 code pv A n c xs w h (by omega) hctl h24 h26 h27 h127 rfl rfl
 by_cases hhi : 128 ≤ code
 ·exact rnext_ghi 4 code pv A n c xs w h hhi h24 h26 h27 h127 rfl rfl rfl
 by_cases hsk : 64 ≤ code
 ·exact rnext_4a code pv A n c xs w h hsk (by omega) h24 h26 h27 h127
 exact rnext_4b code pv A n c xs w h (by omega) (by omega) h24 h26 h27 h127
theorem rnext_5 (code pv : Int) (A : Option Addr) (n c : Nat) (xs : List Int) (w : World) (h : ScnOk w 5 pv A n c xs) : Calls Tryz.prog 84 #[.agg #[.int .i64 5,.int .i64 pv,.slice A n c],.int .i64 code] w (Nxt w A):=by
 by_cases k24 : code = 24
 ·exact rnext_5x24 code pv A n c xs w h k24
 by_cases k26 : code = 26
 ·exact rnext_5x26 code pv A n c xs w h k26
 by_cases k27 : code = 27
 ·exact rnext_5x27 code pv A n c xs w h k27
 by_cases k7 : code = 7
 ·exact rnext_5x7 code pv A n c xs w h k7
 exact rnext_5s code pv A n c xs w h (by simpa using k24) (by simpa using k26) (by simpa using k27) (by simpa using k7)
theorem rnext_6 (code pv : Int) (A : Option Addr) (n c : Nat) (xs : List Int) (w : World) (h : ScnOk w 6 pv A n c xs) : Calls Tryz.prog 84 #[.agg #[.int .i64 6,.int .i64 pv,.slice A n c],.int .i64 code] w (Nxt w A):=by
 by_cases k24 : code = 24
 ·exact rnext_6x24 code pv A n c xs w h k24
 by_cases k26 : code = 26
 ·exact rnext_6x26 code pv A n c xs w h k26
 by_cases k27 : code = 27
 ·exact rnext_6x27 code pv A n c xs w h k27
 by_cases k92 : code = 92
 ·exact rnext_6x92 code pv A n c xs w h k92
 exact rnext_6s code pv A n c xs w h (by simpa using k24) (by simpa using k26) (by simpa using k27) (by simpa using k92)
theorem rnext_ok (md code pv : Int) (A : Option Addr) (n c : Nat) (xs : List Int) (w : World) (h : ScnOk w md pv A n c xs) : Calls Tryz.prog 84 #[.agg #[.int .i64 md,.int .i64 pv,.slice A n c],.int .i64 code] w (Nxt w A):=by
 obtain ⟨hm0,hm6⟩ : 0 ≤ md ∧ md ≤ 6:=by
  rcases h.2.2.2 with h|h
  ·exact ⟨h.2.1,h.2.2.1⟩
  ·omega
 by_cases e0 : md = 0
 ·subst e0
  exact rnext_0 code pv A n c xs w h
 by_cases e1 : md = 1
 ·subst e1
  exact rnext_1 code pv A n c xs w h
 by_cases e2 : md = 2
 ·subst e2
  exact rnext_2 code pv A n c xs w h
 by_cases e3 : md = 3
 ·subst e3
  exact rnext_3 code pv A n c xs w h
 by_cases e4 : md = 4
 ·subst e4
  exact rnext_4 code pv A n c xs w h
 by_cases e5 : md = 5
 ·subst e5
  exact rnext_5 code pv A n c xs w h
 by_cases e6 : md = 6
 ·subst e6
  exact rnext_6 code pv A n c xs w h
 omega
end Go.Proofs.YtkflooljdopldaaGreat
