/- Parts of the proof, one after the other. -/
import Derived.Test.YteebdjmjeahccaaGreatDoorC21
import Derived.Test.YteebdjmjeahccaaGreatDoorC22
set_option linter.unusedSimpArgs false
set_option linter.unusedVariables false
set_option maxRecDepth 100000
set_option maxHeartbeats 16000000
namespace Go.Proofs.YteebdjmjeahccaaGreatDoor
open Go.RowKit
theorem rnext_1 (code pv : Int) (A : Option Addr) (n c : Nat) (xs : List Int) (w : World) (h : ScnOk w 1 pv A n c xs) : Calls Tryz.prog 78 #[.agg #[.int .i64 1,.int .i64 pv,.slice A n c],.int .i64 code] w (Nxt w A (nextN 1 pv xs code)):=by
 by_cases k24 : code = 24
 ·exact rnext_Ga 1 code pv A n c xs w h (.inl ⟨k24,rfl,rfl⟩)
 by_cases k26 : code = 26
 ·exact rnext_Ga 1 code pv A n c xs w h (.inr (.inl ⟨k26,rfl,rfl⟩))
 by_cases k27 : code = 27
 ·exact rnext_Ga 1 code pv A n c xs w h (.inr (.inr (.inl ⟨k27,rfl,rfl⟩)))
 by_cases k127 : code = 127
 ·exact rnext_Ga 1 code pv A n c xs w h (.inr (.inr (.inr (.inl ⟨k127,rfl,rfl⟩))))
 have h24 : (code == 24) = false:=by simpa using k24
 have h26 : (code == 26) = false:=by simpa using k26
 have h27 : (code == 27) = false:=by simpa using k27
 have h127 : (code == 127) = false:=by simpa using k127
 by_cases hneg : code < 0
 ·exact rnext_Ga 1 code pv A n c xs w h (.inr (.inr (.inr (.inr (.inl ⟨hneg,h24,h26,h27,h127,rfl,rfl⟩)))))
 by_cases hctl : code < 32
 ·exact rnext_Ga 1 code pv A n c xs w h (.inr (.inr (.inr (.inr (.inr ⟨(by omega),hctl,h24,h26,h27,h127,rfl,rfl⟩)))))
 by_cases hhi : 128 ≤ code
 ·exact rnext_Gb 1 code pv A n c xs w h (.inl ⟨hhi,h24,h26,h27,h127,rfl,rfl,rfl⟩)
 by_cases k91 : code = 91
 ·exact rnext_Gb 1 code pv A n c xs w h (.inr (.inr (.inr (.inr (.inl ⟨rfl,k91⟩)))))
 by_cases k80 : code = 80
 ·exact rnext_Gb 1 code pv A n c xs w h (.inr (.inr (.inr (.inr (.inr (.inl ⟨rfl,k80⟩))))))
 by_cases k88 : code = 88
 ·exact rnext_Gb 1 code pv A n c xs w h (.inr (.inr (.inr (.inr (.inr (.inr ⟨rfl,k88⟩))))))
 have h91 : (code == 91) = false:=by simpa using k91
 have h80 : (code == 80) = false:=by simpa using k80
 have h88 : (code == 88) = false:=by simpa using k88
 by_cases hst : 93 ≤ code ∧ code ≤ 95
 ·exact rnext_Gc 1 code pv A n c xs w h (.inl ⟨rfl,hst.1,hst.2,h24,h26,h27,h127,h91,h80,h88⟩)
 by_cases hsk : code ≤ 47
 ·exact rnext_Gc 1 code pv A n c xs w h (.inr (.inl ⟨rfl,(by omega),hsk,h24,h26,h27,h127,h91,h80,h88⟩))
 exact rnext_Gc 1 code pv A n c xs w h (.inr (.inr (.inl ⟨rfl,(by omega),(by omega),(by omega),h24,h26,h27,h127,h91,h80,h88⟩)))
theorem rnext_3csi (code pv : Int) (A : Option Addr) (n c : Nat) (xs : List Int) (w : World) (h : ScnOk w 3 pv A n c xs) (hlo : 32 ≤ code) (hhi : code ≤ 126) (h24 : (code == 24) = false) (h26 : (code == 26) = false) (h27 : (code == 27) = false) (h127 : (code == 127) = false) : Calls Tryz.prog 78 #[.agg #[.int .i64 3,.int .i64 pv,.slice A n c],.int .i64 code] w (Nxt w A (nextN 3 pv xs code)):=by
 have Zhlo:=Lib.hid hlo
 clear hlo
 have Zhhi:=Lib.hid hhi
 clear hhi
 have Zh24:=Lib.hid h24
 clear h24
 have Zh26:=Lib.hid h26
 clear h26
 have Zh27:=Lib.hid h27
 clear h27
 have Zh127:=Lib.hid h127
 clear h127
 have HOk:=Lib.hid h
 have hx:=h.1
 have HXA:=Lib.hid (show 0 < n → ∀ ad,A = some ad → ad.block < w.heap.size from fun h0 ad e => by
  obtain ⟨g,o,e2,h⟩:=hx.2 h0
  have h1:=lt_of_cell (h 0 (by rw [hx.1];exact h0))
  rw [e] at e2
  cases e2
  exact h1)
 clear h hx
 go_enter Tryz.func78,Tryz.ntmps78
 go_upto_region 1 with (fail)
 generalize hw1 : (w.alloc (.cells #[.int .i64 3,.int .i64 pv,.slice A n c] 50)).alloc _ = w1
 obtain ⟨hb0,hb1,hbw,hz⟩:=sb2 hw1
 have HB0a:=Lib.hid hb0
 have HB1a:=Lib.hid (show ∃ old,Sb w1 (w.heap.size + 1) old 50 ∧ old.size = 3 from ⟨_,hb1,rfl⟩)
 have hz1 : w.heap.size + 1 < w1.heap.size:=by omega
 have hz0 : w.heap.size < w1.heap.size:=by omega
 have y0:=HB0a.out.cell 0 (v:=.int .i64 3) rfl
 have y1:=HB0a.out.cell 1 (v:=.int .i64 pv) rfl
 have y2:=HB0a.out.cell 2 (v:=.slice A n c) rfl
 clear hw1 hb0 hb1 hz
 go_upto_region 3 with (first
  | (go_at_call 70;refine (rvalid14_ok 3 pv A n c xs _ (HOk.out.up (show Bw w _ from BWX))).mono ?_;rintro ee wv ⟨rfl,hbv⟩;have z0:=(HB0a.out.up hbv).cell 0 (v:=.int .i64 3) rfl;have z1:=(HB0a.out.up hbv).cell 1 (v:=.int .i64 pv) rfl;have z2:=(HB0a.out.up hbv).cell 2 (v:=.slice A n c) rfl;have HBV:=Lib.hid hbv;clear hbv y0 y1 y2)
  | fail)
 have hbv:=HBV.out
 have HB0:=Lib.hid (HB0a.out.up hbv)
 have HB1:=Lib.hid (Exists.elim HB1a.out (fun old h => (⟨old,h.1.up hbv,h.2⟩ : ∃ old,Sb wv (w.heap.size + 1) old 50 ∧ old.size = 3)))
 have hbw2 : Bw w wv:=Bw.trans hbw hbv
 have hz2 : w.heap.size + 1 < wv.heap.size:=by have:=hbv.size;omega
 have hz02 : w.heap.size < wv.heap.size:=by omega
 have HOk1:=Lib.hid (HOk.out.up hbw2)
 clear HBV HB0a HB1a hz1 hz0 hbw hbv
 have hlo:=Zhlo.out
 have hhi:=Zhhi.out
 have h24:=Zh24.out
 have h26:=Zh26.out
 have h27:=Zh27.out
 have h127:=Zh127.out
 have hn0 : 0 < n:=by
  rcases HOk1.out.2.2.2 with h|h
  ·exact absurd rfl h.1
  ·omega
 go_upto_region 28 with ((go_at_call 100;refine (rin_any _ _ _ _).mono ?_;rintro ee ww ⟨rfl,rfl⟩;(first|rw [inB_yes (by omega) (by omega)]|rw [inB_no (by omega)])))
 go_wp2_with (first
  | (go_at_call 101;refine (rcsi14_ok code pv A n c xs _ (HOk1.out.up BWX) (by omega) (by omega)).mono ?_;rintro ee wn ⟨md',pv',A',n',c',xs',B',m',c2',l',rfl,hK,hL,hm,hmc,hc2,hbn,hN,hT1,hT2,hSP⟩;have HSP:=Lib.hid hSP;have HK:=Lib.hid hK;have HL:=Lib.hid hL;have HBN:=Lib.hid hbn;have HN:=Lib.hid hN;have HT1:=Lib.hid hT1;have HT2:=Lib.hid hT2;have hzn:=hbn.size;clear hK hL hbn hN hT1 hT2 hSP)
  | ((with_reducible refine wpList_store_scn md' pv' A' n' c' (w.heap.size + 1) (.tmp 4) (.tmp 113) rfl rfl ?_ ?_ ?_ ?_);(focus rfl);(focus rfl);(focus (exact Exists.elim HB1.out (fun old h => ⟨old,h.1.up HBN.out,h.2⟩)));intro w3 hS3 hg3;have HS3:=Lib.hid hS3;have HG3:=Lib.hid hg3;clear hS3 hg3)
  | fail)
 refine bodyPost_ret (results_scn rfl _ _ (w.heap.size + 1) md' pv' A' n' c' (by rfl) HS3.out) rfl ?_
 have hB:=HBN.out
 have hfar : 0 < n' → ∀ ad,A' = some ad → some ad.block ≠ some (w.heap.size + 1):=fun h0 ad e e2 => by
  have e3:=Option.some.inj e2
  rcases HN.out.1 ad e with h|h
  ·omega
  ·have:=HXA.out hn0 ad h.symm;omega
 exact ⟨md',pv',A',n',c',xs',B',m',c2',l',rfl,HK.out.far0 HG3.out hfar,HL.out.far HG3.out (fun ad e e2 => by have:=HN.out.2.1 ad e;have e3:=Option.some.inj e2;omega) (fun o ho ad e e2 => by have:=HN.out.2.2 o ho ad e;have e3:=Option.some.inj e2;omega),hm,hmc,hc2,Bw.grown (Bw.trans hbw2 hB) HG3.out (fun k hk => by cases hk;omega),⟨fun ad e => by
  rcases HN.out.1 ad e with h|h
  ·left;omega
  ·right;exact h,fun ad e => by have:=HN.out.2.1 ad e;omega,fun o ho ad e => by have:=HN.out.2.2 o ho ad e;omega⟩,fun hT => (HT1.out (hT.up (show Bw w _ from BWX))).far HG3.out (fun ad e e2 => by have e3:=Option.some.inj e2;rcases HN.out.1 ad e with h|h;omega;(have:=hT.lt ad h.symm;omega)),fun o ho => (HT2.out o ho).far HG3.out (fun ad e e2 => by have:=HN.out.2.2 o ho ad e;have e3:=Option.some.inj e2;omega),(by rw [nextN_3 hlo hhi];exact HSP.out)⟩
theorem rnext_6s (code pv : Int) (A : Option Addr) (n c : Nat) (xs : List Int) (w : World) (h : ScnOk w 6 pv A n c xs) (h24 : (code == 24) = false) (h26 : (code == 26) = false) (h27 : (code == 27) = false) (h92 : (code == 92) = false) : Calls Tryz.prog 78 #[.agg #[.int .i64 6,.int .i64 pv,.slice A n c],.int .i64 code] w (Nxt w A (nextN 6 pv xs code)):=by
 have Zh24:=Lib.hid h24
 clear h24
 have Zh26:=Lib.hid h26
 clear h26
 have Zh27:=Lib.hid h27
 clear h27
 have Zh92:=Lib.hid h92
 clear h92
 have HOk:=Lib.hid h
 have hx:=h.1
 have HXA:=Lib.hid (show 0 < n → ∀ ad,A = some ad → ad.block < w.heap.size from fun h0 ad e => by
  obtain ⟨g,o,e2,h⟩:=hx.2 h0
  have h1:=lt_of_cell (h 0 (by rw [hx.1];exact h0))
  rw [e] at e2
  cases e2
  exact h1)
 clear h hx
 go_enter Tryz.func78,Tryz.ntmps78
 go_upto_region 1 with (fail)
 generalize hw1 : (w.alloc (.cells #[.int .i64 6,.int .i64 pv,.slice A n c] 50)).alloc _ = w1
 obtain ⟨hb0,hb1,hbw,hz⟩:=sb2 hw1
 have HB0a:=Lib.hid hb0
 have HB1a:=Lib.hid (show ∃ old,Sb w1 (w.heap.size + 1) old 50 ∧ old.size = 3 from ⟨_,hb1,rfl⟩)
 have hz1 : w.heap.size + 1 < w1.heap.size:=by omega
 have hz0 : w.heap.size < w1.heap.size:=by omega
 have y0:=HB0a.out.cell 0 (v:=.int .i64 6) rfl
 have y1:=HB0a.out.cell 1 (v:=.int .i64 pv) rfl
 have y2:=HB0a.out.cell 2 (v:=.slice A n c) rfl
 clear hw1 hb0 hb1 hz
 go_upto_region 3 with (first
  | (go_at_call 70;refine (rvalid14_ok 6 pv A n c xs _ (HOk.out.up (show Bw w _ from BWX))).mono ?_;rintro ee wv ⟨rfl,hbv⟩;have z0:=(HB0a.out.up hbv).cell 0 (v:=.int .i64 6) rfl;have z1:=(HB0a.out.up hbv).cell 1 (v:=.int .i64 pv) rfl;have z2:=(HB0a.out.up hbv).cell 2 (v:=.slice A n c) rfl;have HBV:=Lib.hid hbv;clear hbv y0 y1 y2)
  | fail)
 have hbv:=HBV.out
 have HB0:=Lib.hid (HB0a.out.up hbv)
 have HB1:=Lib.hid (Exists.elim HB1a.out (fun old h => (⟨old,h.1.up hbv,h.2⟩ : ∃ old,Sb wv (w.heap.size + 1) old 50 ∧ old.size = 3)))
 have hbw2 : Bw w wv:=Bw.trans hbw hbv
 have hz2 : w.heap.size + 1 < wv.heap.size:=by have:=hbv.size;omega
 have hz02 : w.heap.size < wv.heap.size:=by omega
 have HOk1:=Lib.hid (HOk.out.up hbw2)
 clear HBV HB0a HB1a hz1 hz0 hbw hbv
 have h24:=Zh24.out
 have h26:=Zh26.out
 have h27:=Zh27.out
 have h92:=Zh92.out
 go_upto_region 13 with ((go_at_call 100;refine (rin_any _ _ _ _).mono ?_;rintro ee ww ⟨rfl,rfl⟩;(first|rw [inB_yes (by omega) (by omega)]|rw [inB_no (by omega)])))
 go_wp2_with (first
  | (go_at_call 78;refine (rnext_1 code 0 none 0 0 [] _ (ScnOk.to _ 1 (by omega))).mono ?_;rintro ee wn ⟨md',pv',A',n',c',xs',B',m',c2',l',rfl,hK,hL,hm,hmc,hc2,hbn,hN,hT1,hT2,hSP⟩;have HSP:=Lib.hid hSP;have HK:=Lib.hid hK;have HL:=Lib.hid hL;have HBN:=Lib.hid hbn;have HN:=Lib.hid hN;have HT1:=Lib.hid hT1;have HT2:=Lib.hid hT2;have hzn:=hbn.size;clear hK hL hbn hN hT1 hT2 hSP)
  | (go_at_call 77;refine (rto_any 1 _).mono ?_;rintro ee wt ⟨rfl,hbt⟩;have hbt':=Lib.hid hbt;have hzt:=hbt.size;clear hbt)
  | ((with_reducible refine wpList_store_scn md' pv' A' n' c' (w.heap.size + 1) (.tmp 4) (.tmp 54) rfl rfl ?_ ?_ ?_ ?_);(focus rfl);(focus rfl);(focus (exact Exists.elim HB1.out (fun old h => ⟨old,(h.1.up hbt'.out).up HBN.out,h.2⟩)));intro w3 hS3 hg3;have HS3:=Lib.hid hS3;have HG3:=Lib.hid hg3;clear hS3 hg3)
  | fail)
 refine bodyPost_ret (results_scn rfl _ _ (w.heap.size + 1) md' pv' A' n' c' (by rfl) HS3.out) rfl ?_
 have hB:=HBN.out
 have hfar : 0 < n' → ∀ ad,A' = some ad → some ad.block ≠ some (w.heap.size + 1):=fun h0 ad e e2 => by
  have e3:=Option.some.inj e2
  rcases HN.out.1 ad e with h|h
  ·omega
  ·(cases h)
 exact ⟨md',pv',A',n',c',xs',B',m',c2',l',rfl,HK.out.far0 HG3.out hfar,HL.out.far HG3.out (fun ad e e2 => by have:=HN.out.2.1 ad e;have e3:=Option.some.inj e2;omega) (fun o ho ad e e2 => by have:=HN.out.2.2 o ho ad e;have e3:=Option.some.inj e2;omega),hm,hmc,hc2,Bw.grown (Bw.trans (Bw.trans hbw2 hbt'.out) hB) HG3.out (fun k hk => by cases hk;omega),⟨fun ad e => by
  rcases HN.out.1 ad e with h|h
  ·left;omega
  ·(cases h),fun ad e => by have:=HN.out.2.1 ad e;omega,fun o ho ad e => by have:=HN.out.2.2 o ho ad e;omega⟩,fun hT => (HT1.out (TyA.none _)).far HG3.out (fun ad e e2 => by have e3:=Option.some.inj e2;rcases HN.out.1 ad e with h|h;omega;(cases h)),fun o ho => (HT2.out o ho).far HG3.out (fun ad e e2 => by have:=HN.out.2.2 o ho ad e;have e3:=Option.some.inj e2;omega),(by simp only [beq_eq_false_iff_ne,ne_eq] at h24 h26 h27 h92;rw [nextN_6 h24 h26 h27 h92];exact HSP.out)⟩
theorem rnext_0 (code pv : Int) (A : Option Addr) (n c : Nat) (xs : List Int) (w : World) (h : ScnOk w 0 pv A n c xs) : Calls Tryz.prog 78 #[.agg #[.int .i64 0,.int .i64 pv,.slice A n c],.int .i64 code] w (Nxt w A (nextN 0 pv xs code)):=by
 by_cases k24 : code = 24
 ·exact rnext_Ga 0 code pv A n c xs w h (.inl ⟨k24,rfl,rfl⟩)
 by_cases k26 : code = 26
 ·exact rnext_Ga 0 code pv A n c xs w h (.inr (.inl ⟨k26,rfl,rfl⟩))
 by_cases k27 : code = 27
 ·exact rnext_Ga 0 code pv A n c xs w h (.inr (.inr (.inl ⟨k27,rfl,rfl⟩)))
 by_cases k127 : code = 127
 ·exact rnext_Ga 0 code pv A n c xs w h (.inr (.inr (.inr (.inl ⟨k127,rfl,rfl⟩))))
 have h24 : (code == 24) = false:=by simpa using k24
 have h26 : (code == 26) = false:=by simpa using k26
 have h27 : (code == 27) = false:=by simpa using k27
 have h127 : (code == 127) = false:=by simpa using k127
 by_cases hneg : code < 0
 ·exact rnext_Ga 0 code pv A n c xs w h (.inr (.inr (.inr (.inr (.inl ⟨hneg,h24,h26,h27,h127,rfl,rfl⟩)))))
 by_cases hctl : code < 32
 ·exact rnext_Ga 0 code pv A n c xs w h (.inr (.inr (.inr (.inr (.inr ⟨(by omega),hctl,h24,h26,h27,h127,rfl,rfl⟩)))))
 by_cases hp : code ≤ 126
 ·exact rnext_Gb 0 code pv A n c xs w h (.inr (.inr (.inl ⟨rfl,(by omega),hp,h24,h26,h27,h127⟩)))
 by_cases hc : code < 128
 ·omega
 by_cases hc1 : code ≤ 159
 ·exact rnext_Gb 0 code pv A n c xs w h (.inr (.inl ⟨rfl,(by omega),hc1,h24,h26,h27,h127⟩))
 ·exact rnext_Gb 0 code pv A n c xs w h (.inr (.inr (.inr (.inl ⟨rfl,(by omega),h24,h26,h27,h127⟩))))
theorem rnext_2 (code pv : Int) (A : Option Addr) (n c : Nat) (xs : List Int) (w : World) (h : ScnOk w 2 pv A n c xs) : Calls Tryz.prog 78 #[.agg #[.int .i64 2,.int .i64 pv,.slice A n c],.int .i64 code] w (Nxt w A (nextN 2 pv xs code)):=by
 by_cases k24 : code = 24
 ·exact rnext_Ga 2 code pv A n c xs w h (.inl ⟨k24,rfl,rfl⟩)
 by_cases k26 : code = 26
 ·exact rnext_Ga 2 code pv A n c xs w h (.inr (.inl ⟨k26,rfl,rfl⟩))
 by_cases k27 : code = 27
 ·exact rnext_Ga 2 code pv A n c xs w h (.inr (.inr (.inl ⟨k27,rfl,rfl⟩)))
 by_cases k127 : code = 127
 ·exact rnext_Ga 2 code pv A n c xs w h (.inr (.inr (.inr (.inl ⟨k127,rfl,rfl⟩))))
 have h24 : (code == 24) = false:=by simpa using k24
 have h26 : (code == 26) = false:=by simpa using k26
 have h27 : (code == 27) = false:=by simpa using k27
 have h127 : (code == 127) = false:=by simpa using k127
 by_cases hneg : code < 0
 ·exact rnext_Ga 2 code pv A n c xs w h (.inr (.inr (.inr (.inr (.inl ⟨hneg,h24,h26,h27,h127,rfl,rfl⟩)))))
 by_cases hctl : code < 32
 ·exact rnext_Ga 2 code pv A n c xs w h (.inr (.inr (.inr (.inr (.inr ⟨(by omega),hctl,h24,h26,h27,h127,rfl,rfl⟩)))))
 by_cases hhi : 128 ≤ code
 ·exact rnext_Gb 2 code pv A n c xs w h (.inl ⟨hhi,h24,h26,h27,h127,rfl,rfl,rfl⟩)
 by_cases hsk : code ≤ 47
 ·exact rnext_Gc 2 code pv A n c xs w h (.inr (.inr (.inr (.inl ⟨rfl,(by omega),hsk,h24,h26,h27,h127⟩))))
 exact rnext_Gc 2 code pv A n c xs w h (.inr (.inr (.inr (.inr (.inl ⟨rfl,(by omega),(by omega),h24,h26,h27,h127⟩)))))
theorem rnext_3 (code pv : Int) (A : Option Addr) (n c : Nat) (xs : List Int) (w : World) (h : ScnOk w 3 pv A n c xs) : Calls Tryz.prog 78 #[.agg #[.int .i64 3,.int .i64 pv,.slice A n c],.int .i64 code] w (Nxt w A (nextN 3 pv xs code)):=by
 by_cases k24 : code = 24
 ·exact rnext_Ga 3 code pv A n c xs w h (.inl ⟨k24,rfl,rfl⟩)
 by_cases k26 : code = 26
 ·exact rnext_Ga 3 code pv A n c xs w h (.inr (.inl ⟨k26,rfl,rfl⟩))
 by_cases k27 : code = 27
 ·exact rnext_Ga 3 code pv A n c xs w h (.inr (.inr (.inl ⟨k27,rfl,rfl⟩)))
 by_cases k127 : code = 127
 ·exact rnext_Ga 3 code pv A n c xs w h (.inr (.inr (.inr (.inl ⟨k127,rfl,rfl⟩))))
 have h24 : (code == 24) = false:=by simpa using k24
 have h26 : (code == 26) = false:=by simpa using k26
 have h27 : (code == 27) = false:=by simpa using k27
 have h127 : (code == 127) = false:=by simpa using k127
 by_cases hneg : code < 0
 ·exact rnext_Ga 3 code pv A n c xs w h (.inr (.inr (.inr (.inr (.inl ⟨hneg,h24,h26,h27,h127,rfl,rfl⟩)))))
 by_cases hctl : code < 32
 ·exact rnext_Ga 3 code pv A n c xs w h (.inr (.inr (.inr (.inr (.inr ⟨(by omega),hctl,h24,h26,h27,h127,rfl,rfl⟩)))))
 by_cases hhi : 128 ≤ code
 ·exact rnext_Gb 3 code pv A n c xs w h (.inl ⟨hhi,h24,h26,h27,h127,rfl,rfl,rfl⟩)
 exact rnext_3csi code pv A n c xs w h (by omega) (by omega) h24 h26 h27 h127
theorem rnext_4 (code pv : Int) (A : Option Addr) (n c : Nat) (xs : List Int) (w : World) (h : ScnOk w 4 pv A n c xs) : Calls Tryz.prog 78 #[.agg #[.int .i64 4,.int .i64 pv,.slice A n c],.int .i64 code] w (Nxt w A (nextN 4 pv xs code)):=by
 by_cases k24 : code = 24
 ·exact rnext_Ga 4 code pv A n c xs w h (.inl ⟨k24,rfl,rfl⟩)
 by_cases k26 : code = 26
 ·exact rnext_Ga 4 code pv A n c xs w h (.inr (.inl ⟨k26,rfl,rfl⟩))
 by_cases k27 : code = 27
 ·exact rnext_Ga 4 code pv A n c xs w h (.inr (.inr (.inl ⟨k27,rfl,rfl⟩)))
 by_cases k127 : code = 127
 ·exact rnext_Ga 4 code pv A n c xs w h (.inr (.inr (.inr (.inl ⟨k127,rfl,rfl⟩))))
 have h24 : (code == 24) = false:=by simpa using k24
 have h26 : (code == 26) = false:=by simpa using k26
 have h27 : (code == 27) = false:=by simpa using k27
 have h127 : (code == 127) = false:=by simpa using k127
 by_cases hneg : code < 0
 ·exact rnext_Ga 4 code pv A n c xs w h (.inr (.inr (.inr (.inr (.inl ⟨hneg,h24,h26,h27,h127,rfl,rfl⟩)))))
 by_cases hctl : code < 32
 ·exact rnext_Ga 4 code pv A n c xs w h (.inr (.inr (.inr (.inr (.inr ⟨(by omega),hctl,h24,h26,h27,h127,rfl,rfl⟩)))))
 by_cases hhi : 128 ≤ code
 ·exact rnext_Gb 4 code pv A n c xs w h (.inl ⟨hhi,h24,h26,h27,h127,rfl,rfl,rfl⟩)
 by_cases hsk : 64 ≤ code
 ·exact rnext_Gc 4 code pv A n c xs w h (.inr (.inr (.inr (.inr (.inr (.inl ⟨rfl,hsk,(by omega),h24,h26,h27,h127⟩))))))
 exact rnext_Gc 4 code pv A n c xs w h (.inr (.inr (.inr (.inr (.inr (.inr ⟨rfl,(by omega),(by omega),h24,h26,h27,h127⟩))))))
theorem rnext_5 (code pv : Int) (A : Option Addr) (n c : Nat) (xs : List Int) (w : World) (h : ScnOk w 5 pv A n c xs) : Calls Tryz.prog 78 #[.agg #[.int .i64 5,.int .i64 pv,.slice A n c],.int .i64 code] w (Nxt w A (nextN 5 pv xs code)):=by
 by_cases k24 : code = 24
 ·exact rnext_Gd 5 code pv A n c xs w h (.inl ⟨rfl,k24⟩)
 by_cases k26 : code = 26
 ·exact rnext_Gd 5 code pv A n c xs w h (.inr (.inl ⟨rfl,k26⟩))
 by_cases k27 : code = 27
 ·exact rnext_Gd 5 code pv A n c xs w h (.inr (.inr (.inl ⟨rfl,k27⟩)))
 by_cases k7 : code = 7
 ·exact rnext_Gd 5 code pv A n c xs w h (.inr (.inr (.inr (.inl ⟨rfl,k7⟩))))
 exact rnext_Gd 5 code pv A n c xs w h (.inr (.inr (.inr (.inr (.inl ⟨rfl,(by simpa using k24),(by simpa using k26),(by simpa using k27),(by simpa using k7)⟩)))))
theorem rnext_6 (code pv : Int) (A : Option Addr) (n c : Nat) (xs : List Int) (w : World) (h : ScnOk w 6 pv A n c xs) : Calls Tryz.prog 78 #[.agg #[.int .i64 6,.int .i64 pv,.slice A n c],.int .i64 code] w (Nxt w A (nextN 6 pv xs code)):=by
 by_cases k24 : code = 24
 ·exact rnext_Gd 6 code pv A n c xs w h (.inr (.inr (.inr (.inr (.inr (.inl ⟨rfl,k24⟩))))))
 by_cases k26 : code = 26
 ·exact rnext_Gd 6 code pv A n c xs w h (.inr (.inr (.inr (.inr (.inr (.inr (.inl ⟨rfl,k26⟩)))))))
 by_cases k27 : code = 27
 ·exact rnext_Gd 6 code pv A n c xs w h (.inr (.inr (.inr (.inr (.inr (.inr (.inr (.inl ⟨rfl,k27⟩))))))))
 by_cases k92 : code = 92
 ·exact rnext_Gd 6 code pv A n c xs w h (.inr (.inr (.inr (.inr (.inr (.inr (.inr (.inr ⟨rfl,k92⟩))))))))
 exact rnext_6s code pv A n c xs w h (by simpa using k24) (by simpa using k26) (by simpa using k27) (by simpa using k92)
theorem rnext_ok (md code pv : Int) (A : Option Addr) (n c : Nat) (xs : List Int) (w : World) (h : ScnOk w md pv A n c xs) : Calls Tryz.prog 78 #[.agg #[.int .i64 md,.int .i64 pv,.slice A n c],.int .i64 code] w (Nxt w A (nextN md pv xs code)):=by
 obtain ⟨hm0,hm6⟩ : 0 ≤ md ∧ md ≤ 6:=by
  rcases h.2.2.2 with h|h
  ·exact ⟨h.2.1,h.2.2.1⟩
  ·omega
 by_cases e0 : md = 0
 ·subst e0
  exact rnext_0 code pv A n c xs w h
 by_cases e1 : md = 1
 ·subst e1
  exact rnext_1 code pv A n c xs w h
 by_cases e2 : md = 2
 ·subst e2
  exact rnext_2 code pv A n c xs w h
 by_cases e3 : md = 3
 ·subst e3
  exact rnext_3 code pv A n c xs w h
 by_cases e4 : md = 4
 ·subst e4
  exact rnext_4 code pv A n c xs w h
 by_cases e5 : md = 5
 ·subst e5
  exact rnext_5 code pv A n c xs w h
 by_cases e6 : md = 6
 ·subst e6
  exact rnext_6 code pv A n c xs w h
 omega
theorem infoOp : (Tryz.prog.info? 109).map (fun i => (i.zero,i.size,i.bytes)) = some (some (.agg #[.int .i64 0,.int .i64 0,.int .i64 0,.slice none 0 0]),4,48):=by kernel_rfl
theorem own_ty {w : World} {base s m : Nat} {v : Value} {xs : List Value} {A : Option Addr} (h : w.ownsRow base 109 s v m xs) (hT : TyA w A) : ∀ ad,A = some ad → some ad.block ≠ v.ownBlock:=fun ad e e2 => by
 obtain ⟨cs,fr,h1⟩:=hT ad e
 rcases h.2 with ⟨h2,_⟩|⟨g,cap,cur,h2,_,hg,_⟩
 ·rw [h2] at e2;simp [Value.ownBlock] at e2
 ·rw [h2] at e2
  have e3 : ad.block = g:=Option.some.inj e2
  rw [e3,hg] at h1
  have h4:=Obj.cells.inj (Option.some.inj h1)
  exact absurd h4.2.1 (by decide)
theorem TyA.grown {w w' : World} {A : Option Addr} {row : Option Nat} (h : TyA w A) (hg : w.grownBy w' row) (hne : ∀ ad,A = some ad → some ad.block ≠ row) : TyA w' A:=h.far hg hne
/-- The operations read so far, each with what it leans on. -/
def OpsG (w : World) (k : Nat) (l : List OpR) : Prop:=∀ o ∈ l,o.Ok w ∧ TyA w o.A ∧ ∀ ad,o.A = some ad → k ≤ ad.block
theorem OpsG.up {w w' : World} {k : Nat} {l : List OpR} (h : OpsG w k l) (hb : Bw w w') : OpsG w' k l:=fun o ho => ⟨(h o ho).1.up hb,(h o ho).2.1.up hb,(h o ho).2.2⟩
theorem OpsG.far {w w' : World} {k : Nat} {l : List OpR} {row : Option Nat} (h : OpsG w k l) (hg : w.grownBy w' row) (hne : ∀ o ∈ l,∀ ad,o.A = some ad → some ad.block ≠ row) : OpsG w' k l:=fun o ho => ⟨⟨(h o ho).1.1.far hg (hne o ho),(h o ho).1.2⟩,(h o ho).2.1.far hg (hne o ho),(h o ho).2.2⟩
theorem OpsG.app {w : World} {k : Nat} {l l' : List OpR} (h : OpsG w k l) (h' : OpsG w k l') : OpsG w k (l ++ l'):=fun o ho => by
 rcases List.mem_append.mp ho with h1|h1
 ·exact h o h1
 ·exact h' o h1
theorem OpsL.far0 {w w' : World} {A : Option Addr} {m : Nat} {l : List OpR} {row : Option Nat} (h : OpsL w A m l) (hg : w.grownBy w' row) (hne : 0 < m → ∀ ad,A = some ad → some ad.block ≠ row) (hno : ∀ o ∈ l,∀ ad,o.A = some ad → some ad.block ≠ row) : OpsL w' A m l:=by
 by_cases hm : 0 < m
 ·exact h.far hg (hne hm) hno
 ·have h1 : l = []:=List.eq_nil_of_length_eq_zero (by have:=h.1;omega)
  subst h1
  exact ⟨h.1,(fun o ho => by cases ho),h.2.2.1,fun ad e j u hu => by simp [opsV] at hu⟩
theorem OpsL.lt {w : World} {A : Option Addr} {m : Nat} {l : List OpR} (h : OpsL w A m l) (hm : 0 < m) : ∀ ad,A = some ad → ad.block < w.heap.size:=fun ad e => by
 have hl : 0 < l.length:=by have:=h.1;omega
 obtain ⟨u,hu⟩ : ∃ u,(opsV l)[0]? = some u:=⟨(opsV l)[0]'(by rw [opsV_len];omega),List.getElem?_eq_getElem _⟩
 have h1:=lt_of_cell (h.2.2.2 ad e 0 u hu)
 simpa [Addr.add] using h1
/-- What Next has returned stands when it is stored in a box g8, made before the call or after. -/
theorem all_p7 {wr wc wn wb w3 : World} {g8 : Nat} {md' pv' : Int} {A1 A' : Option Addr} {n' c' : Nat} {xs' : List Int} {B' : Option Addr} {m' : Nat} {l' : List OpR} (hrc : Bw wr wc) (hcn : Bw wc wn) (hnb : Bw wn wb) (hg8 : (wr.heap.size ≤ g8 ∧ g8 < wc.heap.size) ∨ wn.heap.size ≤ g8) (hgr : wb.grownBy w3 (some g8)) (hA1 : TyA wr A1)
  (hK : ScnOk wn md' pv' A' n' c' xs') (hL : OpsL wn B' m' l') (hN : NewR wc.heap.size A1 A' n' B' l') (hT1 : TyA wn A') (hT2 : ∀ o ∈ l',TyA wn o.A) :
  wr.heap.size ≤ g8 ∧ ScnOk w3 md' pv' A' n' c' xs' ∧ TyA w3 A' ∧ (∀ ad,A' = some ad → wr.heap.size ≤ ad.block ∨ some ad = A1) ∧ OpsL w3 B' m' l' ∧ OpsG w3 wr.heap.size l' ∧ Bw wr w3 ∧ (∀ ad,B' = some ad → wr.heap.size ≤ ad.block):=by
 have s1:=hrc.size
 have s2:=hcn.size
 have hA : ∀ ad,A' = some ad → some ad.block ≠ some g8:=fun ad e e2 => by
  have h1:=hT1.lt ad e
  have e3:=Option.some.inj e2
  rcases hN.1 ad e with h|h
  ·omega
  ·have h2:=hA1.lt ad h.symm
   omega
 have hO : ∀ o ∈ l',∀ ad,o.A = some ad → some ad.block ≠ some g8:=fun o ho ad e e2 => by
  have h1:=(hT2 o ho).lt ad e
  have h2:=hN.2.2 o ho ad e
  have e3:=Option.some.inj e2
  omega
 refine ⟨by omega,(hK.up hnb).far0 hgr (fun _ => hA),(hT1.up hnb).far hgr hA,fun ad e => ?_,(hL.up hnb).far0 hgr (fun hm ad e e2 => ?_) hO,fun o ho => ⟨⟨((hL.2.1 o ho).1.up hnb).far hgr (hO o ho),(hL.2.1 o ho).2⟩,((hT2 o ho).up hnb).far hgr (hO o ho),fun ad e => ?_⟩,Bw.grown (Bw.trans (Bw.trans hrc hcn) hnb) hgr (fun k hk => by cases hk;omega),fun ad e => by have:=hN.2.1 ad e;omega⟩
 ·rcases hN.1 ad e with h|h
  ·left;omega
  ·right;exact h
 ·have h1:=hL.lt hm ad e
  have h2:=hN.2.1 ad e
  have e3:=Option.some.inj e2
  omega
 ·have h2:=hN.2.2 o ho ad e
  omega
theorem own_spot {w : World} {base s n m c : Nat} {e : TypeId} {A : Option Addr} {xs : List Value} (h : w.ownsRow base e s (.slice A n c) m xs) : ∀ ad,A = some ad → ad.spot = none:=fun ad e1 => by
 subst e1
 rcases h.2 with ⟨h2,_⟩|⟨g,cap,cur,h2,_⟩
 ·cases h2
 ·cases h2;rfl
/-- A row grows and a box is written, in whichever order. -/
def Gr2 (w w' : World) (r : Option Nat) (b : Nat) : Prop:=∃ wm,(w.grownBy wm r ∧ wm.grownBy w' (some b)) ∨ (w.grownBy wm (some b) ∧ wm.grownBy w' r)
theorem all_p8 {w W wr wc wd we : World} {r : Option Nat} {md' pv' : Int} {A' : Option Addr} {n' c' : Nat} {xs' : List Int} {l l' : List OpR} {old : Array Value} (hcd : Bw wc wd) (hg : Gr2 wd we r w.heap.size) (hw : w.heap.size + 1 < W.heap.size) (hr : ∀ k,r = some k → W.heap.size ≤ k ∧ k < wr.heap.size) (hwr : W.heap.size ≤ wr.heap.size) (hrc : Bw w wc)
  (hK : ScnOk wc md' pv' A' n' c' xs') (hT : TyA wc A') (hA : ∀ ad,A' = some ad → some ad.block ≠ r) (hA2 : ∀ ad,A' = some ad → ad.block ≠ w.heap.size) (hL : OpsG wc W.heap.size l) (hL' : OpsG wc wr.heap.size l') (hLr : ∀ o ∈ l,∀ ad,o.A = some ad → some ad.block ≠ r) (hB : Sb wc (w.heap.size + 1) old 50) :
  ScnOk we md' pv' A' n' c' xs' ∧ TyA we A' ∧ OpsG we W.heap.size (l ++ l') ∧ Sb we (w.heap.size + 1) old 50 ∧ Bw w we ∧ wc.heap.size ≤ we.heap.size:=by
 have hL2 : OpsG wc W.heap.size l':=fun o ho => ⟨(hL' o ho).1,(hL' o ho).2.1,fun ad e => by have:=(hL' o ho).2.2 ad e;omega⟩
 have hLL:=(hL.app hL2).up hcd
 have hLr' : ∀ o ∈ l ++ l',∀ ad,o.A = some ad → some ad.block ≠ r:=fun o ho ad e e2 => by
  rcases List.mem_append.mp ho with h1|h1
  ·exact hLr o h1 ad e e2
  ·have h2:=(hL' o h1).2.2 ad e
   have h3:=hr ad.block e2.symm
   omega
 have hLb : ∀ o ∈ l ++ l',∀ ad,o.A = some ad → some ad.block ≠ some w.heap.size:=fun o ho ad e e2 => by
  have h2:=(hLL o ho).2.2 ad e
  have e3:=Option.some.inj e2
  omega
 have hAb : ∀ ad,A' = some ad → some ad.block ≠ some w.heap.size:=fun ad e e2 => hA2 ad e (Option.some.inj e2)
 have hBr : some (w.heap.size + 1) ≠ r:=fun e => by have:=hr _ e.symm;omega
 have hBb : some (w.heap.size + 1) ≠ some w.heap.size:=fun e => by have:=Option.some.inj e;omega
 have hwd : Bw w wd:=Bw.trans hrc hcd
 have hrk : ∀ k,r = some k → w.heap.size ≤ k:=fun k hk => by have:=hr k hk;omega
 have hbk : ∀ k,some w.heap.size = some k → w.heap.size ≤ k:=fun k hk => by have:=Option.some.inj hk;omega
 have hs:=hcd.size
 obtain ⟨wm,⟨h1,h2⟩|⟨h1,h2⟩⟩:=hg
 ·exact ⟨((hK.up hcd).far0 h1 (fun _ => hA)).far0 h2 (fun _ => hAb),((hT.up hcd).far h1 hA).far h2 hAb,(hLL.far h1 hLr').far h2 hLb,((hB.up hcd).far h1 hBr).far h2 hBb,Bw.grown (Bw.grown hwd h1 hrk) h2 hbk,by have:=h1.size;have:=h2.size;omega⟩
 ·exact ⟨((hK.up hcd).far0 h1 (fun _ => hAb)).far0 h2 (fun _ => hA),((hT.up hcd).far h1 hAb).far h2 hA,(hLL.far h1 hLb).far h2 hLr',((hB.up hcd).far h1 hBb).far h2 hBr,Bw.grown (Bw.grown hwd h1 hbk) h2 hrk,by have:=h1.size;have:=h2.size;omega⟩
theorem OpsL.own {w : World} {base : Nat} {e : TypeId} {B : Option Addr} {m c2 : Nat} {l : List OpR} (h : w.ownsRow base e 4 (.slice B m c2) m (opsV l)) (hl : l.length = m) (hG : ∀ o ∈ l,o.Ok w) : OpsL w B m l:=by
 refine ⟨hl,hG,fun e1 => ?_,fun ad e1 j u hu => ?_⟩
 ·subst e1
  rcases h.2 with ⟨_,h2⟩|⟨g,cap,cur,h2,_⟩
  ·exact h2
  ·cases h2
 ·subst e1
  rcases h.2 with ⟨h2,_⟩|⟨g,cap,cur,h2,_⟩
  ·cases h2
  ·cases h2
   exact h.cells (g:=g) rfl j u hu
/-- A scanner in the loop: in its box, valid, its parameters the argument's or in new memory. -/
def ScG (w : World) (g k : Nat) (A0 : Option Addr) (md pv : Int) (A : Option Addr) (n c : Nat) (xs : List Int) : Prop :=
 Sb w g (scnV md pv A n c) 50 ∧ ScnOk w md pv A n c xs ∧ TyA w A ∧ ∀ ad,A = some ad → k ≤ ad.block ∨ some ad = A0
/-- What the scanner makes of characters, one after the other. -/
def allN (s : ScS) : List Int → ScS × List OpS
 | [] => (s,[])
 | x :: t => ((allN (nextN s.1 s.2.1 s.2.2 x).1 t).1,(nextN s.1 s.2.1 s.2.2 x).2 ++ (allN (nextN s.1 s.2.1 s.2.2 x).1 t).2)
theorem allN_snoc : ∀ (t : List Int) (s : ScS) (x : Int),allN s (t ++ [x]) = ((nextN (allN s t).1.1 (allN s t).1.2.1 (allN s t).1.2.2 x).1,(allN s t).2 ++ (nextN (allN s t).1.1 (allN s t).1.2.1 (allN s t).1.2.2 x).2)
 | [],s,x => by simp [allN]
 | y :: t,s,x => by
  rw [List.cons_append,allN,allN_snoc t,allN]
  simp [List.append_assoc]
/-- What All returns; r: which scanner and operations. -/
def AllP (w : World) (A0 : Option Addr) (nc : Nat) (r : ScS × List OpS) (e : Ending) (w' : World) : Prop :=
 ∃ (md pv : Int) (A : Option Addr) (n c : Nat) (xs : List Int) (B : Option Addr) (m c2 : Nat) (l : List OpR),
  e = .returned (.tuple #[.agg #[.int .i64 md,.int .i64 pv,.slice A n c],.slice B m c2]) ∧ ScnOk w' md pv A n c xs ∧ OpsL w' B m l ∧ m ≤ nc ∧ m ≤ c2 ∧ c2 ≤ 9223372036854775807 ∧ Bw w w' ∧ NewR w.heap.size A0 A n B l ∧ TyA w' A ∧ (∀ ad,B = some ad → ad.spot = none) ∧ r = ((md,pv,xs),l.map OpR.sp)
/-- The loop's relation, from world W on: k characters are read. -/
def AllR (w W : World) (A0 : Option Addr) (F : Nat → ScS × List OpS) (v : Value) (k : Nat) (wr : World) : Prop :=
 ∃ (md pv : Int) (A : Option Addr) (n c : Nat) (xs : List Int) (m : Nat) (l : List OpR),ScG wr w.heap.size W.heap.size A0 md pv A n c xs ∧ wr.ownsRow W.heap.size 109 4 v m (opsV l) ∧ l.length = m ∧ m ≤ k ∧ OpsG wr W.heap.size l ∧
  (∃ old,Sb wr (w.heap.size + 1) old 50 ∧ old.size = 3) ∧ Bw w wr ∧ W.heap.size ≤ wr.heap.size ∧ F k = ((md,pv,xs),l.map OpR.sp)
theorem rall_ok (md pv : Int) (A : Option Addr) (n c : Nat) (xs : List Int) (C : Option Addr) (nc cc : Nat) (cs : List Int) (w : World) (h : ScnOk w md pv A n c xs) (hT : TyA w A) (hC : Rd (.int .i64) w C nc cs) (hcc : nc ≤ cc) (hcc2 : cc ≤ 9223372036854775807) (hcn : nc ≤ 1000000) : Calls Tryz.prog 49 #[.agg #[.int .i64 md,.int .i64 pv,.slice A n c],.slice C nc cc] w (AllP w A nc (allN (md,pv,xs) cs)):=by
 have HOk:=Lib.hid h
 have HTy:=Lib.hid hT
 have HC:=Lib.hid hC
 clear h hT hC
 obtain ⟨j0,hj,hj0,hj1,hj2⟩:=info_parts infoOp
 go_enter Tryz.func49,Tryz.ntmps49
 go_upto_region 1 with (fail)
 generalize hw1 : (w.alloc (.cells #[.int .i64 md,.int .i64 pv,.slice A n c] 50)).alloc _ = w1
 obtain ⟨hb0,hb1,hbw,hz⟩:=sb2 hw1
 have HB0a:=Lib.hid hb0
 have HB1a:=Lib.hid (show ∃ old,Sb w1 (w.heap.size + 1) old 50 ∧ old.size = 3 from ⟨_,hb1,rfl⟩)
 have hz1 : w.heap.size + 1 < w1.heap.size:=by omega
 have hz0 : w.heap.size < w1.heap.size:=by omega
 have y0:=HB0a.out.cell 0 (v:=.int .i64 md) rfl
 have y1:=HB0a.out.cell 1 (v:=.int .i64 pv) rfl
 have y2:=HB0a.out.cell 2 (v:=.slice A n c) rfl
 clear hw1 hb0 hb1 hz
 go_upto_region 4 with (first
  | (go_at_call 70;refine (rvalid14_ok md pv A n c xs _ (HOk.out.up (show Bw w _ from BWX))).mono ?_;rintro ee W ⟨rfl,hbv⟩;have HBV:=Lib.hid hbv;clear hbv y0 y1 y2)
  | fail)
 have hbv:=HBV.out
 have hbW : Bw w W:=Bw.trans hbw hbv
 have hz2 : w.heap.size + 1 < W.heap.size:=by have:=hbv.size;omega
 have HS0:=Lib.hid (show ScG W w.heap.size W.heap.size A md pv A n c xs from ⟨HB0a.out.up hbv,HOk.out.up hbW,HTy.out.up hbW,fun ad e => .inr e.symm⟩)
 have HB1:=Lib.hid (Exists.elim HB1a.out (fun old h => (⟨old,h.1.up hbv,h.2⟩ : ∃ old,Sb W (w.heap.size + 1) old 50 ∧ old.size = 3)))
 have HA0:=Lib.hid HTy.out.lt
 clear HBV HB0a HB1a hz1 hz0 hbw hbv HOk
 go_wp2_with fail
 go_loopw [6,7] (fun v6 i wr => ∃ k : Nat,i = .int .i64 k ∧ k ≤ nc ∧ AllR w W A (fun k => allN (md,pv,xs) (cs.take k)) v6 k wr) (fun _ i _ => nc - (intOf i).toNat)
 case atStart => exact ⟨0,rfl,by omega,md,pv,A,n,c,xs,0,[],HS0.out,World.ownsRow_nil _ _ _ _,rfl,by omega,(fun o ho => by cases ho),HB1.out,hbW,Nat.le_refl _,by simp [allN]⟩
 case round =>
  rename_i wr
  obtain ⟨k,rfl,hk,md1,pv1,A1,n1,c1,xs1,m,l,hS,hO,hlm,hmk,hG,hB,hbr,hzr,hF⟩:=hrel
  have HF:=Lib.hid hF
  clear hF
  have HS:=Lib.hid hS
  have HO:=Lib.hid hO
  have HG:=Lib.hid hG
  have HB:=Lib.hid hB
  have y0:=HS.out.1.cell 0 (v:=.int .i64 md1) rfl
  have y1:=HS.out.1.cell 1 (v:=.int .i64 pv1) rfl
  have y2:=HS.out.1.cell 2 (v:=.slice A1 n1 c1) rfl
  have hz3 : w.heap.size < wr.heap.size:=by omega
  have hz4 : w.heap.size + 1 < wr.heap.size:=by omega
  have hOlt:=Lib.hid hO.lt
  have hOty:=Lib.hid (fun (A : Option Addr) (h : TyA wr A) => own_ty hO h)
  clear hS hO hG hB
  by_cases hlt : k < nc
  ·obtain ⟨gc,oc,rfl,hx⟩:=HC.out.2 (by omega)
   have hkx : k < cs.length:=by rw [HC.out.1];exact hlt
   have hcx:=cell_bw hbr (hx k hkx)
   obtain ⟨code,hcode⟩ : ∃ v,cs[k] = v:=⟨_,rfl⟩
   rw [hcode] at hcx
   have HTK:=Lib.hid (show cs.take (k + 1) = cs.take k ++ [code] by rw [List.take_add_one,List.getElem?_eq_getElem hkx,hcode];rfl)
   clear hx hcode
   go_upto_region 7 with (fail)
   go_cut [8,9] from 14 to 32 (fun v8 v9 w' => ∃ (g8 : Nat) (md' pv' : Int) (A' : Option Addr) (n' c' : Nat) (xs' : List Int) (B' : Option Addr) (m' c2' : Nat) (l' : List OpR),v8 = .pointer (some ⟨g8,0,none⟩) ∧ v9 = .slice B' m' c2' ∧ wr.heap.size ≤ g8 ∧ Sb w' g8 (scnV md' pv' A' n' c') 50 ∧ ScnOk w' md' pv' A' n' c' xs' ∧ TyA w' A' ∧ (∀ ad,A' = some ad → wr.heap.size ≤ ad.block ∨ some ad = A1) ∧ OpsL w' B' m' l' ∧ OpsG w' wr.heap.size l' ∧ m' ≤ 1 ∧ m' ≤ c2' ∧ c2' ≤ 9223372036854775807 ∧ Bw wr w' ∧ (∀ ad,B' = some ad → wr.heap.size ≤ ad.block) ∧ nextN md1 pv1 xs1 code = ((md',pv',xs'),l'.map OpR.sp))
   case first =>
    have hY:=(show ∀ w',Bw wr w' → (w'.cell? ⟨w.heap.size,0,none⟩ = some (.int .i64 md1) ∧ w'.cell? ⟨w.heap.size,1,none⟩ = some (.int .i64 pv1) ∧ w'.cell? ⟨w.heap.size,2,none⟩ = some (.slice A1 n1 c1) ∧ w'.cell? ⟨gc,oc + k,none⟩ = some (.int .i64 code)) from fun w' hb => ⟨cell_up y0 hb,cell_up y1 hb,cell_up y2 hb,cell_up hcx hb⟩)
    have hYg:=(show ∀ w' w'' g,Bw wr w' → wr.heap.size ≤ g → w'.grownBy w'' (some g) → (w''.cell? ⟨w.heap.size,0,none⟩ = some (.int .i64 md1) ∧ w''.cell? ⟨w.heap.size,1,none⟩ = some (.int .i64 pv1) ∧ w''.cell? ⟨w.heap.size,2,none⟩ = some (.slice A1 n1 c1) ∧ w''.cell? ⟨gc,oc + k,none⟩ = some (.int .i64 code)) from fun w' w'' g hb hg hgr => by
     have hcl:=lt_of_cell hcx
     dsimp only at hcl
     exact ⟨cell_far (cell_up y0 hb) hgr (by intro e;have:=Option.some.inj e;omega),cell_far (cell_up y1 hb) hgr (by intro e;have:=Option.some.inj e;omega),cell_far (cell_up y2 hb) hgr (by intro e;have:=Option.some.inj e;omega),cell_far (cell_up hcx hb) hgr (by intro e;have:=Option.some.inj e;omega)⟩)
    have HY:=Lib.hid hY
    have HYg:=Lib.hid hYg
    clear hY hYg y0 y1 y2 hcx
    refine wp_region_held_drew (S:=(fun w' => w'.cell? ⟨w.heap.size,0,none⟩ = some (.int .i64 md1) ∧ w'.cell? ⟨w.heap.size,1,none⟩ = some (.int .i64 pv1) ∧ w'.cell? ⟨w.heap.size,2,none⟩ = some (.slice A1 n1 c1) ∧ w'.cell? ⟨gc,oc + k,none⟩ = some (.int .i64 code))) (by kernel_rfl) ?_ (fun hHeld => ?_)
    ·(try dsimp only);(first|(refine HY.out _ ?_;(repeat (first|with_reducible (first|assumption|exact Bw.refl _|refine Bw.alloc ?_ _|refine Bw.more ?_ _ _|refine Bw.drew ?_|refine Bw.drewN ?_ _)|((with_reducible refine Bw.set2 ?_ ?_ _);(focus exact SZX))|with_reducible refine Bw.trans ?_ (by assumption)));done)|exact hHeld|(exact HYg.out _ _ _ BWX (by simp only [szA,szS,szD,szN] at *;omega) HG3.out))
    refine tkQ 0 ?_
    refine tkQ 1 ?_
    refine tkQ 2 ?_
    (try simp only [Act.put,zP1,zP2,zP3,zP4,zP5,zP6])
    refine tkQ 3 ?_
    refine tkQ 4 ?_
    (try simp only [Act.put,zP1,zP2,zP3,zP4,zP5,zP6])
    refine wpAnyH_ready (rs:=[5,9]) (by kernel_rfl) (by simp) ?_
    refine AllReadyH.cons rfl (fun K hK => ?_) ?_
    ·go_simp
     refine (rnext_ok md1 code pv1 A1 n1 c1 xs1 _ (HS.out.2.1.up BWX)).mono ?_;rintro ee wn ⟨md',pv',A',n',c',xs',B',m',c2',l',rfl,hK,hL,hm,hmc,hc2,hbn,hN,hT1,hT2,hSP⟩;have HSP:=Lib.hid hSP;have hzn:=hbn.size;have HN:=Lib.hid hN;have HT1:=Lib.hid (hT1 (HS.out.2.2.1.up BWX));have HT2:=Lib.hid hT2;have HK:=Lib.hid hK;have HL:=Lib.hid hL;clear hK hL hN hT1 hT2 hSP;go_wp2_with fail
     refine hK.out _ _ ?_ (fun hHeld => ?_)
     ·(try dsimp only);(first|(refine HY.out _ ?_;(repeat (first|with_reducible (first|assumption|exact Bw.refl _|refine Bw.alloc ?_ _|refine Bw.more ?_ _ _|refine Bw.drew ?_|refine Bw.drewN ?_ _)|((with_reducible refine Bw.set2 ?_ ?_ _);(focus exact SZX))|with_reducible refine Bw.trans ?_ (by assumption)));done)|exact hHeld|(exact HYg.out _ _ _ BWX (by simp only [szA,szS,szD,szN] at *;omega) HG3.out))
     clear hK K
     (try simp only [Act.put,zP1,zP2,zP3,zP4,zP5,zP6])
     refine tkQ 6 ?_
     (try simp only [Act.put,zP1,zP2,zP3,zP4,zP5,zP6])
     refine tkQ 7 ?_
     refine tkQ 8 ?_
     (try simp only [Act.put,zP1,zP2,zP3,zP4,zP5,zP6])
     refine arO 9 (fun K hK => ?_)
     go_simp;(generalize hw8 : World.alloc _ (.cells _ 50) = w8);obtain ⟨hS8,hb8,hz8⟩:=sb1 hw8;have HS8:=Lib.hid hS8;clear hw8 hS8
     refine hK.out _ _ ?_ (fun hHeld => ?_)
     ·(try dsimp only);(first|(refine HY.out _ ?_;(repeat (first|with_reducible (first|assumption|exact Bw.refl _|refine Bw.alloc ?_ _|refine Bw.more ?_ _ _|refine Bw.drew ?_|refine Bw.drewN ?_ _)|((with_reducible refine Bw.set2 ?_ ?_ _);(focus exact SZX))|with_reducible refine Bw.trans ?_ (by assumption)));done)|exact hHeld|(exact HYg.out _ _ _ BWX (by simp only [szA,szS,szD,szN] at *;omega) HG3.out))
     clear hK K
     (try simp only [Act.put,zP1,zP2,zP3,zP4,zP5,zP6])
     refine arO 10 (fun K hK => ?_)
     (refine (if_pos (by kernel_rfl)).mpr ?_);(first|((with_reducible refine wp_store_scn md' pv' A' n' c' wn.heap.size (.tmp 8) (.tmp 27) ?_ ?_ ?_ ?_ ?_);(focus rfl);(focus rfl);(focus rfl);(focus (exact ⟨_,HS8.out.up BWX,rfl⟩)))|((with_reducible refine wp_store_scn md' pv' A' n' c' wr.heap.size (.tmp 8) (.tmp 27) ?_ ?_ ?_ ?_ ?_);(focus rfl);(focus rfl);(focus rfl);(focus (exact ⟨_,HS8.out.up BWX,rfl⟩))));intro w3 hS3 hg3;have HS3:=Lib.hid hS3;have HG3:=Lib.hid hg3;clear hS3 hg3
     refine hK.out _ _ ?_ (fun hHeld => ?_)
     ·(try dsimp only);(first|(refine HY.out _ ?_;(repeat (first|with_reducible (first|assumption|exact Bw.refl _|refine Bw.alloc ?_ _|refine Bw.more ?_ _ _|refine Bw.drew ?_|refine Bw.drewN ?_ _)|((with_reducible refine Bw.set2 ?_ ?_ _);(focus exact SZX))|with_reducible refine Bw.trans ?_ (by assumption)));done)|exact hHeld|(exact HYg.out _ _ _ BWX (by simp only [szA,szS,szD,szN] at *;omega) HG3.out))
     clear hK K
     (try simp only [Act.put,zP1,zP2,zP3,zP4,zP5,zP6])
     refine arO 11 (fun K hK => ?_)
     go_simp
     refine hK.out _ _ ?_ (fun hHeld => ?_)
     ·(try dsimp only);(first|(refine HY.out _ ?_;(repeat (first|with_reducible (first|assumption|exact Bw.refl _|refine Bw.alloc ?_ _|refine Bw.more ?_ _ _|refine Bw.drew ?_|refine Bw.drewN ?_ _)|((with_reducible refine Bw.set2 ?_ ?_ _);(focus exact SZX))|with_reducible refine Bw.trans ?_ (by assumption)));done)|exact hHeld|(exact HYg.out _ _ _ BWX (by simp only [szA,szS,szD,szN] at *;omega) HG3.out))
     clear hK K
     (try simp only [Act.put,zP1,zP2,zP3,zP4,zP5,zP6])
     refine wpAnyH_done (by kernel_rfl) ?_ _
     go_wp2
     go_meet
     case rel =>
      have hb3 : _ ∧ _:=⟨HG3.out,HS3.out⟩
      obtain ⟨hq1,hq2⟩:=hb3
      obtain ⟨p1,p2,p3,p4,p5,p6,p7,p8⟩:=all_p7 (wr:=wr) (show Bw wr _ from BWX) hbn (show Bw wn _ from BWX) (by simp only [szA,szS,szD,szN] at *;first|(left;omega)|(right;omega)) hq1 HS.out.2.2.1 HK.out HL.out HN.out HT1.out HT2.out
      exact ⟨_,md',pv',A',n',c',xs',B',m',c2',l',rfl,rfl,p1,hq2,p2,p3,p4,p5,p6,hm,hmc,hc2,p7,p8,HSP.out⟩
    refine AllReadyH.cons rfl (fun K hK => ?_) ?_
    ·go_simp;(generalize hw8 : World.alloc _ (.cells _ 50) = w8);obtain ⟨hS8,hb8,hz8⟩:=sb1 hw8;have HS8:=Lib.hid hS8;clear hw8 hS8
     refine hK.out _ _ ?_ (fun hHeld => ?_)
     ·(try dsimp only);(first|(refine HY.out _ ?_;(repeat (first|with_reducible (first|assumption|exact Bw.refl _|refine Bw.alloc ?_ _|refine Bw.more ?_ _ _|refine Bw.drew ?_|refine Bw.drewN ?_ _)|((with_reducible refine Bw.set2 ?_ ?_ _);(focus exact SZX))|with_reducible refine Bw.trans ?_ (by assumption)));done)|exact hHeld|(exact HYg.out _ _ _ BWX (by simp only [szA,szS,szD,szN] at *;omega) HG3.out))
     clear hK K
     (try simp only [Act.put,zP1,zP2,zP3,zP4,zP5,zP6])
     refine arO 5 (fun K hK => ?_)
     go_simp
     refine (rnext_ok md1 code pv1 A1 n1 c1 xs1 _ (HS.out.2.1.up BWX)).mono ?_;rintro ee wn ⟨md',pv',A',n',c',xs',B',m',c2',l',rfl,hK,hL,hm,hmc,hc2,hbn,hN,hT1,hT2,hSP⟩;have HSP:=Lib.hid hSP;have hzn:=hbn.size;have HN:=Lib.hid hN;have HT1:=Lib.hid (hT1 (HS.out.2.2.1.up BWX));have HT2:=Lib.hid hT2;have HK:=Lib.hid hK;have HL:=Lib.hid hL;clear hK hL hN hT1 hT2 hSP;go_wp2_with fail
     refine hK.out _ _ ?_ (fun hHeld => ?_)
     ·(try dsimp only);(first|(refine HY.out _ ?_;(repeat (first|with_reducible (first|assumption|exact Bw.refl _|refine Bw.alloc ?_ _|refine Bw.more ?_ _ _|refine Bw.drew ?_|refine Bw.drewN ?_ _)|((with_reducible refine Bw.set2 ?_ ?_ _);(focus exact SZX))|with_reducible refine Bw.trans ?_ (by assumption)));done)|exact hHeld|(exact HYg.out _ _ _ BWX (by simp only [szA,szS,szD,szN] at *;omega) HG3.out))
     clear hK K
     (try simp only [Act.put,zP1,zP2,zP3,zP4,zP5,zP6])
     refine tkQ 6 ?_
     (try simp only [Act.put,zP1,zP2,zP3,zP4,zP5,zP6])
     refine tkQ 7 ?_
     refine tkQ 8 ?_
     (try simp only [Act.put,zP1,zP2,zP3,zP4,zP5,zP6])
     refine arO 10 (fun K hK => ?_)
     (refine (if_pos (by kernel_rfl)).mpr ?_);(first|((with_reducible refine wp_store_scn md' pv' A' n' c' wn.heap.size (.tmp 8) (.tmp 27) ?_ ?_ ?_ ?_ ?_);(focus rfl);(focus rfl);(focus rfl);(focus (exact ⟨_,HS8.out.up BWX,rfl⟩)))|((with_reducible refine wp_store_scn md' pv' A' n' c' wr.heap.size (.tmp 8) (.tmp 27) ?_ ?_ ?_ ?_ ?_);(focus rfl);(focus rfl);(focus rfl);(focus (exact ⟨_,HS8.out.up BWX,rfl⟩))));intro w3 hS3 hg3;have HS3:=Lib.hid hS3;have HG3:=Lib.hid hg3;clear hS3 hg3
     refine hK.out _ _ ?_ (fun hHeld => ?_)
     ·(try dsimp only);(first|(refine HY.out _ ?_;(repeat (first|with_reducible (first|assumption|exact Bw.refl _|refine Bw.alloc ?_ _|refine Bw.more ?_ _ _|refine Bw.drew ?_|refine Bw.drewN ?_ _)|((with_reducible refine Bw.set2 ?_ ?_ _);(focus exact SZX))|with_reducible refine Bw.trans ?_ (by assumption)));done)|exact hHeld|(exact HYg.out _ _ _ BWX (by simp only [szA,szS,szD,szN] at *;omega) HG3.out))
     clear hK K
     (try simp only [Act.put,zP1,zP2,zP3,zP4,zP5,zP6])
     refine arO 11 (fun K hK => ?_)
     go_simp
     refine hK.out _ _ ?_ (fun hHeld => ?_)
     ·(try dsimp only);(first|(refine HY.out _ ?_;(repeat (first|with_reducible (first|assumption|exact Bw.refl _|refine Bw.alloc ?_ _|refine Bw.more ?_ _ _|refine Bw.drew ?_|refine Bw.drewN ?_ _)|((with_reducible refine Bw.set2 ?_ ?_ _);(focus exact SZX))|with_reducible refine Bw.trans ?_ (by assumption)));done)|exact hHeld|(exact HYg.out _ _ _ BWX (by simp only [szA,szS,szD,szN] at *;omega) HG3.out))
     clear hK K
     (try simp only [Act.put,zP1,zP2,zP3,zP4,zP5,zP6])
     refine wpAnyH_done (by kernel_rfl) ?_ _
     go_wp2
     go_meet
     case rel =>
      have hb3 : _ ∧ _:=⟨HG3.out,HS3.out⟩
      obtain ⟨hq1,hq2⟩:=hb3
      obtain ⟨p1,p2,p3,p4,p5,p6,p7,p8⟩:=all_p7 (wr:=wr) (show Bw wr _ from BWX) hbn (show Bw wn _ from BWX) (by simp only [szA,szS,szD,szN] at *;first|(left;omega)|(right;omega)) hq1 HS.out.2.2.1 HK.out HL.out HN.out HT1.out HT2.out
      exact ⟨_,md',pv',A',n',c',xs',B',m',c2',l',rfl,rfl,p1,hq2,p2,p3,p4,p5,p6,hm,hmc,hc2,p7,p8,HSP.out⟩
    exact AllReadyH.nil
   case rest =>
    obtain ⟨g8,md',pv',A',n',c',xs',B',m',c2',l',rfl,rfl,p1,q8,p2,p3,p4,p5,p6,hm,hmc,hc2,p7,p8,p9⟩:=hcut
    have HSP:=Lib.hid p9
    clear p9
    have HK:=Lib.hid p2
    have HT:=Lib.hid p3
    have HA:=Lib.hid p4
    have HL:=Lib.hid p5
    have HL2:=Lib.hid p6
    have HPB:=Lib.hid p8
    have HO2:=Lib.hid (HO.out.bw p7)
    have HS2:=Lib.hid (HS.out.1.up p7)
    have HB2:=Lib.hid (Exists.elim HB.out (fun old h => (⟨old,h.1.up p7,h.2⟩ : ∃ old,Sb wc (w.heap.size + 1) old 50 ∧ old.size = 3)))
    have HG2:=Lib.hid (HG.out.up p7)
    have hzc:=p7.size
    have hwc : Bw w wc:=Bw.trans hbr p7
    have x0:=q8.cell 0 (v:=.int .i64 md') rfl
    have x1:=q8.cell 1 (v:=.int .i64 pv') rfl
    have x2:=q8.cell 2 (v:=.slice A' n' c') rfl
    have hY:=(show ∀ w',Bw wc w' → (w'.cell? ⟨g8,0,none⟩ = some (.int .i64 md') ∧ w'.cell? ⟨g8,1,none⟩ = some (.int .i64 pv') ∧ w'.cell? ⟨g8,2,none⟩ = some (.slice A' n' c')) from fun w' hb => ⟨cell_up x0 hb,cell_up x1 hb,cell_up x2 hb⟩)
    have HY:=Lib.hid hY
    have h8r : some g8 ≠ u6.ownBlock:=fun e => by have:=hOlt.out g8 e.symm;omega
    have h8b : some g8 ≠ some w.heap.size:=fun e => by have:=Option.some.inj e;omega
    have hbr8 : some w.heap.size ≠ u6.ownBlock:=fun e => by have:=hOlt.out _ e.symm;omega
    have H8r:=Lib.hid h8r
    have H8b:=Lib.hid h8b
    have Hbr8:=Lib.hid hbr8
    have HPc:=Lib.hid p7
    have HAr:=Lib.hid (show ∀ ad,A' = some ad → some ad.block ≠ u6.ownBlock from fun ad e => by
     rcases p4 ad e with h|h
     ·intro e2
      have:=hOlt.out _ e2.symm
      omega
     ·exact hOty.out A1 HS.out.2.2.1 ad h.symm)
    have HAb:=Lib.hid (show ∀ ad,A' = some ad → ad.block ≠ w.heap.size from fun ad e => by
     rcases p4 ad e with h|h
     ·omega
     ·rcases HS.out.2.2.2 ad h.symm with h2|h2
      ·omega
      ·have:=HA0.out ad h2.symm
       omega)
    have HLr:=Lib.hid (show ∀ o ∈ l,∀ ad,o.A = some ad → some ad.block ≠ u6.ownBlock from fun o ho => hOty.out o.A (HG.out o ho).2.1)
    clear p2 p3 p4 p5 p6 p8 q8 x0 x1 x2 hY h8r h8b hbr8 y0 y1 y2 hcx p7
    go_upto_region 8 with (fail)
    refine wp_region_held_drew (S:=(fun w' => w'.cell? ⟨g8,0,none⟩ = some (.int .i64 md') ∧ w'.cell? ⟨g8,1,none⟩ = some (.int .i64 pv') ∧ w'.cell? ⟨g8,2,none⟩ = some (.slice A' n' c'))) (by kernel_rfl) ?_ (fun hHeld => ?_)
    ·(try dsimp only);(first|(refine HY.out _ ?_;(repeat (first|with_reducible (first|assumption|exact Bw.refl _|refine Bw.alloc ?_ _|refine Bw.more ?_ _ _|refine Bw.drew ?_|refine Bw.drewN ?_ _)|((with_reducible refine Bw.set2 ?_ ?_ _);(focus exact SZX))|with_reducible refine Bw.trans ?_ (by assumption)));done)|exact hHeld|(exact ⟨cell_far hHeld.1 HG6.out H8r.out,cell_far hHeld.2.1 HG6.out H8r.out,cell_far hHeld.2.2 HG6.out H8r.out⟩)|(exact ⟨cell_far hHeld.1 HG3.out H8b.out,cell_far hHeld.2.1 HG3.out H8b.out,cell_far hHeld.2.2 HG3.out H8b.out⟩))
    refine tkQ 0 ?_
    (try simp only [Act.put,zP1,zP2,zP3,zP4,zP5,zP6])
    refine tkQ 1 ?_
    refine tkQ 2 ?_
    (try simp only [Act.put,zP1,zP2,zP3,zP4,zP5,zP6])
    refine arO 3 (fun K hK => ?_)
    refine step_append_srcG (by rfl) (.tmp 30) (.tmp 31) 104 rfl W.heap.size 109 j0 (.agg #[.int .i64 0,.int .i64 0,.int .i64 0,.slice none 0 0]) 4 48 Tryz.underlying104 hj hj0 hj1 hj2 rfl (by decide) u6 m (opsV l) (by rfl) (by first|(refine HO2.out.bw ?_;(repeat (first|with_reducible (first|assumption|exact Bw.refl _|refine Bw.alloc ?_ _|refine Bw.more ?_ _ _|refine Bw.drew ?_|refine Bw.drewN ?_ _)|((with_reducible refine Bw.set2 ?_ ?_ _);(focus exact SZX))|with_reducible refine Bw.trans ?_ (by assumption)));done)|exact (HO2.out.bw (show Bw wc wc.drew from BWX)).kept HG3.out (.inr (Ne.symm Hbr8.out))) B' m' c2' (opsV l') (by rfl) (by rw [opsV_len,HL.out.1]) HL.out.2.2.1 (by first|(refine (HL.out.up ?_).2.2.2;(repeat (first|with_reducible (first|assumption|exact Bw.refl _|refine Bw.alloc ?_ _|refine Bw.more ?_ _ _|refine Bw.drew ?_|refine Bw.drewN ?_ _)|((with_reducible refine Bw.set2 ?_ ?_ _);(focus exact SZX))|with_reducible refine Bw.trans ?_ (by assumption)));done)|exact ((HL.out.up (show Bw wc wc.drew from BWX)).far0 HG3.out (fun _ ad e e2 => by have:=HPB.out ad e;have e3:=Option.some.inj e2;omega) (fun o ho ad e e2 => by have:=(HL2.out o ho).2.2 ad e;have e3:=Option.some.inj e2;omega)).2.2.2) (opsV_one l') (by unfold maxLen;omega) (by omega) (by have:=hwc.size;(try have:=HG3.out.size);simp only [szA,szS,szD,szN] at *;omega) ?_;intro v6 w6 hown6 hg6;have HO6:=Lib.hid hown6;have HG6:=Lib.hid hg6;clear hown6 hg6
    refine hK.out _ _ ?_ (fun hHeld => ?_)
    ·(try dsimp only);(first|(refine HY.out _ ?_;(repeat (first|with_reducible (first|assumption|exact Bw.refl _|refine Bw.alloc ?_ _|refine Bw.more ?_ _ _|refine Bw.drew ?_|refine Bw.drewN ?_ _)|((with_reducible refine Bw.set2 ?_ ?_ _);(focus exact SZX))|with_reducible refine Bw.trans ?_ (by assumption)));done)|exact hHeld|(exact ⟨cell_far hHeld.1 HG6.out H8r.out,cell_far hHeld.2.1 HG6.out H8r.out,cell_far hHeld.2.2 HG6.out H8r.out⟩)|(exact ⟨cell_far hHeld.1 HG3.out H8b.out,cell_far hHeld.2.1 HG3.out H8b.out,cell_far hHeld.2.2 HG3.out H8b.out⟩))
    clear hK K
    (try simp only [Act.put,zP1,zP2,zP3,zP4,zP5,zP6])
    refine arO 4 (fun K hK => ?_)
    (refine (if_pos (by kernel_rfl)).mpr ?_);(with_reducible refine wp_store_scn md' pv' A' n' c' w.heap.size (.tmp 2) (.tmp 29) ?ho ?_ ?_ ?_ ?_);(case ho => rfl);(focus rfl);(focus rfl);(focus (first|(refine ⟨_,HS2.out.up ?_,rfl⟩;(repeat (first|with_reducible (first|assumption|exact Bw.refl _|refine Bw.alloc ?_ _|refine Bw.more ?_ _ _|refine Bw.drew ?_|refine Bw.drewN ?_ _)|((with_reducible refine Bw.set2 ?_ ?_ _);(focus exact SZX))|with_reducible refine Bw.trans ?_ (by assumption)));done)|exact ⟨_,(HS2.out.up (show Bw wc wc.drew from BWX)).far HG6.out Hbr8.out,rfl⟩));intro w3 hS3 hg3;have HS3:=Lib.hid hS3;have HG3:=Lib.hid hg3;clear hS3 hg3
    refine hK.out _ _ ?_ (fun hHeld => ?_)
    ·(try dsimp only);(first|(refine HY.out _ ?_;(repeat (first|with_reducible (first|assumption|exact Bw.refl _|refine Bw.alloc ?_ _|refine Bw.more ?_ _ _|refine Bw.drew ?_|refine Bw.drewN ?_ _)|((with_reducible refine Bw.set2 ?_ ?_ _);(focus exact SZX))|with_reducible refine Bw.trans ?_ (by assumption)));done)|exact hHeld|(exact ⟨cell_far hHeld.1 HG6.out H8r.out,cell_far hHeld.2.1 HG6.out H8r.out,cell_far hHeld.2.2 HG6.out H8r.out⟩)|(exact ⟨cell_far hHeld.1 HG3.out H8b.out,cell_far hHeld.2.1 HG3.out H8b.out,cell_far hHeld.2.2 HG3.out H8b.out⟩))
    clear hK K
    (try simp only [Act.put,zP1,zP2,zP3,zP4,zP5,zP6])
    refine arO 5 (fun K hK => ?_)
    go_simp
    refine hK.out _ _ ?_ (fun hHeld => ?_)
    ·(try dsimp only);(first|(refine HY.out _ ?_;(repeat (first|with_reducible (first|assumption|exact Bw.refl _|refine Bw.alloc ?_ _|refine Bw.more ?_ _ _|refine Bw.drew ?_|refine Bw.drewN ?_ _)|((with_reducible refine Bw.set2 ?_ ?_ _);(focus exact SZX))|with_reducible refine Bw.trans ?_ (by assumption)));done)|exact hHeld|(exact ⟨cell_far hHeld.1 HG6.out H8r.out,cell_far hHeld.2.1 HG6.out H8r.out,cell_far hHeld.2.2 HG6.out H8r.out⟩)|(exact ⟨cell_far hHeld.1 HG3.out H8b.out,cell_far hHeld.2.1 HG3.out H8b.out,cell_far hHeld.2.2 HG3.out H8b.out⟩))
    clear hK K
    (try simp only [Act.put,zP1,zP2,zP3,zP4,zP5,zP6])
    refine wpAnyH_done (by kernel_rfl) ?_ _
    go_wp2_with fail
    go_roundw
    case rel =>
     obtain ⟨old,hold,hosz⟩:=HB2.out
     first
      | have hp8:=all_p8 (W:=W) (wr:=wr) (wc:=wc) (we:=w3) (show Bw wc wc.drew from BWX) ⟨_,.inl ⟨HG6.out,HG3.out⟩⟩ hz2 hOlt.out hzr hwc HK.out HT.out HAr.out HAb.out HG2.out HL2.out HLr.out hold
      | have hp8:=all_p8 (W:=W) (wr:=wr) (wc:=wc) (we:=w6) (show Bw wc wc.drew from BWX) ⟨_,.inr ⟨HG3.out,HG6.out⟩⟩ hz2 hOlt.out hzr hwc HK.out HT.out HAr.out HAb.out HG2.out HL2.out HLr.out hold
     obtain ⟨q1,q2,q3,q4,q5,q6⟩:=hp8
     refine ⟨k + 1,by go_num,by omega,md',pv',A',n',c',xs',m + m',l ++ l',⟨?_,q1,q2,fun ad e => ?_⟩,?_,?_,by omega,q3,⟨old,q4,hosz⟩,q5,by omega,?_⟩
     ·first|exact HS3.out|exact HS3.out.far HG6.out Hbr8.out
     ·rcases HA.out ad e with h|h
      ·left;omega
      ·exact HS.out.2.2.2 ad h.symm
     ·rw [opsV_app]
      first|exact HO6.out|(refine HO6.out.kept HG3.out (.inr ?_);intro e;have:=(HO6.out.lt _ e).1;omega)
     ·rw [List.length_append,HL.out.1,hlm]
     ·have hF:=HF.out
      dsimp only at hF ⊢
      rw [HTK.out,allN_snoc,hF]
      dsimp only
      rw [HSP.out,List.map_append]
    case measure => simp [intOf];omega
  ·obtain rfl : k = nc:=by omega
   obtain ⟨B,c2,rfl,hB1,hB2⟩:=own_form HO.out
   have hob : (Value.slice B m c2).ownBlock ≠ some (w.heap.size + 1):=fun e => by have:=hOlt.out _ e;omega
   have HOB:=Lib.hid hob
   clear hob
   go_wp2_with (first
    | ((with_reducible refine wpList_store_scn md1 pv1 A1 n1 c1 (w.heap.size + 1) (.tmp 4) (.tmp 33) rfl rfl ?_ ?_ ?_ ?_);(focus rfl);(focus rfl);(focus (exact HB.out));intro w3 hS3 hg3;have HS3:=Lib.hid hS3;have HG3:=Lib.hid hg3;clear hS3 hg3)
    | fail)
   refine bodyPost_ret (results_scn rfl _ _ (w.heap.size + 1) md1 pv1 A1 n1 c1 (by rfl) HS3.out) rfl ?_
   have hne : ∀ ad,A1 = some ad → some ad.block ≠ some (w.heap.size + 1):=fun ad e e2 => by
    have e3:=Option.some.inj e2
    rcases HS.out.2.2.2 ad e with h2|h2
    ·omega
    ·have:=HA0.out ad h2.symm
     omega
   have hO3:=HO.out.kept HG3.out (.inr HOB.out)
   have hG3:=HG.out.far HG3.out (fun o ho ad e e2 => by have:=(HG.out o ho).2.2 ad e;have e3:=Option.some.inj e2;omega)
   exact ⟨md1,pv1,A1,n1,c1,xs1,B,m,c2,l,rfl,HS.out.2.1.far0 HG3.out (fun _ => hne),OpsL.own hO3 hlm (fun o ho => (hG3 o ho).1),hmk,hB1,hB2,Bw.grown hbr HG3.out (fun k hk => by cases hk;omega),⟨fun ad e => by
    rcases HS.out.2.2.2 ad e with h2|h2
    ·left;omega
    ·right;exact h2,fun ad e => by have:=own_new HO.out ad e;omega,fun o ho ad e => by have:=(HG.out o ho).2.2 ad e;omega⟩,HS.out.2.2.1.far HG3.out hne,own_spot HO.out,by have hF:=HF.out;(try dsimp only at hF);rw [show cs.take k = cs from List.take_of_length_le (by rw [HC.out.1];exact Nat.le_refl _)] at hF;exact hF⟩
end Go.Proofs.YteebdjmjeahccaaGreatDoor
