/- Parts of the proof, one after the other. -/
import Derived.Test.YteebdjmjeahccaaGreatDoorC05
import Derived.Test.YteebdjmjeahccaaGreatDoorC01
import Derived.Test.YteebdjmjeahccaaGreatDoorC06
import Derived.Test.YteebdjmjeahccaaGreatDoorC31
import Derived.Lib.AppendStr
set_option linter.unusedSimpArgs false
set_option linter.unusedVariables false
set_option maxRecDepth 100000
set_option maxHeartbeats 16000000
namespace Go.Proofs.YteebdjmjeahccaaGreatDoor
open Go.RowKit
theorem grown_more {w w1 w2 : World} {b : Nat} {row : Option Nat} (h : w.grownBy w1 (some b)) (hg : w1.grownBy w2 row) (hr : ∀ k,row = some k → w.heap.size ≤ k) : w.grownBy w2 (some b) :=
 ⟨hg.os.trans h.os,hg.tape.trans h.tape,hg.output.trans h.output,Nat.le_trans h.size hg.size,fun k hk hne => (hg.block k (Nat.lt_of_lt_of_le hk h.size) (fun e => by have:=hr k e.symm;omega)).trans (h.block k hk hne)⟩
theorem grown_bw2 {w w1 w2 : World} {b : Nat} (h : w.grownBy w1 (some b)) (hb : Bw w1 w2) : w.grownBy w2 (some b):=h.trans (grown_bw hb _)
theorem strCells_map (s : ByteArray) : Lib.strCells s = ((s.data.toList.map (fun b => (b.toNat : Int))).map (.int .u8)):=by simp [Lib.strCells]
/-- The mill's bytes so far: at most N, in a row of the call's own. -/
def MB (w : World) (b : Nat) (A : Option Addr) (n c : Nat) (xs : List Int) (N : Nat) (v : Value) (wr : World) : Prop :=
 ∃ bs : List Int,wr.ownsRow w.heap.size 5 1 v bs.length (bs.map (.int .u8)) ∧ (∀ x ∈ bs,0 ≤ x ∧ x ≤ 255) ∧ bs.length ≤ N ∧ Dk2 wr b A n c xs ∧ w.grownBy wr (some b)
theorem MB.more {w : World} {b : Nat} {A : Option Addr} {n c : Nat} {xs : List Int} {N N' : Nat} {v : Value} {wr : World} (h : MB w b A n c xs N v wr) (hN : N ≤ N') : MB w b A n c xs N' v wr:=by
 obtain ⟨bs,h1,h2,h3,h4⟩:=h
 exact ⟨bs,h1,h2,by omega,h4⟩
/-- A draw of the deck leaves the bytes. -/
theorem MB.deck {w : World} {b : Nat} {A : Option Addr} {n c : Nat} {xs : List Int} {N : Nat} {v : Value} {wr w' : World} (h : MB w b A n c xs N v wr) (hb : b < w.heap.size) (hD : Dk2 w' b A n c xs) (hg : wr.grownBy w' (some b)) : MB w b A n c xs N v w':=by
 obtain ⟨bs,h1,h2,h3,h4,h5⟩:=h
 exact ⟨bs,own_deck h1 hg hb,h2,h3,hD,h5.trans hg⟩
theorem MB.up {w : World} {b : Nat} {A : Option Addr} {n c : Nat} {xs : List Int} {N : Nat} {v : Value} {wr w' : World} (h : MB w b A n c xs N v wr) (hb : Bw wr w') : MB w b A n c xs N v w':=by
 obtain ⟨bs,h1,h2,h3,h4,h5⟩:=h
 exact ⟨bs,h1.bw hb,h2,h3,h4.up hb,grown_bw2 h5 hb⟩
/-- More bytes are put at the end. -/
theorem MB.app {w : World} {b : Nat} {A : Option Addr} {n c : Nat} {xs : List Int} {N : Nat} {v v' : Value} {wr w' : World} {bs news : List Int} (hb : b < w.heap.size) (h1 : wr.ownsRow w.heap.size 5 1 v bs.length (bs.map (.int .u8))) (h2 : ∀ x ∈ bs,0 ≤ x ∧ x ≤ 255) (h3 : bs.length ≤ N) (h4 : Dk2 wr b A n c xs) (h5 : w.grownBy wr (some b))
  (hown : w'.ownsRow w.heap.size 5 1 v' (bs.length + news.length) (bs.map (.int .u8) ++ news.map (.int .u8))) (hg : wr.grownBy w' v.ownBlock) (hn : ∀ x ∈ news,0 ≤ x ∧ x ≤ 255) {M : Nat} (hM : N + news.length ≤ M) : MB w b A n c xs M v' w':=by
 refine ⟨bs ++ news,by rw [List.length_append,List.map_append];exact hown,fun x hx => ?_,by rw [List.length_append];omega,h4.row h1 hg hb,grown_more h5 hg (fun k hk => (h1.lt k hk).1)⟩
 rcases List.mem_append.mp hx with h|h
 ·exact h2 x h
 ·exact hn x h
theorem bytes_rng0 (s : ByteArray) : ∀ x ∈ s.data.toList.map (fun b => (b.toNat : Int)),0 ≤ x ∧ x ≤ 255:=fun x hx => by
 simp only [List.mem_map] at hx
 obtain ⟨b,_,rfl⟩:=hx
 have:=b.toNat_lt
 omega
theorem MB.appS {w : World} {b : Nat} {A : Option Addr} {n c : Nat} {xs : List Int} {N : Nat} {v v' : Value} {wr w' : World} {bs : List Int} (s : ByteArray) (hb : b < w.heap.size) (h1 : wr.ownsRow w.heap.size 5 1 v bs.length (bs.map (.int .u8))) (h2 : ∀ x ∈ bs,0 ≤ x ∧ x ≤ 255) (h3 : bs.length ≤ N) (h4 : Dk2 wr b A n c xs) (h5 : w.grownBy wr (some b))
  (hown : w'.ownsRow w.heap.size 5 1 v' (bs.length + s.size) (bs.map (.int .u8) ++ Lib.strCells s)) (hg : wr.grownBy w' v.ownBlock) {M : Nat} (hM : N + s.size ≤ M) : MB w b A n c xs M v' w':=by
 rw [strCells_map] at hown
 have e : (s.data.toList.map (fun b => (b.toNat : Int))).length = s.size:=by simp
 exact MB.app (news:=s.data.toList.map (fun b => (b.toNat : Int))) hb h1 h2 h3 h4 h5 (by rw [e];exact hown) hg (bytes_rng0 s) (by rw [e];exact hM)
theorem byte_rng (b : UInt8) : 0 ≤ (b.toNat : Int) ∧ (b.toNat : Int) ≤ 255:=by have:=b.toNat_lt;omega
theorem MB.appL {w : World} {b : Nat} {A : Option Addr} {n c : Nat} {xs : List Int} {N : Nat} {v v' : Value} {wr w' : World} {bs : List Int} (news : List Int) {m : Nat} (hm : news.length = m) (hb : b < w.heap.size) (h1 : wr.ownsRow w.heap.size 5 1 v bs.length (bs.map (.int .u8))) (h2 : ∀ x ∈ bs,0 ≤ x ∧ x ≤ 255) (h3 : bs.length ≤ N) (h4 : Dk2 wr b A n c xs) (h5 : w.grownBy wr (some b))
  (hown : w'.ownsRow w.heap.size 5 1 v' (bs.length + m) (bs.map (.int .u8) ++ news.map (.int .u8))) (hg : wr.grownBy w' v.ownBlock) (hn : ∀ x ∈ news,0 ≤ x ∧ x ≤ 255) {M : Nat} (hM : N + m ≤ M) : MB w b A n c xs M v' w':=by
 subst hm
 exact MB.app hb h1 h2 h3 h4 h5 hown hg hn hM
theorem mbytes_dk (b : Nat) (A : Option Addr) (n c : Nat) (xs : List Int) (w : World) (hD : Dk2 w b A n c xs) :
  Calls Tryz.prog 28 #[.pointer (some ⟨b,0,none⟩)] w fun e w' => ∃ v,e = .returned v ∧ MB w b A n c xs 200 v w':=by
 obtain ⟨i0,hi,hz0,hz1,hz2⟩:=info_parts infoR
 have hbz : b < w.heap.size:=hD.1.1
 go_enter Tryz.func28,Tryz.ntmps28
 go_wp2_with fail
 refine (mnext_dk2 b A n c 14 xs _ (by exact hD.up BWX) (by omega) (by omega)).mono ?_
 rintro e w1 ⟨k0,rfl,hk1,hk2,hD1,hg1⟩
 have HM0:=Lib.hid (show MB w b A n c xs 0 (.slice none 0 0) w1 from ⟨[],World.ownsRow_nil _ _ _ _,(fun x hx => by cases hx),Nat.le_refl _,hD1,hg1⟩)
 clear hD hD1 hg1
 go_wp2_with fail
 go_loopw [3,4] (fun v3 v4 wr => ∃ k : Nat,v4 = .int .i64 k ∧ k ≤ 13 ∧ MB w b A n c xs (12 * (13 - k)) v3 wr) (fun _ v4 _ => (intOf v4).toNat)
 case atStart => exact ⟨k0.toNat,by rw [Int.toNat_of_nonneg hk1],by omega,HM0.out.more (by omega)⟩
 case round =>
  rename_i wr
  obtain ⟨k,rfl,hk,hM⟩:=hrel
  have HM:=Lib.hid hM
  clear hM
  by_cases hk0 : k = 0
  ·subst hk0
   go_wp2_with fail
   go_ret
   exact ⟨_,rfl,HM.out.more (by omega)⟩
  ·have hkp : (0 : Int) < (k : Int):=by omega
   have hDk:=HM.out.choose_spec.2.2.2.1
   go_wp2_with fail
   refine (mnext_dk2 b A n c 9 xs _ hDk (by omega) (by omega)).mono ?_
   rintro e w2 ⟨j,rfl,hj1,hj2,hD2,hg2⟩
   have HM2:=Lib.hid (HM.out.deck hbz hD2 hg2)
   clear hD2 hg2 hDk
   have hj : j = 0 ∨ j = 1 ∨ j = 2 ∨ j = 3 ∨ j = 4 ∨ 5 ≤ j:=by omega
   rcases hj with rfl|rfl|rfl|rfl|rfl|hj
   ·obtain ⟨bs,c1,c2,c3,c4,c5⟩:=HM2.out
    have hcz:=c5.size
    have C1:=Lib.hid c1
    have C4:=Lib.hid c4
    have C5:=Lib.hid c5
    clear c1 c4 c5
    go_upto_region 12 with ((at_builtin;refine Lib.wpList_append_own_string _ rfl (.tmp 30) _ 33 9 rfl w.heap.size 5 i0 Tryz.underlying33 Tryz.underlying9 hi hz0 hz1 hz2 u3 bs.length (bs.map (.int .u8)) rfl (C1.out.bw BWX) { data:=#[27,91] } rfl (by show bs.length + 2 ≤ _;unfold maxLen;omega) (by show bs.length + 2 ≤ _;omega) (by first|omega|(simp only [szA,szS,szD,szN] at *;omega)) ?_;intro v3 w3 hown hg hnil;have HM3:=Lib.hid (MB.appS { data:=#[27,91] } hbz (C1.out.bw BWX) c2 c3 (C4.out.up BWX) (grown_bw2 C5.out BWX) hown hg (M:=12 * (13 - k) + 2) (by show _ + 2 ≤ _;omega));clear hown hg hnil))
    clear C1 C4 C5 c2 c3 bs hcz
    have hD_:=HM3.out.choose_spec.2.2.2.1
    go_wp2_with fail
    refine (mnext_dk2 b A n c 3 xs _ (by exact hD_.up BWX) (by omega) (by omega)).mono ?_
    rintro e w4 ⟨q0,rfl,q01,q02,hD5,hg5⟩
    have HM4:=Lib.hid ((HM3.out.up (show Bw _ _ from BWX)).deck hbz hD5 hg5)
    clear hD5 hg5 hD_
    go_wp2_with fail
    go_loopw [3,5] (fun v3 v5 wq => ∃ q : Nat,v5 = .int .i64 q ∧ q ≤ 2 ∧ MB w b A n c xs (12 * (13 - k) + 2 + (2 - q)) v3 wq) (fun _ v5 _ => (intOf v5).toNat)
    case atStart => exact ⟨q0.toNat,by rw [Int.toNat_of_nonneg q01],by omega,HM4.out.more (by omega)⟩
    case round =>
     rename_i wq
     obtain ⟨q,rfl,hq,hMq⟩:=hrel
     have HMq:=Lib.hid hMq
     clear hMq
     by_cases hq0 : q = 0
     ·subst hq0
      have hD_:=HMq.out.choose_spec.2.2.2.1
      go_wp2_with fail
      refine (mnext_dk2 b A n c 23 xs _ (by exact hD_.up BWX) (by omega) (by omega)).mono ?_
      rintro e w5 ⟨d,rfl,d1,d2,hD5,hg5⟩
      have HM5:=Lib.hid ((HMq.out.up (show Bw _ _ from BWX)).deck hbz hD5 hg5)
      clear hD5 hg5 hD_
      obtain ⟨bs,c1,c2,c3,c4,c5⟩:=HM5.out
      have hcz:=c5.size
      have C1:=Lib.hid c1
      have C4:=Lib.hid c4
      have C5:=Lib.hid c5
      clear c1 c4 c5
      go_wp2_with ((at_builtin;refine wpList_append_srcG (by rfl) (.tmp 44) (.tmp 48) 33 rfl w.heap.size 5 i0 (.int .u8 0) 1 1 Tryz.underlying33 hi hz0 hz1 hz2 rfl (by decide) u3 bs.length (bs.map (.int .u8)) (by rfl) (C1.out.bw BWX) (some ⟨_,0,none⟩) 1 1 (([((({ data:=#[65,66,67,68,69,70,71,72,74,75,76,77,80,88,83,84,64,100,102,109,114,115,117] } : ByteArray)[d.toNat]'(by show _ < 23;omega)).toNat : Int)] : List Int).map (.int .u8)) (by rfl) rfl (fun e => by cases e) (fun ad e => by cases e;exact World.news_of_block (cs:=#[.int .u8 (((({ data:=#[65,66,67,68,69,70,71,72,74,75,76,77,80,88,83,84,64,100,102,109,114,115,117] } : ByteArray)[d.toNat]'(by show _ < 23;omega)).toNat : Int))]) (heap_at (by simp))) (one_map (fun _ => rfl) _) (by unfold maxLen;omega) (by omega) (by first|omega|(simp only [szA,szS,szD,szN] at *;omega)) ?_;intro vv ww hown hg;have HM6:=Lib.hid (MB.appL [((({ data:=#[65,66,67,68,69,70,71,72,74,75,76,77,80,88,83,84,64,100,102,109,114,115,117] } : ByteArray)[d.toNat]'(by show _ < 23;omega)).toNat : Int)] (m:=1) rfl hbz (C1.out.bw BWX) c2 c3 (C4.out.up BWX) (grown_bw2 C5.out BWX) hown hg (fun x hx => by simp only [List.mem_singleton] at hx;subst hx;exact byte_rng _) (M:=12 * (13 - k) + 5) (by omega));clear hown hg))
      go_roundw
      case rel => exact ⟨k - 1,by congr 1;omega,by omega,HM6.out.more (by omega)⟩
      case measure => simp [intOf];omega
     ·have hqp : (0 : Int) < (q : Int):=by omega
      have hD_:=HMq.out.choose_spec.2.2.2.1
      go_wp2_with fail
      refine (mnext_dk2 b A n c 11 xs _ (by exact hD_.up BWX) (by omega) (by omega)).mono ?_
      rintro e w5 ⟨d,rfl,d1,d2,hD5,hg5⟩
      have HM5:=Lib.hid ((HMq.out.up (show Bw _ _ from BWX)).deck hbz hD5 hg5)
      clear hD5 hg5 hD_
      obtain ⟨bs,c1,c2,c3,c4,c5⟩:=HM5.out
      have hcz:=c5.size
      have C1:=Lib.hid c1
      have C4:=Lib.hid c4
      have C5:=Lib.hid c5
      clear c1 c4 c5
      go_wp2_with ((at_builtin;refine wpList_append_srcG (by rfl) (.tmp 38) (.tmp 42) 33 rfl w.heap.size 5 i0 (.int .u8 0) 1 1 Tryz.underlying33 hi hz0 hz1 hz2 rfl (by decide) u3 bs.length (bs.map (.int .u8)) (by rfl) (C1.out.bw BWX) (some ⟨_,0,none⟩) 1 1 (([((({ data:=#[48,49,50,51,52,53,54,55,56,57,59] } : ByteArray)[d.toNat]'(by show _ < 11;omega)).toNat : Int)] : List Int).map (.int .u8)) (by rfl) rfl (fun e => by cases e) (fun ad e => by cases e;exact World.news_of_block (cs:=#[.int .u8 (((({ data:=#[48,49,50,51,52,53,54,55,56,57,59] } : ByteArray)[d.toNat]'(by show _ < 11;omega)).toNat : Int))]) (heap_at (by simp))) (one_map (fun _ => rfl) _) (by unfold maxLen;omega) (by omega) (by first|omega|(simp only [szA,szS,szD,szN] at *;omega)) ?_;intro vv ww hown hg;have HM6:=Lib.hid (MB.appL [((({ data:=#[48,49,50,51,52,53,54,55,56,57,59] } : ByteArray)[d.toNat]'(by show _ < 11;omega)).toNat : Int)] (m:=1) rfl hbz (C1.out.bw BWX) c2 c3 (C4.out.up BWX) (grown_bw2 C5.out BWX) hown hg (fun x hx => by simp only [List.mem_singleton] at hx;subst hx;exact byte_rng _) (M:=12 * (13 - k) + 3 + (2 - q)) (by omega));clear hown hg))
      go_roundw
      case rel => exact ⟨q - 1,by congr 1;omega,by omega,HM6.out.more (by omega)⟩
      case measure => simp [intOf];omega
   ·have hD_:=HM2.out.choose_spec.2.2.2.1
    go_wp2_with fail
    refine (mnext_dk2 b A n c 6 xs _ (by exact hD_.up BWX) (by omega) (by omega)).mono ?_
    rintro e w4 ⟨d,rfl,d1,d2,hD5,hg5⟩
    have HM3:=Lib.hid ((HM2.out.up (show Bw _ _ from BWX)).deck hbz hD5 hg5)
    clear hD5 hg5 hD_
    obtain ⟨bs,c1,c2,c3,c4,c5⟩:=HM3.out
    have hcz:=c5.size
    have C1:=Lib.hid c1
    have C4:=Lib.hid c4
    have C5:=Lib.hid c5
    clear c1 c4 c5
    go_wp2_with ((at_builtin;refine wpList_append_srcG (by rfl) (.tmp 52) (.tmp 56) 33 rfl w.heap.size 5 i0 (.int .u8 0) 1 1 Tryz.underlying33 hi hz0 hz1 hz2 rfl (by decide) u3 bs.length (bs.map (.int .u8)) (by rfl) (C1.out.bw BWX) (some ⟨_,0,none⟩) 2 2 (([27,((({ data:=#[55,56,68,69,77,99] } : ByteArray)[d.toNat]'(by show _ < 6;omega)).toNat : Int)] : List Int).map (.int .u8)) (by rfl) rfl (fun e => by cases e) (fun ad e => by cases e;exact World.news_of_block (cs:=#[.int .u8 (27),.int .u8 (((({ data:=#[55,56,68,69,77,99] } : ByteArray)[d.toNat]'(by show _ < 6;omega)).toNat : Int))]) (heap_at (by simp))) (one_map (fun _ => rfl) _) (by unfold maxLen;omega) (by omega) (by first|omega|(simp only [szA,szS,szD,szN] at *;omega)) ?_;intro vv ww hown hg;have HM6:=Lib.hid (MB.appL [27,((({ data:=#[55,56,68,69,77,99] } : ByteArray)[d.toNat]'(by show _ < 6;omega)).toNat : Int)] (m:=2) rfl hbz (C1.out.bw BWX) c2 c3 (C4.out.up BWX) (grown_bw2 C5.out BWX) hown hg (fun x hx => by simp only [List.mem_cons,List.not_mem_nil,or_false] at hx;rcases hx with rfl|rfl;omega;exact byte_rng _) (M:=12 * (13 - k) + 2) (by omega));clear hown hg))
    go_roundw
    case rel => exact ⟨k - 1,by congr 1;omega,by omega,HM6.out.more (by omega)⟩
    case measure => simp [intOf];omega
   ·have hD_:=HM2.out.choose_spec.2.2.2.1
    go_wp2_with fail
    refine (mnext_dk2 b A n c 6 xs _ (by exact hD_.up BWX) (by omega) (by omega)).mono ?_
    rintro e w4 ⟨d,rfl,d1,d2,hD5,hg5⟩
    have HM3:=Lib.hid ((HM2.out.up (show Bw _ _ from BWX)).deck hbz hD5 hg5)
    obtain ⟨x,hxP,hxc⟩:=lit_pick (f:=fun x : Int => Value.int .u8 x) w2 5 _ [10,13,8,9,10,7] rfl (fun x => 0 ≤ x ∧ x ≤ 255) (by decide) d d1 (by simpa using d2)
    have hb2 : b < w2.heap.size:=by have:=HM2.out.choose_spec.2.2.2.1;exact this.1.1
    have hxc2 : w4.cell? ⟨w2.heap.size,d.toNat,none⟩ = some (.int .u8 x):=by
     rw [grown_cell hg5 (p:=⟨w2.heap.size,d.toNat,none⟩) (by simp) (by simp;omega)];exact hxc
    clear hxc
    clear hD5 hg5 hD_
    obtain ⟨bs,c1,c2,c3,c4,c5⟩:=HM3.out
    have hcz:=c5.size
    have C1:=Lib.hid c1
    have C4:=Lib.hid c4
    have C5:=Lib.hid c5
    clear c1 c4 c5
    go_wp2_with ((at_builtin;refine wpList_append_srcG (by rfl) (.tmp 60) (.tmp 66) 33 rfl w.heap.size 5 i0 (.int .u8 0) 1 1 Tryz.underlying33 hi hz0 hz1 hz2 rfl (by decide) u3 bs.length (bs.map (.int .u8)) (by rfl) (C1.out.bw BWX) (some ⟨_,0,none⟩) 1 1 (([x] : List Int).map (.int .u8)) (by rfl) rfl (fun e => by cases e) (fun ad e => by cases e;exact World.news_of_block (cs:=#[.int .u8 (x)]) (heap_at (by simp))) (one_map (fun _ => rfl) _) (by unfold maxLen;omega) (by omega) (by first|omega|(simp only [szA,szS,szD,szN] at *;omega)) ?_;intro vv ww hown hg;have HM6:=Lib.hid (MB.appL [x] (m:=1) rfl hbz (C1.out.bw BWX) c2 c3 (C4.out.up BWX) (grown_bw2 C5.out BWX) hown hg (fun y hy => by simp only [List.mem_singleton] at hy;subst hy;exact hxP) (M:=12 * (13 - k) + 1) (by omega));clear hown hg))
    go_roundw
    case rel => exact ⟨k - 1,by congr 1;omega,by omega,HM6.out.more (by omega)⟩
    case measure => simp [intOf];omega
   ·have hD_:=HM2.out.choose_spec.2.2.2.1
    go_wp2_with fail
    refine (mnext_dk2 b A n c 8 xs _ (by exact hD_.up BWX) (by omega) (by omega)).mono ?_
    rintro e w4 ⟨d,rfl,d1,d2,hD5,hg5⟩
    have HM3:=Lib.hid ((HM2.out.up (show Bw _ _ from BWX)).deck hbz hD5 hg5)
    obtain ⟨x,hxP,hxc⟩:=lit_pick (f:=fun x : ByteArray => Value.string x) w2 9 _ [{ data:=#[27,91,63,50,53,108] },{ data:=#[27,91,63,50,53,104] },{ data:=#[27,91,63,55,108] },{ data:=#[27,91,63,55,104] },{ data:=#[27,93,48,59,116,7] },{ data:=#[27,40,66] },{ data:=#[27,91,51,49,59,49,109] },{ data:=#[27,91,51,56,59,53,59,57,109] }] rfl (fun x => x.size ≤ 9) (by decide) d d1 (by simpa using d2)
    have hb2 : b < w2.heap.size:=by have:=HM2.out.choose_spec.2.2.2.1;exact this.1.1
    have hxc2 : w4.cell? ⟨w2.heap.size,d.toNat,none⟩ = some (.string x):=by
     rw [grown_cell hg5 (p:=⟨w2.heap.size,d.toNat,none⟩) (by simp) (by simp;omega)];exact hxc
    clear hxc
    clear hD5 hg5 hD_
    obtain ⟨bs,c1,c2,c3,c4,c5⟩:=HM3.out
    have hcz:=c5.size
    have C1:=Lib.hid c1
    have C4:=Lib.hid c4
    have C5:=Lib.hid c5
    clear c1 c4 c5
    go_wp2_with ((at_builtin;refine Lib.wpList_append_own_string _ rfl (.tmp 70) _ 33 9 rfl w.heap.size 5 i0 Tryz.underlying33 Tryz.underlying9 hi hz0 hz1 hz2 u3 bs.length (bs.map (.int .u8)) rfl (C1.out.bw BWX) x rfl (by unfold maxLen;omega) (by omega) (by first|omega|(simp only [szA,szS,szD,szN] at *;omega)) ?_;intro vv ww hown hg hnil;have HM6:=Lib.hid (MB.appS x hbz (C1.out.bw BWX) c2 c3 (C4.out.up BWX) (grown_bw2 C5.out BWX) hown hg (M:=12 * (13 - k) + 9) (by omega));clear hown hg hnil))
    go_roundw
    case rel => exact ⟨k - 1,by congr 1;omega,by omega,HM6.out.more (by omega)⟩
    case measure => simp [intOf];omega
   ·have hD_:=HM2.out.choose_spec.2.2.2.1
    go_wp2_with fail
    refine (mnext_dk2 b A n c 5 xs _ (by exact hD_.up BWX) (by omega) (by omega)).mono ?_
    rintro e w4 ⟨d,rfl,d1,d2,hD5,hg5⟩
    have HM3:=Lib.hid ((HM2.out.up (show Bw _ _ from BWX)).deck hbz hD5 hg5)
    obtain ⟨x,hxP,hxc⟩:=lit_pick (f:=fun x : ByteArray => Value.string x) w2 9 _ [{ data:=#[195,169] },{ data:=#[230,151,165] },{ data:=#[255] },{ data:=#[226,130] },{ data:=#[240,159,152,128] }] rfl (fun x => x.size ≤ 9) (by decide) d d1 (by simpa using d2)
    have hb2 : b < w2.heap.size:=by have:=HM2.out.choose_spec.2.2.2.1;exact this.1.1
    have hxc2 : w4.cell? ⟨w2.heap.size,d.toNat,none⟩ = some (.string x):=by
     rw [grown_cell hg5 (p:=⟨w2.heap.size,d.toNat,none⟩) (by simp) (by simp;omega)];exact hxc
    clear hxc
    clear hD5 hg5 hD_
    obtain ⟨bs,c1,c2,c3,c4,c5⟩:=HM3.out
    have hcz:=c5.size
    have C1:=Lib.hid c1
    have C4:=Lib.hid c4
    have C5:=Lib.hid c5
    clear c1 c4 c5
    go_wp2_with ((at_builtin;refine Lib.wpList_append_own_string _ rfl (.tmp 79) _ 33 9 rfl w.heap.size 5 i0 Tryz.underlying33 Tryz.underlying9 hi hz0 hz1 hz2 u3 bs.length (bs.map (.int .u8)) rfl (C1.out.bw BWX) x rfl (by unfold maxLen;omega) (by omega) (by first|omega|(simp only [szA,szS,szD,szN] at *;omega)) ?_;intro vv ww hown hg hnil;have HM6:=Lib.hid (MB.appS x hbz (C1.out.bw BWX) c2 c3 (C4.out.up BWX) (grown_bw2 C5.out BWX) hown hg (M:=12 * (13 - k) + 9) (by omega));clear hown hg hnil))
    go_roundw
    case rel => exact ⟨k - 1,by congr 1;omega,by omega,HM6.out.more (by omega)⟩
    case measure => simp [intOf];omega
   ·have j0 : (j == 0) = false:=by simp;omega
    have j1' : (j == 1) = false:=by simp;omega
    have j2' : (j == 2) = false:=by simp;omega
    have j3 : (j == 3) = false:=by simp;omega
    have j4 : (j == 4) = false:=by simp;omega
    have hD_:=HM2.out.choose_spec.2.2.2.1
    go_wp2_with fail
    refine (mrange_dk2 b A n c 1 6 xs _ (by exact hD_.up BWX) (by omega) (by omega) (by omega)).mono ?_
    rintro e w4 ⟨q0,rfl,q01,q02,hD5,hg5⟩
    have HM4:=Lib.hid ((HM2.out.up (show Bw _ _ from BWX)).deck hbz hD5 hg5)
    clear hD5 hg5 hD_
    go_wp2_with fail
    go_loopw [3,6] (fun v3 v6 wq => ∃ q : Nat,v6 = .int .i64 q ∧ q ≤ 6 ∧ MB w b A n c xs (12 * (13 - k) + (6 - q)) v3 wq) (fun _ v6 _ => (intOf v6).toNat)
    case atStart => exact ⟨q0.toNat,by rw [Int.toNat_of_nonneg (by omega)],by omega,HM4.out.more (by omega)⟩
    case round =>
     rename_i wq
     obtain ⟨q,rfl,hq,hMq⟩:=hrel
     have HMq:=Lib.hid hMq
     clear hMq
     by_cases hq0 : q = 0
     ·subst hq0
      go_wp2_with fail
      go_roundw
      case rel => exact ⟨k - 1,by congr 1;omega,by omega,HMq.out.more (by omega)⟩
      case measure => simp [intOf];omega
     ·have hqp : (0 : Int) < (q : Int):=by omega
      have hD_:=HMq.out.choose_spec.2.2.2.1
      go_wp2_with fail
      refine (mnext_dk2 b A n c 26 xs _ (by exact hD_.up BWX) (by omega) (by omega)).mono ?_
      rintro e w5 ⟨d,rfl,d1,d2,hD5,hg5⟩
      have HM5:=Lib.hid ((HMq.out.up (show Bw _ _ from BWX)).deck hbz hD5 hg5)
      clear hD5 hg5 hD_
      obtain ⟨bs,c1,c2,c3,c4,c5⟩:=HM5.out
      have hcz:=c5.size
      have C1:=Lib.hid c1
      have C4:=Lib.hid c4
      have C5:=Lib.hid c5
      clear c1 c4 c5
      go_wp2_with ((at_builtin;refine wpList_append_srcG (by rfl) (.tmp 21) (.tmp 26) 33 rfl w.heap.size 5 i0 (.int .u8 0) 1 1 Tryz.underlying33 hi hz0 hz1 hz2 rfl (by decide) u3 bs.length (bs.map (.int .u8)) (by rfl) (C1.out.bw BWX) (some ⟨_,0,none⟩) 1 1 (([97 + d] : List Int).map (.int .u8)) (by rfl) rfl (fun e => by cases e) (fun ad e => by cases e;exact World.news_of_block (cs:=#[.int .u8 (97 + d)]) (heap_at (by simp))) (one_map (fun _ => rfl) _) (by unfold maxLen;omega) (by omega) (by first|omega|(simp only [szA,szS,szD,szN] at *;omega)) ?_;intro vv ww hown hg;have HM6:=Lib.hid (MB.appL [97 + d] (m:=1) rfl hbz (C1.out.bw BWX) c2 c3 (C4.out.up BWX) (grown_bw2 C5.out BWX) hown hg (fun y hy => by simp only [List.mem_singleton] at hy;subst hy;omega) (M:=12 * (13 - k) + 1 + (6 - q)) (by omega));clear hown hg))
      go_roundw
      case rel => exact ⟨q - 1,by congr 1;omega,by omega,HM6.out.more (by omega)⟩
      case measure => simp [intOf];omega
/-- A draw of the deck leaves a terminal that lies elsewhere. -/
theorem Trm.Ok.deck {w w' : World} {t : Trm} {B : Int} {b : Nat} {A : Option Addr} {n c : Nat} {xs : List Int} (h : t.Ok w B) (hD : Dk2 w b A n c xs) (hg : w.grownBy w' (some b)) (h1 : ∀ ad,t.s.A = some ad → ad.block ≠ b) (h2 : 0 < t.Hn → ∀ ad,t.HA = some ad → ad.block ≠ b) : t.Ok w' B:=by
 obtain ⟨k,hS⟩:=hD.2
 exact h.far hg (fun ad e e2 => h1 ad e (Option.some.inj e2)) (fun h0 => h.2.1.1.ne_sbf h0 hS Dk2.no8) (h.2.2.2.1.ne hS (by decide)) (fun h0 ad e e2 => h2 h0 ad e (Option.some.inj e2))
/-- A box of a terminal that holds no byte. -/
def Ob (w : World) (g : Nat) : Prop:=∃ old,Sb w g old 53 ∧ old.size = 26 ∧ ∀ (i : Nat) (x : Int),old[i]? ≠ some (.int .u8 x)
theorem Ob.up {w w' : World} {g : Nat} (h : Ob w g) (hb : Bw w w') : Ob w' g:=by
 obtain ⟨old,h1,h2⟩:=h
 exact ⟨old,h1.up hb,h2⟩
theorem Ob.far {w w' : World} {g : Nat} {row : Option Nat} (h : Ob w g) (hg : w.grownBy w' row) (hne : some g ≠ row) : Ob w' g:=by
 obtain ⟨old,h1,h2⟩:=h
 exact ⟨old,h1.far hg hne,h2⟩
/-- The terminal in box g, its memory apart from the boxes and the deck. -/
def TmR (w : World) (b : Nat) (A : Option Addr) (n c : Nat) (xs : List Int) (g : Nat) (R C : Nat) (B : Int) (wr : World) : Prop :=
 ∃ t : Trm,Sb wr g t.vals.toArray 53 ∧ t.Ok wr B ∧ t.s.Rn = R ∧ t.s.Cn = C ∧ (∀ ad,t.s.A = some ad → w.heap.size < ad.block ∧ ad.block ≠ g) ∧ (0 < t.Hn → ∀ ad,t.HA = some ad → w.heap.size < ad.block ∧ ad.block ≠ g) ∧ Dk2 wr b A n c xs ∧ w.grownBy wr (some b) ∧ Ob wr w.heap.size ∧ w.heap.size < g ∧ g < wr.heap.size
theorem TmR.deck {w wr w' : World} {b : Nat} {A : Option Addr} {n c : Nat} {xs : List Int} {g R C : Nat} {B : Int} (h : TmR w b A n c xs g R C B wr) (hb : b < w.heap.size) (hD : Dk2 w' b A n c xs) (hg : wr.grownBy w' (some b)) : TmR w b A n c xs g R C B w':=by
 obtain ⟨t,h1,h2,h3,h4,h5,h6,h7,h8,h9,h10,h11⟩:=h
 exact ⟨t,h1.far hg (by intro e;have:=Option.some.inj e;omega),h2.deck h7 hg (fun ad e => by have:=h5 ad e;omega) (fun h0 ad e => by have:=h6 h0 ad e;omega),h3,h4,h5,h6,hD,h8.trans hg,h9.far hg (by intro e;have:=Option.some.inj e;omega),h10,by have:=hg.size;omega⟩
theorem clamp_id {x m : Int} (h1 : 1 ≤ x) (h2 : x ≤ m) : clamp x m = x:=by unfold clamp;(repeat' split) <;> omega
theorem mterm_dk (b : Nat) (A : Option Addr) (n c : Nat) (xs : List Int) (w : World) (hD : Dk2 w b A n c xs) : Calls Tryz.prog 19 #[.pointer (some ⟨b,0,none⟩)] w fun e w' => ∃ t : Trm,e = .returned (.agg t.vals.toArray) ∧ t.Ok w' 1000000000 ∧ (1 ≤ t.s.Rn ∧ t.s.Rn ≤ 5 ∧ 1 ≤ t.s.Cn ∧ t.s.Cn ≤ 9) ∧ (∀ ad,t.s.A = some ad → w.heap.size ≤ ad.block) ∧ Dk2 w' b A n c xs ∧ w.grownBy w' (some b):=by
 have hbz : b < w.heap.size:=hD.1.1
 go_enter Tryz.func19,Tryz.ntmps19
 go_upto_region 1 with (fail)
 generalize hw1 : w.alloc _ = w1
 obtain ⟨hb0,hbw,hz⟩:=sb1 hw1
 have HO1:=Lib.hid (show Ob w1 w.heap.size from ⟨_,hb0,rfl,fun i x h => by have:=Array.mem_of_getElem? h;simp at this⟩)
 have hz1 : w.heap.size < w1.heap.size:=by omega
 have HD1:=Lib.hid (hD.up hbw)
 clear hw1 hb0 hz hD
 go_wp2_with fail
 refine (mrange_dk2 b A n c 1 5 xs _ HD1.out (by omega) (by omega) (by omega)).mono ?_
 rintro e w2 ⟨R,rfl,hR1,hR2,hD2,hg2⟩
 go_wp2_with fail
 refine (mrange_dk2 b A n c 1 9 xs _ hD2 (by omega) (by omega) (by omega)).mono ?_
 rintro e w3 ⟨C,rfl,hC1,hC2,hD3,hg3⟩
 go_wp2_with fail
 refine (mnext_dk2 b A n c 4 xs _ hD3 (by omega) (by omega)).mono ?_
 rintro e w4 ⟨K,rfl,hK1,hK2,hD4,hg4⟩
 have hg14:=(hg2.trans hg3).trans hg4
 have HO4:=Lib.hid (HO1.out.far hg14 (by intro e;have:=Option.some.inj e;omega))
 have HG4:=Lib.hid ((grown_bw hbw (some b)).trans hg14)
 have HD4:=Lib.hid hD4
 have hz4 : w.heap.size < w4.heap.size:=by have:=hg14.size;omega
 clear hD2 hD3 hD4 hg2 hg3 hg4 hg14 HO1 HD1 hbw hz1
 go_upto_region 2 with (first
  | (go_at_call 25;refine (rnew19_ok R C K _ (by omega)).mono ?_;rintro ee w5 ⟨t,rfl,hOk,e1,e2,hN,hH,hb5⟩;have HOk:=Lib.hid hOk;have HN:=Lib.hid hN;have HE:=Lib.hid (And.intro e1 e2);have HB5:=Lib.hid hb5;have HH:=Lib.hid hH;have hz5:=hb5.size;clear hOk hN e1 e2 hb5 hH)
  | ((with_reducible refine wpList_store_tr t w5.heap.size (.tmp 3) (.tmp 11) rfl rfl ?_ ?_ ?_ ?_);(focus rfl);(focus rfl);(focus (exact ⟨_,heap_at rfl,rfl⟩));intro w6 hS6 hg6;have HS6:=Lib.hid hS6;have HG6:=Lib.hid hg6;clear hS6 hg6)
  | fail)
 have hg6:=HG6.out
 have hb56 : Bw w5 w6:=Bw.grown (show Bw w5 (w5.alloc _) from BWX) hg6 (fun k hk => by cases hk;omega)
 have hb46 : Bw w4 w6:=Bw.trans HB5.out hb56
 obtain ⟨Rn,hRn⟩ : ∃ Rn,t.s.Rn = Rn:=⟨_,rfl⟩
 obtain ⟨Cn,hCn⟩ : ∃ Cn,t.s.Cn = Cn:=⟨_,rfl⟩
 have hR:=HE.out.1
 have hC:=HE.out.2
 rw [hRn,clamp_id (by omega) (by omega)] at hR
 rw [hCn,clamp_id (by omega) (by omega)] at hC
 have HT6:=Lib.hid (show TmR w b A n c xs w5.heap.size Rn Cn (46200000 * 0) w6 from ⟨t,HS6.out,Trm.Ok.more (HOk.out.up hb56) (by omega),hRn,hCn,fun ad e => by have h1:=HN.out ad e;have h2:=HOk.out.1.1.lt ad e;omega,fun h0 ad e => absurd (HH.out.symm.trans e) (by simp),HD4.out.up hb46,grown_bw2 HG4.out hb46,HO4.out.up hb46,by omega,HS6.out.lt⟩)
 obtain ⟨g3,hg3⟩ : ∃ g3,w5.heap.size = g3:=⟨_,rfl⟩
 rw [hg3] at HT6
 simp only [hg3]
 clear HS6 HG6 hg6 hb56 hb46 HOk HN HE HB5 HH HD4 HO4 HG4 hg3 hz4 hz5 hRn hCn
 have hD_:=HT6.out.choose_spec.2.2.2.2.2.2.1
 go_wp2_with fail
 refine (mnext_dk2 b A n c 3 xs _ hD_ (by omega) (by omega)).mono ?_
 rintro e w7 ⟨q0,rfl,hq1,hq2,hD7,hg7⟩
 have HT7:=Lib.hid (HT6.out.deck hbz hD7 hg7)
 clear hD7 hg7 hD_ HT6
 go_wp2_with fail
 go_loopw [4] (fun v4 wr => ∃ q : Nat,v4 = .int .i64 q ∧ q ≤ 2 ∧ TmR w b A n c xs g3 Rn Cn (46200000 * (2 - (q : Int))) wr) (fun v4 _ => (intOf v4).toNat)
 case atStart =>
  obtain ⟨t',h1,h2,h3⟩:=HT7.out
  exact ⟨q0.toNat,by rw [Int.toNat_of_nonneg hq1],by omega,t',h1,Trm.Ok.more h2 (by omega),h3⟩
 case round =>
  rename_i wr
  obtain ⟨q,rfl,hq,hT⟩:=hrel
  obtain ⟨t',h1,h2,h3,h4,h5,h6,h7,h8,h9,h10,h11⟩:=hT
  have H1:=Lib.hid h1
  have H2:=Lib.hid h2
  have H5:=Lib.hid h5
  have H6:=Lib.hid h6
  have H7:=Lib.hid h7
  have H8:=Lib.hid h8
  have H9:=Lib.hid h9
  have H34:=Lib.hid (And.intro h3 h4)
  clear h1 h2 h3 h4 h5 h6 h7 h8 h9
  by_cases hq0 : q = 0
  ·subst hq0
   go_wp2_with (first
    | ((with_reducible refine wpList_load_tr t' g3 (.tmp 3) rfl rfl ?_ ?_ ?_);(focus rfl);(focus (exact H1.out)))
    | ((with_reducible refine wpList_store_tr t' w.heap.size (.tmp 2) (.tmp 22) rfl rfl ?_ ?_ ?_ ?_);(focus rfl);(focus rfl);(focus (exact Exists.elim H9.out (fun old h => ⟨old,h.1,h.2.1⟩)));intro we hS5 hg5;have HS5:=Lib.hid hS5;have HG5:=Lib.hid hg5;clear hS5 hg5)
    | fail)
   refine bodyPost_ret (results_tr rfl _ _ w.heap.size t' (by rfl) HS5.out) rfl ?_
   obtain ⟨oldb,hob,_,hne8⟩:=H9.out
   have hge:=HG5.out
   have hbz2:=h10
   exact ⟨t',rfl,Trm.Ok.more (H2.out.far hge (fun ad e e2 => by have:=(H5.out ad e).1;have e3:=Option.some.inj e2;omega) (fun h0 => H2.out.2.1.1.ne_sbf h0 hob hne8) (H2.out.2.2.2.1.ne hob (by decide)) (fun h0 ad e e2 => by have:=(H6.out h0 ad e).1;have e3:=Option.some.inj e2;omega)) (by omega),by have:=H34.out;omega,fun ad e => by have:=(H5.out ad e).1;omega,H7.out.grown hge hbz,grown_more H8.out hge (fun k hk => by cases hk;omega)⟩
  ·have hqp : (0 : Int) < (q : Int):=by omega
   go_upto_region 5 with (fail)
   refine wp_region_held_drew (S:=(fun w' => True)) (by kernel_rfl) ?_ (fun hHeld => ?_)
   ·(try dsimp only);skip
   refine tkQ 1 ?_
   (try simp only [Act.put,zP1,zP2,zP3,zP4,zP5,zP6])
   refine wpAnyH_ready (rs:=[0,2]) (by kernel_rfl) (by simp) ?_
   refine AllReadyH.cons rfl (fun K hK => ?_) ?_
   ·(refine (if_pos (by kernel_rfl)).mpr ?_);(first|((with_reducible refine wp_load_tr t' g3 (.tmp 3) ?_ ?_ ?_ ?_);(focus rfl);(focus rfl);(focus (exact H1.out.up (Bw.drew (Bw.refl _)))))|((with_reducible refine wp_load_tr t' g3 (.tmp 3) ?_ ?_ ?_ ?_);(focus rfl);(focus rfl);(focus (exact (H1.out.up (Bw.drew (Bw.refl _))).far HGB.out hg3b))))
    refine hK.out _ _ ?_ (fun hHeld => ?_)
    ·(try dsimp only);skip
    clear hK K
    (try simp only [Act.put,zP1,zP2,zP3,zP4,zP5,zP6])
    refine arO 2 (fun K hK => ?_)
    go_simp
    refine (mbytes_dk b A n c xs _ (H7.out.up (show Bw wr wr.drew from Bw.drew (Bw.refl _)))).mono ?_;rintro ee wb ⟨vb,rfl,hMB⟩;obtain ⟨bs,m1,m2,m3,m4,m5⟩:=hMB;obtain ⟨Db,cb,rfl,mb1,mb2⟩:=own_form m1;have HM1:=Lib.hid m1;have HM4:=Lib.hid m4;have HGB:=Lib.hid m5;have hzb : wr.heap.size ≤ wb.heap.size:=m5.size;have hg3b : some g3 ≠ some b:=(by intro e;have:=Option.some.inj e;omega);have HM2:=Lib.hid m2;have HOb:=Lib.hid ((H2.out.up (show Bw wr wr.drew from Bw.drew (Bw.refl _))).deck (H7.out.up (show Bw wr wr.drew from Bw.drew (Bw.refl _))) m5 (fun ad e => by have:=H5.out ad e;omega) (fun h0 ad e => by have:=H6.out h0 ad e;omega));clear m1 m2 m4 m5;go_wp2_with fail
    refine hK.out _ _ ?_ (fun hHeld => ?_)
    ·(try dsimp only);skip
    clear hK K
    (try simp only [Act.put,zP1,zP2,zP3,zP4,zP5,zP6])
    refine arO 3 (fun K hK => ?_)
    go_simp
    refine (rfeed_ok t' _ Db bs.length cb bs _ HOb.out ⟨by omega,by omega⟩ (by exact own_rd HM1.out) mb1 mb2 (by omega) HM2.out).mono ?_;rintro ee wf ⟨t2,rfl,f1,f2,f3,f4,f5,f6,f7⟩;have F1:=Lib.hid f1;have F2:=Lib.hid (And.intro f2 f3);have F5:=Lib.hid f5;have F6:=Lib.hid f6;have F7:=Lib.hid f7;clear f1 f2 f3 f4 f5 f6 f7;go_wp2_with fail
    refine hK.out _ _ ?_ (fun hHeld => ?_)
    ·(try dsimp only);skip
    clear hK K
    (try simp only [Act.put,zP1,zP2,zP3,zP4,zP5,zP6])
    refine arO 4 (fun K hK => ?_)
    (refine (if_pos (by kernel_rfl)).mpr ?_);((with_reducible refine wp_store_tr t2 g3 (.tmp 3) (.tmp 21) ?_ ?_ ?_ ?_ ?_);(focus rfl);(focus rfl);(focus rfl);(focus (exact ⟨_,((H1.out.up (Bw.drew (Bw.refl _))).far HGB.out hg3b).up F7.out,rfl⟩)));intro w3 hS3 hg3';have HS3:=Lib.hid hS3;have HG3:=Lib.hid hg3';clear hS3 hg3'
    refine hK.out _ _ ?_ (fun hHeld => ?_)
    ·(try dsimp only);skip
    clear hK K
    (try simp only [Act.put,zP1,zP2,zP3,zP4,zP5,zP6])
    refine wpAnyH_done (by kernel_rfl) ?_ _
    go_wp2_with fail
    go_roundw
    case rel =>
     have hg3g:=HG3.out
     have hb7:=F7.out
     have hs7:=hb7.size
     have hT1:=((H1.out.up (show Bw wr wr.drew from Bw.drew (Bw.refl _))).far HGB.out hg3b).up hb7
     have hA2 : ∀ ad,t2.s.A = some ad → w.heap.size < ad.block ∧ ad.block ≠ g3:=fun ad e => by
      rcases F5.out with h|h
      ·exact H5.out ad (by rw [← h];exact e)
      ·have:=h ad e
       omega
     have hH2 : 0 < t2.Hn → ∀ ad,t2.HA = some ad → w.heap.size < ad.block ∧ ad.block ≠ g3:=fun h0 ad e => by
      rcases F6.out with h|h
      ·exact H6.out (by rw [← h.2];exact h0) ad (by rw [← h.1];exact e)
      ·have:=h ad e
       omega
     refine ⟨q - 1,by congr 1;omega,by omega,t2,HS3.out,Trm.Ok.more (F1.out.far hg3g (fun ad e e2 => (hA2 ad e).2 (Option.some.inj e2)) (fun h0 => F1.out.2.1.1.ne_sbf h0 hT1 t'.no8) (F1.out.2.2.2.1.ne hT1 (by decide)) (fun h0 ad e e2 => (hH2 h0 ad e).2 (Option.some.inj e2))) (by omega),F2.out.1.trans H34.out.1,F2.out.2.trans H34.out.2,hA2,hH2,(HM4.out.up hb7).grown hg3g (by omega),grown_more (grown_bw2 ((H8.out.trans (grown_bw (show Bw wr wr.drew from Bw.drew (Bw.refl _)) (some b))).trans HGB.out) hb7) hg3g (fun k hk => by cases hk;omega),(((H9.out.up (show Bw wr wr.drew from Bw.drew (Bw.refl _))).far HGB.out (by intro e;have:=Option.some.inj e;omega)).up hb7).far hg3g (by intro e;have:=Option.some.inj e;omega),h10,by have:=hg3g.size;omega⟩
    case measure => simp [intOf];omega
   refine AllReadyH.cons rfl (fun K hK => ?_) ?_
   ·go_simp
    refine (mbytes_dk b A n c xs _ (H7.out.up (show Bw wr wr.drew from Bw.drew (Bw.refl _)))).mono ?_;rintro ee wb ⟨vb,rfl,hMB⟩;obtain ⟨bs,m1,m2,m3,m4,m5⟩:=hMB;obtain ⟨Db,cb,rfl,mb1,mb2⟩:=own_form m1;have HM1:=Lib.hid m1;have HM4:=Lib.hid m4;have HGB:=Lib.hid m5;have hzb : wr.heap.size ≤ wb.heap.size:=m5.size;have hg3b : some g3 ≠ some b:=(by intro e;have:=Option.some.inj e;omega);have HM2:=Lib.hid m2;have HOb:=Lib.hid ((H2.out.up (show Bw wr wr.drew from Bw.drew (Bw.refl _))).deck (H7.out.up (show Bw wr wr.drew from Bw.drew (Bw.refl _))) m5 (fun ad e => by have:=H5.out ad e;omega) (fun h0 ad e => by have:=H6.out h0 ad e;omega));clear m1 m2 m4 m5;go_wp2_with fail
    refine hK.out _ _ ?_ (fun hHeld => ?_)
    ·(try dsimp only);skip
    clear hK K
    (try simp only [Act.put,zP1,zP2,zP3,zP4,zP5,zP6])
    refine arO 0 (fun K hK => ?_)
    (refine (if_pos (by kernel_rfl)).mpr ?_);(first|((with_reducible refine wp_load_tr t' g3 (.tmp 3) ?_ ?_ ?_ ?_);(focus rfl);(focus rfl);(focus (exact H1.out.up (Bw.drew (Bw.refl _)))))|((with_reducible refine wp_load_tr t' g3 (.tmp 3) ?_ ?_ ?_ ?_);(focus rfl);(focus rfl);(focus (exact (H1.out.up (Bw.drew (Bw.refl _))).far HGB.out hg3b))))
    refine hK.out _ _ ?_ (fun hHeld => ?_)
    ·(try dsimp only);skip
    clear hK K
    (try simp only [Act.put,zP1,zP2,zP3,zP4,zP5,zP6])
    refine arO 3 (fun K hK => ?_)
    go_simp
    refine (rfeed_ok t' _ Db bs.length cb bs _ HOb.out ⟨by omega,by omega⟩ (by exact own_rd HM1.out) mb1 mb2 (by omega) HM2.out).mono ?_;rintro ee wf ⟨t2,rfl,f1,f2,f3,f4,f5,f6,f7⟩;have F1:=Lib.hid f1;have F2:=Lib.hid (And.intro f2 f3);have F5:=Lib.hid f5;have F6:=Lib.hid f6;have F7:=Lib.hid f7;clear f1 f2 f3 f4 f5 f6 f7;go_wp2_with fail
    refine hK.out _ _ ?_ (fun hHeld => ?_)
    ·(try dsimp only);skip
    clear hK K
    (try simp only [Act.put,zP1,zP2,zP3,zP4,zP5,zP6])
    refine arO 4 (fun K hK => ?_)
    (refine (if_pos (by kernel_rfl)).mpr ?_);((with_reducible refine wp_store_tr t2 g3 (.tmp 3) (.tmp 21) ?_ ?_ ?_ ?_ ?_);(focus rfl);(focus rfl);(focus rfl);(focus (exact ⟨_,((H1.out.up (Bw.drew (Bw.refl _))).far HGB.out hg3b).up F7.out,rfl⟩)));intro w3 hS3 hg3';have HS3:=Lib.hid hS3;have HG3:=Lib.hid hg3';clear hS3 hg3'
    refine hK.out _ _ ?_ (fun hHeld => ?_)
    ·(try dsimp only);skip
    clear hK K
    (try simp only [Act.put,zP1,zP2,zP3,zP4,zP5,zP6])
    refine wpAnyH_done (by kernel_rfl) ?_ _
    go_wp2_with fail
    go_roundw
    case rel =>
     have hg3g:=HG3.out
     have hb7:=F7.out
     have hs7:=hb7.size
     have hT1:=((H1.out.up (show Bw wr wr.drew from Bw.drew (Bw.refl _))).far HGB.out hg3b).up hb7
     have hA2 : ∀ ad,t2.s.A = some ad → w.heap.size < ad.block ∧ ad.block ≠ g3:=fun ad e => by
      rcases F5.out with h|h
      ·exact H5.out ad (by rw [← h];exact e)
      ·have:=h ad e
       omega
     have hH2 : 0 < t2.Hn → ∀ ad,t2.HA = some ad → w.heap.size < ad.block ∧ ad.block ≠ g3:=fun h0 ad e => by
      rcases F6.out with h|h
      ·exact H6.out (by rw [← h.2];exact h0) ad (by rw [← h.1];exact e)
      ·have:=h ad e
       omega
     refine ⟨q - 1,by congr 1;omega,by omega,t2,HS3.out,Trm.Ok.more (F1.out.far hg3g (fun ad e e2 => (hA2 ad e).2 (Option.some.inj e2)) (fun h0 => F1.out.2.1.1.ne_sbf h0 hT1 t'.no8) (F1.out.2.2.2.1.ne hT1 (by decide)) (fun h0 ad e e2 => (hH2 h0 ad e).2 (Option.some.inj e2))) (by omega),F2.out.1.trans H34.out.1,F2.out.2.trans H34.out.2,hA2,hH2,(HM4.out.up hb7).grown hg3g (by omega),grown_more (grown_bw2 ((H8.out.trans (grown_bw (show Bw wr wr.drew from Bw.drew (Bw.refl _)) (some b))).trans HGB.out) hb7) hg3g (fun k hk => by cases hk;omega),(((H9.out.up (show Bw wr wr.drew from Bw.drew (Bw.refl _))).far HGB.out (by intro e;have:=Option.some.inj e;omega)).up hb7).far hg3g (by intro e;have:=Option.some.inj e;omega),h10,by have:=hg3g.size;omega⟩
    case measure => simp [intOf];omega
   exact AllReadyH.nil
end Go.Proofs.YteebdjmjeahccaaGreatDoor
