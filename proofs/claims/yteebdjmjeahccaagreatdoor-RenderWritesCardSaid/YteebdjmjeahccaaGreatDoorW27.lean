/- Parts of the proof, one after the other. -/
import Derived.Test.YteebdjmjeahccaaGreatDoorW26
import Derived.Test.YteebdjmjeahccaaGreatDoorW05
import Derived.Test.YteebdjmjeahccaaGreatDoorW01
import Derived.Test.YteebdjmjeahccaaGreatDoorW06
import Derived.Lib.AppendStr
set_option linter.unusedSimpArgs false
set_option linter.unusedVariables false
set_option maxRecDepth 100000
set_option maxHeartbeats 16000000
namespace Go.Proofs.YteebdjmjeahccaaGreatDoor
open Go.RowKit
/-- A new terminal about a screen. -/
def newTrm (s' : Scr) (K : Int) : Trm:=⟨s',none,0,0,[],0,0,none,0,0,[],K,none,0,0,0⟩
theorem trm_built (s' : Scr) (K : Int) : Tryz.prog.built 53 [(0,.agg s'.vals.toArray),(3,.int .i64 K)] = some (newTrm s' K).vals.toArray:=by kernel_rfl
theorem wpList_build_trm {ops : Array Oper} {rest : List Oper} {o : Oper} {a : Act} {w : World} {Q : Exit → Act → World → Prop} (s' : Scr) (K : Int) (x y : Operand) (ho : o.op = .build 53 #[(0,x),(3,y)]) (hgd : o.guard = none) (hx : a.eval x = .agg s'.vals.toArray) (hy : a.eval y = .int .i64 K)
  (h : wpList Tryz.prog ops Q rest (a.put o.dst (.agg (newTrm s' K).vals.toArray)) w) : wpList Tryz.prog ops Q (o :: rest) a w:=by
 have e : ((#[(0,x),(3,y)] : Array (Nat × Operand)).map fun (i,x) => (i,a.eval x)).toList = [(0,.agg s'.vals.toArray),(3,.int .i64 K)]:=by
  simp only [List.map_toArray,List.map_cons,List.map_nil,hx,hy]
 refine wpList_build hgd 53 _ ho ?_ ?_
 ·rw [e,trm_built];rfl
 ·rw [e,trm_built];exact h
/-- A new terminal. -/
def NewP (w : World) (R C : Int) (e : Ending) (w' : World) : Prop :=
 ∃ t : Trm,e = .returned (.agg t.vals.toArray) ∧ t.Ok w' 0 ∧ (t.s.Rn : Int) = clamp R 30 ∧ (t.s.Cn : Int) = clamp C 100 ∧ (∀ ad,t.s.A = some ad → w.heap.size ≤ ad.block) ∧ t.HA = none ∧ Bw w w'
theorem rnew19_ok (R C K : Int) (w : World) (hK : 0 ≤ K ∧ K ≤ 200) : Calls Tryz.prog 25 #[.int .i64 R,.int .i64 C,.int .i64 K] w (NewP w R C):=by
 obtain ⟨hK0,hK1⟩:=hK
 have hmx : (if 0 < K then K else 0) = K:=by split <;> omega
 go_enter Tryz.func25,Tryz.ntmps25
 go_upto_region 1 with (fail)
 generalize hw1 : w.alloc _ = w1
 obtain ⟨hb0,hbw,hz⟩:=sb1 hw1
 have HB0:=Lib.hid (show ∃ old,Sb w1 w.heap.size old 53 ∧ old.size = 26 from ⟨_,hb0,rfl⟩)
 have hz1 : w.heap.size < w1.heap.size:=by omega
 clear hw1 hb0 hz
 go_wp2_with (first
  | (go_at_call 51;refine (rsnew_ok R C _).mono ?_;rintro ee w2 ⟨s',e1,e2,rfl,hOk,hN,hb2⟩;have HOk:=Lib.hid hOk;have HN:=Lib.hid hN;have HE:=Lib.hid (And.intro e1 e2);have HB2:=Lib.hid hb2;clear hOk hN e1 e2 hb2)
  | ((with_reducible refine wpList_build_trm s' K _ _ rfl rfl ?_ ?_ ?_);(focus rfl);(focus rfl))
  | ((with_reducible refine wpList_store_tr (newTrm s' K) w.heap.size (.tmp 6) (.tmp 13) rfl rfl ?_ ?_ ?_ ?_);(focus rfl);(focus rfl);(focus (exact Exists.elim HB0.out (fun old h => ⟨old,h.1.up HB2.out,h.2⟩)));intro w3 hS3 hg3;have HS3:=Lib.hid hS3;have HG3:=Lib.hid hg3;clear hS3 hg3)
  | fail)
 refine bodyPost_ret (results_tr rfl _ _ w.heap.size (newTrm s' K) (by rfl) HS3.out) rfl ?_
 have hs2:=hbw.size
 exact ⟨newTrm s' K,rfl,⟨HOk.out.far HG3.out (ne_some (fun ad e => by have:=HN.out ad e;omega)),⟨Rd.nil_ _ _,Nat.le_refl _,by show 0 ≤ 9223372036854775807;omega,rfl,by show 0 ≤ 4;omega,fun x hx => by cases hx⟩,ScnOk.to _ 0 (by omega),TyA.none _,⟨hK0,hK1⟩,Ls.nil_ _ _,Nat.le_refl _,by show 0 ≤ 9223372036854775807;omega,by show ((0 : Nat) : Int) ≤ K;omega,by show (0 : Int) ≤ 0;omega,by show (0 : Int) ≤ 0;omega⟩,HE.out.1,HE.out.2,fun ad e => by have:=HN.out ad e;omega,rfl,Bw.grown (Bw.trans hbw HB2.out) HG3.out (fun k hk => by cases hk;omega)⟩
/-- Block b is a deck, and holds a slice and a place alone. -/
def Dk2 (w : World) (b : Nat) (A : Option Addr) (n c : Nat) (xs : List Int) : Prop:=Dk w b A n c xs ∧ ∃ k : Nat,Sb w b #[.slice A n c,.int .i64 k] 97
theorem Dk2.up {w w' : World} {b : Nat} {A : Option Addr} {n c : Nat} {xs : List Int} (h : Dk2 w b A n c xs) (hb : Bw w w') : Dk2 w' b A n c xs:=by
 obtain ⟨h1,k,h2⟩:=h
 exact ⟨h1.up hb,k,h2.up hb⟩
theorem Dk2.grown {w w' : World} {b r : Nat} {A : Option Addr} {n c : Nat} {xs : List Int} (h : Dk2 w b A n c xs) (hg : w.grownBy w' (some r)) (hr : b < r) : Dk2 w' b A n c xs:=by
 obtain ⟨h1,k,h2⟩:=h
 exact ⟨h1.grown hg hr,k,h2.far hg (by intro e;have:=Option.some.inj e;omega)⟩
theorem Dk2.row {w w' : World} {b : Nat} {A : Option Addr} {n c : Nat} {xs : List Int} (h : Dk2 w b A n c xs) {v : Value} {base : Nat} {e : TypeId} {s m : Nat} {ys : List Value} (ho : w.ownsRow base e s v m ys) (hg : w.grownBy w' v.ownBlock) (hb : b < base) : Dk2 w' b A n c xs:=by
 cases hob : v.ownBlock with
 | none => rw [hob] at hg;exact h.up (Bw.of_grown hg)
 | some r => rw [hob] at hg;exact h.grown hg (by have:=ho.lt r hob;omega)
theorem Dk2.made {w : World} {A : Option Addr} {n c : Nat} {xs : List Int} (hr : RdI w A n xs) (hA : 0 < n → ∀ ad,A = some ad → ad.block < w.heap.size) (hn : n ≤ 9223372036854775807) :
  Dk2 (w.alloc (.cells #[.slice A n c,.int .i64 0] 97)) w.heap.size A n c xs:=⟨Dk.made hr hA hn,0,heap_at rfl⟩
theorem Dk2.no8 {A : Option Addr} {n c : Nat} {k : Nat} : ∀ (i : Nat) (x : Int),(#[.slice A n c,.int .i64 k] : Array Value)[i]? ≠ some (.int .u8 x):=fun i x h => by
 have:=Array.mem_of_getElem? h
 simp at this
theorem mnext_dk2 (b : Nat) (A : Option Addr) (n c : Nat) (m : Int) (xs : List Int) (w : World) (hD : Dk2 w b A n c xs) (hm1 : 1 ≤ m) (hm2 : m ≤ 4611686018427387904) :
  Calls Tryz.prog 29 #[.pointer (some ⟨b,0,none⟩),.int .i64 m] w fun e w' => ∃ v : Int,e = .returned (.int .i64 v) ∧ 0 ≤ v ∧ v < m ∧ Dk2 w' b A n c xs ∧ w.grownBy w' (some b):=by
 obtain ⟨⟨h1,h2,h3,h4,k,h5,h6,h7,h8⟩,kk,hS⟩:=hD
 refine (mnext_any b A n c k m xs w h6 h7 h8 h3 (fun hz ad e => Nat.ne_of_lt (h4 hz ad e)) h5 h2 hm1 hm2).mono ?_
 rintro e w' ⟨v,k',q,rfl,g1,g2,g3,rfl⟩
 have hg : w.grownBy ((w.setCell ⟨b,1,none⟩ (.int .i64 k')).drewN q) (some b):=grown_drewN (grown_set (grown_refl w _) _ _) q
 have hS' : Sb (w.setCell ⟨b,1,none⟩ (.int .i64 k')) b #[.slice A n c,.int .i64 k'] 97:=hS.set 1 _ rfl
 refine ⟨v,rfl,g1,g2,⟨⟨by simpa using h1,h2,⟨h3.1,fun i hi => ?_⟩,h4,k',g3,?_,?_,?_⟩,k',hS'⟩,hg⟩
 ·obtain ⟨ad,e,hx⟩:=h3.2 i hi
  refine ⟨ad,e,?_⟩
  have h9:=h4 (by have:=h3.1;omega) ad e
  rw [grown_cell hg (by rw [addr_add_block];omega) (by rw [addr_add_block];omega)]
  exact hx
 ·simp [go_sem,h6]
 ·show (w.setCell ⟨b,1,none⟩ (.int .i64 k')).cell? ⟨b,1,none⟩ = _
  exact World.cell?_setCell_same _ _ _ h7
 ·simp [go_sem,h8]
theorem mrange_dk2 (b : Nat) (A : Option Addr) (n c : Nat) (lo hi : Int) (xs : List Int) (w : World) (hD : Dk2 w b A n c xs) (hm0 : -1000000 ≤ lo) (hm1 : lo ≤ hi) (hm2 : hi ≤ 1000000) :
  Calls Tryz.prog 27 #[.pointer (some ⟨b,0,none⟩),.int .i64 lo,.int .i64 hi] w fun e w' => ∃ v : Int,e = .returned (.int .i64 v) ∧ lo ≤ v ∧ v ≤ hi ∧ Dk2 w' b A n c xs ∧ w.grownBy w' (some b):=by
 go_enter Tryz.func27,Tryz.ntmps27
 go_wp2_with (go_at_call 29;refine (mnext_dk2 b A n c _ xs _ hD (by omega) (by omega)).mono ?_;rintro e w' ⟨v,rfl,hv1,hv2,hD',hg⟩)
 go_ret
 exact ⟨_,rfl,by omega,by omega,hD',hg⟩
theorem grown_more {w w1 w2 : World} {b : Nat} {row : Option Nat} (h : w.grownBy w1 (some b)) (hg : w1.grownBy w2 row) (hr : ∀ k,row = some k → w.heap.size ≤ k) : w.grownBy w2 (some b) :=
 ⟨hg.os.trans h.os,hg.tape.trans h.tape,hg.output.trans h.output,Nat.le_trans h.size hg.size,fun k hk hne => (hg.block k (Nat.lt_of_lt_of_le hk h.size) (fun e => by have:=hr k e.symm;omega)).trans (h.block k hk hne)⟩
theorem grown_bw2 {w w1 w2 : World} {b : Nat} (h : w.grownBy w1 (some b)) (hb : Bw w1 w2) : w.grownBy w2 (some b):=h.trans (grown_bw hb _)
theorem strCells_map (s : ByteArray) : Lib.strCells s = ((s.data.toList.map (fun b => (b.toNat : Int))).map (.int .u8)):=by simp [Lib.strCells]
/-- The mill's bytes so far: at most N, in a row of the call's own. -/
def MB (w : World) (b : Nat) (A : Option Addr) (n c : Nat) (xs : List Int) (N : Nat) (v : Value) (wr : World) : Prop :=
 ∃ bs : List Int,wr.ownsRow w.heap.size 5 1 v bs.length (bs.map (.int .u8)) ∧ (∀ x ∈ bs,0 ≤ x ∧ x ≤ 255) ∧ bs.length ≤ N ∧ Dk2 wr b A n c xs ∧ w.grownBy wr (some b)
theorem MB.more {w : World} {b : Nat} {A : Option Addr} {n c : Nat} {xs : List Int} {N N' : Nat} {v : Value} {wr : World} (h : MB w b A n c xs N v wr) (hN : N ≤ N') : MB w b A n c xs N' v wr:=by
 obtain ⟨bs,h1,h2,h3,h4⟩:=h
 exact ⟨bs,h1,h2,by omega,h4⟩
/-- A draw of the deck leaves the bytes. -/
theorem MB.deck {w : World} {b : Nat} {A : Option Addr} {n c : Nat} {xs : List Int} {N : Nat} {v : Value} {wr w' : World} (h : MB w b A n c xs N v wr) (hb : b < w.heap.size) (hD : Dk2 w' b A n c xs) (hg : wr.grownBy w' (some b)) : MB w b A n c xs N v w':=by
 obtain ⟨bs,h1,h2,h3,h4,h5⟩:=h
 exact ⟨bs,own_deck h1 hg hb,h2,h3,hD,h5.trans hg⟩
theorem MB.up {w : World} {b : Nat} {A : Option Addr} {n c : Nat} {xs : List Int} {N : Nat} {v : Value} {wr w' : World} (h : MB w b A n c xs N v wr) (hb : Bw wr w') : MB w b A n c xs N v w':=by
 obtain ⟨bs,h1,h2,h3,h4,h5⟩:=h
 exact ⟨bs,h1.bw hb,h2,h3,h4.up hb,grown_bw2 h5 hb⟩
/-- More bytes are put at the end. -/
theorem MB.app {w : World} {b : Nat} {A : Option Addr} {n c : Nat} {xs : List Int} {N : Nat} {v v' : Value} {wr w' : World} {bs news : List Int} (hb : b < w.heap.size) (h1 : wr.ownsRow w.heap.size 5 1 v bs.length (bs.map (.int .u8))) (h2 : ∀ x ∈ bs,0 ≤ x ∧ x ≤ 255) (h3 : bs.length ≤ N) (h4 : Dk2 wr b A n c xs) (h5 : w.grownBy wr (some b))
  (hown : w'.ownsRow w.heap.size 5 1 v' (bs.length + news.length) (bs.map (.int .u8) ++ news.map (.int .u8))) (hg : wr.grownBy w' v.ownBlock) (hn : ∀ x ∈ news,0 ≤ x ∧ x ≤ 255) {M : Nat} (hM : N + news.length ≤ M) : MB w b A n c xs M v' w':=by
 refine ⟨bs ++ news,by rw [List.length_append,List.map_append];exact hown,fun x hx => ?_,by rw [List.length_append];omega,h4.row h1 hg hb,grown_more h5 hg (fun k hk => (h1.lt k hk).1)⟩
 rcases List.mem_append.mp hx with h|h
 ·exact h2 x h
 ·exact hn x h
theorem bytes_rng0 (s : ByteArray) : ∀ x ∈ s.data.toList.map (fun b => (b.toNat : Int)),0 ≤ x ∧ x ≤ 255:=fun x hx => by
 simp only [List.mem_map] at hx
 obtain ⟨b,_,rfl⟩:=hx
 have:=b.toNat_lt
 omega
theorem MB.appS {w : World} {b : Nat} {A : Option Addr} {n c : Nat} {xs : List Int} {N : Nat} {v v' : Value} {wr w' : World} {bs : List Int} (s : ByteArray) (hb : b < w.heap.size) (h1 : wr.ownsRow w.heap.size 5 1 v bs.length (bs.map (.int .u8))) (h2 : ∀ x ∈ bs,0 ≤ x ∧ x ≤ 255) (h3 : bs.length ≤ N) (h4 : Dk2 wr b A n c xs) (h5 : w.grownBy wr (some b))
  (hown : w'.ownsRow w.heap.size 5 1 v' (bs.length + s.size) (bs.map (.int .u8) ++ Lib.strCells s)) (hg : wr.grownBy w' v.ownBlock) {M : Nat} (hM : N + s.size ≤ M) : MB w b A n c xs M v' w':=by
 rw [strCells_map] at hown
 have e : (s.data.toList.map (fun b => (b.toNat : Int))).length = s.size:=by simp
 exact MB.app (news:=s.data.toList.map (fun b => (b.toNat : Int))) hb h1 h2 h3 h4 h5 (by rw [e];exact hown) hg (bytes_rng0 s) (by rw [e];exact hM)
theorem byte_rng (b : UInt8) : 0 ≤ (b.toNat : Int) ∧ (b.toNat : Int) ≤ 255:=by have:=b.toNat_lt;omega
theorem MB.appL {w : World} {b : Nat} {A : Option Addr} {n c : Nat} {xs : List Int} {N : Nat} {v v' : Value} {wr w' : World} {bs : List Int} (news : List Int) {m : Nat} (hm : news.length = m) (hb : b < w.heap.size) (h1 : wr.ownsRow w.heap.size 5 1 v bs.length (bs.map (.int .u8))) (h2 : ∀ x ∈ bs,0 ≤ x ∧ x ≤ 255) (h3 : bs.length ≤ N) (h4 : Dk2 wr b A n c xs) (h5 : w.grownBy wr (some b))
  (hown : w'.ownsRow w.heap.size 5 1 v' (bs.length + m) (bs.map (.int .u8) ++ news.map (.int .u8))) (hg : wr.grownBy w' v.ownBlock) (hn : ∀ x ∈ news,0 ≤ x ∧ x ≤ 255) {M : Nat} (hM : N + m ≤ M) : MB w b A n c xs M v' w':=by
 subst hm
 exact MB.app hb h1 h2 h3 h4 h5 hown hg hn hM
theorem mbytes_dk (b : Nat) (A : Option Addr) (n c : Nat) (xs : List Int) (w : World) (hD : Dk2 w b A n c xs) :
  Calls Tryz.prog 28 #[.pointer (some ⟨b,0,none⟩)] w fun e w' => ∃ v,e = .returned v ∧ MB w b A n c xs 200 v w':=by
 obtain ⟨i0,hi,hz0,hz1,hz2⟩:=info_parts infoR
 have hbz : b < w.heap.size:=hD.1.1
 go_enter Tryz.func28,Tryz.ntmps28
 go_wp2_with fail
 refine (mnext_dk2 b A n c 14 xs _ (by exact hD.up BWX) (by omega) (by omega)).mono ?_
 rintro e w1 ⟨k0,rfl,hk1,hk2,hD1,hg1⟩
 have HM0:=Lib.hid (show MB w b A n c xs 0 (.slice none 0 0) w1 from ⟨[],World.ownsRow_nil _ _ _ _,(fun x hx => by cases hx),Nat.le_refl _,hD1,hg1⟩)
 clear hD hD1 hg1
 go_wp2_with fail
 go_loopw [3,4] (fun v3 v4 wr => ∃ k : Nat,v4 = .int .i64 k ∧ k ≤ 13 ∧ MB w b A n c xs (12 * (13 - k)) v3 wr) (fun _ v4 _ => (intOf v4).toNat)
 case atStart => exact ⟨k0.toNat,by rw [Int.toNat_of_nonneg hk1],by omega,HM0.out.more (by omega)⟩
 case round =>
  rename_i wr
  obtain ⟨k,rfl,hk,hM⟩:=hrel
  have HM:=Lib.hid hM
  clear hM
  by_cases hk0 : k = 0
  ·subst hk0
   go_wp2_with fail
   go_ret
   exact ⟨_,rfl,HM.out.more (by omega)⟩
  ·have hkp : (0 : Int) < (k : Int):=by omega
   have hDk:=HM.out.choose_spec.2.2.2.1
   go_wp2_with fail
   refine (mnext_dk2 b A n c 9 xs _ hDk (by omega) (by omega)).mono ?_
   rintro e w2 ⟨j,rfl,hj1,hj2,hD2,hg2⟩
   have HM2:=Lib.hid (HM.out.deck hbz hD2 hg2)
   clear hD2 hg2 hDk
   have hj : j = 0 ∨ j = 1 ∨ j = 2 ∨ j = 3 ∨ j = 4 ∨ 5 ≤ j:=by omega
   rcases hj with rfl|rfl|rfl|rfl|rfl|hj
   ·obtain ⟨bs,c1,c2,c3,c4,c5⟩:=HM2.out
    have hcz:=c5.size
    have C1:=Lib.hid c1
    have C4:=Lib.hid c4
    have C5:=Lib.hid c5
    clear c1 c4 c5
    go_upto_region 12 with ((at_builtin;refine Lib.wpList_append_own_string _ rfl (.tmp 30) _ 33 9 rfl w.heap.size 5 i0 Tryz.underlying33 Tryz.underlying9 hi hz0 hz1 hz2 u3 bs.length (bs.map (.int .u8)) rfl (C1.out.bw BWX) { data:=#[27,91] } rfl (by show bs.length + 2 ≤ _;unfold maxLen;omega) (by show bs.length + 2 ≤ _;omega) (by first|omega|(simp only [szA,szS,szD,szN] at *;omega)) ?_;intro v3 w3 hown hg hnil;have HM3:=Lib.hid (MB.appS { data:=#[27,91] } hbz (C1.out.bw BWX) c2 c3 (C4.out.up BWX) (grown_bw2 C5.out BWX) hown hg (M:=12 * (13 - k) + 2) (by show _ + 2 ≤ _;omega));clear hown hg hnil))
    clear C1 C4 C5 c2 c3 bs hcz
    have hD_:=HM3.out.choose_spec.2.2.2.1
    go_wp2_with fail
    refine (mnext_dk2 b A n c 3 xs _ (by exact hD_.up BWX) (by omega) (by omega)).mono ?_
    rintro e w4 ⟨q0,rfl,q01,q02,hD5,hg5⟩
    have HM4:=Lib.hid ((HM3.out.up (show Bw _ _ from BWX)).deck hbz hD5 hg5)
    clear hD5 hg5 hD_
    go_wp2_with fail
    go_loopw [3,5] (fun v3 v5 wq => ∃ q : Nat,v5 = .int .i64 q ∧ q ≤ 2 ∧ MB w b A n c xs (12 * (13 - k) + 2 + (2 - q)) v3 wq) (fun _ v5 _ => (intOf v5).toNat)
    case atStart => exact ⟨q0.toNat,by rw [Int.toNat_of_nonneg q01],by omega,HM4.out.more (by omega)⟩
    case round =>
     rename_i wq
     obtain ⟨q,rfl,hq,hMq⟩:=hrel
     have HMq:=Lib.hid hMq
     clear hMq
     by_cases hq0 : q = 0
     ·subst hq0
      have hD_:=HMq.out.choose_spec.2.2.2.1
      go_wp2_with fail
      refine (mnext_dk2 b A n c 23 xs _ (by exact hD_.up BWX) (by omega) (by omega)).mono ?_
      rintro e w5 ⟨d,rfl,d1,d2,hD5,hg5⟩
      have HM5:=Lib.hid ((HMq.out.up (show Bw _ _ from BWX)).deck hbz hD5 hg5)
      clear hD5 hg5 hD_
      obtain ⟨bs,c1,c2,c3,c4,c5⟩:=HM5.out
      have hcz:=c5.size
      have C1:=Lib.hid c1
      have C4:=Lib.hid c4
      have C5:=Lib.hid c5
      clear c1 c4 c5
      go_wp2_with ((at_builtin;refine wpList_append_srcG (by rfl) (.tmp 44) (.tmp 48) 33 rfl w.heap.size 5 i0 (.int .u8 0) 1 1 Tryz.underlying33 hi hz0 hz1 hz2 rfl (by decide) u3 bs.length (bs.map (.int .u8)) (by rfl) (C1.out.bw BWX) (some ⟨_,0,none⟩) 1 1 (([((({ data:=#[65,66,67,68,69,70,71,72,74,75,76,77,80,88,83,84,64,100,102,109,114,115,117] } : ByteArray)[d.toNat]'(by show _ < 23;omega)).toNat : Int)] : List Int).map (.int .u8)) (by rfl) rfl (fun e => by cases e) (fun ad e => by cases e;exact World.news_of_block (cs:=#[.int .u8 (((({ data:=#[65,66,67,68,69,70,71,72,74,75,76,77,80,88,83,84,64,100,102,109,114,115,117] } : ByteArray)[d.toNat]'(by show _ < 23;omega)).toNat : Int))]) (heap_at (by simp))) (one_map (fun _ => rfl) _) (by unfold maxLen;omega) (by omega) (by first|omega|(simp only [szA,szS,szD,szN] at *;omega)) ?_;intro vv ww hown hg;have HM6:=Lib.hid (MB.appL [((({ data:=#[65,66,67,68,69,70,71,72,74,75,76,77,80,88,83,84,64,100,102,109,114,115,117] } : ByteArray)[d.toNat]'(by show _ < 23;omega)).toNat : Int)] (m:=1) rfl hbz (C1.out.bw BWX) c2 c3 (C4.out.up BWX) (grown_bw2 C5.out BWX) hown hg (fun x hx => by simp only [List.mem_singleton] at hx;subst hx;exact byte_rng _) (M:=12 * (13 - k) + 5) (by omega));clear hown hg))
      go_roundw
      case rel => exact ⟨k - 1,by congr 1;omega,by omega,HM6.out.more (by omega)⟩
      case measure => simp [intOf];omega
     ·have hqp : (0 : Int) < (q : Int):=by omega
      have hD_:=HMq.out.choose_spec.2.2.2.1
      go_wp2_with fail
      refine (mnext_dk2 b A n c 11 xs _ (by exact hD_.up BWX) (by omega) (by omega)).mono ?_
      rintro e w5 ⟨d,rfl,d1,d2,hD5,hg5⟩
      have HM5:=Lib.hid ((HMq.out.up (show Bw _ _ from BWX)).deck hbz hD5 hg5)
      clear hD5 hg5 hD_
      obtain ⟨bs,c1,c2,c3,c4,c5⟩:=HM5.out
      have hcz:=c5.size
      have C1:=Lib.hid c1
      have C4:=Lib.hid c4
      have C5:=Lib.hid c5
      clear c1 c4 c5
      go_wp2_with ((at_builtin;refine wpList_append_srcG (by rfl) (.tmp 38) (.tmp 42) 33 rfl w.heap.size 5 i0 (.int .u8 0) 1 1 Tryz.underlying33 hi hz0 hz1 hz2 rfl (by decide) u3 bs.length (bs.map (.int .u8)) (by rfl) (C1.out.bw BWX) (some ⟨_,0,none⟩) 1 1 (([((({ data:=#[48,49,50,51,52,53,54,55,56,57,59] } : ByteArray)[d.toNat]'(by show _ < 11;omega)).toNat : Int)] : List Int).map (.int .u8)) (by rfl) rfl (fun e => by cases e) (fun ad e => by cases e;exact World.news_of_block (cs:=#[.int .u8 (((({ data:=#[48,49,50,51,52,53,54,55,56,57,59] } : ByteArray)[d.toNat]'(by show _ < 11;omega)).toNat : Int))]) (heap_at (by simp))) (one_map (fun _ => rfl) _) (by unfold maxLen;omega) (by omega) (by first|omega|(simp only [szA,szS,szD,szN] at *;omega)) ?_;intro vv ww hown hg;have HM6:=Lib.hid (MB.appL [((({ data:=#[48,49,50,51,52,53,54,55,56,57,59] } : ByteArray)[d.toNat]'(by show _ < 11;omega)).toNat : Int)] (m:=1) rfl hbz (C1.out.bw BWX) c2 c3 (C4.out.up BWX) (grown_bw2 C5.out BWX) hown hg (fun x hx => by simp only [List.mem_singleton] at hx;subst hx;exact byte_rng _) (M:=12 * (13 - k) + 3 + (2 - q)) (by omega));clear hown hg))
      go_roundw
      case rel => exact ⟨q - 1,by congr 1;omega,by omega,HM6.out.more (by omega)⟩
      case measure => simp [intOf];omega
   ·have hD_:=HM2.out.choose_spec.2.2.2.1
    go_wp2_with fail
    refine (mnext_dk2 b A n c 6 xs _ (by exact hD_.up BWX) (by omega) (by omega)).mono ?_
    rintro e w4 ⟨d,rfl,d1,d2,hD5,hg5⟩
    have HM3:=Lib.hid ((HM2.out.up (show Bw _ _ from BWX)).deck hbz hD5 hg5)
    clear hD5 hg5 hD_
    obtain ⟨bs,c1,c2,c3,c4,c5⟩:=HM3.out
    have hcz:=c5.size
    have C1:=Lib.hid c1
    have C4:=Lib.hid c4
    have C5:=Lib.hid c5
    clear c1 c4 c5
    go_wp2_with ((at_builtin;refine wpList_append_srcG (by rfl) (.tmp 52) (.tmp 56) 33 rfl w.heap.size 5 i0 (.int .u8 0) 1 1 Tryz.underlying33 hi hz0 hz1 hz2 rfl (by decide) u3 bs.length (bs.map (.int .u8)) (by rfl) (C1.out.bw BWX) (some ⟨_,0,none⟩) 2 2 (([27,((({ data:=#[55,56,68,69,77,99] } : ByteArray)[d.toNat]'(by show _ < 6;omega)).toNat : Int)] : List Int).map (.int .u8)) (by rfl) rfl (fun e => by cases e) (fun ad e => by cases e;exact World.news_of_block (cs:=#[.int .u8 (27),.int .u8 (((({ data:=#[55,56,68,69,77,99] } : ByteArray)[d.toNat]'(by show _ < 6;omega)).toNat : Int))]) (heap_at (by simp))) (one_map (fun _ => rfl) _) (by unfold maxLen;omega) (by omega) (by first|omega|(simp only [szA,szS,szD,szN] at *;omega)) ?_;intro vv ww hown hg;have HM6:=Lib.hid (MB.appL [27,((({ data:=#[55,56,68,69,77,99] } : ByteArray)[d.toNat]'(by show _ < 6;omega)).toNat : Int)] (m:=2) rfl hbz (C1.out.bw BWX) c2 c3 (C4.out.up BWX) (grown_bw2 C5.out BWX) hown hg (fun x hx => by simp only [List.mem_cons,List.not_mem_nil,or_false] at hx;rcases hx with rfl|rfl;omega;exact byte_rng _) (M:=12 * (13 - k) + 2) (by omega));clear hown hg))
    go_roundw
    case rel => exact ⟨k - 1,by congr 1;omega,by omega,HM6.out.more (by omega)⟩
    case measure => simp [intOf];omega
   ·have hD_:=HM2.out.choose_spec.2.2.2.1
    go_wp2_with fail
    refine (mnext_dk2 b A n c 6 xs _ (by exact hD_.up BWX) (by omega) (by omega)).mono ?_
    rintro e w4 ⟨d,rfl,d1,d2,hD5,hg5⟩
    have HM3:=Lib.hid ((HM2.out.up (show Bw _ _ from BWX)).deck hbz hD5 hg5)
    obtain ⟨x,hxP,hxc⟩:=lit_pick (f:=fun x : Int => Value.int .u8 x) w2 5 _ [10,13,8,9,10,7] rfl (fun x => 0 ≤ x ∧ x ≤ 255) (by decide) d d1 (by simpa using d2)
    have hb2 : b < w2.heap.size:=by have:=HM2.out.choose_spec.2.2.2.1;exact this.1.1
    have hxc2 : w4.cell? ⟨w2.heap.size,d.toNat,none⟩ = some (.int .u8 x):=by
     rw [grown_cell hg5 (p:=⟨w2.heap.size,d.toNat,none⟩) (by simp) (by simp;omega)];exact hxc
    clear hxc
    clear hD5 hg5 hD_
    obtain ⟨bs,c1,c2,c3,c4,c5⟩:=HM3.out
    have hcz:=c5.size
    have C1:=Lib.hid c1
    have C4:=Lib.hid c4
    have C5:=Lib.hid c5
    clear c1 c4 c5
    go_wp2_with ((at_builtin;refine wpList_append_srcG (by rfl) (.tmp 60) (.tmp 66) 33 rfl w.heap.size 5 i0 (.int .u8 0) 1 1 Tryz.underlying33 hi hz0 hz1 hz2 rfl (by decide) u3 bs.length (bs.map (.int .u8)) (by rfl) (C1.out.bw BWX) (some ⟨_,0,none⟩) 1 1 (([x] : List Int).map (.int .u8)) (by rfl) rfl (fun e => by cases e) (fun ad e => by cases e;exact World.news_of_block (cs:=#[.int .u8 (x)]) (heap_at (by simp))) (one_map (fun _ => rfl) _) (by unfold maxLen;omega) (by omega) (by first|omega|(simp only [szA,szS,szD,szN] at *;omega)) ?_;intro vv ww hown hg;have HM6:=Lib.hid (MB.appL [x] (m:=1) rfl hbz (C1.out.bw BWX) c2 c3 (C4.out.up BWX) (grown_bw2 C5.out BWX) hown hg (fun y hy => by simp only [List.mem_singleton] at hy;subst hy;exact hxP) (M:=12 * (13 - k) + 1) (by omega));clear hown hg))
    go_roundw
    case rel => exact ⟨k - 1,by congr 1;omega,by omega,HM6.out.more (by omega)⟩
    case measure => simp [intOf];omega
   ·have hD_:=HM2.out.choose_spec.2.2.2.1
    go_wp2_with fail
    refine (mnext_dk2 b A n c 8 xs _ (by exact hD_.up BWX) (by omega) (by omega)).mono ?_
    rintro e w4 ⟨d,rfl,d1,d2,hD5,hg5⟩
    have HM3:=Lib.hid ((HM2.out.up (show Bw _ _ from BWX)).deck hbz hD5 hg5)
    obtain ⟨x,hxP,hxc⟩:=lit_pick (f:=fun x : ByteArray => Value.string x) w2 9 _ [{ data:=#[27,91,63,50,53,108] },{ data:=#[27,91,63,50,53,104] },{ data:=#[27,91,63,55,108] },{ data:=#[27,91,63,55,104] },{ data:=#[27,93,48,59,116,7] },{ data:=#[27,40,66] },{ data:=#[27,91,51,49,59,49,109] },{ data:=#[27,91,51,56,59,53,59,57,109] }] rfl (fun x => x.size ≤ 9) (by decide) d d1 (by simpa using d2)
    have hb2 : b < w2.heap.size:=by have:=HM2.out.choose_spec.2.2.2.1;exact this.1.1
    have hxc2 : w4.cell? ⟨w2.heap.size,d.toNat,none⟩ = some (.string x):=by
     rw [grown_cell hg5 (p:=⟨w2.heap.size,d.toNat,none⟩) (by simp) (by simp;omega)];exact hxc
    clear hxc
    clear hD5 hg5 hD_
    obtain ⟨bs,c1,c2,c3,c4,c5⟩:=HM3.out
    have hcz:=c5.size
    have C1:=Lib.hid c1
    have C4:=Lib.hid c4
    have C5:=Lib.hid c5
    clear c1 c4 c5
    go_wp2_with ((at_builtin;refine Lib.wpList_append_own_string _ rfl (.tmp 70) _ 33 9 rfl w.heap.size 5 i0 Tryz.underlying33 Tryz.underlying9 hi hz0 hz1 hz2 u3 bs.length (bs.map (.int .u8)) rfl (C1.out.bw BWX) x rfl (by unfold maxLen;omega) (by omega) (by first|omega|(simp only [szA,szS,szD,szN] at *;omega)) ?_;intro vv ww hown hg hnil;have HM6:=Lib.hid (MB.appS x hbz (C1.out.bw BWX) c2 c3 (C4.out.up BWX) (grown_bw2 C5.out BWX) hown hg (M:=12 * (13 - k) + 9) (by omega));clear hown hg hnil))
    go_roundw
    case rel => exact ⟨k - 1,by congr 1;omega,by omega,HM6.out.more (by omega)⟩
    case measure => simp [intOf];omega
   ·have hD_:=HM2.out.choose_spec.2.2.2.1
    go_wp2_with fail
    refine (mnext_dk2 b A n c 5 xs _ (by exact hD_.up BWX) (by omega) (by omega)).mono ?_
    rintro e w4 ⟨d,rfl,d1,d2,hD5,hg5⟩
    have HM3:=Lib.hid ((HM2.out.up (show Bw _ _ from BWX)).deck hbz hD5 hg5)
    obtain ⟨x,hxP,hxc⟩:=lit_pick (f:=fun x : ByteArray => Value.string x) w2 9 _ [{ data:=#[195,169] },{ data:=#[230,151,165] },{ data:=#[255] },{ data:=#[226,130] },{ data:=#[240,159,152,128] }] rfl (fun x => x.size ≤ 9) (by decide) d d1 (by simpa using d2)
    have hb2 : b < w2.heap.size:=by have:=HM2.out.choose_spec.2.2.2.1;exact this.1.1
    have hxc2 : w4.cell? ⟨w2.heap.size,d.toNat,none⟩ = some (.string x):=by
     rw [grown_cell hg5 (p:=⟨w2.heap.size,d.toNat,none⟩) (by simp) (by simp;omega)];exact hxc
    clear hxc
    clear hD5 hg5 hD_
    obtain ⟨bs,c1,c2,c3,c4,c5⟩:=HM3.out
    have hcz:=c5.size
    have C1:=Lib.hid c1
    have C4:=Lib.hid c4
    have C5:=Lib.hid c5
    clear c1 c4 c5
    go_wp2_with ((at_builtin;refine Lib.wpList_append_own_string _ rfl (.tmp 79) _ 33 9 rfl w.heap.size 5 i0 Tryz.underlying33 Tryz.underlying9 hi hz0 hz1 hz2 u3 bs.length (bs.map (.int .u8)) rfl (C1.out.bw BWX) x rfl (by unfold maxLen;omega) (by omega) (by first|omega|(simp only [szA,szS,szD,szN] at *;omega)) ?_;intro vv ww hown hg hnil;have HM6:=Lib.hid (MB.appS x hbz (C1.out.bw BWX) c2 c3 (C4.out.up BWX) (grown_bw2 C5.out BWX) hown hg (M:=12 * (13 - k) + 9) (by omega));clear hown hg hnil))
    go_roundw
    case rel => exact ⟨k - 1,by congr 1;omega,by omega,HM6.out.more (by omega)⟩
    case measure => simp [intOf];omega
   ·have j0 : (j == 0) = false:=by simp;omega
    have j1' : (j == 1) = false:=by simp;omega
    have j2' : (j == 2) = false:=by simp;omega
    have j3 : (j == 3) = false:=by simp;omega
    have j4 : (j == 4) = false:=by simp;omega
    have hD_:=HM2.out.choose_spec.2.2.2.1
    go_wp2_with fail
    refine (mrange_dk2 b A n c 1 6 xs _ (by exact hD_.up BWX) (by omega) (by omega) (by omega)).mono ?_
    rintro e w4 ⟨q0,rfl,q01,q02,hD5,hg5⟩
    have HM4:=Lib.hid ((HM2.out.up (show Bw _ _ from BWX)).deck hbz hD5 hg5)
    clear hD5 hg5 hD_
    go_wp2_with fail
    go_loopw [3,6] (fun v3 v6 wq => ∃ q : Nat,v6 = .int .i64 q ∧ q ≤ 6 ∧ MB w b A n c xs (12 * (13 - k) + (6 - q)) v3 wq) (fun _ v6 _ => (intOf v6).toNat)
    case atStart => exact ⟨q0.toNat,by rw [Int.toNat_of_nonneg (by omega)],by omega,HM4.out.more (by omega)⟩
    case round =>
     rename_i wq
     obtain ⟨q,rfl,hq,hMq⟩:=hrel
     have HMq:=Lib.hid hMq
     clear hMq
     by_cases hq0 : q = 0
     ·subst hq0
      go_wp2_with fail
      go_roundw
      case rel => exact ⟨k - 1,by congr 1;omega,by omega,HMq.out.more (by omega)⟩
      case measure => simp [intOf];omega
     ·have hqp : (0 : Int) < (q : Int):=by omega
      have hD_:=HMq.out.choose_spec.2.2.2.1
      go_wp2_with fail
      refine (mnext_dk2 b A n c 26 xs _ (by exact hD_.up BWX) (by omega) (by omega)).mono ?_
      rintro e w5 ⟨d,rfl,d1,d2,hD5,hg5⟩
      have HM5:=Lib.hid ((HMq.out.up (show Bw _ _ from BWX)).deck hbz hD5 hg5)
      clear hD5 hg5 hD_
      obtain ⟨bs,c1,c2,c3,c4,c5⟩:=HM5.out
      have hcz:=c5.size
      have C1:=Lib.hid c1
      have C4:=Lib.hid c4
      have C5:=Lib.hid c5
      clear c1 c4 c5
      go_wp2_with ((at_builtin;refine wpList_append_srcG (by rfl) (.tmp 21) (.tmp 26) 33 rfl w.heap.size 5 i0 (.int .u8 0) 1 1 Tryz.underlying33 hi hz0 hz1 hz2 rfl (by decide) u3 bs.length (bs.map (.int .u8)) (by rfl) (C1.out.bw BWX) (some ⟨_,0,none⟩) 1 1 (([97 + d] : List Int).map (.int .u8)) (by rfl) rfl (fun e => by cases e) (fun ad e => by cases e;exact World.news_of_block (cs:=#[.int .u8 (97 + d)]) (heap_at (by simp))) (one_map (fun _ => rfl) _) (by unfold maxLen;omega) (by omega) (by first|omega|(simp only [szA,szS,szD,szN] at *;omega)) ?_;intro vv ww hown hg;have HM6:=Lib.hid (MB.appL [97 + d] (m:=1) rfl hbz (C1.out.bw BWX) c2 c3 (C4.out.up BWX) (grown_bw2 C5.out BWX) hown hg (fun y hy => by simp only [List.mem_singleton] at hy;subst hy;omega) (M:=12 * (13 - k) + 1 + (6 - q)) (by omega));clear hown hg))
      go_roundw
      case rel => exact ⟨q - 1,by congr 1;omega,by omega,HM6.out.more (by omega)⟩
      case measure => simp [intOf];omega
end Go.Proofs.YteebdjmjeahccaaGreatDoor
