/- Parts of the proof, one after the other. -/
import Derived.Test.YteebdjmjeahccaaGreatDoorC34
import Derived.Deep.RegionHeld3
import Derived.Test.YteebdjmjeahccaaGreatDoorC01
import Derived.Laws.BytesArg
import Derived.Lib.UnsafeStr
set_option linter.unusedSimpArgs false
set_option linter.unusedVariables false
set_option maxRecDepth 100000
set_option maxHeartbeats 16000000
namespace Go.Proofs.YteebdjmjeahccaaGreatDoor
open Go.RowKit
def effA (x : Int × Int × Int) : Int × Int × Int:=if avB x.1 x.2.1 x.2.2 = true then x else (0,0,0)
theorem effA_valid (x : Int × Int × Int) : avB (effA x).1 (effA x).2.1 (effA x).2.2 = true:=by
 unfold effA
 by_cases h : avB x.1 x.2.1 x.2.2 = true
 ·rw [if_pos h];exact h
 ·rw [if_neg h];rfl
def bts (x y : Int × Int × Int) : List Int:=if effA x = effA y then [] else bytesOf (fullN (effA y).1 (effA y).2.1 (effA y).2.2) ++ [109]
theorem own_ne_cell {w : World} {base : Nat} {e : TypeId} {v : Value} {n G : Nat} {x y : Value} {xs : List Value} (h : w.ownsRow base e 1 v n (x :: xs)) (hc : w.cell? ⟨G,0,none⟩ = some y) (hne : y ≠ x) : v.ownBlock ≠ some G:=by
 intro e2
 rcases h.2 with ⟨rfl,h0⟩|⟨g,cap,cur,rfl,_⟩
 ·simp [Value.ownBlock] at e2
 ·simp [Value.ownBlock] at e2
  subst e2
  have:=h.cells (g:=g) rfl 0 x (by simp)
  simp [Addr.add] at this
  rw [hc] at this
  exact hne (Option.some.inj this)
/-- The literal of the flags and their numbers. -/
def FlL (w : World) (G : Nat) : Prop :=
 w.cell? ⟨G,0,none⟩ = some (.int .i64 1) ∧ w.cell? ⟨G,1,none⟩ = some (.int .i64 1) ∧ w.cell? ⟨G,2,none⟩ = some (.int .i64 2) ∧ w.cell? ⟨G,3,none⟩ = some (.int .i64 4) ∧ w.cell? ⟨G,4,none⟩ = some (.int .i64 4) ∧ w.cell? ⟨G,5,none⟩ = some (.int .i64 7)
theorem FlL.bw {w w' : World} {G : Nat} (h : FlL w G) (hb : Bw w w') : FlL w' G:=by
 obtain ⟨h0,h1,h2,h3,h4,h5⟩:=h
 exact ⟨cell_bw hb h0,cell_bw hb h1,cell_bw hb h2,cell_bw hb h3,cell_bw hb h4,cell_bw hb h5⟩
theorem FlL.row {w w' : World} {G n base : Nat} {e : TypeId} {v : Value} {x : Value} {xs : List Value} (h : FlL w G) (ho : w.ownsRow base e 1 v n (x :: xs)) (hne : Value.int .i64 1 ≠ x) (hg : w.grownBy w' v.ownBlock) : FlL w' G:=by
 have hn:=own_ne_cell ho h.1 hne
 have hl:=lt_of_cell h.1
 dsimp only at hl
 have key : ∀ (i : Nat) (u : Value),w.cell? ⟨G,i,none⟩ = some u → w'.cell? ⟨G,i,none⟩ = some u:=fun i u hu => (World.cell?_of_block (a:=⟨G,i,none⟩) (hg.block G hl (fun e => hn e.symm))).trans hu
 obtain ⟨h0,h1,h2,h3,h4,h5⟩:=h
 exact ⟨key _ _ h0,key _ _ h1,key _ _ h2,key _ _ h3,key _ _ h4,key _ _ h5⟩
theorem bytesOf_cons (ds : List Int) : ∃ t,(bytesOf ds).map (Value.int .u8) = .int .u8 27 :: t:=⟨_,rfl⟩
theorem FlL.row2 {w w' : World} {G n base : Nat} {e : TypeId} {v : Value} {ds : List Int} (h : FlL w G) (ho : w.ownsRow base e 1 v n ((bytesOf ds).map (.int .u8))) (hg : w.grownBy w' v.ownBlock) : FlL w' G:=by
 obtain ⟨t,ht⟩:=bytesOf_cons ds
 rw [ht] at ho
 exact h.row ho (by simp) hg
theorem AtC.lit {w : World} {g : Nat} {x1 x2 x3 : Int} (hg : g = w.heap.size) : AtC (w.alloc (.cells #[.int .i64 x1,.int .i64 x2,.int .i64 x3] 42)) g (x1,x2,x3):=by
 subst hg
 exact ⟨⟨CELX,CELX,CELX⟩,by simp [go_sem],by simp [go_sem],by simp [go_sem]⟩
theorem AtC.cells {w : World} {g : Nat} {a : Int × Int × Int} (h : AtC w g a) : w.cell? ⟨g,0,none⟩ = some (.int .i64 a.1) ∧ w.cell? ⟨g,1,none⟩ = some (.int .i64 a.2.1) ∧ w.cell? ⟨g,2,none⟩ = some (.int .i64 a.2.2):=h.1
theorem effA_no {x : Int × Int × Int} (h : avB x.1 x.2.1 x.2.2 = false) : effA x = (0,0,0):=by unfold effA;rw [if_neg (by rw [h];simp)]
theorem effA_yes {x : Int × Int × Int} (h : avB x.1 x.2.1 x.2.2 = true) : effA x = x:=by unfold effA;rw [if_pos h]
theorem bytes_any (x1 x2 x3 y1 y2 y3 : Int) (w : World) (ht : PowT w.heap.size w) : Calls Tryz.prog 91 #[atV x1 x2 x3,atV y1 y2 y3] w (BytesP w (bts (x1,x2,x3) (y1,y2,y3))):=by
 have HT:=Lib.hid ht
 clear ht
 unfold atV
 go_enter Tryz.func91,Tryz.ntmps91
 go_upto_if 11 with (first|(go_at_call 94;refine (avalid_any x1 x2 x3 _).mono ?_;rintro ee ww ⟨rfl,rfl⟩)|fail)
 go_cut [] (fun w' => ∃ o : Obj,∃ p : Int × Int × Int,p = effA (x1,x2,x3) ∧ (((w.alloc (.cells #[.int .i64 p.1,.int .i64 p.2.1,.int .i64 p.2.2] 42)).alloc (.cells #[.int .i64 y1,.int .i64 y2,.int .i64 y3] 42)).alloc o) = w')
 case first =>
  cases hv : avB x1 x2 x3
  ·have HE:=Lib.hid (effA_no (x:=(x1,x2,x3)) hv)
   go_wp2
   go_meet
   case rel => exact ⟨_,(0,0,0),HE.out.symm,rfl⟩
  ·have HE:=Lib.hid (effA_yes (x:=(x1,x2,x3)) hv)
   go_wp2
   go_meet
   case rel => exact ⟨_,(x1,x2,x3),HE.out.symm,rfl⟩
 case rest =>
 obtain ⟨o1,⟨f,g,b⟩,hp,rfl⟩:=hcut
 have HP:=Lib.hid hp
 clear hp
 dsimp only
 go_upto_if 15 with (first|(go_at_call 94;refine (avalid_any y1 y2 y3 _).mono ?_;rintro ee ww ⟨rfl,rfl⟩)|fail)
 go_cut [] (fun w' => ∃ o : Obj,∃ p : Int × Int × Int,p = effA (y1,y2,y3) ∧ ((((w.alloc (.cells #[.int .i64 f,.int .i64 g,.int .i64 b] 42)).alloc (.cells #[.int .i64 p.1,.int .i64 p.2.1,.int .i64 p.2.2] 42)).alloc o1).alloc o) = w')
 case first =>
  cases hv : avB y1 y2 y3
  ·have HE:=Lib.hid (effA_no (x:=(y1,y2,y3)) hv)
   go_wp2
   go_meet
   case rel => exact ⟨_,(0,0,0),HE.out.symm,rfl⟩
  ·have HE:=Lib.hid (effA_yes (x:=(y1,y2,y3)) hv)
   go_wp2
   go_meet
   case rel => exact ⟨_,(y1,y2,y3),HE.out.symm,rfl⟩
 case rest =>
 obtain ⟨o2,⟨f',g',b'⟩,hq,rfl⟩:=hcut
 have hqv : avB f' g' b' = true:=by have:=effA_valid (y1,y2,y3);rw [← hq] at this;exact this
 have hv : 0 ≤ f' ∧ f' ≤ 7 ∧ 0 ≤ g' ∧ g' ≤ 16 ∧ 0 ≤ b' ∧ b' ≤ 16:=of_decide_eq_true hqv
 have HQ:=Lib.hid hq
 clear hq hqv
 dsimp only
 by_cases heq : (f,g,b) = (f',g',b')
 ·have HB:=Lib.hid (show bts (x1,x2,x3) (y1,y2,y3) = [] by unfold bts;rw [if_pos (by rw [← HP.out,← HQ.out];exact heq)])
  simp only [Prod.mk.injEq] at heq
  obtain ⟨rfl,rfl,rfl⟩:=heq
  go_wp2
  go_ret
  exact ⟨_,rfl,by rw [HB.out];exact Sl.nil_ _ _ _ (by omega),BWX⟩
 have HB:=Lib.hid (show bts (x1,x2,x3) (y1,y2,y3) = bytesOf (fullN f' g' b') ++ [109] by unfold bts;rw [← HP.out,← HQ.out,if_neg heq])
 have HNE:=Lib.hid (show f ≠ f' ∨ g ≠ g' ∨ b ≠ b' by simp only [Prod.mk.injEq] at heq;omega)
 clear heq
 go_upto_region 5 with (fail)
 go_cut [19] (fun s w' => s = .bool false ∧ ((((w.alloc (.cells #[.int .i64 f,.int .i64 g,.int .i64 b] 42)).alloc (.cells #[.int .i64 f',.int .i64 g',.int .i64 b'] 42)).alloc o1).alloc o2) = w')
 case first =>
  have h3 : ¬ f = f' ∨ (f = f' ∧ ¬ g = g') ∨ (f = f' ∧ g = g' ∧ ¬ b = b'):=by have:=HNE.out;omega
  clear hv HNE
  rcases h3 with h|⟨rfl,h⟩|⟨rfl,rfl,h⟩
  all_goals
   go_wp2
   go_meet
   case rel => exact ⟨by simp [h],rfl⟩
 case rest =>
 obtain ⟨rfl,rfl⟩:=hcut
 obtain ⟨hv1,hv2,hv3,hv4,hv5,hv6⟩:=hv
 have e0 : ∀ w,(Instr.index 156 (.agg #[.int .i64 1,.int .i64 4,.int .i64 7]) (.int .i64 0)).run Tryz.prog w = .ok (.int .i64 1) w:=fun _ => by kernel_rfl
 have e1 : ∀ w,(Instr.index 156 (.agg #[.int .i64 1,.int .i64 4,.int .i64 7]) (.int .i64 1)).run Tryz.prog w = .ok (.int .i64 4) w:=fun _ => by kernel_rfl
 have e2 : ∀ w,(Instr.index 156 (.agg #[.int .i64 1,.int .i64 4,.int .i64 7]) (.int .i64 2)).run Tryz.prog w = .ok (.int .i64 7) w:=fun _ => by kernel_rfl
 go_wp2_with fail
 go_loopw [23] (fun i wr => ∃ k : Nat,i = .int .i64 k ∧ k ≤ 3 ∧ OutS w.heap.size (w.heap.size + 1 + 1 + 1 + 1 + 1) ((bytesOf (flagN f' k)).map (.int .u8)) wr ∧ AtBlk wr (w.heap.size + 1) f' g' b' ∧ Bw w wr) (fun i _ => 3 - (intOf i).toNat)
 case atStart =>
  refine ⟨0,rfl,by omega,⟨.slice (some ⟨w.heap.size + 1 + 1 + 1 + 1,0,none⟩) 3 3,?_,heap_here SZX⟩,?_,BWX⟩
  ·exact (own_lit (cs:=#[.int .u8 27,.int .u8 91,.int .u8 48]) SZX (by omega) (by unfold maxLen;decide) rfl rfl).alloc _
  ·exact heap_past (heap_past (heap_past (heap_past (heap_here SZX))))
 case round =>
  obtain ⟨k,rfl,hk,hO,hAt,hbw⟩:=hrel
  have hT : PowT w.heap.size wr:=HT.out.on hbw
  have hz : w.heap.size + 5 < wr.heap.size:=by obtain ⟨v,_,hb⟩:=hO;have:=lt_of_block hb;omega
  obtain ⟨y0,y1,y2⟩:=hAt.cells
  have hfl:=flagN_len f' k
  have hlen:=bytesOf_len (flagN f' k) (fun d hd => by have:=hfl.2 d hd;omega)
  have hlen' : (bytesOf (flagN f' k)).length ≤ 100:=by omega
  have HO:=Lib.hid hO
  have HAt:=Lib.hid hAt
  have HTr:=Lib.hid hT
  clear hO hAt hT hlen
  by_cases hlt : k < 3
  ·rcases (show k = 0 ∨ k = 1 ∨ k = 2 by omega) with rfl|rfl|rfl
   ·cases hbit : (bits .and .i64 f' 1 != 0)
    ·have HE:=Lib.hid (show flagN f' 1 = flagN f' 0 by show flagN f' 0 ++ (if (bits .and .i64 f' 1 != 0) = true then [1] else []) = _;rw [if_neg (by rw [hbit];simp),List.append_nil])
     go_upto_region 12 with (fail)
     go_quiet (fail)
     go_wp2
     go_roundw
     case rel => exact ⟨1,rfl,by omega,by rw [HE.out];exact HO.out.drewN _,HAt.out,BWX⟩
     case measure => simp [intOf]
    ·have HE:=Lib.hid (show flagN f' 1 = flagN f' 0 ++ [1] by show flagN f' 0 ++ (if (bits .and .i64 f' 1 != 0) = true then [1] else []) = _;rw [if_pos hbit])
     go_upto_region 12 with (fail)
     go_quiet (fail)
     go_wp2_with (first|(go_at_call 115;refine (write_any w.heap.size (w.heap.size + 1 + 1 + 1 + 1 + 1) 1 ((bytesOf (flagN f' 0)).map (.int .u8)) _ (by omega) (by rw [List.length_map];omega) (by exact HO.out.drewN _) SZX (by omega) (by exact HT.out.on (show Bw w _ from BWX))).mono ?_;rintro ee wx ⟨rfl,hOx,hbelx,hkpx⟩;rw [← bytesOf_snoc] at hOx;have hzx : w.heap.size + 5 < wx.heap.size:=(by obtain ⟨v,_,hb⟩:=hOx;have:=lt_of_block hb;omega);skip)|fail)
     go_roundw
     case rel => exact ⟨1,rfl,by omega,by rw [HE.out];exact hOx,AtBlk.kept (w:=wr.drewN _) HAt.out (by omega) hkpx,Below.trans (show Bw w (wr.drewN _) from BWX) hbelx⟩
     case measure => simp [intOf]
   ·cases hbit : (bits .and .i64 f' 2 != 0)
    ·have HE:=Lib.hid (show flagN f' 2 = flagN f' 1 by show flagN f' 1 ++ (if (bits .and .i64 f' 2 != 0) = true then [4] else []) = _;rw [if_neg (by rw [hbit];simp),List.append_nil])
     go_upto_region 12 with (fail)
     go_quiet (fail)
     go_wp2
     go_roundw
     case rel => exact ⟨2,rfl,by omega,by rw [HE.out];exact HO.out.drewN _,HAt.out,BWX⟩
     case measure => simp [intOf]
    ·have HE:=Lib.hid (show flagN f' 2 = flagN f' 1 ++ [4] by show flagN f' 1 ++ (if (bits .and .i64 f' 2 != 0) = true then [4] else []) = _;rw [if_pos hbit])
     go_upto_region 12 with (fail)
     go_quiet (fail)
     go_wp2_with (first|(go_at_call 115;refine (write_any w.heap.size (w.heap.size + 1 + 1 + 1 + 1 + 1) 4 ((bytesOf (flagN f' 1)).map (.int .u8)) _ (by omega) (by rw [List.length_map];omega) (by exact HO.out.drewN _) SZX (by omega) (by exact HT.out.on (show Bw w _ from BWX))).mono ?_;rintro ee wx ⟨rfl,hOx,hbelx,hkpx⟩;rw [← bytesOf_snoc] at hOx;have hzx : w.heap.size + 5 < wx.heap.size:=(by obtain ⟨v,_,hb⟩:=hOx;have:=lt_of_block hb;omega);skip)|fail)
     go_roundw
     case rel => exact ⟨2,rfl,by omega,by rw [HE.out];exact hOx,AtBlk.kept (w:=wr.drewN _) HAt.out (by omega) hkpx,Below.trans (show Bw w (wr.drewN _) from BWX) hbelx⟩
     case measure => simp [intOf]
   ·cases hbit : (bits .and .i64 f' 4 != 0)
    ·have HE:=Lib.hid (show flagN f' 3 = flagN f' 2 by show flagN f' 2 ++ (if (bits .and .i64 f' 4 != 0) = true then [7] else []) = _;rw [if_neg (by rw [hbit];simp),List.append_nil])
     go_upto_region 12 with (fail)
     go_quiet (fail)
     go_wp2
     go_roundw
     case rel => exact ⟨3,rfl,by omega,by rw [HE.out];exact HO.out.drewN _,HAt.out,BWX⟩
     case measure => simp [intOf]
    ·have HE:=Lib.hid (show flagN f' 3 = flagN f' 2 ++ [7] by show flagN f' 2 ++ (if (bits .and .i64 f' 4 != 0) = true then [7] else []) = _;rw [if_pos hbit])
     go_upto_region 12 with (fail)
     go_quiet (fail)
     go_wp2_with (first|(go_at_call 115;refine (write_any w.heap.size (w.heap.size + 1 + 1 + 1 + 1 + 1) 7 ((bytesOf (flagN f' 2)).map (.int .u8)) _ (by omega) (by rw [List.length_map];omega) (by exact HO.out.drewN _) SZX (by omega) (by exact HT.out.on (show Bw w _ from BWX))).mono ?_;rintro ee wx ⟨rfl,hOx,hbelx,hkpx⟩;rw [← bytesOf_snoc] at hOx;have hzx : w.heap.size + 5 < wx.heap.size:=(by obtain ⟨v,_,hb⟩:=hOx;have:=lt_of_block hb;omega);skip)|fail)
     go_roundw
     case rel => exact ⟨3,rfl,by omega,by rw [HE.out];exact hOx,AtBlk.kept (w:=wr.drewN _) HAt.out (by omega) hkpx,Below.trans (show Bw w (wr.drewN _) from BWX) hbelx⟩
     case measure => simp [intOf]
  ·obtain rfl : k = 3:=by omega
   have htail : ∀ ds,fullN f' g' b' = ds → (bytesOf ds).length ≤ 200:=by
    intro ds e
    have h3:=hfl.1
    have hd : ∀ d ∈ ds,0 ≤ d ∧ d ≤ 1000:=by
     intro d hd
     rw [← e] at hd
     unfold fullN at hd
     rcases List.mem_append.1 hd with hd|hd
     ·rcases List.mem_append.1 hd with hd|hd
      ·have:=hfl.2 d hd;omega
      ·split at hd
       ·simp at hd
       ·simp at hd;subst hd;unfold numC;split <;> omega
     ·split at hd
      ·simp at hd
      ·simp at hd;subst hd;unfold numC;split <;> omega
    have:=bytesOf_len ds hd
    have hl : ds.length ≤ 5:=by
     rw [← e]
     unfold fullN
     rw [List.length_append,List.length_append]
     split <;> split <;> simp <;> omega
    omega
   have HTL:=Lib.hid htail
   have n1 : 0 ≤ numC g' 30 90 ∧ numC g' 30 90 ≤ 1000:=by unfold numC;split <;> omega
   have n2 : 0 ≤ numC b' 40 100 ∧ numC b' 40 100 ≤ 1000:=by unfold numC;split <;> omega
   have N1:=Lib.hid n1
   have N2:=Lib.hid n2
   obtain ⟨i0,hi,hz0,hz1,hz2'⟩:=info_parts infoB
   clear htail hfl n1 n2
   obtain ⟨DS1,hds⟩ : ∃ DS1,DS1 = flagN f' 3 ++ (if g' = 0 then [] else [numC g' 30 90]):=⟨_,rfl⟩
   have HDS:=Lib.hid hds
   have hds1 : (bytesOf DS1).length ≤ 150:=by
    rw [hds]
    split
    ·rw [List.append_nil];omega
    ·have h5:=hlen';have h6:=bytesOf_one (flagN f' 3) (numC g' 30 90) N1.out.1 N1.out.2;omega
   clear hds
   go_upto_if 39 with (fail)
   go_cut [39] (fun s w' => OutS w.heap.size (w.heap.size + 1 + 1 + 1 + 1 + 1) ((bytesOf DS1).map (.int .u8)) w' ∧ AtBlk w' (w.heap.size + 1) f' g' b' ∧ Bw w w')
   case first =>
    by_cases hg0 : g' = 0
    ·subst hg0
     go_wp2
     go_meet
     case rel => exact ⟨by have h:=HDS.out;(first|rw [if_pos rfl] at h|rw [if_pos trivial] at h);rw [List.append_nil] at h;rw [h];exact HO.out,HAt.out,hbw⟩
    ·have hgb : (g' != 0) = true:=by simpa using hg0
     have hgb2 : (g' == 0) = false:=by simpa using hg0
     have HG:=Lib.hid hg0
     clear hg0
     go_wp2_with (first|(go_at_call 117;refine (number_any g' 30 90 _ (by omega) (by omega) (by omega) (by omega) (by omega) (by omega)).mono ?_;rintro ee ww ⟨rfl,rfl⟩)|(go_at_call 115;refine (write_any w.heap.size (w.heap.size + 1 + 1 + 1 + 1 + 1) (numC g' 30 90) ((bytesOf (flagN f' 3)).map (.int .u8)) _ N1.out (by rw [List.length_map];omega) (by exact HO.out) SZX (by omega) (by exact HTr.out)).mono ?_;rintro ee w1 ⟨rfl,hO1,hbel1,hkp1⟩;rw [← bytesOf_snoc] at hO1;have hz1 : w.heap.size + 5 < w1.heap.size:=(by obtain ⟨v,_,hb⟩:=hO1;have:=lt_of_block hb;omega);skip)|fail)
     go_meet
     case rel => exact ⟨by rw [HDS.out,if_neg HG.out];exact hO1,AtBlk.kept (w:=wr) HAt.out (by omega) hkp1,Below.trans hbw hbel1⟩
   case rest =>
   obtain ⟨hO1,hAt1,hbw1⟩:=hcut
   clear y0 y1 y2 HO HAt HTr hz hbw
   obtain ⟨y0,y1,y2⟩:=hAt1.cells
   have hz : w.heap.size + 5 < wc.heap.size:=by obtain ⟨v,_,hb⟩:=hO1;have:=lt_of_block hb;omega
   have HT1 : Hid (PowT w.heap.size wc):=Lib.hid (HT.out.on hbw1)
   have HO1:=Lib.hid hO1
   have HAt1:=Lib.hid hAt1
   obtain ⟨DS2,hds2⟩ : ∃ DS2,DS2 = fullN f' g' b':=⟨_,rfl⟩
   have HDS2:=Lib.hid (show DS2 = DS1 ++ (if b' = 0 then [] else [numC b' 40 100]) by rw [hds2,HDS.out];rfl)
   have HDF:=Lib.hid hds2
   have hds3:=HTL.out DS2 hds2.symm
   clear hO1 hAt1 hds2
   go_upto_if 47 with (fail)
   go_cut [47] (fun s w' => OutS w.heap.size (w.heap.size + 1 + 1 + 1 + 1 + 1) ((bytesOf DS2).map (.int .u8)) w' ∧ Bw w w')
   case first =>
    by_cases hb0 : b' = 0
    ·subst hb0
     go_wp2
     go_meet
     case rel => exact ⟨by have h:=HDS2.out;(first|rw [if_pos rfl] at h|rw [if_pos trivial] at h);rw [List.append_nil] at h;rw [h];exact HO1.out,hbw1⟩
    ·have hbb : (b' != 0) = true:=by simpa using hb0
     have hbb2 : (b' == 0) = false:=by simpa using hb0
     have HBn:=Lib.hid hb0
     clear hb0
     go_wp2_with (first|(go_at_call 117;refine (number_any b' 40 100 _ (by omega) (by omega) (by omega) (by omega) (by omega) (by omega)).mono ?_;rintro ee ww ⟨rfl,rfl⟩)|(go_at_call 115;refine (write_any w.heap.size (w.heap.size + 1 + 1 + 1 + 1 + 1) (numC b' 40 100) ((bytesOf DS1).map (.int .u8)) _ N2.out (by rw [List.length_map];omega) (by exact HO1.out) SZX (by omega) (by exact HT1.out)).mono ?_;rintro ee w2 ⟨rfl,hO2,hbel2,hkp2⟩;rw [← bytesOf_snoc] at hO2;have hz2 : w.heap.size + 5 < w2.heap.size:=(by obtain ⟨v,_,hb⟩:=hO2;have:=lt_of_block hb;omega);skip)|fail)
     go_meet
     case rel => exact ⟨by rw [HDS2.out,if_neg HBn.out];exact hO2,Below.trans hbw1 hbel2⟩
   case rest =>
   obtain ⟨hO2,hbw2⟩:=hcut
   obtain ⟨v,hown,hb⟩:=hO2
   obtain ⟨A9,c9,rfl,hc9,hc9m⟩:=own_form hown
   rw [List.length_map] at hown hb hc9
   have hcell:=cell_of_one hb
   have hz2 : w.heap.size + 5 < wc.heap.size:=by have:=lt_of_block hb;omega
   obtain ⟨N,hNN⟩ : ∃ N,(bytesOf DS2).length = N:=⟨_,rfl⟩
   rw [hNN] at hown hc9 hcell hds3
   have HO9:=Lib.hid hown
   clear hown hb hNN y0 y1 y2 HO1 HAt1 HT1
   go_wp2_with (first|(at_builtin;refine wpList_append_srcG (by rfl) (.tmp 53) (.tmp 54) 33 rfl w.heap.size 5 i0 (.int .u8 0) 1 1 Tryz.underlying33 hi hz0 hz1 hz2' rfl (by decide) (.slice A9 N c9) N _ (by rfl) (HO9.out.alloc _) (some ⟨_,0,none⟩) 1 1 [.int .u8 109] (by rfl) rfl (fun e => by cases e) (fun ad e => by cases e;exact cell_one_new _ _ _) (by simp;rfl) (by unfold maxLen;omega) (by omega) SZX ?_;intro v3 w3 hown3 hg3;have hbw3 : Bw w w3:=Bw.row (Bw.alloc hbw2 _) (HO9.out.alloc _) hg3 (Nat.le_refl _))|fail)
   go_ret
   refine ⟨_,rfl,?_,hbw3⟩
   rw [HB.out,← HDF.out]
   exact Sl.of_own (by rw [List.map_append];exact hown3)
/-- A list of bytes as a string. -/
def bs (l : List UInt8) : ByteArray:=⟨l.toArray⟩
/-- The words, by phase. -/
def wordL : List ByteArray:=[⟨#[63]⟩,⟨#[105,100,108,101]⟩,⟨#[115,116,97,114,116,105,110,103]⟩,⟨#[114,117,110,110,105,110,103]⟩,⟨#[114,101,97,100,121]⟩,⟨#[98,97,99,107,111,102,102]⟩,⟨#[115,116,111,112,112,105,110,103]⟩,⟨#[101,120,105,116,101,100]⟩,⟨#[102,97,105,108,101,100]⟩,⟨#[104,97,108,116,101,100]⟩]
/-- The program's table of words. -/
def WordT (w : World) : Prop:=∀ i,i < 10 → w.cell? ⟨0,i,none⟩ = some (.string (wordL.getD i ⟨#[63]⟩))
theorem WordT.up {w w' : World} (h : WordT w) (hb : Bw w w') : WordT w':=fun i hi => cell_bw hb (h i hi)
end Go.Proofs.YteebdjmjeahccaaGreatDoor
