/- Parts of the proof, one after the other. -/
import Derived.Test.YteebdjmjeahccaaGreatDoorW30
import Derived.Deep.RegionHeld3
import Derived.Test.YteebdjmjeahccaaGreatDoorW01
import Derived.Laws.BytesArg
import Derived.Lib.UnsafeStr
set_option linter.unusedSimpArgs false
set_option linter.unusedVariables false
set_option maxRecDepth 100000
set_option maxHeartbeats 16000000
namespace Go.Proofs.YteebdjmjeahccaaGreatDoor
open Go.RowKit
def effA (x : Int × Int × Int) : Int × Int × Int:=if avB x.1 x.2.1 x.2.2 = true then x else (0,0,0)
theorem effA_valid (x : Int × Int × Int) : avB (effA x).1 (effA x).2.1 (effA x).2.2 = true:=by
 unfold effA
 by_cases h : avB x.1 x.2.1 x.2.2 = true
 ·rw [if_pos h];exact h
 ·rw [if_neg h];rfl
def bts (x y : Int × Int × Int) : List Int:=if effA x = effA y then [] else bytesOf (fullN (effA y).1 (effA y).2.1 (effA y).2.2) ++ [109]
theorem own_ne_cell {w : World} {base : Nat} {e : TypeId} {v : Value} {n G : Nat} {x y : Value} {xs : List Value} (h : w.ownsRow base e 1 v n (x :: xs)) (hc : w.cell? ⟨G,0,none⟩ = some y) (hne : y ≠ x) : v.ownBlock ≠ some G:=by
 intro e2
 rcases h.2 with ⟨rfl,h0⟩|⟨g,cap,cur,rfl,_⟩
 ·simp [Value.ownBlock] at e2
 ·simp [Value.ownBlock] at e2
  subst e2
  have:=h.cells (g:=g) rfl 0 x (by simp)
  simp [Addr.add] at this
  rw [hc] at this
  exact hne (Option.some.inj this)
/-- The literal of the flags and their numbers. -/
def FlL (w : World) (G : Nat) : Prop :=
 w.cell? ⟨G,0,none⟩ = some (.int .i64 1) ∧ w.cell? ⟨G,1,none⟩ = some (.int .i64 1) ∧ w.cell? ⟨G,2,none⟩ = some (.int .i64 2) ∧ w.cell? ⟨G,3,none⟩ = some (.int .i64 4) ∧ w.cell? ⟨G,4,none⟩ = some (.int .i64 4) ∧ w.cell? ⟨G,5,none⟩ = some (.int .i64 7)
theorem FlL.bw {w w' : World} {G : Nat} (h : FlL w G) (hb : Bw w w') : FlL w' G:=by
 obtain ⟨h0,h1,h2,h3,h4,h5⟩:=h
 exact ⟨cell_bw hb h0,cell_bw hb h1,cell_bw hb h2,cell_bw hb h3,cell_bw hb h4,cell_bw hb h5⟩
theorem FlL.row {w w' : World} {G n base : Nat} {e : TypeId} {v : Value} {x : Value} {xs : List Value} (h : FlL w G) (ho : w.ownsRow base e 1 v n (x :: xs)) (hne : Value.int .i64 1 ≠ x) (hg : w.grownBy w' v.ownBlock) : FlL w' G:=by
 have hn:=own_ne_cell ho h.1 hne
 have hl:=lt_of_cell h.1
 dsimp only at hl
 have key : ∀ (i : Nat) (u : Value),w.cell? ⟨G,i,none⟩ = some u → w'.cell? ⟨G,i,none⟩ = some u:=fun i u hu => (World.cell?_of_block (a:=⟨G,i,none⟩) (hg.block G hl (fun e => hn e.symm))).trans hu
 obtain ⟨h0,h1,h2,h3,h4,h5⟩:=h
 exact ⟨key _ _ h0,key _ _ h1,key _ _ h2,key _ _ h3,key _ _ h4,key _ _ h5⟩
theorem bytesOf_cons (ds : List Int) : ∃ t,(bytesOf ds).map (Value.int .u8) = .int .u8 27 :: t:=⟨_,rfl⟩
theorem FlL.row2 {w w' : World} {G n base : Nat} {e : TypeId} {v : Value} {ds : List Int} (h : FlL w G) (ho : w.ownsRow base e 1 v n ((bytesOf ds).map (.int .u8))) (hg : w.grownBy w' v.ownBlock) : FlL w' G:=by
 obtain ⟨t,ht⟩:=bytesOf_cons ds
 rw [ht] at ho
 exact h.row ho (by simp) hg
theorem bytesOf_app (ds : List Int) (d : Int) : bytesOf (ds ++ [d]) = bytesOf ds ++ wr1 d:=by
 unfold bytesOf
 simp [List.flatMap_append]
theorem bytesOf_1 (ds : List Int) : bytesOf (ds ++ [1]) = bytesOf ds ++ [59,49]:=by rw [bytesOf_app,dig1 1 (by omega) (by omega)];rfl
theorem bytesOf_4 (ds : List Int) : bytesOf (ds ++ [4]) = bytesOf ds ++ [59,52]:=by rw [bytesOf_app,dig1 4 (by omega) (by omega)];rfl
theorem bytesOf_7 (ds : List Int) : bytesOf (ds ++ [7]) = bytesOf ds ++ [59,55]:=by rw [bytesOf_app,dig1 7 (by omega) (by omega)];rfl
theorem own_eq {w : World} {base : Nat} {e : TypeId} {s : Nat} {v : Value} {n m : Nat} {xs ys : List Value} (h : w.ownsRow base e s v n xs) (h1 : n = m) (h2 : xs = ys) : w.ownsRow base e s v m ys:=by subst h1;subst h2;exact h
theorem AtC.lit {w : World} {g : Nat} {x1 x2 x3 : Int} (hg : g = w.heap.size) : AtC (w.alloc (.cells #[.int .i64 x1,.int .i64 x2,.int .i64 x3] 42)) g (x1,x2,x3):=by
 subst hg
 exact ⟨⟨CELX,CELX,CELX⟩,by simp [go_sem],by simp [go_sem],by simp [go_sem]⟩
theorem AtC.cells {w : World} {g : Nat} {a : Int × Int × Int} (h : AtC w g a) : w.cell? ⟨g,0,none⟩ = some (.int .i64 a.1) ∧ w.cell? ⟨g,1,none⟩ = some (.int .i64 a.2.1) ∧ w.cell? ⟨g,2,none⟩ = some (.int .i64 a.2.2):=h.1
theorem effA_no {x : Int × Int × Int} (h : avB x.1 x.2.1 x.2.2 = false) : effA x = (0,0,0):=by unfold effA;rw [if_neg (by rw [h];simp)]
theorem effA_yes {x : Int × Int × Int} (h : avB x.1 x.2.1 x.2.2 = true) : effA x = x:=by unfold effA;rw [if_pos h]
theorem rbytes_any (x1 x2 x3 y1 y2 y3 : Int) (w : World) : Calls Tryz.prog 39 #[atV x1 x2 x3,atV y1 y2 y3] w (BytesP w (bts (x1,x2,x3) (y1,y2,y3))):=by
 unfold atV
 go_enter Tryz.func39,Tryz.ntmps39
 go_upto_if 10 with (first|(go_at_call 61;refine (rvalid_any x1 x2 x3 _).mono ?_;rintro ee wv ⟨rfl,hbv⟩)|fail)
 have hC1 : AtC wv w.heap.size (x1,x2,x3):=((AtC.lit rfl).bw (show Bw _ _ from Bw.alloc (Bw.refl _) _)).bw hbv
 have hC2 : AtC wv (w.heap.size + 1) (y1,y2,y3):=(AtC.lit SZX).bw hbv
 have hbw : Bw w wv:=Bw.trans (show Bw w _ from BWX) hbv
 have HC1:=Lib.hid hC1
 have HC2:=Lib.hid hC2
 clear hbv hC1 hC2
 go_cut [] (fun w' => AtC w' w.heap.size (effA (x1,x2,x3)) ∧ AtC w' (w.heap.size + 1) (y1,y2,y3) ∧ Bw w w')
 case first =>
  cases hv : avB x1 x2 x3
  ·obtain ⟨⟨t1,t2,t3⟩,f1,f2,f3⟩:=HC1.out
   dsimp only at t1 t2 t3
   have HE:=Lib.hid (effA_no (x:=(x1,x2,x3)) hv)
   go_wp2
   go_meet
   case rel => exact ⟨by rw [HE.out];exact (((HC1.out).set0 0).set1 0).set2 0,((HC2.out.away (by omega) _).away (by omega) _).away (by omega) _,BWX⟩
  ·have HE:=Lib.hid (effA_yes (x:=(x1,x2,x3)) hv)
   go_wp2
   go_meet
   case rel => exact ⟨by rw [HE.out];exact HC1.out,HC2.out,hbw⟩
 case rest =>
 obtain ⟨hC1,hC2,hbw⟩:=hcut
 obtain ⟨wo,hwo⟩ : ∃ wo : World,wo = wc:=⟨_,rfl⟩
 subst hwo
 clear HC1 HC2
 obtain ⟨⟨p1,p2,p3⟩,hp⟩ : ∃ p,p = effA (x1,x2,x3):=⟨_,rfl⟩
 rw [← hp] at hC1
 have HP:=Lib.hid hp
 have HC1:=Lib.hid hC1
 have HC2:=Lib.hid hC2
 have hz : w.heap.size + 1 < wo.heap.size:=by have:=lt_of_cell hC2.1.1;simpa using this
 obtain ⟨⟨s1,s2,s3⟩,f1,f2,f3⟩:=hC2
 dsimp only at s1 s2 s3
 clear hp hC1
 go_upto_if 14 with (first|(go_at_call 61;refine (rvalid_any y1 y2 y3 _).mono ?_;rintro ee wv2 ⟨rfl,hbv⟩)|fail)
 have hC1:=HC1.out.bw hbv
 have hC2:=HC2.out.bw hbv
 have hbw2 : Bw w wv2:=Bw.trans hbw hbv
 have hz2 : w.heap.size + 1 < wv2.heap.size:=Nat.lt_of_lt_of_le hz hbv.size
 clear s1 s2 s3 f1 f2 f3 HC1 HC2 hbv hz
 have HC1:=Lib.hid hC1
 have HC2:=Lib.hid hC2
 clear hC1 hC2
 go_cut [] (fun w' => AtC w' w.heap.size (p1,p2,p3) ∧ AtC w' (w.heap.size + 1) (effA (y1,y2,y3)) ∧ Bw w w')
 case first =>
  cases hv : avB y1 y2 y3
  ·obtain ⟨⟨t1,t2,t3⟩,f1,f2,f3⟩:=HC2.out
   dsimp only at t1 t2 t3
   have HE:=Lib.hid (effA_no (x:=(y1,y2,y3)) hv)
   go_wp2
   go_meet
   case rel => exact ⟨((HC1.out.away (by omega) _).away (by omega) _).away (by omega) _,by rw [HE.out];exact (((HC2.out).set0 0).set1 0).set2 0,BWX⟩
  ·have HE:=Lib.hid (effA_yes (x:=(y1,y2,y3)) hv)
   go_wp2
   go_meet
   case rel => exact ⟨HC1.out,by rw [HE.out];exact HC2.out,hbw2⟩
 case rest =>
 obtain ⟨hC1,hC2,hbw3⟩:=hcut
 obtain ⟨wp,hwp⟩ : ∃ wp : World,wp = wc:=⟨_,rfl⟩
 subst hwp
 obtain ⟨⟨q1,q2,q3⟩,hq⟩ : ∃ p,p = effA (y1,y2,y3):=⟨_,rfl⟩
 rw [← hq] at hC2
 have hqv : avB q1 q2 q3 = true:=by have:=effA_valid (y1,y2,y3);rw [← hq] at this;exact this
 have hqb : 0 ≤ q1 ∧ q1 ≤ 7 ∧ 0 ≤ q2 ∧ q2 ≤ 16 ∧ 0 ≤ q3 ∧ q3 ≤ 16:=of_decide_eq_true hqv
 have HQ:=Lib.hid hq
 have hz3 : w.heap.size + 1 < wp.heap.size:=by have:=lt_of_cell hC2.1.1;simpa using this
 have HC2':=Lib.hid hC2
 obtain ⟨⟨t1,t2,t3⟩,f1,f2,f3⟩:=hC1
 obtain ⟨⟨s1,s2,s3⟩,g1,g2,g3⟩:=hC2
 dsimp only at t1 t2 t3 s1 s2 s3
 clear hq HC1 HC2 hqv f1 f2 f3 g1 g2 g3
 by_cases heq : (p1,p2,p3) = (q1,q2,q3)
 ·have HB:=Lib.hid (show bts (x1,x2,x3) (y1,y2,y3) = [] by unfold bts;rw [if_pos (by rw [← HP.out,← HQ.out];exact heq)])
  simp only [Prod.mk.injEq] at heq
  obtain ⟨rfl,rfl,rfl⟩:=heq
  go_wp2
  go_ret
  exact ⟨_,rfl,by rw [HB.out];exact Sl.nil_ _ _ _ (by omega),BWX⟩
 ·have HB:=Lib.hid (show bts (x1,x2,x3) (y1,y2,y3) = bytesOf (fullN q1 q2 q3) ++ [109] by unfold bts;rw [← HP.out,← HQ.out,if_neg heq])
  have hne : ¬ p1 = q1 ∨ (p1 = q1 ∧ ¬ p2 = q2) ∨ (p1 = q1 ∧ p2 = q2 ∧ ¬ p3 = q3):=by
   simp only [Prod.mk.injEq] at heq
   omega
  have HNE:=Lib.hid hne
  clear heq hne
  go_upto_region 5 with (fail)
  go_cut [18] (fun s w' => s = .bool false ∧ wp = w')
  case first =>
   have h3:=HNE.out
   clear HNE
   rcases h3 with h|⟨rfl,h⟩|⟨rfl,rfl,h⟩
   all_goals
    go_wp2
    go_meet
    case rel => exact ⟨by simp [h],rfl⟩
  case rest =>
  obtain ⟨rfl,rfl⟩:=hcut
  obtain ⟨i0,hi,hi0,hi1,hi2⟩:=info_parts infoB
  clear t1 t2 t3 s1 s2 s3
  obtain ⟨hq1,hq2,hq3,hq4,hq5,hq6⟩:=hqb
  go_wp2_with fail
  go_loopw [5,7] (fun s5 i wr => ∃ k : Nat,((k = 0 ∧ i = .int .i64 0) ∨ (k = 1 ∧ i = .int .i64 2) ∨ (k = 2 ∧ i = .int .i64 4) ∨ (k = 3 ∧ i = .int .i64 6)) ∧ wr.ownsRow wp.heap.size 5 1 s5 (bytesOf (flagN q1 k)).length ((bytesOf (flagN q1 k)).map (.int .u8)) ∧ FlL wr (wp.heap.size + 1) ∧ Bw wp wr) (fun _ i _ => 6 - (intOf i).toNat)
  case atStart =>
   refine ⟨0,.inl ⟨rfl,rfl⟩,?_,⟨CELX,CELX,CELX,CELX,CELX,CELX⟩,BWX⟩
   exact (own_lit (cs:=#[.int .u8 27,.int .u8 91,.int .u8 48]) rfl (Nat.le_refl _) (by unfold maxLen;decide) rfl rfl).alloc _
  case round =>
   obtain ⟨k,hki,hown,hFl,hbw⟩:=hrel
   have hfl:=flagN_len q1 k
   have hk3 : k ≤ 3:=by omega
   have hlen:=bytesOf_len (flagN q1 k) (fun d hd => by have:=hfl.2 d hd;omega)
   have hlen' : (bytesOf (flagN q1 k)).length ≤ 100:=by omega
   obtain ⟨A5,c5,rfl,hc5,hc5m⟩:=own_form hown
   obtain ⟨N,hN⟩ : ∃ N,N = (bytesOf (flagN q1 k)).length:=⟨_,rfl⟩
   rw [← hN] at hown hc5 hlen' ⊢
   have HO:=Lib.hid hown
   have HF:=Lib.hid hFl
   have HN:=Lib.hid hN
   have HAt:=Lib.hid (HC2'.out.bw hbw)
   obtain ⟨y0,y1',y2'⟩:=HAt.out.1
   obtain ⟨l0,l1,l2,l3,l4,l5⟩:=hFl
   dsimp only at y0 y1' y2'
   have hzr:=hbw.size
   clear hown hN hlen hfl
   rcases hki with ⟨rfl,rfl⟩|⟨rfl,rfl⟩|⟨rfl,rfl⟩|⟨rfl,rfl⟩
   ·cases hbit : (bits .and .i64 q1 1 != 0)
    ·have HE:=Lib.hid (show flagN q1 1 = flagN q1 0 by show flagN q1 0 ++ (if (bits .and .i64 q1 1 != 0) = true then [1] else []) = _;rw [if_neg (by rw [hbit];simp),List.append_nil])
     go_upto_region 12 with (fail)
     go_quiet (fail)
     go_wp2
     go_roundw
     case rel => exact ⟨1,.inr (.inl ⟨rfl,rfl⟩),by rw [HE.out,← HN.out];exact HO.out.bw BWX,HF.out.bw BWX,BWX⟩
     case measure => simp [intOf]
    ·have HE:=Lib.hid (show flagN q1 1 = flagN q1 0 ++ [1] by show flagN q1 0 ++ (if (bits .and .i64 q1 1 != 0) = true then [1] else []) = _;rw [if_pos hbit])
     go_upto_region 12 with (fail)
     go_quiet (fail)
     go_wp2_with (first|(at_builtin;refine wpList_append_srcG (by rfl) (.tmp 35) (.tmp 43) 33 rfl wp.heap.size 5 i0 (.int .u8 0) 1 1 Tryz.underlying33 hi hi0 hi1 hi2 rfl (by decide) (.slice A5 N c5) N _ (by rfl) (by exact HO.out.bw (show Bw wr _ from BWX)) (some ⟨_,0,none⟩) 2 2 (([59,49] : List Int).map (.int .u8)) (by rfl) rfl (fun e => by cases e) (fun ad e => by cases e;exact (Rd.lit _ _ _ ([59,49] : List Int) 2 rfl rfl).news) (one_map (fun _ => rfl) _) (by unfold maxLen;omega) (by omega) SZX ?_;intro v1 w1 hown1 hg1;have hF1:=FlL.row2 (HF.out.bw (show Bw wr _ from BWX)) (HO.out.bw (show Bw wr _ from BWX)) hg1;have hbw1 : Bw wp w1:=Bw.row (show Bw wp _ from BWX) (HO.out.bw (show Bw wr _ from BWX)) hg1 (Nat.le_refl _);have HO1:=Lib.hid hown1;have HF1:=Lib.hid hF1;clear hown1 hg1 hF1)|fail)
     go_roundw
     case rel => exact ⟨1,.inr (.inl ⟨rfl,rfl⟩),by rw [HE.out,bytesOf_1,List.length_append,List.map_append,← HN.out];exact HO1.out,HF1.out,hbw1⟩
     case measure => simp [intOf]
   ·cases hbit : (bits .and .i64 q1 2 != 0)
    ·have HE:=Lib.hid (show flagN q1 2 = flagN q1 1 by show flagN q1 1 ++ (if (bits .and .i64 q1 2 != 0) = true then [4] else []) = _;rw [if_neg (by rw [hbit];simp),List.append_nil])
     go_upto_region 12 with (fail)
     go_quiet (fail)
     go_wp2
     go_roundw
     case rel => exact ⟨2,.inr (.inr (.inl ⟨rfl,rfl⟩)),by rw [HE.out,← HN.out];exact HO.out.bw BWX,HF.out.bw BWX,BWX⟩
     case measure => simp [intOf]
    ·have HE:=Lib.hid (show flagN q1 2 = flagN q1 1 ++ [4] by show flagN q1 1 ++ (if (bits .and .i64 q1 2 != 0) = true then [4] else []) = _;rw [if_pos hbit])
     go_upto_region 12 with (fail)
     go_quiet (fail)
     go_wp2_with (first|(at_builtin;refine wpList_append_srcG (by rfl) (.tmp 35) (.tmp 43) 33 rfl wp.heap.size 5 i0 (.int .u8 0) 1 1 Tryz.underlying33 hi hi0 hi1 hi2 rfl (by decide) (.slice A5 N c5) N _ (by rfl) (by exact HO.out.bw (show Bw wr _ from BWX)) (some ⟨_,0,none⟩) 2 2 (([59,52] : List Int).map (.int .u8)) (by rfl) rfl (fun e => by cases e) (fun ad e => by cases e;exact (Rd.lit _ _ _ ([59,52] : List Int) 2 rfl rfl).news) (one_map (fun _ => rfl) _) (by unfold maxLen;omega) (by omega) SZX ?_;intro v1 w1 hown1 hg1;have hF1:=FlL.row2 (HF.out.bw (show Bw wr _ from BWX)) (HO.out.bw (show Bw wr _ from BWX)) hg1;have hbw1 : Bw wp w1:=Bw.row (show Bw wp _ from BWX) (HO.out.bw (show Bw wr _ from BWX)) hg1 (Nat.le_refl _);have HO1:=Lib.hid hown1;have HF1:=Lib.hid hF1;clear hown1 hg1 hF1)|fail)
     go_roundw
     case rel => exact ⟨2,.inr (.inr (.inl ⟨rfl,rfl⟩)),by rw [HE.out,bytesOf_4,List.length_append,List.map_append,← HN.out];exact HO1.out,HF1.out,hbw1⟩
     case measure => simp [intOf]
   ·cases hbit : (bits .and .i64 q1 4 != 0)
    ·have HE:=Lib.hid (show flagN q1 3 = flagN q1 2 by show flagN q1 2 ++ (if (bits .and .i64 q1 4 != 0) = true then [7] else []) = _;rw [if_neg (by rw [hbit];simp),List.append_nil])
     go_upto_region 12 with (fail)
     go_quiet (fail)
     go_wp2
     go_roundw
     case rel => exact ⟨3,.inr (.inr (.inr ⟨rfl,rfl⟩)),by rw [HE.out,← HN.out];exact HO.out.bw BWX,HF.out.bw BWX,BWX⟩
     case measure => simp [intOf]
    ·have HE:=Lib.hid (show flagN q1 3 = flagN q1 2 ++ [7] by show flagN q1 2 ++ (if (bits .and .i64 q1 4 != 0) = true then [7] else []) = _;rw [if_pos hbit])
     go_upto_region 12 with (fail)
     go_quiet (fail)
     go_wp2_with (first|(at_builtin;refine wpList_append_srcG (by rfl) (.tmp 35) (.tmp 43) 33 rfl wp.heap.size 5 i0 (.int .u8 0) 1 1 Tryz.underlying33 hi hi0 hi1 hi2 rfl (by decide) (.slice A5 N c5) N _ (by rfl) (by exact HO.out.bw (show Bw wr _ from BWX)) (some ⟨_,0,none⟩) 2 2 (([59,55] : List Int).map (.int .u8)) (by rfl) rfl (fun e => by cases e) (fun ad e => by cases e;exact (Rd.lit _ _ _ ([59,55] : List Int) 2 rfl rfl).news) (one_map (fun _ => rfl) _) (by unfold maxLen;omega) (by omega) SZX ?_;intro v1 w1 hown1 hg1;have hF1:=FlL.row2 (HF.out.bw (show Bw wr _ from BWX)) (HO.out.bw (show Bw wr _ from BWX)) hg1;have hbw1 : Bw wp w1:=Bw.row (show Bw wp _ from BWX) (HO.out.bw (show Bw wr _ from BWX)) hg1 (Nat.le_refl _);have HO1:=Lib.hid hown1;have HF1:=Lib.hid hF1;clear hown1 hg1 hF1)|fail)
     go_roundw
     case rel => exact ⟨3,.inr (.inr (.inr ⟨rfl,rfl⟩)),by rw [HE.out,bytesOf_7,List.length_append,List.map_append,← HN.out];exact HO1.out,HF1.out,hbw1⟩
     case measure => simp [intOf]
   ·have hfl:=flagN_len q1 3
    have htail : ∀ ds,fullN q1 q2 q3 = ds → (bytesOf ds).length ≤ 200:=by
     intro ds e
     have h3:=hfl.1
     have hd : ∀ d ∈ ds,0 ≤ d ∧ d ≤ 1000:=by
      intro d hd
      rw [← e] at hd
      unfold fullN at hd
      rcases List.mem_append.1 hd with hd|hd
      ·rcases List.mem_append.1 hd with hd|hd
       ·have:=hfl.2 d hd;omega
       ·split at hd
        ·simp at hd
        ·simp at hd;subst hd;unfold numC;split <;> omega
      ·split at hd
       ·simp at hd
       ·simp at hd;subst hd;unfold numC;split <;> omega
     have:=bytesOf_len ds hd
     have hl : ds.length ≤ 5:=by
      rw [← e]
      unfold fullN
      rw [List.length_append,List.length_append]
      split <;> split <;> simp <;> omega
     omega
    have HTL:=Lib.hid htail
    have N1:=Lib.hid (show 0 ≤ numC q2 30 90 ∧ numC q2 30 90 < 1000 by unfold numC;split <;> omega)
    have N2:=Lib.hid (show 0 ≤ numC q3 40 100 ∧ numC q3 40 100 < 1000 by unfold numC;split <;> omega)
    have C1:=Lib.hid (show (if 8 < q2 then 30 + 60 + q2 - 9 else 30 + q2 - 1) = numC q2 30 90 by unfold numC;split <;> split <;> omega)
    have C2:=Lib.hid (show (if 8 < q3 then 40 + 60 + q3 - 9 else 40 + q3 - 1) = numC q3 40 100 by unfold numC;split <;> split <;> omega)
    obtain ⟨DS1,hds⟩ : ∃ DS1,DS1 = flagN q1 3 ++ (if q2 = 0 then [] else [numC q2 30 90]):=⟨_,rfl⟩
    have HDS:=Lib.hid hds
    have hds1 : (bytesOf DS1).length ≤ 150:=by
     rw [hds]
     split
     ·rw [List.append_nil,← HN.out];omega
     ·have h6:=bytesOf_one (flagN q1 3) (numC q2 30 90) N1.out.1 (by have:=N1.out.2;omega);rw [← HN.out] at h6;omega
    clear htail hfl hds l0 l1 l2 l3 l4 l5
    have hI : (6 : Int) = 6:=rfl
    go_upto_if 47 with (fail)
    go_cut [5] (fun s5 w' => w'.ownsRow wp.heap.size 5 1 s5 (bytesOf DS1).length ((bytesOf DS1).map (.int .u8)) ∧ Bw wp w')
    case first =>
     by_cases hg0 : q2 = 0
     ·subst hg0
      go_wp2
      go_meet
      case rel => exact ⟨by have h:=HDS.out;(first|rw [if_pos rfl] at h|rw [if_pos trivial] at h);rw [List.append_nil] at h;rw [h,← HN.out];exact HO.out,BWX⟩
     ·have hgp : 0 < q2:=by omega
      have HG:=Lib.hid hg0
      clear hg0
      go_wp2_with fail
      have y:=HAt.out.1
      dsimp only at y
      obtain ⟨y0,y1',y2'⟩:=y
      go_region_held3 (fun w' => w'.cell? ⟨w.heap.size + 1,1,none⟩ = some (.int .i64 q2)) ((first|(exact cell_bw BWX HC2'.out.1.2.1)|fail)) ((first
       | (refine step_append_srcG (by rfl) (.tmp 48) (.tmp 49) 33 rfl wp.heap.size 5 i0 (.int .u8 0) 1 1 Tryz.underlying33 hi hi0 hi1 hi2 rfl (by decide) (.slice A5 N c5) N _ (by rfl) (by exact HO.out.bw (show Bw wr _ from BWX)) (some ⟨_,0,none⟩) 1 1 [.int .u8 59] (by rfl) rfl (fun e => by cases e) (fun ad e => by cases e;exact cell_one_at (by first|assumption|((first|exact CELAX|skip);done))) (by simp;rfl) (by unfold maxLen;omega) (by omega) SZX ?_;intro v1 w1 hown1 hg1;have hb1 : Bw wp w1:=Bw.row (show Bw wp _ from BWX) (HO.out.bw (show Bw wr _ from BWX)) hg1 (Nat.le_refl _);have hz1:=hb1.size;have HO1:=Lib.hid hown1;clear hown1 hg1)
       | (go_at_call 63;refine (code_any q2 30 _ (by omega) (by omega) (by omega) (by omega)).mono ?_;rintro ee ww ⟨rfl,rfl⟩;rw [C1.out])
       | (go_at_call 62;refine (dec_any (numC q2 30 90) _ N1.out.1 N1.out.2).mono ?_;rintro ee wd ⟨vD,D,rfl,hwD,hlD,hownD,hbD⟩;obtain ⟨AD,cD,rfl,hcD,hcDm⟩:=own_form hownD;have HOD:=Lib.hid hownD;have HWD:=Lib.hid hwD;have hzD:=hbD.size;clear hownD hwD)
       | (refine step_append_srcG (by rfl) (.tmp 50) (.tmp 54) 33 rfl wp.heap.size 5 i0 (.int .u8 0) 1 1 Tryz.underlying33 hi hi0 hi1 hi2 rfl (by decide) v1 (N + 1) _ (by rfl) (by exact HO1.out.bw (show Bw w1 _ from BWX)) AD D.length cD (D.map (.int .u8)) (by rfl) (by simp) (fun e => ((own_rd HOD.out).none_ e).1) (Rd.news2 ((own_rd HOD.out).up BWX)) (one_map (fun _ => rfl) _) (by unfold maxLen;omega) (by omega) SZX ?_;intro v2 w2 hown2 hg2;have hb2 : Bw wp w2:=Bw.row (show Bw wp _ from BWX) (HO1.out.bw (show Bw w1 _ from BWX)) hg2 (Nat.le_refl _);have HO2:=Lib.hid hown2;clear hown2 hg2)
       | fail))
      all_goals
       go_wp2
       go_meet
       case rel => exact ⟨by rw [HDS.out,if_neg HG.out,bytesOf_app,HWD.out,List.length_append,List.map_append,List.length_cons,← HN.out];exact (own_eq HO2.out (by omega) (by simp)),hb2⟩
    case rest =>
    obtain ⟨hown1,hbw1⟩:=hcut
    obtain ⟨wq,hwq⟩ : ∃ wq : World,wq = wc:=⟨_,rfl⟩
    subst hwq
    obtain ⟨A6,c6,rfl,hc6,hc6m⟩:=own_form hown1
    obtain ⟨N',hN1⟩ : ∃ N,N = (bytesOf DS1).length:=⟨_,rfl⟩
    rw [← hN1] at hown1 hc6 hds1 ⊢
    have HN1:=Lib.hid hN1
    have HOq:=Lib.hid hown1
    have hAt2:=HC2'.out.bw hbw1
    have HAt:=Lib.hid hAt2
    have hzq:=hbw1.size
    obtain ⟨y0,y1',y2'⟩:=hAt2.1
    dsimp only at y0 y1' y2'
    obtain ⟨DS2,hds2⟩ : ∃ DS2,DS2 = fullN q1 q2 q3:=⟨_,rfl⟩
    have HDS2:=Lib.hid (show DS2 = DS1 ++ (if q3 = 0 then [] else [numC q3 40 100]) by rw [hds2,HDS.out];rfl)
    have HDF:=Lib.hid hds2
    have hds3:=HTL.out DS2 hds2.symm
    clear hown1 hN1 hds2 HO HF hbw
    go_upto_if 58 with (fail)
    go_cut [5] (fun s5 w' => w'.ownsRow wp.heap.size 5 1 s5 (bytesOf DS2).length ((bytesOf DS2).map (.int .u8)) ∧ Bw wp w')
    case first =>
     by_cases hg0 : q3 = 0
     ·subst hg0
      go_wp2
      go_meet
      case rel => exact ⟨by have h:=HDS2.out;(first|rw [if_pos rfl] at h|rw [if_pos trivial] at h);rw [List.append_nil] at h;rw [h,← HN1.out];exact HOq.out,BWX⟩
     ·have hgp : 0 < q3:=by omega
      have HG:=Lib.hid hg0
      clear hg0
      go_wp2_with fail
      have y:=HAt.out.1
      dsimp only at y
      obtain ⟨y0,y1',y2'⟩:=y
      go_region_held3 (fun w' => w'.cell? ⟨w.heap.size + 1,2,none⟩ = some (.int .i64 q3)) ((first|(exact cell_bw BWX HC2'.out.1.2.2)|fail)) ((first
       | (refine step_append_srcG (by rfl) (.tmp 59) (.tmp 60) 33 rfl wp.heap.size 5 i0 (.int .u8 0) 1 1 Tryz.underlying33 hi hi0 hi1 hi2 rfl (by decide) (.slice A6 N' c6) N' _ (by rfl) (by exact HOq.out.bw (show Bw wq _ from BWX)) (some ⟨_,0,none⟩) 1 1 [.int .u8 59] (by rfl) rfl (fun e => by cases e) (fun ad e => by cases e;exact cell_one_at (by first|assumption|((first|exact CELAX|skip);done))) (by simp;rfl) (by unfold maxLen;omega) (by omega) SZX ?_;intro v1 w1 hown1 hg1;have hb1 : Bw wp w1:=Bw.row (show Bw wp _ from BWX) (HOq.out.bw (show Bw wq _ from BWX)) hg1 (Nat.le_refl _);have hz1:=hb1.size;have HO1:=Lib.hid hown1;clear hown1 hg1)
       | (go_at_call 63;refine (code_any q3 40 _ (by omega) (by omega) (by omega) (by omega)).mono ?_;rintro ee ww ⟨rfl,rfl⟩;rw [C2.out])
       | (go_at_call 62;refine (dec_any (numC q3 40 100) _ N2.out.1 N2.out.2).mono ?_;rintro ee wd ⟨vD,D,rfl,hwD,hlD,hownD,hbD⟩;obtain ⟨AD,cD,rfl,hcD,hcDm⟩:=own_form hownD;have HOD:=Lib.hid hownD;have HWD:=Lib.hid hwD;have hzD:=hbD.size;clear hownD hwD)
       | (refine step_append_srcG (by rfl) (.tmp 61) (.tmp 65) 33 rfl wp.heap.size 5 i0 (.int .u8 0) 1 1 Tryz.underlying33 hi hi0 hi1 hi2 rfl (by decide) v1 (N' + 1) _ (by rfl) (by exact HO1.out.bw (show Bw w1 _ from BWX)) AD D.length cD (D.map (.int .u8)) (by rfl) (by simp) (fun e => ((own_rd HOD.out).none_ e).1) (Rd.news2 ((own_rd HOD.out).up BWX)) (one_map (fun _ => rfl) _) (by unfold maxLen;omega) (by omega) SZX ?_;intro v2 w2 hown2 hg2;have hb2 : Bw wp w2:=Bw.row (show Bw wp _ from BWX) (HO1.out.bw (show Bw w1 _ from BWX)) hg2 (Nat.le_refl _);have HO2:=Lib.hid hown2;clear hown2 hg2)
       | fail))
      all_goals
       go_wp2
       go_meet
       case rel => exact ⟨by rw [HDS2.out,if_neg HG.out,bytesOf_app,HWD.out,List.length_append,List.map_append,List.length_cons,← HN1.out];exact (own_eq HO2.out (by omega) (by simp)),hb2⟩
    case rest =>
    obtain ⟨hown2,hbw2⟩:=hcut
    obtain ⟨A7,c7,rfl,hc7,hc7m⟩:=own_form hown2
    obtain ⟨M,hM⟩ : ∃ N,N = (bytesOf DS2).length:=⟨_,rfl⟩
    rw [← hM] at hown2 hc7 hds3 ⊢
    have HO7:=Lib.hid hown2
    have HM:=Lib.hid hM
    have hz7:=hbw2.size
    clear hown2 hM y0 y1' y2'
    go_wp2_with (first|(at_builtin;refine wpList_append_srcG (by rfl) (.tmp 67) (.tmp 68) 33 rfl wp.heap.size 5 i0 (.int .u8 0) 1 1 Tryz.underlying33 hi hi0 hi1 hi2 rfl (by decide) (.slice A7 M c7) M _ (by rfl) (HO7.out.alloc _) (some ⟨_,0,none⟩) 1 1 [.int .u8 109] (by rfl) rfl (fun e => by cases e) (fun ad e => by cases e;exact cell_one_new _ _ _) (by simp;rfl) (by unfold maxLen;omega) (by omega) SZX ?_;intro v3 w3 hown3 hg3;have hbw3' : Bw wp w3:=Bw.row (Bw.alloc hbw2 _) (HO7.out.alloc _) hg3 (Nat.le_refl _))|fail)
    go_ret
    refine ⟨_,rfl,?_,Bw.trans hbw3 hbw3'⟩
    rw [HB.out,← HDF.out]
    exact Sl.of_own (by rw [List.map_append];exact hown3)
theorem bytes_any (x1 x2 x3 y1 y2 y3 : Int) (w : World) (ht : PowT w.heap.size w) : Calls Tryz.prog 91 #[atV x1 x2 x3,atV y1 y2 y3] w (BytesP w (bts (x1,x2,x3) (y1,y2,y3))):=by
 have HT:=Lib.hid ht
 clear ht
 unfold atV
 go_enter Tryz.func91,Tryz.ntmps91
 go_upto_if 11 with (first|(go_at_call 94;refine (avalid_any x1 x2 x3 _).mono ?_;rintro ee ww ⟨rfl,rfl⟩)|fail)
 go_cut [] (fun w' => ∃ o : Obj,∃ p : Int × Int × Int,p = effA (x1,x2,x3) ∧ (((w.alloc (.cells #[.int .i64 p.1,.int .i64 p.2.1,.int .i64 p.2.2] 42)).alloc (.cells #[.int .i64 y1,.int .i64 y2,.int .i64 y3] 42)).alloc o) = w')
 case first =>
  cases hv : avB x1 x2 x3
  ·have HE:=Lib.hid (effA_no (x:=(x1,x2,x3)) hv)
   go_wp2
   go_meet
   case rel => exact ⟨_,(0,0,0),HE.out.symm,rfl⟩
  ·have HE:=Lib.hid (effA_yes (x:=(x1,x2,x3)) hv)
   go_wp2
   go_meet
   case rel => exact ⟨_,(x1,x2,x3),HE.out.symm,rfl⟩
 case rest =>
 obtain ⟨o1,⟨f,g,b⟩,hp,rfl⟩:=hcut
 have HP:=Lib.hid hp
 clear hp
 dsimp only
 go_upto_if 15 with (first|(go_at_call 94;refine (avalid_any y1 y2 y3 _).mono ?_;rintro ee ww ⟨rfl,rfl⟩)|fail)
 go_cut [] (fun w' => ∃ o : Obj,∃ p : Int × Int × Int,p = effA (y1,y2,y3) ∧ ((((w.alloc (.cells #[.int .i64 f,.int .i64 g,.int .i64 b] 42)).alloc (.cells #[.int .i64 p.1,.int .i64 p.2.1,.int .i64 p.2.2] 42)).alloc o1).alloc o) = w')
 case first =>
  cases hv : avB y1 y2 y3
  ·have HE:=Lib.hid (effA_no (x:=(y1,y2,y3)) hv)
   go_wp2
   go_meet
   case rel => exact ⟨_,(0,0,0),HE.out.symm,rfl⟩
  ·have HE:=Lib.hid (effA_yes (x:=(y1,y2,y3)) hv)
   go_wp2
   go_meet
   case rel => exact ⟨_,(y1,y2,y3),HE.out.symm,rfl⟩
 case rest =>
 obtain ⟨o2,⟨f',g',b'⟩,hq,rfl⟩:=hcut
 have hqv : avB f' g' b' = true:=by have:=effA_valid (y1,y2,y3);rw [← hq] at this;exact this
 have hv : 0 ≤ f' ∧ f' ≤ 7 ∧ 0 ≤ g' ∧ g' ≤ 16 ∧ 0 ≤ b' ∧ b' ≤ 16:=of_decide_eq_true hqv
 have HQ:=Lib.hid hq
 clear hq hqv
 dsimp only
 by_cases heq : (f,g,b) = (f',g',b')
 ·have HB:=Lib.hid (show bts (x1,x2,x3) (y1,y2,y3) = [] by unfold bts;rw [if_pos (by rw [← HP.out,← HQ.out];exact heq)])
  simp only [Prod.mk.injEq] at heq
  obtain ⟨rfl,rfl,rfl⟩:=heq
  go_wp2
  go_ret
  exact ⟨_,rfl,by rw [HB.out];exact Sl.nil_ _ _ _ (by omega),BWX⟩
 have HB:=Lib.hid (show bts (x1,x2,x3) (y1,y2,y3) = bytesOf (fullN f' g' b') ++ [109] by unfold bts;rw [← HP.out,← HQ.out,if_neg heq])
 have HNE:=Lib.hid (show f ≠ f' ∨ g ≠ g' ∨ b ≠ b' by simp only [Prod.mk.injEq] at heq;omega)
 clear heq
 go_upto_region 5 with (fail)
 go_cut [19] (fun s w' => s = .bool false ∧ ((((w.alloc (.cells #[.int .i64 f,.int .i64 g,.int .i64 b] 42)).alloc (.cells #[.int .i64 f',.int .i64 g',.int .i64 b'] 42)).alloc o1).alloc o2) = w')
 case first =>
  have h3 : ¬ f = f' ∨ (f = f' ∧ ¬ g = g') ∨ (f = f' ∧ g = g' ∧ ¬ b = b'):=by have:=HNE.out;omega
  clear hv HNE
  rcases h3 with h|⟨rfl,h⟩|⟨rfl,rfl,h⟩
  all_goals
   go_wp2
   go_meet
   case rel => exact ⟨by simp [h],rfl⟩
 case rest =>
 obtain ⟨rfl,rfl⟩:=hcut
 obtain ⟨hv1,hv2,hv3,hv4,hv5,hv6⟩:=hv
 have e0 : ∀ w,(Instr.index 156 (.agg #[.int .i64 1,.int .i64 4,.int .i64 7]) (.int .i64 0)).run Tryz.prog w = .ok (.int .i64 1) w:=fun _ => by kernel_rfl
 have e1 : ∀ w,(Instr.index 156 (.agg #[.int .i64 1,.int .i64 4,.int .i64 7]) (.int .i64 1)).run Tryz.prog w = .ok (.int .i64 4) w:=fun _ => by kernel_rfl
 have e2 : ∀ w,(Instr.index 156 (.agg #[.int .i64 1,.int .i64 4,.int .i64 7]) (.int .i64 2)).run Tryz.prog w = .ok (.int .i64 7) w:=fun _ => by kernel_rfl
 go_wp2_with fail
 go_loopw [23] (fun i wr => ∃ k : Nat,i = .int .i64 k ∧ k ≤ 3 ∧ OutS w.heap.size (w.heap.size + 1 + 1 + 1 + 1 + 1) ((bytesOf (flagN f' k)).map (.int .u8)) wr ∧ AtBlk wr (w.heap.size + 1) f' g' b' ∧ Bw w wr) (fun i _ => 3 - (intOf i).toNat)
 case atStart =>
  refine ⟨0,rfl,by omega,⟨.slice (some ⟨w.heap.size + 1 + 1 + 1 + 1,0,none⟩) 3 3,?_,heap_here SZX⟩,?_,BWX⟩
  ·exact (own_lit (cs:=#[.int .u8 27,.int .u8 91,.int .u8 48]) SZX (by omega) (by unfold maxLen;decide) rfl rfl).alloc _
  ·exact heap_past (heap_past (heap_past (heap_past (heap_here SZX))))
 case round =>
  obtain ⟨k,rfl,hk,hO,hAt,hbw⟩:=hrel
  have hT : PowT w.heap.size wr:=HT.out.on hbw
  have hz : w.heap.size + 5 < wr.heap.size:=by obtain ⟨v,_,hb⟩:=hO;have:=lt_of_block hb;omega
  obtain ⟨y0,y1,y2⟩:=hAt.cells
  have hfl:=flagN_len f' k
  have hlen:=bytesOf_len (flagN f' k) (fun d hd => by have:=hfl.2 d hd;omega)
  have hlen' : (bytesOf (flagN f' k)).length ≤ 100:=by omega
  have HO:=Lib.hid hO
  have HAt:=Lib.hid hAt
  have HTr:=Lib.hid hT
  clear hO hAt hT hlen
  by_cases hlt : k < 3
  ·rcases (show k = 0 ∨ k = 1 ∨ k = 2 by omega) with rfl|rfl|rfl
   ·cases hbit : (bits .and .i64 f' 1 != 0)
    ·have HE:=Lib.hid (show flagN f' 1 = flagN f' 0 by show flagN f' 0 ++ (if (bits .and .i64 f' 1 != 0) = true then [1] else []) = _;rw [if_neg (by rw [hbit];simp),List.append_nil])
     go_upto_region 12 with (fail)
     go_quiet (fail)
     go_wp2
     go_roundw
     case rel => exact ⟨1,rfl,by omega,by rw [HE.out];exact HO.out.drewN _,HAt.out,BWX⟩
     case measure => simp [intOf]
    ·have HE:=Lib.hid (show flagN f' 1 = flagN f' 0 ++ [1] by show flagN f' 0 ++ (if (bits .and .i64 f' 1 != 0) = true then [1] else []) = _;rw [if_pos hbit])
     go_upto_region 12 with (fail)
     go_quiet (fail)
     go_wp2_with (first|(go_at_call 115;refine (write_any w.heap.size (w.heap.size + 1 + 1 + 1 + 1 + 1) 1 ((bytesOf (flagN f' 0)).map (.int .u8)) _ (by omega) (by rw [List.length_map];omega) (by exact HO.out.drewN _) SZX (by omega) (by exact HT.out.on (show Bw w _ from BWX))).mono ?_;rintro ee wx ⟨rfl,hOx,hbelx,hkpx⟩;rw [← bytesOf_snoc] at hOx;have hzx : w.heap.size + 5 < wx.heap.size:=(by obtain ⟨v,_,hb⟩:=hOx;have:=lt_of_block hb;omega);skip)|fail)
     go_roundw
     case rel => exact ⟨1,rfl,by omega,by rw [HE.out];exact hOx,AtBlk.kept (w:=wr.drewN _) HAt.out (by omega) hkpx,Below.trans (show Bw w (wr.drewN _) from BWX) hbelx⟩
     case measure => simp [intOf]
   ·cases hbit : (bits .and .i64 f' 2 != 0)
    ·have HE:=Lib.hid (show flagN f' 2 = flagN f' 1 by show flagN f' 1 ++ (if (bits .and .i64 f' 2 != 0) = true then [4] else []) = _;rw [if_neg (by rw [hbit];simp),List.append_nil])
     go_upto_region 12 with (fail)
     go_quiet (fail)
     go_wp2
     go_roundw
     case rel => exact ⟨2,rfl,by omega,by rw [HE.out];exact HO.out.drewN _,HAt.out,BWX⟩
     case measure => simp [intOf]
    ·have HE:=Lib.hid (show flagN f' 2 = flagN f' 1 ++ [4] by show flagN f' 1 ++ (if (bits .and .i64 f' 2 != 0) = true then [4] else []) = _;rw [if_pos hbit])
     go_upto_region 12 with (fail)
     go_quiet (fail)
     go_wp2_with (first|(go_at_call 115;refine (write_any w.heap.size (w.heap.size + 1 + 1 + 1 + 1 + 1) 4 ((bytesOf (flagN f' 1)).map (.int .u8)) _ (by omega) (by rw [List.length_map];omega) (by exact HO.out.drewN _) SZX (by omega) (by exact HT.out.on (show Bw w _ from BWX))).mono ?_;rintro ee wx ⟨rfl,hOx,hbelx,hkpx⟩;rw [← bytesOf_snoc] at hOx;have hzx : w.heap.size + 5 < wx.heap.size:=(by obtain ⟨v,_,hb⟩:=hOx;have:=lt_of_block hb;omega);skip)|fail)
     go_roundw
     case rel => exact ⟨2,rfl,by omega,by rw [HE.out];exact hOx,AtBlk.kept (w:=wr.drewN _) HAt.out (by omega) hkpx,Below.trans (show Bw w (wr.drewN _) from BWX) hbelx⟩
     case measure => simp [intOf]
   ·cases hbit : (bits .and .i64 f' 4 != 0)
    ·have HE:=Lib.hid (show flagN f' 3 = flagN f' 2 by show flagN f' 2 ++ (if (bits .and .i64 f' 4 != 0) = true then [7] else []) = _;rw [if_neg (by rw [hbit];simp),List.append_nil])
     go_upto_region 12 with (fail)
     go_quiet (fail)
     go_wp2
     go_roundw
     case rel => exact ⟨3,rfl,by omega,by rw [HE.out];exact HO.out.drewN _,HAt.out,BWX⟩
     case measure => simp [intOf]
    ·have HE:=Lib.hid (show flagN f' 3 = flagN f' 2 ++ [7] by show flagN f' 2 ++ (if (bits .and .i64 f' 4 != 0) = true then [7] else []) = _;rw [if_pos hbit])
     go_upto_region 12 with (fail)
     go_quiet (fail)
     go_wp2_with (first|(go_at_call 115;refine (write_any w.heap.size (w.heap.size + 1 + 1 + 1 + 1 + 1) 7 ((bytesOf (flagN f' 2)).map (.int .u8)) _ (by omega) (by rw [List.length_map];omega) (by exact HO.out.drewN _) SZX (by omega) (by exact HT.out.on (show Bw w _ from BWX))).mono ?_;rintro ee wx ⟨rfl,hOx,hbelx,hkpx⟩;rw [← bytesOf_snoc] at hOx;have hzx : w.heap.size + 5 < wx.heap.size:=(by obtain ⟨v,_,hb⟩:=hOx;have:=lt_of_block hb;omega);skip)|fail)
     go_roundw
     case rel => exact ⟨3,rfl,by omega,by rw [HE.out];exact hOx,AtBlk.kept (w:=wr.drewN _) HAt.out (by omega) hkpx,Below.trans (show Bw w (wr.drewN _) from BWX) hbelx⟩
     case measure => simp [intOf]
  ·obtain rfl : k = 3:=by omega
   have htail : ∀ ds,fullN f' g' b' = ds → (bytesOf ds).length ≤ 200:=by
    intro ds e
    have h3:=hfl.1
    have hd : ∀ d ∈ ds,0 ≤ d ∧ d ≤ 1000:=by
     intro d hd
     rw [← e] at hd
     unfold fullN at hd
     rcases List.mem_append.1 hd with hd|hd
     ·rcases List.mem_append.1 hd with hd|hd
      ·have:=hfl.2 d hd;omega
      ·split at hd
       ·simp at hd
       ·simp at hd;subst hd;unfold numC;split <;> omega
     ·split at hd
      ·simp at hd
      ·simp at hd;subst hd;unfold numC;split <;> omega
    have:=bytesOf_len ds hd
    have hl : ds.length ≤ 5:=by
     rw [← e]
     unfold fullN
     rw [List.length_append,List.length_append]
     split <;> split <;> simp <;> omega
    omega
   have HTL:=Lib.hid htail
   have n1 : 0 ≤ numC g' 30 90 ∧ numC g' 30 90 ≤ 1000:=by unfold numC;split <;> omega
   have n2 : 0 ≤ numC b' 40 100 ∧ numC b' 40 100 ≤ 1000:=by unfold numC;split <;> omega
   have N1:=Lib.hid n1
   have N2:=Lib.hid n2
   obtain ⟨i0,hi,hz0,hz1,hz2'⟩:=info_parts infoB
   clear htail hfl n1 n2
   obtain ⟨DS1,hds⟩ : ∃ DS1,DS1 = flagN f' 3 ++ (if g' = 0 then [] else [numC g' 30 90]):=⟨_,rfl⟩
   have HDS:=Lib.hid hds
   have hds1 : (bytesOf DS1).length ≤ 150:=by
    rw [hds]
    split
    ·rw [List.append_nil];omega
    ·have h5:=hlen';have h6:=bytesOf_one (flagN f' 3) (numC g' 30 90) N1.out.1 N1.out.2;omega
   clear hds
   go_upto_if 39 with (fail)
   go_cut [39] (fun s w' => OutS w.heap.size (w.heap.size + 1 + 1 + 1 + 1 + 1) ((bytesOf DS1).map (.int .u8)) w' ∧ AtBlk w' (w.heap.size + 1) f' g' b' ∧ Bw w w')
   case first =>
    by_cases hg0 : g' = 0
    ·subst hg0
     go_wp2
     go_meet
     case rel => exact ⟨by have h:=HDS.out;(first|rw [if_pos rfl] at h|rw [if_pos trivial] at h);rw [List.append_nil] at h;rw [h];exact HO.out,HAt.out,hbw⟩
    ·have hgb : (g' != 0) = true:=by simpa using hg0
     have hgb2 : (g' == 0) = false:=by simpa using hg0
     have HG:=Lib.hid hg0
     clear hg0
     go_wp2_with (first|(go_at_call 117;refine (number_any g' 30 90 _ (by omega) (by omega) (by omega) (by omega) (by omega) (by omega)).mono ?_;rintro ee ww ⟨rfl,rfl⟩)|(go_at_call 115;refine (write_any w.heap.size (w.heap.size + 1 + 1 + 1 + 1 + 1) (numC g' 30 90) ((bytesOf (flagN f' 3)).map (.int .u8)) _ N1.out (by rw [List.length_map];omega) (by exact HO.out) SZX (by omega) (by exact HTr.out)).mono ?_;rintro ee w1 ⟨rfl,hO1,hbel1,hkp1⟩;rw [← bytesOf_snoc] at hO1;have hz1 : w.heap.size + 5 < w1.heap.size:=(by obtain ⟨v,_,hb⟩:=hO1;have:=lt_of_block hb;omega);skip)|fail)
     go_meet
     case rel => exact ⟨by rw [HDS.out,if_neg HG.out];exact hO1,AtBlk.kept (w:=wr) HAt.out (by omega) hkp1,Below.trans hbw hbel1⟩
   case rest =>
   obtain ⟨hO1,hAt1,hbw1⟩:=hcut
   clear y0 y1 y2 HO HAt HTr hz hbw
   obtain ⟨y0,y1,y2⟩:=hAt1.cells
   have hz : w.heap.size + 5 < wc.heap.size:=by obtain ⟨v,_,hb⟩:=hO1;have:=lt_of_block hb;omega
   have HT1 : Hid (PowT w.heap.size wc):=Lib.hid (HT.out.on hbw1)
   have HO1:=Lib.hid hO1
   have HAt1:=Lib.hid hAt1
   obtain ⟨DS2,hds2⟩ : ∃ DS2,DS2 = fullN f' g' b':=⟨_,rfl⟩
   have HDS2:=Lib.hid (show DS2 = DS1 ++ (if b' = 0 then [] else [numC b' 40 100]) by rw [hds2,HDS.out];rfl)
   have HDF:=Lib.hid hds2
   have hds3:=HTL.out DS2 hds2.symm
   clear hO1 hAt1 hds2
   go_upto_if 47 with (fail)
   go_cut [47] (fun s w' => OutS w.heap.size (w.heap.size + 1 + 1 + 1 + 1 + 1) ((bytesOf DS2).map (.int .u8)) w' ∧ Bw w w')
   case first =>
    by_cases hb0 : b' = 0
    ·subst hb0
     go_wp2
     go_meet
     case rel => exact ⟨by have h:=HDS2.out;(first|rw [if_pos rfl] at h|rw [if_pos trivial] at h);rw [List.append_nil] at h;rw [h];exact HO1.out,hbw1⟩
    ·have hbb : (b' != 0) = true:=by simpa using hb0
     have hbb2 : (b' == 0) = false:=by simpa using hb0
     have HBn:=Lib.hid hb0
     clear hb0
     go_wp2_with (first|(go_at_call 117;refine (number_any b' 40 100 _ (by omega) (by omega) (by omega) (by omega) (by omega) (by omega)).mono ?_;rintro ee ww ⟨rfl,rfl⟩)|(go_at_call 115;refine (write_any w.heap.size (w.heap.size + 1 + 1 + 1 + 1 + 1) (numC b' 40 100) ((bytesOf DS1).map (.int .u8)) _ N2.out (by rw [List.length_map];omega) (by exact HO1.out) SZX (by omega) (by exact HT1.out)).mono ?_;rintro ee w2 ⟨rfl,hO2,hbel2,hkp2⟩;rw [← bytesOf_snoc] at hO2;have hz2 : w.heap.size + 5 < w2.heap.size:=(by obtain ⟨v,_,hb⟩:=hO2;have:=lt_of_block hb;omega);skip)|fail)
     go_meet
     case rel => exact ⟨by rw [HDS2.out,if_neg HBn.out];exact hO2,Below.trans hbw1 hbel2⟩
   case rest =>
   obtain ⟨hO2,hbw2⟩:=hcut
   obtain ⟨v,hown,hb⟩:=hO2
   obtain ⟨A9,c9,rfl,hc9,hc9m⟩:=own_form hown
   rw [List.length_map] at hown hb hc9
   have hcell:=cell_of_one hb
   have hz2 : w.heap.size + 5 < wc.heap.size:=by have:=lt_of_block hb;omega
   obtain ⟨N,hNN⟩ : ∃ N,(bytesOf DS2).length = N:=⟨_,rfl⟩
   rw [hNN] at hown hc9 hcell hds3
   have HO9:=Lib.hid hown
   clear hown hb hNN y0 y1 y2 HO1 HAt1 HT1
   go_wp2_with (first|(at_builtin;refine wpList_append_srcG (by rfl) (.tmp 53) (.tmp 54) 33 rfl w.heap.size 5 i0 (.int .u8 0) 1 1 Tryz.underlying33 hi hz0 hz1 hz2' rfl (by decide) (.slice A9 N c9) N _ (by rfl) (HO9.out.alloc _) (some ⟨_,0,none⟩) 1 1 [.int .u8 109] (by rfl) rfl (fun e => by cases e) (fun ad e => by cases e;exact cell_one_new _ _ _) (by simp;rfl) (by unfold maxLen;omega) (by omega) SZX ?_;intro v3 w3 hown3 hg3;have hbw3 : Bw w w3:=Bw.row (Bw.alloc hbw2 _) (HO9.out.alloc _) hg3 (Nat.le_refl _))|fail)
   go_ret
   refine ⟨_,rfl,?_,hbw3⟩
   rw [HB.out,← HDF.out]
   exact Sl.of_own (by rw [List.map_append];exact hown3)
/-- A list of bytes as a string. -/
def bs (l : List UInt8) : ByteArray:=⟨l.toArray⟩
/-- The words, by phase. -/
def wordL : List ByteArray:=[⟨#[63]⟩,⟨#[105,100,108,101]⟩,⟨#[115,116,97,114,116,105,110,103]⟩,⟨#[114,117,110,110,105,110,103]⟩,⟨#[114,101,97,100,121]⟩,⟨#[98,97,99,107,111,102,102]⟩,⟨#[115,116,111,112,112,105,110,103]⟩,⟨#[101,120,105,116,101,100]⟩,⟨#[102,97,105,108,101,100]⟩,⟨#[104,97,108,116,101,100]⟩]
/-- The program's table of words. -/
def WordT (w : World) : Prop:=∀ i,i < 10 → w.cell? ⟨0,i,none⟩ = some (.string (wordL.getD i ⟨#[63]⟩))
theorem WordT.up {w w' : World} (h : WordT w) (hb : Bw w w') : WordT w':=fun i hi => cell_bw hb (h i hi)
end Go.Proofs.YteebdjmjeahccaaGreatDoor
