/- Parts of the proof, one after the other. -/
import Derived.Test.YteebdjmjeahccaaGreatDoorC29
import Derived.Test.YteebdjmjeahccaaGreatDoorC30
import Derived.Test.YteebdjmjeahccaaGreatDoorC05
set_option linter.unusedSimpArgs false
set_option linter.unusedVariables false
set_option maxRecDepth 100000
set_option maxHeartbeats 16000000
namespace Go.Proofs.YteebdjmjeahccaaGreatDoor
open Go.RowKit
theorem dec_cons_t (r : List Int) (b : Int) (t : List Int) : dec r (b :: t) = if beginB (r ++ [b]) then dec (r ++ [b]) t
  else if completeB (r ++ [b]) then emit (valN (r ++ [b])) (dec [] t)
  else if r = [] then emit 65533 (dec [] t)
  else if beginB [b] then emit 65533 (dec [b] t)
  else if completeB [b] then emit 65533 (emit (valN [b]) (dec [] t))
  else emit 65533 (emit 65533 (dec [] t)):=rfl
theorem dec_valid_t : ∀ (b r : List Int),validB r = true → validB (dec r b).1 = true
 | [],r,h => by simpa [dec] using h
 | b :: t,r,h => by
  rw [dec_cons_t]
  have e0 : validB [] = true:=rfl
  have ev : ∀ s,beginB s = true → validB s = true:=fun s hs => by simp [validB,hs]
  repeat' split
  ·rename_i h1;exact dec_valid_t t _ (ev _ h1)
  ·exact dec_valid_t t _ e0
  ·exact dec_valid_t t _ e0
  ·rename_i h1;exact dec_valid_t t _ (ev _ h1)
  ·exact dec_valid_t t _ e0
  ·exact dec_valid_t t _ e0
theorem dec_len_t : ∀ (b r : List Int),(dec r b).2.length ≤ 2 * b.length
 | [],r => by simp [show dec r [] = (r,[]) from rfl]
 | b :: t,r => by
  have e:=fun s => dec_len_t t s
  rw [dec_cons_t]
  repeat' split
  all_goals (simp only [emit,List.length_cons])
  all_goals (first|(have:=e (r ++ [b]);omega)|(have:=e [];omega)|(have:=e [b];omega))
theorem dec_mem_t : ∀ (b r : List Int) (x : Int),x ∈ (dec r b).1 → x ∈ r ∨ x ∈ b
 | [],r,x => fun h => .inl h
 | b :: t,r,x => by
  have e:=fun s => dec_mem_t t s x
  rw [dec_cons_t]
  repeat' split
  all_goals (try simp only [emit])
  all_goals intro h
  ·rcases e _ h with h|h
   ·rcases List.mem_append.1 h with h|h
    ·exact .inl h
    ·simp at h;exact .inr (by simp [h])
   ·exact .inr (by simp [h])
  ·rcases e _ h with h|h
   ·simp at h
   ·exact .inr (by simp [h])
  ·rcases e _ h with h|h
   ·simp at h
   ·exact .inr (by simp [h])
  ·rcases e _ h with h|h
   ·exact .inr (by simp at h;simp [h])
   ·exact .inr (by simp [h])
  ·rcases e _ h with h|h
   ·simp at h
   ·exact .inr (by simp [h])
  ·rcases e _ h with h|h
   ·simp at h
   ·exact .inr (by simp [h])
theorem validB_len {r : List Int} (h : validB r = true) : r.length ≤ 4:=by
 unfold validB at h
 rcases Bool.or_eq_true _ _ ▸ h with h|h
 ·rw [List.isEmpty_iff] at h;subst h;simp
 ·exact beginB_len h
/-- A list lies in no box that holds nothing of its kind. -/
theorem Rd.ne_sbf {α : Type} {f : α → Value} {w : World} {A : Option Addr} {n g : Nat} {xs : List α} {cs : Array Value} {T : TypeId} (h : Rd f w A n xs) (h0 : 0 < n) (hS : Sb w g cs T) (hC : ∀ (i : Nat) (x : α),cs[i]? ≠ some (f x)) : ∀ ad,A = some ad → some ad.block ≠ some g:=fun ad e e2 => by
 obtain ⟨g',o,e3,hx⟩:=h.2 h0
 have h1:=hx 0 (by rw [h.1];exact h0)
 rw [e] at e3
 cases e3
 have e4 : g' = g:=Option.some.inj e2
 subst e4
 rw [cell_of_row w g' (o + 0) cs T (0,0) hS] at h1
 exact hC _ _ h1
theorem slice_no {α : Type} (f : α → Value) (hf : ∀ x,f x ≠ .slice none 0 0) : ∀ (i : Nat) (x : α),(#[Value.slice none 0 0] : Array Value)[i]? ≠ some (f x):=fun i x h => by
 cases i with
 | zero => exact hf x (Option.some.inj h).symm
 | succ i => simp at h
theorem OpR.Ok.far0 {w w' : World} {o : OpR} {row : Option Nat} (h : o.Ok w) (hg : w.grownBy w' row) (hne : 0 < o.n → ∀ ad,o.A = some ad → some ad.block ≠ row) : o.Ok w':=⟨h.1.far0 hg hne,h.2⟩
theorem OpsL.far1 {w w' : World} {A : Option Addr} {m : Nat} {l : List OpR} {row : Option Nat} (h : OpsL w A m l) (hg : w.grownBy w' row) (hne : 0 < m → ∀ ad,A = some ad → some ad.block ≠ row) (hno : ∀ o ∈ l,0 < o.n → ∀ ad,o.A = some ad → some ad.block ≠ row) : OpsL w' A m l:=by
 by_cases hm : 0 < m
 ·refine ⟨h.1,fun o ho => (h.2.1 o ho).far0 hg (hno o ho),h.2.2.1,fun ad e j u hu => ?_⟩
  have h1:=h.2.2.2 ad e j u hu
  have e2 : (ad.add j).block = ad.block:=by unfold Addr.add;split <;> rfl
  rw [World.grownBy.cell_far hg _ (lt_of_cell h1) (by rw [e2];exact hne hm ad e)]
  exact h1
 ·have h1 : l = []:=List.eq_nil_of_length_eq_zero (by have:=h.1;omega)
  subst h1
  exact ⟨h.1,(fun o ho => by cases ho),h.2.2.1,fun ad e j u hu => by simp [opsV] at hu⟩
/-- What Decode has returned, stored in a box that was made before the call or after. -/
theorem feed_p3 {wn wb w3 : World} {g : Nat} {RA C : Option Addr} {Rn nc : Nat} {rs cs : List Int} (hnb : Bw wn wb) (hS : Sb wb g #[.slice none 0 0] 48) (hgr : wb.grownBy w3 (some g)) (hR : Rd (.int .u8) wn RA Rn rs) (hC : Rd (.int .i64) wn C nc cs) : Rd (.int .u8) w3 RA Rn rs ∧ Rd (.int .i64) w3 C nc cs :=
 ⟨(hR.up hnb).far0 hgr (fun h0 => (hR.up hnb).ne_sbf h0 hS (slice_no _ (fun x h => by cases h))),(hC.up hnb).far0 hgr (fun h0 => (hC.up hnb).ne_sbf h0 hS (slice_no _ (fun x h => by cases h)))⟩
/-- What All has returned, stored in a box that was made before the call or after. -/
theorem feed_p4 {wr wc wn wb w3 : World} {g8 : Nat} {md' pv' : Int} {A1 A' : Option Addr} {n' c' : Nat} {xs' : List Int} {B' : Option Addr} {m' : Nat} {l' : List OpR} (hrc : Bw wr wc) (hcn : Bw wc wn) (hnb : Bw wn wb) (hg8 : (wr.heap.size ≤ g8 ∧ g8 < wc.heap.size) ∨ wn.heap.size ≤ g8) (hgr : wb.grownBy w3 (some g8)) (hA1 : TyA wr A1)
  (hK : ScnOk wn md' pv' A' n' c' xs') (hL : OpsL wn B' m' l') (hN : NewR wc.heap.size A1 A' n' B' l') (hT1 : TyA wn A') :
  wr.heap.size ≤ g8 ∧ ScnOk w3 md' pv' A' n' c' xs' ∧ TyA w3 A' ∧ OpsL w3 B' m' l' ∧ Bw wr w3 ∧ (∀ ad,B' = some ad → wr.heap.size ≤ ad.block) ∧ ∀ o ∈ l',∀ ad,o.A = some ad → wr.heap.size ≤ ad.block:=by
 have s1:=hrc.size
 have s2:=hcn.size
 have hA : ∀ ad,A' = some ad → some ad.block ≠ some g8:=fun ad e e2 => by
  have h1:=hT1.lt ad e
  have e3:=Option.some.inj e2
  rcases hN.1 ad e with h|h
  ·omega
  ·have h2:=hA1.lt ad h.symm
   omega
 refine ⟨by omega,(hK.up hnb).far0 hgr (fun _ => hA),(hT1.up hnb).far hgr hA,(hL.up hnb).far1 hgr (fun hm ad e e2 => ?_) (fun o ho h0 ad e e2 => ?_),Bw.grown (Bw.trans (Bw.trans hrc hcn) hnb) hgr (fun k hk => by cases hk;omega),fun ad e => by have:=hN.2.1 ad e;omega,fun o ho ad e => by have:=hN.2.2 o ho ad e;omega⟩
 ·have h1:=hL.lt hm ad e
  have h2:=hN.2.1 ad e
  have e3:=Option.some.inj e2
  omega
 ·have h1:=(hL.2.1 o ho).1.lt h0 ad e
  have h2:=hN.2.2 o ho ad e
  have e3:=Option.some.inj e2
  omega
theorem Ls.far0 {w w' : World} {L : Option Addr} {m : Nat} {row : Option Nat} (h : Ls w L m) (hg : w.grownBy w' row) (hne : 0 < m → ∀ ad,L = some ad → some ad.block ≠ row) : Ls w' L m:=by
 by_cases h0 : 0 < m
 ·exact h.far hg (hne h0)
 ·have e : m = 0:=by omega
  subst e
  exact Ls.nil_ _ _
/-- What Apply has returned, its screen stored in a box that was made before the call or after. -/
theorem feed_p9 {wr wc wn wb w3 : World} {g8 : Nat} {s s' : Scr} {L : Option Addr} {m : Nat} (hrc : Bw wr wc) (hcn : Bw wc wn) (hnb : Bw wn wb) (hg8 : (wr.heap.size ≤ g8 ∧ g8 < wc.heap.size) ∨ wn.heap.size ≤ g8) (hgr : wb.grownBy w3 (some g8)) (hs : s.Ok wr) (hs' : s'.Ok wn) (hA : An wc s.A s'.A) (hL : Ls wn L m) (hN : ∀ ad,L = some ad → wc.heap.size ≤ ad.block) {K' : Option Kn} (hMt : Mt wn s' K') :
  s'.Ok w3 ∧ An wr s.A s'.A ∧ Ls w3 L m ∧ (∀ ad,L = some ad → wr.heap.size ≤ ad.block) ∧ Bw wr w3 ∧ wr.heap.size ≤ g8 ∧ Mt w3 s' K':=by
 have s1:=hrc.size
 have s2:=hcn.size
 have hlt:=hs.1.lt
 have hlt':=hs'.1.lt
 have hfar : ∀ ad,s'.A = some ad → some ad.block ≠ some g8:=fun ad e e2 => by
  have e3:=Option.some.inj e2
  have h1:=hlt' ad e
  rcases hA with h|h
  ·have h2:=hlt ad (by rw [← h];exact e)
   omega
  ·have h2:=h ad e
   omega
 refine ⟨(hs'.up hnb).far hgr hfar,hA.more (by omega),(hL.up hnb).far0 hgr (fun h0 ad e e2 => ?_),fun ad e => by have:=hN ad e;omega,Bw.grown (Bw.trans (Bw.trans hrc hcn) hnb) hgr (fun k hk => by cases hk;omega),by omega,(hMt.up hnb).far hgr hfar⟩
 ·have e3:=Option.some.inj e2
  have h1:=hL.lt h0 ad e
  have h2:=hN ad e
  omega
/-- A list's place: that of A0, or in new memory. -/
def Pl (k : Nat) (A0 A : Option Addr) : Prop:=A = A0 ∨ ∀ ad,A = some ad → k ≤ ad.block
theorem Pl.an {w : World} {A0 A : Option Addr} (h : Pl w.heap.size A0 A) : An w A0 A:=h
theorem Pl.more {k k' : Nat} {A0 A : Option Addr} (h : Pl k A0 A) (hk : k' ≤ k) : Pl k' A0 A:=by
 rcases h with h|h
 ·exact .inl h
 ·exact .inr (fun ad e => Nat.le_trans hk (h ad e))
theorem Trm.Ok.more {w : World} {t : Trm} {B B' : Int} (h : t.Ok w B) (hB : B ≤ B') : t.Ok w B':=by
 obtain ⟨c1,c2,c3,c4,c5,c6,c7,c8,c9,c10,c11⟩:=h
 exact ⟨c1,c2,c3,c4,c5,c6,c7,c8,c9,c10,Int.le_trans c11 hB⟩
/-- The history's place: as it was, or in new memory. -/
def PlH (k : Nat) (t tr : Trm) : Prop:=(tr.HA = t.HA ∧ tr.Hn = t.Hn) ∨ ∀ ad,tr.HA = some ad → k ≤ ad.block
theorem PlH.more {k k' : Nat} {t tr : Trm} (h : PlH k t tr) (hk : k' ≤ k) : PlH k' t tr:=by
 rcases h with h|h
 ·exact .inl h
 ·exact .inr (fun ad e => Nat.le_trans hk (h ad e))
/-- What Feed returns. -/
def FeedP (w : World) (t : Trm) (B : Int) (e : Ending) (w' : World) : Prop :=
 ∃ t' : Trm,e = .returned (.agg t'.vals.toArray) ∧ t'.Ok w' B ∧ t'.s.Rn = t.s.Rn ∧ t'.s.Cn = t.s.Cn ∧ t'.keep = t.keep ∧ Pl w.heap.size t.s.A t'.s.A ∧ PlH w.heap.size t t' ∧ Bw w w'
/-- What Feed returns, with what is known of the screen: the bytes bs are fed. -/
def FeedX (w : World) (t : Trm) (B : Int) (bs : List Int) (K : Option Kn) (e : Ending) (w' : World) : Prop :=
 ∃ t' : Trm,e = .returned (.agg t'.vals.toArray) ∧ t'.Ok w' B ∧ t'.s.Rn = t.s.Rn ∧ t'.s.Cn = t.s.Cn ∧ t'.keep = t.keep ∧ Pl w.heap.size t.s.A t'.s.A ∧ PlH w.heap.size t t' ∧ Bw w w' ∧ Mt w' t'.s (stepsX t.s.Rn t.s.Cn K (allN (t.md,t.pv,t.xs) (dec (restB t.rs) bs).2).2) ∧ t'.rs = (dec (restB t.rs) bs).1 ∧ (t'.md,t'.pv,t'.xs) = (allN (t.md,t.pv,t.xs) (dec (restB t.rs) bs).2).1
theorem FeedX.p {w : World} {t : Trm} {B : Int} {bs : List Int} {K : Option Kn} {e : Ending} {w' : World} (h : FeedX w t B bs K e w') : FeedP w t B e w':=by
 obtain ⟨t',h1,h2,h3,h4,h5,h6,h7,h8,-⟩:=h
 exact ⟨t',h1,h2,h3,h4,h5,h6,h7,h8⟩
theorem stepsX_snoc (Rn Cn : Nat) (K : Option Kn) (l : List OpS) (o : OpS) : stepsX Rn Cn K (l ++ [o]) = stepX Rn Cn (stepsX Rn Cn K l) o:=by unfold stepsX;rw [List.foldl_append];rfl
/-- The loop's relation: the terminal in its box after some operations. -/
def FeedR (w W : World) (t t1 : Trm) (F : Nat → Option Kn) (G : List Int × Int × Int × List Int) (B : Int) (O : Option Addr) (m : Nat) (l : List OpR) (k : Nat) (wr : World) : Prop :=
 ∃ tr : Trm,Sb wr w.heap.size tr.vals.toArray 53 ∧ tr.Ok wr (B + 231 * k) ∧ (tr.s.Rn = t.s.Rn ∧ tr.s.Cn = t.s.Cn ∧ tr.keep = t.keep) ∧ Pl W.heap.size t.s.A tr.s.A ∧ PlH W.heap.size t tr ∧ OpsL wr O m l ∧ (∃ old,Sb wr (w.heap.size + 1) old 53 ∧ old.size = 26 ∧ ∀ (i : Nat) (x : Int),old[i]? ≠ some (.int .u8 x)) ∧ Bw w wr ∧ W.heap.size ≤ wr.heap.size ∧ Mt wr tr.s (F k) ∧ (tr.rs,tr.md,tr.pv,tr.xs) = G
theorem grown_drew {w w' : World} {r : Option Nat} (h : w.grownBy w' r) : w.grownBy w'.drew r:=⟨h.os,h.tape,h.output,h.size,h.block⟩
theorem infoDec : (Tryz.prog.info? 48).map (·.size) = some 1:=by kernel_rfl
theorem one_dec {α : Type} {f : α → Value} {w : World} (v : Value) {xs : List α} (h : Sl f w v xs) : (#[v] : Array Value).all (·.oneCell') = true:=by
 obtain ⟨A,c,rfl,_⟩:=h
 exact all_oneCell_toArray (cs:=[_]) (fun u hu => by simp only [List.mem_singleton] at hu;subst hu;rfl)
theorem wpList_store_dec {α : Type} {f : α → Value} {xs : List α} {wq : World} {ops : Array Oper} {rest : List Oper} {o : Oper} {a : Act} {w : World} {Q : Exit → Act → World → Prop} (v : Value) (hv : Sl f wq v xs) (g : Nat) (x y : Operand) (ho : o.op = .store 48 x y) (hgd : o.guard = none)
  (hx : a.eval x = .pointer (some ⟨g,0,none⟩)) (hy : a.eval y = .agg #[v]) (hg : ∃ old,Sb w g old 48 ∧ old.size = 1)
  (h : ∀ w',Sb w' g #[v] 48 → w.grownBy w' (some g) → wpList Tryz.prog ops Q rest (a.put o.dst undef) w') : wpList Tryz.prog ops Q (o :: rest) a w :=
 wpList_store_cs 48 #[v] g x y infoDec (one_dec v hv) ho hgd hx hy hg h
theorem rfeed_x (t : Trm) (K : Option Kn) (B : Int) (D : Option Addr) (nb cb : Nat) (bs : List Int) (w : World) (h : t.Ok w B) (hM : Mt w t.s K) (hB : 0 ≤ B ∧ B ≤ 1000000000) (hD : Rd (.int .u8) w D nb bs) (hbc : nb ≤ cb) (hcb : cb ≤ 9223372036854775807) (hnb : nb ≤ 100000) (hbs : ∀ x ∈ bs,0 ≤ x ∧ x ≤ 255) : Calls Tryz.prog 22 #[.agg t.vals.toArray,.slice D nb cb] w (FeedX w t (B + 231 * 200000) bs K):=by
 have HM:=Lib.hid hM
 clear hM
 have HOk:=Lib.hid h
 have HD:=Lib.hid hD
 have HBS:=Lib.hid hbs
 obtain ⟨hB0,hB1⟩:=hB
 obtain ⟨hRc,hRc2,hR4,hV⟩ : t.Rn ≤ t.Rc ∧ t.Rc ≤ 9223372036854775807 ∧ t.Rn ≤ 4 ∧ validB t.rs = true:=⟨h.2.1.2.1,h.2.1.2.2.1,h.2.1.2.2.2.2.1,h.2.1.2.2.2.1⟩
 have HV:=Lib.hid hV
 have HR255:=Lib.hid h.2.1.2.2.2.2.2
 have HsA:=Lib.hid h.1.1.lt
 have HHA:=Lib.hid (fun h0 => h.2.2.2.2.2.1.lt h0)
 clear h hD hbs hV
 go_enter Tryz.func22,Tryz.ntmps22
 go_upto_region 1 with (fail)
 generalize hw1 : (w.alloc (.cells t.vals.toArray 53)).alloc _ = w1
 obtain ⟨hb0,hb1,hbw,hz⟩:=sb2 hw1
 have HB0a:=Lib.hid hb0
 have HB1a:=Lib.hid (show ∃ old,Sb w1 (w.heap.size + 1) old 53 ∧ old.size = 26 ∧ ∀ (i : Nat) (x : Int),old[i]? ≠ some (.int .u8 x) from ⟨_,hb1,rfl,fun i x h => by have:=Array.mem_of_getElem? h;simp at this⟩)
 have hz1 : w.heap.size + 1 < w1.heap.size:=by omega
 clear hw1 hb0 hb1 hz
 go_upto_region 3 with (first
  | ((with_reducible refine wpList_load_tr t w.heap.size (.tmp 2) rfl rfl ?_ ?_ ?_);(focus rfl);(focus (exact HB0a.out)))
  | (go_at_call 45;refine (rvalid19_ok t B _ (HOk.out.up (show Bw w _ from BWX))).mono ?_;rintro ee wv ⟨rfl,hbv⟩;have HBV:=Lib.hid hbv;clear hbv)
  | fail)
 have hbv:=HBV.out
 have hbwv : Bw w wv:=Bw.trans hbw hbv
 have HB0:=Lib.hid (HB0a.out.up hbv)
 have HB1:=Lib.hid (Exists.elim HB1a.out (fun old h => (⟨old,h.1.up hbv,h.2⟩ : ∃ old,Sb wv (w.heap.size + 1) old 53 ∧ old.size = 26 ∧ ∀ (i : Nat) (x : Int),old[i]? ≠ some (.int .u8 x))))
 have hz2 : w.heap.size + 1 < wv.heap.size:=by have:=hbv.size;omega
 have HOk1:=Lib.hid (HOk.out.up hbwv)
 have HD1:=Lib.hid (HD.out.up hbwv)
 have y19:=HB0.out.cell 19 (v:=.slice t.RA t.Rn t.Rc) rfl
 clear HBV HB0a HB1a hz1 hbw hbv HOk HD
 go_upto_region 4 with (first
  | (go_at_call 48;refine (refdecode_any t.RA D t.Rn t.Rc nb cb t.rs bs _ (by exact HOk1.out.2.1.1.up BWX) hRc hRc2 (by exact HD1.out.up BWX) hbc hcb (by omega) HBS.out HR255.out (by omega)).mono ?_;rintro ee wn ⟨vr,vl,rfl,hvr,hvl,hbn⟩;have hzn:=hbn.size;have HVR:=Lib.hid hvr;have HVL:=Lib.hid hvl;have HBN:=Lib.hid hbn;clear hvr hvl hbn y19)
  | ((with_reducible refine wpList_store_dec vr HVR.out wn.heap.size (.tmp 5) (.tmp 21) rfl rfl ?_ ?_ ?_ ?_);(focus rfl);(focus rfl);(focus (exact ⟨_,heap_at rfl,rfl⟩));intro w3 hS3 hg3;have HS3:=Lib.hid hS3;have HG3:=Lib.hid hg3;clear hS3 hg3)
  | fail)
 obtain ⟨RA,Rc,rfl,r1,r2,r3⟩:=HVR.out
 obtain ⟨C,cc,rfl,q1,q2,q3⟩:=HVL.out
 have hp3:=feed_p3 (show Bw wn (wn.alloc (.cells #[.slice none 0 0] 48)) from BWX) (heap_at rfl) HG3.out r3 q3
 have hdl:=dec_len_t bs (restB t.rs)
 have hvd : validB (dec (restB t.rs) bs).1 = true:=dec_valid_t bs _ (by unfold restB;rw [if_pos HV.out];exact HV.out)
 have hbl:=HD1.out.1
 have h255 : ∀ x ∈ (dec (restB t.rs) bs).1,0 ≤ x ∧ x ≤ 255:=fun x hx => by
  rcases dec_mem_t bs (restB t.rs) x hx with h|h
  ·have h2 : x ∈ t.rs:=by
    unfold restB at h
    rw [if_pos HV.out] at h
    exact h
   exact HR255.out x h2
  ·exact HBS.out x h
 obtain ⟨rs,hrs⟩ : ∃ rs,(dec (restB t.rs) bs).1 = rs:=⟨_,rfl⟩
 obtain ⟨cs,hcs⟩ : ∃ cs,(dec (restB t.rs) bs).2 = cs:=⟨_,rfl⟩
 have HDC:=Lib.hid (And.intro hrs hcs)
 rw [hrs] at r1 r3 hvd h255 hp3 HS3
 rw [hcs] at q1 q3 hp3 hdl
 simp only [hrs,hcs]
 obtain ⟨Rn,hRn⟩ : ∃ Rn,rs.length = Rn:=⟨_,rfl⟩
 obtain ⟨nc,hnc⟩ : ∃ nc,cs.length = nc:=⟨_,rfl⟩
 have hR4':=validB_len hvd
 rw [hRn] at r1 r3 hp3 HS3 hR4'
 rw [hnc] at q1 q3 hp3 hdl
 simp only [hRn,hnc]
 have hbv3 : Bw wv w3:=Bw.grown (Bw.trans HBN.out (show Bw wn (wn.alloc (.cells #[.slice none 0 0] 48)) from BWX)) HG3.out (fun k hk => by cases hk;omega)
 have HRd:=Lib.hid hp3.1
 have HCd:=Lib.hid hp3.2
 have HVD:=Lib.hid hvd
 have H255:=Lib.hid h255
 have hnc2 : nc ≤ 200000:=by omega
 obtain ⟨g5,hg5⟩ : ∃ g5,wn.heap.size = g5:=⟨_,rfl⟩
 rw [hg5] at HS3
 simp only [hg5]
 have hg51 : wv.heap.size ≤ g5:=by omega
 have hz3 : w.heap.size + 1 < w3.heap.size:=by have:=hbv3.size;omega
 have HB03:=Lib.hid (HB0.out.up hbv3)
 have HB13:=Lib.hid (Exists.elim HB1.out (fun old h => (⟨old,h.1.up hbv3,h.2⟩ : ∃ old,Sb w3 (w.heap.size + 1) old 53 ∧ old.size = 26 ∧ ∀ (i : Nat) (x : Int),old[i]? ≠ some (.int .u8 x))))
 have HOk3:=Lib.hid (HOk1.out.up hbv3)
 have hbw3 : Bw w w3:=Bw.trans hbwv hbv3
 have H5:=Lib.hid HS3.out
 have hg52:=HS3.out.lt
 clear HVR HVL hp3 HG3 HBN hbv3 r3 q3 hrs hcs hvd h255 HB0 HB1 HOk1 HD1 hg5 HS3 hdl hbl hzn
 have y20:=HB03.out.cell 20 (v:=.int .i64 t.md) rfl
 have y21:=HB03.out.cell 21 (v:=.int .i64 t.pv) rfl
 have y22:=HB03.out.cell 22 (v:=.slice t.A t.n t.c) rfl
 go_upto_region 5 with (first
  | (go_at_call 49;refine (rall_ok t.md t.pv t.A t.n t.c t.xs C nc cc cs _ (HOk3.out.2.2.1.up BWX) (HOk3.out.2.2.2.1.up BWX) (by exact HCd.out.up BWX) (by omega) (by omega) (by omega)).mono ?_;rintro ee wm ⟨md',pv',A',n',c',xs',O,m,c2,l,rfl,hK,hL,hm,hmc,hc2,hbm,hN,hT,hsp,hall⟩;have HALL:=Lib.hid hall;have HSP:=Lib.hid hsp;have hzm:=hbm.size;have HK:=Lib.hid hK;have HL:=Lib.hid hL;have HN:=Lib.hid hN;have HT:=Lib.hid hT;have HBM:=Lib.hid hbm;clear hK hL hN hT hbm hsp hall y20 y21 y22)
  | ((with_reducible refine wpList_store_scn md' pv' A' n' c' wm.heap.size (.tmp 7) (.tmp 28) rfl rfl ?_ ?_ ?_ ?_);(focus rfl);(focus rfl);(focus (exact ⟨_,heap_at rfl,rfl⟩));intro w4 hS4 hg4;have HS4:=Lib.hid hS4;have HG4:=Lib.hid hg4;clear hS4 hg4)
  | fail)
 obtain ⟨p1,p2,p3,p4,p5,p6,p7⟩:=feed_p4 (wr:=w3) (wc:=w3) (wn:=wm) (Bw.refl _) HBM.out (show Bw wm (wm.alloc (.cells #[.int .i64 0,.int .i64 0,.slice none 0 0] 50)) from BWX) (.inr (Nat.le_refl _)) HG4.out HOk3.out.2.2.2.1 HK.out HL.out HN.out HT.out
 obtain ⟨g7,hg7⟩ : ∃ g7,wm.heap.size = g7:=⟨_,rfl⟩
 rw [hg7] at HS4 p1
 simp only [hg7]
 have hg71 : w3.heap.size ≤ g7:=p1
 have HB04:=Lib.hid (HB03.out.up p5)
 have HB14:=Lib.hid (Exists.elim HB13.out (fun old h => (⟨old,h.1.up p5,h.2⟩ : ∃ old,Sb w4 (w.heap.size + 1) old 53 ∧ old.size = 26 ∧ ∀ (i : Nat) (x : Int),old[i]? ≠ some (.int .u8 x))))
 have hz4 : w.heap.size + 1 < w4.heap.size:=by have:=p5.size;omega
 have hz04 : w.heap.size < w4.heap.size:=by omega
 have hg5w : w.heap.size < g5:=by omega
 have hg7w : w.heap.size < g7:=by omega
 have hbw4 : Bw w w4:=Bw.trans hbw3 p5
 have HP2:=Lib.hid p2
 have HP3:=Lib.hid p3
 have HP4:=Lib.hid p4
 have HP6:=Lib.hid p6
 have HP7:=Lib.hid p7
 have hw34:=p5.size
 have hg54 : g5 < w4.heap.size:=by omega
 have hg74:=HS4.out.lt
 have x50:=(H5.out.up p5).cell 0 (v:=.slice RA Rn Rc) rfl
 have x70:=HS4.out.cell 0 (v:=.int .i64 md') rfl
 have x71:=HS4.out.cell 1 (v:=.int .i64 pv') rfl
 have x72:=HS4.out.cell 2 (v:=.slice A' n' c') rfl
 have y19:=HB04.out.cell 19 (v:=.slice t.RA t.Rn t.Rc) rfl
 have y20:=HB04.out.cell 20 (v:=.int .i64 t.md) rfl
 have y21:=HB04.out.cell 21 (v:=.int .i64 t.pv) rfl
 have y22:=HB04.out.cell 22 (v:=.slice t.A t.n t.c) rfl
 have f19:=HB04.out.free 19
 have f20:=HB04.out.free 20
 have f21:=HB04.out.free 21
 have f22:=HB04.out.free 22
 have HOk4:=Lib.hid (HOk3.out.up p5)
 have HRd4:=Lib.hid (HRd.out.up p5)
 clear p2 p3 p4 p5 p6 p7 HK HL HN HT HBM HS4 HG4 HB03 HB13 HOk3 H5 HRd hbw3 HCd
 go_cut [] (fun w' => Sb w' w.heap.size ({ t with RA:=RA,Rn:=Rn,Rc:=Rc,rs:=rs,md:=md',pv:=pv',A:=A',n:=n',c:=c',xs:=xs' } : Trm).vals.toArray 53 ∧ w4.grownBy w' (some w.heap.size))
 case first =>
  refine wp_region_held_drew (S:=(fun w' => w'.cell? ⟨g5,0,none⟩ = some (.slice RA Rn Rc) ∧ w'.cell? ⟨g7,0,none⟩ = some (.int .i64 md') ∧ w'.cell? ⟨g7,1,none⟩ = some (.int .i64 pv') ∧ w'.cell? ⟨g7,2,none⟩ = some (.slice A' n' c'))) (by kernel_rfl) ?_ (fun hHeld => ?_)
  ·(try dsimp only);(first|assumption|exact ⟨x50,x70,x71,x72⟩|exact ⟨CELAX,CELAX,CELAX,CELAX⟩)
  refine tkQ 0 ?_
  refine tkQ 1 ?_
  refine tkQ 2 ?_
  (try simp only [Act.put,zP1,zP2,zP3,zP4,zP5,zP6])
  refine arO 3 (fun K hK => ?_)
  go_simp
  refine hK.out _ _ ?_ (fun hHeld => ?_)
  ·(try dsimp only);(first|assumption|exact ⟨x50,x70,x71,x72⟩|exact ⟨CELAX,CELAX,CELAX,CELAX⟩)
  clear hK K
  (try simp only [Act.put,zP1,zP2,zP3,zP4,zP5,zP6])
  refine tkQ 4 ?_
  (try simp only [Act.put,zP1,zP2,zP3,zP4,zP5,zP6])
  refine arO 5 (fun K hK => ?_)
  go_simp
  refine hK.out _ _ ?_ (fun hHeld => ?_)
  ·(try dsimp only);(first|assumption|exact ⟨x50,x70,x71,x72⟩|exact ⟨CELAX,CELAX,CELAX,CELAX⟩)
  clear hK K
  (try simp only [Act.put,zP1,zP2,zP3,zP4,zP5,zP6])
  refine wpAnyH_done (by kernel_rfl) ?_ _
  go_wp2
  go_meet
  case rel =>
   refine ⟨?_,?_⟩
   ·first|exact ((((HB04.out.set 19 _ rfl).set 20 _ rfl).set 21 _ rfl).set 22 _ rfl).up BWX|exact (((((HB04.out.up (Bw.drew (Bw.refl _))).set 19 _ rfl).set 20 _ rfl).set 21 _ rfl).set 22 _ rfl)
   ·first|exact grown_drew (grown_set (grown_set (grown_set (grown_set (grown_refl w4 _) 19 _) 20 _) 21 _) 22 _)|exact grown_set (grown_set (grown_set (grown_set (grown_drew (grown_refl w4 _)) 19 _) 20 _) 21 _) 22 _
 case rest =>
 obtain ⟨hTB,hgc⟩:=hcut
 obtain ⟨W,rfl⟩ : ∃ W,W = wc:=⟨_,rfl⟩
 have hTA:=HP3.out.ne HB04.out (show 53 ≠ 3 by decide)
 have HOkc:=Lib.hid (show ({ t with RA:=RA,Rn:=Rn,Rc:=Rc,rs:=rs,md:=md',pv:=pv',A:=A',n:=n',c:=c',xs:=xs' } : Trm).Ok W (B + 231 * (0 : Nat)) from
  ⟨HOk4.out.1.far hgc (fun ad e e2 => by have:=HsA.out ad e;have e3:=Option.some.inj e2;omega),⟨HRd4.out.far0 hgc (fun h0 => HRd4.out.ne_sbf h0 HB04.out t.no8),r1,r2,HVD.out,hR4',H255.out⟩,HP2.out.far0 hgc (fun _ => hTA),HP3.out.far hgc hTA,HOk4.out.2.2.2.2.1,HOk4.out.2.2.2.2.2.1.far0 hgc (fun h0 ad e e2 => by have:=HHA.out h0 ad e;have e3:=Option.some.inj e2;omega),HOk4.out.2.2.2.2.2.2.1,HOk4.out.2.2.2.2.2.2.2.1,HOk4.out.2.2.2.2.2.2.2.2.1,HOk4.out.2.2.2.2.2.2.2.2.2.1,by have:=HOk4.out.2.2.2.2.2.2.2.2.2.2;simpa using this⟩)
 have HMc:=Lib.hid ((HM.out.up hbw4).far hgc (fun ad e e2 => by have:=HsA.out ad e;have e3:=Option.some.inj e2;omega))
 have HOc:=Lib.hid (HP4.out.far1 hgc (fun _ ad e e2 => by have:=HP6.out ad e;have e3:=Option.some.inj e2;omega) (fun o ho _ ad e e2 => by have:=HP7.out o ho ad e;have e3:=Option.some.inj e2;omega))
 have HTB:=Lib.hid hTB
 have HB1c:=Lib.hid (Exists.elim HB14.out (fun old h => (⟨old,h.1.far hgc (by intro e;have:=Option.some.inj e;omega),h.2⟩ : ∃ old,Sb W (w.heap.size + 1) old 53 ∧ old.size = 26 ∧ ∀ (i : Nat) (x : Int),old[i]? ≠ some (.int .u8 x))))
 have hbwc : Bw w W:=Bw.grown hbw4 hgc (fun k hk => by cases hk;omega)
 have hzc : w.heap.size + 1 < W.heap.size:=by have:=hgc.size;omega
 have HP6c:=Lib.hid (show ∀ ad,O = some ad → w.heap.size + 1 < ad.block from fun ad e => by have:=HP6.out ad e;omega)
 have HP7c:=Lib.hid (show ∀ o ∈ l,∀ ad,o.A = some ad → w.heap.size + 1 < ad.block from fun o ho ad e => by have:=HP7.out o ho ad e;omega)
 have hHsz:=HOk4.out.2.2.2.2.2.2.2.2.1
 clear hTB hgc hTA x50 x70 x71 x72 y19 y20 y21 y22 f19 f20 f21 f22 HB04 HB14 HOk4 HRd4 HP2 HP3 HP4 HP6 HP7 hbw4
 go_wp2_with fail
 go_loopw [9] (fun i wr => ∃ k : Nat,i = .int .i64 k ∧ k ≤ m ∧ FeedR w W t t (fun k => stepsX t.s.Rn t.s.Cn K ((l.map OpR.sp).take k)) (rs,md',pv',xs') B O m l k wr) (fun i _ => m - (intOf i).toNat)
 case atStart => exact ⟨0,rfl,by omega,_,HTB.out,HOkc.out,⟨rfl,rfl,rfl⟩,.inl rfl,.inl ⟨rfl,rfl⟩,HOc.out,HB1c.out,hbwc,Nat.le_refl _,HMc.out,rfl⟩
 case round =>
  rename_i wr
  obtain ⟨k,rfl,hk,tr,hT,hOk,hsz,hpA,hpH,hO,hB,hbr,hzr,hKm,hGG⟩:=hrel
  (try dsimp only at hKm)
  have HKm0:=Lib.hid hKm
  have HGG:=Lib.hid hGG
  clear hKm hGG
  obtain ⟨hsz1,hsz2,hsz3⟩:=hsz
  have HT:=Lib.hid hT
  have HOk:=Lib.hid hOk
  have HPA:=Lib.hid hpA
  have HPH:=Lib.hid hpH
  have HO:=Lib.hid hO
  have HB:=Lib.hid hB
  have HSZ:=Lib.hid (And.intro hsz1 (And.intro hsz2 hsz3))
  have hz5 : w.heap.size + 1 < wr.heap.size:=by omega
  have hz05 : w.heap.size < wr.heap.size:=by omega
  have HtA:=Lib.hid (show ∀ ad,tr.s.A = some ad → ad.block ≠ w.heap.size ∧ ad.block ≠ w.heap.size + 1 from fun ad e => by
   rcases hpA with h|h
   ·have:=HsA.out ad (by rw [← h];exact e);omega
   ·have:=h ad e;omega)
  have HtH:=Lib.hid (show 0 < tr.Hn → ∀ ad,tr.HA = some ad → ad.block ≠ w.heap.size ∧ ad.block ≠ w.heap.size + 1 from fun h0 ad e => by
   rcases hpH with h|h
   ·have:=HHA.out (by rw [← h.2];exact h0) ad (by rw [← h.1];exact e);omega
   ·have:=h ad e;omega)
  clear hT hOk hpA hpH hO hB hsz1 hsz2 hsz3
  by_cases hlt : k < m
  ·have hkl : k < l.length:=by rw [HO.out.1];exact hlt
   obtain ⟨go,oo,sp,hOe⟩ : ∃ go oo sp,O = some ⟨go,oo,sp⟩:=by
    rcases hO0 : O with _|⟨a,b,c⟩
    ·exact absurd (HO.out.2.2.1 hO0) (by omega)
    ·exact ⟨a,b,c,rfl⟩
   subst hOe
   obtain rfl : sp = none:=HSP.out _ rfl
   have hcl:=fun j (hj : j < 4) u (hu : (l[k]).vals[j]? = some u) => HO.out.2.2.2 _ rfl (k * 4 + j) u ((opsV_at l k hkl j hj).trans hu)
   simp only [Addr.add_mid] at hcl
   have hopk:=HO.out.2.1 _ (List.getElem_mem hkl)
   obtain ⟨⟨kd,f,pvo,PA,pn,pc,pxs⟩,hop⟩ : ∃ o,l[k] = o:=⟨_,rfl⟩
   rw [hop] at hcl hopk
   have o0:=hcl 0 (by omega) (.int .i64 kd) rfl
   have o1:=hcl 1 (by omega) (.int .i64 f) rfl
   have o2:=hcl 2 (by omega) (.int .i64 pvo) rfl
   have o3:=hcl 3 (by omega) (.slice PA pn pc) rfl
   rw [Nat.add_zero] at o0
   rw [← Nat.add_assoc] at o1 o2 o3
   have HOpk:=Lib.hid hopk
   obtain ⟨Kk,hKk⟩ : ∃ Kk,stepsX t.s.Rn t.s.Cn K ((l.map OpR.sp).take k) = Kk:=⟨_,rfl⟩
   have HKm:=Lib.hid (show Mt wr tr.s Kk by rw [← hKk];exact HKm0.out)
   have HTK:=Lib.hid (show stepsX t.s.Rn t.s.Cn K ((l.map OpR.sp).take (k + 1)) = stepX t.s.Rn t.s.Cn Kk (kd,f,pvo,pxs) by
    rw [List.take_add_one,List.getElem?_map,List.getElem?_eq_getElem hkl,hop,← hKk]
    exact stepsX_snoc _ _ _ _ _)
   clear hcl hop hopk hKk HKm0
   go_upto_region 9 with (fail)
   go_cut [10,11] from 34 to 57 (fun v10 v11 w' => ∃ (g10 : Nat) (s' : Scr) (L : Option Addr) (mL cL : Nat),v10 = .pointer (some ⟨g10,0,none⟩) ∧ v11 = .slice L mL cL ∧ wr.heap.size ≤ g10 ∧ Sb w' g10 s'.vals.toArray 46 ∧ s'.Ok w' ∧ s'.Rn = tr.s.Rn ∧ s'.Cn = tr.s.Cn ∧ An wr tr.s.A s'.A ∧ Ls w' L mL ∧ (∀ ad,L = some ad → wr.heap.size ≤ ad.block) ∧ mL ≤ 31 ∧ mL ≤ cL ∧ cL ≤ 9223372036854775807 ∧ Bw wr w' ∧ Mt w' s' (stepX t.s.Rn t.s.Cn Kk (kd,f,pvo,pxs)))
   case first =>
    have hgo:=lt_of_cell o0
    dsimp only at hgo
    have hY:=(show ∀ w',Bw wr w' → (w'.cell? ⟨go,oo + k * 4,none⟩ = some (.int .i64 kd) ∧ w'.cell? ⟨go,oo + k * 4 + 1,none⟩ = some (.int .i64 f) ∧ w'.cell? ⟨go,oo + k * 4 + 2,none⟩ = some (.int .i64 pvo) ∧ w'.cell? ⟨go,oo + k * 4 + 3,none⟩ = some (.slice PA pn pc)) from fun w' hb => ⟨cell_up o0 hb,cell_up o1 hb,cell_up o2 hb,cell_up o3 hb⟩)
    have hYg:=(show ∀ w' w'' g,Bw wr w' → wr.heap.size ≤ g → w'.grownBy w'' (some g) → (w''.cell? ⟨go,oo + k * 4,none⟩ = some (.int .i64 kd) ∧ w''.cell? ⟨go,oo + k * 4 + 1,none⟩ = some (.int .i64 f) ∧ w''.cell? ⟨go,oo + k * 4 + 2,none⟩ = some (.int .i64 pvo) ∧ w''.cell? ⟨go,oo + k * 4 + 3,none⟩ = some (.slice PA pn pc)) from fun w' w'' g hb hg hgr => ⟨cell_far (cell_up o0 hb) hgr (by intro e;have:=Option.some.inj e;omega),cell_far (cell_up o1 hb) hgr (by intro e;have:=Option.some.inj e;omega),cell_far (cell_up o2 hb) hgr (by intro e;have:=Option.some.inj e;omega),cell_far (cell_up o3 hb) hgr (by intro e;have:=Option.some.inj e;omega)⟩)
    have HY:=Lib.hid hY
    have HYg:=Lib.hid hYg
    clear hY hYg o0 o1 o2 o3
    refine wp_region_held_drew (S:=(fun w' => w'.cell? ⟨go,oo + k * 4,none⟩ = some (.int .i64 kd) ∧ w'.cell? ⟨go,oo + k * 4 + 1,none⟩ = some (.int .i64 f) ∧ w'.cell? ⟨go,oo + k * 4 + 2,none⟩ = some (.int .i64 pvo) ∧ w'.cell? ⟨go,oo + k * 4 + 3,none⟩ = some (.slice PA pn pc))) (by kernel_rfl) ?_ (fun hHeld => ?_)
    ·(try dsimp only);(first|(refine HY.out _ ?_;(repeat (first|with_reducible (first|assumption|exact Bw.refl _|refine Bw.alloc ?_ _|refine Bw.more ?_ _ _|refine Bw.drew ?_|refine Bw.drewN ?_ _)|((with_reducible refine Bw.set2 ?_ ?_ _);(focus exact SZX))|with_reducible refine Bw.trans ?_ (by assumption)));done)|exact hHeld|(exact HYg.out _ _ _ BWX (by simp only [szA,szS,szD,szN] at *;omega) HG3.out))
    refine tkQ 0 ?_
    refine tkQ 2 ?_
    (try simp only [Act.put,zP1,zP2,zP3,zP4,zP5,zP6])
    refine tkQ 3 ?_
    refine tkQ 4 ?_
    refine tkQ 5 ?_
    (try simp only [Act.put,zP1,zP2,zP3,zP4,zP5,zP6])
    refine wpAnyH_ready (rs:=[1,10]) (by kernel_rfl) (by simp) ?_
    refine AllReadyH.cons rfl (fun K hK => ?_) ?_
    ·(refine (if_pos (by kernel_rfl)).mpr ?_);((with_reducible refine wp_load_ts tr w.heap.size (.tmp 41) ?_ ?_ ?_ ?_);(focus rfl);(focus rfl);(focus (exact HT.out.up BWX)))
     refine hK.out _ _ ?_ (fun hHeld => ?_)
     ·(try dsimp only);(first|(refine HY.out _ ?_;(repeat (first|with_reducible (first|assumption|exact Bw.refl _|refine Bw.alloc ?_ _|refine Bw.more ?_ _ _|refine Bw.drew ?_|refine Bw.drewN ?_ _)|((with_reducible refine Bw.set2 ?_ ?_ _);(focus exact SZX))|with_reducible refine Bw.trans ?_ (by assumption)));done)|exact hHeld|(exact HYg.out _ _ _ BWX (by simp only [szA,szS,szD,szN] at *;omega) HG3.out))
     clear hK K
     (try simp only [Act.put,zP1,zP2,zP3,zP4,zP5,zP6])
     refine wpAnyH_ready (rs:=[6,10]) (by kernel_rfl) (by simp) ?_
     refine AllReadyH.cons rfl (fun K hK => ?_) ?_
     ·go_simp
      refine (rsapply_x tr.s Kk kd f pvo PA pn pc pxs _ (HOk.out.1.up BWX) (HKm.out.up BWX) (by exact HOpk.out.1.up BWX) HOpk.out.2.1 HOpk.out.2.2.1 HOpk.out.2.2.2).mono ?_;rintro ee wn ⟨s',L,mL,cL,e1,e2,rfl,hOk',hAn,hLs,hLn,hm1,hm2,hm3,hbn,hMt⟩;rw [HSZ.out.1,HSZ.out.2.1] at hMt;have HMT:=Lib.hid hMt;clear hMt;have hzn:=hbn.size;have HOk':=Lib.hid hOk';have HAn:=Lib.hid hAn;have HLs:=Lib.hid hLs;have HLn:=Lib.hid hLn;have HE:=Lib.hid (And.intro e1 e2);clear hOk' hAn hLs hLn e1 e2;go_wp2_with fail
      refine hK.out _ _ ?_ (fun hHeld => ?_)
      ·(try dsimp only);(first|(refine HY.out _ ?_;(repeat (first|with_reducible (first|assumption|exact Bw.refl _|refine Bw.alloc ?_ _|refine Bw.more ?_ _ _|refine Bw.drew ?_|refine Bw.drewN ?_ _)|((with_reducible refine Bw.set2 ?_ ?_ _);(focus exact SZX))|with_reducible refine Bw.trans ?_ (by assumption)));done)|exact hHeld|(exact HYg.out _ _ _ BWX (by simp only [szA,szS,szD,szN] at *;omega) HG3.out))
      clear hK K
      (try simp only [Act.put,zP1,zP2,zP3,zP4,zP5,zP6])
      refine tkQ 7 ?_
      refine tkQ 8 ?_
      refine tkQ 9 ?_
      (try simp only [Act.put,zP1,zP2,zP3,zP4,zP5,zP6])
      refine arO 10 (fun K hK => ?_)
      go_simp;(generalize hw8 : World.alloc _ (.cells _ 46) = w8);obtain ⟨hS8,hb8,hz8⟩:=sb1 hw8;have HS8:=Lib.hid hS8;clear hw8 hS8
      refine hK.out _ _ ?_ (fun hHeld => ?_)
      ·(try dsimp only);(first|(refine HY.out _ ?_;(repeat (first|with_reducible (first|assumption|exact Bw.refl _|refine Bw.alloc ?_ _|refine Bw.more ?_ _ _|refine Bw.drew ?_|refine Bw.drewN ?_ _)|((with_reducible refine Bw.set2 ?_ ?_ _);(focus exact SZX))|with_reducible refine Bw.trans ?_ (by assumption)));done)|exact hHeld|(exact HYg.out _ _ _ BWX (by simp only [szA,szS,szD,szN] at *;omega) HG3.out))
      clear hK K
      (try simp only [Act.put,zP1,zP2,zP3,zP4,zP5,zP6])
      refine arO 11 (fun K hK => ?_)
      (refine (if_pos (by kernel_rfl)).mpr ?_);(first|((with_reducible refine wp_store_sc s' wn.heap.size (.tmp 10) (.tmp 48) ?_ ?_ ?_ ?_ ?_);(focus rfl);(focus rfl);(focus rfl);(focus (exact ⟨_,HS8.out.up BWX,rfl⟩)))|((with_reducible refine wp_store_sc s' wr.heap.size (.tmp 10) (.tmp 48) ?_ ?_ ?_ ?_ ?_);(focus rfl);(focus rfl);(focus rfl);(focus (exact ⟨_,HS8.out.up BWX,rfl⟩))));intro w3 hS3 hg3;have HS3:=Lib.hid hS3;have HG3:=Lib.hid hg3;clear hS3 hg3
      refine hK.out _ _ ?_ (fun hHeld => ?_)
      ·(try dsimp only);(first|(refine HY.out _ ?_;(repeat (first|with_reducible (first|assumption|exact Bw.refl _|refine Bw.alloc ?_ _|refine Bw.more ?_ _ _|refine Bw.drew ?_|refine Bw.drewN ?_ _)|((with_reducible refine Bw.set2 ?_ ?_ _);(focus exact SZX))|with_reducible refine Bw.trans ?_ (by assumption)));done)|exact hHeld|(exact HYg.out _ _ _ BWX (by simp only [szA,szS,szD,szN] at *;omega) HG3.out))
      clear hK K
      (try simp only [Act.put,zP1,zP2,zP3,zP4,zP5,zP6])
      refine arO 12 (fun K hK => ?_)
      go_simp
      refine hK.out _ _ ?_ (fun hHeld => ?_)
      ·(try dsimp only);(first|(refine HY.out _ ?_;(repeat (first|with_reducible (first|assumption|exact Bw.refl _|refine Bw.alloc ?_ _|refine Bw.more ?_ _ _|refine Bw.drew ?_|refine Bw.drewN ?_ _)|((with_reducible refine Bw.set2 ?_ ?_ _);(focus exact SZX))|with_reducible refine Bw.trans ?_ (by assumption)));done)|exact hHeld|(exact HYg.out _ _ _ BWX (by simp only [szA,szS,szD,szN] at *;omega) HG3.out))
      clear hK K
      (try simp only [Act.put,zP1,zP2,zP3,zP4,zP5,zP6])
      refine wpAnyH_done (by kernel_rfl) ?_ _
      go_wp2
      go_meet
      case rel =>
       have hq1:=HG3.out
       have hq2:=HS3.out
       obtain ⟨p1,p2,p3,p4,p5,p6,p7⟩:=feed_p9 (wr:=wr) (show Bw wr _ from BWX) hbn (show Bw wn _ from BWX) (by simp only [szA,szS,szD,szN] at *;first|(left;omega)|(right;omega)) hq1 HOk.out.1 HOk'.out HAn.out HLs.out HLn.out HMT.out
       exact ⟨_,s',L,mL,cL,rfl,rfl,p6,hq2,p1,HE.out.1,HE.out.2,p2,p3,p4,hm1,hm2,hm3,p5,p7⟩
     refine AllReadyH.cons rfl (fun K hK => ?_) ?_
     ·go_simp;(generalize hw8 : World.alloc _ (.cells _ 46) = w8);obtain ⟨hS8,hb8,hz8⟩:=sb1 hw8;have HS8:=Lib.hid hS8;clear hw8 hS8
      refine hK.out _ _ ?_ (fun hHeld => ?_)
      ·(try dsimp only);(first|(refine HY.out _ ?_;(repeat (first|with_reducible (first|assumption|exact Bw.refl _|refine Bw.alloc ?_ _|refine Bw.more ?_ _ _|refine Bw.drew ?_|refine Bw.drewN ?_ _)|((with_reducible refine Bw.set2 ?_ ?_ _);(focus exact SZX))|with_reducible refine Bw.trans ?_ (by assumption)));done)|exact hHeld|(exact HYg.out _ _ _ BWX (by simp only [szA,szS,szD,szN] at *;omega) HG3.out))
      clear hK K
      (try simp only [Act.put,zP1,zP2,zP3,zP4,zP5,zP6])
      refine arO 6 (fun K hK => ?_)
      go_simp
      refine (rsapply_x tr.s Kk kd f pvo PA pn pc pxs _ (HOk.out.1.up BWX) (HKm.out.up BWX) (by exact HOpk.out.1.up BWX) HOpk.out.2.1 HOpk.out.2.2.1 HOpk.out.2.2.2).mono ?_;rintro ee wn ⟨s',L,mL,cL,e1,e2,rfl,hOk',hAn,hLs,hLn,hm1,hm2,hm3,hbn,hMt⟩;rw [HSZ.out.1,HSZ.out.2.1] at hMt;have HMT:=Lib.hid hMt;clear hMt;have hzn:=hbn.size;have HOk':=Lib.hid hOk';have HAn:=Lib.hid hAn;have HLs:=Lib.hid hLs;have HLn:=Lib.hid hLn;have HE:=Lib.hid (And.intro e1 e2);clear hOk' hAn hLs hLn e1 e2;go_wp2_with fail
      refine hK.out _ _ ?_ (fun hHeld => ?_)
      ·(try dsimp only);(first|(refine HY.out _ ?_;(repeat (first|with_reducible (first|assumption|exact Bw.refl _|refine Bw.alloc ?_ _|refine Bw.more ?_ _ _|refine Bw.drew ?_|refine Bw.drewN ?_ _)|((with_reducible refine Bw.set2 ?_ ?_ _);(focus exact SZX))|with_reducible refine Bw.trans ?_ (by assumption)));done)|exact hHeld|(exact HYg.out _ _ _ BWX (by simp only [szA,szS,szD,szN] at *;omega) HG3.out))
      clear hK K
      (try simp only [Act.put,zP1,zP2,zP3,zP4,zP5,zP6])
      refine tkQ 7 ?_
      refine tkQ 8 ?_
      refine tkQ 9 ?_
      (try simp only [Act.put,zP1,zP2,zP3,zP4,zP5,zP6])
      refine arO 11 (fun K hK => ?_)
      (refine (if_pos (by kernel_rfl)).mpr ?_);(first|((with_reducible refine wp_store_sc s' wn.heap.size (.tmp 10) (.tmp 48) ?_ ?_ ?_ ?_ ?_);(focus rfl);(focus rfl);(focus rfl);(focus (exact ⟨_,HS8.out.up BWX,rfl⟩)))|((with_reducible refine wp_store_sc s' wr.heap.size (.tmp 10) (.tmp 48) ?_ ?_ ?_ ?_ ?_);(focus rfl);(focus rfl);(focus rfl);(focus (exact ⟨_,HS8.out.up BWX,rfl⟩))));intro w3 hS3 hg3;have HS3:=Lib.hid hS3;have HG3:=Lib.hid hg3;clear hS3 hg3
      refine hK.out _ _ ?_ (fun hHeld => ?_)
      ·(try dsimp only);(first|(refine HY.out _ ?_;(repeat (first|with_reducible (first|assumption|exact Bw.refl _|refine Bw.alloc ?_ _|refine Bw.more ?_ _ _|refine Bw.drew ?_|refine Bw.drewN ?_ _)|((with_reducible refine Bw.set2 ?_ ?_ _);(focus exact SZX))|with_reducible refine Bw.trans ?_ (by assumption)));done)|exact hHeld|(exact HYg.out _ _ _ BWX (by simp only [szA,szS,szD,szN] at *;omega) HG3.out))
      clear hK K
      (try simp only [Act.put,zP1,zP2,zP3,zP4,zP5,zP6])
      refine arO 12 (fun K hK => ?_)
      go_simp
      refine hK.out _ _ ?_ (fun hHeld => ?_)
      ·(try dsimp only);(first|(refine HY.out _ ?_;(repeat (first|with_reducible (first|assumption|exact Bw.refl _|refine Bw.alloc ?_ _|refine Bw.more ?_ _ _|refine Bw.drew ?_|refine Bw.drewN ?_ _)|((with_reducible refine Bw.set2 ?_ ?_ _);(focus exact SZX))|with_reducible refine Bw.trans ?_ (by assumption)));done)|exact hHeld|(exact HYg.out _ _ _ BWX (by simp only [szA,szS,szD,szN] at *;omega) HG3.out))
      clear hK K
      (try simp only [Act.put,zP1,zP2,zP3,zP4,zP5,zP6])
      refine wpAnyH_done (by kernel_rfl) ?_ _
      go_wp2
      go_meet
      case rel =>
       have hq1:=HG3.out
       have hq2:=HS3.out
       obtain ⟨p1,p2,p3,p4,p5,p6,p7⟩:=feed_p9 (wr:=wr) (show Bw wr _ from BWX) hbn (show Bw wn _ from BWX) (by simp only [szA,szS,szD,szN] at *;first|(left;omega)|(right;omega)) hq1 HOk.out.1 HOk'.out HAn.out HLs.out HLn.out HMT.out
       exact ⟨_,s',L,mL,cL,rfl,rfl,p6,hq2,p1,HE.out.1,HE.out.2,p2,p3,p4,hm1,hm2,hm3,p5,p7⟩
     exact AllReadyH.nil
    refine AllReadyH.cons rfl (fun K hK => ?_) ?_
    ·go_simp;(generalize hw8 : World.alloc _ (.cells _ 46) = w8);obtain ⟨hS8,hb8,hz8⟩:=sb1 hw8;have HS8:=Lib.hid hS8;clear hw8 hS8
     refine hK.out _ _ ?_ (fun hHeld => ?_)
     ·(try dsimp only);(first|(refine HY.out _ ?_;(repeat (first|with_reducible (first|assumption|exact Bw.refl _|refine Bw.alloc ?_ _|refine Bw.more ?_ _ _|refine Bw.drew ?_|refine Bw.drewN ?_ _)|((with_reducible refine Bw.set2 ?_ ?_ _);(focus exact SZX))|with_reducible refine Bw.trans ?_ (by assumption)));done)|exact hHeld|(exact HYg.out _ _ _ BWX (by simp only [szA,szS,szD,szN] at *;omega) HG3.out))
     clear hK K
     (try simp only [Act.put,zP1,zP2,zP3,zP4,zP5,zP6])
     refine arO 1 (fun K hK => ?_)
     (refine (if_pos (by kernel_rfl)).mpr ?_);((with_reducible refine wp_load_ts tr w.heap.size (.tmp 41) ?_ ?_ ?_ ?_);(focus rfl);(focus rfl);(focus (exact HT.out.up BWX)))
     refine hK.out _ _ ?_ (fun hHeld => ?_)
     ·(try dsimp only);(first|(refine HY.out _ ?_;(repeat (first|with_reducible (first|assumption|exact Bw.refl _|refine Bw.alloc ?_ _|refine Bw.more ?_ _ _|refine Bw.drew ?_|refine Bw.drewN ?_ _)|((with_reducible refine Bw.set2 ?_ ?_ _);(focus exact SZX))|with_reducible refine Bw.trans ?_ (by assumption)));done)|exact hHeld|(exact HYg.out _ _ _ BWX (by simp only [szA,szS,szD,szN] at *;omega) HG3.out))
     clear hK K
     (try simp only [Act.put,zP1,zP2,zP3,zP4,zP5,zP6])
     refine arO 6 (fun K hK => ?_)
     go_simp
     refine (rsapply_x tr.s Kk kd f pvo PA pn pc pxs _ (HOk.out.1.up BWX) (HKm.out.up BWX) (by exact HOpk.out.1.up BWX) HOpk.out.2.1 HOpk.out.2.2.1 HOpk.out.2.2.2).mono ?_;rintro ee wn ⟨s',L,mL,cL,e1,e2,rfl,hOk',hAn,hLs,hLn,hm1,hm2,hm3,hbn,hMt⟩;rw [HSZ.out.1,HSZ.out.2.1] at hMt;have HMT:=Lib.hid hMt;clear hMt;have hzn:=hbn.size;have HOk':=Lib.hid hOk';have HAn:=Lib.hid hAn;have HLs:=Lib.hid hLs;have HLn:=Lib.hid hLn;have HE:=Lib.hid (And.intro e1 e2);clear hOk' hAn hLs hLn e1 e2;go_wp2_with fail
     refine hK.out _ _ ?_ (fun hHeld => ?_)
     ·(try dsimp only);(first|(refine HY.out _ ?_;(repeat (first|with_reducible (first|assumption|exact Bw.refl _|refine Bw.alloc ?_ _|refine Bw.more ?_ _ _|refine Bw.drew ?_|refine Bw.drewN ?_ _)|((with_reducible refine Bw.set2 ?_ ?_ _);(focus exact SZX))|with_reducible refine Bw.trans ?_ (by assumption)));done)|exact hHeld|(exact HYg.out _ _ _ BWX (by simp only [szA,szS,szD,szN] at *;omega) HG3.out))
     clear hK K
     (try simp only [Act.put,zP1,zP2,zP3,zP4,zP5,zP6])
     refine tkQ 7 ?_
     refine tkQ 8 ?_
     refine tkQ 9 ?_
     (try simp only [Act.put,zP1,zP2,zP3,zP4,zP5,zP6])
     refine arO 11 (fun K hK => ?_)
     (refine (if_pos (by kernel_rfl)).mpr ?_);(first|((with_reducible refine wp_store_sc s' wn.heap.size (.tmp 10) (.tmp 48) ?_ ?_ ?_ ?_ ?_);(focus rfl);(focus rfl);(focus rfl);(focus (exact ⟨_,HS8.out.up BWX,rfl⟩)))|((with_reducible refine wp_store_sc s' wr.heap.size (.tmp 10) (.tmp 48) ?_ ?_ ?_ ?_ ?_);(focus rfl);(focus rfl);(focus rfl);(focus (exact ⟨_,HS8.out.up BWX,rfl⟩))));intro w3 hS3 hg3;have HS3:=Lib.hid hS3;have HG3:=Lib.hid hg3;clear hS3 hg3
     refine hK.out _ _ ?_ (fun hHeld => ?_)
     ·(try dsimp only);(first|(refine HY.out _ ?_;(repeat (first|with_reducible (first|assumption|exact Bw.refl _|refine Bw.alloc ?_ _|refine Bw.more ?_ _ _|refine Bw.drew ?_|refine Bw.drewN ?_ _)|((with_reducible refine Bw.set2 ?_ ?_ _);(focus exact SZX))|with_reducible refine Bw.trans ?_ (by assumption)));done)|exact hHeld|(exact HYg.out _ _ _ BWX (by simp only [szA,szS,szD,szN] at *;omega) HG3.out))
     clear hK K
     (try simp only [Act.put,zP1,zP2,zP3,zP4,zP5,zP6])
     refine arO 12 (fun K hK => ?_)
     go_simp
     refine hK.out _ _ ?_ (fun hHeld => ?_)
     ·(try dsimp only);(first|(refine HY.out _ ?_;(repeat (first|with_reducible (first|assumption|exact Bw.refl _|refine Bw.alloc ?_ _|refine Bw.more ?_ _ _|refine Bw.drew ?_|refine Bw.drewN ?_ _)|((with_reducible refine Bw.set2 ?_ ?_ _);(focus exact SZX))|with_reducible refine Bw.trans ?_ (by assumption)));done)|exact hHeld|(exact HYg.out _ _ _ BWX (by simp only [szA,szS,szD,szN] at *;omega) HG3.out))
     clear hK K
     (try simp only [Act.put,zP1,zP2,zP3,zP4,zP5,zP6])
     refine wpAnyH_done (by kernel_rfl) ?_ _
     go_wp2
     go_meet
     case rel =>
      have hq1:=HG3.out
      have hq2:=HS3.out
      obtain ⟨p1,p2,p3,p4,p5,p6,p7⟩:=feed_p9 (wr:=wr) (show Bw wr _ from BWX) hbn (show Bw wn _ from BWX) (by simp only [szA,szS,szD,szN] at *;first|(left;omega)|(right;omega)) hq1 HOk.out.1 HOk'.out HAn.out HLs.out HLn.out HMT.out
      exact ⟨_,s',L,mL,cL,rfl,rfl,p6,hq2,p1,HE.out.1,HE.out.2,p2,p3,p4,hm1,hm2,hm3,p5,p7⟩
    exact AllReadyH.nil
   case rest =>
    obtain ⟨wd,rfl⟩ : ∃ wd,wd = wc:=⟨_,rfl⟩
    obtain ⟨g10,s',L,mL,cL,rfl,rfl,p0,p1,p2,e1,e2,p3,p4,p5,hm1,hm2,hm3,p6,p7⟩:=hcut
    have HMd:=Lib.hid p7
    clear p7
    have hzd:=p6.size
    have HTd:=Lib.hid (HT.out.up p6)
    have hs'A : ∀ ad,s'.A = some ad → some ad.block ≠ some w.heap.size:=fun ad e e3 => by
     have e4:=Option.some.inj e3
     rcases p3 with h|h
     ·have:=(HtA.out ad (by rw [← h];exact e)).1;omega
     ·have:=h ad e;omega
    have HPA2:=Lib.hid (show Pl W.heap.size t.s.A s'.A from by
     rcases p3 with h|h
     ·rw [h];exact HPA.out
     ·exact .inr (fun ad e => by have:=h ad e;omega))
    have hokd : ({ tr with s:=s' } : Trm).Ok wd (B + 231 * k):=⟨p2,(HOk.out.up p6).2⟩
    have HOkd:=Lib.hid hokd
    have HLd:=Lib.hid p4
    have HLn:=Lib.hid p5
    have HP1:=Lib.hid p1
    have HS'A:=Lib.hid hs'A
    have HE:=Lib.hid (And.intro e1 e2)
    have HPr:=Lib.hid p6
    have hbd : Bw w wd:=Bw.trans hbr p6
    clear p1 p2 p3 p4 p5 hs'A e1 e2 hokd o0 o1 o2 o3 p6
    go_upto_region 11 with (first
     | ((with_reducible refine wpList_load_sc s' g10 (.tmp 10) rfl rfl ?_ ?_ ?_);(focus rfl);(focus (exact HP1.out)))
     | ((with_reducible refine wpList_store_ts tr s' w.heap.size (.tmp 51) (.tmp 50) rfl rfl ?_ ?_ ?_ ?_);(focus rfl);(focus rfl);(focus (exact HTd.out));intro we hS5 hg5;have HS5:=Lib.hid hS5;have HG5:=Lib.hid hg5;clear hS5 hg5)
     | fail)
    have hge:=HG5.out
    have HOke:=Lib.hid (HOkd.out.far hge HS'A.out (fun h0 => HOkd.out.2.1.1.ne_sbf h0 HTd.out tr.no8) (HOkd.out.2.2.2.1.ne HTd.out (show 53 ≠ 3 by decide)) (fun h0 ad e e3 => (HtH.out h0 ad e).1 (Option.some.inj e3)))
    have HMe:=Lib.hid (HMd.out.far hge HS'A.out)
    have HLe:=Lib.hid (HLd.out.far0 hge (fun _ ad e e3 => by have:=HLn.out ad e;have e4:=Option.some.inj e3;omega))
    have HOe:=Lib.hid ((HO.out.up HPr.out).far1 hge (fun _ ad e e3 => by have:=HP6c.out ad e;have e4:=Option.some.inj e3;omega) (fun o ho _ ad e e3 => by have:=HP7c.out o ho ad e;have e4:=Option.some.inj e3;omega))
    have HBe:=Lib.hid (Exists.elim HB.out (fun old h => (⟨old,(h.1.up HPr.out).far hge (by intro e;have:=Option.some.inj e;omega),h.2⟩ : ∃ old,Sb we (w.heap.size + 1) old 53 ∧ old.size = 26 ∧ ∀ (i : Nat) (x : Int),old[i]? ≠ some (.int .u8 x))))
    have hbe : Bw w we:=Bw.grown hbd hge (fun k hk => by cases hk;omega)
    have hze : W.heap.size ≤ we.heap.size:=by have:=hge.size;omega
    clear HOkd HLd HTd HP1 HG5 hge
    by_cases hmL : mL = 0
    ·go_wp2_with fail
     go_roundw
     case rel =>
      exact ⟨k + 1,by go_num,by omega,{ tr with s:=s' },HS5.out,Trm.Ok.more HOke.out (by omega),⟨HE.out.1.trans HSZ.out.1,HE.out.2.trans HSZ.out.2.1,HSZ.out.2.2⟩,HPA2.out,HPH.out,HOe.out,HBe.out,hbe,hze,by dsimp only;rw [HTK.out];exact HMe.out,HGG.out⟩
     case measure => simp [intOf];omega
    ·have hmp : 0 < mL:=by omega
     have hz6 : w.heap.size + 1 < we.heap.size:=by omega
     have hkeep:=HOke.out.2.2.2.2.1
     have hHn:=HOke.out.2.2.2.2.2.2.2.2.1
     have hlost:=HOke.out.2.2.2.2.2.2.2.2.2
     go_wp2_with (first
      | ((with_reducible refine wpList_load_tr { tr with s:=s' } w.heap.size (.tmp 2) rfl rfl ?_ ?_ ?_);(focus rfl);(focus (exact HS5.out)))
      | (go_at_call 47;refine (raway_ok { tr with s:=s' } L mL cL _ (HOke.out.2.2.2.2.2.1.up BWX) HOke.out.2.2.2.2.2.2.1 HOke.out.2.2.2.2.2.2.2.1 (by have h1:=hHn;have h2:=hkeep;dsimp only at h1 h2 ⊢;omega) hkeep ⟨hlost.1,by have:=hlost.2;dsimp only at this ⊢;omega⟩ (HLe.out.up BWX) hmp hm1 hm2 hm3).mono ?_;rintro ee wf ⟨HA',Hn',Hc',lost',rfl,a1,a2,a3,a4,a5,a6,a7,a8⟩;have HA1:=Lib.hid a1;have HA2:=Lib.hid a2;have HA8:=Lib.hid a8;clear a1 a2 a8)
      | ((with_reducible refine wpList_store_tr { tr with s:=s',HA:=HA',Hn:=Hn',Hc:=Hc',lost:=lost' } w.heap.size (.tmp 2) (.tmp 57) rfl rfl ?_ ?_ ?_ ?_);(focus rfl);(focus rfl);(focus (exact ⟨_,HS5.out.up HA8.out,rfl⟩));intro wg hS6 hg6;have HS6:=Lib.hid hS6;have HG6:=Lib.hid hg6;clear hS6 hg6)
      | fail)
     go_roundw
     case rel =>
      have hb8:=HA8.out
      have hg6:=HG6.out
      have hokf : ({ tr with s:=s',HA:=HA',Hn:=Hn',Hc:=Hc',lost:=lost' } : Trm).Ok wf (B + 231 * ((k + 1 : Nat) : Int)):=by
       obtain ⟨c1,c2,c3,c4,c5,c6,c7,c8,c9,c10,c11⟩:=HOke.out.up hb8
       dsimp only at c11 a6 a7
       exact ⟨c1,c2,c3,c4,c5,HA1.out,a3,a4,a5,by show 0 ≤ lost';have:=c10;dsimp only at this;omega,by show lost' ≤ B + 231 * ((k + 1 : Nat) : Int);omega⟩
      have hsf:=hb8.size
      refine ⟨k + 1,by go_num,by omega,{ tr with s:=s',HA:=HA',Hn:=Hn',Hc:=Hc',lost:=lost' },HS6.out,hokf.far hg6 HS'A.out (fun h0 => hokf.2.1.1.ne_sbf h0 (HS5.out.up hb8) (Trm.no8 _)) (hokf.2.2.2.1.ne (HS5.out.up hb8) (show 53 ≠ 3 by decide)) (fun h0 ad e e3 => by have:=HA2.out ad e;have e4:=Option.some.inj e3;omega),⟨HE.out.1.trans HSZ.out.1,HE.out.2.trans HSZ.out.2.1,HSZ.out.2.2⟩,HPA2.out,.inr (fun ad e => by have:=HA2.out ad e;omega),(HOe.out.up hb8).far1 hg6 (fun _ ad e e3 => by have:=HP6c.out ad e;have e4:=Option.some.inj e3;omega) (fun o ho _ ad e e3 => by have:=HP7c.out o ho ad e;have e4:=Option.some.inj e3;omega),Exists.elim HBe.out (fun old h => ⟨old,(h.1.up hb8).far hg6 (by intro e;have:=Option.some.inj e;omega),h.2⟩),Bw.grown (Bw.trans hbe hb8) hg6 (fun k hk => by cases hk;omega),by have:=hg6.size;omega,by dsimp only;rw [HTK.out];exact (HMe.out.up hb8).far hg6 HS'A.out,HGG.out⟩
     case measure => simp [intOf];omega
  ·obtain rfl : k = m:=by omega
   go_wp2_with (first
    | ((with_reducible refine wpList_load_tr tr w.heap.size (.tmp 2) rfl rfl ?_ ?_ ?_);(focus rfl);(focus (exact HT.out)))
    | ((with_reducible refine wpList_store_tr tr (w.heap.size + 1) (.tmp 4) (.tmp 58) rfl rfl ?_ ?_ ?_ ?_);(focus rfl);(focus rfl);(focus (exact Exists.elim HB.out (fun old h => ⟨old,h.1,h.2.1⟩)));intro we hS5 hg5;have HS5:=Lib.hid hS5;have HG5:=Lib.hid hg5;clear hS5 hg5)
    | fail)
   refine bodyPost_ret (results_tr rfl _ _ (w.heap.size + 1) tr (by rfl) HS5.out) rfl ?_
   obtain ⟨oldb,hob,_,hne8⟩:=HB.out
   have hge:=HG5.out
   refine ⟨tr,rfl,Trm.Ok.more (HOk.out.far hge (fun ad e e2 => (HtA.out ad e).2 (Option.some.inj e2)) (fun h0 => HOk.out.2.1.1.ne_sbf h0 hob hne8) (HOk.out.2.2.2.1.ne hob (show 53 ≠ 3 by decide)) (fun h0 ad e e2 => (HtH.out h0 ad e).2 (Option.some.inj e2))) (by omega),HSZ.out.1,HSZ.out.2.1,HSZ.out.2.2,Pl.more HPA.out (by omega),PlH.more HPH.out (by omega),Bw.grown hbr hge (fun k hk => by cases hk;omega),?_,?_,?_⟩
   ·have h:=HKm0.out
    rw [show (l.map OpR.sp).take k = l.map OpR.sp from List.take_of_length_le (by rw [List.length_map,HO.out.1];exact Nat.le_refl _)] at h
    rw [HDC.out.2,HALL.out]
    exact h.far hge (fun ad e e2 => (HtA.out ad e).2 (Option.some.inj e2))
   ·rw [HDC.out.1]
    exact congrArg Prod.fst HGG.out
   ·rw [HDC.out.2,HALL.out]
    exact congrArg Prod.snd HGG.out
theorem rfeed_ok (t : Trm) (B : Int) (D : Option Addr) (nb cb : Nat) (bs : List Int) (w : World) (h : t.Ok w B) (hB : 0 ≤ B ∧ B ≤ 1000000000) (hD : Rd (.int .u8) w D nb bs) (hbc : nb ≤ cb) (hcb : cb ≤ 9223372036854775807) (hnb : nb ≤ 100000) (hbs : ∀ x ∈ bs,0 ≤ x ∧ x ≤ 255) : Calls Tryz.prog 22 #[.agg t.vals.toArray,.slice D nb cb] w (FeedP w t (B + 231 * 200000)) :=
 (rfeed_x t none B D nb cb bs w h (Mt.none_ _ _) hB hD hbc hcb hnb hbs).mono fun _ _ h => h.p
/-- A new terminal about a screen. -/
def newTrm (s' : Scr) (K : Int) : Trm:=⟨s',none,0,0,[],0,0,none,0,0,[],K,none,0,0,0⟩
theorem trm_built (s' : Scr) (K : Int) : Tryz.prog.built 53 [(0,.agg s'.vals.toArray),(3,.int .i64 K)] = some (newTrm s' K).vals.toArray:=by kernel_rfl
theorem wpList_build_trm {ops : Array Oper} {rest : List Oper} {o : Oper} {a : Act} {w : World} {Q : Exit → Act → World → Prop} (s' : Scr) (K : Int) (x y : Operand) (ho : o.op = .build 53 #[(0,x),(3,y)]) (hgd : o.guard = none) (hx : a.eval x = .agg s'.vals.toArray) (hy : a.eval y = .int .i64 K)
  (h : wpList Tryz.prog ops Q rest (a.put o.dst (.agg (newTrm s' K).vals.toArray)) w) : wpList Tryz.prog ops Q (o :: rest) a w:=by
 have e : ((#[(0,x),(3,y)] : Array (Nat × Operand)).map fun (i,x) => (i,a.eval x)).toList = [(0,.agg s'.vals.toArray),(3,.int .i64 K)]:=by
  simp only [List.map_toArray,List.map_cons,List.map_nil,hx,hy]
 refine wpList_build hgd 53 _ ho ?_ ?_
 ·rw [e,trm_built];rfl
 ·rw [e,trm_built];exact h
/-- A new terminal. -/
def NewP (w : World) (R C : Int) (e : Ending) (w' : World) : Prop :=
 ∃ t : Trm,e = .returned (.agg t.vals.toArray) ∧ t.Ok w' 0 ∧ (t.s.Rn : Int) = clamp R 30 ∧ (t.s.Cn : Int) = clamp C 100 ∧ (∀ ad,t.s.A = some ad → w.heap.size ≤ ad.block) ∧ t.HA = none ∧ Bw w w'
theorem rnew19_ok (R C K : Int) (w : World) (hK : 0 ≤ K ∧ K ≤ 200) : Calls Tryz.prog 25 #[.int .i64 R,.int .i64 C,.int .i64 K] w (NewP w R C):=by
 obtain ⟨hK0,hK1⟩:=hK
 have hmx : (if 0 < K then K else 0) = K:=by split <;> omega
 go_enter Tryz.func25,Tryz.ntmps25
 go_upto_region 1 with (fail)
 generalize hw1 : w.alloc _ = w1
 obtain ⟨hb0,hbw,hz⟩:=sb1 hw1
 have HB0:=Lib.hid (show ∃ old,Sb w1 w.heap.size old 53 ∧ old.size = 26 from ⟨_,hb0,rfl⟩)
 have hz1 : w.heap.size < w1.heap.size:=by omega
 clear hw1 hb0 hz
 go_wp2_with (first
  | (go_at_call 51;refine (rsnew_ok R C _).mono ?_;rintro ee w2 ⟨s',e1,e2,rfl,hOk,hN,hb2⟩;have HOk:=Lib.hid hOk;have HN:=Lib.hid hN;have HE:=Lib.hid (And.intro e1 e2);have HB2:=Lib.hid hb2;clear hOk hN e1 e2 hb2)
  | ((with_reducible refine wpList_build_trm s' K _ _ rfl rfl ?_ ?_ ?_);(focus rfl);(focus rfl))
  | ((with_reducible refine wpList_store_tr (newTrm s' K) w.heap.size (.tmp 6) (.tmp 13) rfl rfl ?_ ?_ ?_ ?_);(focus rfl);(focus rfl);(focus (exact Exists.elim HB0.out (fun old h => ⟨old,h.1.up HB2.out,h.2⟩)));intro w3 hS3 hg3;have HS3:=Lib.hid hS3;have HG3:=Lib.hid hg3;clear hS3 hg3)
  | fail)
 refine bodyPost_ret (results_tr rfl _ _ w.heap.size (newTrm s' K) (by rfl) HS3.out) rfl ?_
 have hs2:=hbw.size
 exact ⟨newTrm s' K,rfl,⟨HOk.out.far HG3.out (ne_some (fun ad e => by have:=HN.out ad e;omega)),⟨Rd.nil_ _ _,Nat.le_refl _,by show 0 ≤ 9223372036854775807;omega,rfl,by show 0 ≤ 4;omega,fun x hx => by cases hx⟩,ScnOk.to _ 0 (by omega),TyA.none _,⟨hK0,hK1⟩,Ls.nil_ _ _,Nat.le_refl _,by show 0 ≤ 9223372036854775807;omega,by show ((0 : Nat) : Int) ≤ K;omega,by show (0 : Int) ≤ 0;omega,by show (0 : Int) ≤ 0;omega⟩,HE.out.1,HE.out.2,fun ad e => by have:=HN.out ad e;omega,rfl,Bw.grown (Bw.trans hbw HB2.out) HG3.out (fun k hk => by cases hk;omega)⟩
/-- Block b is a deck, and holds a slice and a place alone. -/
def Dk2 (w : World) (b : Nat) (A : Option Addr) (n c : Nat) (xs : List Int) : Prop:=Dk w b A n c xs ∧ ∃ k : Nat,Sb w b #[.slice A n c,.int .i64 k] 97
theorem Dk2.up {w w' : World} {b : Nat} {A : Option Addr} {n c : Nat} {xs : List Int} (h : Dk2 w b A n c xs) (hb : Bw w w') : Dk2 w' b A n c xs:=by
 obtain ⟨h1,k,h2⟩:=h
 exact ⟨h1.up hb,k,h2.up hb⟩
theorem Dk2.grown {w w' : World} {b r : Nat} {A : Option Addr} {n c : Nat} {xs : List Int} (h : Dk2 w b A n c xs) (hg : w.grownBy w' (some r)) (hr : b < r) : Dk2 w' b A n c xs:=by
 obtain ⟨h1,k,h2⟩:=h
 exact ⟨h1.grown hg hr,k,h2.far hg (by intro e;have:=Option.some.inj e;omega)⟩
theorem Dk2.row {w w' : World} {b : Nat} {A : Option Addr} {n c : Nat} {xs : List Int} (h : Dk2 w b A n c xs) {v : Value} {base : Nat} {e : TypeId} {s m : Nat} {ys : List Value} (ho : w.ownsRow base e s v m ys) (hg : w.grownBy w' v.ownBlock) (hb : b < base) : Dk2 w' b A n c xs:=by
 cases hob : v.ownBlock with
 | none => rw [hob] at hg;exact h.up (Bw.of_grown hg)
 | some r => rw [hob] at hg;exact h.grown hg (by have:=ho.lt r hob;omega)
theorem Dk2.made {w : World} {A : Option Addr} {n c : Nat} {xs : List Int} (hr : RdI w A n xs) (hA : 0 < n → ∀ ad,A = some ad → ad.block < w.heap.size) (hn : n ≤ 9223372036854775807) :
  Dk2 (w.alloc (.cells #[.slice A n c,.int .i64 0] 97)) w.heap.size A n c xs:=⟨Dk.made hr hA hn,0,heap_at rfl⟩
theorem Dk2.no8 {A : Option Addr} {n c : Nat} {k : Nat} : ∀ (i : Nat) (x : Int),(#[.slice A n c,.int .i64 k] : Array Value)[i]? ≠ some (.int .u8 x):=fun i x h => by
 have:=Array.mem_of_getElem? h
 simp at this
theorem mnext_dk2 (b : Nat) (A : Option Addr) (n c : Nat) (m : Int) (xs : List Int) (w : World) (hD : Dk2 w b A n c xs) (hm1 : 1 ≤ m) (hm2 : m ≤ 4611686018427387904) :
  Calls Tryz.prog 29 #[.pointer (some ⟨b,0,none⟩),.int .i64 m] w fun e w' => ∃ v : Int,e = .returned (.int .i64 v) ∧ 0 ≤ v ∧ v < m ∧ Dk2 w' b A n c xs ∧ w.grownBy w' (some b):=by
 obtain ⟨⟨h1,h2,h3,h4,k,h5,h6,h7,h8⟩,kk,hS⟩:=hD
 refine (mnext_any b A n c k m xs w h6 h7 h8 h3 (fun hz ad e => Nat.ne_of_lt (h4 hz ad e)) h5 h2 hm1 hm2).mono ?_
 rintro e w' ⟨v,k',q,rfl,g1,g2,g3,rfl⟩
 have hg : w.grownBy ((w.setCell ⟨b,1,none⟩ (.int .i64 k')).drewN q) (some b):=grown_drewN (grown_set (grown_refl w _) _ _) q
 have hS' : Sb (w.setCell ⟨b,1,none⟩ (.int .i64 k')) b #[.slice A n c,.int .i64 k'] 97:=hS.set 1 _ rfl
 refine ⟨v,rfl,g1,g2,⟨⟨by simpa using h1,h2,⟨h3.1,fun i hi => ?_⟩,h4,k',g3,?_,?_,?_⟩,k',hS'⟩,hg⟩
 ·obtain ⟨ad,e,hx⟩:=h3.2 i hi
  refine ⟨ad,e,?_⟩
  have h9:=h4 (by have:=h3.1;omega) ad e
  rw [grown_cell hg (by rw [addr_add_block];omega) (by rw [addr_add_block];omega)]
  exact hx
 ·simp [go_sem,h6]
 ·show (w.setCell ⟨b,1,none⟩ (.int .i64 k')).cell? ⟨b,1,none⟩ = _
  exact World.cell?_setCell_same _ _ _ h7
 ·simp [go_sem,h8]
theorem mrange_dk2 (b : Nat) (A : Option Addr) (n c : Nat) (lo hi : Int) (xs : List Int) (w : World) (hD : Dk2 w b A n c xs) (hm0 : -1000000 ≤ lo) (hm1 : lo ≤ hi) (hm2 : hi ≤ 1000000) :
  Calls Tryz.prog 27 #[.pointer (some ⟨b,0,none⟩),.int .i64 lo,.int .i64 hi] w fun e w' => ∃ v : Int,e = .returned (.int .i64 v) ∧ lo ≤ v ∧ v ≤ hi ∧ Dk2 w' b A n c xs ∧ w.grownBy w' (some b):=by
 go_enter Tryz.func27,Tryz.ntmps27
 go_wp2_with (go_at_call 29;refine (mnext_dk2 b A n c _ xs _ hD (by omega) (by omega)).mono ?_;rintro e w' ⟨v,rfl,hv1,hv2,hD',hg⟩)
 go_ret
 exact ⟨_,rfl,by omega,by omega,hD',hg⟩
end Go.Proofs.YteebdjmjeahccaaGreatDoor
