/- Parts of the proof, one after the other. -/
import Derived.Test.YteebdjmjeahccaaGreatDoorC26
import Derived.Test.YteebdjmjeahccaaGreatDoorC41
import Derived.Test.YteebdjmjeahccaaGreatDoorC04
import Derived.Test.YteebdjmjeahccaaGreatDoorC34
import Derived.Test.YteebdjmjeahccaaGreatDoorC35
import Derived.Test.YteebdjmjeahccaaGreatDoorC06
import Derived.Test.YteebdjmjeahccaaGreatDoorC23
import Derived.Test.YteebdjmjeahccaaGreatDoorC29
set_option linter.unusedSimpArgs false
set_option linter.unusedVariables false
namespace Go.Proofs.YteebdjmjeahccaaGreatDoor
open Go.RowKit
theorem restB_valid {r : List Int} (h : validB r = true) : restB r = r:=by unfold restB;rw [if_pos h]
theorem dec_enc (v : Int) (hv : charB v = true) (t : List Int) : dec [] (encC v ++ t) = emit v (dec [] t):=by
 have hc : 0 ≤ v ∧ v ≤ 1114111 ∧ ¬ (55296 ≤ v ∧ v ≤ 57343):=of_decide_eq_true hv
 unfold encC
 split
 ·have hs : rsize v = 1:=by unfold rsize;rw [if_pos (by omega)]
  have h1 : beginB ([] ++ [v]) = false:=by simp [beginB,prefixB,okRest,hs]
  have h2 : completeB ([] ++ [v]) = true:=by simp [completeB,prefixB,okRest,hs]
  show dec [] (v :: t) = _
  rw [dec_complete h1 h2];rfl
 split
 ·obtain ⟨b,hb⟩ : ∃ b,b = 192 + v / 64:=⟨_,rfl⟩
  obtain ⟨c,hcc⟩ : ∃ c,c = 128 + v % 64:=⟨_,rfl⟩
  rw [← hb,← hcc]
  have hs : rsize b = 2:=by unfold rsize;rw [if_neg (by omega),if_pos (by omega)]
  have hl : rlow b = 128:=by unfold rlow;rw [if_neg (by omega),if_neg (by omega)]
  have hh : rhigh b = 191:=by unfold rhigh;rw [if_neg (by omega),if_neg (by omega)]
  have h1 : beginB ([] ++ [b]) = true:=by simp [beginB,prefixB,okRest,hs]
  have p2 : prefixB [b,c] = true:=by simp [prefixB,okRest,hs,hl,hh];omega
  have h2 : beginB (([] ++ [b]) ++ [c]) = false:=by simp [beginB,hs]
  have h3 : completeB (([] ++ [b]) ++ [c]) = true:=by simp [completeB,p2,hs]
  show dec [] (b :: c :: t) = _
  rw [dec_begin h1,dec_complete h2 h3]
  have : valN (([] ++ [b]) ++ [c]) = v:=by show b % 32 * 64 + c % 64 = v;omega
  rw [this]
 split
 ·obtain ⟨b,hb⟩ : ∃ b,b = 224 + v / 64 / 64:=⟨_,rfl⟩
  obtain ⟨c,hcc⟩ : ∃ c,c = 128 + v / 64 % 64:=⟨_,rfl⟩
  obtain ⟨d,hd⟩ : ∃ d,d = 128 + v % 64:=⟨_,rfl⟩
  rw [← hb,← hcc,← hd]
  have hs : rsize b = 3:=by unfold rsize;rw [if_neg (by omega),if_neg (by omega),if_pos (by omega)]
  have hl : rlow b ≤ c:=by unfold rlow;split <;> (try split) <;> omega
  have hh : c ≤ rhigh b:=by unfold rhigh;split <;> (try split) <;> omega
  have h1 : beginB ([] ++ [b]) = true:=by simp [beginB,prefixB,okRest,hs]
  have p2 : prefixB [b,c] = true:=by simp [prefixB,okRest,hs,hl,hh]
  have h2 : beginB (([] ++ [b]) ++ [c]) = true:=by simp [beginB,p2,hs]
  have p3 : prefixB [b,c,d] = true:=by simp [prefixB,okRest,hs,hl,hh];omega
  have h3 : beginB ((([] ++ [b]) ++ [c]) ++ [d]) = false:=by simp [beginB,hs]
  have h4 : completeB ((([] ++ [b]) ++ [c]) ++ [d]) = true:=by simp [completeB,p3,hs]
  show dec [] (b :: c :: d :: t) = _
  rw [dec_begin h1,dec_begin h2,dec_complete h3 h4]
  have : valN ((([] ++ [b]) ++ [c]) ++ [d]) = v:=by show (b % 16 * 64 + c % 64) * 64 + d % 64 = v;omega
  rw [this]
 ·obtain ⟨b,hb⟩ : ∃ b,b = 240 + v / 64 / 64 / 64:=⟨_,rfl⟩
  obtain ⟨c,hcc⟩ : ∃ c,c = 128 + v / 64 / 64 % 64:=⟨_,rfl⟩
  obtain ⟨d,hd⟩ : ∃ d,d = 128 + v / 64 % 64:=⟨_,rfl⟩
  obtain ⟨x,hx⟩ : ∃ x,x = 128 + v % 64:=⟨_,rfl⟩
  rw [← hb,← hcc,← hd,← hx]
  have hs : rsize b = 4:=by unfold rsize;rw [if_neg (by omega),if_neg (by omega),if_neg (by omega),if_pos (by omega)]
  have hl : rlow b ≤ c:=by unfold rlow;split <;> (try split) <;> omega
  have hh : c ≤ rhigh b:=by unfold rhigh;split <;> (try split) <;> omega
  have h1 : beginB ([] ++ [b]) = true:=by simp [beginB,prefixB,okRest,hs]
  have p2 : prefixB [b,c] = true:=by simp [prefixB,okRest,hs,hl,hh]
  have h2 : beginB (([] ++ [b]) ++ [c]) = true:=by simp [beginB,p2,hs]
  have p3 : prefixB [b,c,d] = true:=by simp [prefixB,okRest,hs,hl,hh];omega
  have h3 : beginB ((([] ++ [b]) ++ [c]) ++ [d]) = true:=by simp [beginB,p3,hs]
  have p4 : prefixB [b,c,d,x] = true:=by simp [prefixB,okRest,hs,hl,hh];omega
  have h4 : beginB (((([] ++ [b]) ++ [c]) ++ [d]) ++ [x]) = false:=by simp [beginB,hs]
  have h5 : completeB (((([] ++ [b]) ++ [c]) ++ [d]) ++ [x]) = true:=by simp [completeB,p4,hs]
  show dec [] (b :: c :: d :: x :: t) = _
  rw [dec_begin h1,dec_begin h2,dec_begin h3,dec_complete h4 h5]
  have : valN (((([] ++ [b]) ++ [c]) ++ [d]) ++ [x]) = v:=by show ((b % 8 * 64 + c % 64) * 64 + d % 64) * 64 + x % 64 = v;omega
  rw [this]
theorem dec_back : ∀ (L : List Int),(∀ v ∈ L,charB v = true) → dec [] (L.flatMap encC) = ([],L)
 | [],_ => rfl
 | v :: L,h => by
  rw [List.flatMap_cons,dec_enc v (h v (by simp)),dec_back L (fun u hu => h u (by simp [hu]))]
  rfl
theorem encC_byte (v : Int) (hv : charB v = true) : ∀ x ∈ encC v,0 ≤ x ∧ x ≤ 255:=by
 have hc : 0 ≤ v ∧ v ≤ 1114111 ∧ ¬ (55296 ≤ v ∧ v ≤ 57343):=of_decide_eq_true hv
 unfold encC
 repeat' split
 all_goals (intro x hx;simp at hx;omega)
theorem decL_1 (v : Int) (h0 : 0 ≤ v) (h1 : v < 10) : decL v = [48 + v]:=by
 unfold decL bsI
 rw [Lib.decDigits,dif_pos (by omega)]
 simp only [List.map_cons,List.map_nil,List.cons.injEq,and_true]
 have h : (UInt8.ofNat (48 + v.toNat)).toNat = 48 + v.toNat:=by rw [UInt8.toNat_ofNat'];omega
 rw [h]
 omega
theorem decL_2 (v : Int) (h0 : 10 ≤ v) (h1 : v < 100) : decL v = [48 + v / 10,48 + v % 10]:=by
 have h2:=decL_1 (v / 10) (by omega) (by omega)
 unfold decL bsI at h2 ⊢
 rw [Lib.decDigits,dif_neg (by omega),List.map_append,show v.toNat / 10 = (v / 10).toNat by omega,h2]
 simp only [List.map_cons,List.map_nil,List.cons_append,List.nil_append,List.cons.injEq,and_true,true_and]
 have h : (UInt8.ofNat (48 + v.toNat % 10)).toNat = 48 + v.toNat % 10:=by rw [UInt8.toNat_ofNat'];omega
 rw [h]
 omega
/-- The bytes are the encodings of these characters. -/
def En (bs cs : List Int) : Prop:=bs = cs.flatMap encC ∧ ∀ v ∈ cs,charB v = true
theorem En.app {a b c d : List Int} (h : En a c) (k : En b d) : En (a ++ b) (c ++ d) :=
 ⟨by rw [h.1,k.1,List.flatMap_append],fun v hv => (List.mem_append.1 hv).elim (h.2 v) (k.2 v)⟩
theorem encC_ascii {v : Int} (h1 : v < 128) : encC v = [v]:=by unfold encC;rw [if_pos (by omega)]
theorem charB_yes {v : Int} (h0 : 0 ≤ v) (h1 : v < 55296) : charB v = true:=decide_eq_true (by omega)
theorem En.ascii : ∀ {l : List Int},(∀ v ∈ l,0 ≤ v ∧ v < 128) → En l l
 | [],_ => ⟨rfl,fun v hv => by cases hv⟩
 | x :: t,h => by
  have hx:=h x (by simp)
  have ht:=En.ascii (l:=t) (fun v hv => h v (by simp [hv]))
  refine ⟨?_,fun v hv => ?_⟩
  ·rw [List.flatMap_cons,encC_ascii hx.2,← ht.1];rfl
  ·have:=h v hv
   exact charB_yes this.1 (by omega)
theorem rune_char {r : Int} (h : runeB r = true) : charB r = true:=by
 have h1 : (32 ≤ r ∧ r ≤ 126) ∨ (160 ≤ r ∧ r ≤ 55295) ∨ (57344 ≤ r ∧ r ≤ 1114111):=of_decide_eq_true h
 exact decide_eq_true (by omega)
theorem En.rune {r : Int} (h : runeB r = true) : En (encN r) [r]:=by
 have hc:=rune_char h
 refine ⟨?_,fun v hv => by rw [List.mem_singleton] at hv;subst hv;exact hc⟩
 unfold encN
 rw [if_pos hc]
 simp
theorem allN_app : ∀ (a b : List Int) (s : ScS),allN s (a ++ b) = ((allN (allN s a).1 b).1,(allN s a).2 ++ (allN (allN s a).1 b).2)
 | [],b,s => by simp [allN]
 | x :: a,b,s => by
  rw [List.cons_append,allN,allN_app a b,allN]
  simp [List.append_assoc]
/-- On the ground these bytes are these operations, and the scanner is on the ground again. -/
def Wr (bs : List Int) (ops : List OpS) : Prop:=∃ cs,En bs cs ∧ allN (0,0,[]) cs = ((0,0,[]),ops)
theorem Wr.nil_ : Wr [] []:=⟨[],⟨rfl,fun v hv => by cases hv⟩,rfl⟩
theorem Wr.app {a b : List Int} {o p : List OpS} (h : Wr a o) (k : Wr b p) : Wr (a ++ b) (o ++ p):=by
 obtain ⟨c,h1,h2⟩:=h
 obtain ⟨d,k1,k2⟩:=k
 refine ⟨c ++ d,h1.app k1,?_⟩
 rw [allN_app,h2]
 dsimp only
 rw [k2]
theorem gd_ok : ∀ {t : List Int} {s : List Int × Int},gd s t = true → okS s = true
 | [],_,h => h
 | _ :: _,_,h => (gd_cons h).1
theorem gd_mem : ∀ {t : List Int} {s : List Int × Int},gd s t = true → ∀ v ∈ t,0 ≤ v ∧ v < 128
 | [],_,_ => fun v hv => by cases hv
 | x :: t,s,h => fun v hv => by
  obtain ⟨-,h2,h3⟩:=gd_cons h
  rcases List.mem_cons.1 hv with rfl|hv
  ·have : v = 59 ∨ (48 ≤ v ∧ v ≤ 57):=of_decide_eq_true h2
   omega
  ·exact gd_mem h3 v hv
theorem fin_len : ∀ (t : List Int) (s : List Int × Int),s.1.length ≤ (fin s t).1.length
 | [],s => Nat.le_refl _
 | x :: t,s => by
  have h:=fin_len t (stp s x)
  have h2 : s.1.length ≤ (stp s x).1.length:=by
   unfold stp
   split
   ·simp
   ·exact Nat.le_refl _
  exact Nat.le_trans h2 h
theorem allN_par : ∀ (t : List Int) (p : List Int) (n : Int),gd (p,n) t = true → (fin (p,n) t).1.length ≤ 15 → allN (3,0,p ++ [n]) t = ((3,0,(fin (p,n) t).1 ++ [(fin (p,n) t).2]),[])
 | [],p,n,_,_ => rfl
 | c :: t,p,n,h,hl => by
  obtain ⟨h1,h2,h3⟩:=gd_cons h
  have hc : c = 59 ∨ (48 ≤ c ∧ c ≤ 57):=of_decide_eq_true h2
  have hs:=gd_ok h3
  have hfl:=fin_len t (stp (p,n) c)
  have hl2 : (fin (stp (p,n) c) t).1.length ≤ 15:=hl
  have hlen : (p ++ [n]).length = p.length + 1:=by simp
  have e : nextN 3 0 (p ++ [n]) c = ((3,0,(stp (p,n) c).1 ++ [(stp (p,n) c).2]),[]):=by
   rw [nextN_3 (by omega) (by omega)]
   unfold csiN
   rcases hc with rfl|⟨h4,h5⟩
   ·have hl3:=hl2
    rw [stp_sep] at hfl hl3
    dsimp only at hfl
    rw [if_neg (by omega),if_pos rfl,if_pos (by omega),stp_sep]
   ·rw [stp_dig (by omega)] at hs ⊢
    have hb : (p.length ≤ 100 ∧ 0 ≤ 10 * n + (c - 48) ∧ 10 * n + (c - 48) ≤ 1000):=of_decide_eq_true hs
    rw [if_pos ⟨h4,h5⟩,hlen,Nat.add_sub_cancel]
    rw [show (p ++ [n]).getD p.length 0 = n by simp [List.getD_eq_getElem?_getD],show min (10 * n + c - 48) 9999 = 10 * n + (c - 48) by omega]
    simp
  rw [allN]
  dsimp only
  rw [e]
  dsimp only
  rw [allN_par t (stp (p,n) c).1 (stp (p,n) c).2 h3 hl2]
  rfl
theorem Wr.csi {t : List Int} {f : Int} (hg : gd ([],0) t = true) (hl : (fin ([],0) t).1.length ≤ 15) (h1 : 64 ≤ f) (h2 : f ≤ 126) : Wr ([27,91] ++ (t ++ [f])) [(4,f,0,(fin ([],0) t).1 ++ [(fin ([],0) t).2])]:=by
 refine ⟨[27,91] ++ (t ++ [f]),En.ascii (fun v hv => ?_),?_⟩
 ·rcases List.mem_append.1 hv with hv|hv
  ·simp only [List.mem_cons,List.not_mem_nil,or_false] at hv
   omega
  ·rcases List.mem_append.1 hv with hv|hv
   ·exact gd_mem hg v hv
   ·rw [List.mem_singleton] at hv;omega
 ·rw [allN_app,show allN (0,0,[]) [27,91] = ((3,0,[] ++ [0]),[]) by decide]
  dsimp only
  rw [allN_app,allN_par t [] 0 hg hl]
  dsimp only
  rw [allN,allN]
  dsimp only
  rw [nextN_3 (by omega) h2]
  unfold csiN
  rw [if_neg (by omega),if_neg (by omega),if_pos h1]
  rfl
theorem fin_dec (v : Int) (h0 : 0 ≤ v) (h1 : v < 100) (p : List Int) (hp : p.length ≤ 100) (t : List Int) (h : gd (p,v) t = true) : gd (p,0) (decL v ++ t) = true ∧ fin (p,0) (decL v ++ t) = fin (p,v) t:=by
 rcases (show v < 10 ∨ 10 ≤ v by omega) with h2|h2
 ·rw [decL_1 v h0 h2]
  have e1 : stp (p,0) (48 + v) = (p,v):=by rw [stp_dig (by omega)];congr 1;omega
  refine ⟨?_,?_⟩
  ·show (okS (p,0) && (okC (48 + v) && gd (stp (p,0) (48 + v)) t)) = true
   rw [e1,h,okS_mk hp (by omega) (by omega),okC_dig (by omega) (by omega)]
   rfl
  ·show fin (stp (p,0) (48 + v)) t = _
   rw [e1]
 ·rw [decL_2 v h2 h1]
  have e0 : stp (p,0) (48 + v / 10) = (p,v / 10):=by rw [stp_dig (by omega)];congr 1;omega
  have e1 : stp (p,v / 10) (48 + v % 10) = (p,v):=by rw [stp_dig (by omega)];congr 1;omega
  refine ⟨?_,?_⟩
  ·show (okS (p,0) && (okC (48 + v / 10) && (okS (stp (p,0) (48 + v / 10)) && (okC (48 + v % 10) && gd (stp (stp (p,0) (48 + v / 10)) (48 + v % 10)) t)))) = true
   rw [e0,e1,h,okS_mk hp (by omega) (by omega),okS_mk hp (by omega) (by omega),okC_dig (by omega) (by omega),okC_dig (by omega) (by omega)]
   rfl
  ·show fin (stp (stp (p,0) (48 + v / 10)) (48 + v % 10)) t = _
   rw [e0,e1]
/-- To a place. -/
def opG (r c : Int) : List OpS:=[(4,72,0,[r + 1,c + 1])]
theorem Wr.goes {r c : Int} (hr0 : 0 ≤ r) (hr1 : r < 99) (hc0 : 0 ≤ c) (hc1 : c < 99) : Wr (goesL r c) (opG r c):=by
 have k0:=fin_dec (c + 1) (by omega) (by omega) [r + 1] (by simp) [] (okS_mk (by simp) (by omega) (by omega))
 rw [List.append_nil] at k0
 have k1 : gd ([],r + 1) (59 :: decL (c + 1)) = true:=by
  show (okS ([],r + 1) && (okC 59 && gd (stp ([],r + 1) 59) (decL (c + 1)))) = true
  rw [stp_sep,show ([] : List Int) ++ [r + 1] = [r + 1] from rfl,k0.1,okS_mk (by simp) (by omega) (by omega)]
  rfl
 have k2:=fin_dec (r + 1) (by omega) (by omega) [] (by simp) (59 :: decL (c + 1)) k1
 have k3 : fin ([],0) (decL (r + 1) ++ (59 :: decL (c + 1))) = ([r + 1],c + 1):=by
  rw [k2.2]
  show fin (stp ([],r + 1) 59) (decL (c + 1)) = _
  rw [stp_sep]
  exact k0.2
 have h:=Wr.csi (f:=72) k2.1 (by rw [k3];simp) (by omega) (by omega)
 rw [k3] at h
 unfold goesL opG
 simpa [List.append_assoc] using h
/-- To other attributes. -/
def opM (x y : A3) : List OpS:=if effA x = effA y then [] else [(4,109,0,0 :: fullN (effA y).1 (effA y).2.1 (effA y).2.2)]
theorem Wr.attr (x y : A3) : Wr (bts x y) (opM x y):=by
 unfold bts opM
 by_cases h : effA x = effA y
 ·rw [if_pos h,if_pos h];exact Wr.nil_
 rw [if_neg h,if_neg h]
 have hb:=fullN_bd _ _ _ (effA_valid y)
 obtain ⟨ds,hds⟩ : ∃ ds,fullN (effA y).1 (effA y).2.1 (effA y).2.2 = ds:=⟨_,rfl⟩
 rw [hds] at hb ⊢
 obtain ⟨k1,k2⟩:=gd_all ds [] 0 (by simp;omega) (by omega) (by omega) hb.1
 have k3 : gd ([],0) (48 :: ds.flatMap wr1) = true:=by
  show (okS ([],0) && (okC 48 && gd (stp ([],0) 48) (ds.flatMap wr1))) = true
  rw [show stp ([],0) 48 = ([],0) by decide,k1]
  decide
 have k4 : fin ([],0) (48 :: ds.flatMap wr1) = fin ([],0) (ds.flatMap wr1):=by
  show fin (stp ([],0) 48) (ds.flatMap wr1) = _
  rw [show stp ([],0) 48 = ([],0) by decide]
 have hlen:=congrArg List.length k2
 simp only [List.length_append,List.length_cons,List.length_nil] at hlen
 have h:=Wr.csi (f:=109) k3 (by rw [k4];omega) (by omega) (by omega)
 rw [k4,k2] at h
 unfold bytesOf
 simpa [List.append_assoc] using h
theorem Wr.rune {r : Int} (h : runeB r = true) : Wr (encN r) [(1,r,0,[])]:=by
 refine ⟨[r],En.rune h,?_⟩
 have h1 : (32 ≤ r ∧ r ≤ 126) ∨ (160 ≤ r ∧ r ≤ 55295) ∨ (57344 ≤ r ∧ r ≤ 1114111):=of_decide_eq_true h
 rw [allN,allN]
 dsimp only
 unfold nextN nextB
 rw [if_neg (by omega),if_neg (by omega),if_neg (by omega),if_neg (by omega),if_neg (by omega),if_neg (by omega),if_pos rfl,if_neg (by omega)]
 rfl
/-- The cursor hidden or shown. -/
def opH (b : Bool) : List OpS:=[(4,if b then 108 else 104,63,[25])]
theorem Wr.hide (b : Bool) : Wr (hideL b) (opH b):=by
 refine ⟨hideL b,En.ascii (fun v hv => ?_),?_⟩
 ·cases b <;> (unfold hideL at hv;simp only [if_true,if_false,Bool.false_eq_true,List.mem_cons,List.not_mem_nil,or_false] at hv;omega)
 ·cases b <;> decide
/-- Cells of a row. -/
def opP : A3 → List C4 → List OpS
 | _,[] => []
 | x,c :: cs => opM x (atr c) ++ ([(1,c.1,0,[])] ++ opP (atr c) cs)
theorem Wr.paint : ∀ (cs : List C4) (x : A3),(∀ c ∈ cs,cellB c = true) → Wr (pntB x cs) (opP x cs)
 | [],_,_ => Wr.nil_
 | c :: cs,x,h => by
  have hc:=h c (by simp)
  unfold cellB at hc
  rw [Bool.and_eq_true] at hc
  exact (Wr.attr x (atr c)).app ((Wr.rune hc.1).app (Wr.paint cs (atr c) (fun d hd => h d (by simp [hd]))))
end Go.Proofs.YteebdjmjeahccaaGreatDoor
