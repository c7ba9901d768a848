/- Parts of the proof, one after the other. -/
import Derived.Test.YteebdjmjeahccaaGreatDoorC45
import Derived.Test.YteebdjmjeahccaaGreatDoorC42
import Derived.Test.YteebdjmjeahccaaGreatDoorC43
import Derived.Test.YteebdjmjeahccaaGreatDoorC31
import Derived.Test.YteebdjmjeahccaaGreatDoorC40
set_option linter.unusedSimpArgs false
set_option linter.unusedVariables false
namespace Go.Proofs.YteebdjmjeahccaaGreatDoor
open Go.RowKit
theorem stepsX_app (Rn Cn : Nat) (K : Option Kn) (a b : List OpS) : stepsX Rn Cn K (a ++ b) = stepsX Rn Cn (stepsX Rn Cn K a) b:=by unfold stepsX;rw [List.foldl_append]
theorem stepsX_one (Rn Cn : Nat) (K : Option Kn) (o : OpS) : stepsX Rn Cn K [o] = stepX Rn Cn K o:=rfl
theorem prop_two {a b : Int} (ha : 0 ≤ a ∧ a ≤ 9999) (hb : 0 ≤ b ∧ b ≤ 9999) : propN 2 [a,b] = true:=propN_yes (by omega) (fun x hx => by
 simp only [List.mem_cons,List.not_mem_nil,or_false] at hx
 rcases hx with rfl|rfl <;> assumption)
theorem stepsX_go {Rn Cn : Nat} {x : Kn} {r c : Int} (hR : Rn ≤ 30) (hC : Cn ≤ 100) (h0 : 0 ≤ r) (h1 : r < Rn) (h2 : 0 ≤ c) (h3 : c < Cn) : stepsX Rn Cn (some x) (opG r c) = some { x with row:=r,col:=c,wrap:=false }:=by
 unfold opG
 rw [stepsX_one]
 unfold stepX
 rw [if_neg (by simp)]
 dsimp only
 rw [if_neg (by simp),if_pos ⟨rfl,rfl,rfl,prop_two (by omega) (by omega)⟩]
 have e0 : orN [r + 1,c + 1] 0 1 = r + 1:=by unfold orN;rw [show ([r + 1,c + 1] : List Int).getD 0 0 = r + 1 from rfl,if_neg (by omega)]
 have e1 : orN [r + 1,c + 1] 1 1 = c + 1:=by unfold orN;rw [show ([r + 1,c + 1] : List Int).getD 1 0 = c + 1 from rfl,if_neg (by omega)]
 rw [e0,e1]
 unfold goK
 rw [show min (max (r + 1 - 1) 0) ((Rn : Int) - 1) = r by omega,show min (max (c + 1 - 1) 0) ((Cn : Int) - 1) = c by omega]
def avA (a : A3) : Bool:=avB a.1 a.2.1 a.2.2
theorem effA_y {a : A3} (h : avA a = true) : effA a = a:=if_pos h
theorem stepsX_attr {Rn Cn : Nat} {x : Kn} {b : A3} (ha : avA x.a = true) (hb : avA b = true) : stepsX Rn Cn (some x) (opM x.a b) = some { x with a:=b }:=by
 unfold opM
 rw [effA_y ha,effA_y hb]
 by_cases h : x.a = b
 ·rw [if_pos h]
  subst h
  rfl
 rw [if_neg h,stepsX_one]
 unfold stepX
 rw [if_neg (by simp)]
 dsimp only
 have hbd:=fullN_bd b.1 b.2.1 b.2.2 hb
 have hp : propN (0 :: fullN b.1 b.2.1 b.2.2).length (0 :: fullN b.1 b.2.1 b.2.2) = true:=propN_yes (by simp) (fun v hv => by
  rcases List.mem_cons.1 hv with rfl|hv
  ·omega
  ·have:=hbd.1 v hv;omega)
 rw [if_neg (by simp),if_neg (by simp),if_pos ⟨rfl,rfl,rfl,hp⟩,full_back b.1 b.2.1 b.2.2 hb x.a]
theorem tab_at {Rn Cn : Nat} (F : Nat → Nat → C4) {i : Nat} (hi : i < Rn * Cn) : (tab Rn Cn F)[i]? = some (F (i / Cn) (i % Cn)):=by
 unfold tab tabK
 rw [List.getElem?_map,List.getElem?_range hi]
 rfl
theorem idx {Rn Cn r c i : Nat} (hc : c < Cn) : (i / Cn = r ∧ i % Cn = c) ↔ i = r * Cn + c:=by
 constructor
 ·rintro ⟨rfl,rfl⟩
  have:=Nat.div_add_mod i Cn
  rw [Nat.mul_comm] at this
  omega
 ·rintro rfl
  exact ⟨by rw [Nat.mul_comm,Nat.mul_add_div (by omega),Nat.div_eq_of_lt hc,Nat.add_zero],by rw [Nat.mul_comm,Nat.mul_add_mod,Nat.mod_eq_of_lt hc]⟩
theorem tab_put {Rn Cn r c : Nat} {cs : List C4} {d : C4} (hl : cs.length = Rn * Cn) (hr : r < Rn) (hc : c < Cn) : tab Rn Cn (fillF Rn Cn cs r c ((c : Int) + 1) d) = cs.set (r * Cn + c) d:=by
 have hin : r * Cn + c < Rn * Cn:=by
  have:=Nat.mul_le_mul_right Cn (show r + 1 ≤ Rn by omega)
  rw [Nat.add_mul,Nat.one_mul] at this
  omega
 apply List.ext_getElem?
 intro i
 by_cases hi : i < Rn * Cn
 ·rw [tab_at _ hi,List.getElem?_set]
  have hC0 : 0 < Cn:=by omega
  have hm:=Nat.mod_lt i hC0
  have hd : i / Cn < Rn:=Nat.div_lt_of_lt_mul (by rw [Nat.mul_comm];exact hi)
  have hdm : i / Cn * Cn + i % Cn = i:=by have:=Nat.div_add_mod i Cn;rw [Nat.mul_comm] at this;exact this
  have hix:=idx (Rn:=Rn) (r:=r) (i:=i) hc
  obtain ⟨q,hq⟩ : ∃ q,i / Cn = q:=⟨_,rfl⟩
  obtain ⟨m,hm2⟩ : ∃ m,i % Cn = m:=⟨_,rfl⟩
  rw [hq] at hd hdm hix
  rw [hm2] at hm hdm hix
  rw [hq,hm2]
  unfold fillF
  by_cases he : r * Cn + c = i
  ·have h2:=hix.2 he.symm
   rw [if_pos he,if_pos (show ((q : Nat) : Int) = r ∧ (c : Int) ≤ (m : Nat) ∧ ((m : Nat) : Int) < c + 1 by omega),if_pos (by rw [hl];omega)]
  ·have h2 : ¬ (q = r ∧ m = c):=fun h => he (hix.1 h).symm
   rw [if_neg he,if_neg (by omega)]
   unfold atF
   rw [if_pos (by omega),Int.toNat_natCast,Int.toNat_natCast,hdm,List.getD_eq_getElem?_getD,List.getElem?_eq_getElem (by omega)]
   rfl
 ·have h1 : (tab Rn Cn (fillF Rn Cn cs r c ((c : Int) + 1) d)).length ≤ i:=by rw [show (tab Rn Cn (fillF Rn Cn cs r c ((c : Int) + 1) d)).length = Rn * Cn from tabK_len _ _ _];omega
  rw [List.getElem?_eq_none h1,List.getElem?_eq_none (by rw [List.length_set,hl];omega)]
/-- Cells set from a place on. -/
def setS : List C4 → Nat → List C4 → List C4
 | cs,_,[] => cs
 | cs,k,c :: t => setS (cs.set k c) (k + 1) t
theorem setS_len : ∀ (t cs : List C4) (k : Nat),(setS cs k t).length = cs.length
 | [],_,_ => rfl
 | c :: t,cs,k => by rw [setS,setS_len t,List.length_set]
theorem setS_get : ∀ (t cs : List C4) (k i : Nat),k + t.length ≤ cs.length → (setS cs k t)[i]? = if k ≤ i ∧ i < k + t.length then t[i - k]? else cs[i]?
 | [],cs,k,i,_ => by rw [setS,if_neg (by rw [List.length_nil];omega)]
 | c :: t,cs,k,i,h => by
  simp only [List.length_cons] at h
  rw [setS,setS_get t (cs.set k c) (k + 1) i (by rw [List.length_set];omega),List.length_cons]
  by_cases h1 : i = k
  ·subst h1
   rw [if_neg (by omega),if_pos (by omega),Nat.sub_self,List.getElem?_set_self (by omega)]
   first|done|rfl
  ·rw [List.getElem?_set_ne (by omega)]
   by_cases h2 : k + 1 ≤ i ∧ i < k + 1 + t.length
   ·rw [if_pos h2,if_pos (by omega),show i - k = (i - (k + 1)) + 1 by omega,List.getElem?_cons_succ]
   ·rw [if_neg h2,if_neg (by omega)]
theorem avA_atr {c : C4} (h : cellB c = true) : avA (atr c) = true:=by unfold cellB at h;rw [Bool.and_eq_true] at h;exact h.2
theorem avA_pnt : ∀ (t : List C4) (a : A3),avA a = true → (∀ c ∈ t,cellB c = true) → avA (pntA a t) = true
 | [],_,h,_ => h
 | c :: t,_,_,h => avA_pnt t (atr c) (avA_atr (h c (by simp))) (fun d hd => h d (by simp [hd]))
theorem stepsX_paint {Rn Cn : Nat} : ∀ (t : List C4) (x : Kn) (r f : Nat),x.row = r → x.col = f → x.wrap = false → r < Rn → f + t.length ≤ Cn → x.cs.length = Rn * Cn → avA x.a = true → (∀ c ∈ t,cellB c = true) →
  ∃ (k : Int) (b : Bool),stepsX Rn Cn (some x) (opP x.a t) = some { x with cs:=setS x.cs (r * Cn + f) t,col:=k,wrap:=b,a:=pntA x.a t }
 | [],x,r,f,_,_,_,_,_,_,_,_ => ⟨x.col,x.wrap,rfl⟩
 | c :: t,x,r,f,h1,h2,h3,hr,hf,hl,ha,hv => by
  have hc:=hv c (by simp)
  have hru : runeB c.1 = true:=by unfold cellB at hc;rw [Bool.and_eq_true] at hc;exact hc.1
  simp only [List.length_cons] at hf
  have e : stepX Rn Cn (some { x with a:=atr c }) (1,c.1,0,[]) = some { x with cs:=x.cs.set (r * Cn + f) c,col:=if (f : Int) = (Cn : Int) - 1 then (f : Int) else f + 1,wrap:=decide ((f : Int) = (Cn : Int) - 1),a:=atr c }:=by
   unfold stepX
   rw [if_neg (by simp)]
   dsimp only
   rw [if_pos ⟨rfl,hru,h3⟩]
   unfold putK
   dsimp only
   rw [h1,h2,tab_put hl hr (by omega)]
   rfl
  unfold opP
  rw [stepsX_app,stepsX_attr ha (avA_atr hc),stepsX_app,stepsX_one,e]
  cases t with
  | nil => exact ⟨_,_,rfl⟩
  | cons d t =>
   simp only [List.length_cons] at hf
   rw [if_neg (by omega),decide_eq_false (by omega)]
   obtain ⟨k,b,hk⟩:=stepsX_paint (Rn:=Rn) (Cn:=Cn) (d :: t) { x with cs:=x.cs.set (r * Cn + f) c,col:=(f : Int) + 1,wrap:=false,a:=atr c } r (f + 1) h1 (by simp) rfl hr (by simp only [List.length_cons];omega) (by dsimp only;rw [List.length_set];exact hl) (avA_atr hc) (fun y hy => hv y (by simp [hy]))
   refine ⟨k,b,?_⟩
   dsimp only at hk
   rw [hk]
   rfl
/-- The bytes, on the ground, lead from K to a screen with the attributes a, on which P holds. -/
def Dn (Rn Cn : Nat) (K : Option Kn) (bs : List Int) (a : A3) (hid : Bool) (P : List C4 → Prop) : Prop :=
 ∃ (ops : List OpS) (cs : List C4) (r c : Int) (b : Bool),Wr bs ops ∧ stepsX Rn Cn K ops = some ⟨cs,r,c,b,a,hid⟩ ∧ cs.length = Rn * Cn ∧ avA a = true ∧ P cs
theorem Dn.mono {Rn Cn : Nat} {K : Option Kn} {bs : List Int} {a : A3} {hid : Bool} {P Q : List C4 → Prop} (h : Dn Rn Cn K bs a hid P) (hpq : ∀ cs,cs.length = Rn * Cn → P cs → Q cs) : Dn Rn Cn K bs a hid Q:=by
 obtain ⟨ops,cs,r,c,b,h1,h2,h3,h4,h5⟩:=h
 exact ⟨ops,cs,r,c,b,h1,h2,h3,h4,hpq cs h3 h5⟩
theorem Dn.row {Rn Cn : Nat} {K : Option Kn} {bs : List Int} {a : A3} {hid : Bool} {P : List C4 → Prop} (h : Dn Rn Cn K bs a hid P) (hR : Rn ≤ 30) (hC : Cn ≤ 60) {r f : Nat} {t : List C4} (hr : r < Rn) (hf : f < Cn) (ht : f + t.length ≤ Cn) (hv : ∀ c ∈ t,cellB c = true) :
  Dn Rn Cn K (bs ++ (goesL r f ++ pntB a t)) (pntA a t) hid (fun cs' => ∃ cs,cs.length = Rn * Cn ∧ P cs ∧ cs' = setS cs (r * Cn + f) t):=by
 obtain ⟨ops,cs,r0,c0,b0,h1,h2,h3,h4,h5⟩:=h
 obtain ⟨k,b,hk⟩:=stepsX_paint t ⟨cs,r,f,false,a,hid⟩ r f rfl rfl rfl hr ht h3 h4 hv
 dsimp only at hk
 refine ⟨ops ++ (opG r f ++ opP a t),setS cs (r * Cn + f) t,r,k,b,h1.app ((Wr.goes (by omega) (by omega) (by omega) (by omega)).app (Wr.paint t a hv)),?_,by rw [setS_len];exact h3,avA_pnt t a h4 hv,cs,h3,h5,rfl⟩
 rw [stepsX_app,h2,stepsX_app,stepsX_go hR (by omega) (by omega) (by omega) (by omega) (by omega)]
 exact hk
/-- The end of what is written: no attributes, the cursor's place. -/
theorem Dn.fin_ {Rn Cn : Nat} {K : Option Kn} {bs : List Int} {a : A3} {hid : Bool} {P : List C4 → Prop} (h : Dn Rn Cn K bs a hid P) (hR : Rn ≤ 30) (hC : Cn ≤ 60) {row col : Int} (h0 : 0 ≤ row) (h1 : row < Rn) (h2 : 0 ≤ col) (h3 : col < Cn) :
  ∃ ops cs,Wr (bs ++ bts a (0,0,0) ++ goesL row col) ops ∧ stepsX Rn Cn K ops = some ⟨cs,row,col,false,(0,0,0),hid⟩ ∧ P cs ∧ cs.length = Rn * Cn:=by
 obtain ⟨ops,cs,r0,c0,b0,k1,k2,k3,k4,k5⟩:=h
 refine ⟨ops ++ opM a (0,0,0) ++ opG row col,cs,(k1.app (Wr.attr a (0,0,0))).app (Wr.goes h0 (by omega) h2 (by omega)),?_,k5,k3⟩
 have e:=stepsX_attr (Rn:=Rn) (Cn:=Cn) (x:=⟨cs,r0,c0,b0,a,hid⟩) (b:=(0,0,0)) k4 (by decide)
 dsimp only at e
 rw [stepsX_app,stepsX_app,k2,e,stepsX_go hR (by omega) h0 h1 h2 h3]
theorem stepsX_hide {Rn Cn : Nat} {x : Kn} (b : Bool) : stepsX Rn Cn (some x) (opH b) = some { x with hid:=b }:=by
 unfold opH
 rw [stepsX_one]
 unfold stepX
 rw [if_neg (by simp)]
 dsimp only
 cases b
 ·rw [if_neg (by simp),if_neg (by simp),if_neg (by simp),if_pos ⟨rfl,rfl,rfl,rfl⟩]
 ·rw [if_neg (by simp),if_neg (by simp),if_neg (by simp),if_neg (by simp),if_pos ⟨rfl,rfl,rfl,rfl⟩]
theorem rowF_get {Rn Cn : Nat} {cs : List C4} {row col : Int} (h : viewB Rn Cn cs row col = true) {r k : Nat} (hr : r < Rn) (hk : k < Cn) : (rowF Rn Cn cs r)[k]? = cs[r * Cn + k]?:=by
 obtain ⟨h1,h2,h3,h4,h5,-⟩:=viewB_dim h
 have h6 : cs.length = Rn * Cn:=by rw [← Int.natCast_mul] at h5;omega
 have h7 : (cs.length : Int) / Cn = Rn:=by rw [h5];exact Int.mul_ediv_cancel _ (by omega)
 unfold rowF
 rw [if_pos (by rw [h7];omega),← Int.natCast_mul,Int.toNat_natCast,Int.toNat_natCast,List.getElem?_take,if_pos hk,List.getElem?_drop]
theorem view_cells {R C : Int} {cs : List C4} {row col : Int} (h : viewB R C cs row col = true) : ∀ c ∈ cs,cellB c = true:=by
 unfold viewB gridB at h
 rw [Bool.and_eq_true,Bool.and_eq_true,List.all_eq_true] at h
 exact h.1.2
theorem rowF_mem {R C : Int} {cs : List C4} {r : Int} {c : C4} (h : c ∈ rowF R C cs r) : c ∈ cs:=by
 unfold rowF at h
 split at h
 ·exact List.mem_of_mem_drop (List.mem_of_mem_take h)
 ·cases h
theorem takeW_mem {p : C4 → Bool} : ∀ (l : List C4) (b : C4),b ∈ l.takeWhile p → p b = true
 | [],b,h => by cases h
 | x :: l,b,h => by
  rw [List.takeWhile_cons] at h
  split at h
  ·rename_i hx
   rcases List.mem_cons.1 h with rfl|h
   ·exact hx
   ·exact takeW_mem l b h
  ·cases h
theorem trimB_split (cs : List C4) : ∃ m,cs = trimB cs ++ List.replicate m blk:=by
 refine ⟨(cs.reverse.takeWhile (fun c => decide (c = blk))).length,?_⟩
 have h:=List.takeWhile_append_dropWhile (p:=fun c => decide (c = blk)) (l:=cs.reverse)
 have h2 : cs.reverse.takeWhile (fun c => decide (c = blk)) = List.replicate (cs.reverse.takeWhile (fun c => decide (c = blk))).length blk:=by
  rw [List.eq_replicate_iff]
  exact ⟨rfl,fun b hb => by have:=takeW_mem _ _ hb;simpa using this⟩
 have h3:=congrArg List.reverse h
 rw [List.reverse_append,List.reverse_reverse] at h3
 unfold trimB
 rw [h2,List.reverse_replicate] at h3
 exact h3.symm
theorem trimB_get {cs : List C4} {k : Nat} (hk : k < cs.length) : if k < (trimB cs).length then (trimB cs)[k]? = cs[k]? else cs[k]? = some blk:=by
 obtain ⟨m,hm⟩:=trimB_split cs
 obtain ⟨t,ht⟩ : ∃ t,trimB cs = t:=⟨_,rfl⟩
 rw [ht] at hm ⊢
 subst hm
 rw [List.length_append,List.length_replicate] at hk
 split
 ·rename_i h
  rw [List.getElem?_append_left h]
 ·rename_i h
  rw [List.getElem?_append_right (by omega),List.getElem?_replicate,if_pos (by omega)]
theorem divmod {Cn i : Nat} (hC : 0 < Cn) : ∃ q m,i / Cn = q ∧ i % Cn = m ∧ q * Cn + m = i ∧ m < Cn:=⟨i / Cn,i % Cn,rfl,rfl,by have:=Nat.div_add_mod i Cn;rw [Nat.mul_comm] at this;exact this,Nat.mod_lt i hC⟩
theorem mul_lt {a b Cn : Nat} (h : a < b) : a * Cn + Cn ≤ b * Cn:=by
 have:=Nat.mul_le_mul_right Cn (show a + 1 ≤ b by omega)
 rw [Nat.add_mul,Nat.one_mul] at this
 exact this
/-- Rows on a screen that was blank. -/
theorem rows_dn {Rn Cn : Nat} {F : Nat → List C4} (hR : Rn ≤ 30) (hC0 : 0 < Cn) (hC : Cn ≤ 60) (hF : ∀ k,k < Rn → (F k).length = Cn) (hv : ∀ k,∀ c ∈ F k,cellB c = true) : ∀ n,n ≤ Rn →
  Dn Rn Cn (some (kn0 Rn Cn)) (rowsB F n).1 (rowsB F n).2 false (fun cs => ∀ i,i < Rn * Cn → cs[i]? = if i / Cn < n then (F (i / Cn))[i % Cn]? else some blk)
 | 0,_ => ⟨[],List.replicate (Rn * Cn) blk,0,0,false,Wr.nil_,rfl,by simp,(show avA (0,0,0) = true by decide),fun i hi => by rw [if_neg (Nat.not_lt_zero _),List.getElem?_replicate,if_pos hi]⟩
 | n + 1,hn => by
  have ih:=rows_dn hR hC0 hC hF hv n (by omega)
  have hl:=hF n (by omega)
  by_cases ht : trimB (F n) = []
  ·rw [rowsB_nil ht]
   refine ih.mono (fun cs _ h i hi => ?_)
   rw [h i hi]
   obtain ⟨q,m,hq,hm,hqm,hmC⟩:=divmod (i:=i) hC0
   rw [hq,hm]
   by_cases h1 : q < n
   ·rw [if_pos h1,if_pos (by omega)]
   ·rw [if_neg h1]
    by_cases h2 : q < n + 1
    ·rw [if_pos h2]
     obtain rfl : q = n:=by omega
     have h3:=trimB_get (cs:=F q) (k:=m) (by omega)
     rw [ht,if_neg (by simp)] at h3
     exact h3.symm
    ·rw [if_neg h2]
  ·rw [rowsB_cons rfl ht]
   have htl:=trimB_len (F n)
   obtain ⟨mm,hmm⟩:=trimB_split (F n)
   refine (ih.row hR hC (r:=n) (f:=0) (t:=trimB (F n)) (by omega) hC0 (by omega) (fun c hc => hv n c (by rw [hmm];exact List.mem_append_left _ hc))).mono ?_
   rintro cs' hcs' ⟨cs,hlen,h,rfl⟩ i hi
   have hb:=mul_lt (Cn:=Cn) (show n < Rn by omega)
   rw [setS_get _ _ _ _ (by rw [hlen];omega),h i hi]
   obtain ⟨q,m,hq,hm,hqm,hmC⟩:=divmod (i:=i) hC0
   rw [hq,hm]
   rcases Nat.lt_trichotomy q n with h1|rfl|h1
   ·have:=mul_lt (Cn:=Cn) h1
    rw [if_neg (by omega),if_pos h1,if_pos (by omega)]
   ·have h3:=trimB_get (cs:=F q) (k:=m) (by omega)
    rw [if_neg (Nat.lt_irrefl q),if_pos (Nat.lt_succ_self q)]
    by_cases h4 : m < (trimB (F q)).length
    ·rw [if_pos h4] at h3
     rw [if_pos (by omega),show i - (q * Cn + 0) = m by omega,h3]
    ·rw [if_neg h4] at h3
     rw [if_neg (by omega),h3]
   ·have:=mul_lt (Cn:=Cn) h1
    rw [if_neg (by omega),if_neg (by omega),if_neg (by omega)]
/-- What is known of a screen that shows the view. -/
def knV (cs : List C4) (row col : Int) (hid : Bool) : Kn:=⟨cs,row,col,false,(0,0,0),hid⟩
theorem cells_all {Rn Cn : Nat} {cs ds : List C4} {row col : Int} (hC0 : 0 < Cn) (h : viewB Rn Cn ds row col = true) (hl : cs.length = Rn * Cn) (hg : ∀ i,i < Rn * Cn → cs[i]? = ds[i]?) : cs = ds:=by
 obtain ⟨h1,h2,h3,h4,h5,-⟩:=viewB_dim h
 have h6 : ds.length = Rn * Cn:=by rw [← Int.natCast_mul] at h5;omega
 apply List.ext_getElem?
 intro i
 by_cases hi : i < Rn * Cn
 ·exact hg i hi
 ·rw [List.getElem?_eq_none (by omega),List.getElem?_eq_none (by omega)]
theorem full_ops {Rn Cn : Nat} {cs : List C4} {row col : Int} (hid : Bool) (hC : Cn ≤ 60) (h : viewB Rn Cn cs row col = true) :
  ∃ tl ops,fullL Rn Cn cs row col hid = [27,99] ++ tl ∧ Wr tl ops ∧ stepsX Rn Cn (some (kn0 Rn Cn)) ops = some (knV cs row col hid):=by
 obtain ⟨h1,h2,h3,h4,h5,h6,h7,h8,h9⟩:=viewB_dim h
 have hC0 : 0 < Cn:=by omega
 have hd:=rows_dn (Rn:=Rn) (Cn:=Cn) (F:=fun r => rowF Rn Cn cs r) (by omega) hC0 hC (fun k hk => by have:=rowF_full h k (by omega);rw [Int.toNat_natCast] at this;exact this) (fun k c hc => view_cells h c (rowF_mem hc)) Rn (Nat.le_refl _)
 obtain ⟨ops,cs',k1,k2,k3,k4⟩:=hd.fin_ (by omega) hC h6 h7 h8 h9
 have he : cs' = cs:=cells_all hC0 h k4 (fun i hi => by
  rw [k3 i hi]
  obtain ⟨q,m,hq,hm,hqm,hmC⟩:=divmod (i:=i) hC0
  have hqR : q < Rn:=by rw [← hq];exact Nat.div_lt_of_lt_mul (by rw [Nat.mul_comm];exact hi)
  rw [hq,hm,if_pos hqR]
  (try dsimp only)
  rw [rowF_get h hqR hmC,hqm])
 subst he
 unfold fullL
 rw [if_pos h,Int.toNat_natCast]
 cases hid
 ·refine ⟨_,ops,?_,k1,k2⟩
  simp [List.append_assoc]
 ·refine ⟨_,ops ++ opH true,?_,k1.app (Wr.hide true),?_⟩
  ·simp [List.append_assoc]
  ·rw [stepsX_app,k2]
   exact stepsX_hide true
theorem runN_stop : ∀ (xs ys : List C4),xs.length = ys.length → runN xs ys < ys.length → ys[runN xs ys]? = xs[runN xs ys]?
 | [],[],_,h => by simp at h
 | [],_ :: _,h,_ => by simp at h
 | _ :: _,[],h,_ => by simp at h
 | x :: xs,y :: ys,h,h2 => by
  rw [runN] at h2 ⊢
  split
  ·rename_i e
   simp [e]
  ·rename_i e
   rw [if_neg e] at h2
   simp only [List.length_cons] at h h2
   rw [List.getElem?_cons_succ,List.getElem?_cons_succ]
   exact runN_stop xs ys (by omega) (by omega)
/-- The first N cells are the new ones, the others the old ones. -/
def Part (Rn Cn : Nat) (os ns : List C4) (N : Nat) (cs : List C4) : Prop:=∀ i,i < Rn * Cn → cs[i]? = if i < N then ns[i]? else os[i]?
theorem dif_dn {Rn Cn r : Nat} {os ns xs ys : List C4} {K : Option Kn} {hid : Bool} (hR : Rn ≤ 30) (hC0 : 0 < Cn) (hC : Cn ≤ 60) (hr : r < Rn) (hx : xs.length = Cn) (hy : ys.length = Cn) (hv : ∀ c ∈ ys,cellB c = true)
  (hxs : ∀ k,k < Cn → xs[k]? = os[r * Cn + k]?) (hys : ∀ k,k < Cn → ys[k]? = ns[r * Cn + k]?) : ∀ (f i : Nat) (s : List Int × A3),
  Cn ≤ i + f → Dn Rn Cn K s.1 s.2 hid (Part Rn Cn os ns (r * Cn + min i Cn)) → Dn Rn Cn K (difF xs ys r f i s).1 (difF xs ys r f i s).2 hid (Part Rn Cn os ns (r * Cn + Cn))
 | 0,i,s,h,hd => by rw [difF];rw [show min i Cn = Cn by omega] at hd;exact hd
 | f + 1,i,s,h,hd => by
  rw [difF]
  have hle:=runN_le (xs.drop i) (ys.drop i)
  rw [List.length_drop,hy] at hle
  obtain ⟨k,hk⟩ : ∃ k,runN (xs.drop i) (ys.drop i) = k:=⟨_,rfl⟩
  have hst:=runN_stop (xs.drop i) (ys.drop i) (by rw [List.length_drop,List.length_drop,hx,hy])
  rw [List.length_drop,hy,hk,List.getElem?_drop,List.getElem?_drop] at hst
  rw [hk] at hle ⊢
  have hb:=mul_lt (Cn:=Cn) hr
  split
  ·rename_i h0
   subst h0
   refine dif_dn hR hC0 hC hr hx hy hv hxs hys f (i + 1) s (by omega) (hd.mono (fun cs _ hp j hj => ?_))
   rw [hp j hj]
   by_cases hi : i < Cn
   ·rw [show min i Cn = i by omega,show min (i + 1) Cn = i + 1 by omega]
    by_cases hj1 : j < r * Cn + i
    ·rw [if_pos hj1,if_pos (by omega)]
    ·rw [if_neg hj1]
     by_cases hj2 : j < r * Cn + (i + 1)
     ·rw [if_pos hj2]
      obtain rfl : j = r * Cn + i:=by omega
      have h1:=hst (by omega)
      rw [Nat.add_zero,hxs i hi,hys i hi] at h1
      exact h1.symm
     ·rw [if_neg hj2]
   ·rw [show min i Cn = Cn by omega,show min (i + 1) Cn = Cn by omega]
  ·rename_i h0
   have hi : i < Cn:=by omega
   have hseg : ((ys.drop i).take k).length = k:=by rw [List.length_take,List.length_drop,hy];omega
   refine dif_dn hR hC0 hC hr hx hy hv hxs hys f (i + k + 1) _ (by omega) ((hd.row hR hC (r:=r) (f:=i) (t:=(ys.drop i).take k) hr hi (by omega) (fun c hc => hv c (List.mem_of_mem_drop (List.mem_of_mem_take hc)))).mono ?_)
   rintro cs' _ ⟨cs,hlen,hp,rfl⟩ j hj
   rw [setS_get _ _ _ _ (by rw [hlen,hseg];omega),hseg,hp j hj,show min i Cn = i by omega]
   by_cases hj1 : r * Cn + i ≤ j ∧ j < r * Cn + i + k
   ·rw [if_pos hj1,if_pos (by omega),List.getElem?_take,if_pos (by omega),List.getElem?_drop,hys _ (by omega)]
    congr 1
    omega
   ·rw [if_neg hj1]
    by_cases hj2 : j < r * Cn + i
    ·rw [if_pos hj2,if_pos (by omega)]
    ·rw [if_neg hj2]
     by_cases hj3 : j < r * Cn + min (i + k + 1) Cn
     ·rw [if_pos hj3]
      obtain rfl : j = r * Cn + (i + k):=by omega
      have h1:=hst (by omega)
      rw [hxs _ (by omega),hys _ (by omega)] at h1
      exact h1.symm
     ·rw [if_neg hj3]
theorem difRows_dn {Rn Cn : Nat} {os ns : List C4} {hid : Bool} {row col row2 col2 : Int} (hC : Cn ≤ 60) (ho : viewB Rn Cn os row col = true) (hn : viewB Rn Cn ns row2 col2 = true) : ∀ n,n ≤ Rn →
  Dn Rn Cn (some (knV os row col hid)) (difRows (fun r => rowF Rn Cn os r) (fun r => rowF Rn Cn ns r) n).1 (difRows (fun r => rowF Rn Cn os r) (fun r => rowF Rn Cn ns r) n).2 hid (Part Rn Cn os ns (n * Cn))
 | 0,_ => by
  obtain ⟨h1,h2,h3,h4,h5,-⟩:=viewB_dim ho
  exact ⟨[],os,row,col,false,Wr.nil_,rfl,by rw [← Int.natCast_mul] at h5;omega,(show avA (0,0,0) = true by decide),fun i hi => by rw [if_neg (by omega)]⟩
 | n + 1,hle => by
  obtain ⟨h1,h2,h3,h4,h5,-⟩:=viewB_dim ho
  have ih:=difRows_dn (hid:=hid) hC ho hn n (by omega)
  have e1:=rowF_full ho n (by omega)
  have e2:=rowF_full hn n (by omega)
  rw [Int.toNat_natCast] at e1 e2
  rw [difRows,Nat.add_mul,Nat.one_mul]
  unfold difR
  refine dif_dn (by omega) (by omega) hC (by omega) e1 e2 (fun c hc => view_cells hn c (rowF_mem hc)) (fun k hk => rowF_get ho (by omega) hk) (fun k hk => rowF_get hn (by omega) hk) _ 0 _ (by rw [e2];omega) ?_
  rw [Nat.zero_min,Nat.add_zero]
  exact ih
theorem diff_ops {Rn Cn : Nat} {os ns : List C4} {row col row2 col2 : Int} (hid hid2 : Bool) (hC : Cn ≤ 60) (ho : viewB Rn Cn os row col = true) (hn : viewB Rn Cn ns row2 col2 = true) :
  ∃ ops,Wr (diffL Rn Cn os row col hid Rn Cn ns row2 col2 hid2) ops ∧ stepsX Rn Cn (some (knV os row col hid)) ops = some (knV ns row2 col2 hid2):=by
 obtain ⟨h1,h2,h3,h4,h5,h6,h7,h8,h9⟩:=viewB_dim hn
 cases hs : sameV Rn Cn os row col hid Rn Cn ns row2 col2 hid2
 ·have hd:=difRows_dn (hid:=hid) hC ho hn Rn (Nat.le_refl _)
  obtain ⟨ops,cs',k1,k2,k3,k4⟩:=hd.fin_ (by omega) hC h6 h7 h8 h9
  have he : cs' = ns:=cells_all (by omega) hn k4 (fun i hi => by rw [k3 i hi,if_pos hi])
  subst he
  rw [diffL_main hn hs ho,Int.toNat_natCast]
  by_cases hh : hid = hid2
  ·subst hh
   rw [if_pos rfl,List.append_nil]
   exact ⟨ops,k1,k2⟩
  ·rw [if_neg hh]
   refine ⟨ops ++ opH hid2,k1.app (Wr.hide hid2),?_⟩
   rw [stepsX_app,k2]
   exact stepsX_hide hid2
 ·rw [diffL_no (.inr hs)]
  obtain ⟨-,-,rfl,rfl,rfl,rfl⟩:=of_decide_eq_true hs
  exact ⟨[],Wr.nil_,rfl⟩
theorem okRest_27 : ∀ (t : List Int) (lo hi : Int),28 ≤ lo → okRest lo hi (t ++ [27]) = false
 | [],lo,hi,h => by
  show (decide (lo ≤ 27 ∧ 27 ≤ hi) && okRest 128 191 []) = false
  rw [decide_eq_false (by omega)];rfl
 | x :: t,lo,hi,h => by
  show (decide (lo ≤ x ∧ x ≤ hi) && okRest 128 191 (t ++ [27])) = false
  rw [okRest_27 t 128 191 (by omega)]
  simp
/-- No character's encoding has an escape character behind its first byte. -/
theorem prefix_27 {b : Int} {t : List Int} (h : beginB (b :: t) = true) : beginB ((b :: t) ++ [27]) = false ∧ completeB ((b :: t) ++ [27]) = false:=by
 have hp : prefixB ((b :: t) ++ [27]) = false:=by
  rw [List.cons_append,prefixB,okRest_27 t _ _ (by unfold rlow;split <;> (try split) <;> omega)]
  simp
 unfold beginB completeB
 rw [hp]
 exact ⟨rfl,rfl⟩
/-- After all of it was written, whatever was before. -/
theorem full_feed {Rn Cn : Nat} {cs : List C4} {row col : Int} (hid : Bool) (hC : Cn ≤ 60) (h : viewB Rn Cn cs row col = true) (rs : List Int) (hrs : validB rs = true) (s : ScS) (K : Option Kn) :
  (dec (restB rs) (fullL Rn Cn cs row col hid)).1 = [] ∧ (allN s (dec (restB rs) (fullL Rn Cn cs row col hid)).2).1 = (0,0,[]) ∧ stepsX Rn Cn K (allN s (dec (restB rs) (fullL Rn Cn cs row col hid)).2).2 = some (knV cs row col hid):=by
 obtain ⟨tl,ops,e,⟨cd,⟨he,hch⟩,hal⟩,hst⟩:=full_ops hid hC h
 rw [e,restB_valid hrs]
 have hb : [27,99] ++ tl = ([27,99] ++ cd).flatMap encC:=by rw [List.flatMap_append,← he];rfl
 have hd0 : dec [] ([27,99] ++ tl) = ([],[27,99] ++ cd):=by
  rw [hb]
  refine dec_back _ (fun v hv => ?_)
  rcases List.mem_append.1 hv with hv|hv
  ·simp only [List.mem_cons,List.not_mem_nil,or_false] at hv
   exact charB_yes (by omega) (by omega)
  ·exact hch v hv
 have hd : ∃ pre,dec rs ([27,99] ++ tl) = ([],pre ++ ([27,99] ++ cd)):=by
  cases rs with
  | nil => exact ⟨[],hd0⟩
  | cons b t =>
   have k:=prefix_27 (b:=b) (t:=t) (by unfold validB at hrs;simpa using hrs)
   refine ⟨[65533],?_⟩
   rw [show [27,99] ++ tl = 27 :: (99 :: tl) from rfl,dec_again k.1 k.2 (by simp),show (27 : Int) :: (99 :: tl) = [27,99] ++ tl from rfl,hd0]
   rfl
 obtain ⟨pre,hd⟩:=hd
 rw [hd]
 dsimp only
 have hesc : ∀ s : ScS,allN s [27,99] = ((0,0,[]),(allN s [27,99]).2) ∧ ∀ K,stepsX Rn Cn K (allN s [27,99]).2 = some (kn0 Rn Cn):=fun s => by
  obtain ⟨md,pv,xs⟩:=s
  have e1 : nextN md pv xs 27 = ((if md = 5 ∨ md = 6 then 6 else 1,0,[]),[]):=by
   unfold nextN nextB
   by_cases h5 : md = 5
   ·subst h5;simp
   ·by_cases h6 : md = 6
    ·subst h6;simp
    ·rw [if_neg h5,if_neg h6,if_neg (by omega),if_pos rfl,if_neg (by omega)]
  have e2 : allN (md,pv,xs) [27,99] = ((0,0,[]),[(3,99,0,[])]):=by
   rw [allN]
   dsimp only
   rw [e1]
   by_cases h5 : md = 5 ∨ md = 6
   ·rw [if_pos h5];decide
   ·rw [if_neg h5];decide
  rw [e2]
  exact ⟨rfl,fun K => by rw [stepsX_one];unfold stepX;rw [if_pos ⟨rfl,rfl⟩]⟩
 obtain ⟨f1,f2⟩:=hesc (allN s pre).1
 refine ⟨rfl,?_,?_⟩
 ·rw [allN_app,allN_app,f1]
  dsimp only
  rw [hal]
 ·rw [allN_app,allN_app]
  dsimp only
  rw [f1]
  dsimp only
  rw [hal,stepsX_app,stepsX_app,f2]
  exact hst
/-- After what is new was written where the old view is shown. -/
theorem diff_feed {Rn Cn : Nat} {os ns : List C4} {row col row2 col2 : Int} (hid hid2 : Bool) (hC : Cn ≤ 60) (ho : viewB Rn Cn os row col = true) (hn : viewB Rn Cn ns row2 col2 = true) :
  (dec (restB []) (diffL Rn Cn os row col hid Rn Cn ns row2 col2 hid2)).1 = [] ∧ (allN (0,0,[]) (dec (restB []) (diffL Rn Cn os row col hid Rn Cn ns row2 col2 hid2)).2).1 = (0,0,[]) ∧ stepsX Rn Cn (some (knV os row col hid)) (allN (0,0,[]) (dec (restB []) (diffL Rn Cn os row col hid Rn Cn ns row2 col2 hid2)).2).2 = some (knV ns row2 col2 hid2):=by
 obtain ⟨ops,⟨cd,⟨he,hch⟩,hal⟩,hst⟩:=diff_ops hid hid2 hC ho hn
 rw [he,show restB [] = [] from rfl,dec_back cd hch]
 dsimp only
 rw [hal]
 exact ⟨rfl,rfl,hst⟩
theorem Wr.byte {bs : List Int} {ops : List OpS} (h : Wr bs ops) : ∀ x ∈ bs,0 ≤ x ∧ x ≤ 255:=by
 obtain ⟨cs,⟨rfl,hc⟩,-⟩:=h
 intro x hx
 obtain ⟨v,hv,hx⟩:=List.mem_flatMap.1 hx
 exact encC_byte v (hc v hv) x hx
theorem hideL_len (b : Bool) : (hideL b).length = 6:=by cases b <;> rfl
theorem view_rc {Rn Cn : Nat} {cs : List C4} {row col : Int} (h : viewB Rn Cn cs row col = true) (h60 : cs.length ≤ 60) : Rn * Cn ≤ 60:=by
 obtain ⟨h1,h2,h3,h4,h5,-⟩:=viewB_dim h
 rw [← Int.natCast_mul] at h5
 omega
theorem fullL_facts {Rn Cn : Nat} {cs : List C4} {row col : Int} (hid : Bool) (hC : Cn ≤ 60) (h60 : cs.length ≤ 60) (h : viewB Rn Cn cs row col = true) : (fullL Rn Cn cs row col hid).length ≤ 10000 ∧ ∀ x ∈ fullL Rn Cn cs row col hid,0 ≤ x ∧ x ≤ 255:=by
 refine ⟨?_,?_⟩
 ·obtain ⟨h1,h2,h3,h4,h5,h6,h7,h8,h9⟩:=viewB_dim h
  have hrc:=view_rc h h60
  unfold fullL
  rw [if_pos h,Int.toNat_natCast]
  have k1:=rowsB_len (fun r => rowF Rn Cn cs r) Cn (fun k => by have:=rowF_len Rn Cn cs k (by omega);rw [Int.toNat_natCast] at this;exact this) Rn (by omega)
  rw [Nat.mul_add,show Rn * (124 * Cn) = 124 * (Rn * Cn) by rw [Nat.mul_left_comm]] at k1
  have k2:=bts_len (rowsB (fun r => rowF Rn Cn cs r) Rn).2 (0,0,0)
  have k3:=goesL_len row col (by omega) (by omega)
  have k4 : (if hid = true then hideL true else []).length ≤ 6:=by split <;> simp [hideL]
  simp only [List.length_append,List.length_cons,List.length_nil]
  omega
 ·obtain ⟨tl,ops,e,hw,-⟩:=full_ops hid hC h
  rw [e]
  intro x hx
  rcases List.mem_append.1 hx with hx|hx
  ·simp only [List.mem_cons,List.not_mem_nil,or_false] at hx
   omega
  ·exact hw.byte x hx
theorem difF_len {xs ys : List C4} {r : Int} {n : Nat} (hr : r < 99) (hn : n ≤ 98) (hy : ys.length = n) : ∀ (f i : Nat) (s : List Int × A3),(difF xs ys r f i s).1.length ≤ s.1.length + 132 * (n - i)
 | 0,i,s => by rw [difF];omega
 | f + 1,i,s => by
  rw [difF]
  have hle:=runN_le (xs.drop i) (ys.drop i)
  rw [List.length_drop,hy] at hle
  obtain ⟨k,hk⟩ : ∃ k,runN (xs.drop i) (ys.drop i) = k:=⟨_,rfl⟩
  rw [hk] at hle ⊢
  split
  ·have:=difF_len (xs:=xs) hr hn hy f (i + 1) s
   omega
  ·have h1:=difF_len (xs:=xs) hr hn hy f (i + k + 1) (s.1 ++ (goesL r i ++ pntB s.2 ((ys.drop i).take k)),pntA s.2 ((ys.drop i).take k))
   have h2:=goesL_len r (i : Int) hr (by omega)
   have h3:=pntB_len ((ys.drop i).take k) s.2
   have h4 : ((ys.drop i).take k).length ≤ k:=by rw [List.length_take];exact Nat.min_le_left _ _
   simp only [List.length_append] at h1
   omega
theorem difRows_len {F G : Nat → List C4} {Rn Cn : Nat} (hR : Rn ≤ 30) (hC : Cn ≤ 60) (hG : ∀ k,k < Rn → (G k).length = Cn) : ∀ n,n ≤ Rn → (difRows F G n).1.length ≤ n * (132 * Cn)
 | 0,_ => by simp [difRows]
 | n + 1,h => by
  have ih:=difRows_len (F:=F) hR hC hG n (by omega)
  rw [difRows,Nat.add_mul,Nat.one_mul]
  unfold difR
  have:=difF_len (xs:=F n) (r:=n) (n:=Cn) (by omega) (by omega) (hG n (by omega)) (G n).length 0 (difRows F G n)
  omega
theorem diffL_facts {Rn Cn : Nat} {os ns : List C4} {row col row2 col2 : Int} (hid hid2 : Bool) (hC : Cn ≤ 60) (h60 : ns.length ≤ 60) (ho : viewB Rn Cn os row col = true) (hn : viewB Rn Cn ns row2 col2 = true) :
  (diffL Rn Cn os row col hid Rn Cn ns row2 col2 hid2).length ≤ 10000 ∧ ∀ x ∈ diffL Rn Cn os row col hid Rn Cn ns row2 col2 hid2,0 ≤ x ∧ x ≤ 255:=by
 refine ⟨?_,?_⟩
 ·obtain ⟨h1,h2,h3,h4,h5,h6,h7,h8,h9⟩:=viewB_dim hn
  have hrc:=view_rc hn h60
  cases hs : sameV Rn Cn os row col hid Rn Cn ns row2 col2 hid2
  ·rw [diffL_main hn hs ho,Int.toNat_natCast]
   have k1:=difRows_len (F:=fun r => rowF Rn Cn os r) (G:=fun r => rowF Rn Cn ns r) (Rn:=Rn) (Cn:=Cn) (by omega) hC (fun k hk => by have:=rowF_full hn k (by omega);rw [Int.toNat_natCast] at this;exact this) Rn (Nat.le_refl _)
   rw [show Rn * (132 * Cn) = 132 * (Rn * Cn) by rw [Nat.mul_left_comm]] at k1
   have k2:=bts_len (difRows (fun r => rowF Rn Cn os r) (fun r => rowF Rn Cn ns r) Rn).2 (0,0,0)
   have k3:=goesL_len row2 col2 (by omega) (by omega)
   have k4 : (if hid = hid2 then [] else hideL hid2).length ≤ 6:=by
    split
    ·simp
    ·rw [hideL_len];omega
   simp only [List.length_append]
   omega
  ·rw [diffL_no (.inr hs)]
   simp
 ·obtain ⟨ops,hw,-⟩:=diff_ops hid hid2 hC ho hn
  exact hw.byte
/-- Box g holds a valid terminal of R x C that has lost at most B lines; K is known of its screen, G says what its decoder and scanner hold. -/
def TmK (w : World) (g R C : Nat) (B : Int) (K : Option Kn) (G : Trm → Prop) : Prop :=
 ∃ t : Trm,Sb w g t.vals.toArray 53 ∧ t.Ok w B ∧ t.s.Rn = R ∧ t.s.Cn = C ∧ Mt w t.s K ∧ (∀ ad,t.s.A = some ad → ad.block ≠ g) ∧ (0 < t.Hn → ∀ ad,t.HA = some ad → ad.block ≠ g) ∧ G t
theorem TmK.up {w w' : World} {g R C : Nat} {B : Int} {K : Option Kn} {G : Trm → Prop} (h : TmK w g R C B K G) (hb : Bw w w') : TmK w' g R C B K G:=by
 obtain ⟨t,h1,h2,h3,h4,h5,h6⟩:=h
 exact ⟨t,h1.up hb,h2.up hb,h3,h4,h5.up hb,h6⟩
/-- A terminal that Feed has returned, stored in a box: the box is that of the old one, or was made apart from its lists. -/
theorem TmK.put {wn w3 : World} {g R C : Nat} {t2 : Trm} {old : Array Value} {B : Int} {K : Option Kn} {G : Trm → Prop} (hS : Sb wn g old 53) (ho : ∀ (i : Nat) (x : Int),old[i]? ≠ some (.int .u8 x)) (hA : ∀ ad,t2.s.A = some ad → ad.block ≠ g) (hH : 0 < t2.Hn → ∀ ad,t2.HA = some ad → ad.block ≠ g)
  (ht2 : t2.Ok wn B) (e1 : t2.s.Rn = R) (e2 : t2.s.Cn = C) (hMt : Mt wn t2.s K) (hG : G t2) (hg : wn.grownBy w3 (some g)) (hS3 : Sb w3 g t2.vals.toArray 53) : TmK w3 g R C B K G:=by
 have hA' : ∀ ad,t2.s.A = some ad → some ad.block ≠ some g:=fun ad e e3 => hA ad e (Option.some.inj e3)
 exact ⟨t2,hS3,ht2.far hg hA' (fun h0 => ht2.2.1.1.ne_sbf h0 hS ho) (ht2.2.2.2.1.ne hS (show 53 ≠ 3 by decide)) (fun h0 ad e e3 => hH h0 ad e (Option.some.inj e3)),e1,e2,hMt.far hg hA',hA,hH,hG⟩
/-- Where the lists of a fed terminal lie: not in the box of the old one. -/
theorem fed_ne {w : World} {g : Nat} {t t2 : Trm} (hg : g < w.heap.size) (hA : ∀ ad,t.s.A = some ad → ad.block ≠ g) (hH : 0 < t.Hn → ∀ ad,t.HA = some ad → ad.block ≠ g) (hpl : Pl w.heap.size t.s.A t2.s.A) (hph : PlH w.heap.size t t2) :
  (∀ ad,t2.s.A = some ad → ad.block ≠ g) ∧ (0 < t2.Hn → ∀ ad,t2.HA = some ad → ad.block ≠ g):=by
 refine ⟨fun ad e => ?_,fun h0 ad e => ?_⟩
 ·rcases hpl with h|h
  ·exact hA ad (by rw [← h];exact e)
  ·have:=h ad e;omega
 ·rcases hph with h|h
  ·exact hH (by rw [← h.2];exact h0) ad (by rw [← h.1];exact e)
  ·have:=h ad e;omega
/-- The decoder holds nothing, and the scanner is on the ground. -/
def OnG (t : Trm) : Prop:=t.rs = [] ∧ (t.md,t.pv,t.xs) = ((0,0,[]) : ScS)
theorem Trm.Ok.vrs {w : World} {t : Trm} {B : Int} (h : t.Ok w B) : validB t.rs = true:=h.2.1.2.2.2.1
/-- What is known behind all of it. -/
theorem fed_full {w w' : World} {Rn Cn : Nat} {cs : List C4} {row col : Int} {hid : Bool} {t t' : Trm} {B : Int} (hC : Cn ≤ 60) (h : viewB Rn Cn cs row col = true) (ht : t.Ok w B) (e1 : t.s.Rn = Rn) (e2 : t.s.Cn = Cn) {K : Option Kn}
  (hM : Mt w' t'.s (stepsX t.s.Rn t.s.Cn K (allN (t.md,t.pv,t.xs) (dec (restB t.rs) (fullL Rn Cn cs row col hid)).2).2)) (hr : t'.rs = (dec (restB t.rs) (fullL Rn Cn cs row col hid)).1) (hs : (t'.md,t'.pv,t'.xs) = (allN (t.md,t.pv,t.xs) (dec (restB t.rs) (fullL Rn Cn cs row col hid)).2).1) :
  Mt w' t'.s (some (knV cs row col hid)) ∧ OnG t':=by
 obtain ⟨k1,k2,k3⟩:=full_feed hid hC h t.rs ht.vrs (t.md,t.pv,t.xs) K
 rw [e1,e2,k3] at hM
 exact ⟨hM,hr.trans k1,hs.trans k2⟩
/-- What is known behind what is new. -/
theorem fed_diff {w' : World} {Rn Cn : Nat} {os ns : List C4} {row col row2 col2 : Int} {hid hid2 : Bool} {t t' : Trm} (hC : Cn ≤ 60) (ho : viewB Rn Cn os row col = true) (hn : viewB Rn Cn ns row2 col2 = true) (hG : OnG t) (e1 : t.s.Rn = Rn) (e2 : t.s.Cn = Cn)
  (hM : Mt w' t'.s (stepsX t.s.Rn t.s.Cn (some (knV os row col hid)) (allN (t.md,t.pv,t.xs) (dec (restB t.rs) (diffL Rn Cn os row col hid Rn Cn ns row2 col2 hid2)).2).2)) (hr : t'.rs = (dec (restB t.rs) (diffL Rn Cn os row col hid Rn Cn ns row2 col2 hid2)).1) (hs : (t'.md,t'.pv,t'.xs) = (allN (t.md,t.pv,t.xs) (dec (restB t.rs) (diffL Rn Cn os row col hid Rn Cn ns row2 col2 hid2)).2).1) :
  Mt w' t'.s (some (knV ns row2 col2 hid2)) ∧ OnG t':=by
 obtain ⟨k1,k2,k3⟩:=diff_feed hid hid2 hC ho hn
 rw [hG.1,hG.2] at hM hs
 rw [hG.1] at hr
 rw [e1,e2,k3] at hM
 exact ⟨hM,hr.trans k1,hs.trans k2⟩
/-- What a terminal shows whose screen is known. -/
theorem shown {w : World} {t : Trm} {Rn Cn : Nat} {cs : List C4} {row col : Int} {hid : Bool} (h : Mt w t.s (some (knV cs row col hid))) (e1 : t.s.Rn = Rn) (e2 : t.s.Cn = Cn) : Rg w t.s.A t.s.n cs ∧ t.s.n ≤ t.s.c ∧ t.s.c ≤ 9223372036854775807 ∧ sameV (t.s.Rn : Int) (t.s.Cn : Int) cs t.s.row t.s.col t.s.hid Rn Cn cs row col hid = true:=by
 obtain ⟨hO,m1,m2,m3,m4,m5,m6⟩:=h _ rfl
 obtain ⟨k1,k2,k3,k4,k5,k6,k7,k8,k9⟩:=hO.1
 refine ⟨k8,k6,k7,decide_eq_true ⟨by rw [e1],by rw [e2],rfl,m1,m2,m5⟩⟩
end Go.Proofs.YteebdjmjeahccaaGreatDoor
