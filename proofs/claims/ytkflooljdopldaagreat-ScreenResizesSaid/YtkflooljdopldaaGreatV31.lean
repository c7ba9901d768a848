/- Parts of the proof, one after the other. -/
import Derived.Test.YtkflooljdopldaaGreatV28
import Derived.Test.YtkflooljdopldaaGreatV26
import Derived.Test.YtkflooljdopldaaGreatV27
set_option linter.unusedSimpArgs false
set_option linter.unusedVariables false
/- Resize: the cells that it makes (plain); copies within drawn regions. -/
namespace Go.Proofs.YtkflooljdopldaaGreat
open Go.RowKit

/-- A cell of a grid in another size. -/
def resF (Rn Cn : Nat) (cs : List C4) (r k : Nat) : C4:=atF Rn Cn cs r k blk
def rsR (R C : Int) (cs : List C4) (rows : Int) : Int:=if gridB R C cs = true then clamp rows 30 else R
def rsC (R C : Int) (cs : List C4) (cols : Int) : Int:=if gridB R C cs = true then clamp cols 100 else C
def rsG (R C : Int) (cs : List C4) (rows cols : Int) : List C4:=if gridB R C cs = true then tab (clamp rows 30).toNat (clamp cols 100).toNat (resF R.toNat C.toNat cs) else cs
def rowsTo (R' C' m : Nat) (F : Nat → Nat → C4) : List C4:=tab R' C' (fun r k => if r < m then F r k else blk)
def cellsTo (C' n' m : Nat) (F : Nat → Nat → C4) : List C4:=(List.range n').map fun j => if j < m then F (j / C') (j % C') else blk
def cpyC (dst : List C4) (k : Nat) (src : List C4) (p q : Nat) : List C4:=dst.take k ++ (src.drop p).take q ++ dst.drop (k + q)
theorem cellsTo_len (C' n' m : Nat) (F : Nat → Nat → C4) : (cellsTo C' n' m F).length = n':=by unfold cellsTo;simp
theorem cellsTo_zero (C' n' : Nat) (F : Nat → Nat → C4) : cellsTo C' n' 0 F = List.replicate n' blk:=by
 refine List.ext_getElem (by rw [cellsTo_len];simp) (fun i h1 h2 => ?_)
 simp [cellsTo]
theorem cellsTo_all (R' C' : Nat) (F : Nat → Nat → C4) : cellsTo C' (R' * C') (R' * C') F = tab R' C' F:=by
 refine List.ext_getElem (by rw [cellsTo_len,tab_len]) (fun i h1 h2 => ?_)
 rw [tab_get]
 rw [tab_len] at h2
 simp [cellsTo,h2]
theorem cellsTo_set {C' n' m : Nat} (F : Nat → Nat → C4) (h : m < n') : (cellsTo C' n' m F).set m (F (m / C') (m % C')) = cellsTo C' n' (m + 1) F:=by
 refine List.ext_getElem (by rw [List.length_set,cellsTo_len,cellsTo_len]) (fun i h1 h2 => ?_)
 rw [List.getElem_set]
 simp only [cellsTo,List.getElem_map,List.getElem_range]
 by_cases e : m = i
 ·subst e
  rw [if_pos rfl,if_pos (by omega)]
 ·rw [if_neg e]
  by_cases h3 : i < m
  ·rw [if_pos h3,if_pos (by omega)]
  ·rw [if_neg h3,if_neg (by omega)]
theorem rowsTo_len (R' C' m : Nat) (F : Nat → Nat → C4) : (rowsTo R' C' m F).length = R' * C':=tab_len _ _ _
theorem rowsTo_at (R' C' m : Nat) (F : Nat → Nat → C4) (i : Nat) : (rowsTo R' C' m F)[i]? = if i < R' * C' then some (if i / C' < m then F (i / C') (i % C') else blk) else none:=by
 by_cases h : i < R' * C'
 ·rw [if_pos h,List.getElem?_eq_getElem (by rw [rowsTo_len];exact h)]
  simp [rowsTo,tab,tabK]
 ·rw [if_neg h,List.getElem?_eq_none (by rw [rowsTo_len];omega)]
theorem rowsTo_zero (R' C' : Nat) (F : Nat → Nat → C4) : rowsTo R' C' 0 F = List.replicate (R' * C') blk:=by
 refine List.ext_getElem? (fun i => ?_)
 rw [rowsTo_at,List.getElem?_replicate]
 simp
theorem rowsTo_all {Rn Cn R' C' M : Nat} {cs : List C4} (hC : 0 < C') (hM : Rn ≤ M ∨ R' ≤ M) : rowsTo R' C' M (resF Rn Cn cs) = tab R' C' (resF Rn Cn cs):=by
 refine tab_ext hC (fun r k hr hk => ?_)
 by_cases h : r < M
 ·rw [if_pos h]
 ·rw [if_neg h]
  unfold resF
  rw [atF_out (by omega)]
theorem cpyC_at {dst src : List C4} {k p q : Nat} (h1 : k + q ≤ dst.length) (h2 : p + q ≤ src.length) (i : Nat) : (cpyC dst k src p q)[i]? = if i < k then dst[i]? else if i < k + q then src[p + (i - k)]? else dst[i]?:=by
 have e1 : (dst.take k).length = k:=by rw [List.length_take];omega
 have e2 : ((src.drop p).take q).length = q:=by rw [List.length_take,List.length_drop];omega
 have e3 : (dst.take k ++ (src.drop p).take q).length = k + q:=by rw [List.length_append,e1,e2]
 unfold cpyC
 by_cases c1 : i < k
 ·rw [if_pos c1,List.getElem?_append_left (by rw [e3];omega),List.getElem?_append_left (by rw [e1];omega),List.getElem?_take,if_pos c1]
 ·rw [if_neg c1]
  by_cases c2 : i < k + q
  ·rw [if_pos c2,List.getElem?_append_left (by rw [e3];omega),List.getElem?_append_right (by rw [e1];omega),e1,List.getElem?_take,if_pos (by omega),List.getElem?_drop]
  ·rw [if_neg c2,List.getElem?_append_right (by rw [e3];omega),e3,List.getElem?_drop]
   congr 1
   omega
theorem rowsTo_step {Rn Cn R' C' m : Nat} {cs : List C4} (hC : 0 < C') (hm : m < R') (hm2 : m < Rn) (hl : cs.length = Rn * Cn) :
  cpyC (rowsTo R' C' m (resF Rn Cn cs)) (m * C') cs (m * Cn) (min Cn C') = rowsTo R' C' (m + 1) (resF Rn Cn cs):=by
 have hq1 : (m + 1) * C' ≤ R' * C':=Nat.mul_le_mul_right _ hm
 have hq2 : (m + 1) * Cn ≤ Rn * Cn:=Nat.mul_le_mul_right _ hm2
 rw [Nat.add_mul,Nat.one_mul] at hq1 hq2
 refine List.ext_getElem? (fun i => ?_)
 rw [cpyC_at (by rw [rowsTo_len];omega) (by rw [hl];omega),rowsTo_at,rowsTo_at]
 have hr : i / C' < m ↔ i < m * C':=Nat.div_lt_iff_lt_mul hC
 have hr1 : i / C' < m + 1 ↔ i < (m + 1) * C':=Nat.div_lt_iff_lt_mul hC
 rw [Nat.add_mul,Nat.one_mul] at hr1
 have hi : C' * (i / C') + i % C' = i:=Nat.div_add_mod i C'
 have hk : i % C' < C':=Nat.mod_lt _ hC
 have e2 : C' * m = m * C':=Nat.mul_comm _ _
 by_cases c1 : i < m * C'
 ·rw [if_pos c1,if_pos (show i < R' * C' by omega),if_pos (hr.mpr c1),if_pos (show i < R' * C' by omega),if_pos (hr1.mpr (by omega))]
 ·rw [if_neg c1]
  by_cases c2 : i < m * C' + min Cn C'
  ·have e : i / C' = m:=by have:=hr1.mpr (by omega);have:=fun h => c1 (hr.mp h);omega
   rw [if_pos c2,if_pos (by omega),if_pos (by omega),List.getElem?_eq_getElem (by rw [hl];omega)]
   rw [e] at hi ⊢
   unfold resF
   rw [atF_in hm2 (by omega) hl]
   congr 2
   omega
  ·rw [if_neg c2]
   by_cases c4 : i < R' * C'
   ·rw [if_pos c4,if_pos c4,if_neg (fun h => c1 (hr.mp h))]
    by_cases c3 : i / C' < m + 1
    ·have e : i / C' = m:=by have:=fun h => c1 (hr.mp h);omega
     rw [e] at hi ⊢
     rw [if_pos (by omega)]
     unfold resF
     rw [atF_out (by omega)]
    ·rw [if_neg c3]
   ·rw [if_neg c4,if_neg c4]
theorem Wc.copied {w' : World} {g : Nat} {cs src : List C4} {sp : List Value} {k p q : Nat} (h1 : k + q ≤ cs.length) (h2 : p + q ≤ src.length)
  (h : w'.heap[g]? = some (.cells ((flat cs ++ sp).toArray.toList.take (k * 4) ++ flat ((src.drop p).take q) ++ (flat cs ++ sp).toArray.toList.drop (k * 4 + (flat ((src.drop p).take q)).length)).toArray 53 (0,0))) : Wc w' g (cpyC cs k src p q) sp:=by
 have hq : ((src.drop p).take q).length = q:=by simp only [List.length_take,List.length_drop];omega
 unfold Wc
 rw [h,flat_len,hq]
 have e : flat (cpyC cs k src p q) = (flat cs).take (k * 4) ++ flat ((src.drop p).take q) ++ (flat cs).drop ((k + q) * 4):=by
  unfold cpyC
  rw [flat_app,flat_app,flat_take cs k,flat_drop cs (k + q)]
 rw [e]
 simp only [List.toList_toArray]
 rw [List.take_append_of_le_length (by rw [flat_len];omega),show k * 4 + q * 4 = (k + q) * 4 by omega,List.drop_append_of_le_length (by rw [flat_len];omega)]
 simp
theorem wp_copyS {P : Program} {o : Oper} {a : Act} {w : World} {K : Act → World → Prop} {Q : Exit → Act → World → Prop} (d s : Operand) (dT sT : TypeId)
  (ho : o.op = .call { callee:=.builtin .copy,args:=#[d,s],argTypes:=#[dT,sT] }) (elem : TypeId) (sz : Nat) (hu : P.underlying dT = some (.slice elem)) (hsz : (P.info? elem).map (·.size) = some sz)
  (g off dLen dCap : Nat) (ad : Addr) (sLen sCap : Nat) (hd : a.eval d = .slice (some ⟨g,off,none⟩) dLen dCap) (hs : a.eval s = .slice (some ad) sLen sCap)
  (cur : Array Value) (t : TypeId) (hg : w.heap[g]? = some (.cells cur t (0,0))) (cs : List Value) (hn : cs.length = Nat.min sLen dLen * sz)
  (hsrc : ∀ j v,cs[j]? = some v → w.cell? (ad.add j) = some v) (hfit : off + cs.length ≤ cur.size) (h1 : ∀ v ∈ cs,v.oneCell' = true)
  (h : ∀ w',w'.heap[g]? = some (.cells (cur.toList.take off ++ cs ++ cur.toList.drop (off + cs.length)).toArray t (0,0)) → w.grownBy w' (some g) → K (a.put o.dst (goInt (Nat.min sLen dLen))) w') : Oper.wp P o a w K Q:=by
 have hrun:=run_copy_rowS (P:=P) w dT sT o.type elem g off dLen dCap ad sLen sCap cur t cs sz hu hsz hg hn hsrc hfit h1
 unfold Oper.wp
 unfold execOp
 simp only [ho,resolve,invoke,builtin,Sem.run_bind,Sem.run_pure,Result.andThen_ok,List.map_toArray,List.map_cons,List.map_nil,hd,hs,hrun]
 exact h _ (setRow_heap w g _ _ t _ hg) ⟨rfl,rfl,rfl,by simp [World.setRow],fun k hk hne => setRow_other w g k _ (fun e => hne (by rw [e]))⟩

theorem Rg.lt0 {w : World} {A : Option Addr} {n : Nat} {cs : List C4} (h : Rg w A n cs) (h0 : 0 < cs.length) : ∀ ad,A = some ad → ad.block < w.heap.size:=fun ad e => by
 obtain ⟨g,o,e2,hx⟩:=h.2 (by have:=h.1;omega)
 rw [e2] at e
 cases e
 simpa using lt_of_cell (hx 0 h0).1
set_option maxRecDepth 100000 in
set_option maxHeartbeats 8000000 in
theorem gresize_no (R C : Int) (A : Option Addr) (n c : Nat) (cs : List C4) (rows cols : Int) (w : World) (hr : Rg w A n cs) (hn : n ≤ c) (hn3 : n ≤ 4398046511103) (hc : c ≤ 9223372036854775807) (hv : gridB R C cs = false) :
  Calls Tryz.prog 38 #[.agg #[.int .i64 R,.int .i64 C,.slice A n c],.int .i64 rows,.int .i64 cols] w (GrN w R C cs):=by
 have HR:=Lib.hid hr
 have HV:=Lib.hid hv
 clear hr hv
 go_enter Tryz.func38,Tryz.ntmps38
 go_upto_region 1 with (fail)
 generalize hw1 : (w.alloc (.cells #[.int .i64 R,.int .i64 C,.slice A n c] 26)).alloc _ = w1
 obtain ⟨hb0,hb1,hbw,hz⟩:=sb2 hw1
 have HB0:=Lib.hid hb0
 have HB1:=Lib.hid (show ∃ old,Sb w1 (w.heap.size + 1) old 26 ∧ old.size = 3 from ⟨_,hb1,rfl⟩)
 have hz1 : w.heap.size + 1 < w1.heap.size:=by omega
 clear hw1 hb0 hb1 hz
 have x0:=HB0.out.cell 0 (v:=.int .i64 R) rfl
 have x1:=HB0.out.cell 1 (v:=.int .i64 C) rfl
 have x2:=HB0.out.cell 2 (v:=.slice A n c) rfl
 go_upto_region 3 with (first
  | (go_at_call 31;refine (ggvalid_any R C A n c cs _ (by exact HR.out.up BWX) hn hc).mono ?_;rintro ee wv ⟨rfl,hbv⟩;rw [HV.out];clear x0 x1 x2;have x2:=(HB0.out.up hbv).cell 2 (v:=.slice A n c) rfl;have f2:=(HB0.out.up hbv).free 2;have hb1k:=hbv;have hzv:=hbv.size)
  | (go_at_call 30;refine (gclone_any A n c cs _ (by exact HR.out.up BWX) hn hn3 hc).mono ?_;rintro ee wk ⟨vk,rfl,hown,hbk⟩;have hzk:=hbk.size;have hb1q:=Bw.trans hb1k hbk;clear x2 f2;have x2:=(HB0.out.up hb1q).cell 2 (v:=.slice A n c) rfl;have f2:=(HB0.out.up hb1q).free 2;obtain ⟨Ak,ck,rfl,hkc,hkm⟩:=own_form hown;have HOWN:=Lib.hid (own_mono hown (show w.heap.size + 2 ≤ _ by omega));clear hown)
  | fail)
 have hbq:=hb1q
 have HB0k:=Lib.hid (HB0.out.up hbq)
 have HB1k:=Lib.hid (Exists.elim HB1.out (fun old h => (⟨old,h.1.up hbq,h.2⟩ : ∃ old,Sb wk (w.heap.size + 1) old 26 ∧ old.size = 3)))
 have hbwk : Bw w wk:=Bw.trans hbw hbq
 have hzk3 : w.heap.size + 1 < wk.heap.size:=by have:=hbq.size;omega
 clear x2 f2
 generalize hw3 : World.setCell wk ⟨w.heap.size,2,none⟩ (.slice Ak n ck) = w3
 have HS3:=Lib.hid (show Sb w3 w.heap.size (grV R C Ak n ck) 26 from by rw [← hw3];exact HB0k.out.set 2 _ rfl)
 have hg3 : wk.grownBy w3 (some w.heap.size):=by rw [← hw3];exact grown_set (grown_refl wk _) _ _
 have HO3:=Lib.hid (show w3.ownsRow (w.heap.size + 2) 53 4 (.slice Ak n ck) n (flat cs) from by rw [← hw3];exact own_set_below HOWN.out (by omega) _)
 have HB13:=Lib.hid (Exists.elim HB1k.out (fun old h => (⟨old,h.1.far hg3 (by intro e;have:=Option.some.inj e;omega),h.2⟩ : ∃ old,Sb w3 (w.heap.size + 1) old 26 ∧ old.size = 3)))
 have hbw3 : Bw w w3:=Bw.grown hbwk hg3 (fun k hk => by cases hk;omega)
 have hz3 : w.heap.size + 1 < w3.heap.size:=by have:=hg3.size;omega
 clear hw3 hg3 HOWN HB0k HB1k hb1q hbq
 have z0:=HS3.out.cell 0 (v:=.int .i64 R) rfl
 have z1:=HS3.out.cell 1 (v:=.int .i64 C) rfl
 have z2:=HS3.out.cell 2 (v:=.slice Ak n ck) rfl
 go_wp2_with (first
  | ((with_reducible refine wpList_store_gr R C Ak n ck (w.heap.size + 1) (.tmp 6) (.tmp 16) rfl rfl ?_ ?_ ?_ ?_);(focus rfl);(focus rfl);(focus (exact HB13.out));intro w4 hS4 hg4;have HS4:=Lib.hid hS4;have HG4:=Lib.hid hg4;clear hS4 hg4)
  | fail)
 refine bodyPost_ret (results_gr rfl _ _ (w.heap.size + 1) R C Ak n ck (by rfl) HS4.out) rfl ?_
 have hO4:=HO3.out.kept HG4.out (.inr (fun e => by have:=(HO3.out.lt _ e).1;omega))
 exact ⟨Ak,n,ck,rfl,Rg.of_own hO4,hkc,hkm,(fun ad e => by have:=own_new hO4 ad e;omega),Bw.grown hbw3 HG4.out (fun k hk => by cases hk;omega)⟩

/-- The grid R' x C' in box g7, its m first rows copied. -/
def RzR (w : World) (Rn Cn : Nat) (A : Option Addr) (n c : Nat) (cs : List C4) (g7 gp R' C' n2 c2 m : Nat) (sp : List Value) (wr : World) : Prop :=
 Sb wr w.heap.size (grV Rn Cn A n c) 26 ∧ Sb wr g7 (grV R' C' (some ⟨gp,0,none⟩) n2 c2) 26 ∧ (∃ old,Sb wr (w.heap.size + 1) old 26 ∧ old.size = 3) ∧ Wc wr gp (rowsTo R' C' m (resF Rn Cn cs)) sp ∧ Rg wr A n cs ∧ Bw w wr

set_option maxRecDepth 100000 in
set_option maxHeartbeats 8000000 in
theorem gresize_go (Rn Cn : Nat) (A : Option Addr) (n c : Nat) (cs : List C4) (rows cols : Int) (w : World) (hr : Rg w A n cs) (hn : n ≤ c) (hc : c ≤ 9223372036854775807) (hR1 : 1 ≤ Rn) (hR2 : Rn ≤ 30) (hC1 : 1 ≤ Cn) (hC2 : Cn ≤ 100) (hl : cs.length = Rn * Cn) (hv : gridB Rn Cn cs = true) :
  Calls Tryz.prog 38 #[.agg #[.int .i64 (Rn : Int),.int .i64 (Cn : Int),.slice A n c],.int .i64 rows,.int .i64 cols] w (GrN w (clamp rows 30) (clamp cols 100) (tab (clamp rows 30).toNat (clamp cols 100).toNat (resF Rn Cn cs))):=by
 have HR:=Lib.hid hr
 have HV:=Lib.hid hv
 have HL:=Lib.hid hl
 have hcl : 0 < cs.length:=by rw [hl];exact Nat.mul_pos (by omega) (by omega)
 have hAlt:=hr.lt0 hcl
 have hnl:=hr.1
 have HNL:=Lib.hid hnl
 obtain ⟨gs,os,rfl,-⟩:=hr.2 (by omega)
 have hgs : gs < w.heap.size:=hAlt _ rfl
 have h1:=clamp_bd rows 30 (by omega)
 have h2:=clamp_bd cols 100 (by omega)
 have HN:=Lib.hid (gnew16_own rows cols)
 obtain ⟨R',hR⟩ : ∃ R' : Nat,clamp rows 30 = R':=⟨(clamp rows 30).toNat,by omega⟩
 obtain ⟨C',hC⟩ : ∃ C' : Nat,clamp cols 100 = C':=⟨(clamp cols 100).toNat,by omega⟩
 rw [hR] at h1 HN ⊢
 rw [hC] at h2 HN ⊢
 simp only [Int.toNat_natCast]
 clear hR hC hr hv hl hnl hAlt
 obtain ⟨h1,h3⟩:=h1
 obtain ⟨h2,h4⟩:=h2
 obtain ⟨M,hM⟩ : ∃ M : Nat,((R' : Int) ≤ Rn ∧ M = R') ∨ ((Rn : Int) < R' ∧ M = Rn):=by
  rcases Decidable.em ((Rn : Int) < (R' : Int)) with h|h
  ·exact ⟨Rn,.inr ⟨h,rfl⟩⟩
  ·exact ⟨R',.inl ⟨by omega,rfl⟩⟩
 have hM1 : M ≤ R':=by omega
 have hM2 : M ≤ Rn:=by omega
 have HM:=Lib.hid hM
 clear hM
 go_enter Tryz.func38,Tryz.ntmps38
 go_upto_region 1 with (fail)
 generalize hw1 : (w.alloc (.cells #[.int .i64 (Rn : Int),.int .i64 (Cn : Int),.slice (some ⟨gs,os,none⟩) n c] 26)).alloc _ = w1
 obtain ⟨hb0,hb1,hbw,hz⟩:=sb2 hw1
 have HB0:=Lib.hid hb0
 have HB1:=Lib.hid (show ∃ old,Sb w1 (w.heap.size + 1) old 26 ∧ old.size = 3 from ⟨_,hb1,rfl⟩)
 have hz1 : w.heap.size + 1 < w1.heap.size:=by omega
 clear hw1 hb0 hb1 hz
 have x0:=HB0.out.cell 0 (v:=.int .i64 (Rn : Int)) rfl
 have x1:=HB0.out.cell 1 (v:=.int .i64 (Cn : Int)) rfl
 have x2:=HB0.out.cell 2 (v:=.slice (some ⟨gs,os,none⟩) n c) rfl
 go_upto_region 5 with (first
  | (go_at_call 31;refine (ggvalid_any (Rn : Int) (Cn : Int) _ n c cs _ (by exact HR.out.up BWX) hn hc).mono ?_;rintro ee wv ⟨rfl,hbv⟩;rw [HV.out];clear x0 x1 x2;have hzv:=hbv.size)
  | (go_at_call 34;refine (HN.out _).mono ?_;rintro ee w2 ⟨A2,n2,c2,rfl,hown,hn2,hc2,hb2⟩;have hzb2:=hb2.size;have HOWN:=Lib.hid hown;clear hown)
  | ((with_reducible refine wpList_store_gr (R' : Int) (C' : Int) A2 n2 c2 w2.heap.size (.tmp 7) (.tmp 19) rfl rfl ?_ ?_ ?_ ?_);(focus rfl);(focus rfl);(focus (exact ⟨_,heap_at rfl,rfl⟩));intro w3 hS3 hg3;have HS3:=Lib.hid hS3;have HG3:=Lib.hid hg3;clear hS3 hg3)
  | fail)
 have hg3:=HG3.out
 have hb13 : Bw w1 w2:=Bw.trans hbv (by simpa using hb2)
 have hbw2 : Bw w w2:=Bw.trans hbw hb13
 have hb23 : Bw w2 w3:=Bw.grown (show Bw w2 (w2.alloc _) from BWX) hg3 (fun k hk => by cases hk;omega)
 have hw1v : w1.heap.size ≤ wv.heap.size:=hzv
 have hown:=HOWN.out
 have hlen:=hown.1
 rw [flat_len] at hlen
 have hn2' : n2 = R' * C':=by
  have e : (List.replicate ((R' : Int) * (C' : Int)).toNat blk).length = R' * C':=by
   rw [List.length_replicate]
   have : ((R' : Int) * (C' : Int)) = ((R' * C' : Nat) : Int):=by simp
   rw [this]
   rfl
  rw [e] at hlen
  omega
 have hpos : 1 ≤ R' * C':=Nat.mul_pos (by omega) (by omega)
 obtain ⟨gp,sp,rfl,hgp1,hwc⟩:=Wc.of_own hown (by omega)
 have hgp2:=hwc.lt
 have hrep : (List.replicate ((R' : Int) * (C' : Int)).toNat blk) = rowsTo R' C' 0 (resF Rn Cn cs):=by
  rw [rowsTo_zero]
  have : ((R' : Int) * (C' : Int)) = ((R' * C' : Nat) : Int):=by simp
  rw [this]
  rfl
 rw [hrep] at hwc
 have hgpz : w.heap.size + 1 < gp:=by first|omega|(simp at hgp1;omega)
 have HST:=Lib.hid (show RzR w Rn Cn (some ⟨gs,os,none⟩) n c cs w2.heap.size gp R' C' n2 c2 0 sp w3 from ⟨HB0.out.up (Bw.trans hb13 hb23),HS3.out,Exists.elim HB1.out (fun old h => ⟨old,h.1.up (Bw.trans hb13 hb23),h.2⟩),hwc.up hb23,HR.out.up (Bw.trans hbw2 hb23),Bw.trans hbw2 hb23⟩)
 have hgpg : gp < w2.heap.size:=hgp2
 have HN2:=Lib.hid hn2'
 obtain ⟨g7,hg7⟩ : ∃ g7,w2.heap.size = g7:=⟨_,rfl⟩
 rw [hg7] at HST hgpg
 simp only [hg7]
 have y0:=HST.out.2.1.cell 0 (v:=.int .i64 R') rfl
 have z0:=HST.out.1.cell 0 (v:=.int .i64 (Rn : Int)) rfl
 clear hn2' hrep hwc hgp1 hgp2 hown hlen hb13 hbw2 hb23 hg3 HS3 HG3 HOWN HB0 HB1 HR hg7 hbv hb2 hzb2 hw1v hzv hz1
 dsimp only [Act.put]
 go_cut [24,25] (fun s24 s25 w' => s24 = .int .i64 M ∧ s25 = .int .i64 0 ∧ w3 = w')
 case first =>
  go_wp2_with fail
  all_goals
   go_meet
   case rel => exact ⟨congrArg (Value.int .i64) (by have h9:=HM.out;omega),rfl,rfl⟩
 case rest =>
 obtain ⟨rfl,rfl,rfl⟩:=hcut
 clear y0 z0
 go_wp2_with fail
 go_loopw [25] (fun i wr => ∃ k : Nat,i = .int .i64 k ∧ k ≤ M ∧ RzR w Rn Cn (some ⟨gs,os,none⟩) n c cs g7 gp R' C' n2 c2 k sp wr) (fun i _ => M - (intOf i).toNat)
 case atStart => exact ⟨0,rfl,by omega,HST.out⟩
 case round =>
  rename_i wr
  obtain ⟨k,rfl,hk,hS0,hS7,hold,hW,hRg,hbwr⟩:=hrel
  have HS0:=Lib.hid hS0
  have HS7:=Lib.hid hS7
  have HOLD:=Lib.hid hold
  have HWC:=Lib.hid hW
  have HRG:=Lib.hid hRg
  have HBW:=Lib.hid hbwr
  clear hS0 hS7 hold hW hRg hbwr
  by_cases hlt : k < M
  ·have hkM : (k : Int) < M:=by omega
   obtain ⟨p,hp⟩ : ∃ p : Nat,k * C' = p:=⟨_,rfl⟩
   obtain ⟨p2,hp2⟩ : ∃ p2 : Nat,p + C' = p2:=⟨_,rfl⟩
   obtain ⟨s,hs⟩ : ∃ s : Nat,k * Cn = s:=⟨_,rfl⟩
   obtain ⟨s2,hs2⟩ : ∃ s2 : Nat,s + Cn = s2:=⟨_,rfl⟩
   have hpi : (k : Int) * (C' : Int) = (p : Int):=by rw [← hp];simp
   have hpj : ((k : Int) + 1) * (C' : Int) = (p2 : Int):=by rw [Int.add_mul,hpi,← hp2];simp
   have hsi : (k : Int) * (Cn : Int) = (s : Int):=by rw [← hs];simp
   have hsj : ((k : Int) + 1) * (Cn : Int) = (s2 : Int):=by rw [Int.add_mul,hsi,← hs2];simp
   have hp2n : p2 ≤ n2:=by
    have:=Nat.mul_le_mul_right C' (show k + 1 ≤ R' by omega)
    rw [HN2.out,← hp2,← hp]
    rw [Nat.add_mul,Nat.one_mul] at this
    exact this
   have hs2n : s2 ≤ n:=by
    have:=Nat.mul_le_mul_right Cn (show k + 1 ≤ Rn by omega)
    rw [← HNL.out,HL.out,← hs2,← hs]
    rw [Nat.add_mul,Nat.one_mul] at this
    exact this
   have hpm : p2 ≤ 3000:=by
    have:=Nat.mul_le_mul (show k + 1 ≤ 30 by omega) (show C' ≤ 100 by omega)
    rw [Nat.add_mul,Nat.one_mul] at this
    omega
   have hsm : s2 ≤ 3000:=by
    have:=Nat.mul_le_mul (show k + 1 ≤ 30 by omega) (show Cn ≤ 100 by omega)
    rw [Nat.add_mul,Nat.one_mul] at this
    omega
   have hpd : p2 - p = C':=by omega
   have hsd : s2 - s = Cn:=by omega
   have hb1 : (0 : Int) ≤ (p : Int):=by omega
   have hb2 : (p : Int) ≤ (p2 : Int):=by omega
   have hb3 : (p2 : Int) ≤ (c2 : Int):=by omega
   have hd1 : (0 : Int) ≤ (s : Int):=by omega
   have hd2 : (s : Int) ≤ (s2 : Int):=by omega
   have hd3 : (s2 : Int) ≤ (c : Int):=by omega
   have hcq : ¬ c2 = p:=by omega
   have hcq2 : ¬ c = s:=by omega
   have hw1 : IntKind.i64.wrap ((k : Int) + 1) = (k : Int) + 1:=IntWalk.i64_in _ (by omega)
   have hw2 : IntKind.i64.wrap (p : Int) = (p : Int):=IntWalk.i64_in _ (by omega)
   have hw3 : IntKind.i64.wrap (p2 : Int) = (p2 : Int):=IntWalk.i64_in _ (by omega)
   have hw4 : IntKind.i64.wrap (s : Int) = (s : Int):=IntWalk.i64_in _ (by omega)
   have hw5 : IntKind.i64.wrap (s2 : Int) = (s2 : Int):=IntWalk.i64_in _ (by omega)
   have hgn : gp ≠ gs:=by omega
   have hlens : (rowsTo R' C' k (resF Rn Cn cs)).length = n2:=by rw [rowsTo_len,HN2.out]
   have F1 : (flat ((cs.drop s).take (min Cn C'))).length = Nat.min Cn C' * 4:=by
    have h1:=HNL.out
    rw [flat_len,List.length_take,List.length_drop]
    have e : min (min Cn C') (cs.length - s) = Nat.min Cn C':=by show _ = min Cn C';omega
    rw [e]
   have F2 : ∀ w',Bw wr w' → ∀ j v,(flat ((cs.drop s).take (min Cn C')))[j]? = some v → w'.cell? ((⟨gs,os + s * 4,none⟩ : Addr).add j) = some v:=fun w' hb j v hv => ((HRG.out.up hb).sub s (min Cn C') (by omega)).news j v hv
   have F3 : p * 4 + (flat ((cs.drop s).take (min Cn C'))).length ≤ (flat (rowsTo R' C' k (resF Rn Cn cs)) ++ sp).toArray.size:=by
    have h1:=HNL.out
    rw [flat_len,List.length_take,List.length_drop,List.size_toArray,List.length_append,flat_len,hlens]
    omega
   have HF:=Lib.hid (And.intro F1 (And.intro F2 F3))
   have HLAW:=Lib.hid (show cpyC (rowsTo R' C' k (resF Rn Cn cs)) p cs s (min Cn C') = rowsTo R' C' (k + 1) (resF Rn Cn cs) from by rw [← hp,← hs];exact rowsTo_step (by omega) (by omega) (by omega) HL.out)
   have HP:=Lib.hid (And.intro hp (And.intro hp2 (And.intro hs (And.intro hs2 hlens))))
   clear F1 F2 F3 hp hp2 hs hs2 hlens
   have HY:=Lib.hid (show ∀ w',Bw wr w' → (w'.cell? ⟨g7,2,none⟩ = some (.slice (some ⟨gp,0,none⟩) n2 c2) ∧ w'.cell? ⟨g7,1,none⟩ = some (.int .i64 (C' : Int)) ∧ w'.cell? ⟨w.heap.size,2,none⟩ = some (.slice (some ⟨gs,os,none⟩) n c) ∧ w'.cell? ⟨w.heap.size,1,none⟩ = some (.int .i64 (Cn : Int))) from fun w' hb => ⟨(HS7.out.up hb).cell 2 rfl,(HS7.out.up hb).cell 1 rfl,(HS0.out.up hb).cell 2 rfl,(HS0.out.up hb).cell 1 rfl⟩)
   have HYg:=Lib.hid (show ∀ w',wr.grownBy w' (some gp) → (w'.cell? ⟨g7,2,none⟩ = some (.slice (some ⟨gp,0,none⟩) n2 c2) ∧ w'.cell? ⟨g7,1,none⟩ = some (.int .i64 (C' : Int)) ∧ w'.cell? ⟨w.heap.size,2,none⟩ = some (.slice (some ⟨gs,os,none⟩) n c) ∧ w'.cell? ⟨w.heap.size,1,none⟩ = some (.int .i64 (Cn : Int))) from fun w' hb => ⟨(HS7.out.far hb (by intro e;have:=Option.some.inj e;omega)).cell 2 rfl,(HS7.out.far hb (by intro e;have:=Option.some.inj e;omega)).cell 1 rfl,(HS0.out.far hb (by intro e;have:=Option.some.inj e;omega)).cell 2 rfl,(HS0.out.far hb (by intro e;have:=Option.some.inj e;omega)).cell 1 rfl⟩)
   go_upto_region 8 with (fail)
   refine wp_region_held_drew (S:=(fun w' => w'.cell? ⟨g7,2,none⟩ = some (.slice (some ⟨gp,0,none⟩) n2 c2) ∧ w'.cell? ⟨g7,1,none⟩ = some (.int .i64 (C' : Int)) ∧ w'.cell? ⟨w.heap.size,2,none⟩ = some (.slice (some ⟨gs,os,none⟩) n c) ∧ w'.cell? ⟨w.heap.size,1,none⟩ = some (.int .i64 (Cn : Int)))) (by kernel_rfl) ?_ (fun hHeld => ?_)
   ·(try dsimp only);(first|(exact HYg.out _ ((grown_bw (Bw.drew (Bw.refl wr)) (some gp)).trans HG4.out))|(refine HY.out _ ?_;(repeat (first|with_reducible (first|assumption|exact Bw.refl _|refine Bw.alloc ?_ _|refine Bw.more ?_ _ _|refine Bw.drew ?_|refine Bw.drewN ?_ _)|((with_reducible refine Bw.set2 ?_ ?_ _);(focus exact SZX))|with_reducible refine Bw.trans ?_ (by assumption)));done))
   refine tkQ 0 ?_
   refine tkQ 1 ?_
   refine tkQ 2 ?_
   (try simp only [Act.put,zP1,zP2,zP3,zP4,zP5,zP6])
   refine tkQ 3 ?_
   refine tkQ 4 ?_
   refine tkQ 5 ?_
   (try simp only [Act.put,zP1,zP2,zP3,zP4,zP5,zP6])
   refine tkQ 6 ?_
   refine tkQ 7 ?_
   refine tkQ 8 ?_
   (try simp only [Act.put,zP1,zP2,zP3,zP4,zP5,zP6])
   refine tkQ 9 ?_
   refine tkQ 10 ?_
   refine tkQ 11 ?_
   (try simp only [Act.put,zP1,zP2,zP3,zP4,zP5,zP6])
   refine tkQ 12 ?_
   refine tkQ 13 ?_
   refine tkQ 14 ?_
   (try simp only [Act.put,zP1,zP2,zP3,zP4,zP5,zP6])
   refine tkQ 15 ?_
   refine tkQ 16 ?_
   refine tkQ 17 ?_
   (try simp only [Act.put,zP1,zP2,zP3,zP4,zP5,zP6])
   refine tkQ 18 ?_
   refine tkQ 19 ?_
   refine tkQ 20 ?_
   (try simp only [Act.put,zP1,zP2,zP3,zP4,zP5,zP6])
   refine tkQ 21 ?_
   refine tkQ 22 ?_
   refine tkQ 23 ?_
   (try simp only [Act.put,zP1,zP2,zP3,zP4,zP5,zP6])
   refine wpAnyH_ready (rs:=[24]) (by kernel_rfl) (by simp) ?_
   refine AllReadyH.cons rfl (fun K hK => ?_) ?_
   ·(refine (if_pos (by kernel_rfl)).mpr ?_);(refine wp_copyS (.tmp 39) (.tmp 51) 24 24 rfl 53 4 Tryz.underlying24 infoCs gp (p * 4) C' (c2 - p) ⟨gs,os + s * 4,none⟩ Cn (c - s) rfl rfl (flat (rowsTo R' C' k (resF Rn Cn cs)) ++ sp).toArray 53 (HWC.out.up (Bw.drew (Bw.refl wr))) (flat ((cs.drop s).take (min Cn C'))) HF.out.1 (HF.out.2.1 _ (Bw.drew (Bw.refl wr))) HF.out.2.2 (flat_one _) ?_);intro w4 hcell hg4;have HC4:=Lib.hid hcell;have HG4:=Lib.hid hg4;clear hcell hg4
    refine hK.out _ _ ?_ (fun hHeld => ?_)
    ·(try dsimp only);(first|(exact HYg.out _ ((grown_bw (Bw.drew (Bw.refl wr)) (some gp)).trans HG4.out))|(refine HY.out _ ?_;(repeat (first|with_reducible (first|assumption|exact Bw.refl _|refine Bw.alloc ?_ _|refine Bw.more ?_ _ _|refine Bw.drew ?_|refine Bw.drewN ?_ _)|((with_reducible refine Bw.set2 ?_ ?_ _);(focus exact SZX))|with_reducible refine Bw.trans ?_ (by assumption)));done))
    clear hK K
    (try simp only [Act.put,zP1,zP2,zP3,zP4,zP5,zP6])
    refine wpAnyH_done (by kernel_rfl) ?_ _
    go_wp2_with fail
    go_roundw
    case rel =>
     have hgg:=(grown_bw (show Bw wr wr.drew from BWX) (some gp)).trans HG4.out
     obtain ⟨q1,q2,q3,q4,q5⟩:=HP.out
     have hq:=HNL.out
     have hq2:=HN2.out
     refine ⟨k + 1,by go_num,by omega,HS0.out.far hgg (by intro e;have:=Option.some.inj e;omega),HS7.out.far hgg (by intro e;have:=Option.some.inj e;omega),Exists.elim HOLD.out (fun old h => ⟨old,h.1.far hgg (by intro e;have:=Option.some.inj e;omega),h.2⟩),?_,HRG.out.far hgg (fun ad e e2 => by cases e;exact hgn (Option.some.inj e2).symm),Bw.grown HBW.out hgg (fun j hj => by cases hj;omega)⟩
     rw [← HLAW.out]
     exact Wc.copied (by rw [q5];omega) (by omega) HC4.out
    case measure => simp [intOf];omega
   exact AllReadyH.nil
  ·have hkM : ¬ (k : Int) < M:=by omega
   obtain rfl : k = M:=by omega
   have hall : rowsTo R' C' k (resF Rn Cn cs) = tab R' C' (resF Rn Cn cs):=rowsTo_all (by omega) (by have:=HM.out;omega)
   have HALL:=Lib.hid hall
   clear hall
   have y0:=HS7.out.cell 0 (v:=.int .i64 R') rfl
   have y1:=HS7.out.cell 1 (v:=.int .i64 C') rfl
   have y2:=HS7.out.cell 2 (v:=.slice (some ⟨gp,0,none⟩) n2 c2) rfl
   have hbz:=HBW.out.size
   go_wp2_with (first
    | ((with_reducible refine wpList_store_gr (R' : Int) (C' : Int) (some ⟨gp,0,none⟩) n2 c2 (w.heap.size + 1) (.tmp 6) (.tmp 54) rfl rfl ?_ ?_ ?_ ?_);(focus rfl);(focus rfl);(focus (exact HOLD.out));intro w4 hS4 hg4;have HS4:=Lib.hid hS4;have HG4:=Lib.hid hg4;clear hS4 hg4)
    | fail)
   refine bodyPost_ret (results_gr rfl _ _ (w.heap.size + 1) R' C' (some ⟨gp,0,none⟩) n2 c2 (by rfl) HS4.out) rfl ?_
   have hrg:=HWC.out.rg
   rw [HALL.out,tab_len,← HN2.out] at hrg
   exact ⟨_,n2,c2,rfl,hrg.far HG4.out (fun ad e e2 => by cases e;have:=Option.some.inj e2;simp at this;omega),hn2,hc2,(fun ad e => by cases e;show w.heap.size ≤ gp;omega),Bw.grown HBW.out HG4.out (fun j hj => by cases hj;omega)⟩

/-- The program's Resize, at whatever arguments. -/
theorem gresize_any (R C : Int) (A : Option Addr) (n c : Nat) (cs : List C4) (rows cols : Int) (w : World) (hr : Rg w A n cs) (hn : n ≤ c) (hn3 : n ≤ 4398046511103) (hc : c ≤ 9223372036854775807) :
  Calls Tryz.prog 38 #[.agg #[.int .i64 R,.int .i64 C,.slice A n c],.int .i64 rows,.int .i64 cols] w (GrN w (rsR R C cs rows) (rsC R C cs cols) (rsG R C cs rows cols)):=by
 cases hv : gridB R C cs
 ·rw [show rsR R C cs rows = R by unfold rsR;rw [hv];simp,show rsC R C cs cols = C by unfold rsC;rw [hv];simp,show rsG R C cs rows cols = cs by unfold rsG;rw [hv];simp]
  exact gresize_no R C A n c cs rows cols w hr hn hn3 hc hv
 ·rw [show rsR R C cs rows = clamp rows 30 by unfold rsR;rw [if_pos hv],show rsC R C cs cols = clamp cols 100 by unfold rsC;rw [if_pos hv],show rsG R C cs rows cols = tab (clamp rows 30).toNat (clamp cols 100).toNat (resF R.toNat C.toNat cs) by unfold rsG;rw [if_pos hv]]
  obtain ⟨Rn,Cn,rfl,rfl,h1,h2,h3,h4,h5,-⟩:=gridB_out hv
  exact gresize_go Rn Cn A n c cs rows cols w hr hn hc h1 h2 h3 h4 h5 hv

theorem own_zeroN {w : World} {base : Nat} {e : TypeId} {s n : Nat} {v : Value} {xs : List Value} (h : w.ownsRow base e s v n xs) : w.ownsRow 0 e s v n xs:=by
 refine ⟨h.1,?_⟩
 rcases h.2 with h1|⟨g,cap,cur,h1,_,h3⟩
 ·exact .inl h1
 ·exact .inr ⟨g,cap,cur,h1,Nat.zero_le _,h3⟩
/-- Block k, if there is one, holds neither cells nor lists of cells. -/
def TyN (w : World) (r : Option Nat) (t : TypeId) : Prop:=∀ k,r = some k → ∃ cur fr,w.heap[k]? = some (.cells cur t fr)
theorem own_tyN {w : World} {base : Nat} {e : TypeId} {s n : Nat} {v : Value} {xs : List Value} (h : w.ownsRow base e s v n xs) : TyN w v.ownBlock e:=by
 intro k hk
 rcases h.2 with ⟨rfl,-⟩|⟨g,cap,cur,rfl,_,h3,_⟩
 ·cases hk
 ·cases hk;exact ⟨_,_,h3⟩
theorem sb_tyN {w : World} {g : Nat} {cs : Array Value} {t : TypeId} (h : Sb w g cs t) : TyN w (some g) t:=by
 intro k hk;cases hk;exact ⟨_,_,h⟩
theorem TyN.none (w : World) (t : TypeId) : TyN w Option.none t:=fun k hk => by cases hk
theorem own_farN {w w' : World} {base : Nat} {e t : TypeId} {s n : Nat} {v : Value} {xs : List Value} {r : Option Nat} (h : w.ownsRow base e s v n xs) (hg : w.grownBy w' r) (ht : TyN w r t) (hne : e ≠ t) : w'.ownsRow base e s v n xs:=by
 refine h.kept hg ?_
 cases hv : v.ownBlock with
 | none => exact .inl rfl
 | some k =>
  refine .inr (fun e2 => hne ?_)
  obtain ⟨c1,f1,h1⟩:=own_tyN h k hv
  obtain ⟨c2,f2,h2⟩:=ht k e2.symm
  rw [h1] at h2
  injection h2 with h2
  injection h2
/-- Each of the values is a row of cells, in memory of its own: row i reads as F i. -/
def RwsF (w : World) (vs : List Value) (F : Nat → List C4) : Prop:=∀ i v,vs[i]? = some v → w.ownsRow 0 53 4 v (F i).length (flat (F i))
theorem RwsF.nil_ (w : World) (F : Nat → List C4) : RwsF w [] F:=fun i v h => by simp at h
theorem RwsF.up {w w' : World} {vs : List Value} {F : Nat → List C4} (h : RwsF w vs F) (hb : Bw w w') : RwsF w' vs F:=fun i v hv => (h i v hv).bw hb
theorem RwsF.far {w w' : World} {vs : List Value} {F : Nat → List C4} {r : Option Nat} {t : TypeId} (h : RwsF w vs F) (hg : w.grownBy w' r) (ht : TyN w r t) (hne : 53 ≠ t) : RwsF w' vs F:=fun i v hv => own_farN (h i v hv) hg ht hne
theorem RwsF.app {w1 w2 : World} {b q k : Nat} {L : Option Addr} {vs : List Value} {v : Value} {F : Nat → List C4} (hg : w1.grownBy w2 (Value.slice L q k).ownBlock) (ho : w1.ownsRow b 24 1 (.slice L q k) q vs) (hF : RwsF w1 vs F) (hv : w1.ownsRow 0 53 4 v (F q).length (flat (F q))) : RwsF w2 (vs ++ [v]) F:=by
 have hl : vs.length = q:=by have:=ho.1;omega
 intro i u hu
 by_cases hi : i < vs.length
 ·rw [List.getElem?_append_left hi] at hu
  exact own_farN (hF i u hu) hg (own_tyN ho) (by decide)
 ·rw [List.getElem?_append_right (by omega)] at hu
  have h0 : i - vs.length = 0:=by
   rcases Nat.eq_zero_or_pos (i - vs.length) with h|h
   ·exact h
   ·rw [List.getElem?_eq_none (by simp;omega)] at hu;cases hu
  rw [h0] at hu
  cases hu
  obtain rfl : i = q:=by omega
  exact own_farN hv hg (own_tyN ho) (by decide)
/-- A list of m rows: row i reads as F i. -/
def LsF (w : World) (base : Nat) (L : Option Addr) (m k : Nat) (F : Nat → List C4) : Prop:=∃ vs,w.ownsRow base 24 1 (.slice L m k) m vs ∧ RwsF w vs F
theorem LsF.up {w w' : World} {base : Nat} {L : Option Addr} {m k : Nat} {F : Nat → List C4} (h : LsF w base L m k F) (hb : Bw w w') : LsF w' base L m k F:=by
 obtain ⟨vs,h1,h2⟩:=h
 exact ⟨vs,h1.bw hb,h2.up hb⟩
theorem LsF.far {w w' : World} {base : Nat} {L : Option Addr} {m k : Nat} {F : Nat → List C4} {r : Option Nat} {t : TypeId} (h : LsF w base L m k F) (hg : w.grownBy w' r) (ht : TyN w r t) (hne : 53 ≠ t) (hne2 : 24 ≠ t) : LsF w' base L m k F:=by
 obtain ⟨vs,h1,h2⟩:=h
 exact ⟨vs,own_farN h1 hg ht hne2,h2.far hg ht hne⟩
theorem LsF.nil_ (w : World) (base : Nat) (F : Nat → List C4) : LsF w base none 0 0 F:=⟨[],World.ownsRow_nil _ _ _ _,RwsF.nil_ _ _⟩
theorem LsF.zero {w : World} {base : Nat} {L : Option Addr} {m k : Nat} {F : Nat → List C4} (h : LsF w base L m k F) : LsF w 0 L m k F:=by
 obtain ⟨vs,h1,h2⟩:=h
 exact ⟨vs,own_zeroN h1,h2⟩
/-- The call returns the list of cells cs, in memory of its own. -/
def RwO (w : World) (cs : List C4) (e : Ending) (w' : World) : Prop:=∃ A n c,e = .returned (.slice A n c) ∧ n = cs.length ∧ w'.ownsRow 0 53 4 (.slice A n c) n (flat cs) ∧ Bw w w'

set_option maxRecDepth 100000 in
set_option maxHeartbeats 2000000 in
theorem grow_own (R C : Int) (A : Option Addr) (n c : Nat) (cs : List C4) (row : Int) (w : World) (hr : Rg w A n cs) (hn : n ≤ c) (hn3 : n ≤ 4398046511103) (hc : c ≤ 9223372036854775807) :
  Calls Tryz.prog 68 #[.agg #[.int .i64 R,.int .i64 C,.slice A n c],.int .i64 row] w (RwO w (rowF R C cs row)):=by
 have HR:=Lib.hid hr
 clear hr
 obtain ⟨q,hq⟩ : ∃ q,(n : Int) / C = q:=⟨_,rfl⟩
 have hz : row < 0 ∨ (0 ≤ row ∧ R ≤ row) ∨ ((0 ≤ row ∧ row < R) ∧ C < 1) ∨ ((0 ≤ row ∧ row < R) ∧ 1 ≤ C ∧ q ≤ row) ∨ ((0 ≤ row ∧ row < R) ∧ 1 ≤ C ∧ row < q):=by omega
 have hqb : 1 ≤ C → 0 ≤ q ∧ q ≤ n:=fun h => by rw [← hq];exact ⟨Int.ediv_nonneg (by omega) (by omega),Int.ediv_le_self _ (by omega)⟩
 rcases hz with h|⟨h1,h2⟩|⟨⟨h1,h2⟩,h3⟩|⟨⟨h1,h2⟩,h3,h4⟩|⟨⟨h1,h2⟩,h3,h4⟩
 iterate 4
  ·have HE:=Lib.hid (show rowF R C cs row = [] from if_neg (by rw [HR.out.1,hq];omega))
   (try have hqq:=hqb h3;obtain ⟨hq0,hq1⟩:=hqq)
   clear hqb
   go_enter Tryz.func68,Tryz.ntmps68
   go_wp2_with fail
   go_ret
   exact ⟨none,0,0,rfl,by rw [HE.out];rfl,by rw [HE.out];exact World.ownsRow_nil _ _ _ _,BWX⟩
 obtain ⟨hq0,hq1⟩:=hqb h3
 clear hqb
 obtain ⟨Cn,rfl⟩ : ∃ Cn : Nat,C = Cn:=⟨C.toNat,by omega⟩
 have hm : (row + 1) * (Cn : Int) ≤ n:=(Int.le_ediv_iff_mul_le (by omega)).1 (by rw [hq];omega)
 obtain ⟨p,hp⟩ : ∃ p : Nat,row * (Cn : Int) = p:=⟨(row * (Cn : Int)).toNat,by have:=Int.mul_nonneg h1 (show (0 : Int) ≤ Cn by omega);omega⟩
 have hp2 : (row + 1) * (Cn : Int) = ((p + Cn : Nat) : Int):=by rw [Int.add_mul,hp];omega
 have hpn : p + Cn ≤ n:=by rw [hp2] at hm;omega
 have HE:=Lib.hid (show rowF R (Cn : Int) cs row = (cs.drop p).take Cn by unfold rowF;rw [if_pos (by rw [HR.out.1,hq];omega),hp];rfl)
 obtain ⟨j0,hj,hj0,hj1,hj2⟩:=info_parts infoC
 obtain ⟨g,o,rfl,hx⟩:=HR.out.2 (by omega)
 have HS:=Lib.hid (HR.out.sub p Cn hpn)
 have hC1 : 1 ≤ Cn:=by omega
 have hpc : p < c:=by omega
 have hb1 : (0 : Int) ≤ (p : Int):=by omega
 have hb2 : ((p : Nat) : Int) ≤ ((p + Cn : Nat) : Int):=by omega
 have hb3 : ((p + Cn : Nat) : Int) ≤ (c : Int):=by omega
 obtain ⟨p2,hpp⟩ : ∃ p2,p2 = p + Cn:=⟨_,rfl⟩
 rw [← hpp] at hp2 hb2 hb3
 have hpn2 : p2 ≤ n:=by omega
 have hpl : p < p2:=by omega
 have hpd : p2 - p = Cn:=by omega
 have HPD:=Lib.hid hpd
 clear hx hm hpp hpd
 go_enter Tryz.func68,Tryz.ntmps68
 go_wp2_with (first|(go_at_call 30;refine (gclone_any (some ⟨g,o + p * 4,none⟩) (p2 - p) (c - p) ((cs.drop p).take Cn) _ (by rw [HPD.out];exact HS.out.up BWX) (by omega) (by omega) (by omega)).mono ?_;rintro ee w1 ⟨v1,rfl,hown1,hb1⟩;have HO1:=Lib.hid hown1;have HB1:=Lib.hid hb1;clear hown1 hb1)|fail)
 go_ret
 have h9:=HO1.out
 rw [HPD.out] at h9
 obtain ⟨A1,c1,rfl,hc1,hc1m⟩:=own_form h9
 exact ⟨A1,Cn,c1,rfl,by rw [HE.out,HS.out.1],by rw [HE.out];exact own_zeroN h9,Bw.trans (show Bw w _ from BWX) HB1.out⟩

set_option maxRecDepth 100000 in
set_option maxHeartbeats 2000000 in
theorem rrow_own (R C : Int) (A : Option Addr) (n c : Nat) (cs : List C4) (row : Int) (w : World) (hr : Rg w A n cs) (hn : n ≤ c) (hn3 : n ≤ 4398046511103) (hc : c ≤ 9223372036854775807) :
  Calls Tryz.prog 41 #[.agg #[.int .i64 R,.int .i64 C,.slice A n c],.int .i64 row] w (RwO w (rowF R C cs row)):=by
 have HR:=Lib.hid hr
 clear hr
 obtain ⟨q,hq⟩ : ∃ q,(n : Int) / C = q:=⟨_,rfl⟩
 have hz : row < 0 ∨ (0 ≤ row ∧ R ≤ row) ∨ ((0 ≤ row ∧ row < R) ∧ C < 1) ∨ ((0 ≤ row ∧ row < R) ∧ 1 ≤ C ∧ q ≤ row) ∨ ((0 ≤ row ∧ row < R) ∧ 1 ≤ C ∧ row < q):=by omega
 have hqb : 1 ≤ C → 0 ≤ q ∧ q ≤ n:=fun h => by rw [← hq];exact ⟨Int.ediv_nonneg (by omega) (by omega),Int.ediv_le_self _ (by omega)⟩
 rcases hz with h|⟨h1,h2⟩|⟨⟨h1,h2⟩,h3⟩|⟨⟨h1,h2⟩,h3,h4⟩|⟨⟨h1,h2⟩,h3,h4⟩
 iterate 4
  ·have HE:=Lib.hid (show rowF R C cs row = [] from if_neg (by rw [HR.out.1,hq];omega))
   (try have hqq:=hqb h3;obtain ⟨hq0,hq1⟩:=hqq)
   clear hqb
   go_enter Tryz.func41,Tryz.ntmps41
   go_wp2_with fail
   go_ret
   exact ⟨none,0,0,rfl,by rw [HE.out];rfl,by rw [HE.out];exact World.ownsRow_nil _ _ _ _,BWX⟩
 obtain ⟨hq0,hq1⟩:=hqb h3
 clear hqb
 obtain ⟨Cn,rfl⟩ : ∃ Cn : Nat,C = Cn:=⟨C.toNat,by omega⟩
 have hm : (row + 1) * (Cn : Int) ≤ n:=(Int.le_ediv_iff_mul_le (by omega)).1 (by rw [hq];omega)
 obtain ⟨p,hp⟩ : ∃ p : Nat,row * (Cn : Int) = p:=⟨(row * (Cn : Int)).toNat,by have:=Int.mul_nonneg h1 (show (0 : Int) ≤ Cn by omega);omega⟩
 have hp2 : (row + 1) * (Cn : Int) = ((p + Cn : Nat) : Int):=by rw [Int.add_mul,hp];omega
 have hpn : p + Cn ≤ n:=by rw [hp2] at hm;omega
 have HE:=Lib.hid (show rowF R (Cn : Int) cs row = (cs.drop p).take Cn by unfold rowF;rw [if_pos (by rw [HR.out.1,hq];omega),hp];rfl)
 obtain ⟨j0,hj,hj0,hj1,hj2⟩:=info_parts infoC
 obtain ⟨g,o,rfl,hx⟩:=HR.out.2 (by omega)
 have HS:=Lib.hid (HR.out.sub p Cn hpn)
 have hC1 : 1 ≤ Cn:=by omega
 have hpc : p < c:=by omega
 have hb1 : (0 : Int) ≤ (p : Int):=by omega
 have hb2 : ((p : Nat) : Int) ≤ ((p + Cn : Nat) : Int):=by omega
 have hb3 : ((p + Cn : Nat) : Int) ≤ (c : Int):=by omega
 obtain ⟨p2,hpp⟩ : ∃ p2,p2 = p + Cn:=⟨_,rfl⟩
 rw [← hpp] at hp2 hb2 hb3
 have hpn2 : p2 ≤ n:=by omega
 have hpl : p < p2:=by omega
 have hpd : p2 - p = Cn:=by omega
 have HPD:=Lib.hid hpd
 clear hx hm hpp hpd
 go_enter Tryz.func41,Tryz.ntmps41
 go_wp2_with (first|(at_builtin;refine wpList_append_srcG (by rfl) (.tmp 28) (.tmp 40) 24 rfl (w.heap.size + 1) 53 j0 (.agg #[.int .i64 0,.int .i64 0,.int .i64 0,.int .i64 0]) 4 32 Tryz.underlying24 hj hj0 hj1 hj2 rfl (by decide) _ 0 [] (by rfl) (own_made SZX (Nat.le_refl _)) (some ⟨g,o + p * 4,none⟩) (p2 - p) (c - p) (flat ((cs.drop p).take Cn)) (by rfl) (by rw [flat_len,HS.out.1,HPD.out]) (fun e => by cases e) (fun ad e => by cases e;exact (HS.out.up BWX).news) (flat_one _) (by unfold maxLen;omega) (by omega) SZX ?_;intro v1 w1 hown1 hg1;simp only [Nat.zero_add,List.nil_append] at hown1;obtain ⟨A1,c1,rfl,hc1,hc1m⟩:=own_form hown1;have hbw1 : Bw w w1:=Bw.row (show Bw w _ from BWX) (own_made (size:=4) SZX (Nat.le_refl _)) hg1 (by omega);have HO1:=Lib.hid hown1;clear hown1 hg1)|fail)
 go_ret
 have h9:=HO1.out
 rw [HPD.out] at h9 hc1
 exact ⟨A1,Cn,c1,by rw [HPD.out];rfl,by rw [HE.out,HS.out.1],by rw [HE.out];exact own_zeroN h9,hbw1⟩

set_option maxRecDepth 100000 in
set_option maxHeartbeats 4000000 in
theorem cvlose_rows (s : Scr) (fr : Bool) (cs : List C4) (nn : Int) (g : Nat) (w : World) (h : Sb w g (cvV s none 0 0 fr) 75) (hr : Rg w s.A s.n cs) (hn : s.n ≤ s.c) (hn3 : s.n ≤ 4398046511103) (hc : s.c ≤ 9223372036854775807) (hne : ∀ ad,s.A = some ad → some ad.block ≠ some g) (hn0 : 0 ≤ nn) (hn1 : nn ≤ 1000000) :
  Calls Tryz.prog 35 #[.pointer (some ⟨g,0,none⟩),.int .i64 nn] w fun e w' => ∃ L k,CvP w g s L nn.toNat k fr e w' ∧ LsF w' w.heap.size L nn.toNat k (fun r => rowF s.Rn s.Cn cs r):=by
 obtain ⟨j0,hj,hj0,hj1,hj2⟩:=info_parts infoL
 have HR:=Lib.hid hr
 have HNE:=Lib.hid hne
 have HS0:=Lib.hid h
 have hlt:=h.lt
 obtain ⟨F,hF⟩ : ∃ F : Nat → List C4,∀ i : Nat,F i = rowF s.Rn s.Cn cs i:=⟨fun i => rowF s.Rn s.Cn cs i,fun _ => rfl⟩
 rw [show (fun r : Nat => rowF s.Rn s.Cn cs r) = F from funext (fun i => (hF i).symm)]
 have HFF:=Lib.hid hF
 clear hr hne h hF
 go_enter Tryz.func35,Tryz.ntmps35
 go_wp2_with fail
 go_loopw [6] (fun i wr => ∃ (q : Nat) (L : Option Addr) (k : Nat) (vs : List Value),i = .int .i64 q ∧ (q : Int) ≤ nn ∧ Sb wr g (cvV s L q k fr) 75 ∧ wr.ownsRow w.heap.size 24 1 (.slice L q k) q vs ∧ RwsF wr vs F ∧ w.grownBy wr (some g)) (fun i _ => (nn - intOf i).toNat)
 case atStart => exact ⟨0,none,0,[],rfl,hn0,HS0.out,World.ownsRow_nil _ _ _ _,RwsF.nil_ _ _,grown_refl _ _⟩
 case round =>
  obtain ⟨q,L,k,vs,rfl,hq,hS,hown,hrws,hg⟩:=hrel
  have HB:=Lib.hid hS
  have HO:=Lib.hid hown
  have HF:=Lib.hid hrws
  have HG:=Lib.hid hg
  have hzr:=hg.size
  have hbo : (Value.slice L q k).ownBlock ≠ some g:=fun e => by have:=(hown.lt g e).1;omega
  have HBO:=Lib.hid hbo
  clear hrws
  by_cases hlt2 : (q : Int) < nn
  ·have HRr:=Lib.hid (HR.out.far hg HNE.out)
   have hltr:=hS.lt
   (have x0:=HB.out.cell 0 (v:=.int .i64 (s.Rn : Int)) rfl;have x1:=HB.out.cell 1 (v:=.int .i64 (s.Cn : Int)) rfl;have x2:=HB.out.cell 2 (v:=.slice s.A s.n s.c) rfl)
   have x19:=HB.out.cell 19 (v:=.slice L q k) rfl
   clear hS hown hg hbo
   go_upto_region 3 with (fail)
   have HY:=Lib.hid (show ∀ w',Bw wr w' → (w'.cell? ⟨g,0,none⟩ = some (.int .i64 (s.Rn : Int)) ∧ w'.cell? ⟨g,1,none⟩ = some (.int .i64 (s.Cn : Int)) ∧ w'.cell? ⟨g,2,none⟩ = some (.slice s.A s.n s.c)) from fun w' hb => ⟨(HB.out.up hb).cell 0 rfl,(HB.out.up hb).cell 1 rfl,(HB.out.up hb).cell 2 rfl⟩)
   have HYs:=Lib.hid (show ∀ (w' : World) (v : Value),(w'.cell? ⟨g,0,none⟩ = some (.int .i64 (s.Rn : Int)) ∧ w'.cell? ⟨g,1,none⟩ = some (.int .i64 (s.Cn : Int)) ∧ w'.cell? ⟨g,2,none⟩ = some (.slice s.A s.n s.c)) → ((w'.setCell ⟨g,19,none⟩ v).cell? ⟨g,0,none⟩ = some (.int .i64 (s.Rn : Int)) ∧ (w'.setCell ⟨g,19,none⟩ v).cell? ⟨g,1,none⟩ = some (.int .i64 (s.Cn : Int)) ∧ (w'.setCell ⟨g,19,none⟩ v).cell? ⟨g,2,none⟩ = some (.slice s.A s.n s.c)) from fun w' v h => ⟨cell_ne h.1 (by omega),cell_ne h.2.1 (by omega),cell_ne h.2.2 (by omega)⟩)
   refine wp_region_held_drew (S:=(fun w' => w'.cell? ⟨g,0,none⟩ = some (.int .i64 (s.Rn : Int)) ∧ w'.cell? ⟨g,1,none⟩ = some (.int .i64 (s.Cn : Int)) ∧ w'.cell? ⟨g,2,none⟩ = some (.slice s.A s.n s.c))) (by kernel_rfl) ?_ (fun hHeld => ?_)
   ·(try dsimp only);(first|(refine HY.out _ ?_;(repeat (first|with_reducible (first|assumption|exact Bw.refl _|refine Bw.alloc ?_ _|refine Bw.more ?_ _ _|refine Bw.drew ?_|refine Bw.drewN ?_ _)|((with_reducible refine Bw.set2 ?_ ?_ _);(focus exact SZX))|with_reducible refine Bw.trans ?_ (by assumption)));done)|exact HK7.out|exact HYs.out _ _ HK7.out)
   refine tkQ 0 ?_
   refine tkQ 1 ?_
   refine tkQ 2 ?_
   (try simp only [Act.put,zP1,zP2,zP3,zP4,zP5,zP6])
   refine tkQ 3 ?_
   refine tkQ 5 ?_
   refine tkQ 6 ?_
   (try simp only [Act.put,zP1,zP2,zP3,zP4,zP5,zP6])
   refine tkQ 7 ?_
   refine tkQ 8 ?_
   refine tkQ 9 ?_
   (try simp only [Act.put,zP1,zP2,zP3,zP4,zP5,zP6])
   refine tkQ 10 ?_
   (try simp only [Act.put,zP1,zP2,zP3,zP4,zP5,zP6])
   refine wpAnyH_ready (rs:=[4,11]) (by kernel_rfl) (by simp) ?_
   refine AllReadyH.cons rfl (fun K hK => ?_) ?_
   ·go_simp
    refine hK.out _ _ ?_ (fun hHeld => ?_)
    ·(try dsimp only);(first|(refine HY.out _ ?_;(repeat (first|with_reducible (first|assumption|exact Bw.refl _|refine Bw.alloc ?_ _|refine Bw.more ?_ _ _|refine Bw.drew ?_|refine Bw.drewN ?_ _)|((with_reducible refine Bw.set2 ?_ ?_ _);(focus exact SZX))|with_reducible refine Bw.trans ?_ (by assumption)));done)|exact HK7.out|exact HYs.out _ _ HK7.out)
    clear hK K
    (try simp only [Act.put,zP1,zP2,zP3,zP4,zP5,zP6])
    refine wpAnyH_ready (rs:=[11]) (by kernel_rfl) (by simp) ?_
    refine AllReadyH.cons rfl (fun K hK => ?_) ?_
    ·go_simp
     refine (grow_own s.Rn s.Cn s.A s.n s.c cs q _ (HRr.out.up BWX) hn hn3 hc).mono ?_;rintro ee w2 ⟨Ar,nr,cr,rfl,hnr,ho2,hb2⟩;have hbw2 : Bw wr w2:=Bw.trans (show Bw wr _ from BWX) hb2;have HO2:=Lib.hid (HO.out.bw hbw2);have HB2:=Lib.hid (HB.out.up hbw2);have HF2:=Lib.hid (HF.out.up hbw2);have HR2:=Lib.hid (show w2.ownsRow 0 53 4 (.slice Ar nr cr) (F q).length (flat (F q)) by rw [HFF.out q,← hnr];exact ho2);have hz2:=hbw2.size;have hltw2:=HB2.out.lt;have y19:=HB2.out.cell 19 (v:=.slice L q k) rfl;clear hb2 hnr ho2;go_wp2_with fail
     refine hK.out _ _ ?_ (fun hHeld => ?_)
     ·(try dsimp only);(first|(refine HY.out _ ?_;(repeat (first|with_reducible (first|assumption|exact Bw.refl _|refine Bw.alloc ?_ _|refine Bw.more ?_ _ _|refine Bw.drew ?_|refine Bw.drewN ?_ _)|((with_reducible refine Bw.set2 ?_ ?_ _);(focus exact SZX))|with_reducible refine Bw.trans ?_ (by assumption)));done)|exact HK7.out|exact HYs.out _ _ HK7.out)
     clear hK K
     (try simp only [Act.put,zP1,zP2,zP3,zP4,zP5,zP6])
     refine wpAnyH_ready (rs:=[12]) (by kernel_rfl) (by simp) ?_
     refine AllReadyH.cons rfl (fun K hK => ?_) ?_
     ·go_simp
      refine hK.out _ _ ?_ (fun hHeld => ?_)
      ·(try dsimp only);(first|(refine HY.out _ ?_;(repeat (first|with_reducible (first|assumption|exact Bw.refl _|refine Bw.alloc ?_ _|refine Bw.more ?_ _ _|refine Bw.drew ?_|refine Bw.drewN ?_ _)|((with_reducible refine Bw.set2 ?_ ?_ _);(focus exact SZX))|with_reducible refine Bw.trans ?_ (by assumption)));done)|exact HK7.out|exact HYs.out _ _ HK7.out)
      clear hK K
      (try simp only [Act.put,zP1,zP2,zP3,zP4,zP5,zP6])
      refine wpAnyH_ready (rs:=[13]) (by kernel_rfl) (by simp) ?_
      refine AllReadyH.cons rfl (fun K hK => ?_) ?_
      ·refine step_append_srcG (by rfl) (.tmp 13) (.tmp 21) 40 rfl w.heap.size 24 j0 (.slice none 0 0) 1 24 Tryz.underlying40 hj hj0 hj1 hj2 rfl (by decide) (.slice L q k) q vs (by rfl) (by exact HO.out.bw BWX) (some ⟨_,0,none⟩) 1 1 [.slice Ar nr cr] (by rfl) rfl (fun e => by cases e) (fun ad e => by cases e;exact cell_one_new _ _ _) (by simp;rfl) (by unfold maxLen;omega) (by omega) (by simp only [szA,szS,szD,szN];omega) ?_;intro v7 w7 hown7 hg7;obtain ⟨A7,c7,rfl,hc7,hc7m⟩:=own_form hown7;have HO7:=Lib.hid hown7;have HG7:=Lib.hid hg7;have HF7:=Lib.hid (RwsF.app HG7.out (HO.out.bw BWX) (HF.out.up BWX) (HR2.out.bw BWX));have HB7:=Lib.hid ((HB.out.up (show Bw wr _ from BWX)).far HG7.out (Ne.symm HBO.out));have z19:=HB7.out.free 19;have y7:=HB7.out.cell 19 (v:=.slice L q k) rfl;have hgr7 : w.grownBy w7 (some g):=cvgrown_own (HG.out.trans (grown_bw (show Bw wr _ from BWX) _)) (show World.ownsRow _ w.heap.size 24 1 (.slice L q k) q vs by exact HO.out.bw BWX) HG7.out;have HK7:=Lib.hid (And.intro (cell_far hHeld.1 hg7 (Ne.symm HBO.out)) (And.intro (cell_far hHeld.2.1 hg7 (Ne.symm HBO.out)) (cell_far hHeld.2.2 hg7 (Ne.symm HBO.out))));clear hown7 hg7
       refine hK.out _ _ ?_ (fun hHeld => ?_)
       ·(try dsimp only);(first|(refine HY.out _ ?_;(repeat (first|with_reducible (first|assumption|exact Bw.refl _|refine Bw.alloc ?_ _|refine Bw.more ?_ _ _|refine Bw.drew ?_|refine Bw.drewN ?_ _)|((with_reducible refine Bw.set2 ?_ ?_ _);(focus exact SZX))|with_reducible refine Bw.trans ?_ (by assumption)));done)|exact HK7.out|exact HYs.out _ _ HK7.out)
       clear hK K
       (try simp only [Act.put,zP1,zP2,zP3,zP4,zP5,zP6])
       refine tkQ 14 ?_
       refine tkQ 15 ?_
       (try simp only [Act.put,zP1,zP2,zP3,zP4,zP5,zP6])
       refine wpAnyH_ready (rs:=[16]) (by kernel_rfl) (by simp) ?_
       refine AllReadyH.cons rfl (fun K hK => ?_) ?_
       ·go_simp
        refine hK.out _ _ ?_ (fun hHeld => ?_)
        ·(try dsimp only);(first|(refine HY.out _ ?_;(repeat (first|with_reducible (first|assumption|exact Bw.refl _|refine Bw.alloc ?_ _|refine Bw.more ?_ _ _|refine Bw.drew ?_|refine Bw.drewN ?_ _)|((with_reducible refine Bw.set2 ?_ ?_ _);(focus exact SZX))|with_reducible refine Bw.trans ?_ (by assumption)));done)|exact HK7.out|exact HYs.out _ _ HK7.out)
        clear hK K
        (try simp only [Act.put,zP1,zP2,zP3,zP4,zP5,zP6])
        refine wpAnyH_done (by kernel_rfl) ?_ _
        go_wp2_with fail
        go_roundw
        case rel => exact ⟨q + 1,A7,c7,_,by go_num,by omega,HB7.out.set 19 _ rfl,own_set_below HO7.out (by omega) _,HF7.out.far (grown_set (grown_refl _ (some g)) 19 _) (sb_tyN HB7.out) (by decide),grown_set hgr7 19 _⟩
        case measure => simp [intOf];omega
       exact AllReadyH.nil
      exact AllReadyH.nil
     exact AllReadyH.nil
    exact AllReadyH.nil
   refine AllReadyH.cons rfl (fun K hK => ?_) ?_
   ·go_simp
    refine (grow_own s.Rn s.Cn s.A s.n s.c cs q _ (HRr.out.up BWX) hn hn3 hc).mono ?_;rintro ee w2 ⟨Ar,nr,cr,rfl,hnr,ho2,hb2⟩;have hbw2 : Bw wr w2:=Bw.trans (show Bw wr _ from BWX) hb2;have HO2:=Lib.hid (HO.out.bw hbw2);have HB2:=Lib.hid (HB.out.up hbw2);have HF2:=Lib.hid (HF.out.up hbw2);have HR2:=Lib.hid (show w2.ownsRow 0 53 4 (.slice Ar nr cr) (F q).length (flat (F q)) by rw [HFF.out q,← hnr];exact ho2);have hz2:=hbw2.size;have hltw2:=HB2.out.lt;have y19:=HB2.out.cell 19 (v:=.slice L q k) rfl;clear hb2 hnr ho2;go_wp2_with fail
    refine hK.out _ _ ?_ (fun hHeld => ?_)
    ·(try dsimp only);(first|(refine HY.out _ ?_;(repeat (first|with_reducible (first|assumption|exact Bw.refl _|refine Bw.alloc ?_ _|refine Bw.more ?_ _ _|refine Bw.drew ?_|refine Bw.drewN ?_ _)|((with_reducible refine Bw.set2 ?_ ?_ _);(focus exact SZX))|with_reducible refine Bw.trans ?_ (by assumption)));done)|exact HK7.out|exact HYs.out _ _ HK7.out)
    clear hK K
    (try simp only [Act.put,zP1,zP2,zP3,zP4,zP5,zP6])
    refine wpAnyH_ready (rs:=[4,12]) (by kernel_rfl) (by simp) ?_
    refine AllReadyH.cons rfl (fun K hK => ?_) ?_
    ·go_simp
     refine hK.out _ _ ?_ (fun hHeld => ?_)
     ·(try dsimp only);(first|(refine HY.out _ ?_;(repeat (first|with_reducible (first|assumption|exact Bw.refl _|refine Bw.alloc ?_ _|refine Bw.more ?_ _ _|refine Bw.drew ?_|refine Bw.drewN ?_ _)|((with_reducible refine Bw.set2 ?_ ?_ _);(focus exact SZX))|with_reducible refine Bw.trans ?_ (by assumption)));done)|exact HK7.out|exact HYs.out _ _ HK7.out)
     clear hK K
     (try simp only [Act.put,zP1,zP2,zP3,zP4,zP5,zP6])
     refine wpAnyH_ready (rs:=[12]) (by kernel_rfl) (by simp) ?_
     refine AllReadyH.cons rfl (fun K hK => ?_) ?_
     ·go_simp
      refine hK.out _ _ ?_ (fun hHeld => ?_)
      ·(try dsimp only);(first|(refine HY.out _ ?_;(repeat (first|with_reducible (first|assumption|exact Bw.refl _|refine Bw.alloc ?_ _|refine Bw.more ?_ _ _|refine Bw.drew ?_|refine Bw.drewN ?_ _)|((with_reducible refine Bw.set2 ?_ ?_ _);(focus exact SZX))|with_reducible refine Bw.trans ?_ (by assumption)));done)|exact HK7.out|exact HYs.out _ _ HK7.out)
      clear hK K
      (try simp only [Act.put,zP1,zP2,zP3,zP4,zP5,zP6])
      refine wpAnyH_ready (rs:=[13]) (by kernel_rfl) (by simp) ?_
      refine AllReadyH.cons rfl (fun K hK => ?_) ?_
      ·refine step_append_srcG (by rfl) (.tmp 13) (.tmp 21) 40 rfl w.heap.size 24 j0 (.slice none 0 0) 1 24 Tryz.underlying40 hj hj0 hj1 hj2 rfl (by decide) (.slice L q k) q vs (by rfl) (by exact HO.out.bw BWX) (some ⟨_,0,none⟩) 1 1 [.slice Ar nr cr] (by rfl) rfl (fun e => by cases e) (fun ad e => by cases e;exact cell_one_new _ _ _) (by simp;rfl) (by unfold maxLen;omega) (by omega) (by simp only [szA,szS,szD,szN];omega) ?_;intro v7 w7 hown7 hg7;obtain ⟨A7,c7,rfl,hc7,hc7m⟩:=own_form hown7;have HO7:=Lib.hid hown7;have HG7:=Lib.hid hg7;have HF7:=Lib.hid (RwsF.app HG7.out (HO.out.bw BWX) (HF.out.up BWX) (HR2.out.bw BWX));have HB7:=Lib.hid ((HB.out.up (show Bw wr _ from BWX)).far HG7.out (Ne.symm HBO.out));have z19:=HB7.out.free 19;have y7:=HB7.out.cell 19 (v:=.slice L q k) rfl;have hgr7 : w.grownBy w7 (some g):=cvgrown_own (HG.out.trans (grown_bw (show Bw wr _ from BWX) _)) (show World.ownsRow _ w.heap.size 24 1 (.slice L q k) q vs by exact HO.out.bw BWX) HG7.out;have HK7:=Lib.hid (And.intro (cell_far hHeld.1 hg7 (Ne.symm HBO.out)) (And.intro (cell_far hHeld.2.1 hg7 (Ne.symm HBO.out)) (cell_far hHeld.2.2 hg7 (Ne.symm HBO.out))));clear hown7 hg7
       refine hK.out _ _ ?_ (fun hHeld => ?_)
       ·(try dsimp only);(first|(refine HY.out _ ?_;(repeat (first|with_reducible (first|assumption|exact Bw.refl _|refine Bw.alloc ?_ _|refine Bw.more ?_ _ _|refine Bw.drew ?_|refine Bw.drewN ?_ _)|((with_reducible refine Bw.set2 ?_ ?_ _);(focus exact SZX))|with_reducible refine Bw.trans ?_ (by assumption)));done)|exact HK7.out|exact HYs.out _ _ HK7.out)
       clear hK K
       (try simp only [Act.put,zP1,zP2,zP3,zP4,zP5,zP6])
       refine tkQ 14 ?_
       refine tkQ 15 ?_
       (try simp only [Act.put,zP1,zP2,zP3,zP4,zP5,zP6])
       refine wpAnyH_ready (rs:=[16]) (by kernel_rfl) (by simp) ?_
       refine AllReadyH.cons rfl (fun K hK => ?_) ?_
       ·go_simp
        refine hK.out _ _ ?_ (fun hHeld => ?_)
        ·(try dsimp only);(first|(refine HY.out _ ?_;(repeat (first|with_reducible (first|assumption|exact Bw.refl _|refine Bw.alloc ?_ _|refine Bw.more ?_ _ _|refine Bw.drew ?_|refine Bw.drewN ?_ _)|((with_reducible refine Bw.set2 ?_ ?_ _);(focus exact SZX))|with_reducible refine Bw.trans ?_ (by assumption)));done)|exact HK7.out|exact HYs.out _ _ HK7.out)
        clear hK K
        (try simp only [Act.put,zP1,zP2,zP3,zP4,zP5,zP6])
        refine wpAnyH_done (by kernel_rfl) ?_ _
        go_wp2_with fail
        go_roundw
        case rel => exact ⟨q + 1,A7,c7,_,by go_num,by omega,HB7.out.set 19 _ rfl,own_set_below HO7.out (by omega) _,HF7.out.far (grown_set (grown_refl _ (some g)) 19 _) (sb_tyN HB7.out) (by decide),grown_set hgr7 19 _⟩
        case measure => simp [intOf];omega
       exact AllReadyH.nil
      exact AllReadyH.nil
     exact AllReadyH.nil
    refine AllReadyH.cons rfl (fun K hK => ?_) ?_
    ·go_simp
     refine hK.out _ _ ?_ (fun hHeld => ?_)
     ·(try dsimp only);(first|(refine HY.out _ ?_;(repeat (first|with_reducible (first|assumption|exact Bw.refl _|refine Bw.alloc ?_ _|refine Bw.more ?_ _ _|refine Bw.drew ?_|refine Bw.drewN ?_ _)|((with_reducible refine Bw.set2 ?_ ?_ _);(focus exact SZX))|with_reducible refine Bw.trans ?_ (by assumption)));done)|exact HK7.out|exact HYs.out _ _ HK7.out)
     clear hK K
     (try simp only [Act.put,zP1,zP2,zP3,zP4,zP5,zP6])
     refine wpAnyH_ready (rs:=[4]) (by kernel_rfl) (by simp) ?_
     refine AllReadyH.cons rfl (fun K hK => ?_) ?_
     ·go_simp
      refine hK.out _ _ ?_ (fun hHeld => ?_)
      ·(try dsimp only);(first|(refine HY.out _ ?_;(repeat (first|with_reducible (first|assumption|exact Bw.refl _|refine Bw.alloc ?_ _|refine Bw.more ?_ _ _|refine Bw.drew ?_|refine Bw.drewN ?_ _)|((with_reducible refine Bw.set2 ?_ ?_ _);(focus exact SZX))|with_reducible refine Bw.trans ?_ (by assumption)));done)|exact HK7.out|exact HYs.out _ _ HK7.out)
      clear hK K
      (try simp only [Act.put,zP1,zP2,zP3,zP4,zP5,zP6])
      refine wpAnyH_ready (rs:=[13]) (by kernel_rfl) (by simp) ?_
      refine AllReadyH.cons rfl (fun K hK => ?_) ?_
      ·refine step_append_srcG (by rfl) (.tmp 13) (.tmp 21) 40 rfl w.heap.size 24 j0 (.slice none 0 0) 1 24 Tryz.underlying40 hj hj0 hj1 hj2 rfl (by decide) (.slice L q k) q vs (by rfl) (by exact HO.out.bw BWX) (some ⟨_,0,none⟩) 1 1 [.slice Ar nr cr] (by rfl) rfl (fun e => by cases e) (fun ad e => by cases e;exact cell_one_new _ _ _) (by simp;rfl) (by unfold maxLen;omega) (by omega) (by simp only [szA,szS,szD,szN];omega) ?_;intro v7 w7 hown7 hg7;obtain ⟨A7,c7,rfl,hc7,hc7m⟩:=own_form hown7;have HO7:=Lib.hid hown7;have HG7:=Lib.hid hg7;have HF7:=Lib.hid (RwsF.app HG7.out (HO.out.bw BWX) (HF.out.up BWX) (HR2.out.bw BWX));have HB7:=Lib.hid ((HB.out.up (show Bw wr _ from BWX)).far HG7.out (Ne.symm HBO.out));have z19:=HB7.out.free 19;have y7:=HB7.out.cell 19 (v:=.slice L q k) rfl;have hgr7 : w.grownBy w7 (some g):=cvgrown_own (HG.out.trans (grown_bw (show Bw wr _ from BWX) _)) (show World.ownsRow _ w.heap.size 24 1 (.slice L q k) q vs by exact HO.out.bw BWX) HG7.out;have HK7:=Lib.hid (And.intro (cell_far hHeld.1 hg7 (Ne.symm HBO.out)) (And.intro (cell_far hHeld.2.1 hg7 (Ne.symm HBO.out)) (cell_far hHeld.2.2 hg7 (Ne.symm HBO.out))));clear hown7 hg7
       refine hK.out _ _ ?_ (fun hHeld => ?_)
       ·(try dsimp only);(first|(refine HY.out _ ?_;(repeat (first|with_reducible (first|assumption|exact Bw.refl _|refine Bw.alloc ?_ _|refine Bw.more ?_ _ _|refine Bw.drew ?_|refine Bw.drewN ?_ _)|((with_reducible refine Bw.set2 ?_ ?_ _);(focus exact SZX))|with_reducible refine Bw.trans ?_ (by assumption)));done)|exact HK7.out|exact HYs.out _ _ HK7.out)
       clear hK K
       (try simp only [Act.put,zP1,zP2,zP3,zP4,zP5,zP6])
       refine tkQ 14 ?_
       (try simp only [Act.put,zP1,zP2,zP3,zP4,zP5,zP6])
       refine tkQ 15 ?_
       (try simp only [Act.put,zP1,zP2,zP3,zP4,zP5,zP6])
       refine wpAnyH_ready (rs:=[16]) (by kernel_rfl) (by simp) ?_
       refine AllReadyH.cons rfl (fun K hK => ?_) ?_
       ·go_simp
        refine hK.out _ _ ?_ (fun hHeld => ?_)
        ·(try dsimp only);(first|(refine HY.out _ ?_;(repeat (first|with_reducible (first|assumption|exact Bw.refl _|refine Bw.alloc ?_ _|refine Bw.more ?_ _ _|refine Bw.drew ?_|refine Bw.drewN ?_ _)|((with_reducible refine Bw.set2 ?_ ?_ _);(focus exact SZX))|with_reducible refine Bw.trans ?_ (by assumption)));done)|exact HK7.out|exact HYs.out _ _ HK7.out)
        clear hK K
        (try simp only [Act.put,zP1,zP2,zP3,zP4,zP5,zP6])
        refine wpAnyH_done (by kernel_rfl) ?_ _
        go_wp2_with fail
        go_roundw
        case rel => exact ⟨q + 1,A7,c7,_,by go_num,by omega,HB7.out.set 19 _ rfl,own_set_below HO7.out (by omega) _,HF7.out.far (grown_set (grown_refl _ (some g)) 19 _) (sb_tyN HB7.out) (by decide),grown_set hgr7 19 _⟩
        case measure => simp [intOf];omega
       exact AllReadyH.nil
      exact AllReadyH.nil
     exact AllReadyH.nil
    exact AllReadyH.nil
   exact AllReadyH.nil
  ·obtain rfl : nn = q:=by omega
   go_wp2_with fail
   go_end0
   exact ⟨L,k,⟨rfl,HB.out,HG.out⟩,vs,HO.out,HF.out⟩
end Go.Proofs.YtkflooljdopldaaGreat
