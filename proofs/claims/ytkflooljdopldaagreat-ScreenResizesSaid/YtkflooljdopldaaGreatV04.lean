/- Parts of the proof, one after the other. -/
import Derived.Test.YtkflooljdopldaaGreatV03
import Derived.Deep.RegionHeld3
import Derived.Deep.AppendLies
import Derived.Deep.MidRow
set_option linter.unusedSimpArgs false
set_option linter.unusedVariables false
/- Attributes: validity kept, plain laws. -/
namespace Go.Proofs.YtkflooljdopldaaGreat
open Go.RowKit

theorem infoI : (Tryz.prog.info? 3).map (fun i => (i.zero,i.size,i.bytes)) = some (some (.int .i64 0),1,8):=by kernel_rfl
theorem bits7 (f : Int) (h0 : 0 ≤ f) (h1 : f ≤ 7) : (0 ≤ bits .or .i64 f 1 ∧ bits .or .i64 f 1 ≤ 7) ∧ (0 ≤ bits .or .i64 f 2 ∧ bits .or .i64 f 2 ≤ 7) ∧ (0 ≤ bits .or .i64 f 4 ∧ bits .or .i64 f 4 ≤ 7) ∧
  (0 ≤ bits .andNot .i64 f 1 ∧ bits .andNot .i64 f 1 ≤ 7) ∧ (0 ≤ bits .andNot .i64 f 2 ∧ bits .andNot .i64 f 2 ≤ 7) ∧ (0 ≤ bits .andNot .i64 f 4 ∧ bits .andNot .i64 f 4 ≤ 7):=by
 have key : ∀ y : Fin 8,(0 ≤ bits .or .i64 (y.val : Int) 1 ∧ bits .or .i64 (y.val : Int) 1 ≤ 7) ∧ (0 ≤ bits .or .i64 (y.val : Int) 2 ∧ bits .or .i64 (y.val : Int) 2 ≤ 7) ∧ (0 ≤ bits .or .i64 (y.val : Int) 4 ∧ bits .or .i64 (y.val : Int) 4 ≤ 7) ∧
  (0 ≤ bits .andNot .i64 (y.val : Int) 1 ∧ bits .andNot .i64 (y.val : Int) 1 ≤ 7) ∧ (0 ≤ bits .andNot .i64 (y.val : Int) 2 ∧ bits .andNot .i64 (y.val : Int) 2 ≤ 7) ∧ (0 ≤ bits .andNot .i64 (y.val : Int) 4 ∧ bits .andNot .i64 (y.val : Int) 4 ≤ 7):=by decide +kernel
 have:=key ⟨f.toNat,by omega⟩
 simpa [show ((f.toNat : Nat) : Int) = f from by omega] using this
def AV (s : Int × Int × Int) : Prop:=(0 ≤ s.1 ∧ s.1 ≤ 7) ∧ (0 ≤ s.2.1 ∧ s.2.1 ≤ 16) ∧ (0 ≤ s.2.2 ∧ s.2.2 ≤ 16)
theorem AV.ite {c : Prop} [Decidable c] {a b : Int × Int × Int} (h1 : c → AV a) (h2 : ¬ c → AV b) : AV (if c then a else b):=by
 split
 ·exact h1 (by assumption)
 ·exact h2 (by assumption)
theorem single_valid (f g b p : Int) (h : avB f g b = true) : avB (single f g b p).1 (single f g b p).2.1 (single f g b p).2.2 = true:=by
 have hv : 0 ≤ f ∧ f ≤ 7 ∧ 0 ≤ g ∧ g ≤ 16 ∧ 0 ≤ b ∧ b ≤ 16:=of_decide_eq_true h
 have h7:=bits7 f hv.1 hv.2.1
 obtain ⟨k1,k2,k3,k4,k5,k6⟩:=h7
 have hA : AV (single f g b p):=by
  unfold single
  repeat' (refine AV.ite (fun hc => ?_) (fun hc => ?_))
  all_goals (refine ⟨?_,?_,?_⟩ <;> dsimp only)
  all_goals first|assumption|omega|fail
 generalize single f g b p = s at hA
 unfold AV at hA
 unfold avB
 apply decide_eq_true
 omega
theorem AtC.row {w w' : World} {G : Nat} {a : Int × Int × Int} (h : AtC w G a) {v : Value} {base : Nat} {e : TypeId} {s m : Nat} {ys : List Value} (ho : w.ownsRow base e s v m ys) (hg : w.grownBy w' v.ownBlock) (hb : G < base) : AtC w' G a:=by
 cases hob : v.ownBlock with
 | none => rw [hob] at hg;exact h.bw (Bw.of_grown hg)
 | some r =>
  rw [hob] at hg
  have hr:=(ho.lt r hob).1
  obtain ⟨⟨h1,h2,h3⟩,h4,h5,h6⟩:=h
  have hl:=lt_of_cell h1
  dsimp only at hl
  refine ⟨⟨?_,?_,?_⟩,?_,?_,?_⟩
  ·rw [grown_cell hg (p:=⟨G,0,none⟩) hl (by simp;omega)];exact h1
  ·rw [grown_cell hg (p:=⟨G,1,none⟩) hl (by simp;omega)];exact h2
  ·rw [grown_cell hg (p:=⟨G,2,none⟩) hl (by simp;omega)];exact h3
  ·rw [grown_frozen hg (p:=⟨G,0,none⟩) hl (by simp;omega)];exact h4
  ·rw [grown_frozen hg (p:=⟨G,1,none⟩) hl (by simp;omega)];exact h5
  ·rw [grown_frozen hg (p:=⟨G,2,none⟩) hl (by simp;omega)];exact h6
theorem own_set_below {w : World} {base : Nat} {e : TypeId} {s : Nat} {v : Value} {n : Nat} {xs : List Value} (h : w.ownsRow base e s v n xs) {G j : Nat} (hG : G < base) (u : Value) : (w.setCell ⟨G,j,none⟩ u).ownsRow base e s v n xs :=
 ownsRow_setCell_other h (fun e2 => by have:=(h.lt G e2).1;omega) u

/-- Block g's first cells are vs, and may be written. -/
def Bx (w : World) (g : Nat) (vs : List Value) : Prop:=∀ i (h : i < vs.length),w.cell? ⟨g,i,none⟩ = some vs[i] ∧ w.frozen? ⟨g,i,none⟩ = false
theorem Bx.up {w w' : World} {g : Nat} {vs : List Value} (h : Bx w g vs) (hb : Bw w w') : Bx w' g vs:=fun i hi =>
 ⟨cell_bw hb (h i hi).1,(Below.frozen hb (p:=⟨g,i,none⟩) (lt_of_cell (h i hi).1)).trans (h i hi).2⟩
theorem Bx.lit {w : World} {g : Nat} {cs : Array Value} {T : TypeId} {vs : List Value} (hg : g = w.heap.size) (hc : cs = vs.toArray) : Bx (w.alloc (.cells cs T)) g vs:=fun i hi => by
 subst hg;subst hc
 refine ⟨cell_alloc_here rfl (by simp [hi]),?_⟩
 simp [go_sem]
theorem Bx.put {w : World} {g i : Nat} {vs : List Value} (h : Bx w g vs) (hi : i < vs.length) (u : Value) : Bx (w.setCell ⟨g,i,none⟩ u) g (vs.set i u):=fun j hj => by
 have hj' : j < vs.length:=by simpa using hj
 refine ⟨?_,by rw [frz_set];exact (h j hj').2⟩
 by_cases e : i = j
 ·subst e
  rw [World.cell?_setCell_same _ _ _ (h i hi).1]
  simp
 ·rw [cell_ne (h j hj').1 e]
  simp [e]
theorem Bx.away {w : World} {g h j : Nat} {vs : List Value} (hB : Bx w g vs) (hne : g ≠ h) (v : Value) : Bx (w.setCell ⟨h,j,none⟩ v) g vs:=fun i hi =>
 ⟨cell_set_some hne (hB i hi).1,by rw [frz_set];exact (hB i hi).2⟩
theorem Bx.far {w w' : World} {g : Nat} {row : Option Nat} {vs : List Value} (h : Bx w g vs) (hg : w.grownBy w' row) (hne : some g ≠ row) : Bx w' g vs:=fun i hi => by
 have hl:=lt_of_cell (h i hi).1
 dsimp only at hl
 exact ⟨(World.cell?_of_block (a:=⟨g,i,none⟩) (hg.block g hl hne)).trans (h i hi).1,(World.frozen?_of_block (a:=⟨g,i,none⟩) (hg.block g hl hne)).trans (h i hi).2⟩
theorem Bx.row {w w' : World} {g : Nat} {vs : List Value} (h : Bx w g vs) {v : Value} {base : Nat} {e : TypeId} {s m : Nat} {ys : List Value} (ho : w.ownsRow base e s v m ys) (hg : w.grownBy w' v.ownBlock) (hb : g < base) : Bx w' g vs :=
 h.far hg (fun e => by have:=ho.lt g e.symm;omega)
theorem Bx.lt {w : World} {g : Nat} {vs : List Value} (h : Bx w g vs) (h0 : 0 < vs.length) : g < w.heap.size:=by
 have:=lt_of_cell (h 0 h0).1
 simpa using this

/-- A list of cells, read out of an owned row. -/
theorem Rg.of_own {w : World} {base : Nat} {e : TypeId} {A : Option Addr} {n c m : Nat} {cs : List C4} (h : w.ownsRow base e 4 (.slice A n c) m (flat cs)) : Rg w A n cs:=by
 have hl:=h.1
 rw [flat_len] at hl
 rcases h.2 with ⟨e1,h0⟩|⟨g,cap,cur,e1,_,hh,hnc,hm,_,htake⟩
 ·cases e1
  exact ⟨by omega,fun h1 => absurd h1 (by omega)⟩
 ·cases e1
  refine ⟨by omega,fun h0 => ⟨g,0,rfl,fun i hi => ?_⟩⟩
  have key : ∀ j,(hj : j < 4) → w.cell? ⟨g,0 + i * 4 + j,none⟩ = (c4L cs[i])[j]?:=fun j hj => by
   rw [← flat_get cs i j hi hj]
   have hlt : i * 4 + j < (flat cs).length:=by rw [flat_len];omega
   have:=h.cells (g:=g) rfl (i * 4 + j) _ (List.getElem?_eq_getElem hlt)
   rw [List.getElem?_eq_getElem hlt,Nat.zero_add]
   rw [Addr.add_mid,Nat.zero_add] at this
   exact this
  exact ⟨key 0 (by omega),key 1 (by omega),key 2 (by omega),key 3 (by omega)⟩
theorem Rg.none_ {w : World} {A : Option Addr} {n : Nat} {cs : List C4} (h : Rg w A n cs) : A = none → n = 0:=by
 intro e
 subst e
 rcases Nat.eq_zero_or_pos n with h0|h0
 ·exact h0
 ·obtain ⟨g,o,e,-⟩:=h.2 h0;cases e

theorem infoC : (Tryz.prog.info? 53).map (fun i => (i.zero,i.size,i.bytes)) = some (some (.agg #[.int .i64 0,.int .i64 0,.int .i64 0,.int .i64 0]),4,32):=by kernel_rfl
/-- The call returns the grid of R rows and C columns with the cells cs, in new memory or old. -/
def GrP (w : World) (R C : Int) (cs : List C4) (e : Ending) (w' : World) : Prop :=
 ∃ A n c,e = .returned (.agg #[.int .i64 R,.int .i64 C,.slice A n c]) ∧ Rg w' A n cs ∧ n ≤ c ∧ c ≤ 9223372036854775807 ∧ Bw w w'
theorem c4_one (c : C4) : ∀ u ∈ c4L c,u.oneCell' = true:=fun u hu => flat_one [c] u (by unfold flat;simpa using hu)
/-- The same, in new memory. -/
def GrN (w : World) (R C : Int) (cs : List C4) (e : Ending) (w' : World) : Prop :=
 ∃ A n c,e = .returned (.agg #[.int .i64 R,.int .i64 C,.slice A n c]) ∧ Rg w' A n cs ∧ n ≤ c ∧ c ≤ 9223372036854775807 ∧ (∀ ad,A = some ad → w.heap.size ≤ ad.block) ∧ Bw w w'
theorem GrN.toP {w : World} {R C : Int} {cs : List C4} {e : Ending} {w' : World} (h : GrN w R C cs e w') : GrP w R C cs e w':=by
 obtain ⟨A,n,c,h1,h2,h3,h4,-,h5⟩:=h
 exact ⟨A,n,c,h1,h2,h3,h4,h5⟩
theorem Ce.away {w : World} {g o h j : Nat} {c : C4} (hc : Ce w g o c) (hne : g ≠ h) (v : Value) : Ce (w.setCell ⟨h,j,none⟩ v) g o c:=⟨cell_set_some hne hc.1,cell_set_some hne hc.2.1,cell_set_some hne hc.2.2.1,cell_set_some hne hc.2.2.2⟩
theorem Rg.away {w : World} {A : Option Addr} {n h : Nat} {cs : List C4} (hr : Rg w A n cs) (hne : ∀ ad,A = some ad → ad.block ≠ h) (j : Nat) (v : Value) : Rg (w.setCell ⟨h,j,none⟩ v) A n cs:=by
 refine ⟨hr.1,fun h0 => ?_⟩
 obtain ⟨g,o,e,hx⟩:=hr.2 h0
 exact ⟨g,o,e,fun i hi => (hx i hi).away (hne _ e) _⟩
theorem own_mono {w : World} {base base' : Nat} {e : TypeId} {s n : Nat} {v : Value} {xs : List Value} (h : w.ownsRow base e s v n xs) (hb : base' ≤ base) : w.ownsRow base' e s v n xs:=by
 refine ⟨h.1,?_⟩
 rcases h.2 with h2|⟨g,cap,cur,e1,h3,rest⟩
 ·exact .inl h2
 ·exact .inr ⟨g,cap,cur,e1,Nat.le_trans hb h3,rest⟩
theorem own_new {w : World} {base : Nat} {e : TypeId} {s n m c : Nat} {A : Option Addr} {xs : List Value} (h : w.ownsRow base e s (.slice A n c) m xs) : ∀ ad,A = some ad → base ≤ ad.block:=by
 intro ad e
 subst e
 exact (h.lt ad.block rfl).1
/-- The same, and the cells are the call's own row. -/
def GrO (w : World) (R C : Int) (cs : List C4) (e : Ending) (w' : World) : Prop :=
 ∃ A n c,e = .returned (.agg #[.int .i64 R,.int .i64 C,.slice A n c]) ∧ w'.ownsRow w.heap.size 53 4 (.slice A n c) n (flat cs) ∧ n ≤ c ∧ c ≤ 9223372036854775807 ∧ Bw w w'
theorem GrO.toN {w : World} {R C : Int} {cs : List C4} {e : Ending} {w' : World} (h : GrO w R C cs e w') : GrN w R C cs e w':=by
 obtain ⟨A,n,c,h1,h2,h3,h4,h5⟩:=h
 exact ⟨A,n,c,h1,Rg.of_own h2,h3,h4,own_new h2,h5⟩
def blk : C4:=(32,0,0,0)
theorem rep_snoc (k : Nat) (c : C4) : flat (List.replicate (k + 1) c) = flat (List.replicate k c) ++ c4L c:=by
 rw [List.replicate_succ',flat_app]
 unfold flat
 simp
theorem news4 {w : World} {B : Nat} {cs : Array Value} {t : TypeId} {fr : Nat × Nat} {vs : List Value} (hb : w.heap[B]? = some (.cells cs t fr)) (hc : cs.toList = vs) : ∀ j u,vs[j]? = some u → w.cell? ((⟨B,0,none⟩ : Addr).add j) = some u:=by
 subst hc;exact World.news_of_block hb

set_option maxRecDepth 100000 in
set_option maxHeartbeats 2000000 in
theorem rblanks_own (R C : Int) (w : World) (h1 : 1 ≤ R) (h2 : R ≤ 30) (h3 : 1 ≤ C) (h4 : C ≤ 100) : Calls Tryz.prog 76 #[.int .i64 R,.int .i64 C] w (GrO w R C (List.replicate (R * C).toNat blk)):=by
 have hm:=mul_bd h1 h2 h3 h4
 obtain ⟨N,hN⟩ : ∃ N : Nat,(R * C).toNat = N:=⟨_,rfl⟩
 have hN1 : R * C ≤ N:=by omega
 have hN2 : (N : Int) ≤ R * C:=by omega
 have HN:=Lib.hid hN
 obtain ⟨j0,hj,hj0,hj1,hj2⟩:=info_parts infoC
 clear hN
 go_enter Tryz.func76,Tryz.ntmps76
 go_wp2_with fail
 go_loopw [6] (fun i wr => ∃ (k : Nat) (v : Value),i = .int .i64 k ∧ k ≤ N ∧ Bx wr w.heap.size [.int .i64 0,.int .i64 0,.slice none 0 0] ∧ Bx wr (w.heap.size + 1) [.int .i64 R,.int .i64 C,v] ∧ wr.ownsRow (w.heap.size + 2) 53 4 v k (flat (List.replicate k blk)) ∧ Bw w wr) (fun i _ => N - (intOf i).toNat)
 case atStart =>
  exact ⟨0,.slice none 0 0,rfl,by omega,(Bx.lit rfl rfl).up BWX,Bx.lit SZX rfl,World.ownsRow_nil _ _ _ _,BWX⟩
 case round =>
  obtain ⟨k,v,rfl,hk,hB0,hB1,hown,hbw⟩:=hrel
  obtain ⟨A,c,rfl,hc,hcm⟩:=own_form hown
  have hz:=hB1.lt (by simp)
  have HO:=Lib.hid hown
  have HB0:=Lib.hid hB0
  have HB1:=Lib.hid hB1
  (have x0:=(HB0.out 0 (by simp)).1;have x1:=(HB0.out 1 (by simp)).1;have x2:=(HB0.out 2 (by simp)).1;have a0:=(HB0.out 0 (by simp)).2;have a1:=(HB0.out 1 (by simp)).2;have a2:=(HB0.out 2 (by simp)).2;simp only [List.getElem_cons_zero,List.getElem_cons_succ] at x0 x1 x2)
  (have y0:=(HB1.out 0 (by simp)).1;have y1:=(HB1.out 1 (by simp)).1;have y2:=(HB1.out 2 (by simp)).1;have b0:=(HB1.out 0 (by simp)).2;have b1:=(HB1.out 1 (by simp)).2;have b2:=(HB1.out 2 (by simp)).2;simp only [List.getElem_cons_zero,List.getElem_cons_succ] at y0 y1 y2)
  clear hown hB0 hB1
  by_cases hlt : k < N
  ·go_wp2_with (first|(at_builtin;refine wpList_append_srcG (by rfl) (.tmp 18) (.tmp 20) 24 rfl (w.heap.size + 2) 53 j0 (.agg #[.int .i64 0,.int .i64 0,.int .i64 0,.int .i64 0]) 4 32 Tryz.underlying24 hj hj0 hj1 hj2 rfl (by decide) (.slice A k c) k _ (by rfl) (HO.out.alloc _) (some ⟨_,0,none⟩) 1 1 (c4L blk) (by rfl) rfl (fun e => by cases e) (fun ad e => by cases e;exact news4 (heap_alloc_new _ _) rfl) (c4_one _) (by unfold maxLen;omega) (by omega) SZX ?_;intro v1 w1 hown1 hg1;obtain ⟨A1,c1,rfl,hc1,hcm1⟩:=own_form hown1;have hC0:=((HB0.out.up (w':=wr.alloc _) BWX).row (HO.out.alloc _) hg1 (by omega));have hC1:=((HB1.out.up (w':=wr.alloc _) BWX).row (HO.out.alloc _) hg1 (by omega));have hbw1 : Bw w w1:=Bw.row (Bw.alloc hbw _) (HO.out.alloc _) hg1 (by omega);have HO1:=Lib.hid hown1;have HC0:=Lib.hid hC0;have HC1:=Lib.hid hC1;(have s0:=(HC0.out 0 (by simp)).1;have s1:=(HC0.out 1 (by simp)).1;have s2:=(HC0.out 2 (by simp)).1;have p0:=(HC0.out 0 (by simp)).2;have p1:=(HC0.out 1 (by simp)).2;have p2:=(HC0.out 2 (by simp)).2;simp only [List.getElem_cons_zero,List.getElem_cons_succ] at s0 s1 s2);(have t0:=(HC1.out 0 (by simp)).1;have t1:=(HC1.out 1 (by simp)).1;have t2:=(HC1.out 2 (by simp)).1;have q0:=(HC1.out 0 (by simp)).2;have q1:=(HC1.out 1 (by simp)).2;have q2:=(HC1.out 2 (by simp)).2;simp only [List.getElem_cons_zero,List.getElem_cons_succ] at t0 t1 t2);clear hown1 hg1 hC0 hC1)|fail)
   go_roundw
   case rel =>
    refine ⟨k + 1,.slice A1 (k + 1) c1,by go_num,by omega,HC0.out.away (by omega) _,HC1.out.put (i:=2) (by simp) _,?_,BWX⟩
    rw [rep_snoc]
    exact own_set_below HO1.out (by omega) _
   case measure => simp [intOf];omega
  ·obtain rfl : k = N:=by omega
   go_wp2_with fail
   refine bodyPost_ret (by simp [results,Tryz.results76,go_sem,x0,x1,x2,a0,a1,a2];rfl) rfl ?_
   rw [HN.out]
   exact ⟨A,k,c,rfl,own_mono (own_set_below (own_set_below (own_set_below HO.out (by omega) _) (by omega) _) (by omega) _) (by omega),hc,hcm,BWX⟩

/-- A size, brought within its bounds. -/
def clamp (x hi : Int) : Int:=if x < 1 then 1 else if hi < x then hi else x
theorem clamp_bd (x hi : Int) (h : 1 ≤ hi) : 1 ≤ clamp x hi ∧ clamp x hi ≤ hi:=by unfold clamp;split <;> (try split) <;> omega
theorem clamp_if (x hi : Int) (h : 1 ≤ hi) : (if hi < (if 1 < x then x else 1) then hi else (if 1 < x then x else 1)) = clamp x hi:=by
 unfold clamp
 by_cases h1 : 1 < x
 ·rw [if_pos h1,if_neg (show ¬ x < 1 by omega)]
 ·rw [if_neg h1,if_neg (show ¬ hi < 1 by omega)]
  by_cases h2 : x < 1
  ·rw [if_pos h2]
  ·rw [if_neg h2];split <;> omega
set_option maxRecDepth 100000 in
set_option maxHeartbeats 1000000 in
theorem rnew16_own (rows cols : Int) (w : World) : Calls Tryz.prog 40 #[.int .i64 rows,.int .i64 cols] w (GrO w (clamp rows 30) (clamp cols 100) (List.replicate (clamp rows 30 * clamp cols 100).toNat blk)):=by
 have h1:=clamp_bd rows 30 (by omega)
 have h2:=clamp_bd cols 100 (by omega)
 have HR:=Lib.hid (clamp_if rows 30 (by omega))
 have HC:=Lib.hid (clamp_if cols 100 (by omega))
 go_enter Tryz.func40,Tryz.ntmps40
 go_wp2_with (first|(go_at_call 76;rw [HR.out,HC.out];refine (rblanks_own _ _ _ h1.1 h1.2 h2.1 h2.2).mono ?_;rintro ee w1 ⟨A,n,c,rfl,hown,hn,hc,hb⟩;have HO:=Lib.hid hown;have HB0:=Lib.hid ((Bx.lit (w:=w) rfl rfl).up hb);have hbw : Bw w w1:=Bw.trans (show Bw w (w.alloc _) from BWX) hb;have hz:=HB0.out.lt (by simp);(have x0:=(HB0.out 0 (by simp)).1;have x1:=(HB0.out 1 (by simp)).1;have x2:=(HB0.out 2 (by simp)).1;have z0:=(HB0.out 0 (by simp)).2;have z1:=(HB0.out 1 (by simp)).2;have z2:=(HB0.out 2 (by simp)).2;simp only [List.getElem_cons_zero,List.getElem_cons_succ] at x0 x1 x2);clear hown hb)|fail)
 all_goals
  refine bodyPost_ret (by simp [results,Tryz.results40,go_sem,x0,x1,x2,z0,z1,z2];rfl) rfl ?_
  have hO:=own_mono HO.out (show w.heap.size + 1 ≤ (w.alloc _).heap.size from Nat.le_of_eq (heapsz w _).symm)
  exact ⟨A,n,c,rfl,own_mono (own_set_below (own_set_below (own_set_below hO (by omega) _) (by omega) _) (by omega) _) (by omega),hn,hc,BWX⟩
theorem rnew16_any (rows cols : Int) (w : World) : Calls Tryz.prog 40 #[.int .i64 rows,.int .i64 cols] w (GrN w (clamp rows 30) (clamp cols 100) (List.replicate (clamp rows 30 * clamp cols 100).toNat blk)):=(rnew16_own rows cols w).mono fun _ _ h => h.toN

/-- Block g is a row of cells, known whole. -/
def Wb (w : World) (g : Nat) (cs : List C4) : Prop:=w.heap[g]? = some (.cells (flat cs).toArray 53 (0,0))
theorem Wb.lt {w : World} {g : Nat} {cs : List C4} (h : Wb w g cs) : g < w.heap.size:=lt_of_block h
theorem Wb.up {w w' : World} {g : Nat} {cs : List C4} (h : Wb w g cs) (hb : Bw w w') : Wb w' g cs:=(hb.block g h.lt).trans h
theorem Wb.away {w : World} {g h j : Nat} {cs : List C4} (hW : Wb w g cs) (hne : g ≠ h) (v : Value) : Wb (w.setCell ⟨h,j,none⟩ v) g cs:=(Below.heap_setCell _ _ _ _ hne).trans hW
theorem block_set {w : World} {g i : Nat} {l : List Value} {t : TypeId} (h : w.heap[g]? = some (.cells l.toArray t (0,0))) (u : Value) : (w.setCell ⟨g,i,none⟩ u).heap[g]? = some (.cells (l.set i u).toArray t (0,0)):=by
 have hlt:=lt_of_block h
 have h' : w.heap[g] = .cells l.toArray t (0,0):=by simpa [Array.getElem?_eq_getElem hlt] using h
 show (w.heap.modify g _)[g]? = _
 rw [Array.getElem?_eq_getElem (by simpa using hlt),Array.getElem_modify_self,h']
 simp
theorem flat_set : ∀ (cs : List C4) (k : Nat) (c : C4),k < cs.length → ((((flat cs).set (k * 4) (.int .i64 c.1)).set (k * 4 + 1) (.int .i64 c.2.1)).set (k * 4 + 2) (.int .i64 c.2.2.1)).set (k * 4 + 3) (.int .i64 c.2.2.2) = flat (cs.set k c)
 | [],k,c,h => by simp at h
 | x :: xs,0,c,h => by rw [flat_cons];rfl
 | x :: xs,k + 1,c,h => by
  rw [flat_cons,List.set_cons_succ,flat_cons,← flat_set xs k c (by simpa using h)]
  have e : ∀ j,(k + 1) * 4 + j = 4 + (k * 4 + j):=fun j => by omega
  have e0 : (k + 1) * 4 = 4 + k * 4:=by omega
  rw [e 1,e 2,e 3,e0]
  obtain ⟨x1,x2,x3,x4⟩:=x
  simp [c4L,Nat.add_comm 4]
theorem Wb.cells {w : World} {g : Nat} {cs : List C4} (h : Wb w g cs) (k : Nat) (hk : k < cs.length) : Ce w g (k * 4) cs[k]:=by
 have key : ∀ j,(hj : j < 4) → w.cell? ⟨g,k * 4 + j,none⟩ = (c4L cs[k])[j]?:=fun j hj => by
  rw [← flat_get cs k j hk hj]
  simp [World.cell?,show w.heap[g]? = _ from h]
 exact ⟨key 0 (by omega),key 1 (by omega),key 2 (by omega),key 3 (by omega)⟩
theorem Wb.free {w : World} {g : Nat} {cs : List C4} (h : Wb w g cs) (i : Nat) : w.frozen? ⟨g,i,none⟩ = false:=by
 simp [World.frozen?,show w.heap[g]? = _ from h]
theorem Wb.store {w : World} {g : Nat} {cs : List C4} (h : Wb w g cs) (k : Nat) (hk : k < cs.length) (c : C4) :
  Wb ((((w.setCell ⟨g,k * 4,none⟩ (.int .i64 c.1)).setCell ⟨g,k * 4 + 1,none⟩ (.int .i64 c.2.1)).setCell ⟨g,k * 4 + 2,none⟩ (.int .i64 c.2.2.1)).setCell ⟨g,k * 4 + 3,none⟩ (.int .i64 c.2.2.2)) g (cs.set k c):=by
 unfold Wb
 rw [← flat_set cs k c hk]
 exact block_set (block_set (block_set (block_set h _) _) _) _
theorem Wb.rg {w : World} {g : Nat} {cs : List C4} (h : Wb w g cs) : Rg w (some ⟨g,0,none⟩) cs.length cs:=⟨rfl,fun _ => ⟨g,0,rfl,fun i hi => by rw [Nat.zero_add];exact h.cells i hi⟩⟩
def zc : C4:=(0,0,0,0)
theorem made_flat : ∀ n : Nat,(madeCells #[.int .i64 0,.int .i64 0,.int .i64 0,.int .i64 0] (n * 4)).toList = flat (List.replicate n zc):=by
 intro n
 apply List.ext_getElem
 ·rw [flat_len];simp [madeCells]
 ·intro i h1 h2
  have hi : i < n * 4:=by simpa [madeCells] using h1
  have e : i = (i / 4) * 4 + i % 4:=by omega
  have hk : i / 4 < (List.replicate n zc).length:=by simp;omega
  have h3:=flat_get (List.replicate n zc) (i / 4) (i % 4) hk (by omega)
  rw [← e,List.getElem?_eq_getElem h2] at h3
  have h4 : (List.replicate n zc)[i / 4] = zc:=by simp
  rw [h4] at h3
  have h5 : (c4L zc)[i % 4]? = some (.int .i64 0):=by
   have : i % 4 = 0 ∨ i % 4 = 1 ∨ i % 4 = 2 ∨ i % 4 = 3:=by omega
   rcases this with h|h|h|h <;> rw [h] <;> rfl
  rw [h5] at h3
  rw [Option.some.inj h3]
  have : i % 4 = 0 ∨ i % 4 = 1 ∨ i % 4 = 2 ∨ i % 4 = 3:=by omega
  rcases this with h|h|h|h <;> simp [madeCells,h]
theorem Wb.of_own {w : World} {base g n : Nat} {cs : List C4} (h : w.ownsRow base 53 4 (.slice (some ⟨g,0,none⟩) n n) n (flat cs)) : Wb w g cs:=by
 have hl:=h.1
 rcases h.2 with ⟨e1,h0⟩|⟨g',cap,cur,e1,_,hh,hnc,hm,hs,htake⟩
 ·cases e1
 ·cases e1
  rw [List.take_of_length_le (by simp [hs])] at htake
  unfold Wb
  rw [hh,← htake]
theorem Wb.of_made {w : World} {base g g' n : Nat} (h : w.ownsRow base 53 4 (.slice (some ⟨g,0,none⟩) n n) n (madeCells (Value.agg #[.int .i64 0,.int .i64 0,.int .i64 0,.int .i64 0]).cells (n * 4)).toList) (hg : g = g') : Wb w g' (List.replicate n zc):=by
 subst hg
 rw [show (Value.agg #[.int .i64 0,.int .i64 0,.int .i64 0,.int .i64 0]).cells = #[.int .i64 0,.int .i64 0,.int .i64 0,.int .i64 0] from rfl,made_flat] at h
 exact Wb.of_own h
theorem Wb.own {w : World} {base g n : Nat} {cs : List C4} (h : Wb w g cs) (hn : cs.length = n) (hb : base ≤ g) (hm : n ≤ maxLen) : w.ownsRow base 53 4 (.slice (some ⟨g,0,none⟩) n n) n (flat cs):=by
 subst hn
 exact ⟨flat_len cs,.inr ⟨g,_,_,rfl,hb,h,Nat.le_refl _,hm,by simp [flat_len],by simp [← flat_len]⟩⟩
theorem rep_set (n k : Nat) (hk : k < n) : (List.replicate k blk ++ List.replicate (n - k) zc).set k blk = List.replicate (k + 1) blk ++ List.replicate (n - (k + 1)) zc:=by
 rw [List.set_append_right _ _ (by simp),List.length_replicate,Nat.sub_self,show n - k = (n - (k + 1)) + 1 by omega,List.replicate_succ,List.set_cons_zero,List.replicate_succ',List.append_assoc]
 rfl

set_option maxRecDepth 100000 in
set_option maxHeartbeats 2000000 in
theorem gnew16_own (rows cols : Int) (w : World) : Calls Tryz.prog 34 #[.int .i64 rows,.int .i64 cols] w (GrO w (clamp rows 30) (clamp cols 100) (List.replicate (clamp rows 30 * clamp cols 100).toNat blk)):=by
 have h1:=clamp_bd rows 30 (by omega)
 have h2:=clamp_bd cols 100 (by omega)
 have HR:=Lib.hid (clamp_if rows 30 (by omega))
 have HC:=Lib.hid (clamp_if cols 100 (by omega))
 obtain ⟨R,hR⟩ : ∃ R,R = clamp rows 30:=⟨_,rfl⟩
 obtain ⟨C,hC⟩ : ∃ C,C = clamp cols 100:=⟨_,rfl⟩
 rw [← hR,← hC]
 rw [← hR] at h1 HR
 rw [← hC] at h2 HC
 clear hR hC
 obtain ⟨h1,h3⟩:=h1
 obtain ⟨h2,h4⟩:=h2
 have hm:=mul_bd h1 h3 h2 h4
 obtain ⟨N,hN⟩ : ∃ N : Nat,(R * C).toNat = N:=⟨_,rfl⟩
 have hN2 : R * C = (N : Int):=by omega
 have hN3 : 1 ≤ N ∧ N ≤ 3000:=by omega
 have HN:=Lib.hid hN
 have HN2:=Lib.hid hN2
 obtain ⟨j0,hj,hj0,hj1,hj2⟩:=info_parts infoC
 obtain ⟨hN4,hN5⟩:=hN3
 clear hN hN2
 go_enter Tryz.func34,Tryz.ntmps34
 go_upto_region 1 with (fail)
 go_cut [0] (fun s0 w' => s0 = .int .i64 R ∧ w.alloc (.cells #[.int .i64 0,.int .i64 0,.slice none 0 0] 26) = w')
 case first =>
  go_wp2_with fail
  all_goals
   go_meet
   case rel => exact ⟨congrArg (Value.int .i64) (by have h9:=HR.out;(repeat' split at h9) <;> omega),rfl⟩
 case rest =>
 obtain ⟨rfl,rfl⟩:=hcut
 go_upto_region 2 with (fail)
 go_cut [1] (fun s0 w' => s0 = .int .i64 C ∧ w.alloc (.cells #[.int .i64 0,.int .i64 0,.slice none 0 0] 26) = w')
 case first =>
  go_wp2_with fail
  all_goals
   go_meet
   case rel => exact ⟨congrArg (Value.int .i64) (by have h9:=HC.out;(repeat' split at h9) <;> omega),rfl⟩
 case rest =>
 obtain ⟨rfl,rfl⟩:=hcut
 have hm2 : (N : Int) = R * C:=HN2.out.symm
 have HM2:=Lib.hid hm2
 clear hm2
 go_wp2_with (first|(at_make;refine wpList_make_full _ rfl _ _ 24 rfl (w.heap.size + 1) 53 j0 (.agg #[.int .i64 0,.int .i64 0,.int .i64 0,.int .i64 0]) 4 Tryz.underlying24 hj hj0 hj1 .i64 .i64 (R * C) (R * C) N (by rfl) (by rfl) HN2.out HN2.out (by rw [hj2];omega) (by unfold maxLen;omega) SZX ?_;intro w1 hown1 hg1;have hwb:=Wb.of_made hown1 (heapsz _ _);have hbw1 : Bw (w.alloc (.cells #[.int .i64 0,.int .i64 0,.slice none 0 0] 26)) w1:=Bw.of_grown hg1;have HW:=Lib.hid hwb;have HB1:=Lib.hid hbw1;have hzw:=hwb.lt;clear hown1 hg1 hwb hbw1)|fail)
 have hbww : Bw w w1:=Bw.trans (show Bw w (w.alloc _) from BWX) HB1.out
 have HB0:=Lib.hid ((Bx.lit (w:=w) rfl rfl).up HB1.out)
 go_loopw [19] (fun i wr => ∃ k : Nat,i = .int .i64 k ∧ k ≤ N ∧ Wb wr (w.heap.size + 1) (List.replicate k blk ++ List.replicate (N - k) zc) ∧ Bx wr w.heap.size [.int .i64 0,.int .i64 0,.slice none 0 0] ∧ Bw w wr) (fun i _ => N - (intOf i).toNat)
 case atStart => exact ⟨0,rfl,by omega,by simpa using HW.out,HB0.out,hbww⟩
 case round =>
  obtain ⟨k,rfl,hk,hW,hB,hbw⟩:=hrel
  have HWk:=Lib.hid hW
  have HBk:=Lib.hid hB
  have hzr:=hW.lt
  (have x0:=(HBk.out 0 (by simp)).1;have x1:=(HBk.out 1 (by simp)).1;have x2:=(HBk.out 2 (by simp)).1;have a0:=(HBk.out 0 (by simp)).2;have a1:=(HBk.out 1 (by simp)).2;have a2:=(HBk.out 2 (by simp)).2;simp only [List.getElem_cons_zero,List.getElem_cons_succ] at x0 x1 x2)
  clear hW hB
  by_cases hlt : k < N
  ·have hl : k < (List.replicate k blk ++ List.replicate (N - k) zc).length:=by simp;omega
   obtain ⟨f1,f2,f3,f4⟩:=HWk.out.cells k hl
   have f:=HWk.out.free (k * 4)
   have g:=HWk.out.free (k * 4 + 1)
   have h:=HWk.out.free (k * 4 + 2)
   have l:=HWk.out.free (k * 4 + 3)
   have e1 : (0 : Int) ≤ k:=by omega
   have e2 : (k : Int) < N:=by omega
   have HS:=Lib.hid (rep_set N k hlt)
   go_wp2_with (first|(go_at_call 37;refine (gblank_any _ _ _ _).mono ?_;rintro ee w2 ⟨rfl,hb2⟩;have HW2:=Lib.hid (HWk.out.up hb2);have HB2:=Lib.hid (HBk.out.up hb2);have hbw2 : Bw w w2:=Bw.trans hbw hb2;obtain ⟨p1,p2,p3,p4⟩:=HW2.out.cells k hl;have q1:=HW2.out.free (k * 4);have q2:=HW2.out.free (k * 4 + 1);have q3:=HW2.out.free (k * 4 + 2);have q4:=HW2.out.free (k * 4 + 3);clear f1 f2 f3 f4 f g h l hb2)|fail)
   go_roundw
   case rel =>
    refine ⟨k + 1,by go_num,by omega,?_,(((HB2.out.away (by omega) _).away (by omega) _).away (by omega) _).away (by omega) _,BWX⟩
    rw [← HS.out]
    exact HW2.out.store k hl blk
   case measure => simp [intOf];omega
  ·obtain rfl : k = N:=by omega
   go_wp2_with fail
   refine bodyPost_ret (by simp [results,Tryz.results34,go_sem,x0,x1,x2,a0,a1,a2];rfl) rfl ?_
   rw [HN.out]
   have hW:=HWk.out
   rw [Nat.sub_self,List.replicate_zero,List.append_nil] at hW
   have hrg:=fun (i j l : Nat) (a b c : Value) => ((hW.away (h:=w.heap.size) (j:=i) (by omega) a).away (h:=w.heap.size) (j:=j) (by omega) b).away (h:=w.heap.size) (j:=l) (by omega) c
   exact ⟨_,k,k,rfl,Wb.own (hrg _ _ _ _ _ _) (by simp) (by omega) (by unfold maxLen;omega),Nat.le_refl _,by omega,BWX⟩
theorem gnew16_any (rows cols : Int) (w : World) : Calls Tryz.prog 34 #[.int .i64 rows,.int .i64 cols] w (GrN w (clamp rows 30) (clamp cols 100) (List.replicate (clamp rows 30 * clamp cols 100).toNat blk)):=(gnew16_own rows cols w).mono fun _ _ h => h.toN

/-- The cell at a place, d if there is none. -/
def atF (Rn Cn : Nat) (cs : List C4) (r k : Int) (d : C4) : C4:=if 0 ≤ r ∧ r < Rn ∧ 0 ≤ k ∧ k < Cn then cs.getD (r.toNat * Cn + k.toNat) d else d
theorem idx_lt {Rn Cn r k : Nat} (hr : r < Rn) (hk : k < Cn) : r * Cn + k < Rn * Cn:=by
 have:=Nat.mul_le_mul_right Cn (show r + 1 ≤ Rn by omega)
 rw [Nat.add_mul] at this
 omega
theorem atF_in {Rn Cn : Nat} {cs : List C4} {r k : Nat} {d : C4} (hr : r < Rn) (hk : k < Cn) (hl : cs.length = Rn * Cn) : atF Rn Cn cs r k d = cs[r * Cn + k]'(by rw [hl];exact idx_lt hr hk):=by
 unfold atF
 rw [if_pos (by omega)]
 have h1 : r * Cn + k < cs.length:=by rw [hl];exact idx_lt hr hk
 simp [List.getD_eq_getElem?_getD,h1]
theorem atF_out {Rn Cn : Nat} {cs : List C4} {r k : Int} {d : C4} (h : ¬ (0 ≤ r ∧ r < Rn ∧ 0 ≤ k ∧ k < Cn)) : atF Rn Cn cs r k d = d:=if_neg h

set_option maxRecDepth 100000 in
set_option maxHeartbeats 2000000 in
theorem rat_any (Rn Cn : Nat) (A : Option Addr) (n c : Nat) (cs : List C4) (r k d1 d2 d3 d4 : Int) (w : World) (hR : Rn ≤ 30) (hC : Cn ≤ 100) (hl : n = Rn * Cn) (hr : Rg w A n cs) (hn : n ≤ c) (hc : c ≤ 9223372036854775807) :
  Calls Tryz.prog 77 #[.agg #[.int .i64 Rn,.int .i64 Cn,.slice A n c],.int .i64 r,.int .i64 k,.agg #[.int .i64 d1,.int .i64 d2,.int .i64 d3,.int .i64 d4]] w fun e w' => e = .returned (c4V (atF Rn Cn cs r k (d1,d2,d3,d4))) ∧ Bw w w':=by
 have HR:=Lib.hid hr
 have HL:=Lib.hid hl
 clear hr hl
 have hz : r < 0 ∨ (0 ≤ r ∧ (Rn : Int) ≤ r) ∨ ((0 ≤ r ∧ r < Rn) ∧ k < 0) ∨ ((0 ≤ r ∧ r < Rn) ∧ 0 ≤ k ∧ (Cn : Int) ≤ k) ∨ ((0 ≤ r ∧ r < Rn) ∧ 0 ≤ k ∧ k < Cn):=by omega
 rcases hz with h|⟨h1,h2⟩|⟨⟨h1,h2⟩,h3⟩|⟨⟨h1,h2⟩,h3,h4⟩|⟨⟨h1,h2⟩,h3,h4⟩
 iterate 4
  ·have HE:=Lib.hid (atF_out (Rn:=Rn) (Cn:=Cn) (cs:=cs) (r:=r) (k:=k) (d:=(d1,d2,d3,d4)) (by omega))
   go_enter Tryz.func77,Tryz.ntmps77
   go_wp2_with fail
   refine bodyPost_ret (by simp [results,Tryz.results77,go_sem];rfl) rfl ?_
   exact ⟨by rw [HE.out];rfl,BWX⟩
 obtain ⟨rn,rfl⟩ : ∃ rn : Nat,r = rn:=⟨r.toNat,by omega⟩
 obtain ⟨kn,rfl⟩ : ∃ kn : Nat,k = kn:=⟨k.toNat,by omega⟩
 have hi:=idx_lt (Rn:=Rn) (Cn:=Cn) (r:=rn) (k:=kn) (by omega) (by omega)
 have hic : rn * Cn + kn < cs.length:=by rw [HR.out.1,HL.out];exact hi
 obtain ⟨g,o,rfl,hx⟩:=HR.out.2 (by rw [HL.out];omega)
 have HE:=Lib.hid (atF_in (Rn:=Rn) (Cn:=Cn) (cs:=cs) (r:=rn) (k:=kn) (d:=(d1,d2,d3,d4)) (by omega) (by omega) (by rw [HR.out.1,HL.out]))
 have hce:=hx _ hic
 obtain ⟨⟨x1,x2,x3,x4⟩,hxx⟩ : ∃ x,x = cs[rn * Cn + kn]:=⟨_,rfl⟩
 have HXX:=Lib.hid hxx
 rw [← hxx] at hce
 obtain ⟨p,hp⟩ : ∃ p : Nat,rn * Cn = p:=⟨_,rfl⟩
 have hpi : (rn : Int) * (Cn : Int) = (p : Int):=by rw [← hp];simp
 have hpb : p ≤ 3000:=by rw [← hp];have:=Nat.mul_le_mul (show rn ≤ 30 by omega) hC;omega
 rw [hp] at hce
 have hpn : p + kn < n:=by rw [HL.out,← hp];exact hi
 obtain ⟨f1,f2,f3,f4⟩:=hce
 dsimp only at f1 f2 f3 f4
 have hgl:=lt_of_cell f1
 dsimp only at hgl
 clear hp hx hxx
 have e1 : (0 : Int) ≤ (p : Int) + kn:=by omega
 have e2 : (p : Int) + kn < n:=by omega
 go_enter Tryz.func77,Tryz.ntmps77
 go_wp2_with fail
 refine bodyPost_ret (by simp [results,Tryz.results77,go_sem];rfl) rfl ?_
 exact ⟨by rw [HE.out,← HXX.out];rfl,BWX⟩

theorem heap_at {w : World} {g : Nat} {o : Obj} (hg : g = w.heap.size) : (w.alloc o).heap[g]? = some o:=by subst hg;exact heap_alloc_new w o
theorem own_set4 {w : World} {base X : Nat} {e : TypeId} {s : Nat} {v : Value} {n : Nat} {xs : List Value} (h : w.ownsRow base e s v n xs) (hne : v.ownBlock ≠ some X) (a b c d : Value) : ((((w.setCell ⟨X,0,none⟩ a).setCell ⟨X,1,none⟩ b).setCell ⟨X,2,none⟩ c).setCell ⟨X,3,none⟩ d).ownsRow base e s v n xs :=
 ownsRow_setCell_other (ownsRow_setCell_other (ownsRow_setCell_other (ownsRow_setCell_other h hne a) hne b) hne c) hne d
theorem Bx.away4 {w : World} {g X : Nat} {vs : List Value} (h : Bx w g vs) (hne : g ≠ X) (a b c d : Value) : Bx ((((w.setCell ⟨X,0,none⟩ a).setCell ⟨X,1,none⟩ b).setCell ⟨X,2,none⟩ c).setCell ⟨X,3,none⟩ d) g vs :=
 (((h.away hne a).away hne b).away hne c).away hne d
/-- The first m cells of a table of rows of Cn cells. -/
def tabK (Cn m : Nat) (F : Nat → Nat → C4) : List C4:=(List.range m).map fun i => F (i / Cn) (i % Cn)
theorem tab_snoc {Cn r k : Nat} (F : Nat → Nat → C4) (hk : k < Cn) : flat (tabK Cn (r * Cn + k + 1) F) = flat (tabK Cn (r * Cn + k) F) ++ c4L (F r k):=by
 unfold tabK
 rw [List.range_succ,List.map_append,flat_app]
 have h1 : (r * Cn + k) / Cn = r:=by rw [Nat.mul_comm,Nat.mul_add_div (by omega),Nat.div_eq_of_lt hk,Nat.add_zero]
 have h2 : (r * Cn + k) % Cn = k:=by rw [Nat.mul_comm,Nat.mul_add_mod,Nat.mod_eq_of_lt hk]
 rw [List.map_cons,List.map_nil,h1,h2]
 unfold flat
 simp
theorem tabK_len (Cn m : Nat) (F : Nat → Nat → C4) : (tabK Cn m F).length = m:=by unfold tabK;simp
/-- A whole table. -/
def tab (Rn Cn : Nat) (F : Nat → Nat → C4) : List C4:=tabK Cn (Rn * Cn) F

def fillF (Rn Cn : Nat) (cs : List C4) (row fr tt : Int) (d : C4) (r k : Nat) : C4:=if (r : Int) = row ∧ fr ≤ k ∧ (k : Int) < tt then d else atF Rn Cn cs r k d
set_option maxRecDepth 100000 in
set_option maxHeartbeats 8000000 in
theorem rfill_go (Rn Cn : Nat) (A : Option Addr) (n c : Nat) (cs : List C4) (row fr tt d1 d2 d3 d4 : Int) (w : World) (hR1 : 1 ≤ Rn) (hR2 : Rn ≤ 30) (hC1 : 1 ≤ Cn) (hC2 : Cn ≤ 100) (hl : n = Rn * Cn) (hr : Rg w A n cs) (hn : n ≤ c) (hc : c ≤ 9223372036854775807)
  (hv : gridB Rn Cn cs = true) (hcv : cellB (d1,d2,d3,d4) = true) :
  Calls Tryz.prog 105 #[.agg #[.int .i64 Rn,.int .i64 Cn,.slice A n c],.int .i64 row,.int .i64 fr,.int .i64 tt,.agg #[.int .i64 d1,.int .i64 d2,.int .i64 d3,.int .i64 d4]] w (GrN w Rn Cn (tab Rn Cn (fillF Rn Cn cs row fr tt (d1,d2,d3,d4)))):=by
 have HR:=Lib.hid hr
 have HL:=Lib.hid hl
 have HV:=Lib.hid hv
 have HCV:=Lib.hid hcv
 have hm3 : n ≤ 3000:=by rw [hl];have:=Nat.mul_le_mul hR2 hC2;omega
 obtain ⟨j0,hj,hj0,hj1,hj2⟩:=info_parts infoC
 obtain ⟨FF,hFF⟩ : ∃ FF,FF = fillF Rn Cn cs row fr tt (d1,d2,d3,d4):=⟨_,rfl⟩
 have HFF:=Lib.hid hFF
 rw [← hFF]
 clear hr hl hv hcv hFF
 go_enter Tryz.func105,Tryz.ntmps105
 go_upto_if 22 with (first
  | (go_at_call 72;refine (rgvalid_any _ _ _ _ _ cs _ (by exact HR.out.up BWX) hn hc).mono ?_;rintro ee wv ⟨rfl,hbv⟩;rw [HV.out];have HB0:=Lib.hid (((Bx.lit (w:=w) (cs:=#[.int .i64 Rn,.int .i64 Cn,.slice A n c]) (T:=26) rfl rfl).up (show Bw _ (((w.alloc _).alloc _).alloc _) from BWX)).up hbv);have HB1:=Lib.hid (((Bx.lit (w:=w.alloc (.cells #[.int .i64 Rn,.int .i64 Cn,.slice A n c] 26)) (g:=w.heap.size + 1) (cs:=#[.int .i64 d1,.int .i64 d2,.int .i64 d3,.int .i64 d4]) (T:=53) SZX rfl).up (show Bw _ (((w.alloc _).alloc _).alloc _) from BWX)).up hbv);have HB2:=Lib.hid ((Bx.lit (w:=(w.alloc (.cells #[.int .i64 Rn,.int .i64 Cn,.slice A n c] 26)).alloc (.cells #[.int .i64 d1,.int .i64 d2,.int .i64 d3,.int .i64 d4] 53)) (g:=w.heap.size + 1 + 1) (cs:=#[.int .i64 0,.int .i64 0,.slice none 0 0]) (T:=26) SZX rfl).up hbv);have hbw0 : Bw w wv:=Bw.trans (show Bw w _ from BWX) hbv;(have x0:=(HB0.out 0 (by simp)).1;have x1:=(HB0.out 1 (by simp)).1;have x2:=(HB0.out 2 (by simp)).1;simp only [List.getElem_cons_zero,List.getElem_cons_succ] at x0 x1 x2);(have y0:=(HB1.out 0 (by simp)).1;have y1:=(HB1.out 1 (by simp)).1;have y2:=(HB1.out 2 (by simp)).1;have y3:=(HB1.out 3 (by simp)).1;simp only [List.getElem_cons_zero,List.getElem_cons_succ] at y0 y1 y2 y3);clear hbv)
  | (go_at_call 78;refine (rcell_any d1 d2 d3 d4 _).mono ?_;rintro ee wu ⟨rfl,hbc⟩;rw [HCV.out];have HC0:=Lib.hid (HB0.out.up hbc);have HC1:=Lib.hid (HB1.out.up hbc);have HC2:=Lib.hid (HB2.out.up hbc);have hbw1 : Bw w wu:=Bw.trans hbw0 hbc;clear hbc x0 x1 x2 y0 y1 y2 y3;(have x0:=(HC0.out 0 (by simp)).1;have x1:=(HC0.out 1 (by simp)).1;have x2:=(HC0.out 2 (by simp)).1;simp only [List.getElem_cons_zero,List.getElem_cons_succ] at x0 x1 x2);(have y0:=(HC1.out 0 (by simp)).1;have y1:=(HC1.out 1 (by simp)).1;have y2:=(HC1.out 2 (by simp)).1;have y3:=(HC1.out 3 (by simp)).1;simp only [List.getElem_cons_zero,List.getElem_cons_succ] at y0 y1 y2 y3))
  | fail)
 go_cut [] (fun w' => wu = w')
 case first =>
  go_wp2_with fail
  go_meet
  case rel => exact rfl
 case rest =>
 obtain rfl:=hcut
 clear HB0 HB1 HB2 hbw0
 obtain ⟨wo,hwo⟩ : ∃ wo : World,wo = wu:=⟨_,rfl⟩
 subst hwo
 have HB0:=HC0
 have HB1:=HC1
 have HB2:=HC2
 have hz2:=HB2.out.lt (by simp)
 have hbwo:=hbw1
 clear HC0 HC1 HC2 hbw1
 go_wp2_with fail
 clear x0 x1 x2 y0 y1 y2 y3
 go_loopw [12] (fun i wr => ∃ (r m5 : Nat) (v : Value),i = .int .i64 r ∧ r ≤ Rn ∧ m5 = r * Cn ∧ Bx wr wo.heap.size [.int .i64 Rn,.int .i64 Cn,v] ∧ wr.ownsRow (wo.heap.size + 1) 53 4 v m5 (flat (tabK Cn (r * Cn) FF)) ∧ Bw wo wr) (fun i _ => Rn - (intOf i).toNat)
 case atStart => exact ⟨0,0,.slice none 0 0,rfl,by omega,by omega,Bx.lit rfl rfl,by rw [Nat.zero_mul];exact World.ownsRow_nil _ _ _ _,BWX⟩
 case round =>
  obtain ⟨wz,hwz⟩ : ∃ wz : World,wz = wr:=⟨_,rfl⟩
  subst hwz
  obtain ⟨r,m5,v,rfl,hr,hm5,hBo,hown,hbwz⟩:=hrel
  obtain ⟨A5,c5,rfl,hc5,hc5m⟩:=own_form hown
  have HO:=Lib.hid hown
  have HBo:=Lib.hid hBo
  have HM5:=Lib.hid hm5
  have HB0z:=Lib.hid (HB0.out.up hbwz)
  have hz0z:=HB0z.out.lt (by simp)
  have hzoz:=hBo.lt (by simp)
  (have s0:=(HB0z.out 0 (by simp)).1;have s1:=(HB0z.out 1 (by simp)).1;have s2:=(HB0z.out 2 (by simp)).1;simp only [List.getElem_cons_zero,List.getElem_cons_succ] at s0 s1 s2)
  (have u0:=(HBo.out 0 (by simp)).1;have u1:=(HBo.out 1 (by simp)).1;have u2:=(HBo.out 2 (by simp)).1;have uf0:=(HBo.out 0 (by simp)).2;have uf1:=(HBo.out 1 (by simp)).2;have uf2:=(HBo.out 2 (by simp)).2;simp only [List.getElem_cons_zero,List.getElem_cons_succ] at u0 u1 u2)
  clear hown hBo hm5
  by_cases hlt : r < Rn
  ·go_wp2_with fail
   clear s0 s1 s2 u0 u1 u2 uf0 uf1 uf2
   go_loopw [13] (fun i wr => ∃ (k m5 : Nat) (v : Value),i = .int .i64 k ∧ k ≤ Cn ∧ m5 = r * Cn + k ∧ Bx wr wo.heap.size [.int .i64 Rn,.int .i64 Cn,v] ∧ wr.ownsRow (wo.heap.size + 1) 53 4 v m5 (flat (tabK Cn (r * Cn + k) FF)) ∧ Bw wo wr) (fun i _ => Cn - (intOf i).toNat)
   case atStart => exact ⟨0,m5,.slice A5 m5 c5,rfl,by omega,HM5.out,HBo.out,HO.out,hbwz⟩
   case round =>
    clear HO HBo HM5 HB0z hc5 hc5m hbwz hz0z hzoz
    obtain ⟨wy,hwy⟩ : ∃ wy : World,wy = wr:=⟨_,rfl⟩
    subst hwy
    obtain ⟨k,m5,v,rfl,hk,hm5,hBo,hown,hbwy⟩:=hrel
    obtain ⟨A5,c5,rfl,hc5,hc5m⟩:=own_form hown
    have HO4:=Lib.hid hown
    have HBo4:=Lib.hid hBo
    have HB0y:=Lib.hid (HB0.out.up hbwy)
    have HB1y:=Lib.hid (HB1.out.up hbwy)
    have HM5:=Lib.hid hm5
    have hzoy:=hBo.lt (by simp)
    have hz0y:=HB1y.out.lt (by simp)
    clear hown hBo
    (have s0:=(HB0y.out 0 (by simp)).1;have s1:=(HB0y.out 1 (by simp)).1;have s2:=(HB0y.out 2 (by simp)).1;simp only [List.getElem_cons_zero,List.getElem_cons_succ] at s0 s1 s2)
    (have t0:=(HB1y.out 0 (by simp)).1;have t1:=(HB1y.out 1 (by simp)).1;have t2:=(HB1y.out 2 (by simp)).1;have t3:=(HB1y.out 3 (by simp)).1;simp only [List.getElem_cons_zero,List.getElem_cons_succ] at t0 t1 t2 t3)
    (have u0:=(HBo4.out 0 (by simp)).1;have u1:=(HBo4.out 1 (by simp)).1;have u2:=(HBo4.out 2 (by simp)).1;have uf0:=(HBo4.out 0 (by simp)).2;have uf1:=(HBo4.out 1 (by simp)).2;have uf2:=(HBo4.out 2 (by simp)).2;simp only [List.getElem_cons_zero,List.getElem_cons_succ] at u0 u1 u2)
    by_cases hlk : k < Cn
    ·have hm5b : m5 < 3000:=by have:=idx_lt hlt hlk;rw [← HL.out] at this;omega
     obtain ⟨⟨x1,x2,x3,x4⟩,hx⟩ : ∃ x,atF Rn Cn cs r k (d1,d2,d3,d4) = x:=⟨_,rfl⟩
     have HX:=Lib.hid hx
     have HTS:=Lib.hid (tab_snoc (r:=r) FF hlk)
     clear hx hm5
     have hw : (¬ (r : Int) = row) ∨ ((r : Int) = row ∧ (k : Int) < fr) ∨ ((r : Int) = row ∧ fr ≤ (k : Int) ∧ tt ≤ (k : Int)) ∨ ((r : Int) = row ∧ fr ≤ (k : Int) ∧ (k : Int) < tt):=by omega
     rcases hw with h|⟨h,h2⟩|⟨h,h2,h3⟩|⟨h,h2,h3⟩
     ·have hq1 : ((r : Int) == row) = false:=by simpa using h
      have HFk:=Lib.hid (show FF r k = (x1,x2,x3,x4) by rw [HFF.out];unfold fillF;rw [if_neg (fun hh => h hh.1)];exact HX.out)
      clear h
      go_wp2_with (first|(go_at_call 77;refine (rat_any Rn Cn A n c cs r k d1 d2 d3 d4 _ hR2 hC2 HL.out (by exact HR.out.up BWX) hn hc).mono ?_;rintro ee wa ⟨rfl,hba⟩;rw [HX.out];dsimp only [c4V];have hbwa : Bw wo wa:=Bw.trans (show Bw wo _ from BWX) hba;have HB0a:=Lib.hid (HB0.out.up hbwa);have HB1a:=Lib.hid (HB1.out.up hbwa);have HBo5:=Lib.hid (HBo4.out.up hba);have HO5:=Lib.hid (HO4.out.bw hba);clear s0 s1 s2 t0 t1 t2 t3 u0 u1 u2 uf0 uf1 uf2;(have s0:=(HB0a.out 0 (by simp)).1;have s1:=(HB0a.out 1 (by simp)).1;have s2:=(HB0a.out 2 (by simp)).1;simp only [List.getElem_cons_zero,List.getElem_cons_succ] at s0 s1 s2);(have t0:=(HB1a.out 0 (by simp)).1;have t1:=(HB1a.out 1 (by simp)).1;have t2:=(HB1a.out 2 (by simp)).1;have t3:=(HB1a.out 3 (by simp)).1;simp only [List.getElem_cons_zero,List.getElem_cons_succ] at t0 t1 t2 t3);(have u0:=(HBo5.out 0 (by simp)).1;have u1:=(HBo5.out 1 (by simp)).1;have u2:=(HBo5.out 2 (by simp)).1;have uf0:=(HBo5.out 0 (by simp)).2;have uf1:=(HBo5.out 1 (by simp)).2;have uf2:=(HBo5.out 2 (by simp)).2;simp only [List.getElem_cons_zero,List.getElem_cons_succ] at u0 u1 u2);have hza:=HBo5.out.lt (by simp);have hzb:=HB1a.out.lt (by simp);have hzc:=HB0a.out.lt (by simp);have hzz:=hza;clear hba)|(at_builtin;refine wpList_append_srcG (by rfl) (.tmp 58) (.tmp 60) 24 rfl (wo.heap.size + 1) 53 j0 (.agg #[.int .i64 0,.int .i64 0,.int .i64 0,.int .i64 0]) 4 32 Tryz.underlying24 hj hj0 hj1 hj2 rfl (by decide) (.slice A5 m5 c5) m5 _ (by rfl) (by exact HO5.out.bw BWX) (some ⟨_,0,none⟩) 1 1 (c4L (x1,x2,x3,x4)) (by rfl) rfl (fun e => by cases e) (fun ad e => by cases e;exact news4 (heap_at SZX) rfl) (c4_one _) (by unfold maxLen;omega) (by omega) SZX ?_;intro v7 w7 hown7 hg7;obtain ⟨A7,c7,rfl,hc7,hc7m⟩:=own_form hown7;have hbw7 : Bw wo w7:=Bw.row (show Bw wo _ from BWX) (by exact HO5.out.bw BWX) hg7 (by omega);have HB7:=Lib.hid ((HBo5.out.up BWX).row (by exact HO5.out.bw BWX) hg7 (by omega));have HO7:=Lib.hid hown7;(have q0:=(HB7.out 0 (by simp)).1;have q1:=(HB7.out 1 (by simp)).1;have q2:=(HB7.out 2 (by simp)).1;have g0:=(HB7.out 0 (by simp)).2;have g1:=(HB7.out 1 (by simp)).2;have g2:=(HB7.out 2 (by simp)).2;simp only [List.getElem_cons_zero,List.getElem_cons_succ] at q0 q1 q2);have hz7:=HB7.out.lt (by simp);clear hown7 hg7)|fail)
      go_roundw
      case rel => exact ⟨k + 1,m5 + 1,.slice A7 (m5 + 1) c7,by go_num,by omega,by rw [HM5.out,Nat.add_assoc],HB7.out.put (i:=2) (by simp) _,by rw [← Nat.add_assoc,HTS.out,HFk.out];exact own_set_below HO7.out (by omega) _,BWX⟩
      case measure => simp [intOf];omega
     ·have hq1 : ((r : Int) == row) = true:=by simpa using h
      have HFk:=Lib.hid (show FF r k = (x1,x2,x3,x4) by rw [HFF.out];unfold fillF;rw [if_neg (by omega)];exact HX.out)
      clear h
      go_wp2_with (first|(go_at_call 77;refine (rat_any Rn Cn A n c cs r k d1 d2 d3 d4 _ hR2 hC2 HL.out (by exact HR.out.up BWX) hn hc).mono ?_;rintro ee wa ⟨rfl,hba⟩;rw [HX.out];dsimp only [c4V];have hbwa : Bw wo wa:=Bw.trans (show Bw wo _ from BWX) hba;have HB0a:=Lib.hid (HB0.out.up hbwa);have HB1a:=Lib.hid (HB1.out.up hbwa);have HBo5:=Lib.hid (HBo4.out.up hba);have HO5:=Lib.hid (HO4.out.bw hba);clear s0 s1 s2 t0 t1 t2 t3 u0 u1 u2 uf0 uf1 uf2;(have s0:=(HB0a.out 0 (by simp)).1;have s1:=(HB0a.out 1 (by simp)).1;have s2:=(HB0a.out 2 (by simp)).1;simp only [List.getElem_cons_zero,List.getElem_cons_succ] at s0 s1 s2);(have t0:=(HB1a.out 0 (by simp)).1;have t1:=(HB1a.out 1 (by simp)).1;have t2:=(HB1a.out 2 (by simp)).1;have t3:=(HB1a.out 3 (by simp)).1;simp only [List.getElem_cons_zero,List.getElem_cons_succ] at t0 t1 t2 t3);(have u0:=(HBo5.out 0 (by simp)).1;have u1:=(HBo5.out 1 (by simp)).1;have u2:=(HBo5.out 2 (by simp)).1;have uf0:=(HBo5.out 0 (by simp)).2;have uf1:=(HBo5.out 1 (by simp)).2;have uf2:=(HBo5.out 2 (by simp)).2;simp only [List.getElem_cons_zero,List.getElem_cons_succ] at u0 u1 u2);have hza:=HBo5.out.lt (by simp);have hzb:=HB1a.out.lt (by simp);have hzc:=HB0a.out.lt (by simp);have hzz:=hza;clear hba)|(at_builtin;refine wpList_append_srcG (by rfl) (.tmp 58) (.tmp 60) 24 rfl (wo.heap.size + 1) 53 j0 (.agg #[.int .i64 0,.int .i64 0,.int .i64 0,.int .i64 0]) 4 32 Tryz.underlying24 hj hj0 hj1 hj2 rfl (by decide) (.slice A5 m5 c5) m5 _ (by rfl) (by exact HO5.out.bw BWX) (some ⟨_,0,none⟩) 1 1 (c4L (x1,x2,x3,x4)) (by rfl) rfl (fun e => by cases e) (fun ad e => by cases e;exact news4 (heap_at SZX) rfl) (c4_one _) (by unfold maxLen;omega) (by omega) SZX ?_;intro v7 w7 hown7 hg7;obtain ⟨A7,c7,rfl,hc7,hc7m⟩:=own_form hown7;have hbw7 : Bw wo w7:=Bw.row (show Bw wo _ from BWX) (by exact HO5.out.bw BWX) hg7 (by omega);have HB7:=Lib.hid ((HBo5.out.up BWX).row (by exact HO5.out.bw BWX) hg7 (by omega));have HO7:=Lib.hid hown7;(have q0:=(HB7.out 0 (by simp)).1;have q1:=(HB7.out 1 (by simp)).1;have q2:=(HB7.out 2 (by simp)).1;have g0:=(HB7.out 0 (by simp)).2;have g1:=(HB7.out 1 (by simp)).2;have g2:=(HB7.out 2 (by simp)).2;simp only [List.getElem_cons_zero,List.getElem_cons_succ] at q0 q1 q2);have hz7:=HB7.out.lt (by simp);clear hown7 hg7)|fail)
      go_roundw
      case rel => exact ⟨k + 1,m5 + 1,.slice A7 (m5 + 1) c7,by go_num,by omega,by rw [HM5.out,Nat.add_assoc],HB7.out.put (i:=2) (by simp) _,by rw [← Nat.add_assoc,HTS.out,HFk.out];exact own_set_below HO7.out (by omega) _,BWX⟩
      case measure => simp [intOf];omega
     ·have hq1 : ((r : Int) == row) = true:=by simpa using h
      have HFk:=Lib.hid (show FF r k = (x1,x2,x3,x4) by rw [HFF.out];unfold fillF;rw [if_neg (by omega)];exact HX.out)
      clear h
      go_wp2_with (first|(go_at_call 77;refine (rat_any Rn Cn A n c cs r k d1 d2 d3 d4 _ hR2 hC2 HL.out (by exact HR.out.up BWX) hn hc).mono ?_;rintro ee wa ⟨rfl,hba⟩;rw [HX.out];dsimp only [c4V];have hbwa : Bw wo wa:=Bw.trans (show Bw wo _ from BWX) hba;have HB0a:=Lib.hid (HB0.out.up hbwa);have HB1a:=Lib.hid (HB1.out.up hbwa);have HBo5:=Lib.hid (HBo4.out.up hba);have HO5:=Lib.hid (HO4.out.bw hba);clear s0 s1 s2 t0 t1 t2 t3 u0 u1 u2 uf0 uf1 uf2;(have s0:=(HB0a.out 0 (by simp)).1;have s1:=(HB0a.out 1 (by simp)).1;have s2:=(HB0a.out 2 (by simp)).1;simp only [List.getElem_cons_zero,List.getElem_cons_succ] at s0 s1 s2);(have t0:=(HB1a.out 0 (by simp)).1;have t1:=(HB1a.out 1 (by simp)).1;have t2:=(HB1a.out 2 (by simp)).1;have t3:=(HB1a.out 3 (by simp)).1;simp only [List.getElem_cons_zero,List.getElem_cons_succ] at t0 t1 t2 t3);(have u0:=(HBo5.out 0 (by simp)).1;have u1:=(HBo5.out 1 (by simp)).1;have u2:=(HBo5.out 2 (by simp)).1;have uf0:=(HBo5.out 0 (by simp)).2;have uf1:=(HBo5.out 1 (by simp)).2;have uf2:=(HBo5.out 2 (by simp)).2;simp only [List.getElem_cons_zero,List.getElem_cons_succ] at u0 u1 u2);have hza:=HBo5.out.lt (by simp);have hzb:=HB1a.out.lt (by simp);have hzc:=HB0a.out.lt (by simp);have hzz:=hza;clear hba)|(at_builtin;refine wpList_append_srcG (by rfl) (.tmp 58) (.tmp 60) 24 rfl (wo.heap.size + 1) 53 j0 (.agg #[.int .i64 0,.int .i64 0,.int .i64 0,.int .i64 0]) 4 32 Tryz.underlying24 hj hj0 hj1 hj2 rfl (by decide) (.slice A5 m5 c5) m5 _ (by rfl) (by exact HO5.out.bw BWX) (some ⟨_,0,none⟩) 1 1 (c4L (x1,x2,x3,x4)) (by rfl) rfl (fun e => by cases e) (fun ad e => by cases e;exact news4 (heap_at SZX) rfl) (c4_one _) (by unfold maxLen;omega) (by omega) SZX ?_;intro v7 w7 hown7 hg7;obtain ⟨A7,c7,rfl,hc7,hc7m⟩:=own_form hown7;have hbw7 : Bw wo w7:=Bw.row (show Bw wo _ from BWX) (by exact HO5.out.bw BWX) hg7 (by omega);have HB7:=Lib.hid ((HBo5.out.up BWX).row (by exact HO5.out.bw BWX) hg7 (by omega));have HO7:=Lib.hid hown7;(have q0:=(HB7.out 0 (by simp)).1;have q1:=(HB7.out 1 (by simp)).1;have q2:=(HB7.out 2 (by simp)).1;have g0:=(HB7.out 0 (by simp)).2;have g1:=(HB7.out 1 (by simp)).2;have g2:=(HB7.out 2 (by simp)).2;simp only [List.getElem_cons_zero,List.getElem_cons_succ] at q0 q1 q2);have hz7:=HB7.out.lt (by simp);clear hown7 hg7)|fail)
      go_roundw
      case rel => exact ⟨k + 1,m5 + 1,.slice A7 (m5 + 1) c7,by go_num,by omega,by rw [HM5.out,Nat.add_assoc],HB7.out.put (i:=2) (by simp) _,by rw [← Nat.add_assoc,HTS.out,HFk.out];exact own_set_below HO7.out (by omega) _,BWX⟩
      case measure => simp [intOf];omega
     ·have hq1 : ((r : Int) == row) = true:=by simpa using h
      have HFk:=Lib.hid (show FF r k = (d1,d2,d3,d4) by rw [HFF.out];unfold fillF;rw [if_pos ⟨h,h2,h3⟩])
      clear h
      go_wp2_with (first|(go_at_call 77;refine (rat_any Rn Cn A n c cs r k d1 d2 d3 d4 _ hR2 hC2 HL.out (by exact HR.out.up BWX) hn hc).mono ?_;rintro ee wa ⟨rfl,hba⟩;rw [HX.out];dsimp only [c4V];have hbwa : Bw wo wa:=Bw.trans (show Bw wo _ from BWX) hba;have HB0a:=Lib.hid (HB0.out.up hbwa);have HB1a:=Lib.hid (HB1.out.up hbwa);have HBo5:=Lib.hid (HBo4.out.up hba);have HO5:=Lib.hid (HO4.out.bw hba);clear s0 s1 s2 t0 t1 t2 t3 u0 u1 u2 uf0 uf1 uf2;(have s0:=(HB0a.out 0 (by simp)).1;have s1:=(HB0a.out 1 (by simp)).1;have s2:=(HB0a.out 2 (by simp)).1;simp only [List.getElem_cons_zero,List.getElem_cons_succ] at s0 s1 s2);(have t0:=(HB1a.out 0 (by simp)).1;have t1:=(HB1a.out 1 (by simp)).1;have t2:=(HB1a.out 2 (by simp)).1;have t3:=(HB1a.out 3 (by simp)).1;simp only [List.getElem_cons_zero,List.getElem_cons_succ] at t0 t1 t2 t3);(have u0:=(HBo5.out 0 (by simp)).1;have u1:=(HBo5.out 1 (by simp)).1;have u2:=(HBo5.out 2 (by simp)).1;have uf0:=(HBo5.out 0 (by simp)).2;have uf1:=(HBo5.out 1 (by simp)).2;have uf2:=(HBo5.out 2 (by simp)).2;simp only [List.getElem_cons_zero,List.getElem_cons_succ] at u0 u1 u2);have hza:=HBo5.out.lt (by simp);have hzb:=HB1a.out.lt (by simp);have hzc:=HB0a.out.lt (by simp);have hzz:=hza;clear hba)|(at_builtin;refine wpList_append_srcG (by rfl) (.tmp 58) (.tmp 60) 24 rfl (wo.heap.size + 1) 53 j0 (.agg #[.int .i64 0,.int .i64 0,.int .i64 0,.int .i64 0]) 4 32 Tryz.underlying24 hj hj0 hj1 hj2 rfl (by decide) (.slice A5 m5 c5) m5 _ (by rfl) (by exact HO5.out.bw BWX) (some ⟨_,0,none⟩) 1 1 (c4L (d1,d2,d3,d4)) (by rfl) rfl (fun e => by cases e) (fun ad e => by cases e;exact news4 (heap_at SZX) rfl) (c4_one _) (by unfold maxLen;omega) (by omega) SZX ?_;intro v7 w7 hown7 hg7;obtain ⟨A7,c7,rfl,hc7,hc7m⟩:=own_form hown7;have hbw7 : Bw wo w7:=Bw.row (show Bw wo _ from BWX) (by exact HO5.out.bw BWX) hg7 (by omega);have HB7:=Lib.hid ((HBo5.out.up BWX).row (by exact HO5.out.bw BWX) hg7 (by omega));have HO7:=Lib.hid hown7;(have q0:=(HB7.out 0 (by simp)).1;have q1:=(HB7.out 1 (by simp)).1;have q2:=(HB7.out 2 (by simp)).1;have g0:=(HB7.out 0 (by simp)).2;have g1:=(HB7.out 1 (by simp)).2;have g2:=(HB7.out 2 (by simp)).2;simp only [List.getElem_cons_zero,List.getElem_cons_succ] at q0 q1 q2);have hz7:=HB7.out.lt (by simp);clear hown7 hg7)|fail)
      go_roundw
      case rel => exact ⟨k + 1,m5 + 1,.slice A7 (m5 + 1) c7,by go_num,by omega,by rw [HM5.out,Nat.add_assoc],HB7.out.put (i:=2) (by simp) _,by rw [← Nat.add_assoc,HTS.out,HFk.out];exact own_set_below HO7.out (by omega) _,BWX⟩
      case measure => simp [intOf];omega
    ·obtain rfl : k = Cn:=by omega
     clear t0 t1 t2 t3
     go_wp2_with fail
     go_roundw
     case rel => exact ⟨r + 1,m5,.slice A5 m5 c5,by go_num,by omega,by rw [HM5.out,Nat.succ_mul],HBo4.out,by rw [Nat.succ_mul];exact HO4.out,hbwy⟩
     case measure => simp [intOf];omega
  ·obtain rfl : r = Rn:=by omega
   have HB2z:=Lib.hid (HB2.out.up hbwz)
   (have x0:=(HB2z.out 0 (by simp)).1;have x1:=(HB2z.out 1 (by simp)).1;have x2:=(HB2z.out 2 (by simp)).1;have z0:=(HB2z.out 0 (by simp)).2;have z1:=(HB2z.out 1 (by simp)).2;have z2:=(HB2z.out 2 (by simp)).2;simp only [List.getElem_cons_zero,List.getElem_cons_succ] at x0 x1 x2)
   have hz2z:=HB2z.out.lt (by simp)
   go_wp2_with fail
   refine bodyPost_ret (by simp [results,Tryz.results105,go_sem,x0,x1,x2,z0,z1,z2];rfl) rfl ?_
   refine ⟨A5,m5,c5,rfl,?_,hc5,hc5m,fun ad e => by have:=own_new HO.out ad e;have:=hbwo.size;omega,BWX⟩
   exact Rg.of_own (own_set_below (own_set_below (own_set_below HO.out (by omega) _) (by omega) _) (by omega) _)
end Go.Proofs.YtkflooljdopldaaGreat
