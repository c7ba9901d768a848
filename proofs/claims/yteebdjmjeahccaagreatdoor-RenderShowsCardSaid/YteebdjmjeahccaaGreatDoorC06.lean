/- Parts of the proof, one after the other. -/
import Derived.Test.YteebdjmjeahccaaGreatDoorC04
import Derived.Test.YteebdjmjeahccaaGreatDoorC05
import Derived.Deep.RegionHeld3
import Derived.Deep.AppendLies
import Derived.Deep.MidRow
set_option linter.unusedSimpArgs false
set_option linter.unusedVariables false
set_option maxRecDepth 100000
set_option maxHeartbeats 16000000
namespace Go.Proofs.YteebdjmjeahccaaGreatDoor
open Go.RowKit
theorem infoI : (Tryz.prog.info? 3).map (fun i => (i.zero,i.size,i.bytes)) = some (some (.int .i64 0),1,8):=by kernel_rfl
theorem applA_app : ∀ (P Q : List Int) (a : Int × Int × Int),(∀ p ∈ P,p ≠ 38 ∧ p ≠ 48) → applA (P ++ Q) a = applA Q (applA P a)
 | [],Q,a,_ => rfl
 | p :: t,Q,a,h => by
  have hp:=h p (by simp)
  rw [List.cons_append,applA_one _ _ _ hp.1 hp.2,applA_one _ _ _ hp.1 hp.2,applA_app t Q _ (fun x hx => h x (by simp [hx]))]
theorem bits7 (f : Int) (h0 : 0 ≤ f) (h1 : f ≤ 7) : (0 ≤ bits .or .i64 f 1 ∧ bits .or .i64 f 1 ≤ 7) ∧ (0 ≤ bits .or .i64 f 2 ∧ bits .or .i64 f 2 ≤ 7) ∧ (0 ≤ bits .or .i64 f 4 ∧ bits .or .i64 f 4 ≤ 7) ∧
  (0 ≤ bits .andNot .i64 f 1 ∧ bits .andNot .i64 f 1 ≤ 7) ∧ (0 ≤ bits .andNot .i64 f 2 ∧ bits .andNot .i64 f 2 ≤ 7) ∧ (0 ≤ bits .andNot .i64 f 4 ∧ bits .andNot .i64 f 4 ≤ 7):=by
 have key : ∀ y : Fin 8,(0 ≤ bits .or .i64 (y.val : Int) 1 ∧ bits .or .i64 (y.val : Int) 1 ≤ 7) ∧ (0 ≤ bits .or .i64 (y.val : Int) 2 ∧ bits .or .i64 (y.val : Int) 2 ≤ 7) ∧ (0 ≤ bits .or .i64 (y.val : Int) 4 ∧ bits .or .i64 (y.val : Int) 4 ≤ 7) ∧
  (0 ≤ bits .andNot .i64 (y.val : Int) 1 ∧ bits .andNot .i64 (y.val : Int) 1 ≤ 7) ∧ (0 ≤ bits .andNot .i64 (y.val : Int) 2 ∧ bits .andNot .i64 (y.val : Int) 2 ≤ 7) ∧ (0 ≤ bits .andNot .i64 (y.val : Int) 4 ∧ bits .andNot .i64 (y.val : Int) 4 ≤ 7):=by decide +kernel
 have:=key ⟨f.toNat,by omega⟩
 simpa [show ((f.toNat : Nat) : Int) = f from by omega] using this
def AV (s : Int × Int × Int) : Prop:=(0 ≤ s.1 ∧ s.1 ≤ 7) ∧ (0 ≤ s.2.1 ∧ s.2.1 ≤ 16) ∧ (0 ≤ s.2.2 ∧ s.2.2 ≤ 16)
theorem AV.ite {c : Prop} [Decidable c] {a b : Int × Int × Int} (h1 : c → AV a) (h2 : ¬ c → AV b) : AV (if c then a else b):=by
 split
 ·exact h1 (by assumption)
 ·exact h2 (by assumption)
theorem single_valid (f g b p : Int) (h : avB f g b = true) : avB (single f g b p).1 (single f g b p).2.1 (single f g b p).2.2 = true:=by
 have hv : 0 ≤ f ∧ f ≤ 7 ∧ 0 ≤ g ∧ g ≤ 16 ∧ 0 ≤ b ∧ b ≤ 16:=of_decide_eq_true h
 have h7:=bits7 f hv.1 hv.2.1
 obtain ⟨k1,k2,k3,k4,k5,k6⟩:=h7
 have hA : AV (single f g b p):=by
  unfold single
  repeat' (refine AV.ite (fun hc => ?_) (fun hc => ?_))
  all_goals (refine ⟨?_,?_,?_⟩ <;> dsimp only)
  all_goals first|assumption|omega|fail
 generalize single f g b p = s at hA
 unfold AV at hA
 unfold avB
 apply decide_eq_true
 omega
theorem AtC.row {w w' : World} {G : Nat} {a : Int × Int × Int} (h : AtC w G a) {v : Value} {base : Nat} {e : TypeId} {s m : Nat} {ys : List Value} (ho : w.ownsRow base e s v m ys) (hg : w.grownBy w' v.ownBlock) (hb : G < base) : AtC w' G a:=by
 cases hob : v.ownBlock with
 | none => rw [hob] at hg;exact h.bw (Bw.of_grown hg)
 | some r =>
  rw [hob] at hg
  have hr:=(ho.lt r hob).1
  obtain ⟨⟨h1,h2,h3⟩,h4,h5,h6⟩:=h
  have hl:=lt_of_cell h1
  dsimp only at hl
  refine ⟨⟨?_,?_,?_⟩,?_,?_,?_⟩
  ·rw [grown_cell hg (p:=⟨G,0,none⟩) hl (by simp;omega)];exact h1
  ·rw [grown_cell hg (p:=⟨G,1,none⟩) hl (by simp;omega)];exact h2
  ·rw [grown_cell hg (p:=⟨G,2,none⟩) hl (by simp;omega)];exact h3
  ·rw [grown_frozen hg (p:=⟨G,0,none⟩) hl (by simp;omega)];exact h4
  ·rw [grown_frozen hg (p:=⟨G,1,none⟩) hl (by simp;omega)];exact h5
  ·rw [grown_frozen hg (p:=⟨G,2,none⟩) hl (by simp;omega)];exact h6
theorem own_set_below {w : World} {base : Nat} {e : TypeId} {s : Nat} {v : Value} {n : Nat} {xs : List Value} (h : w.ownsRow base e s v n xs) {G j : Nat} (hG : G < base) (u : Value) : (w.setCell ⟨G,j,none⟩ u).ownsRow base e s v n xs :=
 ownsRow_setCell_other h (fun e2 => by have:=(h.lt G e2).1;omega) u
/-- Block g's first cells are vs, and may be written. -/
def Bx (w : World) (g : Nat) (vs : List Value) : Prop:=∀ i (h : i < vs.length),w.cell? ⟨g,i,none⟩ = some vs[i] ∧ w.frozen? ⟨g,i,none⟩ = false
theorem Bx.up {w w' : World} {g : Nat} {vs : List Value} (h : Bx w g vs) (hb : Bw w w') : Bx w' g vs:=fun i hi =>
 ⟨cell_bw hb (h i hi).1,(Below.frozen hb (p:=⟨g,i,none⟩) (lt_of_cell (h i hi).1)).trans (h i hi).2⟩
theorem Bx.lit {w : World} {g : Nat} {cs : Array Value} {T : TypeId} {vs : List Value} (hg : g = w.heap.size) (hc : cs = vs.toArray) : Bx (w.alloc (.cells cs T)) g vs:=fun i hi => by
 subst hg;subst hc
 refine ⟨cell_alloc_here rfl (by simp [hi]),?_⟩
 simp [go_sem]
theorem Bx.put {w : World} {g i : Nat} {vs : List Value} (h : Bx w g vs) (hi : i < vs.length) (u : Value) : Bx (w.setCell ⟨g,i,none⟩ u) g (vs.set i u):=fun j hj => by
 have hj' : j < vs.length:=by simpa using hj
 refine ⟨?_,by rw [frz_set];exact (h j hj').2⟩
 by_cases e : i = j
 ·subst e
  rw [World.cell?_setCell_same _ _ _ (h i hi).1]
  simp
 ·rw [cell_ne (h j hj').1 e]
  simp [e]
theorem Bx.away {w : World} {g h j : Nat} {vs : List Value} (hB : Bx w g vs) (hne : g ≠ h) (v : Value) : Bx (w.setCell ⟨h,j,none⟩ v) g vs:=fun i hi =>
 ⟨cell_set_some hne (hB i hi).1,by rw [frz_set];exact (hB i hi).2⟩
theorem Bx.far {w w' : World} {g : Nat} {row : Option Nat} {vs : List Value} (h : Bx w g vs) (hg : w.grownBy w' row) (hne : some g ≠ row) : Bx w' g vs:=fun i hi => by
 have hl:=lt_of_cell (h i hi).1
 dsimp only at hl
 exact ⟨(World.cell?_of_block (a:=⟨g,i,none⟩) (hg.block g hl hne)).trans (h i hi).1,(World.frozen?_of_block (a:=⟨g,i,none⟩) (hg.block g hl hne)).trans (h i hi).2⟩
theorem Bx.row {w w' : World} {g : Nat} {vs : List Value} (h : Bx w g vs) {v : Value} {base : Nat} {e : TypeId} {s m : Nat} {ys : List Value} (ho : w.ownsRow base e s v m ys) (hg : w.grownBy w' v.ownBlock) (hb : g < base) : Bx w' g vs :=
 h.far hg (fun e => by have:=ho.lt g e.symm;omega)
theorem Bx.lt {w : World} {g : Nat} {vs : List Value} (h : Bx w g vs) (h0 : 0 < vs.length) : g < w.heap.size:=by
 have:=lt_of_cell (h 0 h0).1
 simpa using this
/-- A list of cells, read out of an owned row. -/
theorem Rg.of_own {w : World} {base : Nat} {e : TypeId} {A : Option Addr} {n c m : Nat} {cs : List C4} (h : w.ownsRow base e 4 (.slice A n c) m (flat cs)) : Rg w A n cs:=by
 have hl:=h.1
 rw [flat_len] at hl
 rcases h.2 with ⟨e1,h0⟩|⟨g,cap,cur,e1,_,hh,hnc,hm,_,htake⟩
 ·cases e1
  exact ⟨by omega,fun h1 => absurd h1 (by omega)⟩
 ·cases e1
  refine ⟨by omega,fun h0 => ⟨g,0,rfl,fun i hi => ?_⟩⟩
  have key : ∀ j,(hj : j < 4) → w.cell? ⟨g,0 + i * 4 + j,none⟩ = (c4L cs[i])[j]?:=fun j hj => by
   rw [← flat_get cs i j hi hj]
   have hlt : i * 4 + j < (flat cs).length:=by rw [flat_len];omega
   have:=h.cells (g:=g) rfl (i * 4 + j) _ (List.getElem?_eq_getElem hlt)
   rw [List.getElem?_eq_getElem hlt,Nat.zero_add]
   rw [Addr.add_mid,Nat.zero_add] at this
   exact this
  exact ⟨key 0 (by omega),key 1 (by omega),key 2 (by omega),key 3 (by omega)⟩
theorem Rg.none_ {w : World} {A : Option Addr} {n : Nat} {cs : List C4} (h : Rg w A n cs) : A = none → n = 0:=by
 intro e
 subst e
 rcases Nat.eq_zero_or_pos n with h0|h0
 ·exact h0
 ·obtain ⟨g,o,e,-⟩:=h.2 h0;cases e
theorem infoC : (Tryz.prog.info? 70).map (fun i => (i.zero,i.size,i.bytes)) = some (some (.agg #[.int .i64 0,.int .i64 0,.int .i64 0,.int .i64 0]),4,32):=by kernel_rfl
theorem c4_one (c : C4) : ∀ u ∈ c4L c,u.oneCell' = true:=fun u hu => flat_one [c] u (by unfold flat;simpa using hu)
/-- The same, in new memory. -/
def GrN (w : World) (R C : Int) (cs : List C4) (e : Ending) (w' : World) : Prop :=
 ∃ A n c,e = .returned (.agg #[.int .i64 R,.int .i64 C,.slice A n c]) ∧ Rg w' A n cs ∧ n ≤ c ∧ c ≤ 9223372036854775807 ∧ (∀ ad,A = some ad → w.heap.size ≤ ad.block) ∧ Bw w w'
theorem Ce.away {w : World} {g o h j : Nat} {c : C4} (hc : Ce w g o c) (hne : g ≠ h) (v : Value) : Ce (w.setCell ⟨h,j,none⟩ v) g o c:=⟨cell_set_some hne hc.1,cell_set_some hne hc.2.1,cell_set_some hne hc.2.2.1,cell_set_some hne hc.2.2.2⟩
theorem Rg.away {w : World} {A : Option Addr} {n h : Nat} {cs : List C4} (hr : Rg w A n cs) (hne : ∀ ad,A = some ad → ad.block ≠ h) (j : Nat) (v : Value) : Rg (w.setCell ⟨h,j,none⟩ v) A n cs:=by
 refine ⟨hr.1,fun h0 => ?_⟩
 obtain ⟨g,o,e,hx⟩:=hr.2 h0
 exact ⟨g,o,e,fun i hi => (hx i hi).away (hne _ e) _⟩
theorem own_mono {w : World} {base base' : Nat} {e : TypeId} {s n : Nat} {v : Value} {xs : List Value} (h : w.ownsRow base e s v n xs) (hb : base' ≤ base) : w.ownsRow base' e s v n xs:=by
 refine ⟨h.1,?_⟩
 rcases h.2 with h2|⟨g,cap,cur,e1,h3,rest⟩
 ·exact .inl h2
 ·exact .inr ⟨g,cap,cur,e1,Nat.le_trans hb h3,rest⟩
theorem own_new {w : World} {base : Nat} {e : TypeId} {s n m c : Nat} {A : Option Addr} {xs : List Value} (h : w.ownsRow base e s (.slice A n c) m xs) : ∀ ad,A = some ad → base ≤ ad.block:=by
 intro ad e
 subst e
 exact (h.lt ad.block rfl).1
/-- The same, and the cells are the call's own row. -/
def GrO (w : World) (R C : Int) (cs : List C4) (e : Ending) (w' : World) : Prop :=
 ∃ A n c,e = .returned (.agg #[.int .i64 R,.int .i64 C,.slice A n c]) ∧ w'.ownsRow w.heap.size 70 4 (.slice A n c) n (flat cs) ∧ n ≤ c ∧ c ≤ 9223372036854775807 ∧ Bw w w'
theorem GrO.toN {w : World} {R C : Int} {cs : List C4} {e : Ending} {w' : World} (h : GrO w R C cs e w') : GrN w R C cs e w':=by
 obtain ⟨A,n,c,h1,h2,h3,h4,h5⟩:=h
 exact ⟨A,n,c,h1,Rg.of_own h2,h3,h4,own_new h2,h5⟩
def blk : C4:=(32,0,0,0)
theorem rep_snoc (k : Nat) (c : C4) : flat (List.replicate (k + 1) c) = flat (List.replicate k c) ++ c4L c:=by
 rw [List.replicate_succ',flat_app]
 unfold flat
 simp
theorem news4 {w : World} {B : Nat} {cs : Array Value} {t : TypeId} {fr : Nat × Nat} {vs : List Value} (hb : w.heap[B]? = some (.cells cs t fr)) (hc : cs.toList = vs) : ∀ j u,vs[j]? = some u → w.cell? ((⟨B,0,none⟩ : Addr).add j) = some u:=by
 subst hc;exact World.news_of_block hb
theorem rblanks_own (R C : Int) (w : World) (h1 : 1 ≤ R) (h2 : R ≤ 30) (h3 : 1 ≤ C) (h4 : C ≤ 100) : Calls Tryz.prog 97 #[.int .i64 R,.int .i64 C] w (GrO w R C (List.replicate (R * C).toNat blk)):=by
 have hm:=mul_bd h1 h2 h3 h4
 obtain ⟨N,hN⟩ : ∃ N : Nat,(R * C).toNat = N:=⟨_,rfl⟩
 have hN1 : R * C ≤ N:=by omega
 have hN2 : (N : Int) ≤ R * C:=by omega
 have HN:=Lib.hid hN
 obtain ⟨j0,hj,hj0,hj1,hj2⟩:=info_parts infoC
 clear hN
 go_enter Tryz.func97,Tryz.ntmps97
 go_wp2_with fail
 go_loopw [6] (fun i wr => ∃ (k : Nat) (v : Value),i = .int .i64 k ∧ k ≤ N ∧ Bx wr w.heap.size [.int .i64 0,.int .i64 0,.slice none 0 0] ∧ Bx wr (w.heap.size + 1) [.int .i64 R,.int .i64 C,v] ∧ wr.ownsRow (w.heap.size + 2) 70 4 v k (flat (List.replicate k blk)) ∧ Bw w wr) (fun i _ => N - (intOf i).toNat)
 case atStart =>
  exact ⟨0,.slice none 0 0,rfl,by omega,(Bx.lit rfl rfl).up BWX,Bx.lit SZX rfl,World.ownsRow_nil _ _ _ _,BWX⟩
 case round =>
  obtain ⟨k,v,rfl,hk,hB0,hB1,hown,hbw⟩:=hrel
  obtain ⟨A,c,rfl,hc,hcm⟩:=own_form hown
  have hz:=hB1.lt (by simp)
  have HO:=Lib.hid hown
  have HB0:=Lib.hid hB0
  have HB1:=Lib.hid hB1
  (have x0:=(HB0.out 0 (by simp)).1;have x1:=(HB0.out 1 (by simp)).1;have x2:=(HB0.out 2 (by simp)).1;have a0:=(HB0.out 0 (by simp)).2;have a1:=(HB0.out 1 (by simp)).2;have a2:=(HB0.out 2 (by simp)).2;simp only [List.getElem_cons_zero,List.getElem_cons_succ] at x0 x1 x2)
  (have y0:=(HB1.out 0 (by simp)).1;have y1:=(HB1.out 1 (by simp)).1;have y2:=(HB1.out 2 (by simp)).1;have b0:=(HB1.out 0 (by simp)).2;have b1:=(HB1.out 1 (by simp)).2;have b2:=(HB1.out 2 (by simp)).2;simp only [List.getElem_cons_zero,List.getElem_cons_succ] at y0 y1 y2)
  clear hown hB0 hB1
  by_cases hlt : k < N
  ·go_wp2_with (first|(at_builtin;refine wpList_append_srcG (by rfl) (.tmp 18) (.tmp 20) 23 rfl (w.heap.size + 2) 70 j0 (.agg #[.int .i64 0,.int .i64 0,.int .i64 0,.int .i64 0]) 4 32 Tryz.underlying23 hj hj0 hj1 hj2 rfl (by decide) (.slice A k c) k _ (by rfl) (HO.out.alloc _) (some ⟨_,0,none⟩) 1 1 (c4L blk) (by rfl) rfl (fun e => by cases e) (fun ad e => by cases e;exact news4 (heap_alloc_new _ _) rfl) (c4_one _) (by unfold maxLen;omega) (by omega) SZX ?_;intro v1 w1 hown1 hg1;obtain ⟨A1,c1,rfl,hc1,hcm1⟩:=own_form hown1;have hC0:=((HB0.out.up (w':=wr.alloc _) BWX).row (HO.out.alloc _) hg1 (by omega));have hC1:=((HB1.out.up (w':=wr.alloc _) BWX).row (HO.out.alloc _) hg1 (by omega));have hbw1 : Bw w w1:=Bw.row (Bw.alloc hbw _) (HO.out.alloc _) hg1 (by omega);have HO1:=Lib.hid hown1;have HC0:=Lib.hid hC0;have HC1:=Lib.hid hC1;(have s0:=(HC0.out 0 (by simp)).1;have s1:=(HC0.out 1 (by simp)).1;have s2:=(HC0.out 2 (by simp)).1;have p0:=(HC0.out 0 (by simp)).2;have p1:=(HC0.out 1 (by simp)).2;have p2:=(HC0.out 2 (by simp)).2;simp only [List.getElem_cons_zero,List.getElem_cons_succ] at s0 s1 s2);(have t0:=(HC1.out 0 (by simp)).1;have t1:=(HC1.out 1 (by simp)).1;have t2:=(HC1.out 2 (by simp)).1;have q0:=(HC1.out 0 (by simp)).2;have q1:=(HC1.out 1 (by simp)).2;have q2:=(HC1.out 2 (by simp)).2;simp only [List.getElem_cons_zero,List.getElem_cons_succ] at t0 t1 t2);clear hown1 hg1 hC0 hC1)|fail)
   go_roundw
   case rel =>
    refine ⟨k + 1,.slice A1 (k + 1) c1,by go_num,by omega,HC0.out.away (by omega) _,HC1.out.put (i:=2) (by simp) _,?_,BWX⟩
    rw [rep_snoc]
    exact own_set_below HO1.out (by omega) _
   case measure => simp [intOf];omega
  ·obtain rfl : k = N:=by omega
   go_wp2_with fail
   refine bodyPost_ret (by simp [results,Tryz.results97,go_sem,x0,x1,x2,a0,a1,a2];rfl) rfl ?_
   rw [HN.out]
   exact ⟨A,k,c,rfl,own_mono (own_set_below (own_set_below (own_set_below HO.out (by omega) _) (by omega) _) (by omega) _) (by omega),hc,hcm,BWX⟩
/-- A size, brought within its bounds. -/
def clamp (x hi : Int) : Int:=if x < 1 then 1 else if hi < x then hi else x
theorem clamp_bd (x hi : Int) (h : 1 ≤ hi) : 1 ≤ clamp x hi ∧ clamp x hi ≤ hi:=by unfold clamp;split <;> (try split) <;> omega
theorem clamp_if (x hi : Int) (h : 1 ≤ hi) : (if hi < (if 1 < x then x else 1) then hi else (if 1 < x then x else 1)) = clamp x hi:=by
 unfold clamp
 by_cases h1 : 1 < x
 ·rw [if_pos h1,if_neg (show ¬ x < 1 by omega)]
 ·rw [if_neg h1,if_neg (show ¬ hi < 1 by omega)]
  by_cases h2 : x < 1
  ·rw [if_pos h2]
  ·rw [if_neg h2];split <;> omega
theorem rnew16_own (rows cols : Int) (w : World) : Calls Tryz.prog 71 #[.int .i64 rows,.int .i64 cols] w (GrO w (clamp rows 30) (clamp cols 100) (List.replicate (clamp rows 30 * clamp cols 100).toNat blk)):=by
 have h1:=clamp_bd rows 30 (by omega)
 have h2:=clamp_bd cols 100 (by omega)
 have HR:=Lib.hid (clamp_if rows 30 (by omega))
 have HC:=Lib.hid (clamp_if cols 100 (by omega))
 go_enter Tryz.func71,Tryz.ntmps71
 go_wp2_with (first|(go_at_call 97;rw [HR.out,HC.out];refine (rblanks_own _ _ _ h1.1 h1.2 h2.1 h2.2).mono ?_;rintro ee w1 ⟨A,n,c,rfl,hown,hn,hc,hb⟩;have HO:=Lib.hid hown;have HB0:=Lib.hid ((Bx.lit (w:=w) rfl rfl).up hb);have hbw : Bw w w1:=Bw.trans (show Bw w (w.alloc _) from BWX) hb;have hz:=HB0.out.lt (by simp);(have x0:=(HB0.out 0 (by simp)).1;have x1:=(HB0.out 1 (by simp)).1;have x2:=(HB0.out 2 (by simp)).1;have z0:=(HB0.out 0 (by simp)).2;have z1:=(HB0.out 1 (by simp)).2;have z2:=(HB0.out 2 (by simp)).2;simp only [List.getElem_cons_zero,List.getElem_cons_succ] at x0 x1 x2);clear hown hb)|fail)
 all_goals
  refine bodyPost_ret (by simp [results,Tryz.results71,go_sem,x0,x1,x2,z0,z1,z2];rfl) rfl ?_
  have hO:=own_mono HO.out (show w.heap.size + 1 ≤ (w.alloc _).heap.size from Nat.le_of_eq (heapsz w _).symm)
  exact ⟨A,n,c,rfl,own_mono (own_set_below (own_set_below (own_set_below hO (by omega) _) (by omega) _) (by omega) _) (by omega),hn,hc,BWX⟩
theorem rnew16_any (rows cols : Int) (w : World) : Calls Tryz.prog 71 #[.int .i64 rows,.int .i64 cols] w (GrN w (clamp rows 30) (clamp cols 100) (List.replicate (clamp rows 30 * clamp cols 100).toNat blk)):=(rnew16_own rows cols w).mono fun _ _ h => h.toN
/-- Block g is a row of cells, known whole. -/
def Wb (w : World) (g : Nat) (cs : List C4) : Prop:=w.heap[g]? = some (.cells (flat cs).toArray 70 (0,0))
theorem Wb.lt {w : World} {g : Nat} {cs : List C4} (h : Wb w g cs) : g < w.heap.size:=lt_of_block h
theorem Wb.up {w w' : World} {g : Nat} {cs : List C4} (h : Wb w g cs) (hb : Bw w w') : Wb w' g cs:=(hb.block g h.lt).trans h
theorem Wb.away {w : World} {g h j : Nat} {cs : List C4} (hW : Wb w g cs) (hne : g ≠ h) (v : Value) : Wb (w.setCell ⟨h,j,none⟩ v) g cs:=(Below.heap_setCell _ _ _ _ hne).trans hW
theorem block_set {w : World} {g i : Nat} {l : List Value} {t : TypeId} (h : w.heap[g]? = some (.cells l.toArray t (0,0))) (u : Value) : (w.setCell ⟨g,i,none⟩ u).heap[g]? = some (.cells (l.set i u).toArray t (0,0)):=by
 have hlt:=lt_of_block h
 have h' : w.heap[g] = .cells l.toArray t (0,0):=by simpa [Array.getElem?_eq_getElem hlt] using h
 show (w.heap.modify g _)[g]? = _
 rw [Array.getElem?_eq_getElem (by simpa using hlt),Array.getElem_modify_self,h']
 simp
theorem flat_set : ∀ (cs : List C4) (k : Nat) (c : C4),k < cs.length → ((((flat cs).set (k * 4) (.int .i64 c.1)).set (k * 4 + 1) (.int .i64 c.2.1)).set (k * 4 + 2) (.int .i64 c.2.2.1)).set (k * 4 + 3) (.int .i64 c.2.2.2) = flat (cs.set k c)
 | [],k,c,h => by simp at h
 | x :: xs,0,c,h => by rw [flat_cons];rfl
 | x :: xs,k + 1,c,h => by
  rw [flat_cons,List.set_cons_succ,flat_cons,← flat_set xs k c (by simpa using h)]
  have e : ∀ j,(k + 1) * 4 + j = 4 + (k * 4 + j):=fun j => by omega
  have e0 : (k + 1) * 4 = 4 + k * 4:=by omega
  rw [e 1,e 2,e 3,e0]
  obtain ⟨x1,x2,x3,x4⟩:=x
  simp [c4L,Nat.add_comm 4]
theorem Wb.cells {w : World} {g : Nat} {cs : List C4} (h : Wb w g cs) (k : Nat) (hk : k < cs.length) : Ce w g (k * 4) cs[k]:=by
 have key : ∀ j,(hj : j < 4) → w.cell? ⟨g,k * 4 + j,none⟩ = (c4L cs[k])[j]?:=fun j hj => by
  rw [← flat_get cs k j hk hj]
  simp [World.cell?,show w.heap[g]? = _ from h]
 exact ⟨key 0 (by omega),key 1 (by omega),key 2 (by omega),key 3 (by omega)⟩
theorem Wb.free {w : World} {g : Nat} {cs : List C4} (h : Wb w g cs) (i : Nat) : w.frozen? ⟨g,i,none⟩ = false:=by
 simp [World.frozen?,show w.heap[g]? = _ from h]
theorem Wb.store {w : World} {g : Nat} {cs : List C4} (h : Wb w g cs) (k : Nat) (hk : k < cs.length) (c : C4) :
  Wb ((((w.setCell ⟨g,k * 4,none⟩ (.int .i64 c.1)).setCell ⟨g,k * 4 + 1,none⟩ (.int .i64 c.2.1)).setCell ⟨g,k * 4 + 2,none⟩ (.int .i64 c.2.2.1)).setCell ⟨g,k * 4 + 3,none⟩ (.int .i64 c.2.2.2)) g (cs.set k c):=by
 unfold Wb
 rw [← flat_set cs k c hk]
 exact block_set (block_set (block_set (block_set h _) _) _) _
def zc : C4:=(0,0,0,0)
theorem Wb.of_own {w : World} {base g n : Nat} {cs : List C4} (h : w.ownsRow base 70 4 (.slice (some ⟨g,0,none⟩) n n) n (flat cs)) : Wb w g cs:=by
 have hl:=h.1
 rcases h.2 with ⟨e1,h0⟩|⟨g',cap,cur,e1,_,hh,hnc,hm,hs,htake⟩
 ·cases e1
 ·cases e1
  rw [List.take_of_length_le (by simp [hs])] at htake
  unfold Wb
  rw [hh,← htake]
theorem Wb.own {w : World} {base g n : Nat} {cs : List C4} (h : Wb w g cs) (hn : cs.length = n) (hb : base ≤ g) (hm : n ≤ maxLen) : w.ownsRow base 70 4 (.slice (some ⟨g,0,none⟩) n n) n (flat cs):=by
 subst hn
 exact ⟨flat_len cs,.inr ⟨g,_,_,rfl,hb,h,Nat.le_refl _,hm,by simp [flat_len],by simp [← flat_len]⟩⟩
end Go.Proofs.YteebdjmjeahccaaGreatDoor
