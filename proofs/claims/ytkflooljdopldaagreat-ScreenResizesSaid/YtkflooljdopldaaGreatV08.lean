/- Parts of the proof, one after the other. -/
import Derived.Test.YtkflooljdopldaaGreatV07
set_option linter.unusedSimpArgs false
set_option linter.unusedVariables false
/- Screens: grids stay valid; plain laws. -/
namespace Go.Proofs.YtkflooljdopldaaGreat
open Go.RowKit

theorem gridB_tab {Rn Cn : Nat} {F : Nat → Nat → C4} (h1 : 1 ≤ Rn) (h2 : Rn ≤ 30) (h3 : 1 ≤ Cn) (h4 : Cn ≤ 100) (hF : ∀ r k,r < Rn → k < Cn → cellB (F r k) = true) : gridB Rn Cn (tab Rn Cn F) = true:=by
 unfold gridB
 rw [Bool.and_eq_true]
 refine ⟨decide_eq_true ⟨by omega,by omega,by omega,by omega,?_⟩,?_⟩
 ·rw [show (tab Rn Cn F).length = Rn * Cn from tabK_len _ _ _];simp
 ·rw [List.all_eq_true]
  intro x hx
  unfold tab tabK at hx
  obtain ⟨i,hi,rfl⟩:=List.mem_map.1 hx
  have hi2 : i < Rn * Cn:=List.mem_range.1 hi
  exact hF _ _ (Nat.div_lt_of_lt_mul (by rw [Nat.mul_comm];exact hi2)) (Nat.mod_lt _ (by omega))
theorem atF_ok {Rn Cn : Nat} {cs : List C4} {r k : Int} {d : C4} (hc : cs.all cellB = true) (hd : cellB d = true) : cellB (atF Rn Cn cs r k d) = true:=by
 unfold atF
 split
 ·rw [List.getD_eq_getElem?_getD]
  cases h : cs[r.toNat * Cn + k.toNat]? with
  | none => simpa using hd
  | some x => simpa using List.all_eq_true.1 hc x (List.mem_of_getElem? h)
 ·exact hd
theorem gridB_all {R C : Int} {cs : List C4} (h : gridB R C cs = true) : cs.all cellB = true:=by
 unfold gridB at h
 rw [Bool.and_eq_true] at h
 exact h.2
theorem fillF_ok {Rn Cn : Nat} {cs : List C4} {row fr tt : Int} {d : C4} (hc : cs.all cellB = true) (hd : cellB d = true) (r k : Nat) : cellB (fillF Rn Cn cs row fr tt d r k) = true:=by
 unfold fillF;split
 ·exact hd
 ·exact atF_ok hc hd
theorem scrollF_ok {Rn Cn : Nat} {cs : List C4} {tp bt nn : Int} {d : C4} (hc : cs.all cellB = true) (hd : cellB d = true) (r k : Nat) : cellB (scrollF Rn Cn cs tp bt nn d r k) = true:=by
 unfold scrollF;split
 ·split
  ·exact atF_ok hc hd
  ·exact hd
 ·exact atF_ok hc hd
theorem shiftF_ok {Rn Cn : Nat} {cs : List C4} {row col nn : Int} {d : C4} (hc : cs.all cellB = true) (hd : cellB d = true) (r k : Nat) : cellB (shiftF Rn Cn cs row col nn d r k) = true:=by
 unfold shiftF;split
 ·split
  ·exact atF_ok hc hd
  ·exact hd
 ·exact atF_ok hc hd
theorem blankC_ok {f g b : Int} (h : avB f g b = true) : cellB (32,0,0,b) = true:=by
 have hv : 0 ≤ f ∧ f ≤ 7 ∧ 0 ≤ g ∧ g ≤ 16 ∧ 0 ≤ b ∧ b ≤ 16:=of_decide_eq_true h
 unfold cellB runeB avB
 dsimp only
 rw [decide_eq_true (by omega),decide_eq_true (by omega)]
 rfl
theorem gridB_rep {Rn Cn : Nat} (h1 : 1 ≤ Rn) (h2 : Rn ≤ 30) (h3 : 1 ≤ Cn) (h4 : Cn ≤ 100) : gridB Rn Cn (List.replicate (Rn * Cn) blk) = true:=by
 unfold gridB
 rw [Bool.and_eq_true]
 refine ⟨decide_eq_true ⟨by omega,by omega,by omega,by omega,by simp⟩,?_⟩
 rw [List.all_eq_true]
 intro x hx
 rw [List.eq_of_mem_replicate hx]
 decide
/-- The screen with another grid of the same size. -/
def Scr.gr (s : Scr) (A : Option Addr) (n c : Nat) : Scr:={ s with A:=A,n:=n,c:=c }
/-- A new grid that a call has made: valid. -/
def Gn (w : World) (Rn Cn : Nat) (e : Ending) (w' : World) : Prop :=
 ∃ A n c,e = .returned (.agg #[.int .i64 Rn,.int .i64 Cn,.slice A n c]) ∧ Gok w' Rn Cn A n c ∧ (∀ ad,A = some ad → w.heap.size ≤ ad.block) ∧ Bw w w'
theorem GrN.gn {w : World} {Rn Cn : Nat} {F : Nat → Nat → C4} {e : Ending} {w' : World} (h : GrN w Rn Cn (tab Rn Cn F) e w') (h1 : 1 ≤ Rn) (h2 : Rn ≤ 30) (h3 : 1 ≤ Cn) (h4 : Cn ≤ 100) (hF : ∀ r k,cellB (F r k) = true) : Gn w Rn Cn e w':=by
 obtain ⟨A,n,c,k1,k2,k3,k4,k5,k6⟩:=h
 exact ⟨A,n,c,k1,⟨h1,h2,h3,h4,by rw [← k2.1];exact tabK_len _ _ _,k3,k4,_,k2,gridB_tab h1 h2 h3 h4 (fun r k _ _ => hF r k)⟩,k5,k6⟩
theorem Gok.away {w : World} {Rn Cn : Nat} {A : Option Addr} {n c h : Nat} (hg : Gok w Rn Cn A n c) (hne : ∀ ad,A = some ad → ad.block ≠ h) (j : Nat) (v : Value) : Gok (w.setCell ⟨h,j,none⟩ v) Rn Cn A n c:=by
 obtain ⟨h1,h2,h3,h4,h5,h6,h7,cs,h8,h9⟩:=hg
 exact ⟨h1,h2,h3,h4,h5,h6,h7,cs,h8.away hne j v,h9⟩
theorem Gok.lt {w : World} {Rn Cn : Nat} {A : Option Addr} {n c : Nat} (hg : Gok w Rn Cn A n c) : ∀ ad,A = some ad → ad.block < w.heap.size:=by
 intro ad e
 obtain ⟨h1,h2,h3,h4,h5,h6,h7,cs,h8,h9⟩:=hg
 have h0 : 0 < n:=by rw [h5];exact Nat.mul_pos (by omega) (by omega)
 obtain ⟨g,o,e2,hx⟩:=h8.2 h0
 rw [e] at e2
 cases e2
 have:=lt_of_cell (hx 0 (by rw [h8.1];exact h0)).1
 simpa using this
theorem Gok.far {w w' : World} {Rn Cn : Nat} {A : Option Addr} {n c : Nat} {row : Option Nat} (hg : Gok w Rn Cn A n c) (hgr : w.grownBy w' row) (hne : ∀ ad,A = some ad → some ad.block ≠ row) : Gok w' Rn Cn A n c:=by
 have hlt:=hg.lt
 obtain ⟨h1,h2,h3,h4,h5,h6,h7,cs,h8,h9⟩:=hg
 refine ⟨h1,h2,h3,h4,h5,h6,h7,cs,⟨h8.1,fun h0 => ?_⟩,h9⟩
 obtain ⟨g,o,e,hx⟩:=h8.2 h0
 have hb:=hgr.block g (hlt _ e) (hne _ e)
 have key : ∀ i u,w.cell? ⟨g,i,none⟩ = some u → w'.cell? ⟨g,i,none⟩ = some u:=fun i u hu => (World.cell?_of_block (a:=⟨g,i,none⟩) hb).trans hu
 exact ⟨g,o,e,fun i hi => ⟨key _ _ (hx i hi).1,key _ _ (hx i hi).2.1,key _ _ (hx i hi).2.2.1,key _ _ (hx i hi).2.2.2⟩⟩

/-- Fill, Scroll and Shift of a valid grid, as validity sees them. -/
theorem rfill_ok (Rn Cn : Nat) (A : Option Addr) (n c : Nat) (row fr tt d1 d2 d3 d4 : Int) (w : World) (hg : Gok w Rn Cn A n c) (hd : cellB (d1,d2,d3,d4) = true) :
  Calls Tryz.prog 105 #[.agg #[.int .i64 Rn,.int .i64 Cn,.slice A n c],.int .i64 row,.int .i64 fr,.int .i64 tt,.agg #[.int .i64 d1,.int .i64 d2,.int .i64 d3,.int .i64 d4]] w (Gn w Rn Cn):=by
 obtain ⟨h1,h2,h3,h4,h5,h6,h7,cs,h8,h9⟩:=hg
 exact (rfill_go Rn Cn A n c cs row fr tt d1 d2 d3 d4 w h1 h2 h3 h4 h5 h8 h6 h7 h9 hd).mono fun _ _ h => h.gn h1 h2 h3 h4 (fillF_ok (gridB_all h9) hd)
theorem rscroll_ok (Rn Cn : Nat) (A : Option Addr) (n c : Nat) (tp bt num d1 d2 d3 d4 : Int) (w : World) (hg : Gok w Rn Cn A n c) (hd : cellB (d1,d2,d3,d4) = true) (ht : 0 ≤ tp ∧ tp ≤ bt ∧ bt < (Rn : Int)) :
  Calls Tryz.prog 43 #[.agg #[.int .i64 Rn,.int .i64 Cn,.slice A n c],.int .i64 tp,.int .i64 bt,.int .i64 num,.agg #[.int .i64 d1,.int .i64 d2,.int .i64 d3,.int .i64 d4]] w (Gn w Rn Cn):=by
 obtain ⟨h1,h2,h3,h4,h5,h6,h7,cs,h8,h9⟩:=hg
 exact (rscroll_go Rn Cn A n c cs tp bt num d1 d2 d3 d4 w h1 h2 h3 h4 h5 h8 h6 h7 h9 hd ht.1 ht.2.1 ht.2.2).mono fun _ _ h => h.gn h1 h2 h3 h4 (scrollF_ok (gridB_all h9) hd)
theorem rshift_ok (Rn Cn : Nat) (A : Option Addr) (n c : Nat) (row col num d1 d2 d3 d4 : Int) (w : World) (hg : Gok w Rn Cn A n c) (hd : cellB (d1,d2,d3,d4) = true) (ht : 0 ≤ row ∧ row < (Rn : Int) ∧ 0 ≤ col ∧ col < (Cn : Int)) :
  Calls Tryz.prog 111 #[.agg #[.int .i64 Rn,.int .i64 Cn,.slice A n c],.int .i64 row,.int .i64 col,.int .i64 num,.agg #[.int .i64 d1,.int .i64 d2,.int .i64 d3,.int .i64 d4]] w (Gn w Rn Cn):=by
 obtain ⟨h1,h2,h3,h4,h5,h6,h7,cs,h8,h9⟩:=hg
 exact (rshift_go Rn Cn A n c cs row col num d1 d2 d3 d4 w h1 h2 h3 h4 h5 h8 h6 h7 h9 hd ht.1 ht.2.1 ht.2.2.1 ht.2.2.2).mono fun _ _ h => h.gn h1 h2 h3 h4 (shiftF_ok (gridB_all h9) hd)

theorem infoL : (Tryz.prog.info? 24).map (fun i => (i.zero,i.size,i.bytes)) = some (some (.slice none 0 0),1,24):=by kernel_rfl
/-- The cells' address is the same, or in new memory. -/
def An (w : World) (A A' : Option Addr) : Prop:=A' = A ∨ ∀ ad,A' = some ad → w.heap.size ≤ ad.block
theorem An.ne {w : World} {A A' : Option Addr} {B : Nat} (h : An w A A') (hA : ∀ ad,A = some ad → ad.block < B) (hB : B < w.heap.size) : ∀ ad,A' = some ad → ad.block ≠ B:=by
 intro ad e
 rcases h with h|h
 ·have:=hA ad (by rw [← h];exact e);omega
 ·have:=h ad e;omega
theorem An.more {w w0 : World} {A A' : Option Addr} (h : An w A A') (hw : w0.heap.size ≤ w.heap.size) : An w0 A A':=by
 rcases h with h|h
 ·exact .inl h
 ·exact .inr (fun ad e => Nat.le_trans hw (h ad e))
theorem An.trans {w w1 : World} {A A1 A2 : Option Addr} (h : An w A A1) (k : An w1 A1 A2) (hw : w.heap.size ≤ w1.heap.size) : An w A A2:=by
 rcases k with k|k
 ·rw [k];exact h
 ·exact .inr (fun ad e => Nat.le_trans hw (k ad e))
/-- A list of lines of m elements, whatever they are. -/
def Ls (w : World) (L : Option Addr) (m : Nat) : Prop:=∃ vs : List Value,Rd (fun v => v) w L m vs ∧ ∀ v ∈ vs,v.oneCell' = true
theorem Ls.up {w w' : World} {L : Option Addr} {m : Nat} (h : Ls w L m) (hb : Bw w w') : Ls w' L m:=by
 obtain ⟨vs,h1,h2⟩:=h
 exact ⟨vs,h1.up hb,h2⟩
theorem Ls.far {w w' : World} {L : Option Addr} {m : Nat} {row : Option Nat} (h : Ls w L m) (hg : w.grownBy w' row) (hne : ∀ ad,L = some ad → some ad.block ≠ row) : Ls w' L m:=by
 obtain ⟨vs,h1,h2⟩:=h
 refine ⟨vs,⟨h1.1,fun h0 => ?_⟩,h2⟩
 obtain ⟨g,o,e,hx⟩:=h1.2 h0
 have hlt : g < w.heap.size:=by have:=lt_of_cell (hx 0 (by rw [h1.1];exact h0));simpa using this
 refine ⟨g,o,e,fun i hi => (World.cell?_of_block (a:=⟨g,o + i,none⟩) (hg.block g hlt (by have:=hne _ e;exact this))).trans (hx i hi)⟩
theorem Ls.of_own {w : World} {base : Nat} {e : TypeId} {A : Option Addr} {n c m : Nat} {vs : List Value} (h : w.ownsRow base e 1 (.slice A n c) m vs) (h1 : ∀ v ∈ vs,v.oneCell' = true) : Ls w A n :=
 ⟨vs,own_rd (f:=fun v => v) (by rw [List.map_id'];exact h),h1⟩
theorem Ls.nil_ (w : World) (A : Option Addr) : Ls w A 0:=⟨[],Rd.nil_ _ _,by simp⟩
/-- The call returns a valid screen of the size of s, and lines. -/
def ScL (w : World) (s : Scr) (e : Ending) (w' : World) : Prop :=
 ∃ (s' : Scr) (L : Option Addr) (m cap : Nat),s'.Rn = s.Rn ∧ s'.Cn = s.Cn ∧ e = .returned (.tuple #[.agg s'.vals.toArray,.slice L m cap]) ∧ s'.Ok w' ∧ An w s.A s'.A ∧ Ls w' L m ∧ (∀ ad,L = some ad → w.heap.size ≤ ad.block) ∧ m ≤ 31 ∧ m ≤ cap ∧ cap ≤ 9223372036854775807 ∧ Bw w w'

set_option maxRecDepth 100000 in
set_option maxHeartbeats 4000000 in
theorem rsup_ok (s : Scr) (nn : Int) (w : World) (hs : s.Ok w) (hn0 : -1000000 ≤ nn) (hn1 : nn ≤ 1000000) : Calls Tryz.prog 112 #[.agg s.vals.toArray,.int .i64 nn] w (ScL w s):=by
 have HOk:=Lib.hid hs
 have HG:=Lib.hid hs.1
 have HBl:=Lib.hid (blankC_ok hs.2.2.1)
 obtain ⟨⟨h1,h2,h3,h4,h5,h6,h7,cs,hcs,-⟩,-,-,⟨t0,t1,t2⟩,-,-⟩:=hs
 have HCS:=Lib.hid hcs
 have hn3 : s.n ≤ 3000:=by rw [h5];have:=Nat.mul_le_mul h2 h4;omega
 obtain ⟨j0,hj,hj0,hj1,hj2⟩:=info_parts infoL
 clear hcs h5
 go_enter Tryz.func112,Tryz.ntmps112
 go_upto_region 1 with (fail)
 generalize hw1 : (w.alloc (.cells s.vals.toArray 34)).alloc _ = w1
 obtain ⟨hb0,hb1,hbw,hz⟩:=sb2 hw1
 have HB0:=Lib.hid hb0
 have HB1:=Lib.hid hb1
 have hz1 : w.heap.size + 1 < w1.heap.size:=by omega
 clear hw1 hb0 hb1 hz
 (have x9:=HB0.out.cell 9 (v:=.int .i64 s.top) rfl;have x10:=HB0.out.cell 10 (v:=.int .i64 s.bot) rfl)
 go_wp2_with fail
 have HM:=Lib.hid (show Sb (w1.alloc (.cells #[.int .i64 s.top,.int .i64 s.bot] 32)) w1.heap.size #[.int .i64 s.top,.int .i64 s.bot] 32 from heap_at rfl)
 clear x9 x10
 go_loopw [6,8] (fun v i wr => ∃ (k : Nat) (vs : List Value),i = .int .i64 k ∧ (k : Int) ≤ s.bot + 1 ∧ wr.ownsRow (w1.heap.size + 1) 24 1 v k vs ∧ (∀ v ∈ vs,v.oneCell' = true) ∧ Bw (w1.alloc (.cells #[.int .i64 s.top,.int .i64 s.bot] 32)) wr) (fun _ i _ => (s.bot + 1 - intOf i).toNat)
 case atStart => exact ⟨0,[],rfl,by omega,World.ownsRow_nil _ _ _ _,by simp,BWX⟩
 case round =>
  obtain ⟨k,vs,rfl,hk,hown,hone,hbwr⟩:=hrel
  obtain ⟨A6,c6,rfl,hc6,hc6m⟩:=own_form hown
  have HO:=Lib.hid hown
  have HOne:=Lib.hid hone
  have hbw1 : Bw w1 wr:=Bw.trans (show Bw w1 (w1.alloc _) from BWX) hbwr
  have hbw0 : Bw w wr:=Bw.trans hbw hbw1
  have HB0r:=Lib.hid (HB0.out.up hbw1)
  have HB1r:=Lib.hid (HB1.out.up hbw1)
  have HMr:=Lib.hid (HM.out.up hbwr)
  have hzr : w1.heap.size < wr.heap.size:=HMr.out.lt
  have y0:=HMr.out.cell 0 (v:=.int .i64 s.top) rfl
  have y1:=HMr.out.cell 1 (v:=.int .i64 s.bot) rfl
  (have x0:=HB0r.out.cell 0 (v:=.int .i64 (s.Rn : Int)) rfl;have x1:=HB0r.out.cell 1 (v:=.int .i64 (s.Cn : Int)) rfl;have x2:=HB0r.out.cell 2 (v:=.slice s.A s.n s.c) rfl)
  clear hown hone
  obtain ⟨t,ht⟩ : ∃ t,t = decide ((k : Int) < nn ∧ (k : Int) ≤ s.bot ∧ s.top = 0):=⟨_,rfl⟩
  have HT:=Lib.hid ht
  clear ht
  go_upto_region 4 with (fail)
  go_cut [24] (fun v w' => v = .bool t ∧ wr = w')
  case first =>
   have hways : nn ≤ (k : Int) ∨ ((k : Int) < nn ∧ s.bot < (k : Int)) ∨ ((k : Int) < nn ∧ (k : Int) ≤ s.bot ∧ ¬ s.top = 0) ∨ ((k : Int) < nn ∧ (k : Int) ≤ s.bot ∧ s.top = 0):=by omega
   rcases hways with c1|⟨c1,c2⟩|⟨c1,c2,c3⟩|⟨c1,c2,c3⟩
   ·go_wp2_with fail
    go_meet
    case rel => exact ⟨congrArg Value.bool (by rw [HT.out];symm;exact decide_eq_false (by omega)),rfl⟩
   ·go_wp2_with fail
    go_meet
    case rel => exact ⟨congrArg Value.bool (by rw [HT.out];symm;exact decide_eq_false (by omega)),rfl⟩
   ·have c4 : (s.top == 0) = false:=by simpa using c3
    go_wp2_with fail
    go_meet
    case rel => exact ⟨congrArg Value.bool (by rw [HT.out];symm;exact decide_eq_false (by omega)),rfl⟩
   ·have c4 : (s.top == 0) = true:=by simpa using c3
    have HTT:=Lib.hid (show t = true by rw [HT.out];exact decide_eq_true ⟨c1,c2,c3⟩)
    clear c3
    go_wp2_with fail
    go_meet
    case rel => exact ⟨congrArg Value.bool HTT.out.symm,rfl⟩
  case rest =>
  obtain ⟨rfl,rfl⟩:=hcut
  cases t
  ·have hk31 : k ≤ 30:=by omega
   have hpos:=Lib.hid hk31
   go_upto_region 7 with (fail)
   have hY:=(show ∀ w',Bw wr w' → (w'.cell? ⟨w.heap.size,6,none⟩ = some (.int .i64 s.f) ∧ w'.cell? ⟨w.heap.size,7,none⟩ = some (.int .i64 s.g) ∧ w'.cell? ⟨w.heap.size,8,none⟩ = some (.int .i64 s.b)) ∧ w'.cell? ⟨w1.heap.size,0,none⟩ = some (.int .i64 s.top) ∧ w'.cell? ⟨w1.heap.size,1,none⟩ = some (.int .i64 s.bot) from fun w' hb => ⟨⟨(HB0r.out.up hb).cell 6 rfl,(HB0r.out.up hb).cell 7 rfl,(HB0r.out.up hb).cell 8 rfl⟩,(HMr.out.up hb).cell 0 rfl,(HMr.out.up hb).cell 1 rfl⟩)
   have hne1 : w1.heap.size ≠ w.heap.size:=by omega
   have hYs:=(show ∀ w' (hb : Bw wr w') (a b c : Value),(((w'.setCell ⟨w.heap.size,0,none⟩ a).setCell ⟨w.heap.size,1,none⟩ b).setCell ⟨w.heap.size,2,none⟩ c).cell? ⟨w.heap.size,6,none⟩ = some (.int .i64 s.f) ∧ (((w'.setCell ⟨w.heap.size,0,none⟩ a).setCell ⟨w.heap.size,1,none⟩ b).setCell ⟨w.heap.size,2,none⟩ c).cell? ⟨w.heap.size,7,none⟩ = some (.int .i64 s.g) ∧ (((w'.setCell ⟨w.heap.size,0,none⟩ a).setCell ⟨w.heap.size,1,none⟩ b).setCell ⟨w.heap.size,2,none⟩ c).cell? ⟨w.heap.size,8,none⟩ = some (.int .i64 s.b) ∧ (((w'.setCell ⟨w.heap.size,0,none⟩ a).setCell ⟨w.heap.size,1,none⟩ b).setCell ⟨w.heap.size,2,none⟩ c).cell? ⟨w1.heap.size,0,none⟩ = some (.int .i64 s.top) ∧ (((w'.setCell ⟨w.heap.size,0,none⟩ a).setCell ⟨w.heap.size,1,none⟩ b).setCell ⟨w.heap.size,2,none⟩ c).cell? ⟨w1.heap.size,1,none⟩ = some (.int .i64 s.bot) from fun w' hb a b c => by
    obtain ⟨⟨k6,k7,k8⟩,m0,m1⟩:=hY w' hb
    exact ⟨cell_ne (cell_ne (cell_ne k6 (by omega)) (by omega)) (by omega),cell_ne (cell_ne (cell_ne k7 (by omega)) (by omega)) (by omega),cell_ne (cell_ne (cell_ne k8 (by omega)) (by omega)) (by omega),cell_set_some hne1 (cell_set_some hne1 (cell_set_some hne1 m0)),cell_set_some hne1 (cell_set_some hne1 (cell_set_some hne1 m1))⟩)
   have HY:=Lib.hid hY
   have HYs:=Lib.hid hYs
   clear hY hYs y0 y1
   have hGr:=Lib.hid (HG.out.up hbw0)
   (have z0:=HB0r.out.free 0;have z1:=HB0r.out.free 1;have z2:=HB0r.out.free 2)
   have hz0r:=HB0r.out.lt
   go_cut [] (fun w' => ∃ A' n' c',Sb w' w.heap.size (s.gr A' n' c').vals.toArray 34 ∧ (∃ old,Sb w' (w.heap.size + 1) old 34 ∧ old.size = 19) ∧ Gok w' s.Rn s.Cn A' n' c' ∧ (∀ ad,A' = some ad → wr.heap.size ≤ ad.block) ∧ w'.ownsRow (w1.heap.size + 1) 24 1 (.slice A6 k c6) k vs ∧ Bw w w')
   case first =>
    refine wp_region_held_drew (S:=(fun w' => (w'.cell? ⟨w.heap.size,6,none⟩ = some (.int .i64 s.f) ∧ w'.cell? ⟨w.heap.size,7,none⟩ = some (.int .i64 s.g) ∧ w'.cell? ⟨w.heap.size,8,none⟩ = some (.int .i64 s.b)) ∧ w'.cell? ⟨w1.heap.size,0,none⟩ = some (.int .i64 s.top) ∧ w'.cell? ⟨w1.heap.size,1,none⟩ = some (.int .i64 s.bot))) (by kernel_rfl) ?_ (fun hHeld => ?_)
    ·(try dsimp only);(first|(refine HY.out _ ?_;(repeat (first|with_reducible (first|assumption|exact Bw.refl _|refine Bw.alloc ?_ _|refine Bw.more ?_ _ _|refine Bw.drew ?_|refine Bw.drewN ?_ _)|((with_reducible refine Bw.set2 ?_ ?_ _);(focus exact SZX))|with_reducible refine Bw.trans ?_ (by assumption)));done)|(exact ⟨⟨(HYs.out _ BWX _ _ _).1,(HYs.out _ BWX _ _ _).2.1,(HYs.out _ BWX _ _ _).2.2.1⟩,(HYs.out _ BWX _ _ _).2.2.2.1,(HYs.out _ BWX _ _ _).2.2.2.2⟩))
    refine tkQ 0 ?_
    refine tkQ 2 ?_
    refine tkQ 3 ?_
    (try simp only [Act.put,zP4,zP5,zP6])
    refine tkQ 4 ?_
    refine tkQ 5 ?_
    refine tkQ 6 ?_
    (try simp only [Act.put,zP4,zP5,zP6])
    refine tkQ 7 ?_
    refine tkQ 8 ?_
    (try simp only [Act.put,zP4,zP5,zP6])
    refine wpAnyH_ready (rs:=[1,9]) (by kernel_rfl) (by simp) ?_
    refine AllReadyH.cons rfl (fun K hK => ?_) ?_
    ·go_simp
     refine hK.out _ _ ?_ (fun hHeld => ?_)
     ·(try dsimp only);(first|(refine HY.out _ ?_;(repeat (first|with_reducible (first|assumption|exact Bw.refl _|refine Bw.alloc ?_ _|refine Bw.more ?_ _ _|refine Bw.drew ?_|refine Bw.drewN ?_ _)|((with_reducible refine Bw.set2 ?_ ?_ _);(focus exact SZX))|with_reducible refine Bw.trans ?_ (by assumption)));done)|(exact ⟨⟨(HYs.out _ BWX _ _ _).1,(HYs.out _ BWX _ _ _).2.1,(HYs.out _ BWX _ _ _).2.2.1⟩,(HYs.out _ BWX _ _ _).2.2.2.1,(HYs.out _ BWX _ _ _).2.2.2.2⟩))
     clear hK K
     (try simp only [Act.put,zP4,zP5,zP6])
     refine wpAnyH_ready (rs:=[9]) (by kernel_rfl) (by simp) ?_
     refine AllReadyH.cons rfl (fun K hK => ?_) ?_
     ·go_simp
      refine (rblank_any s.f s.g s.b _).mono ?_;rintro ee wb ⟨rfl,hbb⟩;have hbwb : Bw wr wb:=Bw.trans (show Bw wr _ from BWX) hbb;have HB0b:=Lib.hid (HB0r.out.up hbwb);have hzb:=HB0b.out.lt;(have u0:=HB0b.out.cell 0 (v:=.int .i64 (s.Rn : Int)) rfl;have u1:=HB0b.out.cell 1 (v:=.int .i64 (s.Cn : Int)) rfl;have u2:=HB0b.out.cell 2 (v:=.slice s.A s.n s.c) rfl);clear hbb;go_wp2_with fail
      refine hK.out _ _ ?_ (fun hHeld => ?_)
      ·(try dsimp only);(first|(refine HY.out _ ?_;(repeat (first|with_reducible (first|assumption|exact Bw.refl _|refine Bw.alloc ?_ _|refine Bw.more ?_ _ _|refine Bw.drew ?_|refine Bw.drewN ?_ _)|((with_reducible refine Bw.set2 ?_ ?_ _);(focus exact SZX))|with_reducible refine Bw.trans ?_ (by assumption)));done)|(exact ⟨⟨(HYs.out _ BWX _ _ _).1,(HYs.out _ BWX _ _ _).2.1,(HYs.out _ BWX _ _ _).2.2.1⟩,(HYs.out _ BWX _ _ _).2.2.2.1,(HYs.out _ BWX _ _ _).2.2.2.2⟩))
      clear hK K
      (try simp only [Act.put,zP4,zP5,zP6])
      refine wpAnyH_ready (rs:=[10]) (by kernel_rfl) (by simp) ?_
      refine AllReadyH.cons rfl (fun K hK => ?_) ?_
      ·go_simp
       refine (rscroll_ok s.Rn s.Cn s.A s.n s.c s.top s.bot nn 32 0 0 s.b _ (by exact hGr.out.up BWX) HBl.out ⟨t0,t1,t2⟩).mono ?_;rintro ee wd ⟨A',n',c',rfl,hGd,hnd,hbd⟩;have hbwd : Bw wr wd:=Bw.trans (show Bw wr _ from BWX) hbd;have hzwb : wr.heap.size ≤ wb.heap.size:=hbwb.size;have HGd:=Lib.hid hGd;have HNd:=Lib.hid hnd;have HB0d:=Lib.hid (HB0r.out.up hbwd);have HB1d:=Lib.hid (HB1r.out.up hbwd);have HOd:=Lib.hid (HO.out.bw hbwd);have hzd:=HB0d.out.lt;(have q0:=HB0d.out.cell 0 (v:=.int .i64 (s.Rn : Int)) rfl;have q1:=HB0d.out.cell 1 (v:=.int .i64 (s.Cn : Int)) rfl;have q2:=HB0d.out.cell 2 (v:=.slice s.A s.n s.c) rfl);(have p0:=HB0d.out.free 0;have p1:=HB0d.out.free 1;have p2:=HB0d.out.free 2);clear hGd hnd hbd;go_wp2_with fail
       refine hK.out _ _ ?_ (fun hHeld => ?_)
       ·(try dsimp only);(first|(refine HY.out _ ?_;(repeat (first|with_reducible (first|assumption|exact Bw.refl _|refine Bw.alloc ?_ _|refine Bw.more ?_ _ _|refine Bw.drew ?_|refine Bw.drewN ?_ _)|((with_reducible refine Bw.set2 ?_ ?_ _);(focus exact SZX))|with_reducible refine Bw.trans ?_ (by assumption)));done)|(exact ⟨⟨(HYs.out _ BWX _ _ _).1,(HYs.out _ BWX _ _ _).2.1,(HYs.out _ BWX _ _ _).2.2.1⟩,(HYs.out _ BWX _ _ _).2.2.2.1,(HYs.out _ BWX _ _ _).2.2.2.2⟩))
       clear hK K
       (try simp only [Act.put,zP4,zP5,zP6])
       refine wpAnyH_ready (rs:=[11]) (by kernel_rfl) (by simp) ?_
       refine AllReadyH.cons rfl (fun K hK => ?_) ?_
       ·go_simp
        refine hK.out _ _ ?_ (fun hHeld => ?_)
        ·(try dsimp only);(first|(refine HY.out _ ?_;(repeat (first|with_reducible (first|assumption|exact Bw.refl _|refine Bw.alloc ?_ _|refine Bw.more ?_ _ _|refine Bw.drew ?_|refine Bw.drewN ?_ _)|((with_reducible refine Bw.set2 ?_ ?_ _);(focus exact SZX))|with_reducible refine Bw.trans ?_ (by assumption)));done)|(exact ⟨⟨(HYs.out _ BWX _ _ _).1,(HYs.out _ BWX _ _ _).2.1,(HYs.out _ BWX _ _ _).2.2.1⟩,(HYs.out _ BWX _ _ _).2.2.2.1,(HYs.out _ BWX _ _ _).2.2.2.2⟩))
        clear hK K
        (try simp only [Act.put,zP4,zP5,zP6])
        refine wpAnyH_ready (rs:=[12]) (by kernel_rfl) (by simp) ?_
        refine AllReadyH.cons rfl (fun K hK => ?_) ?_
        ·go_simp
         refine hK.out _ _ ?_ (fun hHeld => ?_)
         ·(try dsimp only);(first|(refine HY.out _ ?_;(repeat (first|with_reducible (first|assumption|exact Bw.refl _|refine Bw.alloc ?_ _|refine Bw.more ?_ _ _|refine Bw.drew ?_|refine Bw.drewN ?_ _)|((with_reducible refine Bw.set2 ?_ ?_ _);(focus exact SZX))|with_reducible refine Bw.trans ?_ (by assumption)));done)|(exact ⟨⟨(HYs.out _ BWX _ _ _).1,(HYs.out _ BWX _ _ _).2.1,(HYs.out _ BWX _ _ _).2.2.1⟩,(HYs.out _ BWX _ _ _).2.2.2.1,(HYs.out _ BWX _ _ _).2.2.2.2⟩))
         clear hK K
         (try simp only [Act.put,zP4,zP5,zP6])
         refine wpAnyH_done (by kernel_rfl) ?_ _
         go_wp2
         go_meet
         case rel =>
          have hnb : ∀ ad,A' = some ad → wr.heap.size ≤ ad.block:=fun ad e => by have:=HNd.out ad e;first|omega|(simp only [szA,szS,szD,szN,plus_size] at this;omega)
          have hne : ∀ ad,A' = some ad → ad.block ≠ w.heap.size:=fun ad e => by have:=hnb ad e;omega
          exact ⟨A',n',c',((HB0d.out.set 0 _ rfl).set 1 _ rfl).set 2 _ rfl,⟨_,((HB1d.out.away (by omega) _).away (by omega) _).away (by omega) _,rfl⟩,((HGd.out.away hne _ _).away hne _ _).away hne _ _,hnb,own_set_below (own_set_below (own_set_below HOd.out (by omega) _) (by omega) _) (by omega) _,BWX⟩
        exact AllReadyH.nil
       exact AllReadyH.nil
      exact AllReadyH.nil
     exact AllReadyH.nil
    refine AllReadyH.cons rfl (fun K hK => ?_) ?_
    ·go_simp
     refine (rblank_any s.f s.g s.b _).mono ?_;rintro ee wb ⟨rfl,hbb⟩;have hbwb : Bw wr wb:=Bw.trans (show Bw wr _ from BWX) hbb;have HB0b:=Lib.hid (HB0r.out.up hbwb);have hzb:=HB0b.out.lt;(have u0:=HB0b.out.cell 0 (v:=.int .i64 (s.Rn : Int)) rfl;have u1:=HB0b.out.cell 1 (v:=.int .i64 (s.Cn : Int)) rfl;have u2:=HB0b.out.cell 2 (v:=.slice s.A s.n s.c) rfl);clear hbb;go_wp2_with fail
     refine hK.out _ _ ?_ (fun hHeld => ?_)
     ·(try dsimp only);(first|(refine HY.out _ ?_;(repeat (first|with_reducible (first|assumption|exact Bw.refl _|refine Bw.alloc ?_ _|refine Bw.more ?_ _ _|refine Bw.drew ?_|refine Bw.drewN ?_ _)|((with_reducible refine Bw.set2 ?_ ?_ _);(focus exact SZX))|with_reducible refine Bw.trans ?_ (by assumption)));done)|(exact ⟨⟨(HYs.out _ BWX _ _ _).1,(HYs.out _ BWX _ _ _).2.1,(HYs.out _ BWX _ _ _).2.2.1⟩,(HYs.out _ BWX _ _ _).2.2.2.1,(HYs.out _ BWX _ _ _).2.2.2.2⟩))
     clear hK K
     (try simp only [Act.put,zP4,zP5,zP6])
     refine wpAnyH_ready (rs:=[1]) (by kernel_rfl) (by simp) ?_
     refine AllReadyH.cons rfl (fun K hK => ?_) ?_
     ·go_simp
      refine hK.out _ _ ?_ (fun hHeld => ?_)
      ·(try dsimp only);(first|(refine HY.out _ ?_;(repeat (first|with_reducible (first|assumption|exact Bw.refl _|refine Bw.alloc ?_ _|refine Bw.more ?_ _ _|refine Bw.drew ?_|refine Bw.drewN ?_ _)|((with_reducible refine Bw.set2 ?_ ?_ _);(focus exact SZX))|with_reducible refine Bw.trans ?_ (by assumption)));done)|(exact ⟨⟨(HYs.out _ BWX _ _ _).1,(HYs.out _ BWX _ _ _).2.1,(HYs.out _ BWX _ _ _).2.2.1⟩,(HYs.out _ BWX _ _ _).2.2.2.1,(HYs.out _ BWX _ _ _).2.2.2.2⟩))
      clear hK K
      (try simp only [Act.put,zP4,zP5,zP6])
      refine wpAnyH_ready (rs:=[10]) (by kernel_rfl) (by simp) ?_
      refine AllReadyH.cons rfl (fun K hK => ?_) ?_
      ·go_simp
       refine (rscroll_ok s.Rn s.Cn s.A s.n s.c s.top s.bot nn 32 0 0 s.b _ (by exact hGr.out.up BWX) HBl.out ⟨t0,t1,t2⟩).mono ?_;rintro ee wd ⟨A',n',c',rfl,hGd,hnd,hbd⟩;have hbwd : Bw wr wd:=Bw.trans (show Bw wr _ from BWX) hbd;have hzwb : wr.heap.size ≤ wb.heap.size:=hbwb.size;have HGd:=Lib.hid hGd;have HNd:=Lib.hid hnd;have HB0d:=Lib.hid (HB0r.out.up hbwd);have HB1d:=Lib.hid (HB1r.out.up hbwd);have HOd:=Lib.hid (HO.out.bw hbwd);have hzd:=HB0d.out.lt;(have q0:=HB0d.out.cell 0 (v:=.int .i64 (s.Rn : Int)) rfl;have q1:=HB0d.out.cell 1 (v:=.int .i64 (s.Cn : Int)) rfl;have q2:=HB0d.out.cell 2 (v:=.slice s.A s.n s.c) rfl);(have p0:=HB0d.out.free 0;have p1:=HB0d.out.free 1;have p2:=HB0d.out.free 2);clear hGd hnd hbd;go_wp2_with fail
       refine hK.out _ _ ?_ (fun hHeld => ?_)
       ·(try dsimp only);(first|(refine HY.out _ ?_;(repeat (first|with_reducible (first|assumption|exact Bw.refl _|refine Bw.alloc ?_ _|refine Bw.more ?_ _ _|refine Bw.drew ?_|refine Bw.drewN ?_ _)|((with_reducible refine Bw.set2 ?_ ?_ _);(focus exact SZX))|with_reducible refine Bw.trans ?_ (by assumption)));done)|(exact ⟨⟨(HYs.out _ BWX _ _ _).1,(HYs.out _ BWX _ _ _).2.1,(HYs.out _ BWX _ _ _).2.2.1⟩,(HYs.out _ BWX _ _ _).2.2.2.1,(HYs.out _ BWX _ _ _).2.2.2.2⟩))
       clear hK K
       (try simp only [Act.put,zP4,zP5,zP6])
       refine wpAnyH_ready (rs:=[11]) (by kernel_rfl) (by simp) ?_
       refine AllReadyH.cons rfl (fun K hK => ?_) ?_
       ·go_simp
        refine hK.out _ _ ?_ (fun hHeld => ?_)
        ·(try dsimp only);(first|(refine HY.out _ ?_;(repeat (first|with_reducible (first|assumption|exact Bw.refl _|refine Bw.alloc ?_ _|refine Bw.more ?_ _ _|refine Bw.drew ?_|refine Bw.drewN ?_ _)|((with_reducible refine Bw.set2 ?_ ?_ _);(focus exact SZX))|with_reducible refine Bw.trans ?_ (by assumption)));done)|(exact ⟨⟨(HYs.out _ BWX _ _ _).1,(HYs.out _ BWX _ _ _).2.1,(HYs.out _ BWX _ _ _).2.2.1⟩,(HYs.out _ BWX _ _ _).2.2.2.1,(HYs.out _ BWX _ _ _).2.2.2.2⟩))
        clear hK K
        (try simp only [Act.put,zP4,zP5,zP6])
        refine wpAnyH_ready (rs:=[12]) (by kernel_rfl) (by simp) ?_
        refine AllReadyH.cons rfl (fun K hK => ?_) ?_
        ·go_simp
         refine hK.out _ _ ?_ (fun hHeld => ?_)
         ·(try dsimp only);(first|(refine HY.out _ ?_;(repeat (first|with_reducible (first|assumption|exact Bw.refl _|refine Bw.alloc ?_ _|refine Bw.more ?_ _ _|refine Bw.drew ?_|refine Bw.drewN ?_ _)|((with_reducible refine Bw.set2 ?_ ?_ _);(focus exact SZX))|with_reducible refine Bw.trans ?_ (by assumption)));done)|(exact ⟨⟨(HYs.out _ BWX _ _ _).1,(HYs.out _ BWX _ _ _).2.1,(HYs.out _ BWX _ _ _).2.2.1⟩,(HYs.out _ BWX _ _ _).2.2.2.1,(HYs.out _ BWX _ _ _).2.2.2.2⟩))
         clear hK K
         (try simp only [Act.put,zP4,zP5,zP6])
         refine wpAnyH_done (by kernel_rfl) ?_ _
         go_wp2
         go_meet
         case rel =>
          have hnb : ∀ ad,A' = some ad → wr.heap.size ≤ ad.block:=fun ad e => by have:=HNd.out ad e;first|omega|(simp only [szA,szS,szD,szN,plus_size] at this;omega)
          have hne : ∀ ad,A' = some ad → ad.block ≠ w.heap.size:=fun ad e => by have:=hnb ad e;omega
          exact ⟨A',n',c',((HB0d.out.set 0 _ rfl).set 1 _ rfl).set 2 _ rfl,⟨_,((HB1d.out.away (by omega) _).away (by omega) _).away (by omega) _,rfl⟩,((HGd.out.away hne _ _).away hne _ _).away hne _ _,hnb,own_set_below (own_set_below (own_set_below HOd.out (by omega) _) (by omega) _) (by omega) _,BWX⟩
        exact AllReadyH.nil
       exact AllReadyH.nil
      exact AllReadyH.nil
     exact AllReadyH.nil
    exact AllReadyH.nil
   case rest =>
   obtain ⟨A',n',c',hS,hold,hG',hnew,hown',hbw'⟩:=hcut
   have HS:=Lib.hid hS
   have HOld:=Lib.hid hold
   have HG':=Lib.hid hG'
   have HNew:=Lib.hid hnew
   have HO':=Lib.hid hown'
   have hzc : w.heap.size < wc.heap.size:=hS.lt
   have hwrz : w.heap.size + 1 < wr.heap.size:=by omega
   clear hS hold hG' hnew hown' x0 x1 x2 z0 z1 z2
   go_wp2_with (first
    | ((with_reducible refine wpList_load_sc (s.gr A' n' c') w.heap.size (.tmp 2) rfl rfl ?_ ?_ ?_);(focus rfl);(focus (exact HS.out)))
    | ((with_reducible refine wpList_store_sc (s.gr A' n' c') (w.heap.size + 1) (.tmp 4) (.tmp 46) rfl rfl ?_ ?_ ?_ ?_);(focus rfl);(focus rfl);(focus (exact HOld.out));intro w3 hS3 hg3;have HS3:=Lib.hid hS3;have HG3:=Lib.hid hg3;clear hS3 hg3)
    | fail)
   refine bodyPost_ret (results_sc2 rfl _ _ (w.heap.size + 1) (s.gr A' n' c') (by rfl) HS3.out) rfl ?_
   have hbw3 : Bw w w3:=Bw.grown hbw' HG3.out (fun k hk => by cases hk;omega)
   have hLn : ∀ ad,A6 = some ad → w.heap.size + 1 < ad.block:=fun ad e => by have:=own_new HO'.out ad e;omega
   refine ⟨s.gr A' n' c',A6,k,c6,rfl,rfl,rfl,⟨HG'.out.far HG3.out (fun ad e e2 => by have:=HNew.out ad e;have:=Option.some.inj e2;omega),HOk.out.2⟩,.inr (fun ad e => by have:=HNew.out ad e;omega),(Ls.of_own HO'.out HOne.out).far HG3.out (fun ad e e2 => by have:=hLn ad e;have:=Option.some.inj e2;omega),(fun ad e => by have:=hLn ad e;omega),by omega,hc6,hc6m,hbw3⟩
  ·obtain ⟨c1,c2,c3⟩ : (k : Int) < nn ∧ (k : Int) ≤ s.bot ∧ s.top = 0:=of_decide_eq_true HT.out.symm
   clear c3
   go_wp2_with (first
    | (go_at_call 41;refine (rrow_any s.Rn s.Cn s.A s.n s.c cs k _ (by exact HCS.out.up BWX) h6 (by omega) h7).mono ?_;rintro ee w2 ⟨Ar,nr,cr,rfl,-,-,-,-,hb2⟩;have HO2:=Lib.hid (HO.out.bw hb2);have hbw2 : Bw wr w2:=hb2;have hz2:=hb2.size;clear hb2)
    | (at_builtin;refine wpList_append_srcG (by rfl) (.tmp 27) (.tmp 32) 40 rfl (w1.heap.size + 1) 24 j0 (.slice none 0 0) 1 24 Tryz.underlying40 hj hj0 hj1 hj2 rfl (by decide) (.slice A6 k c6) k vs (by rfl) (HO2.out.alloc _) (some ⟨_,0,none⟩) 1 1 [.slice Ar nr cr] (by rfl) rfl (fun e => by cases e) (fun ad e => by cases e;exact cell_one_new _ _ _) (by simp;rfl) (by unfold maxLen;omega) (by omega) SZX ?_;intro v7 w7 hown7 hg7;obtain ⟨A7,c7,rfl,hc7,hc7m⟩:=own_form hown7;have hbw7 : Bw (w1.alloc (.cells #[.int .i64 s.top,.int .i64 s.bot] 32)) w7:=Bw.row (show Bw _ (w2.alloc _) from Bw.alloc (Bw.trans hbwr hbw2) _) (HO2.out.alloc _) hg7 (by simp);have HO7:=Lib.hid hown7;clear hown7 hg7)
    | fail)
   go_roundw
   case rel =>
    refine ⟨k + 1,vs ++ [.slice Ar nr cr],by go_num,by omega,HO7.out,?_,hbw7⟩
    intro v hv
    rcases List.mem_append.1 hv with h|h
    ·exact HOne.out v h
    ·simp at h;subst h;rfl
   case measure => simp [intOf];omega

theorem Scr.Ok.away {w : World} {s : Scr} {h : Nat} (hs : s.Ok w) (hne : ∀ ad,s.A = some ad → ad.block ≠ h) (j : Nat) (v : Value) : s.Ok (w.setCell ⟨h,j,none⟩ v):=⟨hs.1.away hne j v,hs.2⟩
theorem Scr.Ok.far {w w' : World} {s : Scr} {row : Option Nat} (hs : s.Ok w) (hg : w.grownBy w' row) (hne : ∀ ad,s.A = some ad → some ad.block ≠ row) : s.Ok w':=⟨hs.1.far hg hne,hs.2⟩
theorem ne_some {A : Option Addr} {B : Nat} (h : ∀ ad,A = some ad → ad.block ≠ B) : ∀ ad,A = some ad → some ad.block ≠ some B:=fun ad e e2 => h ad e (Option.some.inj e2)

set_option maxRecDepth 100000 in
set_option maxHeartbeats 4000000 in
theorem rsfeed_ok (s : Scr) (w : World) (hs : s.Ok w) : Calls Tryz.prog 104 #[.agg s.vals.toArray] w (ScL w s):=by
 have HOk:=Lib.hid hs
 have HAl:=Lib.hid hs.1.lt
 obtain ⟨⟨h1,h2,h3,h4,-,-,-,-⟩,⟨k1,k2,-,-⟩,-,⟨t0,t1,t2⟩,-,-⟩:=hs
 have hways : s.row = s.bot ∨ (¬ s.row = s.bot ∧ s.row + 1 < (s.Rn : Int)) ∨ (¬ s.row = s.bot ∧ s.row + 1 = (s.Rn : Int)):=by omega
 have HW:=Lib.hid hways
 clear hways
 go_enter Tryz.func104,Tryz.ntmps104
 go_upto_region 1 with (fail)
 generalize hw1 : (w.alloc (.cells s.vals.toArray 34)).alloc _ = w1
 obtain ⟨hb0,hb1,hbw,hz⟩:=sb2 hw1
 have HB0:=Lib.hid hb0
 have HB1:=Lib.hid hb1
 have hz1 : w.heap.size + 1 < w1.heap.size:=by omega
 have HOk1:=Lib.hid (HOk.out.up hbw)
 have HNe0:=Lib.hid (show ∀ ad,s.A = some ad → ad.block ≠ w.heap.size from fun ad e => by have:=HAl.out ad e;omega)
 have HNe1:=Lib.hid (show ∀ ad,s.A = some ad → ad.block ≠ w.heap.size + 1 from fun ad e => by have:=HAl.out ad e;omega)
 clear hw1 hb0 hb1 hz
 (have x0:=HB0.out.cell 0 (v:=.int .i64 (s.Rn : Int)) rfl;have x3:=HB0.out.cell 3 (v:=.int .i64 s.row) rfl;have x5:=HB0.out.cell 5 (v:=.bool s.wrap) rfl;have x10:=HB0.out.cell 10 (v:=.int .i64 s.bot) rfl)
 (have z3:=HB0.out.free 3;have z5:=HB0.out.free 5)
 rcases HW.out with hq|⟨hq,hr⟩|⟨hq,hr⟩
 ·have hq1 : (s.row == s.bot) = true:=by simpa using hq
  clear hq HW
  go_wp2_with (first
   | ((with_reducible refine wpList_load_sc ({ s with wrap:=false } : Scr) w.heap.size (.tmp 1) rfl rfl ?_ ?_ ?_);(focus rfl);(focus (exact HB0.out.set 5 _ rfl)))
   | (go_at_call 112;refine (rsup_ok ({ s with wrap:=false } : Scr) 1 _ (HOk1.out.away HNe0.out _ _) (by omega) (by omega)).mono ?_;rintro ee w2 ⟨s',L,m,cap,e1,e2,rfl,hOk',hAn,hLs,hLn,hm,hmc,hcap,hb2⟩;have HB12:=Lib.hid ((HB1.out.away (by omega) _).up hb2);have hbw2 : Bw w w2:=Bw.trans (show Bw w (w1.setCell _ _) from BWX) hb2;have HOk':=Lib.hid hOk';have HAn:=Lib.hid hAn;have HLs:=Lib.hid hLs;have HLn:=Lib.hid hLn;have hz2:=HB12.out.lt;have HE:=Lib.hid (And.intro e1 e2);clear hOk' hAn hLs hLn hb2 e1 e2)
   | ((with_reducible refine wpList_store_sc s' (w.heap.size + 1) (.tmp 2) (.tmp 15) rfl rfl ?_ ?_ ?_ ?_);(focus rfl);(focus rfl);(focus (exact ⟨_,HB12.out,rfl⟩));intro w3 hS3 hg3;have HS3:=Lib.hid hS3;have HG3:=Lib.hid hg3;clear hS3 hg3)
   | fail)
  refine bodyPost_ret (results_sc2 rfl _ _ (w.heap.size + 1) s' (by rfl) HS3.out) rfl ?_
  have hAnw : An w s.A s'.A:=HAn.out.more (by simp;omega)
  have hne : ∀ ad,s'.A = some ad → ad.block ≠ w.heap.size + 1:=HAn.out.ne (fun ad e => by have:=HAl.out ad e;omega) (by simp;omega)
  have hnL : ∀ ad,L = some ad → w1.heap.size ≤ ad.block:=fun ad e => by have:=HLn.out ad e;simpa using this
  exact ⟨s',L,m,cap,HE.out.1,HE.out.2,rfl,HOk'.out.far HG3.out (ne_some hne),hAnw,HLs.out.far HG3.out (ne_some (fun ad e => by have:=hnL ad e;omega)),fun ad e => by have:=hnL ad e;omega,hm,hmc,hcap,Bw.grown hbw2 HG3.out (fun k hk => by cases hk;omega)⟩
 ·have hq1 : (s.row == s.bot) = false:=by simpa using hq
  have hq2 : ¬ s.row = s.bot:=hq
  have HQ:=Lib.hid hq2
  clear hq hq2 HW
  go_wp2_with (first
   | ((with_reducible refine wpList_load_sc ({ s with wrap:=false,row:=s.row + 1 } : Scr) w.heap.size (.tmp 1) rfl rfl ?_ ?_ ?_);(focus rfl);(focus (exact (HB0.out.set 5 _ rfl).set 3 _ rfl)))
   | ((with_reducible refine wpList_store_sc ({ s with wrap:=false,row:=s.row + 1 } : Scr) (w.heap.size + 1) (.tmp 2) (.tmp 28) rfl rfl ?_ ?_ ?_ ?_);(focus rfl);(focus rfl);(focus (exact ⟨_,(HB1.out.away (by omega) _).away (by omega) _,rfl⟩));intro w3 hS3 hg3;have HS3:=Lib.hid hS3;have HG3:=Lib.hid hg3;clear hS3 hg3)
   | fail)
  refine bodyPost_ret (results_sc2 rfl _ _ (w.heap.size + 1) ({ s with wrap:=false,row:=s.row + 1 } : Scr) (by rfl) HS3.out) rfl ?_
  have hO : s.Ok w3:=((HOk1.out.away HNe0.out _ _).away HNe0.out _ _).far HG3.out (ne_some HNe1.out)
  exact ⟨({ s with wrap:=false,row:=s.row + 1 } : Scr),none,0,0,rfl,rfl,rfl,⟨hO.1,⟨by show 0 ≤ s.row + 1;omega,by show s.row + 1 < (s.Rn : Int);omega,hO.2.1.2.2⟩,hO.2.2⟩,.inl rfl,Ls.nil_ _ _,(fun ad e => by cases e),by omega,by omega,by omega,Bw.grown (show Bw w _ from BWX) HG3.out (fun k hk => by cases hk;omega)⟩
 ·have hq1 : (s.row == s.bot) = false:=by simpa using hq
  have HQ:=Lib.hid hq
  have hr1 : (s.Rn : Int) - 1 ≤ s.row + 1:=by omega
  have hr2 : ¬ s.row + 1 < (s.Rn : Int) - 1:=by omega
  have hr3 : (s.Rn : Int) - 1 < s.row + 1:=by omega
  clear hq HW hr
  go_wp2_with (first
   | ((with_reducible refine wpList_load_sc ({ s with wrap:=false,row:=(s.Rn : Int) - 1 } : Scr) w.heap.size (.tmp 1) rfl rfl ?_ ?_ ?_);(focus rfl);(focus (exact (HB0.out.set 5 _ rfl).set 3 _ rfl)))
   | ((with_reducible refine wpList_store_sc ({ s with wrap:=false,row:=(s.Rn : Int) - 1 } : Scr) (w.heap.size + 1) (.tmp 2) (.tmp 28) rfl rfl ?_ ?_ ?_ ?_);(focus rfl);(focus rfl);(focus (exact ⟨_,(HB1.out.away (by omega) _).away (by omega) _,rfl⟩));intro w3 hS3 hg3;have HS3:=Lib.hid hS3;have HG3:=Lib.hid hg3;clear hS3 hg3)
   | fail)
  refine bodyPost_ret (results_sc2 rfl _ _ (w.heap.size + 1) ({ s with wrap:=false,row:=(s.Rn : Int) - 1 } : Scr) (by rfl) HS3.out) rfl ?_
  have hO : s.Ok w3:=((HOk1.out.away HNe0.out _ _).away HNe0.out _ _).far HG3.out (ne_some HNe1.out)
  exact ⟨({ s with wrap:=false,row:=(s.Rn : Int) - 1 } : Scr),none,0,0,rfl,rfl,rfl,⟨hO.1,⟨by show 0 ≤ (s.Rn : Int) - 1;omega,by show (s.Rn : Int) - 1 < (s.Rn : Int);omega,hO.2.1.2.2⟩,hO.2.2⟩,.inl rfl,Ls.nil_ _ _,(fun ad e => by cases e),by omega,by omega,by omega,Bw.grown (show Bw w _ from BWX) HG3.out (fun k hk => by cases hk;omega)⟩

theorem Ls.away {w : World} {L : Option Addr} {m h : Nat} (hl : Ls w L m) (hne : ∀ ad,L = some ad → ad.block ≠ h) (j : Nat) (v : Value) : Ls (w.setCell ⟨h,j,none⟩ v) L m:=hl.far (grown_set (grown_refl w (some h)) j v) (ne_some hne)
theorem Sb.gr3 {w : World} {g : Nat} {s : Scr} {A : Option Addr} {n c : Nat} (h : Sb w g s.vals.toArray 34) : Sb (((w.setCell ⟨g,0,none⟩ (.int .i64 s.Rn)).setCell ⟨g,1,none⟩ (.int .i64 s.Cn)).setCell ⟨g,2,none⟩ (.slice A n c)) g (s.gr A n c).vals.toArray 34 :=
 ((h.set 0 _ rfl).set 1 _ rfl).set 2 _ rfl

set_option maxRecDepth 100000 in
set_option maxHeartbeats 4000000 in
theorem rsput_ok (s : Scr) (nn : Int) (w : World) (hs : s.Ok w) (hn : runeB nn = true) : Calls Tryz.prog 86 #[.agg s.vals.toArray,.int .i64 nn] w (ScL w s):=by
 have HOk:=Lib.hid hs
 have HAl:=Lib.hid hs.1.lt
 have HRu:=Lib.hid hn
 have hsz:=hs.1.2.2.2.1
 have hsz2:=hs.1.2.1
 have HOkc:=Lib.hid (show ∀ w',s.Ok w' → ({ s with col:=0 } : Scr).Ok w' from fun w' hO => ⟨hO.1,⟨hO.2.1.1,hO.2.1.2.1,Int.le_refl 0,Int.lt_of_le_of_lt hO.2.1.2.2.1 hO.2.1.2.2.2⟩,hO.2.2⟩)
 clear hs hn
 go_enter Tryz.func86,Tryz.ntmps86
 go_upto_region 1 with (fail)
 generalize hw1 : (w.alloc (.cells s.vals.toArray 34)).alloc _ = w1
 obtain ⟨hb0,hb1,hbw,hz⟩:=sb2 hw1
 have HB0:=Lib.hid hb0
 have HB1:=Lib.hid hb1
 have hz1 : w.heap.size + 1 < w1.heap.size:=by omega
 have HOk1:=Lib.hid (HOk.out.up hbw)
 have HNe0:=Lib.hid (show ∀ ad,s.A = some ad → ad.block ≠ w.heap.size from fun ad e => by have:=HAl.out ad e;omega)
 have HNe1:=Lib.hid (show ∀ ad,s.A = some ad → ad.block ≠ w.heap.size + 1 from fun ad e => by have:=HAl.out ad e;omega)
 clear hw1 hb0 hb1 hz
 (have x4:=HB0.out.cell 4 (v:=.int .i64 s.col) rfl;have x5:=HB0.out.cell 5 (v:=.bool s.wrap) rfl;have x18:=HB0.out.cell 18 (v:=.bool s.now) rfl)
 (have z4:=HB0.out.free 4)
 obtain ⟨t,ht⟩ : ∃ t,t = (s.wrap && !s.now):=⟨_,rfl⟩
 have HT:=Lib.hid ht
 have hways : (s.wrap = true ∧ s.now = false) ∨ (s.wrap = false) ∨ (s.wrap = true ∧ s.now = true):=by cases s.wrap <;> cases s.now <;> simp
 have HW:=Lib.hid hways
 clear hways ht
 go_upto_region 2 with (fail)
 go_cut [15] (fun v w' => v = .bool t ∧ w1 = w')
 case first =>
  rcases HW.out with ⟨hq1,hq2⟩|hq1|⟨hq1,hq2⟩
  ·rw [hq1] at x5
   rw [hq2] at x18
   have HQ:=Lib.hid (show t = true by rw [HT.out,hq1,hq2];rfl)
   clear hq1 hq2 HW
   go_wp2_with fail
   go_meet
   case rel => exact ⟨congrArg Value.bool HQ.out.symm,rfl⟩
  ·rw [hq1] at x5
   have HQ:=Lib.hid (show t = false by rw [HT.out,hq1];rfl)
   clear hq1 HW
   go_wp2_with fail
   go_meet
   case rel => exact ⟨congrArg Value.bool HQ.out.symm,rfl⟩
  ·rw [hq1] at x5
   rw [hq2] at x18
   have HQ:=Lib.hid (show t = false by rw [HT.out,hq1,hq2];rfl)
   clear hq1 hq2 HW
   go_wp2_with fail
   go_meet
   case rel => exact ⟨congrArg Value.bool HQ.out.symm,rfl⟩
 case rest =>
 obtain ⟨rfl,rfl⟩:=hcut
 clear x5 x18 HW
 go_upto_if 15 with (fail)
 go_cut [6] (fun v6 w' => ∃ (s' : Scr) (L : Option Addr) (m cap : Nat),s'.Rn = s.Rn ∧ s'.Cn = s.Cn ∧ v6 = .slice L m cap ∧ Sb w' w.heap.size s'.vals.toArray 34 ∧ (∃ old,Sb w' (w.heap.size + 1) old 34 ∧ old.size = 19) ∧ s'.Ok w' ∧ (∀ ad,s'.A = some ad → ad.block ≠ w.heap.size ∧ ad.block ≠ w.heap.size + 1) ∧ An w s.A s'.A ∧ Ls w' L m ∧ (∀ ad,L = some ad → w1.heap.size ≤ ad.block) ∧ m ≤ 31 ∧ m ≤ cap ∧ cap ≤ 9223372036854775807 ∧ Bw w w' ∧ w1.heap.size ≤ w'.heap.size)
 case first =>
  cases t
  ·go_wp2_with fail
   go_meet
   case rel => exact ⟨s,none,0,0,rfl,rfl,rfl,HB0.out,⟨_,HB1.out,rfl⟩,HOk1.out,fun ad e => ⟨HNe0.out ad e,HNe1.out ad e⟩,.inl rfl,Ls.nil_ _ _,(fun ad e => by cases e),by omega,by omega,by omega,hbw,Nat.le_refl _⟩
  ·go_wp2_with (first
    | ((with_reducible refine wpList_load_sc ({ s with col:=0 } : Scr) w.heap.size (.tmp 2) rfl rfl ?_ ?_ ?_);(focus rfl);(focus (exact HB0.out.set 4 _ rfl)))
    | (go_at_call 104;refine (rsfeed_ok ({ s with col:=0 } : Scr) _ (HOkc.out _ (HOk1.out.away HNe0.out _ _))).mono ?_;rintro ee w2 ⟨s',L,m,cap,e1,e2,rfl,hOk',hAn,hLs,hLn,hm,hmc,hcap,hb2⟩;have HB02:=Lib.hid ((HB0.out.set 4 (.int .i64 0) (cs':=({ s with col:=0 } : Scr).vals.toArray) rfl).up hb2);have HB12:=Lib.hid ((HB1.out.away (by omega) _).up hb2);have hbw2 : Bw w w2:=Bw.trans (show Bw w (w1.setCell _ _) from BWX) hb2;have HOk':=Lib.hid hOk';have HAn:=Lib.hid hAn;have HLs:=Lib.hid hLs;have HLn:=Lib.hid hLn;have hz2:=HB12.out.lt;have hz3 : w1.heap.size ≤ w2.heap.size:=(by have:=hb2.size;simpa using this);have HE:=Lib.hid (And.intro e1 e2);clear hOk' hAn hLs hLn hb2 e1 e2)
    | ((with_reducible refine wpList_store_sc s' w.heap.size (.tmp 2) (.tmp 21) rfl rfl ?_ ?_ ?_ ?_);(focus rfl);(focus rfl);(focus (exact ⟨_,HB02.out,rfl⟩));intro w3 hS3 hg3;have HS3:=Lib.hid hS3;have HG3:=Lib.hid hg3;clear hS3 hg3)
    | fail)
   go_meet
   case rel =>
    have hne0 : ∀ ad,s'.A = some ad → ad.block ≠ w.heap.size:=HAn.out.ne (fun ad e => by have:=HAl.out ad e;omega) (by simp;omega)
    have hne1 : ∀ ad,s'.A = some ad → ad.block ≠ w.heap.size + 1:=HAn.out.ne (fun ad e => by have:=HAl.out ad e;omega) (by simp;omega)
    have hnL : ∀ ad,L = some ad → w1.heap.size ≤ ad.block:=fun ad e => by have:=HLn.out ad e;simpa using this
    exact ⟨s',L,m,cap,HE.out.1,HE.out.2,rfl,HS3.out,⟨_,HB12.out.far HG3.out (by simp),rfl⟩,HOk'.out.far HG3.out (ne_some hne0),fun ad e => ⟨hne0 ad e,hne1 ad e⟩,HAn.out.more (by simp;omega),HLs.out.far HG3.out (ne_some (fun ad e => by have:=hnL ad e;omega)),hnL,hm,hmc,hcap,Bw.grown hbw2 HG3.out (fun k hk => by cases hk;omega),Nat.le_trans hz3 HG3.out.size⟩
 case rest =>
 obtain ⟨s',L,m,cap,e1,e2,rfl,hS,hold,hOk',hne,hAn,hLs,hLn,hm,hmc,hcap,hbwc,hzc⟩:=hcut
 obtain ⟨wo,hwo⟩ : ∃ wo : World,wo = wc:=⟨_,rfl⟩
 subst hwo
 have HS:=Lib.hid hS
 have HOld:=Lib.hid hold
 have HOk':=Lib.hid hOk'
 have HNe:=Lib.hid hne
 have HAn:=Lib.hid hAn
 have HLs:=Lib.hid hLs
 have HLn:=Lib.hid hLn
 have HE:=Lib.hid (And.intro e1 e2)
 have hz0:=hS.lt
 have hzo : w.heap.size + 1 < wo.heap.size:=by omega
 have HCel:=Lib.hid (show cellB (nn,s'.f,s'.g,s'.b) = true by unfold cellB;rw [HRu.out,hOk'.2.2.1];rfl)
 have hcur:=hOk'.2.1
 have hCn : s'.Cn ≤ 100:=by rw [e2];exact hsz
 clear hS hold hOk' hne hAn hLs hLn HB0 HB1 x4 z4 e1 e2
 (have x0:=HS.out.cell 0 (v:=.int .i64 (s'.Rn : Int)) rfl;have x1:=HS.out.cell 1 (v:=.int .i64 (s'.Cn : Int)) rfl;have x2:=HS.out.cell 2 (v:=.slice s'.A s'.n s'.c) rfl;have x3:=HS.out.cell 3 (v:=.int .i64 s'.row) rfl;have x4:=HS.out.cell 4 (v:=.int .i64 s'.col) rfl;have x5:=HS.out.cell 5 (v:=.bool s'.wrap) rfl;have x6:=HS.out.cell 6 (v:=.int .i64 s'.f) rfl;have x7:=HS.out.cell 7 (v:=.int .i64 s'.g) rfl;have x8:=HS.out.cell 8 (v:=.int .i64 s'.b) rfl;have x18:=HS.out.cell 18 (v:=.bool s'.now) rfl)
 (have z0:=HS.out.free 0;have z1:=HS.out.free 1;have z2:=HS.out.free 2;have z4:=HS.out.free 4;have z5:=HS.out.free 5)
 obtain ⟨c0,c1,c2,c3⟩:=hcur
 have hways : s'.col = (s'.Cn : Int) - 1 ∨ s'.col < (s'.Cn : Int) - 1:=by omega
 go_upto_region 7 with (first
  | (go_at_call 105;refine (rfill_ok s'.Rn s'.Cn s'.A s'.n s'.c s'.row s'.col (s'.col + 1) nn s'.f s'.g s'.b _ (by exact HOk'.out.1.up BWX) HCel.out).mono ?_;rintro ee wd ⟨A',n',c',rfl,hGd,hnd,hbd⟩;have hbwd : Bw wo wd:=Bw.trans (show Bw wo _ from BWX) hbd;have HGd:=Lib.hid hGd;have HNd:=Lib.hid hnd;have HSd:=Lib.hid (HS.out.up hbwd);have HCd:=Lib.hid (Sb.up (show Sb (wo.alloc (.cells #[.int .i64 s'.row,.int .i64 s'.col,.bool s'.wrap] 28)) wo.heap.size #[.int .i64 s'.row,.int .i64 s'.col,.bool s'.wrap] 28 from heap_at rfl) hbd);have hzd:=HSd.out.lt;have hze:=HCd.out.lt;clear x0 x1 x2 x3 x4 x5 x6 x7 x8 x18 z0 z1 z2 z4 z5;(have x0:=HSd.out.cell 0 (v:=.int .i64 (s'.Rn : Int)) rfl;have x1:=HSd.out.cell 1 (v:=.int .i64 (s'.Cn : Int)) rfl;have x2:=HSd.out.cell 2 (v:=.slice s'.A s'.n s'.c) rfl;have x4:=HSd.out.cell 4 (v:=.int .i64 s'.col) rfl;have x5:=HSd.out.cell 5 (v:=.bool s'.wrap) rfl;have x18:=HSd.out.cell 18 (v:=.bool s'.now) rfl);(have z0:=HSd.out.free 0;have z1:=HSd.out.free 1;have z2:=HSd.out.free 2;have z4:=HSd.out.free 4;have z5:=HSd.out.free 5);have y1:=HCd.out.cell 1 (v:=.int .i64 s'.col) rfl;clear hGd hnd hbd)
  | fail)
 have hneA : ∀ ad,A' = some ad → wo.heap.size ≤ ad.block:=fun ad e => by have:=HNd.out ad e;first|omega|(simp only [szA,szS,szD,szN,plus_size] at this;omega)
 have HneA:=Lib.hid hneA
 have HOld2:=Lib.hid (show ∃ old,Sb wd (w.heap.size + 1) old 34 ∧ old.size = 19 by obtain ⟨old,h1,h2⟩:=HOld.out;exact ⟨old,h1.up hbwd,h2⟩)
 have hne01 : w.heap.size + 1 ≠ w.heap.size:=by omega
 clear hneA
 rcases hways with hq|hq
 ·have hq1 : (s'.col == (s'.Cn : Int) - 1) = true:=by simpa using hq
  clear hq
  go_wp2_with (first
   | ((with_reducible refine wpList_load_sc ({ s'.gr A' n' c' with wrap := !s'.now } : Scr) w.heap.size (.tmp 2) rfl rfl ?_ ?_ ?_);(focus rfl);(focus (exact HSd.out.gr3.set 5 _ rfl)))
   | ((with_reducible refine wpList_store_sc ({ s'.gr A' n' c' with wrap := !s'.now } : Scr) (w.heap.size + 1) (.tmp 4) (.tmp 59) rfl rfl ?_ ?_ ?_ ?_);(focus rfl);(focus rfl);(focus (obtain ⟨old,g1,g2⟩:=HOld2.out;exact ⟨old,((((g1.away hne01 _).away hne01 _).away hne01 _).away hne01 _),g2⟩));intro w3 hS3 hg3;have HS3:=Lib.hid hS3;have HG3:=Lib.hid hg3;clear hS3 hg3)
   | fail)
  refine bodyPost_ret (results_sc2 rfl _ _ (w.heap.size + 1) ({ s'.gr A' n' c' with wrap := !s'.now } : Scr) (by rfl) HS3.out) rfl ?_
  have hA0 : ∀ ad,A' = some ad → ad.block ≠ w.heap.size:=fun ad e => by have:=HneA.out ad e;omega
  have hA1 : ∀ ad,A' = some ad → ad.block ≠ w.heap.size + 1:=fun ad e => by have:=HneA.out ad e;omega
  have hL0 : ∀ ad,L = some ad → ad.block ≠ w.heap.size:=fun ad e => by have:=HLn.out ad e;omega
  have hL1 : ∀ ad,L = some ad → ad.block ≠ w.heap.size + 1:=fun ad e => by have:=HLn.out ad e;omega
  have hO:=HOk'.out.2
  exact ⟨({ s'.gr A' n' c' with wrap := !s'.now } : Scr),L,m,cap,HE.out.1,HE.out.2,rfl,⟨(((((HGd.out.away hA0 _ _).away hA0 _ _).away hA0 _ _).away hA0 _ _)).far HG3.out (ne_some hA1),hO.1,hO.2⟩,.inr (fun ad e => by have:=HneA.out ad e;omega),((((((HLs.out.up hbwd).away hL0 _ _).away hL0 _ _).away hL0 _ _).away hL0 _ _)).far HG3.out (ne_some hL1),(fun ad e => by have:=HLn.out ad e;omega),hm,hmc,hcap,Bw.grown (show Bw w _ from BWX) HG3.out (fun k hk => by cases hk;omega)⟩
 ·have hq1 : (s'.col == (s'.Cn : Int) - 1) = false:=by rw [beq_eq_false_iff_ne];omega
  have hq9:=hq
  clear hq
  go_wp2_with (first
   | ((with_reducible refine wpList_load_sc ({ s'.gr A' n' c' with col:=s'.col + 1,wrap:=false } : Scr) w.heap.size (.tmp 2) rfl rfl ?_ ?_ ?_);(focus rfl);(focus (exact (HSd.out.gr3.set 4 _ rfl).set 5 _ rfl)))
   | ((with_reducible refine wpList_store_sc ({ s'.gr A' n' c' with col:=s'.col + 1,wrap:=false } : Scr) (w.heap.size + 1) (.tmp 4) (.tmp 59) rfl rfl ?_ ?_ ?_ ?_);(focus rfl);(focus rfl);(focus (obtain ⟨old,g1,g2⟩:=HOld2.out;exact ⟨old,(((((g1.away hne01 _).away hne01 _).away hne01 _).away hne01 _).away hne01 _),g2⟩));intro w3 hS3 hg3;have HS3:=Lib.hid hS3;have HG3:=Lib.hid hg3;clear hS3 hg3)
   | fail)
  refine bodyPost_ret (results_sc2 rfl _ _ (w.heap.size + 1) ({ s'.gr A' n' c' with col:=s'.col + 1,wrap:=false } : Scr) (by rfl) HS3.out) rfl ?_
  have hA0 : ∀ ad,A' = some ad → ad.block ≠ w.heap.size:=fun ad e => by have:=HneA.out ad e;omega
  have hA1 : ∀ ad,A' = some ad → ad.block ≠ w.heap.size + 1:=fun ad e => by have:=HneA.out ad e;omega
  have hL0 : ∀ ad,L = some ad → ad.block ≠ w.heap.size:=fun ad e => by have:=HLn.out ad e;omega
  have hL1 : ∀ ad,L = some ad → ad.block ≠ w.heap.size + 1:=fun ad e => by have:=HLn.out ad e;omega
  have hO:=HOk'.out.2
  exact ⟨({ s'.gr A' n' c' with col:=s'.col + 1,wrap:=false } : Scr),L,m,cap,HE.out.1,HE.out.2,rfl,⟨((((((HGd.out.away hA0 _ _).away hA0 _ _).away hA0 _ _).away hA0 _ _).away hA0 _ _)).far HG3.out (ne_some hA1),⟨c0,c1,by show 0 ≤ s'.col + 1;omega,by show s'.col + 1 < (s'.Cn : Int);omega⟩,hO.2⟩,.inr (fun ad e => by have:=HneA.out ad e;omega),(((((((HLs.out.up hbwd).away hL0 _ _).away hL0 _ _).away hL0 _ _).away hL0 _ _).away hL0 _ _)).far HG3.out (ne_some hL1),(fun ad e => by have:=HLn.out ad e;omega),hm,hmc,hcap,Bw.grown (show Bw w _ from BWX) HG3.out (fun k hk => by cases hk;omega)⟩

/-- The call returns a valid screen of the size of s. -/
def ScO (w : World) (s : Scr) (e : Ending) (w' : World) : Prop:=∃ s' : Scr,s'.Rn = s.Rn ∧ s'.Cn = s.Cn ∧ e = .returned (.agg s'.vals.toArray) ∧ s'.Ok w' ∧ An w s.A s'.A ∧ Bw w w'
set_option maxRecDepth 100000 in
set_option maxHeartbeats 4000000 in
theorem rscontrol_ok (s : Scr) (nn : Int) (w : World) (hs : s.Ok w) : Calls Tryz.prog 87 #[.agg s.vals.toArray,.int .i64 nn] w (ScL w s):=by
 have HOk:=Lib.hid hs
 have HAl:=Lib.hid hs.1.lt
 clear hs
 go_enter Tryz.func87,Tryz.ntmps87
 go_upto_region 1 with (fail)
 generalize hw1 : (w.alloc (.cells s.vals.toArray 34)).alloc _ = w1
 obtain ⟨hb0,hb1,hbw,hz⟩:=sb2 hw1
 have HB0:=Lib.hid hb0
 have HB1:=Lib.hid hb1
 have hz1 : w.heap.size + 1 < w1.heap.size:=by omega
 have HOk1:=Lib.hid (HOk.out.up hbw)
 have HNe0:=Lib.hid (show ∀ ad,s.A = some ad → ad.block ≠ w.heap.size from fun ad e => by have:=HAl.out ad e;omega)
 have HNe1:=Lib.hid (show ∀ ad,s.A = some ad → ad.block ≠ w.heap.size + 1 from fun ad e => by have:=HAl.out ad e;omega)
 have hne10 : w.heap.size + 1 ≠ w.heap.size:=by omega
 clear hw1 hb0 hb1 hz
 have hways : nn = 8 ∨ nn = 9 ∨ nn = 13 ∨ nn = 10 ∨ nn = 11 ∨ nn = 12 ∨ (¬ nn = 8 ∧ ¬ nn = 9 ∧ ¬ nn = 10 ∧ ¬ nn = 11 ∧ ¬ nn = 12 ∧ ¬ nn = 13):=by omega
 rcases hways with rfl|rfl|rfl|rfl|rfl|rfl|⟨q1,q2,q3,q4,q5,q6⟩
 ·go_upto_region 3 with (fail)
  go_wp2_with (first
   | ((with_reducible refine wpList_load_sc (s) (w.heap.size) (.tmp 2) rfl rfl ?_ ?_ ?_);(focus rfl);(focus (exact HB0.out)))
   | (go_at_call 106;refine (rsmove_ok (s) 4 1 _ (HOk1.out) (by omega)).mono ?_;rintro ee w2 ⟨r2,c2,b2,rfl,hrc2,hb2⟩;have HB12:=Lib.hid ((HB1.out).up hb2);have hbm2:=hb2;have hzm2:=hb2.size;have HRC2:=Lib.hid hrc2;clear hb2 hrc2)
   | ((with_reducible refine wpList_store_sc ({ s with row:=r2,col:=c2,wrap:=b2 } : Scr) (w.heap.size + 1) (.tmp 4) (.tmp 10) rfl rfl ?_ ?_ ?_ ?_);(focus rfl);(focus rfl);(focus (exact ⟨_,HB12.out,rfl⟩));intro w3 hS3 hg3;have HS3:=Lib.hid hS3;have HG3:=Lib.hid hg3;clear hS3 hg3)
   | fail)
  refine bodyPost_ret (results_sc2 rfl _ _ (w.heap.size + 1) ({ s with row:=r2,col:=c2,wrap:=b2 } : Scr) (by rfl) HS3.out) rfl ?_
  exact ⟨({ s with row:=r2,col:=c2,wrap:=b2 } : Scr),none,0,0,rfl,rfl,rfl,((HOk1.out.up hbm2).cur b2 HRC2.out).far HG3.out (ne_some HNe1.out),.inl rfl,Ls.nil_ _ _,(fun ad e => by cases e),by omega,by omega,by omega,Bw.grown (Bw.trans hbw hbm2) HG3.out (fun k hk => by cases hk;omega)⟩
 ·go_upto_region 5 with (fail)
  go_wp2_with (first
   | ((with_reducible refine wpList_load_sc (s) (w.heap.size) (.tmp 2) rfl rfl ?_ ?_ ?_);(focus rfl);(focus (exact HB0.out)))
   | (go_at_call 106;refine (rsmove_ok (s) 8 1 _ (HOk1.out) (by omega)).mono ?_;rintro ee w2 ⟨r2,c2,b2,rfl,hrc2,hb2⟩;have HB12:=Lib.hid ((HB1.out).up hb2);have hbm2:=hb2;have hzm2:=hb2.size;have HRC2:=Lib.hid hrc2;clear hb2 hrc2)
   | ((with_reducible refine wpList_store_sc ({ s with row:=r2,col:=c2,wrap:=b2 } : Scr) (w.heap.size + 1) (.tmp 4) (.tmp 14) rfl rfl ?_ ?_ ?_ ?_);(focus rfl);(focus rfl);(focus (exact ⟨_,HB12.out,rfl⟩));intro w3 hS3 hg3;have HS3:=Lib.hid hS3;have HG3:=Lib.hid hg3;clear hS3 hg3)
   | fail)
  refine bodyPost_ret (results_sc2 rfl _ _ (w.heap.size + 1) ({ s with row:=r2,col:=c2,wrap:=b2 } : Scr) (by rfl) HS3.out) rfl ?_
  exact ⟨({ s with row:=r2,col:=c2,wrap:=b2 } : Scr),none,0,0,rfl,rfl,rfl,((HOk1.out.up hbm2).cur b2 HRC2.out).far HG3.out (ne_some HNe1.out),.inl rfl,Ls.nil_ _ _,(fun ad e => by cases e),by omega,by omega,by omega,Bw.grown (Bw.trans hbw hbm2) HG3.out (fun k hk => by cases hk;omega)⟩
 ·go_upto_region 11 with (fail)
  go_wp2_with (first
   | ((with_reducible refine wpList_load_sc (s) (w.heap.size) (.tmp 2) rfl rfl ?_ ?_ ?_);(focus rfl);(focus (exact HB0.out)))
   | (go_at_call 106;refine (rsmove_ok (s) 5 0 _ (HOk1.out) (by omega)).mono ?_;rintro ee w2 ⟨r2,c2,b2,rfl,hrc2,hb2⟩;have HB12:=Lib.hid ((HB1.out).up hb2);have hbm2:=hb2;have hzm2:=hb2.size;have HRC2:=Lib.hid hrc2;clear hb2 hrc2)
   | ((with_reducible refine wpList_store_sc ({ s with row:=r2,col:=c2,wrap:=b2 } : Scr) (w.heap.size + 1) (.tmp 4) (.tmp 26) rfl rfl ?_ ?_ ?_ ?_);(focus rfl);(focus rfl);(focus (exact ⟨_,HB12.out,rfl⟩));intro w3 hS3 hg3;have HS3:=Lib.hid hS3;have HG3:=Lib.hid hg3;clear hS3 hg3)
   | fail)
  refine bodyPost_ret (results_sc2 rfl _ _ (w.heap.size + 1) ({ s with row:=r2,col:=c2,wrap:=b2 } : Scr) (by rfl) HS3.out) rfl ?_
  exact ⟨({ s with row:=r2,col:=c2,wrap:=b2 } : Scr),none,0,0,rfl,rfl,rfl,((HOk1.out.up hbm2).cur b2 HRC2.out).far HG3.out (ne_some HNe1.out),.inl rfl,Ls.nil_ _ _,(fun ad e => by cases e),by omega,by omega,by omega,Bw.grown (Bw.trans hbw hbm2) HG3.out (fun k hk => by cases hk;omega)⟩
 iterate 3
  ·go_upto_region 9 with (fail)
   go_wp2_with (first
    | ((with_reducible refine wpList_load_sc (s) (w.heap.size) (.tmp 2) rfl rfl ?_ ?_ ?_);(focus rfl);(focus (exact HB0.out)))
    | (go_at_call 104;refine (rsfeed_ok (s) _ (HOk1.out)).mono ?_;rintro ee w2 ⟨s',L,m,cap,e1,e2,rfl,hOk',hAn,hLs,hLn,hm,hmc,hcap,hb2⟩;have HB12:=Lib.hid ((HB1.out).up hb2);have hbm2:=hb2;have hzm2:=hb2.size;have HOk':=Lib.hid hOk';have HAn:=Lib.hid hAn;have HLs:=Lib.hid hLs;have HLn:=Lib.hid hLn;have HE:=Lib.hid (And.intro e1 e2);clear hOk' hAn hLs hLn hb2 e1 e2)
    | ((with_reducible refine wpList_store_sc (s') (w.heap.size + 1) (.tmp 4) (.tmp 21) rfl rfl ?_ ?_ ?_ ?_);(focus rfl);(focus rfl);(focus (exact ⟨_,HB12.out,rfl⟩));intro w3 hS3 hg3;have HS3:=Lib.hid hS3;have HG3:=Lib.hid hg3;clear hS3 hg3)
    | fail)
   refine bodyPost_ret (results_sc2 rfl _ _ (w.heap.size + 1) (s') (by rfl) HS3.out) rfl ?_
   have hAnw : An w s.A s'.A:=HAn.out.more (by omega)
   have hne : ∀ ad,s'.A = some ad → ad.block ≠ w.heap.size + 1:=HAn.out.ne (fun ad e => by have:=HAl.out ad e;omega) (by omega)
   have hnL : ∀ ad,L = some ad → w1.heap.size ≤ ad.block:=fun ad e => by have:=HLn.out ad e;first|omega|(simp at this;omega)
   exact ⟨s',L,m,cap,HE.out.1,HE.out.2,rfl,HOk'.out.far HG3.out (ne_some hne),hAnw,HLs.out.far HG3.out (ne_some (fun ad e => by have:=hnL ad e;omega)),fun ad e => by have:=hnL ad e;omega,hm,hmc,hcap,Bw.grown (Bw.trans hbw hbm2) HG3.out (fun k hk => by cases hk;omega)⟩
 ·have h1 : (nn == 8) = false:=by simpa using q1
  have h2 : (nn == 9) = false:=by simpa using q2
  have h3 : (nn == 10) = false:=by simpa using q3
  have h4 : (nn == 11) = false:=by simpa using q4
  have h5 : (nn == 12) = false:=by simpa using q5
  have h6 : (nn == 13) = false:=by simpa using q6
  clear q1 q2 q3 q4 q5 q6
  go_upto_region 12 with (fail)
  go_wp2_with (first
   | ((with_reducible refine wpList_load_sc (s) (w.heap.size) (.tmp 2) rfl rfl ?_ ?_ ?_);(focus rfl);(focus (exact HB0.out)))
   | ((with_reducible refine wpList_store_sc (s) (w.heap.size + 1) (.tmp 4) (.tmp 27) rfl rfl ?_ ?_ ?_ ?_);(focus rfl);(focus rfl);(focus (exact ⟨_,HB1.out,rfl⟩));intro w3 hS3 hg3;have HS3:=Lib.hid hS3;have HG3:=Lib.hid hg3;clear hS3 hg3)
   | fail)
  refine bodyPost_ret (results_sc2 rfl _ _ (w.heap.size + 1) (s) (by rfl) HS3.out) rfl ?_
  exact ⟨(s),none,0,0,rfl,rfl,rfl,HOk1.out.far HG3.out (ne_some HNe1.out),.inl rfl,Ls.nil_ _ _,(fun ad e => by cases e),by omega,by omega,by omega,Bw.grown (hbw) HG3.out (fun k hk => by cases hk;omega)⟩
set_option maxRecDepth 100000 in
set_option maxHeartbeats 4000000 in
theorem rsmargins_ok (s : Scr) (tp bt : Int) (w : World) (hs : s.Ok w) (ht : 1 ≤ tp) (hb9 : -1000000 ≤ bt ∧ bt ≤ 1000000 ∧ tp ≤ 1000000) : Calls Tryz.prog 114 #[.agg s.vals.toArray,.int .i64 tp,.int .i64 bt] w (ScO w s):=by
 obtain ⟨hb7,hb8,hb9⟩:=hb9
 have hR1:=hs.1.1
 have hC1:=hs.1.2.2.1
 have HOk:=Lib.hid hs
 have HAl:=Lib.hid hs.1.lt
 clear hs
 go_enter Tryz.func114,Tryz.ntmps114
 go_upto_region 1 with (fail)
 generalize hw1 : (w.alloc (.cells s.vals.toArray 34)).alloc _ = w1
 obtain ⟨hb0,hb1,hbw,hz⟩:=sb2 hw1
 have HB0:=Lib.hid hb0
 have HB1:=Lib.hid hb1
 have hz1 : w.heap.size + 1 < w1.heap.size:=by omega
 have HOk1:=Lib.hid (HOk.out.up hbw)
 have HNe0:=Lib.hid (show ∀ ad,s.A = some ad → ad.block ≠ w.heap.size from fun ad e => by have:=HAl.out ad e;omega)
 have HNe1:=Lib.hid (show ∀ ad,s.A = some ad → ad.block ≠ w.heap.size + 1 from fun ad e => by have:=HAl.out ad e;omega)
 have hne10 : w.heap.size + 1 ≠ w.heap.size:=by omega
 clear hw1 hb0 hb1 hz
 (have x0:=HB0.out.cell 0 (v:=.int .i64 (s.Rn : Int)) rfl;have x3:=HB0.out.cell 3 (v:=.int .i64 s.row) rfl;have x4:=HB0.out.cell 4 (v:=.int .i64 s.col) rfl;have x5:=HB0.out.cell 5 (v:=.bool s.wrap) rfl;have x9:=HB0.out.cell 9 (v:=.int .i64 s.top) rfl;have x10:=HB0.out.cell 10 (v:=.int .i64 s.bot) rfl)
 (have z3:=HB0.out.free 3;have z4:=HB0.out.free 4;have z5:=HB0.out.free 5;have z9:=HB0.out.free 9;have z10:=HB0.out.free 10)
 have hways : bt ≤ tp ∨ (tp < bt ∧ (s.Rn : Int) < bt) ∨ (tp < bt ∧ bt ≤ (s.Rn : Int)):=by omega
 rcases hways with q1|⟨q1,q2⟩|⟨q1,q2⟩
 ·go_wp2_with (first
   | ((with_reducible refine wpList_load_sc (s) (w.heap.size) (.tmp 3) rfl rfl ?_ ?_ ?_);(focus rfl);(focus (exact HB0.out)))
   | ((with_reducible refine wpList_store_sc (s) (w.heap.size + 1) (.tmp 6) (.tmp 25) rfl rfl ?_ ?_ ?_ ?_);(focus rfl);(focus rfl);(focus (exact ⟨_,HB1.out,rfl⟩));intro w3 hS3 hg3;have HS3:=Lib.hid hS3;have HG3:=Lib.hid hg3;clear hS3 hg3)
   | fail)
  refine bodyPost_ret (results_sc rfl _ _ (w.heap.size + 1) (s) (by rfl) HS3.out) rfl ?_
  exact ⟨(s),rfl,rfl,rfl,HOk1.out.far HG3.out (ne_some HNe1.out),.inl rfl,Bw.grown (hbw) HG3.out (fun k hk => by cases hk;omega)⟩
 ·go_wp2_with (first
   | ((with_reducible refine wpList_load_sc (s) (w.heap.size) (.tmp 3) rfl rfl ?_ ?_ ?_);(focus rfl);(focus (exact HB0.out)))
   | ((with_reducible refine wpList_store_sc (s) (w.heap.size + 1) (.tmp 6) (.tmp 25) rfl rfl ?_ ?_ ?_ ?_);(focus rfl);(focus rfl);(focus (exact ⟨_,HB1.out,rfl⟩));intro w3 hS3 hg3;have HS3:=Lib.hid hS3;have HG3:=Lib.hid hg3;clear hS3 hg3)
   | fail)
  refine bodyPost_ret (results_sc rfl _ _ (w.heap.size + 1) (s) (by rfl) HS3.out) rfl ?_
  exact ⟨(s),rfl,rfl,rfl,HOk1.out.far HG3.out (ne_some HNe1.out),.inl rfl,Bw.grown (hbw) HG3.out (fun k hk => by cases hk;omega)⟩
 ·go_wp2_with (first
   | ((with_reducible refine wpList_load_sc ({ s with top:=tp - 1,bot:=bt - 1,row:=0,col:=0,wrap:=false } : Scr) (w.heap.size) (.tmp 3) rfl rfl ?_ ?_ ?_);(focus rfl);(focus (exact ((((HB0.out.set 9 _ rfl).set 10 _ rfl).set 3 _ rfl).set 4 _ rfl).set 5 _ rfl)))
   | ((with_reducible refine wpList_store_sc ({ s with top:=tp - 1,bot:=bt - 1,row:=0,col:=0,wrap:=false } : Scr) (w.heap.size + 1) (.tmp 6) (.tmp 25) rfl rfl ?_ ?_ ?_ ?_);(focus rfl);(focus rfl);(focus (exact ⟨_,(((((HB1.out).away hne10 _).away hne10 _).away hne10 _).away hne10 _).away hne10 _,rfl⟩));intro w3 hS3 hg3;have HS3:=Lib.hid hS3;have HG3:=Lib.hid hg3;clear hS3 hg3)
   | fail)
  have hO : s.Ok w3:=((((((HOk1.out).away HNe0.out _ _).away HNe0.out _ _).away HNe0.out _ _).away HNe0.out _ _).away HNe0.out _ _).far HG3.out (ne_some HNe1.out)
  refine bodyPost_ret (results_sc rfl _ _ (w.heap.size + 1) ({ s with top:=tp - 1,bot:=bt - 1,row:=0,col:=0,wrap:=false } : Scr) (by rfl) HS3.out) rfl ?_
  exact ⟨({ s with top:=tp - 1,bot:=bt - 1,row:=0,col:=0,wrap:=false } : Scr),rfl,rfl,rfl,⟨hO.1,⟨by show (0 : Int) ≤ 0;omega,by show (0 : Int) < (s.Rn : Int);omega,by show (0 : Int) ≤ 0;omega,by show (0 : Int) < (s.Cn : Int);omega⟩,hO.2.2.1,⟨by show 0 ≤ tp - 1;omega,by show tp - 1 ≤ bt - 1;omega,by show bt - 1 < (s.Rn : Int);omega⟩,hO.2.2.2.2⟩,.inl rfl,Bw.grown (show Bw w _ from BWX) HG3.out (fun k hk => by cases hk;omega)⟩
end Go.Proofs.YtkflooljdopldaaGreat
