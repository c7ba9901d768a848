/- Parts of the proof, one after the other. -/
import Derived.Test.YteebdjmjeahccaaGreatDoorC11
import Derived.Deep.RegionHeld3
import Derived.Laws.Rows
import Derived.Laws.Tables
set_option linter.unusedSimpArgs false
set_option linter.unusedVariables false
set_option maxRecDepth 100000
set_option maxHeartbeats 16000000
namespace Go.Proofs.YteebdjmjeahccaaGreatDoor
open Go.RowKit
theorem rsall_any (rows : Int) (w : World) (h : 1 ≤ rows) (h2 : rows ≤ 1000) : Calls Tryz.prog 74 #[.int .i64 rows] w fun e w' => e = .returned (.agg #[.int .i64 0,.int .i64 (rows - 1)]) ∧ Bw w w':=by
 go_enter Tryz.func74,Tryz.ntmps74
 go_wp2_with fail
 refine bodyPost_ret (by simp [results,Tryz.results74,go_sem];rfl) rfl ?_
 exact ⟨rfl,BWX⟩
theorem mv_bd {r c : Int} {b : Bool} {kind n t m : Int} {rows cols : Nat} (h : 0 ≤ r ∧ r < rows ∧ 0 ≤ c ∧ c < cols) (hm : 0 ≤ t ∧ t ≤ m ∧ m < rows) :
  0 ≤ (mv r c b kind n t m rows cols).1 ∧ (mv r c b kind n t m rows cols).1 < rows ∧ 0 ≤ (mv r c b kind n t m rows cols).2.1 ∧ (mv r c b kind n t m rows cols).2.1 < cols:=by
 unfold mv tabN
 repeat' split
 all_goals (dsimp only)
 all_goals (try (split <;> omega))
 all_goals (try omega)
/-- Block g is a variable, known whole. -/
def Sb (w : World) (g : Nat) (cs : Array Value) (T : TypeId) : Prop:=w.heap[g]? = some (.cells cs T (0,0))
theorem Sb.lt {w : World} {g : Nat} {cs : Array Value} {T : TypeId} (h : Sb w g cs T) : g < w.heap.size:=lt_of_block h
theorem Sb.up {w w' : World} {g : Nat} {cs : Array Value} {T : TypeId} (h : Sb w g cs T) (hb : Bw w w') : Sb w' g cs T:=(hb.block g h.lt).trans h
theorem Sb.cell {w : World} {g : Nat} {cs : Array Value} {T : TypeId} (h : Sb w g cs T) (i : Nat) {v : Value} (hv : cs[i]? = some v) : w.cell? ⟨g,i,none⟩ = some v:=by rw [cell_of_row w g i cs T (0,0) h];exact hv
theorem Sb.free {w : World} {g : Nat} {cs : Array Value} {T : TypeId} (h : Sb w g cs T) (i : Nat) : w.frozen? ⟨g,i,none⟩ = false:=frozen_of_row w g i cs T h
theorem Sb.set {w : World} {g : Nat} {cs cs' : Array Value} {T : TypeId} (h : Sb w g cs T) (i : Nat) (u : Value) (hc : cs.setIfInBounds i u = cs') : Sb (w.setCell ⟨g,i,none⟩ u) g cs' T:=by
 subst hc
 have hlt:=h.lt
 have h' : w.heap[g] = .cells cs T (0,0):=by simpa [Array.getElem?_eq_getElem hlt] using (show w.heap[g]? = _ from h)
 show (w.heap.modify g _)[g]? = _
 rw [Array.getElem?_eq_getElem (by simpa using hlt),Array.getElem_modify_self,h']
 simp
theorem Sb.away {w : World} {g h j : Nat} {cs : Array Value} {T : TypeId} (hW : Sb w g cs T) (hne : g ≠ h) (v : Value) : Sb (w.setCell ⟨h,j,none⟩ v) g cs T:=(Below.heap_setCell _ _ _ _ hne).trans hW
theorem sb2 {w w1 : World} {a b : Array Value} {T T' : TypeId} (h : (w.alloc (.cells a T)).alloc (.cells b T') = w1) : Sb w1 w.heap.size a T ∧ Sb w1 (w.heap.size + 1) b T' ∧ Bw w w1 ∧ w1.heap.size = w.heap.size + 2:=by
 subst h
 refine ⟨?_,heap_at (by simp),BWX,by simp⟩
 exact (Below.heap_alloc _ _ _ (by simp)).trans (heap_at rfl)
/-- The call returns the screen with another cursor. -/
def MvP (w : World) (s : Scr) (e : Ending) (w' : World) : Prop:=∃ (r c : Int) (b : Bool),e = .returned (.agg ({ s with row:=r,col:=c,wrap:=b } : Scr).vals.toArray) ∧ (0 ≤ r ∧ r < s.Rn ∧ 0 ≤ c ∧ c < s.Cn) ∧ Bw w w'
theorem Scr.Ok.cur {w : World} {s : Scr} (h : s.Ok w) {r c : Int} (b : Bool) (hrc : 0 ≤ r ∧ r < s.Rn ∧ 0 ≤ c ∧ c < s.Cn) : ({ s with row:=r,col:=c,wrap:=b } : Scr).Ok w:=⟨h.1,hrc,h.2.2⟩
theorem infoSc : (Tryz.prog.info? 46).map (·.size) = some 19:=by kernel_rfl
theorem infoSz (s : Scr) : (Tryz.prog.info? 46).map (·.size) = some s.vals.toArray.size:=infoSc
theorem Scr.one (s : Scr) : s.vals.toArray.all (·.oneCell') = true:=all_oneCell_toArray (fun v hv => by
 unfold Scr.vals at hv
 simp only [List.mem_cons,List.not_mem_nil,or_false] at hv
 rcases hv with rfl|rfl|rfl|rfl|rfl|rfl|rfl|rfl|rfl|rfl|rfl|rfl|rfl|rfl|rfl|rfl|rfl|rfl|rfl <;> rfl)
/-- The load of a screen out of its box. -/
theorem wpList_load_sc {ops : Array Oper} {rest : List Oper} {o : Oper} {a : Act} {w : World} {Q : Exit → Act → World → Prop} (s : Scr) (g : Nat) (x : Operand) (ho : o.op = .load 46 x) (hgd : o.guard = none)
  (hx : a.eval x = .pointer (some ⟨g,0,none⟩)) (hg : Sb w g s.vals.toArray 46)
  (h : wpList Tryz.prog ops Q rest (a.put o.dst (.agg s.vals.toArray)) w) : wpList Tryz.prog ops Q (o :: rest) a w :=
 wpList_load_row hgd 46 x ho g hx 46 s.vals.toArray (0,0) _ hg Tryz.underlying46 rfl (infoSz s) h
/-- The store of a screen into a box. -/
theorem wpList_store_sc {ops : Array Oper} {rest : List Oper} {o : Oper} {a : Act} {w : World} {Q : Exit → Act → World → Prop} (s : Scr) (g : Nat) (x y : Operand) (ho : o.op = .store 46 x y) (hgd : o.guard = none)
  (hx : a.eval x = .pointer (some ⟨g,0,none⟩)) (hy : a.eval y = .agg s.vals.toArray) (hg : ∃ old,Sb w g old 46 ∧ old.size = 19)
  (h : ∀ w',Sb w' g s.vals.toArray 46 → w.grownBy w' (some g) → wpList Tryz.prog ops Q rest (a.put o.dst undef) w') : wpList Tryz.prog ops Q (o :: rest) a w:=by
 obtain ⟨old,hg,hold⟩:=hg
 exact wpList_store_row hgd 46 x y ho g s.vals.toArray hx hy 46 old hg (infoSz s) hold s.one
  (h _ (setRow_heap w g old _ _ _ hg) ⟨rfl,rfl,rfl,by simp [World.setRow],fun k hk hne => setRow_other w g k _ (fun e => hne (by rw [e]))⟩)
theorem Sb.far {w w' : World} {g : Nat} {row : Option Nat} {cs : Array Value} {T : TypeId} (h : Sb w g cs T) (hg : w.grownBy w' row) (hne : some g ≠ row) : Sb w' g cs T:=(hg.block g h.lt hne).trans h
theorem results_sc {fn : Func} {p : Tmp} (h : fn.results = #[.cell p 46]) (tmps : Array Value) (w : World) (g : Nat) (s : Scr) (hp : tmps.getD p undef = .pointer (some ⟨g,0,none⟩)) (hg : Sb w g s.vals.toArray 46) :
  (results fn tmps).run Tryz.prog w = .ok (.agg s.vals.toArray) w:=results_cell_row h tmps w g 46 s.vals.toArray (0,0) _ hp hg Tryz.underlying46 rfl (infoSz s)
theorem results_sc2 {fn : Func} {p q : Tmp} (h : fn.results = #[.cell p 46,.tmp q]) (tmps : Array Value) (w : World) (g : Nat) (s : Scr) (hp : tmps.getD p undef = .pointer (some ⟨g,0,none⟩)) (hg : Sb w g s.vals.toArray 46) :
  (results fn tmps).run Tryz.prog w = .ok (.tuple #[.agg s.vals.toArray,tmps.getD q undef]) w:=by
 have hp' : tmps[p]?.getD undef = .pointer (some ⟨g,0,none⟩):=by simpa using hp
 simp [results,h,hp',asAddr,run_loadVar_row w g 46 46 s.vals.toArray (0,0) _ hg Tryz.underlying46 rfl (infoSz s)]
theorem rsmove_ok (s : Scr) (kind k : Int) (w : World) (hs : s.Ok w) (hk : k ≤ 9223372036854775807) : Calls Tryz.prog 104 #[.agg s.vals.toArray,.int .i64 kind,.int .i64 k] w (MvP w s):=by
 have HMV:=Lib.hid (mv_bd (b:=s.wrap) (kind:=kind) (n:=k) hs.2.1 hs.2.2.2.1)
 obtain ⟨⟨h1,h2,h3,h4,-,-,-,-⟩,-⟩:=hs
 obtain ⟨⟨r',c',b'⟩,hmv⟩ : ∃ x,mv s.row s.col s.wrap kind k s.top s.bot s.Rn s.Cn = x:=⟨_,rfl⟩
 rw [hmv] at HMV
 have HM:=Lib.hid hmv
 clear hmv
 go_enter Tryz.func104,Tryz.ntmps104
 go_upto_region 1 with (fail)
 generalize hw1 : (w.alloc (.cells s.vals.toArray 46)).alloc _ = w1
 obtain ⟨hb0,hb1,hbw,hz⟩:=sb2 hw1
 have HB0:=Lib.hid hb0
 have HB1:=Lib.hid hb1
 have hz1 : w.heap.size + 1 < w1.heap.size:=by omega
 clear hw1 hb0 hb1 hz
 (have x0:=HB0.out.cell 0 (v:=.int .i64 (s.Rn : Int)) rfl;have x1:=HB0.out.cell 1 (v:=.int .i64 (s.Cn : Int)) rfl;have x3:=HB0.out.cell 3 (v:=.int .i64 s.row) rfl;have x4:=HB0.out.cell 4 (v:=.int .i64 s.col) rfl;have x5:=HB0.out.cell 5 (v:=.bool s.wrap) rfl;have x9:=HB0.out.cell 9 (v:=.int .i64 s.top) rfl;have x10:=HB0.out.cell 10 (v:=.int .i64 s.bot) rfl)
 go_wp2_with (first
  | (go_at_call 118;refine (rmove_any s.row s.col s.wrap kind k s.top s.bot s.Rn s.Cn _ (by omega) (by omega) hk).mono ?_;rintro ee w2 ⟨rfl,hb⟩;rw [HM.out];dsimp only [curV];have HC0:=Lib.hid (HB0.out.up hb);have HC1:=Lib.hid (HB1.out.up hb);have hbw2 : Bw w w2:=hbw.trans hb;have hz2:=Nat.lt_of_lt_of_le hz1 hb.size;clear hb x0 x1 x3 x4 x5 x9 x10;(have x3:=HC0.out.cell 3 (v:=.int .i64 s.row) rfl;have x4:=HC0.out.cell 4 (v:=.int .i64 s.col) rfl;have x5:=HC0.out.cell 5 (v:=.bool s.wrap) rfl);(have z3:=HC0.out.free 3;have z4:=HC0.out.free 4;have z5:=HC0.out.free 5))
  | ((with_reducible refine wpList_load_sc ({ s with row:=r',col:=c',wrap:=b' } : Scr) w.heap.size (.tmp 3) rfl rfl ?_ ?_ ?_);(focus rfl);(focus (exact ((HC0.out.set 3 _ rfl).set 4 _ rfl).set 5 _ rfl)))
  | ((with_reducible refine wpList_store_sc ({ s with row:=r',col:=c',wrap:=b' } : Scr) (w.heap.size + 1) (.tmp 6) (.tmp 21) rfl rfl ?_ ?_ ?_ ?_);(focus rfl);(focus rfl);(focus (exact ⟨_,((HC1.out.away (by omega) _).away (by omega) _).away (by omega) _,rfl⟩));intro w3 hS3 hg3;have hbw3 : Bw w w3:=Bw.grown (show Bw w _ from BWX) hg3 (fun k hk => by cases hk;omega);have HS3:=Lib.hid hS3;clear hS3 hg3)
  | fail)
 refine bodyPost_ret (results_sc rfl _ _ (w.heap.size + 1) ({ s with row:=r',col:=c',wrap:=b' } : Scr) (by rfl) HS3.out) rfl ?_
 exact ⟨r',c',b',rfl,HMV.out,hbw3⟩
theorem gridB_tab {Rn Cn : Nat} {F : Nat → Nat → C4} (h1 : 1 ≤ Rn) (h2 : Rn ≤ 30) (h3 : 1 ≤ Cn) (h4 : Cn ≤ 100) (hF : ∀ r k,r < Rn → k < Cn → cellB (F r k) = true) : gridB Rn Cn (tab Rn Cn F) = true:=by
 unfold gridB
 rw [Bool.and_eq_true]
 refine ⟨decide_eq_true ⟨by omega,by omega,by omega,by omega,?_⟩,?_⟩
 ·rw [show (tab Rn Cn F).length = Rn * Cn from tabK_len _ _ _];simp
 ·rw [List.all_eq_true]
  intro x hx
  unfold tab tabK at hx
  obtain ⟨i,hi,rfl⟩:=List.mem_map.1 hx
  have hi2 : i < Rn * Cn:=List.mem_range.1 hi
  exact hF _ _ (Nat.div_lt_of_lt_mul (by rw [Nat.mul_comm];exact hi2)) (Nat.mod_lt _ (by omega))
theorem atF_ok {Rn Cn : Nat} {cs : List C4} {r k : Int} {d : C4} (hc : cs.all cellB = true) (hd : cellB d = true) : cellB (atF Rn Cn cs r k d) = true:=by
 unfold atF
 split
 ·rw [List.getD_eq_getElem?_getD]
  cases h : cs[r.toNat * Cn + k.toNat]? with
  | none => simpa using hd
  | some x => simpa using List.all_eq_true.1 hc x (List.mem_of_getElem? h)
 ·exact hd
theorem gridB_all {R C : Int} {cs : List C4} (h : gridB R C cs = true) : cs.all cellB = true:=by
 unfold gridB at h
 rw [Bool.and_eq_true] at h
 exact h.2
theorem fillF_ok {Rn Cn : Nat} {cs : List C4} {row fr tt : Int} {d : C4} (hc : cs.all cellB = true) (hd : cellB d = true) (r k : Nat) : cellB (fillF Rn Cn cs row fr tt d r k) = true:=by
 unfold fillF;split
 ·exact hd
 ·exact atF_ok hc hd
theorem scrollF_ok {Rn Cn : Nat} {cs : List C4} {tp bt nn : Int} {d : C4} (hc : cs.all cellB = true) (hd : cellB d = true) (r k : Nat) : cellB (scrollF Rn Cn cs tp bt nn d r k) = true:=by
 unfold scrollF;split
 ·split
  ·exact atF_ok hc hd
  ·exact hd
 ·exact atF_ok hc hd
theorem shiftF_ok {Rn Cn : Nat} {cs : List C4} {row col nn : Int} {d : C4} (hc : cs.all cellB = true) (hd : cellB d = true) (r k : Nat) : cellB (shiftF Rn Cn cs row col nn d r k) = true:=by
 unfold shiftF;split
 ·split
  ·exact atF_ok hc hd
  ·exact hd
 ·exact atF_ok hc hd
theorem blankC_ok {f g b : Int} (h : avB f g b = true) : cellB (32,0,0,b) = true:=by
 have hv : 0 ≤ f ∧ f ≤ 7 ∧ 0 ≤ g ∧ g ≤ 16 ∧ 0 ≤ b ∧ b ≤ 16:=of_decide_eq_true h
 unfold cellB runeB avB
 dsimp only
 rw [decide_eq_true (by omega),decide_eq_true (by omega)]
 rfl
theorem gridB_rep {Rn Cn : Nat} (h1 : 1 ≤ Rn) (h2 : Rn ≤ 30) (h3 : 1 ≤ Cn) (h4 : Cn ≤ 100) : gridB Rn Cn (List.replicate (Rn * Cn) blk) = true:=by
 unfold gridB
 rw [Bool.and_eq_true]
 refine ⟨decide_eq_true ⟨by omega,by omega,by omega,by omega,by simp⟩,?_⟩
 rw [List.all_eq_true]
 intro x hx
 rw [List.eq_of_mem_replicate hx]
 decide
/-- The screen with another grid of the same size. -/
def Scr.gr (s : Scr) (A : Option Addr) (n c : Nat) : Scr:={ s with A:=A,n:=n,c:=c }
/-- A new grid that a call has made: valid. -/
def Gn (w : World) (Rn Cn : Nat) (e : Ending) (w' : World) : Prop :=
 ∃ A n c,e = .returned (.agg #[.int .i64 Rn,.int .i64 Cn,.slice A n c]) ∧ Gok w' Rn Cn A n c ∧ (∀ ad,A = some ad → w.heap.size ≤ ad.block) ∧ Bw w w'
theorem GrN.gn {w : World} {Rn Cn : Nat} {F : Nat → Nat → C4} {e : Ending} {w' : World} (h : GrN w Rn Cn (tab Rn Cn F) e w') (h1 : 1 ≤ Rn) (h2 : Rn ≤ 30) (h3 : 1 ≤ Cn) (h4 : Cn ≤ 100) (hF : ∀ r k,cellB (F r k) = true) : Gn w Rn Cn e w':=by
 obtain ⟨A,n,c,k1,k2,k3,k4,k5,k6⟩:=h
 exact ⟨A,n,c,k1,⟨h1,h2,h3,h4,by rw [← k2.1];exact tabK_len _ _ _,k3,k4,_,k2,gridB_tab h1 h2 h3 h4 (fun r k _ _ => hF r k)⟩,k5,k6⟩
theorem Gok.away {w : World} {Rn Cn : Nat} {A : Option Addr} {n c h : Nat} (hg : Gok w Rn Cn A n c) (hne : ∀ ad,A = some ad → ad.block ≠ h) (j : Nat) (v : Value) : Gok (w.setCell ⟨h,j,none⟩ v) Rn Cn A n c:=by
 obtain ⟨h1,h2,h3,h4,h5,h6,h7,cs,h8,h9⟩:=hg
 exact ⟨h1,h2,h3,h4,h5,h6,h7,cs,h8.away hne j v,h9⟩
theorem Gok.lt {w : World} {Rn Cn : Nat} {A : Option Addr} {n c : Nat} (hg : Gok w Rn Cn A n c) : ∀ ad,A = some ad → ad.block < w.heap.size:=by
 intro ad e
 obtain ⟨h1,h2,h3,h4,h5,h6,h7,cs,h8,h9⟩:=hg
 have h0 : 0 < n:=by rw [h5];exact Nat.mul_pos (by omega) (by omega)
 obtain ⟨g,o,e2,hx⟩:=h8.2 h0
 rw [e] at e2
 cases e2
 have:=lt_of_cell (hx 0 (by rw [h8.1];exact h0)).1
 simpa using this
theorem Gok.far {w w' : World} {Rn Cn : Nat} {A : Option Addr} {n c : Nat} {row : Option Nat} (hg : Gok w Rn Cn A n c) (hgr : w.grownBy w' row) (hne : ∀ ad,A = some ad → some ad.block ≠ row) : Gok w' Rn Cn A n c:=by
 have hlt:=hg.lt
 obtain ⟨h1,h2,h3,h4,h5,h6,h7,cs,h8,h9⟩:=hg
 refine ⟨h1,h2,h3,h4,h5,h6,h7,cs,⟨h8.1,fun h0 => ?_⟩,h9⟩
 obtain ⟨g,o,e,hx⟩:=h8.2 h0
 have hb:=hgr.block g (hlt _ e) (hne _ e)
 have key : ∀ i u,w.cell? ⟨g,i,none⟩ = some u → w'.cell? ⟨g,i,none⟩ = some u:=fun i u hu => (World.cell?_of_block (a:=⟨g,i,none⟩) hb).trans hu
 exact ⟨g,o,e,fun i hi => ⟨key _ _ (hx i hi).1,key _ _ (hx i hi).2.1,key _ _ (hx i hi).2.2.1,key _ _ (hx i hi).2.2.2⟩⟩
/-- Fill, Scroll and Shift of a valid grid, as validity sees them. -/
theorem rfill_ok (Rn Cn : Nat) (A : Option Addr) (n c : Nat) (row fr tt d1 d2 d3 d4 : Int) (w : World) (hg : Gok w Rn Cn A n c) (hd : cellB (d1,d2,d3,d4) = true) :
  Calls Tryz.prog 103 #[.agg #[.int .i64 Rn,.int .i64 Cn,.slice A n c],.int .i64 row,.int .i64 fr,.int .i64 tt,.agg #[.int .i64 d1,.int .i64 d2,.int .i64 d3,.int .i64 d4]] w (Gn w Rn Cn):=by
 obtain ⟨h1,h2,h3,h4,h5,h6,h7,cs,h8,h9⟩:=hg
 exact (rfill_go Rn Cn A n c cs row fr tt d1 d2 d3 d4 w h1 h2 h3 h4 h5 h8 h6 h7 h9 hd).mono fun _ _ h => h.gn h1 h2 h3 h4 (fillF_ok (gridB_all h9) hd)
theorem rscroll_ok (Rn Cn : Nat) (A : Option Addr) (n c : Nat) (tp bt num d1 d2 d3 d4 : Int) (w : World) (hg : Gok w Rn Cn A n c) (hd : cellB (d1,d2,d3,d4) = true) (ht : 0 ≤ tp ∧ tp ≤ bt ∧ bt < (Rn : Int)) :
  Calls Tryz.prog 73 #[.agg #[.int .i64 Rn,.int .i64 Cn,.slice A n c],.int .i64 tp,.int .i64 bt,.int .i64 num,.agg #[.int .i64 d1,.int .i64 d2,.int .i64 d3,.int .i64 d4]] w (Gn w Rn Cn):=by
 obtain ⟨h1,h2,h3,h4,h5,h6,h7,cs,h8,h9⟩:=hg
 exact (rscroll_go Rn Cn A n c cs tp bt num d1 d2 d3 d4 w h1 h2 h3 h4 h5 h8 h6 h7 h9 hd ht.1 ht.2.1 ht.2.2).mono fun _ _ h => h.gn h1 h2 h3 h4 (scrollF_ok (gridB_all h9) hd)
theorem rshift_ok (Rn Cn : Nat) (A : Option Addr) (n c : Nat) (row col num d1 d2 d3 d4 : Int) (w : World) (hg : Gok w Rn Cn A n c) (hd : cellB (d1,d2,d3,d4) = true) (ht : 0 ≤ row ∧ row < (Rn : Int) ∧ 0 ≤ col ∧ col < (Cn : Int)) :
  Calls Tryz.prog 109 #[.agg #[.int .i64 Rn,.int .i64 Cn,.slice A n c],.int .i64 row,.int .i64 col,.int .i64 num,.agg #[.int .i64 d1,.int .i64 d2,.int .i64 d3,.int .i64 d4]] w (Gn w Rn Cn):=by
 obtain ⟨h1,h2,h3,h4,h5,h6,h7,cs,h8,h9⟩:=hg
 exact (rshift_go Rn Cn A n c cs row col num d1 d2 d3 d4 w h1 h2 h3 h4 h5 h8 h6 h7 h9 hd ht.1 ht.2.1 ht.2.2.1 ht.2.2.2).mono fun _ _ h => h.gn h1 h2 h3 h4 (shiftF_ok (gridB_all h9) hd)
theorem infoL : (Tryz.prog.info? 23).map (fun i => (i.zero,i.size,i.bytes)) = some (some (.slice none 0 0),1,24):=by kernel_rfl
/-- The cells' address is the same, or in new memory. -/
def An (w : World) (A A' : Option Addr) : Prop:=A' = A ∨ ∀ ad,A' = some ad → w.heap.size ≤ ad.block
theorem An.ne {w : World} {A A' : Option Addr} {B : Nat} (h : An w A A') (hA : ∀ ad,A = some ad → ad.block < B) (hB : B < w.heap.size) : ∀ ad,A' = some ad → ad.block ≠ B:=by
 intro ad e
 rcases h with h|h
 ·have:=hA ad (by rw [← h];exact e);omega
 ·have:=h ad e;omega
theorem An.more {w w0 : World} {A A' : Option Addr} (h : An w A A') (hw : w0.heap.size ≤ w.heap.size) : An w0 A A':=by
 rcases h with h|h
 ·exact .inl h
 ·exact .inr (fun ad e => Nat.le_trans hw (h ad e))
theorem An.trans {w w1 : World} {A A1 A2 : Option Addr} (h : An w A A1) (k : An w1 A1 A2) (hw : w.heap.size ≤ w1.heap.size) : An w A A2:=by
 rcases k with k|k
 ·rw [k];exact h
 ·exact .inr (fun ad e => Nat.le_trans hw (k ad e))
/-- A list of lines of m elements, whatever they are. -/
def Ls (w : World) (L : Option Addr) (m : Nat) : Prop:=∃ vs : List Value,Rd (fun v => v) w L m vs ∧ ∀ v ∈ vs,v.oneCell' = true
theorem Ls.up {w w' : World} {L : Option Addr} {m : Nat} (h : Ls w L m) (hb : Bw w w') : Ls w' L m:=by
 obtain ⟨vs,h1,h2⟩:=h
 exact ⟨vs,h1.up hb,h2⟩
theorem Ls.far {w w' : World} {L : Option Addr} {m : Nat} {row : Option Nat} (h : Ls w L m) (hg : w.grownBy w' row) (hne : ∀ ad,L = some ad → some ad.block ≠ row) : Ls w' L m:=by
 obtain ⟨vs,h1,h2⟩:=h
 refine ⟨vs,⟨h1.1,fun h0 => ?_⟩,h2⟩
 obtain ⟨g,o,e,hx⟩:=h1.2 h0
 have hlt : g < w.heap.size:=by have:=lt_of_cell (hx 0 (by rw [h1.1];exact h0));simpa using this
 refine ⟨g,o,e,fun i hi => (World.cell?_of_block (a:=⟨g,o + i,none⟩) (hg.block g hlt (by have:=hne _ e;exact this))).trans (hx i hi)⟩
theorem Ls.of_own {w : World} {base : Nat} {e : TypeId} {A : Option Addr} {n c m : Nat} {vs : List Value} (h : w.ownsRow base e 1 (.slice A n c) m vs) (h1 : ∀ v ∈ vs,v.oneCell' = true) : Ls w A n :=
 ⟨vs,own_rd (f:=fun v => v) (by rw [List.map_id'];exact h),h1⟩
theorem Ls.nil_ (w : World) (A : Option Addr) : Ls w A 0:=⟨[],Rd.nil_ _ _,by simp⟩
/-- The call returns a valid screen of the size of s, and lines. -/
def ScL (w : World) (s : Scr) (e : Ending) (w' : World) : Prop :=
 ∃ (s' : Scr) (L : Option Addr) (m cap : Nat),s'.Rn = s.Rn ∧ s'.Cn = s.Cn ∧ e = .returned (.tuple #[.agg s'.vals.toArray,.slice L m cap]) ∧ s'.Ok w' ∧ An w s.A s'.A ∧ Ls w' L m ∧ (∀ ad,L = some ad → w.heap.size ≤ ad.block) ∧ m ≤ 31 ∧ m ≤ cap ∧ cap ≤ 9223372036854775807 ∧ Bw w w'
theorem rsup_ok (s : Scr) (nn : Int) (w : World) (hs : s.Ok w) (hn0 : -1000000 ≤ nn) (hn1 : nn ≤ 1000000) : Calls Tryz.prog 110 #[.agg s.vals.toArray,.int .i64 nn] w (ScL w s):=by
 have HOk:=Lib.hid hs
 have HG:=Lib.hid hs.1
 have HBl:=Lib.hid (blankC_ok hs.2.2.1)
 obtain ⟨⟨h1,h2,h3,h4,h5,h6,h7,cs,hcs,-⟩,-,-,⟨t0,t1,t2⟩,-,-⟩:=hs
 have HCS:=Lib.hid hcs
 have hn3 : s.n ≤ 3000:=by rw [h5];have:=Nat.mul_le_mul h2 h4;omega
 obtain ⟨j0,hj,hj0,hj1,hj2⟩:=info_parts infoL
 clear hcs h5
 go_enter Tryz.func110,Tryz.ntmps110
 go_upto_region 1 with (fail)
 generalize hw1 : (w.alloc (.cells s.vals.toArray 46)).alloc _ = w1
 obtain ⟨hb0,hb1,hbw,hz⟩:=sb2 hw1
 have HB0:=Lib.hid hb0
 have HB1:=Lib.hid hb1
 have hz1 : w.heap.size + 1 < w1.heap.size:=by omega
 clear hw1 hb0 hb1 hz
 (have x9:=HB0.out.cell 9 (v:=.int .i64 s.top) rfl;have x10:=HB0.out.cell 10 (v:=.int .i64 s.bot) rfl)
 go_wp2_with fail
 have HM:=Lib.hid (show Sb (w1.alloc (.cells #[.int .i64 s.top,.int .i64 s.bot] 44)) w1.heap.size #[.int .i64 s.top,.int .i64 s.bot] 44 from heap_at rfl)
 clear x9 x10
 go_loopw [6,8] (fun v i wr => ∃ (k : Nat) (vs : List Value),i = .int .i64 k ∧ (k : Int) ≤ s.bot + 1 ∧ wr.ownsRow (w1.heap.size + 1) 23 1 v k vs ∧ (∀ v ∈ vs,v.oneCell' = true) ∧ Bw (w1.alloc (.cells #[.int .i64 s.top,.int .i64 s.bot] 44)) wr) (fun _ i _ => (s.bot + 1 - intOf i).toNat)
 case atStart => exact ⟨0,[],rfl,by omega,World.ownsRow_nil _ _ _ _,by simp,BWX⟩
 case round =>
  obtain ⟨k,vs,rfl,hk,hown,hone,hbwr⟩:=hrel
  obtain ⟨A6,c6,rfl,hc6,hc6m⟩:=own_form hown
  have HO:=Lib.hid hown
  have HOne:=Lib.hid hone
  have hbw1 : Bw w1 wr:=Bw.trans (show Bw w1 (w1.alloc _) from BWX) hbwr
  have hbw0 : Bw w wr:=Bw.trans hbw hbw1
  have HB0r:=Lib.hid (HB0.out.up hbw1)
  have HB1r:=Lib.hid (HB1.out.up hbw1)
  have HMr:=Lib.hid (HM.out.up hbwr)
  have hzr : w1.heap.size < wr.heap.size:=HMr.out.lt
  have y0:=HMr.out.cell 0 (v:=.int .i64 s.top) rfl
  have y1:=HMr.out.cell 1 (v:=.int .i64 s.bot) rfl
  (have x0:=HB0r.out.cell 0 (v:=.int .i64 (s.Rn : Int)) rfl;have x1:=HB0r.out.cell 1 (v:=.int .i64 (s.Cn : Int)) rfl;have x2:=HB0r.out.cell 2 (v:=.slice s.A s.n s.c) rfl)
  clear hown hone
  obtain ⟨t,ht⟩ : ∃ t,t = decide ((k : Int) < nn ∧ (k : Int) ≤ s.bot ∧ s.top = 0):=⟨_,rfl⟩
  have HT:=Lib.hid ht
  clear ht
  go_upto_region 4 with (fail)
  go_cut [24] (fun v w' => v = .bool t ∧ wr = w')
  case first =>
   have hways : nn ≤ (k : Int) ∨ ((k : Int) < nn ∧ s.bot < (k : Int)) ∨ ((k : Int) < nn ∧ (k : Int) ≤ s.bot ∧ ¬ s.top = 0) ∨ ((k : Int) < nn ∧ (k : Int) ≤ s.bot ∧ s.top = 0):=by omega
   rcases hways with c1|⟨c1,c2⟩|⟨c1,c2,c3⟩|⟨c1,c2,c3⟩
   ·go_wp2_with fail
    go_meet
    case rel => exact ⟨congrArg Value.bool (by rw [HT.out];symm;exact decide_eq_false (by omega)),rfl⟩
   ·go_wp2_with fail
    go_meet
    case rel => exact ⟨congrArg Value.bool (by rw [HT.out];symm;exact decide_eq_false (by omega)),rfl⟩
   ·have c4 : (s.top == 0) = false:=by simpa using c3
    go_wp2_with fail
    go_meet
    case rel => exact ⟨congrArg Value.bool (by rw [HT.out];symm;exact decide_eq_false (by omega)),rfl⟩
   ·have c4 : (s.top == 0) = true:=by simpa using c3
    have HTT:=Lib.hid (show t = true by rw [HT.out];exact decide_eq_true ⟨c1,c2,c3⟩)
    clear c3
    go_wp2_with fail
    go_meet
    case rel => exact ⟨congrArg Value.bool HTT.out.symm,rfl⟩
  case rest =>
  obtain ⟨rfl,rfl⟩:=hcut
  cases t
  ·have hk31 : k ≤ 30:=by omega
   have hpos:=Lib.hid hk31
   go_upto_region 7 with (fail)
   have hY:=(show ∀ w',Bw wr w' → (w'.cell? ⟨w.heap.size,6,none⟩ = some (.int .i64 s.f) ∧ w'.cell? ⟨w.heap.size,7,none⟩ = some (.int .i64 s.g) ∧ w'.cell? ⟨w.heap.size,8,none⟩ = some (.int .i64 s.b)) ∧ w'.cell? ⟨w1.heap.size,0,none⟩ = some (.int .i64 s.top) ∧ w'.cell? ⟨w1.heap.size,1,none⟩ = some (.int .i64 s.bot) from fun w' hb => ⟨⟨(HB0r.out.up hb).cell 6 rfl,(HB0r.out.up hb).cell 7 rfl,(HB0r.out.up hb).cell 8 rfl⟩,(HMr.out.up hb).cell 0 rfl,(HMr.out.up hb).cell 1 rfl⟩)
   have hne1 : w1.heap.size ≠ w.heap.size:=by omega
   have hYs:=(show ∀ w' (hb : Bw wr w') (a b c : Value),(((w'.setCell ⟨w.heap.size,0,none⟩ a).setCell ⟨w.heap.size,1,none⟩ b).setCell ⟨w.heap.size,2,none⟩ c).cell? ⟨w.heap.size,6,none⟩ = some (.int .i64 s.f) ∧ (((w'.setCell ⟨w.heap.size,0,none⟩ a).setCell ⟨w.heap.size,1,none⟩ b).setCell ⟨w.heap.size,2,none⟩ c).cell? ⟨w.heap.size,7,none⟩ = some (.int .i64 s.g) ∧ (((w'.setCell ⟨w.heap.size,0,none⟩ a).setCell ⟨w.heap.size,1,none⟩ b).setCell ⟨w.heap.size,2,none⟩ c).cell? ⟨w.heap.size,8,none⟩ = some (.int .i64 s.b) ∧ (((w'.setCell ⟨w.heap.size,0,none⟩ a).setCell ⟨w.heap.size,1,none⟩ b).setCell ⟨w.heap.size,2,none⟩ c).cell? ⟨w1.heap.size,0,none⟩ = some (.int .i64 s.top) ∧ (((w'.setCell ⟨w.heap.size,0,none⟩ a).setCell ⟨w.heap.size,1,none⟩ b).setCell ⟨w.heap.size,2,none⟩ c).cell? ⟨w1.heap.size,1,none⟩ = some (.int .i64 s.bot) from fun w' hb a b c => by
    obtain ⟨⟨k6,k7,k8⟩,m0,m1⟩:=hY w' hb
    exact ⟨cell_ne (cell_ne (cell_ne k6 (by omega)) (by omega)) (by omega),cell_ne (cell_ne (cell_ne k7 (by omega)) (by omega)) (by omega),cell_ne (cell_ne (cell_ne k8 (by omega)) (by omega)) (by omega),cell_set_some hne1 (cell_set_some hne1 (cell_set_some hne1 m0)),cell_set_some hne1 (cell_set_some hne1 (cell_set_some hne1 m1))⟩)
   have HY:=Lib.hid hY
   have HYs:=Lib.hid hYs
   clear hY hYs y0 y1
   have hGr:=Lib.hid (HG.out.up hbw0)
   (have z0:=HB0r.out.free 0;have z1:=HB0r.out.free 1;have z2:=HB0r.out.free 2)
   have hz0r:=HB0r.out.lt
   go_cut [] (fun w' => ∃ A' n' c',Sb w' w.heap.size (s.gr A' n' c').vals.toArray 46 ∧ (∃ old,Sb w' (w.heap.size + 1) old 46 ∧ old.size = 19) ∧ Gok w' s.Rn s.Cn A' n' c' ∧ (∀ ad,A' = some ad → wr.heap.size ≤ ad.block) ∧ w'.ownsRow (w1.heap.size + 1) 23 1 (.slice A6 k c6) k vs ∧ Bw w w')
   case first =>
    refine wp_region_held_drew (S:=(fun w' => (w'.cell? ⟨w.heap.size,6,none⟩ = some (.int .i64 s.f) ∧ w'.cell? ⟨w.heap.size,7,none⟩ = some (.int .i64 s.g) ∧ w'.cell? ⟨w.heap.size,8,none⟩ = some (.int .i64 s.b)) ∧ w'.cell? ⟨w1.heap.size,0,none⟩ = some (.int .i64 s.top) ∧ w'.cell? ⟨w1.heap.size,1,none⟩ = some (.int .i64 s.bot))) (by kernel_rfl) ?_ (fun hHeld => ?_)
    ·(try dsimp only);(first|(refine HY.out _ ?_;(repeat (first|with_reducible (first|assumption|exact Bw.refl _|refine Bw.alloc ?_ _|refine Bw.more ?_ _ _|refine Bw.drew ?_|refine Bw.drewN ?_ _)|((with_reducible refine Bw.set2 ?_ ?_ _);(focus exact SZX))|with_reducible refine Bw.trans ?_ (by assumption)));done)|(exact ⟨⟨(HYs.out _ BWX _ _ _).1,(HYs.out _ BWX _ _ _).2.1,(HYs.out _ BWX _ _ _).2.2.1⟩,(HYs.out _ BWX _ _ _).2.2.2.1,(HYs.out _ BWX _ _ _).2.2.2.2⟩))
    refine tkQ 0 ?_
    refine tkQ 2 ?_
    refine tkQ 3 ?_
    (try simp only [Act.put,zP4,zP5,zP6])
    refine tkQ 4 ?_
    refine tkQ 5 ?_
    refine tkQ 6 ?_
    (try simp only [Act.put,zP4,zP5,zP6])
    refine tkQ 7 ?_
    refine tkQ 8 ?_
    (try simp only [Act.put,zP4,zP5,zP6])
    refine wpAnyH_ready (rs:=[1,9]) (by kernel_rfl) (by simp) ?_
    refine AllReadyH.cons rfl (fun K hK => ?_) ?_
    ·go_simp
     refine hK.out _ _ ?_ (fun hHeld => ?_)
     ·(try dsimp only);(first|(refine HY.out _ ?_;(repeat (first|with_reducible (first|assumption|exact Bw.refl _|refine Bw.alloc ?_ _|refine Bw.more ?_ _ _|refine Bw.drew ?_|refine Bw.drewN ?_ _)|((with_reducible refine Bw.set2 ?_ ?_ _);(focus exact SZX))|with_reducible refine Bw.trans ?_ (by assumption)));done)|(exact ⟨⟨(HYs.out _ BWX _ _ _).1,(HYs.out _ BWX _ _ _).2.1,(HYs.out _ BWX _ _ _).2.2.1⟩,(HYs.out _ BWX _ _ _).2.2.2.1,(HYs.out _ BWX _ _ _).2.2.2.2⟩))
     clear hK K
     (try simp only [Act.put,zP4,zP5,zP6])
     refine arO 9 (fun K hK => ?_)
     go_simp
     refine (rblank_any s.f s.g s.b _).mono ?_;rintro ee wb ⟨rfl,hbb⟩;have hbwb : Bw wr wb:=Bw.trans (show Bw wr _ from BWX) hbb;have HB0b:=Lib.hid (HB0r.out.up hbwb);have hzb:=HB0b.out.lt;(have u0:=HB0b.out.cell 0 (v:=.int .i64 (s.Rn : Int)) rfl;have u1:=HB0b.out.cell 1 (v:=.int .i64 (s.Cn : Int)) rfl;have u2:=HB0b.out.cell 2 (v:=.slice s.A s.n s.c) rfl);clear hbb;go_wp2_with fail
     refine hK.out _ _ ?_ (fun hHeld => ?_)
     ·(try dsimp only);(first|(refine HY.out _ ?_;(repeat (first|with_reducible (first|assumption|exact Bw.refl _|refine Bw.alloc ?_ _|refine Bw.more ?_ _ _|refine Bw.drew ?_|refine Bw.drewN ?_ _)|((with_reducible refine Bw.set2 ?_ ?_ _);(focus exact SZX))|with_reducible refine Bw.trans ?_ (by assumption)));done)|(exact ⟨⟨(HYs.out _ BWX _ _ _).1,(HYs.out _ BWX _ _ _).2.1,(HYs.out _ BWX _ _ _).2.2.1⟩,(HYs.out _ BWX _ _ _).2.2.2.1,(HYs.out _ BWX _ _ _).2.2.2.2⟩))
     clear hK K
     (try simp only [Act.put,zP4,zP5,zP6])
     refine arO 10 (fun K hK => ?_)
     go_simp
     refine (rscroll_ok s.Rn s.Cn s.A s.n s.c s.top s.bot nn 32 0 0 s.b _ (by exact hGr.out.up BWX) HBl.out ⟨t0,t1,t2⟩).mono ?_;rintro ee wd ⟨A',n',c',rfl,hGd,hnd,hbd⟩;have hbwd : Bw wr wd:=Bw.trans (show Bw wr _ from BWX) hbd;have hzwb : wr.heap.size ≤ wb.heap.size:=hbwb.size;have HGd:=Lib.hid hGd;have HNd:=Lib.hid hnd;have HB0d:=Lib.hid (HB0r.out.up hbwd);have HB1d:=Lib.hid (HB1r.out.up hbwd);have HOd:=Lib.hid (HO.out.bw hbwd);have hzd:=HB0d.out.lt;(have q0:=HB0d.out.cell 0 (v:=.int .i64 (s.Rn : Int)) rfl;have q1:=HB0d.out.cell 1 (v:=.int .i64 (s.Cn : Int)) rfl;have q2:=HB0d.out.cell 2 (v:=.slice s.A s.n s.c) rfl);(have p0:=HB0d.out.free 0;have p1:=HB0d.out.free 1;have p2:=HB0d.out.free 2);clear hGd hnd hbd;go_wp2_with fail
     refine hK.out _ _ ?_ (fun hHeld => ?_)
     ·(try dsimp only);(first|(refine HY.out _ ?_;(repeat (first|with_reducible (first|assumption|exact Bw.refl _|refine Bw.alloc ?_ _|refine Bw.more ?_ _ _|refine Bw.drew ?_|refine Bw.drewN ?_ _)|((with_reducible refine Bw.set2 ?_ ?_ _);(focus exact SZX))|with_reducible refine Bw.trans ?_ (by assumption)));done)|(exact ⟨⟨(HYs.out _ BWX _ _ _).1,(HYs.out _ BWX _ _ _).2.1,(HYs.out _ BWX _ _ _).2.2.1⟩,(HYs.out _ BWX _ _ _).2.2.2.1,(HYs.out _ BWX _ _ _).2.2.2.2⟩))
     clear hK K
     (try simp only [Act.put,zP4,zP5,zP6])
     refine arO 11 (fun K hK => ?_)
     go_simp
     refine hK.out _ _ ?_ (fun hHeld => ?_)
     ·(try dsimp only);(first|(refine HY.out _ ?_;(repeat (first|with_reducible (first|assumption|exact Bw.refl _|refine Bw.alloc ?_ _|refine Bw.more ?_ _ _|refine Bw.drew ?_|refine Bw.drewN ?_ _)|((with_reducible refine Bw.set2 ?_ ?_ _);(focus exact SZX))|with_reducible refine Bw.trans ?_ (by assumption)));done)|(exact ⟨⟨(HYs.out _ BWX _ _ _).1,(HYs.out _ BWX _ _ _).2.1,(HYs.out _ BWX _ _ _).2.2.1⟩,(HYs.out _ BWX _ _ _).2.2.2.1,(HYs.out _ BWX _ _ _).2.2.2.2⟩))
     clear hK K
     (try simp only [Act.put,zP4,zP5,zP6])
     refine arO 12 (fun K hK => ?_)
     go_simp
     refine hK.out _ _ ?_ (fun hHeld => ?_)
     ·(try dsimp only);(first|(refine HY.out _ ?_;(repeat (first|with_reducible (first|assumption|exact Bw.refl _|refine Bw.alloc ?_ _|refine Bw.more ?_ _ _|refine Bw.drew ?_|refine Bw.drewN ?_ _)|((with_reducible refine Bw.set2 ?_ ?_ _);(focus exact SZX))|with_reducible refine Bw.trans ?_ (by assumption)));done)|(exact ⟨⟨(HYs.out _ BWX _ _ _).1,(HYs.out _ BWX _ _ _).2.1,(HYs.out _ BWX _ _ _).2.2.1⟩,(HYs.out _ BWX _ _ _).2.2.2.1,(HYs.out _ BWX _ _ _).2.2.2.2⟩))
     clear hK K
     (try simp only [Act.put,zP4,zP5,zP6])
     refine wpAnyH_done (by kernel_rfl) ?_ _
     go_wp2
     go_meet
     case rel =>
      have hnb : ∀ ad,A' = some ad → wr.heap.size ≤ ad.block:=fun ad e => by have:=HNd.out ad e;first|omega|(simp only [szA,szS,szD,szN,plus_size] at this;omega)
      have hne : ∀ ad,A' = some ad → ad.block ≠ w.heap.size:=fun ad e => by have:=hnb ad e;omega
      exact ⟨A',n',c',((HB0d.out.set 0 _ rfl).set 1 _ rfl).set 2 _ rfl,⟨_,((HB1d.out.away (by omega) _).away (by omega) _).away (by omega) _,rfl⟩,((HGd.out.away hne _ _).away hne _ _).away hne _ _,hnb,own_set_below (own_set_below (own_set_below HOd.out (by omega) _) (by omega) _) (by omega) _,BWX⟩
    refine AllReadyH.cons rfl (fun K hK => ?_) ?_
    ·go_simp
     refine (rblank_any s.f s.g s.b _).mono ?_;rintro ee wb ⟨rfl,hbb⟩;have hbwb : Bw wr wb:=Bw.trans (show Bw wr _ from BWX) hbb;have HB0b:=Lib.hid (HB0r.out.up hbwb);have hzb:=HB0b.out.lt;(have u0:=HB0b.out.cell 0 (v:=.int .i64 (s.Rn : Int)) rfl;have u1:=HB0b.out.cell 1 (v:=.int .i64 (s.Cn : Int)) rfl;have u2:=HB0b.out.cell 2 (v:=.slice s.A s.n s.c) rfl);clear hbb;go_wp2_with fail
     refine hK.out _ _ ?_ (fun hHeld => ?_)
     ·(try dsimp only);(first|(refine HY.out _ ?_;(repeat (first|with_reducible (first|assumption|exact Bw.refl _|refine Bw.alloc ?_ _|refine Bw.more ?_ _ _|refine Bw.drew ?_|refine Bw.drewN ?_ _)|((with_reducible refine Bw.set2 ?_ ?_ _);(focus exact SZX))|with_reducible refine Bw.trans ?_ (by assumption)));done)|(exact ⟨⟨(HYs.out _ BWX _ _ _).1,(HYs.out _ BWX _ _ _).2.1,(HYs.out _ BWX _ _ _).2.2.1⟩,(HYs.out _ BWX _ _ _).2.2.2.1,(HYs.out _ BWX _ _ _).2.2.2.2⟩))
     clear hK K
     (try simp only [Act.put,zP4,zP5,zP6])
     refine arO 1 (fun K hK => ?_)
     go_simp
     refine hK.out _ _ ?_ (fun hHeld => ?_)
     ·(try dsimp only);(first|(refine HY.out _ ?_;(repeat (first|with_reducible (first|assumption|exact Bw.refl _|refine Bw.alloc ?_ _|refine Bw.more ?_ _ _|refine Bw.drew ?_|refine Bw.drewN ?_ _)|((with_reducible refine Bw.set2 ?_ ?_ _);(focus exact SZX))|with_reducible refine Bw.trans ?_ (by assumption)));done)|(exact ⟨⟨(HYs.out _ BWX _ _ _).1,(HYs.out _ BWX _ _ _).2.1,(HYs.out _ BWX _ _ _).2.2.1⟩,(HYs.out _ BWX _ _ _).2.2.2.1,(HYs.out _ BWX _ _ _).2.2.2.2⟩))
     clear hK K
     (try simp only [Act.put,zP4,zP5,zP6])
     refine arO 10 (fun K hK => ?_)
     go_simp
     refine (rscroll_ok s.Rn s.Cn s.A s.n s.c s.top s.bot nn 32 0 0 s.b _ (by exact hGr.out.up BWX) HBl.out ⟨t0,t1,t2⟩).mono ?_;rintro ee wd ⟨A',n',c',rfl,hGd,hnd,hbd⟩;have hbwd : Bw wr wd:=Bw.trans (show Bw wr _ from BWX) hbd;have hzwb : wr.heap.size ≤ wb.heap.size:=hbwb.size;have HGd:=Lib.hid hGd;have HNd:=Lib.hid hnd;have HB0d:=Lib.hid (HB0r.out.up hbwd);have HB1d:=Lib.hid (HB1r.out.up hbwd);have HOd:=Lib.hid (HO.out.bw hbwd);have hzd:=HB0d.out.lt;(have q0:=HB0d.out.cell 0 (v:=.int .i64 (s.Rn : Int)) rfl;have q1:=HB0d.out.cell 1 (v:=.int .i64 (s.Cn : Int)) rfl;have q2:=HB0d.out.cell 2 (v:=.slice s.A s.n s.c) rfl);(have p0:=HB0d.out.free 0;have p1:=HB0d.out.free 1;have p2:=HB0d.out.free 2);clear hGd hnd hbd;go_wp2_with fail
     refine hK.out _ _ ?_ (fun hHeld => ?_)
     ·(try dsimp only);(first|(refine HY.out _ ?_;(repeat (first|with_reducible (first|assumption|exact Bw.refl _|refine Bw.alloc ?_ _|refine Bw.more ?_ _ _|refine Bw.drew ?_|refine Bw.drewN ?_ _)|((with_reducible refine Bw.set2 ?_ ?_ _);(focus exact SZX))|with_reducible refine Bw.trans ?_ (by assumption)));done)|(exact ⟨⟨(HYs.out _ BWX _ _ _).1,(HYs.out _ BWX _ _ _).2.1,(HYs.out _ BWX _ _ _).2.2.1⟩,(HYs.out _ BWX _ _ _).2.2.2.1,(HYs.out _ BWX _ _ _).2.2.2.2⟩))
     clear hK K
     (try simp only [Act.put,zP4,zP5,zP6])
     refine arO 11 (fun K hK => ?_)
     go_simp
     refine hK.out _ _ ?_ (fun hHeld => ?_)
     ·(try dsimp only);(first|(refine HY.out _ ?_;(repeat (first|with_reducible (first|assumption|exact Bw.refl _|refine Bw.alloc ?_ _|refine Bw.more ?_ _ _|refine Bw.drew ?_|refine Bw.drewN ?_ _)|((with_reducible refine Bw.set2 ?_ ?_ _);(focus exact SZX))|with_reducible refine Bw.trans ?_ (by assumption)));done)|(exact ⟨⟨(HYs.out _ BWX _ _ _).1,(HYs.out _ BWX _ _ _).2.1,(HYs.out _ BWX _ _ _).2.2.1⟩,(HYs.out _ BWX _ _ _).2.2.2.1,(HYs.out _ BWX _ _ _).2.2.2.2⟩))
     clear hK K
     (try simp only [Act.put,zP4,zP5,zP6])
     refine arO 12 (fun K hK => ?_)
     go_simp
     refine hK.out _ _ ?_ (fun hHeld => ?_)
     ·(try dsimp only);(first|(refine HY.out _ ?_;(repeat (first|with_reducible (first|assumption|exact Bw.refl _|refine Bw.alloc ?_ _|refine Bw.more ?_ _ _|refine Bw.drew ?_|refine Bw.drewN ?_ _)|((with_reducible refine Bw.set2 ?_ ?_ _);(focus exact SZX))|with_reducible refine Bw.trans ?_ (by assumption)));done)|(exact ⟨⟨(HYs.out _ BWX _ _ _).1,(HYs.out _ BWX _ _ _).2.1,(HYs.out _ BWX _ _ _).2.2.1⟩,(HYs.out _ BWX _ _ _).2.2.2.1,(HYs.out _ BWX _ _ _).2.2.2.2⟩))
     clear hK K
     (try simp only [Act.put,zP4,zP5,zP6])
     refine wpAnyH_done (by kernel_rfl) ?_ _
     go_wp2
     go_meet
     case rel =>
      have hnb : ∀ ad,A' = some ad → wr.heap.size ≤ ad.block:=fun ad e => by have:=HNd.out ad e;first|omega|(simp only [szA,szS,szD,szN,plus_size] at this;omega)
      have hne : ∀ ad,A' = some ad → ad.block ≠ w.heap.size:=fun ad e => by have:=hnb ad e;omega
      exact ⟨A',n',c',((HB0d.out.set 0 _ rfl).set 1 _ rfl).set 2 _ rfl,⟨_,((HB1d.out.away (by omega) _).away (by omega) _).away (by omega) _,rfl⟩,((HGd.out.away hne _ _).away hne _ _).away hne _ _,hnb,own_set_below (own_set_below (own_set_below HOd.out (by omega) _) (by omega) _) (by omega) _,BWX⟩
    exact AllReadyH.nil
   case rest =>
   obtain ⟨A',n',c',hS,hold,hG',hnew,hown',hbw'⟩:=hcut
   have HS:=Lib.hid hS
   have HOld:=Lib.hid hold
   have HG':=Lib.hid hG'
   have HNew:=Lib.hid hnew
   have HO':=Lib.hid hown'
   have hzc : w.heap.size < wc.heap.size:=hS.lt
   have hwrz : w.heap.size + 1 < wr.heap.size:=by omega
   clear hS hold hG' hnew hown' x0 x1 x2 z0 z1 z2
   go_wp2_with (first
    | ((with_reducible refine wpList_load_sc (s.gr A' n' c') w.heap.size (.tmp 2) rfl rfl ?_ ?_ ?_);(focus rfl);(focus (exact HS.out)))
    | ((with_reducible refine wpList_store_sc (s.gr A' n' c') (w.heap.size + 1) (.tmp 4) (.tmp 46) rfl rfl ?_ ?_ ?_ ?_);(focus rfl);(focus rfl);(focus (exact HOld.out));intro w3 hS3 hg3;have HS3:=Lib.hid hS3;have HG3:=Lib.hid hg3;clear hS3 hg3)
    | fail)
   refine bodyPost_ret (results_sc2 rfl _ _ (w.heap.size + 1) (s.gr A' n' c') (by rfl) HS3.out) rfl ?_
   have hbw3 : Bw w w3:=Bw.grown hbw' HG3.out (fun k hk => by cases hk;omega)
   have hLn : ∀ ad,A6 = some ad → w.heap.size + 1 < ad.block:=fun ad e => by have:=own_new HO'.out ad e;omega
   refine ⟨s.gr A' n' c',A6,k,c6,rfl,rfl,rfl,⟨HG'.out.far HG3.out (fun ad e e2 => by have:=HNew.out ad e;have:=Option.some.inj e2;omega),HOk.out.2⟩,.inr (fun ad e => by have:=HNew.out ad e;omega),(Ls.of_own HO'.out HOne.out).far HG3.out (fun ad e e2 => by have:=hLn ad e;have:=Option.some.inj e2;omega),(fun ad e => by have:=hLn ad e;omega),by omega,hc6,hc6m,hbw3⟩
  ·obtain ⟨c1,c2,c3⟩ : (k : Int) < nn ∧ (k : Int) ≤ s.bot ∧ s.top = 0:=of_decide_eq_true HT.out.symm
   clear c3
   go_wp2_with (first
    | (go_at_call 37;refine (rrow_any s.Rn s.Cn s.A s.n s.c cs k _ (by exact HCS.out.up BWX) h6 (by omega) h7).mono ?_;rintro ee w2 ⟨Ar,nr,cr,rfl,-,-,-,-,hb2⟩;have HO2:=Lib.hid (HO.out.bw hb2);have hbw2 : Bw wr w2:=hb2;have hz2:=hb2.size;clear hb2)
    | (at_builtin;refine wpList_append_srcG (by rfl) (.tmp 27) (.tmp 32) 51 rfl (w1.heap.size + 1) 23 j0 (.slice none 0 0) 1 24 Tryz.underlying51 hj hj0 hj1 hj2 rfl (by decide) (.slice A6 k c6) k vs (by rfl) (HO2.out.alloc _) (some ⟨_,0,none⟩) 1 1 [.slice Ar nr cr] (by rfl) rfl (fun e => by cases e) (fun ad e => by cases e;exact cell_one_new _ _ _) (by simp;rfl) (by unfold maxLen;omega) (by omega) SZX ?_;intro v7 w7 hown7 hg7;obtain ⟨A7,c7,rfl,hc7,hc7m⟩:=own_form hown7;have hbw7 : Bw (w1.alloc (.cells #[.int .i64 s.top,.int .i64 s.bot] 44)) w7:=Bw.row (show Bw _ (w2.alloc _) from Bw.alloc (Bw.trans hbwr hbw2) _) (HO2.out.alloc _) hg7 (by simp);have HO7:=Lib.hid hown7;clear hown7 hg7)
    | fail)
   go_roundw
   case rel =>
    refine ⟨k + 1,vs ++ [.slice Ar nr cr],by go_num,by omega,HO7.out,?_,hbw7⟩
    intro v hv
    rcases List.mem_append.1 hv with h|h
    ·exact HOne.out v h
    ·simp at h;subst h;rfl
   case measure => simp [intOf];omega
end Go.Proofs.YteebdjmjeahccaaGreatDoor
