/- Parts of the proof, one after the other. -/
import Derived.Test.YteebdjmjeahccaaGreatDoorC19
set_option linter.unusedSimpArgs false
set_option linter.unusedVariables false
set_option maxRecDepth 100000
set_option maxHeartbeats 16000000
namespace Go.Proofs.YteebdjmjeahccaaGreatDoor
open Go.RowKit
/-- A scanner is valid: of its mode, private marker and parameters. -/
def scB (md pv : Int) (n : Nat) (xs : List Int) : Prop:=(md ≠ 3 ∧ 0 ≤ md ∧ md ≤ 6 ∧ pv = 0 ∧ n = 0) ∨ (md = 3 ∧ 1 ≤ n ∧ n ≤ 16 ∧ (pv = 0 ∨ (60 ≤ pv ∧ pv ≤ 63)) ∧ ∀ x ∈ xs,0 ≤ x ∧ x ≤ 9999)
/-- A valid scanner in memory. -/
def ScnOk (w : World) (md pv : Int) (A : Option Addr) (n c : Nat) (xs : List Int) : Prop:=Rd (.int .i64) w A n xs ∧ n ≤ c ∧ c ≤ 9223372036854775807 ∧ scB md pv n xs
theorem ScnOk.up {w w' : World} {md pv : Int} {A : Option Addr} {n c : Nat} {xs : List Int} (h : ScnOk w md pv A n c xs) (hb : Bw w w') : ScnOk w' md pv A n c xs:=⟨h.1.up hb,h.2⟩
theorem ScnOk.to (w : World) (m : Int) (h : m ≠ 3 ∧ 0 ≤ m ∧ m ≤ 6) : ScnOk w m 0 none 0 0 []:=⟨Rd.nil_ w none,Nat.le_refl _,by omega,.inl ⟨h.1,h.2.1,h.2.2,rfl,rfl⟩⟩
/-- n lies between lo and hi. -/
def inB (n lo hi : Int) : Bool:=decide (lo ≤ n ∧ n ≤ hi)
theorem inB_yes {n lo hi : Int} (h1 : lo ≤ n) (h2 : n ≤ hi) : inB n lo hi = true:=decide_eq_true ⟨h1,h2⟩
theorem inB_no {n lo hi : Int} (h : n < lo ∨ hi < n) : inB n lo hi = false:=decide_eq_false (by omega)
theorem rin_any (n lo hi : Int) (w : World) : Calls Tryz.prog 100 #[.int .i64 n,.int .i64 lo,.int .i64 hi] w fun e w' => e = .returned (.bool (inB n lo hi)) ∧ w = w':=by
 have hz : n < lo ∨ (lo ≤ n ∧ hi < n) ∨ (lo ≤ n ∧ n ≤ hi):=by omega
 rcases hz with h|⟨h,h'⟩|⟨h,h'⟩
 ·have HE:=Lib.hid (inB_no (n:=n) (lo:=lo) (hi:=hi) (.inl h))
  go_enter Tryz.func100,Tryz.ntmps100
  go_wp2_with fail
  go_ret
  exact ⟨by rw [HE.out];first|rfl|(simp;omega),rfl⟩
 ·have HE:=Lib.hid (inB_no (n:=n) (lo:=lo) (hi:=hi) (.inr h'))
  go_enter Tryz.func100,Tryz.ntmps100
  go_wp2_with fail
  go_ret
  exact ⟨by rw [HE.out];first|rfl|(simp;omega),rfl⟩
 ·have HE:=Lib.hid (inB_yes h h')
  go_enter Tryz.func100,Tryz.ntmps100
  go_wp2_with fail
  go_ret
  exact ⟨by rw [HE.out];first|rfl|(simp;omega),rfl⟩
theorem rto_any (m : Int) (w : World) : Calls Tryz.prog 77 #[.int .i64 m] w fun e w' => e = .returned (.agg #[.int .i64 m,.int .i64 0,.slice none 0 0]) ∧ Bw w w':=by
 go_enter Tryz.func77,Tryz.ntmps77
 go_wp2_with fail
 refine bodyPost_ret (by simp [results,Tryz.results77,go_sem];rfl) rfl ?_
 exact ⟨rfl,BWX⟩
theorem rvalid14_ok (md pv : Int) (A : Option Addr) (n c : Nat) (xs : List Int) (w : World) (h : ScnOk w md pv A n c xs) :
  Calls Tryz.prog 70 #[.agg #[.int .i64 md,.int .i64 pv,.slice A n c]] w fun e w' => e = .returned (.bool true) ∧ Bw w w':=by
 obtain ⟨hx,hn,hc,hv⟩:=h
 rcases hv with ⟨h1,h2,h3,rfl,rfl⟩|⟨rfl,h1,h2,h3,h4⟩
 ·have hne : (md != 3) = true:=by simpa using h1
  clear hx h1
  go_enter Tryz.func70,Tryz.ntmps70
  go_wp2_with fail
  go_ret
  exact ⟨rfl,BWX⟩
 ·have HX:=Lib.hid hx
  have HP:=Lib.hid h4
  have HV:=Lib.hid h3
  clear hx h4 h3
  go_enter Tryz.func70,Tryz.ntmps70
  go_wp2_with fail
  go_loopw [3] (fun i wr => ∃ k : Nat,i = .int .i64 k ∧ k ≤ n ∧ Bw (w.alloc (.cells #[.int .i64 3,.int .i64 pv,.slice A n c] 50)) wr) (fun i _ => n - (intOf i).toNat)
  case atStart => exact ⟨0,rfl,by omega,BWX⟩
  case round =>
   obtain ⟨k,rfl,hk,hbw⟩:=hrel
   have y1:=cell_bw hbw (show (w.alloc (.cells #[.int .i64 3,.int .i64 pv,.slice A n c] 50)).cell? ⟨w.heap.size,1,none⟩ = some (.int .i64 pv) from CELX)
   have y2:=cell_bw hbw (show (w.alloc (.cells #[.int .i64 3,.int .i64 pv,.slice A n c] 50)).cell? ⟨w.heap.size,2,none⟩ = some (.slice A n c) from CELX)
   by_cases hlt : k < n
   ·obtain ⟨g,o,rfl,hx⟩:=HX.out.2 (by omega)
    have hkx : k < xs.length:=by rw [HX.out.1];exact hlt
    have hcx:=cell_bw (Bw.trans BWX hbw) (hx k hkx)
    obtain ⟨v,hv⟩ : ∃ v,xs[k] = v:=⟨_,rfl⟩
    rw [hv] at hcx
    obtain ⟨q1,q2⟩:=HP.out v (hv ▸ List.getElem_mem hkx)
    clear hx hv
    go_wp2_with fail
    go_roundw
    case rel => exact ⟨k + 1,by go_num,by omega,BWX⟩
    case measure => simp [intOf];omega
   ·obtain rfl : k = n:=by omega
    rcases HV.out with rfl|⟨p1,p2⟩
    ·go_wp2_with fail
     go_ret
     exact ⟨rfl,BWX⟩
    ·have hp0 : (pv == 0) = false:=by simp;omega
     go_wp2_with fail
     go_ret
     exact ⟨rfl,BWX⟩
/-- An operation in memory: four cells; its parameters. -/
structure OpR where
 kd : Int
 f : Int
 pv : Int
 A : Option Addr
 n : Nat
 c : Nat
 xs : List Int
def OpR.vals (o : OpR) : List Value:=[.int .i64 o.kd,.int .i64 o.f,.int .i64 o.pv,.slice o.A o.n o.c]
def OpR.Ok (w : World) (o : OpR) : Prop:=Rd (.int .i64) w o.A o.n o.xs ∧ o.n ≤ o.c ∧ o.c ≤ 9223372036854775807 ∧ o.n ≤ 1000
theorem OpR.Ok.up {w w' : World} {o : OpR} (h : o.Ok w) (hb : Bw w w') : o.Ok w':=⟨h.1.up hb,h.2⟩
/-- The operations' cells, one after the other. -/
def opsV (l : List OpR) : List Value:=l.flatMap OpR.vals
theorem opsV_len (l : List OpR) : (opsV l).length = l.length * 4:=by
 induction l with
 | nil => rfl
 | cons o l ih => simp only [opsV,List.flatMap_cons,List.length_append,List.length_cons] at ih ⊢;rw [ih];simp [OpR.vals];omega
theorem opsV_app (l l' : List OpR) : opsV (l ++ l') = opsV l ++ opsV l':=by simp [opsV]
theorem opsV_one (l : List OpR) : ∀ u ∈ opsV l,u.oneCell' = true:=by
 intro u hu
 simp only [opsV,List.mem_flatMap] at hu
 obtain ⟨o,_,hu⟩:=hu
 simp only [OpR.vals,List.mem_cons,List.not_mem_nil,or_false] at hu
 rcases hu with rfl|rfl|rfl|rfl <;> rfl
theorem opsV_at (l : List OpR) (i : Nat) (hi : i < l.length) (j : Nat) (hj : j < 4) : (opsV l)[i * 4 + j]? = (l[i]).vals[j]?:=by
 induction l generalizing i with
 | nil => simp at hi
 | cons o l ih =>
  have e : opsV (o :: l) = o.vals ++ opsV l:=by simp [opsV]
  rw [e]
  cases i with
  | zero =>
   rw [List.getElem?_append_left (by simp [OpR.vals];omega)]
   simp
  | succ i =>
   rw [List.getElem?_append_right (by simp [OpR.vals];omega)]
   have:=ih i (by simpa using hi)
   simp only [List.getElem_cons_succ]
   rw [← this]
   congr 1
   simp [OpR.vals]
   omega
/-- A list of operations in memory, and all that it leans on. -/
def OpsL (w : World) (A : Option Addr) (m : Nat) (l : List OpR) : Prop :=
 l.length = m ∧ (∀ o ∈ l,o.Ok w) ∧ (A = none → m = 0) ∧ ∀ ad,A = some ad → ∀ j u,(opsV l)[j]? = some u → w.cell? (ad.add j) = some u
theorem OpsL.nil_ (w : World) : OpsL w none 0 []:=⟨rfl,by simp,fun _ => rfl,fun ad e => by cases e⟩
/-- All that the result leans on lies in new memory (from block k on); the parameters may be the argument's. -/
def NewR (k : Nat) (A0 A : Option Addr) (n : Nat) (B : Option Addr) (l : List OpR) : Prop :=
 (∀ ad,A = some ad → k ≤ ad.block ∨ some ad = A0) ∧ (∀ ad,B = some ad → k ≤ ad.block) ∧ ∀ o ∈ l,∀ ad,o.A = some ad → k ≤ ad.block
/-- The list lies in a block of numbers. -/
def TyA (w : World) (A : Option Addr) : Prop:=∀ ad,A = some ad → ∃ cs fr,w.heap[ad.block]? = some (.cells cs 3 fr)
theorem TyA.none (w : World) : TyA w none:=fun ad e => by cases e
theorem TyA.lt {w : World} {A : Option Addr} (h : TyA w A) : ∀ ad,A = some ad → ad.block < w.heap.size:=fun ad e => by
 obtain ⟨cs,fr,h1⟩:=h ad e
 exact (Array.getElem?_eq_some_iff.1 h1).1
theorem TyA.up {w w' : World} {A : Option Addr} (h : TyA w A) (hb : Bw w w') : TyA w' A:=fun ad e => by
 obtain ⟨cs,fr,h1⟩:=h ad e
 exact ⟨cs,fr,(hb.block ad.block (Array.getElem?_eq_some_iff.1 h1).1).trans h1⟩
theorem TyA.far {w w' : World} {A : Option Addr} {row : Option Nat} (h : TyA w A) (hg : w.grownBy w' row) (hne : ∀ ad,A = some ad → some ad.block ≠ row) : TyA w' A:=fun ad e => by
 obtain ⟨cs,fr,h1⟩:=h ad e
 exact ⟨cs,fr,(hg.block ad.block (Array.getElem?_eq_some_iff.1 h1).1 (hne ad e)).trans h1⟩
theorem TyA.own {w : World} {base s n m c : Nat} {A : Option Addr} {xs : List Value} (h : w.ownsRow base 3 s (.slice A n c) m xs) : TyA w A:=fun ad e => by
 rcases h.2 with ⟨h1,_⟩|⟨g,cap,cur,h1,_,hg,_⟩
 ·cases h1;cases e
 ·cases h1;cases e;exact ⟨cur,(0,0),hg⟩
theorem TyA.sb {w : World} {g : Nat} {cs : Array Value} (h : Sb w g cs 3) : TyA w (some ⟨g,0,Option.none⟩):=fun ad e => by
 cases e
 exact ⟨cs,(0,0),h⟩
/-- An operation, a scanner, as plain data. -/
abbrev OpS:=Int × Int × Int × List Int
abbrev ScS:=Int × Int × List Int
def OpR.sp (o : OpR) : OpS:=(o.kd,o.f,o.pv,o.xs)
/-- What the scanner's csi makes of a character of 32 to 126. -/
def csiN (pv : Int) (xs : List Int) (code : Int) : ScS × List OpS :=
 if 48 ≤ code ∧ code ≤ 57 then ((3,pv,xs.set (xs.length - 1) (min (10 * xs.getD (xs.length - 1) 0 + code - 48) 9999)),[])
 else if code = 59 then (if xs.length < 16 then ((3,pv,xs ++ [0]),[]) else ((4,0,[]),[]))
 else if 64 ≤ code then ((0,0,[]),[(4,code,pv,xs)])
 else if 60 ≤ code ∧ pv = 0 ∧ xs.length = 1 ∧ xs.getD 0 0 = 0 then ((3,code,xs),[])
 else ((4,0,[]),[])
/-- What the scanner makes of a character, in modes other than those of strings. -/
def nextB (md pv : Int) (xs : List Int) (code : Int) : ScS × List OpS :=
 if code = 24 ∨ code = 26 then ((0,0,[]),[])
 else if code = 27 then ((1,0,[]),[])
 else if code = 127 ∨ code < 0 then ((md,pv,xs),[])
 else if code < 32 then ((md,pv,xs),[(2,code,0,[])])
 else if md = 0 then (if 128 ≤ code ∧ code ≤ 159 then ((md,pv,xs),[]) else ((md,pv,xs),[(1,code,0,[])]))
 else if 128 ≤ code then ((0,0,[]),[])
 else if md = 3 then csiN pv xs code
 else if md = 1 then (if code = 91 then ((3,0,[0]),[]) else if code = 80 ∨ code = 88 ∨ (93 ≤ code ∧ code ≤ 95) then ((5,0,[]),[]) else if code ≤ 47 then ((2,0,[]),[]) else ((0,0,[]),[(3,code,0,[])]))
 else if md = 2 then (if code ≤ 47 then ((md,pv,xs),[]) else ((0,0,[]),[]))
 else if 64 ≤ code then ((0,0,[]),[]) else ((md,pv,xs),[])
/-- What the scanner makes of a character. -/
def nextN (md pv : Int) (xs : List Int) (code : Int) : ScS × List OpS :=
 if md = 5 then (if code = 24 ∨ code = 26 then ((0,0,[]),[]) else if code = 27 then ((6,0,[]),[]) else if code = 7 then ((0,0,[]),[]) else ((md,pv,xs),[]))
 else if md = 6 then (if code = 24 ∨ code = 26 then ((0,0,[]),[]) else if code = 27 then ((6,0,[]),[]) else if code = 92 then ((0,0,[]),[]) else nextB 1 0 [] code)
 else nextB md pv xs code
theorem nextN_3 {pv code : Int} {xs : List Int} (h1 : 32 ≤ code) (h2 : code ≤ 126) : nextN 3 pv xs code = csiN pv xs code:=by
 unfold nextN nextB
 rw [if_neg (by omega),if_neg (by omega),if_neg (by omega),if_neg (by omega),if_neg (by omega),if_neg (by omega),if_neg (by omega),if_neg (by omega),if_pos rfl]
theorem nextN_6 {pv code : Int} {xs : List Int} (h24 : ¬ code = 24) (h26 : ¬ code = 26) (h27 : ¬ code = 27) (h92 : ¬ code = 92) : nextN 6 pv xs code = nextN 1 0 [] code:=by
 unfold nextN
 rw [if_neg (by omega),if_pos rfl,if_neg (by omega),if_neg h27,if_neg h92,if_neg (by omega),if_neg (by omega)]
/-- What Next and csi of the reference's scanner return: a valid scanner and at most one operation; r: which ones. -/
def Nxt (w : World) (A0 : Option Addr) (r : ScS × List OpS) (e : Ending) (w' : World) : Prop :=
 ∃ (md pv : Int) (A : Option Addr) (n c : Nat) (xs : List Int) (B : Option Addr) (m c2 : Nat) (l : List OpR),
  e = .returned (.tuple #[.agg #[.int .i64 md,.int .i64 pv,.slice A n c],.slice B m c2]) ∧ ScnOk w' md pv A n c xs ∧ OpsL w' B m l ∧ m ≤ 1 ∧ m ≤ c2 ∧ c2 ≤ 9223372036854775807 ∧ Bw w w' ∧ NewR w.heap.size A0 A n B l ∧ (TyA w A0 → TyA w' A) ∧ (∀ o ∈ l,TyA w' o.A) ∧ r = ((md,pv,xs),l.map OpR.sp)
theorem wpList_store_cs {P : Program} {ops : Array Oper} {rest : List Oper} {o : Oper} {a : Act} {w : World} {Q : Exit → Act → World → Prop} (T : TypeId) (cs : Array Value) (g : Nat) (x y : Operand) (hi : (P.info? T).map (·.size) = some cs.size) (hone : cs.all (·.oneCell') = true) (ho : o.op = .store T x y) (hgd : o.guard = none)
  (hx : a.eval x = .pointer (some ⟨g,0,none⟩)) (hy : a.eval y = .agg cs) (hg : ∃ old,Sb w g old T ∧ old.size = cs.size)
  (h : ∀ w',Sb w' g cs T → w.grownBy w' (some g) → wpList P ops Q rest (a.put o.dst undef) w') : wpList P ops Q (o :: rest) a w:=by
 obtain ⟨old,hg,hold⟩:=hg
 exact wpList_store_row hgd T x y ho g cs hx hy T old hg hi hold hone
  (h _ (setRow_heap w g old _ _ _ hg) ⟨rfl,rfl,rfl,by simp [World.setRow],fun k hk hne => setRow_other w g k _ (fun e => hne (by rw [e]))⟩)
theorem wp_store_cs {P : Program} {o : Oper} {a : Act} {w : World} {K : Act → World → Prop} {Q : Exit → Act → World → Prop} (T : TypeId) (cs : Array Value) (g : Nat) (x y : Operand) (hi : (P.info? T).map (·.size) = some cs.size) (hone : cs.all (·.oneCell') = true) (ho : o.op = .store T x y)
  (hx : a.eval x = .pointer (some ⟨g,0,none⟩)) (hy : a.eval y = .agg cs) (hg : ∃ old,Sb w g old T ∧ old.size = cs.size)
  (h : ∀ w',Sb w' g cs T → w.grownBy w' (some g) → K (a.put o.dst undef) w') : Oper.wp P o a w K Q:=by
 obtain ⟨old,hg,hold⟩:=hg
 exact wp_store_row T x y ho g cs hx hy T old hg hi hold hone
  (h _ (setRow_heap w g old _ _ _ hg) ⟨rfl,rfl,rfl,by simp [World.setRow],fun k hk hne => setRow_other w g k _ (fun e => hne (by rw [e]))⟩)
theorem results_cs2 {P : Program} {fn : Func} {p q : Tmp} (T : TypeId) (cs : Array Value) (d : TypeDesc) (h : fn.results = #[.cell p T,.tmp q]) (tmps : Array Value) (w : World) (g : Nat) (hu : P.underlying T = some d) (hd : (match d with | .struct _ | .array _ _ => true|_ => false) = true) (hi : (P.info? T).map (·.size) = some cs.size) (hp : tmps.getD p undef = .pointer (some ⟨g,0,none⟩)) (hg : Sb w g cs T) :
  (results fn tmps).run P w = .ok (.tuple #[.agg cs,tmps.getD q undef]) w:=by
 have hp' : tmps[p]?.getD undef = .pointer (some ⟨g,0,none⟩):=by simpa using hp
 simp [results,h,hp',asAddr,run_loadVar_row w g T T cs (0,0) d hg hu hd hi]
/-- A scanner's cells. -/
def scnV (md pv : Int) (A : Option Addr) (n c : Nat) : Array Value:=#[.int .i64 md,.int .i64 pv,.slice A n c]
theorem infoScn : (Tryz.prog.info? 50).map (·.size) = some 3:=by kernel_rfl
theorem scnV_one (md pv : Int) (A : Option Addr) (n c : Nat) : (scnV md pv A n c).all (·.oneCell') = true:=all_oneCell_toArray (fun v hv => by
 simp only [List.mem_cons,List.not_mem_nil,or_false] at hv
 rcases hv with rfl|rfl|rfl <;> rfl)
theorem wpList_store_scn {ops : Array Oper} {rest : List Oper} {o : Oper} {a : Act} {w : World} {Q : Exit → Act → World → Prop} (md pv : Int) (A : Option Addr) (n c : Nat) (g : Nat) (x y : Operand) (ho : o.op = .store 50 x y) (hgd : o.guard = none)
  (hx : a.eval x = .pointer (some ⟨g,0,none⟩)) (hy : a.eval y = .agg (scnV md pv A n c)) (hg : ∃ old,Sb w g old 50 ∧ old.size = 3)
  (h : ∀ w',Sb w' g (scnV md pv A n c) 50 → w.grownBy w' (some g) → wpList Tryz.prog ops Q rest (a.put o.dst undef) w') : wpList Tryz.prog ops Q (o :: rest) a w :=
 wpList_store_cs 50 (scnV md pv A n c) g x y infoScn (scnV_one md pv A n c) ho hgd hx hy hg h
theorem wp_store_scn {o : Oper} {a : Act} {w : World} {K : Act → World → Prop} {Q : Exit → Act → World → Prop} (md pv : Int) (A : Option Addr) (n c : Nat) (g : Nat) (x y : Operand) (ho : o.op = .store 50 x y)
  (hx : a.eval x = .pointer (some ⟨g,0,none⟩)) (hy : a.eval y = .agg (scnV md pv A n c)) (hg : ∃ old,Sb w g old 50 ∧ old.size = 3)
  (h : ∀ w',Sb w' g (scnV md pv A n c) 50 → w.grownBy w' (some g) → K (a.put o.dst undef) w') : Oper.wp Tryz.prog o a w K Q :=
 wp_store_cs 50 (scnV md pv A n c) g x y infoScn (scnV_one md pv A n c) ho hx hy hg h
theorem results_scn {fn : Func} {p q : Tmp} (h : fn.results = #[.cell p 50,.tmp q]) (tmps : Array Value) (w : World) (g : Nat) (md pv : Int) (A : Option Addr) (n c : Nat) (hp : tmps.getD p undef = .pointer (some ⟨g,0,none⟩)) (hg : Sb w g (scnV md pv A n c) 50) :
  (results fn tmps).run Tryz.prog w = .ok (.tuple #[.agg #[.int .i64 md,.int .i64 pv,.slice A n c],tmps.getD q undef]) w :=
 results_cs2 50 (scnV md pv A n c) _ h tmps w g Tryz.underlying50 rfl infoScn hp hg
theorem Rd.far {α : Type} {f : α → Value} {w w' : World} {A : Option Addr} {n : Nat} {xs : List α} {row : Option Nat} (h : Rd f w A n xs) (hg : w.grownBy w' row) (hne : ∀ ad,A = some ad → some ad.block ≠ row) : Rd f w' A n xs:=by
 refine ⟨h.1,fun h0 => ?_⟩
 obtain ⟨g,o,e,hx⟩:=h.2 h0
 refine ⟨g,o,e,fun i hi => ?_⟩
 have h1:=hx i hi
 rw [World.grownBy.cell_far hg ⟨g,o + i,none⟩ (lt_of_cell h1) (by have:=hne ⟨g,o,none⟩ e;exact this)]
 exact h1
theorem ScnOk.far {w w' : World} {md pv : Int} {A : Option Addr} {n c : Nat} {xs : List Int} {row : Option Nat} (h : ScnOk w md pv A n c xs) (hg : w.grownBy w' row) (hne : ∀ ad,A = some ad → some ad.block ≠ row) : ScnOk w' md pv A n c xs:=⟨h.1.far hg hne,h.2⟩
theorem OpsL.up {w w' : World} {A : Option Addr} {m : Nat} {l : List OpR} (h : OpsL w A m l) (hb : Bw w w') : OpsL w' A m l:=⟨h.1,fun o ho => (h.2.1 o ho).up hb,h.2.2.1,fun ad e j u hu => by
 have h1:=h.2.2.2 ad e j u hu
 rw [Below.cell hb (lt_of_cell h1)]
 exact h1⟩
theorem OpsL.far {w w' : World} {A : Option Addr} {m : Nat} {l : List OpR} {row : Option Nat} (h : OpsL w A m l) (hg : w.grownBy w' row) (hne : ∀ ad,A = some ad → some ad.block ≠ row) (hno : ∀ o ∈ l,∀ ad,o.A = some ad → some ad.block ≠ row) : OpsL w' A m l:=⟨h.1,fun o ho => ⟨(h.2.1 o ho).1.far hg (hno o ho),(h.2.1 o ho).2⟩,h.2.2.1,fun ad e j u hu => by
 have h1:=h.2.2.2 ad e j u hu
 have e2 : (ad.add j).block = ad.block:=by unfold Addr.add;split <;> rfl
 rw [World.grownBy.cell_far hg _ (lt_of_cell h1) (by rw [e2];exact hne ad e)]
 exact h1⟩
/-- One operation in a block of its own. -/
theorem OpsL.one {w : World} {g : Nat} {T : TypeId} (o : OpR) (h : Sb w g o.vals.toArray T) (ho : o.Ok w) : OpsL w (some ⟨g,0,none⟩) 1 [o]:=by
 refine ⟨rfl,by simpa using ho,(fun e => by cases e),fun ad e j u hu => ?_⟩
 cases e
 have e1 : opsV [o] = o.vals:=by simp [opsV]
 rw [e1] at hu
 exact World.news_of_block h j u (by simpa using hu)
theorem rcsi14_Ga (code pv : Int) (A : Option Addr) (n c : Nat) (xs : List Int) (w : World) (h : ScnOk w 3 pv A n c xs) (hq : (48 ≤ code ∧ code ≤ 57) ∨ (n = 16 ∧ code = 59) ∨ ((code < 48 ∨ code = 58) ∧ (code == 59) = false) ∨ (60 ≤ code ∧ code ≤ 63 ∧ (code == 59) = false ∧ pv = 0 ∧ n = 1 ∧ xs = [0]) ∨ (60 ≤ code ∧ code ≤ 63 ∧ (code == 59) = false ∧ (pv == 0) = false) ∨ (60 ≤ code ∧ code ≤ 63 ∧ (code == 59) = false ∧ pv = 0 ∧ 1 < n) ∨ (60 ≤ code ∧ code ≤ 63 ∧ (code == 59) = false ∧ pv = 0 ∧ n = 1 ∧ ∃ x : Int,xs = [x] ∧ (x == 0) = false)) : Calls Tryz.prog 101 #[.agg #[.int .i64 3,.int .i64 pv,.slice A n c],.int .i64 code] w (Nxt w A (csiN pv xs code)):=by
 have HQ:=Lib.hid hq
 clear hq
 obtain ⟨hx,hn,hc,hv⟩:=h
 obtain ⟨hn1,hn16,hpv,hp⟩ : 1 ≤ n ∧ n ≤ 16 ∧ (pv = 0 ∨ (60 ≤ pv ∧ pv ≤ 63)) ∧ ∀ x ∈ xs,0 ≤ x ∧ x ≤ 9999:=by
  rcases hv with h|h
  ·exact absurd rfl h.1
  ·exact h.2
 have HX:=Lib.hid hx
 have HP:=Lib.hid hp
 have HPV:=Lib.hid hpv
 have HXA:=Lib.hid (show ∀ ad,A = some ad → 0 < n → ad.block < w.heap.size from fun ad e h0 => by
  obtain ⟨g,o,e2,h⟩:=hx.2 h0
  have h1:=lt_of_cell (h 0 (by rw [hx.1];exact h0))
  rw [e] at e2
  cases e2
  exact h1)
 clear hx hp hpv hv
 obtain ⟨i0,hi,hi0,hi1,hi2⟩:=info_parts infoI
 have hxl : xs.length = n:=HX.out.1
 go_enter Tryz.func101,Tryz.ntmps101
 go_upto_region 1 with (fail)
 generalize hw1 : (w.alloc (.cells #[.int .i64 3,.int .i64 pv,.slice A n c] 50)).alloc _ = w1
 obtain ⟨hb0,hb1,hbw,hz⟩:=sb2 hw1
 have HB0:=Lib.hid hb0
 have HB1:=Lib.hid (show ∃ old,Sb w1 (w.heap.size + 1) old 50 ∧ old.size = 3 from ⟨_,hb1,rfl⟩)
 have hz1 : w.heap.size + 1 < w1.heap.size:=by omega
 have hz0 : w.heap.size < w1.heap.size:=by omega
 have y2:=HB0.out.cell 2 (v:=.slice A n c) rfl
 clear hw1 hb0 hb1 hz
 go_upto_region 2 with (first
  | (at_builtin;refine wpList_append_srcG (by rfl) (.tmp 8) (.tmp 10) 22 rfl w1.heap.size 3 i0 (.int .i64 0) 1 8 Tryz.underlying22 hi hi0 hi1 hi2 rfl (by decide) (.slice (some ⟨w1.heap.size,0,none⟩) 0 0) 0 [] (by rfl) (own_made rfl (Nat.le_refl _)) A n c (xs.map (.int .i64)) (by rfl) (by rw [List.length_map,hxl];omega) (fun e => (HX.out.none_ e).1) (Rd.news2 (by exact HX.out.up BWX)) (one_map (fun _ => rfl) _) (by unfold maxLen;omega) (by omega) SZX ?_;intro v1 w2 hown hg2;simp only [Nat.zero_add,List.nil_append] at hown;have hb2 : Bw w1 w2:=Bw.grown (show Bw w1 (w1.alloc (.cells #[] 3)) from BWX) hg2 (fun k hk => by have e:=Option.some.inj (show some w1.heap.size = some k from hk);omega);have HOWN:=Lib.hid hown;have HB2:=Lib.hid hb2;clear hown hg2 hb2)
  | fail)
 obtain ⟨gp,cp,rfl,hgp,hgp2⟩:=HOWN.out.form (by omega)
 have hb2:=HB2.out
 have HB0':=Lib.hid (HB0.out.up hb2)
 have HB1':=Lib.hid (Exists.elim HB1.out (fun old h => (⟨old,h.1.up hb2,h.2⟩ : ∃ old,Sb w2 (w.heap.size + 1) old 50 ∧ old.size = 3)))
 have hbw2 : Bw w w2:=Bw.trans hbw hb2
 have hz2 : w.heap.size + 1 < w2.heap.size:=by have:=hb2.size;omega
 have hz02 : w.heap.size < w2.heap.size:=by omega
 have hcp:=own_form HOWN.out
 obtain ⟨A_,c_,e_,hcp1,hcp2⟩:=hcp
 cases e_
 clear HB2 y2 HB0 HB1 hb2
 have y1:=HB0'.out.cell 1 (v:=.int .i64 pv) rfl
 have y2:=HB0'.out.cell 2 (v:=.slice A n c) rfl
 obtain ⟨k,hk⟩ : ∃ k : Nat,n = k + 1:=⟨n - 1,by omega⟩
 have hk1 : (n : Int) - 1 = (k : Int):=by omega
 have hkn : k < n:=by omega
 have HK:=Lib.hid hk
 clear hk
 rcases HQ.out with ⟨h1,h2⟩|⟨hn16',hcode⟩|⟨h1,h59⟩|⟨h1,h2,h59,hpv0,hn0,hx0⟩|⟨h1,h2,h59,hpv0⟩|⟨h1,h2,h59,hpv0,hn0⟩|⟨h1,h2,h59,hpv0,hn0,x,hx0,hx1⟩
 ·have hcx : w2.cell? ⟨gp,k,none⟩ = some (.int .i64 (xs[k]'(by omega))):=by
   have h:=(own_rd HOWN.out).2 (by omega)
   obtain ⟨g,o,e,h⟩:=h
   cases e
   simpa using h k (by omega)
  obtain ⟨x,hxx⟩ : ∃ x,xs[k]'(by omega) = x:=⟨_,rfl⟩
  rw [hxx] at hcx
  obtain ⟨hx0,hx9⟩:=HP.out x (hxx ▸ List.getElem_mem (by omega))
  have hfz:=HOWN.out.frozenAt k
  have HXX:=Lib.hid (show xs.length - 1 = k ∧ xs.getD k 0 = x from ⟨by rw [hxl,HK.out];omega,by rw [← hxx,List.getD_eq_getElem?_getD,List.getElem?_eq_getElem (by omega)];rfl⟩)
  have HD:=Lib.hid (show 0 ≤ min (10 * x + code - 48) 9999 ∧ min (10 * x + code - 48) 9999 ≤ 9999 from by omega)
  clear hxx
  go_upto_region 5 with ((go_at_call 100;refine (rin_any _ _ _ _).mono ?_;rintro ee ww ⟨rfl,rfl⟩;(first|rw [inB_yes (by omega) (by omega)]|rw [inB_no (by omega)])))
  obtain ⟨y,hy⟩ : ∃ y,(if 9999 < 10 * x + code - 48 then 9999 else 10 * x + code - 48) = y:=⟨_,rfl⟩
  have hy0 : 0 ≤ y ∧ y ≤ 9999:=by subst hy;split <;> omega
  have HY0:=Lib.hid hy0
  have HYE:=Lib.hid (show csiN pv xs code = ((3,pv,xs.set k y),[]) by
   have e : min (10 * x + code - 48) 9999 = y:=by rw [← hy];split <;> omega
   unfold csiN
   rw [if_pos ⟨h1,h2⟩,HXX.out.1,HXX.out.2,e])
  simp only [hy]
  clear hy0 hy HD
  obtain ⟨hOS,hGS⟩:=HOWN.out.stored k (.int .i64 y)
  have e1 : (xs.map (Value.int .i64)).set k (.int .i64 y) = (xs.set k y).map (Value.int .i64):=by rw [List.map_set]
  rw [e1] at hOS
  generalize hw5 : w2.setCell ⟨gp,k,none⟩ (.int .i64 y) = w5
  rw [hw5] at hOS hGS
  have HOS:=Lib.hid hOS
  have hbw5 : Bw w w5:=Bw.grown hbw2 hGS (fun k hk => by have e:=Option.some.inj hk;omega)
  have HB05:=Lib.hid (HB0'.out.far hGS (by intro e;have:=Option.some.inj e;omega))
  have HB15:=Lib.hid (Exists.elim HB1'.out (fun old h => (⟨old,h.1.far hGS (by intro e;have:=Option.some.inj e;omega),h.2⟩ : ∃ old,Sb w5 (w.heap.size + 1) old 50 ∧ old.size = 3)))
  clear y1 y2 hcx hw5 hOS hGS e1
  have y1:=HB05.out.cell 1 (v:=.int .i64 pv) rfl
  go_wp2_with (first
   | ((with_reducible refine wpList_store_scn 3 pv (some ⟨gp,0,none⟩) n cp (w.heap.size + 1) (.tmp 4) (.tmp 33) rfl rfl ?_ ?_ ?_ ?_);(focus rfl);(focus rfl);(focus (exact HB15.out));intro w3 hS3 hg3;have HS3:=Lib.hid hS3;have HG3:=Lib.hid hg3;clear hS3 hg3)
   | fail)
  refine bodyPost_ret (results_scn rfl _ _ (w.heap.size + 1) 3 pv (some ⟨gp,0,none⟩) n cp (by rfl) HS3.out) rfl ?_
  have hO3:=HOS.out.kept HG3.out (.inr (by simp only [Value.ownBlock];intro e;have:=Option.some.inj e;omega))
  exact ⟨3,pv,some ⟨gp,0,none⟩,n,cp,xs.set k y,none,0,0,[],rfl,⟨own_rd hO3,hcp1,hcp2,.inr ⟨rfl,hn1,hn16,HPV.out,fun z hz => by
   rcases List.mem_or_eq_of_mem_set hz with h|rfl
   ·exact HP.out z h
   ·exact HY0.out⟩⟩,OpsL.nil_ _,by omega,by omega,by omega,Bw.grown hbw5 HG3.out (fun k hk => by cases hk;omega),(by have hs3:=HG3.out.size;(try have hs5:=HG5.out.size);refine ⟨fun ad e => ?_,fun ad e => ?_,fun o ho ad e => ?_⟩;(focus (first|(cases e;done)|(right;exact e.symm)|(left;cases e;dsimp only;simp only [szA,szS,szD,szN] at *;omega)|(left;cases e;dsimp only;omega)));(focus (first|(cases e;done)|(cases e;dsimp only;omega)|(cases e;dsimp only;simp only [szA,szS,szD,szN] at *;omega)));(focus (first|(cases ho;done)|(simp only [List.mem_singleton] at ho;subst ho;dsimp only at e;first|(cases e;done)|(cases e;dsimp only;omega))))),(fun _ => TyA.own hO3),(fun o ho => by cases ho),HYE.out⟩
 ·subst hcode
  have hlt : ¬ (n : Int) < 16:=by omega
  go_upto_region 12 with ((go_at_call 100;refine (rin_any _ _ _ _).mono ?_;rintro ee ww ⟨rfl,rfl⟩;(first|rw [inB_yes (by omega) (by omega)]|rw [inB_no (by omega)])))
  go_wp2_with (first
   | (go_at_call 77;refine (rto_any 4 _).mono ?_;rintro ee wt ⟨rfl,hbt⟩;have hbt':=Lib.hid hbt;clear hbt)
   | ((with_reducible refine wpList_store_scn 4 0 none 0 0 (w.heap.size + 1) (.tmp 4) (.tmp 80) rfl rfl ?_ ?_ ?_ ?_);(focus rfl);(focus rfl);(focus (exact Exists.elim HB1'.out (fun old h => ⟨old,h.1.up hbt'.out,h.2⟩)));intro w3 hS3 hg3;have HS3:=Lib.hid hS3;have HG3:=Lib.hid hg3;clear hS3 hg3)
   | fail)
  refine bodyPost_ret (results_scn rfl _ _ (w.heap.size + 1) 4 0 none 0 0 (by rfl) HS3.out) rfl ?_
  exact ⟨4,0,none,0,0,[],none,0,0,[],rfl,ScnOk.to _ _ (by omega),OpsL.nil_ _,by omega,by omega,by omega,Bw.grown (Bw.trans hbw2 hbt'.out) HG3.out (fun k hk => by cases hk;omega),(by have hs3:=HG3.out.size;(try have hs5:=HG5.out.size);refine ⟨fun ad e => ?_,fun ad e => ?_,fun o ho ad e => ?_⟩;(focus (first|(cases e;done)|(right;exact e.symm)|(left;cases e;dsimp only;simp only [szA,szS,szD,szN] at *;omega)|(left;cases e;dsimp only;omega)));(focus (first|(cases e;done)|(cases e;dsimp only;omega)|(cases e;dsimp only;simp only [szA,szS,szD,szN] at *;omega)));(focus (first|(cases ho;done)|(simp only [List.mem_singleton] at ho;subst ho;dsimp only at e;first|(cases e;done)|(cases e;dsimp only;omega))))),(fun _ => TyA.none _),(fun o ho => by cases ho),(by simp only [csiN];(repeat' split) <;> first|rfl|(exfalso;omega))⟩
 ·have h59' : ¬ code = 59:=by simpa using h59
  go_upto_region 12 with ((go_at_call 100;refine (rin_any _ _ _ _).mono ?_;rintro ee ww ⟨rfl,rfl⟩;(first|rw [inB_yes (by omega) (by omega)]|rw [inB_no (by omega)])))
  go_wp2_with (first
   | (go_at_call 77;refine (rto_any 4 _).mono ?_;rintro ee wt ⟨rfl,hbt⟩;have hbt':=Lib.hid hbt;clear hbt)
   | ((with_reducible refine wpList_store_scn 4 0 none 0 0 (w.heap.size + 1) (.tmp 4) (.tmp 80) rfl rfl ?_ ?_ ?_ ?_);(focus rfl);(focus rfl);(focus (exact Exists.elim HB1'.out (fun old h => ⟨old,h.1.up hbt'.out,h.2⟩)));intro w3 hS3 hg3;have HS3:=Lib.hid hS3;have HG3:=Lib.hid hg3;clear hS3 hg3)
   | fail)
  refine bodyPost_ret (results_scn rfl _ _ (w.heap.size + 1) 4 0 none 0 0 (by rfl) HS3.out) rfl ?_
  exact ⟨4,0,none,0,0,[],none,0,0,[],rfl,ScnOk.to _ _ (by omega),OpsL.nil_ _,by omega,by omega,by omega,Bw.grown (Bw.trans hbw2 hbt'.out) HG3.out (fun k hk => by cases hk;omega),(by have hs3:=HG3.out.size;(try have hs5:=HG5.out.size);refine ⟨fun ad e => ?_,fun ad e => ?_,fun o ho ad e => ?_⟩;(focus (first|(cases e;done)|(right;exact e.symm)|(left;cases e;dsimp only;simp only [szA,szS,szD,szN] at *;omega)|(left;cases e;dsimp only;omega)));(focus (first|(cases e;done)|(cases e;dsimp only;omega)|(cases e;dsimp only;simp only [szA,szS,szD,szN] at *;omega)));(focus (first|(cases ho;done)|(simp only [List.mem_singleton] at ho;subst ho;dsimp only at e;first|(cases e;done)|(cases e;dsimp only;omega))))),(fun _ => TyA.none _),(fun o ho => by cases ho),(by simp only [csiN];(repeat' split) <;> first|rfl|(exfalso;omega))⟩
 ·have h59' : ¬ code = 59:=by simpa using h59
  subst hpv0
  subst hx0
  subst hn0
  have hg0 : ([0] : List Int).getD 0 0 = 0:=rfl
  have hcx : w2.cell? ⟨gp,0,none⟩ = some (.int .i64 0):=by
   have h:=(own_rd HOWN.out).2 (by omega)
   obtain ⟨g,o,e,h⟩:=h
   cases e
   simpa using h 0 (by simp)
  go_upto_region 9 with ((go_at_call 100;refine (rin_any _ _ _ _).mono ?_;rintro ee ww ⟨rfl,rfl⟩;(first|rw [inB_yes (by omega) (by omega)]|rw [inB_no (by omega)])))
  go_wp2_with (first
   | ((with_reducible refine wpList_store_scn 3 code (some ⟨gp,0,none⟩) 1 cp (w.heap.size + 1) (.tmp 4) (.tmp 69) rfl rfl ?_ ?_ ?_ ?_);(focus rfl);(focus rfl);(focus (exact HB1'.out));intro w3 hS3 hg3;have HS3:=Lib.hid hS3;have HG3:=Lib.hid hg3;clear hS3 hg3)
   | fail)
  refine bodyPost_ret (results_scn rfl _ _ (w.heap.size + 1) 3 code (some ⟨gp,0,none⟩) 1 cp (by rfl) HS3.out) rfl ?_
  exact ⟨3,code,some ⟨gp,0,none⟩,1,cp,[0],none,0,0,[],rfl,⟨(own_rd (HOWN.out.kept HG3.out (.inr (by simp only [Value.ownBlock];intro e;have:=Option.some.inj e;omega)))),hcp1,hcp2,.inr ⟨rfl,hn1,hn16,.inr ⟨h1,h2⟩,HP.out⟩⟩,OpsL.nil_ _,by omega,by omega,by omega,Bw.grown hbw2 HG3.out (fun k hk => by cases hk;omega),(by have hs3:=HG3.out.size;(try have hs5:=HG5.out.size);refine ⟨fun ad e => ?_,fun ad e => ?_,fun o ho ad e => ?_⟩;(focus (first|(cases e;done)|(right;exact e.symm)|(left;cases e;dsimp only;simp only [szA,szS,szD,szN] at *;omega)|(left;cases e;dsimp only;omega)));(focus (first|(cases e;done)|(cases e;dsimp only;omega)|(cases e;dsimp only;simp only [szA,szS,szD,szN] at *;omega)));(focus (first|(cases ho;done)|(simp only [List.mem_singleton] at ho;subst ho;dsimp only at e;first|(cases e;done)|(cases e;dsimp only;omega))))),(fun _ => TyA.own (HOWN.out.kept HG3.out (.inr (by simp only [Value.ownBlock];intro e;have:=Option.some.inj e;omega)))),(fun o ho => by cases ho),(by unfold csiN;rw [if_neg (by omega),if_neg (by omega),if_neg (by omega),if_pos ⟨h1,rfl,rfl,rfl⟩];rfl)⟩
 ·have hpv0' : ¬ pv = 0:=by simpa using hpv0
  have h59' : ¬ code = 59:=by simpa using h59
  go_upto_region 12 with ((go_at_call 100;refine (rin_any _ _ _ _).mono ?_;rintro ee ww ⟨rfl,rfl⟩;(first|rw [inB_yes (by omega) (by omega)]|rw [inB_no (by omega)])))
  go_wp2_with (first
   | (go_at_call 77;refine (rto_any 4 _).mono ?_;rintro ee wt ⟨rfl,hbt⟩;have hbt':=Lib.hid hbt;clear hbt)
   | ((with_reducible refine wpList_store_scn 4 0 none 0 0 (w.heap.size + 1) (.tmp 4) (.tmp 80) rfl rfl ?_ ?_ ?_ ?_);(focus rfl);(focus rfl);(focus (exact Exists.elim HB1'.out (fun old h => ⟨old,h.1.up hbt'.out,h.2⟩)));intro w3 hS3 hg3;have HS3:=Lib.hid hS3;have HG3:=Lib.hid hg3;clear hS3 hg3)
   | fail)
  refine bodyPost_ret (results_scn rfl _ _ (w.heap.size + 1) 4 0 none 0 0 (by rfl) HS3.out) rfl ?_
  exact ⟨4,0,none,0,0,[],none,0,0,[],rfl,ScnOk.to _ _ (by omega),OpsL.nil_ _,by omega,by omega,by omega,Bw.grown (Bw.trans hbw2 hbt'.out) HG3.out (fun k hk => by cases hk;omega),(by have hs3:=HG3.out.size;(try have hs5:=HG5.out.size);refine ⟨fun ad e => ?_,fun ad e => ?_,fun o ho ad e => ?_⟩;(focus (first|(cases e;done)|(right;exact e.symm)|(left;cases e;dsimp only;simp only [szA,szS,szD,szN] at *;omega)|(left;cases e;dsimp only;omega)));(focus (first|(cases e;done)|(cases e;dsimp only;omega)|(cases e;dsimp only;simp only [szA,szS,szD,szN] at *;omega)));(focus (first|(cases ho;done)|(simp only [List.mem_singleton] at ho;subst ho;dsimp only at e;first|(cases e;done)|(cases e;dsimp only;omega))))),(fun _ => TyA.none _),(fun o ho => by cases ho),(by simp only [csiN];(repeat' split) <;> first|rfl|(exfalso;omega))⟩
 ·have h59' : ¬ code = 59:=by simpa using h59
  subst hpv0
  have hnn : ((n : Int) == 1) = false:=by simp;omega
  go_upto_region 12 with ((go_at_call 100;refine (rin_any _ _ _ _).mono ?_;rintro ee ww ⟨rfl,rfl⟩;(first|rw [inB_yes (by omega) (by omega)]|rw [inB_no (by omega)])))
  go_wp2_with (first
   | (go_at_call 77;refine (rto_any 4 _).mono ?_;rintro ee wt ⟨rfl,hbt⟩;have hbt':=Lib.hid hbt;clear hbt)
   | ((with_reducible refine wpList_store_scn 4 0 none 0 0 (w.heap.size + 1) (.tmp 4) (.tmp 80) rfl rfl ?_ ?_ ?_ ?_);(focus rfl);(focus rfl);(focus (exact Exists.elim HB1'.out (fun old h => ⟨old,h.1.up hbt'.out,h.2⟩)));intro w3 hS3 hg3;have HS3:=Lib.hid hS3;have HG3:=Lib.hid hg3;clear hS3 hg3)
   | fail)
  refine bodyPost_ret (results_scn rfl _ _ (w.heap.size + 1) 4 0 none 0 0 (by rfl) HS3.out) rfl ?_
  exact ⟨4,0,none,0,0,[],none,0,0,[],rfl,ScnOk.to _ _ (by omega),OpsL.nil_ _,by omega,by omega,by omega,Bw.grown (Bw.trans hbw2 hbt'.out) HG3.out (fun k hk => by cases hk;omega),(by have hs3:=HG3.out.size;(try have hs5:=HG5.out.size);refine ⟨fun ad e => ?_,fun ad e => ?_,fun o ho ad e => ?_⟩;(focus (first|(cases e;done)|(right;exact e.symm)|(left;cases e;dsimp only;simp only [szA,szS,szD,szN] at *;omega)|(left;cases e;dsimp only;omega)));(focus (first|(cases e;done)|(cases e;dsimp only;omega)|(cases e;dsimp only;simp only [szA,szS,szD,szN] at *;omega)));(focus (first|(cases ho;done)|(simp only [List.mem_singleton] at ho;subst ho;dsimp only at e;first|(cases e;done)|(cases e;dsimp only;omega))))),(fun _ => TyA.none _),(fun o ho => by cases ho),(by simp only [csiN];(repeat' split) <;> first|rfl|(exfalso;omega))⟩
 ·have h59' : ¬ code = 59:=by simpa using h59
  subst hpv0
  subst hx0
  have hg0 : ([x] : List Int).getD 0 0 = x:=rfl
  have hx1' : ¬ x = 0:=by simpa using hx1
  have hn1' : ((n : Int) == 1) = true:=by simp;omega
  have hcx : w2.cell? ⟨gp,0,none⟩ = some (.int .i64 x):=by
   have h:=(own_rd HOWN.out).2 (by omega)
   obtain ⟨g,o,e,h⟩:=h
   cases e
   simpa using h 0 (by simp)
  go_upto_region 12 with ((go_at_call 100;refine (rin_any _ _ _ _).mono ?_;rintro ee ww ⟨rfl,rfl⟩;(first|rw [inB_yes (by omega) (by omega)]|rw [inB_no (by omega)])))
  go_wp2_with (first
   | (go_at_call 77;refine (rto_any 4 _).mono ?_;rintro ee wt ⟨rfl,hbt⟩;have hbt':=Lib.hid hbt;clear hbt)
   | ((with_reducible refine wpList_store_scn 4 0 none 0 0 (w.heap.size + 1) (.tmp 4) (.tmp 80) rfl rfl ?_ ?_ ?_ ?_);(focus rfl);(focus rfl);(focus (exact Exists.elim HB1'.out (fun old h => ⟨old,h.1.up hbt'.out,h.2⟩)));intro w3 hS3 hg3;have HS3:=Lib.hid hS3;have HG3:=Lib.hid hg3;clear hS3 hg3)
   | fail)
  refine bodyPost_ret (results_scn rfl _ _ (w.heap.size + 1) 4 0 none 0 0 (by rfl) HS3.out) rfl ?_
  exact ⟨4,0,none,0,0,[],none,0,0,[],rfl,ScnOk.to _ _ (by omega),OpsL.nil_ _,by omega,by omega,by omega,Bw.grown (Bw.trans hbw2 hbt'.out) HG3.out (fun k hk => by cases hk;omega),(by have hs3:=HG3.out.size;(try have hs5:=HG5.out.size);refine ⟨fun ad e => ?_,fun ad e => ?_,fun o ho ad e => ?_⟩;(focus (first|(cases e;done)|(right;exact e.symm)|(left;cases e;dsimp only;simp only [szA,szS,szD,szN] at *;omega)|(left;cases e;dsimp only;omega)));(focus (first|(cases e;done)|(cases e;dsimp only;omega)|(cases e;dsimp only;simp only [szA,szS,szD,szN] at *;omega)));(focus (first|(cases ho;done)|(simp only [List.mem_singleton] at ho;subst ho;dsimp only at e;first|(cases e;done)|(cases e;dsimp only;omega))))),(fun _ => TyA.none _),(fun o ho => by cases ho),(by simp only [csiN];(repeat' split) <;> first|rfl|(exfalso;omega))⟩
end Go.Proofs.YteebdjmjeahccaaGreatDoor
