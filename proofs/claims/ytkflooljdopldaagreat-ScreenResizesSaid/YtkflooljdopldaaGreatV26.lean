/- Parts of the proof, one after the other. -/
import Derived.Test.YtkflooljdopldaaGreatV06
import Derived.Test.YtkflooljdopldaaGreatV14
import Derived.Deep.RegionHeld3
import Derived.Test.YtkflooljdopldaaGreatV05
import Derived.Lib.SliceRun
import Derived.Test.YtkflooljdopldaaGreatV10
import Derived.Test.YtkflooljdopldaaGreatV16
set_option linter.unusedSimpArgs false
set_option linter.unusedVariables false
/- cursor.Move returns what the plain function mv says. -/
namespace Go.Proofs.YtkflooljdopldaaGreat
open Go.RowKit

set_option maxHeartbeats 1000000 in
theorem cmove_no (r c : Int) (b : Bool) (kind n t m rows cols : Int) (w : World) (hr : rows ≤ 1000000) (hc : cols ≤ 1000000) (hv : vldB r c rows cols = false) :
  Calls Tryz.prog 94 #[.agg #[.int .i64 r,.int .i64 c,.bool b],.int .i64 kind,.int .i64 n,.agg #[.int .i64 t,.int .i64 m],.int .i64 rows,.int .i64 cols] w fun e w' => e = .returned (.agg #[.int .i64 r,.int .i64 c,.bool b]) ∧ Bw w w':=by
 have HV:=Lib.hid hv
 clear hv
 go_enter Tryz.func94,Tryz.ntmps94
 go_wp2_with (go_at_call 32;refine (cvalid_any _ _ _ _ _ _).mono ?_;rintro ee ww ⟨rfl,rfl⟩;rw [HV.out])
 refine bodyPost_ret (v := ?v) ?res rfl ?post
 case res => (simp [results,Tryz.results94,go_sem];rfl)
 exact ⟨rfl,BWX⟩

set_option maxHeartbeats 1000000 in
theorem cmove_nr (r c : Int) (b : Bool) (kind n t m rows cols : Int) (w : World) (hr : rows ≤ 1000000) (hc : cols ≤ 1000000) (hv : vldB r c rows cols = true) (hq : rgtB t m rows = false) :
  Calls Tryz.prog 94 #[.agg #[.int .i64 r,.int .i64 c,.bool b],.int .i64 kind,.int .i64 n,.agg #[.int .i64 t,.int .i64 m],.int .i64 rows,.int .i64 cols] w fun e w' => e = .returned (.agg #[.int .i64 r,.int .i64 c,.bool b]) ∧ Bw w w':=by
 have HV:=Lib.hid hv
 have HR:=Lib.hid hq
 clear hv hq
 go_enter Tryz.func94,Tryz.ntmps94
 go_wp2_with (first|(go_at_call 32;refine (cvalid_any _ _ _ _ _ _).mono ?_;rintro ee ww ⟨rfl,rfl⟩;rw [HV.out])|(go_at_call 115;refine (cright_any _ _ _ _).mono ?_;rintro ee ww ⟨rfl,rfl⟩;rw [HR.out]))
 refine bodyPost_ret (v := ?v) ?res rfl ?post
 case res => (simp [results,Tryz.results94,go_sem];rfl)
 exact ⟨rfl,BWX⟩

set_option maxHeartbeats 4000000 in
theorem cmove_yes (r c : Int) (b : Bool) (kind n t m rows cols : Int) (w : World) (hr : rows ≤ 1000000) (hc : cols ≤ 1000000) (hn : n ≤ 9223372036854775807) (h1 : 0 ≤ r) (h2 : r < rows) (h3 : 0 ≤ c) (h4 : c < cols) (h5 : 0 ≤ t) (h6 : t ≤ m) (h7 : m < rows) :
  Calls Tryz.prog 94 #[.agg #[.int .i64 r,.int .i64 c,.bool b],.int .i64 kind,.int .i64 n,.agg #[.int .i64 t,.int .i64 m],.int .i64 rows,.int .i64 cols] w fun e w' => e = .returned (curV (mv r c b kind n t m rows cols)) ∧ Bw w w':=by
 have HV:=Lib.hid (show vldB r c rows cols = true from decide_eq_true ⟨h1,h2,h3,h4⟩)
 have HR:=Lib.hid (show rgtB t m rows = true from decide_eq_true ⟨h5,h6,h7⟩)
 go_enter Tryz.func94,Tryz.ntmps94
 go_wp2_with (first
  | (go_at_call 32;refine (cvalid_any _ _ _ _ _ _).mono ?_;rintro ee ww ⟨rfl,rfl⟩;rw [HV.out])
  | (go_at_call 115;refine (cright_any _ _ _ _).mono ?_;rintro ee ww ⟨rfl,rfl⟩;rw [HR.out])
  | (go_at_call 116;refine (ctab_any _ _ _ _ h3 h4 hc (by omega) (by omega)).mono ?_;rintro ee ww ⟨rfl,rfl⟩))
 all_goals refine bodyPost_ret (by simp [results,Tryz.results94,go_sem];rfl) rfl ⟨?_,BWX⟩
 all_goals (have e1:=HV.out;have e2:=HR.out;clear HV HR hr hc;try simp only [beq_iff_eq,beq_eq_false_iff_ne,ne_eq] at *)
 all_goals (refine curV_ext ?_ ?_ ?_ <;> simp [mv, *] <;> first|omega|(congr 1;omega))


theorem cmove_any (r c : Int) (b : Bool) (kind n t m rows cols : Int) (w : World) (hr : rows ≤ 1000000) (hc : cols ≤ 1000000) (hn : n ≤ 9223372036854775807) :
  Calls Tryz.prog 94 #[.agg #[.int .i64 r,.int .i64 c,.bool b],.int .i64 kind,.int .i64 n,.agg #[.int .i64 t,.int .i64 m],.int .i64 rows,.int .i64 cols] w fun e w' => e = .returned (curV (mv r c b kind n t m rows cols)) ∧ Bw w w':=by
 cases hv : vldB r c rows cols
 ·have e : mv r c b kind n t m rows cols = (r,c,b):=by simp [mv,hv]
  rw [e];exact cmove_no r c b kind n t m rows cols w hr hc hv
 ·cases hq : rgtB t m rows
  ·have e : mv r c b kind n t m rows cols = (r,c,b):=by simp [mv,hq]
   rw [e];exact cmove_nr r c b kind n t m rows cols w hr hc hv hq
  ·have h1:=of_decide_eq_true hv
   have h2:=of_decide_eq_true hq
   exact cmove_yes r c b kind n t m rows cols w hr hc hn h1.1 h1.2.1 h1.2.2.1 h1.2.2.2 h2.1 h2.2.1 h2.2.2

/-- A canvas' cells: the screen, the rows that went away, whether the grid is new. -/
def cvV (s : Scr) (L : Option Addr) (m k : Nat) (fr : Bool) : Array Value:=(s.vals ++ [Value.slice L m k,Value.bool fr]).toArray
/-- A method of a canvas: its box afterwards. -/
def CvP (w : World) (g : Nat) (s : Scr) (L : Option Addr) (m k : Nat) (fr : Bool) (e : Ending) (w' : World) : Prop :=
 e = .returned (.tuple #[]) ∧ Sb w' g (cvV s L m k fr) 75 ∧ w.grownBy w' (some g)

set_option maxRecDepth 100000 in
set_option maxHeartbeats 2000000 in
theorem cvpaint_any (s : Scr) (L : Option Addr) (m k : Nat) (fr : Bool) (R C : Nat) (A : Option Addr) (n c g : Nat) (w : World) (h : Sb w g (cvV s L m k fr) 75) :
  Calls Tryz.prog 55 #[.pointer (some ⟨g,0,none⟩),.agg #[.int .i64 (R : Int),.int .i64 (C : Int),.slice A n c]] w (CvP w g ({ s with Rn:=R,Cn:=C,A:=A,n:=n,c:=c } : Scr) L m k true):=by
 go_enter Tryz.func55,Tryz.ntmps55
 go_upto_region 1 with (fail)
 generalize hw1 : w.alloc _ = w1
 obtain ⟨hb0,hbw,hz⟩:=sb1 hw1
 have HB:=Lib.hid (h.up hbw)
 have hlt:=h.lt
 have y0:=hb0.cell 0 (v:=.int .i64 (R : Int)) rfl
 have y1:=hb0.cell 1 (v:=.int .i64 (C : Int)) rfl
 have y2:=hb0.cell 2 (v:=.slice A n c) rfl
 (have x0:=HB.out.cell 0 (v:=.int .i64 (s.Rn : Int)) rfl;have x1:=HB.out.cell 1 (v:=.int .i64 (s.Cn : Int)) rfl;have x2:=HB.out.cell 2 (v:=.slice s.A s.n s.c) rfl)
 have x20:=HB.out.cell 20 (v:=.bool fr) rfl
 (have z0:=HB.out.free 0;have z1:=HB.out.free 1;have z2:=HB.out.free 2;have z20:=HB.out.free 20)
 have hne : g ≠ w.heap.size:=by omega
 clear hw1 hb0 hz h
 go_wp2_with fail
 go_end0
 exact ⟨rfl,(((HB.out.set 0 _ rfl).set 1 _ rfl).set 2 _ rfl).set 20 _ rfl,grown_set (grown_set (grown_set (grown_set (grown_bw hbw _) 0 _) 1 _) 2 _) 20 _⟩

set_option maxRecDepth 100000 in
set_option maxHeartbeats 2000000 in
theorem cvempty_any (s : Scr) (L : Option Addr) (m k : Nat) (fr : Bool) (g : Nat) (w : World) (h : Sb w g (cvV s L m k fr) 75) :
  Calls Tryz.prog 98 #[.pointer (some ⟨g,0,none⟩)] w fun e w' => e = .returned (.agg #[.int .i64 32,.int .i64 0,.int .i64 0,.int .i64 s.b]) ∧ Bw w w':=by
 (have x6:=h.cell 6 (v:=.int .i64 s.f) rfl;have x7:=h.cell 7 (v:=.int .i64 s.g) rfl;have x8:=h.cell 8 (v:=.int .i64 s.b) rfl)
 have hlt:=h.lt
 go_enter Tryz.func98,Tryz.ntmps98
 go_wp2_with (go_at_call 37;refine (gblank_any _ _ _ _).mono ?_;rintro ee ww ⟨rfl,hb1⟩;(first|obtain ⟨L1,d1,rfl⟩:=Bw.isPlus (Bw.un hb1)|obtain ⟨L1,d1,rfl⟩:=Bw.isPlus hb1);clear hb1)
 refine bodyPost_ret (by simp [results,Tryz.results98,go_sem];rfl) rfl ?_
 exact ⟨rfl,BWX⟩

set_option maxRecDepth 100000 in
set_option maxHeartbeats 2000000 in
theorem cvmove_any (s : Scr) (L : Option Addr) (m k : Nat) (fr : Bool) (kind nn : Int) (g : Nat) (w : World) (h : Sb w g (cvV s L m k fr) 75) (hR : s.Rn ≤ 30) (hC : s.Cn ≤ 100) (hn : nn ≤ 9223372036854775807) :
  Calls Tryz.prog 57 #[.pointer (some ⟨g,0,none⟩),.int .i64 kind,.int .i64 nn] w (CvP w g ({ s with row:=(mv s.row s.col s.wrap kind nn s.top s.bot s.Rn s.Cn).1,col:=(mv s.row s.col s.wrap kind nn s.top s.bot s.Rn s.Cn).2.1,wrap:=(mv s.row s.col s.wrap kind nn s.top s.bot s.Rn s.Cn).2.2 } : Scr) L m k fr):=by
 obtain ⟨⟨r',c',b'⟩,hmv⟩ : ∃ x,mv s.row s.col s.wrap kind nn s.top s.bot s.Rn s.Cn = x:=⟨_,rfl⟩
 rw [hmv]
 have HM:=Lib.hid hmv
 have HB:=Lib.hid h
 have hlt:=h.lt
 (have x0:=h.cell 0 (v:=.int .i64 (s.Rn : Int)) rfl;have x1:=h.cell 1 (v:=.int .i64 (s.Cn : Int)) rfl;have x3:=h.cell 3 (v:=.int .i64 s.row) rfl;have x4:=h.cell 4 (v:=.int .i64 s.col) rfl;have x5:=h.cell 5 (v:=.bool s.wrap) rfl;have x9:=h.cell 9 (v:=.int .i64 s.top) rfl;have x10:=h.cell 10 (v:=.int .i64 s.bot) rfl)
 clear hmv h
 go_enter Tryz.func57,Tryz.ntmps57
 go_upto_region 0 with (fail)
 have HY:=Lib.hid (show ∀ w',Bw w w' → (w'.cell? ⟨g,0,none⟩ = some (.int .i64 (s.Rn : Int)) ∧ w'.cell? ⟨g,1,none⟩ = some (.int .i64 (s.Cn : Int)) ∧ w'.cell? ⟨g,9,none⟩ = some (.int .i64 s.top) ∧ w'.cell? ⟨g,10,none⟩ = some (.int .i64 s.bot)) from fun w' hb => ⟨(HB.out.up hb).cell 0 rfl,(HB.out.up hb).cell 1 rfl,(HB.out.up hb).cell 9 rfl,(HB.out.up hb).cell 10 rfl⟩)
 have HYs:=Lib.hid (show ∀ w' (a b c : Value),Bw w w' → ((((w'.setCell ⟨g,3,none⟩ a).setCell ⟨g,4,none⟩ b).setCell ⟨g,5,none⟩ c).cell? ⟨g,0,none⟩ = some (.int .i64 (s.Rn : Int)) ∧ (((w'.setCell ⟨g,3,none⟩ a).setCell ⟨g,4,none⟩ b).setCell ⟨g,5,none⟩ c).cell? ⟨g,1,none⟩ = some (.int .i64 (s.Cn : Int)) ∧ (((w'.setCell ⟨g,3,none⟩ a).setCell ⟨g,4,none⟩ b).setCell ⟨g,5,none⟩ c).cell? ⟨g,9,none⟩ = some (.int .i64 s.top) ∧ (((w'.setCell ⟨g,3,none⟩ a).setCell ⟨g,4,none⟩ b).setCell ⟨g,5,none⟩ c).cell? ⟨g,10,none⟩ = some (.int .i64 s.bot)) from fun w' a b c hb => ⟨cell_ne (cell_ne (cell_ne ((HB.out.up hb).cell 0 rfl) (by omega)) (by omega)) (by omega),cell_ne (cell_ne (cell_ne ((HB.out.up hb).cell 1 rfl) (by omega)) (by omega)) (by omega),cell_ne (cell_ne (cell_ne ((HB.out.up hb).cell 9 rfl) (by omega)) (by omega)) (by omega),cell_ne (cell_ne (cell_ne ((HB.out.up hb).cell 10 rfl) (by omega)) (by omega)) (by omega)⟩)
 refine wp_region_held_drew (S:=(fun w' => w'.cell? ⟨g,0,none⟩ = some (.int .i64 (s.Rn : Int)) ∧ w'.cell? ⟨g,1,none⟩ = some (.int .i64 (s.Cn : Int)) ∧ w'.cell? ⟨g,9,none⟩ = some (.int .i64 s.top) ∧ w'.cell? ⟨g,10,none⟩ = some (.int .i64 s.bot))) (by kernel_rfl) ?_ (fun hHeld => ?_)
 ·(try dsimp only);(first|(exact HYs.out _ _ _ _ BWX)|(refine HY.out _ ?_;exact BWX))
 refine tkQ 0 ?_
 refine tkQ 1 ?_
 refine tkQ 2 ?_
 (try simp only [Act.put,zP1,zP2,zP3,zP4,zP5,zP6])
 refine tkQ 3 ?_
 refine tkQ 4 ?_
 refine tkQ 6 ?_
 (try simp only [Act.put,zP1,zP2,zP3,zP4,zP5,zP6])
 refine tkQ 7 ?_
 refine tkQ 8 ?_
 refine tkQ 9 ?_
 (try simp only [Act.put,zP1,zP2,zP3,zP4,zP5,zP6])
 refine tkQ 10 ?_
 refine tkQ 11 ?_
 refine tkQ 12 ?_
 (try simp only [Act.put,zP1,zP2,zP3,zP4,zP5,zP6])
 refine tkQ 13 ?_
 refine tkQ 14 ?_
 refine tkQ 15 ?_
 (try simp only [Act.put,zP1,zP2,zP3,zP4,zP5,zP6])
 refine tkQ 16 ?_
 refine tkQ 17 ?_
 refine tkQ 18 ?_
 (try simp only [Act.put,zP1,zP2,zP3,zP4,zP5,zP6])
 refine tkQ 19 ?_
 refine tkQ 20 ?_
 refine tkQ 21 ?_
 (try simp only [Act.put,zP1,zP2,zP3,zP4,zP5,zP6])
 refine tkQ 22 ?_
 refine tkQ 23 ?_
 refine tkQ 24 ?_
 (try simp only [Act.put,zP1,zP2,zP3,zP4,zP5,zP6])
 refine wpAnyH_ready (rs:=[5]) (by kernel_rfl) (by simp) ?_
 refine AllReadyH.cons rfl (fun K hK => ?_) ?_
 ·go_simp
  refine hK.out _ _ ?_ (fun hHeld => ?_)
  ·(try dsimp only);(first|(exact HYs.out _ _ _ _ BWX)|(refine HY.out _ ?_;exact BWX))
  clear hK K
  (try simp only [Act.put,zP1,zP2,zP3,zP4,zP5,zP6])
  refine wpAnyH_ready (rs:=[25]) (by kernel_rfl) (by simp) ?_
  refine AllReadyH.cons rfl (fun K hK => ?_) ?_
  ·go_simp
   refine (cmove_any s.row s.col s.wrap kind nn s.top s.bot _ _ _ (by omega) (by omega) hn).mono ?_;rintro ee w1 ⟨rfl,hb0⟩;have hb1 : Bw w w1:=Bw.trans (show Bw w _ from BWX) hb0;clear hb0;rw [HM.out];dsimp only [curV];have HB1:=Lib.hid (HB.out.up hb1);clear x0 x1 x3 x4 x5 x9 x10;(have y3:=HB1.out.cell 3 (v:=.int .i64 s.row) rfl;have y4:=HB1.out.cell 4 (v:=.int .i64 s.col) rfl;have y5:=HB1.out.cell 5 (v:=.bool s.wrap) rfl);(have z3:=HB1.out.free 3;have z4:=HB1.out.free 4;have z5:=HB1.out.free 5);go_wp2_with fail
   refine hK.out _ _ ?_ (fun hHeld => ?_)
   ·(try dsimp only);(first|(exact HYs.out _ _ _ _ BWX)|(refine HY.out _ ?_;exact BWX))
   clear hK K
   (try simp only [Act.put,zP1,zP2,zP3,zP4,zP5,zP6])
   refine tkQ 26 ?_
   refine tkQ 27 ?_
   refine tkQ 28 ?_
   (try simp only [Act.put,zP1,zP2,zP3,zP4,zP5,zP6])
   refine wpAnyH_ready (rs:=[29]) (by kernel_rfl) (by simp) ?_
   refine AllReadyH.cons rfl (fun K hK => ?_) ?_
   ·go_simp
    refine hK.out _ _ ?_ (fun hHeld => ?_)
    ·(try dsimp only);(first|(exact HYs.out _ _ _ _ BWX)|(refine HY.out _ ?_;exact BWX))
    clear hK K
    (try simp only [Act.put,zP1,zP2,zP3,zP4,zP5,zP6])
    refine wpAnyH_done (by kernel_rfl) ?_ _
    go_wp2_with fail
    go_end0
    exact ⟨rfl,((HB1.out.set 3 _ rfl).set 4 _ rfl).set 5 _ rfl,grown_set (grown_set (grown_set (grown_bw hb1 _) 3 _) 4 _) 5 _⟩
   exact AllReadyH.nil
  exact AllReadyH.nil
 exact AllReadyH.nil

set_option maxRecDepth 100000 in
set_option maxHeartbeats 2000000 in
theorem gclone_any (A : Option Addr) (n c : Nat) (cs : List C4) (w : World) (hr : Rg w A n cs) (hn : n ≤ c) (hn3 : n ≤ 4398046511103) (hc : c ≤ 9223372036854775807) :
  Calls Tryz.prog 30 #[.slice A n c] w fun e w' => ∃ v,e = .returned v ∧ w'.ownsRow w.heap.size 53 4 v n (flat cs) ∧ Bw w w':=by
 obtain ⟨j0,hj,hj0,hj1,hj2⟩:=info_parts infoC
 have q22 : ∀ (w : World) (a : Option Addr) (n c n' c' : Nat),(binOp .eql 24 (.slice a n c) (.slice none n' c')).run Tryz.prog w = .ok (.bool a.isNone) w:=fun w a n c n' c' => Lib.run_eql_slice_nil w _ _ a n c n' c' Tryz.underlying24
 have HR:=Lib.hid hr
 clear hr
 cases A with
 | none =>
  have hn0:=HR.out.none_ rfl
  have hcs : cs = []:=List.eq_nil_of_length_eq_zero (by rw [HR.out.1];exact hn0)
  subst hcs
  subst hn0
  go_enter Tryz.func30,Tryz.ntmps30
  go_wp2_with fail
  go_ret
  exact ⟨_,rfl,World.ownsRow_nil _ _ _ _,BWX⟩
 | some ad =>
  go_enter Tryz.func30,Tryz.ntmps30
  go_wp2_with (at_builtin;refine wpList_append_srcG (by rfl) (.tmp 5) (.tmp 6) 24 rfl w.heap.size 53 j0 (.agg #[.int .i64 0,.int .i64 0,.int .i64 0,.int .i64 0]) 4 32 Tryz.underlying24 hj hj0 hj1 hj2 rfl (by decide) (.slice (some ⟨w.heap.size,0,none⟩) 0 0) 0 [] (by rfl) (own_made rfl (Nat.le_refl _)) (some ad) n c (flat cs) (by rfl) (by rw [flat_len,HR.out.1]) (fun e => by cases e) (fun ad' e => by cases e;exact (HR.out.up BWX).news) (flat_one _) (by unfold maxLen;omega) (by omega) SZX ?_;intro v1 w1 hown1 hg1;simp only [Nat.zero_add,List.nil_append] at hown1;have hbw1 : Bw w w1:=Bw.row (show Bw w (w.alloc (.cells #[] 53)) from BWX) (own_made (size:=4) rfl (Nat.le_refl _)) hg1 (by omega);have HO1:=Lib.hid hown1;have HB1:=Lib.hid hbw1;clear hown1 hg1 hbw1)
  go_ret
  exact ⟨_,rfl,HO1.out,HB1.out⟩

set_option maxRecDepth 100000 in
set_option maxHeartbeats 2000000 in
theorem grow_any (R C : Int) (A : Option Addr) (n c : Nat) (cs : List C4) (row : Int) (w : World) (hr : Rg w A n cs) (hn : n ≤ c) (hn3 : n ≤ 4398046511103) (hc : c ≤ 9223372036854775807) :
  Calls Tryz.prog 68 #[.agg #[.int .i64 R,.int .i64 C,.slice A n c],.int .i64 row] w (RwP w (rowF R C cs row)):=by
 have HR:=Lib.hid hr
 clear hr
 obtain ⟨q,hq⟩ : ∃ q,(n : Int) / C = q:=⟨_,rfl⟩
 have hz : row < 0 ∨ (0 ≤ row ∧ R ≤ row) ∨ ((0 ≤ row ∧ row < R) ∧ C < 1) ∨ ((0 ≤ row ∧ row < R) ∧ 1 ≤ C ∧ q ≤ row) ∨ ((0 ≤ row ∧ row < R) ∧ 1 ≤ C ∧ row < q):=by omega
 have hqb : 1 ≤ C → 0 ≤ q ∧ q ≤ n:=fun h => by rw [← hq];exact ⟨Int.ediv_nonneg (by omega) (by omega),Int.ediv_le_self _ (by omega)⟩
 rcases hz with h|⟨h1,h2⟩|⟨⟨h1,h2⟩,h3⟩|⟨⟨h1,h2⟩,h3,h4⟩|⟨⟨h1,h2⟩,h3,h4⟩
 iterate 4
  ·have HE:=Lib.hid (show rowF R C cs row = [] from if_neg (by rw [HR.out.1,hq];omega))
   (try have hqq:=hqb h3;obtain ⟨hq0,hq1⟩:=hqq)
   clear hqb
   go_enter Tryz.func68,Tryz.ntmps68
   go_wp2_with fail
   go_ret
   exact ⟨none,0,0,rfl,by rw [HE.out];exact Rg.nil_ _ _,by omega,by omega,(fun ad e => by cases e),BWX⟩
 obtain ⟨hq0,hq1⟩:=hqb h3
 clear hqb
 obtain ⟨Cn,rfl⟩ : ∃ Cn : Nat,C = Cn:=⟨C.toNat,by omega⟩
 have hm : (row + 1) * (Cn : Int) ≤ n:=(Int.le_ediv_iff_mul_le (by omega)).1 (by rw [hq];omega)
 obtain ⟨p,hp⟩ : ∃ p : Nat,row * (Cn : Int) = p:=⟨(row * (Cn : Int)).toNat,by have:=Int.mul_nonneg h1 (show (0 : Int) ≤ Cn by omega);omega⟩
 have hp2 : (row + 1) * (Cn : Int) = ((p + Cn : Nat) : Int):=by rw [Int.add_mul,hp];omega
 have hpn : p + Cn ≤ n:=by rw [hp2] at hm;omega
 have HE:=Lib.hid (show rowF R (Cn : Int) cs row = (cs.drop p).take Cn by unfold rowF;rw [if_pos (by rw [HR.out.1,hq];omega),hp];rfl)
 obtain ⟨j0,hj,hj0,hj1,hj2⟩:=info_parts infoC
 obtain ⟨g,o,rfl,hx⟩:=HR.out.2 (by omega)
 have HS:=Lib.hid (HR.out.sub p Cn hpn)
 have hC1 : 1 ≤ Cn:=by omega
 have hpc : p < c:=by omega
 have hb1 : (0 : Int) ≤ (p : Int):=by omega
 have hb2 : ((p : Nat) : Int) ≤ ((p + Cn : Nat) : Int):=by omega
 have hb3 : ((p + Cn : Nat) : Int) ≤ (c : Int):=by omega
 obtain ⟨p2,hpp⟩ : ∃ p2,p2 = p + Cn:=⟨_,rfl⟩
 rw [← hpp] at hp2 hb2 hb3
 have hpn2 : p2 ≤ n:=by omega
 have hpl : p < p2:=by omega
 have hpd : p2 - p = Cn:=by omega
 have HPD:=Lib.hid hpd
 clear hx hm hpp hpd
 go_enter Tryz.func68,Tryz.ntmps68
 go_wp2_with (first|(go_at_call 30;refine (gclone_any (some ⟨g,o + p * 4,none⟩) (p2 - p) (c - p) ((cs.drop p).take Cn) _ (by rw [HPD.out];exact HS.out.up BWX) (by omega) (by omega) (by omega)).mono ?_;rintro ee w1 ⟨v1,rfl,hown1,hb1⟩;have HO1:=Lib.hid hown1;have HB1:=Lib.hid hb1;clear hown1 hb1)|fail)
 go_ret
 have h9:=HO1.out
 rw [HPD.out] at h9
 obtain ⟨A1,c1,rfl,hc1,hc1m⟩:=own_form h9
 exact ⟨A1,Cn,c1,rfl,by rw [HE.out];exact Rg.of_own h9,hc1,hc1m,(fun ad e => by have:=own_new h9 ad e;have h8:=(show Bw w _ from BWX).size;first|omega|(simp at this;omega)),Bw.trans (show Bw w _ from BWX) HB1.out⟩

theorem tab_len (Rn Cn : Nat) (F : Nat → Nat → C4) : (tab Rn Cn F).length = Rn * Cn:=tabK_len _ _ _
theorem tab_get {Rn Cn : Nat} (F : Nat → Nat → C4) (i : Nat) (hi : i < (tab Rn Cn F).length) : (tab Rn Cn F)[i] = F (i / Cn) (i % Cn):=by
 simp [tab,tabK]
theorem tab_ext {Rn Cn : Nat} {F G : Nat → Nat → C4} (hC : 0 < Cn) (h : ∀ r k,r < Rn → k < Cn → F r k = G r k) : tab Rn Cn F = tab Rn Cn G:=by
 refine List.ext_getElem (by rw [tab_len,tab_len]) (fun i h1 h2 => ?_)
 rw [tab_get,tab_get]
 rw [tab_len] at h1
 exact h _ _ (Nat.div_lt_of_lt_mul (by rw [Nat.mul_comm];exact h1)) (Nat.mod_lt _ hC)
theorem tab_same {Rn Cn : Nat} {cs : List C4} {F : Nat → Nat → C4} (d : C4) (hC : 0 < Cn) (hl : cs.length = Rn * Cn) (h : ∀ r k,r < Rn → k < Cn → F r k = atF Rn Cn cs r k d) : tab Rn Cn F = cs:=by
 refine List.ext_getElem (by rw [tab_len,hl]) (fun i h1 h2 => ?_)
 rw [tab_get]
 rw [tab_len] at h1
 have hr : i / Cn < Rn:=Nat.div_lt_of_lt_mul (by rw [Nat.mul_comm];exact h1)
 have hk : i % Cn < Cn:=Nat.mod_lt _ hC
 rw [h _ _ hr hk,atF_in hr hk hl]
 congr 1
 rw [Nat.mul_comm]
 exact Nat.div_add_mod i Cn
theorem idx_parts {Cn r k : Nat} (hk : k < Cn) : (r * Cn + k) / Cn = r ∧ (r * Cn + k) % Cn = k:=by
 constructor
 ·rw [Nat.mul_comm,Nat.mul_add_div (by omega),Nat.div_eq_of_lt hk,Nat.add_zero]
 ·rw [Nat.mul_comm,Nat.mul_add_mod,Nat.mod_eq_of_lt hk]
theorem tab_set {Rn Cn r k : Nat} (F : Nat → Nat → C4) (c : C4) (hk : k < Cn) : (tab Rn Cn F).set (r * Cn + k) c = tab Rn Cn (fun r' k' => if r' = r ∧ k' = k then c else F r' k'):=by
 refine List.ext_getElem (by rw [List.length_set,tab_len,tab_len]) (fun i h1 h2 => ?_)
 rw [List.getElem_set,tab_get,tab_get]
 by_cases he : r * Cn + k = i
 ·subst he
  rw [if_pos rfl,if_pos (idx_parts hk)]
 ·rw [if_neg he,if_neg]
  rintro ⟨h3,h4⟩
  exact he (by rw [← h3,← h4,Nat.mul_comm];exact Nat.div_add_mod i Cn)
theorem fill_step {Rn Cn rn k : Nat} {cs : List C4} {fr : Int} {d : C4} (hk : k < Cn) (hf : fr ≤ k) : (tab Rn Cn (fillF Rn Cn cs rn fr k d)).set (rn * Cn + k) d = tab Rn Cn (fillF Rn Cn cs rn fr ((k + 1 : Nat) : Int) d):=by
 rw [tab_set _ _ hk]
 refine tab_ext (by omega) (fun r' k' _ _ => ?_)
 unfold fillF
 by_cases h1 : r' = rn ∧ k' = k
 ·rw [if_pos h1,if_pos (by omega)]
 ·rw [if_neg h1]
  by_cases h2 : (r' : Int) = rn ∧ fr ≤ k' ∧ (k' : Int) < k
  ·rw [if_pos h2,if_pos (by omega)]
  ·rw [if_neg h2,if_neg (by omega)]

set_option maxRecDepth 100000 in
set_option maxHeartbeats 4000000 in
theorem gfill1_go (Rn Cn : Nat) (cs : List C4) (sp : List Value) (gp cp br bg bf bt bc : Nat) (row fr tt d1 d2 d3 d4 : Int) (v2 : Value) (w : World) (hR1 : 1 ≤ Rn) (hR2 : Rn ≤ 30) (hC1 : 1 ≤ Cn) (hC2 : Cn ≤ 100) (hl : cs.length = Rn * Cn) (hW : Wc w gp cs sp) (hcp : Rn * Cn ≤ cp) (hcp2 : cp ≤ 9223372036854775807)
  (y0 : w.cell? ⟨br,0,none⟩ = some (.int .i64 row)) (y1 : w.cell? ⟨bg,0,none⟩ = some (.int .i64 (Rn : Int))) (y2 : w.cell? ⟨bg,1,none⟩ = some (.int .i64 (Cn : Int))) (y3 : w.cell? ⟨bf,0,none⟩ = some (.int .i64 fr)) (y4 : w.cell? ⟨bt,0,none⟩ = some (.int .i64 tt))
  (y5 : w.cell? ⟨bc,0,none⟩ = some (.int .i64 d1)) (y6 : w.cell? ⟨bc,1,none⟩ = some (.int .i64 d2)) (y7 : w.cell? ⟨bc,2,none⟩ = some (.int .i64 d3)) (y8 : w.cell? ⟨bc,3,none⟩ = some (.int .i64 d4)) (hne : br ≠ gp ∧ bg ≠ gp ∧ bf ≠ gp ∧ bt ≠ gp ∧ bc ≠ gp) :
  Calls Tryz.prog 93 #[.slice (some ⟨gp,0,none⟩) (Rn * Cn) cp,.pointer (some ⟨br,0,none⟩),.pointer (some ⟨bg,0,none⟩),.pointer (some ⟨bf,0,none⟩),.pointer (some ⟨bt,0,none⟩),.pointer (some ⟨bc,0,none⟩)] w fun e w' => (∃ v,e = .returned v) ∧ Wc w' gp (tab Rn Cn (fillF Rn Cn cs row fr tt (d1,d2,d3,d4))) sp ∧ w.grownBy w' (some gp):=by
 obtain ⟨n,hn⟩ : ∃ n,n = Rn * Cn:=⟨_,rfl⟩
 have HN:=Lib.hid hn
 rw [← hn] at hl hcp ⊢
 clear hn
 have HL:=Lib.hid hl
 have HW:=Lib.hid hW
 clear hl hW
 obtain ⟨e1,e2,e3,e4,e5⟩:=hne
 have hz : row < 0 ∨ (0 ≤ row ∧ (Rn : Int) ≤ row) ∨ (0 ≤ row ∧ row < Rn):=by omega
 rcases hz with h|⟨h1,h2⟩|⟨h1,h2⟩
 iterate 2
  ·have HE:=Lib.hid (tab_same (F:=fillF Rn Cn cs row fr tt (d1,d2,d3,d4)) (d1,d2,d3,d4) hC1 (HL.out.trans HN.out) (fun r k hr hk => by unfold fillF;rw [if_neg (by omega)]))
   go_enter Tryz.func93,Tryz.ntmps93
   go_wp2_with fail
   refine bodyPost_ret (by simp [results,Tryz.results93,go_sem];rfl) rfl ?_
   exact ⟨⟨_,rfl⟩,by rw [HE.out];exact HW.out,grown_refl _ _⟩
 obtain ⟨rn,rfl⟩ : ∃ rn : Nat,row = rn:=⟨row.toNat,by omega⟩
 obtain ⟨p,hp⟩ : ∃ p : Nat,rn * Cn = p:=⟨_,rfl⟩
 have hpi : (rn : Int) * (Cn : Int) = (p : Int):=by rw [← hp];simp
 have hpb : p + Cn ≤ n:=by rw [← hp,HN.out];have:=Nat.mul_le_mul_right Cn (show rn + 1 ≤ Rn by omega);rw [Nat.add_mul] at this;omega
 have HP:=Lib.hid hp
 clear hp
 have hn3 : n ≤ 3000:=by rw [HN.out];exact Nat.le_trans (Nat.mul_le_mul hR2 hC2) (by omega)
 obtain ⟨k0,hk0⟩ : ∃ k0 : Nat,(if fr < 0 then 0 else fr) = (k0 : Int):=by
  split
  ·exact ⟨0,rfl⟩
  ·exact ⟨fr.toNat,by omega⟩
 go_enter Tryz.func93,Tryz.ntmps93
 go_wp2_with fail
 have hk0f : fr ≤ (k0 : Int) ∧ ((k0 : Int) = 0 ∨ (k0 : Int) = fr):=by split at hk0 <;> omega
 obtain ⟨hf1,hf2⟩:=hk0f
 have HF2:=Lib.hid hf2
 clear hf2
 go_loopw [7] (fun i wr => ∃ k : Nat,i = .int .i64 k ∧ k0 ≤ k ∧ (k = k0 ∨ (k : Int) ≤ tt) ∧ (k = k0 ∨ k ≤ Cn) ∧ Wc wr gp (tab Rn Cn (fillF Rn Cn cs rn fr k (d1,d2,d3,d4))) sp ∧ w.grownBy wr (some gp)) (fun i _ => Cn - (intOf i).toNat)
 case atStart =>
  refine ⟨k0,rfl,Nat.le_refl _,.inl rfl,.inl rfl,?_,grown_refl _ _⟩
  rw [tab_same (cs:=cs) (d1,d2,d3,d4) hC1 (HL.out.trans HN.out) (fun r k hr hk => by unfold fillF;rw [if_neg (by have:=HF2.out;omega)])]
  exact HW.out
 case round =>
  rename_i wr
  obtain ⟨k,rfl,hk1,hk2,hk3,hWr,hgr⟩:=hrel
  have HWr:=Lib.hid hWr
  have HGr:=Lib.hid hgr
  have HK2:=Lib.hid hk2
  have HK3:=Lib.hid hk3
  have z0:=cell_far y0 hgr (by intro e;exact e1 (Option.some.inj e))
  have z1:=cell_far y1 hgr (by intro e;exact e2 (Option.some.inj e))
  have z2:=cell_far y2 hgr (by intro e;exact e2 (Option.some.inj e))
  have z3:=cell_far y3 hgr (by intro e;exact e3 (Option.some.inj e))
  have z4:=cell_far y4 hgr (by intro e;exact e4 (Option.some.inj e))
  have z5:=cell_far y5 hgr (by intro e;exact e5 (Option.some.inj e))
  have z6:=cell_far y6 hgr (by intro e;exact e5 (Option.some.inj e))
  have z7:=cell_far y7 hgr (by intro e;exact e5 (Option.some.inj e))
  have z8:=cell_far y8 hgr (by intro e;exact e5 (Option.some.inj e))
  clear y0 y1 y2 y3 y4 y5 y6 y7 y8 hWr hgr hk2 hk3
  by_cases hlt : (k : Int) < tt ∧ (k : Int) < Cn
  ·obtain ⟨hl1,hl2⟩:=hlt
   have hkn : p + k < n:=by omega
   have hkl : p + k < (tab Rn Cn (fillF Rn Cn cs rn fr k (d1,d2,d3,d4))).length:=by rw [tab_len,← HN.out];exact hkn
   have hce:=HWr.out.cells (p + k) hkl
   obtain ⟨a1,a2,a3,a4⟩:=hce
   have b1:=HWr.out.free ((p + k) * 4)
   have b2:=HWr.out.free ((p + k) * 4 + 1)
   have b3:=HWr.out.free ((p + k) * 4 + 2)
   have b4:=HWr.out.free ((p + k) * 4 + 3)
   have q1 : (0 : Int) ≤ (p : Int) + (k : Int):=by omega
   have q2 : (p : Int) + (k : Int) < (n : Int):=by omega
   go_wp2_with fail
   go_roundw
   case rel =>
    refine ⟨k + 1,by go_num,by omega,.inr (by omega),.inr (by omega),?_,?_⟩
    ·have hst:=HWr.out.store (p + k) hkl (d1,d2,d3,d4)
     have hfs:=fill_step (Rn:=Rn) (cs:=cs) (rn:=rn) (fr:=fr) (d:=(d1,d2,d3,d4)) (show k < Cn by omega) (show fr ≤ (k : Int) by omega)
     rw [HP.out] at hfs
     rw [hfs] at hst
     exact hst
    ·exact grown_set (grown_set (grown_set (grown_set HGr.out _ _) _ _) _ _) _ _
   case measure => simp [intOf];omega
  ·have hE : tab Rn Cn (fillF Rn Cn cs rn fr k (d1,d2,d3,d4)) = tab Rn Cn (fillF Rn Cn cs rn fr tt (d1,d2,d3,d4)):=tab_ext hC1 (fun r' k' hr' hk' => by
    have h9:=HK2.out
    have h8:=HK3.out
    have h7:=HF2.out
    unfold fillF
    by_cases hc : (r' : Int) = rn ∧ fr ≤ k' ∧ (k' : Int) < tt
    ·rw [if_pos hc,if_pos (by omega)]
    ·rw [if_neg hc,if_neg (by omega)])
   have HE:=Lib.hid hE
   clear hE
   have hw : (tt < Cn ∧ tt ≤ (k : Int)) ∨ (tt = Cn ∧ (Cn : Int) ≤ k) ∨ ((Cn : Int) < tt ∧ (Cn : Int) ≤ k):=by omega
   rcases hw with ⟨hw,hw2⟩|⟨rfl,hw2⟩|⟨hw,hw2⟩
   iterate 3
    ·go_wp2_with fail
     refine bodyPost_end (by simp [results,Tryz.results93,go_sem];rfl) rfl ?_
     exact ⟨⟨_,rfl⟩,by rw [← HE.out];exact HWr.out,HGr.out⟩

theorem Ce.far {w w' : World} {g o : Nat} {c : C4} {row : Option Nat} (h : Ce w g o c) (hg : w.grownBy w' row) (hne : some g ≠ row) : Ce w' g o c:=⟨cell_far h.1 hg hne,cell_far h.2.1 hg hne,cell_far h.2.2.1 hg hne,cell_far h.2.2.2 hg hne⟩
theorem Rg.far {w w' : World} {A : Option Addr} {n : Nat} {cs : List C4} {row : Option Nat} (h : Rg w A n cs) (hg : w.grownBy w' row) (hne : ∀ ad,A = some ad → some ad.block ≠ row) : Rg w' A n cs:=by
 refine ⟨h.1,fun h0 => ?_⟩
 obtain ⟨g,o,e,hx⟩:=h.2 h0
 exact ⟨g,o,e,fun i hi => (hx i hi).far hg (by have:=hne ⟨g,o,none⟩ e;exact this)⟩
/-- A grid's cells. -/
def grV (R C : Int) (A : Option Addr) (n c : Nat) : Array Value:=#[.int .i64 R,.int .i64 C,.slice A n c]
theorem infoGr : (Tryz.prog.info? 26).map (·.size) = some 3:=by kernel_rfl
theorem grV_one (R C : Int) (A : Option Addr) (n c : Nat) : (grV R C A n c).all (·.oneCell') = true:=all_oneCell_toArray (fun v hv => by
 simp only [List.mem_cons,List.not_mem_nil,or_false] at hv
 rcases hv with rfl|rfl|rfl <;> rfl)
theorem wpList_store_gr {ops : Array Oper} {rest : List Oper} {o : Oper} {a : Act} {w : World} {Q : Exit → Act → World → Prop} (R C : Int) (A : Option Addr) (n c : Nat) (g : Nat) (x y : Operand) (ho : o.op = .store 26 x y) (hgd : o.guard = none)
  (hx : a.eval x = .pointer (some ⟨g,0,none⟩)) (hy : a.eval y = .agg (grV R C A n c)) (hg : ∃ old,Sb w g old 26 ∧ old.size = 3)
  (h : ∀ w',Sb w' g (grV R C A n c) 26 → w.grownBy w' (some g) → wpList Tryz.prog ops Q rest (a.put o.dst undef) w') : wpList Tryz.prog ops Q (o :: rest) a w :=
 wpList_store_cs 26 (grV R C A n c) g x y infoGr (grV_one R C A n c) ho hgd hx hy hg h
theorem results_gr {fn : Func} {p : Tmp} (h : fn.results = #[.cell p 26]) (tmps : Array Value) (w : World) (g : Nat) (R C : Int) (A : Option Addr) (n c : Nat) (hp : tmps.getD p undef = .pointer (some ⟨g,0,none⟩)) (hg : Sb w g (grV R C A n c) 26) :
  (results fn tmps).run Tryz.prog w = .ok (.agg #[.int .i64 R,.int .i64 C,.slice A n c]) w:=results_cell_row h tmps w g 26 (grV R C A n c) (0,0) _ hp hg Tryz.underlying26 rfl infoGr

set_option maxRecDepth 100000 in
set_option maxHeartbeats 8000000 in
theorem gchangefill_ok (R C : Int) (A : Option Addr) (n c : Nat) (cs : List C4) (row fr tt d1 d2 d3 d4 : Int) (br bg bf bt bc : Nat) (w : World) (hr : Rg w A n cs) (hn : n ≤ c) (hn3 : n ≤ 4398046511103) (hc : c ≤ 9223372036854775807) (y0 : w.cell? ⟨br,0,none⟩ = some (.int .i64 row)) (y1 : w.cell? ⟨bg,0,none⟩ = some (.int .i64 R)) (y2 : w.cell? ⟨bg,1,none⟩ = some (.int .i64 C)) (y3 : w.cell? ⟨bf,0,none⟩ = some (.int .i64 fr)) (y4 : w.cell? ⟨bt,0,none⟩ = some (.int .i64 tt)) (y5 : w.cell? ⟨bc,0,none⟩ = some (.int .i64 d1)) (y6 : w.cell? ⟨bc,1,none⟩ = some (.int .i64 d2)) (y7 : w.cell? ⟨bc,2,none⟩ = some (.int .i64 d3)) (y8 : w.cell? ⟨bc,3,none⟩ = some (.int .i64 d4)) :
  Calls Tryz.prog 69 #[.agg #[.int .i64 R,.int .i64 C,.slice A n c],.agg #[.int .i64 d1,.int .i64 d2,.int .i64 d3,.int .i64 d4],.func (.func 93) #[] #[.pointer (some ⟨br,0,none⟩),.pointer (some ⟨bg,0,none⟩),.pointer (some ⟨bf,0,none⟩),.pointer (some ⟨bt,0,none⟩),.pointer (some ⟨bc,0,none⟩)]] w (GrN w R C (fillG R C cs row fr tt (d1,d2,d3,d4))):=by
 have HR:=Lib.hid hr
 have HY:=Lib.hid (And.intro y0 (And.intro y1 (And.intro y2 (And.intro y3 (And.intro y4 (And.intro y5 (And.intro y6 (And.intro y7 y8))))))))
 clear hr y0 y1 y2 y3 y4 y5 y6 y7 y8
 cases hv : gridB R C cs
 ·have HV:=Lib.hid hv
  have HE:=Lib.hid (show fillG R C cs row fr tt (d1,d2,d3,d4) = cs from if_neg (by rw [hv];simp))
  clear hv
  go_enter Tryz.func69,Tryz.ntmps69
  go_upto_region 1 with (fail)
  generalize hw1 : ((w.alloc (.cells #[.int .i64 R,.int .i64 C,.slice A n c] 26)).alloc _).alloc _ = w1
  obtain ⟨hb0,hb1,hb2,hbw,hz⟩:=sb3 hw1
  have HB0:=Lib.hid hb0
  have HB1:=Lib.hid (show Sb w1 (w.heap.size + 1) #[.int .i64 d1,.int .i64 d2,.int .i64 d3,.int .i64 d4] 53 from hb1)
  have HB2:=Lib.hid (show ∃ old,Sb w1 (w.heap.size + 2) old 26 ∧ old.size = 3 from ⟨_,hb2,rfl⟩)
  have hz1 : w.heap.size + 2 < w1.heap.size:=by omega
  clear hw1 hb0 hb1 hb2 hz
  have x0:=HB0.out.cell 0 (v:=.int .i64 R) rfl
  have x1:=HB0.out.cell 1 (v:=.int .i64 C) rfl
  have x2:=HB0.out.cell 2 (v:=.slice A n c) rfl
  go_upto_region 3 with (first
   | (go_at_call 31;refine (ggvalid_any R C A n c cs _ (by exact HR.out.up BWX) hn hc).mono ?_;rintro ee wv ⟨rfl,hbv⟩;rw [HV.out];clear x0 x1 x2;have x2:=(HB0.out.up hbv).cell 2 (v:=.slice A n c) rfl;have f2:=(HB0.out.up hbv).free 2;have c0:=(HB1.out.up hbv).cell 0 (v:=.int .i64 d1) rfl;have c1:=(HB1.out.up hbv).cell 1 (v:=.int .i64 d2) rfl;have c2:=(HB1.out.up hbv).cell 2 (v:=.int .i64 d3) rfl;have c3:=(HB1.out.up hbv).cell 3 (v:=.int .i64 d4) rfl;have hb1k:=hbv;have hzv:=hbv.size)
   | (go_at_call 67;refine (gcell_any d1 d2 d3 d4 _).mono ?_;rintro ee wu ⟨rfl,hbu⟩;rw [HCV.out];clear x2 f2 c0 c1 c2 c3;have hb1k:=Bw.trans hbv hbu;have hzu:=hbu.size;have x2:=(HB0.out.up hb1k).cell 2 (v:=.slice A n c) rfl;have f2:=(HB0.out.up hb1k).free 2)
   | (go_at_call 30;refine (gclone_any A n c cs _ (by exact HR.out.up BWX) hn hn3 hc).mono ?_;rintro ee wk ⟨vk,rfl,hown,hbk⟩;have hzk:=hbk.size;have hb1q:=Bw.trans hb1k hbk;clear x2 f2;have x2:=(HB0.out.up hb1q).cell 2 (v:=.slice A n c) rfl;have f2:=(HB0.out.up hb1q).free 2;obtain ⟨Ak,ck,rfl,hkc,hkm⟩:=own_form hown;have HOWN:=Lib.hid (own_mono hown (show w.heap.size + 3 ≤ _ by omega));clear hown)
   | fail)
  have hbq:=hb1q
  have HB0k:=Lib.hid (HB0.out.up hbq)
  have HB2k:=Lib.hid (Exists.elim HB2.out (fun old h => (⟨old,h.1.up hbq,h.2⟩ : ∃ old,Sb wk (w.heap.size + 2) old 26 ∧ old.size = 3)))
  have hbwk : Bw w wk:=Bw.trans hbw hbq
  have hzk3 : w.heap.size + 2 < wk.heap.size:=by have:=hbq.size;omega
  clear x2 f2
  generalize hw3 : World.setCell wk ⟨w.heap.size,2,none⟩ (.slice Ak n ck) = w3
  have HS3:=Lib.hid (show Sb w3 w.heap.size (grV R C Ak n ck) 26 from by rw [← hw3];exact HB0k.out.set 2 _ rfl)
  have hg3 : wk.grownBy w3 (some w.heap.size):=by rw [← hw3];exact grown_set (grown_refl wk _) _ _
  have HO3:=Lib.hid (show w3.ownsRow (w.heap.size + 3) 53 4 (.slice Ak n ck) n (flat cs) from by rw [← hw3];exact own_set_below HOWN.out (by omega) _)
  have HB23:=Lib.hid (Exists.elim HB2k.out (fun old h => (⟨old,h.1.far hg3 (by intro e;have:=Option.some.inj e;omega),h.2⟩ : ∃ old,Sb w3 (w.heap.size + 2) old 26 ∧ old.size = 3)))
  have hbw3 : Bw w w3:=Bw.grown hbwk hg3 (fun k hk => by cases hk;omega)
  have hz3 : w.heap.size + 2 < w3.heap.size:=by have:=hg3.size;omega
  have HG3k:=Lib.hid hg3
  clear hw3 hg3 HOWN HB0k HB2k hb1q hbq
  have z0:=HS3.out.cell 0 (v:=.int .i64 R) rfl
  have z1:=HS3.out.cell 1 (v:=.int .i64 C) rfl
  have z2:=HS3.out.cell 2 (v:=.slice Ak n ck) rfl
  go_wp2_with (first
   | ((with_reducible refine wpList_store_gr R C Ak n ck (w.heap.size + 2) (.tmp 6) (.tmp 23) rfl rfl ?_ ?_ ?_ ?_);(focus rfl);(focus rfl);(focus (exact HB23.out));intro w4 hS4 hg4;have HS4:=Lib.hid hS4;have HG4:=Lib.hid hg4;clear hS4 hg4)
   | fail)
  refine bodyPost_ret (results_gr rfl _ _ (w.heap.size + 2) R C Ak n ck (by rfl) HS4.out) rfl ?_
  have hO4:=HO3.out.kept HG4.out (.inr (fun e => by have:=(HO3.out.lt _ e).1;omega))
  exact ⟨Ak,n,ck,rfl,by rw [HE.out];exact Rg.of_own hO4,hkc,hkm,(fun ad e => by have:=own_new hO4 ad e;omega),Bw.grown hbw3 HG4.out (fun k hk => by cases hk;omega)⟩
 ·cases hcv : cellB (d1,d2,d3,d4)
  ·have HV:=Lib.hid hv
   have HCV:=Lib.hid hcv
   have HE:=Lib.hid (show fillG R C cs row fr tt (d1,d2,d3,d4) = cs from if_neg (by rw [hcv];simp))
   clear hv hcv
   go_enter Tryz.func69,Tryz.ntmps69
   go_upto_region 1 with (fail)
   generalize hw1 : ((w.alloc (.cells #[.int .i64 R,.int .i64 C,.slice A n c] 26)).alloc _).alloc _ = w1
   obtain ⟨hb0,hb1,hb2,hbw,hz⟩:=sb3 hw1
   have HB0:=Lib.hid hb0
   have HB1:=Lib.hid (show Sb w1 (w.heap.size + 1) #[.int .i64 d1,.int .i64 d2,.int .i64 d3,.int .i64 d4] 53 from hb1)
   have HB2:=Lib.hid (show ∃ old,Sb w1 (w.heap.size + 2) old 26 ∧ old.size = 3 from ⟨_,hb2,rfl⟩)
   have hz1 : w.heap.size + 2 < w1.heap.size:=by omega
   clear hw1 hb0 hb1 hb2 hz
   have x0:=HB0.out.cell 0 (v:=.int .i64 R) rfl
   have x1:=HB0.out.cell 1 (v:=.int .i64 C) rfl
   have x2:=HB0.out.cell 2 (v:=.slice A n c) rfl
   go_upto_region 3 with (first
    | (go_at_call 31;refine (ggvalid_any R C A n c cs _ (by exact HR.out.up BWX) hn hc).mono ?_;rintro ee wv ⟨rfl,hbv⟩;rw [HV.out];clear x0 x1 x2;have x2:=(HB0.out.up hbv).cell 2 (v:=.slice A n c) rfl;have f2:=(HB0.out.up hbv).free 2;have c0:=(HB1.out.up hbv).cell 0 (v:=.int .i64 d1) rfl;have c1:=(HB1.out.up hbv).cell 1 (v:=.int .i64 d2) rfl;have c2:=(HB1.out.up hbv).cell 2 (v:=.int .i64 d3) rfl;have c3:=(HB1.out.up hbv).cell 3 (v:=.int .i64 d4) rfl;have hb1k:=hbv;have hzv:=hbv.size)
    | (go_at_call 67;refine (gcell_any d1 d2 d3 d4 _).mono ?_;rintro ee wu ⟨rfl,hbu⟩;rw [HCV.out];clear x2 f2 c0 c1 c2 c3;have hb1k:=Bw.trans hbv hbu;have hzu:=hbu.size;have x2:=(HB0.out.up hb1k).cell 2 (v:=.slice A n c) rfl;have f2:=(HB0.out.up hb1k).free 2)
    | (go_at_call 30;refine (gclone_any A n c cs _ (by exact HR.out.up BWX) hn hn3 hc).mono ?_;rintro ee wk ⟨vk,rfl,hown,hbk⟩;have hzk:=hbk.size;have hb1q:=Bw.trans hb1k hbk;clear x2 f2;have x2:=(HB0.out.up hb1q).cell 2 (v:=.slice A n c) rfl;have f2:=(HB0.out.up hb1q).free 2;obtain ⟨Ak,ck,rfl,hkc,hkm⟩:=own_form hown;have HOWN:=Lib.hid (own_mono hown (show w.heap.size + 3 ≤ _ by omega));clear hown)
    | fail)
   have hbq:=hb1q
   have HB0k:=Lib.hid (HB0.out.up hbq)
   have HB2k:=Lib.hid (Exists.elim HB2.out (fun old h => (⟨old,h.1.up hbq,h.2⟩ : ∃ old,Sb wk (w.heap.size + 2) old 26 ∧ old.size = 3)))
   have hbwk : Bw w wk:=Bw.trans hbw hbq
   have hzk3 : w.heap.size + 2 < wk.heap.size:=by have:=hbq.size;omega
   clear x2 f2
   generalize hw3 : World.setCell wk ⟨w.heap.size,2,none⟩ (.slice Ak n ck) = w3
   have HS3:=Lib.hid (show Sb w3 w.heap.size (grV R C Ak n ck) 26 from by rw [← hw3];exact HB0k.out.set 2 _ rfl)
   have hg3 : wk.grownBy w3 (some w.heap.size):=by rw [← hw3];exact grown_set (grown_refl wk _) _ _
   have HO3:=Lib.hid (show w3.ownsRow (w.heap.size + 3) 53 4 (.slice Ak n ck) n (flat cs) from by rw [← hw3];exact own_set_below HOWN.out (by omega) _)
   have HB23:=Lib.hid (Exists.elim HB2k.out (fun old h => (⟨old,h.1.far hg3 (by intro e;have:=Option.some.inj e;omega),h.2⟩ : ∃ old,Sb w3 (w.heap.size + 2) old 26 ∧ old.size = 3)))
   have hbw3 : Bw w w3:=Bw.grown hbwk hg3 (fun k hk => by cases hk;omega)
   have hz3 : w.heap.size + 2 < w3.heap.size:=by have:=hg3.size;omega
   have HG3k:=Lib.hid hg3
   clear hw3 hg3 HOWN HB0k HB2k hb1q hbq
   have z0:=HS3.out.cell 0 (v:=.int .i64 R) rfl
   have z1:=HS3.out.cell 1 (v:=.int .i64 C) rfl
   have z2:=HS3.out.cell 2 (v:=.slice Ak n ck) rfl
   go_wp2_with (first
    | ((with_reducible refine wpList_store_gr R C Ak n ck (w.heap.size + 2) (.tmp 6) (.tmp 23) rfl rfl ?_ ?_ ?_ ?_);(focus rfl);(focus rfl);(focus (exact HB23.out));intro w4 hS4 hg4;have HS4:=Lib.hid hS4;have HG4:=Lib.hid hg4;clear hS4 hg4)
    | fail)
   refine bodyPost_ret (results_gr rfl _ _ (w.heap.size + 2) R C Ak n ck (by rfl) HS4.out) rfl ?_
   have hO4:=HO3.out.kept HG4.out (.inr (fun e => by have:=(HO3.out.lt _ e).1;omega))
   exact ⟨Ak,n,ck,rfl,by rw [HE.out];exact Rg.of_own hO4,hkc,hkm,(fun ad e => by have:=own_new hO4 ad e;omega),Bw.grown hbw3 HG4.out (fun k hk => by cases hk;omega)⟩
  ·have HE:=Lib.hid (show fillG R C cs row fr tt (d1,d2,d3,d4) = _ from if_pos ⟨hv,hcv⟩)
   obtain ⟨Rn,Cn,rfl,rfl,h1,h2,h3,h4,hl,-⟩:=gridB_out hv
   simp only [Int.toNat_natCast] at HE
   have HV:=Lib.hid hv
   have HCV:=Lib.hid hcv
   have HR1:=Lib.hid h1
   have HR2:=Lib.hid h2
   have HC1:=Lib.hid h3
   have HC2:=Lib.hid h4
   have HLN:=Lib.hid hl
   clear hv hcv hl
   go_enter Tryz.func69,Tryz.ntmps69
   go_upto_region 1 with (fail)
   generalize hw1 : ((w.alloc (.cells #[.int .i64 (Rn : Int),.int .i64 (Cn : Int),.slice A n c] 26)).alloc _).alloc _ = w1
   obtain ⟨hb0,hb1,hb2,hbw,hz⟩:=sb3 hw1
   have HB0:=Lib.hid hb0
   have HB1:=Lib.hid (show Sb w1 (w.heap.size + 1) #[.int .i64 d1,.int .i64 d2,.int .i64 d3,.int .i64 d4] 53 from hb1)
   have HB2:=Lib.hid (show ∃ old,Sb w1 (w.heap.size + 2) old 26 ∧ old.size = 3 from ⟨_,hb2,rfl⟩)
   have hz1 : w.heap.size + 2 < w1.heap.size:=by omega
   clear hw1 hb0 hb1 hb2 hz
   have x0:=HB0.out.cell 0 (v:=.int .i64 (Rn : Int)) rfl
   have x1:=HB0.out.cell 1 (v:=.int .i64 (Cn : Int)) rfl
   have x2:=HB0.out.cell 2 (v:=.slice A n c) rfl
   go_upto_region 3 with (first
    | (go_at_call 31;refine (ggvalid_any (Rn : Int) (Cn : Int) A n c cs _ (by exact HR.out.up BWX) hn hc).mono ?_;rintro ee wv ⟨rfl,hbv⟩;rw [HV.out];clear x0 x1 x2;have x2:=(HB0.out.up hbv).cell 2 (v:=.slice A n c) rfl;have f2:=(HB0.out.up hbv).free 2;have c0:=(HB1.out.up hbv).cell 0 (v:=.int .i64 d1) rfl;have c1:=(HB1.out.up hbv).cell 1 (v:=.int .i64 d2) rfl;have c2:=(HB1.out.up hbv).cell 2 (v:=.int .i64 d3) rfl;have c3:=(HB1.out.up hbv).cell 3 (v:=.int .i64 d4) rfl;have hb1k:=hbv;have hzv:=hbv.size)
    | (go_at_call 67;refine (gcell_any d1 d2 d3 d4 _).mono ?_;rintro ee wu ⟨rfl,hbu⟩;rw [HCV.out];clear x2 f2 c0 c1 c2 c3;have hb1k:=Bw.trans hbv hbu;have hzu:=hbu.size;have x2:=(HB0.out.up hb1k).cell 2 (v:=.slice A n c) rfl;have f2:=(HB0.out.up hb1k).free 2)
    | (go_at_call 30;refine (gclone_any A n c cs _ (by exact HR.out.up BWX) hn hn3 hc).mono ?_;rintro ee wk ⟨vk,rfl,hown,hbk⟩;have hzk:=hbk.size;have hb1q:=Bw.trans hb1k hbk;clear x2 f2;have x2:=(HB0.out.up hb1q).cell 2 (v:=.slice A n c) rfl;have f2:=(HB0.out.up hb1q).free 2;obtain ⟨Ak,ck,rfl,hkc,hkm⟩:=own_form hown;have HOWN:=Lib.hid (own_mono hown (show w.heap.size + 3 ≤ _ by omega));clear hown)
    | fail)
   have hbq:=hb1q
   have HB0k:=Lib.hid (HB0.out.up hbq)
   have HB2k:=Lib.hid (Exists.elim HB2.out (fun old h => (⟨old,h.1.up hbq,h.2⟩ : ∃ old,Sb wk (w.heap.size + 2) old 26 ∧ old.size = 3)))
   have hbwk : Bw w wk:=Bw.trans hbw hbq
   have hzk3 : w.heap.size + 2 < wk.heap.size:=by have:=hbq.size;omega
   clear x2 f2
   generalize hw3 : World.setCell wk ⟨w.heap.size,2,none⟩ (.slice Ak n ck) = w3
   have HS3:=Lib.hid (show Sb w3 w.heap.size (grV (Rn : Int) (Cn : Int) Ak n ck) 26 from by rw [← hw3];exact HB0k.out.set 2 _ rfl)
   have hg3 : wk.grownBy w3 (some w.heap.size):=by rw [← hw3];exact grown_set (grown_refl wk _) _ _
   have HO3:=Lib.hid (show w3.ownsRow (w.heap.size + 3) 53 4 (.slice Ak n ck) n (flat cs) from by rw [← hw3];exact own_set_below HOWN.out (by omega) _)
   have HB23:=Lib.hid (Exists.elim HB2k.out (fun old h => (⟨old,h.1.far hg3 (by intro e;have:=Option.some.inj e;omega),h.2⟩ : ∃ old,Sb w3 (w.heap.size + 2) old 26 ∧ old.size = 3)))
   have hbw3 : Bw w w3:=Bw.grown hbwk hg3 (fun k hk => by cases hk;omega)
   have hz3 : w.heap.size + 2 < w3.heap.size:=by have:=hg3.size;omega
   have HG3k:=Lib.hid hg3
   clear hw3 hg3 HOWN HB0k HB2k hb1q hbq
   have hlen : n = Rn * Cn:=HR.out.1.symm.trans HLN.out
   have hpos : 0 < n:=by rw [hlen];exact Nat.mul_pos (by omega) (by omega)
   obtain ⟨gp,sp,rfl,hgp,hWc⟩:=Wc.of_own HO3.out hpos
   have HW:=Lib.hid hWc
   obtain ⟨a0,a1,a2,a3,a4,a5,a6,a7,a8⟩:=HY.out
   have l0:=lt_of_cell a0
   have l1:=lt_of_cell a1
   have l3:=lt_of_cell a3
   have l4:=lt_of_cell a4
   have l5:=lt_of_cell a5
   dsimp only at l0 l1 l3 l4 l5
   clear a0 a1 a2 a3 a4 a5 a6 a7 a8 hWc
   have HLE:=Lib.hid hlen
   clear hlen
   have z2:=HS3.out.cell 2 (v:=.slice (some ⟨gp,0,none⟩) n ck) rfl
   go_upto_region 5 with (first
    | (go_at_call 93;rw [HLE.out];refine (gfill1_go Rn Cn cs sp gp ck br bg bf bt bc row fr tt d1 d2 d3 d4 (.slice none 0 0) w3 HR1.out HR2.out HC1.out HC2.out HLN.out HW.out (by rw [← HLE.out];exact hkc) hkm (cell_up HY.out.1 hbw3) (cell_up HY.out.2.1 hbw3) (cell_up HY.out.2.2.1 hbw3) (cell_up HY.out.2.2.2.1 hbw3) (cell_up HY.out.2.2.2.2.1 hbw3) (cell_up HY.out.2.2.2.2.2.1 hbw3) (cell_up HY.out.2.2.2.2.2.2.1 hbw3) (cell_up HY.out.2.2.2.2.2.2.2.1 hbw3) (cell_up HY.out.2.2.2.2.2.2.2.2 hbw3) ⟨by omega,by omega,by omega,by omega,by omega⟩).mono ?_;rintro ee w5 ⟨⟨rv,rfl⟩,hW5,hg5⟩;have HW5:=Lib.hid hW5;have HG5:=Lib.hid hg5;clear hW5 hg5)
    | fail)
   have hg5:=HG5.out
   have hgb : ∀ k,k < w.heap.size + 3 → some k ≠ some gp:=fun k hk e => by have:=Option.some.inj e;omega
   have HS5:=Lib.hid (HS3.out.far hg5 (hgb _ (by omega)))
   have HB25:=Lib.hid (Exists.elim HB23.out (fun old h => (⟨old,h.1.far hg5 (hgb _ (by omega)),h.2⟩ : ∃ old,Sb w5 (w.heap.size + 2) old 26 ∧ old.size = 3)))
   have hbw5 : Bw w w5:=Bw.grown hbw3 hg5 (fun k hk => by cases hk;omega)
   clear z2
   have z0:=HS5.out.cell 0 (v:=.int .i64 (Rn : Int)) rfl
   have z1:=HS5.out.cell 1 (v:=.int .i64 (Cn : Int)) rfl
   have z2:=HS5.out.cell 2 (v:=.slice (some ⟨gp,0,none⟩) n ck) rfl
   go_wp2_with (first
    | ((with_reducible refine wpList_store_gr (Rn : Int) (Cn : Int) (some ⟨gp,0,none⟩) n ck (w.heap.size + 2) (.tmp 6) (.tmp 23) rfl rfl ?_ ?_ ?_ ?_);(focus rfl);(focus rfl);(focus (exact HB25.out));intro w6 hS6 hg6;have HS6:=Lib.hid hS6;have HG6:=Lib.hid hg6;clear hS6 hg6)
    | fail)
   refine bodyPost_ret (results_gr rfl _ _ (w.heap.size + 2) (Rn : Int) (Cn : Int) (some ⟨gp,0,none⟩) n ck (by rfl) HS6.out) rfl ?_
   have hW6 : Wc w6 gp _ sp:=(HG6.out.block gp HW5.out.lt (by intro e;have:=Option.some.inj e;omega)).trans HW5.out
   have hrg:=hW6.rg
   rw [tab_len,← HLE.out] at hrg
   exact ⟨some ⟨gp,0,none⟩,n,ck,rfl,by rw [HE.out];exact hrg,hkc,hkm,(fun ad e => by cases e;dsimp only;omega),Bw.grown hbw5 HG6.out (fun k hk => by cases hk;omega)⟩
end Go.Proofs.YtkflooljdopldaaGreat
