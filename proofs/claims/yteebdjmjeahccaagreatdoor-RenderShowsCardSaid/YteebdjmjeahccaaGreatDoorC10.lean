/- Parts of the proof, one after the other. -/
import Derived.Test.YteebdjmjeahccaaGreatDoorC09
import Derived.Test.YteebdjmjeahccaaGreatDoorC04
import Derived.Laws.BitsLemmas
set_option linter.unusedSimpArgs false
set_option linter.unusedVariables false
set_option maxRecDepth 100000
set_option maxHeartbeats 16000000
namespace Go.Proofs.YteebdjmjeahccaaGreatDoor
open Go.RowKit
theorem rmove_no (r c : Int) (b : Bool) (kind n t m rows cols : Int) (w : World) (hr : rows ≤ 1000000) (hc : cols ≤ 1000000) (hv : vldB r c rows cols = false) :
  Calls Tryz.prog 118 #[.agg #[.int .i64 r,.int .i64 c,.bool b],.int .i64 kind,.int .i64 n,.agg #[.int .i64 t,.int .i64 m],.int .i64 rows,.int .i64 cols] w fun e w' => e = .returned (.agg #[.int .i64 r,.int .i64 c,.bool b]) ∧ Bw w w':=by
 have HV:=Lib.hid hv
 clear hv
 go_enter Tryz.func118,Tryz.ntmps118
 go_wp2_with (go_at_call 95;refine (rcvalid_any _ _ _ _ _ _).mono ?_;rintro ee ww ⟨rfl,rfl⟩;rw [HV.out])
 refine bodyPost_ret (v := ?v) ?res rfl ?post
 case res => (simp [results,Tryz.results118,go_sem];rfl)
 exact ⟨rfl,BWX⟩
theorem rmove_nr (r c : Int) (b : Bool) (kind n t m rows cols : Int) (w : World) (hr : rows ≤ 1000000) (hc : cols ≤ 1000000) (hv : vldB r c rows cols = true) (hq : rgtB t m rows = false) :
  Calls Tryz.prog 118 #[.agg #[.int .i64 r,.int .i64 c,.bool b],.int .i64 kind,.int .i64 n,.agg #[.int .i64 t,.int .i64 m],.int .i64 rows,.int .i64 cols] w fun e w' => e = .returned (.agg #[.int .i64 r,.int .i64 c,.bool b]) ∧ Bw w w':=by
 have HV:=Lib.hid hv
 have HR:=Lib.hid hq
 clear hv hq
 go_enter Tryz.func118,Tryz.ntmps118
 go_wp2_with (first|(go_at_call 95;refine (rcvalid_any _ _ _ _ _ _).mono ?_;rintro ee ww ⟨rfl,rfl⟩;rw [HV.out])|(go_at_call 96;refine (rright_any _ _ _ _).mono ?_;rintro ee ww ⟨rfl,rfl⟩;rw [HR.out]))
 refine bodyPost_ret (v := ?v) ?res rfl ?post
 case res => (simp [results,Tryz.results118,go_sem];rfl)
 exact ⟨rfl,BWX⟩
theorem rmove_yes (r c : Int) (b : Bool) (kind n t m rows cols : Int) (w : World) (hr : rows ≤ 1000000) (hc : cols ≤ 1000000) (hn : n ≤ 9223372036854775807) (h1 : 0 ≤ r) (h2 : r < rows) (h3 : 0 ≤ c) (h4 : c < cols) (h5 : 0 ≤ t) (h6 : t ≤ m) (h7 : m < rows) :
  Calls Tryz.prog 118 #[.agg #[.int .i64 r,.int .i64 c,.bool b],.int .i64 kind,.int .i64 n,.agg #[.int .i64 t,.int .i64 m],.int .i64 rows,.int .i64 cols] w fun e w' => e = .returned (curV (mv r c b kind n t m rows cols)) ∧ Bw w w':=by
 have HV:=Lib.hid (show vldB r c rows cols = true from decide_eq_true ⟨h1,h2,h3,h4⟩)
 have HR:=Lib.hid (show rgtB t m rows = true from decide_eq_true ⟨h5,h6,h7⟩)
 go_enter Tryz.func118,Tryz.ntmps118
 go_wp2_with (first
  | (go_at_call 95;refine (rcvalid_any _ _ _ _ _ _).mono ?_;rintro ee ww ⟨rfl,rfl⟩;rw [HV.out])
  | (go_at_call 96;refine (rright_any _ _ _ _).mono ?_;rintro ee ww ⟨rfl,rfl⟩;rw [HR.out]))
 all_goals refine bodyPost_ret (by simp [results,Tryz.results118,go_sem];rfl) rfl ⟨?_,BWX⟩
 all_goals (have e1:=HV.out;have e2:=HR.out;clear HV HR hr hc;try simp only [beq_iff_eq,beq_eq_false_iff_ne,ne_eq] at *)
 all_goals (first|(rw [mv_other (by omega)];rfl)|(refine curV_ext ?_ ?_ ?_ <;> simp [mv, *] <;> first|omega|(congr 1;omega)|(unfold tabN;split <;> omega)))
theorem rmove_any (r c : Int) (b : Bool) (kind n t m rows cols : Int) (w : World) (hr : rows ≤ 1000000) (hc : cols ≤ 1000000) (hn : n ≤ 9223372036854775807) :
  Calls Tryz.prog 118 #[.agg #[.int .i64 r,.int .i64 c,.bool b],.int .i64 kind,.int .i64 n,.agg #[.int .i64 t,.int .i64 m],.int .i64 rows,.int .i64 cols] w fun e w' => e = .returned (curV (mv r c b kind n t m rows cols)) ∧ Bw w w':=by
 cases hv : vldB r c rows cols
 ·have e : mv r c b kind n t m rows cols = (r,c,b):=by simp [mv,hv]
  rw [e];exact rmove_no r c b kind n t m rows cols w hr hc hv
 ·cases hq : rgtB t m rows
  ·have e : mv r c b kind n t m rows cols = (r,c,b):=by simp [mv,hq]
   rw [e];exact rmove_nr r c b kind n t m rows cols w hr hc hv hq
  ·have h1:=of_decide_eq_true hv
   have h2:=of_decide_eq_true hq
   exact rmove_yes r c b kind n t m rows cols w hr hc hn h1.1 h1.2.1 h1.2.2.1 h1.2.2.2 h2.1 h2.2.1 h2.2.2
/-- What the reference makes of one parameter. -/
def oneR (f g b p : Int) : Int × Int × Int :=
 if p = 0 then (0,0,0) else if p = 1 then (bits .or .i64 (bits .andNot .i64 f 1) 1,g,b) else if p = 4 then (bits .or .i64 (bits .andNot .i64 f 2) 2,g,b) else if p = 7 then (bits .or .i64 (bits .andNot .i64 f 4) 4,g,b)
 else if p = 22 then (bits .andNot .i64 f 1,g,b) else if p = 24 then (bits .andNot .i64 f 2,g,b) else if p = 27 then (bits .andNot .i64 f 4,g,b)
 else (f,if 0 ≤ colR p 30 then colR p 30 else g,if 0 ≤ colR p 40 then colR p 40 else b)
def OneP (f g b p : Int) (w : World) : Prop:=Calls Tryz.prog 120 #[atV f g b,.int .i64 p] w (AtP w (oneR f g b p))
theorem one_0 (f g b : Int) (w : World) : OneP f g b 0 w:=by
 unfold OneP
 rw [show oneR f g b 0 = (0,0,0) from rfl]
 unfold atV
 go_enter Tryz.func120,Tryz.ntmps120
 go_wp2
 refine bodyPost_ret (by simp [results,Tryz.results120,go_sem];rfl) rfl ?_
 exact ⟨rfl,BWX⟩
theorem one_1 (f g b : Int) (w : World) : OneP f g b 1 w:=by
 unfold OneP
 rw [show oneR f g b 1 = (bits .or .i64 (bits .andNot .i64 f 1) 1,g,b) from rfl]
 unfold atV
 go_enter Tryz.func120,Tryz.ntmps120
 go_wp2_with (first|(go_at_call 123;refine (flag_on f g b 1 _).mono ?_;rintro ee ww ⟨rfl,hb1⟩;(first|obtain ⟨L1,d1,rfl⟩:=Bw.isPlus (Bw.un hb1)|obtain ⟨L1,d1,rfl⟩:=Bw.isPlus hb1);clear hb1;dsimp only [at3,atV])|fail)
 refine bodyPost_ret (by simp [results,Tryz.results120,go_sem];rfl) rfl ?_
 exact ⟨rfl,BWX⟩
theorem one_4 (f g b : Int) (w : World) : OneP f g b 4 w:=by
 unfold OneP
 rw [show oneR f g b 4 = (bits .or .i64 (bits .andNot .i64 f 2) 2,g,b) from rfl]
 unfold atV
 go_enter Tryz.func120,Tryz.ntmps120
 go_wp2_with (first|(go_at_call 123;refine (flag_on f g b 2 _).mono ?_;rintro ee ww ⟨rfl,hb1⟩;(first|obtain ⟨L1,d1,rfl⟩:=Bw.isPlus (Bw.un hb1)|obtain ⟨L1,d1,rfl⟩:=Bw.isPlus hb1);clear hb1;dsimp only [at3,atV])|fail)
 refine bodyPost_ret (by simp [results,Tryz.results120,go_sem];rfl) rfl ?_
 exact ⟨rfl,BWX⟩
theorem one_7 (f g b : Int) (w : World) : OneP f g b 7 w:=by
 unfold OneP
 rw [show oneR f g b 7 = (bits .or .i64 (bits .andNot .i64 f 4) 4,g,b) from rfl]
 unfold atV
 go_enter Tryz.func120,Tryz.ntmps120
 go_wp2_with (first|(go_at_call 123;refine (flag_on f g b 4 _).mono ?_;rintro ee ww ⟨rfl,hb1⟩;(first|obtain ⟨L1,d1,rfl⟩:=Bw.isPlus (Bw.un hb1)|obtain ⟨L1,d1,rfl⟩:=Bw.isPlus hb1);clear hb1;dsimp only [at3,atV])|fail)
 refine bodyPost_ret (by simp [results,Tryz.results120,go_sem];rfl) rfl ?_
 exact ⟨rfl,BWX⟩
theorem one_22 (f g b : Int) (w : World) : OneP f g b 22 w:=by
 unfold OneP
 rw [show oneR f g b 22 = (bits .andNot .i64 f 1,g,b) from rfl]
 unfold atV
 go_enter Tryz.func120,Tryz.ntmps120
 go_wp2_with (first|(go_at_call 123;refine (flag_off f g b 1 _).mono ?_;rintro ee ww ⟨rfl,hb1⟩;(first|obtain ⟨L1,d1,rfl⟩:=Bw.isPlus (Bw.un hb1)|obtain ⟨L1,d1,rfl⟩:=Bw.isPlus hb1);clear hb1;dsimp only [at3,atV])|fail)
 refine bodyPost_ret (by simp [results,Tryz.results120,go_sem];rfl) rfl ?_
 exact ⟨rfl,BWX⟩
theorem one_24 (f g b : Int) (w : World) : OneP f g b 24 w:=by
 unfold OneP
 rw [show oneR f g b 24 = (bits .andNot .i64 f 2,g,b) from rfl]
 unfold atV
 go_enter Tryz.func120,Tryz.ntmps120
 go_wp2_with (first|(go_at_call 123;refine (flag_off f g b 2 _).mono ?_;rintro ee ww ⟨rfl,hb1⟩;(first|obtain ⟨L1,d1,rfl⟩:=Bw.isPlus (Bw.un hb1)|obtain ⟨L1,d1,rfl⟩:=Bw.isPlus hb1);clear hb1;dsimp only [at3,atV])|fail)
 refine bodyPost_ret (by simp [results,Tryz.results120,go_sem];rfl) rfl ?_
 exact ⟨rfl,BWX⟩
theorem one_27 (f g b : Int) (w : World) : OneP f g b 27 w:=by
 unfold OneP
 rw [show oneR f g b 27 = (bits .andNot .i64 f 4,g,b) from rfl]
 unfold atV
 go_enter Tryz.func120,Tryz.ntmps120
 go_wp2_with (first|(go_at_call 123;refine (flag_off f g b 4 _).mono ?_;rintro ee ww ⟨rfl,hb1⟩;(first|obtain ⟨L1,d1,rfl⟩:=Bw.isPlus (Bw.un hb1)|obtain ⟨L1,d1,rfl⟩:=Bw.isPlus hb1);clear hb1;dsimp only [at3,atV])|fail)
 refine bodyPost_ret (by simp [results,Tryz.results120,go_sem];rfl) rfl ?_
 exact ⟨rfl,BWX⟩
theorem one_else (f g b p : Int) (w : World) (h0 : p ≠ 0) (h1 : p ≠ 1) (h4 : p ≠ 4) (h7 : p ≠ 7) (h22 : p ≠ 22) (h24 : p ≠ 24) (h27 : p ≠ 27) : OneP f g b p w:=by
 unfold OneP
 have HE:=Lib.hid (show oneR f g b p = (f,if 0 ≤ colR p 30 then colR p 30 else g,if 0 ≤ colR p 40 then colR p 40 else b) by unfold oneR;rw [if_neg h0,if_neg h1,if_neg h4,if_neg h7,if_neg h22,if_neg h24,if_neg h27])
 obtain ⟨c1,hc1⟩ : ∃ c1,colR p 30 = c1:=⟨_,rfl⟩
 obtain ⟨c2,hc2⟩ : ∃ c2,colR p 40 = c2:=⟨_,rfl⟩
 rw [hc1,hc2] at HE
 have H1:=Lib.hid hc1
 have H2:=Lib.hid hc2
 clear hc1 hc2
 rw [HE.out]
 clear HE
 unfold atV
 by_cases g1 : 0 ≤ c1
 ·by_cases g2 : 0 ≤ c2
  ·rw [if_pos g1,if_pos g2]
   go_enter Tryz.func120,Tryz.ntmps120
   go_wp2_with (first|(go_at_call 124;refine (color_any p _ _ (by omega) (by omega)).mono ?_;rintro ee ww ⟨rfl,rfl⟩;(first|rw [H1.out]|rw [H2.out]))|fail)
   refine bodyPost_ret (by simp [results,Tryz.results120,go_sem];rfl) rfl ?_
   exact ⟨rfl,BWX⟩
  ·rw [if_pos g1,if_neg g2]
   go_enter Tryz.func120,Tryz.ntmps120
   go_wp2_with (first|(go_at_call 124;refine (color_any p _ _ (by omega) (by omega)).mono ?_;rintro ee ww ⟨rfl,rfl⟩;(first|rw [H1.out]|rw [H2.out]))|fail)
   refine bodyPost_ret (by simp [results,Tryz.results120,go_sem];rfl) rfl ?_
   exact ⟨rfl,BWX⟩
 ·by_cases g2 : 0 ≤ c2
  ·rw [if_neg g1,if_pos g2]
   go_enter Tryz.func120,Tryz.ntmps120
   go_wp2_with (first|(go_at_call 124;refine (color_any p _ _ (by omega) (by omega)).mono ?_;rintro ee ww ⟨rfl,rfl⟩;(first|rw [H1.out]|rw [H2.out]))|fail)
   refine bodyPost_ret (by simp [results,Tryz.results120,go_sem];rfl) rfl ?_
   exact ⟨rfl,BWX⟩
  ·rw [if_neg g1,if_neg g2]
   go_enter Tryz.func120,Tryz.ntmps120
   go_wp2_with (first|(go_at_call 124;refine (color_any p _ _ (by omega) (by omega)).mono ?_;rintro ee ww ⟨rfl,rfl⟩;(first|rw [H1.out]|rw [H2.out]))|fail)
   refine bodyPost_ret (by simp [results,Tryz.results120,go_sem];rfl) rfl ?_
   exact ⟨rfl,BWX⟩
theorem one_any (f g b p : Int) (w : World) : OneP f g b p w:=by
 by_cases h0 : p = 0
 ·subst h0;exact one_0 f g b w
 by_cases h1 : p = 1
 ·subst h1;exact one_1 f g b w
 by_cases h4 : p = 4
 ·subst h4;exact one_4 f g b w
 by_cases h7 : p = 7
 ·subst h7;exact one_7 f g b w
 by_cases h22 : p = 22
 ·subst h22;exact one_22 f g b w
 by_cases h24 : p = 24
 ·subst h24;exact one_24 f g b w
 by_cases h27 : p = 27
 ·subst h27;exact one_27 f g b w
 exact one_else f g b p w h0 h1 h4 h7 h22 h24 h27
theorem ofInt_wrap (x : BitVec 64) : BitVec.ofInt 64 (IntKind.i64.wrap (x.toNat : Int)) = x:=by
 apply BitVec.eq_of_toNat_eq
 rw [BitVec.toNat_ofInt,IntKind.wrap_i64]
 have:=x.isLt
 omega
theorem or_andNot (f x : Int) : bits .or .i64 (bits .andNot .i64 f x) x = bits .or .i64 f x:=by
 have e1 : ∀ u v : Int,bits .or .i64 u v = IntKind.i64.wrap ((BitVec.ofInt 64 u ||| BitVec.ofInt 64 v).toNat : Int):=fun _ _ => rfl
 have e2 : bits .andNot .i64 f x = IntKind.i64.wrap ((BitVec.ofInt 64 f &&& ~~~ BitVec.ofInt 64 x).toNat : Int):=rfl
 rw [e1,e1,e2,ofInt_wrap]
 congr 2
 generalize BitVec.ofInt 64 f = a
 generalize BitVec.ofInt 64 x = b
 apply congrArg
 apply BitVec.eq_of_getLsbD_eq
 intro i hi
 simp only [BitVec.getLsbD_or,BitVec.getLsbD_and,BitVec.getLsbD_not,hi,decide_true,Bool.true_and]
 cases a.getLsbD i <;> cases b.getLsbD i <;> rfl
theorem colR_none (p base : Int) (h : p < base ∨ base + 67 < p ∨ (base + 7 < p ∧ p < base + 60 ∧ p ≠ base + 9)) : colR p base = -1:=by
 unfold colR
 rw [if_neg (by omega),if_neg (by omega),if_neg (by omega)]
theorem oneR_single (f g b p : Int) : oneR f g b p = single f g b p:=by
 unfold oneR single
 by_cases h0 : p = 0
 ·rw [if_pos h0,if_pos h0]
 rw [if_neg h0,if_neg h0]
 by_cases h1 : p = 1
 ·rw [if_pos h1,if_pos h1,or_andNot]
 rw [if_neg h1,if_neg h1]
 by_cases h4 : p = 4
 ·rw [if_pos h4,if_pos h4,or_andNot]
 rw [if_neg h4,if_neg h4]
 by_cases h7 : p = 7
 ·rw [if_pos h7,if_pos h7,or_andNot]
 rw [if_neg h7,if_neg h7]
 by_cases h22 : p = 22
 ·rw [if_pos h22,if_pos h22]
 rw [if_neg h22,if_neg h22]
 by_cases h24 : p = 24
 ·rw [if_pos h24,if_pos h24]
 rw [if_neg h24,if_neg h24]
 by_cases h27 : p = 27
 ·rw [if_pos h27,if_pos h27]
 rw [if_neg h27,if_neg h27]
 by_cases k1 : 30 ≤ p ∧ p ≤ 37
 ·rw [if_pos k1,colR_none p 40 (by omega),show colR p 30 = p - 29 by unfold colR;rw [if_pos (by omega)];omega,if_pos (by omega),if_neg (by omega)]
 rw [if_neg k1]
 by_cases k2 : 90 ≤ p ∧ p ≤ 97
 ·rw [if_pos k2,colR_none p 40 (by omega),show colR p 30 = p - 81 by unfold colR;rw [if_neg (by omega),if_pos (by omega)];omega,if_pos (by omega),if_neg (by omega)]
 rw [if_neg k2]
 by_cases k3 : p = 39
 ·rw [if_pos k3,colR_none p 40 (by omega),show colR p 30 = 0 by unfold colR;rw [if_neg (by omega),if_neg (by omega),if_pos (by omega)],if_pos (by omega),if_neg (by omega)]
 rw [if_neg k3,colR_none p 30 (by omega),if_neg (by omega)]
 by_cases k4 : 40 ≤ p ∧ p ≤ 47
 ·rw [if_pos k4,show colR p 40 = p - 39 by unfold colR;rw [if_pos (by omega)];omega,if_pos (by omega)]
 rw [if_neg k4]
 by_cases k5 : 100 ≤ p ∧ p ≤ 107
 ·rw [if_pos k5,show colR p 40 = p - 91 by unfold colR;rw [if_neg (by omega),if_pos (by omega)];omega,if_pos (by omega)]
 rw [if_neg k5]
 by_cases k6 : p = 49
 ·rw [if_pos k6,show colR p 40 = 0 by unfold colR;rw [if_neg (by omega),if_neg (by omega),if_pos (by omega)],if_pos (by omega)]
 rw [if_neg k6,colR_none p 40 (by omega),if_neg (by omega)]
theorem rone_any (f g b p : Int) (w : World) : Calls Tryz.prog 120 #[atV f g b,.int .i64 p] w (AtP w (single f g b p)):=by
 have h:=one_any f g b p w
 unfold OneP at h
 rw [oneR_single] at h
 exact h
end Go.Proofs.YteebdjmjeahccaaGreatDoor
