/- Parts of the proof, one after the other. -/
import Derived.Test.YteebdjmjeahccaaGreatDoorC02
import Derived.Test.YteebdjmjeahccaaGreatDoorC04
import Derived.Deep.DeepCutAuto
import Derived.Test.YteebdjmjeahccaaGreatDoorC01
import Derived.OpenShut
import Derived.Deep.MidRow
set_option linter.unusedSimpArgs false
set_option linter.unusedVariables false
set_option maxRecDepth 100000
set_option maxHeartbeats 16000000
namespace Go.Proofs.YteebdjmjeahccaaGreatDoor
open Go.RowKit
theorem rcell_any (c1 c2 c3 c4 : Int) (w : World) : Calls Tryz.prog 66 #[.agg #[.int .i64 c1,.int .i64 c2,.int .i64 c3,.int .i64 c4]] w fun e w' => e = .returned (.bool (cellB (c1,c2,c3,c4))) ∧ Bw w w':=by
 cases hr : runeB c1
 ·have HE:=Lib.hid (show cellB (c1,c2,c3,c4) = false by unfold cellB;rw [hr];rfl)
  go_enter Tryz.func66,Tryz.ntmps66
  go_wp2_with (first|(go_at_call 79;refine (rrune_any c1 _).mono ?_;rintro ee ww ⟨rfl,rfl⟩;rw [hr])|fail)
  go_ret
  exact ⟨by rw [HE.out];rfl,BWX⟩
 ·have HE:=Lib.hid (show cellB (c1,c2,c3,c4) = avB c2 c3 c4 by unfold cellB;rw [hr];rfl)
  go_enter Tryz.func66,Tryz.ntmps66
  go_wp2_with (first|(go_at_call 79;refine (rrune_any c1 _).mono ?_;rintro ee ww ⟨rfl,rfl⟩;rw [hr])|(go_at_call 61;refine (rvalid_any c2 c3 c4 _).mono ?_;rintro ee ww ⟨rfl,hb⟩)|fail)
  go_ret
  exact ⟨by rw [HE.out];rfl,BWX⟩
theorem gcell_any (c1 c2 c3 c4 : Int) (w : World) : Calls Tryz.prog 65 #[.agg #[.int .i64 c1,.int .i64 c2,.int .i64 c3,.int .i64 c4]] w fun e w' => e = .returned (.bool (cellB (c1,c2,c3,c4))) ∧ Bw w w':=by
 have hc : c1 < 32 ∨ (32 ≤ c1 ∧ c1 ≤ 126) ∨ (126 < c1 ∧ c1 < 160) ∨ (160 ≤ c1 ∧ c1 ≤ 55295) ∨ (55295 < c1 ∧ c1 < 57344) ∨ (57344 ≤ c1 ∧ c1 ≤ 1114111) ∨ 1114111 < c1:=by omega
 have hv : (c1 < 32 → cellB (c1,c2,c3,c4) = false) ∧ (32 ≤ c1 ∧ c1 ≤ 126 → cellB (c1,c2,c3,c4) = avB c2 c3 c4) ∧ (126 < c1 ∧ c1 < 160 → cellB (c1,c2,c3,c4) = false) ∧ (160 ≤ c1 ∧ c1 ≤ 55295 → cellB (c1,c2,c3,c4) = avB c2 c3 c4) ∧ (55295 < c1 ∧ c1 < 57344 → cellB (c1,c2,c3,c4) = false) ∧ (57344 ≤ c1 ∧ c1 ≤ 1114111 → cellB (c1,c2,c3,c4) = avB c2 c3 c4) ∧ (1114111 < c1 → cellB (c1,c2,c3,c4) = false):=by
  unfold cellB runeB
  refine ⟨?_,?_,?_,?_,?_,?_,?_⟩ <;> intro h <;> dsimp only <;> first|(rw [decide_eq_false (by omega)];rfl)|(rw [decide_eq_true (by omega)];rfl)
 obtain ⟨v1,v2,v3,v4,v5,v6,v7⟩:=hv
 rcases hc with h|h|h|h|h|h|h
 all_goals
  have HE:=Lib.hid (show cellB (c1,c2,c3,c4) = _ by first|exact v1 h|exact v2 h|exact v3 h|exact v4 h|exact v5 h|exact v6 h|exact v7 h)
  clear v1 v2 v3 v4 v5 v6 v7
  (try obtain ⟨h1,h2⟩:=h)
  go_enter Tryz.func65,Tryz.ntmps65
  go_wp2_with (first|(go_at_call 94;refine (avalid_any c2 c3 c4 _).mono ?_;rintro ee ww ⟨rfl,rfl⟩)|fail)
  go_ret
  exact ⟨by rw [HE.out];first|rfl|(refine ret_bool ?_;simp;omega)|(refine ret_bool ?_;simp;done),BWX⟩
theorem gblank_any (f g b : Int) (w : World) : Calls Tryz.prog 31 #[.agg #[.int .i64 f,.int .i64 g,.int .i64 b]] w fun e w' => e = .returned (.agg #[.int .i64 32,.int .i64 0,.int .i64 0,.int .i64 b]) ∧ Bw w w':=by
 go_enter Tryz.func31,Tryz.ntmps31
 go_wp2
 refine bodyPost_ret (by simp [results,Tryz.results31,go_sem];rfl) rfl ?_
 exact ⟨rfl,BWX⟩
theorem rblank_any (f g b : Int) (w : World) : Calls Tryz.prog 105 #[.agg #[.int .i64 f,.int .i64 g,.int .i64 b]] w fun e w' => e = .returned (.agg #[.int .i64 32,.int .i64 0,.int .i64 0,.int .i64 b]) ∧ Bw w w':=by
 go_enter Tryz.func105,Tryz.ntmps105
 go_wp2
 refine bodyPost_ret (by simp [results,Tryz.results105,go_sem];rfl) rfl ?_
 exact ⟨rfl,BWX⟩
def gridB (R C : Int) (cs : List C4) : Bool:=decide (1 ≤ R ∧ R ≤ 30 ∧ 1 ≤ C ∧ C ≤ 100 ∧ (cs.length : Int) = R * C) && cs.all cellB
theorem mul_bd {R C : Int} (h1 : 1 ≤ R) (h2 : R ≤ 30) (h3 : 1 ≤ C) (h4 : C ≤ 100) : 1 ≤ R * C ∧ R * C ≤ 3000:=by
 have a:=Int.mul_le_mul h2 h4 (by omega) (by omega)
 have b:=Int.mul_le_mul h1 h3 (by omega) (by omega)
 omega
theorem all_take {cs : List C4} {k : Nat} (hk : k < cs.length) (h : (cs.take k).all cellB = true) (h2 : cellB cs[k] = true) : (cs.take (k + 1)).all cellB = true:=by
 rw [List.take_succ_eq_append_getElem hk,List.all_append,h]
 simp [h2]
theorem all_not {cs : List C4} {k : Nat} (hk : k < cs.length) (h2 : cellB cs[k] = false) : cs.all cellB = false:=by
 rw [List.all_eq_false]
 exact ⟨_,List.getElem_mem hk,by rw [h2];simp⟩
theorem rgvalid_any (R C : Int) (A : Option Addr) (n c : Nat) (cs : List C4) (w : World) (hr : Rg w A n cs) (hn : n ≤ c) (hc : c ≤ 9223372036854775807) :
  Calls Tryz.prog 42 #[.agg #[.int .i64 R,.int .i64 C,.slice A n c]] w fun e w' => e = .returned (.bool (gridB R C cs)) ∧ Bw w w':=by
 have hl:=hr.1
 have HR:=Lib.hid hr
 clear hr
 have hz : R < 1 ∨ (1 ≤ R ∧ 30 < R) ∨ ((1 ≤ R ∧ R ≤ 30) ∧ C < 1) ∨ ((1 ≤ R ∧ R ≤ 30) ∧ 1 ≤ C ∧ 100 < C) ∨ ((1 ≤ R ∧ R ≤ 30) ∧ 1 ≤ C ∧ C ≤ 100):=by omega
 rcases hz with h|⟨h1,h2⟩|⟨⟨h1,h2⟩,h3⟩|⟨⟨h1,h2⟩,h3,h4⟩|⟨⟨h1,h2⟩,h3,h4⟩
 iterate 4
  ·have HE:=Lib.hid (show gridB R C cs = false by unfold gridB;rw [decide_eq_false (by omega)];rfl)
   clear hl
   go_enter Tryz.func42,Tryz.ntmps42
   go_wp2_with fail
   go_ret
   exact ⟨by rw [HE.out];rfl,BWX⟩
 have hm:=mul_bd h1 h2 h3 h4
 by_cases hq : (n : Int) = R * C
 ·have HE:=Lib.hid (show gridB R C cs = cs.all cellB by unfold gridB;rw [decide_eq_true (by omega)];rfl)
  have HL:=Lib.hid hl
  have hn3 : n ≤ 3000:=by omega
  have hn1 : 1 ≤ n:=by omega
  obtain ⟨g,o,rfl,hx⟩:=HR.out.2 (by omega)
  have HX:=Lib.hid hx
  have hq2 : ((n : Int) == R * C) = true:=by simpa using hq
  have hq3 : ((n : Int) != R * C) = false:=by simpa using hq
  clear hl hx hq
  go_enter Tryz.func42,Tryz.ntmps42
  go_wp2_with fail
  clear hq2 hq3 hm
  go_loopw [3] (fun i wr => ∃ k : Nat,i = .int .i64 k ∧ k ≤ n ∧ (cs.take k).all cellB = true ∧ Bw (w.alloc (.cells #[.int .i64 R,.int .i64 C,.slice (some ⟨g,o,none⟩) n c] 25)) wr) (fun i _ => n - (intOf i).toNat)
  case atStart => exact ⟨0,rfl,by omega,by simp,BWX⟩
  case round =>
   obtain ⟨k,rfl,hk,hall,hbw⟩:=hrel
   have HA:=Lib.hid hall
   have hbw' : Bw w wr:=Bw.trans (show Bw w (w.alloc _) from BWX) hbw
   have hbx:=cell_bw hbw (p:=⟨w.heap.size,2,none⟩) (v:=.slice (some ⟨g,o,none⟩) n c) CELX
   clear hall
   by_cases hlt : k < n
   ·have hkc : k < cs.length:=by rw [HL.out];exact hlt
    obtain ⟨⟨c1,c2,c3,c4⟩,hcc⟩ : ∃ c,c = cs[k]:=⟨_,rfl⟩
    have hce:=(HX.out k hkc).up hbw'
    rw [← hcc] at hce
    obtain ⟨f1,f2,f3,f4⟩:=hce
    dsimp only at f1 f2 f3 f4
    have e1 : (0 : Int) ≤ k:=by omega
    have e2 : (k : Int) < n:=by omega
    cases hcb : cellB (c1,c2,c3,c4)
    ·have HE2:=Lib.hid (all_not hkc (by rw [← hcc];exact hcb))
     have HKC:=Lib.hid hkc
     clear hcc hkc
     go_wp2_with (first|(go_at_call 66;refine (rcell_any c1 c2 c3 c4 _).mono ?_;rintro ee ww ⟨rfl,hb⟩;rw [hcb])|fail)
     go_ret
     exact ⟨by rw [HE.out,HE2.out];rfl,BWX⟩
    ·have HA2:=Lib.hid (all_take hkc HA.out (by rw [← hcc];exact hcb))
     clear hcc hkc
     go_wp2_with (first|(go_at_call 66;refine (rcell_any c1 c2 c3 c4 _).mono ?_;rintro ee ww ⟨rfl,hb⟩;rw [hcb])|fail)
     go_roundw
     case rel => exact ⟨k + 1,by go_num,by omega,HA2.out,BWX⟩
     case measure => simp [intOf];omega
   ·obtain rfl : k = n:=by omega
    have HE2:=Lib.hid (show cs.all cellB = true by have:=HA.out;rw [List.take_of_length_le (by rw [HL.out];omega)] at this;exact this)
    go_wp2_with fail
    go_ret
    exact ⟨by rw [HE.out,HE2.out];rfl,BWX⟩
 ·have HE:=Lib.hid (show gridB R C cs = false by unfold gridB;rw [decide_eq_false (by omega)];rfl)
  have hq2 : ((n : Int) == R * C) = false:=by simpa using hq
  have hq3 : ((n : Int) != R * C) = true:=by simpa using hq
  have HQ:=Lib.hid hq
  clear hl hq
  go_enter Tryz.func42,Tryz.ntmps42
  go_wp2_with fail
  go_ret
  exact ⟨by rw [HE.out];rfl,BWX⟩
theorem ggvalid_any (R C : Int) (A : Option Addr) (n c : Nat) (cs : List C4) (w : World) (hr : Rg w A n cs) (hn : n ≤ c) (hc : c ≤ 9223372036854775807) :
  Calls Tryz.prog 41 #[.agg #[.int .i64 R,.int .i64 C,.slice A n c]] w fun e w' => e = .returned (.bool (gridB R C cs)) ∧ Bw w w':=by
 have hl:=hr.1
 have HR:=Lib.hid hr
 clear hr
 have hz : R < 1 ∨ (1 ≤ R ∧ 30 < R) ∨ ((1 ≤ R ∧ R ≤ 30) ∧ C < 1) ∨ ((1 ≤ R ∧ R ≤ 30) ∧ 1 ≤ C ∧ 100 < C) ∨ ((1 ≤ R ∧ R ≤ 30) ∧ 1 ≤ C ∧ C ≤ 100):=by omega
 rcases hz with h|⟨h1,h2⟩|⟨⟨h1,h2⟩,h3⟩|⟨⟨h1,h2⟩,h3,h4⟩|⟨⟨h1,h2⟩,h3,h4⟩
 iterate 4
  ·have HE:=Lib.hid (show gridB R C cs = false by unfold gridB;rw [decide_eq_false (by omega)];rfl)
   clear hl
   go_enter Tryz.func41,Tryz.ntmps41
   go_wp2_with fail
   go_ret
   exact ⟨by rw [HE.out];rfl,BWX⟩
 have hm:=mul_bd h1 h2 h3 h4
 by_cases hq : (n : Int) = R * C
 ·have HE:=Lib.hid (show gridB R C cs = cs.all cellB by unfold gridB;rw [decide_eq_true (by omega)];rfl)
  have HL:=Lib.hid hl
  have hn3 : n ≤ 3000:=by omega
  have hn1 : 1 ≤ n:=by omega
  obtain ⟨g,o,rfl,hx⟩:=HR.out.2 (by omega)
  have HX:=Lib.hid hx
  have hq2 : ((n : Int) == R * C) = true:=by simpa using hq
  have hq3 : ((n : Int) != R * C) = false:=by simpa using hq
  clear hl hx hq
  go_enter Tryz.func41,Tryz.ntmps41
  go_wp2_with fail
  clear hq2 hq3 hm
  go_loopw [35] (fun i wr => ∃ k : Nat,i = .int .i64 k ∧ k ≤ n ∧ (cs.take k).all cellB = true ∧ Bw (w.alloc (.cells #[.int .i64 R,.int .i64 C,.slice (some ⟨g,o,none⟩) n c] 25)) wr) (fun i _ => n - (intOf i).toNat)
  case atStart => exact ⟨0,rfl,by omega,by simp,BWX⟩
  case round =>
   obtain ⟨k,rfl,hk,hall,hbw⟩:=hrel
   have HA:=Lib.hid hall
   have hbw' : Bw w wr:=Bw.trans (show Bw w (w.alloc _) from BWX) hbw
   have hbx:=cell_bw hbw (p:=⟨w.heap.size,2,none⟩) (v:=.slice (some ⟨g,o,none⟩) n c) CELX
   clear hall
   by_cases hlt : k < n
   ·have hkc : k < cs.length:=by rw [HL.out];exact hlt
    obtain ⟨⟨c1,c2,c3,c4⟩,hcc⟩ : ∃ c,c = cs[k]:=⟨_,rfl⟩
    have hce:=(HX.out k hkc).up hbw'
    rw [← hcc] at hce
    obtain ⟨f1,f2,f3,f4⟩:=hce
    dsimp only at f1 f2 f3 f4
    have e1 : (0 : Int) ≤ k:=by omega
    have e2 : (k : Int) < n:=by omega
    cases hcb : cellB (c1,c2,c3,c4)
    ·have HE2:=Lib.hid (all_not hkc (by rw [← hcc];exact hcb))
     have HKC:=Lib.hid hkc
     clear hcc hkc
     go_wp2_with (first|(go_at_call 65;refine (gcell_any c1 c2 c3 c4 _).mono ?_;rintro ee ww ⟨rfl,hb⟩;rw [hcb])|fail)
     go_ret
     exact ⟨by rw [HE.out,HE2.out];rfl,BWX⟩
    ·have HA2:=Lib.hid (all_take hkc HA.out (by rw [← hcc];exact hcb))
     clear hcc hkc
     go_wp2_with (first|(go_at_call 65;refine (gcell_any c1 c2 c3 c4 _).mono ?_;rintro ee ww ⟨rfl,hb⟩;rw [hcb])|fail)
     go_roundw
     case rel => exact ⟨k + 1,by go_num,by omega,HA2.out,BWX⟩
     case measure => simp [intOf];omega
   ·obtain rfl : k = n:=by omega
    have HE2:=Lib.hid (show cs.all cellB = true by have:=HA.out;rw [List.take_of_length_le (by rw [HL.out];omega)] at this;exact this)
    go_wp2_with fail
    go_ret
    exact ⟨by rw [HE.out,HE2.out];rfl,BWX⟩
 ·have HE:=Lib.hid (show gridB R C cs = false by unfold gridB;rw [decide_eq_false (by omega)];rfl)
  have hq2 : ((n : Int) == R * C) = false:=by simpa using hq
  have hq3 : ((n : Int) != R * C) = true:=by simpa using hq
  have HQ:=Lib.hid hq
  clear hl hq
  go_enter Tryz.func41,Tryz.ntmps41
  go_wp2_with fail
  go_ret
  exact ⟨by rw [HE.out];rfl,BWX⟩
theorem key_rd {k : IntKind} {w : World} {a : Option Addr} {len cap : Nat} {zs : List Int}
  (h : (a = none ∧ len = 0 ∧ cap = 0 ∧ zs = []) ∨ ∃ x,a = some x ∧ len ≤ cap ∧ cap ≤ maxLen ∧ zs.length = cap ∧ (∀ i,i < zs.length → w.cell? (x.add i) = some (.int k (zs.getD i 0))) ∧ ∀ n ∈ zs,(Lit.int k n).wf = true) :
  ∃ xs,Rd (.int k) w a len xs ∧ len ≤ cap ∧ cap ≤ 9223372036854775807 ∧ ∀ x ∈ xs,(Lit.int k x).wf = true:=by
 rcases h with ⟨rfl,rfl,rfl,rfl⟩|⟨x,rfl,hl,hm,hz,hcell,hwz⟩
 ·exact ⟨[],⟨rfl,fun h => absurd h (by simp)⟩,by omega,by omega,by simp⟩
 ·refine ⟨zs.take len,⟨by simp;omega,fun h0 => ?_⟩,hl,by unfold maxLen at hm;omega,fun y hy => hwz y (List.mem_of_mem_take hy)⟩
  obtain ⟨b,off,rfl,hc⟩:=ints_at hcell (by omega)
  refine ⟨b,off,rfl,fun i hi => ?_⟩
  have hi' : i < zs.length:=by simp at hi;omega
  rw [hc i hi']
  simp [List.getD_eq_getElem?_getD,hi']
theorem Rd.toI {w : World} {A : Option Addr} {n : Nat} {xs : List Int} (h : Rd (.int .i64) w A n xs) : ∀ i (h : i < xs.length),∃ ad,A = some ad ∧ w.cell? (ad.add i) = some (.int .i64 xs[i]):=by
 intro i hi
 obtain ⟨g,o,e,hx⟩:=h.2 (by have:=h.1;omega)
 exact ⟨_,e,by rw [Addr.add_mid];exact hx i hi⟩
theorem Rd.ltA {α : Type} {f : α → Value} {w : World} {A : Option Addr} {n : Nat} {xs : List α} (h : Rd f w A n xs) : 0 < n → ∀ ad,A = some ad → ad.block < w.heap.size:=by
 intro h0 ad e
 obtain ⟨g,o,e2,hx⟩:=h.2 h0
 rw [e] at e2
 cases e2
 exact lt_of_cell (hx 0 (by have:=h.1;omega))
/-- Block b is a deck over the list xs (which reads as A, n, c), at some place. -/
def Dk (w : World) (b : Nat) (A : Option Addr) (n c : Nat) (xs : List Int) : Prop :=
 b < w.heap.size ∧ n ≤ 9223372036854775807 ∧ RdI w A n xs ∧ (0 < n → ∀ ad,A = some ad → ad.block < b) ∧ ∃ k : Nat,k ≤ n ∧ w.cell? ⟨b,0,none⟩ = some (.slice A n c) ∧ w.cell? ⟨b,1,none⟩ = some (.int .i64 k) ∧ w.frozen? ⟨b,1,none⟩ = false
theorem Dk.up {w w' : World} {b : Nat} {A : Option Addr} {n c : Nat} {xs : List Int} (h : Dk w b A n c xs) (hb : Bw w w') : Dk w' b A n c xs:=by
 obtain ⟨h1,h2,h3,h4,k,h5,h6,h7,h8⟩:=h
 refine ⟨Nat.lt_of_lt_of_le h1 hb.size,h2,h3.up (fun hz ad e => Nat.lt_trans (h4 hz ad e) h1) hb,h4,k,h5,?_,?_,?_⟩
 ·rw [Below.cell hb (p:=⟨b,0,none⟩) h1];exact h6
 ·rw [Below.cell hb (p:=⟨b,1,none⟩) h1];exact h7
 ·rw [Below.frozen hb (p:=⟨b,1,none⟩) h1];exact h8
theorem Dk.grown {w w' : World} {b r : Nat} {A : Option Addr} {n c : Nat} {xs : List Int} (h : Dk w b A n c xs) (hg : w.grownBy w' (some r)) (hr : b < r) : Dk w' b A n c xs:=by
 obtain ⟨h1,h2,h3,h4,k,h5,h6,h7,h8⟩:=h
 refine ⟨Nat.lt_of_lt_of_le h1 hg.size,h2,⟨h3.1,fun i hi => ?_⟩,h4,k,h5,?_,?_,?_⟩
 ·obtain ⟨ad,e,hx⟩:=h3.2 i hi
  refine ⟨ad,e,?_⟩
  have h9:=h4 (by have:=h3.1;omega) ad e
  rw [grown_cell hg (by rw [addr_add_block];omega) (by rw [addr_add_block];omega)]
  exact hx
 ·rw [grown_cell hg (p:=⟨b,0,none⟩) h1 (by simp;omega)];exact h6
 ·rw [grown_cell hg (p:=⟨b,1,none⟩) h1 (by simp;omega)];exact h7
 ·rw [grown_frozen hg (p:=⟨b,1,none⟩) h1 (by simp;omega)];exact h8
theorem Dk.made {w : World} {A : Option Addr} {n c : Nat} {xs : List Int} (hr : RdI w A n xs) (hA : 0 < n → ∀ ad,A = some ad → ad.block < w.heap.size) (hn : n ≤ 9223372036854775807) :
  Dk (w.alloc (.cells #[.slice A n c,.int .i64 0] 97)) w.heap.size A n c xs:=by
 refine ⟨by simp,hn,hr.up hA BWX,hA,0,Nat.zero_le _,CELX,CELX,by simp [go_sem]⟩
theorem Dk.row {w w' : World} {b : Nat} {A : Option Addr} {n c : Nat} {xs : List Int} (h : Dk w b A n c xs) {v : Value} {base : Nat} {e : TypeId} {s m : Nat} {ys : List Value} (ho : w.ownsRow base e s v m ys) (hg : w.grownBy w' v.ownBlock) (hb : b < base) : Dk w' b A n c xs:=by
 cases hob : v.ownBlock with
 | none => rw [hob] at hg;exact h.up (Bw.of_grown hg)
 | some r => rw [hob] at hg;exact h.grown hg (by have:=ho.lt r hob;omega)
theorem Bw.row {w w1 w2 : World} (h : Bw w w1) {v : Value} {base : Nat} {e : TypeId} {s m : Nat} {ys : List Value} (ho : w1.ownsRow base e s v m ys) (hg : w1.grownBy w2 v.ownBlock) (hb : w.heap.size ≤ base) : Bw w w2 :=
 Bw.grown h hg (fun k hk => by have:=ho.lt k hk;omega)
end Go.Proofs.YteebdjmjeahccaaGreatDoor
