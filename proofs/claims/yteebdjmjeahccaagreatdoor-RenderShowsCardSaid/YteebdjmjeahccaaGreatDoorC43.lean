/- Parts of the proof, one after the other. -/
import Derived.Test.YteebdjmjeahccaaGreatDoorC08
import Derived.Test.YteebdjmjeahccaaGreatDoorC37
import Derived.Test.YteebdjmjeahccaaGreatDoorC42
import Derived.Deep.RegionHeld3
set_option linter.unusedSimpArgs false
set_option linter.unusedVariables false
set_option maxRecDepth 100000
set_option maxHeartbeats 16000000
namespace Go.Proofs.YteebdjmjeahccaaGreatDoor
open Go.RowKit
theorem gequal_any (A B : Option Addr) (n c m d : Nat) (xs ys : List C4) (w : World) (hx : Rg w A n xs) (hn : n ≤ c) (hc : c ≤ 9223372036854775807) (hy : Rg w B m ys) (hm : m ≤ d) (hd : d ≤ 9223372036854775807) :
  Calls Tryz.prog 43 #[.slice A n c,.slice B m d] w fun e w' => e = .returned (.bool (decide (xs = ys))) ∧ Bw w w':=by
 have HX:=Lib.hid hx
 have HY:=Lib.hid hy
 clear hx hy
 by_cases hnm : n = m
 ·subst hnm
  by_cases h0 : n = 0
  ·subst h0
   have HE:=Lib.hid (show decide (xs = ys) = true by rw [List.eq_nil_of_length_eq_zero HX.out.1,List.eq_nil_of_length_eq_zero HY.out.1];rfl)
   go_enter Tryz.func43,Tryz.ntmps43
   go_wp2_with fail
   go_loopw [13] (fun i wr => i = .int .i64 0 ∧ Bw w wr) (fun i _ => 0)
   case atStart => exact ⟨rfl,BWX⟩
   case round =>
    obtain ⟨rfl,hbw⟩:=hrel
    go_wp2_with fail
    go_ret
    exact ⟨by rw [HE.out];rfl,BWX⟩
  obtain ⟨g,o,rfl,hx⟩:=HX.out.2 (by omega)
  obtain ⟨g',o',rfl,hy⟩:=HY.out.2 (by omega)
  have HXc:=Lib.hid hx
  have HYc:=Lib.hid hy
  clear hx hy
  go_enter Tryz.func43,Tryz.ntmps43
  go_wp2_with fail
  go_loopw [13] (fun i wr => ∃ k : Nat,i = .int .i64 k ∧ k ≤ n ∧ xs.take k = ys.take k ∧ Bw w wr) (fun i _ => n - (intOf i).toNat)
  case atStart => exact ⟨0,rfl,by omega,by simp,BWX⟩
  case round =>
   obtain ⟨k,rfl,hk,ht,hbw⟩:=hrel
   have HT:=Lib.hid ht
   clear ht
   by_cases hlt : k < n
   ·have hkx : k < xs.length:=by rw [HX.out.1];exact hlt
    have hky : k < ys.length:=by rw [HY.out.1];exact hlt
    have hcx:=(HXc.out k hkx).up hbw
    have hcy:=(HYc.out k hky).up hbw
    obtain ⟨⟨x1,x2,x3,x4⟩,hxx⟩ : ∃ x,xs[k] = x:=⟨_,rfl⟩
    obtain ⟨⟨y1,y2,y3,y4⟩,hyy⟩ : ∃ x,ys[k] = x:=⟨_,rfl⟩
    rw [hxx] at hcx
    rw [hyy] at hcy
    obtain ⟨f1,f2,f3,f4⟩:=hcx
    obtain ⟨g1,g2,g3,g4⟩:=hcy
    dsimp only at f1 f2 f3 f4 g1 g2 g3 g4
    have HXX:=Lib.hid hxx
    have HYY:=Lib.hid hyy
    have e1 : (0 : Int) ≤ k:=by omega
    have e2 : (k : Int) < n:=by omega
    clear hxx hyy
    by_cases heq : (x1,x2,x3,x4) = (y1,y2,y3,y4)
    ·have HT2:=Lib.hid (take_eq_snoc hkx hky HT.out (by rw [HXX.out,HYY.out];exact heq))
     simp only [Prod.mk.injEq] at heq
     obtain ⟨rfl,rfl,rfl,rfl⟩:=heq
     go_upto_region 6 with (fail)
     go_quiet (fail)
     go_wp2_with fail
     go_roundw
     case rel => exact ⟨k + 1,by go_num,by omega,HT2.out,BWX⟩
     case measure => simp [intOf];omega
    ·have HE:=Lib.hid (show decide (xs = ys) = false from decide_eq_false (ne_of_get hkx hky (by rw [HXX.out,HYY.out];exact heq)))
     have hne : ¬ x1 = y1 ∨ (x1 = y1 ∧ ¬ x2 = y2) ∨ (x1 = y1 ∧ x2 = y2 ∧ ¬ x3 = y3) ∨ (x1 = y1 ∧ x2 = y2 ∧ x3 = y3 ∧ ¬ x4 = y4):=by
      simp only [Prod.mk.injEq] at heq
      omega
     clear heq
     go_upto_region 6 with (fail)
     go_cut [24] (fun s w' => s = .bool true ∧ Bw w w')
     case first =>
      rcases hne with h|⟨rfl,h⟩|⟨rfl,rfl,h⟩|⟨rfl,rfl,rfl,h⟩
      all_goals
       go_quiet (fail)
       go_wp2
       go_meet
       case rel => exact ⟨by simp [h],BWX⟩
     case rest =>
     obtain ⟨rfl,hbw2⟩:=hcut
     go_wp2_with fail
     go_ret
     exact ⟨by rw [HE.out];rfl,BWX⟩
   ·obtain rfl : k = n:=by omega
    have HE:=Lib.hid (show decide (xs = ys) = true from decide_eq_true (by have h:=HT.out;rw [List.take_of_length_le (by rw [HX.out.1];omega),List.take_of_length_le (by rw [HY.out.1];omega)] at h;exact h))
    go_wp2_with fail
    go_ret
    exact ⟨by rw [HE.out];rfl,BWX⟩
 ·have HE:=Lib.hid (show decide (xs = ys) = false from decide_eq_false (fun e => hnm (by rw [← HX.out.1,← HY.out.1,e])))
  have h1 : ((n : Int) == m) = false:=by rw [beq_eq_false_iff_ne];omega
  have h2 : ((n : Int) != m) = true:=by rw [bne_iff_ne];omega
  go_enter Tryz.func43,Tryz.ntmps43
  go_wp2_with fail
  go_ret
  exact ⟨by rw [HE.out];rfl,BWX⟩
def sameV (R C : Int) (cs : List C4) (row col : Int) (hid : Bool) (R2 C2 : Int) (ds : List C4) (row2 col2 : Int) (hid2 : Bool) : Bool:=decide (R = R2 ∧ C = C2 ∧ cs = ds ∧ row = row2 ∧ col = col2 ∧ hid = hid2)
theorem gsameV_any (R C : Int) (A : Option Addr) (n c : Nat) (cs : List C4) (row col : Int) (hid : Bool) (R2 C2 : Int) (A2 : Option Addr) (n2 c2 : Nat) (ds : List C4) (row2 col2 : Int) (hid2 : Bool) (w : World) (hx : Rg w A n cs) (hn : n ≤ c) (hc : c ≤ 9223372036854775807) (hy : Rg w A2 n2 ds) (hm : n2 ≤ c2) (hd : c2 ≤ 9223372036854775807) :
  Calls Tryz.prog 17 #[.agg #[.int .i64 R,.int .i64 C,.slice A n c,.int .i64 row,.int .i64 col,.bool hid],.agg #[.int .i64 R2,.int .i64 C2,.slice A2 n2 c2,.int .i64 row2,.int .i64 col2,.bool hid2]] w fun e w' => e = .returned (.bool (sameV R C cs row col hid R2 C2 ds row2 col2 hid2)) ∧ Bw w w':=by
 have HX:=Lib.hid hx
 have HY:=Lib.hid hy
 clear hx hy
 have hz : R ≠ R2 ∨ (R = R2 ∧ C ≠ C2) ∨ (R = R2 ∧ C = C2 ∧ cs ≠ ds) ∨ (R = R2 ∧ C = C2 ∧ cs = ds ∧ row ≠ row2) ∨ (R = R2 ∧ C = C2 ∧ cs = ds ∧ row = row2 ∧ col ≠ col2) ∨ (R = R2 ∧ C = C2 ∧ cs = ds ∧ row = row2 ∧ col = col2 ∧ hid ≠ hid2) ∨ (R = R2 ∧ C = C2 ∧ cs = ds ∧ row = row2 ∧ col = col2 ∧ hid = hid2):=by
  by_cases h1 : R = R2 <;> by_cases h2 : C = C2 <;> by_cases h3 : cs = ds <;> by_cases h4 : row = row2 <;> by_cases h5 : col = col2 <;> by_cases h6 : hid = hid2 <;> simp only [h1,h2,h3,h4,h5,h6,ne_eq,not_true_eq_false,not_false_eq_true,true_and,false_and,and_false,and_true,or_true,true_or,or_false,false_or]
 rcases hz with h1|⟨h1,h2⟩|⟨h1,h2,h3⟩|⟨h1,h2,h3,h4⟩|⟨h1,h2,h3,h4,h5⟩|⟨h1,h2,h3,h4,h5,h6⟩|⟨h1,h2,h3,h4,h5,h6⟩
 ·have HE:=Lib.hid (show sameV R C cs row col hid R2 C2 ds row2 col2 hid2 = false from decide_eq_false (fun h => h1 h.1))
  have q1 : (R == R2) = false:=by simpa using h1
  clear h1
  go_enter Tryz.func17,Tryz.ntmps17
  go_wp2_with (first
   | (go_at_call 43;refine (gequal_any A A2 n c n2 c2 cs ds _ (HX.out.up BWX) hn hc (HY.out.up BWX) hm hd).mono ?_;rintro ee wv ⟨rfl,hb⟩;rw [HQ.out];obtain ⟨L,d',rfl⟩:=Bw.isPlus hb;clear hb)
   | fail)
  go_ret
  exact ⟨by rw [HE.out];first|rfl|(simp;done),BWX⟩
 ·have HE:=Lib.hid (show sameV R C cs row col hid R2 C2 ds row2 col2 hid2 = false from decide_eq_false (fun h => h2 h.2.1))
  subst h1
  have q2 : (C == C2) = false:=by simpa using h2
  clear h2
  go_enter Tryz.func17,Tryz.ntmps17
  go_wp2_with (first
   | (go_at_call 43;refine (gequal_any A A2 n c n2 c2 cs ds _ (HX.out.up BWX) hn hc (HY.out.up BWX) hm hd).mono ?_;rintro ee wv ⟨rfl,hb⟩;rw [HQ.out];obtain ⟨L,d',rfl⟩:=Bw.isPlus hb;clear hb)
   | fail)
  go_ret
  exact ⟨by rw [HE.out];first|rfl|(simp;done),BWX⟩
 ·have HE:=Lib.hid (show sameV R C cs row col hid R2 C2 ds row2 col2 hid2 = false from decide_eq_false (fun h => h3 h.2.2.1))
  have HQ:=Lib.hid (decide_eq_false h3)
  subst h1 h2
  clear h3
  go_enter Tryz.func17,Tryz.ntmps17
  go_wp2_with (first
   | (go_at_call 43;refine (gequal_any A A2 n c n2 c2 cs ds _ (HX.out.up BWX) hn hc (HY.out.up BWX) hm hd).mono ?_;rintro ee wv ⟨rfl,hb⟩;rw [HQ.out];obtain ⟨L,d',rfl⟩:=Bw.isPlus hb;clear hb)
   | fail)
  go_ret
  exact ⟨by rw [HE.out];first|rfl|(simp;done),BWX⟩
 ·have HE:=Lib.hid (show sameV R C cs row col hid R2 C2 ds row2 col2 hid2 = false from decide_eq_false (fun h => h4 h.2.2.2.1))
  have HQ:=Lib.hid (decide_eq_true h3)
  subst h1 h2
  have q4 : (row == row2) = false:=by simpa using h4
  clear h3 h4
  go_enter Tryz.func17,Tryz.ntmps17
  go_wp2_with (first
   | (go_at_call 43;refine (gequal_any A A2 n c n2 c2 cs ds _ (HX.out.up BWX) hn hc (HY.out.up BWX) hm hd).mono ?_;rintro ee wv ⟨rfl,hb⟩;rw [HQ.out];obtain ⟨L,d',rfl⟩:=Bw.isPlus hb;clear hb)
   | fail)
  go_ret
  exact ⟨by rw [HE.out];first|rfl|(simp;done),BWX⟩
 ·have HE:=Lib.hid (show sameV R C cs row col hid R2 C2 ds row2 col2 hid2 = false from decide_eq_false (fun h => h5 h.2.2.2.2.1))
  have HQ:=Lib.hid (decide_eq_true h3)
  subst h1 h2 h4
  have q5 : (col == col2) = false:=by simpa using h5
  clear h3 h5
  go_enter Tryz.func17,Tryz.ntmps17
  go_wp2_with (first
   | (go_at_call 43;refine (gequal_any A A2 n c n2 c2 cs ds _ (HX.out.up BWX) hn hc (HY.out.up BWX) hm hd).mono ?_;rintro ee wv ⟨rfl,hb⟩;rw [HQ.out];obtain ⟨L,d',rfl⟩:=Bw.isPlus hb;clear hb)
   | fail)
  go_ret
  exact ⟨by rw [HE.out];first|rfl|(simp;done),BWX⟩
 ·have HE:=Lib.hid (show sameV R C cs row col hid R2 C2 ds row2 col2 hid2 = false from decide_eq_false (fun h => h6 h.2.2.2.2.2))
  have HQ:=Lib.hid (decide_eq_true h3)
  subst h1 h2 h4 h5
  have q6 : (hid == hid2) = false:=by simpa using h6
  clear h3 h6
  go_enter Tryz.func17,Tryz.ntmps17
  go_wp2_with (first
   | (go_at_call 43;refine (gequal_any A A2 n c n2 c2 cs ds _ (HX.out.up BWX) hn hc (HY.out.up BWX) hm hd).mono ?_;rintro ee wv ⟨rfl,hb⟩;rw [HQ.out];obtain ⟨L,d',rfl⟩:=Bw.isPlus hb;clear hb)
   | fail)
  go_ret
  exact ⟨by rw [HE.out];first|rfl|(simp;done),BWX⟩
 ·have HE:=Lib.hid (show sameV R C cs row col hid R2 C2 ds row2 col2 hid2 = true from decide_eq_true ⟨h1,h2,h3,h4,h5,h6⟩)
  have HQ:=Lib.hid (decide_eq_true h3)
  subst h1 h2 h4 h5 h6
  clear h3
  go_enter Tryz.func17,Tryz.ntmps17
  go_wp2_with (first
   | (go_at_call 43;refine (gequal_any A A2 n c n2 c2 cs ds _ (HX.out.up BWX) hn hc (HY.out.up BWX) hm hd).mono ?_;rintro ee wv ⟨rfl,hb⟩;rw [HQ.out];obtain ⟨L,d',rfl⟩:=Bw.isPlus hb;clear hb)
   | fail)
  go_ret
  exact ⟨by rw [HE.out];first|rfl|(simp;done),BWX⟩
/-- How many cells in a row differ, from the first on. -/
def runN : List C4 → List C4 → Nat
 | x :: xs,y :: ys => if y = x then 0 else runN xs ys + 1
 | _,_ => 0
theorem runN_eq : ∀ (k : Nat) (xs ys : List C4),xs.length = ys.length → k ≤ ys.length → (∀ i,i < k → ys[i]? ≠ xs[i]?) → (k = ys.length ∨ ys[k]? = xs[k]?) → runN xs ys = k
 | _,[],[],_,hk,_,_ => by simp only [List.length_nil,Nat.le_zero] at hk;rw [hk];rfl
 | _,[],_ :: _,h,_,_,_ => by simp at h
 | _,_ :: _,[],h,_,_,_ => by simp at h
 | 0,x :: xs,y :: ys,_,_,_,he => by
  rcases he with he|he
  ·simp at he
  ·simp only [List.getElem?_cons_zero,Option.some.injEq] at he
   rw [runN,if_pos he]
 | k + 1,x :: xs,y :: ys,h,hk,hd,he => by
  have h0:=hd 0 (by omega)
  simp only [List.getElem?_cons_zero,ne_eq,Option.some.injEq] at h0
  rw [runN,if_neg h0,runN_eq k xs ys (by simpa using h) (by simpa using hk) (fun i hi => by have:=hd (i + 1) (by omega);simpa using this) (by
   rcases he with he|he
   ·exact .inl (by simpa using he)
   ·exact .inr (by simpa using he))]
theorem runN_le : ∀ (xs ys : List C4),runN xs ys ≤ ys.length
 | [],[] => by simp [runN]
 | [],_ :: _ => by simp [runN]
 | _ :: _,[] => by simp [runN]
 | x :: xs,y :: ys => by
  have:=runN_le xs ys
  rw [runN]
  split
  ·omega
  ·simp only [List.length_cons];omega
def difF (xs ys : List C4) (r : Int) : Nat → Nat → List Int × A3 → List Int × A3
 | 0,_,s => s
 | f + 1,i,s => if runN (xs.drop i) (ys.drop i) = 0 then difF xs ys r f (i + 1) s else difF xs ys r f (i + runN (xs.drop i) (ys.drop i) + 1) (s.1 ++ (goesL r i ++ pntB s.2 ((ys.drop i).take (runN (xs.drop i) (ys.drop i)))),pntA s.2 ((ys.drop i).take (runN (xs.drop i) (ys.drop i))))
theorem runN_end {xs ys : List C4} {i : Nat} (h : ys.length ≤ i) : runN (xs.drop i) (ys.drop i) = 0:=by
 have:=runN_le (xs.drop i) (ys.drop i)
 rw [List.length_drop] at this
 omega
theorem difF_end (xs ys : List C4) (r : Int) : ∀ (f i : Nat) (s : List Int × A3),ys.length ≤ i → difF xs ys r f i s = s
 | 0,_,_,_ => rfl
 | f + 1,i,s,h => by rw [difF,if_pos (runN_end h)];exact difF_end xs ys r f (i + 1) s (by omega)
theorem difF_fuel (xs ys : List C4) (r : Int) : ∀ (f f2 i : Nat) (s : List Int × A3),ys.length ≤ i + f → ys.length ≤ i + f2 → difF xs ys r f i s = difF xs ys r f2 i s
 | 0,f2,i,s,h,_ => by rw [difF_end xs ys r f2 i s (by omega)];rfl
 | f + 1,0,i,s,_,h => by rw [difF_end xs ys r (f + 1) i s (by omega)];rfl
 | f + 1,f2 + 1,i,s,h,h2 => by
  rw [difF,difF]
  split
  ·exact difF_fuel xs ys r f f2 _ _ (by omega) (by omega)
  ·exact difF_fuel xs ys r f f2 _ _ (by omega) (by omega)
/-- What is written for a row, from column i on, and the state behind it. -/
def difR (xs ys : List C4) (r : Int) (i : Nat) (s : List Int × A3) : List Int × A3:=difF xs ys r ys.length i s
theorem difR_end {xs ys : List C4} {r : Int} {i : Nat} {s : List Int × A3} (h : ys.length ≤ i) : difR xs ys r i s = s:=difF_end _ _ _ _ _ _ h
theorem difR_zero {xs ys : List C4} {r : Int} {i : Nat} {s : List Int × A3} (h : runN (xs.drop i) (ys.drop i) = 0) : difR xs ys r i s = difR xs ys r (i + 1) s:=by
 unfold difR
 rw [difF_fuel xs ys r ys.length (ys.length + 1) i s (by omega) (by omega),difF,if_pos h]
theorem difR_step {xs ys : List C4} {r : Int} {i k : Nat} {s : List Int × A3} (h : runN (xs.drop i) (ys.drop i) = k) (hk : 0 < k) : difR xs ys r i s = difR xs ys r (i + k + 1) (s.1 ++ (goesL r i ++ pntB s.2 ((ys.drop i).take k)),pntA s.2 ((ys.drop i).take k)):=by
 unfold difR
 rw [difF_fuel xs ys r ys.length (ys.length + 1) i s (by omega) (by omega),difF,if_neg (by omega),h]
/-- Behind the first rows. -/
def difRows (F G : Nat → List C4) : Nat → List Int × A3
 | 0 => ([],(0,0,0))
 | n + 1 => difR (F n) (G n) n 0 (difRows F G n)
/-- All that is written where something is new. -/
def diffL (R C : Int) (cs : List C4) (row col : Int) (hid : Bool) (R2 C2 : Int) (ds : List C4) (row2 col2 : Int) (hid2 : Bool) : List Int :=
 if viewB R2 C2 ds row2 col2 = true ∧ sameV R C cs row col hid R2 C2 ds row2 col2 hid2 = false then
  if viewB R C cs row col = true ∧ R = R2 ∧ C = C2 then (difRows (fun r => rowF R C cs r) (fun r => rowF R C ds r) R.toNat).1 ++ bts (difRows (fun r => rowF R C cs r) (fun r => rowF R C ds r) R.toNat).2 (0,0,0) ++ goesL row2 col2 ++ (if hid = hid2 then [] else hideL hid2)
  else fullL R2 C2 ds row2 col2 hid2
 else []
theorem rowF_full {R C : Int} {cs : List C4} {row col : Int} (h : viewB R C cs row col = true) (k : Nat) (hk : (k : Int) < R) : (rowF R C cs k).length = C.toNat:=by
 obtain ⟨h1,h2,h3,h4,h5,-⟩:=viewB_dim h
 obtain ⟨Rn,rfl⟩ : ∃ Rn : Nat,R = Rn:=⟨R.toNat,by omega⟩
 obtain ⟨Cn,rfl⟩ : ∃ Cn : Nat,C = Cn:=⟨C.toNat,by omega⟩
 have h6 : cs.length = Rn * Cn:=by rw [← Int.natCast_mul] at h5;omega
 have h7 : (cs.length : Int) / Cn = Rn:=by rw [h5];exact Int.mul_ediv_cancel _ (by omega)
 have h8 : (k + 1) * Cn ≤ Rn * Cn:=Nat.mul_le_mul_right _ (by omega)
 rw [Nat.add_mul,Nat.one_mul] at h8
 unfold rowF
 rw [if_pos (by rw [h7];omega),List.length_take,List.length_drop,← Int.natCast_mul,Int.toNat_natCast,Int.toNat_natCast,h6]
 omega
theorem take_drop_run {xs ys : List C4} {f t n : Nat} (hx : xs.length = n) (hy : ys.length = n) (hft : f ≤ t) (ht : t ≤ n) (hd : ∀ i,f ≤ i → i < t → ys[i]? ≠ xs[i]?) (he : t = n ∨ ys[t]? = xs[t]?) : runN (xs.drop f) (ys.drop f) = t - f:=by
 refine runN_eq _ _ _ (by rw [List.length_drop,List.length_drop,hx,hy]) (by rw [List.length_drop];omega) (fun i hi => ?_) ?_
 ·rw [List.getElem?_drop,List.getElem?_drop]
  exact hd _ (by omega) (by omega)
 ·rcases he with he|he
  ·exact .inl (by rw [List.length_drop];omega)
  ·refine .inr ?_
   rw [List.getElem?_drop,List.getElem?_drop,Nat.add_sub_cancel' hft]
   exact he
theorem diffL_no {R C : Int} {cs : List C4} {row col : Int} {hid : Bool} {R2 C2 : Int} {ds : List C4} {row2 col2 : Int} {hid2 : Bool} (h : viewB R2 C2 ds row2 col2 = false ∨ sameV R C cs row col hid R2 C2 ds row2 col2 hid2 = true) : diffL R C cs row col hid R2 C2 ds row2 col2 hid2 = []:=by
 unfold diffL
 rw [if_neg]
 rintro ⟨h1,h2⟩
 rcases h with h|h
 ·rw [h] at h1;cases h1
 ·rw [h] at h2;cases h2
theorem diffL_full {R C : Int} {cs : List C4} {row col : Int} {hid : Bool} {R2 C2 : Int} {ds : List C4} {row2 col2 : Int} {hid2 : Bool} (h : viewB R2 C2 ds row2 col2 = true) (hs : sameV R C cs row col hid R2 C2 ds row2 col2 hid2 = false) (hn : ¬ (viewB R C cs row col = true ∧ R = R2 ∧ C = C2)) : diffL R C cs row col hid R2 C2 ds row2 col2 hid2 = fullL R2 C2 ds row2 col2 hid2:=by
 unfold diffL
 rw [if_pos ⟨h,hs⟩,if_neg hn]
theorem diffL_main {R C : Int} {cs : List C4} {row col : Int} {hid : Bool} {ds : List C4} {row2 col2 : Int} {hid2 : Bool} (h : viewB R C ds row2 col2 = true) (hs : sameV R C cs row col hid R C ds row2 col2 hid2 = false) (hv : viewB R C cs row col = true) : diffL R C cs row col hid R C ds row2 col2 hid2 = (difRows (fun r => rowF R C cs r) (fun r => rowF R C ds r) R.toNat).1 ++ bts (difRows (fun r => rowF R C cs r) (fun r => rowF R C ds r) R.toNat).2 (0,0,0) ++ goesL row2 col2 ++ (if hid = hid2 then [] else hideL hid2):=by
 unfold diffL
 rw [if_pos ⟨h,hs⟩,if_pos ⟨hv,rfl,rfl⟩]
theorem pdiff_no (R C : Int) (A : Option Addr) (n c : Nat) (cs : List C4) (row col : Int) (hid : Bool) (R2 C2 : Int) (A2 : Option Addr) (n2 c2 : Nat) (ds : List C4) (row2 col2 : Int) (hid2 : Bool) (w0 : World) (hx : Rg w0 A n cs) (hn : n ≤ c) (hc : c ≤ 9223372036854775807) (hn6 : n ≤ 60) (hy : Rg w0 A2 n2 ds) (hm : n2 ≤ c2) (hd : c2 ≤ 9223372036854775807) (hm6 : n2 ≤ 60) (ht : PowT w0.heap.size w0)
  (hz : ¬ (viewB R2 C2 ds row2 col2 = true ∧ sameV R C cs row col hid R2 C2 ds row2 col2 hid2 = false ∧ viewB R C cs row col = true ∧ R = R2 ∧ C = C2)) :
  Calls Tryz.prog 13 #[.agg #[.int .i64 R,.int .i64 C,.slice A n c,.int .i64 row,.int .i64 col,.bool hid],.agg #[.int .i64 R2,.int .i64 C2,.slice A2 n2 c2,.int .i64 row2,.int .i64 col2,.bool hid2]] w0 fun e w' => ∃ v,e = .returned v ∧ Sl (.int .u8) w' v (diffL R C cs row col hid R2 C2 ds row2 col2 hid2) ∧ Bw w0 w':=by
 have HX:=Lib.hid hx
 have HY:=Lib.hid hy
 have HT:=Lib.hid ht
 clear hx hy ht
 have hz2 : viewB R2 C2 ds row2 col2 = false ∨ (viewB R2 C2 ds row2 col2 = true ∧ (sameV R C cs row col hid R2 C2 ds row2 col2 hid2 = true ∨ (sameV R C cs row col hid R2 C2 ds row2 col2 hid2 = false ∧ (viewB R C cs row col = false ∨ (viewB R C cs row col = true ∧ (R ≠ R2 ∨ (R = R2 ∧ C ≠ C2))))))):=by
  cases h1 : viewB R2 C2 ds row2 col2
  ·exact .inl rfl
  refine .inr ⟨rfl,?_⟩
  cases h2 : sameV R C cs row col hid R2 C2 ds row2 col2 hid2
  ·refine .inr ⟨rfl,?_⟩
   cases h3 : viewB R C cs row col
   ·exact .inl rfl
   refine .inr ⟨rfl,?_⟩
   by_cases h4 : R = R2
   ·exact .inr ⟨h4,fun h5 => hz ⟨h1,h2,h3,h4,h5⟩⟩
   ·exact .inl h4
  ·exact .inl rfl
 clear hz
 rcases hz2 with h1|⟨h1,h2|⟨h2,h3|⟨h3,h4|⟨h4,h5⟩⟩⟩⟩
 ·have HE:=Lib.hid (show diffL R C cs row col hid R2 C2 ds row2 col2 hid2 = [] from diffL_no (.inl h1))
  have HVb:=Lib.hid h1
  clear h1
  go_enter Tryz.func13,Tryz.ntmps13
  go_wp2_with (first
   | (go_at_call 15;((with_reducible refine (gview_any R2 C2 A2 n2 c2 ds row2 col2 hid2 _ ?_ hm hd).mono ?_);(focus exact (HY.out.up (show Bw w0 _ from BWX)));rintro ee w1 ⟨rfl,hb1⟩;rw [HVb.out];obtain ⟨L1,d1,rfl⟩:=Bw.isPlus hb1;clear hb1))
   | (go_at_call 17;(refine (gsameV_any R C A n c cs row col hid R2 C2 A2 n2 c2 ds row2 col2 hid2 _ (HX.out.up (show Bw w0 _ from BWX)) hn hc (HY.out.up (show Bw w0 _ from BWX)) hm hd).mono ?_;rintro ee w2 ⟨rfl,hb2⟩;rw [HS.out];obtain ⟨L2,d2,rfl⟩:=Bw.isPlus hb2;clear hb2))
   | (go_at_call 15;((with_reducible refine (gview_any R C A n c cs row col hid _ ?_ hn hc).mono ?_);(focus exact (HX.out.up (show Bw w0 _ from BWX)));rintro ee w3 ⟨rfl,hb3⟩;rw [HVa.out];obtain ⟨L3,d3,rfl⟩:=Bw.isPlus hb3;clear hb3))
   | (go_at_call 11;(refine (pfull_any R2 C2 A2 n2 c2 ds row2 col2 hid2 _ (HY.out.up (show Bw w0 _ from BWX)) hm hd hm6 (PowT.bump HT.out (show Bw w0 _ from BWX))).mono ?_;rintro ee w4 ⟨v,rfl,hv,hb4⟩;have HV9:=Lib.hid hv;have HB9:=Lib.hid (show Bw w0 w4 from Bw.trans (show Bw w0 _ from BWX) hb4);clear hv hb4))
   | fail)
  go_ret
  exact ⟨_,rfl,by rw [HE.out];exact Sl.nil_ _ _ _ (by omega),BWX⟩
 ·have HE:=Lib.hid (show diffL R C cs row col hid R2 C2 ds row2 col2 hid2 = [] from diffL_no (.inr h2))
  have HVb:=Lib.hid h1
  have HS:=Lib.hid h2
  clear h1 h2
  go_enter Tryz.func13,Tryz.ntmps13
  go_wp2_with (first
   | (go_at_call 15;((with_reducible refine (gview_any R2 C2 A2 n2 c2 ds row2 col2 hid2 _ ?_ hm hd).mono ?_);(focus exact (HY.out.up (show Bw w0 _ from BWX)));rintro ee w1 ⟨rfl,hb1⟩;rw [HVb.out];obtain ⟨L1,d1,rfl⟩:=Bw.isPlus hb1;clear hb1))
   | (go_at_call 17;(refine (gsameV_any R C A n c cs row col hid R2 C2 A2 n2 c2 ds row2 col2 hid2 _ (HX.out.up (show Bw w0 _ from BWX)) hn hc (HY.out.up (show Bw w0 _ from BWX)) hm hd).mono ?_;rintro ee w2 ⟨rfl,hb2⟩;rw [HS.out];obtain ⟨L2,d2,rfl⟩:=Bw.isPlus hb2;clear hb2))
   | (go_at_call 15;((with_reducible refine (gview_any R C A n c cs row col hid _ ?_ hn hc).mono ?_);(focus exact (HX.out.up (show Bw w0 _ from BWX)));rintro ee w3 ⟨rfl,hb3⟩;rw [HVa.out];obtain ⟨L3,d3,rfl⟩:=Bw.isPlus hb3;clear hb3))
   | (go_at_call 11;(refine (pfull_any R2 C2 A2 n2 c2 ds row2 col2 hid2 _ (HY.out.up (show Bw w0 _ from BWX)) hm hd hm6 (PowT.bump HT.out (show Bw w0 _ from BWX))).mono ?_;rintro ee w4 ⟨v,rfl,hv,hb4⟩;have HV9:=Lib.hid hv;have HB9:=Lib.hid (show Bw w0 w4 from Bw.trans (show Bw w0 _ from BWX) hb4);clear hv hb4))
   | fail)
  go_ret
  exact ⟨_,rfl,by rw [HE.out];exact Sl.nil_ _ _ _ (by omega),BWX⟩
 ·have HE:=Lib.hid (show diffL R C cs row col hid R2 C2 ds row2 col2 hid2 = _ from diffL_full h1 h2 (fun h => by rw [h3] at h;cases h.1))
  have HVb:=Lib.hid h1
  have HS:=Lib.hid h2
  have HVa:=Lib.hid h3
  clear h1 h2 h3
  go_enter Tryz.func13,Tryz.ntmps13
  go_wp2_with (first
   | (go_at_call 15;((with_reducible refine (gview_any R2 C2 A2 n2 c2 ds row2 col2 hid2 _ ?_ hm hd).mono ?_);(focus exact (HY.out.up (show Bw w0 _ from BWX)));rintro ee w1 ⟨rfl,hb1⟩;rw [HVb.out];obtain ⟨L1,d1,rfl⟩:=Bw.isPlus hb1;clear hb1))
   | (go_at_call 17;(refine (gsameV_any R C A n c cs row col hid R2 C2 A2 n2 c2 ds row2 col2 hid2 _ (HX.out.up (show Bw w0 _ from BWX)) hn hc (HY.out.up (show Bw w0 _ from BWX)) hm hd).mono ?_;rintro ee w2 ⟨rfl,hb2⟩;rw [HS.out];obtain ⟨L2,d2,rfl⟩:=Bw.isPlus hb2;clear hb2))
   | (go_at_call 15;((with_reducible refine (gview_any R C A n c cs row col hid _ ?_ hn hc).mono ?_);(focus exact (HX.out.up (show Bw w0 _ from BWX)));rintro ee w3 ⟨rfl,hb3⟩;rw [HVa.out];obtain ⟨L3,d3,rfl⟩:=Bw.isPlus hb3;clear hb3))
   | (go_at_call 11;(refine (pfull_any R2 C2 A2 n2 c2 ds row2 col2 hid2 _ (HY.out.up (show Bw w0 _ from BWX)) hm hd hm6 (PowT.bump HT.out (show Bw w0 _ from BWX))).mono ?_;rintro ee w4 ⟨v,rfl,hv,hb4⟩;have HV9:=Lib.hid hv;have HB9:=Lib.hid (show Bw w0 w4 from Bw.trans (show Bw w0 _ from BWX) hb4);clear hv hb4))
   | fail)
  go_ret
  exact ⟨_,rfl,by rw [HE.out];exact HV9.out,HB9.out⟩
 ·have HE:=Lib.hid (show diffL R C cs row col hid R2 C2 ds row2 col2 hid2 = _ from diffL_full h1 h2 (fun h => h4 h.2.1))
  have HVb:=Lib.hid h1
  have HS:=Lib.hid h2
  have HVa:=Lib.hid h3
  have q1 : (R == R2) = false:=by simpa using h4
  clear h1 h2 h3 h4
  go_enter Tryz.func13,Tryz.ntmps13
  go_wp2_with (first
   | (go_at_call 15;((with_reducible refine (gview_any R2 C2 A2 n2 c2 ds row2 col2 hid2 _ ?_ hm hd).mono ?_);(focus exact (HY.out.up (show Bw w0 _ from BWX)));rintro ee w1 ⟨rfl,hb1⟩;rw [HVb.out];obtain ⟨L1,d1,rfl⟩:=Bw.isPlus hb1;clear hb1))
   | (go_at_call 17;(refine (gsameV_any R C A n c cs row col hid R2 C2 A2 n2 c2 ds row2 col2 hid2 _ (HX.out.up (show Bw w0 _ from BWX)) hn hc (HY.out.up (show Bw w0 _ from BWX)) hm hd).mono ?_;rintro ee w2 ⟨rfl,hb2⟩;rw [HS.out];obtain ⟨L2,d2,rfl⟩:=Bw.isPlus hb2;clear hb2))
   | (go_at_call 15;((with_reducible refine (gview_any R C A n c cs row col hid _ ?_ hn hc).mono ?_);(focus exact (HX.out.up (show Bw w0 _ from BWX)));rintro ee w3 ⟨rfl,hb3⟩;rw [HVa.out];obtain ⟨L3,d3,rfl⟩:=Bw.isPlus hb3;clear hb3))
   | (go_at_call 11;(refine (pfull_any R2 C2 A2 n2 c2 ds row2 col2 hid2 _ (HY.out.up (show Bw w0 _ from BWX)) hm hd hm6 (PowT.bump HT.out (show Bw w0 _ from BWX))).mono ?_;rintro ee w4 ⟨v,rfl,hv,hb4⟩;have HV9:=Lib.hid hv;have HB9:=Lib.hid (show Bw w0 w4 from Bw.trans (show Bw w0 _ from BWX) hb4);clear hv hb4))
   | fail)
  go_ret
  exact ⟨_,rfl,by rw [HE.out];exact HV9.out,HB9.out⟩
 ·have HE:=Lib.hid (show diffL R C cs row col hid R2 C2 ds row2 col2 hid2 = _ from diffL_full h1 h2 (fun h => h5 h.2.2))
  have HVb:=Lib.hid h1
  have HS:=Lib.hid h2
  have HVa:=Lib.hid h3
  have q1 : (C == C2) = false:=by simpa using h5
  subst h4
  clear h1 h2 h3 h5
  go_enter Tryz.func13,Tryz.ntmps13
  go_wp2_with (first
   | (go_at_call 15;((with_reducible refine (gview_any R C2 A2 n2 c2 ds row2 col2 hid2 _ ?_ hm hd).mono ?_);(focus exact (HY.out.up (show Bw w0 _ from BWX)));rintro ee w1 ⟨rfl,hb1⟩;rw [HVb.out];obtain ⟨L1,d1,rfl⟩:=Bw.isPlus hb1;clear hb1))
   | (go_at_call 17;(refine (gsameV_any R C A n c cs row col hid R C2 A2 n2 c2 ds row2 col2 hid2 _ (HX.out.up (show Bw w0 _ from BWX)) hn hc (HY.out.up (show Bw w0 _ from BWX)) hm hd).mono ?_;rintro ee w2 ⟨rfl,hb2⟩;rw [HS.out];obtain ⟨L2,d2,rfl⟩:=Bw.isPlus hb2;clear hb2))
   | (go_at_call 15;((with_reducible refine (gview_any R C A n c cs row col hid _ ?_ hn hc).mono ?_);(focus exact (HX.out.up (show Bw w0 _ from BWX)));rintro ee w3 ⟨rfl,hb3⟩;rw [HVa.out];obtain ⟨L3,d3,rfl⟩:=Bw.isPlus hb3;clear hb3))
   | (go_at_call 11;(refine (pfull_any R C2 A2 n2 c2 ds row2 col2 hid2 _ (HY.out.up (show Bw w0 _ from BWX)) hm hd hm6 (PowT.bump HT.out (show Bw w0 _ from BWX))).mono ?_;rintro ee w4 ⟨v,rfl,hv,hb4⟩;have HV9:=Lib.hid hv;have HB9:=Lib.hid (show Bw w0 w4 from Bw.trans (show Bw w0 _ from BWX) hb4);clear hv hb4))
   | fail)
  go_ret
  exact ⟨_,rfl,by rw [HE.out];exact HV9.out,HB9.out⟩
end Go.Proofs.YteebdjmjeahccaaGreatDoor
