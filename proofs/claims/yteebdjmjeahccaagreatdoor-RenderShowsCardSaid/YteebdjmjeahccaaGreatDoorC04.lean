/- Parts of the proof, one after the other. -/
import Derived.Test.YteebdjmjeahccaaGreatDoorC03
import Derived.Deep.DeepCutAuto
set_option linter.unusedSimpArgs false
set_option linter.unusedVariables false
namespace Go.Proofs.YteebdjmjeahccaaGreatDoor
open Go.RowKit
/-- What an extended color takes and says. -/
def ext (t : List Int) : Nat × Int :=
 match t with
 | [] => (0,0)
 | x :: r => match r with
  | [] => if x = 2 then (1,0) else (0,0)
  | y :: r' => if x = 5 then (2,if 0 ≤ y ∧ y ≤ 15 then y + 1 else 0) else if x = 2 then (min (r'.length + 2) 4,0) else (0,0)
def setc (p c : Int) (a : Int × Int × Int) : Int × Int × Int:=if c = 0 then a else if p = 38 then (a.1,c,a.2.2) else (a.1,a.2.1,c)
/-- Parameters applied, at most k of them. -/
def appl : Nat → List Int → Int × Int × Int → Int × Int × Int
 | 0,_,a => a
 | _ + 1,[],a => a
 | k + 1,p :: t,a => if p = 38 ∨ p = 48 then appl k (t.drop (ext t).1) (setc p (ext t).2 a) else appl k t (single a.1 a.2.1 a.2.2 p)
theorem appl_fuel : ∀ (k k' : Nat) (t : List Int) (a : Int × Int × Int),t.length ≤ k → t.length ≤ k' → appl k t a = appl k' t a
 | 0,0,_,_,_,_ => rfl
 | 0,k' + 1,[],_,_,_ => rfl
 | k + 1,0,[],_,_,_ => rfl
 | k + 1,k' + 1,[],_,_,_ => rfl
 | 0,_,p :: t,_,h,_ => by simp at h
 | _ + 1,0,p :: t,_,_,h => by simp at h
 | k + 1,k' + 1,p :: t,a,h,h' => by
  simp only [List.length_cons] at h h'
  unfold appl
  rw [appl_fuel k k' t _ (by omega) (by omega),appl_fuel k k' (t.drop (ext t).1) _ (by simp;omega) (by simp;omega)]
def applA (t : List Int) (a : Int × Int × Int) : Int × Int × Int:=appl t.length t a
theorem applA_nil (a : Int × Int × Int) : applA [] a = a:=rfl
theorem applA_one (p : Int) (t : List Int) (a : Int × Int × Int) (h1 : p ≠ 38) (h2 : p ≠ 48) : applA (p :: t) a = applA t (single a.1 a.2.1 a.2.2 p):=by
 unfold applA
 rw [List.length_cons]
 conv => lhs;unfold appl
 rw [if_neg (by omega)]
theorem applA_ext (p : Int) (t : List Int) (a : Int × Int × Int) (h : p = 38 ∨ p = 48) : applA (p :: t) a = applA (t.drop (ext t).1) (setc p (ext t).2 a):=by
 unfold applA
 rw [List.length_cons]
 conv => lhs;unfold appl
 rw [if_pos h]
 exact appl_fuel _ _ _ _ (by simp) (Nat.le_refl _)
/-- The attribute in block g. -/
def AtC (w : World) (g : Nat) (a : Int × Int × Int) : Prop :=
 (w.cell? ⟨g,0,none⟩ = some (.int .i64 a.1) ∧ w.cell? ⟨g,1,none⟩ = some (.int .i64 a.2.1) ∧ w.cell? ⟨g,2,none⟩ = some (.int .i64 a.2.2)) ∧ (w.frozen? ⟨g,0,none⟩ = false ∧ w.frozen? ⟨g,1,none⟩ = false ∧ w.frozen? ⟨g,2,none⟩ = false)
theorem AtC.bw {w w' : World} {g : Nat} {a : Int × Int × Int} (h : AtC w g a) (hb : Bw w w') : AtC w' g a:=by
 obtain ⟨⟨h1,h2,h3⟩,h4,h5,h6⟩:=h
 have hl:=lt_of_cell h1
 dsimp only at hl
 exact ⟨⟨cell_bw hb h1,cell_bw hb h2,cell_bw hb h3⟩,(Below.frozen hb (p:=⟨g,0,none⟩) hl).trans h4,(Below.frozen hb (p:=⟨g,1,none⟩) hl).trans h5,(Below.frozen hb (p:=⟨g,2,none⟩) hl).trans h6⟩
theorem frz_set (w : World) (p q : Addr) (v : Value) : (w.setCell p v).frozen? q = w.frozen? q:=by simp
theorem cell_ne {w : World} {g i j : Nat} {u v : Value} (h : w.cell? ⟨g,j,none⟩ = some u) (hne : i ≠ j) : (w.setCell ⟨g,i,none⟩ v).cell? ⟨g,j,none⟩ = some u:=by
 rw [World.cell?_setCell_other]
 ·exact h
 ·intro e;cases e;exact hne rfl
theorem AtC.set0 {w : World} {g : Nat} {a : Int × Int × Int} (h : AtC w g a) (x : Int) : AtC (w.setCell ⟨g,0,none⟩ (.int .i64 x)) g (x,a.2.1,a.2.2):=by
 obtain ⟨⟨h1,h2,h3⟩,h4,h5,h6⟩:=h
 exact ⟨⟨World.cell?_setCell_same _ _ _ h1,cell_ne h2 (by omega),cell_ne h3 (by omega)⟩,by rw [frz_set];exact h4,by rw [frz_set];exact h5,by rw [frz_set];exact h6⟩
theorem AtC.set1 {w : World} {g : Nat} {a : Int × Int × Int} (h : AtC w g a) (x : Int) : AtC (w.setCell ⟨g,1,none⟩ (.int .i64 x)) g (a.1,x,a.2.2):=by
 obtain ⟨⟨h1,h2,h3⟩,h4,h5,h6⟩:=h
 exact ⟨⟨cell_ne h1 (by omega),World.cell?_setCell_same _ _ _ h2,cell_ne h3 (by omega)⟩,by rw [frz_set];exact h4,by rw [frz_set];exact h5,by rw [frz_set];exact h6⟩
theorem AtC.set2 {w : World} {g : Nat} {a : Int × Int × Int} (h : AtC w g a) (x : Int) : AtC (w.setCell ⟨g,2,none⟩ (.int .i64 x)) g (a.1,a.2.1,x):=by
 obtain ⟨⟨h1,h2,h3⟩,h4,h5,h6⟩:=h
 exact ⟨⟨cell_ne h1 (by omega),cell_ne h2 (by omega),World.cell?_setCell_same _ _ _ h3⟩,by rw [frz_set];exact h4,by rw [frz_set];exact h5,by rw [frz_set];exact h6⟩
theorem AtC.away {w : World} {g h j : Nat} {a : Int × Int × Int} (hA : AtC w g a) (hne : g ≠ h) (v : Value) : AtC (w.setCell ⟨h,j,none⟩ v) g a:=by
 obtain ⟨⟨h1,h2,h3⟩,h4,h5,h6⟩:=hA
 exact ⟨⟨cell_set_some hne h1,cell_set_some hne h2,cell_set_some hne h3⟩,by rw [frz_set];exact h4,by rw [frz_set];exact h5,by rw [frz_set];exact h6⟩
theorem rin_yes (n lo hi : Int) (w : World) (h : lo ≤ n ∧ n ≤ hi) : Calls Tryz.prog 93 #[.int .i64 n,.int .i64 lo,.int .i64 hi] w fun e w' => e = .returned (.bool true) ∧ w = w':=by
 obtain ⟨h1,h2⟩:=h
 go_enter Tryz.func93,Tryz.ntmps93
 go_wp2
 go_ret
 exact ⟨by first|rfl|(refine ret_bool ?_;simp;done)|(refine ret_bool ?_;simp;omega),rfl⟩
theorem rin_no (n lo hi : Int) (w : World) (h : n < lo ∨ hi < n) : Calls Tryz.prog 93 #[.int .i64 n,.int .i64 lo,.int .i64 hi] w fun e w' => e = .returned (.bool false) ∧ w = w':=by
 by_cases h1 : n < lo
 ·clear h
  go_enter Tryz.func93,Tryz.ntmps93
  go_wp2
  go_ret
  exact ⟨by first|rfl|(refine ret_bool ?_;simp;done)|(refine ret_bool ?_;simp;omega),rfl⟩
 ·have h2 : hi < n:=by omega
  have h3 : lo ≤ n:=by omega
  clear h h1
  go_enter Tryz.func93,Tryz.ntmps93
  go_wp2
  go_ret
  exact ⟨by first|rfl|(refine ret_bool ?_;simp;done)|(refine ret_bool ?_;simp;omega),rfl⟩
theorem rvalid_any (f g b : Int) (w : World) : Calls Tryz.prog 61 #[atV f g b] w fun e w' => e = .returned (.bool (avB f g b)) ∧ Bw w w':=by
 by_cases hf : 0 ≤ f ∧ f ≤ 7
 ·by_cases hg : 0 ≤ g ∧ g ≤ 16
  ·by_cases hb : 0 ≤ b ∧ b ≤ 16
   ·have HE:=Lib.hid (show avB f g b = true from decide_eq_true (by omega))
    have HF:=Lib.hid hf
    have HG:=Lib.hid hg
    have HB:=Lib.hid hb
    clear hf hg hb
    unfold atV
    go_enter Tryz.func61,Tryz.ntmps61
    go_wp2_with (first|(go_at_call 93;refine (rin_yes _ _ _ _ (by first|exact HF.out|exact HG.out|exact HB.out)).mono ?_;rintro ee ww ⟨rfl,rfl⟩)|fail)
    go_ret
    exact ⟨by rw [HE.out];first|rfl|(refine ret_bool ?_;simp;done),BWX⟩
   ·have HE:=Lib.hid (show avB f g b = false from decide_eq_false (by omega))
    have HF:=Lib.hid hf
    have HG:=Lib.hid hg
    have HB:=Lib.hid (show b < 0 ∨ 16 < b by omega)
    clear hf hg hb
    unfold atV
    go_enter Tryz.func61,Tryz.ntmps61
    go_wp2_with (first|(go_at_call 93;refine (rin_yes _ _ _ _ (by first|exact HF.out|exact HG.out)).mono ?_;rintro ee ww ⟨rfl,rfl⟩)|(go_at_call 93;refine (rin_no _ _ _ _ (by exact HB.out)).mono ?_;rintro ee ww ⟨rfl,rfl⟩)|fail)
    go_ret
    exact ⟨by rw [HE.out];first|rfl|(refine ret_bool ?_;simp;done),BWX⟩
  ·have HE:=Lib.hid (show avB f g b = false from decide_eq_false (by omega))
   have HF:=Lib.hid hf
   have HG:=Lib.hid (show g < 0 ∨ 16 < g by omega)
   clear hf hg
   unfold atV
   go_enter Tryz.func61,Tryz.ntmps61
   go_wp2_with (first|(go_at_call 93;refine (rin_yes _ _ _ _ (by exact HF.out)).mono ?_;rintro ee ww ⟨rfl,rfl⟩)|(go_at_call 93;refine (rin_no _ _ _ _ (by exact HG.out)).mono ?_;rintro ee ww ⟨rfl,rfl⟩)|fail)
   go_ret
   exact ⟨by rw [HE.out];first|rfl|(refine ret_bool ?_;simp;done),BWX⟩
 ·have HE:=Lib.hid (show avB f g b = false from decide_eq_false (by omega))
  have HF:=Lib.hid (show f < 0 ∨ 7 < f by omega)
  clear hf
  unfold atV
  go_enter Tryz.func61,Tryz.ntmps61
  go_wp2_with (first|(go_at_call 93;refine (rin_no _ _ _ _ (by exact HF.out)).mono ?_;rintro ee ww ⟨rfl,rfl⟩)|fail)
  go_ret
  exact ⟨by rw [HE.out];first|rfl|(refine ret_bool ?_;simp;done),BWX⟩
/-- The color that a parameter means, -1 for none. -/
def colR (p base : Int) : Int:=if base ≤ p ∧ p ≤ base + 7 then p - base + 1 else if base + 60 ≤ p ∧ p ≤ base + 67 then p - base - 60 + 9 else if p = base + 9 then 0 else -1
theorem color_any (p base : Int) (w : World) (hb0 : 0 ≤ base) (hb1 : base ≤ 1000) : Calls Tryz.prog 124 #[.int .i64 p,.int .i64 base] w fun e w' => e = .returned (.int .i64 (colR p base)) ∧ w = w':=by
 by_cases h1 : base ≤ p ∧ p ≤ base + 7
 ·have HE:=Lib.hid (show colR p base = p - base + 1 from if_pos h1)
  obtain ⟨h2,h3⟩:=h1
  go_enter Tryz.func124,Tryz.ntmps124
  go_wp2_with (first|(go_at_call 93;refine (rin_yes _ _ _ _ (by constructor <;> omega)).mono ?_;rintro ee ww ⟨rfl,rfl⟩)|fail)
  go_ret
  exact ⟨by rw [HE.out];rfl,rfl⟩
 ·by_cases h2 : base + 60 ≤ p ∧ p ≤ base + 67
  ·have HE:=Lib.hid (show colR p base = p - base - 60 + 9 by unfold colR;rw [if_neg h1,if_pos h2])
   obtain ⟨h3,h4⟩:=h2
   have H1:=Lib.hid (show p < base ∨ base + 7 < p by omega)
   clear h1
   go_enter Tryz.func124,Tryz.ntmps124
   go_wp2_with (first|(go_at_call 93;refine (rin_no _ _ _ _ (by exact H1.out)).mono ?_;rintro ee ww ⟨rfl,rfl⟩)|(go_at_call 93;refine (rin_yes _ _ _ _ (by constructor <;> omega)).mono ?_;rintro ee ww ⟨rfl,rfl⟩)|fail)
   go_ret
   exact ⟨by rw [HE.out];rfl,rfl⟩
  ·have H1:=Lib.hid (show p < base ∨ base + 7 < p by omega)
   have H2:=Lib.hid (show p < base + 60 ∨ base + 67 < p by omega)
   by_cases h3 : p = base + 9
   ·have HE:=Lib.hid (show colR p base = 0 by unfold colR;rw [if_neg h1,if_neg h2,if_pos h3])
    subst h3
    clear h1 h2
    go_enter Tryz.func124,Tryz.ntmps124
    go_wp2_with (first|(go_at_call 93;refine (rin_no _ _ _ _ (by first|exact H1.out|exact H2.out)).mono ?_;rintro ee ww ⟨rfl,rfl⟩)|fail)
    go_ret
    exact ⟨by rw [HE.out];rfl,rfl⟩
   ·have HE:=Lib.hid (show colR p base = -1 by unfold colR;rw [if_neg h1,if_neg h2,if_neg h3])
    clear h1 h2
    go_enter Tryz.func124,Tryz.ntmps124
    go_wp2_with (first|(go_at_call 93;refine (rin_no _ _ _ _ (by first|exact H1.out|exact H2.out)).mono ?_;rintro ee ww ⟨rfl,rfl⟩)|fail)
    go_ret
    exact ⟨by rw [HE.out];rfl,rfl⟩
theorem flag_on (f g b x : Int) (w : World) : Calls Tryz.prog 123 #[atV f g b,.int .i64 x,.bool true] w (AtP w (bits .or .i64 (bits .andNot .i64 f x) x,g,b)):=by
 unfold atV
 go_enter Tryz.func123,Tryz.ntmps123
 go_wp2
 refine bodyPost_ret (by simp [results,Tryz.results123,go_sem];rfl) rfl ?_
 exact ⟨rfl,BWX⟩
theorem flag_off (f g b x : Int) (w : World) : Calls Tryz.prog 123 #[atV f g b,.int .i64 x,.bool false] w (AtP w (bits .andNot .i64 f x,g,b)):=by
 unfold atV
 go_enter Tryz.func123,Tryz.ntmps123
 go_wp2
 refine bodyPost_ret (by simp [results,Tryz.results123,go_sem];rfl) rfl ?_
 exact ⟨rfl,BWX⟩
end Go.Proofs.YteebdjmjeahccaaGreatDoor
