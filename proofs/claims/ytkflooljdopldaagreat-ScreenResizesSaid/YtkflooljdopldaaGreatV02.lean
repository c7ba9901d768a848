/- Parts of the proof, one after the other. -/
import Derived.Test.YtkflooljdopldaaGreatV01
import Derived.Deep.DeepCutAuto
set_option linter.unusedSimpArgs false
set_option linter.unusedVariables false
/- Cells and lists of cells; walks of the tests of cells. -/
namespace Go.Proofs.YtkflooljdopldaaGreat
open Go.RowKit

/-- A cell: its rune and its three attributes. -/
abbrev C4:=Int × Int × Int × Int
def c4V (c : C4) : Value:=.agg #[.int .i64 c.1,.int .i64 c.2.1,.int .i64 c.2.2.1,.int .i64 c.2.2.2]
def c4L (c : C4) : List Value:=[.int .i64 c.1,.int .i64 c.2.1,.int .i64 c.2.2.1,.int .i64 c.2.2.2]
def flat (cs : List C4) : List Value:=cs.flatMap c4L
def runeB (n : Int) : Bool:=decide ((32 ≤ n ∧ n ≤ 126) ∨ (160 ≤ n ∧ n ≤ 55295) ∨ (57344 ≤ n ∧ n ≤ 1114111))
def cellB (c : C4) : Bool:=runeB c.1 && avB c.2.1 c.2.2.1 c.2.2.2
theorem flat_cons (c : C4) (cs : List C4) : flat (c :: cs) = c4L c ++ flat cs:=by unfold flat;rw [List.flatMap_cons]
theorem flat_app (xs ys : List C4) : flat (xs ++ ys) = flat xs ++ flat ys:=by unfold flat;rw [List.flatMap_append]
theorem flat_len : ∀ cs : List C4,(flat cs).length = cs.length * 4
 | [] => rfl
 | c :: cs => by rw [flat_cons,List.length_append,flat_len cs,List.length_cons];show 4 + _ = _;omega
theorem flat_get : ∀ (cs : List C4) (i j : Nat) (h : i < cs.length),j < 4 → (flat cs)[i * 4 + j]? = (c4L cs[i])[j]?
 | [],i,j,h,_ => by simp at h
 | c :: cs,0,j,h,hj => by
  rw [flat_cons,List.getElem?_append_left (by show _ < 4;omega)]
  simp
 | c :: cs,i + 1,j,h,hj => by
  rw [flat_cons,List.getElem?_append_right (by show 4 ≤ _;omega)]
  have : (i + 1) * 4 + j - (c4L c).length = i * 4 + j:=by show (i + 1) * 4 + j - 4 = _;omega
  rw [this,flat_get cs i j (by simp at h;omega) hj]
  simp
theorem flat_one (cs : List C4) : ∀ u ∈ flat cs,u.oneCell' = true:=by
 intro u hu
 obtain ⟨c,-,hc⟩:=List.mem_flatMap.1 hu
 unfold c4L at hc
 simp at hc
 rcases hc with rfl|rfl|rfl|rfl <;> rfl

/-- The four cells of a cell at a place. -/
def Ce (w : World) (g o : Nat) (c : C4) : Prop :=
 w.cell? ⟨g,o,none⟩ = some (.int .i64 c.1) ∧ w.cell? ⟨g,o + 1,none⟩ = some (.int .i64 c.2.1) ∧ w.cell? ⟨g,o + 2,none⟩ = some (.int .i64 c.2.2.1) ∧ w.cell? ⟨g,o + 3,none⟩ = some (.int .i64 c.2.2.2)
theorem Ce.up {w w' : World} {g o : Nat} {c : C4} (h : Ce w g o c) (hb : Bw w w') : Ce w' g o c:=⟨cell_bw hb h.1,cell_bw hb h.2.1,cell_bw hb h.2.2.1,cell_bw hb h.2.2.2⟩
/-- What a list of cells reads as. -/
def Rg (w : World) (A : Option Addr) (n : Nat) (cs : List C4) : Prop :=
 cs.length = n ∧ (0 < n → ∃ g o,A = some ⟨g,o,none⟩ ∧ ∀ i (h : i < cs.length),Ce w g (o + i * 4) cs[i])
theorem Rg.up {w w' : World} {A : Option Addr} {n : Nat} {cs : List C4} (h : Rg w A n cs) (hb : Bw w w') : Rg w' A n cs:=by
 refine ⟨h.1,fun h0 => ?_⟩
 obtain ⟨g,o,e,hx⟩:=h.2 h0
 exact ⟨g,o,e,fun i hi => (hx i hi).up hb⟩
theorem Rg.nil_ (w : World) (A : Option Addr) : Rg w A 0 []:=⟨rfl,fun h => absurd h (by simp)⟩

theorem rrune_any (n : Int) (w : World) : Calls Tryz.prog 85 #[.int .i64 n] w fun e w' => e = .returned (.bool (runeB n)) ∧ w = w':=by
 have hc : n < 32 ∨ (32 ≤ n ∧ n ≤ 126) ∨ (126 < n ∧ n < 160) ∨ (160 ≤ n ∧ n ≤ 55295) ∨ (55295 < n ∧ n < 57344) ∨ (57344 ≤ n ∧ n ≤ 1114111) ∨ 1114111 < n:=by omega
 have hv : (n < 32 → runeB n = false) ∧ (32 ≤ n ∧ n ≤ 126 → runeB n = true) ∧ (126 < n ∧ n < 160 → runeB n = false) ∧ (160 ≤ n ∧ n ≤ 55295 → runeB n = true) ∧ (55295 < n ∧ n < 57344 → runeB n = false) ∧ (57344 ≤ n ∧ n ≤ 1114111 → runeB n = true) ∧ (1114111 < n → runeB n = false):=by
  unfold runeB
  refine ⟨?_,?_,?_,?_,?_,?_,?_⟩ <;> intro h <;> simp <;> omega
 obtain ⟨v1,v2,v3,v4,v5,v6,v7⟩:=hv
 rcases hc with h|h|h|h|h|h|h
 all_goals
  have HE:=Lib.hid (show runeB n = _ by first|exact v1 h|exact v2 h|exact v3 h|exact v4 h|exact v5 h|exact v6 h|exact v7 h)
  clear v1 v2 v3 v4 v5 v6 v7
  (try obtain ⟨h1,h2⟩:=h)
  go_enter Tryz.func85,Tryz.ntmps85
  go_wp2
  go_ret
  exact ⟨by rw [HE.out];first|rfl|(refine ret_bool ?_;simp;omega)|(refine ret_bool ?_;simp;done),rfl⟩




/-- What an extended color takes and says. -/
def ext (t : List Int) : Nat × Int :=
 match t with
 | [] => (0,0)
 | x :: r => match r with
  | [] => if x = 2 then (1,0) else (0,0)
  | y :: r' => if x = 5 then (2,if 0 ≤ y ∧ y ≤ 15 then y + 1 else 0) else if x = 2 then (min (r'.length + 2) 4,0) else (0,0)

end Go.Proofs.YtkflooljdopldaaGreat
