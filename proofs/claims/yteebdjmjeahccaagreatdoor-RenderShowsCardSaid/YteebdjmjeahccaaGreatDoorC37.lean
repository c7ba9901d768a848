/- Parts of the proof, one after the other. -/
import Derived.Test.YteebdjmjeahccaaGreatDoorC36
import Derived.Test.YteebdjmjeahccaaGreatDoorC05
import Derived.Test.YteebdjmjeahccaaGreatDoorC06
import Derived.Test.YteebdjmjeahccaaGreatDoorC20
import Derived.Test.YteebdjmjeahccaaGreatDoorC07
import Derived.Lib.SliceRun
set_option linter.unusedSimpArgs false
set_option linter.unusedVariables false
set_option maxRecDepth 100000
set_option maxHeartbeats 16000000
namespace Go.Proofs.YteebdjmjeahccaaGreatDoor
open Go.RowKit Go.PlainAid
theorem Wb.far {w w' : World} {g : Nat} {cs : List C4} {r : Option Nat} (h : Wb w g cs) (hg : w.grownBy w' r) (hne : some g ≠ r) : Wb w' g cs:=(hg.block g h.lt hne).trans h
def viewB (R C : Int) (cs : List C4) (row col : Int) : Bool:=gridB R C cs && decide (0 ≤ row ∧ row < R ∧ 0 ≤ col ∧ col < C)
theorem gview_any (R C : Int) (A : Option Addr) (n c : Nat) (cs : List C4) (row col : Int) (hid : Bool) (w : World) (hr : Rg w A n cs) (hn : n ≤ c) (hc : c ≤ 9223372036854775807) :
  Calls Tryz.prog 15 #[.agg #[.int .i64 R,.int .i64 C,.slice A n c,.int .i64 row,.int .i64 col,.bool hid]] w fun e w' => e = .returned (.bool (viewB R C cs row col)) ∧ Bw w w':=by
 have HR:=Lib.hid hr
 clear hr
 have hz : gridB R C cs = false ∨ (gridB R C cs = true ∧ row < 0) ∨ (gridB R C cs = true ∧ 0 ≤ row ∧ R ≤ row) ∨ (gridB R C cs = true ∧ (0 ≤ row ∧ row < R) ∧ col < 0) ∨ (gridB R C cs = true ∧ (0 ≤ row ∧ row < R) ∧ 0 ≤ col ∧ C ≤ col) ∨ (gridB R C cs = true ∧ (0 ≤ row ∧ row < R) ∧ 0 ≤ col ∧ col < C):=by
  cases gridB R C cs
  ·exact .inl rfl
  ·simp only [true_and,Bool.true_eq_false,false_or]
   omega
 rcases hz with h|⟨h,h1⟩|⟨h,h1,h2⟩|⟨h,⟨h1,h2⟩,h3⟩|⟨h,⟨h1,h2⟩,h3,h4⟩|⟨h,⟨h1,h2⟩,h3,h4⟩
 all_goals
  have HV:=Lib.hid h
  first
   | (have HE:=Lib.hid (show viewB R C cs row col = false by unfold viewB;rw [h,Bool.false_and]);clear h)
   | (have HE:=Lib.hid (show viewB R C cs row col = false by unfold viewB;rw [h,Bool.true_and];exact decide_eq_false (by omega));clear h)
   | (have HE:=Lib.hid (show viewB R C cs row col = true by unfold viewB;rw [h,Bool.true_and];exact decide_eq_true (by omega));clear h)
  go_enter Tryz.func15,Tryz.ntmps15
  go_wp2_with (first
   | (go_at_call 41;refine (ggvalid_any R C A n c cs _ (by exact HR.out.up (show Bw w _ from BWX)) hn hc).mono ?_;rintro ee wv ⟨rfl,hbv⟩;rw [HV.out];have x0:=cell_bw hbv (cell_alloc_here (w:=w) (cs:=#[.int .i64 R,.int .i64 C,.slice A n c,.int .i64 row,.int .i64 col,.bool hid]) (T:=27) (fr:=(0,0)) (i:=0) rfl rfl);have x1:=cell_bw hbv (cell_alloc_here (w:=w) (cs:=#[.int .i64 R,.int .i64 C,.slice A n c,.int .i64 row,.int .i64 col,.bool hid]) (T:=27) (fr:=(0,0)) (i:=1) rfl rfl);have x3:=cell_bw hbv (cell_alloc_here (w:=w) (cs:=#[.int .i64 R,.int .i64 C,.slice A n c,.int .i64 row,.int .i64 col,.bool hid]) (T:=27) (fr:=(0,0)) (i:=3) rfl rfl);have x4:=cell_bw hbv (cell_alloc_here (w:=w) (cs:=#[.int .i64 R,.int .i64 C,.slice A n c,.int .i64 row,.int .i64 col,.bool hid]) (T:=27) (fr:=(0,0)) (i:=4) rfl rfl))
   | fail)
  go_ret
  exact ⟨by rw [HE.out];first|rfl|(show Ending.returned (.bool (decide (col < C))) = _;rw [decide_eq_false (by omega)])|(show Ending.returned (.bool (decide (col < C))) = _;rw [decide_eq_true (by omega)]),Bw.trans (show Bw w (w.alloc _) from BWX) hbv⟩
theorem gclone_any (A : Option Addr) (n c : Nat) (cs : List C4) (w : World) (hr : Rg w A n cs) (hn : n ≤ c) (hn3 : n ≤ 4398046511103) (hc : c ≤ 9223372036854775807) :
  Calls Tryz.prog 55 #[.slice A n c] w fun e w' => ∃ v,e = .returned v ∧ w'.ownsRow w.heap.size 70 4 v n (flat cs) ∧ Bw w w':=by
 obtain ⟨j0,hj,hj0,hj1,hj2⟩:=info_parts infoC
 have q22 : ∀ (w : World) (a : Option Addr) (n c n' c' : Nat),(binOp .eql 23 (.slice a n c) (.slice none n' c')).run Tryz.prog w = .ok (.bool a.isNone) w:=fun w a n c n' c' => Lib.run_eql_slice_nil w _ _ a n c n' c' Tryz.underlying23
 have HR:=Lib.hid hr
 clear hr
 cases A with
 | none =>
  have hn0:=HR.out.none_ rfl
  have hcs : cs = []:=List.eq_nil_of_length_eq_zero (by rw [HR.out.1];exact hn0)
  subst hcs
  subst hn0
  go_enter Tryz.func55,Tryz.ntmps55
  go_wp2_with fail
  go_ret
  exact ⟨_,rfl,World.ownsRow_nil _ _ _ _,BWX⟩
 | some ad =>
  go_enter Tryz.func55,Tryz.ntmps55
  go_wp2_with (at_builtin;refine wpList_append_srcG (by rfl) (.tmp 5) (.tmp 6) 23 rfl w.heap.size 70 j0 (.agg #[.int .i64 0,.int .i64 0,.int .i64 0,.int .i64 0]) 4 32 Tryz.underlying23 hj hj0 hj1 hj2 rfl (by decide) (.slice (some ⟨w.heap.size,0,none⟩) 0 0) 0 [] (by rfl) (own_made rfl (Nat.le_refl _)) (some ad) n c (flat cs) (by rfl) (by rw [flat_len,HR.out.1]) (fun e => by cases e) (fun ad' e => by cases e;exact (HR.out.up BWX).news) (flat_one _) (by unfold maxLen;omega) (by omega) SZX ?_;intro v1 w1 hown1 hg1;simp only [Nat.zero_add,List.nil_append] at hown1;have hbw1 : Bw w w1:=Bw.row (show Bw w (w.alloc (.cells #[] 70)) from BWX) (own_made (size:=4) rfl (Nat.le_refl _)) hg1 (by omega);have HO1:=Lib.hid hown1;have HB1:=Lib.hid hbw1;clear hown1 hg1 hbw1)
  go_ret
  exact ⟨_,rfl,HO1.out,HB1.out⟩
end Go.Proofs.YteebdjmjeahccaaGreatDoor
