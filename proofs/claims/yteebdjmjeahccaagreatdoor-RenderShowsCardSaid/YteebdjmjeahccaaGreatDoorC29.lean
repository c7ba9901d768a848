/- Parts of the proof, one after the other. -/
import Derived.Test.YteebdjmjeahccaaGreatDoorC23
import Derived.Test.YteebdjmjeahccaaGreatDoorC28
import Derived.Deep.MidRow
import Derived.Test.YteebdjmjeahccaaGreatDoorC20
set_option linter.unusedSimpArgs false
set_option linter.unusedVariables false
set_option maxRecDepth 100000
set_option maxHeartbeats 16000000
namespace Go.Proofs.YteebdjmjeahccaaGreatDoor
open Go.RowKit
/-- A terminal's parts. -/
structure Trm where
 s : Scr
 RA : Option Addr
 Rn : Nat
 Rc : Nat
 rs : List Int
 md : Int
 pv : Int
 A : Option Addr
 n : Nat
 c : Nat
 xs : List Int
 keep : Int
 HA : Option Addr
 Hn : Nat
 Hc : Nat
 lost : Int
def Trm.vals (t : Trm) : List Value:=t.s.vals ++ [.slice t.RA t.Rn t.Rc,.int .i64 t.md,.int .i64 t.pv,.slice t.A t.n t.c,.int .i64 t.keep,.slice t.HA t.Hn t.Hc,.int .i64 t.lost]
/-- A valid terminal, that has lost at most B lines. -/
def Trm.Ok (w : World) (t : Trm) (B : Int) : Prop :=
 t.s.Ok w ∧ (Rd (.int .u8) w t.RA t.Rn t.rs ∧ t.Rn ≤ t.Rc ∧ t.Rc ≤ 9223372036854775807 ∧ validB t.rs = true ∧ t.Rn ≤ 4 ∧ ∀ x ∈ t.rs,0 ≤ x ∧ x ≤ 255) ∧ ScnOk w t.md t.pv t.A t.n t.c t.xs ∧ TyA w t.A ∧ (0 ≤ t.keep ∧ t.keep ≤ 200) ∧ Ls w t.HA t.Hn ∧ t.Hn ≤ t.Hc ∧ t.Hc ≤ 9223372036854775807 ∧ (t.Hn : Int) ≤ t.keep ∧ 0 ≤ t.lost ∧ t.lost ≤ B
theorem Trm.Ok.up {w w' : World} {t : Trm} {B : Int} (h : t.Ok w B) (hb : Bw w w') : t.Ok w' B:=by
 obtain ⟨h1,⟨h2,h3⟩,h4,h5,h6,h7,h8⟩:=h
 exact ⟨h1.up hb,⟨h2.up hb,h3⟩,h4.up hb,h5.up hb,h6,h7.up hb,h8⟩
theorem Trm.Ok.far {w w' : World} {t : Trm} {B : Int} {row : Option Nat} (h : t.Ok w B) (hg : w.grownBy w' row) (h1 : ∀ ad,t.s.A = some ad → some ad.block ≠ row) (h2 : 0 < t.Rn → ∀ ad,t.RA = some ad → some ad.block ≠ row) (h3 : ∀ ad,t.A = some ad → some ad.block ≠ row) (h4 : 0 < t.Hn → ∀ ad,t.HA = some ad → some ad.block ≠ row) : t.Ok w' B:=by
 obtain ⟨k1,⟨k2,k3⟩,k4,k5,k6,k7,k8⟩:=h
 refine ⟨k1.far hg h1,⟨k2.far0 hg h2,k3⟩,k4.far0 hg (fun _ => h3),k5.far hg h3,k6,?_,k8⟩
 by_cases h0 : 0 < t.Hn
 ·exact k7.far hg (h4 h0)
 ·have e : t.Hn = 0:=by omega
  rw [e]
  exact Ls.nil_ _ _
theorem Rd.lt {α : Type} {f : α → Value} {w : World} {A : Option Addr} {n : Nat} {xs : List α} (h : Rd f w A n xs) (h0 : 0 < n) : ∀ ad,A = some ad → ad.block < w.heap.size:=fun ad e => by
 obtain ⟨g,o,e2,hx⟩:=h.2 h0
 have h1:=lt_of_cell (hx 0 (by rw [h.1];exact h0))
 rw [e] at e2
 cases e2
 exact h1
theorem Ls.lt {w : World} {A : Option Addr} {n : Nat} (h : Ls w A n) (h0 : 0 < n) : ∀ ad,A = some ad → ad.block < w.heap.size:=by
 obtain ⟨vs,h1,_⟩:=h
 exact h1.lt h0
theorem infoTrm : (Tryz.prog.info? 53).map (·.size) = some 26:=by kernel_rfl
theorem infoTz (t : Trm) : (Tryz.prog.info? 53).map (·.size) = some t.vals.toArray.size:=infoTrm
theorem Trm.one (t : Trm) : t.vals.toArray.all (·.oneCell') = true:=all_oneCell_toArray (fun v hv => by
 rcases List.mem_append.mp hv with h|h
 ·exact (Array.all_eq_true_iff_forall_mem.1 t.s.one) v (by simpa using h)
 ·simp only [List.mem_cons,List.not_mem_nil,or_false] at h
  rcases h with rfl|rfl|rfl|rfl|rfl|rfl|rfl <;> rfl)
theorem Trm.range {w : World} {g : Nat} (t : Trm) (h : Sb w g t.vals.toArray 53) : w.rangeAt g 0 t.s.vals:=fun j v hv => by
 have hj : j < t.s.vals.length:=(List.getElem?_eq_some_iff.1 hv).1
 rw [Nat.zero_add]
 refine h.cell j ?_
 show (t.s.vals ++ _).toArray[j]? = some v
 rw [List.getElem?_toArray,List.getElem?_append_left hj]
 exact hv
/-- The load of a terminal's screen. -/
theorem wpList_load_ts {ops : Array Oper} {rest : List Oper} {o : Oper} {a : Act} {w : World} {Q : Exit → Act → World → Prop} (t : Trm) (g : Nat) (x : Operand) (ho : o.op = .load 46 x) (hgd : o.guard = none)
  (hx : a.eval x = .pointer (some ⟨g,0,none⟩)) (hg : Sb w g t.vals.toArray 53)
  (h : wpList Tryz.prog ops Q rest (a.put o.dst (.agg t.s.vals.toArray)) w) : wpList Tryz.prog ops Q (o :: rest) a w :=
 wpList_load_mid hgd 46 x ho g 0 hx t.s.vals _ (t.range hg) Tryz.underlying46 rfl infoSc h
theorem wp_load_ts {o : Oper} {a : Act} {w : World} {K : Act → World → Prop} {Q : Exit → Act → World → Prop} (t : Trm) (g : Nat) (x : Operand) (ho : o.op = .load 46 x)
  (hx : a.eval x = .pointer (some ⟨g,0,none⟩)) (hg : Sb w g t.vals.toArray 53)
  (h : K (a.put o.dst (.agg t.s.vals.toArray)) w) : Oper.wp Tryz.prog o a w K Q :=
 wp_load_mid 46 x ho g 0 hx t.s.vals _ (t.range hg) Tryz.underlying46 rfl infoSc h
/-- A row with some cells replaced. -/
def putR (cs : Array Value) : Nat → List Value → Array Value
 | _,[] => cs
 | o,v :: vs => putR (cs.setIfInBounds o v) (o + 1) vs
theorem Sb.setCells {g : Nat} {T : TypeId} : ∀ (vs : List Value) (o : Nat) (w : World) (cs : Array Value),Sb w g cs T → Sb (w.setCells g o vs) g (putR cs o vs) T ∧ w.grownBy (w.setCells g o vs) (some g)
 | [],o,w,cs,h => ⟨h,grown_refl _ _⟩
 | v :: vs,o,w,cs,h => by
  have h1 : Sb (w.setCell ⟨g,o,none⟩ v) g (cs.setIfInBounds o v) T:=h.set o v rfl
  obtain ⟨h2,h3⟩:=Sb.setCells vs (o + 1) _ _ h1
  exact ⟨h2,(grown_set (grown_refl w (some g)) o v).trans h3⟩
theorem putR_mid : ∀ (vs ps xs ys : List Value),xs.length = vs.length → putR (ps ++ xs ++ ys).toArray ps.length vs = (ps ++ vs ++ ys).toArray
 | [],ps,xs,ys,h => by
  have e : xs = []:=List.eq_nil_of_length_eq_zero h
  subst e
  rfl
 | v :: vs,ps,[],ys,h => by simp at h
 | v :: vs,ps,x :: xs,ys,h => by
  have e1 : ((ps ++ x :: xs ++ ys).toArray).setIfInBounds ps.length v = ((ps ++ [v]) ++ xs ++ ys).toArray:=by
   rw [List.setIfInBounds_toArray]
   congr 1
   simp
  show putR ((ps ++ x :: xs ++ ys).toArray.setIfInBounds ps.length v) (ps.length + 1) vs = _
  rw [e1]
  have:=putR_mid vs (ps ++ [v]) xs ys (by simpa using h)
  rw [show (ps ++ [v]).length = ps.length + 1 by simp] at this
  rw [this]
  simp
theorem putR_s (t : Trm) (s' : Scr) : putR t.vals.toArray 0 s'.vals = ({ t with s:=s' } : Trm).vals.toArray:=by
 have:=putR_mid s'.vals [] t.s.vals [.slice t.RA t.Rn t.Rc,.int .i64 t.md,.int .i64 t.pv,.slice t.A t.n t.c,.int .i64 t.keep,.slice t.HA t.Hn t.Hc,.int .i64 t.lost] rfl
 exact this
/-- The store of a screen into a terminal. -/
theorem wpList_store_ts {ops : Array Oper} {rest : List Oper} {o : Oper} {a : Act} {w : World} {Q : Exit → Act → World → Prop} (t : Trm) (s' : Scr) (g : Nat) (x y : Operand) (ho : o.op = .store 46 x y) (hgd : o.guard = none)
  (hx : a.eval x = .pointer (some ⟨g,0,none⟩)) (hy : a.eval y = .agg s'.vals.toArray) (hg : Sb w g t.vals.toArray 53)
  (h : ∀ w',Sb w' g ({ t with s:=s' } : Trm).vals.toArray 53 → w.grownBy w' (some g) → wpList Tryz.prog ops Q rest (a.put o.dst undef) w') : wpList Tryz.prog ops Q (o :: rest) a w:=by
 refine wpList_store_mid hgd 46 x y ho g 0 s'.vals.toArray hx hy (fun j hj => ?_) (infoSz s') s'.one ?_
 ·have hj' : j < 19:=hj
  have hs : j < t.vals.toArray.size:=by show j < 26;omega
  rw [Nat.zero_add]
  exact ⟨by rw [hg.cell j (v:=t.vals.toArray[j]) (Array.getElem?_eq_getElem hs)];rfl,hg.free j⟩
 ·obtain ⟨h1,h2⟩:=Sb.setCells s'.vals 0 w _ hg
  exact h _ (putR_s t s' ▸ h1) h2
theorem wpList_load_tr {ops : Array Oper} {rest : List Oper} {o : Oper} {a : Act} {w : World} {Q : Exit → Act → World → Prop} (t : Trm) (g : Nat) (x : Operand) (ho : o.op = .load 53 x) (hgd : o.guard = none)
  (hx : a.eval x = .pointer (some ⟨g,0,none⟩)) (hg : Sb w g t.vals.toArray 53)
  (h : wpList Tryz.prog ops Q rest (a.put o.dst (.agg t.vals.toArray)) w) : wpList Tryz.prog ops Q (o :: rest) a w :=
 wpList_load_row hgd 53 x ho g hx 53 t.vals.toArray (0,0) _ hg Tryz.underlying53 rfl (infoTz t) h
theorem wp_load_tr {o : Oper} {a : Act} {w : World} {K : Act → World → Prop} {Q : Exit → Act → World → Prop} (t : Trm) (g : Nat) (x : Operand) (ho : o.op = .load 53 x)
  (hx : a.eval x = .pointer (some ⟨g,0,none⟩)) (hg : Sb w g t.vals.toArray 53)
  (h : K (a.put o.dst (.agg t.vals.toArray)) w) : Oper.wp Tryz.prog o a w K Q :=
 wp_load_row 53 x ho g hx 53 t.vals.toArray (0,0) _ hg Tryz.underlying53 rfl (infoTz t) h
theorem wpList_store_tr {ops : Array Oper} {rest : List Oper} {o : Oper} {a : Act} {w : World} {Q : Exit → Act → World → Prop} (t : Trm) (g : Nat) (x y : Operand) (ho : o.op = .store 53 x y) (hgd : o.guard = none)
  (hx : a.eval x = .pointer (some ⟨g,0,none⟩)) (hy : a.eval y = .agg t.vals.toArray) (hg : ∃ old,Sb w g old 53 ∧ old.size = 26)
  (h : ∀ w',Sb w' g t.vals.toArray 53 → w.grownBy w' (some g) → wpList Tryz.prog ops Q rest (a.put o.dst undef) w') : wpList Tryz.prog ops Q (o :: rest) a w :=
 wpList_store_cs 53 t.vals.toArray g x y (infoTz t) t.one ho hgd hx hy hg h
theorem wp_store_tr {o : Oper} {a : Act} {w : World} {K : Act → World → Prop} {Q : Exit → Act → World → Prop} (t : Trm) (g : Nat) (x y : Operand) (ho : o.op = .store 53 x y)
  (hx : a.eval x = .pointer (some ⟨g,0,none⟩)) (hy : a.eval y = .agg t.vals.toArray) (hg : ∃ old,Sb w g old 53 ∧ old.size = 26)
  (h : ∀ w',Sb w' g t.vals.toArray 53 → w.grownBy w' (some g) → K (a.put o.dst undef) w') : Oper.wp Tryz.prog o a w K Q :=
 wp_store_cs 53 t.vals.toArray g x y (infoTz t) t.one ho hx hy hg h
theorem results_tr {fn : Func} {p : Tmp} (h : fn.results = #[.cell p 53]) (tmps : Array Value) (w : World) (g : Nat) (t : Trm) (hp : tmps.getD p undef = .pointer (some ⟨g,0,none⟩)) (hg : Sb w g t.vals.toArray 53) :
  (results fn tmps).run Tryz.prog w = .ok (.agg t.vals.toArray) w:=results_cell_row h tmps w g 53 t.vals.toArray (0,0) _ hp hg Tryz.underlying53 rfl (infoTz t)
/-- A list lies in no box of another kind. -/
theorem TyA.ne {w : World} {A : Option Addr} {g : Nat} {cs : Array Value} {T : TypeId} (h : TyA w A) (hS : Sb w g cs T) (hT : T ≠ 3) : ∀ ad,A = some ad → some ad.block ≠ some g:=fun ad e e2 => by
 obtain ⟨c2,fr,h1⟩:=h ad e
 have e3:=Option.some.inj e2
 rw [e3,(show w.heap[g]? = _ from hS)] at h1
 exact hT (Obj.cells.inj (Option.some.inj h1)).2.1
theorem Scr.no8 (s : Scr) : ∀ v ∈ s.vals,∀ x,v ≠ .int .u8 x:=fun v hv x => by
 unfold Scr.vals at hv
 simp only [List.mem_cons,List.not_mem_nil,or_false] at hv
 rcases hv with rfl|rfl|rfl|rfl|rfl|rfl|rfl|rfl|rfl|rfl|rfl|rfl|rfl|rfl|rfl|rfl|rfl|rfl|rfl <;> (intro h;cases h)
theorem Trm.no8 (t : Trm) : ∀ (i : Nat) (x : Int),t.vals.toArray[i]? ≠ some (.int .u8 x):=fun i x hi => by
 rw [List.getElem?_toArray] at hi
 rcases List.mem_append.mp (List.mem_of_getElem? hi : _ ∈ t.s.vals ++ _) with h|h
 ·exact t.s.no8 _ h x rfl
 ·simp at h
theorem rvalid19_ok (t : Trm) (B : Int) (w : World) (h : t.Ok w B) : Calls Tryz.prog 45 #[.agg t.vals.toArray] w fun e w' => e = .returned (.bool true) ∧ Bw w w':=by
 obtain ⟨h1,⟨h2,h3,h4,h5,h6,h7⟩,h8,h9,h10,h11,h12,h13,h14,h15,h16⟩:=h
 have H1:=Lib.hid h1
 have H2:=Lib.hid h2
 have H5:=Lib.hid h5
 have H7:=Lib.hid h7
 have H8:=Lib.hid h8
 clear h1 h2 h5 h7 h8 h9 h11
 obtain ⟨k1,k2⟩:=h10
 go_enter Tryz.func45,Tryz.ntmps45
 go_upto_region 1 with (fail)
 generalize hw1 : w.alloc _ = w1
 obtain ⟨hb0,hbw,hz⟩:=sb1 hw1
 have HB0:=Lib.hid hb0
 clear hw1 hb0
 go_wp2_with (first
  | ((with_reducible refine wpList_load_ts t w.heap.size (.tmp 3) rfl rfl ?_ ?_ ?_);(focus rfl);(focus (exact HB0.out)))
  | (go_at_call 68;refine (rsvalid_ok t.s _ (H1.out.up BWX)).mono ?_;rintro ee w2 ⟨rfl,hb2⟩;have y0:=(HB0.out.up hb2).cell 19 (v:=.slice t.RA t.Rn t.Rc) rfl)
  | (go_at_call 69;refine (refvalid_any t.RA t.Rn t.Rc t.rs _ (by exact H2.out.up BWX) h3 h4 H7.out).mono ?_;rintro ee w3 ⟨rfl,hb3⟩;rw [H5.out];clear y0;have hb23:=Bw.trans hb2 hb3;have y1:=(HB0.out.up hb23).cell 20 (v:=.int .i64 t.md) rfl;have y2:=(HB0.out.up hb23).cell 21 (v:=.int .i64 t.pv) rfl;have y3:=(HB0.out.up hb23).cell 22 (v:=.slice t.A t.n t.c) rfl)
  | (go_at_call 70;refine (rvalid14_ok t.md t.pv t.A t.n t.c t.xs _ (H8.out.up BWX)).mono ?_;rintro ee w4 ⟨rfl,hb4⟩;clear y1 y2 y3;have hb24:=Bw.trans hb23 hb4;have z1:=(HB0.out.up hb24).cell 23 (v:=.int .i64 t.keep) rfl;have z2:=(HB0.out.up hb24).cell 24 (v:=.slice t.HA t.Hn t.Hc) rfl;have z3:=(HB0.out.up hb24).cell 25 (v:=.int .i64 t.lost) rfl)
  | fail)
 go_ret
 exact ⟨by first|rfl|(simp;omega),BWX⟩
theorem raway_ok (t : Trm) (L : Option Addr) (m cap : Nat) (w : World) (hH : Ls w t.HA t.Hn) (hH1 : t.Hn ≤ t.Hc) (hH2 : t.Hc ≤ 9223372036854775807) (hH3 : t.Hn ≤ 200) (hk : 0 ≤ t.keep ∧ t.keep ≤ 200) (hl : 0 ≤ t.lost ∧ t.lost ≤ 1000000000000) (hL : Ls w L m) (hm0 : 0 < m) (hm : m ≤ 31) (hmc : m ≤ cap) (hcap : cap ≤ 9223372036854775807) :
  Calls Tryz.prog 47 #[.agg t.vals.toArray,.slice L m cap] w fun e w' => ∃ (HA' : Option Addr) (Hn' Hc' : Nat) (lost' : Int),e = .returned (.agg ({ t with HA:=HA',Hn:=Hn',Hc:=Hc',lost:=lost' } : Trm).vals.toArray) ∧ Ls w' HA' Hn' ∧ (∀ ad,HA' = some ad → w.heap.size ≤ ad.block) ∧ Hn' ≤ Hc' ∧ Hc' ≤ 9223372036854775807 ∧ (Hn' : Int) ≤ t.keep ∧ t.lost ≤ lost' ∧ lost' ≤ t.lost + 231 ∧ Bw w w':=by
 obtain ⟨hs,hR,hh1⟩:=hH
 obtain ⟨ls,hR2,hl1⟩:=hL
 have HR:=Lib.hid hR
 have HR2:=Lib.hid hR2
 have HH1:=Lib.hid hh1
 have HL1:=Lib.hid hl1
 have hsl : hs.length = t.Hn:=hR.1
 have hll : ls.length = m:=hR2.1
 obtain ⟨hk0,hk2⟩:=hk
 obtain ⟨hl0,hl2⟩:=hl
 clear hR hR2 hh1 hl1
 obtain ⟨i0,hi,hi0,hi1,hi2⟩:=info_parts infoL
 go_enter Tryz.func47,Tryz.ntmps47
 go_upto_region 1 with (fail)
 generalize hw1 : (w.alloc (.cells t.vals.toArray 53)).alloc _ = w1
 obtain ⟨hb0,hb1,hbw,hz⟩:=sb2 hw1
 have HB0:=Lib.hid hb0
 have HB1:=Lib.hid (show ∃ old,Sb w1 (w.heap.size + 1) old 53 ∧ old.size = 26 from ⟨_,hb1,rfl⟩)
 have hz1 : w.heap.size + 1 < w1.heap.size:=by omega
 have hz0 : w.heap.size < w1.heap.size:=by omega
 have y24:=HB0.out.cell 24 (v:=.slice t.HA t.Hn t.Hc) rfl
 clear hw1 hb0 hb1 hz
 go_upto_region 2 with (first
  | (at_builtin;refine wpList_append_srcG (by rfl) (.tmp 7) (.tmp 9) 51 rfl w1.heap.size 23 i0 (.slice none 0 0) 1 24 Tryz.underlying51 hi hi0 hi1 hi2 rfl (by decide) (.slice (some ⟨w1.heap.size,0,none⟩) 0 0) 0 [] (by rfl) (own_made rfl (Nat.le_refl _)) t.HA t.Hn t.Hc (hs.map (fun v => v)) (by rfl) (by rw [List.length_map,hsl];omega) (fun e => (HR.out.none_ e).1) (Rd.news2 (by exact HR.out.up BWX)) (by rw [List.map_id'];exact HH1.out) (by unfold maxLen;omega) (by omega) SZX ?_;intro v1 w2 hown hg2;simp only [Nat.zero_add,List.nil_append] at hown;have hb2 : Bw w1 w2:=Bw.grown (show Bw w1 (w1.alloc (.cells #[] 23)) from BWX) hg2 (fun k hk => by have e:=Option.some.inj (show some w1.heap.size = some k from hk);omega);have HOWN:=Lib.hid hown;have HB2:=Lib.hid hb2;clear hown hg2 hb2)
  | (at_builtin;refine wpList_append_srcG (by rfl) (.tmp 10) (.tmp 11) 51 rfl w1.heap.size 23 i0 (.slice none 0 0) 1 24 Tryz.underlying51 hi hi0 hi1 hi2 rfl (by decide) v1 t.Hn (hs.map (fun v => v)) (by rfl) HOWN.out L m cap (ls.map (fun v => v)) (by rfl) (by rw [List.length_map,hll];omega) (fun e => (HR2.out.none_ e).1) (Rd.news2 (by exact HR2.out.up (Bw.trans hbw HB2.out))) (by rw [List.map_id'];exact HL1.out) (by unfold maxLen;omega) (by omega) (by have:=HB2.out.size;omega) ?_;intro v2 w3 hown2 hg3;have HB3:=Lib.hid (show Bw w1 w3 from Bw.grown HB2.out hg3 (fun k hk => (HOWN.out.lt k hk).1));have HO2:=Lib.hid hown2;clear hown2 hg3)
  | fail)
 obtain ⟨g,cp,rfl,hg,hg2⟩:=HO2.out.form (by omega)
 have hb3:=HB3.out
 have hz3 : w.heap.size + 1 < w3.heap.size:=by have:=hb3.size;omega
 have hz03 : w.heap.size < w3.heap.size:=by omega
 have HB03:=Lib.hid (HB0.out.up hb3)
 have HB13:=Lib.hid (Exists.elim HB1.out (fun old h => (⟨old,h.1.up hb3,h.2⟩ : ∃ old,Sb w3 (w.heap.size + 1) old 53 ∧ old.size = 26)))
 have hbw3 : Bw w w3:=Bw.trans hbw hb3
 obtain ⟨A_,c_,e_,hcp1,hcp2⟩:=own_form HO2.out
 cases e_
 clear y24 HB0 HB1 HOWN HB2 HB3 hb3
 have y23:=HB03.out.cell 23 (v:=.int .i64 t.keep) rfl
 have y24:=HB03.out.cell 24 (v:=.slice t.HA t.Hn t.Hc) rfl
 have y25:=HB03.out.cell 25 (v:=.int .i64 t.lost) rfl
 have f24:=HB03.out.free 24
 have f25:=HB03.out.free 25
 go_upto_region 3 with (fail)
 obtain ⟨q,hq⟩ : ∃ q : Nat,(if t.keep < (t.Hn : Int) + (m : Int) then (t.Hn : Int) + (m : Int) - t.keep else 0) = (q : Int):=by
  split
  ·exact ⟨(t.Hn + m - t.keep).toNat,by omega⟩
  ·exact ⟨0,rfl⟩
 have hq1 : q ≤ t.Hn + m ∧ ((t.Hn + m - q : Nat) : Int) ≤ t.keep:=by
  split at hq <;> omega
 obtain ⟨hq1,hq2⟩:=hq1
 have hq3 : (q : Int) ≤ (t.Hn : Int) + (m : Int):=by omega
 simp only [hq]
 have hwl : IntKind.i64.wrap (t.lost + (q : Int)) = t.lost + (q : Int):=IntWalk.i64_in _ (by omega)
 have HQ:=Lib.hid hq
 have HAW:=Lib.hid (show ∀ v v' : Value,∃ old,Sb ((w3.setCell ⟨w.heap.size,24,none⟩ v).setCell ⟨w.heap.size,25,none⟩ v').drew (w.heap.size + 1) old 53 ∧ old.size = 26 from fun v v' => Exists.elim HB13.out (fun old h => ⟨old,Sb.up (w:=(w3.setCell ⟨w.heap.size,24,none⟩ v).setCell ⟨w.heap.size,25,none⟩ v') ((h.1.away (by omega) v).away (by omega) v') (Bw.drew (Bw.refl _)),h.2⟩))
 clear hq
 by_cases hcq : cp = q
 ·have hqq : q = t.Hn + m:=by omega
  have HQQ:=Lib.hid hqq
  clear hqq
  refine wp_region_held_drew (S:=(fun w' => True)) (by kernel_rfl) ?_ (fun hHeld => ?_)
  ·(try dsimp only);skip
  refine tkQ 0 ?_
  refine tkQ 1 ?_
  refine tkQ 2 ?_
  (try simp only [Act.put,zP1,zP2,zP3,zP4,zP5,zP6])
  refine tkQ 3 ?_
  refine tkQ 5 ?_
  (try simp only [Act.put,zP1,zP2,zP3,zP4,zP5,zP6])
  refine arO 4 (fun K hK => ?_)
  go_simp
  refine hK.out _ _ ?_ (fun hHeld => ?_)
  ·(try dsimp only);skip
  clear hK K
  (try simp only [Act.put,zP1,zP2,zP3,zP4,zP5,zP6])
  refine tkQ 6 ?_
  (try simp only [Act.put,zP1,zP2,zP3,zP4,zP5,zP6])
  refine tkQ 7 ?_
  (try simp only [Act.put,zP1,zP2,zP3,zP4,zP5,zP6])
  refine arO 8 (fun K hK => ?_)
  go_simp
  refine hK.out _ _ ?_ (fun hHeld => ?_)
  ·(try dsimp only);skip
  clear hK K
  (try simp only [Act.put,zP1,zP2,zP3,zP4,zP5,zP6])
  refine tkQ 9 ?_
  (try simp only [Act.put,zP1,zP2,zP3,zP4,zP5,zP6])
  refine arO 10 (fun K hK => ?_)
  go_simp
  refine hK.out _ _ ?_ (fun hHeld => ?_)
  ·(try dsimp only);skip
  clear hK K
  (try simp only [Act.put,zP1,zP2,zP3,zP4,zP5,zP6])
  refine wpAnyH_done (by kernel_rfl) ?_ _
  go_wp2_with (first
   | ((with_reducible refine wpList_load_tr ({ t with HA:=some ⟨g,0,none⟩,Hn:=t.Hn + m - q,Hc:=0,lost:=t.lost + q } : Trm) w.heap.size (.tmp 2) rfl rfl ?_ ?_ ?_);(focus rfl);(focus (exact ((HB03.out.set 24 _ rfl).set 25 _ rfl).up BWX)))
   | ((with_reducible refine wpList_store_tr ({ t with HA:=some ⟨g,0,none⟩,Hn:=t.Hn + m - q,Hc:=0,lost:=t.lost + q } : Trm) (w.heap.size + 1) (.tmp 4) (.tmp 28) rfl rfl ?_ ?_ ?_ ?_);(focus rfl);(focus rfl);(focus (exact HAW.out _ _));intro w4 hS4 hg4;have HS4:=Lib.hid hS4;have HG4:=Lib.hid hg4;clear hS4 hg4)
   | fail)
  refine bodyPost_ret (results_tr rfl _ _ (w.heap.size + 1) ({ t with HA:=some ⟨g,0,none⟩,Hn:=t.Hn + m - q,Hc:=0,lost:=t.lost + q } : Trm) (by rfl) HS4.out) rfl ?_
  have hO4 : w4.ownsRow _ _ 1 _ _ _:=(((own_set_below (own_set_below HO2.out (by omega) _) (by omega) _).bw (Bw.drew (Bw.refl _))).kept HG4.out (.inr (by simp only [Value.ownBlock];intro e;have:=Option.some.inj e;omega)))
  have hbwE : Bw w w4:=Bw.grown (show Bw w _ from BWX) HG4.out (fun k hk => by cases hk;omega)
  refine ⟨some ⟨g,0,none⟩,t.Hn + m - q,0,t.lost + q,rfl,?_,fun ad e => by cases e;dsimp only;omega,by omega,by omega,hq2,by omega,by omega,hbwE⟩
  rw [show t.Hn + m - q = 0 by have:=HQQ.out;omega]
  exact Ls.nil_ _ _
 ·have hcq1 : ¬ q = cp:=fun e => hcq e.symm
  refine wp_region_held_drew (S:=(fun w' => True)) (by kernel_rfl) ?_ (fun hHeld => ?_)
  ·(try dsimp only);skip
  refine tkQ 0 ?_
  (try simp only [Act.put,zP1,zP2,zP3,zP4,zP5,zP6])
  refine tkQ 1 ?_
  refine tkQ 2 ?_
  refine tkQ 3 ?_
  (try simp only [Act.put,zP1,zP2,zP3,zP4,zP5,zP6])
  refine tkQ 5 ?_
  (try simp only [Act.put,zP1,zP2,zP3,zP4,zP5,zP6])
  refine arO 4 (fun K hK => ?_)
  go_simp
  refine hK.out _ _ ?_ (fun hHeld => ?_)
  ·(try dsimp only);skip
  clear hK K
  (try simp only [Act.put,zP1,zP2,zP3,zP4,zP5,zP6])
  refine tkQ 6 ?_
  refine tkQ 7 ?_
  (try simp only [Act.put,zP1,zP2,zP3,zP4,zP5,zP6])
  refine arO 8 (fun K hK => ?_)
  go_simp
  refine hK.out _ _ ?_ (fun hHeld => ?_)
  ·(try dsimp only);skip
  clear hK K
  (try simp only [Act.put,zP1,zP2,zP3,zP4,zP5,zP6])
  refine tkQ 9 ?_
  (try simp only [Act.put,zP1,zP2,zP3,zP4,zP5,zP6])
  refine arO 10 (fun K hK => ?_)
  go_simp
  refine hK.out _ _ ?_ (fun hHeld => ?_)
  ·(try dsimp only);skip
  clear hK K
  (try simp only [Act.put,zP1,zP2,zP3,zP4,zP5,zP6])
  refine wpAnyH_done (by kernel_rfl) ?_ _
  go_wp2_with (first
   | ((with_reducible refine wpList_load_tr ({ t with HA:=some ⟨g,q,none⟩,Hn:=t.Hn + m - q,Hc:=(cp - q),lost:=t.lost + q } : Trm) w.heap.size (.tmp 2) rfl rfl ?_ ?_ ?_);(focus rfl);(focus (exact ((HB03.out.set 24 _ rfl).set 25 _ rfl).up BWX)))
   | ((with_reducible refine wpList_store_tr ({ t with HA:=some ⟨g,q,none⟩,Hn:=t.Hn + m - q,Hc:=(cp - q),lost:=t.lost + q } : Trm) (w.heap.size + 1) (.tmp 4) (.tmp 28) rfl rfl ?_ ?_ ?_ ?_);(focus rfl);(focus rfl);(focus (exact HAW.out _ _));intro w4 hS4 hg4;have HS4:=Lib.hid hS4;have HG4:=Lib.hid hg4;clear hS4 hg4)
   | fail)
  refine bodyPost_ret (results_tr rfl _ _ (w.heap.size + 1) ({ t with HA:=some ⟨g,q,none⟩,Hn:=t.Hn + m - q,Hc:=(cp - q),lost:=t.lost + q } : Trm) (by rfl) HS4.out) rfl ?_
  have hO4 : w4.ownsRow _ _ 1 _ _ _:=(((own_set_below (own_set_below HO2.out (by omega) _) (by omega) _).bw (Bw.drew (Bw.refl _))).kept HG4.out (.inr (by simp only [Value.ownBlock];intro e;have:=Option.some.inj e;omega)))
  have hbwE : Bw w w4:=Bw.grown (show Bw w _ from BWX) HG4.out (fun k hk => by cases hk;omega)
  have hrd:=own_rd (f:=fun v => v) (xs:=hs.map (fun v => v) ++ ls.map (fun v => v)) (by rw [List.map_id'];exact hO4)
  have hdr:=hrd.drop q hq1
  refine ⟨some ⟨g,q,none⟩,t.Hn + m - q,(cp - q),t.lost + q,rfl,?_,fun ad e => by cases e;dsimp only;omega,by omega,by omega,hq2,by omega,by omega,hbwE⟩
  refine ⟨(hs.map (fun v => v) ++ ls.map (fun v => v)).drop q,?_,fun v hv => ?_⟩
  ·have e1 : (⟨g,0,none⟩ : Addr).add q = ⟨g,q,none⟩:=by unfold Addr.add;split <;> simp_all
   rw [e1] at hdr
   exact hdr
  ·have hv2:=List.mem_of_mem_drop hv
   rcases List.mem_append.mp hv2 with h|h
   ·exact HH1.out v (by simpa using h)
   ·exact HL1.out v (by simpa using h)
/-- A valid grid with these cells. -/
def Gkx (w : World) (Rn Cn : Nat) (A : Option Addr) (n c : Nat) (cs : List C4) : Prop :=
 1 ≤ Rn ∧ Rn ≤ 30 ∧ 1 ≤ Cn ∧ Cn ≤ 100 ∧ n = Rn * Cn ∧ n ≤ c ∧ c ≤ 9223372036854775807 ∧ Rg w A n cs ∧ gridB Rn Cn cs = true
theorem Gkx.gok {w : World} {Rn Cn : Nat} {A : Option Addr} {n c : Nat} {cs : List C4} (h : Gkx w Rn Cn A n c cs) : Gok w Rn Cn A n c:=by
 obtain ⟨h1,h2,h3,h4,h5,h6,h7,h8,h9⟩:=h
 exact ⟨h1,h2,h3,h4,h5,h6,h7,cs,h8,h9⟩
theorem Gkx.lt {w : World} {Rn Cn : Nat} {A : Option Addr} {n c : Nat} {cs : List C4} (h : Gkx w Rn Cn A n c cs) : ∀ ad,A = some ad → ad.block < w.heap.size:=h.gok.lt
theorem Gkx.up {w w' : World} {Rn Cn : Nat} {A : Option Addr} {n c : Nat} {cs : List C4} (h : Gkx w Rn Cn A n c cs) (hb : Bw w w') : Gkx w' Rn Cn A n c cs:=by
 obtain ⟨h1,h2,h3,h4,h5,h6,h7,h8,h9⟩:=h
 exact ⟨h1,h2,h3,h4,h5,h6,h7,h8.up hb,h9⟩
theorem Gkx.away {w : World} {Rn Cn : Nat} {A : Option Addr} {n c h : Nat} {cs : List C4} (hg : Gkx w Rn Cn A n c cs) (hne : ∀ ad,A = some ad → ad.block ≠ h) (j : Nat) (v : Value) : Gkx (w.setCell ⟨h,j,none⟩ v) Rn Cn A n c cs:=by
 obtain ⟨h1,h2,h3,h4,h5,h6,h7,h8,h9⟩:=hg
 exact ⟨h1,h2,h3,h4,h5,h6,h7,h8.away hne j v,h9⟩
theorem Gkx.far {w w' : World} {Rn Cn : Nat} {A : Option Addr} {n c : Nat} {cs : List C4} {row : Option Nat} (hg : Gkx w Rn Cn A n c cs) (hgr : w.grownBy w' row) (hne : ∀ ad,A = some ad → some ad.block ≠ row) : Gkx w' Rn Cn A n c cs:=by
 have hlt:=hg.lt
 obtain ⟨h1,h2,h3,h4,h5,h6,h7,h8,h9⟩:=hg
 refine ⟨h1,h2,h3,h4,h5,h6,h7,⟨h8.1,fun h0 => ?_⟩,h9⟩
 obtain ⟨g,o,e,hx⟩:=h8.2 h0
 have hb:=hgr.block g (hlt _ e) (hne _ e)
 have key : ∀ i u,w.cell? ⟨g,i,none⟩ = some u → w'.cell? ⟨g,i,none⟩ = some u:=fun i u hu => (World.cell?_of_block (a:=⟨g,i,none⟩) hb).trans hu
 exact ⟨g,o,e,fun i hi => ⟨key _ _ (hx i hi).1,key _ _ (hx i hi).2.1,key _ _ (hx i hi).2.2.1,key _ _ (hx i hi).2.2.2⟩⟩
/-- A valid screen whose grid has these cells. -/
def Scr.Okx (w : World) (s : Scr) (cs : List C4) : Prop :=
 Gkx w s.Rn s.Cn s.A s.n s.c cs ∧ (0 ≤ s.row ∧ s.row < s.Rn ∧ 0 ≤ s.col ∧ s.col < s.Cn) ∧ avB s.f s.g s.b = true ∧ (0 ≤ s.top ∧ s.top ≤ s.bot ∧ s.bot < s.Rn) ∧ (0 ≤ s.srow ∧ s.srow < s.Rn ∧ 0 ≤ s.scol ∧ s.scol < s.Cn) ∧ avB s.sf s.sg s.sb = true
theorem Scr.Okx.ok {w : World} {s : Scr} {cs : List C4} (h : s.Okx w cs) : s.Ok w:=⟨h.1.gok,h.2⟩
theorem Scr.Okx.up {w w' : World} {s : Scr} {cs : List C4} (h : s.Okx w cs) (hb : Bw w w') : s.Okx w' cs:=⟨h.1.up hb,h.2⟩
theorem Scr.Okx.far {w w' : World} {s : Scr} {cs : List C4} {row : Option Nat} (h : s.Okx w cs) (hgr : w.grownBy w' row) (hne : ∀ ad,s.A = some ad → some ad.block ≠ row) : s.Okx w' cs:=⟨h.1.far hgr hne,h.2⟩
theorem Scr.Okx.away {w : World} {s : Scr} {cs : List C4} {k : Nat} (h : s.Okx w cs) (hne : ∀ ad,s.A = some ad → ad.block ≠ k) (j : Nat) (v : Value) : s.Okx (w.setCell ⟨k,j,none⟩ v) cs:=⟨h.1.away hne j v,h.2⟩
/-- What is known of a screen: its cells, its cursor, its attributes, whether its cursor is hidden. -/
structure Kn where
 cs : List C4
 row : Int
 col : Int
 wrap : Bool
 a : Int × Int × Int
 hid : Bool
/-- The screen is as it is known, if it is; and it wraps. -/
def Mt (w : World) (s : Scr) (K : Option Kn) : Prop:=∀ x,K = some x → s.Okx w x.cs ∧ s.row = x.row ∧ s.col = x.col ∧ s.wrap = x.wrap ∧ (s.f,s.g,s.b) = x.a ∧ s.hid = x.hid ∧ s.now = false
theorem Mt.none_ (w : World) (s : Scr) : Mt w s none:=fun x h => by cases h
theorem Mt.up {w w' : World} {s : Scr} {K : Option Kn} (h : Mt w s K) (hb : Bw w w') : Mt w' s K:=fun x e => ⟨(h x e).1.up hb,(h x e).2⟩
theorem Mt.far {w w' : World} {s : Scr} {K : Option Kn} {row : Option Nat} (h : Mt w s K) (hgr : w.grownBy w' row) (hne : ∀ ad,s.A = some ad → some ad.block ≠ row) : Mt w' s K:=fun x e => ⟨(h x e).1.far hgr hne,(h x e).2⟩
/-- A parameter, or another number if it is 0 or missing. -/
def orN (xs : List Int) (i : Nat) (d : Int) : Int:=if xs.getD i 0 = 0 then d else xs.getD i 0
/-- A new screen. -/
def kn0 (Rn Cn : Nat) : Kn:=⟨List.replicate (Rn * Cn) blk,0,0,false,(0,0,0),false⟩
/-- Behind a character. -/
def putK (Rn Cn : Nat) (x : Kn) (nn : Int) : Kn:={ x with cs:=tab Rn Cn (fillF Rn Cn x.cs x.row x.col (x.col + 1) (nn,x.a.1,x.a.2.1,x.a.2.2)),col:=if x.col = (Cn : Int) - 1 then x.col else x.col + 1,wrap:=decide (x.col = (Cn : Int) - 1) }
/-- Behind H. -/
def goK (Rn Cn : Nat) (x : Kn) (r c : Int) : Kn:={ x with row:=min (max r 0) ((Rn : Int) - 1),col:=min (max c 0) ((Cn : Int) - 1),wrap:=false }
/-- What an operation makes of what is known of a screen. -/
def stepX (Rn Cn : Nat) (K : Option Kn) (o : OpS) : Option Kn :=
 if o.1 = 3 ∧ o.2.1 = 99 then some (kn0 Rn Cn)
 else match K with
  | none => none
  | some x =>
   if o.1 = 1 ∧ runeB o.2.1 = true ∧ x.wrap = false then some (putK Rn Cn x o.2.1)
   else if o.1 = 4 ∧ o.2.1 = 72 ∧ o.2.2.1 = 0 ∧ propN o.2.2.2.length o.2.2.2 = true then some (goK Rn Cn x (orN o.2.2.2 0 1 - 1) (orN o.2.2.2 1 1 - 1))
   else if o.1 = 4 ∧ o.2.1 = 109 ∧ o.2.2.1 = 0 ∧ propN o.2.2.2.length o.2.2.2 = true then some { x with a:=applA o.2.2.2 x.a }
   else if o.1 = 4 ∧ o.2.1 = 104 ∧ o.2.2.1 = 63 ∧ o.2.2.2 = [25] then some { x with hid:=false }
   else if o.1 = 4 ∧ o.2.1 = 108 ∧ o.2.2.1 = 63 ∧ o.2.2.2 = [25] then some { x with hid:=true }
   else none
/-- Behind operations, one after the other. -/
def stepsX (Rn Cn : Nat) (K : Option Kn) (l : List OpS) : Option Kn:=l.foldl (stepX Rn Cn) K
/-- The call returns a screen of the same size that is as it is known, and no rows. -/
def ScX (w : World) (s : Scr) (K : Option Kn) (e : Ending) (w' : World) : Prop :=
 ∃ s' : Scr,s'.Rn = s.Rn ∧ s'.Cn = s.Cn ∧ e = .returned (.tuple #[.agg s'.vals.toArray,.slice none 0 0]) ∧ s'.Ok w' ∧ Mt w' s' K ∧ An w s.A s'.A ∧ Bw w w'
/-- What Apply returns: a valid screen, rows; and what is known of the screen. -/
def ScLX (w : World) (s : Scr) (K : Option Kn) (e : Ending) (w' : World) : Prop :=
 ∃ (s' : Scr) (L : Option Addr) (m cap : Nat),s'.Rn = s.Rn ∧ s'.Cn = s.Cn ∧ e = .returned (.tuple #[.agg s'.vals.toArray,.slice L m cap]) ∧ s'.Ok w' ∧ An w s.A s'.A ∧ Ls w' L m ∧ (∀ ad,L = some ad → w.heap.size ≤ ad.block) ∧ m ≤ 31 ∧ m ≤ cap ∧ cap ≤ 9223372036854775807 ∧ Bw w w' ∧ Mt w' s' K
theorem ScX.lx {w : World} {s : Scr} {K : Option Kn} {e : Ending} {w' : World} (h : ScX w s K e w') : ScLX w s K e w':=by
 obtain ⟨s',h1,h2,h3,h4,h5,h6,h7⟩:=h
 exact ⟨s',none,0,0,h1,h2,h3,h4,h6,Ls.nil_ _ _,fun ad e => (by cases e),by omega,by omega,by omega,h7,h5⟩
theorem ScL.lx {w : World} {s : Scr} {e : Ending} {w' : World} (h : ScL w s e w') : ScLX w s none e w':=by
 obtain ⟨s',L,m,cap,h1,h2,h3,h4,h5,h6,h7,h8,h9,h10,h11⟩:=h
 exact ⟨s',L,m,cap,h1,h2,h3,h4,h5,h6,h7,h8,h9,h10,h11,Mt.none_ _ _⟩
theorem vld_yes' {r c rows cols : Int} (h : 0 ≤ r ∧ r < rows ∧ 0 ≤ c ∧ c < cols) : vldB r c rows cols = true:=by unfold vldB;exact decide_eq_true h
theorem rgt_yes' {t m rows : Int} (h : 0 ≤ t ∧ t ≤ m ∧ m < rows) : rgtB t m rows = true:=by unfold rgtB;exact decide_eq_true h
theorem mv_row {r c : Int} {b : Bool} {n t m rows cols : Int} (h : 0 ≤ r ∧ r < rows ∧ 0 ≤ c ∧ c < cols) (hm : 0 ≤ t ∧ t ≤ m ∧ m < rows) : mv r c b 7 n t m rows cols = (min (max n 0) (rows - 1),c,false):=by
 unfold mv
 rw [vld_yes' h,rgt_yes' hm]
 simp
theorem mv_col {r c : Int} {b : Bool} {n t m rows cols : Int} (h : 0 ≤ r ∧ r < rows ∧ 0 ≤ c ∧ c < cols) (hm : 0 ≤ t ∧ t ≤ m ∧ m < rows) : mv r c b 6 n t m rows cols = (r,min (max n 0) (cols - 1),false):=by
 unfold mv
 rw [vld_yes' h,rgt_yes' hm]
 simp
/-- Fill of a grid whose cells are known. -/
theorem rfill_x (Rn Cn : Nat) (A : Option Addr) (n c : Nat) (cs : List C4) (row fr tt d1 d2 d3 d4 : Int) (w : World) (hg : Gkx w Rn Cn A n c cs) (hd : cellB (d1,d2,d3,d4) = true) :
  Calls Tryz.prog 103 #[.agg #[.int .i64 Rn,.int .i64 Cn,.slice A n c],.int .i64 row,.int .i64 fr,.int .i64 tt,.agg #[.int .i64 d1,.int .i64 d2,.int .i64 d3,.int .i64 d4]] w fun e w' => ∃ A' n' c',e = .returned (.agg #[.int .i64 Rn,.int .i64 Cn,.slice A' n' c']) ∧ Gkx w' Rn Cn A' n' c' (tab Rn Cn (fillF Rn Cn cs row fr tt (d1,d2,d3,d4))) ∧ (∀ ad,A' = some ad → w.heap.size ≤ ad.block) ∧ Bw w w':=by
 obtain ⟨h1,h2,h3,h4,h5,h6,h7,h8,h9⟩:=hg
 refine (rfill_go Rn Cn A n c cs row fr tt d1 d2 d3 d4 w h1 h2 h3 h4 h5 h8 h6 h7 h9 hd).mono ?_
 rintro e w' ⟨A',n',c',k1,k2,k3,k4,k5,k6⟩
 exact ⟨A',n',c',k1,⟨h1,h2,h3,h4,by rw [← k2.1];exact tabK_len _ _ _,k3,k4,k2,gridB_tab h1 h2 h3 h4 (fun r k _ _ => fillF_ok (gridB_all h9) hd r k)⟩,k5,k6⟩
end Go.Proofs.YteebdjmjeahccaaGreatDoor
