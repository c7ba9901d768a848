/- Parts of the proof, one after the other. -/
import Derived.Test.YteebdjmjeahccaaGreatDoorShel
import Derived.Test.YteebdjmjeahccaaGreatDoorC01
import Derived.Laws.IdiomCopy
import Derived.Deep.Cut
import Derived.Deep.RegionHeld3
import Derived.Test.YteebdjmjeahccaaGreatDoorC35
import Derived.Test.YteebdjmjeahccaaGreatDoorC34
import Derived.Test.YteebdjmjeahccaaGreatDoorC26
import Derived.Test.YteebdjmjeahccaaGreatDoorC06
set_option linter.unusedSimpArgs false
set_option linter.unusedVariables false
set_option maxRecDepth 100000
set_option maxHeartbeats 16000000
namespace Go.Proofs.YteebdjmjeahccaaGreatDoor
open Go.RowKit
abbrev A3:=Int × Int × Int
def nowR (x : A3) (i : Nat) : Option Value:=if i = 3 then some (.int .i64 x.1) else if i = 4 then some (.int .i64 x.2.1) else if i = 5 then some (.int .i64 x.2.2) else none
/-- Block p is a painter, made from block B on: its bytes are bs, its attributes x. -/
def PB (w : World) (B p : Nat) (x : A3) (bs : List Int) : Prop:=LibA.IsBuffer 78 (nowR x) 5 B p 0 (bs.map (Value.int .u8)) w
/-- Below block B all is as it was, and from it on all but the painter and rows of bytes. -/
def Pw (B p : Nat) (w w' : World) : Prop:=Below B w w' ∧ Lib.OthersKept 5 (some p) w w'
theorem Pw.refl (B p : Nat) (w : World) : Pw B p w w:=⟨Below.refl _ _,Lib.OthersKept.refl _ _ _⟩
theorem Pw.trans {B p : Nat} {a b c : World} (h : Pw B p a b) (k : Pw B p b c) : Pw B p a c:=⟨h.1.trans k.1,h.2.trans k.2⟩
theorem lt_heap {w : World} {k : Nat} {o : Obj} (h : w.heap[k]? = some o) : k < w.heap.size:=(Array.getElem?_eq_some_iff.1 h).1
theorem Pw.bw {B p : Nat} {w w' : World} (h : Bw w w') (hB : B ≤ w.heap.size) : Pw B p w w':=⟨Below.mono h hB,fun k o hk _ _ => (h.block k (lt_heap hk)).trans hk⟩
theorem PB.lt {w : World} {B p : Nat} {x : A3} {bs : List Int} (h : PB w B p x bs) : p < w.heap.size:=LibA.IsBuffer.lt h
theorem PB.base {w : World} {B p : Nat} {x : A3} {bs : List Int} (h : PB w B p x bs) : B ≤ p:=h.1
theorem PB.up {w w' : World} {B p : Nat} {x : A3} {bs : List Int} (h : PB w B p x bs) (hb : Bw w w') : PB w' B p x bs:=LibA.IsBuffer.old h hb
theorem PB.free {w : World} {B p : Nat} {x : A3} {bs : List Int} (h : PB w B p x bs) (i : Nat) : w.frozen? ⟨p,i,none⟩ = false:=LibA.IsBuffer.notFrozen h i
theorem PB.now {w : World} {B p : Nat} {x : A3} {bs : List Int} (h : PB w B p x bs) : w.cell? ⟨p,3,none⟩ = some (.int .i64 x.1) ∧ w.cell? ⟨p,4,none⟩ = some (.int .i64 x.2.1) ∧ w.cell? ⟨p,5,none⟩ = some (.int .i64 x.2.2) :=
 ⟨LibA.IsBuffer.rest h 3 (.inr (by omega)),LibA.IsBuffer.rest h 4 (.inr (by omega)),LibA.IsBuffer.rest h 5 (.inr (by omega))⟩
theorem PB.set {w : World} {B p : Nat} {x : A3} {bs : List Int} (h : PB w B p x bs) (y : A3) : PB (((w.setCell ⟨p,3,none⟩ (.int .i64 y.1)).setCell ⟨p,4,none⟩ (.int .i64 y.2.1)).setCell ⟨p,5,none⟩ (.int .i64 y.2.2)) B p y bs:=by
 have h1:=LibA.IsBuffer.setOther h 3 (.inr (by omega)) (old:=.int .i64 x.1) rfl (.int .i64 y.1)
 have h2:=LibA.IsBuffer.setOther h1 4 (.inr (by omega)) (old:=.int .i64 x.2.1) rfl (.int .i64 y.2.1)
 have h3:=LibA.IsBuffer.setOther h2 5 (.inr (by omega)) (old:=.int .i64 x.2.2) rfl (.int .i64 y.2.2)
 have e : (fun j => if j = 5 then some (Value.int .i64 y.2.2) else if j = 4 then some (Value.int .i64 y.2.1) else if j = 3 then some (Value.int .i64 y.1) else nowR x j) = nowR y:=by
  funext j
  unfold nowR
  by_cases h5 : j = 5
  ·subst h5;rfl
  by_cases h4 : j = 4
  ·subst h4;rfl
  by_cases h3 : j = 3
  ·subst h3;rfl
  simp [h3,h4,h5]
 rw [e] at h3
 exact h3
theorem one_u8 (bs : List Int) : ∀ v ∈ bs.map (Value.int .u8),v.oneCell' = true:=fun v hv => by obtain ⟨n,_,rfl⟩:=List.mem_map.1 hv;rfl
/-- No byte lies in the painter's own block. -/
theorem PB.ne {w : World} {B p : Nat} {x : A3} {bs : List Int} {g o : Nat} {v : Int} (h : PB w B p x bs) (hc : w.cell? ⟨g,o,none⟩ = some (.int .u8 v)) : g ≠ p:=by
 rintro rfl
 obtain ⟨hB,b,lr,h3,ho2,-⟩:=h
 have c0:=h3.c0
 have c1:=h3.c1
 have c2:=h3.c2
 rcases (show o = 0 ∨ o = 1 ∨ o = 2 ∨ 3 ≤ o by omega) with rfl|rfl|rfl|ho
 ·rw [hc] at c0;cases c0
  rcases ho2.2 with ⟨he,_⟩|⟨g2,cap,cur,he,_⟩ <;> cases he
 ·rw [hc] at c1;cases c1
 ·rw [hc] at c2;cases c2
 ·have h4:=h3.rest o (.inr (by omega))
  rw [hc] at h4
  unfold nowR at h4
  repeat' split at h4
  all_goals cases h4
/-- What a call does that writes xs at a painter. -/
def PnP (w : World) (B p : Nat) (x : A3) (bs : List Int) (e : Ending) (w' : World) : Prop:=e = .returned (.tuple #[]) ∧ PB w' B p x bs ∧ Pw B p w w'
def bsI (l : List UInt8) : List Int:=l.map fun b => (b.toNat : Int)
theorem bsI_cells (l : List UInt8) : Lib.byteCells l = (bsI l).map (Value.int .u8):=by unfold Lib.byteCells bsI;rw [List.map_map];rfl
theorem bsI_len (s : ByteArray) : (bsI s.data.toList).length = s.size:=by unfold bsI;rw [List.length_map];rfl
theorem pstr_any (s : ByteArray) (w : World) (B p : Nat) (x : A3) (bs : List Int) (h : PB w B p x bs) (hl : bs.length + s.size ≤ 1000000000) :
  Calls Tryz.prog 30 #[.pointer (some ⟨p,0,none⟩),.string s] w fun e w' => e = .returned (.tuple #[.int .i64 s.size,.nilIface]) ∧ PB w' B p x (bs ++ bsI s.data.toList) ∧ Pw B p w w':=by
 refine (Tryz.Buffer_WriteString_at 78 (nowR x) B p 0 (bs.map (Value.int .u8)) s w h (by have:=h.lt;have:=h.base;omega) (one_u8 bs) (by rw [List.length_map];omega)).mono ?_
 rintro e w' ⟨rfl,h2,h3,h4⟩
 exact ⟨rfl,by unfold PB;rw [List.map_append,← bsI_cells];exact h2,h3,h4⟩
theorem pbyte_any (v : Int) (w : World) (B p : Nat) (x : A3) (bs : List Int) (h : PB w B p x bs) (hl : bs.length + 1 ≤ 1000000000) :
  Calls Tryz.prog 90 #[.pointer (some ⟨p,0,none⟩),.int .u8 v] w fun e w' => e = .returned .nilIface ∧ PB w' B p x (bs ++ [v]) ∧ Pw B p w w':=by
 refine (Tryz.Buffer_WriteByte_at 78 (nowR x) B p 0 (bs.map (Value.int .u8)) v w h (by have:=h.lt;have:=h.base;omega) (one_u8 bs) (by rw [List.length_map];omega)).mono ?_
 rintro e w' ⟨rfl,h2,h3,h4⟩
 exact ⟨rfl,by unfold PB;rw [List.map_append];exact h2,h3,h4⟩
theorem pwrite_none (A : Option Addr) (c : Nat) (w : World) (B p : Nat) (x : A3) (bs : List Int) (h : PB w B p x bs) (hcm : c ≤ 9223372036854775807) :
  Calls Tryz.prog 58 #[.pointer (some ⟨p,0,none⟩),.slice A 0 c] w fun e w' => e = .returned (.tuple #[.int .i64 0,.nilIface]) ∧ PB w' B p x bs ∧ Pw B p w w':=by
 have hB:=h.base
 obtain ⟨-,v0,lr,hbk,-,-⟩:=id h
 have c2 : w.cell? ⟨p,2,none⟩ = some (.int .i8 lr):=hbk.c2
 have f2 : w.frozen? ⟨p,2,none⟩ = false:=h.free 2
 have h' : PB (w.setCell ⟨p,2,none⟩ (.int .i8 0)) B p x bs:=LibA.IsBuffer.setLast h 0
 have hp0 : Pw B p w (w.setCell ⟨p,2,none⟩ (.int .i8 0)):=⟨(Below.refl B w).setCell (p:=⟨p,2,none⟩) hB _,(Lib.OthersKept.refl _ _ w).setCell ⟨p,2,none⟩ rfl _⟩
 clear hbk v0
 have hinfo : (Tryz.prog.info? 5).map (·.size) = some 1:=by kernel_rfl
 have hce : ∀ d dLen dCap W,(Builtin.copy_ #[33,33] 3 #[.slice d dLen dCap,.slice A 0 c]).run Tryz.prog W = .ok (goInt 0) W:=fun d dLen dCap W => run_copy_none W 33 33 3 5 d A dLen dCap 0 c Tryz.underlying33 hinfo (by simp)
 have hT : ∀ W,PB W B p x bs → Calls Tryz.prog 53 #[.pointer (some ⟨p,0,none⟩),.int .i64 0] W _:=fun W hW => Tryz.Buffer_tryGrow_at 78 (nowR x) B p 0 0 (bs.map (Value.int .u8)) W hW
 go_enter Tryz.func58,Tryz.ntmps58
 go_wp2_with (go_at_call 53;refine (hT _ ?_).mono ?_)
 ·exact h'
 rintro e W1 (⟨rfl,xs,hxl,hI,hbel,hk,hg⟩|⟨rfl,rfl,hnr⟩)
 ·clear h' c2 f2 hT
  have hx0 : xs = []:=List.eq_nil_of_length_eq_zero hxl
  subst hx0
  rw [List.append_nil] at hI
  have hpW : Pw B p w W1:=hp0.trans ⟨hbel,hk⟩
  obtain ⟨-,lr2,hc⟩:=LibA.IsBuffer.cases hI
  have hlen : (bs.map (Value.int .u8)).length = bs.length:=List.length_map _
  rcases hc with ⟨hb0,hbk2⟩|⟨g,cap,cur,hbk2,-,-,hnc,hcm2,-,-,-⟩
  ·have d0 : W1.cell? ⟨p,0,none⟩ = some (.slice none 0 0):=hbk2.c0
   obtain rfl : bs = []:=by cases bs with
    | nil => rfl
    | cons a t => simp at hb0
   go_wp2
   all_goals (go_ret2;first|exact ⟨rfl,hI,hpW⟩|exact ⟨by simp,by simpa using hI,hpW⟩)
  ·have d0 : W1.cell? ⟨p,0,none⟩ = some (.slice (some ⟨g,0,none⟩) (bs.map (Value.int .u8)).length cap):=hbk2.c0
   rw [hlen] at d0 hnc
   unfold maxLen at hcm2
   go_wp2
   all_goals (go_ret2;first|exact ⟨rfl,hI,hpW⟩|exact ⟨by simp,by simpa using hI,hpW⟩)
 ·obtain ⟨_,_,_,_,hlt⟩:=hnr
  omega
theorem pwrite_any (v : Value) (xs : List Int) (w : World) (B p : Nat) (x : A3) (bs : List Int) (h : PB w B p x bs) (hv : Sl (.int .u8) w v xs) (hl : bs.length + xs.length ≤ 1000000000) :
  Calls Tryz.prog 58 #[.pointer (some ⟨p,0,none⟩),v] w fun e w' => e = .returned (.tuple #[.int .i64 xs.length,.nilIface]) ∧ PB w' B p x (bs ++ xs) ∧ Pw B p w w':=by
 obtain ⟨A,c,rfl,hc1,hc2,hr⟩:=hv
 cases xs with
 | nil => exact (pwrite_none A c w B p x bs h hc2).mono fun e w' h => by rw [List.append_nil];exact h
 | cons a t =>
  obtain ⟨g,o,rfl,hx⟩:=hr.2 (by simp)
  have h0:=hx 0 (by simp)
  refine (Tryz.Buffer_Write_at 78 (nowR x) B p 0 (bs.map (Value.int .u8)) ((a :: t).map (Value.int .u8)) ⟨g,o,none⟩ (a :: t).length c w h (by have:=h.lt;have:=h.base;omega) (one_u8 bs) (by rw [List.length_map]) (h.ne h0) (fun j u hj => hr.news j u hj) (one_u8 _) (by rw [List.length_map];omega)).mono ?_
  rintro e w' ⟨rfl,h2,h3,h4⟩
  exact ⟨rfl,by unfold PB;rw [List.map_append];exact h2,h3,h4⟩
/-- The painter's bytes, as the call's result. -/
theorem pbytes_any (w : World) (B p : Nat) (x : A3) (bs : List Int) (h : PB w B p x bs) (hl : bs.length ≤ 1000000000) :
  Calls Tryz.prog 36 #[.pointer (some ⟨p,0,none⟩)] w fun e w' => ∃ v,e = .returned v ∧ Sl (.int .u8) w' v bs ∧ Bw w w':=by
 obtain ⟨hB,v,lr,h3,hown,-⟩:=id h
 obtain ⟨A,c,rfl,hc1,hc2⟩:=own_form hown
 have hlen : (bs.map (Value.int .u8)).length = bs.length:=List.length_map _
 have HO:=Lib.hid hown
 rw [hlen] at h3 hc1
 have c0:=h3.c0
 have c1:=h3.c1
 clear h3 hown h
 have HR:=Lib.hid (show Rd (Value.int .u8) w A bs.length bs from by have h1:=own_rd HO.out;rw [hlen] at h1;exact h1)
 cases A with
 | none =>
  have hz:=own_nil HO.out rfl
  obtain rfl : bs = []:=List.eq_nil_of_length_eq_zero (by omega)
  subst hz
  have HY:=Lib.hid (show ∀ w',Bw w w' → (w'.cell? ⟨p,0,none⟩ = some (.slice none 0 0) ∧ w'.cell? ⟨p,1,none⟩ = some (.int .i64 0)) from fun w' hb => ⟨cell_bw hb c0,cell_bw hb c1⟩)
  go_enter Tryz.func36,Tryz.ntmps36
  go_upto_region 1 with (fail)
  refine wp_region_held_drew (S:=(fun w' => w'.cell? ⟨p,0,none⟩ = some (.slice none 0 0) ∧ w'.cell? ⟨p,1,none⟩ = some (.int .i64 0))) (by kernel_rfl) ?_ (fun hHeld => ?_)
  ·(try dsimp only);(refine HY.out _ ?_;exact BWX)
  refine tkQ 0 ?_
  refine tkQ 1 ?_
  refine tkQ 2 ?_
  (try simp only [Act.put,zP1,zP2,zP3,zP4,zP5,zP6])
  refine tkQ 3 ?_
  refine tkQ 4 ?_
  refine tkQ 5 ?_
  (try simp only [Act.put,zP1,zP2,zP3,zP4,zP5,zP6])
  refine tkQ 6 ?_
  refine tkQ 7 ?_
  refine tkQ 8 ?_
  (try simp only [Act.put,zP1,zP2,zP3,zP4,zP5,zP6])
  refine tkQ 9 ?_
  (try simp only [Act.put,zP1,zP2,zP3,zP4,zP5,zP6])
  refine wpAnyH_done (by kernel_rfl) ?_ _
  go_wp2_with fail
  go_ret
  exact ⟨_,rfl,Sl.nil_ _ _ _ (by omega),BWX⟩
 | some ad =>
  have HY:=Lib.hid (show ∀ w',Bw w w' → (w'.cell? ⟨p,0,none⟩ = some (.slice (some ad) bs.length c) ∧ w'.cell? ⟨p,1,none⟩ = some (.int .i64 0)) from fun w' hb => ⟨cell_bw hb c0,cell_bw hb c1⟩)
  go_enter Tryz.func36,Tryz.ntmps36
  go_upto_region 1 with (fail)
  refine wp_region_held_drew (S:=(fun w' => w'.cell? ⟨p,0,none⟩ = some (.slice (some ad) bs.length c) ∧ w'.cell? ⟨p,1,none⟩ = some (.int .i64 0))) (by kernel_rfl) ?_ (fun hHeld => ?_)
  ·(try dsimp only);(refine HY.out _ ?_;exact BWX)
  refine tkQ 0 ?_
  refine tkQ 1 ?_
  (try simp only [Act.put,zP1,zP2,zP3,zP4,zP5,zP6])
  refine tkQ 2 ?_
  refine tkQ 3 ?_
  refine tkQ 4 ?_
  (try simp only [Act.put,zP1,zP2,zP3,zP4,zP5,zP6])
  refine tkQ 5 ?_
  refine tkQ 6 ?_
  refine tkQ 7 ?_
  (try simp only [Act.put,zP1,zP2,zP3,zP4,zP5,zP6])
  refine tkQ 8 ?_
  refine tkQ 9 ?_
  (try simp only [Act.put,zP1,zP2,zP3,zP4,zP5,zP6])
  refine wpAnyH_done (by kernel_rfl) ?_ _
  go_wp2_with fail
  go_ret
  exact ⟨_,rfl,⟨_,_,rfl,hc1,hc2,HR.out.up BWX⟩,BWX⟩
def decL (v : Int) : List Int:=bsI (Lib.decDigits v.toNat)
/-- The bytes that go to a place. -/
def goesL (r c : Int) : List Int:=[27,91] ++ (decL (r + 1) ++ ([59] ++ (decL (c + 1) ++ [72])))
theorem decL_s (v : Int) : bsI (ByteArray.mk (Lib.decDigits v.toNat).toArray).data.toList = decL v:=rfl
theorem digits_len (n : Nat) (h : n < 100) : (Lib.decDigits n).length ≤ 2:=by
 rw [Lib.decDigits]
 split
 ·simp
 ·rw [Lib.decDigits,dif_pos (by omega)]
  simp
theorem decL_len (v : Int) (h : v < 100) : (decL v).length ≤ 2:=by unfold decL bsI;rw [List.length_map];exact digits_len _ (by omega)
theorem goesL_len (r c : Int) (hr : r < 99) (hc : c < 99) : (goesL r c).length ≤ 8:=by
 have h1:=decL_len (r + 1) (by omega)
 have h2:=decL_len (c + 1) (by omega)
 unfold goesL
 simp only [List.length_append,List.length_cons,List.length_nil]
 omega
theorem itoa_any (v : Int) (w : World) (h0 : 0 ≤ v) (h1 : v < 100) : Calls Tryz.prog 89 #[.int .i64 v] w fun e w' => e = .returned (.string ⟨(Lib.decDigits v.toNat).toArray⟩) ∧ w' = w:=by
 have h:=Tryz.strconv_Itoa_small v.toNat (by omega) w
 rw [Int.toNat_of_nonneg h0] at h
 exact h
theorem pstr_of (s : ByteArray) (l : List Int) (w : World) (B p : Nat) (x : A3) (bs : List Int) (hs : bsI s.data.toList = l) (h : PB w B p x bs) (hl : bs.length + l.length ≤ 1000000000) :
  Calls Tryz.prog 30 #[.pointer (some ⟨p,0,none⟩),.string s] w fun e w' => e = .returned (.tuple #[.int .i64 s.size,.nilIface]) ∧ PB w' B p x (bs ++ l) ∧ Pw B p w w':=by
 subst hs
 exact pstr_any s w B p x bs h (by rw [bsI_len] at hl;exact hl)
theorem pvisit_any (r c : Int) (w0 : World) (B p : Nat) (x : A3) (bs : List Int) (h : PB w0 B p x bs) (hr0 : 0 ≤ r) (hr1 : r < 99) (hc0 : 0 ≤ c) (hc1 : c < 99) (hl : bs.length + 100 ≤ 1000000000) :
  Calls Tryz.prog 56 #[.pointer (some ⟨p,0,none⟩),.int .i64 r,.int .i64 c] w0 (PnP w0 B p x (bs ++ goesL r c)):=by
 have HB0:=Lib.hid h
 have HP0:=Lib.hid (Pw.refl B p w0)
 have hd1:=decL_len (r + 1) (by omega)
 have hd2:=decL_len (c + 1) (by omega)
 clear h
 go_enter Tryz.func56,Tryz.ntmps56
 go_upto_region 1 with (first
  | (go_at_call 30;refine (pstr_of ⟨#[27,91]⟩ [27,91] _ B p x bs (by rfl) (HB0.out.up BWX) (by simp only [List.length_append,List.length_cons,List.length_nil];omega)).mono ?_;rintro ee w1 ⟨rfl,h1,p1⟩;have HB1:=Lib.hid h1;have HP1:=Lib.hid (HP0.out.trans ((Pw.bw (show Bw w0 _ from BWX) (Nat.le_trans HB0.out.base (Nat.le_of_lt HB0.out.lt))).trans p1));clear h1 p1)
  | fail)
 refine wp_region_held_drew (S:=(fun _ => True)) (by kernel_rfl) ?_ (fun hHeld => ?_)
 ·(try dsimp only);(try trivial)
 refine tkQ 0 ?_
 (try simp only [Act.put,zP1,zP2,zP3,zP4,zP5,zP6])
 refine tkQ 1 ?_
 refine tkQ 2 ?_
 refine tkQ 3 ?_
 (try simp only [Act.put,zP1,zP2,zP3,zP4,zP5,zP6])
 refine tkQ 4 ?_
 (try simp only [Act.put,zP1,zP2,zP3,zP4,zP5,zP6])
 refine arO 5 (fun K hK => ?_)
 go_simp
 (try rw [IntWalk.i64_in (r + 1) (by omega)]);refine (itoa_any (r + 1) _ (by omega) (by omega)).mono ?_;rintro ee ww ⟨rfl,rfl⟩;go_wp2_with fail
 refine hK.out _ _ ?_ (fun hHeld => ?_)
 ·(try dsimp only);(try trivial)
 clear hK K
 (try simp only [Act.put,zP1,zP2,zP3,zP4,zP5,zP6])
 refine arO 6 (fun K hK => ?_)
 go_simp
 refine (pstr_of ⟨(Lib.decDigits (r + 1).toNat).toArray⟩ (decL (r + 1)) _ B p x (bs ++ [27,91]) (decL_s _) (HB1.out.up BWX) (by simp only [List.length_append,List.length_cons,List.length_nil];omega)).mono ?_;rintro ee w2 ⟨rfl,h2,p2⟩;have HB2:=Lib.hid h2;have HP2:=Lib.hid (HP1.out.trans ((Pw.bw (show Bw w1 _ from BWX) (Nat.le_trans HB1.out.base (Nat.le_of_lt HB1.out.lt))).trans p2));clear h2 p2;go_wp2_with fail
 refine hK.out _ _ ?_ (fun hHeld => ?_)
 ·(try dsimp only);(try trivial)
 clear hK K
 (try simp only [Act.put,zP1,zP2,zP3,zP4,zP5,zP6])
 refine wpAnyH_done (by kernel_rfl) ?_ _
 go_upto_region 3 with (first
  | (go_at_call 90;refine (pbyte_any 59 _ B p x (bs ++ [27,91] ++ decL (r + 1)) (HB2.out.up BWX) (by simp only [List.length_append,List.length_cons,List.length_nil];omega)).mono ?_;rintro ee w3 ⟨rfl,h3,p3⟩;have HB3:=Lib.hid h3;have HP3:=Lib.hid (HP2.out.trans ((Pw.bw (show Bw w2 _ from BWX) (Nat.le_trans HB2.out.base (Nat.le_of_lt HB2.out.lt))).trans p3));clear h3 p3)
  | fail)
 refine wp_region_held_drew (S:=(fun _ => True)) (by kernel_rfl) ?_ (fun hHeld => ?_)
 ·(try dsimp only);(try trivial)
 refine tkQ 0 ?_
 refine tkQ 1 ?_
 (try simp only [Act.put,zP1,zP2,zP3,zP4,zP5,zP6])
 refine tkQ 2 ?_
 refine tkQ 3 ?_
 refine tkQ 4 ?_
 (try simp only [Act.put,zP1,zP2,zP3,zP4,zP5,zP6])
 refine arO 5 (fun K hK => ?_)
 go_simp
 (try rw [IntWalk.i64_in (c + 1) (by omega)]);refine (itoa_any (c + 1) _ (by omega) (by omega)).mono ?_;rintro ee ww ⟨rfl,rfl⟩;go_wp2_with fail
 refine hK.out _ _ ?_ (fun hHeld => ?_)
 ·(try dsimp only);(try trivial)
 clear hK K
 (try simp only [Act.put,zP1,zP2,zP3,zP4,zP5,zP6])
 refine arO 6 (fun K hK => ?_)
 go_simp
 refine (pstr_of ⟨(Lib.decDigits (c + 1).toNat).toArray⟩ (decL (c + 1)) _ B p x (bs ++ [27,91] ++ decL (r + 1) ++ [59]) (decL_s _) (HB3.out.up BWX) (by simp only [List.length_append,List.length_cons,List.length_nil];omega)).mono ?_;rintro ee w4 ⟨rfl,h4,p4⟩;have HB4:=Lib.hid h4;have HP4:=Lib.hid (HP3.out.trans ((Pw.bw (show Bw w3 _ from BWX) (Nat.le_trans HB3.out.base (Nat.le_of_lt HB3.out.lt))).trans p4));clear h4 p4;go_wp2_with fail
 refine hK.out _ _ ?_ (fun hHeld => ?_)
 ·(try dsimp only);(try trivial)
 clear hK K
 (try simp only [Act.put,zP1,zP2,zP3,zP4,zP5,zP6])
 refine wpAnyH_done (by kernel_rfl) ?_ _
 go_wp2_with (first
  | (go_at_call 90;refine (pbyte_any 72 _ B p x (bs ++ [27,91] ++ decL (r + 1) ++ [59] ++ decL (c + 1)) (HB4.out.up BWX) (by simp only [List.length_append,List.length_cons,List.length_nil];omega)).mono ?_;rintro ee w5 ⟨rfl,h5,p5⟩;have HB5:=Lib.hid h5;have HP5:=Lib.hid (HP4.out.trans ((Pw.bw (show Bw w4 _ from BWX) (Nat.le_trans HB4.out.base (Nat.le_of_lt HB4.out.lt))).trans p5));clear h5 p5)
  | fail)
 go_end0
 exact ⟨rfl,by have h5:=HB5.out;simp only [List.append_assoc] at h5;exact h5,HP5.out⟩
def hideL (hid : Bool) : List Int:=if hid then [27,91,63,50,53,108] else [27,91,63,50,53,104]
theorem pcursor_any (hid : Bool) (w0 : World) (B p : Nat) (x : A3) (bs : List Int) (h : PB w0 B p x bs) (hl : bs.length + 100 ≤ 1000000000) :
  Calls Tryz.prog 35 #[.pointer (some ⟨p,0,none⟩),.bool hid] w0 (PnP w0 B p x (bs ++ hideL hid)):=by
 have HB0:=Lib.hid h
 have HP0:=Lib.hid (Pw.refl B p w0)
 clear h
 cases hid
 ·go_enter Tryz.func35,Tryz.ntmps35
  go_wp2_with (first
   | (go_at_call 30;refine (pstr_of ⟨#[27,91,63,50,53,104]⟩ [27,91,63,50,53,104] _ B p x bs (by rfl) (HB0.out.up BWX) (by simp only [List.length_append,List.length_cons,List.length_nil];omega)).mono ?_;rintro ee w1 ⟨rfl,h1,p1⟩;have HB1:=Lib.hid h1;have HP1:=Lib.hid (HP0.out.trans ((Pw.bw (show Bw w0 _ from BWX) (Nat.le_trans HB0.out.base (Nat.le_of_lt HB0.out.lt))).trans p1));clear h1 p1)
   | fail)
  go_end0
  exact ⟨rfl,HB1.out,HP1.out⟩
 ·go_enter Tryz.func35,Tryz.ntmps35
  go_wp2_with (first
   | (go_at_call 30;refine (pstr_of ⟨#[27,91,63,50,53,108]⟩ [27,91,63,50,53,108] _ B p x bs (by rfl) (HB0.out.up BWX) (by simp only [List.length_append,List.length_cons,List.length_nil];omega)).mono ?_;rintro ee w1 ⟨rfl,h1,p1⟩;have HB1:=Lib.hid h1;have HP1:=Lib.hid (HP0.out.trans ((Pw.bw (show Bw w0 _ from BWX) (Nat.le_trans HB0.out.base (Nat.le_of_lt HB0.out.lt))).trans p1));clear h1 p1)
   | fail)
  go_end0
  exact ⟨rfl,HB1.out,HP1.out⟩
theorem PowT.bump {B : Nat} {w w' : World} (h : PowT B w) (hb : Below B w w') : PowT w'.heap.size w':=Lib.tabBelow_of_tabIs (h w' hb)
theorem PowT.on {B : Nat} {w w' : World} (h : PowT B w) (hb : Below B w w') : PowT B w':=fun w2 hb2 => h w2 (hb.trans hb2)
/-- Block k holds the cells cs. -/
def Kb (w : World) (k : Nat) (cs : Array Value) (T : TypeId) : Prop:=w.heap[k]? = some (.cells cs T (0,0))
theorem Kb.cell {w : World} {k : Nat} {cs : Array Value} {T : TypeId} (h : Kb w k cs T) (i : Nat) {v : Value} (hv : cs[i]? = some v) : w.cell? ⟨k,i,none⟩ = some v:=by rw [cell_of_row w k i cs T (0,0) h];exact hv
theorem Kb.up {w w' : World} {k : Nat} {cs : Array Value} {T : TypeId} (h : Kb w k cs T) (hb : Bw w w') : Kb w' k cs T:=(hb.block k (lt_heap h)).trans h
theorem Kb.pw {B p : Nat} {w w' : World} {k : Nat} {cs : Array Value} {T : TypeId} (h : Kb w k cs T) (hp : Pw B p w w') (hk : k ≠ p) (hT : T ≠ 5) : Kb w' k cs T:=hp.2 k _ h (fun e => hk (Option.some.inj e)) (fun c fz e => hT (by injection e))
theorem kb1 {w w1 : World} {cs : Array Value} {T : TypeId} (h : w.alloc (.cells cs T) = w1) : Kb w1 w.heap.size cs T ∧ Bw w w1 ∧ w1.heap.size = w.heap.size + 1:=by
 subst h
 exact ⟨heap_alloc_new _ _,BWX,by simp⟩
theorem PB.setPw {w : World} {B p : Nat} {x : A3} {bs : List Int} (h : PB w B p x bs) (a b c : Value) : Pw B p w (((w.setCell ⟨p,3,none⟩ a).setCell ⟨p,4,none⟩ b).setCell ⟨p,5,none⟩ c) :=
 ⟨(((Below.refl B w).setCell (p:=⟨p,3,none⟩) h.base _).setCell (p:=⟨p,4,none⟩) h.base _).setCell (p:=⟨p,5,none⟩) h.base _,(((Lib.OthersKept.refl _ _ w).setCell ⟨p,3,none⟩ rfl _).setCell ⟨p,4,none⟩ rfl _).setCell ⟨p,5,none⟩ rfl _⟩
theorem bts_len (x y : A3) : (bts x y).length ≤ 120:=by
 unfold bts
 split
 ·simp
 ·obtain ⟨h1,h2⟩:=fullN_bd _ _ _ (effA_valid y)
  have h3:=bytesOf_len (fullN (effA y).1 (effA y).2.1 (effA y).2.2) (fun d hd => ⟨(h1 d hd).1,by have:=(h1 d hd).2;omega⟩)
  rw [List.length_append,List.length_singleton]
  omega
theorem pbecome_any (y1 y2 y3 : Int) (w0 : World) (B p : Nat) (x1 x2 x3 : Int) (bs : List Int) (h : PB w0 B p (x1,x2,x3) bs) (ht : PowT B w0) (hl : bs.length + 200 ≤ 1000000000) :
  Calls Tryz.prog 57 #[.pointer (some ⟨p,0,none⟩),.agg #[.int .i64 y1,.int .i64 y2,.int .i64 y3]] w0 (PnP w0 B p (y1,y2,y3) (bs ++ bts (x1,x2,x3) (y1,y2,y3))):=by
 have hlt:=h.lt
 have hbase:=h.base
 have HB:=Lib.hid h
 have HT:=Lib.hid ht
 have hbl:=bts_len (x1,x2,x3) (y1,y2,y3)
 clear h ht
 go_enter Tryz.func57,Tryz.ntmps57
 go_upto_region 1 with (fail)
 generalize hw1 : w0.alloc _ = w1
 obtain ⟨hk1,hb1,hz1⟩:=kb1 hw1
 have HK1:=Lib.hid hk1
 have HB1:=Lib.hid (HB.out.up hb1)
 have HP1:=Lib.hid (Pw.bw (p:=p) hb1 (by omega : B ≤ w0.heap.size))
 obtain ⟨k,hk⟩ : ∃ k,k = w0.heap.size:=⟨_,rfl⟩
 rw [← hk] at HK1 ⊢
 have hkp : k ≠ p:=by omega
 have HY:=Lib.hid (show ∀ w',Bw w1 w' → (w'.cell? ⟨p,3,none⟩ = some (.int .i64 x1) ∧ w'.cell? ⟨p,4,none⟩ = some (.int .i64 x2) ∧ w'.cell? ⟨p,5,none⟩ = some (.int .i64 x3) ∧ w'.cell? ⟨k,0,none⟩ = some (.int .i64 y1) ∧ w'.cell? ⟨k,1,none⟩ = some (.int .i64 y2) ∧ w'.cell? ⟨k,2,none⟩ = some (.int .i64 y3)) from fun w' hb => ⟨(HB1.out.up hb).now.1,(HB1.out.up hb).now.2.1,(HB1.out.up hb).now.2.2,(HK1.out.up hb).cell 0 rfl,(HK1.out.up hb).cell 1 rfl,(HK1.out.up hb).cell 2 rfl⟩)
 clear hw1 hk1 hk
 refine wp_region_held_drew (S:=(fun w' => w'.cell? ⟨p,3,none⟩ = some (.int .i64 x1) ∧ w'.cell? ⟨p,4,none⟩ = some (.int .i64 x2) ∧ w'.cell? ⟨p,5,none⟩ = some (.int .i64 x3) ∧ w'.cell? ⟨k,0,none⟩ = some (.int .i64 y1) ∧ w'.cell? ⟨k,1,none⟩ = some (.int .i64 y2) ∧ w'.cell? ⟨k,2,none⟩ = some (.int .i64 y3))) (by kernel_rfl) ?_ (fun hHeld => ?_)
 ·(try dsimp only);(first|(refine HY.out _ ?_;(repeat (first|with_reducible (first|assumption|exact Bw.refl _|refine Bw.alloc ?_ _|refine Bw.more ?_ _ _|refine Bw.drew ?_|refine Bw.drewN ?_ _)|((with_reducible refine Bw.set2 ?_ ?_ _);(focus exact SZX))|with_reducible refine Bw.trans ?_ (by assumption)));done)|(refine HY3.out _ ?_;(repeat (first|with_reducible (first|assumption|exact Bw.refl _|refine Bw.alloc ?_ _|refine Bw.more ?_ _ _|refine Bw.drew ?_|refine Bw.drewN ?_ _)|((with_reducible refine Bw.set2 ?_ ?_ _);(focus exact SZX))|with_reducible refine Bw.trans ?_ (by assumption)));done))
 refine tkQ 0 ?_
 refine tkQ 1 ?_
 refine tkQ 2 ?_
 (try simp only [Act.put,zP1,zP2,zP3,zP4,zP5,zP6])
 refine tkQ 3 ?_
 refine tkQ 4 ?_
 refine tkQ 5 ?_
 (try simp only [Act.put,zP1,zP2,zP3,zP4,zP5,zP6])
 refine tkQ 6 ?_
 refine tkQ 7 ?_
 (try simp only [Act.put,zP1,zP2,zP3,zP4,zP5,zP6])
 refine arO 8 (fun K hK => ?_)
 go_simp
 refine (bytes_any x1 x2 x3 y1 y2 y3 _ (PowT.bump (PowT.on HT.out HP1.out.1) (show Below B w1 _ from Below.mono (show Bw w1 _ from BWX) (by omega)))).mono ?_;rintro ee w2 ⟨v,rfl,hv,hb2⟩;have hbw2 : Bw w1 w2:=Bw.trans (show Bw w1 _ from BWX) hb2;have HV:=Lib.hid hv;have HB2:=Lib.hid (HB1.out.up hbw2);have HP2:=Lib.hid (HP1.out.trans (Pw.bw (p:=p) hbw2 (by omega : B ≤ w1.heap.size)));have HK2:=Lib.hid (HK1.out.up hbw2);clear hv hb2;go_wp2_with fail
 refine hK.out _ _ ?_ (fun hHeld => ?_)
 ·(try dsimp only);(first|(refine HY.out _ ?_;(repeat (first|with_reducible (first|assumption|exact Bw.refl _|refine Bw.alloc ?_ _|refine Bw.more ?_ _ _|refine Bw.drew ?_|refine Bw.drewN ?_ _)|((with_reducible refine Bw.set2 ?_ ?_ _);(focus exact SZX))|with_reducible refine Bw.trans ?_ (by assumption)));done)|(refine HY3.out _ ?_;(repeat (first|with_reducible (first|assumption|exact Bw.refl _|refine Bw.alloc ?_ _|refine Bw.more ?_ _ _|refine Bw.drew ?_|refine Bw.drewN ?_ _)|((with_reducible refine Bw.set2 ?_ ?_ _);(focus exact SZX))|with_reducible refine Bw.trans ?_ (by assumption)));done))
 clear hK K
 (try simp only [Act.put,zP1,zP2,zP3,zP4,zP5,zP6])
 refine arO 9 (fun K hK => ?_)
 go_simp
 refine (pwrite_any _ _ _ B p (x1,x2,x3) bs (HB2.out.up BWX) (HV.out.up BWX) (by omega)).mono ?_;rintro ee w3 ⟨rfl,h3,p3⟩;have HB3:=Lib.hid h3;have HP23:=Lib.hid ((Pw.bw (p:=p) (show Bw w2 _ from BWX) (by have:=hbw2.size;omega : B ≤ w2.heap.size)).trans p3);have HK3:=Lib.hid (HK2.out.pw HP23.out hkp (by decide));have HY3:=Lib.hid (show ∀ w',Bw w3 w' → (w'.cell? ⟨p,3,none⟩ = some (.int .i64 x1) ∧ w'.cell? ⟨p,4,none⟩ = some (.int .i64 x2) ∧ w'.cell? ⟨p,5,none⟩ = some (.int .i64 x3) ∧ w'.cell? ⟨k,0,none⟩ = some (.int .i64 y1) ∧ w'.cell? ⟨k,1,none⟩ = some (.int .i64 y2) ∧ w'.cell? ⟨k,2,none⟩ = some (.int .i64 y3)) from fun w' hb => ⟨(HB3.out.up hb).now.1,(HB3.out.up hb).now.2.1,(HB3.out.up hb).now.2.2,(HK3.out.up hb).cell 0 rfl,(HK3.out.up hb).cell 1 rfl,(HK3.out.up hb).cell 2 rfl⟩);clear h3 p3;go_wp2_with fail
 refine hK.out _ _ ?_ (fun hHeld => ?_)
 ·(try dsimp only);(first|(refine HY.out _ ?_;(repeat (first|with_reducible (first|assumption|exact Bw.refl _|refine Bw.alloc ?_ _|refine Bw.more ?_ _ _|refine Bw.drew ?_|refine Bw.drewN ?_ _)|((with_reducible refine Bw.set2 ?_ ?_ _);(focus exact SZX))|with_reducible refine Bw.trans ?_ (by assumption)));done)|(refine HY3.out _ ?_;(repeat (first|with_reducible (first|assumption|exact Bw.refl _|refine Bw.alloc ?_ _|refine Bw.more ?_ _ _|refine Bw.drew ?_|refine Bw.drewN ?_ _)|((with_reducible refine Bw.set2 ?_ ?_ _);(focus exact SZX))|with_reducible refine Bw.trans ?_ (by assumption)));done))
 clear hK K
 (try simp only [Act.put,zP1,zP2,zP3,zP4,zP5,zP6])
 refine wpAnyH_done (by kernel_rfl) ?_ _
 obtain ⟨q0,q1,q2,b0,b1,b2⟩:=HY3.out w3 (Bw.refl _)
 have z3:=HB3.out.free 3
 have z4:=HB3.out.free 4
 have z5:=HB3.out.free 5
 have hlt3:=HB3.out.lt
 have hltk:=lt_heap HK3.out
 go_wp2_with fail
 go_end0
 exact ⟨rfl,HB3.out.set (y1,y2,y3),HP2.out.trans (HP23.out.trans (HB3.out.setPw _ _ _))⟩
theorem pend_any (R C : Int) (A : Option Addr) (n c : Nat) (row col : Int) (hid : Bool) (w0 : World) (B p : Nat) (x1 x2 x3 : Int) (bs : List Int) (h : PB w0 B p (x1,x2,x3) bs) (ht : PowT B w0) (hr0 : 0 ≤ row) (hr1 : row < 99) (hc0 : 0 ≤ col) (hc1 : col < 99) (hl : bs.length + 400 ≤ 1000000000) :
  Calls Tryz.prog 34 #[.pointer (some ⟨p,0,none⟩),.agg #[.int .i64 R,.int .i64 C,.slice A n c,.int .i64 row,.int .i64 col,.bool hid]] w0 (PnP w0 B p (0,0,0) (bs ++ bts (x1,x2,x3) (0,0,0) ++ goesL row col)):=by
 have hlt:=h.lt
 have hbase:=h.base
 have HB:=Lib.hid h
 have HT:=Lib.hid ht
 have hbl:=bts_len (x1,x2,x3) (0,0,0)
 clear h ht
 go_enter Tryz.func34,Tryz.ntmps34
 go_upto_region 1 with (fail)
 generalize hw1 : w0.alloc _ = w1
 obtain ⟨hk1,hb1,hz1⟩:=kb1 hw1
 have HK1:=Lib.hid hk1
 have HB1:=Lib.hid (HB.out.up hb1)
 have HP1:=Lib.hid (Pw.bw (p:=p) hb1 (by omega : B ≤ w0.heap.size))
 obtain ⟨k,hk⟩ : ∃ k,k = w0.heap.size:=⟨_,rfl⟩
 rw [← hk] at HK1 ⊢
 have hkp : k ≠ p:=by omega
 clear hw1 hk1 hk
 go_upto_region 2 with (first
  | (go_at_call 57;refine (pbecome_any 0 0 0 _ B p x1 x2 x3 bs (HB1.out.up BWX) (HT.out.on (HP1.out.trans (Pw.bw (p:=p) (show Bw w1 _ from BWX) (by omega : B ≤ w1.heap.size))).1) (by omega)).mono ?_;rintro ee w2 ⟨rfl,h2,p2⟩;have HB2:=Lib.hid h2;have HP2:=Lib.hid ((Pw.bw (p:=p) (show Bw w1 _ from BWX) (by omega : B ≤ w1.heap.size)).trans p2);have HK2:=Lib.hid (HK1.out.pw HP2.out hkp (by decide));clear h2 p2)
  | fail)
 have b1:=HK2.out.cell 3 (v:=.int .i64 row) rfl
 have b2:=HK2.out.cell 4 (v:=.int .i64 col) rfl
 have hltk:=lt_heap HK2.out
 have hlt2:=HB2.out.lt
 go_wp2_with (first
  | (go_at_call 56;refine (pvisit_any row col _ B p (0,0,0) (bs ++ bts (x1,x2,x3) (0,0,0)) (HB2.out.up BWX) hr0 hr1 hc0 hc1 (by rw [List.length_append];omega)).mono ?_;rintro ee w3 ⟨rfl,h3,p3⟩;have HB3:=Lib.hid h3;have HP3:=Lib.hid ((Pw.bw (p:=p) (show Bw w2 _ from BWX) (by omega : B ≤ w2.heap.size)).trans p3);clear h3 p3)
  | fail)
 go_end0
 exact ⟨rfl,HB3.out,HP1.out.trans (HP2.out.trans HP3.out)⟩
def atr (c : C4) : A3:=(c.2.1,c.2.2.1,c.2.2.2)
/-- The bytes that paint cells, and the attributes behind them. -/
def pntA : A3 → List C4 → A3
 | x,[] => x
 | _,c :: cs => pntA (atr c) cs
def pntB : A3 → List C4 → List Int
 | _,[] => []
 | x,c :: cs => bts x (atr c) ++ (encN c.1 ++ pntB (atr c) cs)
theorem pntA_snoc : ∀ (cs : List C4) (x : A3) (c : C4),pntA x (cs ++ [c]) = atr c
 | [],_,_ => rfl
 | _ :: cs,_,c => pntA_snoc cs _ c
theorem pntB_snoc : ∀ (cs : List C4) (x : A3) (c : C4),pntB x (cs ++ [c]) = pntB x cs ++ (bts (pntA x cs) (atr c) ++ encN c.1)
 | [],x,c => by simp [pntB,pntA]
 | d :: cs,x,c => by
  show bts x (atr d) ++ (encN d.1 ++ pntB (atr d) (cs ++ [c])) = _
  rw [pntB_snoc cs (atr d) c]
  simp [pntB,pntA,List.append_assoc]
theorem encN_len (r : Int) : (encN r).length ≤ 4:=by
 unfold encN encC
 repeat' split
 all_goals simp
theorem pntB_len : ∀ (cs : List C4) (x : A3),(pntB x cs).length ≤ 124 * cs.length
 | [],_ => by simp [pntB]
 | c :: cs,x => by
  have h1:=bts_len x (atr c)
  have h2:=encN_len c.1
  have h3:=pntB_len cs (atr c)
  simp only [pntB,List.length_append,List.length_cons]
  omega
/-- The cells lie in a block of cells. -/
def CelT (w : World) (A : Option Addr) : Prop:=∀ ad,A = some ad → ∃ cur fr,w.heap[ad.block]? = some (.cells cur 70 fr)
theorem CelT.up {w w' : World} {A : Option Addr} (h : CelT w A) (hb : Bw w w') : CelT w' A:=fun ad e => by
 obtain ⟨cur,fr,h1⟩:=h ad e
 exact ⟨cur,fr,(hb.block _ (lt_heap h1)).trans h1⟩
theorem PB.tag {w : World} {B p : Nat} {x : A3} {bs : List Int} (h : PB w B p x bs) {cur : Array Value} {t : TypeId} {fr : Nat × Nat} (hc : w.heap[p]? = some (.cells cur t fr)) : t = 78:=by
 obtain ⟨-,v,lr,h3,-⟩:=h
 exact h3.tag hc
theorem CelT.same {B p : Nat} {w w' : World} {A : Option Addr} {x : A3} {bs : List Int} (h : CelT w A) (hb : PB w B p x bs) (hp : Pw B p w w') : ∀ ad,A = some ad → w'.heap[ad.block]? = w.heap[ad.block]?:=fun ad e => by
 obtain ⟨cur,fr,h1⟩:=h ad e
 rw [h1]
 refine hp.2 _ _ h1 (fun e2 => ?_) (fun c fz e2 => ?_)
 ·have e3:=Option.some.inj e2
  rw [e3] at h1
  have:=hb.tag h1
  revert this;decide
 ·injection e2 with _ e3 _
  revert e3;decide
theorem CelT.pw {B p : Nat} {w w' : World} {A : Option Addr} {x : A3} {bs : List Int} (h : CelT w A) (hb : PB w B p x bs) (hp : Pw B p w w') : CelT w' A:=fun ad e => by
 obtain ⟨cur,fr,h1⟩:=h ad e
 exact ⟨cur,fr,(h.same hb hp ad e).trans h1⟩
theorem Rg.same {w w' : World} {A : Option Addr} {n : Nat} {cs : List C4} (h : Rg w A n cs) (hb : ∀ ad,A = some ad → w'.heap[ad.block]? = w.heap[ad.block]?) : Rg w' A n cs:=by
 refine ⟨h.1,fun h0 => ?_⟩
 obtain ⟨g,o,e,hx⟩:=h.2 h0
 have hc : ∀ i,w'.cell? ⟨g,i,none⟩ = w.cell? ⟨g,i,none⟩:=fun i => World.cell?_of_block (show w'.heap[g]? = w.heap[g]? from hb _ e)
 refine ⟨g,o,e,fun i hi => ?_⟩
 obtain ⟨h1,h2,h3,h4⟩:=hx i hi
 exact ⟨(hc _).trans h1,(hc _).trans h2,(hc _).trans h3,(hc _).trans h4⟩
theorem own_celT {w : World} {base : Nat} {A : Option Addr} {n c m : Nat} {xs : List Value} (h : w.ownsRow base 70 4 (.slice A n c) m xs) : CelT w A:=fun ad e => by
 rcases h.2 with ⟨h1,-⟩|⟨g,cap,cur,h1,_,h3,_⟩
 ·cases h1;cases e
 ·cases h1;cases e;exact ⟨_,_,h3⟩
theorem ppaint_any (row col : Int) (A : Option Addr) (n c : Nat) (cs : List C4) (w0 : World) (B p : Nat) (x : A3) (bs : List Int) (h : PB w0 B p x bs) (ht : PowT B w0) (hr : Rg w0 A n cs) (hct : CelT w0 A) (hn : n ≤ c) (hc : c ≤ 9223372036854775807) (hr0 : 0 ≤ row) (hr1 : row < 99) (hc0 : 0 ≤ col) (hc1 : col < 99) (hn3 : n ≤ 3000) (hl : bs.length + 400000 ≤ 1000000000) :
  Calls Tryz.prog 33 #[.pointer (some ⟨p,0,none⟩),.int .i64 row,.int .i64 col,.slice A n c] w0 (PnP w0 B p (pntA x cs) (bs ++ goesL row col ++ pntB x cs)):=by
 have hlt:=h.lt
 have hbase:=h.base
 have HB:=Lib.hid h
 have HT:=Lib.hid ht
 have HR:=Lib.hid hr
 have HC:=Lib.hid hct
 have hgl:=goesL_len row col hr1 hc1
 clear h ht hr hct
 go_enter Tryz.func33,Tryz.ntmps33
 go_upto_region 1 with (first
  | (go_at_call 56;refine (pvisit_any row col _ B p x bs (HB.out.up BWX) hr0 hr1 hc0 hc1 (by omega)).mono ?_;rintro ee w1 ⟨rfl,h1,p1⟩;have HB1:=Lib.hid h1;have HP1:=Lib.hid ((Pw.bw (p:=p) (show Bw w0 _ from BWX) (by omega : B ≤ w0.heap.size)).trans p1);clear h1 p1)
  | fail)
 have HC1:=Lib.hid (HC.out.pw HB.out HP1.out)
 have HR1:=Lib.hid (HR.out.same (HC.out.same HB.out HP1.out))
 go_wp2_with fail
 go_loopw [16] (fun i wr => ∃ k : Nat,i = .int .i64 k ∧ k ≤ n ∧ PB wr B p (pntA x (cs.take k)) (bs ++ goesL row col ++ pntB x (cs.take k)) ∧ Pw B p w1 wr) (fun i _ => n - (intOf i).toNat)
 case atStart => exact ⟨0,rfl,by omega,by rw [List.take_zero];show PB _ B p x (bs ++ goesL row col ++ []);rw [List.append_nil];exact HB1.out,Pw.refl _ _ _⟩
 case round =>
  obtain ⟨wz,hwz⟩ : ∃ wz : World,wz = wr:=⟨_,rfl⟩
  subst hwz
  obtain ⟨k,rfl,hk,hbz,hpz⟩:=hrel
  have HBZ:=Lib.hid hbz
  have HPZ:=Lib.hid hpz
  have hltz:=hbz.lt
  by_cases hlt2 : k < n
  ·have hlen:=HR1.out.1
   obtain ⟨g,o,rfl,hx⟩:=(HR1.out.same (HC1.out.same HB1.out hpz)).2 (by omega)
   have h1:=hx k (by omega)
   obtain ⟨⟨d1,d2,d3,d4⟩,hd⟩ : ∃ d,d = cs[k]'(by omega):=⟨_,rfl⟩
   rw [← hd] at h1
   have HTK:=Lib.hid (show cs.take (k + 1) = cs.take k ++ [(d1,d2,d3,d4)] by rw [hd,List.take_add_one,List.getElem?_eq_getElem (by omega)];rfl)
   obtain ⟨a0,a1,a2,a3⟩:=h1
   dsimp only at a0 a1 a2 a3
   have e0 : (0 : Int) ≤ k:=by omega
   have e1 : (k : Int) < n:=by omega
   have hkl : (cs.take k).length ≤ k:=by rw [List.length_take];exact Nat.min_le_left _ _
   have hpl:=pntB_len (cs.take k) x
   obtain ⟨l,hl2⟩ : ∃ l,bs ++ goesL row col ++ pntB x (cs.take k) = l:=⟨_,rfl⟩
   have hll : l.length ≤ bs.length + 8 + 124 * k:=by rw [← hl2,List.length_append,List.length_append];omega
   obtain ⟨⟨x1,x2,x3⟩,hxx⟩ : ∃ y,pntA x (cs.take k) = y:=⟨_,rfl⟩
   rw [hl2,hxx] at HBZ
   have HL:=Lib.hid (And.intro hl2 hxx)
   have hgz : g < wz.heap.size:=lt_of_cell a0
   clear hbz hpz hx hd hlen hl2 hxx hpl hkl
   go_upto_region 4 with (fail)
   generalize hwx : wz.alloc (.cells #[.int .i64 d1,.int .i64 d2,.int .i64 d3,.int .i64 d4] 70) = wx
   obtain ⟨hbx,hbwx,hzx⟩:=kb1 hwx
   have HX:=Lib.hid hbx
   obtain ⟨kb,hkb⟩ : ∃ kb,kb = wz.heap.size:=⟨_,rfl⟩
   rw [← hkb] at HX ⊢
   have hkp : kb ≠ p:=by omega
   have HBX:=Lib.hid (HBZ.out.up hbwx)
   have HPX:=Lib.hid (HPZ.out.trans (Pw.bw (p:=p) hbwx (by omega : B ≤ wz.heap.size)))
   have y1:=HX.out.cell 1 (v:=.int .i64 d2) rfl
   have y2:=HX.out.cell 2 (v:=.int .i64 d3) rfl
   have y3:=HX.out.cell 3 (v:=.int .i64 d4) rfl
   have hltx:=lt_heap HX.out
   clear hwx hbx a0 a1 a2 a3 hbwx hkb
   go_upto_region 5 with (first
    | (go_at_call 57;refine (pbecome_any d2 d3 d4 _ B p x1 x2 x3 l (HBX.out.up BWX) (HT.out.on (HP1.out.trans (HPX.out.trans (Pw.bw (p:=p) (show Bw wx _ from BWX) (by omega : B ≤ wx.heap.size)))).1) (by omega)).mono ?_;rintro ee w5 ⟨rfl,h5,p5⟩;have HB5:=Lib.hid h5;have HP5:=Lib.hid ((Pw.bw (p:=p) (show Bw wx _ from BWX) (by omega : B ≤ wx.heap.size)).trans p5);have HX5:=Lib.hid (HX.out.pw HP5.out hkp (by decide));clear h5 p5 y1 y2 y3)
    | fail)
   have hlt5:=HB5.out.lt
   have hltx5:=lt_heap HX5.out
   have hbt:=bts_len (x1,x2,x3) (d2,d3,d4)
   have hen:=encN_len d1
   have HY:=Lib.hid (show ∀ w',Bw w5 w' → w'.cell? ⟨kb,0,none⟩ = some (.int .i64 d1) from fun w' hb => (HX5.out.up hb).cell 0 rfl)
   refine wp_region_held_drew (S:=(fun w' => w'.cell? ⟨kb,0,none⟩ = some (.int .i64 d1))) (by kernel_rfl) ?_ (fun hHeld => ?_)
   ·(try dsimp only);(first|(refine HY.out _ ?_;(repeat (first|with_reducible (first|assumption|exact Bw.refl _|refine Bw.alloc ?_ _|refine Bw.more ?_ _ _|refine Bw.drew ?_|refine Bw.drewN ?_ _)|((with_reducible refine Bw.set2 ?_ ?_ _);(focus exact SZX))|with_reducible refine Bw.trans ?_ (by assumption)));done)|(refine HY7.out _ ?_;(repeat (first|with_reducible (first|assumption|exact Bw.refl _|refine Bw.alloc ?_ _|refine Bw.more ?_ _ _|refine Bw.drew ?_|refine Bw.drewN ?_ _)|((with_reducible refine Bw.set2 ?_ ?_ _);(focus exact SZX))|with_reducible refine Bw.trans ?_ (by assumption)));done))
   refine tkQ 0 ?_
   (try simp only [Act.put,zP1,zP2,zP3,zP4,zP5,zP6])
   refine tkQ 1 ?_
   refine tkQ 2 ?_
   refine tkQ 3 ?_
   (try simp only [Act.put,zP1,zP2,zP3,zP4,zP5,zP6])
   refine tkQ 4 ?_
   (try simp only [Act.put,zP1,zP2,zP3,zP4,zP5,zP6])
   refine arO 5 (fun K hK => ?_)
   go_simp
   refine (encode_any d1 _).mono ?_;rintro ee w6 ⟨v,rfl,hv,hb6⟩;have hbw6 : Bw w5 w6:=Bw.trans (show Bw w5 _ from BWX) hb6;have HV:=Lib.hid hv;have HB6:=Lib.hid (HB5.out.up hbw6);clear hv hb6;go_wp2_with fail
   refine hK.out _ _ ?_ (fun hHeld => ?_)
   ·(try dsimp only);(first|(refine HY.out _ ?_;(repeat (first|with_reducible (first|assumption|exact Bw.refl _|refine Bw.alloc ?_ _|refine Bw.more ?_ _ _|refine Bw.drew ?_|refine Bw.drewN ?_ _)|((with_reducible refine Bw.set2 ?_ ?_ _);(focus exact SZX))|with_reducible refine Bw.trans ?_ (by assumption)));done)|(refine HY7.out _ ?_;(repeat (first|with_reducible (first|assumption|exact Bw.refl _|refine Bw.alloc ?_ _|refine Bw.more ?_ _ _|refine Bw.drew ?_|refine Bw.drewN ?_ _)|((with_reducible refine Bw.set2 ?_ ?_ _);(focus exact SZX))|with_reducible refine Bw.trans ?_ (by assumption)));done))
   clear hK K
   (try simp only [Act.put,zP1,zP2,zP3,zP4,zP5,zP6])
   refine arO 6 (fun K hK => ?_)
   go_simp
   refine (pwrite_any _ (encN d1) _ B p (d2,d3,d4) (l ++ bts (x1,x2,x3) (d2,d3,d4)) (HB6.out.up BWX) (HV.out.up BWX) (by rw [List.length_append];omega)).mono ?_;rintro ee w7 ⟨rfl,h7,p7⟩;have HB7:=Lib.hid h7;have HP57:=Lib.hid ((Pw.bw (p:=p) (Bw.trans hbw6 (show Bw w6 _ from BWX)) (by omega : B ≤ w5.heap.size)).trans p7);have HX7:=Lib.hid (HX5.out.pw HP57.out hkp (by decide));have HY7:=Lib.hid (show ∀ w',Bw w7 w' → w'.cell? ⟨kb,0,none⟩ = some (.int .i64 d1) from fun w' hb => (HX7.out.up hb).cell 0 rfl);clear h7 p7;go_wp2_with fail
   refine hK.out _ _ ?_ (fun hHeld => ?_)
   ·(try dsimp only);(first|(refine HY.out _ ?_;(repeat (first|with_reducible (first|assumption|exact Bw.refl _|refine Bw.alloc ?_ _|refine Bw.more ?_ _ _|refine Bw.drew ?_|refine Bw.drewN ?_ _)|((with_reducible refine Bw.set2 ?_ ?_ _);(focus exact SZX))|with_reducible refine Bw.trans ?_ (by assumption)));done)|(refine HY7.out _ ?_;(repeat (first|with_reducible (first|assumption|exact Bw.refl _|refine Bw.alloc ?_ _|refine Bw.more ?_ _ _|refine Bw.drew ?_|refine Bw.drewN ?_ _)|((with_reducible refine Bw.set2 ?_ ?_ _);(focus exact SZX))|with_reducible refine Bw.trans ?_ (by assumption)));done))
   clear hK K
   (try simp only [Act.put,zP1,zP2,zP3,zP4,zP5,zP6])
   refine wpAnyH_done (by kernel_rfl) ?_ _
   go_wp2_with fail
   go_roundw
   case rel =>
    refine ⟨k + 1,by go_num,by omega,?_,HPX.out.trans (HP5.out.trans HP57.out)⟩
    rw [HTK.out,pntA_snoc,pntB_snoc,← List.append_assoc,HL.out.1,HL.out.2,← List.append_assoc]
    exact HB7.out
   case measure => simp [intOf];omega
  ·obtain rfl : k = n:=by omega
   have HE:=Lib.hid (show cs.take k = cs from List.take_of_length_le (by rw [HR1.out.1];omega))
   go_wp2_with fail
   go_end0
   refine ⟨rfl,?_,HP1.out.trans HPZ.out⟩
   have h9:=HBZ.out
   rw [HE.out] at h9
   exact h9
end Go.Proofs.YteebdjmjeahccaaGreatDoor
