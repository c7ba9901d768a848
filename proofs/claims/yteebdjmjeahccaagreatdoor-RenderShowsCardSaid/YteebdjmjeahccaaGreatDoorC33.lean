/- Parts of the proof, one after the other. -/
import Derived.Test.YteebdjmjeahccaaGreatDoorC02
import Derived.Test.YteebdjmjeahccaaGreatDoorShel
import Derived.OneCell
import Derived.Lib.OthersKept
import Derived.Test.YteebdjmjeahccaaGreatDoorC05
import Derived.Test.YteebdjmjeahccaaGreatDoorC04
import Derived.Deep.DeepCutAuto
import Derived.Lib.ItoaLen
import Derived.Deep.QuietTactic
import Derived.Laws.BytesArg
set_option linter.unusedSimpArgs false
set_option linter.unusedVariables false
set_option maxRecDepth 100000
set_option maxHeartbeats 16000000
namespace Go.Proofs.YteebdjmjeahccaaGreatDoor
open Go.RowKit
theorem infoB : (Tryz.prog.info? 5).map (fun i => (i.zero,i.size,i.bytes)) = some (some (.int .u8 0),1,1):=by kernel_rfl
/-- What the table of powers reads as, whatever the call does at its own blocks. -/
def PowT (B : Nat) (w : World) : Prop := Lib.TabBelow Tryz.prog B w "internal/strconv.uint64pow10" .u64 Lib.pow10Tab
/-- Block b holds a slice that owns the cells xs. -/
def OutS (B b : Nat) (xs : List Value) (w : World) : Prop :=
 ∃ v,w.ownsRow B 5 1 v xs.length xs ∧ w.heap[b]? = some (.cells #[v] 33 (0,0))
def OutP (B b : Nat) (xs : List Value) (w : World) (e : Ending) (w' : World) : Prop :=
 e = .returned (.tuple #[]) ∧ OutS B b xs w' ∧ Below B w w' ∧ Lib.OthersKept 5 (some b) w w'
theorem own_block {w : World} {B : Nat} {v : Value} {n : Nat} {xs : List Value} (h : w.ownsRow B 5 1 v n xs) : ∀ g,v.ownBlock = some g → ∃ c fz,w.heap[g]? = some (.cells c 5 fz):=by
 intro g hg
 rcases h.2 with ⟨rfl,-⟩|⟨g',cap,cur,rfl,_,hh,_⟩
 ·simp [Value.ownBlock] at hg
 ·simp [Value.ownBlock] at hg;subst hg;exact ⟨_,_,hh⟩
theorem own_away {w : World} {B b : Nat} {v u : Value} {n : Nat} {xs : List Value} (h : w.ownsRow B 5 1 v n xs) (hb : w.heap[b]? = some (.cells #[u] 33 (0,0))) : v.ownBlock ≠ some b:=by
 intro e
 obtain ⟨c,fz,hc⟩:=own_block h b e
 rw [hb] at hc
 simp at hc
theorem write_any (B b : Nat) (k : Int) (xs : List Value) (w : World) (hk : 0 ≤ k ∧ k ≤ 1000) (hx : xs.length ≤ 1000) (h : OutS B b xs w) (hB : B ≤ w.heap.size) (hBb : B ≤ b) (ht : PowT B w) :
  Calls Tryz.prog 115 #[.int .i64 k,.pointer (some ⟨b,0,none⟩)] w (OutP B b (xs ++ .int .u8 59 :: Lib.byteCells (Lib.itoa k)) w):=by
 obtain ⟨v,hown,hb⟩:=h
 obtain ⟨A0,k0,rfl,hk0,hk0m⟩:=own_form hown
 obtain ⟨i0,hi,hz0,hz1,hz2⟩:=info_parts infoB
 have hbl:=lt_of_block hb
 have c0:=cell_of_one hb
 have f0:=free_of_one hb
 obtain ⟨n,hn⟩ : ∃ n,xs.length = n:=⟨_,rfl⟩
 rw [hn] at hx
 have HO:=Lib.hid (show w.ownsRow B 5 1 (.slice A0 n k0) n xs by rw [← hn];exact hown)
 rw [hn] at hb hk0 c0
 have HB:=Lib.hid hb
 have HT:=Lib.hid ht
 have HN:=Lib.hid hn
 clear hown hb ht hn
 go_enter Tryz.func115,Tryz.ntmps115
 go_wp2_with (first
  | (at_builtin;refine wpList_append_srcG (by rfl) (.tmp 3) (.tmp 4) 33 rfl B 5 i0 (.int .u8 0) 1 1 Tryz.underlying33 hi hz0 hz1 hz2 rfl (by decide) (.slice A0 n k0) n xs (by rfl) (HO.out.alloc _) (some ⟨w.heap.size,0,none⟩) 1 1 [.int .u8 59] (by rfl) rfl (fun e => by cases e) (fun ad e => by cases e;exact cell_one_new _ _ _) (by simp;rfl) (by unfold maxLen;omega) (by omega) SZX ?_;intro v1 w1 hown1 hg1;obtain ⟨A1,k1,rfl,hk1,hk1m⟩:=own_form hown1;have ok1 : Lib.OthersKept 5 none w w1:=((Lib.OthersKept.refl 5 none w).alloc _).grown hg1 (own_block (HO.out.alloc _));have hb1 : w1.heap[b]? = some (.cells #[.slice A0 n k0] 33 (0,0)):=ok1 b _ HB.out (by simp) (by simp);have bel1 : Below B w w1:=Below.grown ((Below.refl B w).alloc hB _) hg1 SZX (fun q hq => (HO.out.lt q hq).1);have c1:=cell_of_one hb1;have f1:=free_of_one hb1;have HB1:=Lib.hid hb1;have HO1:=Lib.hid hown1;have OK1:=Lib.hid ok1;have BE1:=Lib.hid bel1;clear hown1 hg1 hb1 ok1 bel1)
  | (go_at_call 116;refine (Tryz.strconv_AppendInt_10 B (n + 1) k (by omega) (by omega) _ (xs ++ [.int .u8 59]) _ (by exact ownsRow_setCell_other HO1.out (own_away HO1.out HB1.out) _) (by have:=BE1.out.size;simp;omega) (by omega) (by exact HT.out.on (BE1.out.setCell hBb _))).mono ?_;rintro e w2 ⟨v2,rfl,hown2,hbel2,hok2⟩;obtain ⟨A2,k2,rfl,hk2,hk2m⟩:=own_form hown2;have hb2:=hok2 b _ (one_setCell HB1.out) (by simp) (by simp);have c2:=cell_of_one hb2;have f2:=free_of_one hb2;have HB2:=Lib.hid hb2;have HO2:=Lib.hid hown2;have OK2:=Lib.hid hok2;have BE2:=Lib.hid hbel2;clear hown2 hbel2 hok2 hb2)
  | fail)
 go_end0
 refine ⟨rfl,⟨_,?_,one_setCell HB2.out⟩,(((BE1.out.setCell hBb _).trans BE2.out).setCell hBb _),?_⟩
 ·have hl : (xs ++ Value.int .u8 59 :: Lib.byteCells (Lib.itoa k)).length = n + 1 + (Lib.itoa k).length:=by
   rw [List.length_append,HN.out,List.length_cons];unfold Lib.byteCells;rw [List.length_map];omega
  rw [hl]
  have:=ownsRow_setCell_other HO2.out (own_away HO2.out HB2.out) (a:=⟨b,0,none⟩) (.slice A2 (n + 1 + (Lib.itoa k).length) k2)
  rw [List.append_assoc] at this
  exact this
 ·refine Lib.OthersKept.setCell (Lib.OthersKept.trans (b:=some b) (Lib.OthersKept.setCell (fun i o hi hb2 ho => OK1.out i o hi (by simp) ho) ⟨b,0,none⟩ rfl _) (fun i o hi hb2 ho => OK2.out i o hi (by simp) ho)) ⟨b,0,none⟩ rfl _
def wr1 (d : Int) : List Int:=59 :: (Lib.itoa d).map fun b => (b.toNat : Int)
def bytesOf (ds : List Int) : List Int:=[27,91,48] ++ ds.flatMap wr1
theorem bytesOf_snoc (ds : List Int) (d : Int) : (bytesOf (ds ++ [d])).map (Value.int .u8) = (bytesOf ds).map (Value.int .u8) ++ Value.int .u8 59 :: Lib.byteCells (Lib.itoa d):=by
 unfold bytesOf wr1 Lib.byteCells
 simp [List.flatMap_append]
theorem bytesOf_len : ∀ (ds : List Int),(∀ d ∈ ds,0 ≤ d ∧ d ≤ 1000) → (bytesOf ds).length ≤ 3 + 22 * ds.length:=by
 intro ds h
 unfold bytesOf
 have : (ds.flatMap wr1).length ≤ 22 * ds.length:=by
  induction ds with
  | nil => simp
  | cons d t ih =>
   have h1:=ih (fun x hx => h x (by simp [hx]))
   have h2:=Lib.itoa_length_le d (by have:=h d (by simp);omega) (by have:=h d (by simp);omega)
   rw [List.flatMap_cons,List.length_append,List.length_cons]
   unfold wr1
   simp only [List.length_cons,List.length_map]
   unfold wr1 at h1
   omega
 simp only [List.length_append,List.length_cons,List.length_nil]
 omega
def bitN (f : Int) : Nat → List Int
 | 0 => if (bits .and .i64 f 1 != 0) = true then [1] else []
 | 1 => if (bits .and .i64 f 2 != 0) = true then [4] else []
 | _ => if (bits .and .i64 f 4 != 0) = true then [7] else []
def flagN (f : Int) : Nat → List Int
 | 0 => []
 | k + 1 => flagN f k ++ bitN f k
def numC (c lo hi : Int) : Int:=if c ≤ 8 then lo + c - 1 else hi + c - 9
def fullN (f g b : Int) : List Int:=flagN f 3 ++ (if g = 0 then [] else [numC g 30 90]) ++ (if b = 0 then [] else [numC b 40 100])
theorem bitN_len (f : Int) (k : Nat) : (bitN f k).length ≤ 1 ∧ ∀ d ∈ bitN f k,1 ≤ d ∧ d ≤ 7:=by
 match k with
 | 0 => show (if (bits .and .i64 f 1 != 0) = true then [1] else []).length ≤ 1 ∧ ∀ d ∈ (if (bits .and .i64 f 1 != 0) = true then [1] else []),1 ≤ d ∧ d ≤ 7;split <;> simp
 | 1 => show (if (bits .and .i64 f 2 != 0) = true then [4] else []).length ≤ 1 ∧ ∀ d ∈ (if (bits .and .i64 f 2 != 0) = true then [4] else []),1 ≤ d ∧ d ≤ 7;split <;> simp
 | k + 2 => show (if (bits .and .i64 f 4 != 0) = true then [7] else []).length ≤ 1 ∧ ∀ d ∈ (if (bits .and .i64 f 4 != 0) = true then [7] else []),1 ≤ d ∧ d ≤ 7;split <;> simp
theorem flagN_len (f : Int) : ∀ k,(flagN f k).length ≤ k ∧ ∀ d ∈ flagN f k,1 ≤ d ∧ d ≤ 7
 | 0 => by simp [flagN]
 | k + 1 => by
  have h1:=flagN_len f k
  have h2:=bitN_len f k
  refine ⟨by unfold flagN;rw [List.length_append];omega,?_⟩
  intro d hd
  unfold flagN at hd
  rcases List.mem_append.1 hd with h|h
  ·exact h1.2 d h
  ·exact h2.2 d h
theorem number_any (c lo hi : Int) (w : World) (h0 : 0 ≤ c) (h1 : c ≤ 100) (h2 : 0 ≤ lo) (h3 : lo ≤ 1000) (h4 : 0 ≤ hi) (h5 : hi ≤ 1000) :
  Calls Tryz.prog 117 #[.int .i64 c,.int .i64 lo,.int .i64 hi] w fun e w' => e = .returned (.int .i64 (numC c lo hi)) ∧ w = w':=by
 by_cases hc : c ≤ 8
 ·have HE:=Lib.hid (show numC c lo hi = lo + c - 1 from if_pos hc)
  go_enter Tryz.func117,Tryz.ntmps117
  go_wp2
  go_ret
  exact ⟨by rw [HE.out];rfl,rfl⟩
 ·have HE:=Lib.hid (show numC c lo hi = hi + c - 9 from if_neg hc)
  go_enter Tryz.func117,Tryz.ntmps117
  go_wp2
  go_ret
  exact ⟨by rw [HE.out];rfl,rfl⟩
/-- The attribute in block g, the block known whole. -/
def AtBlk (w : World) (g : Nat) (f h b : Int) : Prop:=w.heap[g]? = some (.cells #[.int .i64 f,.int .i64 h,.int .i64 b] 42 (0,0))
theorem AtBlk.cells {w : World} {g : Nat} {f h b : Int} (hA : AtBlk w g f h b) : (w.cell? ⟨g,0,none⟩ = some (.int .i64 f) ∧ w.cell? ⟨g,1,none⟩ = some (.int .i64 h) ∧ w.cell? ⟨g,2,none⟩ = some (.int .i64 b)):=by
 unfold AtBlk at hA
 refine ⟨?_,?_,?_⟩ <;> simp [World.cell?,hA]
theorem AtBlk.kept {w w' : World} {g b' : Nat} {f h b : Int} (hA : AtBlk w g f h b) (hne : g ≠ b') (hk : Lib.OthersKept 5 (some b') w w') : AtBlk w' g f h b:=hk g _ hA (by simp;exact hne) (by simp)
theorem own_lit {w : World} {base g : Nat} {e : TypeId} {cs : Array Value} {n : Nat} {xs : List Value} (hg : g = w.heap.size) (hb : base ≤ g) (hm : n ≤ maxLen) (hs : cs.size = n) (hx : xs = cs.toList) : (w.alloc (.cells cs e)).ownsRow base e 1 (.slice (some ⟨g,0,none⟩) n n) n xs:=by
 subst hg;subst hx
 exact World.ownsRow_lit w cs n hb hm (by omega)
theorem heap_here {w : World} {g : Nat} {o : Obj} (hg : g = w.heap.size) : (w.alloc o).heap[g]? = some o:=by subst hg;exact heap_alloc_new w o
theorem heap_past {w : World} {g : Nat} {o x : Obj} (h : w.heap[g]? = some x) : (w.alloc o).heap[g]? = some x:=(Below.heap_alloc w o g (lt_of_block h)).trans h
theorem bytesOf_one (ds : List Int) (d : Int) (h0 : 0 ≤ d) (h1 : d ≤ 1000) : (bytesOf (ds ++ [d])).length ≤ (bytesOf ds).length + 22:=by
 have:=Lib.itoa_length_le d (by omega) (by omega)
 unfold bytesOf
 rw [List.flatMap_append]
 simp only [List.length_append,List.flatMap_cons,List.flatMap_nil,List.append_nil,List.length_cons,List.length_nil]
 have e : (wr1 d).length = (Lib.itoa d).length + 1:=by simp [wr1]
 omega
theorem OutS.drewN {B b : Nat} {xs : List Value} {w : World} (h : OutS B b xs w) (q : Nat) : OutS B b xs (w.drewN q):=by
 obtain ⟨v,h1,h2⟩:=h
 exact ⟨v,h1.bw BWX,h2⟩
def BytesP (w : World) (xs : List Int) (e : Ending) (w' : World) : Prop:=∃ v,e = .returned v ∧ Sl (.int .u8) w' v xs ∧ Bw w w'
theorem conv_run {w : World} {A : Option Addr} {n cap : Nat} {bs : List Int} (h : Rd (.int .u8) w A n bs) : (convert 33 9 (.slice A n cap)).run Tryz.prog w = .ok (.string (strOfNums bs)) w:=by
 rcases Nat.eq_zero_or_pos n with h0|h0
 ·have hb : bs = []:=List.eq_nil_of_length_eq_zero (by have:=h.1;omega)
  subst hb
  subst h0
  cases A with
  | none => exact run_convert_bytes_nil w _ _ Tryz.underlying33 Tryz.underlying5 _ _ _ Tryz.underlying9
  | some a =>
   rw [run_convert_bytes_string w _ _ _ _ _ _ Tryz.underlying33 Tryz.underlying5 Tryz.underlying9,run_bytesToString w a 0 cap [] (by kernel_rfl)]
   rfl
 ·obtain ⟨g,o,rfl,hx⟩:=h.2 h0
  exact run_convert_bytes_arg w _ _ Tryz.underlying33 Tryz.underlying5 g o n cap bs h.1 (fun i hi => by have:=hx i (by have:=h.1;omega);simpa [List.getD_eq_getElem?_getD,show i < bs.length by have:=h.1;omega] using this) _ Tryz.underlying9
end Go.Proofs.YteebdjmjeahccaaGreatDoor
