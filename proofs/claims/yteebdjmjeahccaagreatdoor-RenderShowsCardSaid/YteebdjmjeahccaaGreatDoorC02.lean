/- Parts of the proof, one after the other. -/
import Derived.Test.YteebdjmjeahccaaGreatDoorC01
set_option linter.unusedSimpArgs false
set_option linter.unusedVariables false
namespace Go.Proofs.YteebdjmjeahccaaGreatDoor
open Go.RowKit
theorem addr_add_block (a : Addr) (n : Nat) : (a.add n).block = a.block:=by unfold Addr.add;split <;> rfl
theorem set_same (w : World) {p : Addr} {v : Value} (h : w.cell? p = some v) : w.setCell p v = w:=by
 have e : (w.setCell p v).heap = w.heap:=by
  unfold World.setCell
  dsimp only
  apply Array.ext_getElem?
  intro i
  rw [Array.getElem?_modify]
  split
  ·rename_i hi
   subst hi
   unfold World.cell? at h
   cases hb : w.heap[p.block]? with
   | none => rfl
   | some o =>
    rw [hb] at h
    cases o with
    | cells c el fr =>
     simp only at h
     by_cases hs : p.spot.isSome
     ·rw [if_pos hs] at h;cases h
     ·rw [if_neg hs] at h
      obtain ⟨hl,hv⟩:=Array.getElem?_eq_some_iff.1 h
      simp only [Option.map_some,if_neg hs]
      congr 2
      apply Array.ext_getElem?
      intro j
      rw [Array.getElem?_setIfInBounds]
      split
      ·rename_i hj;subst hj;exact h.symm
      ·rfl
    | _ => rfl
  ·rfl
 have e2 : w.setCell p v = { w with heap:=(w.setCell p v).heap }:=rfl
 rw [e2,e]
theorem mmod_any (v n : Int) (w : World) (h1 : 1 ≤ n) (h2 : n ≤ 4611686018427387904) :
  Calls Tryz.prog 26 #[.int .i64 v,.int .i64 n] w fun e w' => e = .returned (.int .i64 (v % n)) ∧ w = w':=by
 have hb:=Int.emod_nonneg v (show n ≠ 0 by omega)
 have hb2:=Int.emod_lt_of_pos v (show 0 < n by omega)
 by_cases hv : 0 ≤ v
 ·go_enter Tryz.func26,Tryz.ntmps26
  go_wp2
  go_ret
  exact ⟨rfl,rfl⟩
 ·have ht : v.tmod n = if v % n = 0 then 0 else v % n - n:=by
   rw [Int.tmod_eq_emod]
   split <;> split <;> omega
  go_enter Tryz.func26,Tryz.ntmps26
  go_wp2
  ·go_ret
   exact ⟨rfl,rfl⟩
  ·go_ret
   refine ⟨ret_int ?_,rfl⟩
   first|rfl|omega|(show _ = _;simp;omega)
theorem mnew_any (A : Option Addr) (n c : Nat) (w : World) :
  Calls Tryz.prog 20 #[.slice A n c] w fun e w' => e = .returned (.pointer (some ⟨w.heap.size,0,none⟩)) ∧ w.alloc (.cells #[.slice A n c,.int .i64 0] 97) = w':=by
 go_enter Tryz.func20,Tryz.ntmps20
 go_wp2
 go_ret
 exact ⟨rfl,rfl⟩
theorem mleft_any (b : Nat) (A : Option Addr) (n c k : Nat) (w : World) (h0 : w.cell? ⟨b,0,none⟩ = some (.slice A n c)) (h1 : w.cell? ⟨b,1,none⟩ = some (.int .i64 k)) :
  Calls Tryz.prog 52 #[.pointer (some ⟨b,0,none⟩)] w fun e w' => e = .returned (.bool (decide ((k : Int) < n))) ∧ ∃ q,w' = w.drewN q:=by
 go_enter Tryz.func52,Tryz.ntmps52
 go_wp2
 go_quiet (fail)
 go_wp2
 go_ret
 exact ⟨ret_bool (by simp),_,rfl⟩
/-- What a list argument reads as: number i lies at place i. -/
def RdI (w : World) (A : Option Addr) (n : Nat) (xs : List Int) : Prop :=
 xs.length = n ∧ ∀ i (h : i < xs.length),∃ ad,A = some ad ∧ w.cell? (ad.add i) = some (.int .i64 xs[i])
theorem RdI.up {w w' : World} {A : Option Addr} {n : Nat} {xs : List Int} (h : RdI w A n xs) (hA : 0 < n → ∀ ad,A = some ad → ad.block < w.heap.size) (hb : Bw w w') : RdI w' A n xs :=
 ⟨h.1,fun i hi => by
  obtain ⟨ad,e,hx⟩:=h.2 i hi
  refine ⟨ad,e,?_⟩
  rw [Below.cell hb (p:=ad.add i) (by rw [addr_add_block];exact hA (by have:=h.1;omega) ad e)]
  exact hx⟩
theorem mnext_end (b : Nat) (A : Option Addr) (n c k : Nat) (m : Int) (w : World) (h0 : w.cell? ⟨b,0,none⟩ = some (.slice A n c)) (h1 : w.cell? ⟨b,1,none⟩ = some (.int .i64 k)) (hk : ¬ k < n) :
  Calls Tryz.prog 29 #[.pointer (some ⟨b,0,none⟩),.int .i64 m] w fun e w' => e = .returned (.int .i64 0) ∧ ∃ q,w' = w.drewN q:=by
 have hd : decide ((k : Int) < n) = false:=by simp;omega
 go_enter Tryz.func29,Tryz.ntmps29
 go_wp2_with (go_at_call 52;refine (mleft_any _ _ _ _ _ _ h0 h1).mono ?_;rintro e w' ⟨rfl,q,rfl⟩;rw [hd])
 go_ret
 exact ⟨rfl,_,rfl⟩
theorem mnext_go (b : Nat) (ad : Addr) (n c k : Nat) (m x : Int) (w : World) (h0 : w.cell? ⟨b,0,none⟩ = some (.slice (some ad) n c)) (h1 : w.cell? ⟨b,1,none⟩ = some (.int .i64 k)) (hf : w.frozen? ⟨b,1,none⟩ = false) (hk : k < n)
  (hx : w.cell? (ad.add k) = some (.int .i64 x)) (ha : ad.block ≠ b) (hn : n ≤ 9223372036854775807) (hm1 : 1 ≤ m) (hm2 : m ≤ 4611686018427387904) :
  Calls Tryz.prog 29 #[.pointer (some ⟨b,0,none⟩),.int .i64 m] w fun e w' => e = .returned (.int .i64 (x % m)) ∧ ∃ q,w' = (w.setCell ⟨b,1,none⟩ (.int .i64 ((k + 1 : Nat) : Int))).drewN q:=by
 have hd : decide ((k : Int) < n) = true:=by simp;omega
 go_enter Tryz.func29,Tryz.ntmps29
 go_wp2_with (go_at_call 52;refine (mleft_any _ _ _ _ _ _ h0 h1).mono ?_;rintro e w' ⟨rfl,q,rfl⟩;rw [hd])
 have hx' : ∀ v,(w.setCell ⟨b,1,none⟩ v).cell? (ad.add k) = some (.int .i64 x):=fun v => by
  rw [World.cell?_setCell_other]
  ·exact hx
  ·intro e
   have:=congrArg Addr.block e
   rw [addr_add_block] at this
   exact ha this.symm
 have e1 : (0 : Int) ≤ k:=by omega
 have e2 : (k : Int) < n:=by omega
 have e3 : (k : Int) ≤ 9223372036854775806:=by omega
 have e4 : IntKind.i64.wrap ((k : Int) + 1 - 1) = k:=by rw [IntKind.wrap_i64];omega
 go_quiet ((go_at_call 26;exact calls_qa (mmod_any _ _ _ hm1 hm2)))
 go_wp2
 go_ret
 exact ⟨rfl,q + nq,by rw [show ((k : Int) + 1) = ((k + 1 : Nat) : Int) from by omega,World.drewN_drewN]⟩
/-- A draw of the deck: some number in the range; only the deck's place moves. -/
theorem mnext_any (b : Nat) (A : Option Addr) (n c k : Nat) (m : Int) (xs : List Int) (w : World) (h0 : w.cell? ⟨b,0,none⟩ = some (.slice A n c)) (h1 : w.cell? ⟨b,1,none⟩ = some (.int .i64 k)) (hf : w.frozen? ⟨b,1,none⟩ = false)
  (hr : RdI w A n xs) (ha : 0 < n → ∀ ad,A = some ad → ad.block ≠ b) (hk : k ≤ n) (hn : n ≤ 9223372036854775807) (hm1 : 1 ≤ m) (hm2 : m ≤ 4611686018427387904) :
  Calls Tryz.prog 29 #[.pointer (some ⟨b,0,none⟩),.int .i64 m] w fun e w' => ∃ v : Int,∃ k' : Nat,∃ q,e = .returned (.int .i64 v) ∧ 0 ≤ v ∧ v < m ∧ k' ≤ n ∧ (w.setCell ⟨b,1,none⟩ (.int .i64 k')).drewN q = w':=by
 by_cases hlt : k < n
 ·obtain ⟨ad,e,hx⟩:=hr.2 k (by have:=hr.1;omega)
  subst e
  refine (mnext_go b ad n c k m _ w h0 h1 hf hlt hx (ha (by omega) _ rfl) hn hm1 hm2).mono ?_
  rintro e w' ⟨rfl,q,rfl⟩
  exact ⟨_,k + 1,q,rfl,Int.emod_nonneg _ (by omega),Int.emod_lt_of_pos _ (by omega),by omega,rfl⟩
 ·refine (mnext_end b A n c k m w h0 h1 hlt).mono ?_
  rintro e w' ⟨rfl,q,rfl⟩
  exact ⟨0,k,q,rfl,by omega,by omega,hk,by rw [set_same w h1]⟩
def atV (f g b : Int) : Value:=.agg #[.int .i64 f,.int .i64 g,.int .i64 b]
def avB (f g b : Int) : Bool:=decide (0 ≤ f ∧ f ≤ 7 ∧ 0 ≤ g ∧ g ≤ 16 ∧ 0 ≤ b ∧ b ≤ 16)
theorem avalid_yes (f g b : Int) (w : World) (h : avB f g b = true) :
  Calls Tryz.prog 94 #[atV f g b] w fun e w' => e = .returned (.bool true) ∧ w.alloc (.cells #[.int .i64 f,.int .i64 g,.int .i64 b] 42) = w':=by
 have hc : 0 ≤ f ∧ f ≤ 7 ∧ 0 ≤ g ∧ g ≤ 16 ∧ 0 ≤ b ∧ b ≤ 16:=of_decide_eq_true h
 obtain ⟨c1,c2,c3,c4,c5,c6⟩:=hc
 clear h
 unfold atV
 go_enter Tryz.func94,Tryz.ntmps94
 go_wp2
 go_ret
 exact ⟨rfl,rfl⟩
theorem avalid_no (f g b : Int) (w : World) (h : avB f g b = false) :
  Calls Tryz.prog 94 #[atV f g b] w fun e w' => e = .returned (.bool false) ∧ w.alloc (.cells #[.int .i64 f,.int .i64 g,.int .i64 b] 42) = w':=by
 have hc : ¬ (0 ≤ f ∧ f ≤ 7 ∧ 0 ≤ g ∧ g ≤ 16 ∧ 0 ≤ b ∧ b ≤ 16):=of_decide_eq_false h
 have hc2 : f < 0 ∨ (0 ≤ f ∧ 7 < f) ∨ (0 ≤ f ∧ f ≤ 7 ∧ g < 0) ∨ (0 ≤ f ∧ f ≤ 7 ∧ 0 ≤ g ∧ 16 < g) ∨ (0 ≤ f ∧ f ≤ 7 ∧ 0 ≤ g ∧ g ≤ 16 ∧ b < 0) ∨ (0 ≤ f ∧ f ≤ 7 ∧ 0 ≤ g ∧ g ≤ 16 ∧ 0 ≤ b ∧ 16 < b):=by omega
 clear h hc
 unfold atV
 rcases hc2 with h1|⟨h1,h2⟩|⟨h1,h2,h3⟩|⟨h1,h2,h3,h4⟩|⟨h1,h2,h3,h4,h5⟩|⟨h1,h2,h3,h4,h5,h6⟩
 all_goals
  go_enter Tryz.func94,Tryz.ntmps94
  go_wp2
  go_ret
  exact ⟨by first|rfl|(refine ret_bool ?_;simp;omega),rfl⟩
theorem avalid_any (f g b : Int) (w : World) :
  Calls Tryz.prog 94 #[atV f g b] w fun e w' => e = .returned (.bool (avB f g b)) ∧ w.alloc (.cells #[.int .i64 f,.int .i64 g,.int .i64 b] 42) = w':=by
 cases h : avB f g b
 ·exact avalid_no f g b w h
 ·exact avalid_yes f g b w h
/-- One parameter's effect. -/
def single (f g b p : Int) : Int × Int × Int :=
 if p = 0 then (0,0,0) else if p = 1 then (bits .or .i64 f 1,g,b) else if p = 4 then (bits .or .i64 f 2,g,b) else if p = 7 then (bits .or .i64 f 4,g,b)
 else if p = 22 then (bits .andNot .i64 f 1,g,b) else if p = 24 then (bits .andNot .i64 f 2,g,b) else if p = 27 then (bits .andNot .i64 f 4,g,b)
 else if 30 ≤ p ∧ p ≤ 37 then (f,p - 29,b) else if 90 ≤ p ∧ p ≤ 97 then (f,p - 81,b) else if p = 39 then (f,0,b)
 else if 40 ≤ p ∧ p ≤ 47 then (f,g,p - 39) else if 100 ≤ p ∧ p ≤ 107 then (f,g,p - 91) else if p = 49 then (f,g,0) else (f,g,b)
def at3 (x : Int × Int × Int) : Value:=atV x.1 x.2.1 x.2.2
def AtP (w : World) (x : Int × Int × Int) (e : Ending) (w' : World) : Prop:=e = .returned (at3 x) ∧ Bw w w'
/-- A cell: its rune and its three attributes. -/
abbrev C4:=Int × Int × Int × Int
def c4V (c : C4) : Value:=.agg #[.int .i64 c.1,.int .i64 c.2.1,.int .i64 c.2.2.1,.int .i64 c.2.2.2]
def c4L (c : C4) : List Value:=[.int .i64 c.1,.int .i64 c.2.1,.int .i64 c.2.2.1,.int .i64 c.2.2.2]
def flat (cs : List C4) : List Value:=cs.flatMap c4L
def runeB (n : Int) : Bool:=decide ((32 ≤ n ∧ n ≤ 126) ∨ (160 ≤ n ∧ n ≤ 55295) ∨ (57344 ≤ n ∧ n ≤ 1114111))
def cellB (c : C4) : Bool:=runeB c.1 && avB c.2.1 c.2.2.1 c.2.2.2
theorem flat_cons (c : C4) (cs : List C4) : flat (c :: cs) = c4L c ++ flat cs:=by unfold flat;rw [List.flatMap_cons]
theorem flat_app (xs ys : List C4) : flat (xs ++ ys) = flat xs ++ flat ys:=by unfold flat;rw [List.flatMap_append]
theorem flat_len : ∀ cs : List C4,(flat cs).length = cs.length * 4
 | [] => rfl
 | c :: cs => by rw [flat_cons,List.length_append,flat_len cs,List.length_cons];show 4 + _ = _;omega
theorem flat_get : ∀ (cs : List C4) (i j : Nat) (h : i < cs.length),j < 4 → (flat cs)[i * 4 + j]? = (c4L cs[i])[j]?
 | [],i,j,h,_ => by simp at h
 | c :: cs,0,j,h,hj => by
  rw [flat_cons,List.getElem?_append_left (by show _ < 4;omega)]
  simp
 | c :: cs,i + 1,j,h,hj => by
  rw [flat_cons,List.getElem?_append_right (by show 4 ≤ _;omega)]
  have : (i + 1) * 4 + j - (c4L c).length = i * 4 + j:=by show (i + 1) * 4 + j - 4 = _;omega
  rw [this,flat_get cs i j (by simp at h;omega) hj]
  simp
theorem flat_one (cs : List C4) : ∀ u ∈ flat cs,u.oneCell' = true:=by
 intro u hu
 obtain ⟨c,-,hc⟩:=List.mem_flatMap.1 hu
 unfold c4L at hc
 simp at hc
 rcases hc with rfl|rfl|rfl|rfl <;> rfl
/-- The four cells of a cell at a place. -/
def Ce (w : World) (g o : Nat) (c : C4) : Prop :=
 w.cell? ⟨g,o,none⟩ = some (.int .i64 c.1) ∧ w.cell? ⟨g,o + 1,none⟩ = some (.int .i64 c.2.1) ∧ w.cell? ⟨g,o + 2,none⟩ = some (.int .i64 c.2.2.1) ∧ w.cell? ⟨g,o + 3,none⟩ = some (.int .i64 c.2.2.2)
theorem Ce.up {w w' : World} {g o : Nat} {c : C4} (h : Ce w g o c) (hb : Bw w w') : Ce w' g o c:=⟨cell_bw hb h.1,cell_bw hb h.2.1,cell_bw hb h.2.2.1,cell_bw hb h.2.2.2⟩
/-- What a list of cells reads as. -/
def Rg (w : World) (A : Option Addr) (n : Nat) (cs : List C4) : Prop :=
 cs.length = n ∧ (0 < n → ∃ g o,A = some ⟨g,o,none⟩ ∧ ∀ i (h : i < cs.length),Ce w g (o + i * 4) cs[i])
theorem Rg.up {w w' : World} {A : Option Addr} {n : Nat} {cs : List C4} (h : Rg w A n cs) (hb : Bw w w') : Rg w' A n cs:=by
 refine ⟨h.1,fun h0 => ?_⟩
 obtain ⟨g,o,e,hx⟩:=h.2 h0
 exact ⟨g,o,e,fun i hi => (hx i hi).up hb⟩
theorem Rg.nil_ (w : World) (A : Option Addr) : Rg w A 0 []:=⟨rfl,fun h => absurd h (by simp)⟩
theorem rrune_any (n : Int) (w : World) : Calls Tryz.prog 79 #[.int .i64 n] w fun e w' => e = .returned (.bool (runeB n)) ∧ w = w':=by
 have hc : n < 32 ∨ (32 ≤ n ∧ n ≤ 126) ∨ (126 < n ∧ n < 160) ∨ (160 ≤ n ∧ n ≤ 55295) ∨ (55295 < n ∧ n < 57344) ∨ (57344 ≤ n ∧ n ≤ 1114111) ∨ 1114111 < n:=by omega
 have hv : (n < 32 → runeB n = false) ∧ (32 ≤ n ∧ n ≤ 126 → runeB n = true) ∧ (126 < n ∧ n < 160 → runeB n = false) ∧ (160 ≤ n ∧ n ≤ 55295 → runeB n = true) ∧ (55295 < n ∧ n < 57344 → runeB n = false) ∧ (57344 ≤ n ∧ n ≤ 1114111 → runeB n = true) ∧ (1114111 < n → runeB n = false):=by
  unfold runeB
  refine ⟨?_,?_,?_,?_,?_,?_,?_⟩ <;> intro h <;> simp <;> omega
 obtain ⟨v1,v2,v3,v4,v5,v6,v7⟩:=hv
 rcases hc with h|h|h|h|h|h|h
 all_goals
  have HE:=Lib.hid (show runeB n = _ by first|exact v1 h|exact v2 h|exact v3 h|exact v4 h|exact v5 h|exact v6 h|exact v7 h)
  clear v1 v2 v3 v4 v5 v6 v7
  (try obtain ⟨h1,h2⟩:=h)
  go_enter Tryz.func79,Tryz.ntmps79
  go_wp2
  go_ret
  exact ⟨by rw [HE.out];first|rfl|(refine ret_bool ?_;simp;omega)|(refine ret_bool ?_;simp;done),rfl⟩
end Go.Proofs.YteebdjmjeahccaaGreatDoor
