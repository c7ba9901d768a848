/- Parts of the proof, one after the other. -/
import Derived.Test.YteebdjmjeahccaaGreatDoorRows
import Derived.Deep.RegionHeld3
import Derived.WalkKit
import Derived.ProofKit
import Derived.OpenShut
import Derived.Lib.Hide
import Derived.BigQuiet
import Derived.Deep.QuietTactic
import Derived.Deep.DeepFit
import Derived.WalkSpells
import Derived.Maps.AppendAt
import Derived.Lib.SliceRun
import Derived.Deep.AppendSrc
import Derived.Deep.Upon
set_option linter.unusedSimpArgs false
set_option linter.unusedVariables false
namespace Go.Proofs.YteebdjmjeahccaaGreatDoor
open Go.RowKit
theorem tkQ {P : Program} {ops : Array Oper} {Q : Exit → Act → World → Prop} {md : Region.Mode} {S : World → Prop} (i : Nat) {oi : Oper} {v : Value} {fuel : Nat} {listed : Array Bool} {a : Act} {w : World} (h : wpAnyH P md ops Q S fuel (listed.setIfInBounds i true) (a.put oi.dst v) w)
  (hi : ops[i]? = some oi:=by rfl) (hy : YieldsIf P ops S oi v a:=by exact Or.inl ⟨by rfl,by intro w hSw;(try dsimp only at hSw);go_simp;try with_reducible rfl⟩) (hs : Region.noSelect ops = true:=by kernel_rfl) (hf : Region.free md ops listed i = true:=by kernel_rfl) (hr : (Region.ready md ops listed).contains i = true:=by kernel_rfl)
  (hQ : ∀ c a w,Q (.panic c) (a.put oi.dst v) w → Q (.panic c) a w:=by exact fun _ _ _ h => h) (hS : S w:=by assumption) : wpAnyH P md ops Q S (fuel + 1) listed a w:=wpAnyH_take hi hs hf hr hQ hy hS h
theorem ret_bool {a b : Bool} (h : a = b) : Ending.returned (.bool a) = .returned (.bool b):=by rw [h]
theorem ret_int {k : IntKind} {a b : Int} (h : a = b) : Ending.returned (.int k a) = .returned (.int k b):=by rw [h]
/-- All that was there before the call is as it was. -/
def Bw (w w' : World) : Prop:=Below w.heap.size w w'
theorem Bw.refl (w : World) : Bw w w:=Below.refl _ _
theorem Bw.alloc {w w' : World} (h : Bw w w') (o : Obj) : Bw w (w'.alloc o):=Below.alloc h h.size o
theorem Bw.drew {w w' : World} (h : Bw w w') : Bw w w'.drew:=Below.drew h
theorem Bw.drewN {w w' : World} (h : Bw w w') (n : Nat) : Bw w (w'.drewN n):=⟨h.os,h.tape,h.output,h.size,h.block⟩
theorem Bw.set {w w' : World} (h : Bw w w') {p : Addr} (hp : w.heap.size ≤ p.block) (u : Value) : Bw w (w'.setCell p u):=Below.setCell h hp u
theorem Bw.set2 {w w' : World} {p : Addr} (hp : w.heap.size ≤ p.block) (h : Bw w w') (u : Value) : Bw w (w'.setCell p u):=Below.setCell h hp u
theorem Bw.trans {w w1 w2 : World} (h : Bw w w1) (k : Bw w1 w2) : Bw w w2:=Below.trans h (Below.mono k h.size)
theorem heapsz (w : World) (o : Obj) : (w.alloc o).heap.size = w.heap.size + 1:=by simp
theorem hz0 (w : World) (p : Addr) (u : Value) : (w.setCell p u).heap.size = w.heap.size:=by simp [World.setCell]
theorem calls_qa {P : Program} {f : FuncId} {args : Array Value} {w : World} {a n : Nat} {v : Value} (h : Calls P f args (w.drewN (a + n)) fun e w' => e = .returned v ∧ w.drewN (a + n) = w') :
  Calls P f args (w.drewN (a + n)) fun e w' => e = .returned v ∧ ∃ m,w' = w.drewN (a + m):=h.mono fun _ _ ⟨he,hw⟩ => ⟨he,n,hw.symm⟩
/-- A world with blocks added behind all that it has, and some count of draws. -/
def plus (w : World) (L : Array Obj) (d : Nat) : World:={ w with heap:=w.heap ++ L,drawn:=d }
theorem Bw.isPlus {w w' : World} (h : Bw w w') : ∃ L d,plus w L d = w':=by
 refine ⟨w'.heap.extract w.heap.size w'.heap.size,w'.drawn,?_⟩
 have e : w.heap ++ w'.heap.extract w.heap.size w'.heap.size = w'.heap:=by
  apply Array.ext_getElem?
  intro i
  have hs:=h.size
  rw [Array.getElem?_append]
  split
  ·rename_i hi
   exact (h.block i hi).symm
  ·rename_i hi
   rw [Array.getElem?_extract]
   split
   ·congr 1;omega
   ·rename_i h2
    rw [Array.getElem?_eq_none (by omega)]
 unfold Go.Proofs.YteebdjmjeahccaaGreatDoor.plus
 rw [e]
 cases w;cases w'
 have h1:=h.os;have h2:=h.tape;have h3:=h.output
 simp only at h1 h2 h3
 subst h1;subst h2;subst h3;rfl
@[go_sem] theorem plus_size (w : World) (L : Array Obj) (d : Nat) : (plus w L d).heap.size = w.heap.size + L.size:=by simp [plus]
theorem plus_heap (w : World) (L : Array Obj) (d b : Nat) (h : b < w.heap.size) : (plus w L d).heap[b]? = w.heap[b]?:=by
 show (w.heap ++ L)[b]? = _
 rw [Array.getElem?_append,if_pos h]
@[go_sem] theorem plus_cell (w : World) (L : Array Obj) (d : Nat) (p : Addr) (h : p.block < w.heap.size) : (plus w L d).cell? p = w.cell? p:=World.cell?_of_block (plus_heap w L d _ h)
@[go_sem] theorem plus_frozen (w : World) (L : Array Obj) (d : Nat) (p : Addr) (h : p.block < w.heap.size) : (plus w L d).frozen? p = w.frozen? p:=World.frozen?_of_block (plus_heap w L d _ h)
@[go_sem] theorem plus_set (w : World) (L : Array Obj) (d : Nat) (p : Addr) (v : Value) (h : p.block < w.heap.size) : (plus w L d).setCell p v = plus (w.setCell p v) L d:=by
 have e : ((plus w L d).setCell p v).heap = (plus (w.setCell p v) L d).heap:=by
  apply Array.ext_getElem?
  intro i
  unfold Go.Proofs.YteebdjmjeahccaaGreatDoor.plus World.setCell
  dsimp only
  rw [Array.getElem?_modify,Array.getElem?_append,Array.getElem?_append,Array.getElem?_modify,Array.size_modify]
  split
  ·rename_i hi;subst hi;rw [if_pos h,if_pos h]
  ·split <;> simp
 have e2 : (plus w L d).setCell p v = { plus (w.setCell p v) L d with heap:=((plus w L d).setCell p v).heap }:=rfl
 rw [e2,e]
@[go_sem] theorem plus_drewN (w : World) (L : Array Obj) (d q : Nat) : (plus w L d).drewN q = plus w L (d + q):=rfl
@[go_sem] theorem plus_drew (w : World) (L : Array Obj) (d : Nat) : (plus w L d).drew = plus w L (d + 1):=rfl
@[go_sem] theorem drewN_plus (w : World) (L : Array Obj) (d q : Nat) : plus (w.drewN q) L d = plus w L d:=rfl
@[go_sem] theorem drew_plus (w : World) (L : Array Obj) (d : Nat) : plus w.drew L d = plus w L d:=rfl
@[go_sem] theorem plus_plus (w : World) (L L' : Array Obj) (d d' : Nat) : plus (plus w L d) L' d' = plus w (L ++ L') d':=by
 unfold Go.Proofs.YteebdjmjeahccaaGreatDoor.plus;simp only [Array.append_assoc]
theorem Bw.un {w w1 : World} {L : Array Obj} {d : Nat} (h : Bw (Go.Proofs.YteebdjmjeahccaaGreatDoor.plus w L d) w1) : Bw w w1 :=
 ⟨h.os,h.tape,h.output,by have:=h.size;rw [plus_size] at this;omega,fun k hk => (h.block k (by rw [plus_size];omega)).trans (plus_heap _ _ _ _ hk)⟩
theorem Bw.more {w w' : World} (h : Bw w w') (L : Array Obj) (d : Nat) : Bw w (Go.Proofs.YteebdjmjeahccaaGreatDoor.plus w' L d) :=
 ⟨h.os,h.tape,h.output,by rw [plus_size];have:=h.size;omega,fun k hk => (plus_heap _ _ _ _ (by have:=h.size;omega)).trans (h.block k hk)⟩
theorem lt_of_cell {w : World} {p : Addr} {v : Value} (h : w.cell? p = some v) : p.block < w.heap.size:=by
 rcases Nat.lt_or_ge p.block w.heap.size with hl|hl
 ·exact hl
 ·unfold World.cell? at h;rw [Array.getElem?_eq_none hl] at h;cases h
theorem cell_alloc_some {w : World} {p : Addr} {v : Value} (h : w.cell? p = some v) (o : Obj) : (w.alloc o).cell? p = some v :=
 (World.cell?_of_block (Below.heap_alloc w o _ (lt_of_cell h))).trans h
theorem cell_plus_some {w : World} {p : Addr} {v : Value} (h : w.cell? p = some v) (L : Array Obj) (d : Nat) : (plus w L d).cell? p = some v :=
 (plus_cell w L d p (lt_of_cell h)).trans h
theorem cell_set_some {w : World} {p q : Addr} {v u : Value} (hne : p.block ≠ q.block) (h : w.cell? p = some v) : (w.setCell q u).cell? p = some v :=
 (World.cell?_of_block (Below.heap_setCell w q u _ hne)).trans h
theorem cell_alloc_here {w : World} {g i : Nat} {v : Value} {cs : Array Value} {T : TypeId} {fr : Nat × Nat} (hg : g = w.heap.size) (h : cs[i]? = some v) : (w.alloc (.cells cs T fr)).cell? ⟨g,i,none⟩ = some v:=by
 subst hg
 unfold World.cell?
 rw [heap_alloc_new]
 exact h
theorem cell_drew_some {w : World} {p : Addr} {v : Value} (h : w.cell? p = some v) : w.drew.cell? p = some v:=h
theorem cell_drewN_some {w : World} {p : Addr} {v : Value} (h : w.cell? p = some v) (n : Nat) : (w.drewN n).cell? p = some v:=h
@[go_sem] theorem le_sum1 (a x0 : Nat) : (a ≤ a + x0) = True:=eq_true (by omega)
@[go_sem] theorem lt_sum1 (a x0 : Nat) : (a < a + 1 + x0) = True:=eq_true (by omega)
@[go_sem] theorem le_more1 {a b : Nat} (x0 : Nat) (h : a ≤ b) : (a ≤ b + x0) = True:=eq_true (by omega)
@[go_sem] theorem lt_more1 {a b : Nat} (x0 : Nat) (h : a < b) : (a < b + x0) = True:=eq_true (by omega)
@[go_sem] theorem lt_le_more1 {a b : Nat} (x0 : Nat) (h : a < b) : (a ≤ b + x0) = True:=eq_true (by omega)
@[go_sem] theorem le_sum2 (a x0 x1 : Nat) : (a ≤ a + x0 + x1) = True:=eq_true (by omega)
@[go_sem] theorem lt_sum2 (a x0 x1 : Nat) : (a < a + 1 + x0 + x1) = True:=eq_true (by omega)
@[go_sem] theorem le_more2 {a b : Nat} (x0 x1 : Nat) (h : a ≤ b) : (a ≤ b + x0 + x1) = True:=eq_true (by omega)
@[go_sem] theorem lt_more2 {a b : Nat} (x0 x1 : Nat) (h : a < b) : (a < b + x0 + x1) = True:=eq_true (by omega)
@[go_sem] theorem lt_le_more2 {a b : Nat} (x0 x1 : Nat) (h : a < b) : (a ≤ b + x0 + x1) = True:=eq_true (by omega)
@[go_sem] theorem le_sum3 (a x0 x1 x2 : Nat) : (a ≤ a + x0 + x1 + x2) = True:=eq_true (by omega)
@[go_sem] theorem lt_sum3 (a x0 x1 x2 : Nat) : (a < a + 1 + x0 + x1 + x2) = True:=eq_true (by omega)
@[go_sem] theorem le_more3 {a b : Nat} (x0 x1 x2 : Nat) (h : a ≤ b) : (a ≤ b + x0 + x1 + x2) = True:=eq_true (by omega)
@[go_sem] theorem lt_more3 {a b : Nat} (x0 x1 x2 : Nat) (h : a < b) : (a < b + x0 + x1 + x2) = True:=eq_true (by omega)
@[go_sem] theorem lt_le_more3 {a b : Nat} (x0 x1 x2 : Nat) (h : a < b) : (a ≤ b + x0 + x1 + x2) = True:=eq_true (by omega)
@[go_sem] theorem le_sum4 (a x0 x1 x2 x3 : Nat) : (a ≤ a + x0 + x1 + x2 + x3) = True:=eq_true (by omega)
@[go_sem] theorem lt_sum4 (a x0 x1 x2 x3 : Nat) : (a < a + 1 + x0 + x1 + x2 + x3) = True:=eq_true (by omega)
@[go_sem] theorem le_more4 {a b : Nat} (x0 x1 x2 x3 : Nat) (h : a ≤ b) : (a ≤ b + x0 + x1 + x2 + x3) = True:=eq_true (by omega)
@[go_sem] theorem lt_more4 {a b : Nat} (x0 x1 x2 x3 : Nat) (h : a < b) : (a < b + x0 + x1 + x2 + x3) = True:=eq_true (by omega)
@[go_sem] theorem lt_le_more4 {a b : Nat} (x0 x1 x2 x3 : Nat) (h : a < b) : (a ≤ b + x0 + x1 + x2 + x3) = True:=eq_true (by omega)
@[go_sem] theorem le_sum5 (a x0 x1 x2 x3 x4 : Nat) : (a ≤ a + x0 + x1 + x2 + x3 + x4) = True:=eq_true (by omega)
@[go_sem] theorem lt_sum5 (a x0 x1 x2 x3 x4 : Nat) : (a < a + 1 + x0 + x1 + x2 + x3 + x4) = True:=eq_true (by omega)
@[go_sem] theorem le_more5 {a b : Nat} (x0 x1 x2 x3 x4 : Nat) (h : a ≤ b) : (a ≤ b + x0 + x1 + x2 + x3 + x4) = True:=eq_true (by omega)
@[go_sem] theorem lt_more5 {a b : Nat} (x0 x1 x2 x3 x4 : Nat) (h : a < b) : (a < b + x0 + x1 + x2 + x3 + x4) = True:=eq_true (by omega)
@[go_sem] theorem lt_le_more5 {a b : Nat} (x0 x1 x2 x3 x4 : Nat) (h : a < b) : (a ≤ b + x0 + x1 + x2 + x3 + x4) = True:=eq_true (by omega)
@[go_sem] theorem le_sum6 (a x0 x1 x2 x3 x4 x5 : Nat) : (a ≤ a + x0 + x1 + x2 + x3 + x4 + x5) = True:=eq_true (by omega)
@[go_sem] theorem lt_sum6 (a x0 x1 x2 x3 x4 x5 : Nat) : (a < a + 1 + x0 + x1 + x2 + x3 + x4 + x5) = True:=eq_true (by omega)
@[go_sem] theorem le_more6 {a b : Nat} (x0 x1 x2 x3 x4 x5 : Nat) (h : a ≤ b) : (a ≤ b + x0 + x1 + x2 + x3 + x4 + x5) = True:=eq_true (by omega)
@[go_sem] theorem lt_more6 {a b : Nat} (x0 x1 x2 x3 x4 x5 : Nat) (h : a < b) : (a < b + x0 + x1 + x2 + x3 + x4 + x5) = True:=eq_true (by omega)
@[go_sem] theorem lt_le_more6 {a b : Nat} (x0 x1 x2 x3 x4 x5 : Nat) (h : a < b) : (a ≤ b + x0 + x1 + x2 + x3 + x4 + x5) = True:=eq_true (by omega)
@[go_sem] theorem le_sum7 (a x0 x1 x2 x3 x4 x5 x6 : Nat) : (a ≤ a + x0 + x1 + x2 + x3 + x4 + x5 + x6) = True:=eq_true (by omega)
@[go_sem] theorem lt_sum7 (a x0 x1 x2 x3 x4 x5 x6 : Nat) : (a < a + 1 + x0 + x1 + x2 + x3 + x4 + x5 + x6) = True:=eq_true (by omega)
@[go_sem] theorem le_more7 {a b : Nat} (x0 x1 x2 x3 x4 x5 x6 : Nat) (h : a ≤ b) : (a ≤ b + x0 + x1 + x2 + x3 + x4 + x5 + x6) = True:=eq_true (by omega)
@[go_sem] theorem lt_more7 {a b : Nat} (x0 x1 x2 x3 x4 x5 x6 : Nat) (h : a < b) : (a < b + x0 + x1 + x2 + x3 + x4 + x5 + x6) = True:=eq_true (by omega)
@[go_sem] theorem lt_le_more7 {a b : Nat} (x0 x1 x2 x3 x4 x5 x6 : Nat) (h : a < b) : (a ≤ b + x0 + x1 + x2 + x3 + x4 + x5 + x6) = True:=eq_true (by omega)
@[go_sem] theorem le_sum8 (a x0 x1 x2 x3 x4 x5 x6 x7 : Nat) : (a ≤ a + x0 + x1 + x2 + x3 + x4 + x5 + x6 + x7) = True:=eq_true (by omega)
@[go_sem] theorem lt_sum8 (a x0 x1 x2 x3 x4 x5 x6 x7 : Nat) : (a < a + 1 + x0 + x1 + x2 + x3 + x4 + x5 + x6 + x7) = True:=eq_true (by omega)
@[go_sem] theorem le_more8 {a b : Nat} (x0 x1 x2 x3 x4 x5 x6 x7 : Nat) (h : a ≤ b) : (a ≤ b + x0 + x1 + x2 + x3 + x4 + x5 + x6 + x7) = True:=eq_true (by omega)
@[go_sem] theorem lt_more8 {a b : Nat} (x0 x1 x2 x3 x4 x5 x6 x7 : Nat) (h : a < b) : (a < b + x0 + x1 + x2 + x3 + x4 + x5 + x6 + x7) = True:=eq_true (by omega)
@[go_sem] theorem lt_le_more8 {a b : Nat} (x0 x1 x2 x3 x4 x5 x6 x7 : Nat) (h : a < b) : (a ≤ b + x0 + x1 + x2 + x3 + x4 + x5 + x6 + x7) = True:=eq_true (by omega)
@[go_sem] theorem le_sum9 (a x0 x1 x2 x3 x4 x5 x6 x7 x8 : Nat) : (a ≤ a + x0 + x1 + x2 + x3 + x4 + x5 + x6 + x7 + x8) = True:=eq_true (by omega)
@[go_sem] theorem lt_sum9 (a x0 x1 x2 x3 x4 x5 x6 x7 x8 : Nat) : (a < a + 1 + x0 + x1 + x2 + x3 + x4 + x5 + x6 + x7 + x8) = True:=eq_true (by omega)
@[go_sem] theorem le_more9 {a b : Nat} (x0 x1 x2 x3 x4 x5 x6 x7 x8 : Nat) (h : a ≤ b) : (a ≤ b + x0 + x1 + x2 + x3 + x4 + x5 + x6 + x7 + x8) = True:=eq_true (by omega)
@[go_sem] theorem lt_more9 {a b : Nat} (x0 x1 x2 x3 x4 x5 x6 x7 x8 : Nat) (h : a < b) : (a < b + x0 + x1 + x2 + x3 + x4 + x5 + x6 + x7 + x8) = True:=eq_true (by omega)
@[go_sem] theorem lt_le_more9 {a b : Nat} (x0 x1 x2 x3 x4 x5 x6 x7 x8 : Nat) (h : a < b) : (a ≤ b + x0 + x1 + x2 + x3 + x4 + x5 + x6 + x7 + x8) = True:=eq_true (by omega)
theorem szA (w : World) (o : Obj) : (w.alloc o).heap.size = w.heap.size + 1:=by simp
theorem szS (w : World) (p : Addr) (u : Value) : (w.setCell p u).heap.size = w.heap.size:=by simp [World.setCell]
theorem szD (w : World) : w.drew.heap.size = w.heap.size:=rfl
theorem szN (w : World) (n : Nat) : (w.drewN n).heap.size = w.heap.size:=rfl
@[go_sem] theorem set_drewN (w : World) (n : Nat) (p : Addr) (v : Value) : (w.drewN n).setCell p v = (w.setCell p v).drewN n:=rfl
@[go_sem] theorem alloc_drewN (w : World) (n : Nat) (o : Obj) : (w.drewN n).alloc o = (w.alloc o).drewN n:=rfl
theorem BWX {w w' : World} (h : Bw w w':=by repeat (first|with_reducible assumption|with_reducible exact Bw.refl _|with_reducible refine Bw.alloc ?_ _|with_reducible refine Bw.more ?_ _ _|with_reducible refine Bw.drew ?_|with_reducible refine Bw.drewN ?_ _|((with_reducible refine Bw.set2 ?_ ?_ _);(focus (first|omega|(simp only [szA,szS,szD,szN,plus_size,Array.size_append] <;> omega))))|with_reducible refine Bw.trans ?_ (by with_reducible assumption))) : Bw w w':=h
theorem SZX {p : Prop} (h : p:=by (first|omega|(simp only [szA,szS,szD,szN,plus_size,Array.size_append] <;> omega))) : p:=h
theorem CELX {p : Prop} (h : p:=by repeat (first|((with_reducible refine cell_alloc_here ?_ ?_);(focus (first|omega|(simp only [szA,szS,szD,szN,plus_size,Array.size_append] <;> omega)));(focus rfl))|with_reducible refine cell_alloc_some ?_ _|with_reducible refine cell_plus_some ?_ _ _|((with_reducible refine cell_set_some ?_ ?_);(focus (first|omega|(simp only [szA,szS,szD,szN,plus_size,Array.size_append] <;> omega))))|with_reducible refine cell_drew_some ?_|with_reducible refine cell_drewN_some ?_ _)) : p:=h
theorem CELAX {p : Prop} (h : p:=by repeat (first|with_reducible assumption|((with_reducible refine cell_alloc_here ?_ ?_);(focus (first|omega|(simp only [szA,szS,szD,szN,plus_size,Array.size_append] <;> omega)));(focus rfl))|with_reducible refine cell_alloc_some ?_ _|with_reducible refine cell_plus_some ?_ _ _|((with_reducible refine cell_set_some ?_ ?_);(focus (first|omega|(simp only [szA,szS,szD,szN,plus_size,Array.size_append] <;> omega))))|with_reducible refine cell_drew_some ?_|with_reducible refine cell_drewN_some ?_ _)) : p:=h
theorem tkH {P : Program} {ops : Array Oper} {Q : Exit → Act → World → Prop} {md : Region.Mode} {S : World → Prop} (i : Nat) {oi : Oper} (v : Value) {fuel : Nat} {listed : Array Bool} {a : Act} {w : World} (hi : ops[i]? = some oi) (hy : YieldsIf P ops S oi v a)
  (h : wpAnyH P md ops Q S fuel (listed.setIfInBounds i true) (a.put oi.dst v) w) (hs : Region.noSelect ops = true:=by kernel_rfl) (hf : Region.free md ops listed i = true:=by kernel_rfl) (hr : (Region.ready md ops listed).contains i = true:=by kernel_rfl)
  (hQ : ∀ c a w,Q (.panic c) (a.put oi.dst v) w → Q (.panic c) a w:=by exact fun _ _ _ h => h) (hS : S w:=by assumption) : wpAnyH P md ops Q S (fuel + 1) listed a w:=wpAnyH_take hi hs hf hr hQ hy hS h
theorem zP1 {α : Type _} {xs : List α} {i : Nat} (h : i < xs.toArray.size) : xs.toArray[i] = xs[i]'(by simpa using h):=List.getElem_toArray h
theorem zP2 {α : Type _} {a : α} {l : List α} (h : 0 < (a :: l).length) : (a :: l)[0] = a:=rfl
theorem zP3 {α : Type _} {a : α} {l : List α} {i : Nat} (h : i + 1 < (a :: l).length) : (a :: l)[i + 1] = l[i]'(by simpa using h):=rfl
theorem zP4 {α : Type _} (l : List α) (i : Nat) (a : α) : l.toArray.setIfInBounds i a = (l.set i a).toArray:=List.setIfInBounds_toArray l i a
theorem zP5 {α : Type _} {a b : α} {l : List α} : (a :: l).set 0 b = b :: l:=rfl
theorem zP6 {α : Type _} {a b : α} {l : List α} {n : Nat} : (a :: l).set (n + 1) b = a :: l.set n b:=rfl
theorem arO {P : Program} {ops : Array Oper} {Q : Exit → Act → World → Prop} {md : Region.Mode} {S : World → Prop} (i : Nat) {o : Oper} {fuel : Nat} {listed : Array Bool} {a : Act} {w : World} (h : ∀ K : Act → World → Prop,Shut (∀ a w,S w → (S w → wpAnyH P md ops Q S fuel (listed.setIfInBounds i true) a w) → K a w) → if Region.wanted o (yielded ops a.tmps) = true then Oper.wp P o a w K Q else K (a.put o.dst undef) w) (ho : ops[i]? = some o:=by rfl) (hr : Region.ready md ops listed = [i]:=by kernel_rfl) : wpAnyH P md ops Q S (fuel + 1) listed a w:=wpAnyH_ready hr (by simp) (AllReadyH.cons ho h AllReadyH.nil)
/-- What a list of one-cell elements reads as: element i lies at place i. -/
def Rd {α : Type} (f : α → Value) (w : World) (A : Option Addr) (n : Nat) (xs : List α) : Prop :=
 xs.length = n ∧ (0 < n → ∃ g o,A = some ⟨g,o,none⟩ ∧ ∀ i (h : i < xs.length),w.cell? ⟨g,o + i,none⟩ = some (f xs[i]))
/-- The value is a slice that reads as xs. -/
def Sl {α : Type} (f : α → Value) (w : World) (v : Value) (xs : List α) : Prop :=
 ∃ A c,v = .slice A xs.length c ∧ xs.length ≤ c ∧ c ≤ 9223372036854775807 ∧ Rd f w A xs.length xs
theorem Rd.up {α : Type} {f : α → Value} {w w' : World} {A : Option Addr} {n : Nat} {xs : List α} (h : Rd f w A n xs) (hb : Bw w w') : Rd f w' A n xs:=by
 refine ⟨h.1,fun h0 => ?_⟩
 obtain ⟨g,o,e,hx⟩:=h.2 h0
 refine ⟨g,o,e,fun i hi => ?_⟩
 have h1:=hx i hi
 rw [Below.cell hb (p:=⟨g,o + i,none⟩) (lt_of_cell h1)]
 exact h1
theorem Sl.up {α : Type} {f : α → Value} {w w' : World} {v : Value} {xs : List α} (h : Sl f w v xs) (hb : Bw w w') : Sl f w' v xs:=by
 obtain ⟨A,c,e,h1,h2,h3⟩:=h
 exact ⟨A,c,e,h1,h2,h3.up hb⟩
theorem Sl.of_own {α : Type} {f : α → Value} {w : World} {base : Nat} {e : TypeId} {v : Value} {n : Nat} {xs : List α} (h : w.ownsRow base e 1 v n (xs.map f)) : Sl f w v xs:=by
 have hl : n = xs.length:=by have:=h.1;simp at this;omega
 subst hl
 rcases h.2 with ⟨rfl,h0⟩|⟨g,cap,cur,rfl,_,hh,hnc,hm,_,htake⟩
 ·refine ⟨none,0,by rw [h0],by omega,by omega,rfl,fun h1 => absurd h1 (by omega)⟩
 ·refine ⟨_,cap,rfl,hnc,by unfold maxLen at hm;omega,rfl,fun h0 => ⟨g,0,rfl,fun i hi => ?_⟩⟩
  have:=h.cells (g:=g) rfl i (f xs[i]) (by simp [hi])
  simpa [Addr.add,Nat.zero_add] using (show w.cell? ⟨g,0 + i,none⟩ = _ from by by_cases hi0 : i = 0 <;> simpa [Addr.add,hi0] using this)
theorem Bw.grown {w w1 w2 : World} {row : Option Nat} (h : Bw w w1) (hg : w1.grownBy w2 row) (hr : ∀ k,row = some k → w.heap.size ≤ k) : Bw w w2:=Below.grown h hg h.size hr
theorem Rd.news {α : Type} {f : α → Value} {w : World} {ad : Addr} {n : Nat} {xs : List α} (h : Rd f w (some ad) n xs) : ∀ j u,(xs.map f)[j]? = some u → w.cell? (ad.add j) = some u:=by
 intro j u hj
 rw [List.getElem?_map] at hj
 by_cases hl : j < xs.length
 ·obtain ⟨g,o,e,hx⟩:=h.2 (by have:=h.1;omega)
  cases e
  rw [List.getElem?_eq_getElem hl] at hj
  simp only [Option.map_some,Option.some.injEq] at hj
  subst hj
  have:=hx j hl
  by_cases h0 : j = 0
  ·subst h0;simpa [Addr.add] using this
  ·simpa [Addr.add,h0] using this
 ·rw [List.getElem?_eq_none (by omega)] at hj;cases hj
theorem one_map {α : Type} {f : α → Value} (hf : ∀ x,(f x).oneCell' = true) (xs : List α) : ∀ u ∈ xs.map f,u.oneCell' = true:=by
 intro u hu
 obtain ⟨x,-,rfl⟩:=List.mem_map.1 hu
 exact hf x
theorem Bw.of_grown {w w1 : World} (h : w.grownBy w1 none) : Bw w w1:=⟨h.os,h.tape,h.output,h.size,fun k hk => h.block k hk (by simp)⟩
theorem cell_bw {w w1 : World} {p : Addr} {v : Value} (hb : Bw w w1) (h : w.cell? p = some v) : w1.cell? p = some v:=(Below.cell hb (lt_of_cell h)).trans h
theorem _root_.Go.World.ownsRow.bw {w w1 : World} {base : Nat} {e : TypeId} {s : Nat} {v : Value} {n : Nat} {xs : List Value} (h : w.ownsRow base e s v n xs) (hb : Bw w w1) : w1.ownsRow base e s v n xs:=by
 have hg : w.grownBy w1 none:=⟨hb.os,hb.tape,hb.output,hb.size,fun k hk _ => hb.block k hk⟩
 refine h.kept hg ?_
 cases v.ownBlock
 ·exact .inl rfl
 ·exact .inr (by simp)
theorem Sl.mk' {α : Type} {f : α → Value} {w : World} {A : Option Addr} {N c : Nat} {xs : List α} (hN : N = xs.length) (h1 : N ≤ c) (h2 : c ≤ 9223372036854775807) (h3 : Rd f w A N xs) : Sl f w (.slice A N c) xs:=by
 subst hN;exact ⟨A,c,rfl,h1,h2,h3⟩
theorem Rd.set {α : Type} {f : α → Value} {w : World} {A : Option Addr} {n : Nat} {xs : List α} {p : Addr} {u0 : Value} (h : Rd f w A n xs) (hp : w.cell? p = some u0) (hne : ∀ x,f x ≠ u0) (u : Value) : Rd f (w.setCell p u) A n xs:=by
 refine ⟨h.1,fun h0 => ?_⟩
 obtain ⟨g,o,e,hx⟩:=h.2 h0
 refine ⟨g,o,e,fun i hi => ?_⟩
 rw [World.cell?_setCell_other]
 ·exact hx i hi
 ·intro e2
  have h1:=hx i hi
  rw [← e2,hp] at h1
  exact hne _ (Option.some.inj h1).symm
theorem Sl.set {α : Type} {f : α → Value} {w : World} {v : Value} {xs : List α} {p : Addr} {u0 : Value} (h : Sl f w v xs) (hp : w.cell? p = some u0) (hne : ∀ x,f x ≠ u0) (u : Value) : Sl f (w.setCell p u) v xs:=by
 obtain ⟨A,c,e,h1,h2,h3⟩:=h
 exact ⟨A,c,e,h1,h2,h3.set hp hne u⟩
theorem Sl.nil_ {α : Type} {f : α → Value} (w : World) (A : Option Addr) (c : Nat) (h : c ≤ 9223372036854775807) : Sl f w (.slice A 0 c) []:=⟨A,c,rfl,by simp,h,rfl,fun h => absurd h (by simp)⟩
theorem Rd.none_ {α : Type} {f : α → Value} {w : World} {A : Option Addr} {n : Nat} {xs : List α} (h : Rd f w A n xs) : A = none → n = 0 ∧ n = 0:=by
 intro e
 subst e
 rcases Nat.eq_zero_or_pos n with h0|h0
 ·exact ⟨h0,h0⟩
 ·obtain ⟨g,o,e,-⟩:=h.2 h0;cases e
theorem Rd.news2 {α : Type} {f : α → Value} {w : World} {A : Option Addr} {n : Nat} {xs : List α} (h : Rd f w A n xs) : ∀ ad,A = some ad → ∀ j u,(xs.map f)[j]? = some u → w.cell? (ad.add j) = some u:=by
 intro ad e
 subst e
 exact h.news
theorem cell_one_at {w : World} {g : Nat} {x : Value} (h : w.cell? ⟨g,0,none⟩ = some x) : ∀ j u,[x][j]? = some u → w.cell? ((⟨g,0,none⟩ : Addr).add j) = some u:=by
 intro j u hj
 match j,hj with
 | 0,hj => simp at hj;subst hj;simpa [Addr.add] using h
theorem Sl.lit {α : Type} {f : α → Value} (w : World) (T : TypeId) (cs : Array Value) (xs : List α) (n c : Nat) (hc : cs = (xs.map f).toArray) (hn : n = xs.length) (h1 : n ≤ c) (h2 : c ≤ 9223372036854775807) : Sl f (w.alloc (.cells cs T)) (.slice (some ⟨w.heap.size,0,none⟩) n c) xs:=by
 subst hc
 refine Sl.mk' hn h1 h2 ⟨hn.symm,fun _ => ⟨_,0,rfl,fun i hi => ?_⟩⟩
 rw [Nat.zero_add]
 exact cell_alloc_here rfl (by simp [hi])
theorem grown_refl (w : World) (r : Option Nat) : w.grownBy w r:=⟨rfl,rfl,rfl,Nat.le_refl _,fun _ _ _ => rfl⟩
theorem grown_bw {w w' : World} (h : Bw w w') (r : Option Nat) : w.grownBy w' r:=⟨h.os,h.tape,h.output,h.size,fun k hk _ => h.block k hk⟩
theorem grown_drewN {w w' : World} {r : Option Nat} (h : w.grownBy w' r) (q : Nat) : w.grownBy (w'.drewN q) r:=⟨h.os,h.tape,h.output,h.size,h.block⟩
theorem grown_set {w w' : World} {b : Nat} (h : w.grownBy w' (some b)) (o : Nat) (v : Value) : w.grownBy (w'.setCell ⟨b,o,none⟩ v) (some b) :=
 ⟨h.os,h.tape,h.output,by rw [szS];exact h.size,fun k hk hne => (Below.heap_setCell w' ⟨b,o,none⟩ v k (fun e => hne (by rw [e]))).trans (h.block k hk hne)⟩
theorem grown_cell {w w' : World} {b : Nat} (h : w.grownBy w' (some b)) {p : Addr} (hl : p.block < w.heap.size) (hne : p.block ≠ b) : w'.cell? p = w.cell? p :=
 World.cell?_of_block (h.block _ hl (fun e => hne (Option.some.inj e)))
theorem grown_frozen {w w' : World} {b : Nat} (h : w.grownBy w' (some b)) {p : Addr} (hl : p.block < w.heap.size) (hne : p.block ≠ b) : w'.frozen? p = w.frozen? p :=
 World.frozen?_of_block (h.block _ hl (fun e => hne (Option.some.inj e)))
theorem Bw.deck {w w1 w2 : World} {b : Nat} (h : Bw w w1) (hg : w1.grownBy w2 (some b)) (hb : w.heap.size ≤ b) : Bw w w2:=Bw.grown h hg (fun k hk => by cases hk;exact hb)
/-- What an owned row's value looks like. -/
theorem own_form {w : World} {base : Nat} {e : TypeId} {s : Nat} {v : Value} {n : Nat} {xs : List Value} (h : w.ownsRow base e s v n xs) : ∃ A c,v = .slice A n c ∧ n ≤ c ∧ c ≤ 9223372036854775807:=by
 rcases h.2 with ⟨rfl,rfl⟩|⟨g,cap,cur,rfl,_,_,h1,h2,_⟩
 ·exact ⟨none,0,rfl,Nat.le_refl _,by omega⟩
 ·exact ⟨_,cap,rfl,h1,by unfold maxLen at h2;omega⟩
theorem Rd.lit {α : Type} {f : α → Value} (w : World) (T : TypeId) (cs : Array Value) (xs : List α) (n : Nat) (hc : cs = (xs.map f).toArray) (hn : n = xs.length) : Rd f (w.alloc (.cells cs T)) (some ⟨w.heap.size,0,none⟩) n xs:=by
 subst hc
 refine ⟨hn.symm,fun _ => ⟨_,0,rfl,fun i hi => ?_⟩⟩
 rw [Nat.zero_add]
 exact cell_alloc_here rfl (by simp [hi])
theorem Rd.nil_ {α : Type} {f : α → Value} (w : World) (A : Option Addr) : Rd f w A 0 []:=⟨rfl,fun h => absurd h (by simp)⟩
/-- A cell of a literal block, at whatever place. -/
theorem lit_pick {α : Type} {f : α → Value} (w : World) (T : TypeId) (cs : Array Value) (xs : List α) (hc : cs = (xs.map f).toArray) (P : α → Prop) (hP : ∀ x ∈ xs,P x) (v : Int) (h0 : 0 ≤ v) (h1 : v < xs.length) :
  ∃ x,P x ∧ (w.alloc (.cells cs T)).cell? ⟨w.heap.size,v.toNat,none⟩ = some (f x):=by
 have hl : v.toNat < xs.length:=by omega
 refine ⟨xs[v.toNat],hP _ (List.getElem_mem _),?_⟩
 subst hc
 exact cell_alloc_here rfl (by simp [hl])
theorem own_deck {w w' : World} {b base : Nat} {e : TypeId} {s : Nat} {v : Value} {n : Nat} {xs : List Value} (h : w.ownsRow base e s v n xs) (hg : w.grownBy w' (some b)) (hb : b < base) : w'.ownsRow base e s v n xs:=by
 refine h.kept hg ?_
 cases hv : v.ownBlock with
 | none => exact .inl rfl
 | some k => exact .inr (fun e => by cases e;have:=(h.lt _ hv).1;omega)
theorem own_rd {α : Type} {f : α → Value} {w : World} {base : Nat} {e : TypeId} {A : Option Addr} {n c m : Nat} {xs : List α} (h : w.ownsRow base e 1 (.slice A n c) m (xs.map f)) : Rd f w A n xs:=by
 obtain ⟨A',c',e',_,_,hR⟩:=Sl.of_own h
 cases e'
 exact hR
theorem own_nil {w : World} {base : Nat} {e : TypeId} {s : Nat} {A : Option Addr} {n c m : Nat} {xs : List Value} (h : w.ownsRow base e s (.slice A n c) m xs) : A = none → c = 0:=by
 intro e0
 subst e0
 rcases h.2 with ⟨e1,_⟩|⟨g,cap,cur,e1,_⟩
 ·cases e1;rfl
 ·cases e1
theorem Rd.take {α : Type} {f : α → Value} {w : World} {A : Option Addr} {n : Nat} {xs : List α} (h : Rd f w A n xs) (p : Nat) (hp : p ≤ n) : Rd f w A p (xs.take p):=by
 refine ⟨by have:=h.1;simp;omega,fun h0 => ?_⟩
 obtain ⟨g,o,e,hx⟩:=h.2 (by omega)
 exact ⟨g,o,e,fun i hi => by simp at hi;rw [hx i (by omega)];simp⟩
theorem Rd.drop {α : Type} {f : α → Value} {w : World} {ad : Addr} {n : Nat} {xs : List α} (h : Rd f w (some ad) n xs) (p : Nat) (hp : p ≤ n) : Rd f w (some (ad.add p)) (n - p) (xs.drop p):=by
 refine ⟨by have:=h.1;simp;omega,fun h0 => ?_⟩
 obtain ⟨g,o,e,hx⟩:=h.2 (by omega)
 cases e
 refine ⟨g,o + p,by by_cases hp0 : p = 0 <;> simp [Addr.add,hp0],fun i hi => ?_⟩
 have:=hx (p + i) (by simp at hi;omega)
 rw [show o + p + i = o + (p + i) by omega,this]
 simp
theorem Sl.get {α : Type} {f : α → Value} {w : World} {v : Value} {xs : List α} (h : Sl f w v xs) {N : Nat} (hN : xs.length = N) : ∃ A c,v = .slice A N c ∧ N ≤ c ∧ c ≤ 9223372036854775807 ∧ Rd f w A N xs:=by
 subst hN;exact h
theorem own_made {w : World} {base g : Nat} {e : TypeId} {size : Nat} (hg : g = w.heap.size) (hb : base ≤ g) : (w.alloc (.cells #[] e)).ownsRow base e size (.slice (some ⟨g,0,none⟩) 0 0) 0 []:=by
 subst hg
 exact World.ownsRow_made w #[] 0 hb (by unfold maxLen;omega) (by simp)
theorem wpList_yes {P : Program} {w : World} {ops : Array Oper} {rest : List Oper} {o : Oper} {a : Act} {Q : Exit → Act → World → Prop} (hw : Region.wanted o (yielded ops a.tmps) = true)
  (h : ∀ K : Act → World → Prop,(∀ a w,wpList P ops Q rest a w → K a w) → o.wp P a w K Q) : wpList P ops Q (o :: rest) a w :=
 wpList_step fun K hK => by rw [if_pos hw];exact h K hK
/-- append to a row of the call's own, from whatever slice, under a guard that lets it. -/
theorem wpList_append_srcG {P : Program} {w : World} {ops : Array Oper} {rest : List Oper} {o : Oper} {a : Act} {Q : Exit → Act → World → Prop} (hgd : Region.wanted o (yielded ops a.tmps) = true) (s x : Operand) (t : TypeId)
  (ho : o.op = .call { callee:=.builtin .append,args:=#[s,x],argTypes:=#[t,t] })
  (base : Nat) (e : TypeId) (i : TypeInfo) (z : Value) (size bytes : Nat) (ht : P.underlying t = some (.slice e)) (hi : P.info? e = some i) (hz : i.zero = some z)
  (hsize : i.size = size) (hby : i.bytes = bytes) (hzs : z.cells.size = size) (hsz : 0 < size)
  (v : Value) (n : Nat) (xs : List Value) (hs : a.eval s = v) (hown : w.ownsRow base e size v n xs)
  (ao : Option Addr) (m c : Nat) (news : List Value) (hx : a.eval x = .slice ao m c) (hl : news.length = m * size) (hnone : ao = none → m = 0) (hnews : ∀ ad,ao = some ad → ∀ j u,news[j]? = some u → w.cell? (ad.add j) = some u) (h1 : ∀ u ∈ news,u.oneCell' = true)
  (h63 : n + m ≤ maxLen) (hbytes : (n + m) * bytes ≤ 140737488355328) (hbase : base ≤ w.heap.size)
  (h : ∀ v' w',w'.ownsRow base e size v' (n + m) (xs ++ news) → w.grownBy w' v.ownBlock → wpList P ops Q rest (a.put o.dst v') w') :
  wpList P ops Q (o :: rest) a w:=by
 cases ao with
 | some ad => exact wpList_yes hgd fun _ hK => wp_append_own w s x t ho base e i z size bytes ht hi hz hsize hby hzs hsz v n xs hs hown ad m c news hx hl (hnews ad rfl) h1 h63 hbytes hbase fun v' w' h2 h3 _ => hK _ _ (h v' w' h2 h3)
 | none =>
  have hm:=hnone rfl
  subst hm
  have hn : news = []:=List.eq_nil_of_length_eq_zero (by simpa using hl)
  subst hn
  obtain ⟨A',c',rfl,hle,_⟩:=own_form hown
  refine wpList_yes hgd fun K hK => ?_
  have hrun:=run_append_nothing (P:=P) w t t o.type e i ht hi A' n c' hle (.slice none 0 c) (Src.ofNil w ht c)
  unfold Oper.wp
  simp [execOp,ho,resolve,invoke,builtin,hs,hx,hrun,Result.andThen]
  exact hK _ _ (h _ _ (by simpa using hown) ⟨rfl,rfl,rfl,Nat.le_refl _,fun _ _ _ => rfl⟩)
/-- The same at a step of a region that draws its order. -/
theorem step_append_srcG {P : Program} {w : World} {ops : Array Oper} {o : Oper} {a : Act} {K : Act → World → Prop} {Q : Exit → Act → World → Prop} {E : Prop} (hgd : Region.wanted o (yielded ops a.tmps) = true) (s x : Operand) (t : TypeId)
  (ho : o.op = .call { callee:=.builtin .append,args:=#[s,x],argTypes:=#[t,t] })
  (base : Nat) (e : TypeId) (i : TypeInfo) (z : Value) (size bytes : Nat) (ht : P.underlying t = some (.slice e)) (hi : P.info? e = some i) (hz : i.zero = some z)
  (hsize : i.size = size) (hby : i.bytes = bytes) (hzs : z.cells.size = size) (hsz : 0 < size)
  (v : Value) (n : Nat) (xs : List Value) (hs : a.eval s = v) (hown : w.ownsRow base e size v n xs)
  (ao : Option Addr) (m c : Nat) (news : List Value) (hx : a.eval x = .slice ao m c) (hl : news.length = m * size) (hnone : ao = none → m = 0) (hnews : ∀ ad,ao = some ad → ∀ j u,news[j]? = some u → w.cell? (ad.add j) = some u) (h1 : ∀ u ∈ news,u.oneCell' = true)
  (h63 : n + m ≤ maxLen) (hbytes : (n + m) * bytes ≤ 140737488355328) (hbase : base ≤ w.heap.size)
  (h : ∀ v' w',w'.ownsRow base e size v' (n + m) (xs ++ news) → w.grownBy w' v.ownBlock → K (a.put o.dst v') w') :
  if Region.wanted o (yielded ops a.tmps) = true then Oper.wp P o a w K Q else E:=by
 rw [if_pos hgd]
 cases ao with
 | some ad => exact wp_append_own w s x t ho base e i z size bytes ht hi hz hsize hby hzs hsz v n xs hs hown ad m c news hx hl (hnews ad rfl) h1 h63 hbytes hbase fun v' w' h2 h3 _ => h v' w' h2 h3
 | none =>
  have hm:=hnone rfl
  subst hm
  have hn : news = []:=List.eq_nil_of_length_eq_zero (by simpa using hl)
  subst hn
  obtain ⟨A',c',rfl,hle,_⟩:=own_form hown
  have hrun:=run_append_nothing (P:=P) w t t o.type e i ht hi A' n c' hle (.slice none 0 c) (Src.ofNil w ht c)
  unfold Oper.wp
  simp [execOp,ho,resolve,invoke,builtin,hs,hx,hrun,Result.andThen]
  exact h _ _ (by simpa using hown) ⟨rfl,rfl,rfl,Nat.le_refl _,fun _ _ _ => rfl⟩
end Go.Proofs.YteebdjmjeahccaaGreatDoor
