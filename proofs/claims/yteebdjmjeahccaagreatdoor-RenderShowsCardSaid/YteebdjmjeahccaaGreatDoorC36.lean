/- Parts of the proof, one after the other. -/
import Derived.Test.YteebdjmjeahccaaGreatDoorC35
import Derived.Lib.ItoaNum
import Derived.Lib.ItoaLen
import Derived.Test.YteebdjmjeahccaaGreatDoorC33
import Derived.PlainAid
import Derived.Lib.SlBytesConst
import Derived.Test.YteebdjmjeahccaaGreatDoorC01
import Derived.Deep.DeepCutAuto
import Derived.Deep.QuietTactic
import Derived.Test.YteebdjmjeahccaaGreatDoorC06
import Derived.Test.YteebdjmjeahccaaGreatDoorC07
set_option linter.unusedSimpArgs false
set_option linter.unusedVariables false
namespace Go.Proofs.YteebdjmjeahccaaGreatDoor
open Go.RowKit
end Go.Proofs.YteebdjmjeahccaaGreatDoor
namespace Go.Proofs.YteebdjmjeahccaaGreatDoor
open Go.RowKit Go.PlainAid
/-- A status in a block of its own. -/
def SAt (w : World) (b : Nat) (s : ByteArray) (p inc runs : Int) : Prop:=w.cell? ⟨b,0,none⟩ = some (.string s) ∧ w.cell? ⟨b,1,none⟩ = some (.int .i64 p) ∧ w.cell? ⟨b,2,none⟩ = some (.int .i64 inc) ∧ w.cell? ⟨b,3,none⟩ = some (.int .i64 runs)
theorem SAt.below {w w' : World} {B b : Nat} {s : ByteArray} {p inc runs : Int} (h : SAt w b s p inc runs) (hb : Below B w w') (hl : b < B) : SAt w' b s p inc runs:=by
 obtain ⟨h0,h1,h2,h3⟩:=h
 exact ⟨(Below.cell hb (p:=⟨b,0,none⟩) hl).trans h0,(Below.cell hb (p:=⟨b,1,none⟩) hl).trans h1,(Below.cell hb (p:=⟨b,2,none⟩) hl).trans h2,(Below.cell hb (p:=⟨b,3,none⟩) hl).trans h3⟩
def Ln (w wr : World) (s : ByteArray) (p inc runs : Int) : Prop:=SAt wr w.heap.size s p inc runs ∧ Bw w wr
theorem Ln.step {w wr w1 : World} {s : ByteArray} {p inc runs : Int} (h : Ln w wr s p inc runs) (hb : Below (w.heap.size + 1) wr w1) : Ln w w1 s p inc runs :=
 ⟨h.1.below hb (Nat.lt_succ_self _),Below.trans h.2 (Below.mono hb (by omega))⟩
theorem Ln.lt {w wr : World} {s : ByteArray} {p inc runs : Int} (h : Ln w wr s p inc runs) : w.heap.size + 1 ≤ wr.heap.size:=lt_of_cell h.1.1
/-- A row of new memory: an own one, or a literal that has no room. -/
def OwnZ (w : World) (B : Nat) (v : Value) (n : Nat) (xs : List Value) : Prop :=
 w.ownsRow B 5 1 v n xs ∨ ∃ g,v = .slice (some ⟨g,0,none⟩) n n ∧ xs.length = n ∧ B ≤ g ∧ n ≤ 1000 ∧ ∀ j u,xs[j]? = some u → w.cell? ((⟨g,0,none⟩ : Addr).add j) = some u
theorem OwnZ.form {w : World} {B : Nat} {v : Value} {n : Nat} {xs : List Value} (h : OwnZ w B v n xs) : ∃ A c,v = .slice A n c ∧ n ≤ c ∧ c ≤ 9223372036854775807:=by
 rcases h with h|⟨g,rfl,_,_,h5,_⟩
 ·exact own_form h
 ·exact ⟨_,n,rfl,Nat.le_refl _,by omega⟩
theorem OwnZ.len {w : World} {B : Nat} {v : Value} {n : Nat} {xs : List Value} (h : OwnZ w B v n xs) : xs.length = n:=by
 rcases h with h|⟨g,_,h,_⟩
 ·simpa using h.1
 ·exact h
theorem OwnZ.alloc {w : World} {B : Nat} {v : Value} {n : Nat} {xs : List Value} (h : OwnZ w B v n xs) (o : Obj) : OwnZ (w.alloc o) B v n xs:=by
 rcases h with h|⟨g,h1,h2,h3,h5,h4⟩
 ·exact .inl (h.alloc o)
 ·exact .inr ⟨g,h1,h2,h3,h5,fun j u hj => cell_alloc_some (h4 j u hj) o⟩
theorem OwnZ.drewN {w : World} {B : Nat} {v : Value} {n : Nat} {xs : List Value} (h : OwnZ w B v n xs) (q : Nat) : OwnZ (w.drewN q) B v n xs:=by
 rcases h with h|⟨g,h1,h2,h3,h5,h4⟩
 ·exact .inl h
 ·exact .inr ⟨g,h1,h2,h3,h5,fun j u hj => cell_drewN_some (h4 j u hj) q⟩
@[go_sem] theorem conv_lit (w : World) (C : Array Value) (n c b : Nat) (hb : b = w.heap.size) : (convert 33 33 (.slice (some ⟨b,0,none⟩) n c)).run Tryz.prog (w.alloc (.cells C 5)) = .ok (.slice (some ⟨b,0,none⟩) n c) (w.alloc (.cells C 5 (C.size,C.size + 1))):=by
 subst hb
 exact Lib.run_convert_bytes_const (P:=Tryz.prog) w 33 5 C n c Tryz.underlying33 Tryz.underlying5
@[go_sem] theorem lit_cell0 (w : World) (x y : Value) (b : Nat) (hb : b = w.heap.size) : (w.alloc (.cells #[x,y] 5 (2,3))).cell? ⟨b,0,none⟩ = some x:=cell_alloc_here hb rfl
@[go_sem] theorem lit_frozen0 (w : World) (x y : Value) (b : Nat) (hb : b = w.heap.size) : (w.alloc (.cells #[x,y] 5 (2,3))).frozen? ⟨b,0,none⟩ = false:=by
 subst hb
 unfold World.frozen?
 rw [heap_alloc_new]
 rfl
@[go_sem] theorem lit_set0 (w : World) (x y u : Value) (b : Nat) (hb : b = w.heap.size) : (w.alloc (.cells #[x,y] 5 (2,3))).setCell ⟨b,0,none⟩ u = w.alloc (.cells #[u,y] 5 (2,3)):=by
 subst hb
 have hm : ∀ (a : Array Obj) (x : Obj) (f : Obj → Obj),(a.push x).modify a.size f = a.push (f x):=by
  intro a x f
  apply Array.ext
  ·simp
  ·intro i h1 h2
   simp only [Array.getElem_modify,Array.getElem_push]
   by_cases h : a.size = i
   ·subst h;simp
   ·have hi : i < a.size:=by simp at h1;omega
    simp [h,hi]
 unfold World.setCell World.alloc
 dsimp only
 rw [hm]
 rfl
end Go.Proofs.YteebdjmjeahccaaGreatDoor
