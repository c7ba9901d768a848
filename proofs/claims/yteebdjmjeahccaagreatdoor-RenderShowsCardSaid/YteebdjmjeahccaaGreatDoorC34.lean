/- Parts of the proof, one after the other. -/
import Derived.Test.YteebdjmjeahccaaGreatDoorC33
import Derived.Test.YteebdjmjeahccaaGreatDoorC06
import Derived.Deep.RegionHeld3
import Derived.Test.YteebdjmjeahccaaGreatDoorC04
set_option linter.unusedSimpArgs false
set_option linter.unusedVariables false
namespace Go.Proofs.YteebdjmjeahccaaGreatDoor
open Go.RowKit
/-- The parser's state: the parameters that are finished, and the last one. -/
def stp (s : List Int × Int) (c : Int) : List Int × Int:=if c = 59 then (s.1 ++ [s.2],0) else (s.1,10 * s.2 + (c - 48))
def okS (s : List Int × Int) : Bool:=decide (s.1.length ≤ 100 ∧ 0 ≤ s.2 ∧ s.2 ≤ 1000)
def okC (c : Int) : Bool:=decide (c = 59 ∨ (48 ≤ c ∧ c ≤ 57))
def gd : List Int × Int → List Int → Bool
 | s,[] => okS s
 | s,c :: t => okS s && (okC c && gd (stp s c) t)
def fin (s : List Int × Int) (t : List Int) : List Int × Int:=t.foldl stp s
theorem gd_cons {s : List Int × Int} {c : Int} {t : List Int} (h : gd s (c :: t) = true) : okS s = true ∧ okC c = true ∧ gd (stp s c) t = true:=by
 unfold gd at h
 simpa [Bool.and_eq_true] using h
theorem okS_mk {p : List Int} {n : Int} (h : p.length ≤ 100) (h0 : 0 ≤ n) (h1 : n ≤ 1000) : okS (p,n) = true:=decide_eq_true ⟨h,h0,h1⟩
theorem okC_dig {c : Int} (h0 : 48 ≤ c) (h1 : c ≤ 57) : okC c = true:=decide_eq_true (.inr ⟨h0,h1⟩)
theorem stp_dig {p : List Int} {n c : Int} (h : c ≠ 59) : stp (p,n) c = (p,10 * n + (c - 48)):=if_neg h
theorem stp_sep {p : List Int} {n : Int} : stp (p,n) 59 = (p ++ [n],0):=if_pos rfl
theorem u8n {k : Nat} (h : k < 10) : (((UInt8.ofNat (48 + k)).toNat : Nat) : Int) = 48 + k:=by
 rw [UInt8.toNat_ofNat']
 have : (48 + k) % 2 ^ 8 = 48 + k:=Nat.mod_eq_of_lt (by omega)
 omega
theorem itoa_pos (d : Int) (h0 : 0 ≤ d) : Lib.itoa d = Lib.decDigits d.toNat:=by
 unfold Lib.itoa
 rw [if_neg (by omega)]
theorem dig1 (d : Int) (h0 : 0 ≤ d) (h1 : d < 10) : wr1 d = [59,48 + d]:=by
 unfold wr1
 rw [itoa_pos d h0,Lib.decDigits_one (by omega)]
 simp only [List.map_cons,List.map_nil]
 rw [u8n (by omega)]
 rw [show ((d.toNat : Nat) : Int) = d by omega]
theorem dig2 (d : Int) (h0 : 10 ≤ d) (h1 : d < 100) : wr1 d = [59,48 + d / 10,48 + d % 10]:=by
 unfold wr1
 rw [itoa_pos d (by omega),Lib.decDigits_two (by omega) (by omega)]
 simp only [List.map_cons,List.map_nil]
 rw [u8n (by omega),u8n (by omega)]
 rw [show ((d.toNat / 10 : Nat) : Int) = d / 10 by omega,show ((d.toNat % 10 : Nat) : Int) = d % 10 by omega]
theorem dig3 (d : Int) (h0 : 100 ≤ d) (h1 : d < 1000) : wr1 d = [59,48 + d / 100,48 + d / 10 % 10,48 + d % 10]:=by
 unfold wr1
 rw [itoa_pos d (by omega),Lib.decDigits,dif_neg (by omega),Lib.decDigits_two (by omega) (by omega)]
 simp only [List.map_cons,List.map_nil,List.cons_append,List.nil_append]
 rw [u8n (by omega),u8n (by omega),u8n (by omega)]
 rw [show ((d.toNat / 10 / 10 : Nat) : Int) = d / 100 by omega,show ((d.toNat / 10 % 10 : Nat) : Int) = d / 10 % 10 by omega,show ((d.toNat % 10 : Nat) : Int) = d % 10 by omega]
theorem gd_one (p : List Int) (n d : Int) (t : List Int) (hp : p.length < 100) (hn : 0 ≤ n) (hn1 : n ≤ 1000) (h0 : 0 ≤ d) (h1 : d < 1000) (h : gd (p ++ [n],d) t = true) : gd (p,n) (wr1 d ++ t) = true ∧ fin (p,n) (wr1 d ++ t) = fin (p ++ [n],d) t:=by
 have hl : (p ++ [n]).length ≤ 100:=by simp;omega
 rcases (show d < 10 ∨ (10 ≤ d ∧ d < 100) ∨ 100 ≤ d by omega) with h2|⟨h2,h3⟩|h2
 ·rw [dig1 d h0 h2]
  have e1 : stp (stp (p,n) 59) (48 + d) = (p ++ [n],d):=by rw [stp_sep,stp_dig (by omega)];congr 1;omega
  refine ⟨?_,?_⟩
  ·have k59 : okC 59 = true:=rfl
   show (okS (p,n) && (okC 59 && (okS (stp (p,n) 59) && (okC (48 + d) && gd (stp (stp (p,n) 59) (48 + d)) t)))) = true
   rw [e1,stp_sep,h,k59,okS_mk (by omega) hn hn1,okS_mk hl (by omega) (by omega),okC_dig (by omega) (by omega)]
   rfl
  ·show fin (stp (stp (p,n) 59) (48 + d)) t = _
   rw [e1]
 ·rw [dig2 d h2 h3]
  have e0 : stp (p ++ [n],0) (48 + d / 10) = (p ++ [n],d / 10):=by rw [stp_dig (by omega)];congr 1;omega
  have e1 : stp (p ++ [n],d / 10) (48 + d % 10) = (p ++ [n],d):=by rw [stp_dig (by omega)];congr 1;omega
  refine ⟨?_,?_⟩
  ·have k59 : okC 59 = true:=rfl
   show (okS (p,n) && (okC 59 && (okS (stp (p,n) 59) && (okC (48 + d / 10) && (okS (stp (stp (p,n) 59) (48 + d / 10)) && (okC (48 + d % 10) && gd (stp (stp (stp (p,n) 59) (48 + d / 10)) (48 + d % 10)) t)))))) = true
   rw [stp_sep,e0,e1,h,k59,okS_mk (by omega) hn hn1,okS_mk hl (by omega) (by omega),okS_mk hl (by omega) (by omega),okC_dig (by omega) (by omega),okC_dig (by omega) (by omega)]
   rfl
  ·show fin (stp (stp (stp (p,n) 59) (48 + d / 10)) (48 + d % 10)) t = _
   rw [stp_sep,e0,e1]
 ·rw [dig3 d h2 h1]
  have e0 : stp (p ++ [n],0) (48 + d / 100) = (p ++ [n],d / 100):=by rw [stp_dig (by omega)];congr 1;omega
  have e1 : stp (p ++ [n],d / 100) (48 + d / 10 % 10) = (p ++ [n],d / 10):=by rw [stp_dig (by omega)];congr 1;omega
  have e2 : stp (p ++ [n],d / 10) (48 + d % 10) = (p ++ [n],d):=by rw [stp_dig (by omega)];congr 1;omega
  refine ⟨?_,?_⟩
  ·have k59 : okC 59 = true:=rfl
   show (okS (p,n) && (okC 59 && (okS (stp (p,n) 59) && (okC (48 + d / 100) && (okS (stp (stp (p,n) 59) (48 + d / 100)) && (okC (48 + d / 10 % 10) && (okS (stp (stp (stp (p,n) 59) (48 + d / 100)) (48 + d / 10 % 10)) && (okC (48 + d % 10) && gd (stp (stp (stp (stp (p,n) 59) (48 + d / 100)) (48 + d / 10 % 10)) (48 + d % 10)) t)))))))) = true
   rw [stp_sep,e0,e1,e2,h,k59,okS_mk (by omega) hn hn1,okS_mk hl (by omega) (by omega),okS_mk hl (by omega) (by omega),okS_mk hl (by omega) (by omega),okC_dig (by omega) (by omega),okC_dig (by omega) (by omega),okC_dig (by omega) (by omega)]
   rfl
  ·show fin (stp (stp (stp (stp (p,n) 59) (48 + d / 100)) (48 + d / 10 % 10)) (48 + d % 10)) t = _
   rw [stp_sep,e0,e1,e2]
theorem gd_all : ∀ (ds : List Int) (p : List Int) (n : Int),p.length + ds.length ≤ 100 → 0 ≤ n → n ≤ 1000 → (∀ d ∈ ds,0 ≤ d ∧ d < 1000) →
  gd (p,n) (ds.flatMap wr1) = true ∧ ((fin (p,n) (ds.flatMap wr1)).1 ++ [(fin (p,n) (ds.flatMap wr1)).2] = p ++ n :: ds)
 | [],p,n,hp,hn,hn1,_ => ⟨okS_mk (by simpa using hp) hn hn1,rfl⟩
 | d :: t,p,n,hp,hn,hn1,hd => by
  have hd1:=hd d (by simp)
  simp only [List.length_cons] at hp
  have ih:=gd_all t (p ++ [n]) d (by simp;omega) (by omega) (by omega) (fun x hx => hd x (by simp [hx]))
  have h1:=gd_one p n d (t.flatMap wr1) (by omega) hn hn1 (by omega) (by omega) ih.1
  rw [List.flatMap_cons,h1.2]
  exact ⟨h1.1,by rw [ih.2];simp⟩
theorem numC_bd (c lo hi : Int) (h0 : 1 ≤ c) (h1 : c ≤ 16) (h2 : 0 ≤ lo) (h3 : lo ≤ 500) (h4 : 0 ≤ hi) (h5 : hi ≤ 500) : 0 ≤ numC c lo hi ∧ numC c lo hi < 1000:=by
 unfold numC
 split <;> omega
theorem fullN_bd (f g b : Int) (h : avB f g b = true) : (∀ d ∈ fullN f g b,0 ≤ d ∧ d < 1000) ∧ (fullN f g b).length ≤ 5:=by
 have hv : 0 ≤ f ∧ f ≤ 7 ∧ 0 ≤ g ∧ g ≤ 16 ∧ 0 ≤ b ∧ b ≤ 16:=of_decide_eq_true h
 have hfl:=flagN_len f 3
 refine ⟨?_,?_⟩
 ·intro d hd
  unfold fullN at hd
  rcases List.mem_append.1 hd with hd|hd
  ·rcases List.mem_append.1 hd with hd|hd
   ·have:=hfl.2 d hd;omega
   ·split at hd
    ·simp at hd
    ·simp at hd;subst hd;exact numC_bd _ _ _ (by omega) (by omega) (by omega) (by omega) (by omega) (by omega)
  ·split at hd
   ·simp at hd
   ·simp at hd;subst hd;exact numC_bd _ _ _ (by omega) (by omega) (by omega) (by omega) (by omega) (by omega)
 ·unfold fullN
  rw [List.length_append,List.length_append]
  split <;> split <;> simp <;> omega
theorem flag_back : ∀ y : Fin 8,applA (flagN (y.val : Int) 3) (0,0,0) = ((y.val : Int),0,0):=by decide +kernel
theorem fg_back : ∀ (x : Fin 17) (y : Fin 8),applA (if (x.val : Int) = 0 then [] else [numC (x.val : Int) 30 90]) ((y.val : Int),0,0) = ((y.val : Int),(x.val : Int),0):=by decide +kernel
theorem bg_back : ∀ (z x : Fin 17) (y : Fin 8),applA (if (z.val : Int) = 0 then [] else [numC (z.val : Int) 40 100]) ((y.val : Int),(x.val : Int),0) = ((y.val : Int),(x.val : Int),(z.val : Int)):=by decide +kernel
theorem full_back (f g b : Int) (h : avB f g b = true) (a : Int × Int × Int) : applA (0 :: fullN f g b) a = (f,g,b):=by
 have hv : 0 ≤ f ∧ f ≤ 7 ∧ 0 ≤ g ∧ g ≤ 16 ∧ 0 ≤ b ∧ b ≤ 16:=of_decide_eq_true h
 have hfl:=flagN_len f 3
 have k1:=flag_back ⟨f.toNat,by omega⟩
 have k2:=fg_back ⟨g.toNat,by omega⟩ ⟨f.toNat,by omega⟩
 have k3:=bg_back ⟨b.toNat,by omega⟩ ⟨g.toNat,by omega⟩ ⟨f.toNat,by omega⟩
 simp only [show ((f.toNat : Nat) : Int) = f from by omega,show ((g.toNat : Nat) : Int) = g from by omega,show ((b.toNat : Nat) : Int) = b from by omega] at k1 k2 k3
 rw [applA_one _ _ _ (by omega) (by omega)]
 rw [show single a.1 a.2.1 a.2.2 0 = (0,0,0) from rfl]
 unfold fullN
 have n38 : ∀ p ∈ flagN f 3,p ≠ 38 ∧ p ≠ 48:=fun p hp => by have:=hfl.2 p hp;omega
 have g38 : ∀ p ∈ (if g = 0 then [] else [numC g 30 90]),p ≠ 38 ∧ p ≠ 48:=fun p hp => by
  split at hp
  ·simp at hp
  ·simp at hp;subst hp;unfold numC;split <;> omega
 rw [applA_app _ _ _ (fun p hp => by rcases List.mem_append.1 hp with h|h;exact n38 p h;exact g38 p h),applA_app _ _ _ n38,k1,k2,k3]
end Go.Proofs.YteebdjmjeahccaaGreatDoor
