/- Parts of the proof, one after the other. -/
import Derived.Test.YteebdjmjeahccaaGreatDoorC27
import Derived.Test.YteebdjmjeahccaaGreatDoorC25
import Derived.Test.YteebdjmjeahccaaGreatDoorC26
import Derived.Test.YteebdjmjeahccaaGreatDoorC01
import Derived.Test.YteebdjmjeahccaaGreatDoorC05
set_option linter.unusedSimpArgs false
set_option linter.unusedVariables false
set_option maxRecDepth 100000
set_option maxHeartbeats 16000000
namespace Go.Proofs.YteebdjmjeahccaaGreatDoor
open Go.RowKit
/-- The digit of the byte at place i, d where there is none. -/
def dig (bs : List Int) (i : Nat) (d : Int) : Int:=match bs[i]? with|some x => x % 64|none => d
def numN (bs : List Int) (d : Int) : Nat → Int
 | 1 => bs.headD 0
 | 2 => (bs.headD 0 % 32) * 64 + dig bs 1 d
 | 3 => ((bs.headD 0 % 16) * 64 + dig bs 1 d) * 64 + dig bs 2 d
 | 4 => (((bs.headD 0 % 8) * 64 + dig bs 1 d) * 64 + dig bs 2 d) * 64 + dig bs 3 d
 | _ => 0
theorem refnum_any (A : Option Addr) (n cap N : Nat) (bs : List Int) (d : Int) (w : World) (hr : Rd (.int .u8) w A n bs) (h1 : 1 ≤ n) (hn : n ≤ N) (h4 : N ≤ 4) (hb : ∀ x ∈ bs,0 ≤ x ∧ x ≤ 255) (hd : 0 ≤ d ∧ d ≤ 63) :
  Calls Tryz.prog 76 #[.slice A n cap,.int .i64 N,.int .i64 d] w fun e w' => e = .returned (.int .i64 (numN bs d N)) ∧ ∃ q,w' = w.drewN q:=by
 obtain ⟨g,o,rfl,hx⟩:=hr.2 (by omega)
 have hl:=hr.1
 match bs,hl,hx,hb with
 | [b],hl,hx,hb =>
  simp at hl;subst hl
  have x0:=hx 0 (by simp)
  have y0:=hb b (by simp)
  simp at x0
  match N,hn,h4 with
  | 1,_,_ => exact refnum1_any g o 1 cap b d w x0 y0 (by omega)
  | 2,_,_ => exact refnum21_any g o cap b d w x0 y0 hd
  | 3,_,_ => exact refnum31_any g o cap b d w x0 y0 hd
  | 4,_,_ => exact refnum41_any g o cap b d w x0 y0 hd
 | [b,c],hl,hx,hb =>
  simp at hl;subst hl
  have x0:=hx 0 (by simp)
  have x1:=hx 1 (by simp)
  have y0:=hb b (by simp)
  have y1:=hb c (by simp)
  simp at x0 x1
  match N,hn,h4 with
  | 2,_,_ => exact refnum22_any g o cap b c d w x0 x1 y0 y1 hd
  | 3,_,_ => exact refnum32_any g o cap b c d w x0 x1 y0 y1 hd
  | 4,_,_ => exact refnum42_any g o cap b c d w x0 x1 y0 y1 hd
 | [b,c,x],hl,hx,hb =>
  simp at hl;subst hl
  have x0:=hx 0 (by simp)
  have x1:=hx 1 (by simp)
  have x2:=hx 2 (by simp)
  have y0:=hb b (by simp)
  have y1:=hb c (by simp)
  have y2:=hb x (by simp)
  simp at x0 x1 x2
  match N,hn,h4 with
  | 3,_,_ => exact refnum33_any g o cap b c x d w x0 x1 x2 y0 y1 y2 hd
  | 4,_,_ => exact refnum43_any g o cap b c x d w x0 x1 x2 y0 y1 y2 hd
 | [b,c,x,y],hl,hx,hb =>
  simp at hl;subst hl
  have x0:=hx 0 (by simp)
  have x1:=hx 1 (by simp)
  have x2:=hx 2 (by simp)
  have x3:=hx 3 (by simp)
  have y0:=hb b (by simp)
  have y1:=hb c (by simp)
  have y2:=hb x (by simp)
  have y3:=hb y (by simp)
  simp at x0 x1 x2 x3
  match N,hn,h4 with
  | 4,_,_ => exact refnum44_any g o cap b c x y d w x0 x1 x2 x3 y0 y1 y2 y3 hd
 | [],hl,_,_ => simp at hl;omega
 | _ :: _ :: _ :: _ :: _ :: _,hl,_,_ => simp at hl;omega
def lowN : Nat → Int
 | 2 => 128
 | 3 => 2048
 | 4 => 65536
 | _ => 0
def contB (x : Int) : Bool:=decide (128 ≤ x ∧ x ≤ 191)
/-- What the reference's last test says of the least and the most. -/
def badB (L M low : Int) : Bool:=decide (M < low ∨ 1114111 < L ∨ (55296 ≤ L ∧ M ≤ 57343))
theorem ok_conts : ∀ (t : List Int) (lo hi : Int),128 ≤ lo → hi ≤ 191 → (∃ x ∈ t,contB x = false) → okRest lo hi t = false
 | [],_,_,_,_,h => by simp at h
 | c :: t,lo,hi,h1,h2,h => by
  show (decide _ && okRest 128 191 t) = false
  rcases h with ⟨x,hx,hc⟩
  simp only [contB,decide_eq_false_iff_not] at hc
  rcases List.mem_cons.1 hx with rfl|hx
  ·have : decide (lo ≤ x ∧ x ≤ hi) = false:=by simp;omega
   rw [this];rfl
  ·rw [ok_conts t 128 191 (by omega) (by omega) ⟨x,hx,by simp [contB];omega⟩,Bool.and_false]
theorem rlow_ge (b : Int) : 128 ≤ rlow b:=by unfold rlow;split <;> (try split) <;> omega
theorem rhigh_le (b : Int) : rhigh b ≤ 191:=by unfold rhigh;split <;> (try split) <;> omega
theorem conts_true : ∀ {t : List Int},(∀ x ∈ t,contB x = true) → okRest 128 191 t = true
 | [],_ => rfl
 | c :: t,h => by
  show (decide _ && okRest 128 191 t) = true
  have:=h c (by simp)
  simp only [contB] at this
  rw [this,conts_true (fun x hx => h x (by simp [hx]))];rfl
theorem rsize_cases (b : Int) (N : Nat) (h : rsize b = N) (h0 : 1 ≤ N) : (N = 1 ∧ b < 128) ∨ (N = 2 ∧ 194 ≤ b ∧ b ≤ 223) ∨ (N = 3 ∧ 224 ≤ b ∧ b ≤ 239) ∨ (N = 4 ∧ 240 ≤ b ∧ b ≤ 244):=by
 unfold rsize at h
 repeat' split at h
 all_goals omega
/-- The plain law of prefix: what the least and the most say is what the second byte's range says. -/
theorem prefix_bad (b : Int) (t : List Int) (N : Nat) (hb0 : 0 ≤ b) (hN : rsize b = N) (hn : t.length + 1 ≤ N) (ht : ∀ x ∈ t,contB x = true) :
  prefixB (b :: t) = !badB (numN (b :: t) 0 N) (numN (b :: t) 63 N) (lowN N):=by
 have hs : decide ((t.length : Int) + 1 ≤ rsize b) = true:=by rw [hN];simp;omega
 show (decide _ && okRest (rlow b) (rhigh b) t) = _
 rw [hs,Bool.true_and]
 have hcont : ∀ c r,t = c :: r → (128 ≤ c ∧ c ≤ 191) ∧ okRest (rlow b) (rhigh b) t = decide (rlow b ≤ c ∧ c ≤ rhigh b):=by
  intro c r e
  subst e
  have:=ht c (by simp)
  simp only [contB,decide_eq_true_eq] at this
  refine ⟨this,?_⟩
  show (decide _ && okRest 128 191 r) = _
  rw [conts_true (fun x hx => ht x (by simp [hx])),Bool.and_true]
 have fin : ∀ (p : Bool) (L M l : Int),(p = true ↔ ¬ (M < l ∨ 1114111 < L ∨ (55296 ≤ L ∧ M ≤ 57343))) → p = !badB L M l:=by
  intro p L M l h
  rw [Bool.eq_iff_iff,h]
  unfold badB
  rw [Bool.not_eq_true',decide_eq_false_iff_not]
 have hdig : ∀ x ∈ t,∀ c,c = x → 128 ≤ c ∧ c ≤ 191:=by
  intro x hx c e
  subst e
  have:=ht c hx
  simpa only [contB,decide_eq_true_eq] using this
 apply fin
 rcases rsize_cases b N hN (by omega) with ⟨rfl,h⟩|⟨rfl,h1,h2⟩|⟨rfl,h1,h2⟩|⟨rfl,h1,h2⟩
 ·match t,hn with
  | [],_ => simp [okRest,numN,lowN];omega
  | _ :: _,hn => simp at hn
 ·match t,hn,hcont with
  | [],_,_ => simp [okRest,numN,lowN,dig];omega
  | [c],_,hcont =>
   obtain ⟨hc,e⟩:=hcont c [] rfl
   rw [e,decide_eq_true_eq]
   show _ ↔ ¬ ((b % 32) * 64 + c % 64 < 128 ∨ 1114111 < (b % 32) * 64 + c % 64 ∨ (55296 ≤ (b % 32) * 64 + c % 64 ∧ (b % 32) * 64 + c % 64 ≤ 57343))
   unfold rlow rhigh
   repeat' split
   all_goals omega
  | _ :: _ :: _,hn,_ => simp at hn
 ·match t,hn,hcont,hdig with
  | [],_,_,_ => simp [okRest,numN,lowN,dig];omega
  | [c],_,hcont,_ =>
   obtain ⟨hc,e⟩:=hcont c [] rfl
   rw [e,decide_eq_true_eq]
   show _ ↔ ¬ (((b % 16) * 64 + c % 64) * 64 + 63 < 2048 ∨ 1114111 < ((b % 16) * 64 + c % 64) * 64 + 0 ∨ (55296 ≤ ((b % 16) * 64 + c % 64) * 64 + 0 ∧ ((b % 16) * 64 + c % 64) * 64 + 63 ≤ 57343))
   unfold rlow rhigh
   repeat' split
   all_goals omega
  | [c,d],_,hcont,hdig =>
   obtain ⟨hc,e⟩:=hcont c [d] rfl
   have hd:=hdig d (by simp) d rfl
   rw [e,decide_eq_true_eq]
   show _ ↔ ¬ (((b % 16) * 64 + c % 64) * 64 + d % 64 < 2048 ∨ 1114111 < ((b % 16) * 64 + c % 64) * 64 + d % 64 ∨ (55296 ≤ ((b % 16) * 64 + c % 64) * 64 + d % 64 ∧ ((b % 16) * 64 + c % 64) * 64 + d % 64 ≤ 57343))
   unfold rlow rhigh
   repeat' split
   all_goals omega
  | _ :: _ :: _ :: _,hn,_,_ => simp at hn
 ·match t,hn,hcont,hdig with
  | [],_,_,_ => simp [okRest,numN,lowN,dig];omega
  | [c],_,hcont,_ =>
   obtain ⟨hc,e⟩:=hcont c [] rfl
   rw [e,decide_eq_true_eq]
   show _ ↔ ¬ ((((b % 8) * 64 + c % 64) * 64 + 63) * 64 + 63 < 65536 ∨ 1114111 < (((b % 8) * 64 + c % 64) * 64 + 0) * 64 + 0 ∨ (55296 ≤ (((b % 8) * 64 + c % 64) * 64 + 0) * 64 + 0 ∧ (((b % 8) * 64 + c % 64) * 64 + 63) * 64 + 63 ≤ 57343))
   unfold rlow rhigh
   repeat' split
   all_goals omega
  | [c,d],_,hcont,hdig =>
   obtain ⟨hc,e⟩:=hcont c [d] rfl
   have hd:=hdig d (by simp) d rfl
   rw [e,decide_eq_true_eq]
   show _ ↔ ¬ ((((b % 8) * 64 + c % 64) * 64 + d % 64) * 64 + 63 < 65536 ∨ 1114111 < (((b % 8) * 64 + c % 64) * 64 + d % 64) * 64 + 0 ∨ (55296 ≤ (((b % 8) * 64 + c % 64) * 64 + d % 64) * 64 + 0 ∧ (((b % 8) * 64 + c % 64) * 64 + d % 64) * 64 + 63 ≤ 57343))
   unfold rlow rhigh
   repeat' split
   all_goals omega
  | [c,d,x],_,hcont,hdig =>
   obtain ⟨hc,e⟩:=hcont c [d,x] rfl
   have hd:=hdig d (by simp) d rfl
   have hx:=hdig x (by simp) x rfl
   rw [e,decide_eq_true_eq]
   show _ ↔ ¬ ((((b % 8) * 64 + c % 64) * 64 + d % 64) * 64 + x % 64 < 65536 ∨ 1114111 < (((b % 8) * 64 + c % 64) * 64 + d % 64) * 64 + x % 64 ∨ (55296 ≤ (((b % 8) * 64 + c % 64) * 64 + d % 64) * 64 + x % 64 ∧ (((b % 8) * 64 + c % 64) * 64 + d % 64) * 64 + x % 64 ≤ 57343))
   unfold rlow rhigh
   repeat' split
   all_goals omega
  | _ :: _ :: _ :: _ :: _,hn,_,_ => simp at hn
theorem and192 (x : Int) (h0 : 0 ≤ x) (h1 : x ≤ 255) : (bits .and .u8 x 192 != 128) = !contB x:=by
 have key : ∀ y : Fin 256,(bits .and .u8 (y.val : Int) 192 != 128) = !contB (y.val : Int):=by decide +kernel
 have:=key ⟨x.toNat,by omega⟩
 simpa [show ((x.toNat : Nat) : Int) = x from by omega] using this
theorem refnum_at (A : Option Addr) (n cap N : Nat) (Ni : Int) (bs : List Int) (d L : Int) (w : World) (hNi : Ni = N) (hL : numN bs d N = L) (hr : Rd (.int .u8) w A n bs) (h1 : 1 ≤ n) (hn : n ≤ N) (h4 : N ≤ 4) (hb : ∀ x ∈ bs,0 ≤ x ∧ x ≤ 255) (hd : 0 ≤ d ∧ d ≤ 63) :
  Calls Tryz.prog 76 #[.slice A n cap,.int .i64 Ni,.int .i64 d] w fun e w' => e = .returned (.int .i64 L) ∧ ∃ q,w' = w.drewN q:=by
 subst hNi;subst hL
 exact refnum_any A n cap N bs d w hr h1 hn h4 hb hd
theorem Rd.drewN {α : Type} {f : α → Value} {w : World} {A : Option Addr} {n : Nat} {xs : List α} (h : Rd f w A n xs) (q : Nat) : Rd f (w.drewN q) A n xs:=h.up BWX
theorem refprefix_go (g o n cap N : Nat) (Ni b : Int) (t : List Int) (w : World) (hr : Rd (.int .u8) w (some ⟨g,o,none⟩) n (b :: t)) (hn : n ≤ cap) (hc : cap ≤ 9223372036854775807) (hb : ∀ x ∈ b :: t,0 ≤ x ∧ x ≤ 255) (hN : rsize b = Ni) (hnN : n ≤ N) (h4 : (N = 1 ∧ Ni = 1) ∨ (N = 2 ∧ Ni = 2) ∨ (N = 3 ∧ Ni = 3) ∨ (N = 4 ∧ Ni = 4)) :
  Calls Tryz.prog 75 #[.slice (some ⟨g,o,none⟩) n cap] w fun e w' => e = .returned (.tuple #[.bool (prefixB (b :: t)),.bool (prefixB (b :: t) && ((n : Int) == Ni))]) ∧ Bw w w':=by
 have hl : t.length + 1 = n:=hr.1
 have x0 : w.cell? ⟨g,o,none⟩ = some (.int .u8 b):=by
  obtain ⟨g',o',e,hx⟩:=hr.2 (by omega)
  cases e
  exact hx 0 (by simp)
 have hb0:=(hb b (by simp)).1
 obtain ⟨L,hL⟩ : ∃ L,numN (b :: t) 0 N = L:=⟨_,rfl⟩
 obtain ⟨M,hM⟩ : ∃ M,numN (b :: t) 63 N = M:=⟨_,rfl⟩
 have HP : Hid ((∀ x ∈ t,contB x = true) → prefixB (b :: t) = !badB L M (lowN N)):=Lib.hid (fun h => by rw [← hL,← hM];exact prefix_bad b t N hb0 (by omega) (by omega) h)
 have HQ : Hid (∀ x ∈ t,contB x = false → prefixB (b :: t) = false):=Lib.hid (fun x hx h => by
  show (decide _ && okRest (rlow b) (rhigh b) t) = false
  rw [ok_conts t _ _ (rlow_ge b) (rhigh_le b) ⟨x,hx,h⟩,Bool.and_false])
 have HL:=Lib.hid hL
 have HM:=Lib.hid hM
 have HR:=Lib.hid hr
 have HB:=Lib.hid hb
 have HS:=Lib.hid hN
 have hn1 : (0 : Int) < n:=by omega
 have hn4 : (n : Int) ≤ Ni:=by omega
 have hn5 : ¬ (Ni < n):=by omega
 have hNe : Ni = N:=by omega
 have HNe:=Lib.hid hNe
 have hN14 : 1 ≤ N ∧ N ≤ 4:=by omega
 have HN14:=Lib.hid hN14
 have hlow : M < lowN N ∨ (lowN N ≤ M ∧ 1114111 < L) ∨ (lowN N ≤ M ∧ L ≤ 1114111 ∧ 55296 ≤ L ∧ M ≤ 57343) ∨ (lowN N ≤ M ∧ L < 55296) ∨ (lowN N ≤ M ∧ L ≤ 1114111 ∧ 55296 ≤ L ∧ 57343 < M):=by omega
 have HLow:=Lib.hid hlow
 clear hL hM hr hb hN hNe hN14 hlow
 rcases h4 with ⟨rfl,rfl⟩|⟨rfl,rfl⟩|⟨rfl,rfl⟩|⟨rfl,rfl⟩
 all_goals
  go_enter Tryz.func75,Tryz.ntmps75
  go_wp2_with (go_at_call 99;refine (refsize_any _ _).mono ?_;rintro ee ww ⟨rfl,rfl⟩;rw [HS.out])
  go_loop [5] (fun i => ∃ k : Nat,i = .int .i64 k ∧ 1 ≤ k ∧ k ≤ n ∧ ∀ x ∈ t.take (k - 1),contB x = true) (fun i => n - (intOf i).toNat)
  case atStart => exact ⟨1,rfl,by omega,by omega,by simp⟩
  case round =>
   obtain ⟨k,rfl,hk1,hk,hcs⟩:=hrel
   have HC:=Lib.hid hcs
   clear hcs
   by_cases hlt : k < n
   ·obtain ⟨x,hxx⟩ : ∃ x,x = t[k - 1]'(by omega):=⟨_,rfl⟩
    have hxc : w.cell? ⟨g,o + k,none⟩ = some (.int .u8 x):=by
     obtain ⟨g',o',e,hx⟩:=HR.out.2 (by omega)
     cases e
     have:=hx k (by simp;omega)
     rw [this,hxx]
     congr 2
     obtain ⟨k',rfl⟩ : ∃ k',k = k' + 1:=⟨k - 1,by omega⟩
     simp
    have hxb:=HB.out x (by rw [hxx];simp)
    have h192:=and192 x hxb.1 hxb.2
    have HX:=Lib.hid (show x ∈ t by rw [hxx];exact List.getElem_mem _)
    have HT:=Lib.hid (show t.take (k + 1 - 1) = t.take (k - 1) ++ [x] by rw [hxx,show k + 1 - 1 = k - 1 + 1 by omega,List.take_succ_eq_append_getElem (by omega)])
    have e1 : (0 : Int) ≤ k:=by omega
    have e2 : (k : Int) < n:=by omega
    clear hxx
    cases hcx : contB x
    ·have HCX:=Lib.hid hcx
     rw [hcx] at h192
     clear hcx
     go_wp2
     go_ret2
     exact ⟨by rw [HQ.out x HX.out HCX.out];rfl,BWX⟩
    ·have HCX:=Lib.hid hcx
     rw [hcx] at h192
     clear hcx
     go_wp2
     go_round
     case rel =>
      refine ⟨k + 1,by go_num,by omega,by omega,?_⟩
      rw [HT.out]
      intro y hy
      rcases List.mem_append.1 hy with h|h
      ·exact HC.out y h
      ·simp at h;subst h;exact HCX.out
     case measure => simp [intOf];omega
   ·obtain rfl : n = k:=by omega
    have hcs:=HC.out
    rw [List.take_of_length_le (by omega)] at hcs
    have HP2:=Lib.hid (HP.out hcs)
    clear hcs HC HP HQ
    go_wp2_with fail
    refine (refnum_at _ _ _ _ _ (b :: t) 0 L _ HNe.out HL.out HR.out (by omega) hnN HN14.out.2 HB.out (by omega)).mono ?_
    rintro e w1 ⟨rfl,q,rfl⟩
    go_wp2_with fail
    refine (refnum_at _ _ _ _ _ (b :: t) 63 M _ HNe.out HM.out (HR.out.drewN q) (by omega) hnN HN14.out.2 HB.out (by omega)).mono ?_
    rintro e w2 ⟨rfl,q2,rfl⟩
    rcases HLow.out with h|⟨h,h'⟩|⟨h,h',h'',h'''⟩|⟨h,h'⟩|⟨h,h',h'',h'''⟩
    all_goals
     simp only [lowN] at h
     first|(exfalso;omega)|skip
     all_goals go_wp2
     all_goals
      go_ret2
      refine ⟨?_,BWX⟩
      rw [HP2.out]
      first
       | (rw [show badB L M (lowN _) = true from decide_eq_true (by simp only [lowN];omega)];rfl)
       | (rw [show badB L M (lowN _) = false from decide_eq_false (by simp only [lowN];omega)];rfl)
theorem refprefix_any (A : Option Addr) (n cap : Nat) (bs : List Int) (w : World) (hr : Rd (.int .u8) w A n bs) (hn : n ≤ cap) (hc : cap ≤ 9223372036854775807) (hb : ∀ x ∈ bs,0 ≤ x ∧ x ≤ 255) :
  Calls Tryz.prog 75 #[.slice A n cap] w fun e w' => e = .returned (.tuple #[.bool (prefixB bs),.bool (completeB bs)]) ∧ Bw w w':=by
 cases bs with
 | nil =>
  have h0 : n = 0:=hr.1.symm
  subst h0
  exact (refprefix_nil A cap w).mono fun e w' ⟨he,hw⟩ => ⟨he,hw ▸ Bw.refl _⟩
 | cons b t =>
  have hl : t.length + 1 = n:=hr.1
  obtain ⟨g,o,rfl,hx⟩:=hr.2 (by omega)
  have hs : 0 ≤ rsize b ∧ rsize b ≤ 4:=by
   unfold rsize
   repeat' split
   all_goals omega
  by_cases hlt : rsize b < (n : Int)
  ·refine (refprefix_long g o n cap b w (hx 0 (by simp)) (by omega) hlt hs.1).mono fun e w' ⟨he,hw⟩ => ⟨?_,hw ▸ Bw.refl _⟩
   have hp : prefixB (b :: t) = false:=by
    show (decide _ && _) = false
    rw [show decide ((t.length : Int) + 1 ≤ rsize b) = false by simp;omega];rfl
   rw [he,completeB,hp];rfl
  ·obtain ⟨N,hN⟩ : ∃ N : Nat,rsize b = N:=⟨(rsize b).toNat,by omega⟩
   refine (refprefix_go g o n cap N (rsize b) b t w hr hn hc hb rfl (by omega) (by omega)).mono fun e w' ⟨he,hw⟩ => ⟨?_,hw⟩
   rw [he,completeB]
   have : (((b :: t).length : Nat) : Int) = (n : Int):=by rw [List.length_cons];omega
   rw [this];rfl
theorem refvalid_any (A : Option Addr) (n cap : Nat) (bs : List Int) (w : World) (hr : Rd (.int .u8) w A n bs) (hn : n ≤ cap) (hc : cap ≤ 9223372036854775807) (hb : ∀ x ∈ bs,0 ≤ x ∧ x ≤ 255) :
  Calls Tryz.prog 69 #[.agg #[.slice A n cap]] w fun e w' => e = .returned (.bool (validB bs)) ∧ Bw w w':=by
 obtain ⟨p,hp⟩ : ∃ p,prefixB bs = p:=⟨_,rfl⟩
 obtain ⟨c,hcc⟩ : ∃ c,completeB bs = c:=⟨_,rfl⟩
 have HPC : Hid (validB bs = (decide (n = 0) || (p && !c))):=Lib.hid (by
  have hl:=hr.1
  cases bs with
  | nil => simp at hl;subst hl;simp [validB]
  | cons b t =>
   have : decide (n = 0) = false:=by simp at hl ⊢;omega
   rw [this,← hp,← hcc]
   show (false || beginB (b :: t)) = _
   unfold beginB completeB
   cases h : prefixB (b :: t)
   ·rfl
   ·have hle : ((b :: t).length : Int) ≤ rsize ((b :: t).headD 0):=by
     have h2 : (decide ((t.length : Int) + 1 ≤ rsize b) && okRest (rlow b) (rhigh b) t) = true:=h
     simp only [Bool.and_eq_true,decide_eq_true_eq] at h2
     simpa using h2.1
    rw [Bool.eq_iff_iff]
    simp
    simp at hle
    omega)
 have HP:=Lib.hid hp
 have HC:=Lib.hid hcc
 clear hp hcc
 have key : ∀ (p c : Bool),(prefixB bs = p) → (completeB bs = c) → Calls Tryz.prog 69 #[.agg #[.slice A n cap]] w fun e w' => e = .returned (.bool (decide (n = 0) || (p && !c))) ∧ Bw w w':=by
  intro p c hp hcc
  have HP:=Lib.hid hp
  have HC:=Lib.hid hcc
  clear hp hcc HPC
  by_cases h0 : n = 0
  ·subst h0
   go_enter Tryz.func69,Tryz.ntmps69
   go_wp2_with (go_at_call 75;refine (refprefix_any _ _ _ bs _ (by exact hr.up BWX) hn hc hb).mono ?_;rintro ee ww ⟨rfl,hbb⟩;rw [HP.out,HC.out];obtain ⟨L1,d1,rfl⟩:=Bw.isPlus hbb;clear hbb)
   go_ret
   exact ⟨rfl,BWX⟩
  ·have hz : ((n : Int) == 0) = false:=by rw [beq_eq_false_iff_ne];omega
   have hd : decide (n = 0) = false:=by simp [h0]
   cases p <;> cases c
   all_goals
    go_enter Tryz.func69,Tryz.ntmps69
    go_wp2_with (go_at_call 75;refine (refprefix_any _ _ _ bs _ (by exact hr.up BWX) hn hc hb).mono ?_;rintro ee ww ⟨rfl,hbb⟩;rw [HP.out,HC.out];obtain ⟨L1,d1,rfl⟩:=Bw.isPlus hbb;clear hbb)
    go_ret
    exact ⟨by rw [hd];rfl,BWX⟩
 rw [HPC.out]
 exact key p c HP.out HC.out
theorem val_num {bs : List Int} {n : Nat} (hn : bs.length = n) (h1 : 1 ≤ n) (h4 : n ≤ 4) : numN bs 0 n = valN bs:=by
 subst hn
 match bs with
 | [] => simp at h1
 | [b] => rfl
 | [b,c] => rfl
 | [b,c,d] => rfl
 | [b,c,d,x] => rfl
 | _ :: _ :: _ :: _ :: _ :: _ => simp at h4
theorem pre_split (bs : List Int) : beginB bs = (prefixB bs && !completeB bs):=by
 cases bs with
 | nil => rfl
 | cons b t =>
  unfold beginB completeB
  cases h : prefixB (b :: t)
  ·rfl
  ·have h2 : (decide ((t.length : Int) + 1 ≤ rsize b) && okRest (rlow b) (rhigh b) t) = true:=h
   simp only [Bool.and_eq_true,decide_eq_true_eq] at h2
   have h3:=h2.1
   rw [Bool.eq_iff_iff]
   simp
   omega
theorem refdecode_any (A B : Option Addr) (n cap m capB : Nat) (r0 bs : List Int) (w : World) (hr : Rd (.int .u8) w A n r0) (hn : n ≤ cap) (hc : cap ≤ 9223372036854775807) (hb : Rd (.int .u8) w B m bs) (hm : m ≤ capB) (hcB : capB ≤ 9223372036854775807) (hms : m ≤ 1000000)
  (hbs : ∀ x ∈ bs,0 ≤ x ∧ x ≤ 255) (hr0 : ∀ x ∈ r0,0 ≤ x ∧ x ≤ 255) (hns : n ≤ 1000000) :
  Calls Tryz.prog 48 #[.agg #[.slice A n cap],.slice B m capB] w fun e w' => ∃ vr vl,e = .returned (.tuple #[.agg #[vr],vl]) ∧ Sl (.int .u8) w' vr (dec (restB r0) bs).1 ∧ Sl (.int .i64) w' vl (dec (restB r0) bs).2 ∧ Bw w w':=by
 obtain ⟨i0,hi,hz0,hz1,hz2⟩:=info_parts infoR
 obtain ⟨j0,hj,hj0,hj1,hj2⟩:=info_parts infoIr
 obtain ⟨v0,hv⟩ : ∃ v,validB r0 = v:=⟨_,rfl⟩
 have HV:=Lib.hid hv
 have HR0 : Hid (∀ x ∈ restB r0,0 ≤ x ∧ x ≤ 255):=Lib.hid (by unfold restB;split;exact hr0;simp)
 have HRV : Hid (restB r0 ≠ [] → beginB (restB r0) = true):=Lib.hid (by
  unfold restB
  split
  ·rename_i h;intro h2;simpa [validB,h2] using h
  ·intro h;exact absurd rfl h)
 clear hv
 have hrl:=hr.1
 go_enter Tryz.func48,Tryz.ntmps48
 go_wp2_with fail
 refine (refvalid_any _ _ _ r0 _ (by exact hr.up BWX) hn hc hr0).mono ?_
 rintro ee ww ⟨rfl,hbb⟩
 rw [HV.out]
 obtain ⟨L1,d1,rfl⟩:=Bw.isPlus hbb
 clear hbb
 obtain ⟨W,hW⟩ : ∃ W,W = plus (((w.alloc (.cells #[.slice A n cap] 48)).alloc (.cells #[.slice none 0 0] 48))) L1 d1:=⟨_,rfl⟩
 go_upto_if 13 with (fail)
 go_cut [6] (fun s6 w' => Sl (.int .u8) w' s6 (restB r0) ∧ Bw (plus (((w.alloc (.cells #[.slice A n cap] 48)).alloc (.cells #[.slice none 0 0] 48))) L1 d1) w')
 case first =>
  cases v0
  ·go_wp2
   go_meet
   case rel =>
    refine ⟨?_,BWX⟩
    rw [show restB r0 = [] by unfold restB;rw [HV.out];rfl]
    exact Sl.nil_ _ _ _ (by omega)
  ·go_wp2_with (at_builtin;refine wpList_append_srcG (by rfl) (.tmp 14) (.tmp 16) 33 rfl w.heap.size 5 i0 (.int .u8 0) 1 1 Tryz.underlying33 hi hz0 hz1 hz2 rfl (by decide) (.slice none 0 0) 0 [] rfl (World.ownsRow_nil _ _ _ _) A n cap (r0.map (.int .u8)) rfl (by simpa using hrl) (fun e => (hr.none_ e).1) (Rd.news2 (by exact hr.up BWX)) (one_map (fun _ => rfl) _) (by unfold maxLen;omega) (by omega) SZX ?_;intro v1 w1 hown1 hg1;simp only [Nat.zero_add,List.nil_append] at hown1)
   go_meet
   case rel =>
    refine ⟨?_,Bw.trans BWX (Bw.of_grown hg1)⟩
    rw [show restB r0 = r0 by unfold restB;rw [HV.out];rfl]
    exact Sl.of_own hown1
 case rest =>
 obtain ⟨hS6,hbc⟩:=hcut
 have hEz : w.heap.size + 1 < wc.heap.size:=Nat.lt_of_lt_of_le (by simp [plus_size];omega) hbc.size
 have hEc : wc.cell? ⟨w.heap.size + 1,0,none⟩ = some (.slice none 0 0):=cell_bw hbc CELX
 have hEf : wc.frozen? ⟨w.heap.size + 1,0,none⟩ = false:=(Below.frozen hbc (p:=⟨w.heap.size + 1,0,none⟩) (by simp [plus_size];omega)).trans (by simp [go_sem])
 have hEw : Bw w wc:=Bw.trans BWX hbc
 replace hb : Rd (.int .u8) wc B m bs:=hb.up hEw
 have hS6l : (restB r0).length ≤ 1000000:=by unfold restB;split;omega;simp
 clear hbc hr hrl hW
 clear W
 obtain ⟨W,rfl⟩ : ∃ W,W = wc:=⟨_,rfl⟩
 obtain ⟨rs,hrs⟩ : ∃ rs,restB r0 = rs:=⟨_,rfl⟩
 rw [hrs] at HR0 HRV hS6 hS6l
 have HRS:=Lib.hid hrs
 clear hrs HV
 have hS64 : rs.length ≤ 4:=by
  by_cases hre : rs = []
  ·subst hre;simp
  ·exact beginB_len (HRV.out hre)
 go_wp2_with fail
 go_loopw [6,7,8] (fun s6 s7 i wr => ∃ k : Nat,i = .int .i64 k ∧ DecR W bs (dec rs bs) s6 s7 k wr) (fun s6 _ i _ => 2 * (m - (intOf i).toNat) + (match s6 with | .slice _ n _ => min n 1|_ => 0))
 case atStart => exact ⟨0,rfl,rs,[],by omega,hS6,World.ownsRow_nil _ _ _ _,HR0.out,HRV.out,by simp;omega,rfl,rfl,BWX⟩
 case round =>
  rename_i wr
  obtain ⟨k,rfl,r,l,hk,hS,hown,hrb,hrg,hl1,hF1,hF2,hbw⟩:=hrel
  obtain ⟨rA,rc,rfl,hrc1,hrc2,hR⟩:=hS
  clear hS6 hS6l HR0 HRV
  by_cases hlt : k < m
  ·have hbl:=hb.1
   obtain ⟨gb,ob,rfl,hx0⟩:=hb.2 (by omega)
   have hx1:=hx0 k (by omega)
   have hk' : k < bs.length:=by omega
   obtain ⟨x,hxx⟩ : ∃ x,x = bs[k]:=⟨_,rfl⟩
   rw [← hxx] at hx1
   have hxw : wr.cell? ⟨gb,ob + k,none⟩ = some (.int .u8 x):=by
    rw [Below.cell hbw (p:=⟨gb,ob + k,none⟩) (lt_of_cell hx1)];exact hx1
   have q1 : (0 : Int) ≤ k:=by omega
   have q2 : (k : Int) < m:=by omega
   have q3 : (m : Int) ≤ capB:=by omega
   have q4 : (r.length : Int) ≤ rc:=by omega
   have q5 : (0 : Int) ≤ r.length:=by omega
   have hR3 : r.length ≤ 4:=by
    by_cases hre : r = []
    ·subst hre;simp
    ·have:=hrg hre
     exact beginB_len this
   have HF1:=Lib.hid hF1
   have HF2:=Lib.hid hF2
   have HX:=Lib.hid hxx
   have HO:=Lib.hid hown
   have HB:=Lib.hid hx0
   have HR:=Lib.hid hR
   clear hF1 hF2 hxx hown hx0 hx1 hb hR
   go_upto_region 8 with (fail)
   go_cut [9] (fun s9 w' => Sl (.int .u8) w' s9 (r ++ [x]) ∧ Bw wr w')
   case first =>
    go_region_held3 (fun w' => w'.cell? ⟨gb,ob + k,none⟩ = some (.int .u8 x)) ((first|(refine cell_bw hb2 ?_;(repeat (first|with_reducible assumption |  ((with_reducible refine cell_alloc_here ?_ ?_);(focus (first|omega|(simp only [szA,szS,szD,szN,plus_size,Array.size_append] <;> omega)));(focus rfl))|with_reducible refine cell_alloc_some ?_ _|with_reducible refine cell_plus_some ?_ _ _|((with_reducible refine cell_set_some ?_ ?_);(focus (first|omega|(simp only [szA,szS,szD,szN,plus_size,Array.size_append] <;> omega))))|with_reducible refine cell_drew_some ?_|with_reducible refine cell_drewN_some ?_ _));done)|(refine cell_bw hb1 ?_;(repeat (first|with_reducible assumption |  ((with_reducible refine cell_alloc_here ?_ ?_);(focus (first|omega|(simp only [szA,szS,szD,szN,plus_size,Array.size_append] <;> omega)));(focus rfl))|with_reducible refine cell_alloc_some ?_ _|with_reducible refine cell_plus_some ?_ _ _|((with_reducible refine cell_set_some ?_ ?_);(focus (first|omega|(simp only [szA,szS,szD,szN,plus_size,Array.size_append] <;> omega))))|with_reducible refine cell_drew_some ?_|with_reducible refine cell_drewN_some ?_ _));done)|((repeat (first|with_reducible assumption |  ((with_reducible refine cell_alloc_here ?_ ?_);(focus (first|omega|(simp only [szA,szS,szD,szN,plus_size,Array.size_append] <;> omega)));(focus rfl))|with_reducible refine cell_alloc_some ?_ _|with_reducible refine cell_plus_some ?_ _ _|((with_reducible refine cell_set_some ?_ ?_);(focus (first|omega|(simp only [szA,szS,szD,szN,plus_size,Array.size_append] <;> omega))))|with_reducible refine cell_drew_some ?_|with_reducible refine cell_drewN_some ?_ _));done))) ((first|(refine step_append_srcG (by rfl) (.tmp 24) (.tmp 25) 33 rfl wr.heap.size 5 i0 (.int .u8 0) 1 1 Tryz.underlying33 hi hz0 hz1 hz2 rfl (by decide) _ 0 [] (by rfl) (by first|(refine (own_made (w:=wr) ?_ ?_).bw ?_;(focus (first|omega|(simp only [szA,szS,szD,szN,plus_size,Array.size_append] <;> omega)));(focus (first|omega|(simp only [szA,szS,szD,szN,plus_size,Array.size_append] <;> omega)));(repeat (first|with_reducible (first|assumption|exact Bw.refl _|refine Bw.alloc ?_ _|refine Bw.more ?_ _ _|refine Bw.drew ?_|refine Bw.drewN ?_ _)|((with_reducible refine Bw.set2 ?_ ?_ _);(focus exact SZX))|with_reducible refine Bw.trans ?_ (by assumption)));done)|(refine (own_made (w:=wr.alloc (.cells #[.int .u8 x] 5)) ?_ ?_).bw ?_;(focus (first|omega|(simp only [szA,szS,szD,szN,plus_size,Array.size_append] <;> omega)));(focus (first|omega|(simp only [szA,szS,szD,szN,plus_size,Array.size_append] <;> omega)));(repeat (first|with_reducible (first|assumption|exact Bw.refl _|refine Bw.alloc ?_ _|refine Bw.more ?_ _ _|refine Bw.drew ?_|refine Bw.drewN ?_ _)|((with_reducible refine Bw.set2 ?_ ?_ _);(focus exact SZX))|with_reducible refine Bw.trans ?_ (by assumption)));done)) rA r.length rc (r.map (.int .u8)) (by rfl) (by simp) (fun e => (HR.out.none_ e).1) (Rd.news2 (HR.out.up BWX)) (one_map (fun _ => rfl) _) (by unfold maxLen;omega) (by omega) SZX ?_;intro v1 w1 hown1 hg1;simp only [Nat.zero_add,List.nil_append] at hown1;simp only [Value.ownBlock] at hg1;have hb1 : Bw wr w1:=Bw.grown (by exact BWX) hg1 (fun k hk => by cases hk;(first|omega|(simp only [szA,szS,szD,szN,plus_size,Array.size_append] <;> omega)));(try (have hcx0 : w1.cell? ⟨wr.heap.size,0,none⟩ = some (.int .u8 x):=by rw [grown_cell hg1 (p:=⟨wr.heap.size,0,none⟩) SZX (by simp)];(repeat (first|with_reducible assumption |  ((with_reducible refine cell_alloc_here ?_ ?_);(focus (first|omega|(simp only [szA,szS,szD,szN,plus_size,Array.size_append] <;> omega)));(focus rfl))|with_reducible refine cell_alloc_some ?_ _|with_reducible refine cell_plus_some ?_ _ _|((with_reducible refine cell_set_some ?_ ?_);(focus (first|omega|(simp only [szA,szS,szD,szN,plus_size,Array.size_append] <;> omega))))|with_reducible refine cell_drew_some ?_|with_reducible refine cell_drewN_some ?_ _))));(try (have hcx1 : w1.cell? ⟨wr.heap.size + 1,0,none⟩ = some (.int .u8 x):=by rw [grown_cell hg1 (p:=⟨wr.heap.size + 1,0,none⟩) SZX (by simp)];(repeat (first|with_reducible assumption |  ((with_reducible refine cell_alloc_here ?_ ?_);(focus (first|omega|(simp only [szA,szS,szD,szN,plus_size,Array.size_append] <;> omega)));(focus rfl))|with_reducible refine cell_alloc_some ?_ _|with_reducible refine cell_plus_some ?_ _ _|((with_reducible refine cell_set_some ?_ ?_);(focus (first|omega|(simp only [szA,szS,szD,szN,plus_size,Array.size_append] <;> omega))))|with_reducible refine cell_drew_some ?_|with_reducible refine cell_drewN_some ?_ _))));have hwz1 : wr.heap.size < w1.heap.size:=Nat.lt_of_lt_of_le SZX hg1.size;have HO1:=Lib.hid hown1;clear hown1 hg1)|(refine step_append_srcG (by rfl) (.tmp 26) (.tmp 31) 33 rfl wr.heap.size 5 i0 (.int .u8 0) 1 1 Tryz.underlying33 hi hz0 hz1 hz2 rfl (by decide) v1 r.length (r.map (.int .u8)) (by rfl) (by exact HO1.out.bw BWX) _ 1 1 [.int .u8 x] (by rfl) rfl (fun e => by cases e) (fun ad e => by cases e;exact cell_one_at (by first|assumption|go_simp)) (by simp;rfl) (by unfold maxLen;omega) (by omega) (by have:=hb1.size;(first|omega|(simp only [szA,szS,szD,szN,plus_size,Array.size_append] <;> omega))) ?_;intro v2 w2 hown2 hg2;have hb2 : Bw wr w2:=Bw.row (by exact Bw.trans hb1 BWX) (by exact HO1.out.bw BWX) hg2 (Nat.le_refl _);have HO2:=Lib.hid hown2;clear hown2 hg2)|fail))
    all_goals go_wp2
    all_goals go_meet
    all_goals exact ⟨Sl.of_own (n:=r.length + 1) (xs:=r ++ [x]) (by rw [List.map_append];exact HO2.out),hb2⟩
   case rest =>
    obtain ⟨⟨nA,nc,hv9,N1,N2,N3⟩,hb9⟩:=hcut
    obtain ⟨N,hN⟩ : ∃ N,N = (r ++ [x]).length:=⟨_,rfl⟩
    rw [← hN] at hv9 N1 N3
    subst hv9
    have HO9:=Lib.hid (HO.out.bw hb9)
    have hbw9 : Bw W wc:=hbw.trans hb9
    have N4 : ∀ y ∈ r ++ [x],0 ≤ y ∧ y ≤ 255:=by
     intro y hy
     rcases List.mem_append.1 hy with h|h
     ·exact hrb y h
     ·simp at h;subst h;rw [HX.out];exact hbs _ (List.getElem_mem _)
    have N5 : N ≤ 5:=by rw [hN];simp;omega
    have N7 : 1 ≤ N:=by rw [hN];simp
    have HN:=Lib.hid hN
    clear hN
    have HD:=Lib.hid (show bs.drop k = x :: bs.drop (k + 1) by rw [HX.out];exact List.drop_eq_getElem_cons hk')
    have hps:=pre_split (r ++ [x])
    clear hbs hrb hrg HB HR hxw hb9 hbw
    cases hE1 : beginB (r ++ [x])
    ·have HE1:=Lib.hid hE1
     cases hE2 : completeB (r ++ [x])
     ·have HE2:=Lib.hid hE2
      have HEP:=Lib.hid (show prefixB (r ++ [x]) = false by rw [hE1,hE2] at hps;simpa using hps.symm)
      clear hE2 hE1 hps
      cases hre : r.isEmpty
      ·have hre' : r ≠ []:=by simpa using hre
       have hrl : (0 : Int) < r.length:=by have:=List.length_pos_iff.2 hre';omega
       have HA:=Lib.hid (dec_again (t:=bs.drop (k + 1)) HE1.out HE2.out hre')
       have HZ:=Lib.hid hre'
       clear hre hre'
       go_wp2_with (first|(go_at_call 75;refine (refprefix_any _ _ _ (r ++ [x]) _ (by exact N3.up BWX) (by exact N1) N2 N4).mono ?_;rintro ee ww ⟨rfl,hbp⟩;rw [HEP.out,HE2.out];obtain ⟨Lp,dp,rfl⟩:=Bw.isPlus hbp;clear hbp)|(at_builtin;refine wpList_append_srcG (by rfl) (.tmp 60) (.tmp 61) 22 rfl W.heap.size 3 j0 (.int .i64 0) 1 8 Tryz.underlying22 hj hj0 hj1 hj2 rfl (by decide) _ l.length (l.map (.int .i64)) (by rfl) (by exact HO9.out.bw BWX) _ 1 1 [.int .i64 65533] (by rfl) rfl (fun e => by cases e) (fun ad e => by cases e;exact cell_one_at (by go_simp)) (by simp;rfl) (by unfold maxLen;omega) (by omega) (by have:=Below.size hbw9;(first|omega|(simp only [szA,szS,szD,szN,plus_size,Array.size_append] <;> omega))) ?_;intro v1 w1 hown1 hg1;have hbw1 : Bw W w1:=Bw.row (by exact Bw.trans hbw9 BWX) (by exact HO9.out.bw BWX) hg1 (Nat.le_refl _))|fail)
       go_roundw
       case rel =>
        refine ⟨k,by go_num,[],l ++ [65533],by omega,Sl.nil_ _ _ _ (by omega),by simpa using hown1,by simp,by simp,by simp;omega,?_,?_,hbw1⟩
        ·have h5:=HF1.out;rw [HD.out,HA.out] at h5;rw [HD.out];exact h5
        ·have h5:=HF2.out;rw [HD.out,HA.out] at h5;rw [HD.out,List.append_assoc];exact h5
       case measure => simp [intOf];omega
      ·have hre' : r = []:=by simpa using hre
       subst hre'
       have HA:=Lib.hid (dec_bad (t:=bs.drop (k + 1)) HE1.out HE2.out)
       clear hre
       go_wp2_with (first|(go_at_call 75;refine (refprefix_any _ _ _ ([] ++ [x]) _ (by exact N3.up BWX) (by exact N1) N2 N4).mono ?_;rintro ee ww ⟨rfl,hbp⟩;rw [HEP.out,HE2.out];obtain ⟨Lp,dp,rfl⟩:=Bw.isPlus hbp;clear hbp)|(at_builtin;refine wpList_append_srcG (by rfl) (.tmp 38) (.tmp 39) 22 rfl W.heap.size 3 j0 (.int .i64 0) 1 8 Tryz.underlying22 hj hj0 hj1 hj2 rfl (by decide) _ l.length (l.map (.int .i64)) (by rfl) (by exact HO9.out.bw BWX) _ 1 1 [.int .i64 65533] (by rfl) rfl (fun e => by cases e) (fun ad e => by cases e;exact cell_one_at (by go_simp)) (by simp;rfl) (by unfold maxLen;omega) (by omega) (by have:=Below.size hbw9;(first|omega|(simp only [szA,szS,szD,szN,plus_size,Array.size_append] <;> omega))) ?_;intro v1 w1 hown1 hg1;have hbw1 : Bw W w1:=Bw.row (by exact Bw.trans hbw9 BWX) (by exact HO9.out.bw BWX) hg1 (Nat.le_refl _))|fail)
       go_roundw
       case rel =>
        refine ⟨k + 1,by go_num,[],l ++ [65533],by omega,Sl.nil_ _ _ _ (by omega),by simpa using hown1,by simp,by simp,by simp at hl1 ⊢;omega,?_,?_,hbw1⟩
        ·have h5:=HF1.out;rw [HD.out,HA.out] at h5;exact h5
        ·have h5:=HF2.out;rw [HD.out,HA.out] at h5;rw [List.append_assoc];exact h5
       case measure => simp [intOf];omega
     ·have HE2:=Lib.hid hE2
      have HEP:=Lib.hid (show prefixB (r ++ [x]) = true by rw [hE1,hE2] at hps;cases h : prefixB (r ++ [x]);(unfold completeB at hE2;rw [h] at hE2;cases hE2);rfl)
      have N6 : N ≤ 4:=by rw [HN.out];exact completeB_len hE2
      have HA:=Lib.hid (dec_complete (t:=bs.drop (k + 1)) HE1.out HE2.out)
      have HVN:=Lib.hid (val_num HN.out.symm N7 N6)
      clear hE2 hE1 hps
      go_wp2_with (first|(go_at_call 75;refine (refprefix_any _ _ _ (r ++ [x]) _ (by exact N3.up BWX) (by exact N1) N2 N4).mono ?_;rintro ee ww ⟨rfl,hbp⟩;rw [HEP.out,HE2.out];obtain ⟨Lp,dp,rfl⟩:=Bw.isPlus hbp;clear hbp)|(go_at_call 76;refine (refnum_at _ _ _ N _ (r ++ [x]) 0 (valN (r ++ [x])) _ (by rfl) HVN.out (by exact N3.up BWX) N7 (Nat.le_refl _) N6 N4 (by omega)).mono ?_;rintro ee ww ⟨rfl,q,rfl⟩)|(at_builtin;refine wpList_append_srcG (by rfl) (.tmp 46) (.tmp 51) 22 rfl W.heap.size 3 j0 (.int .i64 0) 1 8 Tryz.underlying22 hj hj0 hj1 hj2 rfl (by decide) _ l.length (l.map (.int .i64)) (by rfl) (by exact HO9.out.bw BWX) _ 1 1 [.int .i64 (valN (r ++ [x]))] (by rfl) rfl (fun e => by cases e) (fun ad e => by cases e;exact cell_one_at (by go_simp)) (by simp;rfl) (by unfold maxLen;omega) (by omega) (by have:=Below.size hbw9;(first|omega|(simp only [szA,szS,szD,szN,plus_size,Array.size_append] <;> omega))) ?_;intro v1 w1 hown1 hg1;have hbw1 : Bw W w1:=Bw.row (by exact Bw.trans hbw9 BWX) (by exact HO9.out.bw BWX) hg1 (Nat.le_refl _))|fail)
      go_roundw
      case rel =>
       refine ⟨k + 1,by go_num,[],l ++ [valN (r ++ [x])],by omega,Sl.nil_ _ _ _ (by omega),by simpa using hown1,by simp,by simp,by simp;omega,?_,?_,hbw1⟩
       ·have h5:=HF1.out;rw [HD.out,HA.out] at h5;exact h5
       ·have h5:=HF2.out;rw [HD.out,HA.out] at h5;rw [List.append_assoc];exact h5
      case measure => simp [intOf];omega
    ·have HE1:=Lib.hid hE1
     have hpc : prefixB (r ++ [x]) = true ∧ completeB (r ++ [x]) = false:=by
      rw [hE1] at hps
      cases h1 : prefixB (r ++ [x]) <;> cases h2 : completeB (r ++ [x]) <;> simp [h1,h2] at hps ⊢
     have HEP:=Lib.hid hpc.1
     have HE2:=Lib.hid hpc.2
     clear hE1 hps hpc
     go_wp2_with (first|(go_at_call 75;refine (refprefix_any _ _ _ (r ++ [x]) _ (by exact N3.up BWX) (by exact N1) N2 N4).mono ?_;rintro ee ww ⟨rfl,hbp⟩;rw [HEP.out,HE2.out];obtain ⟨Lp,dp,rfl⟩:=Bw.isPlus hbp;clear hbp)|fail)
     go_roundw
     case rel =>
      refine ⟨k + 1,by go_num,r ++ [x],l,by omega,Sl.mk' HN.out N1 N2 (N3.up BWX),HO9.out.bw BWX,N4,fun _ => HE1.out,by simp;omega,?_,?_,Bw.trans hbw9 BWX⟩
      ·have:=HF1.out;rw [HD.out,dec_begin HE1.out] at this;exact this
      ·have:=HF2.out;rw [HD.out,dec_begin HE1.out] at this;exact this
     case measure => simp [intOf];omega
  ·have hk' : bs.length ≤ k:=by have:=hb.1;omega
   rw [List.drop_eq_nil_of_le hk'] at hF1 hF2
   have e1 : r = (dec rs bs).1:=hF1
   have e2 : l = (dec rs bs).2:=by rw [← hF2];show l = l ++ [];simp
   have HE1:=Lib.hid e1
   have HE2:=Lib.hid e2
   have HO:=Lib.hid hown
   have HR:=Lib.hid hR
   clear hF1 hF2 e1 e2 hown hR hrb hrg
   have zc : wr.cell? ⟨w.heap.size + 1,0,none⟩ = some (.slice none 0 0):=cell_bw hbw hEc
   have zf : wr.frozen? ⟨w.heap.size + 1,0,none⟩ = false:=(Below.frozen hbw (p:=⟨w.heap.size + 1,0,none⟩) hEz).trans hEf
   go_wp2
   refine bodyPost_ret (by simp [results,Tryz.results48,go_sem,zc];rfl) rfl ?_
   rw [HRS.out]
   refine ⟨_,_,rfl,?_,?_,(hEw.trans hbw).set (by dsimp only;omega) _⟩
   ·rw [← HE1.out]
    exact (Sl.mk' rfl hrc1 hrc2 HR.out).set zc (by simp) _
   ·rw [← HE2.out]
    exact (Sl.of_own HO.out).set zc (by simp) _
end Go.Proofs.YteebdjmjeahccaaGreatDoor
