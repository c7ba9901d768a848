/- Parts of the proof, one after the other. -/
import Derived.Test.YteebdjmjeahccaaGreatDoorW29
import Derived.Test.YteebdjmjeahccaaGreatDoorW06
import Derived.Deep.RegionHeld3
import Derived.Test.YteebdjmjeahccaaGreatDoorW04
set_option linter.unusedSimpArgs false
set_option linter.unusedVariables false
set_option maxRecDepth 100000
set_option maxHeartbeats 16000000
namespace Go.Proofs.YteebdjmjeahccaaGreatDoor
open Go.RowKit
/-- The parser's state: the parameters that are finished, and the last one. -/
def stp (s : List Int × Int) (c : Int) : List Int × Int:=if c = 59 then (s.1 ++ [s.2],0) else (s.1,10 * s.2 + (c - 48))
def fin (s : List Int × Int) (t : List Int) : List Int × Int:=t.foldl stp s
theorem u8n {k : Nat} (h : k < 10) : (((UInt8.ofNat (48 + k)).toNat : Nat) : Int) = 48 + k:=by
 rw [UInt8.toNat_ofNat']
 have : (48 + k) % 2 ^ 8 = 48 + k:=Nat.mod_eq_of_lt (by omega)
 omega
theorem itoa_pos (d : Int) (h0 : 0 ≤ d) : Lib.itoa d = Lib.decDigits d.toNat:=by
 unfold Lib.itoa
 rw [if_neg (by omega)]
theorem dig1 (d : Int) (h0 : 0 ≤ d) (h1 : d < 10) : wr1 d = [59,48 + d]:=by
 unfold wr1
 rw [itoa_pos d h0,Lib.decDigits_one (by omega)]
 simp only [List.map_cons,List.map_nil]
 rw [u8n (by omega)]
 rw [show ((d.toNat : Nat) : Int) = d by omega]
theorem dig2 (d : Int) (h0 : 10 ≤ d) (h1 : d < 100) : wr1 d = [59,48 + d / 10,48 + d % 10]:=by
 unfold wr1
 rw [itoa_pos d (by omega),Lib.decDigits_two (by omega) (by omega)]
 simp only [List.map_cons,List.map_nil]
 rw [u8n (by omega),u8n (by omega)]
 rw [show ((d.toNat / 10 : Nat) : Int) = d / 10 by omega,show ((d.toNat % 10 : Nat) : Int) = d % 10 by omega]
theorem dig3 (d : Int) (h0 : 100 ≤ d) (h1 : d < 1000) : wr1 d = [59,48 + d / 100,48 + d / 10 % 10,48 + d % 10]:=by
 unfold wr1
 rw [itoa_pos d (by omega),Lib.decDigits,dif_neg (by omega),Lib.decDigits_two (by omega) (by omega)]
 simp only [List.map_cons,List.map_nil,List.cons_append,List.nil_append]
 rw [u8n (by omega),u8n (by omega),u8n (by omega)]
 rw [show ((d.toNat / 10 / 10 : Nat) : Int) = d / 100 by omega,show ((d.toNat / 10 % 10 : Nat) : Int) = d / 10 % 10 by omega,show ((d.toNat % 10 : Nat) : Int) = d % 10 by omega]
theorem numC_bd (c lo hi : Int) (h0 : 1 ≤ c) (h1 : c ≤ 16) (h2 : 0 ≤ lo) (h3 : lo ≤ 500) (h4 : 0 ≤ hi) (h5 : hi ≤ 500) : 0 ≤ numC c lo hi ∧ numC c lo hi < 1000:=by
 unfold numC
 split <;> omega
theorem fullN_bd (f g b : Int) (h : avB f g b = true) : (∀ d ∈ fullN f g b,0 ≤ d ∧ d < 1000) ∧ (fullN f g b).length ≤ 5:=by
 have hv : 0 ≤ f ∧ f ≤ 7 ∧ 0 ≤ g ∧ g ≤ 16 ∧ 0 ≤ b ∧ b ≤ 16:=of_decide_eq_true h
 have hfl:=flagN_len f 3
 refine ⟨?_,?_⟩
 ·intro d hd
  unfold fullN at hd
  rcases List.mem_append.1 hd with hd|hd
  ·rcases List.mem_append.1 hd with hd|hd
   ·have:=hfl.2 d hd;omega
   ·split at hd
    ·simp at hd
    ·simp at hd;subst hd;exact numC_bd _ _ _ (by omega) (by omega) (by omega) (by omega) (by omega) (by omega)
  ·split at hd
   ·simp at hd
   ·simp at hd;subst hd;exact numC_bd _ _ _ (by omega) (by omega) (by omega) (by omega) (by omega) (by omega)
 ·unfold fullN
  rw [List.length_append,List.length_append]
  split <;> split <;> simp <;> omega
def DecP (w : World) (N : Nat) (xs : List Value) (e : Ending) (w' : World) : Prop:=∃ v,e = .returned v ∧ w'.ownsRow w.heap.size 5 1 v N xs ∧ Bw w w'
theorem dec1 (n : Int) (w : World) (h0 : 0 ≤ n) (h1 : n < 10) : Calls Tryz.prog 62 #[.int .i64 n] w (DecP w 1 [.int .u8 (48 + n)]):=by
 go_enter Tryz.func62,Tryz.ntmps62
 go_wp2_with (fail)
 go_ret
 exact ⟨_,rfl,own_lit (cs:=#[.int .u8 (48 + n)]) rfl (Nat.le_refl _) (by unfold maxLen;omega) rfl rfl,BWX⟩
theorem dec2 (n : Int) (w : World) (h0 : 10 ≤ n) (h1 : n < 100) : Calls Tryz.prog 62 #[.int .i64 n] w (DecP w 2 [.int .u8 (48 + n / 10),.int .u8 (48 + n % 10)]):=by
 obtain ⟨i0,hi,hz0,hz1,hz2⟩:=info_parts infoB
 go_enter Tryz.func62,Tryz.ntmps62
 go_wp2_with (first
  | (go_at_call 62;refine (dec1 (n / 10) _ (by omega) (by omega)).mono ?_;rintro e w1 ⟨v1,rfl,hown1,hb1⟩;obtain ⟨A1,c1,rfl,hc1,hc1m⟩:=own_form hown1;have HO:=Lib.hid hown1;clear hown1)
  | (at_builtin;refine wpList_append_srcG (by rfl) (.tmp 11) (.tmp 16) 33 rfl w.heap.size 5 i0 (.int .u8 0) 1 1 Tryz.underlying33 hi hz0 hz1 hz2 rfl (by decide) (.slice A1 1 c1) 1 _ (by rfl) (HO.out.alloc _) (some ⟨_,0,none⟩) 1 1 [.int .u8 (48 + n % 10)] (by rfl) rfl (fun e => by cases e) (fun ad e => by cases e;exact cell_one_new _ _ _) (by simp;rfl) (by unfold maxLen;omega) (by omega) (by have:=hb1.size;simp;omega) ?_;intro v3 w3 hown3 hg3;have hbw3 : Bw w w3:=Bw.row (Bw.alloc hb1 _) (HO.out.alloc _) hg3 (Nat.le_refl _))
  | fail)
 go_ret
 exact ⟨_,rfl,hown3,hbw3⟩
theorem dec3 (n : Int) (w : World) (h0 : 100 ≤ n) (h1 : n < 1000) : Calls Tryz.prog 62 #[.int .i64 n] w (DecP w 3 [.int .u8 (48 + n / 10 / 10),.int .u8 (48 + n / 10 % 10),.int .u8 (48 + n % 10)]):=by
 obtain ⟨i0,hi,hz0,hz1,hz2⟩:=info_parts infoB
 go_enter Tryz.func62,Tryz.ntmps62
 go_wp2_with (first
  | (go_at_call 62;refine (dec2 (n / 10) _ (by omega) (by omega)).mono ?_;rintro e w1 ⟨v1,rfl,hown1,hb1⟩;obtain ⟨A1,c1,rfl,hc1,hc1m⟩:=own_form hown1;have HO:=Lib.hid hown1;clear hown1)
  | (at_builtin;refine wpList_append_srcG (by rfl) (.tmp 11) (.tmp 16) 33 rfl w.heap.size 5 i0 (.int .u8 0) 1 1 Tryz.underlying33 hi hz0 hz1 hz2 rfl (by decide) (.slice A1 2 c1) 2 _ (by rfl) (HO.out.alloc _) (some ⟨_,0,none⟩) 1 1 [.int .u8 (48 + n % 10)] (by rfl) rfl (fun e => by cases e) (fun ad e => by cases e;exact cell_one_new _ _ _) (by simp;rfl) (by unfold maxLen;omega) (by omega) (by have:=hb1.size;simp;omega) ?_;intro v3 w3 hown3 hg3;have hbw3 : Bw w w3:=Bw.row (Bw.alloc hb1 _) (HO.out.alloc _) hg3 (Nat.le_refl _))
  | fail)
 go_ret
 exact ⟨_,rfl,hown3,hbw3⟩
/-- What decimal writes, behind a semicolon, is what AppendInt writes. -/
theorem dec_any (n : Int) (w : World) (h0 : 0 ≤ n) (h1 : n < 1000) : Calls Tryz.prog 62 #[.int .i64 n] w fun e w' => ∃ (v : Value) (D : List Int),e = .returned v ∧ wr1 n = 59 :: D ∧ D.length ≤ 3 ∧ w'.ownsRow w.heap.size 5 1 v D.length (D.map (.int .u8)) ∧ Bw w w':=by
 rcases (show n < 10 ∨ (10 ≤ n ∧ n < 100) ∨ 100 ≤ n by omega) with h|⟨h,h2⟩|h
 ·refine (dec1 n w h0 h).mono ?_
  rintro e w' ⟨v,rfl,h3,h4⟩
  exact ⟨v,[48 + n],rfl,dig1 n h0 h,by simp,h3,h4⟩
 ·refine (dec2 n w h h2).mono ?_
  rintro e w' ⟨v,rfl,h3,h4⟩
  exact ⟨v,[48 + n / 10,48 + n % 10],rfl,dig2 n h h2,by simp,h3,h4⟩
 ·refine (dec3 n w h h1).mono ?_
  rintro e w' ⟨v,rfl,h3,h4⟩
  rw [show n / 10 / 10 = n / 100 by omega] at h3
  exact ⟨v,[48 + n / 100,48 + n / 10 % 10,48 + n % 10],rfl,dig3 n h h1,by simp,h3,h4⟩
end Go.Proofs.YteebdjmjeahccaaGreatDoor
