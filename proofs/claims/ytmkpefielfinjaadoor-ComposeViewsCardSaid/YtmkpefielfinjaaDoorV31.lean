/- Parts of the proof, one after the other. -/
import Derived.Test.YtmkpefielfinjaaDoorV01
import Derived.Laws.BytesArg
import Derived.Lib.UnsafeStr
import Derived.Lib.ItoaNum
import Derived.Lib.ItoaLen
import Derived.Test.YtmkpefielfinjaaDoorV02
import Derived.Test.YtmkpefielfinjaaDoorShelf
import Derived.OneCell
import Derived.Lib.OthersKept
import Derived.PlainAid
import Derived.Lib.SlBytesConst
import Derived.Deep.DeepCutAuto
import Derived.Deep.QuietTactic
import Derived.Test.YtmkpefielfinjaaDoorV06
set_option linter.unusedSimpArgs false
set_option linter.unusedVariables false
/- Compose: the words of phases, on both sides. -/
namespace Go.Proofs.YtmkpefielfinjaaDoor
open Go.RowKit

/-- A list of bytes as a string. -/
def bs (l : List UInt8) : ByteArray := ⟨l.toArray⟩
theorem bs_add (a b : List UInt8) : bs a ++ bs b = bs (a ++ b) := by
 apply ByteArray.ext
 simp [bs, ByteArray.data_append]
theorem bs_size (a : List UInt8) : (bs a).size = a.length := rfl
/-- The words, by phase. -/
def wordL : List ByteArray := [⟨#[63]⟩, ⟨#[105, 100, 108, 101]⟩, ⟨#[115, 116, 97, 114, 116, 105, 110, 103]⟩, ⟨#[114, 117, 110, 110, 105, 110, 103]⟩, ⟨#[114, 101, 97, 100, 121]⟩, ⟨#[98, 97, 99, 107, 111, 102, 102]⟩, ⟨#[115, 116, 111, 112, 112, 105, 110, 103]⟩, ⟨#[101, 120, 105, 116, 101, 100]⟩, ⟨#[102, 97, 105, 108, 101, 100]⟩, ⟨#[104, 97, 108, 116, 101, 100]⟩]
def wordB (p : Int) : ByteArray := if p < 0 ∨ 10 ≤ p then ⟨#[63]⟩ else wordL.getD p.toNat ⟨#[63]⟩
/-- The program's table of words. -/
def WordT (w : World) : Prop := ∀ i, i < 10 → w.cell? ⟨0, i, none⟩ = some (.string (wordL.getD i ⟨#[63]⟩))
theorem WordT.up {w w' : World} (h : WordT w) (hb : Bw w w') : WordT w' := fun i hi => cell_bw hb (h i hi)
theorem wordB_size (p : Int) : (wordB p).size ≤ 8 ∧ 1 ≤ (wordB p).size := by
 unfold wordB
 split
 ·exact ⟨by decide, by decide⟩
 ·rename_i h
  obtain ⟨i, hi, hl⟩ : ∃ i : Nat, p.toNat = i ∧ i < 10 := ⟨_, rfl, by omega⟩
  rw [hi]
  match i, hl with
  | 0, _ => exact ⟨by decide, by decide⟩
  | 1, _ => exact ⟨by decide, by decide⟩
  | 2, _ => exact ⟨by decide, by decide⟩
  | 3, _ => exact ⟨by decide, by decide⟩
  | 4, _ => exact ⟨by decide, by decide⟩
  | 5, _ => exact ⟨by decide, by decide⟩
  | 6, _ => exact ⟨by decide, by decide⟩
  | 7, _ => exact ⟨by decide, by decide⟩
  | 8, _ => exact ⟨by decide, by decide⟩
  | 9, _ => exact ⟨by decide, by decide⟩

theorem word_any (p : Int) (w : World) (ht : WordT w) : Calls Tryd.prog 9 #[.int .i64 p] w fun e w' => e = .returned (.string (wordB p)) ∧ w = w' := by
 by_cases h0 : p < 0
 ·have HE := Lib.hid (show wordB p = ⟨#[63]⟩ from if_pos (.inl h0))
  go_enter Tryd.func9, Tryd.ntmps9
  go_wp2
  go_ret
  exact ⟨by rw [HE.out]; rfl, rfl⟩
 by_cases h1 : 10 ≤ p
 ·have HE := Lib.hid (show wordB p = ⟨#[63]⟩ from if_pos (.inr h1))
  go_enter Tryd.func9, Tryd.ntmps9
  go_wp2
  go_ret
  exact ⟨by rw [HE.out]; rfl, rfl⟩
 have hc := ht p.toNat (by omega)
 rw [show wordL.getD p.toNat ⟨#[63]⟩ = wordB p from (if_neg (by omega)).symm] at hc
 clear ht
 go_enter Tryd.func9, Tryd.ntmps9
 go_wp2
 go_ret
 exact ⟨rfl, rfl⟩

theorem rword_any (p : Int) (w : World) : Calls Tryd.prog 10 #[.int .i64 p] w fun e w' => e = .returned (.string (wordB p)) ∧ Bw w w' := by
 by_cases h0 : p < 1
 ·have HE := Lib.hid (show wordB p = ⟨#[63]⟩ from by
   by_cases h : p = 0
   ·subst h; rfl
   ·exact if_pos (.inl (by omega)))
  go_enter Tryd.func10, Tryd.ntmps10
  go_wp2
  go_ret
  exact ⟨by rw [HE.out]; rfl, BWX⟩
 by_cases h1 : 10 ≤ p
 ·have HE := Lib.hid (show wordB p = ⟨#[63]⟩ from if_pos (.inr h1))
  go_enter Tryd.func10, Tryd.ntmps10
  go_wp2
  go_ret
  exact ⟨by rw [HE.out]; rfl, BWX⟩
 have hc : ∀ T, (w.alloc (.cells #[.string ⟨#[63]⟩, .string ⟨#[105, 100, 108, 101]⟩, .string ⟨#[115, 116, 97, 114, 116, 105, 110, 103]⟩, .string ⟨#[114, 117, 110, 110, 105, 110, 103]⟩, .string ⟨#[114, 101, 97, 100, 121]⟩, .string ⟨#[98, 97, 99, 107, 111, 102, 102]⟩, .string ⟨#[115, 116, 111, 112, 112, 105, 110, 103]⟩, .string ⟨#[101, 120, 105, 116, 101, 100]⟩, .string ⟨#[102, 97, 105, 108, 101, 100]⟩, .string ⟨#[104, 97, 108, 116, 101, 100]⟩] T)).cell? ⟨w.heap.size, p.toNat, none⟩ = some (.string (wordB p)) := by
  intro T
  refine cell_alloc_here rfl ?_
  rw [show wordB p = wordL.getD p.toNat ⟨#[63]⟩ from if_neg (by omega)]
  obtain ⟨i, hi, hl⟩ : ∃ i : Nat, p.toNat = i ∧ i < 10 := ⟨_, rfl, by omega⟩
  rw [hi]
  match i, hl with
  | 0, _ => rfl
  | 1, _ => rfl
  | 2, _ => rfl
  | 3, _ => rfl
  | 4, _ => rfl
  | 5, _ => rfl
  | 6, _ => rfl
  | 7, _ => rfl
  | 8, _ => rfl
  | 9, _ => rfl
 have hc := hc 9
 go_enter Tryd.func10, Tryd.ntmps10
 go_wp2
 go_ret
 exact ⟨rfl, BWX⟩
end Go.Proofs.YtmkpefielfinjaaDoor

/- Compose: the reference's decimal numbers. -/
namespace Go.Proofs.YtmkpefielfinjaaDoor
open Go.RowKit

theorem conv_bytes {w : World} {A : Option Addr} {n cap : Nat} {l : List UInt8} {zs : List Int} (hb : zs = l.map fun b => (b.toNat : Int)) (h : Rd (.int .u8) w A n zs) : (convert 48 9 (.slice A n cap)).run Tryd.prog w = .ok (.string (bs l)) w := by
 subst hb
 have e : strOfNums (l.map fun b => (b.toNat : Int)) = bs l := by
  unfold strOfNums bs
  congr 1
  congr 1
  rw [List.map_map]
  conv => rhs; rw [← List.map_id l]
  apply List.map_congr_left
  intro b _
  simp
 rw [← e]
 rcases Nat.eq_zero_or_pos n with h0 | h0
 ·have hb : l = [] := List.eq_nil_of_length_eq_zero (by have := h.1; simpa [h0] using this)
  subst hb
  subst h0
  cases A with
  | none => exact run_convert_bytes_nil w _ _ Tryd.underlying48 Tryd.underlying5 _ _ _ Tryd.underlying9
  | some a =>
   rw [run_convert_bytes_string w _ _ _ _ _ _ Tryd.underlying48 Tryd.underlying5 Tryd.underlying9, run_bytesToString w a 0 cap [] (by kernel_rfl)]
   rfl
 ·obtain ⟨g, o, rfl, hx⟩ := h.2 h0
  exact run_convert_bytes_arg w _ _ Tryd.underlying48 Tryd.underlying5 g o n cap _ h.1 (fun i hi => by have := hx i (by have := h.1; omega); simpa [List.getD_eq_getElem?_getD, show i < l.length by have := h.1; simp at this; omega] using this) _ Tryd.underlying9

theorem dec_size (n : Int) (h0 : -9223372036854775808 ≤ n) (h1 : n ≤ 9223372036854775807) : (bs (Lib.itoa n)).size ≤ 21 := by
 have := Lib.itoa_length_le n (by omega) (by omega)
 rw [bs_size]
 omega
theorem dig_small (n : Int) (h0 : 0 ≤ n) (h1 : n < 10) : Lib.itoa n = [UInt8.ofNat (48 + n.toNat)] := by
 unfold Lib.itoa
 rw [if_neg (by omega), Lib.decDigits]
 simp [show n.toNat < 10 by omega]
theorem dig_big (n : Int) (h0 : 10 ≤ n) : Lib.itoa n = Lib.itoa (n / 10) ++ Lib.itoa (n % 10) := by
 rw [dig_small (n % 10) (by omega) (by omega)]
 unfold Lib.itoa
 rw [if_neg (by omega), if_neg (by omega), Lib.decDigits]
 rw [dif_neg (by omega), show (n / 10).toNat = n.toNat / 10 by omega, show (n % 10).toNat = n.toNat % 10 by omega]

set_option maxRecDepth 100000 in
theorem dec_small (n : Int) (w : World) (h0 : 0 ≤ n) (h1 : n < 10) : Calls Tryd.prog 24 #[.int .i64 n] w fun e w' => e = .returned (.string (bs (Lib.itoa n))) ∧ Bw w w' := by
 have hw : IntKind.u8.wrap (48 + n) = 48 + n := by unfold IntKind.wrap; simp [IntKind.bits, IntKind.signed]; omega
 have hk : ∀ T, (convert 48 9 (.slice (some ⟨w.heap.size, 0, none⟩) 1 1)).run Tryd.prog (w.alloc (.cells #[.int .u8 (48 + n)] T)) = .ok (.string (bs (Lib.itoa n))) (w.alloc (.cells #[.int .u8 (48 + n)] T)) := by
  intro T
  refine conv_bytes (zs := [48 + n]) ?_ (Rd.lit w T _ [48 + n] 1 rfl rfl)
  rw [dig_small n h0 h1]
  simp
  omega
 have hk := hk 5
 go_enter Tryd.func24, Tryd.ntmps24
 go_wp2
 go_ret
 exact ⟨rfl, BWX⟩

theorem dec_nat : ∀ (m : Nat) (n : Int) (w : World), n.toNat = m → 0 ≤ n → n ≤ 9223372036854775807 → Calls Tryd.prog 24 #[.int .i64 n] w fun e w' => e = .returned (.string (bs (Lib.itoa n))) ∧ Bw w w' := by
 intro m
 induction m using Nat.strongRecOn with
 | ind m ih =>
  intro n w hm h0 h1
  by_cases hs : n < 10
  ·exact dec_small n w h0 hs
  have HE := Lib.hid (dig_big n (by omega))
  go_enter Tryd.func24, Tryd.ntmps24
  go_wp2_with (first
   | (go_at_call 24; refine (ih (n / 10).toNat (by omega) _ _ rfl (by omega) (by omega)).mono ?_; rintro e w1 ⟨rfl, hb1⟩; clear ih; have hz1 := dec_size (n / 10) (by omega) (by omega))
   | (go_at_call 24; refine (dec_small _ _ (by omega) (by omega)).mono ?_; rintro e w2 ⟨rfl, hb2⟩; have hz2 := dec_size (n % 10) (by omega) (by omega))
   | fail)
  go_ret
  refine ⟨?_, BWX⟩
  rw [HE.out]
  rw [bs_add]; rfl

theorem neg_itoa (n : Int) (h1 : n < 0) : Lib.itoa n = 45 :: Lib.itoa (-n) := by
 unfold Lib.itoa
 rw [if_pos h1, if_neg (by omega)]
 congr 2
 omega
theorem dec_neg_small (n : Int) (w : World) (h0 : -10 < n) (h1 : n < 0) : Calls Tryd.prog 24 #[.int .i64 n] w fun e w' => e = .returned (.string (bs (Lib.itoa n))) ∧ Bw w w' := by
 have HE := Lib.hid (neg_itoa n h1)
 go_enter Tryd.func24, Tryd.ntmps24
 go_wp2_with (first
  | (go_at_call 24; refine (dec_small _ _ (by omega) (by omega)).mono ?_; rintro e w2 ⟨rfl, hb2⟩; have hz2 := dec_size (-n) (by omega) (by omega); have hz3 : (⟨#[45]⟩ : ByteArray).size = 1 := rfl)
  | fail)
 go_ret
 refine ⟨?_, BWX⟩
 rw [HE.out]
 exact congrArg (fun x => Ending.returned (.string x)) (bs_add [45] _)

set_option maxRecDepth 100000 in
theorem dec_neg : ∀ (m : Nat) (n : Int) (w : World), (-n).toNat = m → n < 0 → -9223372036854775808 ≤ n → Calls Tryd.prog 24 #[.int .i64 n] w fun e w' => e = .returned (.string (bs (Lib.itoa n))) ∧ Bw w w' := by
 intro m
 induction m using Nat.strongRecOn with
 | ind m ih =>
  intro n w hm h0 h1
  by_cases hs : -10 < n
  ·exact dec_neg_small n w hs h0
  have hq : n.tdiv 10 = -((-n) / 10) := by rw [← Int.tdiv_eq_ediv_of_nonneg (by omega), Int.neg_tdiv]; omega
  have hr : n.tmod 10 = -((-n) % 10) := by rw [← Int.tmod_eq_emod_of_nonneg (by omega), Int.neg_tmod]; omega
  have HE := Lib.hid (show Lib.itoa n = Lib.itoa (n.tdiv 10) ++ Lib.itoa (-(n.tmod 10)) by
   rw [neg_itoa n h0, neg_itoa (n.tdiv 10) (by omega), dig_big (-n) (by omega), show -(n.tdiv 10) = -n / 10 by omega, show -(n.tmod 10) = -n % 10 by omega]
   rfl)
  have I1 := fun w => ih (-(n.tdiv 10)).toNat (by omega) (n.tdiv 10) w rfl (by omega) (by omega)
  have I2 := fun w => dec_small (-(n.tmod 10)) w (by omega) (by omega)
  have hz1 := dec_size (n.tdiv 10) (by omega) (by omega)
  have hz2 := dec_size (-(n.tmod 10)) (by omega) (by omega)
  have HQ := Lib.hid hq
  have HR := Lib.hid hr
  have hr1 : -9 ≤ n.tmod 10 := by omega
  have hr2 : n.tmod 10 ≤ 0 := by omega
  clear hq hr ih hm
  go_enter Tryd.func24, Tryd.ntmps24
  go_wp2_with (first
   | (go_at_call 24; refine (I1 _).mono ?_; rintro e w1 ⟨rfl, hb1⟩; clear I1)
   | (go_at_call 24; refine (I2 _).mono ?_; rintro e w2 ⟨rfl, hb2⟩)
   | fail)
  go_ret
  refine ⟨?_, BWX⟩
  rw [HE.out]
  rw [bs_add]; rfl
/-- Decimal writes what AppendInt writes. -/
theorem dec30_any (n : Int) (w : World) (h0 : -9223372036854775808 ≤ n) (h1 : n ≤ 9223372036854775807) : Calls Tryd.prog 24 #[.int .i64 n] w fun e w' => e = .returned (.string (bs (Lib.itoa n))) ∧ Bw w w' := by
 rcases Int.lt_or_le n 0 with h | h
 ·exact dec_neg _ n w rfl h h0
 ·exact dec_nat _ n w rfl h h1
end Go.Proofs.YtmkpefielfinjaaDoor

/- Attributes: the closure of Bytes that writes a parameter. -/
namespace Go.Proofs.YtmkpefielfinjaaDoor
open Go.RowKit

theorem infoB : (Tryd.prog.info? 5).map (fun i => (i.zero, i.size, i.bytes)) = some (some (.int .u8 0), 1, 1) := by kernel_rfl
/-- What the table of powers reads as, whatever the call does at its own blocks. -/
def PowT (B : Nat) (w : World) : Prop := Lib.TabBelow Tryd.prog B w "internal/strconv.uint64pow10" .u64 Lib.pow10Tab
end Go.Proofs.YtmkpefielfinjaaDoor

/- Compose: the program's line of a job. -/
namespace Go.Proofs.YtmkpefielfinjaaDoor
open Go.RowKit Go.PlainAid

/-- A character as a line shows it. -/
def clean (b : UInt8) : UInt8 := if b.toNat < 32 ∨ 126 < b.toNat then 63 else b
def nameL (s : ByteArray) : List UInt8 := s.data.toList.map clean
theorem nameL_len (s : ByteArray) : (nameL s).length = s.size := by
 unfold nameL
 rw [List.length_map, Array.length_toList]
 rfl
def cln (b : Int) : Int := if b < 32 ∨ 126 < b then 63 else b
theorem nameL_snoc (s : ByteArray) (k : Nat) (h : k < s.size) : Lib.byteCells ((nameL s).take (k + 1)) = Lib.byteCells ((nameL s).take k) ++ [.int .u8 (cln (bt s k))] := by
 have hl : k < (nameL s).length := by rw [nameL_len]; exact h
 have hk : k < s.data.size := h
 rw [List.take_succ_eq_append_getElem hl, Lib.byteCells_append]
 congr 1
 have e : (nameL s)[k] = clean (s.data[k]) := by simp [nameL]
 have e2 : bt s k = ((s.data[k]).toNat : Int) := by unfold bt; rw [dif_pos h]; rfl
 rw [e, e2]
 unfold clean cln Lib.byteCells
 by_cases hc : (s.data[k]).toNat < 32 ∨ 126 < (s.data[k]).toNat
 ·rw [if_pos hc, if_pos (by omega)]; rfl
 ·rw [if_neg hc, if_neg (by omega)]; rfl
def headL (mark : Bool) : List UInt8 := [if mark then 62 else 32, 32]
def runL (runs : Int) : List UInt8 := if runs = 0 then [] else [32, 126] ++ Lib.itoa runs
/-- The line of a job. -/
def lineL (s : ByteArray) (p inc runs : Int) (mark : Bool) : List UInt8 := headL mark ++ nameL s ++ [32] ++ (wordB p).data.toList ++ [32, 35] ++ Lib.itoa inc ++ runL runs
/-- A status in a block of its own. -/
def SAt (w : World) (b : Nat) (s : ByteArray) (p inc runs : Int) : Prop := w.cell? ⟨b, 0, none⟩ = some (.string s) ∧ w.cell? ⟨b, 1, none⟩ = some (.int .i64 p) ∧ w.cell? ⟨b, 2, none⟩ = some (.int .i64 inc) ∧ w.cell? ⟨b, 3, none⟩ = some (.int .i64 runs)
theorem SAt.below {w w' : World} {B b : Nat} {s : ByteArray} {p inc runs : Int} (h : SAt w b s p inc runs) (hb : Below B w w') (hl : b < B) : SAt w' b s p inc runs := by
 obtain ⟨h0, h1, h2, h3⟩ := h
 exact ⟨(Below.cell hb (p := ⟨b, 0, none⟩) hl).trans h0, (Below.cell hb (p := ⟨b, 1, none⟩) hl).trans h1, (Below.cell hb (p := ⟨b, 2, none⟩) hl).trans h2, (Below.cell hb (p := ⟨b, 3, none⟩) hl).trans h3⟩
def Ln (w wr : World) (s : ByteArray) (p inc runs : Int) : Prop := SAt wr w.heap.size s p inc runs ∧ Bw w wr
theorem Ln.step {w wr w1 : World} {s : ByteArray} {p inc runs : Int} (h : Ln w wr s p inc runs) (hb : Below (w.heap.size + 1) wr w1) : Ln w w1 s p inc runs :=
 ⟨h.1.below hb (Nat.lt_succ_self _), Below.trans h.2 (Below.mono hb (by omega))⟩
theorem Ln.lt {w wr : World} {s : ByteArray} {p inc runs : Int} (h : Ln w wr s p inc runs) : w.heap.size + 1 ≤ wr.heap.size := lt_of_cell h.1.1
theorem PowT.raise {B B' : Nat} {w : World} (h : PowT B w) (hle : B ≤ B') : PowT B' w := fun w' hb => h w' (Below.mono hb hle)
theorem own_conv {w : World} {B : Nat} {A : Option Addr} {n c m : Nat} {l : List UInt8} {xs : List Value} (h : w.ownsRow B 5 1 (.slice A n c) m xs) (hx : xs = Lib.byteCells l) : (convert 48 9 (.slice A n c)).run Tryd.prog w = .ok (.string (bs l)) w := by
 subst hx
 refine conv_bytes rfl (own_rd (e := 5) (f := .int .u8) (base := B) (m := m) (c := c) ?_)
 rw [List.map_map]
 exact h
theorem below_row {w w1 : World} {B n : Nat} {v : Value} {xs : List Value} (h : w.ownsRow B 5 1 v n xs) (hg : w.grownBy w1 v.ownBlock) (hB : B ≤ w.heap.size) : Below B w w1 :=
 Below.grown (Below.refl B w) hg hB (fun q hq => (h.lt q hq).1)

/-- A row of new memory: an own one, or a literal that has no room. -/
def OwnZ (w : World) (B : Nat) (v : Value) (n : Nat) (xs : List Value) : Prop :=
 w.ownsRow B 5 1 v n xs ∨ ∃ g, v = .slice (some ⟨g, 0, none⟩) n n ∧ xs.length = n ∧ B ≤ g ∧ n ≤ 1000 ∧ ∀ j u, xs[j]? = some u → w.cell? ((⟨g, 0, none⟩ : Addr).add j) = some u
theorem OwnZ.form {w : World} {B : Nat} {v : Value} {n : Nat} {xs : List Value} (h : OwnZ w B v n xs) : ∃ A c, v = .slice A n c ∧ n ≤ c ∧ c ≤ 9223372036854775807 := by
 rcases h with h | ⟨g, rfl, _, _, h5, _⟩
 ·exact own_form h
 ·exact ⟨_, n, rfl, Nat.le_refl _, by omega⟩
theorem OwnZ.len {w : World} {B : Nat} {v : Value} {n : Nat} {xs : List Value} (h : OwnZ w B v n xs) : xs.length = n := by
 rcases h with h | ⟨g, _, h, _⟩
 ·simpa using h.1
 ·exact h
theorem OwnZ.alloc {w : World} {B : Nat} {v : Value} {n : Nat} {xs : List Value} (h : OwnZ w B v n xs) (o : Obj) : OwnZ (w.alloc o) B v n xs := by
 rcases h with h | ⟨g, h1, h2, h3, h5, h4⟩
 ·exact .inl (h.alloc o)
 ·exact .inr ⟨g, h1, h2, h3, h5, fun j u hj => cell_alloc_some (h4 j u hj) o⟩
theorem OwnZ.drewN {w : World} {B : Nat} {v : Value} {n : Nat} {xs : List Value} (h : OwnZ w B v n xs) (q : Nat) : OwnZ (w.drewN q) B v n xs := by
 rcases h with h | ⟨g, h1, h2, h3, h5, h4⟩
 ·exact .inl h
 ·exact .inr ⟨g, h1, h2, h3, h5, fun j u hj => cell_drewN_some (h4 j u hj) q⟩
theorem wpList_append_z {ops : Array Oper} {rest : List Oper} {o : Oper} {a : Act} {Q : Exit → Act → World → Prop} {w : World} (hgd : Region.wanted o (yielded ops a.tmps) = true) (s x : Operand)
  (ho : o.op = .call { callee := .builtin .append, args := #[s, x], argTypes := #[48, 48] })
  (B : Nat) (v : Value) (n : Nat) (xs : List Value) (hs : a.eval s = v) (hown : OwnZ w B v n xs) (ad : Addr) (c : Nat) (u : Value) (hx : a.eval x = .slice (some ad) 1 c) (hc : w.cell? ad = some u) (h1 : u.oneCell' = true)
  (h63 : n + 1 ≤ 140737488355328) (hB : B ≤ w.heap.size) (h : ∀ v' w', w'.ownsRow B 5 1 v' (n + 1) (xs ++ [u]) → Below B w w' → wpList Tryd.prog ops Q rest (a.put o.dst v') w') : wpList Tryd.prog ops Q (o :: rest) a w := by
 obtain ⟨i0, hi, hz0, hz1, hz2⟩ := info_parts infoB
 have hcu : ∀ j y, [u][j]? = some y → w.cell? (ad.add j) = some y := by
  intro j y hj
  match j, hj with
  | 0, hj => simp at hj; subst hj; simpa [Addr.add] using hc
 rcases hown with hown | ⟨g, rfl, hl, hg, hn, hcl⟩
 ·exact wpList_append_srcG hgd s x 48 ho B 5 i0 (.int .u8 0) 1 1 Tryd.underlying48 hi hz0 hz1 hz2 rfl (by decide) v n xs hs hown (some ad) 1 c [u] hx rfl (fun e => by cases e) (fun ad' e => by cases e; exact hcu) (by simp; exact h1) (by unfold maxLen; omega) (by omega) hB (fun v' w' a1 a2 => h v' w' a1 (below_row hown a2 hB))
 ·refine wpList_yes hgd fun K hK => ?_
  have hsrc : Src Tryd.prog i0.size 48 (.slice (some ad) 1 c) 1 [u] w := by rw [hz1]; exact Src.ofSlice w Tryd.underlying48 ad 1 c [u] rfl hcu (by simp; exact h1)
  have hrun := run_append_grow_src (P := Tryd.prog) w 48 48 o.type 5 i0 (.int .u8 0) Tryd.underlying48 hi hz0 (some ⟨g, 0, none⟩) n n xs (run_firstCells_some (P := Tryd.prog) w.drew i0.size n ⟨g, 0, none⟩ n n xs (by rw [hz1, hl, Nat.mul_one]) (by simpa using hcl)) _ 1 [u] hsrc (by omega) (by omega) (by rw [hz2]; exact growslice_fits (by omega) (by omega))
  have hge := grownCap_ge w (n + 1) n 5
  have hcm : grownCap w (n + 1) n 5 ≤ maxLen := grownCap_le_maxLen w (n + 1) n 5 (by unfold maxLen; omega)
  unfold Oper.wp
  simp [execOp, ho, resolve, invoke, builtin, hs, hx, hrun, Result.andThen]
  refine hK _ _ (h _ _ ⟨by simp [hl], .inr ⟨w.heap.size, _, _, rfl, hB, heap_alloc_new w.drew _, hge, hcm, ?_, ?_⟩⟩ (Below.alloc (Below.drew (Below.refl B w)) hB _))
  ·have hz1 : (Value.int IntKind.u8 0).cells.size = 1 := rfl
   simp only [Array.size_append, List.size_toArray, size_zeroCells, hz1, List.length_append, List.length_cons, List.length_nil, hl]
   omega
  ·rw [Array.toList_append, List.toList_toArray]
   exact List.take_left' (by simp [hl])

@[go_sem] theorem conv_lit (w : World) (C : Array Value) (n c b : Nat) (hb : b = w.heap.size) : (convert 48 48 (.slice (some ⟨b, 0, none⟩) n c)).run Tryd.prog (w.alloc (.cells C 5)) = .ok (.slice (some ⟨b, 0, none⟩) n c) (w.alloc (.cells C 5 (C.size, C.size + 1))) := by
 subst hb
 exact Lib.run_convert_bytes_const (P := Tryd.prog) w 48 5 C n c Tryd.underlying48 Tryd.underlying5
@[go_sem] theorem lit_cell0 (w : World) (x y : Value) (b : Nat) (hb : b = w.heap.size) : (w.alloc (.cells #[x, y] 5 (2, 3))).cell? ⟨b, 0, none⟩ = some x := cell_alloc_here hb rfl
@[go_sem] theorem lit_frozen0 (w : World) (x y : Value) (b : Nat) (hb : b = w.heap.size) : (w.alloc (.cells #[x, y] 5 (2, 3))).frozen? ⟨b, 0, none⟩ = false := by
 subst hb
 unfold World.frozen?
 rw [heap_alloc_new]
 rfl
@[go_sem] theorem lit_set0 (w : World) (x y u : Value) (b : Nat) (hb : b = w.heap.size) : (w.alloc (.cells #[x, y] 5 (2, 3))).setCell ⟨b, 0, none⟩ u = w.alloc (.cells #[u, y] 5 (2, 3)) := by
 subst hb
 have hm : ∀ (a : Array Obj) (x : Obj) (f : Obj → Obj), (a.push x).modify a.size f = a.push (f x) := by
  intro a x f
  apply Array.ext
  ·simp
  ·intro i h1 h2
   simp only [Array.getElem_modify, Array.getElem_push]
   by_cases h : a.size = i
   ·subst h; simp
   ·have hi : i < a.size := by simp at h1; omega
    simp [h, hi]
 unfold World.setCell World.alloc
 dsimp only
 rw [hm]
 rfl
theorem cell_two {w : World} {g : Nat} {x y : Value} (h0 : w.cell? ⟨g, 0, none⟩ = some x) (h1 : w.cell? ⟨g, 1, none⟩ = some y) : ∀ j u, [x, y][j]? = some u → w.cell? ((⟨g, 0, none⟩ : Addr).add j) = some u := by
 intro j u hj
 match j, hj with
 | 0, hj => simp at hj; subst hj; simpa [Addr.add] using h0
 | 1, hj => simp at hj; subst hj; simpa [Addr.add] using h1
theorem cln_ways (b : Int) : (b < 32 ∧ cln b = 63) ∨ (32 ≤ b ∧ 126 < b ∧ cln b = 63) ∨ (32 ≤ b ∧ b ≤ 126 ∧ cln b = b) := by
 unfold cln
 by_cases h : b < 32
 ·exact .inl ⟨h, if_pos (.inl h)⟩
 by_cases h2 : 126 < b
 ·exact .inr (.inl ⟨by omega, h2, if_pos (.inr h2)⟩)
 ·exact .inr (.inr ⟨by omega, by omega, if_neg (by omega)⟩)

set_option maxRecDepth 100000 in
set_option maxHeartbeats 2000000 in
theorem line_any (s : ByteArray) (p inc runs : Int) (mark : Bool) (w : World) (hs : s.size ≤ 140737488351232) (c0 : -9223372036854775808 ≤ inc) (c1 : inc ≤ 9223372036854775807) (r0 : -9223372036854775808 ≤ runs) (r1 : runs ≤ 9223372036854775807) (hT : WordT w) (hP : PowT w.heap.size w) :
  Calls Tryd.prog 11 #[.agg #[.string s, .int .i64 p, .int .i64 inc, .int .i64 runs], .bool mark] w fun e w' => e = .returned (.string (bs (lineL s p inc runs mark))) ∧ Bw w w' := by
 have HT := Lib.hid hT
 have HP := Lib.hid hP
 clear hT hP
 obtain ⟨i0, hi, hz0, hz1, hz2⟩ := info_parts infoB
 obtain ⟨n, hn⟩ : ∃ n, n = s.size := ⟨_, rfl⟩
 have hb := get_bt s
 have hws := wordB_size p
 have hil := Lib.itoa_length_le inc c0 c1
 have hrl := Lib.itoa_length_le runs r0 r1
 go_enter Tryd.func11, Tryd.ntmps11
 go_upto_if 10 with (fail)
 go_cut [5] (fun s5 wc => OwnZ wc (w.heap.size + 1) s5 2 (Lib.byteCells (headL mark)) ∧ Ln w wc s p inc runs)
 case first =>
  cases mark
  all_goals
   go_wp2
   go_meet
   case rel =>
    exact ⟨.inr ⟨_, rfl, rfl, by omega, by omega, cell_two (cell_alloc_here SZX rfl) (cell_alloc_here SZX rfl)⟩, ⟨CELX, CELX, CELX, CELX⟩, BWX⟩
 case rest =>
 obtain ⟨hZ, hL⟩ := hcut
 obtain ⟨A5, c5, rfl, hc5, hc5m⟩ := hZ.form
 obtain ⟨y0, y1, y2, y3⟩ := hL.1
 have HZ0 := Lib.hid hZ
 have HL0 := Lib.hid hL
 clear hZ hL
 go_wp2_with (fail)
 go_loopw [5, 16] (fun s5 i wr => ∃ k : Nat, i = .int .i64 k ∧ k ≤ n ∧ OwnZ wr (w.heap.size + 1) s5 (k + 2) (Lib.byteCells (headL mark) ++ Lib.byteCells ((nameL s).take k)) ∧ Ln w wr s p inc runs) (fun _ i _ => n - (intOf i).toNat)
 case atStart => exact ⟨0, rfl, by omega, by simpa [Lib.byteCells] using HZ0.out, HL0.out⟩
 case round =>
  obtain ⟨k, rfl, hk, hZ, hL⟩ := hrel
  clear y0 y1 y2 y3 HZ0 HL0
  obtain ⟨A5, c5, rfl, hc5, hc5m⟩ := hZ.form
  obtain ⟨y0, y1, y2, y3⟩ := hL.1
  have lt0 := hL.lt
  have HZ := Lib.hid hZ
  have HL := Lib.hid hL
  clear hZ hL
  by_cases hlt : k < n
  ·have HX := nameL_snoc s k (by omega)
   have b0 := bt_nonneg s k
   have b1 := bt_le s k
   rcases cln_ways (bt s k) with ⟨h1, hc⟩ | ⟨h1, h2, hc⟩ | ⟨h1, h2, hc⟩
   all_goals
    rw [hc] at HX
    clear hc
    have HX := Lib.hid HX
    go_wp2_with (first
     | (at_builtin; refine wpList_append_z (by rfl) (.tmp 29) (.tmp 31) rfl (w.heap.size + 1) _ (k + 2) _ (by rfl) (HZ.out.alloc _) ⟨_, 0, none⟩ 1 _ (by rfl) (cell_alloc_here SZX rfl) rfl (by omega) SZX ?_; intro v1 w1 hown1 hbel1)
     | fail)
    go_roundw
    case rel =>
     refine ⟨k + 1, by go_num, by omega, ?_, (HL.out.step (Below.alloc (Below.refl _ _) lt0 _)).step hbel1⟩
     rw [HX.out, ← List.append_assoc, show k + 1 + 2 = k + 2 + 1 by omega]
     exact .inl hown1
    case measure => simp [intOf]; omega
  ·have HE := Lib.hid (show (nameL s).take k = nameL s from List.take_of_length_le (by rw [nameL_len]; omega))
   have hs35 : (⟨#[32, 35]⟩ : ByteArray).size = 2 := rfl
   have hs126 : (⟨#[32, 126]⟩ : ByteArray).size = 2 := rfl
   by_cases hr : runs = 0
   ·subst hr
    go_wp2_with (first
     | (at_builtin; refine wpList_append_z (by rfl) (.tmp 34) (.tmp 35) rfl (w.heap.size + 1) _ (k + 2) _ (by rfl) (HZ.out.alloc _) ⟨_, 0, none⟩ 1 (.int .u8 32) (by rfl) (cell_alloc_here SZX rfl) rfl (by omega) SZX ?_; intro v1 w1 hown1 hbel1; obtain ⟨m1, hm1, hq1⟩ : ∃ m, m = k + 2 + 1 ∧ m ≤ 140737488351235 := ⟨_, rfl, by omega⟩; rw [← hm1] at hown1; have HM1 := Lib.hid hm1; clear hm1; obtain ⟨A1, k1, rfl, hk1, hk1m⟩ := own_form hown1; have hL1 := (HL.out.step (Below.alloc (Below.refl _ _) lt0 _)).step hbel1; have HO1 := Lib.hid hown1; have HL1 := Lib.hid hL1; have lt1 := hL1.lt; obtain ⟨ya1, yb1, yc1, yd1⟩ := hL1.1; clear hown1 hL1 hbel1)
     | (go_at_call 9; refine (word_any p _ (by exact HT.out.up HL1.out.2)).mono ?_; rintro ee ww ⟨rfl, rfl⟩)
     | (at_builtin; refine Lib.wpList_append_own_string _ rfl (.tmp 37) (.tmp 40) 48 9 rfl (w.heap.size + 1) 5 i0 Tryd.underlying48 Tryd.underlying9 hi hz0 hz1 hz2 (.slice A1 m1 k1) m1 _ (by rfl) HO1.out (wordB p) (by rfl) (by unfold maxLen; omega) (by omega) lt1 ?_; intro v2 w2 hown2 hg2 _; have hbel2 := below_row HO1.out hg2 lt1; clear hg2; obtain ⟨m2, hm2, hq2⟩ : ∃ m, m = m1 + (wordB p).size ∧ m ≤ 140737488351243 := ⟨_, rfl, by omega⟩; rw [← hm2] at hown2; have HM2 := Lib.hid hm2; clear hm2; obtain ⟨A2, k2, rfl, hk2, hk2m⟩ := own_form hown2; have hL2 := HL1.out.step hbel2; have HO2 := Lib.hid hown2; have HL2 := Lib.hid hL2; have lt2 := hL2.lt; obtain ⟨ya2, yb2, yc2, yd2⟩ := hL2.1; clear hown2 hL2 hbel2)
     | (at_builtin; refine Lib.wpList_append_own_string _ rfl (.tmp 42) (.const (.string ⟨#[32, 35]⟩)) 48 9 rfl (w.heap.size + 1) 5 i0 Tryd.underlying48 Tryd.underlying9 hi hz0 hz1 hz2 (.slice A2 m2 k2) m2 _ (by rfl) HO2.out ⟨#[32, 35]⟩ (by rfl) (by unfold maxLen; omega) (by omega) lt2 ?_; intro v3 w3 hown3 hg3 _; have hbel3 := below_row HO2.out hg3 lt2; clear hg3; obtain ⟨m3, hm3, hq3⟩ : ∃ m, m = m2 + (⟨#[32, 35]⟩ : ByteArray).size ∧ m ≤ 140737488351245 := ⟨_, rfl, by omega⟩; rw [← hm3] at hown3; have HM3 := Lib.hid hm3; clear hm3; obtain ⟨A3, k3, rfl, hk3, hk3m⟩ := own_form hown3; have hL3 := HL2.out.step hbel3; have HO3 := Lib.hid hown3; have HL3 := Lib.hid hL3; have lt3 := hL3.lt; obtain ⟨ya3, yb3, yc3, yd3⟩ := hL3.1; clear hown3 hL3 hbel3)
     | (go_at_call 23; refine (Tryd.strconv_AppendInt_10 (w.heap.size + 1) m3 inc c0 c1 (.slice A3 m3 k3) _ _ (by exact HO3.out) (by exact lt3) (by omega) (by exact PowT.raise (HP.out.on HL3.out.2) (Nat.le_succ _))).mono ?_; rintro ee w4 ⟨v4, rfl, hown4, hbel4, -⟩; obtain ⟨m4, hm4, hq4⟩ : ∃ m, m = m3 + (Lib.itoa inc).length ∧ m ≤ 140737488351266 := ⟨_, rfl, by omega⟩; rw [← hm4] at hown4; have HM4 := Lib.hid hm4; clear hm4; obtain ⟨A4, k4, rfl, hk4, hk4m⟩ := own_form hown4; have hcv := own_conv (l := lineL s p inc 0 mark) hown4 (by rw [HE.out]; simp [lineL, runL, Lib.byteCells, Lib.strCells]); have hL4 := HL3.out.step hbel4; have HO4 := Lib.hid hown4; have HL4 := Lib.hid hL4; have lt4 := hL4.lt; obtain ⟨ya4, yb4, yc4, yd4⟩ := hL4.1; clear hown4 hL4 hbel4)
     | fail)
    go_ret
    exact ⟨rfl, HL4.out.2⟩
   ·skip
    go_wp2_with (first
     | (at_builtin; refine wpList_append_z (by rfl) (.tmp 34) (.tmp 35) rfl (w.heap.size + 1) _ (k + 2) _ (by rfl) (HZ.out.alloc _) ⟨_, 0, none⟩ 1 (.int .u8 32) (by rfl) (cell_alloc_here SZX rfl) rfl (by omega) SZX ?_; intro v1 w1 hown1 hbel1; obtain ⟨m1, hm1, hq1⟩ : ∃ m, m = k + 2 + 1 ∧ m ≤ 140737488351235 := ⟨_, rfl, by omega⟩; rw [← hm1] at hown1; have HM1 := Lib.hid hm1; clear hm1; obtain ⟨A1, k1, rfl, hk1, hk1m⟩ := own_form hown1; have hL1 := (HL.out.step (Below.alloc (Below.refl _ _) lt0 _)).step hbel1; have HO1 := Lib.hid hown1; have HL1 := Lib.hid hL1; have lt1 := hL1.lt; obtain ⟨ya1, yb1, yc1, yd1⟩ := hL1.1; clear hown1 hL1 hbel1)
     | (go_at_call 9; refine (word_any p _ (by exact HT.out.up HL1.out.2)).mono ?_; rintro ee ww ⟨rfl, rfl⟩)
     | (at_builtin; refine Lib.wpList_append_own_string _ rfl (.tmp 37) (.tmp 40) 48 9 rfl (w.heap.size + 1) 5 i0 Tryd.underlying48 Tryd.underlying9 hi hz0 hz1 hz2 (.slice A1 m1 k1) m1 _ (by rfl) HO1.out (wordB p) (by rfl) (by unfold maxLen; omega) (by omega) lt1 ?_; intro v2 w2 hown2 hg2 _; have hbel2 := below_row HO1.out hg2 lt1; clear hg2; obtain ⟨m2, hm2, hq2⟩ : ∃ m, m = m1 + (wordB p).size ∧ m ≤ 140737488351243 := ⟨_, rfl, by omega⟩; rw [← hm2] at hown2; have HM2 := Lib.hid hm2; clear hm2; obtain ⟨A2, k2, rfl, hk2, hk2m⟩ := own_form hown2; have hL2 := HL1.out.step hbel2; have HO2 := Lib.hid hown2; have HL2 := Lib.hid hL2; have lt2 := hL2.lt; obtain ⟨ya2, yb2, yc2, yd2⟩ := hL2.1; clear hown2 hL2 hbel2)
     | (at_builtin; refine Lib.wpList_append_own_string _ rfl (.tmp 42) (.const (.string ⟨#[32, 35]⟩)) 48 9 rfl (w.heap.size + 1) 5 i0 Tryd.underlying48 Tryd.underlying9 hi hz0 hz1 hz2 (.slice A2 m2 k2) m2 _ (by rfl) HO2.out ⟨#[32, 35]⟩ (by rfl) (by unfold maxLen; omega) (by omega) lt2 ?_; intro v3 w3 hown3 hg3 _; have hbel3 := below_row HO2.out hg3 lt2; clear hg3; obtain ⟨m3, hm3, hq3⟩ : ∃ m, m = m2 + (⟨#[32, 35]⟩ : ByteArray).size ∧ m ≤ 140737488351245 := ⟨_, rfl, by omega⟩; rw [← hm3] at hown3; have HM3 := Lib.hid hm3; clear hm3; obtain ⟨A3, k3, rfl, hk3, hk3m⟩ := own_form hown3; have hL3 := HL2.out.step hbel3; have HO3 := Lib.hid hown3; have HL3 := Lib.hid hL3; have lt3 := hL3.lt; obtain ⟨ya3, yb3, yc3, yd3⟩ := hL3.1; clear hown3 hL3 hbel3)
     | (go_at_call 23; refine (Tryd.strconv_AppendInt_10 (w.heap.size + 1) m3 inc c0 c1 (.slice A3 m3 k3) _ _ (by exact HO3.out) (by exact lt3) (by omega) (by exact PowT.raise (HP.out.on HL3.out.2) (Nat.le_succ _))).mono ?_; rintro ee w4 ⟨v4, rfl, hown4, hbel4, -⟩; obtain ⟨m4, hm4, hq4⟩ : ∃ m, m = m3 + (Lib.itoa inc).length ∧ m ≤ 140737488351266 := ⟨_, rfl, by omega⟩; rw [← hm4] at hown4; have HM4 := Lib.hid hm4; clear hm4; obtain ⟨A4, k4, rfl, hk4, hk4m⟩ := own_form hown4; have hL4 := HL3.out.step hbel4; have HO4 := Lib.hid hown4; have HL4 := Lib.hid hL4; have lt4 := hL4.lt; obtain ⟨ya4, yb4, yc4, yd4⟩ := hL4.1; clear hown4 hL4 hbel4)
     | (at_builtin; refine Lib.wpList_append_own_string _ rfl (.tmp 51) (.const (.string ⟨#[32, 126]⟩)) 48 9 rfl (w.heap.size + 1) 5 i0 Tryd.underlying48 Tryd.underlying9 hi hz0 hz1 hz2 (.slice A4 m4 k4) m4 _ (by rfl) HO4.out ⟨#[32, 126]⟩ (by rfl) (by unfold maxLen; omega) (by omega) lt4 ?_; intro v5 w5 hown5 hg5 _; have hbel5 := below_row HO4.out hg5 lt4; clear hg5; obtain ⟨m5, hm5, hq5⟩ : ∃ m, m = m4 + (⟨#[32, 126]⟩ : ByteArray).size ∧ m ≤ 140737488351268 := ⟨_, rfl, by omega⟩; rw [← hm5] at hown5; have HM5 := Lib.hid hm5; clear hm5; obtain ⟨A5, k5, rfl, hk5, hk5m⟩ := own_form hown5; have hL5 := HL4.out.step hbel5; have HO5 := Lib.hid hown5; have HL5 := Lib.hid hL5; have lt5 := hL5.lt; obtain ⟨ya5, yb5, yc5, yd5⟩ := hL5.1; clear hown5 hL5 hbel5)
     | (go_at_call 23; refine (Tryd.strconv_AppendInt_10 (w.heap.size + 1) m5 runs r0 r1 (.slice A5 m5 k5) _ _ (by exact HO5.out) (by exact lt5) (by omega) (by exact PowT.raise (HP.out.on HL5.out.2) (Nat.le_succ _))).mono ?_; rintro ee w6 ⟨v6, rfl, hown6, hbel6, -⟩; obtain ⟨m6, hm6, hq6⟩ : ∃ m, m = m5 + (Lib.itoa runs).length ∧ m ≤ 140737488351289 := ⟨_, rfl, by omega⟩; rw [← hm6] at hown6; have HM6 := Lib.hid hm6; clear hm6; obtain ⟨A6, k6, rfl, hk6, hk6m⟩ := own_form hown6; have hcv := own_conv (l := lineL s p inc runs mark) hown6 (by rw [HE.out]; simp [lineL, runL, hr, Lib.byteCells, Lib.strCells]); have hL6 := HL5.out.step hbel6; have HO6 := Lib.hid hown6; have HL6 := Lib.hid hL6; have lt6 := hL6.lt; obtain ⟨ya6, yb6, yc6, yd6⟩ := hL6.1; clear hown6 hL6 hbel6)
     | fail)
    go_ret
    exact ⟨rfl, HL6.out.2⟩
end Go.Proofs.YtmkpefielfinjaaDoor

/- Compose: a new grid known whole; a row of a grid; what is put into a row. -/
namespace Go.Proofs.YtmkpefielfinjaaDoor
open Go.RowKit

/-- A grid in a new block, known whole. -/
def GrW (w : World) (R C : Int) (cs : List C4) (e : Ending) (w' : World) : Prop :=
 ∃ g, e = .returned (.agg #[.int .i64 R, .int .i64 C, .slice (some ⟨g, 0, none⟩) cs.length cs.length]) ∧ Wb w' g cs ∧ w.heap.size ≤ g ∧ Bw w w'
set_option maxRecDepth 100000 in
set_option maxHeartbeats 2000000 in
theorem gnew_wb (rows cols : Int) (w : World) : Calls Tryd.prog 32 #[.int .i64 rows, .int .i64 cols] w (GrW w (clamp rows 30) (clamp cols 100) (List.replicate (clamp rows 30 * clamp cols 100).toNat blk)) := by
 have h1 := clamp_bd rows 30 (by omega)
 have h2 := clamp_bd cols 100 (by omega)
 have HR := Lib.hid (clamp_if rows 30 (by omega))
 have HC := Lib.hid (clamp_if cols 100 (by omega))
 obtain ⟨R, hR⟩ : ∃ R, R = clamp rows 30 := ⟨_, rfl⟩
 obtain ⟨C, hC⟩ : ∃ C, C = clamp cols 100 := ⟨_, rfl⟩
 rw [← hR, ← hC]
 rw [← hR] at h1 HR
 rw [← hC] at h2 HC
 clear hR hC
 obtain ⟨h1, h3⟩ := h1
 obtain ⟨h2, h4⟩ := h2
 have hm := mul_bd h1 h3 h2 h4
 obtain ⟨N, hN⟩ : ∃ N : Nat, (R * C).toNat = N := ⟨_, rfl⟩
 have hN2 : R * C = (N : Int) := by omega
 have hN3 : 1 ≤ N ∧ N ≤ 3000 := by omega
 have HN := Lib.hid hN
 have HN2 := Lib.hid hN2
 obtain ⟨j0, hj, hj0, hj1, hj2⟩ := info_parts infoC
 obtain ⟨hN4, hN5⟩ := hN3
 clear hN hN2
 go_enter Tryd.func32, Tryd.ntmps32
 go_upto_region 1 with (fail)
 go_cut [0] (fun s0 w' => s0 = .int .i64 R ∧ w.alloc (.cells #[.int .i64 0, .int .i64 0, .slice none 0 0] 32) = w')
 case first =>
  go_wp2_with fail
  all_goals
   go_meet
   case rel => exact ⟨congrArg (Value.int .i64) (by have h9 := HR.out; (repeat' split at h9) <;> omega), rfl⟩
 case rest =>
 obtain ⟨rfl, rfl⟩ := hcut
 go_upto_region 2 with (fail)
 go_cut [1] (fun s0 w' => s0 = .int .i64 C ∧ w.alloc (.cells #[.int .i64 0, .int .i64 0, .slice none 0 0] 32) = w')
 case first =>
  go_wp2_with fail
  all_goals
   go_meet
   case rel => exact ⟨congrArg (Value.int .i64) (by have h9 := HC.out; (repeat' split at h9) <;> omega), rfl⟩
 case rest =>
 obtain ⟨rfl, rfl⟩ := hcut
 have hm2 : (N : Int) = R * C := HN2.out.symm
 have HM2 := Lib.hid hm2
 clear hm2
 go_wp2_with (first | (at_make; refine wpList_make_full _ rfl _ _ 30 rfl (w.heap.size + 1) 64 j0 (.agg #[.int .i64 0, .int .i64 0, .int .i64 0, .int .i64 0]) 4 Tryd.underlying30 hj hj0 hj1 .i64 .i64 (R * C) (R * C) N (by rfl) (by rfl) HN2.out HN2.out (by rw [hj2]; omega) (by unfold maxLen; omega) SZX ?_; intro w1 hown1 hg1; have hwb := Wb.of_made hown1 (heapsz _ _); have hbw1 : Bw (w.alloc (.cells #[.int .i64 0, .int .i64 0, .slice none 0 0] 32)) w1 := Bw.of_grown hg1; have HW := Lib.hid hwb; have HB1 := Lib.hid hbw1; have hzw := hwb.lt; clear hown1 hg1 hwb hbw1) | fail)
 have hbww : Bw w w1 := Bw.trans (show Bw w (w.alloc _) from BWX) HB1.out
 have HB0 := Lib.hid ((Bx.lit (w := w) rfl rfl).up HB1.out)
 go_loopw [19] (fun i wr => ∃ k : Nat, i = .int .i64 k ∧ k ≤ N ∧ Wb wr (w.heap.size + 1) (List.replicate k blk ++ List.replicate (N - k) zc) ∧ Bx wr w.heap.size [.int .i64 0, .int .i64 0, .slice none 0 0] ∧ Bw w wr) (fun i _ => N - (intOf i).toNat)
 case atStart => exact ⟨0, rfl, by omega, by simpa using HW.out, HB0.out, hbww⟩
 case round =>
  obtain ⟨k, rfl, hk, hW, hB, hbw⟩ := hrel
  have HWk := Lib.hid hW
  have HBk := Lib.hid hB
  have hzr := hW.lt
  (have x0 := (HBk.out 0 (by simp)).1; have x1 := (HBk.out 1 (by simp)).1; have x2 := (HBk.out 2 (by simp)).1; have a0 := (HBk.out 0 (by simp)).2; have a1 := (HBk.out 1 (by simp)).2; have a2 := (HBk.out 2 (by simp)).2; simp only [List.getElem_cons_zero, List.getElem_cons_succ] at x0 x1 x2)
  clear hW hB
  by_cases hlt : k < N
  ·have hl : k < (List.replicate k blk ++ List.replicate (N - k) zc).length := by simp; omega
   obtain ⟨f1, f2, f3, f4⟩ := HWk.out.cells k hl
   have f := HWk.out.free (k * 4)
   have g := HWk.out.free (k * 4 + 1)
   have h := HWk.out.free (k * 4 + 2)
   have l := HWk.out.free (k * 4 + 3)
   have e1 : (0 : Int) ≤ k := by omega
   have e2 : (k : Int) < N := by omega
   have HS := Lib.hid (rep_set N k hlt)
   go_wp2_with (first | (go_at_call 51; refine (gblank_any _ _ _ _).mono ?_; rintro ee w2 ⟨rfl, hb2⟩; have HW2 := Lib.hid (HWk.out.up hb2); have HB2 := Lib.hid (HBk.out.up hb2); have hbw2 : Bw w w2 := Bw.trans hbw hb2; obtain ⟨p1, p2, p3, p4⟩ := HW2.out.cells k hl; have q1 := HW2.out.free (k * 4); have q2 := HW2.out.free (k * 4 + 1); have q3 := HW2.out.free (k * 4 + 2); have q4 := HW2.out.free (k * 4 + 3); clear f1 f2 f3 f4 f g h l hb2) | fail)
   go_roundw
   case rel =>
    refine ⟨k + 1, by go_num, by omega, ?_, (((HB2.out.away (by omega) _).away (by omega) _).away (by omega) _).away (by omega) _, BWX⟩
    rw [← HS.out]
    exact HW2.out.store k hl blk
   case measure => simp [intOf]; omega
  ·obtain rfl : k = N := by omega
   go_wp2_with fail
   refine bodyPost_ret (by simp [results, Tryd.results32, go_sem, x0, x1, x2, a0, a1, a2]; rfl) rfl ?_
   rw [HN.out]
   have hW := HWk.out
   rw [Nat.sub_self, List.replicate_zero, List.append_nil] at hW
   have hrg := fun (i j l : Nat) (a b c : Value) => ((hW.away (h := w.heap.size) (j := i) (by omega) a).away (h := w.heap.size) (j := j) (by omega) b).away (h := w.heap.size) (j := l) (by omega) c
   exact ⟨w.heap.size + 1, by rw [List.length_replicate], hrg _ _ _ _ _ _, by omega, BWX⟩

/-- row: the cells of a row, where they lie. -/
theorem row30_any (R : Int) (Cn n c g o i p : Nat) (w : World) (hp : (i : Int) * (Cn : Int) = (p : Int)) (hpn : p + Cn ≤ n) (hn : n ≤ c) (hC1 : 1 ≤ Cn) (hi : i ≤ 1000) (hcn : Cn ≤ 1000) (hc : c ≤ 9223372036854775807) :
  Calls Tryd.prog 34 #[.agg #[.int .i64 R, .int .i64 (Cn : Int), .slice (some ⟨g, o, none⟩) n c], .int .i64 (i : Int)] w fun e w' => e = .returned (.slice (some ⟨g, o + p * 4, none⟩) Cn (c - p)) ∧ Bw w w' := by
 have hp2 : ((i : Int) + 1) * (Cn : Int) = ((p + Cn : Nat) : Int) := by rw [Int.add_mul, hp]; omega
 have hb1 : (0 : Int) ≤ (p : Int) := by omega
 have hb2 : ((p : Nat) : Int) ≤ ((p + Cn : Nat) : Int) := by omega
 have hb3 : ((p + Cn : Nat) : Int) ≤ (c : Int) := by omega
 obtain ⟨p2, hpp⟩ : ∃ p2, p2 = p + Cn := ⟨_, rfl⟩
 rw [← hpp] at hp2 hb2 hb3
 have hpn2 : p2 ≤ n := by omega
 have hpc : p < c := by omega
 have hpl : p < p2 := by omega
 have hpd : p2 - p = Cn := by omega
 have HPD := Lib.hid hpd
 obtain ⟨j0, hj, hj0, hj1, hj2⟩ := info_parts infoC
 clear hpp hpd
 go_enter Tryd.func34, Tryd.ntmps34
 go_wp2_with fail
 go_ret
 exact ⟨by rw [HPD.out]; rfl, BWX⟩

/-- The runes of cells p, .., p + k - 1 put in. -/
def putU (f : Nat → Int) (p : Nat) : Nat → List C4 → List C4
 | 0, cs => cs
 | k + 1, cs => (putU f p k cs).set (p + k) (f k, ((putU f p k cs).getD (p + k) blk).2)
/-- The flags of cells p, .., p + k - 1 put in. -/
def putV (fl : Int) (p : Nat) : Nat → List C4 → List C4
 | 0, cs => cs
 | k + 1, cs => (putV fl p k cs).set (p + k) (((putV fl p k cs).getD (p + k) blk).1, fl, ((putV fl p k cs).getD (p + k) blk).2.2)
theorem putU_len (f : Nat → Int) (p : Nat) (cs : List C4) : ∀ k, (putU f p k cs).length = cs.length
 | 0 => rfl
 | k + 1 => by unfold putU; rw [List.length_set, putU_len f p cs k]
theorem putV_len (fl : Int) (p : Nat) (cs : List C4) : ∀ k, (putV fl p k cs).length = cs.length
 | 0 => rfl
 | k + 1 => by unfold putV; rw [List.length_set, putV_len fl p cs k]
theorem putU_at (f : Nat → Int) (p : Nat) (cs : List C4) : ∀ k, p + k ≤ cs.length → ∀ j, (putU f p k cs).getD j blk = if p ≤ j ∧ j < p + k then (f (j - p), (cs.getD j blk).2) else cs.getD j blk
 | 0, _, j => by rw [if_neg (by omega)]; rfl
 | k + 1, h, j => by
  have ih := putU_at f p cs k (by omega)
  unfold putU
  rw [ih (p + k), if_neg (by omega), List.getD_eq_getElem?_getD, List.getElem?_set]
  by_cases hj : p + k = j
  ·subst hj
   rw [if_pos rfl, if_pos (by rw [putU_len]; omega), if_pos (by omega), Option.getD_some, Nat.add_sub_cancel_left]
  ·rw [if_neg hj, ← List.getD_eq_getElem?_getD, ih j]
   by_cases h2 : p ≤ j ∧ j < p + k
   ·rw [if_pos h2, if_pos (by omega)]
   ·rw [if_neg h2, if_neg (by omega)]
theorem putV_at (fl : Int) (p : Nat) (cs : List C4) : ∀ k, p + k ≤ cs.length → ∀ j, (putV fl p k cs).getD j blk = if p ≤ j ∧ j < p + k then ((cs.getD j blk).1, fl, (cs.getD j blk).2.2) else cs.getD j blk
 | 0, _, j => by rw [if_neg (by omega)]; rfl
 | k + 1, h, j => by
  have ih := putV_at fl p cs k (by omega)
  unfold putV
  rw [ih (p + k), if_neg (by omega), List.getD_eq_getElem?_getD, List.getElem?_set]
  by_cases hj : p + k = j
  ·subst hj
   rw [if_pos rfl, if_pos (by rw [putV_len]; omega), if_pos (by omega), Option.getD_some]
  ·rw [if_neg hj, ← List.getD_eq_getElem?_getD, ih j]
   by_cases h2 : p ≤ j ∧ j < p + k
   ·rw [if_pos h2, if_pos (by omega)]
   ·rw [if_neg h2, if_neg (by omega)]
theorem flat_setU : ∀ (cs : List C4) (k : Nat) (x : Int), k < cs.length → (flat cs).set (k * 4) (.int .i64 x) = flat (cs.set k (x, (cs.getD k blk).2))
 | [], k, x, h => by simp at h
 | y :: ys, 0, x, h => by rw [flat_cons]; rfl
 | y :: ys, k + 1, x, h => by
  rw [flat_cons, List.set_cons_succ, flat_cons, show (y :: ys).getD (k + 1) blk = ys.getD k blk from rfl, ← flat_setU ys k x (by simpa using h), show (k + 1) * 4 = 4 + k * 4 by omega]
  simp [c4L, Nat.add_comm 4]
theorem flat_setV : ∀ (cs : List C4) (k : Nat) (x : Int), k < cs.length → (flat cs).set (k * 4 + 1) (.int .i64 x) = flat (cs.set k ((cs.getD k blk).1, x, (cs.getD k blk).2.2))
 | [], k, x, h => by simp at h
 | y :: ys, 0, x, h => by rw [flat_cons]; rfl
 | y :: ys, k + 1, x, h => by
  rw [flat_cons, List.set_cons_succ, flat_cons, show (y :: ys).getD (k + 1) blk = ys.getD k blk from rfl, ← flat_setV ys k x (by simpa using h), show (k + 1) * 4 + 1 = 4 + (k * 4 + 1) by omega]
  simp [c4L, Nat.add_comm 4]
theorem Wb.putU1 {w : World} {g : Nat} {f : Nat → Int} {p k : Nat} {cs : List C4} (h : Wb w g (putU f p k cs)) (hk : p + k < cs.length) : Wb (w.setCell ⟨g, (p + k) * 4, none⟩ (.int .i64 (f k))) g (putU f p (k + 1) cs) := by
 unfold Wb
 rw [putU, ← flat_setU _ _ _ (by rw [putU_len]; exact hk)]
 exact block_set h _
theorem Wb.putV1 {w : World} {g : Nat} {fl : Int} {p k : Nat} {cs : List C4} (h : Wb w g (putV fl p k cs)) (hk : p + k < cs.length) : Wb (w.setCell ⟨g, (p + k) * 4 + 1, none⟩ (.int .i64 fl)) g (putV fl p (k + 1) cs) := by
 unfold Wb
 rw [putV, ← flat_setV _ _ _ (by rw [putV_len]; exact hk)]
 exact block_set h _
end Go.Proofs.YtmkpefielfinjaaDoor
