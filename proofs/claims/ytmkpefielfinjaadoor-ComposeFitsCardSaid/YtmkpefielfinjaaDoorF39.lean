/- Parts of the proof, one after the other. -/
import Derived.Test.YtmkpefielfinjaaDoorF01
import Derived.Laws.BytesArg
import Derived.Lib.UnsafeStr
import Derived.Lib.ItoaNum
import Derived.Lib.ItoaLen
import Derived.Test.YtmkpefielfinjaaDoorF02
import Derived.Test.YtmkpefielfinjaaDoorShelf
import Derived.OneCell
import Derived.Lib.OthersKept
set_option linter.unusedSimpArgs false
set_option linter.unusedVariables false
/- Compose: the words of phases, on both sides. -/
namespace Go.Proofs.YtmkpefielfinjaaDoor
open Go.RowKit

/-- A list of bytes as a string. -/
def bs (l : List UInt8) : ByteArray := ⟨l.toArray⟩
/-- The words, by phase. -/
def wordL : List ByteArray := [⟨#[63]⟩, ⟨#[105, 100, 108, 101]⟩, ⟨#[115, 116, 97, 114, 116, 105, 110, 103]⟩, ⟨#[114, 117, 110, 110, 105, 110, 103]⟩, ⟨#[114, 101, 97, 100, 121]⟩, ⟨#[98, 97, 99, 107, 111, 102, 102]⟩, ⟨#[115, 116, 111, 112, 112, 105, 110, 103]⟩, ⟨#[101, 120, 105, 116, 101, 100]⟩, ⟨#[102, 97, 105, 108, 101, 100]⟩, ⟨#[104, 97, 108, 116, 101, 100]⟩]
def wordB (p : Int) : ByteArray := if p < 0 ∨ 10 ≤ p then ⟨#[63]⟩ else wordL.getD p.toNat ⟨#[63]⟩
/-- The program's table of words. -/
def WordT (w : World) : Prop := ∀ i, i < 10 → w.cell? ⟨0, i, none⟩ = some (.string (wordL.getD i ⟨#[63]⟩))
theorem WordT.up {w w' : World} (h : WordT w) (hb : Bw w w') : WordT w' := fun i hi => cell_bw hb (h i hi)
theorem wordB_size (p : Int) : (wordB p).size ≤ 8 ∧ 1 ≤ (wordB p).size := by
  unfold wordB
  split
  · exact ⟨by decide, by decide⟩
  · rename_i h
    obtain ⟨i, hi, hl⟩ : ∃ i : Nat, p.toNat = i ∧ i < 10 := ⟨_, rfl, by omega⟩
    rw [hi]
    match i, hl with
    | 0, _ => exact ⟨by decide, by decide⟩
    | 1, _ => exact ⟨by decide, by decide⟩
    | 2, _ => exact ⟨by decide, by decide⟩
    | 3, _ => exact ⟨by decide, by decide⟩
    | 4, _ => exact ⟨by decide, by decide⟩
    | 5, _ => exact ⟨by decide, by decide⟩
    | 6, _ => exact ⟨by decide, by decide⟩
    | 7, _ => exact ⟨by decide, by decide⟩
    | 8, _ => exact ⟨by decide, by decide⟩
    | 9, _ => exact ⟨by decide, by decide⟩

theorem word_any (p : Int) (w : World) (ht : WordT w) : Calls Tryd.prog 9 #[.int .i64 p] w fun e w' => e = .returned (.string (wordB p)) ∧ w = w' := by
  by_cases h0 : p < 0
  · have HE := Lib.hid (show wordB p = ⟨#[63]⟩ from if_pos (.inl h0))
    go_enter Tryd.func9, Tryd.ntmps9
    go_wp2
    go_ret
    exact ⟨by rw [HE.out]; rfl, rfl⟩
  by_cases h1 : 10 ≤ p
  · have HE := Lib.hid (show wordB p = ⟨#[63]⟩ from if_pos (.inr h1))
    go_enter Tryd.func9, Tryd.ntmps9
    go_wp2
    go_ret
    exact ⟨by rw [HE.out]; rfl, rfl⟩
  have hc := ht p.toNat (by omega)
  rw [show wordL.getD p.toNat ⟨#[63]⟩ = wordB p from (if_neg (by omega)).symm] at hc
  clear ht
  go_enter Tryd.func9, Tryd.ntmps9
  go_wp2
  go_ret
  exact ⟨rfl, rfl⟩

end Go.Proofs.YtmkpefielfinjaaDoor

/- Compose: the reference's decimal numbers. -/
namespace Go.Proofs.YtmkpefielfinjaaDoor
open Go.RowKit

theorem conv_bytes {w : World} {A : Option Addr} {n cap : Nat} {l : List UInt8} {zs : List Int} (hb : zs = l.map fun b => (b.toNat : Int)) (h : Rd (.int .u8) w A n zs) : (convert 48 9 (.slice A n cap)).run Tryd.prog w = .ok (.string (bs l)) w := by
  subst hb
  have e : strOfNums (l.map fun b => (b.toNat : Int)) = bs l := by
    unfold strOfNums bs
    congr 1
    congr 1
    rw [List.map_map]
    conv => rhs; rw [← List.map_id l]
    apply List.map_congr_left
    intro b _
    simp
  rw [← e]
  rcases Nat.eq_zero_or_pos n with h0 | h0
  · have hb : l = [] := List.eq_nil_of_length_eq_zero (by have := h.1; simpa [h0] using this)
    subst hb
    subst h0
    cases A with
    | none => exact run_convert_bytes_nil w _ _ Tryd.underlying48 Tryd.underlying5 _ _ _ Tryd.underlying9
    | some a =>
      rw [run_convert_bytes_string w _ _ _ _ _ _ Tryd.underlying48 Tryd.underlying5 Tryd.underlying9, run_bytesToString w a 0 cap [] (by kernel_rfl)]
      rfl
  · obtain ⟨g, o, rfl, hx⟩ := h.2 h0
    exact run_convert_bytes_arg w _ _ Tryd.underlying48 Tryd.underlying5 g o n cap _ h.1 (fun i hi => by have := hx i (by have := h.1; omega); simpa [List.getD_eq_getElem?_getD, show i < l.length by have := h.1; simp at this; omega] using this) _ Tryd.underlying9

theorem dig_small (n : Int) (h0 : 0 ≤ n) (h1 : n < 10) : Lib.itoa n = [UInt8.ofNat (48 + n.toNat)] := by
  unfold Lib.itoa
  rw [if_neg (by omega), Lib.decDigits]
  simp [show n.toNat < 10 by omega]
end Go.Proofs.YtmkpefielfinjaaDoor

/- Attributes: the closure of Bytes that writes a parameter. -/
namespace Go.Proofs.YtmkpefielfinjaaDoor
open Go.RowKit

theorem infoB : (Tryd.prog.info? 5).map (fun i => (i.zero, i.size, i.bytes)) = some (some (.int .u8 0), 1, 1) := by kernel_rfl
/-- What the table of powers reads as, whatever the call does at its own blocks. -/
def PowT (B : Nat) (w : World) : Prop := Lib.TabBelow Tryd.prog B w "internal/strconv.uint64pow10" .u64 Lib.pow10Tab
end Go.Proofs.YtmkpefielfinjaaDoor
