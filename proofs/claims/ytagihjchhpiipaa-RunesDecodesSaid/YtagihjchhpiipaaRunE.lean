/- Walks of runes.Valid and runes.Decode. -/
import Derived.Test.YtagihjchhpiipaaRunC
import Derived.Test.YtagihjchhpiipaaRunD
import Derived.Deep.RegionHeld3
import Derived.Deep.AppendLies
import Derived.Deep.RegionLawGrows
import Derived.Deep.DeepCutAuto
import Derived.ArgAppend
set_option linter.unusedSimpArgs false
set_option linter.unusedVariables false
namespace Go.Proofs.Ytagihjchhpiipaa
open Go.RowKit

def validB (bs : List Int) : Bool := bs.isEmpty || beginB bs

theorem dvalid_any (A : Option Addr) (n cap : Nat) (bs : List Int) (w : World) (hr : Rd (.int .u8) w A n bs) (hn : n ≤ cap) (hc : cap ≤ 9223372036854775807) :
    Calls Try.prog 14 #[.agg #[.slice A n cap]] w fun e w' => e = .returned (.bool (validB bs)) ∧ w.alloc (.cells #[.slice A n cap] 29) = w' := by
  cases bs with
  | nil =>
    have h0 : n = 0 := hr.1.symm
    subst h0
    go_enter Try.func14, Try.ntmps14
    go_wp2
    go_ret
    exact ⟨rfl, rfl⟩
  | cons b t =>
    have hl : t.length + 1 = n := hr.1
    have e2 : ((n : Int) == 0) = false := by rw [beq_eq_false_iff_ne]; omega
    go_enter Try.func14, Try.ntmps14
    go_wp2_with (go_at_call 25; refine (begin_any _ _ _ (b :: t) _ (by exact hr.up (by repeat (first | with_reducible assumption | with_reducible exact Bw.refl _ | with_reducible refine Bw.alloc ?_ _ | with_reducible refine Bw.more ?_ _ _ | with_reducible refine Bw.drew ?_ | with_reducible refine Bw.drewN ?_ _ | ((with_reducible refine Bw.set2 ?_ ?_ _); (focus (first | omega | (simp only [szA, szS, szD, szN, plus_size, Array.size_append] <;> omega)))) | with_reducible refine Bw.trans ?_ (by with_reducible assumption)))) hn hc).mono ?_; rintro ee ww ⟨rfl, rfl⟩)
    go_ret
    exact ⟨ret_bool (by simp [validB]), rfl⟩

/-- What the bytes of a complete encoding stand for. -/
def valN : List Int → Int
  | [b] => b
  | [b, c] => b % 32 * 64 + c % 64
  | [b, c, d] => (b % 16 * 64 + c % 64) * 64 + d % 64
  | [b, c, d, x] => ((b % 8 * 64 + c % 64) * 64 + d % 64) * 64 + x % 64
  | _ => 0
def emit (v : Int) (x : List Int × List Int) : List Int × List Int := (x.1, v :: x.2)
/-- Decoding: what is left over, and the characters. -/
def dec : List Int → List Int → List Int × List Int
  | r, [] => (r, [])
  | r, b :: t =>
    if beginB (r ++ [b]) then dec (r ++ [b]) t
    else if completeB (r ++ [b]) then emit (valN (r ++ [b])) (dec [] t)
    else if r = [] then emit 65533 (dec [] t)
    else if beginB [b] then emit 65533 (dec [b] t)
    else if completeB [b] then emit 65533 (emit (valN [b]) (dec [] t))
    else emit 65533 (emit 65533 (dec [] t))
theorem dec_again {r : List Int} {b : Int} {t : List Int} (h1 : beginB (r ++ [b]) = false) (h2 : completeB (r ++ [b]) = false) (h3 : r ≠ []) : dec r (b :: t) = emit 65533 (dec [] (b :: t)) := by
  conv => lhs; unfold dec
  rw [h1, h2, if_neg (by simp), if_neg (by simp), if_neg h3]
  conv => rhs; unfold dec
  simp only [List.nil_append]
  repeat' split
  all_goals first | rfl | contradiction

theorem value_any (A : Option Addr) (n cap : Nat) (bs : List Int) (w : World) (hr : Rd (.int .u8) w A n bs) (hn : n ≤ cap) (hc : cap ≤ 9223372036854775807) (hb : ∀ x ∈ bs, 0 ≤ x ∧ x ≤ 255) (h1 : 1 ≤ n) (h4 : n ≤ 4) :
    Calls Try.prog 27 #[.slice A n cap] w fun e w' => e = .returned (.int .i64 (valN bs)) ∧ ∃ q, w' = w.drewN q := by
  obtain ⟨g, o, rfl, hx⟩ := hr.2 (by omega)
  have hl := hr.1
  match bs, hl, hx, hb with
  | [b], hl, hx, hb =>
    simp at hl; subst hl
    exact value1_any g o cap b w (hx 0 (by simp)) (hb b (by simp))
  | [b, c], hl, hx, hb =>
    simp at hl; subst hl
    exact value2_any g o cap b c w (hx 0 (by simp)) (hx 1 (by simp)) (hb b (by simp)) (hb c (by simp)) (by omega) hc
  | [b, c, d], hl, hx, hb =>
    simp at hl; subst hl
    exact value3_any g o cap b c d w (hx 0 (by simp)) (hx 1 (by simp)) (hx 2 (by simp)) (hb b (by simp)) (hb c (by simp)) (hb d (by simp)) (by omega) hc
  | [b, c, d, x], hl, hx, hb =>
    simp at hl; subst hl
    exact value4_any g o cap b c d x w (hx 0 (by simp)) (hx 1 (by simp)) (hx 2 (by simp)) (hx 3 (by simp)) (hb b (by simp)) (hb c (by simp)) (hb d (by simp)) (hb x (by simp)) (by omega) hc
  | [], hl, _, _ => simp at hl; omega
  | _ :: _ :: _ :: _ :: _ :: _, hl, _, _ => simp at hl; omega
end Go.Proofs.Ytagihjchhpiipaa
