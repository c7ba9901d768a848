/- Attributes: the closure of Bytes that writes a parameter. -/
import Derived.Test.YtacekeobmijipaaDoorAtA
import Derived.Test.YtacekeobmijipaaDoorShelf
import Derived.OneCell
import Derived.Lib.OthersKept
set_option linter.unusedSimpArgs false
set_option linter.unusedVariables false
namespace Go.Proofs.YtacekeobmijipaaDoor
open Go.RowKit

theorem infoB : (Tryd.prog.info? 5).map (fun i => (i.zero, i.size, i.bytes)) = some (some (.int .u8 0), 1, 1) := by kernel_rfl
/-- What the table of powers reads as, whatever the call does at its own blocks. -/
def PowT (B : Nat) (w : World) : Prop := Lib.TabBelow Tryd.prog B w "internal/strconv.uint64pow10" .u64 Lib.pow10Tab
/-- Block b holds a slice that owns the cells xs. -/
def OutS (B b : Nat) (xs : List Value) (w : World) : Prop :=
  ∃ v, w.ownsRow B 5 1 v xs.length xs ∧ w.heap[b]? = some (.cells #[v] 27 (0, 0))
def OutP (B b : Nat) (xs : List Value) (w : World) (e : Ending) (w' : World) : Prop :=
  e = .returned (.tuple #[]) ∧ OutS B b xs w' ∧ Below B w w' ∧ Lib.OthersKept 5 (some b) w w'

theorem own_block {w : World} {B : Nat} {v : Value} {n : Nat} {xs : List Value} (h : w.ownsRow B 5 1 v n xs) : ∀ g, v.ownBlock = some g → ∃ c fz, w.heap[g]? = some (.cells c 5 fz) := by
  intro g hg
  rcases h.2 with ⟨rfl, -⟩ | ⟨g', cap, cur, rfl, _, hh, _⟩
  · simp [Value.ownBlock] at hg
  · simp [Value.ownBlock] at hg; subst hg; exact ⟨_, _, hh⟩
theorem own_away {w : World} {B b : Nat} {v u : Value} {n : Nat} {xs : List Value} (h : w.ownsRow B 5 1 v n xs) (hb : w.heap[b]? = some (.cells #[u] 27 (0, 0))) : v.ownBlock ≠ some b := by
  intro e
  obtain ⟨c, fz, hc⟩ := own_block h b e
  rw [hb] at hc
  simp at hc

set_option maxHeartbeats 1000000 in
theorem write_any (B b : Nat) (k : Int) (xs : List Value) (w : World) (hk : 0 ≤ k ∧ k ≤ 1000) (hx : xs.length ≤ 1000) (h : OutS B b xs w) (hB : B ≤ w.heap.size) (hBb : B ≤ b) (ht : PowT B w) :
    Calls Tryd.prog 19 #[.int .i64 k, .pointer (some ⟨b, 0, none⟩)] w (OutP B b (xs ++ .int .u8 59 :: Lib.byteCells (Lib.itoa k)) w) := by
  obtain ⟨v, hown, hb⟩ := h
  obtain ⟨A0, k0, rfl, hk0, hk0m⟩ := own_form hown
  obtain ⟨i0, hi, hz0, hz1, hz2⟩ := info_parts infoB
  have hbl := lt_of_block hb
  have c0 := cell_of_one hb
  have f0 := free_of_one hb
  obtain ⟨n, hn⟩ : ∃ n, xs.length = n := ⟨_, rfl⟩
  rw [hn] at hx
  have HO := Lib.hid (show w.ownsRow B 5 1 (.slice A0 n k0) n xs by rw [← hn]; exact hown)
  rw [hn] at hb hk0 c0
  have HB := Lib.hid hb
  have HT := Lib.hid ht
  have HN := Lib.hid hn
  clear hown hb ht hn
  go_enter Tryd.func19, Tryd.ntmps19
  go_wp2_with (first
    | (at_builtin; refine wpList_append_srcG (by rfl) (.tmp 3) (.tmp 4) 27 rfl B 5 i0 (.int .u8 0) 1 1 Tryd.underlying27 hi hz0 hz1 hz2 rfl (by decide) (.slice A0 n k0) n xs (by rfl) (HO.out.alloc _) (some ⟨w.heap.size, 0, none⟩) 1 1 [.int .u8 59] (by rfl) rfl (fun e => by cases e) (fun ad e => by cases e; exact cell_one_new _ _ _) (by simp; rfl) (by unfold maxLen; omega) (by omega) (by (first | omega | (simp only [szA, szS, szD, szN, plus_size, Array.size_append] <;> omega))) ?_; intro v1 w1 hown1 hg1; obtain ⟨A1, k1, rfl, hk1, hk1m⟩ := own_form hown1; have ok1 : Lib.OthersKept 5 none w w1 := ((Lib.OthersKept.refl 5 none w).alloc _).grown hg1 (own_block (HO.out.alloc _)); have hb1 : w1.heap[b]? = some (.cells #[.slice A0 n k0] 27 (0, 0)) := ok1 b _ HB.out (by simp) (by simp); have bel1 : Below B w w1 := Below.grown ((Below.refl B w).alloc hB _) hg1 (by (first | omega | (simp only [szA, szS, szD, szN, plus_size, Array.size_append] <;> omega))) (fun q hq => (HO.out.lt q hq).1); have c1 := cell_of_one hb1; have f1 := free_of_one hb1; have HB1 := Lib.hid hb1; have HO1 := Lib.hid hown1; have OK1 := Lib.hid ok1; have BE1 := Lib.hid bel1; clear hown1 hg1 hb1 ok1 bel1)
    | (go_at_call 20; refine (Tryd.strconv_AppendInt_10 B (n + 1) k (by omega) (by omega) _ (xs ++ [.int .u8 59]) _ (by exact ownsRow_setCell_other HO1.out (own_away HO1.out HB1.out) _) (by have := BE1.out.size; simp; omega) (by omega) (by exact HT.out.on (BE1.out.setCell hBb _))).mono ?_; rintro e w2 ⟨v2, rfl, hown2, hbel2, hok2⟩; obtain ⟨A2, k2, rfl, hk2, hk2m⟩ := own_form hown2; have hb2 := hok2 b _ (one_setCell HB1.out) (by simp) (by simp); have c2 := cell_of_one hb2; have f2 := free_of_one hb2; have HB2 := Lib.hid hb2; have HO2 := Lib.hid hown2; have OK2 := Lib.hid hok2; have BE2 := Lib.hid hbel2; clear hown2 hbel2 hok2 hb2)
    | fail)
  go_end0
  refine ⟨rfl, ⟨_, ?_, one_setCell HB2.out⟩, (((BE1.out.setCell hBb _).trans BE2.out).setCell hBb _), ?_⟩
  · have hl : (xs ++ Value.int .u8 59 :: Lib.byteCells (Lib.itoa k)).length = n + 1 + (Lib.itoa k).length := by
      rw [List.length_append, HN.out, List.length_cons]; unfold Lib.byteCells; rw [List.length_map]; omega
    rw [hl]
    have := ownsRow_setCell_other HO2.out (own_away HO2.out HB2.out) (a := ⟨b, 0, none⟩) (.slice A2 (n + 1 + (Lib.itoa k).length) k2)
    rw [List.append_assoc] at this
    exact this
  · refine Lib.OthersKept.setCell (Lib.OthersKept.trans (b := some b) (Lib.OthersKept.setCell (fun i o hi hb2 ho => OK1.out i o hi (by simp) ho) ⟨b, 0, none⟩ rfl _) (fun i o hi hb2 ho => OK2.out i o hi (by simp) ho)) ⟨b, 0, none⟩ rfl _
end Go.Proofs.YtacekeobmijipaaDoor
