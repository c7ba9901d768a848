/- Parts of the proof, one after the other. -/
import Derived.Test.YtkflooljdopldaaGreatU40
import Derived.Laws.CopyRow
set_option linter.unusedSimpArgs false
set_option linter.unusedVariables false
/- The program's Fill, at whatever arguments. -/
namespace Go.Proofs.YtkflooljdopldaaGreat
open Go.RowKit

set_option maxRecDepth 100000 in
set_option maxHeartbeats 4000000 in
theorem gfill_any (R C : Int) (A : Option Addr) (n c : Nat) (cs : List C4) (row fr tt d1 d2 d3 d4 : Int) (w : World) (hr : Rg w A n cs) (hn : n ≤ c) (hn3 : n ≤ 4398046511103) (hc : c ≤ 9223372036854775807) :
  Calls Tryz.prog 56 #[.agg #[.int .i64 R, .int .i64 C, .slice A n c], .int .i64 row, .int .i64 fr, .int .i64 tt, .agg #[.int .i64 d1, .int .i64 d2, .int .i64 d3, .int .i64 d4]] w (GrN w R C (fillG R C cs row fr tt (d1, d2, d3, d4))) := by
 have HR := Lib.hid hr
 clear hr
 go_enter Tryz.func56, Tryz.ntmps56
 go_upto_region 1 with (fail)
 generalize hw6 : (((((w.alloc (.cells #[.int .i64 R, .int .i64 C, .slice A n c] 26)).alloc (.cells #[.int .i64 row] 3)).alloc (.cells #[.int .i64 fr] 3)).alloc (.cells #[.int .i64 tt] 3)).alloc (.cells #[.int .i64 d1, .int .i64 d2, .int .i64 d3, .int .i64 d4] 53)).alloc _ = w6
 have hbw : Bw w w6 := by rw [← hw6]; exact BWX
 have y0 : w6.cell? ⟨w.heap.size + 1, 0, none⟩ = some (.int .i64 row) := by rw [← hw6]; exact CELX
 have y1 : w6.cell? ⟨w.heap.size, 0, none⟩ = some (.int .i64 R) := by rw [← hw6]; exact CELX
 have y2 : w6.cell? ⟨w.heap.size, 1, none⟩ = some (.int .i64 C) := by rw [← hw6]; exact CELX
 have y2' : w6.cell? ⟨w.heap.size, 2, none⟩ = some (.slice A n c) := by rw [← hw6]; exact CELX
 have y3 : w6.cell? ⟨w.heap.size + 1 + 1, 0, none⟩ = some (.int .i64 fr) := by rw [← hw6]; exact CELX
 have y4 : w6.cell? ⟨w.heap.size + 1 + 1 + 1, 0, none⟩ = some (.int .i64 tt) := by rw [← hw6]; exact CELX
 have y5 : w6.cell? ⟨w.heap.size + 1 + 1 + 1 + 1, 0, none⟩ = some (.int .i64 d1) := by rw [← hw6]; exact CELX
 have y6 : w6.cell? ⟨w.heap.size + 1 + 1 + 1 + 1, 1, none⟩ = some (.int .i64 d2) := by rw [← hw6]; exact CELX
 have y7 : w6.cell? ⟨w.heap.size + 1 + 1 + 1 + 1, 2, none⟩ = some (.int .i64 d3) := by rw [← hw6]; exact CELX
 have y8 : w6.cell? ⟨w.heap.size + 1 + 1 + 1 + 1, 3, none⟩ = some (.int .i64 d4) := by rw [← hw6]; exact CELX
 have HB := Lib.hid (show ∃ old, Sb w6 (w.heap.size + 1 + 1 + 1 + 1 + 1) old 26 ∧ old.size = 3 from by rw [← hw6]; exact ⟨_, heap_at (by simp), rfl⟩)
 have hz6 : w.heap.size + 1 + 1 + 1 + 1 + 1 < w6.heap.size := by rw [← hw6]; simp
 clear hw6
 go_wp2_with (first
  | (go_at_call 69; refine (gchangefill_ok R C A n c cs row fr tt d1 d2 d3 d4 (w.heap.size + 1) w.heap.size (w.heap.size + 1 + 1) (w.heap.size + 1 + 1 + 1) (w.heap.size + 1 + 1 + 1 + 1) w6 (HR.out.up hbw) hn hn3 hc y0 y1 y2 y3 y4 y5 y6 y7 y8).mono ?_; rintro ee w7 ⟨A', n', c', rfl, hRg, hn', hc', hnew, hb7⟩; have HRg := Lib.hid hRg; have HB7 := Lib.hid hb7; have hlt := Lib.hid hRg.1; clear hRg hb7)
  | ((with_reducible refine wpList_store_gr R C A' n' c' (w.heap.size + 1 + 1 + 1 + 1 + 1) (.tmp 10) (.tmp 14) rfl rfl ?_ ?_ ?_ ?_); (focus rfl); (focus rfl); (focus (exact Exists.elim HB.out (fun old h => ⟨old, h.1.up HB7.out, h.2⟩))); intro w8 hS8 hg8; have HS8 := Lib.hid hS8; have HG8 := Lib.hid hg8; clear hS8 hg8)
  | fail)
 refine bodyPost_ret (results_gr rfl _ _ (w.heap.size + 1 + 1 + 1 + 1 + 1) R C A' n' c' (by rfl) HS8.out) rfl ?_
 have hz := hbw.size
 exact ⟨A', n', c', rfl, HRg.out.far HG8.out (fun ad e e2 => by have := hnew ad e; have e3 := Option.some.inj e2; omega), hn', hc', (fun ad e => by have := hnew ad e; omega), Bw.grown (Bw.trans hbw HB7.out) HG8.out (fun k hk => by cases hk; omega)⟩
end Go.Proofs.YtkflooljdopldaaGreat

/- The program's slide: copies of elements of any size. -/
namespace Go.Proofs.YtkflooljdopldaaGreat
open Go.RowKit

theorem run_copy_rowS {P : Program} (w : World) (dT sT ty elem : TypeId) (g o dLen dCap : Nat) (a : Addr) (sLen sCap : Nat) (cur : Array Value) (t : TypeId) (cs : List Value) (sz : Nat)
  (hu : P.underlying dT = some (.slice elem)) (hs : (P.info? elem).map (·.size) = some sz)
  (hg : w.heap[g]? = some (.cells cur t (0, 0))) (hn : cs.length = Nat.min sLen dLen * sz)
  (hsrc : ∀ j v, cs[j]? = some v → w.cell? (a.add j) = some v) (hfit : o + cs.length ≤ cur.size) (h1 : ∀ v ∈ cs, v.oneCell' = true) :
  (Builtin.copy_ #[dT, sT] ty #[.slice (some ⟨g, o, none⟩) dLen dCap, .slice (some a) sLen sCap]).run P w =
   .ok (goInt (Nat.min sLen dLen)) (w.setRow g (cur.toList.take o ++ cs ++ cur.toList.drop (o + cs.length)).toArray) := by
 have hf := run_firstCells_some (P := P) w sz (Nat.min sLen dLen) a sLen sCap cs hn hsrc
 have hst := run_storeCells_at P g o t cs 0 cur w hg (by simpa using hfit) h1
 cases hq : P.info? elem with
 | none => simp [hq] at hs
 | some i =>
  have hi : i.size = sz := by simpa [hq] using hs
  simp [Builtin.copy_, run_underlying hu, Builtin.lenOf, sizeOf, typeInfo, hq, hi]
  rw [hf]
  simp [hst]
theorem wpList_copyS {P : Program} {w : World} {ops : Array Oper} {rest : List Oper} {o : Oper} {a : Act} {Q : Exit → Act → World → Prop} (hgd : o.guard = none) (d s : Operand) (dT sT : TypeId)
  (ho : o.op = .call { callee := .builtin .copy, args := #[d, s], argTypes := #[dT, sT] }) (elem : TypeId) (sz : Nat) (hu : P.underlying dT = some (.slice elem)) (hsz : (P.info? elem).map (·.size) = some sz)
  (g off dLen dCap : Nat) (ad : Addr) (sLen sCap : Nat) (hd : a.eval d = .slice (some ⟨g, off, none⟩) dLen dCap) (hs : a.eval s = .slice (some ad) sLen sCap)
  (cur : Array Value) (t : TypeId) (hg : w.heap[g]? = some (.cells cur t (0, 0))) (cs : List Value) (hn : cs.length = Nat.min sLen dLen * sz)
  (hsrc : ∀ j v, cs[j]? = some v → w.cell? (ad.add j) = some v) (hfit : off + cs.length ≤ cur.size) (h1 : ∀ v ∈ cs, v.oneCell' = true)
  (h : ∀ w', w'.heap[g]? = some (.cells (cur.toList.take off ++ cs ++ cur.toList.drop (off + cs.length)).toArray t (0, 0)) → w.grownBy w' (some g) → wpList P ops Q rest (a.put o.dst (goInt (Nat.min sLen dLen))) w') : wpList P ops Q (o :: rest) a w := by
 refine wpList_plain hgd fun K hK => ?_
 have hrun := run_copy_rowS (P := P) w dT sT o.type elem g off dLen dCap ad sLen sCap cur t cs sz hu hsz hg hn hsrc hfit h1
 unfold Oper.wp
 unfold execOp
 simp only [ho, resolve, invoke, builtin, Sem.run_bind, Sem.run_pure, Result.andThen_ok, List.map_toArray, List.map_cons, List.map_nil, hd, hs, hrun]
 exact hK _ _ (h _ (setRow_heap w g _ _ t _ hg) ⟨rfl, rfl, rfl, by simp [World.setRow], fun k hk hne => setRow_other w g k _ (fun e => hne (by rw [e]))⟩)
/-- Cells copied within a row: those from p on, q of them, to place k. -/
def movC (cs : List C4) (k p q : Nat) : List C4 := cs.take k ++ (cs.drop p).take q ++ cs.drop (k + q)
theorem movC_len {cs : List C4} {k p q : Nat} (h1 : k + q ≤ cs.length) (h2 : p + q ≤ cs.length) : (movC cs k p q).length = cs.length := by
 unfold movC
 simp only [List.length_append, List.length_take, List.length_drop]
 omega
theorem flat_take : ∀ (cs : List C4) (k : Nat), flat (cs.take k) = (flat cs).take (k * 4)
 | [], k => by simp [flat]
 | c :: cs, 0 => by simp [flat]
 | c :: cs, k + 1 => by
  rw [List.take_succ_cons, flat_cons, flat_cons, flat_take cs k, show (k + 1) * 4 = k * 4 + 1 + 1 + 1 + 1 by omega]
  rfl
theorem flat_drop : ∀ (cs : List C4) (k : Nat), flat (cs.drop k) = (flat cs).drop (k * 4)
 | [], k => by simp [flat]
 | c :: cs, 0 => by simp
 | c :: cs, k + 1 => by
  rw [List.drop_succ_cons, flat_cons, flat_drop cs k, show (k + 1) * 4 = k * 4 + 1 + 1 + 1 + 1 by omega]
  rfl
theorem Wc.moved {w' : World} {g : Nat} {cs : List C4} {sp : List Value} {k p q : Nat} (h1 : k + q ≤ cs.length) (h2 : p + q ≤ cs.length)
  (h : w'.heap[g]? = some (.cells ((flat cs ++ sp).toArray.toList.take (k * 4) ++ flat ((cs.drop p).take q) ++ (flat cs ++ sp).toArray.toList.drop (k * 4 + (flat ((cs.drop p).take q)).length)).toArray 53 (0, 0))) : Wc w' g (movC cs k p q) sp := by
 have hq : ((cs.drop p).take q).length = q := by simp only [List.length_take, List.length_drop]; omega
 unfold Wc
 rw [h, flat_len, hq]
 have e : flat (movC cs k p q) = (flat cs).take (k * 4) ++ flat ((cs.drop p).take q) ++ (flat cs).drop ((k + q) * 4) := by
  unfold movC
  rw [flat_app, flat_app, flat_take cs k, flat_drop cs (k + q)]
 rw [e]
 simp only [List.toList_toArray]
 rw [List.take_append_of_le_length (by rw [flat_len]; omega), show k * 4 + q * 4 = (k + q) * 4 by omega, List.drop_append_of_le_length (by rw [flat_len]; omega)]
 simp
end Go.Proofs.YtkflooljdopldaaGreat

/- The program's slide: the plain law. -/
namespace Go.Proofs.YtkflooljdopldaaGreat
open Go.RowKit

/-- The cells a .. a + n - 1 moved to the front by num (to the back by -num), the places left filled with d. -/
def slideC (cs : List C4) (a n : Nat) (num : Int) (d : C4) : List C4 := (List.range cs.length).map fun (i : Nat) => if (a : Int) ≤ i ∧ (i : Int) < a + n then (if (a : Int) ≤ i + num ∧ (i : Int) + num < a + n then cs.getD ((i : Int) + num).toNat d else d) else cs.getD i d
/-- The cells s .. s + i - 1 are d. -/
def fillL (cs : List C4) (s i : Nat) (d : C4) : List C4 := (List.range cs.length).map fun j => if s ≤ j ∧ j < s + i then d else cs.getD j d
theorem fillL_len (cs : List C4) (s i : Nat) (d : C4) : (fillL cs s i d).length = cs.length := by simp [fillL]
theorem slideC_len (cs : List C4) (a n : Nat) (num : Int) (d : C4) : (slideC cs a n num d).length = cs.length := by simp [slideC]
theorem fillL_0 (cs : List C4) (s : Nat) (d : C4) : fillL cs s 0 d = cs := by
 refine List.ext_getElem (fillL_len _ _ _ _) (fun i h1 h2 => ?_)
 simp only [fillL, List.getElem_map, List.getElem_range]
 rw [if_neg (by omega), List.getD_eq_getElem?_getD, List.getElem?_eq_getElem h2]
 rfl
theorem fillL_step {cs : List C4} {s i : Nat} {d : C4} : (fillL cs s i d).set (s + i) d = fillL cs s (i + 1) d := by
 refine List.ext_getElem (by rw [List.length_set, fillL_len, fillL_len]) (fun j h1 h2 => ?_)
 rw [List.getElem_set]
 simp only [fillL, List.getElem_map, List.getElem_range]
 by_cases h : s + i = j
 ·rw [if_pos h, if_pos (by omega)]
 ·rw [if_neg h]
  by_cases h3 : s ≤ j ∧ j < s + i
  ·rw [if_pos h3, if_pos (by omega)]
  ·rw [if_neg h3, if_neg (by omega)]
theorem movC_get {cs : List C4} {k p q : Nat} (h1 : k + q ≤ cs.length) (h2 : p + q ≤ cs.length) (i : Nat) (d : C4) : (movC cs k p q).getD i d = if k ≤ i ∧ i < k + q then cs.getD (p + (i - k)) d else cs.getD i d := by
 unfold movC
 simp only [List.getD_eq_getElem?_getD]
 by_cases ha : i < k
 ·rw [if_neg (by omega), List.append_assoc, List.getElem?_append_left (by simp; omega), List.getElem?_take, if_pos ha]
 ·by_cases hb : i < k + q
  ·rw [if_pos (by omega), List.append_assoc, List.getElem?_append_right (by simp; omega), List.getElem?_append_left (by simp; omega), List.getElem?_take, List.getElem?_drop]
   have e : i - (List.take k cs).length = i - k := by simp; omega
   rw [e, if_pos (by omega)]
  ·rw [if_neg (by omega), List.getElem?_append_right (by simp; omega), List.getElem?_drop]
   congr 2
   simp
   omega
theorem slide_pos {cs : List C4} {a n q : Nat} {d : C4} (h : a + n ≤ cs.length) (hq : q ≤ n) : fillL (movC cs a (a + q) (n - q)) (a + (n - q)) q d = slideC cs a n (q : Int) d := by
 have hl := movC_len (cs := cs) (k := a) (p := a + q) (q := n - q) (by omega) (by omega)
 refine List.ext_getElem (by rw [fillL_len, slideC_len, hl]) (fun i h1 h2 => ?_)
 simp only [fillL, slideC, List.getElem_map, List.getElem_range]
 rw [movC_get (by omega) (by omega)]
 by_cases h3 : a + (n - q) ≤ i ∧ i < a + (n - q) + q
 ·rw [if_pos h3, if_pos (by omega), if_neg (by omega)]
 ·rw [if_neg h3]
  by_cases h4 : a ≤ i ∧ i < a + (n - q)
  ·rw [if_pos h4, if_pos (by omega), if_pos (by omega)]
   congr 1
   omega
  ·rw [if_neg h4, if_neg (by omega)]
theorem slide_neg {cs : List C4} {a n q : Nat} {d : C4} (h : a + n ≤ cs.length) (hq : q ≤ n) : fillL (movC cs (a + q) a (n - q)) a q d = slideC cs a n (-(q : Int)) d := by
 have hl := movC_len (cs := cs) (k := a + q) (p := a) (q := n - q) (by omega) (by omega)
 refine List.ext_getElem (by rw [fillL_len, slideC_len, hl]) (fun i h1 h2 => ?_)
 simp only [fillL, slideC, List.getElem_map, List.getElem_range]
 rw [movC_get (by omega) (by omega)]
 by_cases h3 : a ≤ i ∧ i < a + q
 ·rw [if_pos h3, if_pos (by omega), if_neg (by omega)]
 ·rw [if_neg h3]
  by_cases h4 : a + q ≤ i ∧ i < a + q + (n - q)
  ·rw [if_pos h4, if_pos (by omega), if_pos (by omega)]
   congr 1
   omega
  ·rw [if_neg h4, if_neg (by omega)]
end Go.Proofs.YtkflooljdopldaaGreat
