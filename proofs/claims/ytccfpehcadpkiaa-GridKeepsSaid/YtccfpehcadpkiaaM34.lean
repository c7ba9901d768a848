/- Parts of the proof, one after the other. -/
import Derived.Test.YtccfpehcadpkiaaM23
import Derived.Test.YtccfpehcadpkiaaM33
import Derived.Test.YtccfpehcadpkiaaM21
import Derived.Test.YtccfpehcadpkiaaM19
set_option linter.unusedSimpArgs false
set_option linter.unusedVariables false
/- Chapter 16's laws: the grid that a terminal made. -/
namespace Go.Proofs.Ytccfpehcadpkiaa
open Go.RowKit

/-- The call returns a valid grid of at most 5 rows and 9 columns, in new memory. -/
def GrM (w : World) (e : Ending) (w' : World) : Prop :=
  ∃ (Rn Cn : Nat) (A : Option Addr) (n c : Nat) (cs : List C4), e = .returned (.agg #[.int .i64 (Rn : Int), .int .i64 (Cn : Int), .slice A n c]) ∧ (1 ≤ Rn ∧ Rn ≤ 5 ∧ 1 ≤ Cn ∧ Cn ≤ 9) ∧ n = Rn * Cn ∧ Rg w' A n cs ∧ gridB Rn Cn cs = true ∧ n ≤ c ∧ c ≤ 9223372036854775807 ∧ (∀ ad, A = some ad → w.heap.size ≤ ad.block) ∧ Bw w w'

theorem field_ts (t : Trm) (w : World) : (Instr.field 65 (.agg t.vals.toArray) 0).run Try.prog w = .ok (.agg t.s.vals.toArray) w := by
  cases t
  kernel_rfl
theorem field_sg (s : Scr) (w : World) : (Instr.field 57 (.agg s.vals.toArray) 0).run Try.prog w = .ok (.agg (grV s.Rn s.Cn s.A s.n s.c)) w := by
  cases s
  kernel_rfl
theorem wpList_fieldV {P : Program} {w : World} {ops : Array Oper} {rest : List Oper} {o : Oper} {a : Act} {Q : Exit → Act → World → Prop} (T : TypeId) (i : Nat) (x : Operand) (v r : Value) (ho : o.op = .field T x i) (hgd : o.guard = none)
    (hx : a.eval x = v) (hrun : (Instr.field T v i).run P w = .ok r w) (h : wpList P ops Q rest (a.put o.dst r) w) : wpList P ops Q (o :: rest) a w := by
  refine wpList_plain hgd fun K hK => ?_
  unfold Oper.wp
  unfold execOp
  simp only [ho, hx, Sem.run_bind, Sem.run_pure, hrun, Result.andThen_ok]
  exact hK _ _ h

set_option maxRecDepth 100000 in
set_option maxHeartbeats 4000000 in
theorem made16_any (A : Option Addr) (n c : Nat) (xs : List Int) (w : World) (hr : RdI w A n xs) (hA : 0 < n → ∀ ad, A = some ad → ad.block < w.heap.size) (hn : n ≤ 9223372036854775807) : Calls Try.prog 9 #[.slice A n c] w (GrM w) := by
  have HR := Lib.hid hr
  have HA := Lib.hid hA
  clear hr hA
  go_enter Try.func9, Try.ntmps9
  go_upto_region 2 with (first
    | (go_at_call 30; refine (mnew_any A n c _).mono ?_; rintro ee w1 ⟨rfl, rfl⟩)
    | fail)
  obtain ⟨w1, hw1⟩ : ∃ w1, w.alloc (.cells #[.int .i64 0, .int .i64 0, .slice none 0 0] 25) = w1 := ⟨_, rfl⟩
  rw [hw1]
  obtain ⟨hb0, hbw, hz⟩ := sb1 hw1
  have HB0 := Lib.hid hb0
  have HBW := Lib.hid hbw
  have HZ := Lib.hid hz
  have hD := (Dk2.made (c := c) (HR.out.up (fun hz ad e => HA.out hz ad e) hbw) (fun h0 ad e => by have := HA.out h0 ad e; omega) hn)
  rw [hz] at hD
  have HD := Lib.hid hD
  clear hD
  clear hw1 hb0 hbw hz
  go_wp2_with (first
    | (go_at_call 31; refine (mterm_dk (w.heap.size + 1) A n c xs _ HD.out).mono ?_; rintro ee w2 ⟨t, rfl, hOk, hsz, hnew, hD2, hg2⟩; have HOk := Lib.hid hOk.1.1; have HSZ := Lib.hid hsz; have HNEW := Lib.hid hnew; have HG2 := Lib.hid hg2; clear hOk hsz hnew hD2 hg2)
    | ((with_reducible refine wpList_fieldV 65 0 (.tmp 7) (.agg t.vals.toArray) (.agg t.s.vals.toArray) rfl rfl ?_ (field_ts t _) ?_); (focus rfl))
    | ((with_reducible refine wpList_fieldV 57 0 (.tmp 8) (.agg t.s.vals.toArray) (.agg (grV t.s.Rn t.s.Cn t.s.A t.s.n t.s.c)) rfl rfl ?_ (field_sg t.s _) ?_); (focus rfl))
    | ((with_reducible refine wpList_store_gr (t.s.Rn : Int) (t.s.Cn : Int) t.s.A t.s.n t.s.c w.heap.size (.tmp 2) (.tmp 9) rfl rfl ?_ ?_ ?_ ?_); (focus rfl); (focus rfl); (focus (exact ⟨_, ((HB0.out.up (show Bw w1 (w1.alloc _) from BWX)).far HG2.out (by intro e; have := Option.some.inj e; have := HZ.out; omega)), rfl⟩)); intro w4 hS4 hg4; have HS4 := Lib.hid hS4; have HG4 := Lib.hid hg4; clear hS4 hg4)
    | fail)
  refine bodyPost_ret (results_gr rfl _ _ w.heap.size (t.s.Rn : Int) (t.s.Cn : Int) t.s.A t.s.n t.s.c (by rfl) HS4.out) rfl ?_
  obtain ⟨p1, p2, p3, p4, p5, p6, p7, cs, p8, p9⟩ := HOk.out
  have hz := HZ.out
  have hne : ∀ ad, t.s.A = some ad → ad.block ≠ w.heap.size := fun ad e => by have := HNEW.out ad e; simp only [szA] at this; omega
  have hbw2 : Bw w w2 := Bw.grown (Bw.trans HBW.out (show Bw w1 (w1.alloc _) from BWX)) HG2.out (fun k hk => by cases hk; omega)
  exact ⟨t.s.Rn, t.s.Cn, t.s.A, t.s.n, t.s.c, cs, rfl, HSZ.out, p5, p8.far HG4.out (fun ad e e2 => hne ad e (Option.some.inj e2)), p9, p6, p7, fun ad e => by have := HNEW.out ad e; simp only [szA] at this; omega, Bw.grown hbw2 HG4.out (fun k hk => by cases hk; exact Nat.le_refl _)⟩
end Go.Proofs.Ytccfpehcadpkiaa

/- Resize: the cells that it makes (plain); copies within drawn regions. -/
namespace Go.Proofs.Ytccfpehcadpkiaa
open Go.RowKit

/-- A cell of a grid in another size. -/
def resF (Rn Cn : Nat) (cs : List C4) (r k : Nat) : C4 := atF Rn Cn cs r k blk
def rsR (R C : Int) (cs : List C4) (rows : Int) : Int := if gridB R C cs = true then clamp rows 30 else R
def rsC (R C : Int) (cs : List C4) (cols : Int) : Int := if gridB R C cs = true then clamp cols 100 else C
def rsG (R C : Int) (cs : List C4) (rows cols : Int) : List C4 := if gridB R C cs = true then tab (clamp rows 30).toNat (clamp cols 100).toNat (resF R.toNat C.toNat cs) else cs
def rowsTo (R' C' m : Nat) (F : Nat → Nat → C4) : List C4 := tab R' C' (fun r k => if r < m then F r k else blk)
def cellsTo (C' n' m : Nat) (F : Nat → Nat → C4) : List C4 := (List.range n').map fun j => if j < m then F (j / C') (j % C') else blk
def cpyC (dst : List C4) (k : Nat) (src : List C4) (p q : Nat) : List C4 := dst.take k ++ (src.drop p).take q ++ dst.drop (k + q)
theorem cellsTo_len (C' n' m : Nat) (F : Nat → Nat → C4) : (cellsTo C' n' m F).length = n' := by unfold cellsTo; simp
theorem cellsTo_zero (C' n' : Nat) (F : Nat → Nat → C4) : cellsTo C' n' 0 F = List.replicate n' blk := by
  refine List.ext_getElem (by rw [cellsTo_len]; simp) (fun i h1 h2 => ?_)
  simp [cellsTo]
theorem cellsTo_all (R' C' : Nat) (F : Nat → Nat → C4) : cellsTo C' (R' * C') (R' * C') F = tab R' C' F := by
  refine List.ext_getElem (by rw [cellsTo_len, tab_len]) (fun i h1 h2 => ?_)
  rw [tab_get]
  rw [tab_len] at h2
  simp [cellsTo, h2]
theorem cellsTo_set {C' n' m : Nat} (F : Nat → Nat → C4) (h : m < n') : (cellsTo C' n' m F).set m (F (m / C') (m % C')) = cellsTo C' n' (m + 1) F := by
  refine List.ext_getElem (by rw [List.length_set, cellsTo_len, cellsTo_len]) (fun i h1 h2 => ?_)
  rw [List.getElem_set]
  simp only [cellsTo, List.getElem_map, List.getElem_range]
  by_cases e : m = i
  · subst e
    rw [if_pos rfl, if_pos (by omega)]
  · rw [if_neg e]
    by_cases h3 : i < m
    · rw [if_pos h3, if_pos (by omega)]
    · rw [if_neg h3, if_neg (by omega)]
theorem rowsTo_len (R' C' m : Nat) (F : Nat → Nat → C4) : (rowsTo R' C' m F).length = R' * C' := tab_len _ _ _
theorem rowsTo_at (R' C' m : Nat) (F : Nat → Nat → C4) (i : Nat) : (rowsTo R' C' m F)[i]? = if i < R' * C' then some (if i / C' < m then F (i / C') (i % C') else blk) else none := by
  by_cases h : i < R' * C'
  · rw [if_pos h, List.getElem?_eq_getElem (by rw [rowsTo_len]; exact h)]
    simp [rowsTo, tab, tabK]
  · rw [if_neg h, List.getElem?_eq_none (by rw [rowsTo_len]; omega)]
theorem rowsTo_zero (R' C' : Nat) (F : Nat → Nat → C4) : rowsTo R' C' 0 F = List.replicate (R' * C') blk := by
  refine List.ext_getElem? (fun i => ?_)
  rw [rowsTo_at, List.getElem?_replicate]
  simp
theorem rowsTo_all {Rn Cn R' C' M : Nat} {cs : List C4} (hC : 0 < C') (hM : Rn ≤ M ∨ R' ≤ M) : rowsTo R' C' M (resF Rn Cn cs) = tab R' C' (resF Rn Cn cs) := by
  refine tab_ext hC (fun r k hr hk => ?_)
  by_cases h : r < M
  · rw [if_pos h]
  · rw [if_neg h]
    unfold resF
    rw [atF_out (by omega)]
theorem cpyC_at {dst src : List C4} {k p q : Nat} (h1 : k + q ≤ dst.length) (h2 : p + q ≤ src.length) (i : Nat) : (cpyC dst k src p q)[i]? = if i < k then dst[i]? else if i < k + q then src[p + (i - k)]? else dst[i]? := by
  have e1 : (dst.take k).length = k := by rw [List.length_take]; omega
  have e2 : ((src.drop p).take q).length = q := by rw [List.length_take, List.length_drop]; omega
  have e3 : (dst.take k ++ (src.drop p).take q).length = k + q := by rw [List.length_append, e1, e2]
  unfold cpyC
  by_cases c1 : i < k
  · rw [if_pos c1, List.getElem?_append_left (by rw [e3]; omega), List.getElem?_append_left (by rw [e1]; omega), List.getElem?_take, if_pos c1]
  · rw [if_neg c1]
    by_cases c2 : i < k + q
    · rw [if_pos c2, List.getElem?_append_left (by rw [e3]; omega), List.getElem?_append_right (by rw [e1]; omega), e1, List.getElem?_take, if_pos (by omega), List.getElem?_drop]
    · rw [if_neg c2, List.getElem?_append_right (by rw [e3]; omega), e3, List.getElem?_drop]
      congr 1
      omega
theorem rowsTo_step {Rn Cn R' C' m : Nat} {cs : List C4} (hC : 0 < C') (hm : m < R') (hm2 : m < Rn) (hl : cs.length = Rn * Cn) :
    cpyC (rowsTo R' C' m (resF Rn Cn cs)) (m * C') cs (m * Cn) (min Cn C') = rowsTo R' C' (m + 1) (resF Rn Cn cs) := by
  have hq1 : (m + 1) * C' ≤ R' * C' := Nat.mul_le_mul_right _ hm
  have hq2 : (m + 1) * Cn ≤ Rn * Cn := Nat.mul_le_mul_right _ hm2
  rw [Nat.add_mul, Nat.one_mul] at hq1 hq2
  refine List.ext_getElem? (fun i => ?_)
  rw [cpyC_at (by rw [rowsTo_len]; omega) (by rw [hl]; omega), rowsTo_at, rowsTo_at]
  have hr : i / C' < m ↔ i < m * C' := Nat.div_lt_iff_lt_mul hC
  have hr1 : i / C' < m + 1 ↔ i < (m + 1) * C' := Nat.div_lt_iff_lt_mul hC
  rw [Nat.add_mul, Nat.one_mul] at hr1
  have hi : C' * (i / C') + i % C' = i := Nat.div_add_mod i C'
  have hk : i % C' < C' := Nat.mod_lt _ hC
  have e2 : C' * m = m * C' := Nat.mul_comm _ _
  by_cases c1 : i < m * C'
  · rw [if_pos c1, if_pos (show i < R' * C' by omega), if_pos (hr.mpr c1), if_pos (show i < R' * C' by omega), if_pos (hr1.mpr (by omega))]
  · rw [if_neg c1]
    by_cases c2 : i < m * C' + min Cn C'
    · have e : i / C' = m := by have := hr1.mpr (by omega); have := fun h => c1 (hr.mp h); omega
      rw [if_pos c2, if_pos (by omega), if_pos (by omega), List.getElem?_eq_getElem (by rw [hl]; omega)]
      rw [e] at hi ⊢
      unfold resF
      rw [atF_in hm2 (by omega) hl]
      congr 2
      omega
    · rw [if_neg c2]
      by_cases c4 : i < R' * C'
      · rw [if_pos c4, if_pos c4, if_neg (fun h => c1 (hr.mp h))]
        by_cases c3 : i / C' < m + 1
        · have e : i / C' = m := by have := fun h => c1 (hr.mp h); omega
          rw [e] at hi ⊢
          rw [if_pos (by omega)]
          unfold resF
          rw [atF_out (by omega)]
        · rw [if_neg c3]
      · rw [if_neg c4, if_neg c4]
theorem Wc.copied {w' : World} {g : Nat} {cs src : List C4} {sp : List Value} {k p q : Nat} (h1 : k + q ≤ cs.length) (h2 : p + q ≤ src.length)
    (h : w'.heap[g]? = some (.cells ((flat cs ++ sp).toArray.toList.take (k * 4) ++ flat ((src.drop p).take q) ++ (flat cs ++ sp).toArray.toList.drop (k * 4 + (flat ((src.drop p).take q)).length)).toArray 39 (0, 0))) : Wc w' g (cpyC cs k src p q) sp := by
  have hq : ((src.drop p).take q).length = q := by simp only [List.length_take, List.length_drop]; omega
  unfold Wc
  rw [h, flat_len, hq]
  have e : flat (cpyC cs k src p q) = (flat cs).take (k * 4) ++ flat ((src.drop p).take q) ++ (flat cs).drop ((k + q) * 4) := by
    unfold cpyC
    rw [flat_app, flat_app, flat_take cs k, flat_drop cs (k + q)]
  rw [e]
  simp only [List.toList_toArray]
  rw [List.take_append_of_le_length (by rw [flat_len]; omega), show k * 4 + q * 4 = (k + q) * 4 by omega, List.drop_append_of_le_length (by rw [flat_len]; omega)]
  simp
theorem wp_copyS {P : Program} {o : Oper} {a : Act} {w : World} {K : Act → World → Prop} {Q : Exit → Act → World → Prop} (d s : Operand) (dT sT : TypeId)
    (ho : o.op = .call { callee := .builtin .copy, args := #[d, s], argTypes := #[dT, sT] }) (elem : TypeId) (sz : Nat) (hu : P.underlying dT = some (.slice elem)) (hsz : (P.info? elem).map (·.size) = some sz)
    (g off dLen dCap : Nat) (ad : Addr) (sLen sCap : Nat) (hd : a.eval d = .slice (some ⟨g, off, none⟩) dLen dCap) (hs : a.eval s = .slice (some ad) sLen sCap)
    (cur : Array Value) (t : TypeId) (hg : w.heap[g]? = some (.cells cur t (0, 0))) (cs : List Value) (hn : cs.length = Nat.min sLen dLen * sz)
    (hsrc : ∀ j v, cs[j]? = some v → w.cell? (ad.add j) = some v) (hfit : off + cs.length ≤ cur.size) (h1 : ∀ v ∈ cs, v.oneCell' = true)
    (h : ∀ w', w'.heap[g]? = some (.cells (cur.toList.take off ++ cs ++ cur.toList.drop (off + cs.length)).toArray t (0, 0)) → w.grownBy w' (some g) → K (a.put o.dst (goInt (Nat.min sLen dLen))) w') : Oper.wp P o a w K Q := by
  have hrun := run_copy_rowS (P := P) w dT sT o.type elem g off dLen dCap ad sLen sCap cur t cs sz hu hsz hg hn hsrc hfit h1
  unfold Oper.wp
  unfold execOp
  simp only [ho, resolve, invoke, builtin, Sem.run_bind, Sem.run_pure, Result.andThen_ok, List.map_toArray, List.map_cons, List.map_nil, hd, hs, hrun]
  exact h _ (setRow_heap w g _ _ t _ hg) ⟨rfl, rfl, rfl, by simp [World.setRow], fun k hk hne => setRow_other w g k _ (fun e => hne (by rw [e]))⟩
end Go.Proofs.Ytccfpehcadpkiaa

/- Chapter 16's laws: a grid in which something is changed. -/
namespace Go.Proofs.Ytccfpehcadpkiaa
open Go.RowKit

/-- The call returns a grid of few cells. -/
def GrB (w : World) (e : Ending) (w' : World) : Prop :=
  ∃ (R C : Int) (A : Option Addr) (n c : Nat) (cs : List C4), e = .returned (.agg #[.int .i64 R, .int .i64 C, .slice A n c]) ∧ Rg w' A n cs ∧ n ≤ 50 ∧ n ≤ c ∧ c ≤ 9223372036854775807 ∧ Bw w w'
theorem flat_set1 (x : Int) : ∀ (cs : List C4) (k j : Nat), k < cs.length → j < 4 → ∃ cs', cs'.length = cs.length ∧ (flat cs).set (k * 4 + j) (.int .i64 x) = flat cs'
  | [], k, j, h, _ => by simp at h
  | (a, b, c, d) :: cs, 0, j, h, hj => by
    have hj4 : j = 0 ∨ j = 1 ∨ j = 2 ∨ j = 3 := by omega
    rw [flat_cons]
    rcases hj4 with rfl | rfl | rfl | rfl
    · exact ⟨(x, b, c, d) :: cs, rfl, by rw [flat_cons]; rfl⟩
    · exact ⟨(a, x, c, d) :: cs, rfl, by rw [flat_cons]; rfl⟩
    · exact ⟨(a, b, x, d) :: cs, rfl, by rw [flat_cons]; rfl⟩
    · exact ⟨(a, b, c, x) :: cs, rfl, by rw [flat_cons]; rfl⟩
  | e :: cs, k + 1, j, h, hj => by
    obtain ⟨cs', hl, hs⟩ := flat_set1 x cs k j (by simpa using h) hj
    refine ⟨e :: cs', by simp [hl], ?_⟩
    rw [flat_cons, flat_cons, ← hs, List.set_append_right _ _ (by show 4 ≤ _; omega)]
    congr 2
    show (k + 1) * 4 + j - 4 = _
    omega
theorem Wc.poke {w : World} {g : Nat} {cs : List C4} {sp : List Value} (h : Wc w g cs sp) (k j : Nat) (hk : k < cs.length) (hj : j < 4) (x : Int) :
    ∃ cs', cs'.length = cs.length ∧ Wc (w.setCell ⟨g, k * 4 + j, none⟩ (.int .i64 x)) g cs' sp := by
  obtain ⟨cs', hl, hs⟩ := flat_set1 x cs k j hk hj
  refine ⟨cs', hl, ?_⟩
  unfold Wc
  rw [← hs, ← List.set_append_left _ _ (by rw [flat_len]; omega)]
  exact block_set h _

set_option maxRecDepth 100000 in
set_option maxHeartbeats 8000000 in
theorem bad16_any (Rn Cn : Nat) (A : Option Addr) (n c : Nat) (cs : List C4) (what at_ : Int) (w : World) (hr : Rg w A n cs) (h0 : 1 ≤ n) (h1 : n ≤ 50) (hRn : Rn ≤ 100) (hn : n ≤ c) (hc : c ≤ 9223372036854775807) :
    Calls Try.prog 10 #[.agg #[.int .i64 (Rn : Int), .int .i64 (Cn : Int), .slice A n c], .int .i64 what, .int .i64 at_] w (GrB w) := by
  have HR := Lib.hid hr
  have hnl := hr.1
  obtain ⟨gs, os, rfl, hx⟩ := hr.2 (by omega)
  have hgs : gs < w.heap.size := by simpa using lt_of_cell (hx 0 (by omega)).1
  have HNL := Lib.hid hnl
  obtain ⟨k, hk⟩ : ∃ k : Nat, at_ % (n : Int) = k := ⟨(at_ % (n : Int)).toNat, by have := Int.emod_nonneg at_ (show (n : Int) ≠ 0 by omega); omega⟩
  have hkn : k < n := by have := Int.emod_lt_of_pos at_ (show (0 : Int) < n by omega); omega
  obtain ⟨u, hu⟩ : ∃ u : Nat, at_ % 7 = u := ⟨(at_ % 7).toNat, by omega⟩
  have hu7 : u < 7 := by omega
  obtain ⟨v, hv⟩ : ∃ v, what % 7 = v := ⟨_, rfl⟩
  have hv7 : v = 0 ∨ v = 1 ∨ v = 2 ∨ v = 3 ∨ v = 4 ∨ v = 5 ∨ v = 6 := by omega
  have HK := Lib.hid hk
  have HU := Lib.hid hu
  have HVV := Lib.hid hv
  obtain ⟨j0, hj, hj0, hj1, hj2⟩ := info_parts infoC
  clear hr hx hnl hk hu hv
  go_enter Try.func10, Try.ntmps10
  go_upto_region 1 with (fail)
  generalize hw1 : (w.alloc (.cells #[.int .i64 (Rn : Int), .int .i64 (Cn : Int), .slice (some ⟨gs, os, none⟩) n c] 25)).alloc _ = w1
  obtain ⟨hb0, hb1, hbw, hz⟩ := sb2 hw1
  have HB0 := Lib.hid hb0
  have HB1 := Lib.hid (show ∃ old, Sb w1 (w.heap.size + 1) old 25 ∧ old.size = 3 from ⟨_, hb1, rfl⟩)
  have hz1 : w.heap.size + 1 < w1.heap.size := by omega
  have hz0 : w.heap.size < w1.heap.size := by omega
  clear hw1 hb0 hb1 hz
  have x2 := HB0.out.cell 2 (v := .slice (some ⟨gs, os, none⟩) n c) rfl
  go_upto_region 2 with (first
    | (at_builtin; refine wpList_append_srcG (by rfl) (.tmp 8) (.tmp 10) 23 rfl w1.heap.size 39 j0 (.agg #[.int .i64 0, .int .i64 0, .int .i64 0, .int .i64 0]) 4 32 Try.underlying23 hj hj0 hj1 hj2 rfl (by decide) _ 0 [] (by rfl) (own_made SZX (Nat.le_refl _)) (some ⟨gs, os, none⟩) n c (flat cs) (by rfl) (by rw [flat_len, HNL.out]) (fun e => by cases e) (fun ad e => by cases e; exact (HR.out.up BWX).news) (flat_one _) (by unfold maxLen; omega) (by omega) SZX ?_; intro v2 w2 hown2 hg2; simp only [Nat.zero_add, List.nil_append] at hown2; obtain ⟨A2, c2, rfl, hc2, hc2m⟩ := own_form hown2; have hb12 : Bw w1 w2 := Bw.row (show Bw w1 _ from BWX) (own_made (size := 4) SZX (Nat.le_refl _)) hg2 (by first | omega | exact Nat.le_refl _); have HO2 := Lib.hid hown2; clear hown2 hg2 x2; have x2 := (HB0.out.up hb12).cell 2 (v := .slice (some ⟨gs, os, none⟩) n c) rfl; have f2 := (HB0.out.up hb12).free 2)
    | fail)
  obtain ⟨gp, sp, rfl, hgp, hwc⟩ := Wc.of_own HO2.out (by omega)
  have hgp2 := hwc.lt
  have hzb2 := hb12.size
  generalize hw3 : World.setCell w2 ⟨w.heap.size, 2, none⟩ (.slice (some ⟨gp, 0, none⟩) n c2) = w3
  have HS3 := Lib.hid (show Sb w3 w.heap.size (grV Rn Cn (some ⟨gp, 0, none⟩) n c2) 25 from by rw [← hw3]; exact (HB0.out.up hb12).set 2 _ rfl)
  have hg3 : w2.grownBy w3 (some w.heap.size) := by rw [← hw3]; exact grown_set (grown_refl w2 _) _ _
  have HW3 := Lib.hid (show Wc w3 gp cs sp from by rw [← hw3]; exact hwc.away (by omega) _)
  have HB3 := Lib.hid (Exists.elim HB1.out (fun old h => (⟨old, (h.1.up hb12).far hg3 (by intro e; have := Option.some.inj e; omega), h.2⟩ : ∃ old, Sb w3 (w.heap.size + 1) old 25 ∧ old.size = 3)))
  have hbw3 : Bw w w3 := Bw.grown (Bw.trans hbw hb12) hg3 (fun k hk => by cases hk; exact Nat.le_refl _)
  have hz3 : gp < w3.heap.size := by have := hg3.size; omega
  have hgpz : w.heap.size + 1 < gp := by omega
  clear hw3 hg3 hwc HB0 HB1 HO2 x2 f2 hbw hz1 hz0 hgp hgp2 hzb2 hb12
  have y0 := HS3.out.cell 0 (v := .int .i64 Rn) rfl
  have y1 := HS3.out.cell 1 (v := .int .i64 Cn) rfl
  have y2 := HS3.out.cell 2 (v := .slice (some ⟨gp, 0, none⟩) n c2) rfl
  have g0 := HS3.out.free 0
  have g1 := HS3.out.free 1
  have g2 := HS3.out.free 2
  have hkl : k < cs.length := by rw [HNL.out]; exact hkn
  have hkI : (k : Int) < n := by omega
  have hk0 : (0 : Int) ≤ (k : Int) := by omega
  have HY := Lib.hid (show ∀ w', Bw w3 w' → (w'.cell? ⟨w.heap.size, 2, none⟩ = some (.slice (some ⟨gp, 0, none⟩) n c2)) from fun w' hb => (HS3.out.up hb).cell 2 rfl)
  refine wp_region_held_drew (S := (fun w' => w'.cell? ⟨w.heap.size, 2, none⟩ = some (.slice (some ⟨gp, 0, none⟩) n c2))) (by kernel_rfl) ?_ (fun hHeld => ?_)
  · (try dsimp only); (refine HY.out _ ?_; exact BWX)
  refine tkH 0 ?_ rfl (Or.inl ⟨by rfl, ?ht0⟩) ?_
  case ht0 => (intro w hSw; (try dsimp only at hSw); go_simp; try with_reducible rfl)
  (try simp only [Act.put, p1, p2, p3, p4, p5, p6])
  refine tkH 1 ?_ rfl (Or.inl ⟨by rfl, ?ht1⟩) ?_
  case ht1 => (intro w hSw; (try dsimp only at hSw); go_simp; try with_reducible rfl)
  (try simp only [Act.put, p1, p2, p3, p4, p5, p6])
  refine tkH 2 ?_ rfl (Or.inl ⟨by rfl, ?ht2⟩) ?_
  case ht2 => (intro w hSw; (try dsimp only at hSw); go_simp; try with_reducible rfl)
  (try simp only [Act.put, p1, p2, p3, p4, p5, p6])
  refine tkH 3 ?_ rfl (Or.inl ⟨by rfl, ?ht3⟩) ?_
  case ht3 => (intro w hSw; (try dsimp only at hSw); go_simp; try with_reducible rfl)
  (try simp only [Act.put, p1, p2, p3, p4, p5, p6])
  refine tkH 4 ?_ rfl (Or.inl ⟨by rfl, ?ht4⟩) ?_
  case ht4 => (intro w hSw; (try dsimp only at hSw); go_simp; try with_reducible rfl)
  (try simp only [Act.put, p1, p2, p3, p4, p5, p6])
  refine tkH 5 ?_ rfl (Or.inl ⟨by rfl, ?ht5⟩) ?_
  case ht5 => (intro w hSw; (try dsimp only at hSw); go_simp; try with_reducible rfl)
  (try simp only [Act.put, p1, p2, p3, p4, p5, p6])
  refine wpAnyH_ready (rs := [6]) (by kernel_rfl) (by simp) ?_
  refine AllReadyH.cons rfl (fun K hK => ?_) ?_
  · go_simp
    refine (mmod_any _ _ _ (by omega) (by omega)).mono ?_; rintro ee ww ⟨rfl, rfl⟩; rw [HK.out]; go_wp2_with fail
    refine hK.out _ _ ?_ (fun hHeld => ?_)
    · (try dsimp only); (refine HY.out _ ?_; exact BWX)
    clear hK K
    (try simp only [Act.put, p1, p2, p3, p4, p5, p6])
    refine wpAnyH_ready (rs := [7]) (by kernel_rfl) (by simp) ?_
    refine AllReadyH.cons rfl (fun K hK => ?_) ?_
    · go_simp
      refine hK.out _ _ ?_ (fun hHeld => ?_)
      · (try dsimp only); (refine HY.out _ ?_; exact BWX)
      clear hK K
      (try simp only [Act.put, p1, p2, p3, p4, p5, p6])
      refine wpAnyH_ready (rs := [8]) (by kernel_rfl) (by simp) ?_
      refine AllReadyH.cons rfl (fun K hK => ?_) ?_
      · go_simp
        refine hK.out _ _ ?_ (fun hHeld => ?_)
        · (try dsimp only); (refine HY.out _ ?_; exact BWX)
        clear hK K
        (try simp only [Act.put, p1, p2, p3, p4, p5, p6])
        refine wpAnyH_done (by kernel_rfl) ?_ _
        have HBD : Bw w3 w3.drew := BWX
        obtain ⟨wd, hwd⟩ : ∃ wd, w3.drew = wd := ⟨_, rfl⟩
        rw [hwd] at HBD
        simp only [hwd]
        have HSd := Lib.hid (HS3.out.up HBD)
        have HWd := Lib.hid (HW3.out.up HBD)
        have HBd := Lib.hid (Exists.elim HB3.out (fun old h => (⟨old, h.1.up HBD, h.2⟩ : ∃ old, Sb wd (w.heap.size + 1) old 25 ∧ old.size = 3)))
        have hbwd : Bw w wd := Bw.trans hbw3 HBD
        have hzd : gp < wd.heap.size := by have := HBD.size; omega
        clear hwd HBD y0 y1 y2 g0 g1 g2 HY HS3 HW3 HB3 hbw3 hz3
        have y0 := HSd.out.cell 0 (v := .int .i64 Rn) rfl
        have y1 := HSd.out.cell 1 (v := .int .i64 Cn) rfl
        have y2 := HSd.out.cell 2 (v := .slice (some ⟨gp, 0, none⟩) n c2) rfl
        have g0 := HSd.out.free 0
        have g1 := HSd.out.free 1
        have g2 := HSd.out.free 2
        obtain ⟨p1, p2, p3, p4⟩ := HWd.out.cells k hkl
        have q1 := HWd.out.free (k * 4)
        have q3 := HWd.out.free (k * 4 + 2)
        have hne1 : gp ≠ w.heap.size := by omega
        have hne2 : w.heap.size ≠ gp := by omega
        rcases hv7 with rfl | rfl | rfl | rfl | rfl | rfl | rfl
        · obtain ⟨x, -, hxc⟩ := lit_pick (f := fun x : Int => Value.int .i64 x) wd 3 _ [31, 127, 159, 55296, 57343, 1114112, -1] rfl (fun _ => True) (by simp) (u : Int) (by omega) (by simp; omega)
          have hxc2 : (wd.alloc (.cells #[.int .i64 31, .int .i64 127, .int .i64 159, .int .i64 55296, .int .i64 57343, .int .i64 1114112, .int .i64 (-1)] 3)).cell? ⟨wd.heap.size, u, none⟩ = some (.int .i64 x) := by simpa using hxc
          have hu7I : (u : Int) < 7 := by omega
          clear hxc
          go_upto_region 14 with (first
            | (go_at_call 13; refine (mmod_any _ _ _ (by omega) (by omega)).mono ?_; rintro ee ww ⟨rfl, rfl⟩; (first | rw [HVV.out] | rw [HU.out]))
            | fail)
          generalize hwp : World.setCell wd ⟨gp, k * 4, none⟩ (.int .i64 x) = wp
          have hgp : wd.grownBy wp (some gp) := by rw [← hwp]; exact grown_set (grown_refl wd _) _ _
          obtain ⟨cs', hcl, hwc⟩ := HWd.out.poke k 0 hkl (by omega) (x)
          have hWp : Wc wp gp cs' sp := by rw [← hwp]; exact hwc
          clear y0 y1 y2 g0 g1 g2 p1 p2 p3 p4 q1 q3 hwc hwp
          clear hxc2
          generalize hwx : World.alloc wp _ = wx
          have hpx : Bw wp wx := by rw [← hwx]; exact BWX
          clear hwx
          have HWx := Lib.hid (hWp.up hpx)
          have HSx := Lib.hid ((HSd.out.far hgp (by intro e; have := Option.some.inj e; omega)).up hpx)
          have HBx := Lib.hid (Exists.elim HBd.out (fun old h => (⟨old, (h.1.far hgp (by intro e; have := Option.some.inj e; omega)).up hpx, h.2⟩ : ∃ old, Sb wx (w.heap.size + 1) old 25 ∧ old.size = 3)))
          have hbwx : Bw w wx := Bw.trans (Bw.grown hbwd hgp (fun j hj => by cases hj; omega)) hpx
          have hrg := HWx.out.rg
          rw [hcl, HNL.out] at hrg
          have z0 := HSx.out.cell 0 (v := .int .i64 Rn) rfl
          have z1 := HSx.out.cell 1 (v := .int .i64 Cn) rfl
          have z2 := HSx.out.cell 2 (v := .slice (some ⟨gp, 0, none⟩) n c2) rfl
          go_wp2_with (first
            | ((with_reducible refine wpList_store_gr ((Rn : Int)) ((Cn : Int)) (some ⟨gp, 0, none⟩) n c2 (w.heap.size + 1) (.tmp 6) (.tmp 54) rfl rfl ?_ ?_ ?_ ?_); (focus rfl); (focus rfl); (focus (exact HBx.out)); intro w5 hS5 hg5; have HS5 := Lib.hid hS5; have HG5 := Lib.hid hg5; clear hS5 hg5)
            | fail)
          refine bodyPost_ret (results_gr rfl _ _ (w.heap.size + 1) ((Rn : Int)) ((Cn : Int)) (some ⟨gp, 0, none⟩) n c2 (by rfl) HS5.out) rfl ?_
          exact ⟨_, _, _, _, _, _, rfl, (hrg).far HG5.out (fun ad e e2 => by cases e; have := Option.some.inj e2; simp at this; omega), by omega, by omega, by omega, Bw.grown (hbwx) HG5.out (fun j hj => by cases hj; omega)⟩
        · go_upto_region 14 with (first
            | (go_at_call 13; refine (mmod_any _ _ _ (by omega) (by omega)).mono ?_; rintro ee ww ⟨rfl, rfl⟩; (first | rw [HVV.out] | rw [HU.out]))
            | fail)
          generalize hwp : World.setCell wd ⟨gp, k * 4 + 2, none⟩ (.int .i64 17) = wp
          have hgp : wd.grownBy wp (some gp) := by rw [← hwp]; exact grown_set (grown_refl wd _) _ _
          obtain ⟨cs', hcl, hwc⟩ := HWd.out.poke k 2 hkl (by omega) (17)
          have hWp : Wc wp gp cs' sp := by rw [← hwp]; exact hwc
          clear y0 y1 y2 g0 g1 g2 p1 p2 p3 p4 q1 q3 hwc hwp
          obtain ⟨wx, hwx⟩ : ∃ wx, wp = wx := ⟨_, rfl⟩
          subst hwx
          have hpx : Bw wp wp := Bw.refl _
          have HWx := Lib.hid (hWp.up hpx)
          have HSx := Lib.hid ((HSd.out.far hgp (by intro e; have := Option.some.inj e; omega)).up hpx)
          have HBx := Lib.hid (Exists.elim HBd.out (fun old h => (⟨old, (h.1.far hgp (by intro e; have := Option.some.inj e; omega)).up hpx, h.2⟩ : ∃ old, Sb wp (w.heap.size + 1) old 25 ∧ old.size = 3)))
          have hbwx : Bw w wp := Bw.trans (Bw.grown hbwd hgp (fun j hj => by cases hj; omega)) hpx
          have hrg := HWx.out.rg
          rw [hcl, HNL.out] at hrg
          have z0 := HSx.out.cell 0 (v := .int .i64 Rn) rfl
          have z1 := HSx.out.cell 1 (v := .int .i64 Cn) rfl
          have z2 := HSx.out.cell 2 (v := .slice (some ⟨gp, 0, none⟩) n c2) rfl
          go_wp2_with (first
            | ((with_reducible refine wpList_store_gr ((Rn : Int)) ((Cn : Int)) (some ⟨gp, 0, none⟩) n c2 (w.heap.size + 1) (.tmp 6) (.tmp 54) rfl rfl ?_ ?_ ?_ ?_); (focus rfl); (focus rfl); (focus (exact HBx.out)); intro w5 hS5 hg5; have HS5 := Lib.hid hS5; have HG5 := Lib.hid hg5; clear hS5 hg5)
            | fail)
          refine bodyPost_ret (results_gr rfl _ _ (w.heap.size + 1) ((Rn : Int)) ((Cn : Int)) (some ⟨gp, 0, none⟩) n c2 (by rfl) HS5.out) rfl ?_
          exact ⟨_, _, _, _, _, _, rfl, (hrg).far HG5.out (fun ad e e2 => by cases e; have := Option.some.inj e2; simp at this; omega), by omega, by omega, by omega, Bw.grown (hbwx) HG5.out (fun j hj => by cases hj; omega)⟩
        · by_cases hc1 : c2 = 1
          · obtain rfl : n = 1 := by omega
            subst hc1
            go_upto_region 14 with (first
              | (go_at_call 13; refine (mmod_any _ _ _ (by omega) (by omega)).mono ?_; rintro ee ww ⟨rfl, rfl⟩; (first | rw [HVV.out] | rw [HU.out]))
              | fail)
            generalize hwx : World.setCell wd ⟨w.heap.size, 2, none⟩ (.slice (some ⟨gp, 0, none⟩) 0 0) = wx
            have HSx := Lib.hid (show Sb wx w.heap.size (grV (Rn : Int) (Cn : Int) (some ⟨gp, 0, none⟩) 0 0) 25 from by rw [← hwx]; exact HSd.out.set 2 _ rfl)
            have hgx : wd.grownBy wx (some w.heap.size) := by rw [← hwx]; exact grown_set (grown_refl wd _) _ _
            have HWx := Lib.hid (show Wc wx gp cs sp from by rw [← hwx]; exact HWd.out.away (by omega) _)
            have HBx := Lib.hid (Exists.elim HBd.out (fun old h => (⟨old, h.1.far hgx (by intro e; have := Option.some.inj e; omega), h.2⟩ : ∃ old, Sb wx (w.heap.size + 1) old 25 ∧ old.size = 3)))
            have hbwx : Bw w wx := Bw.grown hbwd hgx (fun j hj => by cases hj; omega)
            have hrg := HWx.out.rg
            rw [HNL.out] at hrg
            clear y0 y1 y2 g0 g1 g2 p1 p2 p3 p4 q1 q3 hwx
            have z0 := HSx.out.cell 0 (v := .int .i64 (Rn : Int)) rfl
            have z1 := HSx.out.cell 1 (v := .int .i64 (Cn : Int)) rfl
            have z2 := HSx.out.cell 2 (v := .slice (some ⟨gp, 0, none⟩) 0 0) rfl
            go_wp2_with (first
              | ((with_reducible refine wpList_store_gr ((Rn : Int)) ((Cn : Int)) (some ⟨gp, 0, none⟩) 0 0 (w.heap.size + 1) (.tmp 6) (.tmp 54) rfl rfl ?_ ?_ ?_ ?_); (focus rfl); (focus rfl); (focus (exact HBx.out)); intro w5 hS5 hg5; have HS5 := Lib.hid hS5; have HG5 := Lib.hid hg5; clear hS5 hg5)
              | fail)
            refine bodyPost_ret (results_gr rfl _ _ (w.heap.size + 1) ((Rn : Int)) ((Cn : Int)) (some ⟨gp, 0, none⟩) 0 0 (by rfl) HS5.out) rfl ?_
            exact ⟨_, _, _, _, _, _, rfl, (Rg.nil_ wx _).far HG5.out (fun ad e e2 => by cases e; have := Option.some.inj e2; simp at this; omega), by omega, by omega, by omega, Bw.grown (hbwx) HG5.out (fun j hj => by cases hj; omega)⟩
          · have hc1' : ¬ 1 = c2 := fun e => hc1 e.symm
            have hcs1 : (1 : Int) ≤ (n : Int) := by omega
            have hcs2 : (n : Int) ≤ (c2 : Int) := by omega
            have hcs3 : 1 ≤ n := h0
            go_upto_region 14 with (first
              | (go_at_call 13; refine (mmod_any _ _ _ (by omega) (by omega)).mono ?_; rintro ee ww ⟨rfl, rfl⟩; (first | rw [HVV.out] | rw [HU.out]))
              | fail)
            generalize hwx : World.setCell wd ⟨w.heap.size, 2, none⟩ (.slice (some ⟨gp, 4, none⟩) (n - 1) (c2 - 1)) = wx
            have HSx := Lib.hid (show Sb wx w.heap.size (grV (Rn : Int) (Cn : Int) (some ⟨gp, 4, none⟩) (n - 1) (c2 - 1)) 25 from by rw [← hwx]; exact HSd.out.set 2 _ rfl)
            have hgx : wd.grownBy wx (some w.heap.size) := by rw [← hwx]; exact grown_set (grown_refl wd _) _ _
            have HWx := Lib.hid (show Wc wx gp cs sp from by rw [← hwx]; exact HWd.out.away (by omega) _)
            have HBx := Lib.hid (Exists.elim HBd.out (fun old h => (⟨old, h.1.far hgx (by intro e; have := Option.some.inj e; omega), h.2⟩ : ∃ old, Sb wx (w.heap.size + 1) old 25 ∧ old.size = 3)))
            have hbwx : Bw w wx := Bw.grown hbwd hgx (fun j hj => by cases hj; omega)
            have hrg := HWx.out.rg
            rw [HNL.out] at hrg
            clear y0 y1 y2 g0 g1 g2 p1 p2 p3 p4 q1 q3 hwx
            have z0 := HSx.out.cell 0 (v := .int .i64 (Rn : Int)) rfl
            have z1 := HSx.out.cell 1 (v := .int .i64 (Cn : Int)) rfl
            have z2 := HSx.out.cell 2 (v := .slice (some ⟨gp, 4, none⟩) (n - 1) (c2 - 1)) rfl
            go_wp2_with (first
              | ((with_reducible refine wpList_store_gr ((Rn : Int)) ((Cn : Int)) (some ⟨gp, 4, none⟩) (n - 1) (c2 - 1) (w.heap.size + 1) (.tmp 6) (.tmp 54) rfl rfl ?_ ?_ ?_ ?_); (focus rfl); (focus rfl); (focus (exact HBx.out)); intro w5 hS5 hg5; have HS5 := Lib.hid hS5; have HG5 := Lib.hid hg5; clear hS5 hg5)
              | fail)
            refine bodyPost_ret (results_gr rfl _ _ (w.heap.size + 1) ((Rn : Int)) ((Cn : Int)) (some ⟨gp, 4, none⟩) (n - 1) (c2 - 1) (by rfl) HS5.out) rfl ?_
            exact ⟨_, _, _, _, _, _, rfl, ((show Rg wx (some ⟨gp, 4, none⟩) (n - 1) _ from hrg.sub 1 (n - 1) (by omega))).far HG5.out (fun ad e e2 => by cases e; have := Option.some.inj e2; simp at this; omega), by omega, by omega, by omega, Bw.grown (hbwx) HG5.out (fun j hj => by cases hj; omega)⟩
        · go_upto_region 14 with (first
            | (go_at_call 13; refine (mmod_any _ _ _ (by omega) (by omega)).mono ?_; rintro ee ww ⟨rfl, rfl⟩; (first | rw [HVV.out] | rw [HU.out]))
            | fail)
          generalize hwx : World.setCell wd ⟨w.heap.size, 0, none⟩ (.int .i64 ((Rn : Int) + 1)) = wx
          have HSx := Lib.hid (show Sb wx w.heap.size (grV ((Rn : Int) + 1) (Cn : Int) (some ⟨gp, 0, none⟩) n c2) 25 from by rw [← hwx]; exact HSd.out.set 0 _ rfl)
          have hgx : wd.grownBy wx (some w.heap.size) := by rw [← hwx]; exact grown_set (grown_refl wd _) _ _
          have HWx := Lib.hid (show Wc wx gp cs sp from by rw [← hwx]; exact HWd.out.away (by omega) _)
          have HBx := Lib.hid (Exists.elim HBd.out (fun old h => (⟨old, h.1.far hgx (by intro e; have := Option.some.inj e; omega), h.2⟩ : ∃ old, Sb wx (w.heap.size + 1) old 25 ∧ old.size = 3)))
          have hbwx : Bw w wx := Bw.grown hbwd hgx (fun j hj => by cases hj; omega)
          have hrg := HWx.out.rg
          rw [HNL.out] at hrg
          clear y0 y1 y2 g0 g1 g2 p1 p2 p3 p4 q1 q3 hwx
          have z0 := HSx.out.cell 0 (v := .int .i64 ((Rn : Int) + 1)) rfl
          have z1 := HSx.out.cell 1 (v := .int .i64 (Cn : Int)) rfl
          have z2 := HSx.out.cell 2 (v := .slice (some ⟨gp, 0, none⟩) n c2) rfl
          go_wp2_with (first
            | ((with_reducible refine wpList_store_gr (((Rn : Int) + 1)) ((Cn : Int)) (some ⟨gp, 0, none⟩) n c2 (w.heap.size + 1) (.tmp 6) (.tmp 54) rfl rfl ?_ ?_ ?_ ?_); (focus rfl); (focus rfl); (focus (exact HBx.out)); intro w5 hS5 hg5; have HS5 := Lib.hid hS5; have HG5 := Lib.hid hg5; clear hS5 hg5)
            | fail)
          refine bodyPost_ret (results_gr rfl _ _ (w.heap.size + 1) (((Rn : Int) + 1)) ((Cn : Int)) (some ⟨gp, 0, none⟩) n c2 (by rfl) HS5.out) rfl ?_
          exact ⟨_, _, _, _, _, _, rfl, (hrg).far HG5.out (fun ad e e2 => by cases e; have := Option.some.inj e2; simp at this; omega), by omega, by omega, by omega, Bw.grown (hbwx) HG5.out (fun j hj => by cases hj; omega)⟩
        · go_upto_region 14 with (first
            | (go_at_call 13; refine (mmod_any _ _ _ (by omega) (by omega)).mono ?_; rintro ee ww ⟨rfl, rfl⟩; (first | rw [HVV.out] | rw [HU.out]))
            | fail)
          generalize hwx : World.setCell wd ⟨w.heap.size, 1, none⟩ (.int .i64 (-1)) = wx
          have HSx := Lib.hid (show Sb wx w.heap.size (grV (Rn : Int) (-1) (some ⟨gp, 0, none⟩) n c2) 25 from by rw [← hwx]; exact HSd.out.set 1 _ rfl)
          have hgx : wd.grownBy wx (some w.heap.size) := by rw [← hwx]; exact grown_set (grown_refl wd _) _ _
          have HWx := Lib.hid (show Wc wx gp cs sp from by rw [← hwx]; exact HWd.out.away (by omega) _)
          have HBx := Lib.hid (Exists.elim HBd.out (fun old h => (⟨old, h.1.far hgx (by intro e; have := Option.some.inj e; omega), h.2⟩ : ∃ old, Sb wx (w.heap.size + 1) old 25 ∧ old.size = 3)))
          have hbwx : Bw w wx := Bw.grown hbwd hgx (fun j hj => by cases hj; omega)
          have hrg := HWx.out.rg
          rw [HNL.out] at hrg
          clear y0 y1 y2 g0 g1 g2 p1 p2 p3 p4 q1 q3 hwx
          have z0 := HSx.out.cell 0 (v := .int .i64 (Rn : Int)) rfl
          have z1 := HSx.out.cell 1 (v := .int .i64 (-1)) rfl
          have z2 := HSx.out.cell 2 (v := .slice (some ⟨gp, 0, none⟩) n c2) rfl
          go_wp2_with (first
            | ((with_reducible refine wpList_store_gr ((Rn : Int)) ((-1)) (some ⟨gp, 0, none⟩) n c2 (w.heap.size + 1) (.tmp 6) (.tmp 54) rfl rfl ?_ ?_ ?_ ?_); (focus rfl); (focus rfl); (focus (exact HBx.out)); intro w5 hS5 hg5; have HS5 := Lib.hid hS5; have HG5 := Lib.hid hg5; clear hS5 hg5)
            | fail)
          refine bodyPost_ret (results_gr rfl _ _ (w.heap.size + 1) ((Rn : Int)) ((-1)) (some ⟨gp, 0, none⟩) n c2 (by rfl) HS5.out) rfl ?_
          exact ⟨_, _, _, _, _, _, rfl, (hrg).far HG5.out (fun ad e e2 => by cases e; have := Option.some.inj e2; simp at this; omega), by omega, by omega, by omega, Bw.grown (hbwx) HG5.out (fun j hj => by cases hj; omega)⟩
        · have HBx := HBd
          have hrg := HWd.out.rg
          rw [HNL.out] at hrg
          go_wp2_with (first
            | (go_at_call 13; refine (mmod_any _ _ _ (by omega) (by omega)).mono ?_; rintro ee ww ⟨rfl, rfl⟩; (first | rw [HVV.out] | rw [HU.out]))
            | ((with_reducible refine wpList_store_gr ((Rn : Int)) ((Cn : Int)) (some ⟨gp, 0, none⟩) n c2 (w.heap.size + 1) (.tmp 6) (.tmp 54) rfl rfl ?_ ?_ ?_ ?_); (focus rfl); (focus rfl); (focus (exact HBx.out)); intro w5 hS5 hg5; have HS5 := Lib.hid hS5; have HG5 := Lib.hid hg5; clear hS5 hg5)
            | fail)
          refine bodyPost_ret (results_gr rfl _ _ (w.heap.size + 1) ((Rn : Int)) ((Cn : Int)) (some ⟨gp, 0, none⟩) n c2 (by rfl) HS5.out) rfl ?_
          exact ⟨_, _, _, _, _, _, rfl, (hrg).far HG5.out (fun ad e e2 => by cases e; have := Option.some.inj e2; simp at this; omega), by omega, by omega, by omega, Bw.grown (hbwd) HG5.out (fun j hj => by cases hj; omega)⟩
        · have HBx := HBd
          have hrg := HWd.out.rg
          rw [HNL.out] at hrg
          go_wp2_with (first
            | (go_at_call 13; refine (mmod_any _ _ _ (by omega) (by omega)).mono ?_; rintro ee ww ⟨rfl, rfl⟩; (first | rw [HVV.out] | rw [HU.out]))
            | ((with_reducible refine wpList_store_gr ((Rn : Int)) ((Cn : Int)) (some ⟨gp, 0, none⟩) n c2 (w.heap.size + 1) (.tmp 6) (.tmp 54) rfl rfl ?_ ?_ ?_ ?_); (focus rfl); (focus rfl); (focus (exact HBx.out)); intro w5 hS5 hg5; have HS5 := Lib.hid hS5; have HG5 := Lib.hid hg5; clear hS5 hg5)
            | fail)
          refine bodyPost_ret (results_gr rfl _ _ (w.heap.size + 1) ((Rn : Int)) ((Cn : Int)) (some ⟨gp, 0, none⟩) n c2 (by rfl) HS5.out) rfl ?_
          exact ⟨_, _, _, _, _, _, rfl, (hrg).far HG5.out (fun ad e e2 => by cases e; have := Option.some.inj e2; simp at this; omega), by omega, by omega, by omega, Bw.grown (hbwd) HG5.out (fun j hj => by cases hj; omega)⟩
      exact AllReadyH.nil
    exact AllReadyH.nil
  exact AllReadyH.nil
end Go.Proofs.Ytccfpehcadpkiaa
