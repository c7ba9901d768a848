/- Parts of the proof, one after the other. -/
import Derived.Test.YtmkpefielfinjaaDoorV33
import Derived.Test.YtmkpefielfinjaaDoorV07
import Derived.Test.YtmkpefielfinjaaDoorV32
set_option linter.unusedSimpArgs false
set_option linter.unusedVariables false
/- The program's slide by 0; slide at all arguments. -/
namespace Go.Proofs.YtmkpefielfinjaaDoor
open Go.RowKit

end Go.Proofs.YtmkpefielfinjaaDoor

/- Plain laws: rows slid are rows scrolled, a row's cells slid are cells shifted. -/
namespace Go.Proofs.YtmkpefielfinjaaDoor
open Go.RowKit

end Go.Proofs.YtmkpefielfinjaaDoor

/- Resize: the cells that it makes (plain); copies within drawn regions. -/
namespace Go.Proofs.YtmkpefielfinjaaDoor
open Go.RowKit

def cpyC (dst : List C4) (k : Nat) (src : List C4) (p q : Nat) : List C4 := dst.take k ++ (src.drop p).take q ++ dst.drop (k + q)
theorem Wc.copied {w' : World} {g : Nat} {cs src : List C4} {sp : List Value} {k p q : Nat} (h1 : k + q ≤ cs.length) (h2 : p + q ≤ src.length)
  (h : w'.heap[g]? = some (.cells ((flat cs ++ sp).toArray.toList.take (k * 4) ++ flat ((src.drop p).take q) ++ (flat cs ++ sp).toArray.toList.drop (k * 4 + (flat ((src.drop p).take q)).length)).toArray 64 (0, 0))) : Wc w' g (cpyC cs k src p q) sp := by
 have hq : ((src.drop p).take q).length = q := by simp only [List.length_take, List.length_drop]; omega
 unfold Wc
 rw [h, flat_len, hq]
 have e : flat (cpyC cs k src p q) = (flat cs).take (k * 4) ++ flat ((src.drop p).take q) ++ (flat cs).drop ((k + q) * 4) := by
  unfold cpyC
  rw [flat_app, flat_app, flat_take cs k, flat_drop cs (k + q)]
 rw [e]
 simp only [List.toList_toArray]
 rw [List.take_append_of_le_length (by rw [flat_len]; omega), show k * 4 + q * 4 = (k + q) * 4 by omega, List.drop_append_of_le_length (by rw [flat_len]; omega)]
 simp
theorem wp_copyS {P : Program} {o : Oper} {a : Act} {w : World} {K : Act → World → Prop} {Q : Exit → Act → World → Prop} (d s : Operand) (dT sT : TypeId)
  (ho : o.op = .call { callee := .builtin .copy, args := #[d, s], argTypes := #[dT, sT] }) (elem : TypeId) (sz : Nat) (hu : P.underlying dT = some (.slice elem)) (hsz : (P.info? elem).map (·.size) = some sz)
  (g off dLen dCap : Nat) (ad : Addr) (sLen sCap : Nat) (hd : a.eval d = .slice (some ⟨g, off, none⟩) dLen dCap) (hs : a.eval s = .slice (some ad) sLen sCap)
  (cur : Array Value) (t : TypeId) (hg : w.heap[g]? = some (.cells cur t (0, 0))) (cs : List Value) (hn : cs.length = Nat.min sLen dLen * sz)
  (hsrc : ∀ j v, cs[j]? = some v → w.cell? (ad.add j) = some v) (hfit : off + cs.length ≤ cur.size) (h1 : ∀ v ∈ cs, v.oneCell' = true)
  (h : ∀ w', w'.heap[g]? = some (.cells (cur.toList.take off ++ cs ++ cur.toList.drop (off + cs.length)).toArray t (0, 0)) → w.grownBy w' (some g) → K (a.put o.dst (goInt (Nat.min sLen dLen))) w') : Oper.wp P o a w K Q := by
 have hrun := run_copy_rowS (P := P) w dT sT o.type elem g off dLen dCap ad sLen sCap cur t cs sz hu hsz hg hn hsrc hfit h1
 unfold Oper.wp
 unfold execOp
 simp only [ho, resolve, invoke, builtin, Sem.run_bind, Sem.run_pure, Result.andThen_ok, List.map_toArray, List.map_cons, List.map_nil, hd, hs, hrun]
 exact h _ (setRow_heap w g _ _ t _ hg) ⟨rfl, rfl, rfl, by simp [World.setRow], fun k hk hne => setRow_other w g k _ (fun e => hne (by rw [e]))⟩
end Go.Proofs.YtmkpefielfinjaaDoor

/- Compose: what a client sees, as plain lists. -/
namespace Go.Proofs.YtmkpefielfinjaaDoor
open Go.RowKit

abbrev St := ByteArray × Int × Int × Int
def Se (w : World) (g o : Nat) (s : St) : Prop :=
 w.cell? ⟨g, o, none⟩ = some (.string s.1) ∧ w.cell? ⟨g, o + 1, none⟩ = some (.int .i64 s.2.1) ∧ w.cell? ⟨g, o + 2, none⟩ = some (.int .i64 s.2.2.1) ∧ w.cell? ⟨g, o + 3, none⟩ = some (.int .i64 s.2.2.2)
theorem Se.up {w w' : World} {g o : Nat} {s : St} (h : Se w g o s) (hb : Bw w w') : Se w' g o s := ⟨cell_bw hb h.1, cell_bw hb h.2.1, cell_bw hb h.2.2.1, cell_bw hb h.2.2.2⟩
/-- What a list of statuses reads as. -/
def RS (w : World) (A : Option Addr) (n : Nat) (sts : List St) : Prop :=
 sts.length = n ∧ (0 < n → ∃ g o, A = some ⟨g, o, none⟩ ∧ ∀ i (h : i < sts.length), Se w g (o + i * 4) sts[i])
theorem RS.up {w w' : World} {A : Option Addr} {n : Nat} {sts : List St} (h : RS w A n sts) (hb : Bw w w') : RS w' A n sts := by
 refine ⟨h.1, fun h0 => ?_⟩
 obtain ⟨g, o, e, hx⟩ := h.2 h0
 exact ⟨g, o, e, fun i hi => (hx i hi).up hb⟩
def stOk (s : St) : Prop := s.1.size ≤ 140737488351232 ∧ (-9223372036854775808 ≤ s.2.2.1 ∧ s.2.2.1 ≤ 9223372036854775807) ∧ (-9223372036854775808 ≤ s.2.2.2 ∧ s.2.2.2 ≤ 9223372036854775807)
def lineS (s : St) (mark : Bool) : List UInt8 := lineL s.1 s.2.1 s.2.2.1 s.2.2.2 mark
def st0 : St := (⟨#[]⟩, 0, 0, 0)
/-- The lines of the first j jobs that are shown. -/
def jobsC (Cn : Nat) (sts : List St) (first sh : Nat) : Nat → List C4 → List C4
 | 0, cs => cs
 | j + 1, cs => listC (j * Cn) Cn (lineS (sts.getD (first + j) st0) (decide (first + j = sh))) (decide (first + j = sh)) (jobsC Cn sts first sh j cs)
theorem jobsC_len (Cn : Nat) (sts : List St) (first sh : Nat) (cs : List C4) : ∀ j, (jobsC Cn sts first sh j cs).length = cs.length
 | 0 => rfl
 | j + 1 => by unfold jobsC; rw [listC_len, jobsC_len Cn sts first sh cs j]
/-- The first i rows of the pane. -/
def paneC (Cn kk pC : Nat) (ps : List C4) : Nat → List C4 → List C4
 | 0, cs => cs
 | i + 1, cs => cpyC (paneC Cn kk pC ps i cs) ((kk + 1 + i) * Cn) ps (i * pC) (min pC Cn)
theorem cpyC_len {cs src : List C4} {k p q : Nat} (h1 : k + q ≤ cs.length) (h2 : p + q ≤ src.length) : (cpyC cs k src p q).length = cs.length := by
 unfold cpyC
 simp only [List.length_append, List.length_take, List.length_drop]
 omega
theorem paneC_len (Rn Cn kk pR pC : Nat) (ps cs : List C4) (hl : cs.length = Rn * Cn) (hp : ps.length = pR * pC) : ∀ i, kk + 1 + i ≤ Rn → i ≤ pR → (paneC Cn kk pC ps i cs).length = cs.length
 | 0, _, _ => rfl
 | i + 1, h1, h2 => by
  have ih := paneC_len Rn Cn kk pR pC ps cs hl hp i (by omega) (by omega)
  have q1 := Nat.mul_le_mul_right Cn (show kk + 1 + i + 1 ≤ Rn by omega)
  have q2 := Nat.mul_le_mul_right pC (show i + 1 ≤ pR by omega)
  rw [Nat.add_mul, Nat.one_mul] at q1 q2
  unfold paneC
  rw [cpyC_len (by rw [ih, hl]; omega) (by rw [hp]; omega), ih]
theorem Wb.copied {w' : World} {g : Nat} {cs src : List C4} {k p q : Nat} (h1 : k + q ≤ cs.length) (h2 : p + q ≤ src.length)
  (h : w'.heap[g]? = some (.cells ((flat cs).toArray.toList.take (k * 4) ++ flat ((src.drop p).take q) ++ (flat cs).toArray.toList.drop (k * 4 + (flat ((src.drop p).take q)).length)).toArray 64 (0, 0))) : Wb w' g (cpyC cs k src p q) := by
 have := Wc.copied (sp := []) (cs := cs) (src := src) (k := k) (p := p) (q := q) (g := g) (w' := w') h1 h2 (by simpa using h)
 unfold Wc at this
 unfold Wb
 simpa using this
theorem grown_trans {w w1 w2 : World} {r : Option Nat} (h1 : w.grownBy w1 r) (h2 : w1.grownBy w2 r) : w.grownBy w2 r :=
 ⟨h2.os.trans h1.os, h2.tape.trans h1.tape, h2.output.trans h1.output, Nat.le_trans h1.size h2.size, fun k hk hne => (h2.block k (Nat.lt_of_lt_of_le hk h1.size) hne).trans (h1.block k hk hne)⟩
/-- Which jobs: how many lines, which job is shown, and the first one. -/
def kkN (n Rn : Nat) : Nat := min n (Rn / 2)
def shN (n : Nat) (shown : Int) : Nat := if shown < 0 ∨ (n : Int) ≤ shown then 0 else shown.toNat
def firstN (kk sh : Nat) : Nat := if kk ≤ sh then sh - kk + 1 else 0
def baseC (Rn Cn : Nat) (sts : List St) (shown : Int) : List C4 :=
 putU (fun _ => 45) (kkN sts.length Rn * Cn) Cn (jobsC Cn sts (firstN (kkN sts.length Rn) (shN sts.length shown)) (shN sts.length shown) (kkN sts.length Rn) (List.replicate (Rn * Cn) blk))
def composeC (Rn Cn : Nat) (sts : List St) (shown : Int) (pv : Bool) (pR pC : Int) (ps : List C4) : List C4 :=
 if pv = true then paneC Cn (kkN sts.length Rn) pC.toNat ps (min (Rn - kkN sts.length Rn - 1) pR.toNat) (baseC Rn Cn sts shown) else baseC Rn Cn sts shown
theorem baseC_len (Rn Cn : Nat) (sts : List St) (shown : Int) : (baseC Rn Cn sts shown).length = Rn * Cn := by unfold baseC; rw [putU_len, jobsC_len, List.length_replicate]
/-- Where the cursor is seen: kept when the pane is valid, its cursor seen and in the part that is shown. -/
def curB (Rn Cn kk : Nat) (pv : Bool) (prow pcol : Int) (phid : Bool) : Bool := pv && !phid && decide (prow < (Rn : Int) - kk - 1 ∧ pcol < Cn)
theorem kk_lt (n : Nat) {Rn : Nat} (h : 1 ≤ Rn) : kkN n Rn < Rn ∧ kkN n Rn ≤ n := by unfold kkN; omega
theorem sh_lt {n : Nat} (shown : Int) (h : 0 < n) : shN n shown < n := by unfold shN; split <;> omega
end Go.Proofs.YtmkpefielfinjaaDoor
