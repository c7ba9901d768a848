/- Parts of the proof, one after the other. -/
import Derived.Test.YtmkpefielfinjaaDoorF43
import Derived.Test.YtmkpefielfinjaaDoorF09
set_option linter.unusedSimpArgs false
set_option linter.unusedVariables false
/- The program's slide by 0; slide at all arguments. -/
namespace Go.Proofs.YtmkpefielfinjaaDoor
open Go.RowKit

end Go.Proofs.YtmkpefielfinjaaDoor

/- Plain laws: rows slid are rows scrolled, a row's cells slid are cells shifted. -/
namespace Go.Proofs.YtmkpefielfinjaaDoor
open Go.RowKit

end Go.Proofs.YtmkpefielfinjaaDoor

/- Resize: the cells that it makes (plain); copies within drawn regions. -/
namespace Go.Proofs.YtmkpefielfinjaaDoor
open Go.RowKit

def cpyC (dst : List C4) (k : Nat) (src : List C4) (p q : Nat) : List C4 := dst.take k ++ (src.drop p).take q ++ dst.drop (k + q)
theorem Wc.copied {w' : World} {g : Nat} {cs src : List C4} {sp : List Value} {k p q : Nat} (h1 : k + q ≤ cs.length) (h2 : p + q ≤ src.length)
    (h : w'.heap[g]? = some (.cells ((flat cs ++ sp).toArray.toList.take (k * 4) ++ flat ((src.drop p).take q) ++ (flat cs ++ sp).toArray.toList.drop (k * 4 + (flat ((src.drop p).take q)).length)).toArray 64 (0, 0))) : Wc w' g (cpyC cs k src p q) sp := by
  have hq : ((src.drop p).take q).length = q := by simp only [List.length_take, List.length_drop]; omega
  unfold Wc
  rw [h, flat_len, hq]
  have e : flat (cpyC cs k src p q) = (flat cs).take (k * 4) ++ flat ((src.drop p).take q) ++ (flat cs).drop ((k + q) * 4) := by
    unfold cpyC
    rw [flat_app, flat_app, flat_take cs k, flat_drop cs (k + q)]
  rw [e]
  simp only [List.toList_toArray]
  rw [List.take_append_of_le_length (by rw [flat_len]; omega), show k * 4 + q * 4 = (k + q) * 4 by omega, List.drop_append_of_le_length (by rw [flat_len]; omega)]
  simp
theorem wp_copyS {P : Program} {o : Oper} {a : Act} {w : World} {K : Act → World → Prop} {Q : Exit → Act → World → Prop} (d s : Operand) (dT sT : TypeId)
    (ho : o.op = .call { callee := .builtin .copy, args := #[d, s], argTypes := #[dT, sT] }) (elem : TypeId) (sz : Nat) (hu : P.underlying dT = some (.slice elem)) (hsz : (P.info? elem).map (·.size) = some sz)
    (g off dLen dCap : Nat) (ad : Addr) (sLen sCap : Nat) (hd : a.eval d = .slice (some ⟨g, off, none⟩) dLen dCap) (hs : a.eval s = .slice (some ad) sLen sCap)
    (cur : Array Value) (t : TypeId) (hg : w.heap[g]? = some (.cells cur t (0, 0))) (cs : List Value) (hn : cs.length = Nat.min sLen dLen * sz)
    (hsrc : ∀ j v, cs[j]? = some v → w.cell? (ad.add j) = some v) (hfit : off + cs.length ≤ cur.size) (h1 : ∀ v ∈ cs, v.oneCell' = true)
    (h : ∀ w', w'.heap[g]? = some (.cells (cur.toList.take off ++ cs ++ cur.toList.drop (off + cs.length)).toArray t (0, 0)) → w.grownBy w' (some g) → K (a.put o.dst (goInt (Nat.min sLen dLen))) w') : Oper.wp P o a w K Q := by
  have hrun := run_copy_rowS (P := P) w dT sT o.type elem g off dLen dCap ad sLen sCap cur t cs sz hu hsz hg hn hsrc hfit h1
  unfold Oper.wp
  unfold execOp
  simp only [ho, resolve, invoke, builtin, Sem.run_bind, Sem.run_pure, Result.andThen_ok, List.map_toArray, List.map_cons, List.map_nil, hd, hs, hrun]
  exact h _ (setRow_heap w g _ _ t _ hg) ⟨rfl, rfl, rfl, by simp [World.setRow], fun k hk hne => setRow_other w g k _ (fun e => hne (by rw [e]))⟩
end Go.Proofs.YtmkpefielfinjaaDoor
