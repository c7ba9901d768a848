/- Parts of the proof, one after the other. -/
import Derived.Test.YtmkpefielfinjaaDoorV32
import Derived.Laws.CopyRow
set_option linter.unusedSimpArgs false
set_option linter.unusedVariables false
/- The program's Fill, at whatever arguments. -/
namespace Go.Proofs.YtmkpefielfinjaaDoor
open Go.RowKit

end Go.Proofs.YtmkpefielfinjaaDoor

/- The program's slide: copies of elements of any size. -/
namespace Go.Proofs.YtmkpefielfinjaaDoor
open Go.RowKit

theorem run_copy_rowS {P : Program} (w : World) (dT sT ty elem : TypeId) (g o dLen dCap : Nat) (a : Addr) (sLen sCap : Nat) (cur : Array Value) (t : TypeId) (cs : List Value) (sz : Nat)
  (hu : P.underlying dT = some (.slice elem)) (hs : (P.info? elem).map (·.size) = some sz)
  (hg : w.heap[g]? = some (.cells cur t (0, 0))) (hn : cs.length = Nat.min sLen dLen * sz)
  (hsrc : ∀ j v, cs[j]? = some v → w.cell? (a.add j) = some v) (hfit : o + cs.length ≤ cur.size) (h1 : ∀ v ∈ cs, v.oneCell' = true) :
  (Builtin.copy_ #[dT, sT] ty #[.slice (some ⟨g, o, none⟩) dLen dCap, .slice (some a) sLen sCap]).run P w =
   .ok (goInt (Nat.min sLen dLen)) (w.setRow g (cur.toList.take o ++ cs ++ cur.toList.drop (o + cs.length)).toArray) := by
 have hf := run_firstCells_some (P := P) w sz (Nat.min sLen dLen) a sLen sCap cs hn hsrc
 have hst := run_storeCells_at P g o t cs 0 cur w hg (by simpa using hfit) h1
 cases hq : P.info? elem with
 | none => simp [hq] at hs
 | some i =>
  have hi : i.size = sz := by simpa [hq] using hs
  simp [Builtin.copy_, run_underlying hu, Builtin.lenOf, sizeOf, typeInfo, hq, hi]
  rw [hf]
  simp [hst]
theorem flat_take : ∀ (cs : List C4) (k : Nat), flat (cs.take k) = (flat cs).take (k * 4)
 | [], k => by simp [flat]
 | c :: cs, 0 => by simp [flat]
 | c :: cs, k + 1 => by
  rw [List.take_succ_cons, flat_cons, flat_cons, flat_take cs k, show (k + 1) * 4 = k * 4 + 1 + 1 + 1 + 1 by omega]
  rfl
theorem flat_drop : ∀ (cs : List C4) (k : Nat), flat (cs.drop k) = (flat cs).drop (k * 4)
 | [], k => by simp [flat]
 | c :: cs, 0 => by simp
 | c :: cs, k + 1 => by
  rw [List.drop_succ_cons, flat_cons, flat_drop cs k, show (k + 1) * 4 = k * 4 + 1 + 1 + 1 + 1 by omega]
  rfl
end Go.Proofs.YtmkpefielfinjaaDoor

/- The program's slide: the plain law. -/
namespace Go.Proofs.YtmkpefielfinjaaDoor
open Go.RowKit

end Go.Proofs.YtmkpefielfinjaaDoor

/- The program's slide. -/
namespace Go.Proofs.YtmkpefielfinjaaDoor
open Go.RowKit

theorem infoCs : (Tryd.prog.info? 64).map (·.size) = some 4 := by kernel_rfl
end Go.Proofs.YtmkpefielfinjaaDoor

/- The program's slide, where all the places are left. -/
namespace Go.Proofs.YtmkpefielfinjaaDoor
open Go.RowKit

theorem Wc.same {w' : World} {g o : Nat} {cs : List C4} {sp : List Value} (h : w'.heap[g]? = some (.cells ((flat cs ++ sp).toArray.toList.take o ++ [] ++ (flat cs ++ sp).toArray.toList.drop (o + ([] : List Value).length)).toArray 64 (0, 0))) : Wc w' g cs sp := by
 unfold Wc
 rw [h]
 simp
end Go.Proofs.YtmkpefielfinjaaDoor
