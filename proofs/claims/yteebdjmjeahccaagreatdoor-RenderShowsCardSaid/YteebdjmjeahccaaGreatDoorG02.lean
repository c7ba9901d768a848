/- Parts of the proof, one after the other. -/
import Derived.Test.YteebdjmjeahccaaGreatDoorC29
import Derived.Lib.SmallJoins
set_option linter.unusedSimpArgs false
set_option linter.unusedVariables false
set_option maxRecDepth 100000
set_option maxHeartbeats 16000000
namespace Go.Proofs.YteebdjmjeahccaaGreatDoor
open Go.RowKit
theorem own_ways {w : World} {b n s : Nat} {T : TypeId} {v : Value} {xs : List Value} (h : w.ownsRow b T s v n xs) : (v = .slice none 0 0 ∧ n = 0) ∨ ∃ g cap,v = .slice (some ⟨g,0,none⟩) n cap ∧ b ≤ g ∧ g < w.heap.size:=by
 rcases h.2 with h0|⟨g,cap,cur,hv,hb,hg,_⟩
 ·exact .inl h0
 ·exact .inr ⟨g,cap,hv,hb,(Array.getElem?_eq_some_iff.1 hg).1⟩
theorem raway_any (t : Trm) (L : Option Addr) (m cap : Nat) (w : World) (hH : Ls w t.HA t.Hn) (hH1 : t.Hn ≤ t.Hc) (hH2 : t.Hc ≤ 9223372036854775807) (hH3 : t.Hn ≤ 200) (hk : 0 ≤ t.keep ∧ t.keep ≤ 200) (hl : 0 ≤ t.lost ∧ t.lost ≤ 1000000000000) (hL : Ls w L m) (hm : m ≤ 31) (hmc : m ≤ cap) (hcap : cap ≤ 9223372036854775807) :
  Calls Tryz.prog 47 #[.agg t.vals.toArray,.slice L m cap] w fun e w' => ∃ (HA' : Option Addr) (Hn' Hc' : Nat) (lost' : Int),e = .returned (.agg ({ t with HA:=HA',Hn:=Hn',Hc:=Hc',lost:=lost' } : Trm).vals.toArray) ∧ Ls w' HA' Hn' ∧ (∀ ad,HA' = some ad → w.heap.size ≤ ad.block) ∧ Hn' ≤ Hc' ∧ Hc' ≤ 9223372036854775807 ∧ (Hn' : Int) ≤ t.keep ∧ t.lost ≤ lost' ∧ lost' ≤ t.lost + 231 ∧ Bw w w':=by
 obtain ⟨hs,hR,hh1⟩:=hH
 obtain ⟨ls,hR2,hl1⟩:=hL
 have HR:=Lib.hid hR
 have HR2:=Lib.hid hR2
 have HH1:=Lib.hid hh1
 have HL1:=Lib.hid hl1
 have hsl : hs.length = t.Hn:=hR.1
 have hll : ls.length = m:=hR2.1
 obtain ⟨hk0,hk2⟩:=hk
 obtain ⟨hl0,hl2⟩:=hl
 clear hR hR2 hh1 hl1
 obtain ⟨i0,hi,hi0,hi1,hi2⟩:=info_parts infoL
 go_enter Tryz.func47,Tryz.ntmps47
 go_upto_region 1 with (fail)
 generalize hw1 : (w.alloc (.cells t.vals.toArray 53)).alloc _ = w1
 obtain ⟨hb0,hb1,hbw,hz⟩:=sb2 hw1
 have HB0:=Lib.hid hb0
 have HB1:=Lib.hid (show ∃ old,Sb w1 (w.heap.size + 1) old 53 ∧ old.size = 26 from ⟨_,hb1,rfl⟩)
 have hz1 : w.heap.size + 1 < w1.heap.size:=by omega
 have hz0 : w.heap.size < w1.heap.size:=by omega
 have y24:=HB0.out.cell 24 (v:=.slice t.HA t.Hn t.Hc) rfl
 clear hw1 hb0 hb1 hz
 go_upto_region 2 with (first
  | (at_builtin;refine wpList_append_srcG (by rfl) (.tmp 7) (.tmp 9) 51 rfl w1.heap.size 23 i0 (.slice none 0 0) 1 24 Tryz.underlying51 hi hi0 hi1 hi2 rfl (by decide) (.slice (some ⟨w1.heap.size,0,none⟩) 0 0) 0 [] (by rfl) (own_made rfl (Nat.le_refl _)) t.HA t.Hn t.Hc (hs.map (fun v => v)) (by rfl) (by rw [List.length_map,hsl];omega) (fun e => (HR.out.none_ e).1) (Rd.news2 (by exact HR.out.up BWX)) (by rw [List.map_id'];exact HH1.out) (by unfold maxLen;omega) (by omega) SZX ?_;intro v1 w2 hown hg2;simp only [Nat.zero_add,List.nil_append] at hown;have hb2 : Bw w1 w2:=Bw.grown (show Bw w1 (w1.alloc (.cells #[] 23)) from BWX) hg2 (fun k hk => by have e:=Option.some.inj (show some w1.heap.size = some k from hk);omega);have HOWN:=Lib.hid hown;have HB2:=Lib.hid hb2;clear hown hg2 hb2)
  | (at_builtin;refine wpList_append_srcG (by rfl) (.tmp 10) (.tmp 11) 51 rfl w1.heap.size 23 i0 (.slice none 0 0) 1 24 Tryz.underlying51 hi hi0 hi1 hi2 rfl (by decide) v1 t.Hn (hs.map (fun v => v)) (by rfl) HOWN.out L m cap (ls.map (fun v => v)) (by rfl) (by rw [List.length_map,hll];omega) (fun e => (HR2.out.none_ e).1) (Rd.news2 (by exact HR2.out.up (Bw.trans hbw HB2.out))) (by rw [List.map_id'];exact HL1.out) (by unfold maxLen;omega) (by omega) (by have:=HB2.out.size;omega) ?_;intro v2 w3 hown2 hg3;have HB3:=Lib.hid (show Bw w1 w3 from Bw.grown HB2.out hg3 (fun k hk => (HOWN.out.lt k hk).1));have HO2:=Lib.hid hown2;clear hown2 hg3)
  | fail)
 rcases own_ways HO2.out with ⟨rfl,h00⟩|⟨g,cp,rfl,hg,hg2⟩
 ·have e0 : t.Hn = 0:=by omega
  obtain rfl : m = 0:=by omega
  have hb3:=HB3.out
  have hz3 : w.heap.size + 1 < w3.heap.size:=by have:=hb3.size;omega
  have hz03 : w.heap.size < w3.heap.size:=by omega
  have HB03:=Lib.hid (HB0.out.up hb3)
  have HB13:=Lib.hid (Exists.elim HB1.out (fun old h => (⟨old,h.1.up hb3,h.2⟩ : ∃ old,Sb w3 (w.heap.size + 1) old 53 ∧ old.size = 26)))
  have hbw3 : Bw w w3:=Bw.trans hbw hb3
  clear y24 HB0 HB1 HOWN HB2 HB3 hb3
  have y23:=HB03.out.cell 23 (v:=.int .i64 t.keep) rfl
  have y24:=HB03.out.cell 24 (v:=.slice t.HA t.Hn t.Hc) rfl
  have y25:=HB03.out.cell 25 (v:=.int .i64 t.lost) rfl
  have f24:=HB03.out.free 24
  have f25:=HB03.out.free 25
  go_upto_region 3 with (fail)
  have hwl : IntKind.i64.wrap t.lost = t.lost:=IntWalk.i64_in _ (by omega)
  have HAW:=Lib.hid (show ∀ v v' : Value,∃ old,Sb ((w3.setCell ⟨w.heap.size,24,none⟩ v).setCell ⟨w.heap.size,25,none⟩ v').drew (w.heap.size + 1) old 53 ∧ old.size = 26 from fun v v' => Exists.elim HB13.out (fun old h => ⟨old,Sb.up (w:=(w3.setCell ⟨w.heap.size,24,none⟩ v).setCell ⟨w.heap.size,25,none⟩ v') ((h.1.away (by omega) v).away (by omega) v') (Bw.drew (Bw.refl _)),h.2⟩))
  refine wp_region_held_drew (S:=(fun w' => True)) (by kernel_rfl) ?_ (fun hHeld => ?_)
  ·(try dsimp only);skip
  refine tkQ 0 ?_
  refine tkQ 1 ?_
  refine tkQ 2 ?_
  (try simp only [Act.put,zP1,zP2,zP3,zP4,zP5,zP6])
  refine tkQ 3 ?_
  refine tkQ 5 ?_
  (try simp only [Act.put,zP1,zP2,zP3,zP4,zP5,zP6])
  refine arO 4 (fun K hK => ?_)
  go_simp
  refine hK.out _ _ ?_ (fun hHeld => ?_)
  ·(try dsimp only);skip
  clear hK K
  (try simp only [Act.put,zP1,zP2,zP3,zP4,zP5,zP6])
  refine tkQ 6 ?_
  (try simp only [Act.put,zP1,zP2,zP3,zP4,zP5,zP6])
  refine tkQ 7 ?_
  (try simp only [Act.put,zP1,zP2,zP3,zP4,zP5,zP6])
  refine arO 8 (fun K hK => ?_)
  go_simp
  refine hK.out _ _ ?_ (fun hHeld => ?_)
  ·(try dsimp only);skip
  clear hK K
  (try simp only [Act.put,zP1,zP2,zP3,zP4,zP5,zP6])
  refine tkQ 9 ?_
  (try simp only [Act.put,zP1,zP2,zP3,zP4,zP5,zP6])
  refine arO 10 (fun K hK => ?_)
  go_simp
  refine hK.out _ _ ?_ (fun hHeld => ?_)
  ·(try dsimp only);skip
  clear hK K
  (try simp only [Act.put,zP1,zP2,zP3,zP4,zP5,zP6])
  refine wpAnyH_done (by kernel_rfl) ?_ _
  go_wp2_with (first
   | ((with_reducible refine wpList_load_tr ({ t with HA:=none,Hn:=0,Hc:=0,lost:=t.lost } : Trm) w.heap.size (.tmp 2) rfl rfl ?_ ?_ ?_);(focus rfl);(focus (exact ((HB03.out.set 24 _ rfl).set 25 _ rfl).up BWX)))
   | ((with_reducible refine wpList_store_tr ({ t with HA:=none,Hn:=0,Hc:=0,lost:=t.lost } : Trm) (w.heap.size + 1) (.tmp 4) (.tmp 28) rfl rfl ?_ ?_ ?_ ?_);(focus rfl);(focus rfl);(focus (exact HAW.out _ _));intro w4 hS4 hg4;have HS4:=Lib.hid hS4;have HG4:=Lib.hid hg4;clear hS4 hg4)
   | fail)
  refine bodyPost_ret (results_tr rfl _ _ (w.heap.size + 1) ({ t with HA:=none,Hn:=0,Hc:=0,lost:=t.lost } : Trm) (by rfl) HS4.out) rfl ?_
  have hbwE : Bw w w4:=Bw.grown (show Bw w _ from BWX) HG4.out (fun k hk => by cases hk;omega)
  refine ⟨none,0,0,t.lost,rfl,Ls.nil_ _ _,(fun ad e => by cases e),by omega,by omega,by omega,by omega,by omega,hbwE⟩
 have hb3:=HB3.out
 have hz3 : w.heap.size + 1 < w3.heap.size:=by have:=hb3.size;omega
 have hz03 : w.heap.size < w3.heap.size:=by omega
 have HB03:=Lib.hid (HB0.out.up hb3)
 have HB13:=Lib.hid (Exists.elim HB1.out (fun old h => (⟨old,h.1.up hb3,h.2⟩ : ∃ old,Sb w3 (w.heap.size + 1) old 53 ∧ old.size = 26)))
 have hbw3 : Bw w w3:=Bw.trans hbw hb3
 obtain ⟨A_,c_,e_,hcp1,hcp2⟩:=own_form HO2.out
 cases e_
 clear y24 HB0 HB1 HOWN HB2 HB3 hb3
 have y23:=HB03.out.cell 23 (v:=.int .i64 t.keep) rfl
 have y24:=HB03.out.cell 24 (v:=.slice t.HA t.Hn t.Hc) rfl
 have y25:=HB03.out.cell 25 (v:=.int .i64 t.lost) rfl
 have f24:=HB03.out.free 24
 have f25:=HB03.out.free 25
 go_upto_region 3 with (fail)
 obtain ⟨q,hq⟩ : ∃ q : Nat,(if t.keep < (t.Hn : Int) + (m : Int) then (t.Hn : Int) + (m : Int) - t.keep else 0) = (q : Int):=by
  split
  ·exact ⟨(t.Hn + m - t.keep).toNat,by omega⟩
  ·exact ⟨0,rfl⟩
 have hq1 : q ≤ t.Hn + m ∧ ((t.Hn + m - q : Nat) : Int) ≤ t.keep:=by
  split at hq <;> omega
 obtain ⟨hq1,hq2⟩:=hq1
 have hq3 : (q : Int) ≤ (t.Hn : Int) + (m : Int):=by omega
 simp only [hq]
 have hwl : IntKind.i64.wrap (t.lost + (q : Int)) = t.lost + (q : Int):=IntWalk.i64_in _ (by omega)
 have HQ:=Lib.hid hq
 have HAW:=Lib.hid (show ∀ v v' : Value,∃ old,Sb ((w3.setCell ⟨w.heap.size,24,none⟩ v).setCell ⟨w.heap.size,25,none⟩ v').drew (w.heap.size + 1) old 53 ∧ old.size = 26 from fun v v' => Exists.elim HB13.out (fun old h => ⟨old,Sb.up (w:=(w3.setCell ⟨w.heap.size,24,none⟩ v).setCell ⟨w.heap.size,25,none⟩ v') ((h.1.away (by omega) v).away (by omega) v') (Bw.drew (Bw.refl _)),h.2⟩))
 clear hq
 by_cases hcq : cp = q
 ·have hqq : q = t.Hn + m:=by omega
  have HQQ:=Lib.hid hqq
  clear hqq
  refine wp_region_held_drew (S:=(fun w' => True)) (by kernel_rfl) ?_ (fun hHeld => ?_)
  ·(try dsimp only);skip
  refine tkQ 0 ?_
  (try simp only [Act.put,zP1,zP2,zP3,zP4,zP5,zP6])
  refine tkQ 1 ?_
  refine tkQ 2 ?_
  refine tkQ 3 ?_
  (try simp only [Act.put,zP1,zP2,zP3,zP4,zP5,zP6])
  refine tkQ 5 ?_
  (try simp only [Act.put,zP1,zP2,zP3,zP4,zP5,zP6])
  refine arO 4 (fun K hK => ?_)
  go_simp
  refine hK.out _ _ ?_ (fun hHeld => ?_)
  ·(try dsimp only);skip
  clear hK K
  (try simp only [Act.put,zP1,zP2,zP3,zP4,zP5,zP6])
  refine tkQ 6 ?_
  refine tkQ 7 ?_
  (try simp only [Act.put,zP1,zP2,zP3,zP4,zP5,zP6])
  refine arO 8 (fun K hK => ?_)
  go_simp
  refine hK.out _ _ ?_ (fun hHeld => ?_)
  ·(try dsimp only);skip
  clear hK K
  (try simp only [Act.put,zP1,zP2,zP3,zP4,zP5,zP6])
  refine tkQ 9 ?_
  (try simp only [Act.put,zP1,zP2,zP3,zP4,zP5,zP6])
  refine arO 10 (fun K hK => ?_)
  go_simp
  refine hK.out _ _ ?_ (fun hHeld => ?_)
  ·(try dsimp only);skip
  clear hK K
  (try simp only [Act.put,zP1,zP2,zP3,zP4,zP5,zP6])
  refine wpAnyH_done (by kernel_rfl) ?_ _
  go_wp2_with (first
   | ((with_reducible refine wpList_load_tr ({ t with HA:=some ⟨g,0,none⟩,Hn:=t.Hn + m - q,Hc:=0,lost:=t.lost + q } : Trm) w.heap.size (.tmp 2) rfl rfl ?_ ?_ ?_);(focus rfl);(focus (exact ((HB03.out.set 24 _ rfl).set 25 _ rfl).up BWX)))
   | ((with_reducible refine wpList_store_tr ({ t with HA:=some ⟨g,0,none⟩,Hn:=t.Hn + m - q,Hc:=0,lost:=t.lost + q } : Trm) (w.heap.size + 1) (.tmp 4) (.tmp 28) rfl rfl ?_ ?_ ?_ ?_);(focus rfl);(focus rfl);(focus (exact HAW.out _ _));intro w4 hS4 hg4;have HS4:=Lib.hid hS4;have HG4:=Lib.hid hg4;clear hS4 hg4)
   | fail)
  refine bodyPost_ret (results_tr rfl _ _ (w.heap.size + 1) ({ t with HA:=some ⟨g,0,none⟩,Hn:=t.Hn + m - q,Hc:=0,lost:=t.lost + q } : Trm) (by rfl) HS4.out) rfl ?_
  have hO4 : w4.ownsRow _ _ 1 _ _ _:=(((own_set_below (own_set_below HO2.out (by omega) _) (by omega) _).bw (Bw.drew (Bw.refl _))).kept HG4.out (.inr (by simp only [Value.ownBlock];intro e;have:=Option.some.inj e;omega)))
  have hbwE : Bw w w4:=Bw.grown (show Bw w _ from BWX) HG4.out (fun k hk => by cases hk;omega)
  refine ⟨some ⟨g,0,none⟩,t.Hn + m - q,0,t.lost + q,rfl,?_,fun ad e => by cases e;dsimp only;omega,by omega,by omega,hq2,by omega,by omega,hbwE⟩
  rw [show t.Hn + m - q = 0 by have:=HQQ.out;omega]
  exact Ls.nil_ _ _
 ·have hcq1 : ¬ q = cp:=fun e => hcq e.symm
  refine wp_region_held_drew (S:=(fun w' => True)) (by kernel_rfl) ?_ (fun hHeld => ?_)
  ·(try dsimp only);skip
  refine tkQ 0 ?_
  refine tkQ 1 ?_
  (try simp only [Act.put,zP1,zP2,zP3,zP4,zP5,zP6])
  refine tkQ 2 ?_
  refine tkQ 3 ?_
  refine tkQ 5 ?_
  (try simp only [Act.put,zP1,zP2,zP3,zP4,zP5,zP6])
  refine arO 4 (fun K hK => ?_)
  go_simp
  refine hK.out _ _ ?_ (fun hHeld => ?_)
  ·(try dsimp only);skip
  clear hK K
  (try simp only [Act.put,zP1,zP2,zP3,zP4,zP5,zP6])
  refine tkQ 6 ?_
  refine tkQ 7 ?_
  (try simp only [Act.put,zP1,zP2,zP3,zP4,zP5,zP6])
  refine arO 8 (fun K hK => ?_)
  go_simp
  refine hK.out _ _ ?_ (fun hHeld => ?_)
  ·(try dsimp only);skip
  clear hK K
  (try simp only [Act.put,zP1,zP2,zP3,zP4,zP5,zP6])
  refine tkQ 9 ?_
  (try simp only [Act.put,zP1,zP2,zP3,zP4,zP5,zP6])
  refine arO 10 (fun K hK => ?_)
  go_simp
  refine hK.out _ _ ?_ (fun hHeld => ?_)
  ·(try dsimp only);skip
  clear hK K
  (try simp only [Act.put,zP1,zP2,zP3,zP4,zP5,zP6])
  refine wpAnyH_done (by kernel_rfl) ?_ _
  go_wp2_with (first
   | ((with_reducible refine wpList_load_tr ({ t with HA:=some ⟨g,q,none⟩,Hn:=t.Hn + m - q,Hc:=(cp - q),lost:=t.lost + q } : Trm) w.heap.size (.tmp 2) rfl rfl ?_ ?_ ?_);(focus rfl);(focus (exact ((HB03.out.set 24 _ rfl).set 25 _ rfl).up BWX)))
   | ((with_reducible refine wpList_store_tr ({ t with HA:=some ⟨g,q,none⟩,Hn:=t.Hn + m - q,Hc:=(cp - q),lost:=t.lost + q } : Trm) (w.heap.size + 1) (.tmp 4) (.tmp 28) rfl rfl ?_ ?_ ?_ ?_);(focus rfl);(focus rfl);(focus (exact HAW.out _ _));intro w4 hS4 hg4;have HS4:=Lib.hid hS4;have HG4:=Lib.hid hg4;clear hS4 hg4)
   | fail)
  refine bodyPost_ret (results_tr rfl _ _ (w.heap.size + 1) ({ t with HA:=some ⟨g,q,none⟩,Hn:=t.Hn + m - q,Hc:=(cp - q),lost:=t.lost + q } : Trm) (by rfl) HS4.out) rfl ?_
  have hO4 : w4.ownsRow _ _ 1 _ _ _:=(((own_set_below (own_set_below HO2.out (by omega) _) (by omega) _).bw (Bw.drew (Bw.refl _))).kept HG4.out (.inr (by simp only [Value.ownBlock];intro e;have:=Option.some.inj e;omega)))
  have hbwE : Bw w w4:=Bw.grown (show Bw w _ from BWX) HG4.out (fun k hk => by cases hk;omega)
  have hrd:=own_rd (f:=fun v => v) (xs:=hs.map (fun v => v) ++ ls.map (fun v => v)) (by rw [List.map_id'];exact hO4)
  have hdr:=hrd.drop q hq1
  refine ⟨some ⟨g,q,none⟩,t.Hn + m - q,(cp - q),t.lost + q,rfl,?_,fun ad e => by cases e;dsimp only;omega,by omega,by omega,hq2,by omega,by omega,hbwE⟩
  refine ⟨(hs.map (fun v => v) ++ ls.map (fun v => v)).drop q,?_,fun v hv => ?_⟩
  ·have e1 : (⟨g,0,none⟩ : Addr).add q = ⟨g,q,none⟩:=by unfold Addr.add;split <;> simp_all
   rw [e1] at hdr
   exact hdr
  ·have hv2:=List.mem_of_mem_drop hv
   rcases List.mem_append.mp hv2 with h|h
   ·exact HH1.out v (by simpa using h)
   ·exact HL1.out v (by simpa using h)
end Go.Proofs.YteebdjmjeahccaaGreatDoor
