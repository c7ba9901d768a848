/- Parts of the proof, one after the other. -/
import Derived.Test.YtmkpefielfinjaaDoorQ09
import Derived.Test.YtmkpefielfinjaaDoorQ27
import Derived.Test.YtmkpefielfinjaaDoorQ41
import Derived.Test.YtmkpefielfinjaaDoorQ14
import Derived.Test.YtmkpefielfinjaaDoorQ32
set_option linter.unusedSimpArgs false
set_option linter.unusedVariables false
/- Lines without the spaces at their end; trim. -/
namespace Go.Proofs.YtmkpefielfinjaaDoor
open Go.RowKit Go.PlainAid

/-- A list of bytes without the spaces at its end. -/
def rtrim (l : List UInt8) : List UInt8 := (l.reverse.dropWhile (· == 32)).reverse
theorem rtrim_sp (l : List UInt8) : rtrim (l ++ [32]) = rtrim l := by
  unfold rtrim
  rw [List.reverse_append]
  simp
theorem rtrim_ns (l : List UInt8) (x : UInt8) (h : x ≠ 32) : rtrim (l ++ [x]) = l ++ [x] := by
  unfold rtrim
  rw [List.reverse_append]
  simp [h]
theorem rtrim_rep (l : List UInt8) : ∀ k, rtrim (l ++ List.replicate k 32) = rtrim l
  | 0 => by simp
  | k + 1 => by rw [List.replicate_succ', ← List.append_assoc, rtrim_sp, rtrim_rep l k]
theorem rtrim_take {l : List UInt8} {k : Nat} (hk : k < l.length) : (l[k] = 32 → rtrim (l.take (k + 1)) = rtrim (l.take k)) ∧ (l[k] ≠ 32 → rtrim (l.take (k + 1)) = l.take (k + 1)) := by
  rw [List.take_succ_eq_append_getElem hk]
  exact ⟨fun h => by rw [h, rtrim_sp], fun h => rtrim_ns _ _ h⟩
theorem bs_extract (l : List UInt8) (k : Nat) (h : k ≤ l.length) : (bs l).extract 0 k = bs (l.take k) := by
  apply ByteArray.ext
  unfold bs
  rw [ByteArray.data_extract]
  apply Array.ext'
  simp

set_option maxRecDepth 100000 in
set_option maxHeartbeats 1000000 in
theorem trim_any (L : List UInt8) (w : World) (hL : L.length ≤ 1000000000) : Calls Tryd.prog 22 #[.string (bs L)] w fun e w' => e = .returned (.string (bs (rtrim L))) ∧ w = w' := by
  have hbs : ∀ X : List UInt8, (bs X).size = X.length := fun _ => rfl
  go_enter Tryd.func22, Tryd.ntmps22
  go_wp2_with fail
  go_loopw [0] (fun s wr => ∃ k : Nat, s = .string (bs (L.take k)) ∧ k ≤ L.length ∧ rtrim (L.take k) = rtrim L ∧ w = wr) (fun s _ => match s with | .string b => b.size | _ => 0)
  case atStart => exact ⟨L.length, by rw [List.take_length], Nat.le_refl _, by rw [List.take_length], rfl⟩
  case round =>
    obtain ⟨k, rfl, hk, hrt, rfl⟩ := hrel
    have hsz : (bs (L.take k)).size = k := by rw [hbs, List.length_take]; omega
    rcases Nat.eq_zero_or_pos k with rfl | hk0
    · have HE := Lib.hid (show bs (rtrim L) = bs (L.take 0) by rw [← hrt]; rfl)
      go_wp2_with fail
      go_ret
      exact ⟨by rw [HE.out]; rfl, rfl⟩
    · obtain ⟨m, rfl⟩ : ∃ m, k = m + 1 := ⟨k - 1, by omega⟩
      have hm : m < L.length := by omega
      have hlt : m < (bs (L.take (m + 1))).size := by omega
      have hget : (((bs (L.take (m + 1)))[m]'hlt).toNat : Int) = (L[m].toNat : Int) := by
        have := chrN_get (L.take (m + 1)) m hlt
        rw [this]
        unfold chrN
        rw [List.getD_eq_getElem?_getD, List.getElem?_take, if_pos (by omega), List.getElem?_eq_getElem hm]
        rfl
      have hb := get_bt (bs (L.take (m + 1)))
      rw [hb] at hget
      have hext : (bs (L.take (m + 1))).extract 0 m = bs (L.take m) := by
        rw [bs_extract _ _ (by rw [List.length_take]; omega), List.take_take]
        congr 2
        omega
      have h256 := L[m].toNat_lt
      have hr2 := rtrim_take hm
      by_cases h32 : L[m] = 32
      · have e32 : bt (bs (L.take (m + 1))) m = 32 := by rw [hget, h32]; rfl
        have HR := Lib.hid ((hr2.1 h32).symm.trans hrt)
        clear hr2 hrt hget
        go_wp2_with fail
        go_roundw
        case rel => exact ⟨m, rfl, by omega, HR.out, trivial⟩
        case measure => show (bs (L.take m)).size < (bs (L.take (m + 1))).size; rw [hsz, hbs, List.length_take]; omega
      · have e32 : bt (bs (L.take (m + 1))) m ≠ 32 := by rw [hget]; intro e; exact h32 (UInt8.toNat_inj.1 (by simpa using (show L[m].toNat = 32 by omega)))
        have HE := Lib.hid (show bs (rtrim L) = bs (L.take (m + 1)) by rw [← hrt, hr2.2 h32])
        clear hr2 hrt hget
        go_wp2_with fail
        go_ret
        exact ⟨by rw [HE.out]; rfl, rfl⟩
end Go.Proofs.YtmkpefielfinjaaDoor

/- The reference's Text, at grids of plain characters. -/
namespace Go.Proofs.YtmkpefielfinjaaDoor
open Go.RowKit

theorem infoStr : (Tryd.prog.info? 9).map (fun i => (i.zero, i.size, i.bytes)) = some (some (.string ⟨#[]⟩), 1, 16) := by kernel_rfl
/-- A row of cells as bytes. -/
def rowB (row : List C4) : List UInt8 := row.map fun c => UInt8.ofNat c.1.toNat
theorem enc_ascii (r : Int) (h : 32 ≤ r ∧ r ≤ 126) : encN r = [((UInt8.ofNat r.toNat).toNat : Int)] := by
  have h1 : charB r = true := decide_eq_true (by omega)
  unfold encN
  rw [h1, if_pos rfl]
  unfold encC
  rw [if_pos (by omega), UInt8.toNat_ofNat']
  congr 1
  omega
def txtL (Rn Cn : Nat) (cs : List C4) (r : Nat) : ByteArray := bs (rtrim (rowB (rowF (Rn : Int) (Cn : Int) cs (r : Int))))
theorem rowF_len (Rn Cn : Nat) (cs : List C4) (r : Nat) (hl : cs.length = Rn * Cn) (hr : r < Rn) (hC : 1 ≤ Cn) : (rowF (Rn : Int) (Cn : Int) cs (r : Int)).length = Cn ∧ ∀ x ∈ rowF (Rn : Int) (Cn : Int) cs (r : Int), x ∈ cs := by
  have q := Nat.mul_le_mul_right Cn (show r + 1 ≤ Rn by omega)
  rw [Nat.add_mul, Nat.one_mul] at q
  unfold rowF
  have e : ((r : Int) * (Cn : Int)).toNat = r * Cn := by rw [← Int.natCast_mul]; exact Int.toNat_natCast _
  split
  · refine ⟨?_, fun x hx => List.mem_of_mem_drop (List.mem_of_mem_take hx)⟩
    rw [e, List.length_take, List.length_drop, Int.toNat_natCast]
    omega
  · rename_i h
    exfalso
    apply h
    refine ⟨by omega, by omega, by omega, ?_⟩
    have : (cs.length : Int) / (Cn : Int) = (Rn : Int) := by rw [hl, Int.natCast_mul]; exact Int.mul_ediv_cancel _ (by omega)
    omega
theorem byteCells_take (l : List UInt8) (i : Nat) (h : i < l.length) : Lib.byteCells (l.take (i + 1)) = Lib.byteCells (l.take i) ++ [.int .u8 (l[i].toNat : Int)] := by
  rw [List.take_succ_eq_append_getElem h, Lib.byteCells_append]
  rfl

set_option maxRecDepth 100000 in
set_option maxHeartbeats 4000000 in
theorem rtext_any (Rn Cn : Nat) (A : Option Addr) (n c : Nat) (cs : List C4) (row col : Int) (hid : Bool) (w : World) (hr : Rg w A n cs) (hn : n ≤ c) (hn3 : n ≤ 4398046511103) (hc : c ≤ 9223372036854775807) (hv : gridB Rn Cn cs = true) (has : ∀ x ∈ cs, 32 ≤ x.1 ∧ x.1 ≤ 126) (hR : Rn ≤ 30) :
    Calls Tryd.prog 21 #[.agg #[.int .i64 (Rn : Int), .int .i64 (Cn : Int), .slice A n c, .int .i64 row, .int .i64 col, .bool hid]] w fun e w' => ∃ A' c', e = .returned (.slice A' Rn c') ∧ Rn ≤ c' ∧ c' ≤ 9223372036854775807 ∧ Rd .string w' A' Rn ((List.range Rn).map (txtL Rn Cn cs)) ∧ Bw w w' := by
  have HR := Lib.hid hr
  have HV := Lib.hid hv
  have HAS := Lib.hid has
  clear hr hv has
  obtain ⟨i0, qi, qz0, qz1, qz2⟩ := info_parts infoB
  obtain ⟨j0, qj, qj0, qj1, qj2⟩ := info_parts infoStr
  go_enter Tryd.func21, Tryd.ntmps21
  go_upto_region 1 with (fail)
  generalize hw0 : w.alloc _ = w0
  obtain ⟨hb0, hbw0, hz0w⟩ := sb1 hw0
  have HB0 := Lib.hid (show Sb w0 w.heap.size #[.int .i64 (Rn : Int), .int .i64 (Cn : Int), .slice A n c, .int .i64 row, .int .i64 col, .bool hid] 34 from hb0)
  clear hw0 hb0
  go_wp2_with fail
  go_loopw [3, 4] (fun s3 i wr => ∃ k : Nat, i = .int .i64 (k : Int) ∧ k ≤ Rn ∧ wr.ownsRow w0.heap.size 9 1 s3 k (((List.range k).map (txtL Rn Cn cs)).map .string) ∧ Bw w0 wr) (fun _ i _ => Rn - (intOf i).toNat)
  case atStart => exact ⟨0, rfl, by omega, World.ownsRow_nil _ _ _ _, BWX⟩
  case round =>
    obtain ⟨k, rfl, hk, hown, hbr⟩ := hrel
    obtain ⟨A3, c3, rfl, hc3, hc3m⟩ := own_form hown
    have HO := Lib.hid hown
    have HBR := Lib.hid hbr
    have hzr := hbr.size
    have HBx := Lib.hid (HB0.out.up hbr)
    clear hown hbr
    have x0 := HBx.out.cell 0 (v := .int .i64 (Rn : Int)) rfl
    have x1 := HBx.out.cell 1 (v := .int .i64 (Cn : Int)) rfl
    have x2 := HBx.out.cell 2 (v := .slice A n c) rfl
    by_cases hlt : k < Rn
    · obtain ⟨rw5, hrw⟩ : ∃ r, r = rowF (Rn : Int) (Cn : Int) cs (k : Int) := ⟨_, rfl⟩
      obtain ⟨p1, p2, p3, p4, p5⟩ : 1 ≤ Rn ∧ Rn ≤ 30 ∧ 1 ≤ Cn ∧ Cn ≤ 100 ∧ cs.length = Rn * Cn := by
        obtain ⟨a, b, e1, e2, e3, e4, e5, e6, e7, -⟩ := gridB_out HV.out
        have h1 : Rn = a := by omega
        have h2 : Cn = b := by omega
        subst h1 h2
        exact ⟨e3, e4, e5, e6, e7⟩
      have hrl := rowF_len Rn Cn cs k p5 hlt p3
      rw [← hrw] at hrl
      obtain ⟨rb, hrb⟩ : ∃ r, r = rowB rw5 := ⟨_, rfl⟩
      have hrbl : rb.length = Cn := by rw [hrb]; unfold rowB; rw [List.length_map, hrl.1]
      have hch : ∀ i (h : i < rb.length) (h2 : i < rw5.length), 32 ≤ (rw5[i]).1 ∧ (rw5[i]).1 ≤ 126 ∧ rb[i] = UInt8.ofNat (rw5[i]).1.toNat := fun i h h2 => by
        have := HAS.out _ (hrl.2 _ (List.getElem_mem h2))
        refine ⟨this.1, this.2, ?_⟩
        subst hrb
        simp only [rowB, List.getElem_map]
      have HCH := Lib.hid hch
      have HRL := Lib.hid hrl
      have HRW := Lib.hid hrw
      have HTX := Lib.hid (show txtL Rn Cn cs k = bs (rtrim rb) by unfold txtL; rw [← hrw, ← hrb])
      clear hch hrl hrw hrb
      go_wp2_with (first
        | (go_at_call 40; refine (rgvalid_any (Rn : Int) (Cn : Int) A n c cs _ (HR.out.up (Bw.trans hbw0 HBR.out)) hn hc).mono ?_; rintro ee w2 ⟨rfl, hb2⟩; rw [HV.out]; clear x0 x1 x2; have HBx2 := Lib.hid (HBx.out.up hb2); have x0 := HBx2.out.cell 0 (v := .int .i64 (Rn : Int)) rfl; have x1 := HBx2.out.cell 1 (v := .int .i64 (Cn : Int)) rfl; have x2 := HBx2.out.cell 2 (v := .slice A n c) rfl; have HB2 := Lib.hid (Bw.trans HBR.out hb2); have hz2 := hb2.size; have HO2 := Lib.hid (HO.out.bw hb2); clear hb2 HV)
        | (go_at_call 39; refine (rrow_any (Rn : Int) (Cn : Int) A n c cs (k : Int) _ (HR.out.up (Bw.trans hbw0 HB2.out)) hn hn3 hc).mono ?_; rintro ee w3 ⟨A5, n5, c5, rfl, hr5, hn5, hc5, hnew5, hb3⟩; rw [← HRW.out] at hr5; have h5l : n5 = Cn := hr5.1.symm.trans HRL.out.1; subst h5l; have HR5 := Lib.hid hr5; have HO3 := Lib.hid (HO2.out.bw hb3); have HB3 := Lib.hid (Bw.trans HB2.out hb3); have hz3 := hb3.size; clear hr5 hb3 hnew5 x0 x1 x2)
        | fail)
      go_loopw [6] (fun s6 wq => ∃ q : Nat, s6 = .int .i64 (q : Int) ∧ q ≤ n5 ∧ rtrim (rb.take q) = rtrim rb ∧ w3 = wq) (fun s6 _ => (intOf s6).toNat)
      case atStart => exact ⟨n5, rfl, Nat.le_refl _, by rw [← hrbl, List.take_length], rfl⟩
      case round =>
        obtain ⟨q, rfl, hq, hrt, rfl⟩ := hrel
        have hstop : ∀ (wq : World), True := fun _ => trivial
        rcases Nat.eq_zero_or_pos q with rfl | hq0
        · have HQT := Lib.hid (show rb.take 0 = rtrim rb by rw [← hrt]; rfl)
          clear hrt
          go_wp2_with fail
          go_loopw [7, 8] (fun s7 i wq => ∃ j : Nat, i = .int .i64 (j : Int) ∧ j ≤ 0 ∧ wq.ownsRow w3.heap.size 5 1 s7 j (Lib.byteCells (rb.take j)) ∧ Bw w3 wq) (fun _ i _ => 0 - (intOf i).toNat)
          case atStart => exact ⟨0, rfl, by omega, World.ownsRow_nil _ _ _ _, Bw.refl _⟩
          case round =>
            obtain ⟨j, rfl, hj, hob, hbq⟩ := hrel
            obtain ⟨A7, c7, rfl, hc7, hc7m⟩ := own_form hob
            have HOB := Lib.hid hob
            have HBQ := Lib.hid hbq
            have hzq := hbq.size
            clear hob hbq
            by_cases hjl : j < 0
            · exact absurd hjl (Nat.not_lt_zero _)
            · obtain rfl : j = 0 := by omega
              have hcv := own_conv (l := rtrim rb) HOB.out (by rw [HQT.out])
              have HOQ := Lib.hid (HO3.out.bw HBQ.out)
              have hbwq := Bw.trans HB3.out HBQ.out
              go_wp2_with (first
                | (at_builtin; refine wpList_append_srcG (by rfl) (.tmp 53) (.tmp 56) 66 rfl w0.heap.size 9 j0 (.string ⟨#[]⟩) 1 16 Tryd.underlying66 qj qj0 qj1 qj2 rfl (by decide) (.slice A3 k c3) k _ (by rfl) (HOQ.out.alloc _) (some ⟨_, 0, none⟩) 1 1 [.string (bs (rtrim rb))] (by rfl) rfl (fun e => by cases e) (fun ad e => by cases e; exact cell_one_new _ _ _) (by simp; rfl) (by unfold maxLen; omega) (by omega) (by have := hbwq.size; simp; omega) ?_; intro v9 w9 hown9 hg9; have hb9 : Bw w0 w9 := Bw.row (Bw.alloc hbwq _) (HOQ.out.alloc _) hg9 (Nat.le_refl _))
                | fail)
              go_roundw
              case rel =>
                refine ⟨k + 1, by go_num, by omega, ?_, hb9⟩
                rw [List.range_succ, List.map_append, List.map_append, List.map_singleton, List.map_singleton, HTX.out]
                exact hown9
              case measure => simp [intOf]; omega
        · obtain ⟨m, hqm⟩ : ∃ m : Nat, (q : Int) - 1 = (m : Int) := ⟨q - 1, by omega⟩
          have HQ1 := Lib.hid (show m + 1 = q by omega)
          obtain ⟨g5, o5, rfl, hx5⟩ := HR5.out.2 (by omega)
          have hm5 : m < rw5.length := by rw [HRL.out.1]; omega
          have x5 := (hx5 m hm5).1
          have hmr : m < rb.length := by omega
          obtain ⟨a1, a2, a3⟩ := HCH.out m hmr hm5
          have hr2 := rtrim_take hmr
          rw [HQ1.out] at hr2
          by_cases h32 : (rw5[m]).1 = 32
          · have HQ := Lib.hid ((hr2.1 (by rw [a3, h32]; rfl)).symm.trans hrt)
            rw [h32] at x5
            clear hr2 hrt hx5 a1 a2 a3 h32
            go_wp2_with fail
            go_roundw
            case rel => exact ⟨m, by go_num, by omega, HQ.out, trivial⟩
            case measure => simp [intOf]; omega
          · have HQT := Lib.hid (show rb.take q = rtrim rb by
              rw [← hrt, hr2.2 (fun e => h32 (by
                rw [a3] at e
                have := congrArg UInt8.toNat e
                rw [UInt8.toNat_ofNat'] at this
                have h9 : (32 : UInt8).toNat = 32 := rfl
                omega))])
            have hbq : ((rw5[m]).1 == 32) = false := by simp [h32]
            clear hr2 hrt hx5 a3
            go_wp2_with fail
            go_loopw [7, 8] (fun s7 i wq => ∃ j : Nat, i = .int .i64 (j : Int) ∧ j ≤ q ∧ wq.ownsRow w3.heap.size 5 1 s7 j (Lib.byteCells (rb.take j)) ∧ Bw w3 wq) (fun _ i _ => q - (intOf i).toNat)
            case atStart => exact ⟨0, rfl, by omega, World.ownsRow_nil _ _ _ _, Bw.refl _⟩
            case round =>
              obtain ⟨j, rfl, hj, hob, hbq⟩ := hrel
              obtain ⟨A7, c7, rfl, hc7, hc7m⟩ := own_form hob
              have HOB := Lib.hid hob
              have HBQ := Lib.hid hbq
              have hzq := hbq.size
              clear hob hbq
              by_cases hjl : j < q
              · obtain ⟨g6, o6, e6, hx6⟩ := (HR5.out.up HBQ.out).2 (by omega)
                cases e6
                have hj5 : j < rw5.length := by rw [HRL.out.1]; omega
                have x6 := (hx6 j hj5).1
                obtain ⟨a1, a2, a3⟩ := HCH.out j (by omega) hj5
                have hjr : j < rb.length := by omega
                have HBT := Lib.hid (byteCells_take rb j hjr)
                have HEN := Lib.hid (show encN (rw5[j]).1 = [((rb[j]).toNat : Int)] by rw [a3]; exact enc_ascii _ ⟨a1, a2⟩)
                clear hx6 a3
                go_wp2_with (first
                  | (go_at_call 41; refine (refenc_any _ _).mono ?_; rintro ee w6 ⟨v6, rfl, hs6, hb6⟩; rw [HEN.out] at hs6; obtain ⟨A6, c6, rfl, hc6, hc6m, hr6⟩ := hs6.get (N := 1) rfl; have HO6 := Lib.hid (HOB.out.bw hb6); have HR6 := Lib.hid hr6; have HB6 := Lib.hid (Bw.trans HBQ.out hb6); have hz6 := hb6.size; clear hs6 hb6 hr6)
                  | (at_builtin; refine wpList_append_srcG (by rfl) (.tmp 45) (.tmp 51) 48 rfl w3.heap.size 5 i0 (.int .u8 0) 1 1 Tryd.underlying48 qi qz0 qz1 qz2 rfl (by decide) (.slice A7 j c7) j _ (by rfl) HO6.out A6 1 c6 [.int .u8 ((rb[j]).toNat : Int)] (by rfl) rfl (fun e => (HR6.out.none_ e).1) HR6.out.news2 (by simp; rfl) (by unfold maxLen; omega) (by omega) (by omega) ?_; intro v8 w8 hown8 hg8; have hb8 : Bw w3 w8 := Bw.row HB6.out HO6.out hg8 (Nat.le_refl _))
                  | fail)
                go_roundw
                case rel => exact ⟨j + 1, by go_num, by omega, by rw [HBT.out]; exact hown8, hb8⟩
                case measure => simp [intOf]; omega
              · obtain rfl : j = q := by omega
                have hcv := own_conv (l := rtrim rb) HOB.out (by rw [HQT.out])
                have HOQ := Lib.hid (HO3.out.bw HBQ.out)
                have hbwq := Bw.trans HB3.out HBQ.out
                go_wp2_with (first
                  | (at_builtin; refine wpList_append_srcG (by rfl) (.tmp 53) (.tmp 56) 66 rfl w0.heap.size 9 j0 (.string ⟨#[]⟩) 1 16 Tryd.underlying66 qj qj0 qj1 qj2 rfl (by decide) (.slice A3 k c3) k _ (by rfl) (HOQ.out.alloc _) (some ⟨_, 0, none⟩) 1 1 [.string (bs (rtrim rb))] (by rfl) rfl (fun e => by cases e) (fun ad e => by cases e; exact cell_one_new _ _ _) (by simp; rfl) (by unfold maxLen; omega) (by omega) (by have := hbwq.size; simp; omega) ?_; intro v9 w9 hown9 hg9; have hb9 : Bw w0 w9 := Bw.row (Bw.alloc hbwq _) (HOQ.out.alloc _) hg9 (Nat.le_refl _))
                  | fail)
                go_roundw
                case rel =>
                  refine ⟨k + 1, by go_num, by omega, ?_, hb9⟩
                  rw [List.range_succ, List.map_append, List.map_append, List.map_singleton, List.map_singleton, HTX.out]
                  exact hown9
                case measure => simp [intOf]; omega
    · have hk2 : ¬ (k : Int) < (Rn : Int) := by omega
      obtain rfl : k = Rn := by omega
      go_wp2_with fail
      go_ret
      exact ⟨A3, c3, rfl, hc3, hc3m, own_rd HO.out, Bw.trans hbw0 HBR.out⟩
end Go.Proofs.YtmkpefielfinjaaDoor

/- Compose: the cells are valid; a row's text is the line of its job. -/
namespace Go.Proofs.YtmkpefielfinjaaDoor
open Go.RowKit

theorem rune_ok (x : Int) (h : 32 ≤ x ∧ x ≤ 126) : runeB x = true := decide_eq_true (.inl h)
theorem cell_ok (x : Int) (h : 32 ≤ x ∧ x ≤ 126) : cellB (x, 4, 0, 0) = true ∧ cellB (x, 0, 0, 0) = true := by
  unfold cellB
  simp only [rune_ok x h, Bool.true_and]
  exact ⟨rfl, rfl⟩
theorem jobF_ok (sts : List St) (first sh r c : Nat) : cellB (jobF sts first sh r c) = true ∧ 32 ≤ (jobF sts first sh r c).1 ∧ (jobF sts first sh r c).1 ≤ 126 := by
  have hb : 32 ≤ (if c < (lineS (sts.getD (first + r) st0) (decide (first + r = sh))).length then chrN (lineS (sts.getD (first + r) st0) (decide (first + r = sh))) c else 32) ∧ (if c < (lineS (sts.getD (first + r) st0) (decide (first + r = sh))).length then chrN (lineS (sts.getD (first + r) st0) (decide (first + r = sh))) c else 32) ≤ 126 := by
    split
    · rename_i h
      exact chrN_bd _ _ _ _ _ _ h
    · omega
  unfold jobF
  refine ⟨?_, hb⟩
  by_cases h : first + r = sh
  · rw [if_pos h]
    exact (cell_ok _ hb).1
  · rw [if_neg h]
    exact (cell_ok _ hb).2
theorem baseF_ok (kk : Nat) (sts : List St) (first sh r c : Nat) : cellB (baseF kk sts first sh r c) = true ∧ 32 ≤ (baseF kk sts first sh r c).1 ∧ (baseF kk sts first sh r c).1 ≤ 126 := by
  unfold baseF
  split
  · exact jobF_ok _ _ _ _ _
  · split
    · exact ⟨rfl, by decide, by decide⟩
    · exact ⟨rfl, by decide, by decide⟩
theorem baseC_mem (Rn Cn : Nat) (sts : List St) (shown : Int) (hR : 0 < Rn) (hC : 0 < Cn) : ∀ x ∈ baseC Rn Cn sts shown, cellB x = true ∧ 32 ≤ x.1 ∧ x.1 ≤ 126 := by
  intro x hx
  obtain ⟨i, hi, rfl⟩ := List.getElem_of_mem hx
  have hi2 : i < Rn * Cn := by rw [← baseC_len Rn Cn sts shown]; exact hi
  have e := baseC_at Rn Cn sts shown hR hC i hi2
  rw [List.getD_eq_getElem?_getD, List.getElem?_eq_getElem hi] at e
  simp only [Option.getD_some] at e
  rw [e]
  exact baseF_ok _ _ _ _ _ _
theorem baseC_grid (Rn Cn : Nat) (sts : List St) (shown : Int) (h1 : 1 ≤ Rn) (h2 : Rn ≤ 30) (h3 : 1 ≤ Cn) (h4 : Cn ≤ 100) : gridB (Rn : Int) (Cn : Int) (baseC Rn Cn sts shown) = true := by
  unfold gridB
  rw [Bool.and_eq_true]
  refine ⟨decide_eq_true ⟨by omega, by omega, by omega, by omega, by rw [baseC_len]; exact Int.natCast_mul _ _⟩, ?_⟩
  rw [List.all_eq_true]
  exact fun x hx => (baseC_mem Rn Cn sts shown (by omega) (by omega) x hx).1
theorem lineS_len (s : St) (hs : stOk s) (mark : Bool) : (lineS s mark).length ≤ s.1.size + 57 := by
  obtain ⟨s0, s1, s2⟩ := hs
  have h1 := wordB_size s.2.1
  have h2 := Lib.itoa_length_le s.2.2.1 s1.1 s1.2
  have h3 := Lib.itoa_length_le s.2.2.2 s2.1 s2.2
  have h4 := nameL_len s.1
  have h5 : (wordB s.2.1).data.toList.length = (wordB s.2.1).size := rfl
  have h6 : (runL s.2.2.2).length ≤ 23 := by unfold runL; split <;> simp <;> omega
  unfold lineS lineL headL
  simp only [List.length_append, List.length_cons, List.length_nil]
  omega
theorem chrN_byte (L : List UInt8) (k : Nat) (h : k < L.length) : UInt8.ofNat (chrN L k).toNat = L[k] := by
  unfold chrN
  rw [List.getD_eq_getElem?_getD, List.getElem?_eq_getElem h]
  simp
/-- A row that shows a job reads as its line, and spaces behind it. -/
theorem row_line (Rn Cn : Nat) (sts : List St) (shown : Int) (h1 : 1 ≤ Rn) (h3 : 1 ≤ Cn) (r : Nat) (hr : r < kkN sts.length Rn) (L : List UInt8)
    (hL : L = lineS (sts.getD (firstN (kkN sts.length Rn) (shN sts.length shown) + r) st0) (decide (firstN (kkN sts.length Rn) (shN sts.length shown) + r = shN sts.length shown))) (hlen : L.length ≤ Cn) :
    rtrim (rowB (rowF (Rn : Int) (Cn : Int) (baseC Rn Cn sts shown) (r : Int))) = rtrim L := by
  have hk := kk_lt sts.length h1
  have q := Nat.mul_le_mul_right Cn (show r + 1 ≤ Rn by omega)
  rw [Nat.add_mul, Nat.one_mul] at q
  have hl := baseC_len Rn Cn sts shown
  have hrl := rowF_len Rn Cn (baseC Rn Cn sts shown) r hl (by omega) h3
  have hrow : rowB (rowF (Rn : Int) (Cn : Int) (baseC Rn Cn sts shown) (r : Int)) = L ++ List.replicate (Cn - L.length) 32 := by
    refine List.ext_getElem (by simp only [rowB, List.length_map, hrl.1, List.length_append, List.length_replicate]; omega) (fun i a b => ?_)
    have hiC : i < Cn := by simpa [rowB, hrl.1] using a
    have e1 : rowF (Rn : Int) (Cn : Int) (baseC Rn Cn sts shown) (r : Int) = ((baseC Rn Cn sts shown).drop (r * Cn)).take Cn := by
      unfold rowF
      have e : ((r : Int) * (Cn : Int)).toNat = r * Cn := by rw [← Int.natCast_mul]; exact Int.toNat_natCast _
      have e2 : ((baseC Rn Cn sts shown).length : Int) / (Cn : Int) = (Rn : Int) := by rw [hl, Int.natCast_mul]; exact Int.mul_ediv_cancel _ (by omega)
      rw [if_pos (by omega), e, Int.toNat_natCast]
    have hir : r * Cn + i < Rn * Cn := by omega
    have e2 := baseC_at Rn Cn sts shown (by omega) (by omega) (r * Cn + i) hir
    have d1 : (r * Cn + i) / Cn = r := by rw [Nat.mul_comm, Nat.mul_add_div (by omega), Nat.div_eq_of_lt hiC, Nat.add_zero]
    have d2 : (r * Cn + i) % Cn = i := by rw [Nat.mul_comm, Nat.mul_add_mod, Nat.mod_eq_of_lt hiC]
    rw [d1, d2, List.getD_eq_getElem?_getD, List.getElem?_eq_getElem (by rw [hl]; exact hir)] at e2
    simp only [Option.getD_some] at e2
    have e3 : (rowB (rowF (Rn : Int) (Cn : Int) (baseC Rn Cn sts shown) (r : Int)))[i] = UInt8.ofNat ((baseC Rn Cn sts shown)[r * Cn + i]'(by rw [hl]; exact hir)).1.toNat := by
      simp only [rowB, List.getElem_map, e1, List.getElem_take, List.getElem_drop]
    rw [e3, e2]
    unfold baseF
    rw [if_pos hr]
    unfold jobF
    rw [← hL]
    by_cases hi : i < L.length
    · rw [List.getElem_append_left hi]
      simp only [if_pos hi]
      exact chrN_byte L i hi
    · rw [List.getElem_append_right (by omega), List.getElem_replicate]
      simp only [if_neg hi]
      rfl
  rw [hrow, rtrim_rep]
end Go.Proofs.YtmkpefielfinjaaDoor
