/- Package weftlaw20: ShellFresh answers true. -/
import Derived.Test.YtmnkdnpjcfmjgaaGreatDoorFreshHead
import Derived.Test.YtmnkdnpjcfmjgaaGreatDoorFirst
namespace Go.Proofs.YtmnkdnpjcfmjgaaGreatDoor
open Go.RowKit

/-- the list 'in' while it is filled -/
def fillL (l : List UInt8) (k : Nat) : List UInt8 := (l ++ marksL).take k ++ List.replicate (l.length + 64 - k) 0
theorem fillL_set (l : List UInt8) (k : Nat) (hk : k < l.length + 64) (v : Value) (hv : v = .int .u8 (((l ++ marksL).getD k 0).toNat : Int)) : (Lib.byteCells (fillL l k)).set k v = Lib.byteCells (fillL l (k + 1)) := by
  subst hv
  have hlen : (l ++ marksL).length = l.length + 64 := by rw [List.length_append, marksL_length]
  obtain ⟨j, hj⟩ : ∃ j, l.length + 64 - k = j + 1 := ⟨l.length + 64 - k - 1, by omega⟩
  have hj2 : l.length + 64 - (k + 1) = j := by omega
  unfold fillL Lib.byteCells
  rw [hj, hj2, List.map_append, List.set_append_right _ _ (by rw [List.length_map, List.length_take, hlen]; omega), List.length_map, List.length_take, hlen, Nat.min_eq_left (by omega), Nat.sub_self, List.replicate_succ, List.map_cons, List.set_cons_zero,
    List.take_succ_eq_append_getElem (by omega), List.map_append, List.map_append, List.append_assoc, List.getD_eq_getElem?_getD, List.getElem?_eq_getElem (by omega)]
  rfl
theorem fillL_zero (l : List UInt8) : Lib.byteCells (fillL l 0) = (madeCells (Value.int .u8 0).cells ((l.length + 64) * 1)).toList := by
  have h := toList_madeCells_one (.int .u8 0) (l.length + 64)
  rw [Nat.mul_one]
  refine Eq.trans ?_ h.symm
  unfold fillL Lib.byteCells
  rw [List.take_zero, List.nil_append, Nat.sub_zero, List.map_replicate]
  rfl
theorem fillL_all (l : List UInt8) : fillL l (l.length + 64) = l ++ marksL := by
  unfold fillL
  rw [Nat.sub_self, List.replicate_zero, List.append_nil, List.take_of_length_le (by rw [List.length_append, marksL_length]; exact Nat.le_refl _)]
theorem fill_at (l : List UInt8) (k : Nat) (hk : k < l.length) : (l ++ marksL).getD k 0 = l[k] := by
  rw [List.getD_eq_getElem?_getD, List.getElem?_append_left hk, List.getElem?_eq_getElem hk]; rfl
theorem fill_mark (l : List UInt8) (k : Nat) (hk : l.length ≤ k) (h2 : k < l.length + 64) : (((l ++ marksL).getD k 0).toNat : Int) = 137 + (k : Int) - l.length := by
  rw [List.getD_eq_getElem?_getD, List.getElem?_append_right hk, marksL, List.getElem?_map, List.getElem?_range (by omega)]
  simp only [Option.map_some, Option.getD_some, UInt8.toNat_ofNat']
  omega

theorem bs_cell {w : World} {a : Option Addr} {c k : Nat} {l : List UInt8} (h : Bs w (.slice a l.length c) l) (hk : k < l.length) : ∃ b off, a = some ⟨b, off, none⟩ ∧ b < w.heap.size ∧ w.cell? ⟨b, off + k, none⟩ = some (.int .u8 (l[k].toNat : Int)) := by
  obtain ⟨a', c', h1, _, h2⟩ := h
  simp only [Value.slice.injEq] at h1
  obtain ⟨rfl, -, rfl⟩ := h1
  obtain ⟨b, off, rfl, hb, hc⟩ := h2 (by intro e; simp [e] at hk)
  exact ⟨b, off, rfl, hb, hc k l[k] (List.getElem?_eq_getElem hk)⟩
set_option maxRecDepth 1000000 in
set_option maxHeartbeats 8000000 in
theorem fresh_small (w0 : World) (pb pm : Option Addr) (cb cm : Nat) (l m : List UInt8) (hB : FB w0 pb pm cb cm l m) :
    Calls Tryz.prog 5 #[.slice pb l.length cb, .slice pm m.length cm] w0 fun e w' => e = .returned (.bool true) ∧ Below w0.heap.size w0 w' := by
  have hll := hB.hl
  have hml := hB.hm
  have HB := Lib.hid hB
  have HF := Lib.hid (first_any w0 hB.env)
  clear hB
  obtain ⟨i0, hi, hz0, hz1, hz2⟩ := info_parts byteInfo'
  go_enter Tryz.func5, Tryz.ntmps5
  refine wp_seq_k fun K0 hK0 => ?_
  have HK0 := Lib.hid hK0
  clear hK0
  go_wp2
  refine HK0.out _ _ ?_
  refine wp_seq_k fun K1 hK1 => ?_
  have HK1 := Lib.hid hK1
  clear hK1 HK0
  go_wp2_with fail
  refine HF.out.mono ?_
  rintro e w1 ⟨rfl, hb1⟩
  have HB1 := Lib.hid hb1
  clear hb1
  go_wp2
  refine HK1.out _ _ ?_
  refine wp_seq_k fun K2 hK2 => ?_
  have HK2 := Lib.hid hK2
  clear hK2 HK1
  obtain ⟨w2, hmk, ho2, hg2⟩ := run_make_full (P := Tryz.prog) w1 w1.heap.size 22 5 i0 (.int .u8 0) 1 Tryz.underlying22 hi hz0 hz1 .i64 .i64 (l.length + 64) (by rw [hz2]; omega) (by unfold maxLen; omega) (Nat.le_refl _)
  have hj0 : IntKind.i64.wrap ((l.length : Int) + 64) = (l.length : Int) + 64 := IntWalk.i64_in _ (by omega)
  rw [show ((l.length + 64 : Nat) : Int) = (l.length : Int) + 64 from by omega] at hmk
  have hb2 := HB1.out.grown hg2 HB1.out.size (fun k hk => by cases hk)
  have ho3 := World.ownsRow.mono ho2 HB1.out.size
  rw [← fillL_zero] at ho3
  have HW2 := Lib.hid hb2
  have HO2 := Lib.hid ho3
  clear ho2 ho3 hb2 hg2 HB1
  go_wp2
  refine HK2.out _ _ ?_
  refine wp_seq_k fun K3 hK3 => ?_
  have HK3 := Lib.hid hK3
  clear hK3 HK2 hmk
  generalize w1.heap.size = I at HO2 ⊢
  go_wp2
  go_loopw [6] (fun q wx => ∃ k : Nat, k ≤ l.length + 64 ∧ q = .int .i64 k ∧ wx.ownsRow w0.heap.size 5 1 (.slice (some ⟨I, 0, none⟩) (l.length + 64) (l.length + 64)) (l.length + 64) (Lib.byteCells (fillL l k)) ∧ Below w0.heap.size w0 wx) (fun q _ => l.length + 64 - (intOf q).toNat)
  case atStart => exact ⟨0, by omega, rfl, HO2.out, HW2.out⟩
  case round =>
    obtain ⟨k, hk, rfl, ho, hb⟩ := hrel
    have HO := Lib.hid ho
    have HW := Lib.hid hb
    clear ho hb HO2 HW2
    by_cases hkl : k < l.length + 64
    · have hj1 : IntKind.i64.wrap ((k : Int) + 1) = (k : Int) + 1 := IntWalk.i64_in _ (by omega)
      have hj2 : IntKind.i64.wrap (137 + (k : Int)) = 137 + (k : Int) := IntWalk.i64_in _ (by omega)
      have hj3 : IntKind.i64.wrap (137 + (k : Int) - l.length) = 137 + (k : Int) - l.length := IntWalk.i64_in _ (by omega)
      have hI := (HO.out.lt I rfl).1
      have hst := fun v => HO.out.stored k v
      have hfz := HO.out.frozenAt k
      have hc : (wr.cell? ⟨I, k, none⟩).isSome = true := by
        rw [HO.out.cellAt k (by omega), List.getElem?_eq_getElem (by rw [HO.out.1]; omega)]
        rfl
      obtain ⟨c0, hc0⟩ := Option.isSome_iff_exists.1 hc
      have HST := Lib.hid hst
      clear hst hc
      by_cases hL : k < l.length
      · obtain ⟨bb, bo, rfl, hbb, hbc⟩ := bs_cell HB.out.bs hL
        have hq1 := HST.out (.int .u8 ((137 + (k : Int) - l.length) % 256))
        have hc1 := hq1.1.cellAt k (by omega)
        rw [List.getElem?_set_self (by rw [HO.out.1]; omega)] at hc1
        have hf1 := hq1.1.frozenAt k
        have hb1 := HW.out.setCell (p := ⟨I, k, none⟩) hI (.int .u8 ((137 + (k : Int) - l.length) % 256))
        have hcb := (hb1.cell (p := ⟨bb, bo + k, none⟩) hbb).trans hbc
        have hq2 := hq1.1.stored k (.int .u8 (l[k].toNat : Int))
        rw [List.set_set, fillL_set l k hkl _ (by rw [fill_at l k hL])] at hq2
        have hb2 := hb1.setCell (p := ⟨I, k, none⟩) hI (.int .u8 (l[k].toNat : Int))
        have HQ := Lib.hid hq2.1
        have HB2 := Lib.hid hb2
        have hne : bb ≠ I := by omega
        clear hq1 hq2 hb1 hb2 hbc
        go_wp2
        go_roundw
        case rel => exact ⟨k + 1, by omega, by go_num, HQ.out, HB2.out⟩
        case measure => simp [intOf]; omega
      · have hu8 : IntKind.u8.wrap (137 + (k : Int) - l.length) = 137 + (k : Int) - l.length := u8_in (by omega) (by omega)
        have hq := HST.out (.int .u8 (137 + (k : Int) - l.length))
        rw [fillL_set l k hkl _ (by rw [fill_mark l k (by omega) hkl])] at hq
        have hb2 := HW.out.setCell (p := ⟨I, k, none⟩) hI (.int .u8 (137 + (k : Int) - l.length))
        have HQ := Lib.hid hq
        have HB2 := Lib.hid hb2
        clear hq hb2
        go_wp2
        go_roundw
        case rel => exact ⟨k + 1, by omega, by go_num, HQ.out.1, HB2.out⟩
        case measure => simp [intOf]; omega
    · obtain rfl : k = l.length + 64 := by omega
      rw [fillL_all] at HO
      go_wp2
      refine HK3.out _ _ ?_
      exact fresh_tail4 _ HB.out HW.out HO.out
set_option maxRecDepth 1000000 in
set_option maxHeartbeats 8000000 in
theorem fresh_great (w0 : World) (pb pm : Option Addr) (cb cm n k : Nat) (hE : Env w0) (h : 60000 < n ∨ 60000 < k) :
    Calls Tryz.prog 5 #[.slice pb n cb, .slice pm k cm] w0 fun e w' => e = .returned (.bool true) ∧ Below w0.heap.size w0 w' := by
  have HF := Lib.hid fun u (hu : Below w0.heap.size w0 u) => first_any u (hE.below hu (Nat.le_refl _))
  clear hE
  by_cases h1 : 60000 < n
  · clear h
    have h1' : (60000 : Int) < n := by omega
    go_enter Tryz.func5, Tryz.ntmps5
    go_wp2_with fail
    refine (HF.out _ (Below.refl _ _)).mono ?_
    rintro e w1 ⟨rfl, hb1⟩
    have HB1 := Lib.hid hb1
    clear hb1
    go_wp2_with fail
    refine (HF.out _ HB1.out).mono ?_
    rintro e w2 ⟨rfl, hb2⟩
    have HB2 := Lib.hid hb2
    clear hb2
    go_wp2
    go_ret
    exact ⟨rfl, HB1.out.trans (HB2.out.mono HB1.out.size)⟩
  · have h2 : (60000 : Int) < k := by omega
    have h3 : ¬ (60000 : Int) < n := by omega
    go_enter Tryz.func5, Tryz.ntmps5
    go_wp2_with fail
    refine (HF.out _ (Below.refl _ _)).mono ?_
    rintro e w1 ⟨rfl, hb1⟩
    have HB1 := Lib.hid hb1
    clear hb1
    go_wp2_with fail
    refine (HF.out _ HB1.out).mono ?_
    rintro e w2 ⟨rfl, hb2⟩
    have HB2 := Lib.hid hb2
    clear hb2
    go_wp2
    go_ret
    exact ⟨rfl, HB1.out.trans (HB2.out.mono HB1.out.size)⟩
/-- ShellFresh answers true -/
theorem shellFresh_any (v u : Value) (l m : List UInt8) (w : World) (hE : Env w) (hv : Bs w v l) (hu : Bs w u m) :
    Calls Tryz.prog 5 #[v, u] w fun e w' => e = .returned (.bool true) ∧ Below w.heap.size w w' := by
  obtain ⟨pb, cb, rfl, -, -⟩ := id hv
  obtain ⟨pm, cm, rfl, -, -⟩ := id hu
  by_cases h : l.length ≤ 60000 ∧ m.length ≤ 60000
  · exact fresh_small w pb pm cb cm l m ⟨hE, h.1, h.2, hv, hu⟩
  · exact fresh_great w pb pm cb cm l.length m.length hE (by omega)
#print axioms shellFresh_any
end Go.Proofs.YtmnkdnpjcfmjgaaGreatDoor
