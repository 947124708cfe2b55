/- Package addr: a MAC as text. -/
import Derived.Test.YtmnkdnpjcfmjgaaGreatDoorHex
import Derived.BigRegion
import Derived.Lib.SmallJoins
namespace Go.Proofs.YtmnkdnpjcfmjgaaGreatDoor
open Go.RowKit

def mac2 (c : UInt8) : List UInt8 := [hexd (c.toNat / 16), hexd (c.toNat % 16)]
/-- six bytes in hex -/
def macL (a b c d e f : UInt8) : List UInt8 := mac2 a ++ ([58] ++ (mac2 b ++ ([58] ++ (mac2 c ++ ([58] ++ (mac2 d ++ ([58] ++ (mac2 e ++ ([58] ++ mac2 f)))))))))

theorem hexHi (c : UInt8) (w : World) :
    (Instr.index 9 (.string ⟨#[48, 49, 50, 51, 52, 53, 54, 55, 56, 57, 97, 98, 99, 100, 101, 102]⟩) (.int .u8 ((c.toNat : Int) / 16))).run Tryz.prog w = .ok (.int .u8 (hexd (c.toNat / 16)).toNat) w := by
  have h := c.toNat_lt
  have := hexIndex (c.toNat / 16) (by omega) w
  rwa [show ((c.toNat / 16 : Nat) : Int) = (c.toNat : Int) / 16 from by omega] at this
theorem hexLo (c : UInt8) (w : World) :
    (Instr.index 9 (.string ⟨#[48, 49, 50, 51, 52, 53, 54, 55, 56, 57, 97, 98, 99, 100, 101, 102]⟩) (.int .u8 ((c.toNat : Int) % 16))).run Tryz.prog w = .ok (.int .u8 (hexd (c.toNat % 16)).toNat) w := by
  have := hexIndex (c.toNat % 16) (by omega) w
  rwa [show ((c.toNat % 16 : Nat) : Int) = (c.toNat : Int) % 16 from by omega] at this
theorem and15 (c : UInt8) : bits .and .u8 (c.toNat : Int) 15 = (c.toNat : Int) % 16 := u8_and15 (x := (c.toNat : Int)) (by omega) (by have := c.toNat_lt; omega)

/-- the array behind k rounds -/
def macRow (t : List UInt8) (k : Nat) : Array Value := ((t.take (3 * k) ++ List.replicate (17 - 3 * k) 0).map fun (u : UInt8) => Value.int .u8 u.toNat).toArray
theorem heap2_old (w : World) (o1 o2 : Obj) : ((w.alloc o1).alloc o2).heap[w.heap.size]? = some o1 := (Below.heap_alloc _ _ _ (by simp)).trans (heap_alloc_new w _)
theorem heap2_new (w : World) (o1 o2 : Obj) : ((w.alloc o1).alloc o2).heap[w.heap.size + 1]? = some o2 := by
  have := heap_alloc_new (w.alloc o1) o2
  simpa using this
theorem heap_set_other {w : World} {g h i : Nat} {o : Obj} (hg : w.heap[g]? = some o) (hne : g ≠ h) (v : Value) : (w.setCell ⟨h, i, none⟩ v).heap[g]? = some o := by
  rw [Below.heap_setCell _ _ _ _ hne]; exact hg

set_option maxRecDepth 100000 in
set_option maxHeartbeats 4000000 in
theorem mac_any (a b c d e f : UInt8) (w : World) :
    Calls Tryz.prog 54 #[.agg #[.int .u8 a.toNat, .int .u8 b.toNat, .int .u8 c.toNat, .int .u8 d.toNat, .int .u8 e.toNat, .int .u8 f.toNat]] w fun e' w' => e' = .returned (.string ⟨(macL a b c d e f).toArray⟩) ∧ Below w.heap.size w w' := by
  go_enter Tryz.func54, Tryz.ntmps54
  go_wp2
  go_loopw [5] (fun i wr => ∃ k : Nat, k ≤ 6 ∧ i = .int .i64 k ∧ wr.heap[w.heap.size]? = some (.cells #[.int .u8 a.toNat, .int .u8 b.toNat, .int .u8 c.toNat, .int .u8 d.toNat, .int .u8 e.toNat, .int .u8 f.toNat] 44 (0, 0)) ∧
    wr.heap[w.heap.size + 1]? = some (.cells (macRow (macL a b c d e f) k) 146 (0, 0)) ∧ Below w.heap.size w wr) (fun i _ => 6 - (intOf i).toNat)
  case atStart =>
    exact ⟨0, by omega, rfl, heap2_old _ _ _, heap2_new _ _ _, ((Below.refl _ _).alloc (Nat.le_refl _) _).alloc (by simp) _⟩
  case round =>
    obtain ⟨k, hk, rfl, hbox, harr, hbr⟩ := hrel
    have hk6 : k = 0 ∨ k = 1 ∨ k = 2 ∨ k = 3 ∨ k = 4 ∨ k = 5 ∨ k = 6 := by omega
    clear hk
    rcases hk6 with rfl | rfl | rfl | rfl | rfl | rfl | rfl
    · have q0 : wr.cell? ⟨w.heap.size, 0, none⟩ = some (.int .u8 a.toNat) := by rw [Joins.cell_of_block hbox]; rfl
      have q1 : wr.cell? ⟨w.heap.size + 1, 0, none⟩ = some (.int .u8 0) := by rw [Joins.cell_of_block harr]; rfl
      have r1 := Joins.unfrozen_of_block harr 0
      have q2 : wr.cell? ⟨w.heap.size + 1, 1, none⟩ = some (.int .u8 0) := by rw [Joins.cell_of_block harr]; rfl
      have r2 := Joins.unfrozen_of_block harr 1
      have q3 : wr.cell? ⟨w.heap.size + 1, 2, none⟩ = some (.int .u8 0) := by rw [Joins.cell_of_block harr]; rfl
      have r3 := Joins.unfrozen_of_block harr 2
      have d0 := a.toNat_lt
      have d1 := hexHi a
      have d2 := hexLo a
      have d3 := and15 a
      have HB := Lib.hid hbox
      have HA := Lib.hid harr
      clear hbox harr
      go_wp2
      go_region
      go_wp2
      go_roundw
      case rel =>
        refine ⟨1, by omega, by go_num, ?_, ?_, ?_⟩
        · exact (heap_set_other (h := w.heap.size + 1) (i := 2) (heap_set_other (h := w.heap.size + 1) (i := 1) (heap_set_other (h := w.heap.size + 1) (i := 0) HB.out (by omega) (.int .u8 (hexd (a.toNat / 16)).toNat)) (by omega) (.int .u8 (hexd (a.toNat % 16)).toNat)) (by omega) (.int .u8 58))
        · exact (Joins.block_setCell (i := 2) (Joins.block_setCell (i := 1) (Joins.block_setCell (i := 0) HA.out (.int .u8 (hexd (a.toNat / 16)).toNat)) (.int .u8 (hexd (a.toNat % 16)).toNat)) (.int .u8 58))
        · exact Below.drew (((hbr.setCell (p := ⟨w.heap.size + 1, 0, none⟩) (by simp) (.int .u8 (hexd (a.toNat / 16)).toNat)).setCell (p := ⟨w.heap.size + 1, 1, none⟩) (by simp) (.int .u8 (hexd (a.toNat % 16)).toNat)).setCell (p := ⟨w.heap.size + 1, 2, none⟩) (by simp) (.int .u8 58))
      case measure => simp [intOf]
    · have q0 : wr.cell? ⟨w.heap.size, 1, none⟩ = some (.int .u8 b.toNat) := by rw [Joins.cell_of_block hbox]; rfl
      have q1 : wr.cell? ⟨w.heap.size + 1, 3, none⟩ = some (.int .u8 0) := by rw [Joins.cell_of_block harr]; rfl
      have r1 := Joins.unfrozen_of_block harr 3
      have q2 : wr.cell? ⟨w.heap.size + 1, 4, none⟩ = some (.int .u8 0) := by rw [Joins.cell_of_block harr]; rfl
      have r2 := Joins.unfrozen_of_block harr 4
      have q3 : wr.cell? ⟨w.heap.size + 1, 5, none⟩ = some (.int .u8 0) := by rw [Joins.cell_of_block harr]; rfl
      have r3 := Joins.unfrozen_of_block harr 5
      have d0 := b.toNat_lt
      have d1 := hexHi b
      have d2 := hexLo b
      have d3 := and15 b
      have HB := Lib.hid hbox
      have HA := Lib.hid harr
      clear hbox harr
      go_wp2
      go_region
      go_wp2
      go_roundw
      case rel =>
        refine ⟨2, by omega, by go_num, ?_, ?_, ?_⟩
        · exact (heap_set_other (h := w.heap.size + 1) (i := 5) (heap_set_other (h := w.heap.size + 1) (i := 4) (heap_set_other (h := w.heap.size + 1) (i := 3) HB.out (by omega) (.int .u8 (hexd (b.toNat / 16)).toNat)) (by omega) (.int .u8 (hexd (b.toNat % 16)).toNat)) (by omega) (.int .u8 58))
        · exact (Joins.block_setCell (i := 5) (Joins.block_setCell (i := 4) (Joins.block_setCell (i := 3) HA.out (.int .u8 (hexd (b.toNat / 16)).toNat)) (.int .u8 (hexd (b.toNat % 16)).toNat)) (.int .u8 58))
        · exact Below.drew (((hbr.setCell (p := ⟨w.heap.size + 1, 3, none⟩) (by simp) (.int .u8 (hexd (b.toNat / 16)).toNat)).setCell (p := ⟨w.heap.size + 1, 4, none⟩) (by simp) (.int .u8 (hexd (b.toNat % 16)).toNat)).setCell (p := ⟨w.heap.size + 1, 5, none⟩) (by simp) (.int .u8 58))
      case measure => simp [intOf]
    · have q0 : wr.cell? ⟨w.heap.size, 2, none⟩ = some (.int .u8 c.toNat) := by rw [Joins.cell_of_block hbox]; rfl
      have q1 : wr.cell? ⟨w.heap.size + 1, 6, none⟩ = some (.int .u8 0) := by rw [Joins.cell_of_block harr]; rfl
      have r1 := Joins.unfrozen_of_block harr 6
      have q2 : wr.cell? ⟨w.heap.size + 1, 7, none⟩ = some (.int .u8 0) := by rw [Joins.cell_of_block harr]; rfl
      have r2 := Joins.unfrozen_of_block harr 7
      have q3 : wr.cell? ⟨w.heap.size + 1, 8, none⟩ = some (.int .u8 0) := by rw [Joins.cell_of_block harr]; rfl
      have r3 := Joins.unfrozen_of_block harr 8
      have d0 := c.toNat_lt
      have d1 := hexHi c
      have d2 := hexLo c
      have d3 := and15 c
      have HB := Lib.hid hbox
      have HA := Lib.hid harr
      clear hbox harr
      go_wp2
      go_region
      go_wp2
      go_roundw
      case rel =>
        refine ⟨3, by omega, by go_num, ?_, ?_, ?_⟩
        · exact (heap_set_other (h := w.heap.size + 1) (i := 8) (heap_set_other (h := w.heap.size + 1) (i := 7) (heap_set_other (h := w.heap.size + 1) (i := 6) HB.out (by omega) (.int .u8 (hexd (c.toNat / 16)).toNat)) (by omega) (.int .u8 (hexd (c.toNat % 16)).toNat)) (by omega) (.int .u8 58))
        · exact (Joins.block_setCell (i := 8) (Joins.block_setCell (i := 7) (Joins.block_setCell (i := 6) HA.out (.int .u8 (hexd (c.toNat / 16)).toNat)) (.int .u8 (hexd (c.toNat % 16)).toNat)) (.int .u8 58))
        · exact Below.drew (((hbr.setCell (p := ⟨w.heap.size + 1, 6, none⟩) (by simp) (.int .u8 (hexd (c.toNat / 16)).toNat)).setCell (p := ⟨w.heap.size + 1, 7, none⟩) (by simp) (.int .u8 (hexd (c.toNat % 16)).toNat)).setCell (p := ⟨w.heap.size + 1, 8, none⟩) (by simp) (.int .u8 58))
      case measure => simp [intOf]
    · have q0 : wr.cell? ⟨w.heap.size, 3, none⟩ = some (.int .u8 d.toNat) := by rw [Joins.cell_of_block hbox]; rfl
      have q1 : wr.cell? ⟨w.heap.size + 1, 9, none⟩ = some (.int .u8 0) := by rw [Joins.cell_of_block harr]; rfl
      have r1 := Joins.unfrozen_of_block harr 9
      have q2 : wr.cell? ⟨w.heap.size + 1, 10, none⟩ = some (.int .u8 0) := by rw [Joins.cell_of_block harr]; rfl
      have r2 := Joins.unfrozen_of_block harr 10
      have q3 : wr.cell? ⟨w.heap.size + 1, 11, none⟩ = some (.int .u8 0) := by rw [Joins.cell_of_block harr]; rfl
      have r3 := Joins.unfrozen_of_block harr 11
      have d0 := d.toNat_lt
      have d1 := hexHi d
      have d2 := hexLo d
      have d3 := and15 d
      have HB := Lib.hid hbox
      have HA := Lib.hid harr
      clear hbox harr
      go_wp2
      go_region
      go_wp2
      go_roundw
      case rel =>
        refine ⟨4, by omega, by go_num, ?_, ?_, ?_⟩
        · exact (heap_set_other (h := w.heap.size + 1) (i := 11) (heap_set_other (h := w.heap.size + 1) (i := 10) (heap_set_other (h := w.heap.size + 1) (i := 9) HB.out (by omega) (.int .u8 (hexd (d.toNat / 16)).toNat)) (by omega) (.int .u8 (hexd (d.toNat % 16)).toNat)) (by omega) (.int .u8 58))
        · exact (Joins.block_setCell (i := 11) (Joins.block_setCell (i := 10) (Joins.block_setCell (i := 9) HA.out (.int .u8 (hexd (d.toNat / 16)).toNat)) (.int .u8 (hexd (d.toNat % 16)).toNat)) (.int .u8 58))
        · exact Below.drew (((hbr.setCell (p := ⟨w.heap.size + 1, 9, none⟩) (by simp) (.int .u8 (hexd (d.toNat / 16)).toNat)).setCell (p := ⟨w.heap.size + 1, 10, none⟩) (by simp) (.int .u8 (hexd (d.toNat % 16)).toNat)).setCell (p := ⟨w.heap.size + 1, 11, none⟩) (by simp) (.int .u8 58))
      case measure => simp [intOf]
    · have q0 : wr.cell? ⟨w.heap.size, 4, none⟩ = some (.int .u8 e.toNat) := by rw [Joins.cell_of_block hbox]; rfl
      have q1 : wr.cell? ⟨w.heap.size + 1, 12, none⟩ = some (.int .u8 0) := by rw [Joins.cell_of_block harr]; rfl
      have r1 := Joins.unfrozen_of_block harr 12
      have q2 : wr.cell? ⟨w.heap.size + 1, 13, none⟩ = some (.int .u8 0) := by rw [Joins.cell_of_block harr]; rfl
      have r2 := Joins.unfrozen_of_block harr 13
      have q3 : wr.cell? ⟨w.heap.size + 1, 14, none⟩ = some (.int .u8 0) := by rw [Joins.cell_of_block harr]; rfl
      have r3 := Joins.unfrozen_of_block harr 14
      have d0 := e.toNat_lt
      have d1 := hexHi e
      have d2 := hexLo e
      have d3 := and15 e
      have HB := Lib.hid hbox
      have HA := Lib.hid harr
      clear hbox harr
      go_wp2
      go_region
      go_wp2
      go_roundw
      case rel =>
        refine ⟨5, by omega, by go_num, ?_, ?_, ?_⟩
        · exact (heap_set_other (h := w.heap.size + 1) (i := 14) (heap_set_other (h := w.heap.size + 1) (i := 13) (heap_set_other (h := w.heap.size + 1) (i := 12) HB.out (by omega) (.int .u8 (hexd (e.toNat / 16)).toNat)) (by omega) (.int .u8 (hexd (e.toNat % 16)).toNat)) (by omega) (.int .u8 58))
        · exact (Joins.block_setCell (i := 14) (Joins.block_setCell (i := 13) (Joins.block_setCell (i := 12) HA.out (.int .u8 (hexd (e.toNat / 16)).toNat)) (.int .u8 (hexd (e.toNat % 16)).toNat)) (.int .u8 58))
        · exact Below.drew (((hbr.setCell (p := ⟨w.heap.size + 1, 12, none⟩) (by simp) (.int .u8 (hexd (e.toNat / 16)).toNat)).setCell (p := ⟨w.heap.size + 1, 13, none⟩) (by simp) (.int .u8 (hexd (e.toNat % 16)).toNat)).setCell (p := ⟨w.heap.size + 1, 14, none⟩) (by simp) (.int .u8 58))
      case measure => simp [intOf]
    · have q0 : wr.cell? ⟨w.heap.size, 5, none⟩ = some (.int .u8 f.toNat) := by rw [Joins.cell_of_block hbox]; rfl
      have q1 : wr.cell? ⟨w.heap.size + 1, 15, none⟩ = some (.int .u8 0) := by rw [Joins.cell_of_block harr]; rfl
      have r1 := Joins.unfrozen_of_block harr 15
      have q2 : wr.cell? ⟨w.heap.size + 1, 16, none⟩ = some (.int .u8 0) := by rw [Joins.cell_of_block harr]; rfl
      have r2 := Joins.unfrozen_of_block harr 16
      have d0 := f.toNat_lt
      have d1 := hexHi f
      have d2 := hexLo f
      have d3 := and15 f
      have HB := Lib.hid hbox
      have HA := Lib.hid harr
      clear hbox harr
      go_wp2
      go_region
      go_wp2
      go_roundw
      case rel =>
        refine ⟨6, by omega, by go_num, ?_, ?_, ?_⟩
        · exact (heap_set_other (h := w.heap.size + 1) (i := 16) (heap_set_other (h := w.heap.size + 1) (i := 15) HB.out (by omega) (.int .u8 (hexd (f.toNat / 16)).toNat)) (by omega) (.int .u8 (hexd (f.toNat % 16)).toNat))
        · exact (Joins.block_setCell (i := 16) (Joins.block_setCell (i := 15) HA.out (.int .u8 (hexd (f.toNat / 16)).toNat)) (.int .u8 (hexd (f.toNat % 16)).toNat))
        · exact Below.drew ((hbr.setCell (p := ⟨w.heap.size + 1, 15, none⟩) (by simp) (.int .u8 (hexd (f.toNat / 16)).toNat)).setCell (p := ⟨w.heap.size + 1, 16, none⟩) (by simp) (.int .u8 (hexd (f.toNat % 16)).toNat))
      case measure => simp [intOf]
    · have hcv := run_convert_bytes_back (P := Tryz.prog) wr 22 9 5 ⟨w.heap.size + 1, 0, none⟩ 17 (macL a b c d e f) Tryz.underlying22 Tryz.underlying5 Tryz.underlying9 (fun j hj => by
        have hadd : (⟨w.heap.size + 1, 0, none⟩ : Addr).add j = ⟨w.heap.size + 1, j, none⟩ := by unfold Addr.add; split <;> simp_all
        rw [hadd, Joins.cell_of_block harr]
        have hl : (macL a b c d e f).length = 17 := rfl
        have ht : (macL a b c d e f).take (3 * 6) = macL a b c d e f := List.take_of_length_le (by rw [hl]; omega)
        simp [macRow, ht, hj])
      have hl : (macL a b c d e f).length = 17 := rfl
      rw [hl] at hcv
      clear hl hbox harr
      go_wp2
      go_ret
      exact ⟨rfl, hbr⟩
end Go.Proofs.YtmnkdnpjcfmjgaaGreatDoor
