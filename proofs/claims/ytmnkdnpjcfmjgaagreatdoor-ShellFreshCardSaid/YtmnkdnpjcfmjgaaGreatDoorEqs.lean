/- Comparing structs: two are the same just if their fields are. -/
import Derived.Test.YtmnkdnpjcfmjgaaGreatDoorLines
import Derived.Laws.StructEq
import Derived.Stop.BytesEq
namespace Go.Proofs.YtmnkdnpjcfmjgaaGreatDoor
open Go.RowKit

def MacD.list (m : MacD) : List UInt8 := [m.b, m.c, m.d, m.e, m.f, m.g]
theorem MacD.list_inj (x y : MacD) (h : x.list = y.list) : x = y := by
  cases x; cases y; simpa [MacD.list] using h
theorem macInfo : (Tryz.prog.info? 5).map (·.size) = some 1 := by kernel_rfl
theorem mac_size (w : World) : (sizeOf 5).run Tryz.prog w = .ok 1 w := by
  obtain ⟨i, hi, hs⟩ := Option.map_eq_some_iff.1 macInfo
  rw [run_sizeOf w hi, Program.cellsOf, hi]
  simp [hs]
-- (Tryz.prog.info? 5).map (·.size) = some 1 := by kernel_rfl
set_option maxRecDepth 100000 in
theorem mac_in (X Y : MacD) (w : World) : (Op.equalIn 9999 44 (.agg #[.int .u8 X.b.toNat, .int .u8 X.c.toNat, .int .u8 X.d.toNat, .int .u8 X.e.toNat, .int .u8 X.f.toNat, .int .u8 X.g.toNat]) (.agg #[.int .u8 Y.b.toNat, .int .u8 Y.c.toNat, .int .u8 Y.d.toNat, .int .u8 Y.e.toNat, .int .u8 Y.f.toNat, .int .u8 Y.g.toNat])).run Tryz.prog w = .ok (decide (X = Y)) w := by
  refine (run_equalIn_bytes w 9997 44 5 6 Tryz.underlying44 Tryz.underlying5 mac_size X.list Y.list rfl rfl).trans ?_
  congr 1
  rw [Bool.eq_iff_iff, beq_iff_eq, decide_eq_true_iff]
  exact ⟨X.list_inj Y, fun h => by rw [h]⟩

set_option maxRecDepth 100000 in
set_option maxHeartbeats 1000000 in
theorem prefix_eq (X Y : PrefixD) (w : World) : (binOp .eql 42 (.agg #[.int .u32 X.a, .int .i64 X.n]) (.agg #[.int .u32 Y.a, .int .i64 Y.n])).run Tryz.prog w = .ok (.bool (decide (X = Y))) w := by
  go_simp
  obtain ⟨a, n⟩ := X
  obtain ⟨b, m⟩ := Y
  simp only [PrefixD.mk.injEq, Int.ofNat_inj]
  by_cases h1 : a = b <;> by_cases h2 : n = m <;> simp [h1, h2]
set_option maxRecDepth 100000 in
set_option maxHeartbeats 1000000 in
theorem lease_eq (X Y : LeaseD) (w : World) : (binOp .eql 46 (.agg X.cells.toArray) (.agg Y.cells.toArray)).run Tryz.prog w = .ok (.bool (decide (X = Y))) w := by
  unfold LeaseD.cells MacD.cells
  have hm := mac_in X.mac Y.mac
  obtain ⟨h, a, n, p, m, t, r⟩ := X
  obtain ⟨h', a', n', p', m', t', r'⟩ := Y
  simp only at hm
  go_simp
  simp only [LeaseD.mk.injEq, Int.ofNat_inj]
  by_cases h1 : h = h' <;> by_cases h2 : a = a' <;> by_cases h3 : n = n' <;> by_cases h4 : p = p' <;> by_cases h5 : m = m' <;> by_cases h6 : t = t' <;> by_cases h7 : r = r' <;> simp [h1, h2, h3, h4, h5, h6, h7, Result.andThen]
end Go.Proofs.YtmnkdnpjcfmjgaaGreatDoor
