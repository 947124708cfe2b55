/- Package shell: the table of acts. -/
import Derived.Test.YtmnkdnpjcfmjgaaGreatDoorBase
import Derived.Deep.MidRow
import Derived.Deep.WholeRow
import Derived.Deep.DeepCutAuto
namespace Go.Proofs.YtmnkdnpjcfmjgaaGreatDoor
open Go.RowKit

/-- the acts' words and arguments, by kind -/
def gramL : List (List UInt8 × List UInt8) := [([], []), ([116, 105, 99, 107], [110]), ([115, 116, 101, 112], [104, 110]), ([114, 111, 117, 110, 100], [110]), ([99, 97, 108, 109], []), ([99, 114, 97, 115, 104], [104]), ([115, 116, 97, 114, 116], [104]), ([114, 101, 98, 111, 111, 116], [104]), ([102, 97, 105, 108], [104]), ([109, 117, 116, 101], [104]), ([112, 111, 100], [104, 119]), ([117, 110, 112, 111, 100], [104, 119]), ([115, 101, 110, 100], [104, 98]), ([114, 97, 119], [104, 98]), ([100, 101, 108, 105, 118, 101, 114], [97]), ([108, 111, 115, 101], [97]), ([99, 111, 112, 121], [97]), ([115, 112, 111, 105, 108], [97, 110, 98]), ([102, 108, 117, 115, 104], [110]), ([116, 101, 97, 114], [110]), ([114, 101, 111, 112, 101, 110], []), ([114, 101, 118, 111, 107, 101], [104]), ([108, 101, 97, 115, 101, 115], []), ([116, 97, 98, 108, 101, 115], [104]), ([118, 105, 101, 119], [104]), ([112, 111, 100, 115], [104]), ([102, 108, 105, 103, 104, 116], []), ([99, 111, 117, 110, 116, 115], [104]), ([104, 111, 108, 100, 101, 114], [105]), ([100, 105, 115, 107], [])]
def gramCells (l : List (List UInt8 × List UInt8)) : List Value := l.flatMap fun g => [.string ⟨g.1.toArray⟩, .string ⟨g.2.toArray⟩]

set_option maxRecDepth 100000 in
set_option maxHeartbeats 2000000 in
theorem acts_any (w : World) : Calls Tryz.prog 37 #[] w fun e w' => e = .returned (.agg (gramCells gramL).toArray) ∧ Below w.heap.size w w' := by
  go_enter Tryz.func37, Tryz.ntmps37
  go_upto_region 1 with fail
  go_wp2_with (first
    | (refine wpList_build rfl 100 _ rfl (by kernel_rfl) ?_)
    | (refine wpList_store_row rfl _ _ _ rfl w.heap.size _ rfl rfl _ _ (heap_alloc_new w _) (by kernel_rfl) (by kernel_rfl) (by kernel_rfl) ?_))
  rw [World.setRow_alloc_new]
  refine bodyPost_ret (results_cell_row rfl _ _ w.heap.size _ _ (0, 0) _ rfl (heap_alloc_new w _) Tryz.underlying100 rfl (by kernel_rfl)) rfl ⟨congrArg (fun c => Ending.returned (.agg c)) (by kernel_rfl), (Below.refl _ _).alloc (Nat.le_refl _) _⟩
end Go.Proofs.YtmnkdnpjcfmjgaaGreatDoor
