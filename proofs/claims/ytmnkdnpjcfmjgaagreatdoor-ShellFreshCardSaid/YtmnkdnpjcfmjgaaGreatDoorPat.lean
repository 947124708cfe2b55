/- Package weftlaw20: the byte of a mark. -/
import Derived.Test.YtmnkdnpjcfmjgaaGreatDoorBase
namespace Go.Proofs.YtmnkdnpjcfmjgaaGreatDoor
open Go.RowKit

def patN (m i : Nat) : Nat := m / 2 ^ (8 * (i % 3)) % 256
theorem pat_any (m i : Nat) (w : World) (hm : m ≤ 20000000) (hi : i ≤ 20000000) :
    Calls Tryz.prog 47 #[.int .i64 m, .int .i64 i] w fun e w' => e = .returned (.int .u8 (patN m i)) ∧ w' = w := by
  go_enter Tryz.func47, Tryz.ntmps47
  go_wp2
  go_ret
  exact ⟨by unfold patN; congr 2, rfl⟩
end Go.Proofs.YtmnkdnpjcfmjgaaGreatDoor
