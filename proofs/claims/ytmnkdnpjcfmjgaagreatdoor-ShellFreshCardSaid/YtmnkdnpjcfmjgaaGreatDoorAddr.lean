/- Package addr: what its functions answer. -/
import Derived.Test.YtmnkdnpjcfmjgaaGreatDoorBase
import Derived.Lib.ItoaLen
namespace Go.Proofs.YtmnkdnpjcfmjgaaGreatDoor
open Go.RowKit

theorem dec_one (n : Nat) (h : n < 10) : Lib.decDigits n = [UInt8.ofNat (48 + n)] := Lib.decDigits_one h

theorem conv_one (w : World) (c : Int) :
    (convert 22 9 (.slice (some ⟨w.heap.size, 0, none⟩) 1 1)).run Tryz.prog (w.alloc (.cells #[.int .u8 c] 5)) = .ok (.string ⟨#[UInt8.ofNat c.toNat]⟩) (w.alloc (.cells #[.int .u8 c] 5)) := by
  have := run_convert_bytes_arg (P := Tryz.prog) (w.alloc (.cells #[.int .u8 c] 5)) 22 5 Tryz.underlying22 Tryz.underlying5 w.heap.size 0 1 1 [c] rfl (by
    intro i hi
    obtain rfl : i = 0 := by omega
    simp) 9 Tryz.underlying9
  simpa [strOfNums] using this

set_option maxRecDepth 100000 in
set_option maxHeartbeats 400000 in
theorem digits1 (x : Int) (w : World) (h0 : 0 ≤ x) (h1 : x < 10) :
    Calls Tryz.prog 51 #[.int .i64 x] w fun e w' => e = .returned (.string ⟨(Lib.decDigits x.toNat).toArray⟩) ∧ Below w.heap.size w w' := by
  have hcv := fun w => conv_one w (48 + x % 10)
  go_enter Tryz.func51, Tryz.ntmps51
  go_wp2
  go_ret
  refine ⟨ret_str ?_, (Below.refl _ _).alloc (Nat.le_refl _) _⟩
  rw [Lib.decDigits_one (by omega), show (48 + x % 10).toNat = 48 + x.toNat from by omega]

theorem dec_step (n : Nat) (h : 10 ≤ n) : Lib.decDigits n = Lib.decDigits (n / 10) ++ [UInt8.ofNat (48 + n % 10)] := by
  rw [Lib.decDigits, dif_neg (by omega)]

set_option maxRecDepth 100000 in
set_option maxHeartbeats 400000 in
theorem digits_step (x : Int) (w : World) (h0 : 10 ≤ x) (h1 : x < 1000)
    (h : ∀ w, Calls Tryz.prog 51 #[.int .i64 (x / 10)] w fun e w' => e = .returned (.string ⟨(Lib.decDigits (x / 10).toNat).toArray⟩) ∧ Below w.heap.size w w') :
    Calls Tryz.prog 51 #[.int .i64 x] w fun e w' => e = .returned (.string ⟨(Lib.decDigits x.toNat).toArray⟩) ∧ Below w.heap.size w w' := by
  have hcv := fun w => conv_one w (48 + x % 10)
  have H := Lib.hid h
  clear h
  have hl : (Lib.decDigits (x / 10).toNat).length ≤ 64 := by
    rw [Lib.decDigits_length]
    have := Lib.nDigits_le20 (x / 10).toNat (by omega)
    omega
  go_enter Tryz.func51, Tryz.ntmps51
  go_wp2_with fail
  refine (H.out _).mono ?_
  rintro e w1 ⟨rfl, hb⟩
  go_wp2
  go_ret
  refine ⟨ret_str ?_, ((Below.refl _ _).alloc (Nat.le_refl _) _).trans (hb.mono (by simp))⟩
  rw [dec_step x.toNat (by omega), show (48 + x % 10).toNat = 48 + x.toNat % 10 from by omega, show (x / 10).toNat = x.toNat / 10 from by omega]
  exact ByteArray.mk_append_mk _ _

theorem digits_any (x : Int) (w : World) (h0 : 0 ≤ x) (h1 : x < 1000) :
    Calls Tryz.prog 51 #[.int .i64 x] w fun e w' => e = .returned (.string ⟨(Lib.decDigits x.toNat).toArray⟩) ∧ Below w.heap.size w w' := by
  by_cases a : x < 10
  · exact digits1 x w h0 a
  · by_cases b : x < 100
    · exact digits_step x w (by omega) h1 fun w => digits1 _ w (by omega) (by omega)
    · exact digits_step x w (by omega) h1 fun w => digits_step _ w (by omega) (by omega) fun w => digits1 _ w (by omega) (by omega)

/-- an address as text -/
def addrL (a : Nat) : List UInt8 :=
  Lib.decDigits (a / 16777216 % 256) ++ ([46] ++ (Lib.decDigits (a / 65536 % 256) ++ ([46] ++ (Lib.decDigits (a / 256 % 256) ++ ([46] ++ Lib.decDigits (a % 256))))))

theorem and255 (x : Int) (h0 : 0 ≤ x) (h1 : x < 4294967296) : bits .and .u32 x 255 = x % 256 := by
  rw [u32_and x 255 h0 h1 (by omega) (by omega)]
  have : (255 : Int).toNat = 2 ^ 8 - 1 := rfl
  rw [this, Nat.and_two_pow_sub_one_eq_mod]
  omega
theorem dec_len (x : Nat) (h : x < 18446744073709551616) : (Lib.decDigits x).length ≤ 20 := by
  rw [Lib.decDigits_length]; exact Lib.nDigits_le20 x h

set_option maxRecDepth 100000 in
set_option maxHeartbeats 1000000 in
theorem addrFormat (a : Int) (w : World) (h0 : 0 ≤ a) (h1 : a < 4294967296) :
    Calls Tryz.prog 23 #[.int .u32 a] w fun e w' => e = .returned (.string ⟨(addrL a.toNat).toArray⟩) ∧ Below w.heap.size w w' := by
  have D := Lib.hid digits_any
  have m1 := and255 (a / 16777216) (by omega) (by omega)
  have m2 := and255 (a / 65536) (by omega) (by omega)
  have m3 := and255 (a / 256) (by omega) (by omega)
  have m4 := and255 a (by omega) (by omega)
  have l1 := dec_len (a / 16777216 % 256).toNat (by omega)
  have l2 := dec_len (a / 65536 % 256).toNat (by omega)
  have l3 := dec_len (a / 256 % 256).toNat (by omega)
  have l4 := dec_len (a % 256).toNat (by omega)
  go_enter Tryz.func23, Tryz.ntmps23
  go_wp2
  refine wp_loop_rounds 5 ?_
  rw [rounds_succ]
  go_wp2_with fail
  refine (D.out _ _ (by omega) (by omega)).mono ?_
  rintro e w1 ⟨rfl, hb1⟩
  go_wp2_with fail
  rw [rounds_succ]
  go_wp2_with fail
  refine (D.out _ _ (by omega) (by omega)).mono ?_
  rintro e w2 ⟨rfl, hb2⟩
  go_wp2_with fail
  rw [rounds_succ]
  go_wp2_with fail
  refine (D.out _ _ (by omega) (by omega)).mono ?_
  rintro e w3 ⟨rfl, hb3⟩
  go_wp2_with fail
  rw [rounds_succ]
  go_wp2_with fail
  refine (D.out _ _ (by omega) (by omega)).mono ?_
  rintro e w4 ⟨rfl, hb4⟩
  go_wp2_with fail
  rw [rounds_succ]
  go_wp2_with fail
  go_ret
  refine ⟨ret_str ?_, hb1.trans ((hb2.mono hb1.size).trans ((hb3.mono (Nat.le_trans hb1.size hb2.size)).trans (hb4.mono (Nat.le_trans hb1.size (Nat.le_trans hb2.size hb3.size)))))⟩
  unfold addrL
  rw [show (a / 16777216 % 256).toNat = a.toNat / 16777216 % 256 from by omega, show (a / 65536 % 256).toNat = a.toNat / 65536 % 256 from by omega,
    show (a / 256 % 256).toNat = a.toNat / 256 % 256 from by omega, show (a % 256).toNat = a.toNat % 256 from by omega]
  apply ByteArray.ext
  simp [ByteArray.data_append]
end Go.Proofs.YtmnkdnpjcfmjgaaGreatDoor
