/- What a walk over this seat's program wants throughout: the frames of worlds, byte slices in memory; the law's own comparisons. -/
import Derived.Test.YtmnkdnpjcfmjgaaGreatDoorProg
import Derived.WalkKit
import Derived.WalkSpells
import Derived.WalkLawsBesides
import Derived.KernelRfl
import Derived.Deep.QuietTactic
import Derived.BigQuiet
import Derived.Lib.Hide
namespace Go.Proofs.YtmnkdnpjcfmjgaaGreatDoor
open Go.RowKit

theorem ret_int {k : IntKind} {a b : Int} (h : a = b) : Ending.returned (.int k a) = .returned (.int k b) := by rw [h]
theorem ret_str {a b : ByteArray} (h : a = b) : Ending.returned (.string a) = .returned (.string b) := by rw [h]

/-- The call has only drawn. -/
def Drw (w w' : World) : Prop := ∃ n, w' = w.drewN n
theorem Drw.refl (w : World) : Drw w w := ⟨0, rfl⟩
theorem Drw.mk (w : World) (n : Nat) : Drw w (w.drewN n) := ⟨n, rfl⟩
theorem Drw.trans {a b c : World} (h : Drw a b) (k : Drw b c) : Drw a c := by
  obtain ⟨n, rfl⟩ := h; obtain ⟨m, rfl⟩ := k; exact ⟨n + m, by simp⟩
theorem Drw.below {w w' : World} (h : Drw w w') (B : Nat) : Below B w w' := by
  obtain ⟨n, rfl⟩ := h; exact ⟨rfl, rfl, rfl, Nat.le_refl _, fun _ _ => rfl⟩
theorem below_drewN {B : Nat} {a w : World} (h : Below B a w) (n : Nat) : Below B a (w.drewN n) := ⟨h.os, h.tape, h.output, h.size, h.block⟩

/-- A slice of bytes in memory. -/
def Bs (w : World) (v : Value) (l : List UInt8) : Prop :=
  ∃ a cap, v = .slice a l.length cap ∧ l.length ≤ maxLen ∧ (l ≠ [] → ∃ b off, a = some ⟨b, off, none⟩ ∧ b < w.heap.size ∧ ∀ j u, l[j]? = some u → w.cell? ⟨b, off + j, none⟩ = some (.int .u8 u.toNat))
theorem Bs.below {w w' : World} {v : Value} {l : List UInt8} (h : Bs w v l) (hb : Below w.heap.size w w') : Bs w' v l := by
  obtain ⟨a, cap, rfl, hm, h⟩ := h
  refine ⟨a, cap, rfl, hm, fun hl => ?_⟩
  obtain ⟨b, off, rfl, hlt, hc⟩ := h hl
  exact ⟨b, off, rfl, Nat.lt_of_lt_of_le hlt hb.size, fun j u hu => (hb.cell (p := ⟨b, off + j, none⟩) hlt).trans (hc j u hu)⟩
theorem Bs.nil (w : World) : Bs w (.slice none 0 0) [] := ⟨none, 0, rfl, by unfold maxLen; simp, fun h => absurd rfl h⟩

def nibbleF (c : Int) : Int := if 48 ≤ c ∧ c ≤ 57 then c - 48 else if 97 ≤ c ∧ c ≤ 102 then c - 97 + 10 else -1

set_option maxHeartbeats 400000 in
theorem nibble_any (c : Int) (w : World) (h0 : 0 ≤ c) (h1 : c ≤ 255) :
    Calls Tryz.prog 86 #[.int .u8 c] w fun e w' => e = .returned (.int .i64 (nibbleF c)) ∧ w = w' := by
  go_enter Tryz.func86, Tryz.ntmps86
  go_wp2
  all_goals
    go_ret
    refine ⟨ret_int ?_, rfl⟩
    unfold nibbleF
    omega

set_option maxHeartbeats 400000 in
theorem same_any (a b : Value) (xs ys : List UInt8) (w : World) (ha : Bs w a xs) (hb : Bs w b ys) :
    Calls Tryz.prog 13 #[a, b] w fun e w' => e = .returned (.bool (decide (xs = ys))) ∧ Drw w w' := by
  obtain ⟨aa, ca, rfl, hma, hxa⟩ := ha
  obtain ⟨ab, cb, rfl, hmb, hxb⟩ := hb
  unfold maxLen at hma hmb
  by_cases hl : xs.length = ys.length
  · have hlb : ((xs.length : Int) != ys.length) = false := by rw [hl]; simp
    have HL := Lib.hid hl
    clear hl
    go_enter Tryz.func13, Tryz.ntmps13
    go_wp2
    go_loopw [5] (fun i wr => ∃ k n : Nat, k ≤ xs.length ∧ i = .int .i64 k ∧ wr = w.drewN n ∧ xs.take k = ys.take k) (fun i _ => xs.length - (intOf i).toNat)
    case atStart => exact ⟨0, 0, by omega, rfl, rfl, rfl⟩
    case round =>
      obtain ⟨k, n, hk, rfl, rfl, heq⟩ := hrel
      have HE := Lib.hid heq
      clear heq
      by_cases hlt : k < xs.length
      · have hlt2 : k < ys.length := by have := HL.out; omega
        obtain ⟨ba, oa, rfl, _, hca⟩ := hxa (by intro h; simp [h] at hlt)
        obtain ⟨bb, ob, rfl, _, hcb⟩ := hxb (by intro h; simp [h] at hlt2)
        have h1 := hca k xs[k] (by simp [hlt])
        have h2 := hcb k ys[k] (by simp [hlt2])
        clear hca hcb hxa hxb
        by_cases hc : xs[k] = ys[k]
        · have hb : (((xs[k].toNat : Nat) : Int) != (ys[k].toNat : Nat)) = false := by rw [hc]; simp
          have HC := Lib.hid hc
          clear hc
          go_wp2
          go_quiet (fail)
          go_wp2
          go_roundw
          case rel =>
            refine ⟨k + 1, n + nq, by omega, by go_num, by simp, ?_⟩
            rw [List.take_succ_eq_append_getElem hlt, List.take_succ_eq_append_getElem hlt2, HE.out, HC.out]
          case measure => simp [intOf]; omega
        · have hb : (((xs[k].toNat : Nat) : Int) != (ys[k].toNat : Nat)) = true := by
            rw [bne_iff_ne]; intro h; exact hc (UInt8.toNat_inj.1 (by omega))
          go_wp2
          go_quiet (fail)
          go_wp2
          go_ret
          refine ⟨?_, _, by rw [World.drewN_drewN]⟩
          have : ¬ xs = ys := fun h => hc (by simp [h])
          simp [this]
      · go_wp2
        go_ret
        refine ⟨?_, _, rfl⟩
        have hx : xs.take k = xs := List.take_of_length_le (by omega)
        have hy : ys.take k = ys := List.take_of_length_le (by have := HL.out; omega)
        have : xs = ys := by have := HE.out; rwa [hx, hy] at this
        simp [this]
  · have hlb : ((xs.length : Int) != ys.length) = true := by simp; omega
    go_enter Tryz.func13, Tryz.ntmps13
    go_wp2
    go_ret
    refine ⟨?_, 0, rfl⟩
    have : ¬ xs = ys := fun h => hl (by rw [h])
    simp [this]
end Go.Proofs.YtmnkdnpjcfmjgaaGreatDoor
