/- Package weftlaw20: a list is written full of a mark. -/
import Derived.Test.YtmnkdnpjcfmjgaaGreatDoorPat
import Derived.Test.YtmnkdnpjcfmjgaaGreatDoorHex
namespace Go.Proofs.YtmnkdnpjcfmjgaaGreatDoor
open Go.RowKit

/-- n bytes of a mark, from place k on -/
def patF (m k n : Nat) : List UInt8 := (List.range n).map fun i => UInt8.ofNat (patN m (k + i))
theorem patN_lt (m i : Nat) : patN m i < 256 := Nat.mod_lt _ (by decide)
theorem patF_length (m k n : Nat) : (patF m k n).length = n := by simp [patF]
theorem patF_get (m k n i : Nat) (h : i < n) : (patF m k n)[i]? = some (UInt8.ofNat (patN m (k + i))) := by simp [patF, h]
theorem patF_succ (m n : Nat) : patF m 0 (n + 1) = patF m 0 n ++ [UInt8.ofNat (patN m n)] := by simp [patF, List.range_succ]
theorem pat_byte (m i : Nat) : ((UInt8.ofNat (patN m i)).toNat : Int) = patN m i := by
  rw [UInt8.toNat_ofNat', Nat.mod_eq_of_lt (patN_lt m i)]
theorem pat_set (l : List UInt8) (m k : Nat) (hk : k < l.length) : (Lib.byteCells (patF m 0 k ++ l.drop k)).set k (.int .u8 (patN m k)) = Lib.byteCells (patF m 0 (k + 1) ++ l.drop (k + 1)) := by
  rw [patF_succ, ← pat_byte]
  unfold Lib.byteCells
  rw [List.drop_eq_getElem_cons hk, List.map_append, List.set_append_right _ _ (by rw [List.length_map, patF_length]; exact Nat.le_refl _), List.length_map, patF_length, Nat.sub_self, List.map_cons, List.set_cons_zero, List.map_append, List.map_append, List.append_assoc]
  rfl

set_option maxRecDepth 100000 in
set_option maxHeartbeats 2000000 in
theorem filled_row (g : Nat) (l : List UInt8) (m B : Nat) (w : World) (hf : w.ownsRow B 5 1 (.slice (some ⟨g, 0, none⟩) l.length l.length) l.length (Lib.byteCells l)) (hl : l.length ≤ 70000) (hm : m ≤ 20000000) :
    Calls Tryz.prog 46 #[.slice (some ⟨g, 0, none⟩) l.length l.length, .int .i64 m] w fun e w' => e = .returned (.slice (some ⟨g, 0, none⟩) l.length l.length) ∧
      w'.ownsRow B 5 1 (.slice (some ⟨g, 0, none⟩) l.length l.length) l.length (Lib.byteCells (patF m 0 l.length)) ∧ w.grownBy w' (some g) := by
  have HF := Lib.hid hf
  clear hf
  go_enter Tryz.func46, Tryz.ntmps46
  go_wp2
  go_loopw [6] (fun i wr => ∃ k : Nat, k ≤ l.length ∧ i = .int .i64 k ∧ wr.ownsRow B 5 1 (.slice (some ⟨g, 0, none⟩) l.length l.length) l.length (Lib.byteCells (patF m 0 k ++ l.drop k)) ∧ w.grownBy wr (some g)) (fun i _ => l.length - (intOf i).toNat)
  case atStart => exact ⟨0, by omega, rfl, by simpa [patF] using HF.out, World.grownBy.refl _ _⟩
  case round =>
    obtain ⟨k, hk, rfl, ho, hg⟩ := hrel
    by_cases hlt : k < l.length
    · have hst := ho.stored k (.int .u8 (patN m k))
      rw [pat_set l m k hlt] at hst
      have hc : wr.cell? ⟨g, k, none⟩ = some (.int .u8 ((patF m 0 k ++ l.drop k)[k]'(by simp [patF_length]; omega)).toNat) := by
        rw [ho.cellAt k (by omega)]
        unfold Lib.byteCells
        rw [List.getElem?_map, List.getElem?_eq_getElem (by simp [patF_length]; omega)]
        rfl
      have hz := ho.frozenAt k
      have HS := Lib.hid hst
      have HG := Lib.hid hg
      clear hst hg ho
      go_wp2_with fail
      refine (pat_any m k wr hm (by omega)).mono ?_
      rintro e w1 ⟨rfl, rfl⟩
      go_wp2
      go_roundw
      case rel => exact ⟨k + 1, by omega, by go_num, HS.out.1, HG.out.trans HS.out.2⟩
      case measure => simp [intOf]; omega
    · have hkn : k = l.length := by omega
      subst hkn
      rw [List.drop_length, List.append_nil] at ho
      have HO := Lib.hid ho
      have HG := Lib.hid hg
      clear ho hg
      go_wp2
      refine wp_loop_rounds 1 ?_
      rw [rounds_succ]
      go_wp2
      go_ret
      exact ⟨rfl, HO.out, HG.out⟩
set_option maxRecDepth 100000 in
theorem filled_nil (m : Nat) (w : World) (hm : m ≤ 20000000) :
    Calls Tryz.prog 46 #[.slice none 0 0, .int .i64 m] w fun e w' => e = .returned (.slice none 0 0) ∧ w' = w := by
  go_enter Tryz.func46, Tryz.ntmps46
  go_wp2
  refine wp_loop_rounds 1 ?_
  rw [rounds_succ]
  go_wp2
  refine wp_loop_rounds 1 ?_
  rw [rounds_succ]
  go_wp2
  go_ret
  exact ⟨rfl, rfl⟩
/-- a list is written full of a mark, in its own place -/
theorem filled_any (v : Value) (l : List UInt8) (m B : Nat) (w : World) (hf : Fresh B w v l) (hl : l.length ≤ 70000) (hm : m ≤ 20000000) :
    Calls Tryz.prog 46 #[v, .int .i64 m] w fun e w' => e = .returned v ∧ Fresh B w' v (patF m 0 l.length) ∧ w.grownBy w' v.ownBlock := by
  rcases hf with ⟨rfl, rfl⟩ | ⟨g, rfl, ho⟩
  · refine (filled_nil m w hm).mono ?_
    rintro e w' ⟨rfl, rfl⟩
    exact ⟨rfl, .inl ⟨rfl, rfl⟩, World.grownBy.refl _ _⟩
  · refine (filled_row g l m B w ho hl hm).mono ?_
    rintro e w' ⟨rfl, h1, h2⟩
    exact ⟨rfl, .inr ⟨g, by rw [patF_length], by rw [patF_length]; exact h1⟩, h2⟩
end Go.Proofs.YtmnkdnpjcfmjgaaGreatDoor
