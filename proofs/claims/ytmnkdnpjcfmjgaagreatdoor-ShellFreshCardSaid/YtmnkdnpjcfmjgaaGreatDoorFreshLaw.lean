/- Package weftlaw20, ShellFresh in plain Lean: acts of bytes alone have a line, and are read from it. -/
import Derived.Test.YtmnkdnpjcfmjgaaGreatDoorActLaw
namespace Go.Proofs.YtmnkdnpjcfmjgaaGreatDoor
open Go.RowKit

def bytesAct (k : Nat) (l : List UInt8) : ActD := ⟨k, 0, 0, 0, [], l, 0⟩
theorem gram_two (k : Nat) (hk : k = 12 ∨ k = 13) : (gramL.getD k ([], [])).2 = [104, 98] := by rcases hk with rfl | rfl <;> decide
theorem bytesAct_ok (k : Nat) (hk : k = 12 ∨ k = 13) (l : List UInt8) : (bytesAct k l).Ok := by
  have z : (-9223372036854775808 : Int) ≤ 0 ∧ (0 : Int) ≤ 9223372036854775807 := by decide
  refine ⟨?_, z, z, z, Nat.zero_le _, Nat.lt_of_lt_of_le (Nat.zero_lt_succ 0) (by decide)⟩
  show (-9223372036854775808 : Int) ≤ (k : Int) ∧ (k : Int) ≤ 9223372036854775807
  omega
theorem bytes_form (k : Nat) (hk : k = 12 ∨ k = 13) (l : List UInt8) (h : l.length ≤ 60000) : ∃ s, formatL (bytesAct k l) = .ok s := by
  have hb := bytesL_len l
  have hw : (gramL.getD k ([], [])).1.length ≤ 10 := (letters_ok k (by omega)).2
  have e : (bytesAct k l).kind.toNat = k := rfl
  have hg := gram_two k hk
  have h1 : ¬ ((bytesAct k l).kind < 1 ∨ 30 ≤ (bytesAct k l).kind) := by
    show ¬ ((k : Int) < 1 ∨ 30 ≤ (k : Int)); omega
  have h2 : (leftL (bytesAct k l) [104, 98]).bare := ⟨rfl, rfl, rfl, rfl, rfl, rfl⟩
  have hl : (lineF (bytesAct k l) (gramL.getD k ([], []))).length ≤ 130000 := by
    unfold lineF
    rw [hg]
    have hf : fieldL (bytesAct k l) 98 = bytesL l := by
      show (if l.length ≤ 131200 then bytesL l else zerosL) = _
      rw [if_pos (by omega)]
    have hh : (fieldL (bytesAct k l) 104).length ≤ 21 := Lib.itoa_length_le 0 (by decide) (by decide)
    simp only [List.map_cons, List.map_nil, hf, lineW, List.flatMap_cons, List.flatMap_nil, List.length_append, List.length_cons, List.length_nil]
    omega
  refine ⟨lineF (bytesAct k l) (gramL.getD k ([], [])), ?_⟩
  unfold formatL
  rw [e, if_neg h1, hg, if_neg (fun q => q h2), if_neg (fun q => absurd q.1 (by decide)), if_neg (by omega)]
/-- the line of an act of bytes alone, and the act read from it -/
theorem bytes_line (k : Nat) (hk : k = 12 ∨ k = 13) (l : List UInt8) (h : l.length ≤ 60000) : ∃ s, formatL (bytesAct k l) = .ok s ∧ parseL s = .ok (bytesAct k l) ∧ s.length ≤ 131200 := by
  obtain ⟨s, hs⟩ := bytes_form k hk l h
  exact ⟨s, hs, format_parse _ (bytesAct_ok k hk l) s hs⟩
end Go.Proofs.YtmnkdnpjcfmjgaaGreatDoor
