/- Package shell: a line of a reply is written; the lists of a reply in memory. -/
import Derived.Test.YtmnkdnpjcfmjgaaGreatDoorName
import Derived.Test.YtmnkdnpjcfmjgaaGreatDoorBuilder
import Derived.Lib.AppendIntMem
namespace Go.Proofs.YtmnkdnpjcfmjgaaGreatDoor
open Go.RowKit

theorem Bld.below {B b : Nat} {bs : List Value} {w w' : World} (h : Bld B b bs w) (hb : Below w.heap.size w w') : Bld B b bs w' := by
  have one : ∀ p, Lib.BuilderAtF 67 5 B b p bs w → Lib.BuilderAtF 67 5 B b p bs w' := by
    intro p ⟨hB, v, hk, hown, hne⟩
    refine ⟨hB, v, (hb.block b (Array.getElem?_eq_some_iff.1 hk).1).trans hk, ⟨hown.1, ?_⟩, hne⟩
    rcases hown.2 with hn | ⟨g, cap, cur, fz, hv, hbg, hg, rest⟩
    · exact .inl hn
    · exact .inr ⟨g, cap, cur, fz, hv, hbg, (hb.block g (Array.getElem?_eq_some_iff.1 hg).1).trans hg, rest⟩
  exact h.elim (fun x => .inl (one _ x)) (fun x => .inr (one _ x))
theorem Bld.lt {B b : Nat} {bs : List Value} {w : World} (h : Bld B b bs w) : b < w.heap.size := by
  rcases h with ⟨_, _, hk, _⟩ | ⟨_, _, hk, _⟩ <;> exact (Array.getElem?_eq_some_iff.1 hk).1
theorem Bld.ge {B b : Nat} {bs : List Value} {w : World} (h : Bld B b bs w) : B ≤ b := by
  rcases h with ⟨hB, _⟩ | ⟨hB, _⟩ <;> exact hB

/-- a block that is neither the builder nor a row of bytes stays -/
theorem Fr.block {B b k : Nat} {w w' : World} {cs : Array Value} {T : TypeId} {fz : Nat × Nat} (h : Fr B b w w') (hk : w.heap[k]? = some (.cells cs T fz)) (hb : k ≠ b) (hT : T ≠ 5) : w'.heap[k]? = some (.cells cs T fz) :=
  h.2 k _ hk (fun e => hb (Option.some.inj e)) (fun c f e => by cases e; exact hT rfl)

set_option maxRecDepth 100000 in
set_option maxHeartbeats 1000000 in
/-- put: the words with a blank between each two, and a newline -/
theorem put_any (B b bk o c n : Nat) (acc : List UInt8) (xs : List ByteArray) (w : World) (hb : Bld B b (Lib.byteCells acc) w) (hBw : B ≤ w.heap.size) (hn : xs.length = n)
    (hcells : ∀ (j : Nat) x, xs[j]? = some x → w.cell? ⟨bk, o + j, none⟩ = some (.string x)) (hbk : bk < w.heap.size) (hcap : n ≤ c)
    (hlen : acc.length + (Lib.join (xs.map (·.data.toList)) [32]).length + 1 ≤ 140737488355328) (hN : n ≤ 140737488355328) :
    Calls Tryz.prog 17 #[.slice (some ⟨bk, o, none⟩) n c, .pointer (some ⟨b, 0, none⟩)] w fun e w' => e = .returned (.tuple #[]) ∧ (Bld B b (Lib.byteCells (acc ++ (Lib.join (xs.map (·.data.toList)) [32] ++ [10]))) w' ∧ Fr B b w w') := by
  subst hn
  have HJ := Lib.hid (Tryz.strings_Join bk o c xs ⟨#[32]⟩ w hcells hbk hN hcap (by show (Lib.join (xs.map (·.data.toList)) [32]).length ≤ _; omega))
  generalize hl : Lib.join (xs.map (·.data.toList)) [32] = l at *
  clear hl hcells
  go_enter Tryz.func17, Tryz.ntmps17
  go_wp2_with fail
  refine HJ.out.mono ?_
  rintro e w1 ⟨rfl, hb1⟩
  have hbl1 := hb.below hb1
  go_wp2_with fail
  refine (writeString B b _ ⟨l.toArray⟩ w1 hbl1 (by rw [Lib.byteCells_length]; show acc.length + l.toArray.size ≤ _; simp; omega) (Nat.le_trans hBw hb1.size)).mono ?_
  rintro e w2 ⟨rfl, hbl2, hf2⟩
  go_wp2_with fail
  refine (writeByte B b _ 10 w2 hbl2 (by rw [List.length_append, Lib.byteCells_length, Lib.strCells_length]; show acc.length + l.toArray.size + 1 ≤ _; simp; omega) (Nat.le_trans hBw (Nat.le_trans hb1.size hf2.1.size))).mono ?_
  rintro e w3 ⟨rfl, hbl3, hf3⟩
  go_wp2
  go_end0
  refine ⟨rfl, ?_, ((Fr.refl B b w).grew hBw hb1).trans (hf2.trans hf3)⟩
  have e : Lib.byteCells (acc ++ (l ++ [10])) = Lib.byteCells acc ++ Lib.strCells ⟨l.toArray⟩ ++ [.int .u8 10] := by
    rw [Lib.strCells_toArray, Lib.byteCells_append, Lib.byteCells_append, List.append_assoc]; rfl
  rw [e]
  exact hbl3

/-- A slice in memory, below block B, whose elements are rows of sz cells. -/
def RowOf (B : Nat) (w : World) (v : Value) (sz : Nat) (l : List (List Value)) : Prop :=
  ∃ a cap, v = .slice a l.length cap ∧ l.length ≤ cap ∧ l.length ≤ 140737488355328 ∧ (l ≠ [] → ∃ b off, a = some ⟨b, off, none⟩ ∧ b < B ∧ ∀ j x, l[j]? = some x → ∀ i u, x[i]? = some u → w.cell? ⟨b, off + j * sz + i, none⟩ = some u)
theorem RowOf.below {B : Nat} {w w' : World} {v : Value} {sz : Nat} {l : List (List Value)} (h : RowOf B w v sz l) (hb : Below B w w') : RowOf B w' v sz l := by
  obtain ⟨a, cap, hv, hc, hm, h⟩ := h
  refine ⟨a, cap, hv, hc, hm, fun hl => ?_⟩
  obtain ⟨b, off, ha, hlt, hc⟩ := h hl
  exact ⟨b, off, ha, hlt, fun j x hj i u hu => (hb.cell (p := ⟨b, off + j * sz + i, none⟩) hlt).trans (hc j x hj i u hu)⟩
theorem RowOf.mono {B B' : Nat} {w : World} {v : Value} {sz : Nat} {l : List (List Value)} (h : RowOf B w v sz l) (hB : B ≤ B') : RowOf B' w v sz l := by
  obtain ⟨a, cap, hv, hc, hm, h⟩ := h
  refine ⟨a, cap, hv, hc, hm, fun hl => ?_⟩
  obtain ⟨b, off, ha, hlt, hc⟩ := h hl
  exact ⟨b, off, ha, Nat.lt_of_lt_of_le hlt hB, hc⟩
end Go.Proofs.YtmnkdnpjcfmjgaaGreatDoor
