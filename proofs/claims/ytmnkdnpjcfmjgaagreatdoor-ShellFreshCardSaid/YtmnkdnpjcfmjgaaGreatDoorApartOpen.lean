/- From the rows' premises to ShellApart's walk: a reply that came in, opened. -/
import Derived.Test.YtmnkdnpjcfmjgaaGreatDoorRow
import Derived.Test.YtmnkdnpjcfmjgaaGreatDoorReplyLoops
import Derived.Test.YtmnkdnpjcfmjgaaGreatDoorBulk
import Derived.Deep.Slices
import Derived.Deep.MidRow
namespace Go.Proofs.YtmnkdnpjcfmjgaaGreatDoor
open Go.ChangeShapes Go.WideShapes Go.ChangeAt Go.RowKit Go.Deep

theorem list_of {α : Type} (P : Nat → α → Prop) (n : Nat) (h : ∀ i, i < n → ∃ d, P i d) : ∃ l : List α, l.length = n ∧ ∀ i d, l[i]? = some d → P i d := by
  induction n with
  | zero => exact ⟨[], rfl, fun i d hd => by simp at hd⟩
  | succ n ih =>
    obtain ⟨l, hl, hp⟩ := ih fun i hi => h i (by omega)
    obtain ⟨d, hd⟩ := h n (by omega)
    refine ⟨l ++ [d], by simp [hl], fun i x hx => ?_⟩
    rcases Nat.lt_or_ge i l.length with hi | hi
    · rw [List.getElem?_append_left hi] at hx; exact hp i x hx
    · rw [List.getElem?_append_right hi] at hx
      have hlt : i - l.length < 1 := by have := (List.getElem?_eq_some_iff.1 hx).1; simpa using this
      obtain rfl : i = n := by omega
      have : x = d := by rw [show i - l.length = 0 by omega] at hx; simpa using hx.symm
      rw [this]; exact hd

section
variable {H : Type} {enc : TypeId × Value → H} {w : World} {base : Nat} {sp : Nat → Bool} {held : Bool}
theorem i64_open {fuel : Nat} {t : TypeId} {c : Value} {y : DataW H × List MemPlace} (ht : Tryz.prog.underlying t = some (.int .i64)) (h : DataW.trod enc Tryz.prog w base sp held fuel t [c] = some y) : ∃ z : Int, c = .int .i64 z ∧ I64 z := by
  obtain ⟨z, e, _, wf⟩ := DataW.trod_int ht h
  simp only [List.cons.injEq, and_true] at e
  simp [Lit.wf, IntKind.min, IntKind.max, IntKind.signed, IntKind.bits] at wf
  exact ⟨z, e, by constructor <;> omega⟩
theorem u32_open {fuel : Nat} {t : TypeId} {c : Value} {y : DataW H × List MemPlace} (ht : Tryz.prog.underlying t = some (.int .u32)) (h : DataW.trod enc Tryz.prog w base sp held fuel t [c] = some y) : ∃ n : Nat, c = .int .u32 n ∧ n < 4294967296 := by
  obtain ⟨z, e, _, wf⟩ := DataW.trod_int ht h
  simp only [List.cons.injEq, and_true] at e
  simp [Lit.wf, IntKind.min, IntKind.max, IntKind.signed, IntKind.bits] at wf
  exact ⟨z.toNat, by rw [e, Int.toNat_of_nonneg (by omega)], by omega⟩
theorem u8_open {fuel : Nat} {t : TypeId} {c : Value} {y : DataW H × List MemPlace} (ht : Tryz.prog.underlying t = some (.int .u8)) (h : DataW.trod enc Tryz.prog w base sp held fuel t [c] = some y) : ∃ n : UInt8, c = .int .u8 n.toNat := by
  obtain ⟨z, e, _, wf⟩ := DataW.trod_int ht h
  simp only [List.cons.injEq, and_true] at e
  simp [Lit.wf, IntKind.min, IntKind.max, IntKind.signed, IntKind.bits] at wf
  refine ⟨UInt8.ofNat z.toNat, ?_⟩
  rw [e, UInt8.toNat_ofNat', Nat.mod_eq_of_lt (by omega), Int.toNat_of_nonneg (by omega)]
theorem bool_open {fuel : Nat} {t : TypeId} {c : Value} {y : DataW H × List MemPlace} (ht : Tryz.prog.underlying t = some .bool) (h : DataW.trod enc Tryz.prog w base sp held fuel t [c] = some y) : ∃ b : Bool, c = .bool b := by
  obtain ⟨b, e, _⟩ := DataW.trod_bool ht h
  simp only [List.cons.injEq, and_true] at e
  exact ⟨b, e⟩
theorem str_open {fuel : Nat} {t : TypeId} {c : Value} {y : DataW H × List MemPlace} (ht : Tryz.prog.underlying t = some .string) (h : DataW.trod enc Tryz.prog w base sp held fuel t [c] = some y) : ∃ s : ByteArray, c = .string s ∧ s.size ≤ Rows.uptoBulk y.1 := by
  obtain ⟨s, e, rfl, _⟩ := DataW.trod_string ht h
  simp only [List.cons.injEq, and_true] at e
  refine ⟨s, e, ?_⟩
  rw [bulks.string_eq, Lib.size_eq]
  omega
theorem bytes_openB {fuel : Nat} {c : Value} {y : DataW H × List MemPlace} (h : DataW.trod enc Tryz.prog w base sp held fuel 22 [c] = some y) : ∃ l : List UInt8, Bs w c l ∧ l.length ≤ Rows.uptoBulk y.1 := by
  obtain ⟨l, hb, hs⟩ := bytes_open h
  refine ⟨l, hb, ?_⟩
  rcases hs with ⟨_, rfl⟩ | ⟨elems, spare, e, he⟩
  · simp
  · rw [e]
    have := bulks.slice_le elems spare
    have h2 : elems.length = l.length := by rw [he]; simp
    omega

/-- a slice of rows that came in -/
theorem rows_open {α : Type} (cells : α → List Value) (sz : Nat) (hsz : 0 < sz) (R : α → DataW H → Prop) {t e : TypeId} (ht : Tryz.prog.underlying t = some (.slice e)) (hC : Tryz.prog.cellsOf e = sz)
    (hcell : ∀ n cs x, DataW.trod enc Tryz.prog w base sp held n e cs = some x → ∃ d, cs = cells d ∧ R d x.1) {fuel : Nat} {c : Value} {y : DataW H × List MemPlace} (h : DataW.trod enc Tryz.prog w base sp held fuel t [c] = some y) (hB : Rows.uptoBulk y.1 ≤ 1048576) :
    ∃ l : List α, RowOf w.heap.size w c sz (l.map cells) ∧ l.length ≤ Rows.uptoBulk y.1 ∧ ∀ d ∈ l, ∃ q : DataW H, R d q ∧ Rows.uptoBulk q ≤ Rows.uptoBulk y.1 := by
  rcases open_slice ht h with ⟨hc, rfl⟩ | ⟨a, len, cap, m, n, D, Pl, hc, hb, hl, hm, hmm, rfl, hi⟩
  · obtain rfl : c = .slice none 0 0 := by simpa using hc
    exact ⟨[], row_nil _ _ _, by simp, fun d hd => by cases hd⟩
  · obtain rfl : c = .slice (some a) len cap := by simpa using hc
    have hlm : len ≤ m := by rw [hmm]; split <;> omega
    obtain ⟨l, hll, hp⟩ := list_of (fun i d => ∃ cs', w.cells? base (a.add (i * sz)) sz = some cs' ∧ cs' = cells d ∧ R d (D i)) len (fun i hi' => by
      obtain ⟨cs', h1, h2⟩ := hi i (by omega)
      rw [hC] at h1
      obtain ⟨d, h3, h4⟩ := hcell _ _ _ h2
      exact ⟨d, cs', h1, h3, h4⟩)
    have hb1 := bulks.slice_le ((List.range len).map D) ((List.range (m - len)).map fun j => D (len + j))
    simp only [List.length_map, List.length_range] at hb1
    dsimp only at hB ⊢
    refine ⟨l, ⟨some a, cap, by rw [List.length_map, hll], by rw [List.length_map, hll]; exact hl, ?_, fun hne => ?_⟩, ?_, fun d hd => ?_⟩
    · rw [List.length_map, hll]; omega
    · have h0 : l ≠ [] := fun e => hne (by rw [e]; rfl)
      obtain ⟨d0, l', rfl⟩ := List.exists_cons_of_ne_nil h0
      obtain ⟨cs', h1, h2, _⟩ := hp 0 d0 rfl
      obtain ⟨_, hcl, hat⟩ := World.cells?_some h1
      have hc0 := hat 0 hsz
      rw [List.getElem?_eq_getElem (by omega)] at hc0
      obtain ⟨b, off, spot⟩ := a
      have hspot : spot = none := by simpa [Addr.add] using World.cell?_spot hc0
      subst hspot
      refine ⟨b, off, rfl, ?_, fun j x hj i u hu => ?_⟩
      · have := World.block_lt_of_cell? w _ hc0
        simpa [Addr.add] using this
      · rw [List.getElem?_map] at hj
        obtain ⟨d, hd, rfl⟩ := Option.map_eq_some_iff.1 hj
        obtain ⟨cs2, g1, g2, _⟩ := hp j d hd
        obtain ⟨_, gl, gat⟩ := World.cells?_some g1
        have hilt : i < sz := by
          have := (List.getElem?_eq_some_iff.1 hu).1
          rw [← g2, gl] at this
          exact this
        have := gat i hilt
        rw [Addr.add_mid, Addr.add_mid, g2, hu] at this
        exact this
    · omega
    · obtain ⟨i, hi', hd'⟩ := List.getElem_of_mem hd
      obtain ⟨_, _, _, hr⟩ := hp i d (by rw [List.getElem?_eq_getElem hi', hd'])
      refine ⟨D i, hr, ?_⟩
      have h1 := bulks.part_le (d := D i) (l := (List.range len).map D) (List.mem_map.2 ⟨i, List.mem_range.2 (by omega), rfl⟩)
      have h2 := bulks.slice_elems ((List.range len).map D) ((List.range (m - len)).map fun j => D (len + j))
      omega
end
end Go.Proofs.YtmnkdnpjcfmjgaaGreatDoor
