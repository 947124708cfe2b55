/- Package shell: an act in plain Lean; set. -/
import Derived.Test.YtmnkdnpjcfmjgaaGreatDoorPlain
import Derived.Test.YtmnkdnpjcfmjgaaGreatDoorKind
import Derived.Deep.DeepCutAuto
namespace Go.Proofs.YtmnkdnpjcfmjgaaGreatDoor
open Go.RowKit

structure ActD where
  kind : Int
  host : Int
  n : Int
  place : Int
  name : List UInt8
  bytes : List UInt8
  addr : Nat
def ActD.zero : ActD := ⟨0, 0, 0, 0, [], [], 0⟩
def ActD.cells (a : ActD) (v : Value) : Array Value := #[.int .i64 a.kind, .int .i64 a.host, .int .i64 a.n, .int .i64 a.place, .string ⟨a.name.toArray⟩, v, .int .u32 a.addr]
/-- a word into the field of a letter -/
def setL (a : ActD) (f : UInt8) (s : List UInt8) : Except Int ActD :=
  if f = 119 then (if s = [] then .error 150 else .ok { a with name := s })
  else if f = 98 then (match unhexL s with | some b => .ok { a with bytes := b } | none => .error 202)
  else if f = 105 then (match parseAddr s with | some x => .ok { a with addr := x } | none => .error 10)
  else match numB s with
    | none => .error 201
    | some x => if f = 104 then .ok { a with host := x } else if f = 97 then .ok { a with place := x } else if f = 110 then .ok { a with n := x } else .ok a
def setsL : ActD → List UInt8 → List (List UInt8) → Except Int ActD
  | a, f :: fs, s :: ss => match setL a f s with
    | .ok b => setsL b fs ss
    | .error e => .error e
  | a, _, _ => .ok a
/-- shell.ParseAct -/
def parseL (l : List UInt8) : Except Int ActD :=
  if 131200 < l.length then .error 2
  else if 10 ∈ l then .error 200
  else if kindB ((wsL l).headD []) = 0 then .error 200
  else if (wsL l).length ≠ 1 + (gramL.getD (kindB ((wsL l).headD [])).toNat ([], [])).2.length then .error 203
  else setsL { ActD.zero with kind := kindB ((wsL l).headD []) } (gramL.getD (kindB ((wsL l).headD [])).toNat ([], [])).2 (wsL l).tail

/-- the world behind a call that wrote into block p alone, and laid new ones -/
structure Kept (p : Nat) (w w' : World) : Prop where
  below : Below p w w'
  size : w.heap.size ≤ w'.heap.size
  other : ∀ k, k < w.heap.size → k ≠ p → w'.heap[k]? = w.heap[k]?
theorem Kept.set {p i : Nat} {w w1 : World} (h : Below w.heap.size w w1) (hp : p < w.heap.size) (v : Value) : Kept p w (w1.setCell ⟨p, i, none⟩ v) := by
  refine ⟨(h.mono (Nat.le_of_lt hp)).setCell (p := ⟨p, i, none⟩) (Nat.le_refl _) v, ?_, fun k hk hne => ?_⟩
  · have := h.size
    simpa using this
  · rw [Below.heap_setCell _ _ _ _ hne, h.block k hk]
theorem Kept.trans {p : Nat} {a b c : World} (h : Kept p a b) (k : Kept p b c) : Kept p a c :=
  ⟨h.below.trans k.below, Nat.le_trans h.size k.size, fun j hj hne => (k.other j (Nat.lt_of_lt_of_le hj h.size) hne).trans (h.other j hj hne)⟩
theorem Kept.grew {p : Nat} {a b : World} (h : Below a.heap.size a b) (hp : p < a.heap.size) : Kept p a b := ⟨h.mono (Nat.le_of_lt hp), h.size, fun k hk _ => h.block k hk⟩

/-- an act's block -/
abbrev ActAt (w : World) (p : Nat) (a : ActD) (v : Value) : Prop := w.heap[p]? = some (.cells (a.cells v) 26 (0, 0))
/-- what set leaves -/
def SetPost (p : Nat) (v : Value) (a : ActD) (r : Except Int ActD) (w : World) (e : Ending) (w' : World) : Prop := Kept p w w' ∧ match r with
  | .error k => e = .returned (.int .i64 k)
  | .ok b => e = .returned (.int .i64 0) ∧ ∃ v', ActAt w' p b v' ∧ ((v' = v ∧ b.bytes = a.bytes) ∨ Fresh w.heap.size w' v' b.bytes)

theorem fresh_set {B p i : Nat} {w : World} {v x : Value} {l : List UInt8} (h : Fresh B w v l) (hp : p < B) : Fresh B (w.setCell ⟨p, i, none⟩ x) v l := by
  rcases h with h | ⟨g, rfl, h⟩
  · exact .inl h
  · refine .inr ⟨g, rfl, ⟨h.1, ?_⟩⟩
    rcases h.2 with ⟨hv, h0⟩ | ⟨g', cap, cur, hv, hB, hg, h1⟩
    · cases hv
    · refine .inr ⟨g', cap, cur, hv, hB, ?_, h1⟩
      rw [Below.heap_setCell _ _ _ _ (show g' ≠ p from by omega)]
      exact hg

set_option maxRecDepth 100000 in
set_option maxHeartbeats 2000000 in
theorem set_name (p : Nat) (a : ActD) (v : Value) (s : ByteArray) (w : World) (ha : ActAt w p a v) :
    Calls Tryz.prog 45 #[.pointer (some ⟨p, 0, none⟩), .int .i32 119, .string s] w fun e w' => SetPost p v a (setL a 119 s.data.toList) w e w' := by
  have hp : p < w.heap.size := (Array.getElem?_eq_some_iff.1 ha).1
  by_cases he : s.data.toList = []
  · have he1 : s.toList = [] := by rw [Lib.toList_data, he]
    have hr : setL a 119 s.data.toList = .error 150 := by rw [he]; rfl
    have HR := Lib.hid hr
    have HA := Lib.hid ha
    clear hr he ha
    go_enter Tryz.func45, Tryz.ntmps45
    go_wp2
    go_ret
    rw [HR.out]
    exact ⟨Kept.grew (Below.refl _ _) hp, rfl⟩
  · have he1 : s.toList.isEmpty = false := by rw [Lib.toList_data, List.isEmpty_eq_false_iff]; exact he
    have he2 : ¬ s.toList = [] := by rw [Lib.toList_data]; exact he
    have hr : setL a 119 s.data.toList = .ok { a with name := s.data.toList } := by unfold setL; rw [if_pos rfl, if_neg he]
    have HR := Lib.hid hr
    have q := Joins.cell_of_block (i := 4) ha
    have r := Joins.unfrozen_of_block ha 4
    have q2 : w.cell? ⟨p, 4, none⟩ = some (.string ⟨a.name.toArray⟩) := by rw [q]; rfl
    have HA := Lib.hid ha
    clear hr he ha q
    go_enter Tryz.func45, Tryz.ntmps45
    go_wp2
    go_ret
    rw [HR.out]
    exact ⟨Kept.set (Below.refl _ _) hp _, rfl, v, Joins.block_setCell (i := 4) HA.out _, .inl ⟨rfl, rfl⟩⟩
set_option maxRecDepth 100000 in
set_option maxHeartbeats 2000000 in
theorem set_bytes (p : Nat) (a : ActD) (v : Value) (s : ByteArray) (w : World) (ha : ActAt w p a v) (hs : s.size ≤ 1000000) :
    Calls Tryz.prog 45 #[.pointer (some ⟨p, 0, none⟩), .int .i32 98, .string s] w fun e w' => SetPost p v a (setL a 98 s.data.toList) w e w' := by
  have hp : p < w.heap.size := (Array.getElem?_eq_some_iff.1 ha).1
  have HU := Lib.hid (unhex_any s w (by omega))
  have HA := Lib.hid ha
  have hr : setL a 98 s.data.toList = (match unhexL s.data.toList with | some b => .ok { a with bytes := b } | none => .error 202) := by unfold setL; rw [if_neg (by decide), if_pos rfl]
  have HR := Lib.hid hr
  clear ha hr
  generalize unhexL s.data.toList = o at HU HR
  cases o with
  | none =>
    go_enter Tryz.func45, Tryz.ntmps45
    go_wp2_with fail
    refine HU.out.mono ?_
    rintro e w1 ⟨rfl, hb1⟩
    have HB := Lib.hid hb1
    clear hb1
    go_wp2
    go_ret
    rw [HR.out]
    exact ⟨Kept.grew HB.out hp, rfl⟩
  | some b =>
    go_enter Tryz.func45, Tryz.ntmps45
    go_wp2_with fail
    refine HU.out.mono ?_
    rintro e w1 ⟨⟨v', rfl, hf⟩, hb1⟩
    have ha1 : ActAt w1 p a v := (hb1.block p hp).trans HA.out
    have q2 : w1.cell? ⟨p, 5, none⟩ = some v := by rw [Joins.cell_of_block (i := 5) ha1]; rfl
    have r := Joins.unfrozen_of_block ha1 5
    have HA1 := Lib.hid ha1
    have HB := Lib.hid hb1
    have HF := Lib.hid hf
    clear ha1 hb1
    rcases hf with ⟨rfl, h⟩ | ⟨g, rfl, h⟩
    · clear h
      go_wp2
      go_ret
      rw [HR.out]
      exact ⟨Kept.set HB.out hp _, rfl, _, Joins.block_setCell (i := 5) HA1.out _, .inr (fresh_set HF.out hp)⟩
    · clear h
      go_wp2
      go_ret
      rw [HR.out]
      exact ⟨Kept.set HB.out hp _, rfl, _, Joins.block_setCell (i := 5) HA1.out _, .inr (fresh_set HF.out hp)⟩

set_option maxRecDepth 100000 in
set_option maxHeartbeats 2000000 in
theorem set_addr (p : Nat) (a : ActD) (v : Value) (s : ByteArray) (w : World) (ha : ActAt w p a v) (hs : s.size ≤ 1000000) :
    Calls Tryz.prog 45 #[.pointer (some ⟨p, 0, none⟩), .int .i32 105, .string s] w fun e w' => SetPost p v a (setL a 105 s.data.toList) w e w' := by
  have hp : p < w.heap.size := (Array.getElem?_eq_some_iff.1 ha).1
  have HU := Lib.hid (addrParse s w (by unfold maxLen; omega))
  have HA := Lib.hid ha
  have hr : setL a 105 s.data.toList = (match parseAddr s.data.toList with | some x => .ok { a with addr := x } | none => .error 10) := by unfold setL; rw [if_neg (by decide), if_neg (by decide), if_pos rfl]
  have HR := Lib.hid hr
  have q2 : w.cell? ⟨p, 6, none⟩ = some (.int .u32 a.addr) := by rw [Joins.cell_of_block (i := 6) ha]; rfl
  have r := Joins.unfrozen_of_block ha 6
  clear ha hr
  generalize parseAddr s.data.toList = o at HU HR
  cases o with
  | none =>
    go_enter Tryz.func45, Tryz.ntmps45
    go_wp2_with fail
    refine HU.out.mono ?_
    rintro e w1 ⟨rfl, rfl⟩
    simp only [addrRes]
    go_wp2
    go_ret
    rw [HR.out]
    exact ⟨Kept.grew (Below.refl _ _) hp, rfl⟩
  | some b =>
    go_enter Tryz.func45, Tryz.ntmps45
    go_wp2_with fail
    refine HU.out.mono ?_
    rintro e w1 ⟨rfl, rfl⟩
    simp only [addrRes]
    go_wp2
    go_ret
    rw [HR.out]
    exact ⟨Kept.set (Below.refl _ _) hp _, rfl, v, Joins.block_setCell (i := 6) HA.out _, .inl ⟨rfl, rfl⟩⟩

set_option maxRecDepth 100000 in
set_option maxHeartbeats 2000000 in
theorem set_host (p : Nat) (a : ActD) (v : Value) (s : ByteArray) (w : World) (ha : ActAt w p a v) (hs : s.size ≤ 1000000) (hE : Env w) :
    Calls Tryz.prog 45 #[.pointer (some ⟨p, 0, none⟩), .int .i32 104, .string s] w fun e w' => SetPost p v a (setL a 104 s.data.toList) w e w' := by
  have hp : p < w.heap.size := (Array.getElem?_eq_some_iff.1 ha).1
  have HU := Lib.hid (number_any s w hs hE)
  have HA := Lib.hid ha
  have hr : setL a 104 s.data.toList = (match numB s.data.toList with | none => .error 201 | some x => .ok { a with host := x }) := by unfold setL; rfl
  have HR := Lib.hid hr
  clear ha hr
  generalize numB s.data.toList = o at HU HR
  cases o with
  | none =>
    go_enter Tryz.func45, Tryz.ntmps45
    go_wp2_with fail
    refine HU.out.mono ?_
    rintro e w1 ⟨⟨x, rfl, hx⟩, hb1⟩
    have HB := Lib.hid hb1
    clear hb1 hx
    simp only [Option.isSome_none]
    go_wp2
    go_ret
    rw [HR.out]
    exact ⟨Kept.grew HB.out hp, rfl⟩
  | some b =>
    go_enter Tryz.func45, Tryz.ntmps45
    go_wp2_with fail
    refine HU.out.mono ?_
    rintro e w1 ⟨⟨x, rfl, hx⟩, hb1⟩
    obtain rfl : x = b := hx b rfl
    have ha1 : ActAt w1 p a v := (hb1.block p hp).trans HA.out
    have q2 : w1.cell? ⟨p, 1, none⟩ = some (.int .i64 a.host) := by rw [Joins.cell_of_block (i := 1) ha1]; rfl
    have r := Joins.unfrozen_of_block ha1 1
    have HA1 := Lib.hid ha1
    have HB := Lib.hid hb1
    clear ha1 hb1 hx
    simp only [Option.isSome_some]
    go_wp2
    go_ret
    rw [HR.out]
    exact ⟨Kept.set HB.out hp _, rfl, v, Joins.block_setCell (i := 1) HA1.out _, .inl ⟨rfl, rfl⟩⟩

set_option maxRecDepth 100000 in
set_option maxHeartbeats 2000000 in
theorem set_at (p : Nat) (a : ActD) (v : Value) (s : ByteArray) (w : World) (ha : ActAt w p a v) (hs : s.size ≤ 1000000) (hE : Env w) :
    Calls Tryz.prog 45 #[.pointer (some ⟨p, 0, none⟩), .int .i32 97, .string s] w fun e w' => SetPost p v a (setL a 97 s.data.toList) w e w' := by
  have hp : p < w.heap.size := (Array.getElem?_eq_some_iff.1 ha).1
  have HU := Lib.hid (number_any s w hs hE)
  have HA := Lib.hid ha
  have hr : setL a 97 s.data.toList = (match numB s.data.toList with | none => .error 201 | some x => .ok { a with place := x }) := by unfold setL; rfl
  have HR := Lib.hid hr
  clear ha hr
  generalize numB s.data.toList = o at HU HR
  cases o with
  | none =>
    go_enter Tryz.func45, Tryz.ntmps45
    go_wp2_with fail
    refine HU.out.mono ?_
    rintro e w1 ⟨⟨x, rfl, hx⟩, hb1⟩
    have HB := Lib.hid hb1
    clear hb1 hx
    simp only [Option.isSome_none]
    go_wp2
    go_ret
    rw [HR.out]
    exact ⟨Kept.grew HB.out hp, rfl⟩
  | some b =>
    go_enter Tryz.func45, Tryz.ntmps45
    go_wp2_with fail
    refine HU.out.mono ?_
    rintro e w1 ⟨⟨x, rfl, hx⟩, hb1⟩
    obtain rfl : x = b := hx b rfl
    have ha1 : ActAt w1 p a v := (hb1.block p hp).trans HA.out
    have q2 : w1.cell? ⟨p, 3, none⟩ = some (.int .i64 a.place) := by rw [Joins.cell_of_block (i := 3) ha1]; rfl
    have r := Joins.unfrozen_of_block ha1 3
    have HA1 := Lib.hid ha1
    have HB := Lib.hid hb1
    clear ha1 hb1 hx
    simp only [Option.isSome_some]
    go_wp2
    go_ret
    rw [HR.out]
    exact ⟨Kept.set HB.out hp _, rfl, v, Joins.block_setCell (i := 3) HA1.out _, .inl ⟨rfl, rfl⟩⟩

set_option maxRecDepth 100000 in
set_option maxHeartbeats 2000000 in
theorem set_n (p : Nat) (a : ActD) (v : Value) (s : ByteArray) (w : World) (ha : ActAt w p a v) (hs : s.size ≤ 1000000) (hE : Env w) :
    Calls Tryz.prog 45 #[.pointer (some ⟨p, 0, none⟩), .int .i32 110, .string s] w fun e w' => SetPost p v a (setL a 110 s.data.toList) w e w' := by
  have hp : p < w.heap.size := (Array.getElem?_eq_some_iff.1 ha).1
  have HU := Lib.hid (number_any s w hs hE)
  have HA := Lib.hid ha
  have hr : setL a 110 s.data.toList = (match numB s.data.toList with | none => .error 201 | some x => .ok { a with n := x }) := by unfold setL; rfl
  have HR := Lib.hid hr
  clear ha hr
  generalize numB s.data.toList = o at HU HR
  cases o with
  | none =>
    go_enter Tryz.func45, Tryz.ntmps45
    go_wp2_with fail
    refine HU.out.mono ?_
    rintro e w1 ⟨⟨x, rfl, hx⟩, hb1⟩
    have HB := Lib.hid hb1
    clear hb1 hx
    simp only [Option.isSome_none]
    go_wp2
    go_ret
    rw [HR.out]
    exact ⟨Kept.grew HB.out hp, rfl⟩
  | some b =>
    go_enter Tryz.func45, Tryz.ntmps45
    go_wp2_with fail
    refine HU.out.mono ?_
    rintro e w1 ⟨⟨x, rfl, hx⟩, hb1⟩
    obtain rfl : x = b := hx b rfl
    have ha1 : ActAt w1 p a v := (hb1.block p hp).trans HA.out
    have q2 : w1.cell? ⟨p, 2, none⟩ = some (.int .i64 a.n) := by rw [Joins.cell_of_block (i := 2) ha1]; rfl
    have r := Joins.unfrozen_of_block ha1 2
    have HA1 := Lib.hid ha1
    have HB := Lib.hid hb1
    clear ha1 hb1 hx
    simp only [Option.isSome_some]
    go_wp2
    go_ret
    rw [HR.out]
    exact ⟨Kept.set HB.out hp _, rfl, v, Joins.block_setCell (i := 2) HA1.out _, .inl ⟨rfl, rfl⟩⟩

theorem set_any (p : Nat) (a : ActD) (v : Value) (f : UInt8) (s : ByteArray) (w : World) (hf : f = 104 ∨ f = 110 ∨ f = 97 ∨ f = 119 ∨ f = 98 ∨ f = 105) (ha : ActAt w p a v) (hs : s.size ≤ 1000000) (hE : Env w) :
    Calls Tryz.prog 45 #[.pointer (some ⟨p, 0, none⟩), .int .i32 f.toNat, .string s] w fun e w' => SetPost p v a (setL a f s.data.toList) w e w' := by
  rcases hf with rfl | rfl | rfl | rfl | rfl | rfl
  · exact set_host p a v s w ha hs hE
  · exact set_n p a v s w ha hs hE
  · exact set_at p a v s w ha hs hE
  · exact set_name p a v s w ha
  · exact set_bytes p a v s w ha hs
  · exact set_addr p a v s w ha hs
end Go.Proofs.YtmnkdnpjcfmjgaaGreatDoor
