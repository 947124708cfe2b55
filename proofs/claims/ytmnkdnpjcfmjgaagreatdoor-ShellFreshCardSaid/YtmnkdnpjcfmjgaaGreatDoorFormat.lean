/- Package shell: FormatAct. -/
import Derived.Test.YtmnkdnpjcfmjgaaGreatDoorParse
import Derived.Test.YtmnkdnpjcfmjgaaGreatDoorLines
import Derived.Test.YtmnkdnpjcfmjgaaGreatDoorAny
import Derived.Deep.RegionHeld3
import Derived.Deep.DrawnRows
namespace Go.Proofs.YtmnkdnpjcfmjgaaGreatDoor
open Go.RowKit
attribute [local go_sem ↓] Go.wp_at_zero Go.wp_at_succ

theorem bcell {W w1 : World} (hb : Below W.heap.size W w1) : (∀ b o, b < W.heap.size → w1.cell? ⟨b, o, none⟩ = W.cell? ⟨b, o, none⟩) ∧ (∀ b o, b < W.heap.size → w1.frozen? ⟨b, o, none⟩ = W.frozen? ⟨b, o, none⟩) :=
  ⟨fun b o h => hb.cell (p := ⟨b, o, none⟩) h, fun b o h => hb.frozen (p := ⟨b, o, none⟩) h⟩

theorem Kp.set {w : World} {B : Nat} {cs : Array Value} {T : TypeId} {u : World} (hE : Env w) (hwB : w.heap.size ≤ B) (h : Kp w B cs T u) {G i : Nat} (hG : B < G) (v : Value) : Kp w B cs T (u.setCell ⟨G, i, none⟩ v) := by
  have hb : Below B w (u.setCell ⟨G, i, none⟩ v) := h.below.setCell (p := ⟨G, i, none⟩) (Nat.le_of_lt hG) v
  refine ⟨hE.below hb hwB, hb, ?_⟩
  rw [Below.heap_setCell _ _ _ _ (show B ≠ G from by omega)]
  exact h.box

/-- what stands for bytes that are too many -/
def zerosL : List UInt8 := Lib.repeatL [48] 131200
theorem zerosL_len : zerosL.length = 131200 := by unfold zerosL; rw [Lib.repeatL_length]; simp
theorem repeat_zeros (w : World) : Calls Tryz.prog 39 #[.string ⟨#[48]⟩, .int .i64 131200] w fun e w' => e = .returned (.string ⟨zerosL.toArray⟩) ∧ Below w.heap.size w w' := by
  obtain ⟨n, hn⟩ : ∃ n : Nat, n = 131200 := ⟨_, rfl⟩
  have h := Tryz.strings_Repeat ⟨#[48]⟩ n w (by omega) (by rw [hn]; decide)
  have hz : zerosL = Lib.repeatL [48] n := by rw [hn]; rfl
  have hi : (131200 : Int) = (n : Int) := by omega
  rw [hz, hi]
  exact h

/-- the field of a letter, as text -/
def fieldL (a : ActD) (f : UInt8) : List UInt8 :=
  if f = 104 then Lib.itoa a.host else if f = 97 then Lib.itoa a.place else if f = 110 then Lib.itoa a.n else if f = 119 then a.name
  else if f = 98 then (if a.bytes.length ≤ 131200 then bytesL a.bytes else zerosL) else if f = 105 then addrL a.addr else []
/-- an act without the field of a letter -/
def clearL (a : ActD) (f : UInt8) : ActD :=
  if f = 104 then { a with host := 0 } else if f = 97 then { a with place := 0 } else if f = 110 then { a with n := 0 } else if f = 119 then { a with name := [] }
  else if f = 98 then { a with bytes := [] } else if f = 105 then { a with addr := 0 } else a
def leftL (a : ActD) (l : List UInt8) : ActD := l.foldl clearL a
/-- an act's line, whatever its length -/
def lineF (a : ActD) (g : List UInt8 × List UInt8) : List UInt8 := lineW g.1 (g.2.map (fieldL a))
def ActD.bare (a : ActD) : Prop := a.host = 0 ∧ a.place = 0 ∧ a.n = 0 ∧ a.name = [] ∧ a.bytes = [] ∧ a.addr = 0
instance (a : ActD) : Decidable a.bare := by unfold ActD.bare; exact inferInstance
/-- shell.FormatAct -/
def formatL (a : ActD) : Except Int (List UInt8) :=
  if a.kind < 1 ∨ 30 ≤ a.kind then .error 1
  else if ¬ (leftL a (gramL.getD a.kind.toNat ([], [])).2).bare then .error 1
  else if 119 ∈ (gramL.getD a.kind.toNat ([], [])).2 ∧ (a.name = [] ∨ a.name.any spB = true) then .error 150
  else if 131200 < (lineF a (gramL.getD a.kind.toNat ([], []))).length then .error 2
  else .ok (lineF a (gramL.getD a.kind.toNat ([], [])))
structure ActD.Ok (a : ActD) : Prop where
  kind : -9223372036854775808 ≤ a.kind ∧ a.kind ≤ 9223372036854775807
  host : -9223372036854775808 ≤ a.host ∧ a.host ≤ 9223372036854775807
  n : -9223372036854775808 ≤ a.n ∧ a.n ≤ 9223372036854775807
  place : -9223372036854775808 ≤ a.place ∧ a.place ≤ 9223372036854775807
  name : a.name.length ≤ 140737488351232
  addr : a.addr < 4294967296
/-- what FormatAct answers -/
def FormatPost (r : Except Int (List UInt8)) (e : Ending) : Prop := match r with
  | .error k => e = .returned (.tuple #[.string ⟨#[]⟩, .int .i64 k])
  | .ok s => e = .returned (.tuple #[.string ⟨s.toArray⟩, .int .i64 0])

set_option maxRecDepth 100000 in
set_option maxHeartbeats 2000000 in
theorem format_low (a : ActD) (ad : Option Addr) (cap : Nat) (w : World) (hk : a.kind < 1) :
    Calls Tryz.prog 11 #[.agg (a.cells (.slice ad a.bytes.length cap))] w fun e w' => FormatPost (formatL a) e ∧ Below w.heap.size w w' := by
  have hr : formatL a = .error 1 := by unfold formatL; rw [if_pos (.inl hk)]
  have HR := Lib.hid hr
  have hb : decide (a.kind < 1) = true := by simpa using hk
  clear hr
  unfold ActD.cells
  go_enter Tryz.func11, Tryz.ntmps11
  go_wp2
  go_quiet (fail)
  go_wp2
  go_ret2
  rw [HR.out]
  exact ⟨rfl, below_drewN ((Below.refl _ _).alloc (Nat.le_refl _) _) _⟩

theorem letters_ok (k : Nat) (hk : k < 30) : (gramL.getD k ([], [])).2.length ≤ 3 ∧ (gramL.getD k ([], [])).1.length ≤ 10 := by
  have : ∀ k : Fin 30, (gramL.getD k ([], [])).2.length ≤ 3 ∧ (gramL.getD k ([], [])).1.length ≤ 10 := by decide
  exact this ⟨k, hk⟩

theorem take_map_succ {β : Type} (f : UInt8 → β) (l : List UInt8) (pos : Nat) (c : UInt8) (hp : pos < l.length) (hc : l[pos] = c) : (l.take (pos + 1)).map f = (l.take pos).map f ++ [f c] := by
  rw [List.take_succ_eq_append_getElem hp, List.map_append, hc]; rfl
theorem line_succ (a : ActD) (g : List UInt8 × List UInt8) (pos : Nat) (c : UInt8) (hp : pos < g.2.length) (hc : g.2[pos] = c) :
    lineW g.1 ((g.2.take (pos + 1)).map (fieldL a)) = lineW g.1 ((g.2.take pos).map (fieldL a)) ++ [32] ++ fieldL a c := by
  rw [take_map_succ _ _ _ _ hp hc, lineW, lineW, List.flatMap_append]
  simp
theorem left_succ (a : ActD) (g : List UInt8 × List UInt8) (pos : Nat) (c : UInt8) (hp : pos < g.2.length) (hc : g.2[pos] = c) : leftL a (g.2.take (pos + 1)) = clearL (leftL a (g.2.take pos)) c := by
  rw [leftL, leftL, List.take_succ_eq_append_getElem hp, hc, List.foldl_append]; rfl
theorem bytesL_len (l : List UInt8) : (bytesL l).length ≤ 2 * l.length + 1 := by
  unfold bytesL
  split
  · simp
  · rw [hexL_length]; omega
theorem field_len (a : ActD) (h : a.Ok) : (fieldL a 104).length ≤ 21 ∧ (fieldL a 97).length ≤ 21 ∧ (fieldL a 110).length ≤ 21 ∧ (fieldL a 105).length ≤ 100 ∧ (fieldL a 98).length ≤ 300000 ∧ (fieldL a 119).length ≤ 140737488351232 := by
  have h1 := Lib.itoa_length_le a.host h.host.1 h.host.2
  have h2 := Lib.itoa_length_le a.place h.place.1 h.place.2
  have h3 := Lib.itoa_length_le a.n h.n.1 h.n.2
  have h4 := quad_len a.addr
  have h5 := h.name
  have h6 := bytesL_len a.bytes
  have h7 := zerosL_len
  refine ⟨h1, h2, h3, h4, ?_, h5⟩
  show (if a.bytes.length ≤ 131200 then bytesL a.bytes else zerosL).length ≤ 300000
  split <;> omega
theorem gram_lists (k : Nat) (hk : k < 30) : (gramL.getD k ([], [])).2 = [] ∨ (gramL.getD k ([], [])).2 = [110] ∨ (gramL.getD k ([], [])).2 = [104] ∨ (gramL.getD k ([], [])).2 = [97] ∨ (gramL.getD k ([], [])).2 = [105] ∨ (gramL.getD k ([], [])).2 = [104, 110] ∨ (gramL.getD k ([], [])).2 = [104, 119] ∨ (gramL.getD k ([], [])).2 = [104, 98] ∨ (gramL.getD k ([], [])).2 = [97, 110, 98] := by
  have : ∀ k : Fin 30, (gramL.getD k ([], [])).2 = [] ∨ (gramL.getD k ([], [])).2 = [110] ∨ (gramL.getD k ([], [])).2 = [104] ∨ (gramL.getD k ([], [])).2 = [97] ∨ (gramL.getD k ([], [])).2 = [105] ∨ (gramL.getD k ([], [])).2 = [104, 110] ∨ (gramL.getD k ([], [])).2 = [104, 119] ∨ (gramL.getD k ([], [])).2 = [104, 98] ∨ (gramL.getD k ([], [])).2 = [97, 110, 98] := by decide
  exact this ⟨k, hk⟩
theorem line_total (a : ActD) (h : a.Ok) (k : Nat) (hk : k < 30) : (lineW (gramL.getD k ([], [])).1 ((gramL.getD k ([], [])).2.map (fieldL a))).length ≤ 140737488351232 + 4000 := by
  have h0 := (letters_ok k hk).2
  obtain ⟨f1, f2, f3, f4, f5, f6⟩ := field_len a h
  have hg := gram_lists k hk
  generalize gramL.getD k ([], []) = g at *
  unfold lineW
  rcases hg with e | e | e | e | e | e | e | e | e <;> rw [e] <;> simp only [List.map_nil, List.map_cons, List.flatMap_nil, List.flatMap_cons, List.length_append, List.length_nil, List.length_cons] <;> omega
theorem line_len (a : ActD) (g : List UInt8 × List UInt8) (pos : Nat) (c : UInt8) (_h : a.Ok) (hl : (lineW g.1 (g.2.map (fieldL a))).length ≤ 140737488351232 + 4000) (hp : pos < g.2.length) (hc : g.2[pos] = c) :
    (lineW g.1 ((g.2.take pos).map (fieldL a)) ++ [32] ++ fieldL a c).length ≤ 140737488355328 := by
  rw [← line_succ a g pos c hp hc]
  have : (lineW g.1 ((g.2.take (pos + 1)).map (fieldL a))).length ≤ (lineW g.1 (g.2.map (fieldL a))).length := by
    unfold lineW
    conv => rhs; rw [← List.take_append_drop (pos + 1) g.2]
    rw [List.map_append, List.flatMap_append]
    simp only [List.length_append]
    omega
  omega

theorem byte_there (l : List UInt8) (c : UInt8) : (0 ≤ Lib.indexByte l c) ↔ c ∈ l := by
  induction l with
  | nil => simp [Lib.indexByte]
  | cons b r ih =>
    have hge := Lib.indexByte_ge r c
    rw [Lib.indexByte, List.mem_cons]
    by_cases hb : b = c
    · subst hb; simp
    · rw [if_neg (by simpa using hb)]
      by_cases hm : Lib.indexByte r c = -1
      · rw [if_pos (by simpa using hm)]
        have : ¬ c ∈ r := fun h => by have := ih.2 h; omega
        simp [this, Ne.symm hb]
      · rw [if_neg (by simpa using hm)]
        have : c ∈ r := ih.1 (by omega)
        simp [this]; omega

set_option maxRecDepth 100000 in
set_option maxHeartbeats 2000000 in
theorem format_high (a : ActD) (ad : Option Addr) (cap : Nat) (w : World) (hE : Env w) (hk : 30 ≤ a.kind) :
    Calls Tryz.prog 11 #[.agg (a.cells (.slice ad a.bytes.length cap))] w fun e w' => FormatPost (formatL a) e ∧ Below w.heap.size w w' := by
  have hr : formatL a = .error 1 := by unfold formatL; rw [if_pos (.inr hk)]
  have HR := Lib.hid hr
  have hb : decide (a.kind < 1) = false := by simp; omega
  have hb2 : decide (30 ≤ a.kind) = true := by simpa using hk
  have HK0 := Lib.hid (Kp.drew (Kp.start (cs := a.cells (.slice ad a.bytes.length cap)) (T := 26) hE))
  clear hr hE
  unfold ActD.cells at HK0 ⊢
  go_enter Tryz.func11, Tryz.ntmps11
  go_wp2
  go_region_held3 (fun u => u.cell? ⟨w.heap.size, 0, none⟩ = some (.int .i64 a.kind) ∧ Kp w w.heap.size #[.int .i64 a.kind, .int .i64 a.host, .int .i64 a.n, .int .i64 a.place, .string ⟨a.name.toArray⟩, .slice ad a.bytes.length cap, .int .u32 a.addr] 26 u)
    ((refine (fun hk : Kp w w.heap.size #[.int .i64 a.kind, .int .i64 a.host, .int .i64 a.n, .int .i64 a.place, .string ⟨a.name.toArray⟩, .slice ad a.bytes.length cap, .int .u32 a.addr] 26 _ => ⟨hk.cell rfl, hk⟩) ?_; first | exact HK0.out | (go_split_ands; assumption) | (go_split_ands; exact Kp.step (by assumption) hb1) | (go_split_ands; exact Kp.step (by assumption) (Joins.below_alloc1 _ _))))
    (first | (go_at_call 37; refine (acts_any _).mono ?_; rintro e w1 ⟨rfl, hb1⟩))
  all_goals
    go_split_ands
    have HKK : Hid (Kp w w.heap.size #[.int .i64 a.kind, .int .i64 a.host, .int .i64 a.n, .int .i64 a.place, .string ⟨a.name.toArray⟩, .slice ad a.bytes.length cap, .int .u32 a.addr] 26 _) := ‹Kp w w.heap.size #[.int .i64 a.kind, .int .i64 a.host, .int .i64 a.n, .int .i64 a.place, .string ⟨a.name.toArray⟩, .slice ad a.bytes.length cap, .int .u32 a.addr] 26 _›
    go_wp2
    go_ret2
    rw [HR.out]
    exact ⟨rfl, HKK.out.below⟩

set_option maxRecDepth 100000 in
set_option maxHeartbeats 2000000 in
theorem format_main (a : ActD) (ad : Option Addr) (cap : Nat) (w : World) (hE : Env w) (hok : a.Ok) (k : Nat) (hk : a.kind = k) (h1 : 1 ≤ k) (h30 : k < 30) (hbs : Bs w (.slice ad a.bytes.length cap) a.bytes) :
    Calls Tryz.prog 11 #[.agg (a.cells (.slice ad a.bytes.length cap))] w fun e w' => FormatPost (formatL a) e ∧ Below w.heap.size w w' := by
  have hb : decide (a.kind < 1) = false := by simp; omega
  have hb2 : decide (30 ≤ a.kind) = false := by simp; omega
  have HK0 := Lib.hid (Kp.drew (Kp.start (cs := a.cells (.slice ad a.bytes.length cap)) (T := 26) hE))
  obtain ⟨g, hg⟩ : ∃ g, g = gramL.getD k ([], []) := ⟨_, rfl⟩
  have hlt := line_total a hok k h30
  rw [← hg] at hlt
  have HLT := Lib.hid hlt
  clear hlt
  have hidx := fun W => gram_at W gramL k g (by rw [hg, List.getD, List.getElem?_eq_getElem (show k < gramL.length from h30)]; rfl) h30
  rw [← hk] at hidx
  have HG := Lib.hid hg
  have HKI := Lib.hid hk
  have HE := Lib.hid hE
  clear hE hg hk
  unfold ActD.cells at HK0 ⊢
  go_enter Tryz.func11, Tryz.ntmps11
  go_wp2
  go_region_held3 (fun u => u.cell? ⟨w.heap.size, 0, none⟩ = some (.int .i64 a.kind) ∧ Kp w w.heap.size #[.int .i64 a.kind, .int .i64 a.host, .int .i64 a.n, .int .i64 a.place, .string ⟨a.name.toArray⟩, .slice ad a.bytes.length cap, .int .u32 a.addr] 26 u)
    ((refine (fun hk : Kp w w.heap.size #[.int .i64 a.kind, .int .i64 a.host, .int .i64 a.n, .int .i64 a.place, .string ⟨a.name.toArray⟩, .slice ad a.bytes.length cap, .int .u32 a.addr] 26 _ => ⟨hk.cell rfl, hk⟩) ?_; first | exact HK0.out | (go_split_ands; assumption) | (go_split_ands; exact Kp.step (by assumption) hb1) | (go_split_ands; exact Kp.step (by assumption) (Joins.below_alloc1 _ _))))
    (first | (go_at_call 37; refine (acts_any _).mono ?_; rintro e wA ⟨rfl, hb1⟩))
  go_split_ands
  have HKK : Hid (Kp w w.heap.size #[.int .i64 a.kind, .int .i64 a.host, .int .i64 a.n, .int .i64 a.place, .string ⟨a.name.toArray⟩, .slice ad a.bytes.length cap, .int .u32 a.addr] 26 _) := ‹Kp w w.heap.size #[.int .i64 a.kind, .int .i64 a.host, .int .i64 a.n, .int .i64 a.place, .string ⟨a.name.toArray⟩, .slice ad a.bytes.length cap, .int .u32 a.addr] 26 _›
  have hkk := HKK.out
  have q0 := (show _ = some (Value.int .i64 a.kind) from hkk.cell (i := 0) rfl)
  have hlt := hkk.lt
  have HKW := Lib.hid hkk
  clear hkk HK0 HKK
  go_upto_region 3 with fail
  go_cut [4] (fun v wx => ∃ G, v = .pointer (some ⟨G, 0, none⟩) ∧ w.heap.size < G ∧ wx.heap[G]? = some (.cells #[.string ⟨g.1.toArray⟩, .string ⟨g.2.toArray⟩] 99 (0, 0)) ∧ Kp w w.heap.size #[.int .i64 a.kind, .int .i64 a.host, .int .i64 a.n, .int .i64 a.place, .string ⟨a.name.toArray⟩, .slice ad a.bytes.length cap, .int .u32 a.addr] 26 wx)
  case first =>
    go_region_with (first
      | (go_at_call 37; refine (acts_any _).mono ?_; rintro e w1 ⟨rfl, hb1⟩; have q1 : w1.cell? ⟨w.heap.size, 0, none⟩ = some (.int .i64 a.kind) := ((hb1.cell (p := ⟨w.heap.size, 0, none⟩) hlt).trans q0); have z1 : w.heap.size < w1.heap.size := Nat.lt_of_lt_of_le hlt hb1.size)
      | (go_at_call 37; refine (acts_any _).mono ?_; rintro e w1 ⟨rfl, hb1⟩; have q1 : w1.cell? ⟨w.heap.size, 0, none⟩ = some (.int .i64 a.kind) := ((hb1.cell (p := ⟨w.heap.size, 0, none⟩) (by simp; omega)).trans (by simp [hlt, World.cell?_alloc_past]; exact q0)); have z1 : w.heap.size < w1.heap.size := Nat.lt_of_lt_of_le (by simp; omega) hb1.size;
          have q2 : w1.cell? ⟨wA.heap.size, 0, none⟩ = some (.string ⟨#[]⟩) := ((hb1.cell (p := ⟨wA.heap.size, 0, none⟩) (by simp)).trans (by simp)); have q3 : w1.cell? ⟨wA.heap.size, 1, none⟩ = some (.string ⟨#[]⟩) := ((hb1.cell (p := ⟨wA.heap.size, 1, none⟩) (by simp)).trans (by simp));
          have r2 : w1.frozen? ⟨wA.heap.size, 0, none⟩ = false := ((hb1.frozen (p := ⟨wA.heap.size, 0, none⟩) (by simp)).trans (by simp)); have r3 : w1.frozen? ⟨wA.heap.size, 1, none⟩ = false := ((hb1.frozen (p := ⟨wA.heap.size, 1, none⟩) (by simp)).trans (by simp))))
    all_goals
      have HB1 := Lib.hid hb1
      clear hb1
      go_wp2_with fail
      go_meet
      first
        | exact ⟨_, rfl, z1, heap_alloc_new w1 _, (HKW.out.drew.step HB1.out).step (Joins.below_alloc1 _ _)⟩
        | (refine ⟨wA.heap.size, rfl, hlt, Joins.block_setCell (i := 1) (Joins.block_setCell (i := 0) ((HB1.out.block _ (by simp)).trans (heap_alloc_new _ _)) _) _, ?_⟩
           exact ((((HKW.out.drew.step (Joins.below_alloc1 _ _)).step HB1.out).set HE.out (Nat.le_refl _) hlt _).set HE.out (Nat.le_refl _) hlt _))
  case rest =>
    clear hb1 q0 hlt HKW hidx hb hb2
    obtain ⟨G, rfl, hG, hgb, hkp⟩ := hcut
    have HGB := Lib.hid hgb
    have HKP := Lib.hid hkp
    have HBX := Lib.hid hkp.box
    have c0 : wc.cell? ⟨G, 0, none⟩ = some (.string ⟨g.1.toArray⟩) := by rw [Joins.cell_of_block hgb]; rfl
    have c1 : wc.cell? ⟨G, 1, none⟩ = some (.string ⟨g.2.toArray⟩) := by rw [Joins.cell_of_block hgb]; rfl
    have hGs : G < wc.heap.size := (Array.getElem?_eq_some_iff.1 hgb).1
    clear hgb hkp
    go_wp2_with (refine wpList_load_row rfl _ _ rfl w.heap.size rfl _ _ _ _ HBX.out Tryz.underlying26 rfl actInfo ?_)
    go_loopw [6] (fun ln wr => ∃ (pos : Nat) (v2 : Value) (lb : ByteArray), pos ≤ g.2.length ∧ ln = .string lb ∧ Hid (lb = ⟨(lineW g.1 ((g.2.take pos).map (fieldL a))).toArray⟩) ∧ wr.heap[wc.heap.size + 1]? = some (.stringIter ⟨g.2.toArray⟩ pos) ∧
        wr.heap[wc.heap.size]? = some (.cells ((leftL a (g.2.take pos)).cells v2) 26 (0, 0)) ∧ (∃ ad' c', v2 = .slice ad' (leftL a (g.2.take pos)).bytes.length c') ∧ Kp w w.heap.size #[.int .i64 a.kind, .int .i64 a.host, .int .i64 a.n, .int .i64 a.place, .string ⟨a.name.toArray⟩, .slice ad a.bytes.length cap, .int .u32 a.addr] 26 wr ∧ wr.heap[G]? = some (.cells #[.string ⟨g.1.toArray⟩, .string ⟨g.2.toArray⟩] 99 (0, 0)) ∧ wc.heap.size + 2 ≤ wr.heap.size)
        (fun _ wr => g.2.length - wr.iterPos (wc.heap.size + 1))
    case atStart =>
      refine ⟨0, _, _, Nat.zero_le _, rfl, ?_, heap2_new wc _ _, heap2_old wc _ _, ⟨ad, cap, rfl⟩, (HKP.out.step (Joins.below_alloc1 _ _)).step (Joins.below_alloc1 _ _), ?_, ?_⟩
      · show _ = _; simp [lineW]
      · show ((wc.alloc _).alloc _).heap[G]? = _
        rw [Lib.alloc_old _ _ _ (by simp; omega), Lib.alloc_old _ _ _ hGs]; exact HGB.out
      · simp [World.iter]
    case round =>
      obtain ⟨pos, v2, lb, hpos, rfl, HLn, hit, hlb, hv2, hkp, hgb, hsr⟩ := hrel
      obtain ⟨ad2, c2, rfl⟩ := hv2
      have HIT := Lib.hid hit
      by_cases hp : pos < g.2.length
      · obtain ⟨c, hc⟩ : ∃ c, g.2[pos] = c := ⟨_, rfl⟩
        have hlet := arg_letters k c (by rw [← HG.out, ← hc]; exact List.getElem_mem hp)
        have hc128 : c.toNat < 128 := by rcases hlet with rfl | rfl | rfl | rfl | rfl | rfl <;> decide
        have hdec : Utf8.decode ⟨g.2.toArray⟩ pos = (c.toNat, 1) := by
          have := decode_ascii ⟨g.2.toArray⟩ pos hp (by show (g.2[pos]).toNat < 128; rw [hc]; exact hc128)
          rw [this, ← hc]; rfl
        have hlU := (Lib.iterAt_other wr (wc.heap.size + 1) wc.heap.size ⟨g.2.toArray⟩ (pos + 1) (by omega)).trans hlb
        have hgU := (Lib.iterAt_other wr (wc.heap.size + 1) G ⟨g.2.toArray⟩ (pos + 1) (by omega)).trans hgb
        have hkU : Kp w w.heap.size #[.int .i64 a.kind, .int .i64 a.host, .int .i64 a.n, .int .i64 a.place, .string ⟨a.name.toArray⟩, .slice ad a.bytes.length cap, .int .u32 a.addr] 26 (wr.iterAt (wc.heap.size + 1) ⟨g.2.toArray⟩ (pos + 1)) := by
          have hb := Lib.below_iterAt hkp.below (k := wc.heap.size + 1) (by omega) ⟨g.2.toArray⟩ (pos + 1)
          exact ⟨HE.out.below hb (Nat.le_refl _), hb, (Lib.iterAt_other wr (wc.heap.size + 1) w.heap.size ⟨g.2.toArray⟩ (pos + 1) (by omega)).trans hkp.box⟩
        have hitU := Lib.iterAt_heap wr _ ⟨g.2.toArray⟩ pos (pos + 1) hit
        have hms : g.2.length - (wr.iterAt (wc.heap.size + 1) ⟨g.2.toArray⟩ (pos + 1)).iterPos (wc.heap.size + 1) < g.2.length - wr.iterPos (wc.heap.size + 1) := by
          simp only [World.iterPos, hitU, hit]; omega
        have HD := Lib.hid hdec
        have HLB := Lib.hid hlU
        have HGU := Lib.hid hgU
        have HKU := Lib.hid hkU
        have HIU := Lib.hid hitU
        have HMS := Lib.hid hms
        have HCC := Lib.hid hc
        clear hit hlb hkp hgb hlU hgU hkU hitU hms hdec hc
        rcases hlet with rfl | rfl | rfl | rfl | rfl | rfl
        · have hnx : ∀ ty, (Instr.next (.pointer (some ⟨wc.heap.size + 1, 0, none⟩)) true ty).run Tryz.prog wr = .ok (.tuple #[.bool true, .int .i64 pos, .int .i32 104]) (wr.iterAt (wc.heap.size + 1) ⟨g.2.toArray⟩ (pos + 1)) := fun ty => by
            rw [Lib.run_next_any_at wr (wc.heap.size + 1) ⟨g.2.toArray⟩ pos ty HIT.out hp, HD.out]; rfl
          have qa : (wr.iterAt (wc.heap.size + 1) ⟨g.2.toArray⟩ (pos + 1)).cell? ⟨w.heap.size, 1, none⟩ = some (.int .i64 a.host) := HKU.out.cell rfl
          have hfl : fieldL a 104 = Lib.itoa a.host := rfl
          have hll := line_len a g pos 104 hok HLT.out hp HCC.out
          rw [hfl] at hll
          have HLL := Lib.hid hll
          have hl1 : lb.size + 1 + (Lib.itoa a.host).length ≤ 140737488355328 := by have := HLL.out; rw [HLn.out]; simp only [List.length_append, List.length_singleton] at this; exact this
          have HFL := Lib.hid hfl
          clear hll hfl
          have HC1 := Lib.hid (itoa_any a.host (wr.iterAt (wc.heap.size + 1) ⟨g.2.toArray⟩ (pos + 1)) hok.host.1 hok.host.2 HKU.out.env)
          go_wp2_with fail
          refine HC1.out.mono ?_
          rintro e w3 ⟨rfl, hb3⟩
          have HB3 := Lib.hid hb3
          have hlb := (hb3.block wc.heap.size (by rw [Lib.iterAt_size]; omega)).trans HLB.out
          have hkx := HKU.out.step hb3
          have hgx := (hb3.block G (by rw [Lib.iterAt_size]; omega)).trans HGU.out
          have hix := (hb3.block (wc.heap.size + 1) (by rw [Lib.iterAt_size]; omega)).trans HIU.out
          have hsx : wc.heap.size + 2 ≤ w3.heap.size := by have := hb3.size; rw [Lib.iterAt_size] at this; omega
          clear hb3
          have ql : ∃ x, w3.cell? ⟨wc.heap.size, 1, none⟩ = some x := ⟨_, by rw [Joins.cell_of_block (i := 1) hlb]; rfl⟩
          obtain ⟨x, ql⟩ := ql
          have rl := Joins.unfrozen_of_block hlb 1
          have hle : wc.heap.size ≠ w.heap.size := by omega
          have HLX := Lib.hid hlb
          have HKX := Lib.hid hkx
          have HGX := Lib.hid hgx
          have HIX := Lib.hid hix
          have HSX := Lib.hid hsx
          clear hlb hkx hgx hix hsx
          go_wp2
          refine ⟨⟨pos + 1, .slice ad2 (leftL a (g.2.take pos)).bytes.length c2, _, by omega, rfl, ?_, ?_, ?_, ?_, ?_, ?_, ?_⟩, ?_⟩
          · show _ = _; rw [line_succ a g pos 104 hp HCC.out, HFL.out, HLn.out]; apply ByteArray.ext; simp [ByteArray.data_append]
          · exact (Below.heap_setCell _ _ _ _ (show wc.heap.size + 1 ≠ wc.heap.size from by omega)).trans HIX.out
          · rw [left_succ a g pos 104 hp HCC.out]; exact Joins.block_setCell (i := 1) HLX.out _
          · rw [left_succ a g pos 104 hp HCC.out]; exact ⟨_, _, rfl⟩
          · exact HKX.out.set HE.out (Nat.le_refl _) (by omega) _
          · exact (Below.heap_setCell _ _ _ _ (show G ≠ wc.heap.size from by omega)).trans HGX.out
          · simpa using HSX.out
          · have := HMS.out
            have e1 : (w3.setCell ⟨wc.heap.size, 1, none⟩ (.int .i64 0)).heap[wc.heap.size + 1]? = some (.stringIter ⟨g.2.toArray⟩ (pos + 1)) := (Below.heap_setCell _ _ _ _ (show wc.heap.size + 1 ≠ wc.heap.size from by omega)).trans HIX.out
            simp only [World.iterPos, HIU.out, e1] at this ⊢
            exact this
        · have hnx : ∀ ty, (Instr.next (.pointer (some ⟨wc.heap.size + 1, 0, none⟩)) true ty).run Tryz.prog wr = .ok (.tuple #[.bool true, .int .i64 pos, .int .i32 110]) (wr.iterAt (wc.heap.size + 1) ⟨g.2.toArray⟩ (pos + 1)) := fun ty => by
            rw [Lib.run_next_any_at wr (wc.heap.size + 1) ⟨g.2.toArray⟩ pos ty HIT.out hp, HD.out]; rfl
          have qa : (wr.iterAt (wc.heap.size + 1) ⟨g.2.toArray⟩ (pos + 1)).cell? ⟨w.heap.size, 2, none⟩ = some (.int .i64 a.n) := HKU.out.cell rfl
          have hfl : fieldL a 110 = Lib.itoa a.n := rfl
          have hll := line_len a g pos 110 hok HLT.out hp HCC.out
          rw [hfl] at hll
          have HLL := Lib.hid hll
          have hl1 : lb.size + 1 + (Lib.itoa a.n).length ≤ 140737488355328 := by have := HLL.out; rw [HLn.out]; simp only [List.length_append, List.length_singleton] at this; exact this
          have HFL := Lib.hid hfl
          clear hll hfl
          have HC1 := Lib.hid (formatInt_any a.n (wr.iterAt (wc.heap.size + 1) ⟨g.2.toArray⟩ (pos + 1)) hok.n.1 hok.n.2 HKU.out.env)
          go_wp2_with fail
          refine HC1.out.mono ?_
          rintro e w3 ⟨rfl, hb3⟩
          have HB3 := Lib.hid hb3
          have hlb := (hb3.block wc.heap.size (by rw [Lib.iterAt_size]; omega)).trans HLB.out
          have hkx := HKU.out.step hb3
          have hgx := (hb3.block G (by rw [Lib.iterAt_size]; omega)).trans HGU.out
          have hix := (hb3.block (wc.heap.size + 1) (by rw [Lib.iterAt_size]; omega)).trans HIU.out
          have hsx : wc.heap.size + 2 ≤ w3.heap.size := by have := hb3.size; rw [Lib.iterAt_size] at this; omega
          clear hb3
          have ql : ∃ x, w3.cell? ⟨wc.heap.size, 2, none⟩ = some x := ⟨_, by rw [Joins.cell_of_block (i := 2) hlb]; rfl⟩
          obtain ⟨x, ql⟩ := ql
          have rl := Joins.unfrozen_of_block hlb 2
          have hle : wc.heap.size ≠ w.heap.size := by omega
          have HLX := Lib.hid hlb
          have HKX := Lib.hid hkx
          have HGX := Lib.hid hgx
          have HIX := Lib.hid hix
          have HSX := Lib.hid hsx
          clear hlb hkx hgx hix hsx
          go_wp2
          refine ⟨⟨pos + 1, .slice ad2 (leftL a (g.2.take pos)).bytes.length c2, _, by omega, rfl, ?_, ?_, ?_, ?_, ?_, ?_, ?_⟩, ?_⟩
          · show _ = _; rw [line_succ a g pos 110 hp HCC.out, HFL.out, HLn.out]; apply ByteArray.ext; simp [ByteArray.data_append]
          · exact (Below.heap_setCell _ _ _ _ (show wc.heap.size + 1 ≠ wc.heap.size from by omega)).trans HIX.out
          · rw [left_succ a g pos 110 hp HCC.out]; exact Joins.block_setCell (i := 2) HLX.out _
          · rw [left_succ a g pos 110 hp HCC.out]; exact ⟨_, _, rfl⟩
          · exact HKX.out.set HE.out (Nat.le_refl _) (by omega) _
          · exact (Below.heap_setCell _ _ _ _ (show G ≠ wc.heap.size from by omega)).trans HGX.out
          · simpa using HSX.out
          · have := HMS.out
            have e1 : (w3.setCell ⟨wc.heap.size, 2, none⟩ (.int .i64 0)).heap[wc.heap.size + 1]? = some (.stringIter ⟨g.2.toArray⟩ (pos + 1)) := (Below.heap_setCell _ _ _ _ (show wc.heap.size + 1 ≠ wc.heap.size from by omega)).trans HIX.out
            simp only [World.iterPos, HIU.out, e1] at this ⊢
            exact this
        · have hnx : ∀ ty, (Instr.next (.pointer (some ⟨wc.heap.size + 1, 0, none⟩)) true ty).run Tryz.prog wr = .ok (.tuple #[.bool true, .int .i64 pos, .int .i32 97]) (wr.iterAt (wc.heap.size + 1) ⟨g.2.toArray⟩ (pos + 1)) := fun ty => by
            rw [Lib.run_next_any_at wr (wc.heap.size + 1) ⟨g.2.toArray⟩ pos ty HIT.out hp, HD.out]; rfl
          have qa : (wr.iterAt (wc.heap.size + 1) ⟨g.2.toArray⟩ (pos + 1)).cell? ⟨w.heap.size, 3, none⟩ = some (.int .i64 a.place) := HKU.out.cell rfl
          have hfl : fieldL a 97 = Lib.itoa a.place := rfl
          have hll := line_len a g pos 97 hok HLT.out hp HCC.out
          rw [hfl] at hll
          have HLL := Lib.hid hll
          have hl1 : lb.size + 1 + (Lib.itoa a.place).length ≤ 140737488355328 := by have := HLL.out; rw [HLn.out]; simp only [List.length_append, List.length_singleton] at this; exact this
          have HFL := Lib.hid hfl
          clear hll hfl
          have HC1 := Lib.hid (itoa_any a.place (wr.iterAt (wc.heap.size + 1) ⟨g.2.toArray⟩ (pos + 1)) hok.place.1 hok.place.2 HKU.out.env)
          go_wp2_with fail
          refine HC1.out.mono ?_
          rintro e w3 ⟨rfl, hb3⟩
          have HB3 := Lib.hid hb3
          have hlb := (hb3.block wc.heap.size (by rw [Lib.iterAt_size]; omega)).trans HLB.out
          have hkx := HKU.out.step hb3
          have hgx := (hb3.block G (by rw [Lib.iterAt_size]; omega)).trans HGU.out
          have hix := (hb3.block (wc.heap.size + 1) (by rw [Lib.iterAt_size]; omega)).trans HIU.out
          have hsx : wc.heap.size + 2 ≤ w3.heap.size := by have := hb3.size; rw [Lib.iterAt_size] at this; omega
          clear hb3
          have ql : ∃ x, w3.cell? ⟨wc.heap.size, 3, none⟩ = some x := ⟨_, by rw [Joins.cell_of_block (i := 3) hlb]; rfl⟩
          obtain ⟨x, ql⟩ := ql
          have rl := Joins.unfrozen_of_block hlb 3
          have hle : wc.heap.size ≠ w.heap.size := by omega
          have HLX := Lib.hid hlb
          have HKX := Lib.hid hkx
          have HGX := Lib.hid hgx
          have HIX := Lib.hid hix
          have HSX := Lib.hid hsx
          clear hlb hkx hgx hix hsx
          go_wp2
          refine ⟨⟨pos + 1, .slice ad2 (leftL a (g.2.take pos)).bytes.length c2, _, by omega, rfl, ?_, ?_, ?_, ?_, ?_, ?_, ?_⟩, ?_⟩
          · show _ = _; rw [line_succ a g pos 97 hp HCC.out, HFL.out, HLn.out]; apply ByteArray.ext; simp [ByteArray.data_append]
          · exact (Below.heap_setCell _ _ _ _ (show wc.heap.size + 1 ≠ wc.heap.size from by omega)).trans HIX.out
          · rw [left_succ a g pos 97 hp HCC.out]; exact Joins.block_setCell (i := 3) HLX.out _
          · rw [left_succ a g pos 97 hp HCC.out]; exact ⟨_, _, rfl⟩
          · exact HKX.out.set HE.out (Nat.le_refl _) (by omega) _
          · exact (Below.heap_setCell _ _ _ _ (show G ≠ wc.heap.size from by omega)).trans HGX.out
          · simpa using HSX.out
          · have := HMS.out
            have e1 : (w3.setCell ⟨wc.heap.size, 3, none⟩ (.int .i64 0)).heap[wc.heap.size + 1]? = some (.stringIter ⟨g.2.toArray⟩ (pos + 1)) := (Below.heap_setCell _ _ _ _ (show wc.heap.size + 1 ≠ wc.heap.size from by omega)).trans HIX.out
            simp only [World.iterPos, HIU.out, e1] at this ⊢
            exact this
        · have hnx : ∀ ty, (Instr.next (.pointer (some ⟨wc.heap.size + 1, 0, none⟩)) true ty).run Tryz.prog wr = .ok (.tuple #[.bool true, .int .i64 pos, .int .i32 119]) (wr.iterAt (wc.heap.size + 1) ⟨g.2.toArray⟩ (pos + 1)) := fun ty => by
            rw [Lib.run_next_any_at wr (wc.heap.size + 1) ⟨g.2.toArray⟩ pos ty HIT.out hp, HD.out]; rfl
          have qa : (wr.iterAt (wc.heap.size + 1) ⟨g.2.toArray⟩ (pos + 1)).cell? ⟨w.heap.size, 4, none⟩ = some (.string ⟨a.name.toArray⟩) := HKU.out.cell rfl
          have hfl : fieldL a 119 = a.name := rfl
          have hll := line_len a g pos 119 hok HLT.out hp HCC.out
          rw [hfl] at hll
          have HLL := Lib.hid hll
          have hl1 : lb.size + 1 + (a.name).length ≤ 140737488355328 := by have := HLL.out; rw [HLn.out]; simp only [List.length_append, List.length_singleton] at this; exact this
          have HFL := Lib.hid hfl
          clear hll hfl
          have hlb := HLB.out
          have hkx := HKU.out
          have hgx := HGU.out
          have hix := HIU.out
          have hsx : wc.heap.size + 2 ≤ (wr.iterAt (wc.heap.size + 1) ⟨g.2.toArray⟩ (pos + 1)).heap.size := by rw [Lib.iterAt_size]; omega
          have ql : ∃ x, (wr.iterAt (wc.heap.size + 1) ⟨g.2.toArray⟩ (pos + 1)).cell? ⟨wc.heap.size, 4, none⟩ = some x := ⟨_, by rw [Joins.cell_of_block (i := 4) hlb]; rfl⟩
          obtain ⟨x, ql⟩ := ql
          have rl := Joins.unfrozen_of_block hlb 4
          have hle : wc.heap.size ≠ w.heap.size := by omega
          have HLX := Lib.hid hlb
          have HKX := Lib.hid hkx
          have HGX := Lib.hid hgx
          have HIX := Lib.hid hix
          have HSX := Lib.hid hsx
          clear hlb hkx hgx hix hsx
          go_wp2
          refine ⟨⟨pos + 1, .slice ad2 (leftL a (g.2.take pos)).bytes.length c2, _, by omega, rfl, ?_, ?_, ?_, ?_, ?_, ?_, ?_⟩, ?_⟩
          · show _ = _; rw [line_succ a g pos 119 hp HCC.out, HFL.out, HLn.out]; apply ByteArray.ext; simp [ByteArray.data_append]
          · exact (Below.heap_setCell _ _ _ _ (show wc.heap.size + 1 ≠ wc.heap.size from by omega)).trans HIX.out
          · rw [left_succ a g pos 119 hp HCC.out]; exact Joins.block_setCell (i := 4) HLX.out _
          · rw [left_succ a g pos 119 hp HCC.out]; exact ⟨_, _, rfl⟩
          · exact HKX.out.set HE.out (Nat.le_refl _) (by omega) _
          · exact (Below.heap_setCell _ _ _ _ (show G ≠ wc.heap.size from by omega)).trans HGX.out
          · simpa using HSX.out
          · have := HMS.out
            have e1 : ((wr.iterAt (wc.heap.size + 1) ⟨g.2.toArray⟩ (pos + 1)).setCell ⟨wc.heap.size, 4, none⟩ (.string ⟨#[]⟩)).heap[wc.heap.size + 1]? = some (.stringIter ⟨g.2.toArray⟩ (pos + 1)) := (Below.heap_setCell _ _ _ _ (show wc.heap.size + 1 ≠ wc.heap.size from by omega)).trans HIX.out
            simp only [World.iterPos, HIU.out, e1] at this ⊢
            exact this
        · by_cases hbl : a.bytes.length ≤ 131200
          · have hnx : ∀ ty, (Instr.next (.pointer (some ⟨wc.heap.size + 1, 0, none⟩)) true ty).run Tryz.prog wr = .ok (.tuple #[.bool true, .int .i64 pos, .int .i32 98]) (wr.iterAt (wc.heap.size + 1) ⟨g.2.toArray⟩ (pos + 1)) := fun ty => by
              rw [Lib.run_next_any_at wr (wc.heap.size + 1) ⟨g.2.toArray⟩ pos ty HIT.out hp, HD.out]; rfl
            have qa : (wr.iterAt (wc.heap.size + 1) ⟨g.2.toArray⟩ (pos + 1)).cell? ⟨w.heap.size, 5, none⟩ = some (.slice ad a.bytes.length cap) := HKU.out.cell rfl
            have hfl : fieldL a 98 = bytesL a.bytes := (if_pos hbl)
            have hll := line_len a g pos 98 hok HLT.out hp HCC.out
            rw [hfl] at hll
            have HLL := Lib.hid hll
            have hl1 : lb.size + 1 + (bytesL a.bytes).length ≤ 140737488355328 := by have := HLL.out; rw [HLn.out]; simp only [List.length_append, List.length_singleton] at this; exact this
            have HFL := Lib.hid hfl
            clear hll hfl
            have HC1 := Lib.hid (bytes_any (.slice ad a.bytes.length cap) a.bytes (wr.iterAt (wc.heap.size + 1) ⟨g.2.toArray⟩ (pos + 1)) (hbs.below HKU.out.below) (by omega))
            go_wp2_with fail
            refine HC1.out.mono ?_
            rintro e w3 ⟨rfl, hb3⟩
            have HB3 := Lib.hid hb3
            have hlb := (hb3.block wc.heap.size (by rw [Lib.iterAt_size]; omega)).trans HLB.out
            have hkx := HKU.out.step hb3
            have hgx := (hb3.block G (by rw [Lib.iterAt_size]; omega)).trans HGU.out
            have hix := (hb3.block (wc.heap.size + 1) (by rw [Lib.iterAt_size]; omega)).trans HIU.out
            have hsx : wc.heap.size + 2 ≤ w3.heap.size := by have := hb3.size; rw [Lib.iterAt_size] at this; omega
            clear hb3
            have ql : ∃ x, w3.cell? ⟨wc.heap.size, 5, none⟩ = some x := ⟨_, by rw [Joins.cell_of_block (i := 5) hlb]; rfl⟩
            obtain ⟨x, ql⟩ := ql
            have rl := Joins.unfrozen_of_block hlb 5
            have hle : wc.heap.size ≠ w.heap.size := by omega
            have HLX := Lib.hid hlb
            have HKX := Lib.hid hkx
            have HGX := Lib.hid hgx
            have HIX := Lib.hid hix
            have HSX := Lib.hid hsx
            clear hlb hkx hgx hix hsx
            go_wp2
            refine ⟨⟨pos + 1, .slice none 0 0, _, by omega, rfl, ?_, ?_, ?_, ?_, ?_, ?_, ?_⟩, ?_⟩
            · show _ = _; rw [line_succ a g pos 98 hp HCC.out, HFL.out, HLn.out]; apply ByteArray.ext; simp [ByteArray.data_append]
            · exact (Below.heap_setCell _ _ _ _ (show wc.heap.size + 1 ≠ wc.heap.size from by omega)).trans HIX.out
            · rw [left_succ a g pos 98 hp HCC.out]; exact Joins.block_setCell (i := 5) HLX.out _
            · rw [left_succ a g pos 98 hp HCC.out]; exact ⟨none, 0, rfl⟩
            · exact HKX.out.set HE.out (Nat.le_refl _) (by omega) _
            · exact (Below.heap_setCell _ _ _ _ (show G ≠ wc.heap.size from by omega)).trans HGX.out
            · simpa using HSX.out
            · have := HMS.out
              have e1 : (w3.setCell ⟨wc.heap.size, 5, none⟩ (.slice none 0 0)).heap[wc.heap.size + 1]? = some (.stringIter ⟨g.2.toArray⟩ (pos + 1)) := (Below.heap_setCell _ _ _ _ (show wc.heap.size + 1 ≠ wc.heap.size from by omega)).trans HIX.out
              simp only [World.iterPos, HIU.out, e1] at this ⊢
              exact this
          · have hnx : ∀ ty, (Instr.next (.pointer (some ⟨wc.heap.size + 1, 0, none⟩)) true ty).run Tryz.prog wr = .ok (.tuple #[.bool true, .int .i64 pos, .int .i32 98]) (wr.iterAt (wc.heap.size + 1) ⟨g.2.toArray⟩ (pos + 1)) := fun ty => by
              rw [Lib.run_next_any_at wr (wc.heap.size + 1) ⟨g.2.toArray⟩ pos ty HIT.out hp, HD.out]; rfl
            have qa : (wr.iterAt (wc.heap.size + 1) ⟨g.2.toArray⟩ (pos + 1)).cell? ⟨w.heap.size, 5, none⟩ = some (.slice ad a.bytes.length cap) := HKU.out.cell rfl
            have hbd : decide ((a.bytes.length : Int) ≤ 131200) = false := by simp; omega
            have hfl : fieldL a 98 = zerosL := (if_neg hbl)
            have hll := line_len a g pos 98 hok HLT.out hp HCC.out
            rw [hfl] at hll
            have HLL := Lib.hid hll
            have hl1 : lb.size + 1 + (zerosL).length ≤ 140737488355328 := by have := HLL.out; rw [HLn.out]; simp only [List.length_append, List.length_singleton] at this; exact this
            have HFL := Lib.hid hfl
            clear hll hfl hbl
            have HC1 := Lib.hid (repeat_zeros (wr.iterAt (wc.heap.size + 1) ⟨g.2.toArray⟩ (pos + 1)))
            go_wp2_with fail
            refine HC1.out.mono ?_
            rintro e w3 ⟨rfl, hb3⟩
            have HB3 := Lib.hid hb3
            have hlb := (hb3.block wc.heap.size (by rw [Lib.iterAt_size]; omega)).trans HLB.out
            have hkx := HKU.out.step hb3
            have hgx := (hb3.block G (by rw [Lib.iterAt_size]; omega)).trans HGU.out
            have hix := (hb3.block (wc.heap.size + 1) (by rw [Lib.iterAt_size]; omega)).trans HIU.out
            have hsx : wc.heap.size + 2 ≤ w3.heap.size := by have := hb3.size; rw [Lib.iterAt_size] at this; omega
            clear hb3
            have ql : ∃ x, w3.cell? ⟨wc.heap.size, 5, none⟩ = some x := ⟨_, by rw [Joins.cell_of_block (i := 5) hlb]; rfl⟩
            obtain ⟨x, ql⟩ := ql
            have rl := Joins.unfrozen_of_block hlb 5
            have hle : wc.heap.size ≠ w.heap.size := by omega
            have HLX := Lib.hid hlb
            have HKX := Lib.hid hkx
            have HGX := Lib.hid hgx
            have HIX := Lib.hid hix
            have HSX := Lib.hid hsx
            clear hlb hkx hgx hix hsx
            go_wp2
            refine ⟨⟨pos + 1, .slice none 0 0, _, by omega, rfl, ?_, ?_, ?_, ?_, ?_, ?_, ?_⟩, ?_⟩
            · show _ = _; rw [line_succ a g pos 98 hp HCC.out, HFL.out, HLn.out]; apply ByteArray.ext; simp [ByteArray.data_append]
            · exact (Below.heap_setCell _ _ _ _ (show wc.heap.size + 1 ≠ wc.heap.size from by omega)).trans HIX.out
            · rw [left_succ a g pos 98 hp HCC.out]; exact Joins.block_setCell (i := 5) HLX.out _
            · rw [left_succ a g pos 98 hp HCC.out]; exact ⟨none, 0, rfl⟩
            · exact HKX.out.set HE.out (Nat.le_refl _) (by omega) _
            · exact (Below.heap_setCell _ _ _ _ (show G ≠ wc.heap.size from by omega)).trans HGX.out
            · simpa using HSX.out
            · have := HMS.out
              have e1 : (w3.setCell ⟨wc.heap.size, 5, none⟩ (.slice none 0 0)).heap[wc.heap.size + 1]? = some (.stringIter ⟨g.2.toArray⟩ (pos + 1)) := (Below.heap_setCell _ _ _ _ (show wc.heap.size + 1 ≠ wc.heap.size from by omega)).trans HIX.out
              simp only [World.iterPos, HIU.out, e1] at this ⊢
              exact this
        · have hnx : ∀ ty, (Instr.next (.pointer (some ⟨wc.heap.size + 1, 0, none⟩)) true ty).run Tryz.prog wr = .ok (.tuple #[.bool true, .int .i64 pos, .int .i32 105]) (wr.iterAt (wc.heap.size + 1) ⟨g.2.toArray⟩ (pos + 1)) := fun ty => by
            rw [Lib.run_next_any_at wr (wc.heap.size + 1) ⟨g.2.toArray⟩ pos ty HIT.out hp, HD.out]; rfl
          have qa : (wr.iterAt (wc.heap.size + 1) ⟨g.2.toArray⟩ (pos + 1)).cell? ⟨w.heap.size, 6, none⟩ = some (.int .u32 a.addr) := HKU.out.cell rfl
          have hfl : fieldL a 105 = addrL a.addr := rfl
          have hll := line_len a g pos 105 hok HLT.out hp HCC.out
          rw [hfl] at hll
          have HLL := Lib.hid hll
          have hl1 : lb.size + 1 + (addrL a.addr).length ≤ 140737488355328 := by have := HLL.out; rw [HLn.out]; simp only [List.length_append, List.length_singleton] at this; exact this
          have HFL := Lib.hid hfl
          clear hll hfl
          have HC1 := Lib.hid (addr_D a.addr (wr.iterAt (wc.heap.size + 1) ⟨g.2.toArray⟩ (pos + 1)) hok.addr)
          go_wp2_with fail
          refine HC1.out.mono ?_
          rintro e w3 ⟨rfl, hb3⟩
          have HB3 := Lib.hid hb3
          have hlb := (hb3.block wc.heap.size (by rw [Lib.iterAt_size]; omega)).trans HLB.out
          have hkx := HKU.out.step hb3
          have hgx := (hb3.block G (by rw [Lib.iterAt_size]; omega)).trans HGU.out
          have hix := (hb3.block (wc.heap.size + 1) (by rw [Lib.iterAt_size]; omega)).trans HIU.out
          have hsx : wc.heap.size + 2 ≤ w3.heap.size := by have := hb3.size; rw [Lib.iterAt_size] at this; omega
          clear hb3
          have ql : ∃ x, w3.cell? ⟨wc.heap.size, 6, none⟩ = some x := ⟨_, by rw [Joins.cell_of_block (i := 6) hlb]; rfl⟩
          obtain ⟨x, ql⟩ := ql
          have rl := Joins.unfrozen_of_block hlb 6
          have hle : wc.heap.size ≠ w.heap.size := by omega
          have HLX := Lib.hid hlb
          have HKX := Lib.hid hkx
          have HGX := Lib.hid hgx
          have HIX := Lib.hid hix
          have HSX := Lib.hid hsx
          clear hlb hkx hgx hix hsx
          go_wp2
          refine ⟨⟨pos + 1, .slice ad2 (leftL a (g.2.take pos)).bytes.length c2, _, by omega, rfl, ?_, ?_, ?_, ?_, ?_, ?_, ?_⟩, ?_⟩
          · show _ = _; rw [line_succ a g pos 105 hp HCC.out, HFL.out, HLn.out]; apply ByteArray.ext; simp [ByteArray.data_append]
          · exact (Below.heap_setCell _ _ _ _ (show wc.heap.size + 1 ≠ wc.heap.size from by omega)).trans HIX.out
          · rw [left_succ a g pos 105 hp HCC.out]; exact Joins.block_setCell (i := 6) HLX.out _
          · rw [left_succ a g pos 105 hp HCC.out]; exact ⟨_, _, rfl⟩
          · exact HKX.out.set HE.out (Nat.le_refl _) (by omega) _
          · exact (Below.heap_setCell _ _ _ _ (show G ≠ wc.heap.size from by omega)).trans HGX.out
          · simpa using HSX.out
          · have := HMS.out
            have e1 : (w3.setCell ⟨wc.heap.size, 6, none⟩ (.int .u32 0)).heap[wc.heap.size + 1]? = some (.stringIter ⟨g.2.toArray⟩ (pos + 1)) := (Below.heap_setCell _ _ _ _ (show wc.heap.size + 1 ≠ wc.heap.size from by omega)).trans HIX.out
            simp only [World.iterPos, HIU.out, e1] at this ⊢
            exact this
      · have hnx : ∀ ty, (Instr.next (.pointer (some ⟨wc.heap.size + 1, 0, none⟩)) true ty).run Tryz.prog wr = _ := fun ty => Lib.run_next_end_at wr (wc.heap.size + 1) ⟨g.2.toArray⟩ pos ty hit (by exact hp)
        have hpe : pos = g.2.length := by omega
        rw [hpe, List.take_length] at hlb
        have hln : lb = ⟨(lineF a g).toArray⟩ := by rw [HLn.out, hpe, List.take_length]; rfl
        have HLF := Lib.hid hln
        have hfm : formatL a = if ¬ (leftL a g.2).bare then .error 1 else if 119 ∈ g.2 ∧ (a.name = [] ∨ a.name.any spB = true) then .error 150 else if 131200 < lb.size then .error 2 else .ok lb.data.toList := by
          unfold formatL
          rw [HKI.out, if_neg (by omega), show ((k : Nat) : Int).toNat = k from by omega, ← HG.out, hln]
          rfl
        have HFM := Lib.hid hfm
        clear hln hfm
        generalize leftL a g.2 = lf at hlb HFM
        have q1 : wr.cell? ⟨wc.heap.size, 1, none⟩ = some (.int .i64 lf.host) := by rw [Joins.cell_of_block (i := 1) hlb]; rfl
        have q2 : wr.cell? ⟨wc.heap.size, 2, none⟩ = some (.int .i64 lf.n) := by rw [Joins.cell_of_block (i := 2) hlb]; rfl
        have q3 : wr.cell? ⟨wc.heap.size, 3, none⟩ = some (.int .i64 lf.place) := by rw [Joins.cell_of_block (i := 3) hlb]; rfl
        obtain ⟨nm, hnm⟩ : ∃ nm : ByteArray, nm = ⟨lf.name.toArray⟩ := ⟨_, rfl⟩
        have q4 : wr.cell? ⟨wc.heap.size, 4, none⟩ = some (.string nm) := by rw [Joins.cell_of_block (i := 4) hlb, hnm]; rfl
        have q5 : ∃ x y, wr.cell? ⟨wc.heap.size, 5, none⟩ = some (.slice x lf.bytes.length y) := ⟨_, _, by rw [Joins.cell_of_block (i := 5) hlb]; rfl⟩
        have q6 : wr.cell? ⟨wc.heap.size, 6, none⟩ = some (.int .u32 lf.addr) := by rw [Joins.cell_of_block (i := 6) hlb]; rfl
        obtain ⟨xa, xc, q5⟩ := q5
        have HKP2 := Lib.hid hkp
        have qn : wr.cell? ⟨w.heap.size, 4, none⟩ = some (.string ⟨a.name.toArray⟩) := hkp.cell (i := 4) rfl
        have qg : wr.cell? ⟨G, 1, none⟩ = some (.string ⟨g.2.toArray⟩) := by rw [Joins.cell_of_block (i := 1) hgb]; rfl
        have HNM := Lib.hid hnm
        clear hit hlb hkp hgb hpe c0 c1 hnm
        go_upto_region 31 with fail
        go_cut [117] (fun x wx => ∃ bb : Bool, x = .bool bb ∧ Hid (bb = true ↔ ¬ lf.bare) ∧ wx = wr)
        case first =>
          by_cases b1 : lf.host = 0
          · by_cases b2 : lf.place = 0
            · by_cases b3 : lf.n = 0
              · by_cases b4 : lf.name = []
                · by_cases b5 : lf.bytes = []
                  · by_cases b6 : lf.addr = 0
                    · have hb : lf.bare := ⟨b1, b2, b3, b4, b5, b6⟩
                      have e1 : ((lf.host : Int) != 0) = false := by rw [b1]; rfl
                      have e2 : ((lf.place : Int) != 0) = false := by rw [b2]; rfl
                      have e3 : ((lf.n : Int) != 0) = false := by rw [b3]; rfl
                      have e4 : nm.toList = [] := by rw [Lib.toList_data, HNM.out]; exact b4
                      have e5 : ((lf.bytes.length : Int) != 0) = false := by rw [b5]; rfl
                      have e6 : ((lf.addr : Int) != 0) = false := by rw [b6]; rfl
                      have HB := Lib.hid hb
                      clear hb b1 b2 b3 b4 b5 b6
                      go_wp2
                      go_meet
                      exact ⟨false, rfl, (show (false = true ↔ ¬ lf.bare) from ⟨fun h => (by cases h), fun h => absurd HB.out h⟩), rfl⟩
                    · have hb : ¬ lf.bare := fun h => b6 h.2.2.2.2.2
                      have e1 : ((lf.host : Int) != 0) = false := by rw [b1]; rfl
                      have e2 : ((lf.place : Int) != 0) = false := by rw [b2]; rfl
                      have e3 : ((lf.n : Int) != 0) = false := by rw [b3]; rfl
                      have e4 : nm.toList = [] := by rw [Lib.toList_data, HNM.out]; exact b4
                      have e5 : ((lf.bytes.length : Int) != 0) = false := by rw [b5]; rfl
                      have e6 : ((lf.addr : Int) != 0) = true := by rw [bne_iff_ne]; omega
                      have HB := Lib.hid hb
                      clear hb b1 b2 b3 b4 b5 b6
                      go_wp2
                      go_meet
                      exact ⟨true, rfl, (show (true = true ↔ ¬ lf.bare) from ⟨fun _ => HB.out, fun _ => rfl⟩), rfl⟩
                  · have hb : ¬ lf.bare := fun h => b5 h.2.2.2.2.1
                    have e1 : ((lf.host : Int) != 0) = false := by rw [b1]; rfl
                    have e2 : ((lf.place : Int) != 0) = false := by rw [b2]; rfl
                    have e3 : ((lf.n : Int) != 0) = false := by rw [b3]; rfl
                    have e4 : nm.toList = [] := by rw [Lib.toList_data, HNM.out]; exact b4
                    have e5 : ((lf.bytes.length : Int) != 0) = true := by rw [bne_iff_ne]; intro h; exact b5 (List.length_eq_zero_iff.1 (by omega))
                    have HB := Lib.hid hb
                    clear hb b1 b2 b3 b4 b5
                    go_wp2
                    go_meet
                    exact ⟨true, rfl, (show (true = true ↔ ¬ lf.bare) from ⟨fun _ => HB.out, fun _ => rfl⟩), rfl⟩
                · have hb : ¬ lf.bare := fun h => b4 h.2.2.2.1
                  have e1 : ((lf.host : Int) != 0) = false := by rw [b1]; rfl
                  have e2 : ((lf.place : Int) != 0) = false := by rw [b2]; rfl
                  have e3 : ((lf.n : Int) != 0) = false := by rw [b3]; rfl
                  have e4 : nm.toList.isEmpty = false := by rw [Lib.toList_data, HNM.out, List.isEmpty_eq_false_iff]; exact b4
                  have e4' : ¬ nm.toList = [] := by rw [Lib.toList_data, HNM.out]; exact b4
                  have HB := Lib.hid hb
                  clear hb b1 b2 b3 b4
                  go_wp2
                  go_meet
                  exact ⟨true, rfl, (show (true = true ↔ ¬ lf.bare) from ⟨fun _ => HB.out, fun _ => rfl⟩), rfl⟩
              · have hb : ¬ lf.bare := fun h => b3 h.2.2.1
                have e1 : ((lf.host : Int) != 0) = false := by rw [b1]; rfl
                have e2 : ((lf.place : Int) != 0) = false := by rw [b2]; rfl
                have e3 : ((lf.n : Int) != 0) = true := by rw [bne_iff_ne]; exact b3
                have HB := Lib.hid hb
                clear hb b1 b2 b3
                go_wp2
                go_meet
                exact ⟨true, rfl, (show (true = true ↔ ¬ lf.bare) from ⟨fun _ => HB.out, fun _ => rfl⟩), rfl⟩
            · have hb : ¬ lf.bare := fun h => b2 h.2.1
              have e1 : ((lf.host : Int) != 0) = false := by rw [b1]; rfl
              have e2 : ((lf.place : Int) != 0) = true := by rw [bne_iff_ne]; exact b2
              have HB := Lib.hid hb
              clear hb b1 b2
              go_wp2
              go_meet
              exact ⟨true, rfl, (show (true = true ↔ ¬ lf.bare) from ⟨fun _ => HB.out, fun _ => rfl⟩), rfl⟩
          · have hb : ¬ lf.bare := fun h => b1 h.1
            have e1 : ((lf.host : Int) != 0) = true := by rw [bne_iff_ne]; exact b1
            have HB := Lib.hid hb
            clear hb b1
            go_wp2
            go_meet
            exact ⟨true, rfl, (show (true = true ↔ ¬ lf.bare) from ⟨fun _ => HB.out, fun _ => rfl⟩), rfl⟩
        case rest =>
          obtain ⟨bb, rfl, HBB, rfl⟩ := hcut
          clear q1 q2 q3 q4 q5 q6
          cases bb
          case true =>
            have hr : formatL a = .error 1 := by rw [HFM.out, if_pos (HBB.out.1 rfl)]
            have HR := Lib.hid hr
            clear hr
            go_wp2
            go_ret2
            rw [HR.out]
            exact ⟨rfl, HKP2.out.below⟩
          case false =>
            have hbare : ¬ ¬ lf.bare := fun h => by have := HBB.out.2 h; cases this
            have hfm := HFM.out
            rw [if_neg hbare] at hfm
            have HF2 := Lib.hid hfm
            have HCT := Lib.hid (Tryz.strings_Contains_one ⟨g.2.toArray⟩ 119 wc)
            clear hbare hfm
            by_cases hw : 119 ∈ g.2
            · rw [show decide (0 ≤ Lib.indexByte (⟨g.2.toArray⟩ : ByteArray).data.toList 119) = true from decide_eq_true ((byte_there g.2 119).2 hw)] at HCT
              by_cases hn : a.name = []
              · have hr : formatL a = .error 150 := by rw [HF2.out, if_pos ⟨hw, .inl hn⟩]
                have HR := Lib.hid hr
                have e1 : (⟨a.name.toArray⟩ : ByteArray).toList = [] := by rw [Lib.toList_data]; exact hn
                clear hr hw hn
                go_wp2_with fail
                refine HCT.out.mono ?_
                rintro e w1 ⟨rfl, rfl⟩
                go_wp2
                go_ret2
                rw [HR.out]
                exact ⟨rfl, HKP2.out.below⟩
              · have e1 : (⟨a.name.toArray⟩ : ByteArray).toList.isEmpty = false := by rw [Lib.toList_data, List.isEmpty_eq_false_iff]; exact hn
                have e2 : ¬ (⟨a.name.toArray⟩ : ByteArray).toList = [] := by rw [Lib.toList_data]; exact hn
                have HCA := Lib.hid (containsAny ⟨a.name.toArray⟩ wc hok.name)
                rw [show (⟨a.name.toArray⟩ : ByteArray).data.toList = a.name from rfl] at HCA
                have hr2 : formatL a = if a.name.any spB = true then .error 150 else if 131200 < lb.size then .error 2 else .ok lb.data.toList := by
                  rw [HF2.out]
                  by_cases h : a.name.any spB = true
                  · rw [if_pos ⟨hw, .inr h⟩, if_pos h]
                  · rw [if_neg (fun x => x.2.elim hn h), if_neg h]
                have HR2 := Lib.hid hr2
                have e3 : a.name.isEmpty = false := List.isEmpty_eq_false_iff.2 hn
                clear hr2 hw
                generalize a.name.any spB = B at HCA HR2
                cases B
                case true =>
                  have hr : formatL a = .error 150 := by rw [HR2.out]; rfl
                  have HR := Lib.hid hr
                  clear hr
                  go_wp2_with fail
                  refine HCT.out.mono ?_
                  rintro e w1 ⟨rfl, rfl⟩
                  go_wp2_with fail
                  refine HCA.out.mono ?_
                  rintro e w1 ⟨rfl, hb1⟩
                  have HB1 := Lib.hid hb1
                  clear hb1
                  go_wp2
                  go_ret2
                  rw [HR.out]
                  exact ⟨rfl, HKP2.out.below.trans (HB1.out.mono HKP2.out.below.size)⟩
                case false =>
                  have hr : formatL a = if 131200 < lb.size then .error 2 else .ok lb.data.toList := by rw [HR2.out, if_neg (by decide)]
                  have HR := Lib.hid hr
                  clear hr
                  by_cases hl : 131200 < lb.size
                  · have hd : decide ((131200 : Int) < (lb.size : Int)) = true := by simp; omega
                    have HL := Lib.hid hl
                    clear hl
                    go_wp2_with fail
                    refine HCT.out.mono ?_
                    rintro e w1 ⟨rfl, rfl⟩
                    go_wp2_with fail
                    refine HCA.out.mono ?_
                    rintro e w1 ⟨rfl, hb1⟩
                    have HB1 := Lib.hid hb1
                    clear hb1
                    go_wp2
                    go_ret2
                    rw [HR.out, if_pos HL.out]
                    exact ⟨rfl, HKP2.out.below.trans (HB1.out.mono HKP2.out.below.size)⟩
                  · have hd : decide ((131200 : Int) < (lb.size : Int)) = false := by simp; omega
                    have HL := Lib.hid hl
                    clear hl
                    go_wp2_with fail
                    refine HCT.out.mono ?_
                    rintro e w1 ⟨rfl, rfl⟩
                    go_wp2_with fail
                    refine HCA.out.mono ?_
                    rintro e w1 ⟨rfl, hb1⟩
                    have HB1 := Lib.hid hb1
                    clear hb1
                    go_wp2
                    go_ret2
                    rw [HR.out, if_neg HL.out]
                    exact ⟨rfl, HKP2.out.below.trans (HB1.out.mono HKP2.out.below.size)⟩
            · rw [show decide (0 ≤ Lib.indexByte (⟨g.2.toArray⟩ : ByteArray).data.toList 119) = false from decide_eq_false (fun h => hw ((byte_there g.2 119).1 h))] at HCT
              have hr : formatL a = if 131200 < lb.size then .error 2 else .ok lb.data.toList := by rw [HF2.out, if_neg (fun h => hw h.1)]
              have HR := Lib.hid hr
              clear hr hw
              by_cases hl : 131200 < lb.size
              · have hd : decide ((131200 : Int) < (lb.size : Int)) = true := by simp; omega
                have HL := Lib.hid hl
                clear hl
                go_wp2_with fail
                refine HCT.out.mono ?_
                rintro e w1 ⟨rfl, rfl⟩
                go_wp2
                go_ret2
                rw [HR.out, if_pos HL.out]
                exact ⟨rfl, HKP2.out.below⟩
              · have hd : decide ((131200 : Int) < (lb.size : Int)) = false := by simp; omega
                have HL := Lib.hid hl
                clear hl
                go_wp2_with fail
                refine HCT.out.mono ?_
                rintro e w1 ⟨rfl, rfl⟩
                go_wp2
                go_ret2
                rw [HR.out, if_neg HL.out]
                exact ⟨rfl, HKP2.out.below⟩

/-- FormatAct: of any act -/
theorem format_any (a : ActD) (v : Value) (w : World) (hE : Env w) (hok : a.Ok) (hbs : Bs w v a.bytes) :
    Calls Tryz.prog 11 #[.agg (a.cells v)] w fun e w' => FormatPost (formatL a) e ∧ Below w.heap.size w w' := by
  obtain ⟨ad, cap, rfl, -, -⟩ := id hbs
  by_cases h1 : a.kind < 1
  · exact format_low a ad cap w h1
  · by_cases h2 : 30 ≤ a.kind
    · exact format_high a ad cap w hE h2
    · exact format_main a ad cap w hE hok a.kind.toNat (by omega) (by omega) (by omega) hbs
end Go.Proofs.YtmnkdnpjcfmjgaaGreatDoor
