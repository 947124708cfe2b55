/- Package weftlaw20: formats: FormatReply of a reply of marks leaves them. -/
import Derived.Test.YtmnkdnpjcfmjgaaGreatDoorSameReply
import Derived.Test.YtmnkdnpjcfmjgaaGreatDoorFirst
import Derived.BigQuiet
import Derived.Deep.DeepCutAuto
import Derived.Deep.MidRow
import Derived.Deep.RegionHeld3
import Derived.Test.YtmnkdnpjcfmjgaaGreatDoorReplyLoops
import Derived.Test.YtmnkdnpjcfmjgaaGreatDoorApartSmall
namespace Go.Proofs.YtmnkdnpjcfmjgaaGreatDoor
open Go.RowKit

theorem alloc_heap (w : World) (os : List Obj) : (os.foldl World.alloc w).heap = w.heap ++ os.toArray := by
  induction os generalizing w with
  | nil => simp
  | cons o os ih =>
    rw [List.foldl_cons, ih]
    have : (w.alloc o).heap = w.heap.push o := rfl
    rw [this]
    simp
theorem alloc_at (w : World) (os : List Obj) (i : Nat) (o : Obj) (h : os[i]? = some o) : (os.foldl World.alloc w).heap[w.heap.size + i]? = some o := by
  rw [alloc_heap, Array.getElem?_append_right (by omega), Nat.add_sub_cancel_left]
  simpa using h
theorem alloc_below (w : World) (os : List Obj) : Below w.heap.size w (os.foldl World.alloc w) ∧ (os.foldl World.alloc w).heap.size = w.heap.size + os.length := by
  induction os generalizing w with
  | nil => exact ⟨Below.refl _ _, rfl⟩
  | cons o os ih =>
    obtain ⟨h1, h2⟩ := ih (w.alloc o)
    have hs : (w.alloc o).heap.size = w.heap.size + 1 := by simp
    rw [List.foldl_cons]
    refine ⟨((Below.refl _ w).alloc (Nat.le_refl _) o).trans (h1.mono (by rw [hs]; omega)), ?_⟩
    rw [h2, hs, List.length_cons]; omega
/-- the marks in memory, behind what was there -/
structure Marks (w : World) (a : Option Addr) (l : List UInt8) (c : Nat) (u : World) : Prop where
  below : Below w.heap.size w u
  size : w.heap.size + 10 ≤ u.heap.size
  h0 : u.heap[w.heap.size + 0]? = some (.cells #[.int .u8 1] 5)
  h1 : u.heap[w.heap.size + 1]? = some (.cells #[.int .i64 0, .int .u32 0, .string ⟨#[]⟩, .slice a l.length c, .int .i64 0, .int .u32 0, .string ⟨#[]⟩, .slice (some ⟨w.heap.size, 0, none⟩) 1 1] 79)
  h2 : u.heap[w.heap.size + 2]? = some (.cells #[.int .u32 5, .slice a l.length c, .int .u32 6, .slice none 0 0] 88)
  h3 : u.heap[w.heap.size + 3]? = some (.cells #[.string ⟨#[97]⟩, .int .u32 5, .string ⟨#[98]⟩, .int .u32 6] 86)
  h4 : u.heap[w.heap.size + 4]? = some (.cells #[.int .i64 4, .int .i64 5, .int .i64 6] 3)
  h5 : u.heap[w.heap.size + 5]? = some (.cells #[.int .i64 1, .int .u32 0, .int .i64 0, .int .u32 0, .int .u8 0, .int .u8 0, .int .u8 0, .int .u8 0, .int .u8 0, .int .u8 0, .int .i64 0, .int .i64 0, .int .i64 2, .int .u32 0, .int .i64 0, .int .u32 0, .int .u8 0, .int .u8 0, .int .u8 0, .int .u8 0, .int .u8 0, .int .u8 0, .int .i64 0, .int .i64 0] 46)
  h6 : u.heap[w.heap.size + 6]? = some (.cells #[.int .u32 0, .int .i64 1, .int .u32 0, .int .i64 2] 42)
  h7 : u.heap[w.heap.size + 7]? = some (.cells #[.int .u32 0, .int .i64 0, .int .u32 1, .bool false, .int .u32 0, .int .i64 0, .int .u32 2, .bool false] 105)
  h8 : u.heap[w.heap.size + 8]? = some (.cells #[.int .u32 1, .int .u8 0, .int .u8 0, .int .u8 0, .int .u8 0, .int .u8 0, .int .u8 0, .int .u32 2, .int .u8 0, .int .u8 0, .int .u8 0, .int .u8 0, .int .u8 0, .int .u8 0] 107)
  h9 : u.heap[w.heap.size + 9]? = some (.cells #[.int .u8 0, .int .u8 0, .int .u8 0, .int .u8 0, .int .u8 0, .int .u8 0, .int .u32 1, .int .u8 0, .int .u8 0, .int .u8 0, .int .u8 0, .int .u8 0, .int .u8 0, .int .u32 2] 109)
theorem Marks.new (w : World) (a : Option Addr) (l : List UInt8) (c : Nat) : Marks w a l c ([(.cells #[.int .u8 1] 5 : Obj), (.cells #[.int .i64 0, .int .u32 0, .string ⟨#[]⟩, .slice a l.length c, .int .i64 0, .int .u32 0, .string ⟨#[]⟩, .slice (some ⟨w.heap.size, 0, none⟩) 1 1] 79 : Obj), (.cells #[.int .u32 5, .slice a l.length c, .int .u32 6, .slice none 0 0] 88 : Obj), (.cells #[.string ⟨#[97]⟩, .int .u32 5, .string ⟨#[98]⟩, .int .u32 6] 86 : Obj), (.cells #[.int .i64 4, .int .i64 5, .int .i64 6] 3 : Obj), (.cells #[.int .i64 1, .int .u32 0, .int .i64 0, .int .u32 0, .int .u8 0, .int .u8 0, .int .u8 0, .int .u8 0, .int .u8 0, .int .u8 0, .int .i64 0, .int .i64 0, .int .i64 2, .int .u32 0, .int .i64 0, .int .u32 0, .int .u8 0, .int .u8 0, .int .u8 0, .int .u8 0, .int .u8 0, .int .u8 0, .int .i64 0, .int .i64 0] 46 : Obj), (.cells #[.int .u32 0, .int .i64 1, .int .u32 0, .int .i64 2] 42 : Obj), (.cells #[.int .u32 0, .int .i64 0, .int .u32 1, .bool false, .int .u32 0, .int .i64 0, .int .u32 2, .bool false] 105 : Obj), (.cells #[.int .u32 1, .int .u8 0, .int .u8 0, .int .u8 0, .int .u8 0, .int .u8 0, .int .u8 0, .int .u32 2, .int .u8 0, .int .u8 0, .int .u8 0, .int .u8 0, .int .u8 0, .int .u8 0] 107 : Obj), (.cells #[.int .u8 0, .int .u8 0, .int .u8 0, .int .u8 0, .int .u8 0, .int .u8 0, .int .u32 1, .int .u8 0, .int .u8 0, .int .u8 0, .int .u8 0, .int .u8 0, .int .u8 0, .int .u32 2] 109 : Obj)].foldl World.alloc w) :=
  ⟨(alloc_below w _).1, by rw [(alloc_below w _).2]; exact Nat.le_refl _, alloc_at w _ 0 _ rfl, alloc_at w _ 1 _ rfl, alloc_at w _ 2 _ rfl, alloc_at w _ 3 _ rfl, alloc_at w _ 4 _ rfl, alloc_at w _ 5 _ rfl, alloc_at w _ 6 _ rfl, alloc_at w _ 7 _ rfl, alloc_at w _ 8 _ rfl, alloc_at w _ 9 _ rfl⟩
theorem Marks.grow {w : World} {a : Option Addr} {l : List UInt8} {c : Nat} {u u' : World} (h : Marks w a l c u) (hb : Below u.heap.size u u') : Marks w a l c u' :=
  have hs := h.size
  have hz := hb.size
  ⟨h.below.trans (hb.mono h.below.size), by omega, (hb.block _ (by omega)).trans h.h0, (hb.block _ (by omega)).trans h.h1, (hb.block _ (by omega)).trans h.h2, (hb.block _ (by omega)).trans h.h3, (hb.block _ (by omega)).trans h.h4, (hb.block _ (by omega)).trans h.h5, (hb.block _ (by omega)).trans h.h6, (hb.block _ (by omega)).trans h.h7, (hb.block _ (by omega)).trans h.h8, (hb.block _ (by omega)).trans h.h9⟩
/-- .. and the tables' and the view's boxes -/
structure Marks2 (w : World) (a : Option Addr) (l : List UInt8) (c : Nat) (u : World) : Prop where
  marks : Marks w a l c u
  size : w.heap.size + 12 ≤ u.heap.size
  t : u.heap[w.heap.size + 10]? = some (.cells #[.slice (some ⟨w.heap.size + 7, 0, none⟩) 1 2, .slice (some ⟨w.heap.size + 8, 0, none⟩) 1 2, .slice (some ⟨w.heap.size + 9, 0, none⟩) 1 2] 38)
  v : u.rangeAt (w.heap.size + 11) 0 [.bool false, .int .i64 0, .int .u32 0, .int .i64 0, .int .u32 0, .int .u8 0, .int .u8 0, .int .u8 0, .int .u8 0, .int .u8 0, .int .u8 0, .int .i64 0, .int .i64 0, .int .i64 0, .bool false, .bool false, .slice (some ⟨w.heap.size + 5, 0, none⟩) 1 2, .slice (some ⟨w.heap.size + 6, 0, none⟩) 1 2, .slice (some ⟨w.heap.size + 7, 0, none⟩) 1 2, .slice (some ⟨w.heap.size + 8, 0, none⟩) 1 2, .slice (some ⟨w.heap.size + 9, 0, none⟩) 1 2]
theorem Marks2.grow {w : World} {a : Option Addr} {l : List UInt8} {c : Nat} {u u' : World} (h : Marks2 w a l c u) (hb : Below u.heap.size u u') : Marks2 w a l c u' :=
  have hs := h.size
  have hz := hb.size
  ⟨h.marks.grow hb, by omega, (hb.block _ (by omega)).trans h.t, fun j v hj => (hb.cell (p := ⟨w.heap.size + 11, 0 + j, none⟩) (by show w.heap.size + 11 < u.heap.size; omega)).trans (h.v j v hj)⟩
theorem there_of {u : World} {b o n : Nat} {cur : Array Value} {T : TypeId} (h : u.heap[b]? = some (.cells cur T (0, 0))) (hn : o + n ≤ cur.size) : u.there b o n := fun j hj => by
  rw [cell_of_row u b (o + j) cur T (0, 0) h, frozen_of_row u b (o + j) cur T h]
  exact ⟨by rw [Array.getElem?_eq_getElem (by omega)]; rfl, rfl⟩
theorem below_setCells {B b o : Nat} {a u : World} (h : Below B a u) (hb : B ≤ b) (vs : List Value) : Below B a (u.setCells b o vs) := by
  induction vs generalizing u o with
  | nil => exact h
  | cons x vs ih => exact ih (h.setCell (p := ⟨b, o, none⟩) hb x)


set_option maxRecDepth 1000000 in
set_option maxHeartbeats 8000000 in
theorem formats_tail11 (a : Option Addr) (l : List UInt8) (c : Nat) (w wy : World) {c1 c13 c14 c15 c16 c17 c18 c19 c20 c21 c22 c23 c24 c25 c26 c27 c28 c29 c30 c31 c32 c33 c34 c35 c36 c37 c38 c39 c40 c41 c42 c43 c44 c45 c46 c47 c48 c49 c50 c51 c52 c53 c54 c55 c56 c57 c58 c59 c60 c61 c62 c63 c64 c65 c66 c67 c68 c69 c70 c71 c72 c73 c74 c75 c76 c77 c78 c79 c80 c81 c82 c83 c84 c85 c86 c87 c88 c89 c90 c91 c92 c93 c94 c95 c96 c97 c98 c99 c100 c101 c102 c103 c104 c105 c106 c107 c108 c109 c110 c111 c112 c113 c114 c115 c116 c117 c118 c119 c120 c121 c122 c123 c124 c125 c126 c127 c128 c129 c130 c131 c132 c133 c134 c135 c136 c137 c138 c139 c140 c141 c142 c143 c144 c145 c146 c147 c148 c149 c150 c151 c152 c153 c154 c155 c156 c157 c158 c159 c160 c161 c162 c163 c164 c165 c166 c167 c168 c169 c170 c171 c172 c173 c174 c175 c176 c177 c178 c179 c180 c181 c182 c183 c184 c185 c186 c187 c188 c189 c190 c191 c192 c193 c194 c195 c196 c197 c198 c199 c200 c201 c202 c203 c204 c205 c206 c207 c208 : Value} (hm : Marks w a l c wy) (ht : wy.heap[w.heap.size + 10]? = some (.cells #[.slice (some ⟨w.heap.size + 7, 0, none⟩) 1 2, .slice (some ⟨w.heap.size + 8, 0, none⟩) 1 2, .slice (some ⟨w.heap.size + 9, 0, none⟩) 1 2] 38)) (hz : wy.heap.size = w.heap.size + 11)
    (hnext : ∀ (wz : World) {c1 c14 c15 c16 c17 c18 c19 c20 c21 c22 c23 c24 c25 c26 c27 c28 c29 c30 c31 c32 c33 c34 c35 c36 c37 c38 c39 c40 c41 c42 c43 c44 c45 c46 c47 c48 c49 c50 c51 c52 c53 c54 c55 c56 c57 c58 c59 c60 c61 c62 c63 c64 c65 c66 c67 c68 c69 c70 c71 c72 c73 c74 c75 c76 c77 c78 c79 c80 c81 c82 c83 c84 c85 c86 c87 c88 c89 c90 c91 c92 c93 c94 c95 c96 c97 c98 c99 c100 c101 c102 c103 c104 c105 c106 c107 c108 c109 c110 c111 c112 c113 c114 c115 c116 c117 c118 c119 c120 c121 c122 c123 c124 c125 c126 c127 c128 c129 c130 c131 c132 c133 c134 c135 c136 c137 c138 c139 c140 c141 c142 c143 c144 c145 c146 c147 c148 c149 c150 c151 c152 c153 c154 c155 c156 c157 c158 c159 c160 c161 c162 c163 c164 c165 c166 c167 c168 c169 c170 c171 c172 c173 c174 c175 c176 c177 c178 c179 c180 c181 c182 c183 c184 c185 c186 c187 c188 c189 c190 c191 c192 c193 c194 c195 c196 c197 c198 c199 c200 c201 c202 c203 c204 c205 c206 c207 c208 : Value}, Marks2 w a l c wz → Code.wp Tryz.prog (tailOf Tryz.f12 12) (bodyPost Tryz.prog Tryz.f12 fun e w' => e = .returned (.bool true) ∧ Below w.heap.size w w') ⟨#[.slice a l.length c, c1, .bool false, .slice (some ⟨w.heap.size + 1, 0, none⟩) 2 2, .slice (some ⟨w.heap.size + 2, 0, none⟩) 2 2, .slice (some ⟨w.heap.size + 3, 0, none⟩) 2 2, .slice (some ⟨w.heap.size + 4, 0, none⟩) 3 3, .slice (some ⟨w.heap.size + 5, 0, none⟩) 2 2, .slice (some ⟨w.heap.size + 6, 0, none⟩) 2 2, .slice (some ⟨w.heap.size + 7, 0, none⟩) 2 2, .slice (some ⟨w.heap.size + 8, 0, none⟩) 2 2, .slice (some ⟨w.heap.size + 9, 0, none⟩) 2 2, .pointer (some ⟨w.heap.size + 10, 0, none⟩), .pointer (some ⟨w.heap.size + 11, 0, none⟩), c14, c15, c16, c17, c18, c19, c20, c21, c22, c23, c24, c25, c26, c27, c28, c29, c30, c31, c32, c33, c34, c35, c36, c37, c38, c39, c40, c41, c42, c43, c44, c45, c46, c47, c48, c49, c50, c51, c52, c53, c54, c55, c56, c57, c58, c59, c60, c61, c62, c63, c64, c65, c66, c67, c68, c69, c70, c71, c72, c73, c74, c75, c76, c77, c78, c79, c80, c81, c82, c83, c84, c85, c86, c87, c88, c89, c90, c91, c92, c93, c94, c95, c96, c97, c98, c99, c100, c101, c102, c103, c104, c105, c106, c107, c108, c109, c110, c111, c112, c113, c114, c115, c116, c117, c118, c119, c120, c121, c122, c123, c124, c125, c126, c127, c128, c129, c130, c131, c132, c133, c134, c135, c136, c137, c138, c139, c140, c141, c142, c143, c144, c145, c146, c147, c148, c149, c150, c151, c152, c153, c154, c155, c156, c157, c158, c159, c160, c161, c162, c163, c164, c165, c166, c167, c168, c169, c170, c171, c172, c173, c174, c175, c176, c177, c178, c179, c180, c181, c182, c183, c184, c185, c186, c187, c188, c189, c190, c191, c192, c193, c194, c195, c196, c197, c198, c199, c200, c201, c202, c203, c204, c205, c206, c207, c208], []⟩ wz) :
    Code.wp Tryz.prog (tailOf Tryz.f12 11) (bodyPost Tryz.prog Tryz.f12 fun e w' => e = .returned (.bool true) ∧ Below w.heap.size w w') ⟨#[.slice a l.length c, c1, .bool false, .slice (some ⟨w.heap.size + 1, 0, none⟩) 2 2, .slice (some ⟨w.heap.size + 2, 0, none⟩) 2 2, .slice (some ⟨w.heap.size + 3, 0, none⟩) 2 2, .slice (some ⟨w.heap.size + 4, 0, none⟩) 3 3, .slice (some ⟨w.heap.size + 5, 0, none⟩) 2 2, .slice (some ⟨w.heap.size + 6, 0, none⟩) 2 2, .slice (some ⟨w.heap.size + 7, 0, none⟩) 2 2, .slice (some ⟨w.heap.size + 8, 0, none⟩) 2 2, .slice (some ⟨w.heap.size + 9, 0, none⟩) 2 2, .pointer (some ⟨w.heap.size + 10, 0, none⟩), c13, c14, c15, c16, c17, c18, c19, c20, c21, c22, c23, c24, c25, c26, c27, c28, c29, c30, c31, c32, c33, c34, c35, c36, c37, c38, c39, c40, c41, c42, c43, c44, c45, c46, c47, c48, c49, c50, c51, c52, c53, c54, c55, c56, c57, c58, c59, c60, c61, c62, c63, c64, c65, c66, c67, c68, c69, c70, c71, c72, c73, c74, c75, c76, c77, c78, c79, c80, c81, c82, c83, c84, c85, c86, c87, c88, c89, c90, c91, c92, c93, c94, c95, c96, c97, c98, c99, c100, c101, c102, c103, c104, c105, c106, c107, c108, c109, c110, c111, c112, c113, c114, c115, c116, c117, c118, c119, c120, c121, c122, c123, c124, c125, c126, c127, c128, c129, c130, c131, c132, c133, c134, c135, c136, c137, c138, c139, c140, c141, c142, c143, c144, c145, c146, c147, c148, c149, c150, c151, c152, c153, c154, c155, c156, c157, c158, c159, c160, c161, c162, c163, c164, c165, c166, c167, c168, c169, c170, c171, c172, c173, c174, c175, c176, c177, c178, c179, c180, c181, c182, c183, c184, c185, c186, c187, c188, c189, c190, c191, c192, c193, c194, c195, c196, c197, c198, c199, c200, c201, c202, c203, c204, c205, c206, c207, c208], []⟩ wy := by
  have HN := Lib.hid hnext
  have HM := Lib.hid hm
  have HT := Lib.hid ht
  have HZ := Lib.hid hz
  have q0 : wy.cell? ⟨w.heap.size + 10, 0, none⟩ = some (.slice (some ⟨w.heap.size + 7, 0, none⟩) 1 2) := by simp [World.cell?, ht]
  have q1 : wy.cell? ⟨w.heap.size + 10, 1, none⟩ = some (.slice (some ⟨w.heap.size + 8, 0, none⟩) 1 2) := by simp [World.cell?, ht]
  have q2 : wy.cell? ⟨w.heap.size + 10, 2, none⟩ = some (.slice (some ⟨w.heap.size + 9, 0, none⟩) 1 2) := by simp [World.cell?, ht]
  have hlt : w.heap.size + 10 < wy.heap.size := by rw [hz]; omega
  clear hm ht hz hnext
  conv => arg 2; whnf
  conv => arg 4; dsimp only
  go_wp2
  refine wp_region_held_drew (S := fun u => u.heap[w.heap.size + 10]? = some (.cells #[.slice (some ⟨w.heap.size + 7, 0, none⟩) 1 2, .slice (some ⟨w.heap.size + 8, 0, none⟩) 1 2, .slice (some ⟨w.heap.size + 9, 0, none⟩) 1 2] 38) ∧ w.heap.size + 11 ≤ u.heap.size) (by kernel_rfl) ⟨HT.out, Nat.le_of_eq HZ.out.symm⟩ (fun hHeld => ?_)
  refine wpAnyH_take (i := 0) (oi := { dst := some 51, op := Op.move (Operand.tmp 7), type := 33, pos := "outright.go:442", after := #[], guard := none }) (v := ?_) rfl (by kernel_rfl) (by kernel_rfl) (by kernel_rfl) (fun _ _ _ h => h) (Or.inl ⟨by rfl, ?_⟩) (by assumption) ?_
  rotate_left
  · intro ww hSw
    go_simp <;> with_reducible rfl
  simp only [Act.put, List.setIfInBounds_toArray, List.set_cons_zero, List.set_cons_succ]
  refine wpAnyH_take (i := 1) (oi := { dst := some 52, op := Op.slice 33 (Operand.tmp 51) none (some (Operand.const (Value.int IntKind.i64 1))) none, type := 33, pos := "outright.go:442", after := #[{ on := 0, ground := Ground.data }], guard := none }) (v := ?_) rfl (by kernel_rfl) (by kernel_rfl) (by kernel_rfl) (fun _ _ _ h => h) (Or.inl ⟨by rfl, ?_⟩) (by assumption) ?_
  rotate_left
  · intro ww hSw
    go_simp <;> with_reducible rfl
  simp only [Act.put, List.setIfInBounds_toArray, List.set_cons_zero, List.set_cons_succ]
  refine wpAnyH_take (i := 2) (oi := { dst := some 53, op := Op.move (Operand.tmp 8), type := 47, pos := "outright.go:442", after := #[], guard := none }) (v := ?_) rfl (by kernel_rfl) (by kernel_rfl) (by kernel_rfl) (fun _ _ _ h => h) (Or.inl ⟨by rfl, ?_⟩) (by assumption) ?_
  rotate_left
  · intro ww hSw
    go_simp <;> with_reducible rfl
  simp only [Act.put, List.setIfInBounds_toArray, List.set_cons_zero, List.set_cons_succ]
  refine wpAnyH_take (i := 3) (oi := { dst := some 54, op := Op.slice 47 (Operand.tmp 53) none (some (Operand.const (Value.int IntKind.i64 1))) none, type := 47, pos := "outright.go:442", after := #[{ on := 2, ground := Ground.data }], guard := none }) (v := ?_) rfl (by kernel_rfl) (by kernel_rfl) (by kernel_rfl) (fun _ _ _ h => h) (Or.inl ⟨by rfl, ?_⟩) (by assumption) ?_
  rotate_left
  · intro ww hSw
    go_simp <;> with_reducible rfl
  simp only [Act.put, List.setIfInBounds_toArray, List.set_cons_zero, List.set_cons_succ]
  refine wpAnyH_take (i := 4) (oi := { dst := some 55, op := Op.load 38 (Operand.tmp 12), type := 38, pos := "outright.go:442", after := #[], guard := none }) (v := ?_) rfl (by kernel_rfl) (by kernel_rfl) (by kernel_rfl) (fun _ _ _ h => h) (Or.inl ⟨by rfl, ?_⟩) (by assumption) ?_
  rotate_left
  · intro ww hSw
    have q0 : ww.cell? ⟨w.heap.size + 10, 0, none⟩ = some (.slice (some ⟨w.heap.size + 7, 0, none⟩) 1 2) := by simp [World.cell?, hSw.1]
    have q1 : ww.cell? ⟨w.heap.size + 10, 1, none⟩ = some (.slice (some ⟨w.heap.size + 8, 0, none⟩) 1 2) := by simp [World.cell?, hSw.1]
    have q2 : ww.cell? ⟨w.heap.size + 10, 2, none⟩ = some (.slice (some ⟨w.heap.size + 9, 0, none⟩) 1 2) := by simp [World.cell?, hSw.1]
    go_simp <;> with_reducible rfl
  simp only [Act.put, List.setIfInBounds_toArray, List.set_cons_zero, List.set_cons_succ]
  refine wpAnyH_take (i := 5) (oi := { dst := some 56, op := Op.build 49 #[(5, Operand.tmp 52), (6, Operand.tmp 54), (7, Operand.tmp 55)], type := 49, pos := "outright.go:442", after := #[{ on := 1, ground := Ground.data }, { on := 3, ground := Ground.data }, { on := 4, ground := Ground.data }], guard := none }) (v := ?_) rfl (by kernel_rfl) (by kernel_rfl) (by kernel_rfl) (fun _ _ _ h => h) (Or.inl ⟨by rfl, ?_⟩) (by assumption) ?_
  rotate_left
  · intro ww hSw
    go_simp <;> with_reducible rfl
  simp only [Act.put, List.setIfInBounds_toArray, List.set_cons_zero, List.set_cons_succ]
  refine wpAnyH_ready (rs := [6]) (by kernel_rfl) (by simp) ?_
  refine AllReadyH.cons rfl (fun K hK => ?_) AllReadyH.nil
  go_simp
  have hW : Marks w a l c (wy.alloc (.cells #[.bool false, .int .i64 0, .int .u32 0, .int .i64 0, .int .u32 0, .int .u8 0, .int .u8 0, .int .u8 0, .int .u8 0, .int .u8 0, .int .u8 0, .int .i64 0, .int .i64 0, .int .i64 0, .bool false, .bool false, .slice none 0 0, .slice none 0 0, .slice none 0 0, .slice none 0 0, .slice none 0 0] 49)).drew ∧ (wy.alloc (.cells #[.bool false, .int .i64 0, .int .u32 0, .int .i64 0, .int .u32 0, .int .u8 0, .int .u8 0, .int .u8 0, .int .u8 0, .int .u8 0, .int .u8 0, .int .i64 0, .int .i64 0, .int .i64 0, .bool false, .bool false, .slice none 0 0, .slice none 0 0, .slice none 0 0, .slice none 0 0, .slice none 0 0] 49)).drew.heap[w.heap.size + 10]? = some (.cells #[.slice (some ⟨w.heap.size + 7, 0, none⟩) 1 2, .slice (some ⟨w.heap.size + 8, 0, none⟩) 1 2, .slice (some ⟨w.heap.size + 9, 0, none⟩) 1 2] 38) ∧ (wy.alloc (.cells #[.bool false, .int .i64 0, .int .u32 0, .int .i64 0, .int .u32 0, .int .u8 0, .int .u8 0, .int .u8 0, .int .u8 0, .int .u8 0, .int .u8 0, .int .i64 0, .int .i64 0, .int .i64 0, .bool false, .bool false, .slice none 0 0, .slice none 0 0, .slice none 0 0, .slice none 0 0, .slice none 0 0] 49)).drew.heap[w.heap.size + 11]? = some (.cells #[.bool false, .int .i64 0, .int .u32 0, .int .i64 0, .int .u32 0, .int .u8 0, .int .u8 0, .int .u8 0, .int .u8 0, .int .u8 0, .int .u8 0, .int .i64 0, .int .i64 0, .int .i64 0, .bool false, .bool false, .slice none 0 0, .slice none 0 0, .slice none 0 0, .slice none 0 0, .slice none 0 0] 49) ∧ (wy.alloc (.cells #[.bool false, .int .i64 0, .int .u32 0, .int .i64 0, .int .u32 0, .int .u8 0, .int .u8 0, .int .u8 0, .int .u8 0, .int .u8 0, .int .u8 0, .int .i64 0, .int .i64 0, .int .i64 0, .bool false, .bool false, .slice none 0 0, .slice none 0 0, .slice none 0 0, .slice none 0 0, .slice none 0 0] 49)).drew.heap.size = w.heap.size + 12 := by
    have hb : Below wy.heap.size wy (wy.alloc (.cells #[.bool false, .int .i64 0, .int .u32 0, .int .i64 0, .int .u32 0, .int .u8 0, .int .u8 0, .int .u8 0, .int .u8 0, .int .u8 0, .int .u8 0, .int .i64 0, .int .i64 0, .int .i64 0, .bool false, .bool false, .slice none 0 0, .slice none 0 0, .slice none 0 0, .slice none 0 0, .slice none 0 0] 49)).drew := ((Below.refl _ _).alloc (Nat.le_refl _) _).drew
    refine ⟨HM.out.grow hb, (hb.block _ (by have := HZ.out; omega)).trans HT.out, ?_, ?_⟩
    · rw [← HZ.out]; exact heap_alloc_new wy _
    · have := HZ.out
      show (wy.alloc _).heap.size = _
      simp; omega
  rw [HZ.out]
  generalize (wy.alloc (.cells #[.bool false, .int .i64 0, .int .u32 0, .int .i64 0, .int .u32 0, .int .u8 0, .int .u8 0, .int .u8 0, .int .u8 0, .int .u8 0, .int .u8 0, .int .i64 0, .int .i64 0, .int .i64 0, .bool false, .bool false, .slice none 0 0, .slice none 0 0, .slice none 0 0, .slice none 0 0, .slice none 0 0] 49)).drew = W2 at hW ⊢
  have HW := Lib.hid hW
  clear hW
  refine hK.out _ _ ⟨HW.out.2.1, by have := HW.out.2.2.2; omega⟩ (fun hHeld => ?_)
  clear hK
  refine wpAnyH_ready (rs := [7]) (by kernel_rfl) (by simp) ?_
  refine AllReadyH.cons rfl (fun K hK => ?_) AllReadyH.nil
  rw [if_pos (by rfl)]
  refine wp_store_mid 49 _ _ rfl (w.heap.size + 11) 0 #[.bool false, .int .i64 0, .int .u32 0, .int .i64 0, .int .u32 0, .int .u8 0, .int .u8 0, .int .u8 0, .int .u8 0, .int .u8 0, .int .u8 0, .int .i64 0, .int .i64 0, .int .i64 0, .bool false, .bool false, .slice (some ⟨w.heap.size + 5, 0, none⟩) 1 2, .slice (some ⟨w.heap.size + 6, 0, none⟩) 1 2, .slice (some ⟨w.heap.size + 7, 0, none⟩) 1 2, .slice (some ⟨w.heap.size + 8, 0, none⟩) 1 2, .slice (some ⟨w.heap.size + 9, 0, none⟩) 1 2] rfl rfl (there_of HW.out.2.2.1 (by show 0 + 21 ≤ 21; omega)) viewInfo (by simp [Value.oneCell']) ?_
  have hb3 := below_setCells (b := w.heap.size + 11) (o := 0) (Below.refl (w.heap.size + 11) W2) (Nat.le_refl _) [.bool false, .int .i64 0, .int .u32 0, .int .i64 0, .int .u32 0, .int .u8 0, .int .u8 0, .int .u8 0, .int .u8 0, .int .u8 0, .int .u8 0, .int .i64 0, .int .i64 0, .int .i64 0, .bool false, .bool false, .slice (some ⟨w.heap.size + 5, 0, none⟩) 1 2, .slice (some ⟨w.heap.size + 6, 0, none⟩) 1 2, .slice (some ⟨w.heap.size + 7, 0, none⟩) 1 2, .slice (some ⟨w.heap.size + 8, 0, none⟩) 1 2, .slice (some ⟨w.heap.size + 9, 0, none⟩) 1 2]
  have h2 : Marks2 w a l c (W2.setCells (w.heap.size + 11) 0 [.bool false, .int .i64 0, .int .u32 0, .int .i64 0, .int .u32 0, .int .u8 0, .int .u8 0, .int .u8 0, .int .u8 0, .int .u8 0, .int .u8 0, .int .i64 0, .int .i64 0, .int .i64 0, .bool false, .bool false, .slice (some ⟨w.heap.size + 5, 0, none⟩) 1 2, .slice (some ⟨w.heap.size + 6, 0, none⟩) 1 2, .slice (some ⟨w.heap.size + 7, 0, none⟩) 1 2, .slice (some ⟨w.heap.size + 8, 0, none⟩) 1 2, .slice (some ⟨w.heap.size + 9, 0, none⟩) 1 2]) := by
    have hm := HW.out.1
    have hz := hb3.size
    have hz2 := HW.out.2.2.2
    exact ⟨⟨hm.below.trans (hb3.mono (by omega)), by omega, (hb3.block _ (by omega)).trans hm.h0, (hb3.block _ (by omega)).trans hm.h1, (hb3.block _ (by omega)).trans hm.h2, (hb3.block _ (by omega)).trans hm.h3, (hb3.block _ (by omega)).trans hm.h4, (hb3.block _ (by omega)).trans hm.h5, (hb3.block _ (by omega)).trans hm.h6, (hb3.block _ (by omega)).trans hm.h7, (hb3.block _ (by omega)).trans hm.h8, (hb3.block _ (by omega)).trans hm.h9⟩, by omega, (hb3.block _ (by omega)).trans HW.out.2.1, World.rangeAt_setCells_same _ _ _ _ (there_of HW.out.2.2.1 (by show 0 + 21 ≤ 21; omega))⟩
  refine hK.out _ _ ⟨h2.t, Nat.le_of_succ_le h2.size⟩ (fun hHeld => ?_)
  clear hK
  refine wpAnyH_done (by kernel_rfl) ?_ _
  simp only [Exit.then]
  apply_assumption
  exact HN.out _ h2
set_option maxRecDepth 1000000 in
set_option maxHeartbeats 8000000 in
theorem formats_reg10 (a : Option Addr) (l : List UInt8) (c : Nat) (w W : World) {c1 c12 c13 c14 c15 c16 c17 c18 c19 c20 c21 c22 c23 c24 c25 c26 c27 c28 c29 c30 c31 c32 c33 c34 c35 c36 c37 c38 c39 c40 c41 c42 c43 c44 c45 c46 c47 c48 c49 c50 c51 c52 c53 c54 c55 c56 c57 c58 c59 c60 c61 c62 c63 c64 c65 c66 c67 c68 c69 c70 c71 c72 c73 c74 c75 c76 c77 c78 c79 c80 c81 c82 c83 c84 c85 c86 c87 c88 c89 c90 c91 c92 c93 c94 c95 c96 c97 c98 c99 c100 c101 c102 c103 c104 c105 c106 c107 c108 c109 c110 c111 c112 c113 c114 c115 c116 c117 c118 c119 c120 c121 c122 c123 c124 c125 c126 c127 c128 c129 c130 c131 c132 c133 c134 c135 c136 c137 c138 c139 c140 c141 c142 c143 c144 c145 c146 c147 c148 c149 c150 c151 c152 c153 c154 c155 c156 c157 c158 c159 c160 c161 c162 c163 c164 c165 c166 c167 c168 c169 c170 c171 c172 c173 c174 c175 c176 c177 c178 c179 c180 c181 c182 c183 c184 c185 c186 c187 c188 c189 c190 c191 c192 c193 c194 c195 c196 c197 c198 c199 c200 c201 c202 c203 c204 c205 c206 c207 c208 : Value} {Q0 : Exit → Act → World → Prop} (hm : Marks w a l c W) (hz : W.heap.size = w.heap.size + 10)
    (hexit : ∀ (wz : World) {d12 d44 d45 d46 d47 d48 d49 d50 : Value}, d12 = .pointer (some ⟨w.heap.size + 10, 0, none⟩) → Marks w a l c wz → wz.heap[w.heap.size + 10]? = some (.cells #[.slice (some ⟨w.heap.size + 7, 0, none⟩) 1 2, .slice (some ⟨w.heap.size + 8, 0, none⟩) 1 2, .slice (some ⟨w.heap.size + 9, 0, none⟩) 1 2] 38) → wz.heap.size = w.heap.size + 11 → Q0 .normal ⟨#[.slice a l.length c, c1, .bool false, .slice (some ⟨w.heap.size + 1, 0, none⟩) 2 2, .slice (some ⟨w.heap.size + 2, 0, none⟩) 2 2, .slice (some ⟨w.heap.size + 3, 0, none⟩) 2 2, .slice (some ⟨w.heap.size + 4, 0, none⟩) 3 3, .slice (some ⟨w.heap.size + 5, 0, none⟩) 2 2, .slice (some ⟨w.heap.size + 6, 0, none⟩) 2 2, .slice (some ⟨w.heap.size + 7, 0, none⟩) 2 2, .slice (some ⟨w.heap.size + 8, 0, none⟩) 2 2, .slice (some ⟨w.heap.size + 9, 0, none⟩) 2 2, d12, c13, c14, c15, c16, c17, c18, c19, c20, c21, c22, c23, c24, c25, c26, c27, c28, c29, c30, c31, c32, c33, c34, c35, c36, c37, c38, c39, c40, c41, c42, c43, d44, d45, d46, d47, d48, d49, d50, c51, c52, c53, c54, c55, c56, c57, c58, c59, c60, c61, c62, c63, c64, c65, c66, c67, c68, c69, c70, c71, c72, c73, c74, c75, c76, c77, c78, c79, c80, c81, c82, c83, c84, c85, c86, c87, c88, c89, c90, c91, c92, c93, c94, c95, c96, c97, c98, c99, c100, c101, c102, c103, c104, c105, c106, c107, c108, c109, c110, c111, c112, c113, c114, c115, c116, c117, c118, c119, c120, c121, c122, c123, c124, c125, c126, c127, c128, c129, c130, c131, c132, c133, c134, c135, c136, c137, c138, c139, c140, c141, c142, c143, c144, c145, c146, c147, c148, c149, c150, c151, c152, c153, c154, c155, c156, c157, c158, c159, c160, c161, c162, c163, c164, c165, c166, c167, c168, c169, c170, c171, c172, c173, c174, c175, c176, c177, c178, c179, c180, c181, c182, c183, c184, c185, c186, c187, c188, c189, c190, c191, c192, c193, c194, c195, c196, c197, c198, c199, c200, c201, c202, c203, c204, c205, c206, c207, c208], []⟩ wz) :
    Code.wp Tryz.prog (regionOf Tryz.f12 10) Q0 ⟨#[.slice a l.length c, c1, .bool false, .slice (some ⟨w.heap.size + 1, 0, none⟩) 2 2, .slice (some ⟨w.heap.size + 2, 0, none⟩) 2 2, .slice (some ⟨w.heap.size + 3, 0, none⟩) 2 2, .slice (some ⟨w.heap.size + 4, 0, none⟩) 3 3, .slice (some ⟨w.heap.size + 5, 0, none⟩) 2 2, .slice (some ⟨w.heap.size + 6, 0, none⟩) 2 2, .slice (some ⟨w.heap.size + 7, 0, none⟩) 2 2, .slice (some ⟨w.heap.size + 8, 0, none⟩) 2 2, .slice (some ⟨w.heap.size + 9, 0, none⟩) 2 2, c12, c13, c14, c15, c16, c17, c18, c19, c20, c21, c22, c23, c24, c25, c26, c27, c28, c29, c30, c31, c32, c33, c34, c35, c36, c37, c38, c39, c40, c41, c42, c43, c44, c45, c46, c47, c48, c49, c50, c51, c52, c53, c54, c55, c56, c57, c58, c59, c60, c61, c62, c63, c64, c65, c66, c67, c68, c69, c70, c71, c72, c73, c74, c75, c76, c77, c78, c79, c80, c81, c82, c83, c84, c85, c86, c87, c88, c89, c90, c91, c92, c93, c94, c95, c96, c97, c98, c99, c100, c101, c102, c103, c104, c105, c106, c107, c108, c109, c110, c111, c112, c113, c114, c115, c116, c117, c118, c119, c120, c121, c122, c123, c124, c125, c126, c127, c128, c129, c130, c131, c132, c133, c134, c135, c136, c137, c138, c139, c140, c141, c142, c143, c144, c145, c146, c147, c148, c149, c150, c151, c152, c153, c154, c155, c156, c157, c158, c159, c160, c161, c162, c163, c164, c165, c166, c167, c168, c169, c170, c171, c172, c173, c174, c175, c176, c177, c178, c179, c180, c181, c182, c183, c184, c185, c186, c187, c188, c189, c190, c191, c192, c193, c194, c195, c196, c197, c198, c199, c200, c201, c202, c203, c204, c205, c206, c207, c208], []⟩ W := by
  have HN := Lib.hid hexit
  have HM := Lib.hid hm
  have HZ := Lib.hid hz
  clear hm hz hexit
  conv => arg 2; whnf
  conv => arg 4; dsimp only
  go_region
  have hb : Below W.heap.size W (W.alloc (.cells #[.slice (some ⟨w.heap.size + 7, 0, none⟩) 1 2, .slice (some ⟨w.heap.size + 8, 0, none⟩) 1 2, .slice (some ⟨w.heap.size + 9, 0, none⟩) 1 2] 38)).drew := ((Below.refl _ _).alloc (Nat.le_refl _) _).drew
  have ht : (W.alloc (.cells #[.slice (some ⟨w.heap.size + 7, 0, none⟩) 1 2, .slice (some ⟨w.heap.size + 8, 0, none⟩) 1 2, .slice (some ⟨w.heap.size + 9, 0, none⟩) 1 2] 38)).drew.heap[w.heap.size + 10]? = some (.cells #[.slice (some ⟨w.heap.size + 7, 0, none⟩) 1 2, .slice (some ⟨w.heap.size + 8, 0, none⟩) 1 2, .slice (some ⟨w.heap.size + 9, 0, none⟩) 1 2] 38) := by rw [← HZ.out]; exact heap_alloc_new W _
  have hs : (W.alloc (.cells #[.slice (some ⟨w.heap.size + 7, 0, none⟩) 1 2, .slice (some ⟨w.heap.size + 8, 0, none⟩) 1 2, .slice (some ⟨w.heap.size + 9, 0, none⟩) 1 2] 38)).drew.heap.size = w.heap.size + 11 := by
    have := HZ.out
    show (W.alloc _).heap.size = _
    simp; omega
  rw [HZ.out]
  exact HN.out _ rfl (HM.out.grow hb) ht hs
set_option maxRecDepth 1000000 in
set_option maxHeartbeats 8000000 in
theorem formats_head (a : Option Addr) (l : List UInt8) (c : Nat) (w : World)
    (hnext : ∀ (wz : World) {c1 c14 c15 c16 c17 c18 c19 c20 c21 c22 c23 c24 c25 c26 c27 c28 c29 c30 c31 c32 c33 c34 c35 c36 c37 c38 c39 c40 c41 c42 c43 c44 c45 c46 c47 c48 c49 c50 c51 c52 c53 c54 c55 c56 c57 c58 c59 c60 c61 c62 c63 c64 c65 c66 c67 c68 c69 c70 c71 c72 c73 c74 c75 c76 c77 c78 c79 c80 c81 c82 c83 c84 c85 c86 c87 c88 c89 c90 c91 c92 c93 c94 c95 c96 c97 c98 c99 c100 c101 c102 c103 c104 c105 c106 c107 c108 c109 c110 c111 c112 c113 c114 c115 c116 c117 c118 c119 c120 c121 c122 c123 c124 c125 c126 c127 c128 c129 c130 c131 c132 c133 c134 c135 c136 c137 c138 c139 c140 c141 c142 c143 c144 c145 c146 c147 c148 c149 c150 c151 c152 c153 c154 c155 c156 c157 c158 c159 c160 c161 c162 c163 c164 c165 c166 c167 c168 c169 c170 c171 c172 c173 c174 c175 c176 c177 c178 c179 c180 c181 c182 c183 c184 c185 c186 c187 c188 c189 c190 c191 c192 c193 c194 c195 c196 c197 c198 c199 c200 c201 c202 c203 c204 c205 c206 c207 c208 : Value}, Marks2 w a l c wz → Code.wp Tryz.prog (tailOf Tryz.f12 12) (bodyPost Tryz.prog Tryz.f12 fun e w' => e = .returned (.bool true) ∧ Below w.heap.size w w') ⟨#[.slice a l.length c, c1, .bool false, .slice (some ⟨w.heap.size + 1, 0, none⟩) 2 2, .slice (some ⟨w.heap.size + 2, 0, none⟩) 2 2, .slice (some ⟨w.heap.size + 3, 0, none⟩) 2 2, .slice (some ⟨w.heap.size + 4, 0, none⟩) 3 3, .slice (some ⟨w.heap.size + 5, 0, none⟩) 2 2, .slice (some ⟨w.heap.size + 6, 0, none⟩) 2 2, .slice (some ⟨w.heap.size + 7, 0, none⟩) 2 2, .slice (some ⟨w.heap.size + 8, 0, none⟩) 2 2, .slice (some ⟨w.heap.size + 9, 0, none⟩) 2 2, .pointer (some ⟨w.heap.size + 10, 0, none⟩), .pointer (some ⟨w.heap.size + 11, 0, none⟩), c14, c15, c16, c17, c18, c19, c20, c21, c22, c23, c24, c25, c26, c27, c28, c29, c30, c31, c32, c33, c34, c35, c36, c37, c38, c39, c40, c41, c42, c43, c44, c45, c46, c47, c48, c49, c50, c51, c52, c53, c54, c55, c56, c57, c58, c59, c60, c61, c62, c63, c64, c65, c66, c67, c68, c69, c70, c71, c72, c73, c74, c75, c76, c77, c78, c79, c80, c81, c82, c83, c84, c85, c86, c87, c88, c89, c90, c91, c92, c93, c94, c95, c96, c97, c98, c99, c100, c101, c102, c103, c104, c105, c106, c107, c108, c109, c110, c111, c112, c113, c114, c115, c116, c117, c118, c119, c120, c121, c122, c123, c124, c125, c126, c127, c128, c129, c130, c131, c132, c133, c134, c135, c136, c137, c138, c139, c140, c141, c142, c143, c144, c145, c146, c147, c148, c149, c150, c151, c152, c153, c154, c155, c156, c157, c158, c159, c160, c161, c162, c163, c164, c165, c166, c167, c168, c169, c170, c171, c172, c173, c174, c175, c176, c177, c178, c179, c180, c181, c182, c183, c184, c185, c186, c187, c188, c189, c190, c191, c192, c193, c194, c195, c196, c197, c198, c199, c200, c201, c202, c203, c204, c205, c206, c207, c208], []⟩ wz) :
    Calls Tryz.prog 12 #[.slice a l.length c] w fun e w' => e = .returned (.bool true) ∧ Below w.heap.size w w' := by
  have HN := Lib.hid hnext
  clear hnext
  have hm := Marks.new w a l c
  have hz : ([(.cells #[.int .u8 1] 5 : Obj), (.cells #[.int .i64 0, .int .u32 0, .string ⟨#[]⟩, .slice a l.length c, .int .i64 0, .int .u32 0, .string ⟨#[]⟩, .slice (some ⟨w.heap.size, 0, none⟩) 1 1] 79 : Obj), (.cells #[.int .u32 5, .slice a l.length c, .int .u32 6, .slice none 0 0] 88 : Obj), (.cells #[.string ⟨#[97]⟩, .int .u32 5, .string ⟨#[98]⟩, .int .u32 6] 86 : Obj), (.cells #[.int .i64 4, .int .i64 5, .int .i64 6] 3 : Obj), (.cells #[.int .i64 1, .int .u32 0, .int .i64 0, .int .u32 0, .int .u8 0, .int .u8 0, .int .u8 0, .int .u8 0, .int .u8 0, .int .u8 0, .int .i64 0, .int .i64 0, .int .i64 2, .int .u32 0, .int .i64 0, .int .u32 0, .int .u8 0, .int .u8 0, .int .u8 0, .int .u8 0, .int .u8 0, .int .u8 0, .int .i64 0, .int .i64 0] 46 : Obj), (.cells #[.int .u32 0, .int .i64 1, .int .u32 0, .int .i64 2] 42 : Obj), (.cells #[.int .u32 0, .int .i64 0, .int .u32 1, .bool false, .int .u32 0, .int .i64 0, .int .u32 2, .bool false] 105 : Obj), (.cells #[.int .u32 1, .int .u8 0, .int .u8 0, .int .u8 0, .int .u8 0, .int .u8 0, .int .u8 0, .int .u32 2, .int .u8 0, .int .u8 0, .int .u8 0, .int .u8 0, .int .u8 0, .int .u8 0] 107 : Obj), (.cells #[.int .u8 0, .int .u8 0, .int .u8 0, .int .u8 0, .int .u8 0, .int .u8 0, .int .u32 1, .int .u8 0, .int .u8 0, .int .u8 0, .int .u8 0, .int .u8 0, .int .u8 0, .int .u32 2] 109 : Obj)].foldl World.alloc w).heap.size = w.heap.size + 10 := (alloc_below w _).2
  simp only [List.foldl_cons, List.foldl_nil] at hm hz
  have HM := Lib.hid hm
  have HZ := Lib.hid hz
  clear hm hz
  go_enter Tryz.func12, Tryz.ntmps12
  go_upto_region 10 with fail
  simp only [Nat.add_assoc, Nat.reduceAdd]
  generalize ((((((((((w.alloc (.cells #[.int .u8 1] 5)).alloc (.cells #[.int .i64 0, .int .u32 0, .string ⟨#[]⟩, .slice a l.length c, .int .i64 0, .int .u32 0, .string ⟨#[]⟩, .slice (some ⟨w.heap.size, 0, none⟩) 1 1] 79)).alloc (.cells #[.int .u32 5, .slice a l.length c, .int .u32 6, .slice none 0 0] 88)).alloc (.cells #[.string ⟨#[97]⟩, .int .u32 5, .string ⟨#[98]⟩, .int .u32 6] 86)).alloc (.cells #[.int .i64 4, .int .i64 5, .int .i64 6] 3)).alloc (.cells #[.int .i64 1, .int .u32 0, .int .i64 0, .int .u32 0, .int .u8 0, .int .u8 0, .int .u8 0, .int .u8 0, .int .u8 0, .int .u8 0, .int .i64 0, .int .i64 0, .int .i64 2, .int .u32 0, .int .i64 0, .int .u32 0, .int .u8 0, .int .u8 0, .int .u8 0, .int .u8 0, .int .u8 0, .int .u8 0, .int .i64 0, .int .i64 0] 46)).alloc (.cells #[.int .u32 0, .int .i64 1, .int .u32 0, .int .i64 2] 42)).alloc (.cells #[.int .u32 0, .int .i64 0, .int .u32 1, .bool false, .int .u32 0, .int .i64 0, .int .u32 2, .bool false] 105)).alloc (.cells #[.int .u32 1, .int .u8 0, .int .u8 0, .int .u8 0, .int .u8 0, .int .u8 0, .int .u8 0, .int .u32 2, .int .u8 0, .int .u8 0, .int .u8 0, .int .u8 0, .int .u8 0, .int .u8 0] 107)).alloc (.cells #[.int .u8 0, .int .u8 0, .int .u8 0, .int .u8 0, .int .u8 0, .int .u8 0, .int .u32 1, .int .u8 0, .int .u8 0, .int .u8 0, .int .u8 0, .int .u8 0, .int .u8 0, .int .u32 2] 109)) = W at HM HZ ⊢
  refine formats_reg10 a l c w W HM.out HZ.out ?_
  intro wz d12 d44 d45 d46 d47 d48 d49 d50 hd hm ht hz
  subst hd
  simp only [Exit.then]
  apply_assumption
  exact formats_tail11 a l c w wz hm ht hz HN.out
set_option maxRecDepth 1000000 in
set_option maxHeartbeats 8000000 in
theorem formats_reg15 (a : Option Addr) (l : List UInt8) (c : Nat) (w wr : World) {c1 c14 c15 c16 c17 c18 c19 c20 c21 c22 c23 c24 c25 c26 c27 c28 c29 c30 c31 c32 c33 c34 c35 c36 c37 c38 c39 c40 c41 c42 c43 c44 c45 c46 c47 c48 c49 c50 c51 c52 c53 c54 c55 c56 c57 c58 c59 c60 c61 c62 c63 c64 c65 c66 c67 c68 c69 c70 c71 c72 c73 c74 c75 c76 c77 c78 c79 c80 c81 c82 c83 c84 c85 c86 c87 c88 c89 c90 c91 c92 c93 c94 c95 c96 c97 c98 c99 c100 c101 c102 c103 c104 c105 c106 c107 c108 c109 c110 c111 c112 c113 c114 c115 c116 c117 c118 c119 c120 c121 c122 c123 c124 c125 c126 c127 c128 c129 c130 c131 c132 c133 c134 c135 c136 c137 c138 c139 c140 c141 c142 c143 c144 c145 c146 c147 c148 c149 c150 c151 c152 c153 c154 c155 c156 c157 c158 c159 c160 c161 c162 c163 c164 c165 c166 c167 c168 c169 c170 c171 c172 c173 c174 c175 c176 c177 c178 c179 c180 c181 c182 c183 c184 c185 c186 c187 c188 c189 c190 c191 c192 c193 c194 c195 c196 c197 c198 c199 c200 c201 c202 c203 c204 c205 c206 c207 c208 : Value} {Q0 : Exit → Act → World → Prop} (hm : Marks2 w a l c wr)
    (hexit : ∀ (wz : World) {d61 d62 d63 d64 d65 d66 d67 d68 d69 d70 d71 d72 d73 d74 d75 : Value}, Marks2 w a l c wz → Below wr.heap.size wr wz → wz.rangeAt wr.heap.size 0 [.int .i64 0, .int .i64 0, .int .i64 0, .int .i64 0, .int .i64 0, .slice (some ⟨w.heap.size + 1, 0, none⟩) 1 2, .slice (some ⟨w.heap.size + 5, 0, none⟩) 1 2, .slice (some ⟨w.heap.size + 7, 0, none⟩) 1 2, .slice (some ⟨w.heap.size + 8, 0, none⟩) 1 2, .slice (some ⟨w.heap.size + 9, 0, none⟩) 1 2, .slice (some ⟨w.heap.size + 3, 0, none⟩) 1 2, .slice (some ⟨w.heap.size + 2, 0, none⟩) 1 2, .bool false, .int .i64 0, .int .u32 0, .int .i64 0, .int .u32 0, .int .u8 0, .int .u8 0, .int .u8 0, .int .u8 0, .int .u8 0, .int .u8 0, .int .i64 0, .int .i64 0, .int .i64 0, .bool false, .bool false, .slice none 0 0, .slice none 0 0, .slice none 0 0, .slice none 0 0, .slice none 0 0, .slice (some ⟨w.heap.size + 4, 0, none⟩) 2 3, .slice a l.length c, .slice a l.length c] → wz.there wr.heap.size 0 36 → Q0 .normal ⟨#[.slice a l.length c, c1, .bool false, .slice (some ⟨w.heap.size + 1, 0, none⟩) 2 2, .slice (some ⟨w.heap.size + 2, 0, none⟩) 2 2, .slice (some ⟨w.heap.size + 3, 0, none⟩) 2 2, .slice (some ⟨w.heap.size + 4, 0, none⟩) 3 3, .slice (some ⟨w.heap.size + 5, 0, none⟩) 2 2, .slice (some ⟨w.heap.size + 6, 0, none⟩) 2 2, .slice (some ⟨w.heap.size + 7, 0, none⟩) 2 2, .slice (some ⟨w.heap.size + 8, 0, none⟩) 2 2, .slice (some ⟨w.heap.size + 9, 0, none⟩) 2 2, .pointer (some ⟨w.heap.size + 10, 0, none⟩), .pointer (some ⟨w.heap.size + 11, 0, none⟩), c14, .pointer (some ⟨wr.heap.size, 0, none⟩), c16, c17, c18, c19, c20, c21, c22, c23, c24, c25, c26, c27, c28, c29, c30, c31, c32, c33, c34, c35, c36, c37, c38, c39, c40, c41, c42, c43, c44, c45, c46, c47, c48, c49, c50, c51, c52, c53, c54, c55, c56, c57, c58, c59, c60, d61, d62, d63, d64, d65, d66, d67, d68, d69, d70, d71, d72, d73, d74, d75, c76, c77, c78, c79, c80, c81, c82, c83, c84, c85, c86, c87, c88, c89, c90, c91, c92, c93, c94, c95, c96, c97, c98, c99, c100, c101, c102, c103, c104, c105, c106, c107, c108, c109, c110, c111, c112, c113, c114, c115, c116, c117, c118, c119, c120, c121, c122, c123, c124, c125, c126, c127, c128, c129, c130, c131, c132, c133, c134, c135, c136, c137, c138, c139, c140, c141, c142, c143, c144, c145, c146, c147, c148, c149, c150, c151, c152, c153, c154, c155, c156, c157, c158, c159, c160, c161, c162, c163, c164, c165, c166, c167, c168, c169, c170, c171, c172, c173, c174, c175, c176, c177, c178, c179, c180, c181, c182, c183, c184, c185, c186, c187, c188, c189, c190, c191, c192, c193, c194, c195, c196, c197, c198, c199, c200, c201, c202, c203, c204, c205, c206, c207, c208], []⟩ wz) :
    Code.wp Tryz.prog (regionOf Tryz.f12 14) Q0 ⟨#[.slice a l.length c, c1, .bool false, .slice (some ⟨w.heap.size + 1, 0, none⟩) 2 2, .slice (some ⟨w.heap.size + 2, 0, none⟩) 2 2, .slice (some ⟨w.heap.size + 3, 0, none⟩) 2 2, .slice (some ⟨w.heap.size + 4, 0, none⟩) 3 3, .slice (some ⟨w.heap.size + 5, 0, none⟩) 2 2, .slice (some ⟨w.heap.size + 6, 0, none⟩) 2 2, .slice (some ⟨w.heap.size + 7, 0, none⟩) 2 2, .slice (some ⟨w.heap.size + 8, 0, none⟩) 2 2, .slice (some ⟨w.heap.size + 9, 0, none⟩) 2 2, .pointer (some ⟨w.heap.size + 10, 0, none⟩), .pointer (some ⟨w.heap.size + 11, 0, none⟩), c14, c15, c16, c17, c18, c19, c20, c21, c22, c23, c24, c25, c26, c27, c28, c29, c30, c31, c32, c33, c34, c35, c36, c37, c38, c39, c40, c41, c42, c43, c44, c45, c46, c47, c48, c49, c50, c51, c52, c53, c54, c55, c56, c57, c58, c59, c60, c61, c62, c63, c64, c65, c66, c67, c68, c69, c70, c71, c72, c73, c74, c75, c76, c77, c78, c79, c80, c81, c82, c83, c84, c85, c86, c87, c88, c89, c90, c91, c92, c93, c94, c95, c96, c97, c98, c99, c100, c101, c102, c103, c104, c105, c106, c107, c108, c109, c110, c111, c112, c113, c114, c115, c116, c117, c118, c119, c120, c121, c122, c123, c124, c125, c126, c127, c128, c129, c130, c131, c132, c133, c134, c135, c136, c137, c138, c139, c140, c141, c142, c143, c144, c145, c146, c147, c148, c149, c150, c151, c152, c153, c154, c155, c156, c157, c158, c159, c160, c161, c162, c163, c164, c165, c166, c167, c168, c169, c170, c171, c172, c173, c174, c175, c176, c177, c178, c179, c180, c181, c182, c183, c184, c185, c186, c187, c188, c189, c190, c191, c192, c193, c194, c195, c196, c197, c198, c199, c200, c201, c202, c203, c204, c205, c206, c207, c208], []⟩ wr := by
  have HN := Lib.hid hexit
  have HM := Lib.hid hm
  clear hm hexit
  conv => arg 2; whnf
  conv => arg 4; dsimp only
  refine wp_region_noPanic ?_
  refine wp_region_held_drew (S := fun u => u.heap[w.heap.size + 10]? = some (.cells #[.slice (some ⟨w.heap.size + 7, 0, none⟩) 1 2, .slice (some ⟨w.heap.size + 8, 0, none⟩) 1 2, .slice (some ⟨w.heap.size + 9, 0, none⟩) 1 2] 38)) (by kernel_rfl) HM.out.t (fun hHeld => ?_)
  refine wpAnyH_take (i := 0) (oi := { dst := some 61, op := Op.move (Operand.tmp 3), type := 32, pos := "outright.go:444", after := #[], guard := none }) (v := ?_) rfl (by kernel_rfl) (by kernel_rfl) (by kernel_rfl) (fun _ _ _ h => h) (Or.inl ⟨by rfl, ?_⟩) (by assumption) ?_
  rotate_left
  · intro ww hSw
    go_simp <;> with_reducible rfl
  simp only [Act.put, List.setIfInBounds_toArray, List.set_cons_zero, List.set_cons_succ]
  refine wpAnyH_take (i := 1) (oi := { dst := some 62, op := Op.slice 32 (Operand.tmp 61) none (some (Operand.const (Value.int IntKind.i64 1))) none, type := 32, pos := "outright.go:444", after := #[{ on := 0, ground := Ground.data }], guard := none }) (v := ?_) rfl (by kernel_rfl) (by kernel_rfl) (by kernel_rfl) (fun _ _ _ h => h) (Or.inl ⟨by rfl, ?_⟩) (by assumption) ?_
  rotate_left
  · intro ww hSw
    go_simp <;> with_reducible rfl
  simp only [Act.put, List.setIfInBounds_toArray, List.set_cons_zero, List.set_cons_succ]
  refine wpAnyH_take (i := 2) (oi := { dst := some 63, op := Op.move (Operand.tmp 4), type := 40, pos := "outright.go:444", after := #[], guard := none }) (v := ?_) rfl (by kernel_rfl) (by kernel_rfl) (by kernel_rfl) (fun _ _ _ h => h) (Or.inl ⟨by rfl, ?_⟩) (by assumption) ?_
  rotate_left
  · intro ww hSw
    go_simp <;> with_reducible rfl
  simp only [Act.put, List.setIfInBounds_toArray, List.set_cons_zero, List.set_cons_succ]
  refine wpAnyH_take (i := 3) (oi := { dst := some 64, op := Op.slice 40 (Operand.tmp 63) none (some (Operand.const (Value.int IntKind.i64 1))) none, type := 40, pos := "outright.go:444", after := #[{ on := 2, ground := Ground.data }], guard := none }) (v := ?_) rfl (by kernel_rfl) (by kernel_rfl) (by kernel_rfl) (fun _ _ _ h => h) (Or.inl ⟨by rfl, ?_⟩) (by assumption) ?_
  rotate_left
  · intro ww hSw
    go_simp <;> with_reducible rfl
  simp only [Act.put, List.setIfInBounds_toArray, List.set_cons_zero, List.set_cons_succ]
  refine wpAnyH_take (i := 4) (oi := { dst := some 65, op := Op.move (Operand.tmp 5), type := 39, pos := "outright.go:444", after := #[], guard := none }) (v := ?_) rfl (by kernel_rfl) (by kernel_rfl) (by kernel_rfl) (fun _ _ _ h => h) (Or.inl ⟨by rfl, ?_⟩) (by assumption) ?_
  rotate_left
  · intro ww hSw
    go_simp <;> with_reducible rfl
  simp only [Act.put, List.setIfInBounds_toArray, List.set_cons_zero, List.set_cons_succ]
  refine wpAnyH_take (i := 5) (oi := { dst := some 66, op := Op.slice 39 (Operand.tmp 65) none (some (Operand.const (Value.int IntKind.i64 1))) none, type := 39, pos := "outright.go:444", after := #[{ on := 4, ground := Ground.data }], guard := none }) (v := ?_) rfl (by kernel_rfl) (by kernel_rfl) (by kernel_rfl) (fun _ _ _ h => h) (Or.inl ⟨by rfl, ?_⟩) (by assumption) ?_
  rotate_left
  · intro ww hSw
    go_simp <;> with_reducible rfl
  simp only [Act.put, List.setIfInBounds_toArray, List.set_cons_zero, List.set_cons_succ]
  refine wpAnyH_take (i := 6) (oi := { dst := some 67, op := Op.move (Operand.tmp 6), type := 50, pos := "outright.go:444", after := #[], guard := none }) (v := ?_) rfl (by kernel_rfl) (by kernel_rfl) (by kernel_rfl) (fun _ _ _ h => h) (Or.inl ⟨by rfl, ?_⟩) (by assumption) ?_
  rotate_left
  · intro ww hSw
    go_simp <;> with_reducible rfl
  simp only [Act.put, List.setIfInBounds_toArray, List.set_cons_zero, List.set_cons_succ]
  refine wpAnyH_take (i := 7) (oi := { dst := some 68, op := Op.slice 50 (Operand.tmp 67) none (some (Operand.const (Value.int IntKind.i64 2))) none, type := 50, pos := "outright.go:444", after := #[{ on := 6, ground := Ground.data }], guard := none }) (v := ?_) rfl (by kernel_rfl) (by kernel_rfl) (by kernel_rfl) (fun _ _ _ h => h) (Or.inl ⟨by rfl, ?_⟩) (by assumption) ?_
  rotate_left
  · intro ww hSw
    go_simp <;> with_reducible rfl
  simp only [Act.put, List.setIfInBounds_toArray, List.set_cons_zero, List.set_cons_succ]
  refine wpAnyH_take (i := 8) (oi := { dst := some 69, op := Op.move (Operand.tmp 7), type := 33, pos := "outright.go:444", after := #[], guard := none }) (v := ?_) rfl (by kernel_rfl) (by kernel_rfl) (by kernel_rfl) (fun _ _ _ h => h) (Or.inl ⟨by rfl, ?_⟩) (by assumption) ?_
  rotate_left
  · intro ww hSw
    go_simp <;> with_reducible rfl
  simp only [Act.put, List.setIfInBounds_toArray, List.set_cons_zero, List.set_cons_succ]
  refine wpAnyH_take (i := 9) (oi := { dst := some 70, op := Op.slice 33 (Operand.tmp 69) none (some (Operand.const (Value.int IntKind.i64 1))) none, type := 33, pos := "outright.go:444", after := #[{ on := 8, ground := Ground.data }], guard := none }) (v := ?_) rfl (by kernel_rfl) (by kernel_rfl) (by kernel_rfl) (fun _ _ _ h => h) (Or.inl ⟨by rfl, ?_⟩) (by assumption) ?_
  rotate_left
  · intro ww hSw
    go_simp <;> with_reducible rfl
  simp only [Act.put, List.setIfInBounds_toArray, List.set_cons_zero, List.set_cons_succ]
  refine wpAnyH_take (i := 10) (oi := { dst := some 71, op := Op.load 38 (Operand.tmp 12), type := 38, pos := "outright.go:444", after := #[], guard := none }) (v := ?_) rfl (by kernel_rfl) (by kernel_rfl) (by kernel_rfl) (fun _ _ _ h => h) (Or.inl ⟨by rfl, ?_⟩) (by assumption) ?_
  rotate_left
  · intro ww hSw
    have q0 : ww.cell? ⟨w.heap.size + 10, 0, none⟩ = some (.slice (some ⟨w.heap.size + 7, 0, none⟩) 1 2) := by simp [World.cell?, hSw]
    have q1 : ww.cell? ⟨w.heap.size + 10, 1, none⟩ = some (.slice (some ⟨w.heap.size + 8, 0, none⟩) 1 2) := by simp [World.cell?, hSw]
    have q2 : ww.cell? ⟨w.heap.size + 10, 2, none⟩ = some (.slice (some ⟨w.heap.size + 9, 0, none⟩) 1 2) := by simp [World.cell?, hSw]
    go_simp <;> with_reducible rfl
  simp only [Act.put, List.setIfInBounds_toArray, List.set_cons_zero, List.set_cons_succ]
  refine wpAnyH_take (i := 11) (oi := { dst := some 72, op := Op.move (Operand.tmp 0), type := 22, pos := "outright.go:444", after := #[], guard := none }) (v := ?_) rfl (by kernel_rfl) (by kernel_rfl) (by kernel_rfl) (fun _ _ _ h => h) (Or.inl ⟨by rfl, ?_⟩) (by assumption) ?_
  rotate_left
  · intro ww hSw
    go_simp <;> with_reducible rfl
  simp only [Act.put, List.setIfInBounds_toArray, List.set_cons_zero, List.set_cons_succ]
  refine wpAnyH_take (i := 12) (oi := { dst := some 73, op := Op.move (Operand.tmp 0), type := 22, pos := "outright.go:444", after := #[], guard := none }) (v := ?_) rfl (by kernel_rfl) (by kernel_rfl) (by kernel_rfl) (fun _ _ _ h => h) (Or.inl ⟨by rfl, ?_⟩) (by assumption) ?_
  rotate_left
  · intro ww hSw
    go_simp <;> with_reducible rfl
  simp only [Act.put, List.setIfInBounds_toArray, List.set_cons_zero, List.set_cons_succ]
  refine wpAnyH_take (i := 13) (oi := { dst := some 74, op := Op.build 52 #[(0, Operand.tmp 72), (1, Operand.tmp 73)], type := 52, pos := "outright.go:444", after := #[{ on := 11, ground := Ground.data }, { on := 12, ground := Ground.data }], guard := none }) (v := ?_) rfl (by kernel_rfl) (by kernel_rfl) (by kernel_rfl) (fun _ _ _ h => h) (Or.inl ⟨by rfl, ?_⟩) (by assumption) ?_
  rotate_left
  · intro ww hSw
    go_simp <;> with_reducible rfl
  simp only [Act.put, List.setIfInBounds_toArray, List.set_cons_zero, List.set_cons_succ]
  refine wpAnyH_take (i := 14) (oi := { dst := some 75, op := Op.build 54 #[(5, Operand.tmp 62), (9, Operand.tmp 64), (8, Operand.tmp 66), (11, Operand.tmp 68), (6, Operand.tmp 70), (7, Operand.tmp 71), (12, Operand.tmp 74)], type := 54, pos := "outright.go:444", after := #[{ on := 1, ground := Ground.data }, { on := 3, ground := Ground.data }, { on := 5, ground := Ground.data }, { on := 7, ground := Ground.data }, { on := 9, ground := Ground.data }, { on := 10, ground := Ground.data }, { on := 13, ground := Ground.data }], guard := none }) (v := ?_) rfl (by kernel_rfl) (by kernel_rfl) (by kernel_rfl) (fun _ _ _ h => h) (Or.inl ⟨by rfl, ?_⟩) (by assumption) ?_
  rotate_left
  · intro ww hSw
    go_simp <;> with_reducible rfl
  simp only [Act.put, List.setIfInBounds_toArray, List.set_cons_zero, List.set_cons_succ]
  refine wpAnyH_ready (rs := [15]) (by kernel_rfl) (by simp) ?_
  refine AllReadyH.cons rfl (fun K hK => ?_) AllReadyH.nil
  go_simp
  have hb0 : Below wr.heap.size wr (wr.alloc (.cells #[.int .i64 0, .int .i64 0, .int .i64 0, .int .i64 0, .int .i64 0, .slice none 0 0, .slice none 0 0, .slice none 0 0, .slice none 0 0, .slice none 0 0, .slice none 0 0, .slice none 0 0, .bool false, .int .i64 0, .int .u32 0, .int .i64 0, .int .u32 0, .int .u8 0, .int .u8 0, .int .u8 0, .int .u8 0, .int .u8 0, .int .u8 0, .int .i64 0, .int .i64 0, .int .i64 0, .bool false, .bool false, .slice none 0 0, .slice none 0 0, .slice none 0 0, .slice none 0 0, .slice none 0 0, .slice none 0 0, .slice none 0 0, .slice none 0 0] 54)).drew := ((Below.refl _ _).alloc (Nat.le_refl _) _).drew
  have hn0 : (wr.alloc (.cells #[.int .i64 0, .int .i64 0, .int .i64 0, .int .i64 0, .int .i64 0, .slice none 0 0, .slice none 0 0, .slice none 0 0, .slice none 0 0, .slice none 0 0, .slice none 0 0, .slice none 0 0, .bool false, .int .i64 0, .int .u32 0, .int .i64 0, .int .u32 0, .int .u8 0, .int .u8 0, .int .u8 0, .int .u8 0, .int .u8 0, .int .u8 0, .int .i64 0, .int .i64 0, .int .i64 0, .bool false, .bool false, .slice none 0 0, .slice none 0 0, .slice none 0 0, .slice none 0 0, .slice none 0 0, .slice none 0 0, .slice none 0 0, .slice none 0 0] 54)).drew.heap[wr.heap.size]? = some (.cells #[.int .i64 0, .int .i64 0, .int .i64 0, .int .i64 0, .int .i64 0, .slice none 0 0, .slice none 0 0, .slice none 0 0, .slice none 0 0, .slice none 0 0, .slice none 0 0, .slice none 0 0, .bool false, .int .i64 0, .int .u32 0, .int .i64 0, .int .u32 0, .int .u8 0, .int .u8 0, .int .u8 0, .int .u8 0, .int .u8 0, .int .u8 0, .int .i64 0, .int .i64 0, .int .i64 0, .bool false, .bool false, .slice none 0 0, .slice none 0 0, .slice none 0 0, .slice none 0 0, .slice none 0 0, .slice none 0 0, .slice none 0 0, .slice none 0 0] 54) := heap_alloc_new wr _
  generalize (wr.alloc (.cells #[.int .i64 0, .int .i64 0, .int .i64 0, .int .i64 0, .int .i64 0, .slice none 0 0, .slice none 0 0, .slice none 0 0, .slice none 0 0, .slice none 0 0, .slice none 0 0, .slice none 0 0, .bool false, .int .i64 0, .int .u32 0, .int .i64 0, .int .u32 0, .int .u8 0, .int .u8 0, .int .u8 0, .int .u8 0, .int .u8 0, .int .u8 0, .int .i64 0, .int .i64 0, .int .i64 0, .bool false, .bool false, .slice none 0 0, .slice none 0 0, .slice none 0 0, .slice none 0 0, .slice none 0 0, .slice none 0 0, .slice none 0 0, .slice none 0 0] 54)).drew = W2 at hb0 hn0 ⊢
  have hm2 := HM.out.grow hb0
  refine hK.out _ _ hm2.t (fun hHeld => ?_)
  clear hK
  refine wpAnyH_ready (rs := [16]) (by kernel_rfl) (by simp) ?_
  refine AllReadyH.cons rfl (fun K hK => ?_) AllReadyH.nil
  rw [if_pos (by rfl)]
  refine wp_store_mid 54 _ _ rfl wr.heap.size 0 #[.int .i64 0, .int .i64 0, .int .i64 0, .int .i64 0, .int .i64 0, .slice (some ⟨w.heap.size + 1, 0, none⟩) 1 2, .slice (some ⟨w.heap.size + 5, 0, none⟩) 1 2, .slice (some ⟨w.heap.size + 7, 0, none⟩) 1 2, .slice (some ⟨w.heap.size + 8, 0, none⟩) 1 2, .slice (some ⟨w.heap.size + 9, 0, none⟩) 1 2, .slice (some ⟨w.heap.size + 3, 0, none⟩) 1 2, .slice (some ⟨w.heap.size + 2, 0, none⟩) 1 2, .bool false, .int .i64 0, .int .u32 0, .int .i64 0, .int .u32 0, .int .u8 0, .int .u8 0, .int .u8 0, .int .u8 0, .int .u8 0, .int .u8 0, .int .i64 0, .int .i64 0, .int .i64 0, .bool false, .bool false, .slice none 0 0, .slice none 0 0, .slice none 0 0, .slice none 0 0, .slice none 0 0, .slice (some ⟨w.heap.size + 4, 0, none⟩) 2 3, .slice a l.length c, .slice a l.length c] rfl rfl (there_of hn0 (by show 0 + 36 ≤ 36; omega)) (by kernel_rfl) (by simp [Value.oneCell']) ?_
  have hb3 : Below wr.heap.size wr (W2.setCells wr.heap.size 0 [.int .i64 0, .int .i64 0, .int .i64 0, .int .i64 0, .int .i64 0, .slice (some ⟨w.heap.size + 1, 0, none⟩) 1 2, .slice (some ⟨w.heap.size + 5, 0, none⟩) 1 2, .slice (some ⟨w.heap.size + 7, 0, none⟩) 1 2, .slice (some ⟨w.heap.size + 8, 0, none⟩) 1 2, .slice (some ⟨w.heap.size + 9, 0, none⟩) 1 2, .slice (some ⟨w.heap.size + 3, 0, none⟩) 1 2, .slice (some ⟨w.heap.size + 2, 0, none⟩) 1 2, .bool false, .int .i64 0, .int .u32 0, .int .i64 0, .int .u32 0, .int .u8 0, .int .u8 0, .int .u8 0, .int .u8 0, .int .u8 0, .int .u8 0, .int .i64 0, .int .i64 0, .int .i64 0, .bool false, .bool false, .slice none 0 0, .slice none 0 0, .slice none 0 0, .slice none 0 0, .slice none 0 0, .slice (some ⟨w.heap.size + 4, 0, none⟩) 2 3, .slice a l.length c, .slice a l.length c]) := below_setCells hb0 (Nat.le_refl _) _
  have h2 := HM.out.grow hb3
  have hr := World.rangeAt_setCells_same W2 wr.heap.size 0 [.int .i64 0, .int .i64 0, .int .i64 0, .int .i64 0, .int .i64 0, .slice (some ⟨w.heap.size + 1, 0, none⟩) 1 2, .slice (some ⟨w.heap.size + 5, 0, none⟩) 1 2, .slice (some ⟨w.heap.size + 7, 0, none⟩) 1 2, .slice (some ⟨w.heap.size + 8, 0, none⟩) 1 2, .slice (some ⟨w.heap.size + 9, 0, none⟩) 1 2, .slice (some ⟨w.heap.size + 3, 0, none⟩) 1 2, .slice (some ⟨w.heap.size + 2, 0, none⟩) 1 2, .bool false, .int .i64 0, .int .u32 0, .int .i64 0, .int .u32 0, .int .u8 0, .int .u8 0, .int .u8 0, .int .u8 0, .int .u8 0, .int .u8 0, .int .i64 0, .int .i64 0, .int .i64 0, .bool false, .bool false, .slice none 0 0, .slice none 0 0, .slice none 0 0, .slice none 0 0, .slice none 0 0, .slice (some ⟨w.heap.size + 4, 0, none⟩) 2 3, .slice a l.length c, .slice a l.length c] (there_of hn0 (by show 0 + 36 ≤ 36; omega))
  have ht : W2.there wr.heap.size 0 36 := there_of hn0 (by show 0 + 36 ≤ 36; omega)
  have ht2 := World.there_setCells ht wr.heap.size 0 [.int .i64 0, .int .i64 0, .int .i64 0, .int .i64 0, .int .i64 0, .slice (some ⟨w.heap.size + 1, 0, none⟩) 1 2, .slice (some ⟨w.heap.size + 5, 0, none⟩) 1 2, .slice (some ⟨w.heap.size + 7, 0, none⟩) 1 2, .slice (some ⟨w.heap.size + 8, 0, none⟩) 1 2, .slice (some ⟨w.heap.size + 9, 0, none⟩) 1 2, .slice (some ⟨w.heap.size + 3, 0, none⟩) 1 2, .slice (some ⟨w.heap.size + 2, 0, none⟩) 1 2, .bool false, .int .i64 0, .int .u32 0, .int .i64 0, .int .u32 0, .int .u8 0, .int .u8 0, .int .u8 0, .int .u8 0, .int .u8 0, .int .u8 0, .int .i64 0, .int .i64 0, .int .i64 0, .bool false, .bool false, .slice none 0 0, .slice none 0 0, .slice none 0 0, .slice none 0 0, .slice none 0 0, .slice (some ⟨w.heap.size + 4, 0, none⟩) 2 3, .slice a l.length c, .slice a l.length c]
  refine hK.out _ _ h2.t (fun hHeld => ?_)
  clear hK
  refine wpAnyH_done (by kernel_rfl) ?_ _
  exact NoPanic.normal (HN.out _ h2 hb3 hr ht2)
theorem range_app {w : World} {b o : Nat} {X Y : List Value} : w.rangeAt b o (X ++ Y) ↔ w.rangeAt b o X ∧ w.rangeAt b (o + X.length) Y := by
  constructor
  · intro h
    refine ⟨fun j v hj => h j v ?_, fun j v hj => ?_⟩
    · rw [List.getElem?_append_left (List.getElem?_eq_some_iff.1 hj).1]; exact hj
    · have := h (X.length + j) v (by rw [List.getElem?_append_right (by omega), Nat.add_sub_cancel_left]; exact hj)
      rwa [← Nat.add_assoc] at this
  · rintro ⟨h1, h2⟩ j v hj
    rcases Nat.lt_or_ge j X.length with hl | hl
    · rw [List.getElem?_append_left hl] at hj; exact h1 j v hj
    · rw [List.getElem?_append_right hl] at hj
      have := h2 (j - X.length) v hj
      rwa [show o + X.length + (j - X.length) = o + j by omega] at this
/-- a part in the middle is written anew -/
theorem range_mid {w : World} {b : Nat} {A M N C : List Value} (h : w.rangeAt b 0 (A ++ (M ++ C))) (hl : N.length = M.length) (ht : w.there b A.length N.length) : (w.setCells b A.length N).rangeAt b 0 (A ++ (N ++ C)) := by
  obtain ⟨h1, h2⟩ := range_app.1 h
  obtain ⟨_, h3⟩ := range_app.1 h2
  rw [Nat.zero_add] at h3
  refine range_app.2 ⟨World.rangeAt_setCells_apart h1 _ _ _ (.inr (.inl (by omega))), range_app.2 ⟨by rw [Nat.zero_add]; exact World.rangeAt_setCells_same w b A.length N ht, ?_⟩⟩
  rw [Nat.zero_add, hl]
  exact World.rangeAt_setCells_apart h3 _ _ _ (.inr (.inr (by omega)))
set_option maxRecDepth 1000000 in
set_option maxHeartbeats 8000000 in
theorem formats_reg17 (a : Option Addr) (l : List UInt8) (c : Nat) (w wr : World) (rb : Nat) {c1 c14 c16 c17 c18 c19 c20 c21 c22 c23 c24 c25 c26 c27 c28 c29 c30 c31 c32 c33 c34 c35 c36 c37 c38 c39 c40 c41 c42 c43 c44 c45 c46 c47 c48 c49 c50 c51 c52 c53 c54 c55 c56 c57 c58 c59 c60 c61 c62 c63 c64 c65 c66 c67 c68 c69 c70 c71 c72 c73 c74 c75 c76 c77 c78 c79 c80 c81 c82 c83 c84 c85 c86 c87 c88 c89 c90 c91 c92 c93 c94 c95 c96 c97 c98 c99 c100 c101 c102 c103 c104 c105 c106 c107 c108 c109 c110 c111 c112 c113 c114 c115 c116 c117 c118 c119 c120 c121 c122 c123 c124 c125 c126 c127 c128 c129 c130 c131 c132 c133 c134 c135 c136 c137 c138 c139 c140 c141 c142 c143 c144 c145 c146 c147 c148 c149 c150 c151 c152 c153 c154 c155 c156 c157 c158 c159 c160 c161 c162 c163 c164 c165 c166 c167 c168 c169 c170 c171 c172 c173 c174 c175 c176 c177 c178 c179 c180 c181 c182 c183 c184 c185 c186 c187 c188 c189 c190 c191 c192 c193 c194 c195 c196 c197 c198 c199 c200 c201 c202 c203 c204 c205 c206 c207 c208 : Value} {Q0 : Exit → Act → World → Prop} (hm : Marks2 w a l c wr) (hrb : w.heap.size + 12 ≤ rb) (hr : wr.rangeAt rb 0 [.int .i64 0, .int .i64 0, .int .i64 0, .int .i64 0, .int .i64 0, .slice (some ⟨w.heap.size + 1, 0, none⟩) 1 2, .slice (some ⟨w.heap.size + 5, 0, none⟩) 1 2, .slice (some ⟨w.heap.size + 7, 0, none⟩) 1 2, .slice (some ⟨w.heap.size + 8, 0, none⟩) 1 2, .slice (some ⟨w.heap.size + 9, 0, none⟩) 1 2, .slice (some ⟨w.heap.size + 3, 0, none⟩) 1 2, .slice (some ⟨w.heap.size + 2, 0, none⟩) 1 2, .bool false, .int .i64 0, .int .u32 0, .int .i64 0, .int .u32 0, .int .u8 0, .int .u8 0, .int .u8 0, .int .u8 0, .int .u8 0, .int .u8 0, .int .i64 0, .int .i64 0, .int .i64 0, .bool false, .bool false, .slice none 0 0, .slice none 0 0, .slice none 0 0, .slice none 0 0, .slice none 0 0, .slice (some ⟨w.heap.size + 4, 0, none⟩) 2 3, .slice a l.length c, .slice a l.length c]) (ht : wr.there rb 0 36)
    (hexit : ∀ (wz : World) {d78 d79 : Value}, Below rb wr wz → wz.rangeAt rb 0 [.int .i64 0, .int .i64 0, .int .i64 0, .int .i64 0, .int .i64 0, .slice (some ⟨w.heap.size + 1, 0, none⟩) 1 2, .slice (some ⟨w.heap.size + 5, 0, none⟩) 1 2, .slice (some ⟨w.heap.size + 7, 0, none⟩) 1 2, .slice (some ⟨w.heap.size + 8, 0, none⟩) 1 2, .slice (some ⟨w.heap.size + 9, 0, none⟩) 1 2, .slice (some ⟨w.heap.size + 3, 0, none⟩) 1 2, .slice (some ⟨w.heap.size + 2, 0, none⟩) 1 2, .bool false, .int .i64 0, .int .u32 0, .int .i64 0, .int .u32 0, .int .u8 0, .int .u8 0, .int .u8 0, .int .u8 0, .int .u8 0, .int .u8 0, .int .i64 0, .int .i64 0, .int .i64 0, .bool false, .bool false, .slice (some ⟨w.heap.size + 5, 0, none⟩) 1 2, .slice (some ⟨w.heap.size + 6, 0, none⟩) 1 2, .slice (some ⟨w.heap.size + 7, 0, none⟩) 1 2, .slice (some ⟨w.heap.size + 8, 0, none⟩) 1 2, .slice (some ⟨w.heap.size + 9, 0, none⟩) 1 2, .slice (some ⟨w.heap.size + 4, 0, none⟩) 2 3, .slice a l.length c, .slice a l.length c] → Q0 .normal ⟨#[.slice a l.length c, c1, .bool false, .slice (some ⟨w.heap.size + 1, 0, none⟩) 2 2, .slice (some ⟨w.heap.size + 2, 0, none⟩) 2 2, .slice (some ⟨w.heap.size + 3, 0, none⟩) 2 2, .slice (some ⟨w.heap.size + 4, 0, none⟩) 3 3, .slice (some ⟨w.heap.size + 5, 0, none⟩) 2 2, .slice (some ⟨w.heap.size + 6, 0, none⟩) 2 2, .slice (some ⟨w.heap.size + 7, 0, none⟩) 2 2, .slice (some ⟨w.heap.size + 8, 0, none⟩) 2 2, .slice (some ⟨w.heap.size + 9, 0, none⟩) 2 2, .pointer (some ⟨w.heap.size + 10, 0, none⟩), .pointer (some ⟨w.heap.size + 11, 0, none⟩), c14, .pointer (some ⟨rb, 0, none⟩), c16, c17, c18, c19, c20, c21, c22, c23, c24, c25, c26, c27, c28, c29, c30, c31, c32, c33, c34, c35, c36, c37, c38, c39, c40, c41, c42, c43, c44, c45, c46, c47, c48, c49, c50, c51, c52, c53, c54, c55, c56, c57, c58, c59, c60, c61, c62, c63, c64, c65, c66, c67, c68, c69, c70, c71, c72, c73, c74, c75, c76, c77, d78, d79, c80, c81, c82, c83, c84, c85, c86, c87, c88, c89, c90, c91, c92, c93, c94, c95, c96, c97, c98, c99, c100, c101, c102, c103, c104, c105, c106, c107, c108, c109, c110, c111, c112, c113, c114, c115, c116, c117, c118, c119, c120, c121, c122, c123, c124, c125, c126, c127, c128, c129, c130, c131, c132, c133, c134, c135, c136, c137, c138, c139, c140, c141, c142, c143, c144, c145, c146, c147, c148, c149, c150, c151, c152, c153, c154, c155, c156, c157, c158, c159, c160, c161, c162, c163, c164, c165, c166, c167, c168, c169, c170, c171, c172, c173, c174, c175, c176, c177, c178, c179, c180, c181, c182, c183, c184, c185, c186, c187, c188, c189, c190, c191, c192, c193, c194, c195, c196, c197, c198, c199, c200, c201, c202, c203, c204, c205, c206, c207, c208], []⟩ wz) :
    Code.wp Tryz.prog (regionOf Tryz.f12 16) Q0 ⟨#[.slice a l.length c, c1, .bool false, .slice (some ⟨w.heap.size + 1, 0, none⟩) 2 2, .slice (some ⟨w.heap.size + 2, 0, none⟩) 2 2, .slice (some ⟨w.heap.size + 3, 0, none⟩) 2 2, .slice (some ⟨w.heap.size + 4, 0, none⟩) 3 3, .slice (some ⟨w.heap.size + 5, 0, none⟩) 2 2, .slice (some ⟨w.heap.size + 6, 0, none⟩) 2 2, .slice (some ⟨w.heap.size + 7, 0, none⟩) 2 2, .slice (some ⟨w.heap.size + 8, 0, none⟩) 2 2, .slice (some ⟨w.heap.size + 9, 0, none⟩) 2 2, .pointer (some ⟨w.heap.size + 10, 0, none⟩), .pointer (some ⟨w.heap.size + 11, 0, none⟩), c14, .pointer (some ⟨rb, 0, none⟩), c16, c17, c18, c19, c20, c21, c22, c23, c24, c25, c26, c27, c28, c29, c30, c31, c32, c33, c34, c35, c36, c37, c38, c39, c40, c41, c42, c43, c44, c45, c46, c47, c48, c49, c50, c51, c52, c53, c54, c55, c56, c57, c58, c59, c60, c61, c62, c63, c64, c65, c66, c67, c68, c69, c70, c71, c72, c73, c74, c75, c76, c77, c78, c79, c80, c81, c82, c83, c84, c85, c86, c87, c88, c89, c90, c91, c92, c93, c94, c95, c96, c97, c98, c99, c100, c101, c102, c103, c104, c105, c106, c107, c108, c109, c110, c111, c112, c113, c114, c115, c116, c117, c118, c119, c120, c121, c122, c123, c124, c125, c126, c127, c128, c129, c130, c131, c132, c133, c134, c135, c136, c137, c138, c139, c140, c141, c142, c143, c144, c145, c146, c147, c148, c149, c150, c151, c152, c153, c154, c155, c156, c157, c158, c159, c160, c161, c162, c163, c164, c165, c166, c167, c168, c169, c170, c171, c172, c173, c174, c175, c176, c177, c178, c179, c180, c181, c182, c183, c184, c185, c186, c187, c188, c189, c190, c191, c192, c193, c194, c195, c196, c197, c198, c199, c200, c201, c202, c203, c204, c205, c206, c207, c208], []⟩ wr := by
  have HN := Lib.hid hexit
  have HM := Lib.hid hm
  have HR := Lib.hid hr
  have ht12 : wr.there rb 12 21 := fun j hj => by
    have := ht (12 + j) (by omega)
    rwa [Nat.zero_add] at this
  have HT := Lib.hid ht12
  have HRB := Lib.hid hrb
  clear hm hexit hr ht ht12 hrb
  conv => arg 2; whnf
  conv => arg 4; dsimp only
  go_wp2_with (first | refine wpList_load_mid rfl 49 _ rfl (w.heap.size + 11) 0 rfl [.bool false, .int .i64 0, .int .u32 0, .int .i64 0, .int .u32 0, .int .u8 0, .int .u8 0, .int .u8 0, .int .u8 0, .int .u8 0, .int .u8 0, .int .i64 0, .int .i64 0, .int .i64 0, .bool false, .bool false, .slice (some ⟨w.heap.size + 5, 0, none⟩) 1 2, .slice (some ⟨w.heap.size + 6, 0, none⟩) 1 2, .slice (some ⟨w.heap.size + 7, 0, none⟩) 1 2, .slice (some ⟨w.heap.size + 8, 0, none⟩) 1 2, .slice (some ⟨w.heap.size + 9, 0, none⟩) 1 2] _ HM.out.v Tryz.underlying49 rfl viewInfo ?_ | refine wpList_store_mid rfl 49 _ _ rfl rb 12 #[.bool false, .int .i64 0, .int .u32 0, .int .i64 0, .int .u32 0, .int .u8 0, .int .u8 0, .int .u8 0, .int .u8 0, .int .u8 0, .int .u8 0, .int .i64 0, .int .i64 0, .int .i64 0, .bool false, .bool false, .slice (some ⟨w.heap.size + 5, 0, none⟩) 1 2, .slice (some ⟨w.heap.size + 6, 0, none⟩) 1 2, .slice (some ⟨w.heap.size + 7, 0, none⟩) 1 2, .slice (some ⟨w.heap.size + 8, 0, none⟩) 1 2, .slice (some ⟨w.heap.size + 9, 0, none⟩) 1 2] rfl rfl HT.out viewInfo (by simp [Value.oneCell']) ?_)
  have hb : Below rb wr (wr.setCells rb 12 [.bool false, .int .i64 0, .int .u32 0, .int .i64 0, .int .u32 0, .int .u8 0, .int .u8 0, .int .u8 0, .int .u8 0, .int .u8 0, .int .u8 0, .int .i64 0, .int .i64 0, .int .i64 0, .bool false, .bool false, .slice (some ⟨w.heap.size + 5, 0, none⟩) 1 2, .slice (some ⟨w.heap.size + 6, 0, none⟩) 1 2, .slice (some ⟨w.heap.size + 7, 0, none⟩) 1 2, .slice (some ⟨w.heap.size + 8, 0, none⟩) 1 2, .slice (some ⟨w.heap.size + 9, 0, none⟩) 1 2]) := below_setCells (Below.refl _ _) (Nat.le_refl _) _
  have hz := range_mid (A := [.int .i64 0, .int .i64 0, .int .i64 0, .int .i64 0, .int .i64 0, .slice (some ⟨w.heap.size + 1, 0, none⟩) 1 2, .slice (some ⟨w.heap.size + 5, 0, none⟩) 1 2, .slice (some ⟨w.heap.size + 7, 0, none⟩) 1 2, .slice (some ⟨w.heap.size + 8, 0, none⟩) 1 2, .slice (some ⟨w.heap.size + 9, 0, none⟩) 1 2, .slice (some ⟨w.heap.size + 3, 0, none⟩) 1 2, .slice (some ⟨w.heap.size + 2, 0, none⟩) 1 2]) (M := [.bool false, .int .i64 0, .int .u32 0, .int .i64 0, .int .u32 0, .int .u8 0, .int .u8 0, .int .u8 0, .int .u8 0, .int .u8 0, .int .u8 0, .int .i64 0, .int .i64 0, .int .i64 0, .bool false, .bool false, .slice none 0 0, .slice none 0 0, .slice none 0 0, .slice none 0 0, .slice none 0 0]) (N := [.bool false, .int .i64 0, .int .u32 0, .int .i64 0, .int .u32 0, .int .u8 0, .int .u8 0, .int .u8 0, .int .u8 0, .int .u8 0, .int .u8 0, .int .i64 0, .int .i64 0, .int .i64 0, .bool false, .bool false, .slice (some ⟨w.heap.size + 5, 0, none⟩) 1 2, .slice (some ⟨w.heap.size + 6, 0, none⟩) 1 2, .slice (some ⟨w.heap.size + 7, 0, none⟩) 1 2, .slice (some ⟨w.heap.size + 8, 0, none⟩) 1 2, .slice (some ⟨w.heap.size + 9, 0, none⟩) 1 2]) (C := [.slice (some ⟨w.heap.size + 4, 0, none⟩) 2 3, .slice a l.length c, .slice a l.length c]) HR.out rfl HT.out
  exact HN.out _ hb hz

/-! ### the two replies that are written -/
def lease1 : LeaseD := ⟨1, 0, 0, 0, ⟨0, 0, 0, 0, 0, 0⟩, 0, 0⟩
def route1 : RouteD := ⟨0, 0, 1, false⟩
def neigh1 : NeighD := ⟨1, ⟨0, 0, 0, 0, 0, 0⟩⟩
def fdb1 : FdbD := ⟨⟨0, 0, 0, 0, 0, 0⟩, 1⟩
def skip1 : PrefixD := ⟨0, 1⟩
def markView (k : Bool) : ViewD := if k then ⟨false, LeaseD.zero, 0, false, false, [lease1], [skip1], ⟨[route1], [neigh1], [fdb1]⟩⟩ else ⟨false, LeaseD.zero, 0, false, false, [], [], ⟨[], [], []⟩⟩
def markReply (a : Option Addr) (l : List UInt8) (c : Nat) (k : Bool) : ReplyD := ⟨0, 0, 0, 0, 0, [⟨0, 0, ⟨#[]⟩, a, c, l⟩], [lease1], ⟨[route1], [neigh1], [fdb1]⟩, [⟨⟨#[97]⟩, 5⟩], [⟨5, a, c, l⟩], markView k, [4, 5], l, l⟩
theorem row_one {u : World} {B b cap sz : Nat} {cur : Array Value} {T : TypeId} (h : u.heap[b]? = some (.cells cur T (0, 0))) (hb : b < B) (hc : 1 ≤ cap) (x : List Value) (hx : cur.toList.take x.length = x) : RowOf B u (.slice (some ⟨b, 0, none⟩) 1 cap) sz [x] := by
  refine ⟨_, cap, rfl, hc, by show (1 : Nat) ≤ 140737488355328; decide, fun _ => ⟨b, 0, rfl, hb, fun j y hj i v hi => ?_⟩⟩
  obtain rfl : j = 0 := by have := (List.getElem?_eq_some_iff.1 hj).1; simpa using this
  obtain rfl : x = y := by simpa using hj
  rw [Nat.zero_mul, Nat.zero_add, cell_of_row u b i cur T (0, 0) h, ← Array.getElem?_toList]
  rw [← hx, List.getElem?_take] at hi
  split at hi
  · exact hi
  · cases hi
theorem i64_small (n : Int) (h0 : 0 ≤ n) (h : n ≤ 10) : I64 n := by constructor <;> omega
theorem lease1_ok : lease1.ok := ⟨i64_small _ (by decide) (by decide), by decide, i64_small _ (by decide) (by decide), by decide, i64_small _ (by decide) (by decide), i64_small _ (by decide) (by decide)⟩
theorem zero_ok : LeaseD.zero.ok := ⟨i64_small _ (by decide) (by decide), by decide, i64_small _ (by decide) (by decide), by decide, i64_small _ (by decide) (by decide), i64_small _ (by decide) (by decide)⟩
theorem route1_ok : route1.ok := ⟨by decide, i64_small _ (by decide) (by decide), by decide⟩
theorem neigh1_ok : neigh1.ok := by show (1 : Nat) < 4294967296; decide
theorem fdb1_ok : fdb1.ok := by show (1 : Nat) < 4294967296; decide
theorem skip1_ok : skip1.ok := ⟨by decide, i64_small _ (by decide) (by decide)⟩
theorem one_all {α : Type} {P : α → Prop} {x : α} (h : P x) : ∀ y ∈ [x], P y := fun y hy => by rw [List.mem_singleton] at hy; rw [hy]; exact h
theorem nil_all {α : Type} {P : α → Prop} : ∀ y ∈ ([] : List α), P y := fun y hy => by cases hy
theorem mark_ok (a : Option Addr) (l : List UInt8) (c : Nat) (k : Bool) (u : World) (hb : Bs u (.slice a l.length c) l) (hl : l.length ≤ 100000) : (markReply a l c k).Ok u := by
  have z : I64 0 := i64_small 0 (by decide) (by decide)
  refine ⟨z, z, z, z, z, one_all ⟨z, by show (0 : Nat) < 4294967296; decide, Nat.zero_le _, hb, by show l.length ≤ _; omega⟩, one_all lease1_ok, one_all route1_ok, one_all neigh1_ok, one_all fdb1_ok, one_all ⟨by show (5 : Nat) < 4294967296; decide, by show (1 : Nat) ≤ _; decide⟩, one_all ⟨by show (5 : Nat) < 4294967296; decide, hb, by show l.length ≤ _; omega⟩, ?_, ?_, ?_, ?_, ?_, ?_, ?_, ?_, by show (2 : Nat) ≤ _; decide, by show l.length ≤ _; omega, by show l.length ≤ _; omega⟩
  · cases k <;> exact zero_ok
  · cases k <;> exact z
  · cases k
    · exact nil_all
    · exact one_all lease1_ok
  · cases k
    · exact nil_all
    · exact one_all skip1_ok
  · cases k
    · exact nil_all
    · exact one_all route1_ok
  · cases k
    · exact nil_all
    · exact one_all neigh1_ok
  · cases k
    · exact nil_all
    · exact one_all fdb1_ok
  · intro x hx
    rcases List.mem_cons.1 hx with rfl | hx
    · exact i64_small 4 (by decide) (by decide)
    · exact one_all (P := I64) (i64_small 5 (by decide) (by decide)) x hx
theorem mark_small (a : Option Addr) (l : List UInt8) (c : Nat) (k : Bool) (hl : l.length ≤ 100000) : Small (markReply a l c k) := by
  have one : (1 : Nat) ≤ 1048576 := by decide
  refine ⟨⟨one, one_all ⟨by show l.length ≤ _; omega, Nat.zero_le _⟩⟩, one, one, one, one, ⟨one, one_all one⟩, ⟨one, one_all (by show l.length ≤ _; omega)⟩, ?_, ?_, ?_, ?_, ?_, by show (2 : Nat) ≤ _; decide, by show l.length ≤ _; omega, by show l.length ≤ _; omega⟩ <;> (cases k <;> (first | exact Nat.zero_le _ | exact one))
theorem mark_at0 (a : Option Addr) (l : List UInt8) (c : Nat) (w u : World) (hm : Marks w a l c u) (hb : Bs u (.slice a l.length c) l) : (markReply a l c false).At u.heap.size u (.slice (some ⟨w.heap.size + 1, 0, none⟩) 1 2) (.slice (some ⟨w.heap.size + 5, 0, none⟩) 1 2) (.slice (some ⟨w.heap.size + 7, 0, none⟩) 1 2) (.slice (some ⟨w.heap.size + 8, 0, none⟩) 1 2) (.slice (some ⟨w.heap.size + 9, 0, none⟩) 1 2) (.slice (some ⟨w.heap.size + 3, 0, none⟩) 1 2) (.slice (some ⟨w.heap.size + 2, 0, none⟩) 1 2) (.slice none 0 0) (.slice none 0 0) (.slice none 0 0) (.slice none 0 0) (.slice none 0 0) (.slice (some ⟨w.heap.size + 4, 0, none⟩) 2 3) (.slice a l.length c) (.slice a l.length c) := by
  have hs := hm.size
  refine ⟨row_one hm.h1 (by omega) (by decide) _ rfl, row_one hm.h5 (by omega) (by decide) _ rfl, row_one hm.h7 (by omega) (by decide) _ rfl, row_one hm.h8 (by omega) (by decide) _ rfl, row_one hm.h9 (by omega) (by decide) _ rfl, row_one hm.h3 (by omega) (by decide) _ rfl, row_one hm.h2 (by omega) (by decide) _ rfl, row_nil _ _ _, row_nil _ _ _, row_nil _ _ _, row_nil _ _ _, row_nil _ _ _, ?_, hb, hb⟩
  refine ⟨_, 3, rfl, by show (2 : Nat) ≤ 3; decide, by show (2 : Nat) ≤ 140737488355328; decide, fun _ => ⟨w.heap.size + 4, 0, rfl, by omega, fun j y hj i v hi => ?_⟩⟩
  rw [cell_of_row u (w.heap.size + 4) (0 + j * 1 + i) _ _ (0, 0) hm.h4]
  have hj : ([[Value.int .i64 4], [Value.int .i64 5]] : List (List Value))[j]? = some y := hj
  match j, hj with
  | 0, hj =>
    obtain rfl : [Value.int .i64 4] = y := by simpa using hj
    obtain rfl : i = 0 := by have := (List.getElem?_eq_some_iff.1 hi).1; simpa using this
    simpa using hi
  | 1, hj =>
    obtain rfl : [Value.int .i64 5] = y := by simpa using hj
    obtain rfl : i = 0 := by have := (List.getElem?_eq_some_iff.1 hi).1; simpa using this
    simpa using hi
  | j + 2, hj => simp at hj
theorem mark_at1 (a : Option Addr) (l : List UInt8) (c : Nat) (w u : World) (hm : Marks w a l c u) (hb : Bs u (.slice a l.length c) l) : (markReply a l c true).At u.heap.size u (.slice (some ⟨w.heap.size + 1, 0, none⟩) 1 2) (.slice (some ⟨w.heap.size + 5, 0, none⟩) 1 2) (.slice (some ⟨w.heap.size + 7, 0, none⟩) 1 2) (.slice (some ⟨w.heap.size + 8, 0, none⟩) 1 2) (.slice (some ⟨w.heap.size + 9, 0, none⟩) 1 2) (.slice (some ⟨w.heap.size + 3, 0, none⟩) 1 2) (.slice (some ⟨w.heap.size + 2, 0, none⟩) 1 2) (.slice (some ⟨w.heap.size + 5, 0, none⟩) 1 2) (.slice (some ⟨w.heap.size + 6, 0, none⟩) 1 2) (.slice (some ⟨w.heap.size + 7, 0, none⟩) 1 2) (.slice (some ⟨w.heap.size + 8, 0, none⟩) 1 2) (.slice (some ⟨w.heap.size + 9, 0, none⟩) 1 2) (.slice (some ⟨w.heap.size + 4, 0, none⟩) 2 3) (.slice a l.length c) (.slice a l.length c) := by
  have hs := hm.size
  refine ⟨row_one hm.h1 (by omega) (by decide) _ rfl, row_one hm.h5 (by omega) (by decide) _ rfl, row_one hm.h7 (by omega) (by decide) _ rfl, row_one hm.h8 (by omega) (by decide) _ rfl, row_one hm.h9 (by omega) (by decide) _ rfl, row_one hm.h3 (by omega) (by decide) _ rfl, row_one hm.h2 (by omega) (by decide) _ rfl, row_one hm.h5 (by omega) (by decide) _ rfl, row_one hm.h6 (by omega) (by decide) _ rfl, row_one hm.h7 (by omega) (by decide) _ rfl, row_one hm.h8 (by omega) (by decide) _ rfl, row_one hm.h9 (by omega) (by decide) _ rfl, ?_, hb, hb⟩
  refine ⟨_, 3, rfl, by show (2 : Nat) ≤ 3; decide, by show (2 : Nat) ≤ 140737488355328; decide, fun _ => ⟨w.heap.size + 4, 0, rfl, by omega, fun j y hj i v hi => ?_⟩⟩
  rw [cell_of_row u (w.heap.size + 4) (0 + j * 1 + i) _ _ (0, 0) hm.h4]
  have hj : ([[Value.int .i64 4], [Value.int .i64 5]] : List (List Value))[j]? = some y := hj
  match j, hj with
  | 0, hj =>
    obtain rfl : [Value.int .i64 4] = y := by simpa using hj
    obtain rfl : i = 0 := by have := (List.getElem?_eq_some_iff.1 hi).1; simpa using this
    simpa using hi
  | 1, hj =>
    obtain rfl : [Value.int .i64 5] = y := by simpa using hj
    obtain rfl : i = 0 := by have := (List.getElem?_eq_some_iff.1 hi).1; simpa using this
    simpa using hi
  | j + 2, hj => simp at hj
set_option maxRecDepth 1000000 in
set_option maxHeartbeats 8000000 in
theorem formats_reg18_0 (a : Option Addr) (l : List UInt8) (c : Nat) (w wr : World) (rb : Nat) {c1 c14 c16 c17 c18 c19 c20 c21 c22 c23 c24 c25 c26 c27 c28 c29 c30 c31 c32 c33 c34 c35 c36 c37 c38 c39 c40 c41 c42 c43 c44 c45 c46 c47 c48 c49 c50 c51 c52 c53 c54 c55 c56 c57 c58 c59 c60 c61 c62 c63 c64 c65 c66 c67 c68 c69 c70 c71 c72 c73 c74 c75 c76 c77 c78 c79 c80 c81 c82 c83 c84 c85 c86 c87 c88 c89 c90 c91 c92 c93 c94 c95 c96 c97 c98 c99 c100 c101 c102 c103 c104 c105 c106 c107 c108 c109 c110 c111 c112 c113 c114 c115 c116 c117 c118 c119 c120 c121 c122 c123 c124 c125 c126 c127 c128 c129 c130 c131 c132 c133 c134 c135 c136 c137 c138 c139 c140 c141 c142 c143 c144 c145 c146 c147 c148 c149 c150 c151 c152 c153 c154 c155 c156 c157 c158 c159 c160 c161 c162 c163 c164 c165 c166 c167 c168 c169 c170 c171 c172 c173 c174 c175 c176 c177 c178 c179 c180 c181 c182 c183 c184 c185 c186 c187 c188 c189 c190 c191 c192 c193 c194 c195 c196 c197 c198 c199 c200 c201 c202 c203 c204 c205 c206 c207 c208 : Value} {Q0 : Exit → Act → World → Prop} (hE : Env wr) (hl : l.length ≤ 100000) (hm : Marks2 w a l c wr) (hb : Bs wr (.slice a l.length c) l) (hr : wr.rangeAt rb 0 [.int .i64 0, .int .i64 0, .int .i64 0, .int .i64 0, .int .i64 0, .slice (some ⟨w.heap.size + 1, 0, none⟩) 1 2, .slice (some ⟨w.heap.size + 5, 0, none⟩) 1 2, .slice (some ⟨w.heap.size + 7, 0, none⟩) 1 2, .slice (some ⟨w.heap.size + 8, 0, none⟩) 1 2, .slice (some ⟨w.heap.size + 9, 0, none⟩) 1 2, .slice (some ⟨w.heap.size + 3, 0, none⟩) 1 2, .slice (some ⟨w.heap.size + 2, 0, none⟩) 1 2, .bool false, .int .i64 0, .int .u32 0, .int .i64 0, .int .u32 0, .int .u8 0, .int .u8 0, .int .u8 0, .int .u8 0, .int .u8 0, .int .u8 0, .int .i64 0, .int .i64 0, .int .i64 0, .bool false, .bool false, .slice none 0 0, .slice none 0 0, .slice none 0 0, .slice none 0 0, .slice none 0 0, .slice (some ⟨w.heap.size + 4, 0, none⟩) 2 3, .slice a l.length c, .slice a l.length c])
    (hexit : ∀ (wz : World) {d80 d81 : Value}, Below wr.heap.size wr wz → Q0 .normal ⟨#[.slice a l.length c, c1, .bool false, .slice (some ⟨w.heap.size + 1, 0, none⟩) 2 2, .slice (some ⟨w.heap.size + 2, 0, none⟩) 2 2, .slice (some ⟨w.heap.size + 3, 0, none⟩) 2 2, .slice (some ⟨w.heap.size + 4, 0, none⟩) 3 3, .slice (some ⟨w.heap.size + 5, 0, none⟩) 2 2, .slice (some ⟨w.heap.size + 6, 0, none⟩) 2 2, .slice (some ⟨w.heap.size + 7, 0, none⟩) 2 2, .slice (some ⟨w.heap.size + 8, 0, none⟩) 2 2, .slice (some ⟨w.heap.size + 9, 0, none⟩) 2 2, .pointer (some ⟨w.heap.size + 10, 0, none⟩), .pointer (some ⟨w.heap.size + 11, 0, none⟩), c14, .pointer (some ⟨rb, 0, none⟩), c16, c17, c18, c19, c20, c21, c22, c23, c24, c25, c26, c27, c28, c29, c30, c31, c32, c33, c34, c35, c36, c37, c38, c39, c40, c41, c42, c43, c44, c45, c46, c47, c48, c49, c50, c51, c52, c53, c54, c55, c56, c57, c58, c59, c60, c61, c62, c63, c64, c65, c66, c67, c68, c69, c70, c71, c72, c73, c74, c75, c76, c77, c78, c79, d80, d81, c82, c83, c84, c85, c86, c87, c88, c89, c90, c91, c92, c93, c94, c95, c96, c97, c98, c99, c100, c101, c102, c103, c104, c105, c106, c107, c108, c109, c110, c111, c112, c113, c114, c115, c116, c117, c118, c119, c120, c121, c122, c123, c124, c125, c126, c127, c128, c129, c130, c131, c132, c133, c134, c135, c136, c137, c138, c139, c140, c141, c142, c143, c144, c145, c146, c147, c148, c149, c150, c151, c152, c153, c154, c155, c156, c157, c158, c159, c160, c161, c162, c163, c164, c165, c166, c167, c168, c169, c170, c171, c172, c173, c174, c175, c176, c177, c178, c179, c180, c181, c182, c183, c184, c185, c186, c187, c188, c189, c190, c191, c192, c193, c194, c195, c196, c197, c198, c199, c200, c201, c202, c203, c204, c205, c206, c207, c208], []⟩ wz) :
    Code.wp Tryz.prog (regionOf Tryz.f12 17) Q0 ⟨#[.slice a l.length c, c1, .bool false, .slice (some ⟨w.heap.size + 1, 0, none⟩) 2 2, .slice (some ⟨w.heap.size + 2, 0, none⟩) 2 2, .slice (some ⟨w.heap.size + 3, 0, none⟩) 2 2, .slice (some ⟨w.heap.size + 4, 0, none⟩) 3 3, .slice (some ⟨w.heap.size + 5, 0, none⟩) 2 2, .slice (some ⟨w.heap.size + 6, 0, none⟩) 2 2, .slice (some ⟨w.heap.size + 7, 0, none⟩) 2 2, .slice (some ⟨w.heap.size + 8, 0, none⟩) 2 2, .slice (some ⟨w.heap.size + 9, 0, none⟩) 2 2, .pointer (some ⟨w.heap.size + 10, 0, none⟩), .pointer (some ⟨w.heap.size + 11, 0, none⟩), c14, .pointer (some ⟨rb, 0, none⟩), c16, c17, c18, c19, c20, c21, c22, c23, c24, c25, c26, c27, c28, c29, c30, c31, c32, c33, c34, c35, c36, c37, c38, c39, c40, c41, c42, c43, c44, c45, c46, c47, c48, c49, c50, c51, c52, c53, c54, c55, c56, c57, c58, c59, c60, c61, c62, c63, c64, c65, c66, c67, c68, c69, c70, c71, c72, c73, c74, c75, c76, c77, c78, c79, c80, c81, c82, c83, c84, c85, c86, c87, c88, c89, c90, c91, c92, c93, c94, c95, c96, c97, c98, c99, c100, c101, c102, c103, c104, c105, c106, c107, c108, c109, c110, c111, c112, c113, c114, c115, c116, c117, c118, c119, c120, c121, c122, c123, c124, c125, c126, c127, c128, c129, c130, c131, c132, c133, c134, c135, c136, c137, c138, c139, c140, c141, c142, c143, c144, c145, c146, c147, c148, c149, c150, c151, c152, c153, c154, c155, c156, c157, c158, c159, c160, c161, c162, c163, c164, c165, c166, c167, c168, c169, c170, c171, c172, c173, c174, c175, c176, c177, c178, c179, c180, c181, c182, c183, c184, c185, c186, c187, c188, c189, c190, c191, c192, c193, c194, c195, c196, c197, c198, c199, c200, c201, c202, c203, c204, c205, c206, c207, c208], []⟩ wr := by
  have HN := Lib.hid hexit
  have HR := Lib.hid hr
  have hinf : (Tryz.prog.info? 54).map (·.size) = some 36 := by kernel_rfl
  have INF := Lib.hid hinf
  have hok := mark_ok a l c false wr hb hl
  have HC := Lib.hid (reply_any (markReply a l c false) (.slice (some ⟨w.heap.size + 1, 0, none⟩) 1 2) (.slice (some ⟨w.heap.size + 5, 0, none⟩) 1 2) (.slice (some ⟨w.heap.size + 7, 0, none⟩) 1 2) (.slice (some ⟨w.heap.size + 8, 0, none⟩) 1 2) (.slice (some ⟨w.heap.size + 9, 0, none⟩) 1 2) (.slice (some ⟨w.heap.size + 3, 0, none⟩) 1 2) (.slice (some ⟨w.heap.size + 2, 0, none⟩) 1 2) (.slice none 0 0) (.slice none 0 0) (.slice none 0 0) (.slice none 0 0) (.slice none 0 0) (.slice (some ⟨w.heap.size + 4, 0, none⟩) 2 3) (.slice a l.length c) (.slice a l.length c) wr hE hok (mark_at0 a l c w wr hm.marks hb) (reply_small _ hok (mark_small a l c false hl)))
  clear hexit hr hinf hok hm hb hE
  conv => arg 2; whnf
  conv => arg 4; dsimp only
  go_wp2_with (refine wpList_load_mid rfl 54 _ rfl rb 0 rfl [.int .i64 0, .int .i64 0, .int .i64 0, .int .i64 0, .int .i64 0, .slice (some ⟨w.heap.size + 1, 0, none⟩) 1 2, .slice (some ⟨w.heap.size + 5, 0, none⟩) 1 2, .slice (some ⟨w.heap.size + 7, 0, none⟩) 1 2, .slice (some ⟨w.heap.size + 8, 0, none⟩) 1 2, .slice (some ⟨w.heap.size + 9, 0, none⟩) 1 2, .slice (some ⟨w.heap.size + 3, 0, none⟩) 1 2, .slice (some ⟨w.heap.size + 2, 0, none⟩) 1 2, .bool false, .int .i64 0, .int .u32 0, .int .i64 0, .int .u32 0, .int .u8 0, .int .u8 0, .int .u8 0, .int .u8 0, .int .u8 0, .int .u8 0, .int .i64 0, .int .i64 0, .int .i64 0, .bool false, .bool false, .slice none 0 0, .slice none 0 0, .slice none 0 0, .slice none 0 0, .slice none 0 0, .slice (some ⟨w.heap.size + 4, 0, none⟩) 2 3, .slice a l.length c, .slice a l.length c] _ HR.out Tryz.underlying54 rfl INF.out ?_)
  refine HC.out.mono ?_
  rintro e wz ⟨rfl, hb⟩
  go_wp2
  exact HN.out _ hb
set_option maxRecDepth 1000000 in
set_option maxHeartbeats 8000000 in
theorem formats_reg18_1 (a : Option Addr) (l : List UInt8) (c : Nat) (w wr : World) (rb : Nat) {c1 c14 c16 c17 c18 c19 c20 c21 c22 c23 c24 c25 c26 c27 c28 c29 c30 c31 c32 c33 c34 c35 c36 c37 c38 c39 c40 c41 c42 c43 c44 c45 c46 c47 c48 c49 c50 c51 c52 c53 c54 c55 c56 c57 c58 c59 c60 c61 c62 c63 c64 c65 c66 c67 c68 c69 c70 c71 c72 c73 c74 c75 c76 c77 c78 c79 c80 c81 c82 c83 c84 c85 c86 c87 c88 c89 c90 c91 c92 c93 c94 c95 c96 c97 c98 c99 c100 c101 c102 c103 c104 c105 c106 c107 c108 c109 c110 c111 c112 c113 c114 c115 c116 c117 c118 c119 c120 c121 c122 c123 c124 c125 c126 c127 c128 c129 c130 c131 c132 c133 c134 c135 c136 c137 c138 c139 c140 c141 c142 c143 c144 c145 c146 c147 c148 c149 c150 c151 c152 c153 c154 c155 c156 c157 c158 c159 c160 c161 c162 c163 c164 c165 c166 c167 c168 c169 c170 c171 c172 c173 c174 c175 c176 c177 c178 c179 c180 c181 c182 c183 c184 c185 c186 c187 c188 c189 c190 c191 c192 c193 c194 c195 c196 c197 c198 c199 c200 c201 c202 c203 c204 c205 c206 c207 c208 : Value} {Q0 : Exit → Act → World → Prop} (hE : Env wr) (hl : l.length ≤ 100000) (hm : Marks2 w a l c wr) (hb : Bs wr (.slice a l.length c) l) (hr : wr.rangeAt rb 0 [.int .i64 0, .int .i64 0, .int .i64 0, .int .i64 0, .int .i64 0, .slice (some ⟨w.heap.size + 1, 0, none⟩) 1 2, .slice (some ⟨w.heap.size + 5, 0, none⟩) 1 2, .slice (some ⟨w.heap.size + 7, 0, none⟩) 1 2, .slice (some ⟨w.heap.size + 8, 0, none⟩) 1 2, .slice (some ⟨w.heap.size + 9, 0, none⟩) 1 2, .slice (some ⟨w.heap.size + 3, 0, none⟩) 1 2, .slice (some ⟨w.heap.size + 2, 0, none⟩) 1 2, .bool false, .int .i64 0, .int .u32 0, .int .i64 0, .int .u32 0, .int .u8 0, .int .u8 0, .int .u8 0, .int .u8 0, .int .u8 0, .int .u8 0, .int .i64 0, .int .i64 0, .int .i64 0, .bool false, .bool false, .slice (some ⟨w.heap.size + 5, 0, none⟩) 1 2, .slice (some ⟨w.heap.size + 6, 0, none⟩) 1 2, .slice (some ⟨w.heap.size + 7, 0, none⟩) 1 2, .slice (some ⟨w.heap.size + 8, 0, none⟩) 1 2, .slice (some ⟨w.heap.size + 9, 0, none⟩) 1 2, .slice (some ⟨w.heap.size + 4, 0, none⟩) 2 3, .slice a l.length c, .slice a l.length c])
    (hexit : ∀ (wz : World) {d80 d81 : Value}, Below wr.heap.size wr wz → Q0 .normal ⟨#[.slice a l.length c, c1, .bool false, .slice (some ⟨w.heap.size + 1, 0, none⟩) 2 2, .slice (some ⟨w.heap.size + 2, 0, none⟩) 2 2, .slice (some ⟨w.heap.size + 3, 0, none⟩) 2 2, .slice (some ⟨w.heap.size + 4, 0, none⟩) 3 3, .slice (some ⟨w.heap.size + 5, 0, none⟩) 2 2, .slice (some ⟨w.heap.size + 6, 0, none⟩) 2 2, .slice (some ⟨w.heap.size + 7, 0, none⟩) 2 2, .slice (some ⟨w.heap.size + 8, 0, none⟩) 2 2, .slice (some ⟨w.heap.size + 9, 0, none⟩) 2 2, .pointer (some ⟨w.heap.size + 10, 0, none⟩), .pointer (some ⟨w.heap.size + 11, 0, none⟩), c14, .pointer (some ⟨rb, 0, none⟩), c16, c17, c18, c19, c20, c21, c22, c23, c24, c25, c26, c27, c28, c29, c30, c31, c32, c33, c34, c35, c36, c37, c38, c39, c40, c41, c42, c43, c44, c45, c46, c47, c48, c49, c50, c51, c52, c53, c54, c55, c56, c57, c58, c59, c60, c61, c62, c63, c64, c65, c66, c67, c68, c69, c70, c71, c72, c73, c74, c75, c76, c77, c78, c79, d80, d81, c82, c83, c84, c85, c86, c87, c88, c89, c90, c91, c92, c93, c94, c95, c96, c97, c98, c99, c100, c101, c102, c103, c104, c105, c106, c107, c108, c109, c110, c111, c112, c113, c114, c115, c116, c117, c118, c119, c120, c121, c122, c123, c124, c125, c126, c127, c128, c129, c130, c131, c132, c133, c134, c135, c136, c137, c138, c139, c140, c141, c142, c143, c144, c145, c146, c147, c148, c149, c150, c151, c152, c153, c154, c155, c156, c157, c158, c159, c160, c161, c162, c163, c164, c165, c166, c167, c168, c169, c170, c171, c172, c173, c174, c175, c176, c177, c178, c179, c180, c181, c182, c183, c184, c185, c186, c187, c188, c189, c190, c191, c192, c193, c194, c195, c196, c197, c198, c199, c200, c201, c202, c203, c204, c205, c206, c207, c208], []⟩ wz) :
    Code.wp Tryz.prog (regionOf Tryz.f12 17) Q0 ⟨#[.slice a l.length c, c1, .bool false, .slice (some ⟨w.heap.size + 1, 0, none⟩) 2 2, .slice (some ⟨w.heap.size + 2, 0, none⟩) 2 2, .slice (some ⟨w.heap.size + 3, 0, none⟩) 2 2, .slice (some ⟨w.heap.size + 4, 0, none⟩) 3 3, .slice (some ⟨w.heap.size + 5, 0, none⟩) 2 2, .slice (some ⟨w.heap.size + 6, 0, none⟩) 2 2, .slice (some ⟨w.heap.size + 7, 0, none⟩) 2 2, .slice (some ⟨w.heap.size + 8, 0, none⟩) 2 2, .slice (some ⟨w.heap.size + 9, 0, none⟩) 2 2, .pointer (some ⟨w.heap.size + 10, 0, none⟩), .pointer (some ⟨w.heap.size + 11, 0, none⟩), c14, .pointer (some ⟨rb, 0, none⟩), c16, c17, c18, c19, c20, c21, c22, c23, c24, c25, c26, c27, c28, c29, c30, c31, c32, c33, c34, c35, c36, c37, c38, c39, c40, c41, c42, c43, c44, c45, c46, c47, c48, c49, c50, c51, c52, c53, c54, c55, c56, c57, c58, c59, c60, c61, c62, c63, c64, c65, c66, c67, c68, c69, c70, c71, c72, c73, c74, c75, c76, c77, c78, c79, c80, c81, c82, c83, c84, c85, c86, c87, c88, c89, c90, c91, c92, c93, c94, c95, c96, c97, c98, c99, c100, c101, c102, c103, c104, c105, c106, c107, c108, c109, c110, c111, c112, c113, c114, c115, c116, c117, c118, c119, c120, c121, c122, c123, c124, c125, c126, c127, c128, c129, c130, c131, c132, c133, c134, c135, c136, c137, c138, c139, c140, c141, c142, c143, c144, c145, c146, c147, c148, c149, c150, c151, c152, c153, c154, c155, c156, c157, c158, c159, c160, c161, c162, c163, c164, c165, c166, c167, c168, c169, c170, c171, c172, c173, c174, c175, c176, c177, c178, c179, c180, c181, c182, c183, c184, c185, c186, c187, c188, c189, c190, c191, c192, c193, c194, c195, c196, c197, c198, c199, c200, c201, c202, c203, c204, c205, c206, c207, c208], []⟩ wr := by
  have HN := Lib.hid hexit
  have HR := Lib.hid hr
  have hinf : (Tryz.prog.info? 54).map (·.size) = some 36 := by kernel_rfl
  have INF := Lib.hid hinf
  have hok := mark_ok a l c true wr hb hl
  have HC := Lib.hid (reply_any (markReply a l c true) (.slice (some ⟨w.heap.size + 1, 0, none⟩) 1 2) (.slice (some ⟨w.heap.size + 5, 0, none⟩) 1 2) (.slice (some ⟨w.heap.size + 7, 0, none⟩) 1 2) (.slice (some ⟨w.heap.size + 8, 0, none⟩) 1 2) (.slice (some ⟨w.heap.size + 9, 0, none⟩) 1 2) (.slice (some ⟨w.heap.size + 3, 0, none⟩) 1 2) (.slice (some ⟨w.heap.size + 2, 0, none⟩) 1 2) (.slice (some ⟨w.heap.size + 5, 0, none⟩) 1 2) (.slice (some ⟨w.heap.size + 6, 0, none⟩) 1 2) (.slice (some ⟨w.heap.size + 7, 0, none⟩) 1 2) (.slice (some ⟨w.heap.size + 8, 0, none⟩) 1 2) (.slice (some ⟨w.heap.size + 9, 0, none⟩) 1 2) (.slice (some ⟨w.heap.size + 4, 0, none⟩) 2 3) (.slice a l.length c) (.slice a l.length c) wr hE hok (mark_at1 a l c w wr hm.marks hb) (reply_small _ hok (mark_small a l c true hl)))
  clear hexit hr hinf hok hm hb hE
  conv => arg 2; whnf
  conv => arg 4; dsimp only
  go_wp2_with (refine wpList_load_mid rfl 54 _ rfl rb 0 rfl [.int .i64 0, .int .i64 0, .int .i64 0, .int .i64 0, .int .i64 0, .slice (some ⟨w.heap.size + 1, 0, none⟩) 1 2, .slice (some ⟨w.heap.size + 5, 0, none⟩) 1 2, .slice (some ⟨w.heap.size + 7, 0, none⟩) 1 2, .slice (some ⟨w.heap.size + 8, 0, none⟩) 1 2, .slice (some ⟨w.heap.size + 9, 0, none⟩) 1 2, .slice (some ⟨w.heap.size + 3, 0, none⟩) 1 2, .slice (some ⟨w.heap.size + 2, 0, none⟩) 1 2, .bool false, .int .i64 0, .int .u32 0, .int .i64 0, .int .u32 0, .int .u8 0, .int .u8 0, .int .u8 0, .int .u8 0, .int .u8 0, .int .u8 0, .int .i64 0, .int .i64 0, .int .i64 0, .bool false, .bool false, .slice (some ⟨w.heap.size + 5, 0, none⟩) 1 2, .slice (some ⟨w.heap.size + 6, 0, none⟩) 1 2, .slice (some ⟨w.heap.size + 7, 0, none⟩) 1 2, .slice (some ⟨w.heap.size + 8, 0, none⟩) 1 2, .slice (some ⟨w.heap.size + 9, 0, none⟩) 1 2, .slice (some ⟨w.heap.size + 4, 0, none⟩) 2 3, .slice a l.length c, .slice a l.length c] _ HR.out Tryz.underlying54 rfl INF.out ?_)
  refine HC.out.mono ?_
  rintro e wz ⟨rfl, hb⟩
  go_wp2
  exact HN.out _ hb
end Go.Proofs.YtmnkdnpjcfmjgaaGreatDoor
