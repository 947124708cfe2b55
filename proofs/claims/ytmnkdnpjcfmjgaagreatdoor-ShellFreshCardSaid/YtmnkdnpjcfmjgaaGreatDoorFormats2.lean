/- Package weftlaw20: formats, joined. -/
import Derived.Test.YtmnkdnpjcfmjgaaGreatDoorFormats
import Derived.BigQuiet
import Derived.Deep.DeepCutAuto
namespace Go.Proofs.YtmnkdnpjcfmjgaaGreatDoor
open Go.RowKit

set_option maxRecDepth 1000000 in
set_option maxHeartbeats 8000000 in
theorem formats_reg19 (a : Option Addr) (l : List UInt8) (c : Nat) (w wr : World) {c1 c14 c15 c16 c17 c18 c19 c20 c21 c22 c23 c24 c25 c26 c27 c28 c29 c30 c31 c32 c33 c34 c35 c36 c37 c38 c39 c40 c41 c42 c43 c44 c45 c46 c47 c48 c49 c50 c51 c52 c53 c54 c55 c56 c57 c58 c59 c60 c61 c62 c63 c64 c65 c66 c67 c68 c69 c70 c71 c72 c73 c74 c75 c76 c77 c78 c79 c80 c81 c82 c83 c84 c85 c86 c87 c88 c89 c90 c91 c92 c93 c94 c95 c96 c97 c98 c99 c100 c101 c102 c103 c104 c105 c106 c107 c108 c109 c110 c111 c112 c113 c114 c115 c116 c117 c118 c119 c120 c121 c122 c123 c124 c125 c126 c127 c128 c129 c130 c131 c132 c133 c134 c135 c136 c137 c138 c139 c140 c141 c142 c143 c144 c145 c146 c147 c148 c149 c150 c151 c152 c153 c154 c155 c156 c157 c158 c159 c160 c161 c162 c163 c164 c165 c166 c167 c168 c169 c170 c171 c172 c173 c174 c175 c176 c177 c178 c179 c180 c181 c182 c183 c184 c185 c186 c187 c188 c189 c190 c191 c192 c193 c194 c195 c196 c197 c198 c199 c200 c201 c202 c203 c204 c205 c206 c207 c208 : Value} {Q0 : Exit → Act → World → Prop} (hm : Marks w a l c wr)
    (hexit : ∀ (wz : World) {d82 d83 d84 d85 d86 d87 d88 d89 d90 d91 d92 d93 d94 d95 d96 d97 d98 d99 d100 d101 d102 d103 d104 d105 d106 d107 d108 d109 d110 d111 d112 d113 d114 d115 d116 d117 d118 d119 d120 d121 d122 d123 d124 d125 d126 d127 : Value}, Below wr.heap.size wr wz → Q0 .normal ⟨#[.slice a l.length c, c1, .bool false, .slice (some ⟨w.heap.size + 1, 0, none⟩) 2 2, .slice (some ⟨w.heap.size + 2, 0, none⟩) 2 2, .slice (some ⟨w.heap.size + 3, 0, none⟩) 2 2, .slice (some ⟨w.heap.size + 4, 0, none⟩) 3 3, .slice (some ⟨w.heap.size + 5, 0, none⟩) 2 2, .slice (some ⟨w.heap.size + 6, 0, none⟩) 2 2, .slice (some ⟨w.heap.size + 7, 0, none⟩) 2 2, .slice (some ⟨w.heap.size + 8, 0, none⟩) 2 2, .slice (some ⟨w.heap.size + 9, 0, none⟩) 2 2, .pointer (some ⟨w.heap.size + 10, 0, none⟩), .pointer (some ⟨w.heap.size + 11, 0, none⟩), c14, c15, c16, c17, c18, c19, c20, c21, c22, c23, c24, c25, c26, c27, c28, c29, c30, c31, c32, c33, c34, c35, c36, c37, c38, c39, c40, c41, c42, c43, c44, c45, c46, c47, c48, c49, c50, c51, c52, c53, c54, c55, c56, c57, c58, c59, c60, c61, c62, c63, c64, c65, c66, c67, c68, c69, c70, c71, c72, c73, c74, c75, c76, c77, c78, c79, c80, c81, d82, d83, d84, d85, d86, d87, d88, d89, d90, d91, d92, d93, d94, d95, d96, d97, d98, d99, d100, d101, d102, d103, d104, d105, d106, d107, d108, d109, d110, d111, d112, d113, d114, d115, d116, d117, d118, d119, d120, d121, d122, d123, d124, d125, d126, d127, .bool false, c129, c130, c131, c132, c133, c134, c135, c136, c137, c138, c139, c140, c141, c142, c143, c144, c145, c146, c147, c148, c149, c150, c151, c152, c153, c154, c155, c156, c157, c158, c159, c160, c161, c162, c163, c164, c165, c166, c167, c168, c169, c170, c171, c172, c173, c174, c175, c176, c177, c178, c179, c180, c181, c182, c183, c184, c185, c186, c187, c188, c189, c190, c191, c192, c193, c194, c195, c196, c197, c198, c199, c200, c201, c202, c203, c204, c205, c206, c207, c208], []⟩ wz) :
    Code.wp Tryz.prog (regionOf Tryz.f12 19) Q0 ⟨#[.slice a l.length c, c1, .bool false, .slice (some ⟨w.heap.size + 1, 0, none⟩) 2 2, .slice (some ⟨w.heap.size + 2, 0, none⟩) 2 2, .slice (some ⟨w.heap.size + 3, 0, none⟩) 2 2, .slice (some ⟨w.heap.size + 4, 0, none⟩) 3 3, .slice (some ⟨w.heap.size + 5, 0, none⟩) 2 2, .slice (some ⟨w.heap.size + 6, 0, none⟩) 2 2, .slice (some ⟨w.heap.size + 7, 0, none⟩) 2 2, .slice (some ⟨w.heap.size + 8, 0, none⟩) 2 2, .slice (some ⟨w.heap.size + 9, 0, none⟩) 2 2, .pointer (some ⟨w.heap.size + 10, 0, none⟩), .pointer (some ⟨w.heap.size + 11, 0, none⟩), c14, c15, c16, c17, c18, c19, c20, c21, c22, c23, c24, c25, c26, c27, c28, c29, c30, c31, c32, c33, c34, c35, c36, c37, c38, c39, c40, c41, c42, c43, c44, c45, c46, c47, c48, c49, c50, c51, c52, c53, c54, c55, c56, c57, c58, c59, c60, c61, c62, c63, c64, c65, c66, c67, c68, c69, c70, c71, c72, c73, c74, c75, c76, c77, c78, c79, c80, c81, c82, c83, c84, c85, c86, c87, c88, c89, c90, c91, c92, c93, c94, c95, c96, c97, c98, c99, c100, c101, c102, c103, c104, c105, c106, c107, c108, c109, c110, c111, c112, c113, c114, c115, c116, c117, c118, c119, c120, c121, c122, c123, c124, c125, c126, c127, c128, c129, c130, c131, c132, c133, c134, c135, c136, c137, c138, c139, c140, c141, c142, c143, c144, c145, c146, c147, c148, c149, c150, c151, c152, c153, c154, c155, c156, c157, c158, c159, c160, c161, c162, c163, c164, c165, c166, c167, c168, c169, c170, c171, c172, c173, c174, c175, c176, c177, c178, c179, c180, c181, c182, c183, c184, c185, c186, c187, c188, c189, c190, c191, c192, c193, c194, c195, c196, c197, c198, c199, c200, c201, c202, c203, c204, c205, c206, c207, c208], []⟩ wr := by
  have HN := Lib.hid hexit
  have hsz := hm.size
  have f1_7 : wr.cell? ⟨w.heap.size + 1, 7, none⟩ = some (.slice (some ⟨w.heap.size, 0, none⟩) 1 1) := by simp [World.cell?, hm.h1]
  have f2_0 : wr.cell? ⟨w.heap.size + 2, 0, none⟩ = some (.int .u32 5) := by simp [World.cell?, hm.h2]
  have f2_2 : wr.cell? ⟨w.heap.size + 2, 2, none⟩ = some (.int .u32 6) := by simp [World.cell?, hm.h2]
  have f2_3 : wr.cell? ⟨w.heap.size + 2, 3, none⟩ = some (.slice none 0 0) := by simp [World.cell?, hm.h2]
  have f4_0 : wr.cell? ⟨w.heap.size + 4, 0, none⟩ = some (.int .i64 4) := by simp [World.cell?, hm.h4]
  have f4_1 : wr.cell? ⟨w.heap.size + 4, 1, none⟩ = some (.int .i64 5) := by simp [World.cell?, hm.h4]
  have f4_2 : wr.cell? ⟨w.heap.size + 4, 2, none⟩ = some (.int .i64 6) := by simp [World.cell?, hm.h4]
  have HM := Lib.hid hm
  clear hexit hm
  conv => arg 2; whnf
  conv => arg 4; dsimp only
  have hb1 : Bs (wr.alloc (.cells #[.int .u8 1] 5)) (.slice (some ⟨w.heap.size, 0, none⟩) 1 1) [1] := by
    have h0 := (HM.out.grow ((Below.refl wr.heap.size wr).alloc (Nat.le_refl _) (.cells #[.int .u8 1] 5))).h0
    refine ⟨_, 1, rfl, by decide, fun _ => ⟨w.heap.size, 0, rfl, by simp; omega, fun j u hj => ?_⟩⟩
    obtain rfl : j = 0 := by have := (List.getElem?_eq_some_iff.1 hj).1; simpa using this
    obtain rfl : 1 = u := by simpa using hj
    rw [Nat.add_zero] at h0
    rw [cell_of_row _ _ _ _ _ _ h0]; rfl
  have hb2 := bs_new wr wr.heap.size [1] rfl (by decide) (cs := #[.int .u8 1]) rfl
  have hbw0 : ∀ n, Below wr.heap.size wr ((wr.alloc (.cells #[.int .u8 1] 5)).drewN n) := fun n => below_drewN ((Below.refl wr.heap.size wr).alloc (Nat.le_refl _) _) n
  have HB1 := Lib.hid hb1
  have HB2 := Lib.hid hb2
  have HBW := Lib.hid hbw0
  clear hb1 hb2 hbw0
  go_wp2_with fail
  refine (known (same_any _ _ [1] [1] _ HB1.out HB2.out) true (by decide)).mono ?_
  rintro e w1 ⟨rfl, n, rfl⟩
  have hbw := HBW.out n
  generalize (wr.alloc (.cells #[.int .u8 1] 5)).drewN n = W1 at hbw ⊢
  clear HB1 HB2 HBW f1_7 f2_0 f2_2 f2_3 f4_0 f4_1 f4_2
  have hm1 := HM.out.grow hbw
  have f1_7 : W1.cell? ⟨w.heap.size + 1, 7, none⟩ = some (.slice (some ⟨w.heap.size, 0, none⟩) 1 1) := by simp [World.cell?, hm1.h1]
  have f2_0 : W1.cell? ⟨w.heap.size + 2, 0, none⟩ = some (.int .u32 5) := by simp [World.cell?, hm1.h2]
  have f2_2 : W1.cell? ⟨w.heap.size + 2, 2, none⟩ = some (.int .u32 6) := by simp [World.cell?, hm1.h2]
  have f2_3 : W1.cell? ⟨w.heap.size + 2, 3, none⟩ = some (.slice none 0 0) := by simp [World.cell?, hm1.h2]
  have f4_0 : W1.cell? ⟨w.heap.size + 4, 0, none⟩ = some (.int .i64 4) := by simp [World.cell?, hm1.h4]
  have f4_1 : W1.cell? ⟨w.heap.size + 4, 1, none⟩ = some (.int .i64 5) := by simp [World.cell?, hm1.h4]
  have f4_2 : W1.cell? ⟨w.heap.size + 4, 2, none⟩ = some (.int .i64 6) := by simp [World.cell?, hm1.h4]
  have HBW := Lib.hid hbw
  clear hm1 hbw
  go_wp2
  exact HN.out _ HBW.out
set_option maxRecDepth 1000000 in
set_option maxHeartbeats 8000000 in
theorem formats_reg21 (a : Option Addr) (l : List UInt8) (c : Nat) (w wr : World) {c1 c14 c15 c16 c17 c18 c19 c20 c21 c22 c23 c24 c25 c26 c27 c28 c29 c30 c31 c32 c33 c34 c35 c36 c37 c38 c39 c40 c41 c42 c43 c44 c45 c46 c47 c48 c49 c50 c51 c52 c53 c54 c55 c56 c57 c58 c59 c60 c61 c62 c63 c64 c65 c66 c67 c68 c69 c70 c71 c72 c73 c74 c75 c76 c77 c78 c79 c80 c81 c82 c83 c84 c85 c86 c87 c88 c89 c90 c91 c92 c93 c94 c95 c96 c97 c98 c99 c100 c101 c102 c103 c104 c105 c106 c107 c108 c109 c110 c111 c112 c113 c114 c115 c116 c117 c118 c119 c120 c121 c122 c123 c124 c125 c126 c127 c128 c129 c130 c131 c132 c133 c134 c135 c136 c137 c138 c139 c140 c141 c142 c143 c144 c145 c146 c147 c148 c149 c150 c151 c152 c153 c154 c155 c156 c157 c158 c159 c160 c161 c162 c163 c164 c165 c166 c167 c168 c169 c170 c171 c172 c173 c174 c175 c176 c177 c178 c179 c180 c181 c182 c183 c184 c185 c186 c187 c188 c189 c190 c191 c192 c193 c194 c195 c196 c197 c198 c199 c200 c201 c202 c203 c204 c205 c206 c207 c208 : Value} {Q0 : Exit → Act → World → Prop} (hm : Marks w a l c wr)
    (hexit : ∀ (wz : World) {d129 d130 d131 d132 d133 d134 d135 d136 d137 d138 d139 d140 d141 d142 d143 d144 d145 d146 d147 d148 d149 d150 d151 d152 d153 d154 d155 d156 d157 d158 d159 d160 d161 d162 d163 d164 d165 d166 d167 : Value}, wz = wr → Q0 .normal ⟨#[.slice a l.length c, c1, .bool false, .slice (some ⟨w.heap.size + 1, 0, none⟩) 2 2, .slice (some ⟨w.heap.size + 2, 0, none⟩) 2 2, .slice (some ⟨w.heap.size + 3, 0, none⟩) 2 2, .slice (some ⟨w.heap.size + 4, 0, none⟩) 3 3, .slice (some ⟨w.heap.size + 5, 0, none⟩) 2 2, .slice (some ⟨w.heap.size + 6, 0, none⟩) 2 2, .slice (some ⟨w.heap.size + 7, 0, none⟩) 2 2, .slice (some ⟨w.heap.size + 8, 0, none⟩) 2 2, .slice (some ⟨w.heap.size + 9, 0, none⟩) 2 2, .pointer (some ⟨w.heap.size + 10, 0, none⟩), .pointer (some ⟨w.heap.size + 11, 0, none⟩), c14, c15, c16, c17, c18, c19, c20, c21, c22, c23, c24, c25, c26, c27, c28, c29, c30, c31, c32, c33, c34, c35, c36, c37, c38, c39, c40, c41, c42, c43, c44, c45, c46, c47, c48, c49, c50, c51, c52, c53, c54, c55, c56, c57, c58, c59, c60, c61, c62, c63, c64, c65, c66, c67, c68, c69, c70, c71, c72, c73, c74, c75, c76, c77, c78, c79, c80, c81, c82, c83, c84, c85, c86, c87, c88, c89, c90, c91, c92, c93, c94, c95, c96, c97, c98, c99, c100, c101, c102, c103, c104, c105, c106, c107, c108, c109, c110, c111, c112, c113, c114, c115, c116, c117, c118, c119, c120, c121, c122, c123, c124, c125, c126, c127, c128, d129, d130, d131, d132, d133, d134, d135, d136, d137, d138, d139, d140, d141, d142, d143, d144, d145, d146, d147, d148, d149, d150, d151, d152, d153, d154, d155, d156, d157, d158, d159, d160, d161, d162, d163, d164, d165, d166, d167, .bool false, c169, c170, c171, c172, c173, c174, c175, c176, c177, c178, c179, c180, c181, c182, c183, c184, c185, c186, c187, c188, c189, c190, c191, c192, c193, c194, c195, c196, c197, c198, c199, c200, c201, c202, c203, c204, c205, c206, c207, c208], []⟩ wz) :
    Code.wp Tryz.prog (regionOf Tryz.f12 21) Q0 ⟨#[.slice a l.length c, c1, .bool false, .slice (some ⟨w.heap.size + 1, 0, none⟩) 2 2, .slice (some ⟨w.heap.size + 2, 0, none⟩) 2 2, .slice (some ⟨w.heap.size + 3, 0, none⟩) 2 2, .slice (some ⟨w.heap.size + 4, 0, none⟩) 3 3, .slice (some ⟨w.heap.size + 5, 0, none⟩) 2 2, .slice (some ⟨w.heap.size + 6, 0, none⟩) 2 2, .slice (some ⟨w.heap.size + 7, 0, none⟩) 2 2, .slice (some ⟨w.heap.size + 8, 0, none⟩) 2 2, .slice (some ⟨w.heap.size + 9, 0, none⟩) 2 2, .pointer (some ⟨w.heap.size + 10, 0, none⟩), .pointer (some ⟨w.heap.size + 11, 0, none⟩), c14, c15, c16, c17, c18, c19, c20, c21, c22, c23, c24, c25, c26, c27, c28, c29, c30, c31, c32, c33, c34, c35, c36, c37, c38, c39, c40, c41, c42, c43, c44, c45, c46, c47, c48, c49, c50, c51, c52, c53, c54, c55, c56, c57, c58, c59, c60, c61, c62, c63, c64, c65, c66, c67, c68, c69, c70, c71, c72, c73, c74, c75, c76, c77, c78, c79, c80, c81, c82, c83, c84, c85, c86, c87, c88, c89, c90, c91, c92, c93, c94, c95, c96, c97, c98, c99, c100, c101, c102, c103, c104, c105, c106, c107, c108, c109, c110, c111, c112, c113, c114, c115, c116, c117, c118, c119, c120, c121, c122, c123, c124, c125, c126, c127, c128, c129, c130, c131, c132, c133, c134, c135, c136, c137, c138, c139, c140, c141, c142, c143, c144, c145, c146, c147, c148, c149, c150, c151, c152, c153, c154, c155, c156, c157, c158, c159, c160, c161, c162, c163, c164, c165, c166, c167, c168, c169, c170, c171, c172, c173, c174, c175, c176, c177, c178, c179, c180, c181, c182, c183, c184, c185, c186, c187, c188, c189, c190, c191, c192, c193, c194, c195, c196, c197, c198, c199, c200, c201, c202, c203, c204, c205, c206, c207, c208], []⟩ wr := by
  have HN := Lib.hid hexit
  have f3_0 : wr.cell? ⟨w.heap.size + 3, 0, none⟩ = some (.string ⟨#[97]⟩) := by simp [World.cell?, hm.h3]
  have f3_1 : wr.cell? ⟨w.heap.size + 3, 1, none⟩ = some (.int .u32 5) := by simp [World.cell?, hm.h3]
  have f3_2 : wr.cell? ⟨w.heap.size + 3, 2, none⟩ = some (.string ⟨#[98]⟩) := by simp [World.cell?, hm.h3]
  have f3_3 : wr.cell? ⟨w.heap.size + 3, 3, none⟩ = some (.int .u32 6) := by simp [World.cell?, hm.h3]
  have f5_0 : wr.cell? ⟨w.heap.size + 5, 0, none⟩ = some (.int .i64 1) := by simp [World.cell?, hm.h5]
  have f5_1 : wr.cell? ⟨w.heap.size + 5, 1, none⟩ = some (.int .u32 0) := by simp [World.cell?, hm.h5]
  have f5_2 : wr.cell? ⟨w.heap.size + 5, 2, none⟩ = some (.int .i64 0) := by simp [World.cell?, hm.h5]
  have f5_3 : wr.cell? ⟨w.heap.size + 5, 3, none⟩ = some (.int .u32 0) := by simp [World.cell?, hm.h5]
  have f5_4 : wr.cell? ⟨w.heap.size + 5, 4, none⟩ = some (.int .u8 0) := by simp [World.cell?, hm.h5]
  have f5_5 : wr.cell? ⟨w.heap.size + 5, 5, none⟩ = some (.int .u8 0) := by simp [World.cell?, hm.h5]
  have f5_6 : wr.cell? ⟨w.heap.size + 5, 6, none⟩ = some (.int .u8 0) := by simp [World.cell?, hm.h5]
  have f5_7 : wr.cell? ⟨w.heap.size + 5, 7, none⟩ = some (.int .u8 0) := by simp [World.cell?, hm.h5]
  have f5_8 : wr.cell? ⟨w.heap.size + 5, 8, none⟩ = some (.int .u8 0) := by simp [World.cell?, hm.h5]
  have f5_9 : wr.cell? ⟨w.heap.size + 5, 9, none⟩ = some (.int .u8 0) := by simp [World.cell?, hm.h5]
  have f5_10 : wr.cell? ⟨w.heap.size + 5, 10, none⟩ = some (.int .i64 0) := by simp [World.cell?, hm.h5]
  have f5_11 : wr.cell? ⟨w.heap.size + 5, 11, none⟩ = some (.int .i64 0) := by simp [World.cell?, hm.h5]
  have f5_12 : wr.cell? ⟨w.heap.size + 5, 12, none⟩ = some (.int .i64 2) := by simp [World.cell?, hm.h5]
  have f5_13 : wr.cell? ⟨w.heap.size + 5, 13, none⟩ = some (.int .u32 0) := by simp [World.cell?, hm.h5]
  have f5_14 : wr.cell? ⟨w.heap.size + 5, 14, none⟩ = some (.int .i64 0) := by simp [World.cell?, hm.h5]
  have f5_15 : wr.cell? ⟨w.heap.size + 5, 15, none⟩ = some (.int .u32 0) := by simp [World.cell?, hm.h5]
  have f5_16 : wr.cell? ⟨w.heap.size + 5, 16, none⟩ = some (.int .u8 0) := by simp [World.cell?, hm.h5]
  have f5_17 : wr.cell? ⟨w.heap.size + 5, 17, none⟩ = some (.int .u8 0) := by simp [World.cell?, hm.h5]
  have f5_18 : wr.cell? ⟨w.heap.size + 5, 18, none⟩ = some (.int .u8 0) := by simp [World.cell?, hm.h5]
  have f5_19 : wr.cell? ⟨w.heap.size + 5, 19, none⟩ = some (.int .u8 0) := by simp [World.cell?, hm.h5]
  have f5_20 : wr.cell? ⟨w.heap.size + 5, 20, none⟩ = some (.int .u8 0) := by simp [World.cell?, hm.h5]
  have f5_21 : wr.cell? ⟨w.heap.size + 5, 21, none⟩ = some (.int .u8 0) := by simp [World.cell?, hm.h5]
  have f5_22 : wr.cell? ⟨w.heap.size + 5, 22, none⟩ = some (.int .i64 0) := by simp [World.cell?, hm.h5]
  have f5_23 : wr.cell? ⟨w.heap.size + 5, 23, none⟩ = some (.int .i64 0) := by simp [World.cell?, hm.h5]
  have f6_1 : wr.cell? ⟨w.heap.size + 6, 1, none⟩ = some (.int .i64 1) := by simp [World.cell?, hm.h6]
  have f6_3 : wr.cell? ⟨w.heap.size + 6, 3, none⟩ = some (.int .i64 2) := by simp [World.cell?, hm.h6]
  clear hexit hm
  conv => arg 2; whnf
  conv => arg 4; dsimp only
  have hmac : ∀ W : World, (Op.equalIn 9999 44 (.agg #[.int .u8 0, .int .u8 0, .int .u8 0, .int .u8 0, .int .u8 0, .int .u8 0]) (.agg #[.int .u8 0, .int .u8 0, .int .u8 0, .int .u8 0, .int .u8 0, .int .u8 0])).run Tryz.prog W = .ok true W := fun W => mac_in ⟨0, 0, 0, 0, 0, 0⟩ ⟨0, 0, 0, 0, 0, 0⟩ W
  go_wp2
  exact HN.out _ rfl
set_option maxRecDepth 1000000 in
set_option maxHeartbeats 8000000 in
theorem formats_reg23 (a : Option Addr) (l : List UInt8) (c : Nat) (w wr : World) {c1 c14 c15 c16 c17 c18 c19 c20 c21 c22 c23 c24 c25 c26 c27 c28 c29 c30 c31 c32 c33 c34 c35 c36 c37 c38 c39 c40 c41 c42 c43 c44 c45 c46 c47 c48 c49 c50 c51 c52 c53 c54 c55 c56 c57 c58 c59 c60 c61 c62 c63 c64 c65 c66 c67 c68 c69 c70 c71 c72 c73 c74 c75 c76 c77 c78 c79 c80 c81 c82 c83 c84 c85 c86 c87 c88 c89 c90 c91 c92 c93 c94 c95 c96 c97 c98 c99 c100 c101 c102 c103 c104 c105 c106 c107 c108 c109 c110 c111 c112 c113 c114 c115 c116 c117 c118 c119 c120 c121 c122 c123 c124 c125 c126 c127 c128 c129 c130 c131 c132 c133 c134 c135 c136 c137 c138 c139 c140 c141 c142 c143 c144 c145 c146 c147 c148 c149 c150 c151 c152 c153 c154 c155 c156 c157 c158 c159 c160 c161 c162 c163 c164 c165 c166 c167 c168 c169 c170 c171 c172 c173 c174 c175 c176 c177 c178 c179 c180 c181 c182 c183 c184 c185 c186 c187 c188 c189 c190 c191 c192 c193 c194 c195 c196 c197 c198 c199 c200 c201 c202 c203 c204 c205 c206 c207 c208 : Value} {Q0 : Exit → Act → World → Prop} (hm : Marks w a l c wr)
    (hexit : ∀ (wz : World) {d169 d170 d171 d172 d173 d174 d175 d176 d177 d178 d179 d180 d181 d182 d183 d184 d185 d186 d187 d188 d189 d190 d191 d192 d193 d194 d195 d196 d197 d198 d199 d200 d201 d202 d203 d204 d205 d206 d207 d208 : Value}, wz = wr → Q0 .normal ⟨#[.slice a l.length c, c1, .bool true, .slice (some ⟨w.heap.size + 1, 0, none⟩) 2 2, .slice (some ⟨w.heap.size + 2, 0, none⟩) 2 2, .slice (some ⟨w.heap.size + 3, 0, none⟩) 2 2, .slice (some ⟨w.heap.size + 4, 0, none⟩) 3 3, .slice (some ⟨w.heap.size + 5, 0, none⟩) 2 2, .slice (some ⟨w.heap.size + 6, 0, none⟩) 2 2, .slice (some ⟨w.heap.size + 7, 0, none⟩) 2 2, .slice (some ⟨w.heap.size + 8, 0, none⟩) 2 2, .slice (some ⟨w.heap.size + 9, 0, none⟩) 2 2, .pointer (some ⟨w.heap.size + 10, 0, none⟩), .pointer (some ⟨w.heap.size + 11, 0, none⟩), c14, c15, c16, c17, c18, c19, c20, c21, c22, c23, c24, c25, c26, c27, c28, c29, c30, c31, c32, c33, c34, c35, c36, c37, c38, c39, c40, c41, c42, c43, c44, c45, c46, c47, c48, c49, c50, c51, c52, c53, c54, c55, c56, c57, c58, c59, c60, c61, c62, c63, c64, c65, c66, c67, c68, c69, c70, c71, c72, c73, c74, c75, c76, c77, c78, c79, c80, c81, c82, c83, c84, c85, c86, c87, c88, c89, c90, c91, c92, c93, c94, c95, c96, c97, c98, c99, c100, c101, c102, c103, c104, c105, c106, c107, c108, c109, c110, c111, c112, c113, c114, c115, c116, c117, c118, c119, c120, c121, c122, c123, c124, c125, c126, c127, c128, c129, c130, c131, c132, c133, c134, c135, c136, c137, c138, c139, c140, c141, c142, c143, c144, c145, c146, c147, c148, c149, c150, c151, c152, c153, c154, c155, c156, c157, c158, c159, c160, c161, c162, c163, c164, c165, c166, c167, c168, d169, d170, d171, d172, d173, d174, d175, d176, d177, d178, d179, d180, d181, d182, d183, d184, d185, d186, d187, d188, d189, d190, d191, d192, d193, d194, d195, d196, d197, d198, d199, d200, d201, d202, d203, d204, d205, d206, d207, d208], []⟩ wz) :
    Code.wp Tryz.prog (regionOf Tryz.f12 23) Q0 ⟨#[.slice a l.length c, c1, .bool false, .slice (some ⟨w.heap.size + 1, 0, none⟩) 2 2, .slice (some ⟨w.heap.size + 2, 0, none⟩) 2 2, .slice (some ⟨w.heap.size + 3, 0, none⟩) 2 2, .slice (some ⟨w.heap.size + 4, 0, none⟩) 3 3, .slice (some ⟨w.heap.size + 5, 0, none⟩) 2 2, .slice (some ⟨w.heap.size + 6, 0, none⟩) 2 2, .slice (some ⟨w.heap.size + 7, 0, none⟩) 2 2, .slice (some ⟨w.heap.size + 8, 0, none⟩) 2 2, .slice (some ⟨w.heap.size + 9, 0, none⟩) 2 2, .pointer (some ⟨w.heap.size + 10, 0, none⟩), .pointer (some ⟨w.heap.size + 11, 0, none⟩), c14, c15, c16, c17, c18, c19, c20, c21, c22, c23, c24, c25, c26, c27, c28, c29, c30, c31, c32, c33, c34, c35, c36, c37, c38, c39, c40, c41, c42, c43, c44, c45, c46, c47, c48, c49, c50, c51, c52, c53, c54, c55, c56, c57, c58, c59, c60, c61, c62, c63, c64, c65, c66, c67, c68, c69, c70, c71, c72, c73, c74, c75, c76, c77, c78, c79, c80, c81, c82, c83, c84, c85, c86, c87, c88, c89, c90, c91, c92, c93, c94, c95, c96, c97, c98, c99, c100, c101, c102, c103, c104, c105, c106, c107, c108, c109, c110, c111, c112, c113, c114, c115, c116, c117, c118, c119, c120, c121, c122, c123, c124, c125, c126, c127, c128, c129, c130, c131, c132, c133, c134, c135, c136, c137, c138, c139, c140, c141, c142, c143, c144, c145, c146, c147, c148, c149, c150, c151, c152, c153, c154, c155, c156, c157, c158, c159, c160, c161, c162, c163, c164, c165, c166, c167, c168, c169, c170, c171, c172, c173, c174, c175, c176, c177, c178, c179, c180, c181, c182, c183, c184, c185, c186, c187, c188, c189, c190, c191, c192, c193, c194, c195, c196, c197, c198, c199, c200, c201, c202, c203, c204, c205, c206, c207, c208], []⟩ wr := by
  have HN := Lib.hid hexit
  have f7_2 : wr.cell? ⟨w.heap.size + 7, 2, none⟩ = some (.int .u32 1) := by simp [World.cell?, hm.h7]
  have f7_4 : wr.cell? ⟨w.heap.size + 7, 4, none⟩ = some (.int .u32 0) := by simp [World.cell?, hm.h7]
  have f7_5 : wr.cell? ⟨w.heap.size + 7, 5, none⟩ = some (.int .i64 0) := by simp [World.cell?, hm.h7]
  have f7_6 : wr.cell? ⟨w.heap.size + 7, 6, none⟩ = some (.int .u32 2) := by simp [World.cell?, hm.h7]
  have f7_7 : wr.cell? ⟨w.heap.size + 7, 7, none⟩ = some (.bool false) := by simp [World.cell?, hm.h7]
  have f8_0 : wr.cell? ⟨w.heap.size + 8, 0, none⟩ = some (.int .u32 1) := by simp [World.cell?, hm.h8]
  have f8_7 : wr.cell? ⟨w.heap.size + 8, 7, none⟩ = some (.int .u32 2) := by simp [World.cell?, hm.h8]
  have f8_8 : wr.cell? ⟨w.heap.size + 8, 8, none⟩ = some (.int .u8 0) := by simp [World.cell?, hm.h8]
  have f8_9 : wr.cell? ⟨w.heap.size + 8, 9, none⟩ = some (.int .u8 0) := by simp [World.cell?, hm.h8]
  have f8_10 : wr.cell? ⟨w.heap.size + 8, 10, none⟩ = some (.int .u8 0) := by simp [World.cell?, hm.h8]
  have f8_11 : wr.cell? ⟨w.heap.size + 8, 11, none⟩ = some (.int .u8 0) := by simp [World.cell?, hm.h8]
  have f8_12 : wr.cell? ⟨w.heap.size + 8, 12, none⟩ = some (.int .u8 0) := by simp [World.cell?, hm.h8]
  have f8_13 : wr.cell? ⟨w.heap.size + 8, 13, none⟩ = some (.int .u8 0) := by simp [World.cell?, hm.h8]
  have f9_6 : wr.cell? ⟨w.heap.size + 9, 6, none⟩ = some (.int .u32 1) := by simp [World.cell?, hm.h9]
  have f9_7 : wr.cell? ⟨w.heap.size + 9, 7, none⟩ = some (.int .u8 0) := by simp [World.cell?, hm.h9]
  have f9_8 : wr.cell? ⟨w.heap.size + 9, 8, none⟩ = some (.int .u8 0) := by simp [World.cell?, hm.h9]
  have f9_9 : wr.cell? ⟨w.heap.size + 9, 9, none⟩ = some (.int .u8 0) := by simp [World.cell?, hm.h9]
  have f9_10 : wr.cell? ⟨w.heap.size + 9, 10, none⟩ = some (.int .u8 0) := by simp [World.cell?, hm.h9]
  have f9_11 : wr.cell? ⟨w.heap.size + 9, 11, none⟩ = some (.int .u8 0) := by simp [World.cell?, hm.h9]
  have f9_12 : wr.cell? ⟨w.heap.size + 9, 12, none⟩ = some (.int .u8 0) := by simp [World.cell?, hm.h9]
  have f9_13 : wr.cell? ⟨w.heap.size + 9, 13, none⟩ = some (.int .u32 2) := by simp [World.cell?, hm.h9]
  clear hexit hm
  conv => arg 2; whnf
  conv => arg 4; dsimp only
  have hmac : ∀ W : World, (Op.equalIn 9999 44 (.agg #[.int .u8 0, .int .u8 0, .int .u8 0, .int .u8 0, .int .u8 0, .int .u8 0]) (.agg #[.int .u8 0, .int .u8 0, .int .u8 0, .int .u8 0, .int .u8 0, .int .u8 0])).run Tryz.prog W = .ok true W := fun W => mac_in ⟨0, 0, 0, 0, 0, 0⟩ ⟨0, 0, 0, 0, 0, 0⟩ W
  go_wp2
  exact HN.out _ rfl
set_option maxRecDepth 1000000 in
set_option maxHeartbeats 8000000 in
theorem formats_any (v : Value) (l : List UInt8) (w : World) (hE : Env w) (hv : Bs w v l) (hl : l.length ≤ 100000) :
    Calls Tryz.prog 12 #[v] w fun e w' => e = .returned (.bool true) ∧ Below w.heap.size w w' := by
  have hv2 := hv
  obtain ⟨a, c, rfl, _, _⟩ := hv2
  refine formats_head a l c w ?_
  intro wz c1 c14 c15 c16 c17 c18 c19 c20 c21 c22 c23 c24 c25 c26 c27 c28 c29 c30 c31 c32 c33 c34 c35 c36 c37 c38 c39 c40 c41 c42 c43 c44 c45 c46 c47 c48 c49 c50 c51 c52 c53 c54 c55 c56 c57 c58 c59 c60 c61 c62 c63 c64 c65 c66 c67 c68 c69 c70 c71 c72 c73 c74 c75 c76 c77 c78 c79 c80 c81 c82 c83 c84 c85 c86 c87 c88 c89 c90 c91 c92 c93 c94 c95 c96 c97 c98 c99 c100 c101 c102 c103 c104 c105 c106 c107 c108 c109 c110 c111 c112 c113 c114 c115 c116 c117 c118 c119 c120 c121 c122 c123 c124 c125 c126 c127 c128 c129 c130 c131 c132 c133 c134 c135 c136 c137 c138 c139 c140 c141 c142 c143 c144 c145 c146 c147 c148 c149 c150 c151 c152 c153 c154 c155 c156 c157 c158 c159 c160 c161 c162 c163 c164 c165 c166 c167 c168 c169 c170 c171 c172 c173 c174 c175 c176 c177 c178 c179 c180 c181 c182 c183 c184 c185 c186 c187 c188 c189 c190 c191 c192 c193 c194 c195 c196 c197 c198 c199 c200 c201 c202 c203 c204 c205 c206 c207 c208 h2
  have he := hE.below h2.marks.below (Nat.le_refl _)
  have hb := hv.below h2.marks.below
  have H2 := Lib.hid h2
  have HE := Lib.hid he
  have HB := Lib.hid hb
  clear hE hv h2 he hb
  conv => arg 2; whnf
  conv => arg 4; dsimp only
  go_wp2
  go_loopw [14] (fun i wr => ∃ k : Nat, k ≤ 2 ∧ i = .int .i64 k ∧ Marks2 w a l c wr ∧ Env wr ∧ Bs wr (.slice a l.length c) l) (fun i _ => 2 - (intOf i).toNat)
  case atStart => exact ⟨0, by omega, rfl, H2.out, HE.out, HB.out⟩
  case round =>
    clear H2 HE HB
    obtain ⟨k, hk, rfl, h2, he, hb⟩ := hrel
    have H2 := Lib.hid h2
    have HE := Lib.hid he
    have HB := Lib.hid hb
    clear h2 he hb
    by_cases hlt : k < 2
    · go_upto_region 15 with fail
      refine formats_reg15 a l c w wr H2.out ?_
      intro wz d61 d62 d63 d64 d65 d66 d67 d68 d69 d70 d71 d72 d73 d74 d75 h2 hbz hrz htz
      have H3 := Lib.hid h2
      have HE3 := Lib.hid (HE.out.below hbz (Nat.le_refl _))
      have HB3 := Lib.hid (HB.out.below hbz)
      have HR3 := Lib.hid hrz
      have HT3 := Lib.hid htz
      have hsz3 := H2.out.size
      have hsz4 := hbz.size
      clear h2 hrz htz
      simp only [Exit.then]
      apply_assumption
      conv => arg 4; dsimp only
      by_cases hk0 : k = 0
      · subst hk0
        go_upto_region 18 with fail
        refine formats_reg18_0 a l c w wz wr.heap.size HE3.out hl H3.out HB3.out HR3.out ?_
        intro wz2 d80 d81 hb2
        have HX := Lib.hid (H3.out.grow hb2)
        have HEX := Lib.hid (HE3.out.below hb2 (Nat.le_refl _))
        have HBX := Lib.hid (HB3.out.below hb2)
        clear hb2
        simp only [Exit.then]
        apply_assumption
        conv => arg 4; dsimp only
        go_wp2
        go_roundw
        case rel => exact ⟨0 + 1, by omega, by go_num, HX.out, HEX.out, HBX.out⟩
        case measure => simp [intOf]
      · obtain rfl : k = 1 := by omega
        go_upto_region 17 with fail
        refine formats_reg17 a l c w wz wr.heap.size H3.out hsz3 HR3.out HT3.out ?_
        intro wy d78 d79 hby hry
        have hm5 : Marks2 w a l c wy := by
          have m := H3.out
          have z := hby.size
          have g := hsz3
          exact ⟨⟨m.marks.below.trans (hby.mono (by omega)), by have := m.size; omega, (hby.block _ (by omega)).trans m.marks.h0, (hby.block _ (by omega)).trans m.marks.h1, (hby.block _ (by omega)).trans m.marks.h2, (hby.block _ (by omega)).trans m.marks.h3, (hby.block _ (by omega)).trans m.marks.h4, (hby.block _ (by omega)).trans m.marks.h5, (hby.block _ (by omega)).trans m.marks.h6, (hby.block _ (by omega)).trans m.marks.h7, (hby.block _ (by omega)).trans m.marks.h8, (hby.block _ (by omega)).trans m.marks.h9⟩, by have := m.size; omega, (hby.block _ (by omega)).trans m.t, fun j v hj => (hby.cell (p := ⟨w.heap.size + 11, 0 + j, none⟩) (by show w.heap.size + 11 < wr.heap.size; omega)).trans (m.v j v hj)⟩
        have he5 : Env wy := (HE.out.below (hbz.trans hby) (Nat.le_refl _))
        have hb5 := HB.out.below (hbz.trans hby)
        have H5 := Lib.hid hm5
        have HE5 := Lib.hid he5
        have HB5 := Lib.hid hb5
        have HR5 := Lib.hid hry
        clear hm5 he5 hb5 hry
        simp only [Exit.then]
        apply_assumption
        conv => arg 4; dsimp only
        go_upto_region 18 with fail
        refine formats_reg18_1 a l c w wy wr.heap.size HE5.out hl H5.out HB5.out HR5.out ?_
        intro wz2 d80 d81 hb2
        have HX := Lib.hid (H5.out.grow hb2)
        have HEX := Lib.hid (HE5.out.below hb2 (Nat.le_refl _))
        have HBX := Lib.hid (HB5.out.below hb2)
        clear hb2
        simp only [Exit.then]
        apply_assumption
        conv => arg 4; dsimp only
        go_wp2
        go_roundw
        case rel => exact ⟨1 + 1, by omega, by go_num, HX.out, HEX.out, HBX.out⟩
        case measure => simp [intOf]
    · obtain rfl : k = 2 := by omega
      go_upto_region 19 with fail
      refine formats_reg19 a l c w wr H2.out.marks ?_
      intro wz d82 d83 d84 d85 d86 d87 d88 d89 d90 d91 d92 d93 d94 d95 d96 d97 d98 d99 d100 d101 d102 d103 d104 d105 d106 d107 d108 d109 d110 d111 d112 d113 d114 d115 d116 d117 d118 d119 d120 d121 d122 d123 d124 d125 d126 d127 hbz
      have hm := H2.out.marks.grow hbz
      have HM := Lib.hid hm
      clear hm
      simp only [Exit.then]
      apply_assumption
      go_upto_region 21 with fail
      refine formats_reg21 a l c w wz HM.out ?_
      rintro wz2 d129 d130 d131 d132 d133 d134 d135 d136 d137 d138 d139 d140 d141 d142 d143 d144 d145 d146 d147 d148 d149 d150 d151 d152 d153 d154 d155 d156 d157 d158 d159 d160 d161 d162 d163 d164 d165 d166 d167 rfl
      simp only [Exit.then]
      apply_assumption
      go_upto_region 23 with fail
      refine formats_reg23 a l c w wz2 HM.out ?_
      rintro wz3 d169 d170 d171 d172 d173 d174 d175 d176 d177 d178 d179 d180 d181 d182 d183 d184 d185 d186 d187 d188 d189 d190 d191 d192 d193 d194 d195 d196 d197 d198 d199 d200 d201 d202 d203 d204 d205 d206 d207 d208 rfl
      simp only [Exit.then]
      apply_assumption
      conv => arg 4; dsimp only
      go_wp2
      go_ret
      exact ⟨rfl, HM.out.below⟩
end Go.Proofs.YtmnkdnpjcfmjgaaGreatDoor
