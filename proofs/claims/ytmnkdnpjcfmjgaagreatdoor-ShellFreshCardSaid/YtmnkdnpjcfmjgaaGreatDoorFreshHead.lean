/- Package weftlaw20, ShellFresh: its head. -/
import Derived.Test.YtmnkdnpjcfmjgaaGreatDoorFreshTail
import Derived.Test.YtmnkdnpjcfmjgaaGreatDoorFormats2
import Derived.Laws.Closers25b
namespace Go.Proofs.YtmnkdnpjcfmjgaaGreatDoor
open Go.RowKit

/-- the marks behind the bytes -/
def marksL : List UInt8 := (List.range 64).map fun i => UInt8.ofNat (137 + i)
theorem marksL_length : marksL.length = 64 := by simp [marksL]
theorem own_front {B : Nat} {w : World} {I c : Nat} {l r : List UInt8} (h : w.ownsRow B 5 1 (.slice (some ⟨I, 0, none⟩) (l.length + r.length) c) (l.length + r.length) (Lib.byteCells (l ++ r))) : Bs w (.slice (some ⟨I, 0, none⟩) l.length c) l := by
  refine ⟨some ⟨I, 0, none⟩, c, rfl, ?_, fun _ => ⟨I, 0, rfl, (h.lt I rfl).2, fun j u hu => ?_⟩⟩
  · rcases h.2 with ⟨hv, h0⟩ | ⟨g', cap, cur, hv, hB, hg, h1, h2, h3⟩
    · cases hv
    · omega
  · have hj : j < l.length := (List.getElem?_eq_some_iff.1 hu).1
    rw [Nat.zero_add, h.cellAt j (by omega), Lib.byteCells, List.getElem?_map, List.getElem?_append_left hj, hu]
    rfl
theorem marks_at {B : Nat} {w : World} {I c k : Nat} {l : List UInt8} (h : w.ownsRow B 5 1 (.slice (some ⟨I, 0, none⟩) (l.length + 64) c) (l.length + 64) (Lib.byteCells (l ++ marksL))) (hk : k < 64) : w.cell? ⟨I, l.length + k, none⟩ = some (.int .u8 (137 + (k : Int))) := by
  rw [h.cellAt (l.length + k) (by omega), Lib.byteCells, List.getElem?_map, List.getElem?_append_right (by omega), Nat.add_sub_cancel_left, marksL, List.getElem?_map, List.getElem?_range hk]
  simp only [Option.map_some, UInt8.toNat_ofNat']
  congr 2
  omega
/-- a byte with its last bit turned -/
def flipB (c : UInt8) : UInt8 := UInt8.ofNat (bits .xor .u8 c.toNat 1).toNat
theorem flip_eq (c : UInt8) : Value.int .u8 (bits .xor .u8 (c.toNat : Int) 1) = .int .u8 ((flipB c).toNat : Int) := by
  have h := bits_within .xor .u8 (c.toNat : Int) 1
  have h0 : (0 : Int) ≤ bits .xor .u8 (c.toNat : Int) 1 := h.1
  have h1 : bits .xor .u8 (c.toNat : Int) 1 ≤ 255 := h.2
  unfold flipB
  rw [UInt8.toNat_ofNat']
  congr 1
  omega
theorem flip_list (l : List UInt8) (c : UInt8) (r : List UInt8) (h : l = c :: r) : ∃ l2 : List UInt8, l2.length = l.length ∧ ∀ v, v = .int .u8 ((flipB c).toNat : Int) → (Lib.byteCells (l ++ marksL)).set 0 v = Lib.byteCells (l2 ++ marksL) := by
  subst h
  refine ⟨flipB c :: r, by simp, ?_⟩
  rintro v rfl
  rfl
theorem own_front2 {B : Nat} {w : World} {I n c : Nat} {l r : List UInt8} (hl : l.length = n) (h : w.ownsRow B 5 1 (.slice (some ⟨I, 0, none⟩) (n + r.length) c) (n + r.length) (Lib.byteCells (l ++ r))) : Bs w (.slice (some ⟨I, 0, none⟩) n c) l := by
  subst hl
  exact own_front h
theorem same_drw (a b : Value) (l : List UInt8) (w : World) (n : Nat) (ha : Bs w a l) (hb : Bs w b l) :
    Calls Tryz.prog 13 #[a, b] (w.drewN n) fun e w'' => e = .returned (.bool true) ∧ ∃ m, w'' = w.drewN m := by
  have hbn : Below w.heap.size w (w.drewN n) := (Drw.mk w n).below _
  refine (same_any a b l l (w.drewN n) (ha.below hbn) (hb.below hbn)).mono ?_
  rintro e w' ⟨rfl, k, rfl⟩
  exact ⟨by simp, n + k, by rw [World.drewN_drewN]⟩
theorem u8_in {n : Int} (h0 : 0 ≤ n) (h1 : n < 256) : IntKind.u8.wrap n = n := by
  simp [IntKind.wrap, IntKind.signed, IntKind.bits]
  omega

set_option maxRecDepth 1000000 in
set_option maxHeartbeats 8000000 in
theorem fresh_tail4 {w0 : World} {pb pm : Option Addr} {cb cm : Nat} {l m : List UInt8} {I : Nat} {c2 c3 c4 c6 c7 c8 c9 c10 c11 c12 c13 c14 c15 c16 c17 c18 c19 c20 c21 c22 c23 c24 c25 c26 c27 c28 c29 c30 c31 c32 c33 c34 c35 c36 c37 c38 c39 c40 c41 c42 c43 c44 c45 c46 c47 c48 c49 c50 c51 c52 c53 c54 c55 c56 c57 c58 c59 c60 c61 c62 c63 c64 c65 c66 c67 c68 c69 c70 c71 c72 c73 c74 c75 c76 c77 c78 c79 c80 c81 c82 c83 c84 c85 c86 c87 c88 c89 c90 c91 c92 c93 c94 c95 c96 c97 c98 c99 c100 c101 c102 c103 c104 c105 c106 c107 c108 c109 c110 c111 c112 c113 c114 c115 c116 c117 c118 c119 c120 c121 c122 c123 c124 c125 c126 c127 c128 c129 c130 c131 c132 c133 c134 c135 c136 c137 c138 c139 c140 c141 c142 c143 c144 c145 c146 c147 c148 c149 c150 c151 c152 c153 c154 c155 c156 c157 c158 c159 c160 c161 c162 c163 c164 c165 c166 c167 c168 c169 c170 c171 c172 c173 c174 c175 c176 c177 c178 c179 c180 c181 c182 c183 c184 c185 c186 c187 c188 c189 c190 c191 c192 c193 c194 c195 c196 c197 c198 c199 c200 c201 c202 c203 c204 c205 c206 c207 c208 c209 c210 c211 c212 c213 c214 c215 c216 c217 c218 c219 c220 c221 c222 c223 c224 c225 c226 c227 c228 c229 c230 c231 c232 c233 c234 c235 c236 c237 c238 c239 c240 c241 c242 c243 c244 c245 c246 c247 c248 c249 c250 c251 c252 c253 c254 c255 c256 c257 c258 c259 c260 c261 c262 c263 c264 c265 c266 c267 c268 c269 c270 c271 c272 c273 c274 c275 c276 c277 c278 c279 c280 c281 c282 c283 c284 c285 c286 c287 c288 c289 c290 c291 c292 c293 c294 c295 c296 c297 c298 c299 c300 c301 c302 c303 c304 c305 c306 c307 c308 c309 c310 c311 c312 c313 c314 c315 c316 c317 c318 c319 c320 c321 c322 c323 c324 c325 c326 c327 c328 c329 c330 : Value} (w : World) (hB : FB w0 pb pm cb cm l m) (hb : Below w0.heap.size w0 w) (ho : w.ownsRow w0.heap.size 5 1 (.slice (some ⟨I, 0, none⟩) (l.length + 64) (l.length + 64)) (l.length + 64) (Lib.byteCells (l ++ marksL))) :
    Code.wp Tryz.prog (tailOf Tryz.f5 4) (bodyPost Tryz.prog Tryz.f5 fun e w' => e = .returned (.bool true) ∧ Below w0.heap.size w0 w') ⟨#[.slice pb l.length cb, .slice pm m.length cm, c2, c3, c4, .slice (some ⟨I, 0, none⟩) (l.length + 64) (l.length + 64), c6, c7, c8, c9, c10, c11, c12, c13, c14, c15, c16, c17, c18, c19, c20, c21, c22, c23, c24, c25, c26, c27, c28, c29, c30, c31, c32, c33, c34, c35, c36, c37, c38, c39, c40, c41, c42, c43, c44, c45, c46, c47, c48, c49, c50, c51, c52, c53, c54, c55, c56, c57, c58, c59, c60, c61, c62, c63, c64, c65, c66, c67, c68, c69, c70, c71, c72, c73, c74, c75, c76, c77, c78, c79, c80, c81, c82, c83, c84, c85, c86, c87, c88, c89, c90, c91, c92, c93, c94, c95, c96, c97, c98, c99, c100, c101, c102, c103, c104, c105, c106, c107, c108, c109, c110, c111, c112, c113, c114, c115, c116, c117, c118, c119, c120, c121, c122, c123, c124, c125, c126, c127, c128, c129, c130, c131, c132, c133, c134, c135, c136, c137, c138, c139, c140, c141, c142, c143, c144, c145, c146, c147, c148, c149, c150, c151, c152, c153, c154, c155, c156, c157, c158, c159, c160, c161, c162, c163, c164, c165, c166, c167, c168, c169, c170, c171, c172, c173, c174, c175, c176, c177, c178, c179, c180, c181, c182, c183, c184, c185, c186, c187, c188, c189, c190, c191, c192, c193, c194, c195, c196, c197, c198, c199, c200, c201, c202, c203, c204, c205, c206, c207, c208, c209, c210, c211, c212, c213, c214, c215, c216, c217, c218, c219, c220, c221, c222, c223, c224, c225, c226, c227, c228, c229, c230, c231, c232, c233, c234, c235, c236, c237, c238, c239, c240, c241, c242, c243, c244, c245, c246, c247, c248, c249, c250, c251, c252, c253, c254, c255, c256, c257, c258, c259, c260, c261, c262, c263, c264, c265, c266, c267, c268, c269, c270, c271, c272, c273, c274, c275, c276, c277, c278, c279, c280, c281, c282, c283, c284, c285, c286, c287, c288, c289, c290, c291, c292, c293, c294, c295, c296, c297, c298, c299, c300, c301, c302, c303, c304, c305, c306, c307, c308, c309, c310, c311, c312, c313, c314, c315, c316, c317, c318, c319, c320, c321, c322, c323, c324, c325, c326, c327, c328, c329, c330], []⟩ w := by

  have HW := Lib.hid hb
  have HB := Lib.hid hB
  have HO := Lib.hid ho
  have hll := hB.hl
  have hml := hB.hm
  obtain ⟨s, hsf, hsp, hss⟩ := bytes_line 13 (.inr rfl) l hB.hl
  have HSP := Lib.hid hsp
  have HSS := Lib.hid hss
  have HFT := Lib.hid (format_bytes 13 (.inr rfl) l s (.slice (some ⟨I, 0, none⟩) l.length (l.length + 64)) w (hB.env.below hb (Nat.le_refl _)) hsf (own_front ho))
  clear hb hB ho hsf hsp hss
  conv => arg 2; whnf
  conv => arg 4; dsimp only
  refine wp_seq_k fun K1 hK1 => ?_
  have HK1 := Lib.hid hK1
  clear hK1
  go_wp2_with fail
  refine HFT.out.mono ?_
  rintro e w1 ⟨rfl, hb1⟩
  have HW1 := Lib.hid (HW.out.trans (hb1.mono HW.out.size))
  have HO1 := Lib.hid (row_below HO.out hb1)
  clear hb1 HW HO
  go_wp2
  refine HK1.out _ _ ?_
  refine wp_seq_k fun K2 hK2 => ?_
  have HK2 := Lib.hid hK2
  clear hK2 HK1
  go_wp2_with fail
  refine (formats_any _ l _ (HB.out.env.below HW1.out (Nat.le_refl _)) (own_front HO1.out) (by omega)).mono ?_
  rintro e w2 ⟨rfl, hb1⟩
  have HW2 := Lib.hid (HW1.out.trans (hb1.mono HW1.out.size))
  have HO2 := Lib.hid (row_below HO1.out hb1)
  clear hb1 HW1 HO1
  go_wp2_with fail
  refine (same_true _ _ l _ (own_front HO2.out) (HB.out.bs.below HW2.out)).mono ?_
  rintro e w3 ⟨rfl, hb1⟩
  have HW3 := Lib.hid (HW2.out.trans (hb1.mono HW2.out.size))
  have HO3 := Lib.hid (row_below HO2.out hb1)
  clear hb1 HW2 HO2
  go_wp2
  refine HK2.out _ _ ?_
  refine wp_seq_k fun K3 hK3 => ?_
  have HK3 := Lib.hid hK3
  clear hK3 HK2
  go_wp2
  go_loopw [9] (fun q wx => ∃ k : Nat, k ≤ 64 ∧ q = .int .i64 ((l.length : Int) + k) ∧ wx = w3) (fun q _ => l.length + 64 - (intOf q).toNat)
  case atStart => exact ⟨0, by omega, by simp, rfl⟩
  case round =>
    obtain ⟨k, hk, rfl, rfl⟩ := hrel
    by_cases hkl : k < 64
    · have hj1 : IntKind.i64.wrap ((l.length : Int) + k + 1) = (l.length : Int) + k + 1 := IntWalk.i64_in _ (by omega)
      have hj2 : IntKind.i64.wrap (137 + ((l.length : Int) + k)) = 137 + ((l.length : Int) + k) := IntWalk.i64_in _ (by omega)
      have hj3 : IntKind.i64.wrap (137 + ((l.length : Int) + k) - l.length) = 137 + (k : Int) := by rw [IntWalk.i64_in _ (by omega)]; omega
      have hj4 : IntKind.u8.wrap (137 + (k : Int)) = 137 + (k : Int) := u8_in (by omega) (by omega)
      have hc := marks_at HO3.out hkl
      go_wp2
      go_roundw
      case rel => exact ⟨k + 1, by omega, by go_num, by first | rfl | trivial⟩
      case measure => simp [intOf]; omega
    · obtain rfl : k = 64 := by omega
      go_wp2
      refine HK3.out _ _ ?_
      refine wp_seq_k fun K4 hK4 => ?_
      have HK4 := Lib.hid hK4
      clear hK4 HK3
      by_cases hL : 0 < l.length
      · obtain ⟨c, r, hcr⟩ : ∃ c r, l = c :: r := by
          cases l with
          | nil => simp at hL
          | cons c r => exact ⟨c, r, rfl⟩
        have hc0 : wr.cell? ⟨I, 0, none⟩ = some (.int .u8 c.toNat) := by
          rw [HO3.out.cellAt 0 (by omega), hcr]; rfl
        have hf0 := HO3.out.frozenAt 0
        have hst := HO3.out.stored 0 (.int .u8 (bits .xor .u8 c.toNat 1))
        obtain ⟨l2, hl2, hset⟩ := flip_list l c r hcr
        have hset2 := hset _ (flip_eq c)
        rw [hset2] at hst
        obtain ⟨s2, hsf, hsp, hss⟩ := bytes_line 13 (.inr rfl) l2 (by omega)
        have hb4 : Below w0.heap.size w0 (wr.setCell ⟨I, 0, none⟩ (.int .u8 (bits .xor .u8 c.toNat 1))) := HW3.out.setCell (HO3.out.lt I rfl).1 _
        have HW4 := Lib.hid hb4
        have HO4 := Lib.hid hst.1
        have HSP2 := Lib.hid hsp
        have HSS2 := Lib.hid hss
        have HL2 := Lib.hid hl2
        have HSF2 := Lib.hid hsf
        clear hset hst hsf hsp hss hb4 hset2 hcr hl2
        go_wp2_with fail
        refine (format_bytes 13 (.inr rfl) l2 s2 (.slice (some ⟨I, 0, none⟩) l.length (l.length + 64)) _ (HB.out.env.below HW4.out (Nat.le_refl _)) HSF2.out (own_front2 HL2.out HO4.out)).mono ?_
        rintro e w5 ⟨rfl, hb5⟩
        have HW5 := Lib.hid (HW4.out.trans (hb5.mono HW4.out.size))
        have HO5 := Lib.hid (row_below HO4.out hb5)
        clear hb5 HO4 HW4
        have HPA := Lib.hid (parse_bytes 13 ⟨s2.toArray⟩ l2 w5 (HB.out.env.below HW5.out (Nat.le_refl _)) HSS2.out HSP2.out)
        rw [HL2.out] at HPA
        unfold bytesCells at HPA
        go_wp2_with fail
        refine HPA.out.mono ?_
        rintro e w6 ⟨⟨aa, rfl, hfr⟩, hb6⟩
        have hal := (Below.refl w6.heap.size w6).alloc (Nat.le_refl _) (.cells (bytesCells 13 aa l.length) 26)
        have hbx := hb6.trans (hal.mono hb6.size)
        have hw7 := HW5.out.trans (hbx.mono HW5.out.size)
        have ho7 := row_below HO5.out hbx
        have hfa := hfr.below hal
        have hV : (w6.alloc (.cells (bytesCells 13 aa l.length) 26)).heap[w6.heap.size]? = some (.cells (bytesCells 13 aa l.length) 26 (0, 0)) := heap_alloc_new w6 _
        clear hal hfr hb6 hbx HW5 HO5
        unfold bytesCells at hw7 ho7 hfa hV
        go_upto_region 22 with fail
        generalize w6.alloc _ = W at hw7 ho7 hfa hV ⊢
        generalize w6.heap.size = V at hV ⊢
        have q1 := act_cell hV
        have HW7 := Lib.hid hw7
        have HSM := Lib.hid fun n => same_drw (.slice aa l.length l.length) (.slice (some ⟨I, 0, none⟩) l.length (l.length + 64)) l2 W n hfa.bs (own_front2 HL2.out ho7)
        clear hw7 ho7 hfa hV
        go_quiet (first | (go_at_call 13; exact HSM.out _))
        go_wp2
        refine HK4.out _ _ ?_
        exact fresh_tail8 _ HB.out HSS.out HSP.out (HW7.out.trans ((Drw.mk _ _).below _))
      · go_wp2
        refine HK4.out _ _ ?_
        exact fresh_tail8 _ HB.out HSS.out HSP.out HW3.out
end Go.Proofs.YtmnkdnpjcfmjgaaGreatDoor
