/- Package weftlaw20: what the statements share: acts, actBack, lineBack, first. -/
import Derived.Test.YtmnkdnpjcfmjgaaGreatDoorActLaw
import Derived.Test.YtmnkdnpjcfmjgaaGreatDoorReply
namespace Go.Proofs.YtmnkdnpjcfmjgaaGreatDoor
open Go.RowKit

theorem Fresh.bs {B : Nat} {w : World} {v : Value} {l : List UInt8} (h : Fresh B w v l) : Bs w v l := by
  rcases h with ⟨rfl, rfl⟩ | ⟨g, rfl, h⟩
  · exact Bs.nil w
  · refine ⟨some ⟨g, 0, none⟩, l.length, rfl, ?_, fun _ => ⟨g, 0, rfl, (h.lt g rfl).2, fun j u hu => ?_⟩⟩
    · rcases h.2 with ⟨hv, h0⟩ | ⟨g', cap, cur, hv, hB, hg, h1, h2, h3⟩
      · cases hv
      · omega
    · have := h.cells (g := g) rfl j (.int .u8 u.toNat) (by rw [Lib.byteCells, List.getElem?_map, hu]; rfl)
      have e : (⟨g, 0, none⟩ : Addr).add j = ⟨g, 0 + j, none⟩ := by unfold Addr.add; split <;> simp_all
      rwa [e] at this
theorem Fresh.below {B : Nat} {w w' : World} {v : Value} {l : List UInt8} (h : Fresh B w v l) (hb : Below w.heap.size w w') : Fresh B w' v l := by
  rcases h with h | ⟨g, rfl, h⟩
  · exact .inl h
  · exact .inr ⟨g, rfl, row_below h hb⟩

set_option maxRecDepth 100000 in
set_option maxHeartbeats 2000000 in
theorem acts_true (a : ActD) (v1 v2 : Value) (w : World) (h1 : Bs w v1 a.bytes) (h2 : Bs w v2 a.bytes) :
    Calls Tryz.prog 16 #[.agg (a.cells v1), .agg (a.cells v2)] w fun e w' => e = .returned (.bool true) ∧ Below w.heap.size w w' := by
  obtain ⟨p1, c1, rfl, -, -⟩ := id h1
  obtain ⟨p2, c2, rfl, -, -⟩ := id h2
  have hb := (((Below.refl w.heap.size w).alloc (Nat.le_refl _) (.cells (a.cells (.slice p1 a.bytes.length c1)) 26)).alloc (by simp) (.cells (a.cells (.slice p2 a.bytes.length c2)) 26))
  have HS := Lib.hid fun u (hu : Below w.heap.size w u) => same_any _ _ _ _ u (h1.below hu) (h2.below hu)
  rw [show decide (a.bytes = a.bytes) = true from by simp] at HS
  have HB := Lib.hid hb
  clear h1 h2 hb
  unfold ActD.cells at HB ⊢
  go_enter Tryz.func16, Tryz.ntmps16
  go_wp2_with fail
  refine (HS.out _ HB.out).mono ?_
  rintro e w1 ⟨rfl, hd⟩
  have HD := Lib.hid hd
  clear hd
  go_wp2
  go_ret
  exact ⟨rfl, HB.out.trans (HD.out.below _)⟩

set_option maxRecDepth 100000 in
set_option maxHeartbeats 2000000 in
theorem actBack_any (a : ActD) (v : Value) (w : World) (hE : Env w) (hok : a.Ok) (hbs : Bs w v a.bytes) :
    Calls Tryz.prog 7 #[.agg (a.cells v)] w fun e w' => e = .returned (.bool true) ∧ Below w.heap.size w w' := by
  obtain ⟨p1, c1, rfl, -, -⟩ := id hbs
  have hb0 := (Below.refl w.heap.size w).alloc (Nat.le_refl _) (.cells (a.cells (.slice p1 a.bytes.length c1)) 26)
  have HF := Lib.hid (format_any a (.slice p1 a.bytes.length c1) (w.alloc (.cells (a.cells (.slice p1 a.bytes.length c1)) 26)) (hE.below hb0 (Nat.le_refl _)) hok (hbs.below hb0))
  have hbx : (w.alloc (.cells (a.cells (.slice p1 a.bytes.length c1)) 26)).heap[w.heap.size]? = some (.cells (a.cells (.slice p1 a.bytes.length c1)) 26 (0, 0)) := heap_alloc_new w _
  have HX := Lib.hid hbx
  have HB0 := Lib.hid hb0
  have HE := Lib.hid hE
  have HBS := Lib.hid hbs
  clear hb0 hbx hE hbs
  cases hfm : formatL a with
  | error k =>
    have hk : k = 1 ∨ k = 150 ∨ k = 2 := by
      unfold formatL at hfm
      repeat' split at hfm
      all_goals first | (cases hfm; done) | (cases hfm; omega)
    rw [hfm] at HF
    clear hfm
    unfold ActD.cells at HB0 HF HX ⊢
    go_enter Tryz.func7, Tryz.ntmps7
    go_wp2_with fail
    refine HF.out.mono ?_
    rintro e w1 ⟨rfl, hb1⟩
    have HB1 := Lib.hid hb1
    clear hb1
    rcases hk with rfl | rfl | rfl
    · go_wp2
      go_ret
      exact ⟨rfl, HB0.out.trans (HB1.out.mono HB0.out.size)⟩
    · go_wp2
      go_ret
      exact ⟨rfl, HB0.out.trans (HB1.out.mono HB0.out.size)⟩
    · go_wp2
      go_ret
      exact ⟨rfl, HB0.out.trans (HB1.out.mono HB0.out.size)⟩
  | ok s =>
    obtain ⟨hps, hsl⟩ := format_parse a hok s hfm
    have HPA := Lib.hid fun u (hu : Below w.heap.size w u) => parse_any ⟨s.toArray⟩ u (HE.out.below hu (Nat.le_refl _)) (by show s.length ≤ _; omega)
    rw [show (⟨s.toArray⟩ : ByteArray).data.toList = s from rfl, hps] at HPA
    have hsd : decide ((s.length : Int) ≤ 131200) = true := by simp; omega
    have hsd2 : (s.length : Int) ≤ 131200 := by omega
    rw [hfm] at HF
    clear hfm hps
    have HAC := Lib.hid (acts_true a)
    unfold ActD.cells at HB0 HF HX HAC ⊢
    go_enter Tryz.func7, Tryz.ntmps7
    go_wp2_with fail
    refine HF.out.mono ?_
    rintro e w1 ⟨rfl, hb1⟩
    have hw1 := HB0.out.trans (hb1.mono HB0.out.size)
    have hx1 := (hb1.block w.heap.size (by simp)).trans HX.out
    have HW1 := Lib.hid hw1
    have HX1 := Lib.hid hx1
    clear hb1 hw1 hx1
    go_wp2_with fail
    refine (HPA.out _ HW1.out).mono ?_
    rintro e w2 ⟨⟨v, rfl, hfr⟩, hb2⟩
    have hw2 := HW1.out.trans (hb2.mono HW1.out.size)
    have hx2 := (hb2.block w.heap.size (Array.getElem?_eq_some_iff.1 HX1.out).1).trans HX1.out
    have hlt := (Array.getElem?_eq_some_iff.1 hx2).1
    have HFR := Lib.hid hfr
    have hbs2 := hfr.bs
    have HW2 := Lib.hid hw2
    have HX2 := Lib.hid hx2
    clear hb2 hw2 hx2
    have hb3 := fun o => ((Below.refl w2.heap.size w2).alloc (Nat.le_refl _) o)
    have HB3 := Lib.hid hb3
    have HBS2 := Lib.hid hbs2
    clear hb3 hbs2
    unfold ActD.cells
    have q0 : w2.cell? ⟨w.heap.size, 0, none⟩ = some (.int .i64 a.kind) := by rw [Joins.cell_of_block (i := 0) HX2.out]; rfl
    have q1 : w2.cell? ⟨w.heap.size, 1, none⟩ = some (.int .i64 a.host) := by rw [Joins.cell_of_block (i := 1) HX2.out]; rfl
    have q2 : w2.cell? ⟨w.heap.size, 2, none⟩ = some (.int .i64 a.n) := by rw [Joins.cell_of_block (i := 2) HX2.out]; rfl
    have q3 : w2.cell? ⟨w.heap.size, 3, none⟩ = some (.int .i64 a.place) := by rw [Joins.cell_of_block (i := 3) HX2.out]; rfl
    have q4 : w2.cell? ⟨w.heap.size, 4, none⟩ = some (.string ⟨a.name.toArray⟩) := by rw [Joins.cell_of_block (i := 4) HX2.out]; rfl
    have q5 : w2.cell? ⟨w.heap.size, 5, none⟩ = some (.slice p1 a.bytes.length c1) := by rw [Joins.cell_of_block (i := 5) HX2.out]; rfl
    have q6 : w2.cell? ⟨w.heap.size, 6, none⟩ = some (.int .u32 a.addr) := by rw [Joins.cell_of_block (i := 6) HX2.out]; rfl
    rcases hfr with ⟨rfl, hl⟩ | ⟨g, rfl, hg⟩
    · clear hl
      go_wp2_with fail
      refine (HAC.out _ _ _ (HBS.out.below (HW2.out.trans ((HB3.out _).mono HW2.out.size))) (HBS2.out.below (HB3.out _))).mono ?_
      rintro e w4 ⟨rfl, hb4⟩
      have HB4 := Lib.hid hb4
      clear hb4
      go_wp2
      go_ret
      exact ⟨rfl, (HW2.out.trans ((HB3.out _).mono HW2.out.size)).trans (HB4.out.mono (Nat.le_trans HW2.out.size (HB3.out _).size))⟩
    · clear hg
      go_wp2_with fail
      refine (HAC.out _ _ _ (HBS.out.below (HW2.out.trans ((HB3.out _).mono HW2.out.size))) (HBS2.out.below (HB3.out _))).mono ?_
      rintro e w4 ⟨rfl, hb4⟩
      have HB4 := Lib.hid hb4
      clear hb4
      go_wp2
      go_ret
      exact ⟨rfl, (HW2.out.trans ((HB3.out _).mono HW2.out.size)).trans (HB4.out.mono (Nat.le_trans HW2.out.size (HB3.out _).size))⟩

set_option maxRecDepth 100000 in
set_option maxHeartbeats 2000000 in
theorem lineBack_any (s : ByteArray) (w : World) (hE : Env w) (hs : s.size ≤ 140737488351232) :
    Calls Tryz.prog 8 #[.string s] w fun e w' => e = .returned (.bool true) ∧ Below w.heap.size w w' := by
  have HP := Lib.hid (parse_any s w hE hs)
  have HE := Lib.hid hE
  clear hE
  cases hps : parseL s.data.toList with
  | error k =>
    have hk : 0 < k := by
      unfold parseL at hps
      repeat' split at hps
      all_goals first | (cases hps; decide) | skip
      revert hps
      generalize (wsL s.data.toList).tail = ws
      generalize ({ ActD.zero with kind := kindB ((wsL s.data.toList).headD []) } : ActD) = a0
      generalize (gramL.getD (kindB ((wsL s.data.toList).headD [])).toNat ([], [])).2 = l
      intro hps
      induction l generalizing a0 ws with
      | nil => unfold setsL at hps; cases hps
      | cons f fs ih =>
        cases ws with
        | nil => unfold setsL at hps; cases hps
        | cons x xs =>
          rw [setsL] at hps
          cases hx : setL a0 f x with
          | error e => rw [hx] at hps; cases hps; exact setL_err _ _ _ _ hx
          | ok b => rw [hx] at hps; exact ih _ _ hps
    rw [hps] at HP
    have hkb : ((k : Int) != 0) = true := by rw [bne_iff_ne]; omega
    have HAC := Lib.hid fun u => acts_true ActD.zero (.slice none 0 0) (.slice none 0 0) u (Bs.nil u) (Bs.nil u)
    have hz : ActD.zero.cells (.slice none 0 0) = #[.int .i64 0, .int .i64 0, .int .i64 0, .int .i64 0, .string ⟨#[]⟩, .slice none 0 0, .int .u32 0] := rfl
    rw [hz] at HAC
    clear hps hk
    go_enter Tryz.func8, Tryz.ntmps8
    go_wp2_with fail
    refine HP.out.mono ?_
    rintro e w1 ⟨rfl, hb1⟩
    rw [hz]
    have HB1 := Lib.hid hb1
    clear hb1 hz
    go_wp2_with fail
    refine (HAC.out _).mono ?_
    rintro e w2 ⟨rfl, hb2⟩
    have HB2 := Lib.hid hb2
    clear hb2
    go_wp2
    go_ret
    exact ⟨rfl, HB1.out.trans (((Below.refl _ _).alloc (Nat.le_refl _) _).trans (HB2.out.mono (by simp)) |>.mono HB1.out.size)⟩
  | ok a =>
    obtain ⟨hfm, hok⟩ := parse_format _ _ hps
    rw [hps] at HP
    have HF := Lib.hid fun v u (hu : Below w.heap.size w u) (hv : Bs u v a.bytes) => format_any a v u (HE.out.below hu (Nat.le_refl _)) hok hv
    rw [hfm] at HF
    have hss : (⟨s.data.toList.toArray⟩ : ByteArray) = s := rfl
    clear hps hfm hok
    unfold ActD.cells at HF
    go_enter Tryz.func8, Tryz.ntmps8
    go_wp2_with fail
    refine HP.out.mono ?_
    rintro e w1 ⟨⟨v, rfl, hfr⟩, hb1⟩
    have HBS := Lib.hid hfr.bs
    have HB1 := Lib.hid hb1
    have HB3 := Lib.hid fun o => ((Below.refl w1.heap.size w1).alloc (Nat.le_refl _) o)
    clear hb1
    unfold ActD.cells
    rcases hfr with ⟨rfl, hl⟩ | ⟨g, rfl, hg⟩
    · clear hl
      go_wp2_with fail
      refine (HF.out _ _ (HB1.out.trans ((HB3.out _).mono HB1.out.size)) (HBS.out.below (HB3.out _))).mono ?_
      rintro e w2 ⟨rfl, hb2⟩
      have HB2 := Lib.hid hb2
      clear hb2
      go_wp2
      go_ret
      exact ⟨by simp, (HB1.out.trans ((HB3.out _).mono HB1.out.size)).trans (HB2.out.mono (Nat.le_trans HB1.out.size (HB3.out _).size))⟩
    · clear hg
      go_wp2_with fail
      refine (HF.out _ _ (HB1.out.trans ((HB3.out _).mono HB1.out.size)) (HBS.out.below (HB3.out _))).mono ?_
      rintro e w2 ⟨rfl, hb2⟩
      have HB2 := Lib.hid hb2
      clear hb2
      go_wp2
      go_ret
      exact ⟨by simp, (HB1.out.trans ((HB3.out _).mono HB1.out.size)).trans (HB2.out.mono (Nat.le_trans HB1.out.size (HB3.out _).size))⟩
end Go.Proofs.YtmnkdnpjcfmjgaaGreatDoor
