/- Package weftlaw20: first. -/
import Derived.Test.YtmnkdnpjcfmjgaaGreatDoorLaw
namespace Go.Proofs.YtmnkdnpjcfmjgaaGreatDoor
open Go.RowKit

theorem spoil_is : parseL [115, 112, 111, 105, 108, 32, 50, 32, 48, 32, 102, 102] = .ok ⟨17, 0, 0, 2, [], [255], 0⟩ := by kernel_rfl
theorem tick_is : parseL [116, 105, 99, 107, 32, 48, 53] = .error 201 := by kernel_rfl
theorem step_is : parseL [115, 116, 101, 112, 32, 48, 32, 45, 51] = .ok ⟨2, 0, -3, 0, [], [], 0⟩ := by kernel_rfl
theorem itoa0 : Lib.itoa 0 = [48] := by unfold Lib.itoa; rw [if_neg (by decide), show (0 : Int).toNat = 0 from rfl, Lib.decDigits_one (by decide)]; rfl
theorem itoa3 : Lib.itoa 3 = [51] := by unfold Lib.itoa; rw [if_neg (by decide), show (3 : Int).toNat = 3 from rfl, Lib.decDigits_one (by decide)]; rfl
theorem addr0 : addrL 0 = [48, 46, 48, 46, 48, 46, 48] := by
  show Lib.decDigits 0 ++ ([46] ++ (Lib.decDigits 0 ++ ([46] ++ (Lib.decDigits 0 ++ ([46] ++ Lib.decDigits 0))))) = _
  rw [Lib.decDigits_one (by decide)]; rfl
def view3 : ViewD := { has := false, lease := LeaseD.zero, cursor := 3, synced := false, degraded := false, leases := [], skipped := [], tabs := ⟨[], [], []⟩ }
def reply3 : ReplyD := ⟨0, 0, 0, 0, 0, [], [], ⟨[], [], []⟩, [], [], view3, [], [], []⟩
theorem reply_is : replyL reply3 = [101, 114, 114, 32, 48, 32, 110, 32, 48, 32, 118, 101, 114, 100, 105, 99, 116, 32, 48, 32, 119, 104, 121, 32, 48, 32, 114, 101, 113, 32, 48, 10, 118, 105, 101, 119, 32, 48, 32, 51, 32, 48, 32, 48, 10, 111, 119, 110, 32, 48, 32, 48, 46, 48, 46, 48, 46, 48, 47, 48, 32, 48, 46, 48, 46, 48, 46, 48, 32, 48, 48, 58, 48, 48, 58, 48, 48, 58, 48, 48, 58, 48, 48, 58, 48, 48, 32, 48, 32, 48, 10] := by
  have hv : viewL view3 = viewFull view3 := if_neg (fun h => by have := h.2.2.2.1; revert this; decide)
  have hh : headL reply3 = lineL [[101, 114, 114], Lib.itoa 0, [110], Lib.itoa 0, [118, 101, 114, 100, 105, 99, 116], Lib.itoa 0, [119, 104, 121], Lib.itoa 0, [114, 101, 113], Lib.itoa 0] := rfl
  unfold replyL
  rw [show reply3.view = view3 from rfl, hv, hh, itoa0]
  have hf : viewFull view3 = lineL [[118, 105, 101, 119], [48], Lib.itoa 3, [48], [48]] ++ (lineL [[111, 119, 110], LeaseD.zero.text] ++ []) := rfl
  have hl : LeaseD.zero.text = [48, 32, 48, 46, 48, 46, 48, 46, 48, 47, 48, 32, 48, 46, 48, 46, 48, 46, 48, 32, 48, 48, 58, 48, 48, 58, 48, 48, 58, 48, 48, 58, 48, 48, 58, 48, 48, 32, 48, 32, 48] := by
    show leaseL 0 0 0 0 0 0 0 0 0 0 0 0 = _
    unfold leaseL prefixL
    rw [itoa0, addr0]; rfl
  rw [hf, hl, itoa3]
  rfl

theorem row_nil (B : Nat) (w : World) (sz : Nat) : RowOf B w (.slice none 0 0) sz [] := ⟨none, 0, rfl, Nat.le_refl _, by simp, fun h => absurd rfl h⟩
theorem i64_0 : I64 0 := by constructor <;> decide
theorem i64_3 : I64 3 := by constructor <;> decide
theorem reply3_any (w : World) (hE : Env w) : Calls Tryz.prog 9 #[.agg #[.int .i64 0, .int .i64 0, .int .i64 0, .int .i64 0, .int .i64 0, .slice none 0 0, .slice none 0 0, .slice none 0 0, .slice none 0 0, .slice none 0 0, .slice none 0 0, .slice none 0 0, .bool false, .int .i64 0, .int .u32 0, .int .i64 0, .int .u32 0, .int .u8 0, .int .u8 0, .int .u8 0, .int .u8 0, .int .u8 0, .int .u8 0, .int .i64 0, .int .i64 0, .int .i64 3, .bool false, .bool false, .slice none 0 0, .slice none 0 0, .slice none 0 0, .slice none 0 0, .slice none 0 0, .slice none 0 0, .slice none 0 0, .slice none 0 0]] w fun e w' => e = .returned (.string ⟨#[101, 114, 114, 32, 48, 32, 110, 32, 48, 32, 118, 101, 114, 100, 105, 99, 116, 32, 48, 32, 119, 104, 121, 32, 48, 32, 114, 101, 113, 32, 48, 10, 118, 105, 101, 119, 32, 48, 32, 51, 32, 48, 32, 48, 10, 111, 119, 110, 32, 48, 32, 48, 46, 48, 46, 48, 46, 48, 47, 48, 32, 48, 46, 48, 46, 48, 46, 48, 32, 48, 48, 58, 48, 48, 58, 48, 48, 58, 48, 48, 58, 48, 48, 58, 48, 48, 32, 48, 32, 48, 10]⟩) ∧ Below w.heap.size w w' := by
  have hok : reply3.Ok w := by
    have hz : LeaseD.zero.ok := by unfold LeaseD.ok LeaseD.zero; refine ⟨i64_0, by decide, i64_0, by decide, i64_0, i64_0⟩
    refine ⟨i64_0, i64_0, i64_0, i64_0, i64_0, ?_, ?_, ?_, ?_, ?_, ?_, ?_, hz, i64_3, ?_, ?_, ?_, ?_, ?_, ?_, by decide, by decide, by decide⟩ <;> (intro x hx; cases hx)
  have hat : reply3.At w.heap.size w (.slice none 0 0) (.slice none 0 0) (.slice none 0 0) (.slice none 0 0) (.slice none 0 0) (.slice none 0 0) (.slice none 0 0) (.slice none 0 0) (.slice none 0 0) (.slice none 0 0) (.slice none 0 0) (.slice none 0 0) (.slice none 0 0) (.slice none 0 0) (.slice none 0 0) := by
    refine ⟨?_, ?_, ?_, ?_, ?_, ?_, ?_, ?_, ?_, ?_, ?_, ?_, ?_, Bs.nil w, Bs.nil w⟩ <;> exact row_nil _ _ _
  have h := reply_any reply3 (.slice none 0 0) (.slice none 0 0) (.slice none 0 0) (.slice none 0 0) (.slice none 0 0) (.slice none 0 0) (.slice none 0 0) (.slice none 0 0) (.slice none 0 0) (.slice none 0 0) (.slice none 0 0) (.slice none 0 0) (.slice none 0 0) (.slice none 0 0) (.slice none 0 0) w hE hok hat (by rw [reply_is]; decide)
  rw [reply_is] at h
  exact h
/-- a list of bytes that is laid anew -/
theorem bs_new (u : World) (n : Nat) (l : List UInt8) (hn : n = u.heap.size) (hl : l.length ≤ maxLen) {cs : Array Value} (hcs : cs = (Lib.byteCells l).toArray) : Bs (u.alloc (.cells cs 5)) (.slice (some ⟨n, 0, none⟩) l.length l.length) l := by
  subst hn hcs
  refine ⟨_, _, rfl, hl, fun _ => ⟨u.heap.size, 0, rfl, by simp, fun j x hx => ?_⟩⟩
  have := cells_new u (Lib.byteCells l) 5 j (.int .u8 x.toNat) (by rw [Lib.byteCells, List.getElem?_map, hx]; rfl)
  have e : (⟨u.heap.size, 0, none⟩ : Addr).add j = ⟨u.heap.size, 0 + j, none⟩ := by unfold Addr.add; split <;> simp_all
  rwa [e] at this

set_option maxRecDepth 100000 in
set_option maxHeartbeats 4000000 in
theorem first_any (w : World) (hE : Env w) : Calls Tryz.prog 6 #[] w fun e w' => e = .returned (.bool true) ∧ Below w.heap.size w w' := by
  have HP1 := Lib.hid fun u (hu : Below w.heap.size w u) => parse_any ⟨#[115, 112, 111, 105, 108, 32, 50, 32, 48, 32, 102, 102]⟩ u (hE.below hu (Nat.le_refl _)) (by decide)
  rw [show (⟨#[115, 112, 111, 105, 108, 32, 50, 32, 48, 32, 102, 102]⟩ : ByteArray).data.toList = [115, 112, 111, 105, 108, 32, 50, 32, 48, 32, 102, 102] from rfl, spoil_is] at HP1
  have HP2 := Lib.hid fun u (hu : Below w.heap.size w u) => parse_any ⟨#[116, 105, 99, 107, 32, 48, 53]⟩ u (hE.below hu (Nat.le_refl _)) (by decide)
  rw [show (⟨#[116, 105, 99, 107, 32, 48, 53]⟩ : ByteArray).data.toList = [116, 105, 99, 107, 32, 48, 53] from rfl, tick_is] at HP2
  obtain ⟨hsf, hso⟩ := parse_format _ _ step_is
  have HF := Lib.hid fun u (hu : Below w.heap.size w u) => format_any ⟨2, 0, -3, 0, [], [], 0⟩ (.slice none 0 0) u (hE.below hu (Nat.le_refl _)) hso (Bs.nil u)
  rw [hsf] at HF
  have HR := Lib.hid fun u (hu : Below w.heap.size w u) => reply3_any u (hE.below hu (Nat.le_refl _))
  have HAC := Lib.hid fun v1 v2 u => acts_true ⟨17, 0, 0, 2, [], [255], 0⟩ v1 v2 u
  clear hsf hso
  unfold ActD.cells at HF HAC
  go_enter Tryz.func6, Tryz.ntmps6
  go_wp2_with fail
  refine (HP1.out _ (Below.refl _ _)).mono ?_
  rintro e w1 ⟨⟨v, rfl, hfr⟩, hb1⟩
  have HBS := Lib.hid hfr.bs
  have HB1 := Lib.hid hb1
  unfold ActD.cells
  rcases hfr with ⟨rfl, hl⟩ | ⟨g, rfl, hg⟩
  · cases hl
  · clear hg hb1
    go_wp2_with fail
    refine (HAC.out _ _ _ (HBS.out.below (((Below.refl _ _).alloc (Nat.le_refl _) _).alloc (by simp) _)) (bs_new _ _ [255] (by simp) (by decide) rfl)).mono ?_
    rintro e w2 ⟨rfl, hb2⟩
    have hw2 := HB1.out.trans ((((Below.refl _ w1).alloc (Nat.le_refl _) (.cells #[.int .i64 17, .int .i64 0, .int .i64 0, .int .i64 2, .string ⟨#[]⟩, .slice (some ⟨g, 0, none⟩) 1 1, .int .u32 0] 26)).alloc (by simp) (.cells #[.int .u8 255] 5)).trans (hb2.mono (by simp; omega)) |>.mono HB1.out.size)
    have HW2 := Lib.hid hw2
    clear hb2 hw2
    go_wp2_with fail
    refine (HF.out _ HW2.out).mono ?_
    rintro e w3 ⟨rfl, hb3⟩
    have hw3 := HW2.out.trans (hb3.mono HW2.out.size)
    have HW3 := Lib.hid hw3
    clear hb3 hw3
    go_wp2_with fail
    refine (HP2.out _ HW3.out).mono ?_
    rintro e w4 ⟨rfl, hb4⟩
    have hw4 := HW3.out.trans (hb4.mono HW3.out.size)
    have HW4 := Lib.hid hw4
    clear hb4 hw4
    unfold ActD.cells
    go_wp2_with fail
    refine (HR.out _ (HW4.out.trans (((Below.refl _ _).alloc (Nat.le_refl _) _).mono HW4.out.size))).mono ?_
    rintro e w5 ⟨rfl, hb5⟩
    have HB5 := Lib.hid hb5
    clear hb5
    go_wp2
    go_ret
    exact ⟨rfl, HW4.out.trans (((Below.refl _ _).alloc (Nat.le_refl _) _).trans (HB5.out.mono (by simp)) |>.mono HW4.out.size)⟩

theorem act12_ok : (⟨12, 2, 0, 0, [], [1, 254], 0⟩ : ActD).Ok := by
  constructor <;> simp

set_option maxRecDepth 100000 in
set_option maxHeartbeats 4000000 in
/-- ShellBack answers true -/
theorem shellBack_any (a : ActD) (v : Value) (s : ByteArray) (w : World) (hE : Env w) (hok : a.Ok) (hbs : Bs w v a.bytes) (hs : s.size ≤ 140737488351232) :
    Calls Tryz.prog 3 #[.agg (a.cells v), .string s] w fun e w' => e = .returned (.bool true) ∧ Below w.heap.size w w' := by
  obtain ⟨p1, c1, rfl, -, -⟩ := id hbs
  have hb0 := (Below.refl w.heap.size w).alloc (Nat.le_refl _) (.cells (a.cells (.slice p1 a.bytes.length c1)) 26)
  have hbx : (w.alloc (.cells (a.cells (.slice p1 a.bytes.length c1)) 26)).heap[w.heap.size]? = some (.cells (a.cells (.slice p1 a.bytes.length c1)) 26 (0, 0)) := heap_alloc_new w _
  have HF := Lib.hid fun u (hu : Below w.heap.size w u) => first_any u (hE.below hu (Nat.le_refl _))
  have HA := Lib.hid fun u (hu : Below w.heap.size w u) => actBack_any a (.slice p1 a.bytes.length c1) u (hE.below hu (Nat.le_refl _)) hok (hbs.below hu)
  have H12 := Lib.hid fun v u (hu : Below w.heap.size w u) hv => actBack_any ⟨12, 2, 0, 0, [], [1, 254], 0⟩ v u (hE.below hu (Nat.le_refl _)) act12_ok hv
  have HL := Lib.hid fun t u (hu : Below w.heap.size w u) ht => lineBack_any t u (hE.below hu (Nat.le_refl _)) ht
  have HX := Lib.hid hbx
  have HB0 := Lib.hid hb0
  clear hb0 hbx hE hbs
  unfold ActD.cells at HA H12 HX HB0 ⊢
  go_enter Tryz.func3, Tryz.ntmps3
  go_wp2_with fail
  refine (HF.out _ HB0.out).mono ?_
  rintro e w1 ⟨rfl, hb1⟩
  have hw1 := HB0.out.trans (hb1.mono HB0.out.size)
  have hx1 := (hb1.block w.heap.size (by simp)).trans HX.out
  have HW1 := Lib.hid hw1
  have HX1 := Lib.hid hx1
  clear hb1 hw1 hx1
  go_wp2_with fail
  refine (H12.out _ _ (HW1.out.trans (((Below.refl _ _).alloc (Nat.le_refl _) _).mono HW1.out.size)) (bs_new _ _ [1, 254] rfl (by decide) rfl)).mono ?_
  rintro e w2 ⟨rfl, hb2⟩
  have hw2 := (HW1.out.trans (((Below.refl _ _).alloc (Nat.le_refl _) (.cells #[.int .u8 1, .int .u8 254] 5)).mono HW1.out.size)).trans (hb2.mono (by have := HW1.out.size; simp; omega))
  have hx2 := (hb2.block w.heap.size (by have := (Array.getElem?_eq_some_iff.1 HX1.out).1; simp; omega)).trans ((Lib.alloc_old _ _ _ (Array.getElem?_eq_some_iff.1 HX1.out).1).trans HX1.out)
  have HW2 := Lib.hid hw2
  have HX2 := Lib.hid hx2
  clear hb2 hw2 hx2
  go_wp2_with fail
  refine (HL.out _ _ HW2.out (by decide)).mono ?_
  rintro e w3 ⟨rfl, hb3⟩
  have hw3 := HW2.out.trans (hb3.mono HW2.out.size)
  have hx3 := (hb3.block w.heap.size (Array.getElem?_eq_some_iff.1 HX2.out).1).trans HX2.out
  have HW3 := Lib.hid hw3
  have HX3 := Lib.hid hx3
  clear hb3 hw3 hx3
  have q0 : w3.cell? ⟨w.heap.size, 0, none⟩ = some (.int .i64 a.kind) := by rw [Joins.cell_of_block (i := 0) HX3.out]; rfl
  have q1 : w3.cell? ⟨w.heap.size, 1, none⟩ = some (.int .i64 a.host) := by rw [Joins.cell_of_block (i := 1) HX3.out]; rfl
  have q2 : w3.cell? ⟨w.heap.size, 2, none⟩ = some (.int .i64 a.n) := by rw [Joins.cell_of_block (i := 2) HX3.out]; rfl
  have q3 : w3.cell? ⟨w.heap.size, 3, none⟩ = some (.int .i64 a.place) := by rw [Joins.cell_of_block (i := 3) HX3.out]; rfl
  have q4 : w3.cell? ⟨w.heap.size, 4, none⟩ = some (.string ⟨a.name.toArray⟩) := by rw [Joins.cell_of_block (i := 4) HX3.out]; rfl
  have q5 : w3.cell? ⟨w.heap.size, 5, none⟩ = some (.slice p1 a.bytes.length c1) := by rw [Joins.cell_of_block (i := 5) HX3.out]; rfl
  have q6 : w3.cell? ⟨w.heap.size, 6, none⟩ = some (.int .u32 a.addr) := by rw [Joins.cell_of_block (i := 6) HX3.out]; rfl
  go_wp2_with fail
  refine (HA.out _ HW3.out).mono ?_
  rintro e w4 ⟨rfl, hb4⟩
  have hw4 := HW3.out.trans (hb4.mono HW3.out.size)
  have HW4 := Lib.hid hw4
  clear hb4 hw4
  go_wp2_with fail
  refine (HL.out _ _ HW4.out hs).mono ?_
  rintro e w5 ⟨rfl, hb5⟩
  have HB5 := Lib.hid hb5
  clear hb5
  go_wp2
  go_ret
  exact ⟨rfl, HW4.out.trans (HB5.out.mono HW4.out.size)⟩
end Go.Proofs.YtmnkdnpjcfmjgaaGreatDoor
