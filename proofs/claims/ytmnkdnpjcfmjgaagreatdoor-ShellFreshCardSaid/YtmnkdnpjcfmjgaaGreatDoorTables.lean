/- Package shell: the lines of tables. -/
import Derived.Test.YtmnkdnpjcfmjgaaGreatDoorLines
namespace Go.Proofs.YtmnkdnpjcfmjgaaGreatDoor
open Go.RowKit

/-- the words' writer, over the builder in block b -/
abbrev putV (b : Nat) : Value := .func (.func 17) #[] #[.pointer (some ⟨b, 0, none⟩)]

theorem line_room {α : Type} (acc : List UInt8) (l : List α) (f : α → List UInt8) (j : Nat) (x : α) (m : Nat) (h : l[j]? = some x) (hm : acc.length + (l.flatMap f).length ≤ m) : (acc ++ (l.take j).flatMap f).length + (f x).length ≤ m := by
  have h1 := congrArg List.length (flat_take l f j x h)
  have h2 := flat_le l f (j + 1)
  rw [List.length_append] at h1 ⊢
  omega

set_option maxRecDepth 100000 in
set_option maxHeartbeats 4000000 in
theorem tables_any (B b : Nat) (acc : List UInt8) (ahead : ByteArray) (t : TablesD) (v1 v2 v3 : Value) (w : World) (hE : Env1 B w) (hB : B ≤ w.heap.size) (hbld : Bld B b (Lib.byteCells acc) w)
    (hr : ∀ x ∈ t.routes, x.ok) (hn : ∀ x ∈ t.neighs, x.ok) (hf : ∀ x ∈ t.fdbs, x.ok)
    (h1 : RowOf B w v1 4 (t.routes.map RouteD.cells)) (h2 : RowOf B w v2 7 (t.neighs.map NeighD.cells)) (h3 : RowOf B w v3 7 (t.fdbs.map FdbD.cells))
    (ha : ahead.size ≤ 100) (hlen : acc.length + (tablesL ahead.data.toList t).length ≤ 140737488355328) :
    Calls Tryz.prog 27 #[.agg #[v1, v2, v3], .string ahead, putV b] w fun e w' => e = .returned (.tuple #[]) ∧ (Bld B b (Lib.byteCells (acc ++ tablesL ahead.data.toList t)) w' ∧ Fr B b w w') := by
  obtain ⟨a1, c1, rfl, hc1, hm1, hrow1⟩ := h1
  obtain ⟨a2, c2, rfl, hc2, hm2, hrow2⟩ := h2
  obtain ⟨a3, c3, rfl, hc3, hm3, hrow3⟩ := h3
  rw [List.length_map] at hc1 hm1 hc2 hm2 hc3 hm3
  obtain ⟨R, Ns, F⟩ := t
  simp only at *
  have hNb : w.heap.size ≠ b := fun e => by have := hbld.lt; omega
  have HNb := Lib.hid hNb
  have HR := Lib.hid hrow1
  have HN := Lib.hid hrow2
  have HF := Lib.hid hrow3
  have HRo := Lib.hid hr
  have HNo := Lib.hid hn
  have HFo := Lib.hid hf
  clear hrow1 hrow2 hrow3 hr hn hf
  have hm0 : ¬ 9223372036854775807 < ahead.size + 5 := by omega
  have hm00 : ¬ 9223372036854775807 < ahead.size + 3 := by omega
  have hlen1 : acc.length + (R.flatMap (routeLine ahead.data.toList)).length ≤ 140737488355328 := by
    simp only [tablesL, List.length_append] at hlen; omega
  have hlen2 : (acc ++ R.flatMap (routeLine ahead.data.toList)).length + (Ns.flatMap (neighLine ahead.data.toList)).length ≤ 140737488355328 := by
    simp only [tablesL, List.length_append] at hlen ⊢; omega
  have hlen3 : (acc ++ R.flatMap (routeLine ahead.data.toList) ++ Ns.flatMap (neighLine ahead.data.toList)).length + (F.flatMap (fdbLine ahead.data.toList)).length ≤ 140737488355328 := by
    simp only [tablesL, List.length_append] at hlen ⊢; omega
  have HL1 := Lib.hid hlen1
  have HL2 := Lib.hid hlen2
  have HL3 := Lib.hid hlen3
  clear hlen hlen1 hlen2 hlen3
  simp only [List.length_map] at HR HN HF ⊢
  have L0 : Lp w B b w.heap.size #[.slice a1 R.length c1, .slice a2 Ns.length c2, .slice a3 F.length c3] 38 acc (w.alloc (.cells #[.slice a1 R.length c1, .slice a2 Ns.length c2, .slice a3 F.length c3] 38)) := by
    have hb0 : Below w.heap.size w (w.alloc (.cells #[.slice a1 R.length c1, .slice a2 Ns.length c2, .slice a3 F.length c3] 38)) := (Below.refl _ _).alloc (Nat.le_refl _) _
    exact ⟨hE.step (hb0.mono hB), (Fr.refl _ _ _).grew hB hb0, Nat.le_trans hB hb0.size, heap_alloc_new w _, hbld.below hb0⟩
  have HL0 := Lib.hid L0
  clear L0 hbld hE
  go_enter Tryz.func27, Tryz.ntmps27
  go_wp2
  go_loopw [15] (fun p wr => ∃ j : Nat, j ≤ R.length ∧ p = .int .i64 j ∧ Lp w B b w.heap.size #[.slice a1 R.length c1, .slice a2 Ns.length c2, .slice a3 F.length c3] 38 (acc ++ (R.take j).flatMap (routeLine ahead.data.toList)) wr) (fun p wr => match p with | .int _ j => R.length - j.toNat | _ => 0)
  case atStart => exact ⟨0, by omega, rfl, by simpa using HL0.out⟩
  case round =>
    obtain ⟨j, hj, rfl, hL⟩ := hrel
    have HL := Lib.hid hL
    clear hL
    by_cases hjn : j < R.length
    · obtain ⟨blk, off, rfl, hblk, hcell⟩ := HR.out (by intro h; rw [List.map_eq_nil_iff] at h; subst h; simp at hjn)
      have hget : R[j]? = some R[j] := List.getElem?_eq_getElem hjn
      have hX0 := HRo.out R[j] (List.getElem_mem _)
      generalize R[j] = X at hget hX0
      have HO := Lib.hid hX0
      have hx := hcell j X.cells (by rw [List.getElem?_map, hget]; rfl)
      have HM := Lib.hid (line_room acc R (routeLine ahead.data.toList) j X _ hget HL1.out)
      have HT := Lib.hid (flat_take R (routeLine ahead.data.toList) j X hget)
      have hk : ∀ i u, X.cells[i]? = some u → wr.cell? ⟨blk, off + j * 4 + i, none⟩ = some u := fun i u hu => (HL.out.fr.1.cell (p := ⟨blk, off + j * 4 + i, none⟩) hblk).trans (hx i u hu)
      have k0 : wr.cell? ⟨blk, off + j * 4, none⟩ = _ := hk 0 _ rfl
      have k1 := hk 1 _ rfl
      have k2 := hk 2 _ rfl
      have k3 := hk 3 _ rfl
      clear hk hx hcell hget hX0
      have hj1 : IntKind.i64.wrap (↑j + 1) = ↑j + 1 := IntWalk.i64_in _ (by omega)
      have HLa := Lib.hid (HL.out.alloc (.cells #[.int .u32 X.a, .int .i64 X.n, .int .u32 X.via, .bool X.loc] 105))
      go_wp2_with fail
      refine (route_D X _ HO.out HLa.out.env.env).mono ?_
      rintro e w1 ⟨rfl, hb1⟩
      have HLb := Lib.hid (HLa.out.grew hb1)
      clear hb1
      go_wp2_with fail
      refine (HLb.out.putLit HNb.out (by decide) [ahead ++ ⟨#[114, 111, 117, 116, 101]⟩, ⟨X.text.toArray⟩] [ahead.data.toList ++ [114, 111, 117, 116, 101], X.text] _ _ rfl (by simp [ByteArray.data_append]) rfl (Nat.le_of_ble_eq_true rfl) HM.out).mono ?_
      rintro e w2 ⟨rfl, hl2, _⟩
      have HLc := Lib.hid hl2
      clear hl2
      go_wp2
      exact ⟨⟨j + 1, by omega, rfl, by rw [HT.out, ← List.append_assoc]; exact HLc.out⟩, by show R.length - ((j : Int) + 1).toNat < R.length - (j : Int).toNat; omega⟩
    · obtain rfl : j = R.length := by omega
      rw [List.take_length] at HL
      have q1 : wr.cell? ⟨w.heap.size, 1, none⟩ = some _ := HL.out.cell rfl
      go_wp2
      go_loopw [30] (fun p wr => ∃ j : Nat, j ≤ Ns.length ∧ p = .int .i64 j ∧ Lp w B b w.heap.size #[.slice a1 R.length c1, .slice a2 Ns.length c2, .slice a3 F.length c3] 38 (acc ++ R.flatMap (routeLine ahead.data.toList) ++ (Ns.take j).flatMap (neighLine ahead.data.toList)) wr) (fun p wr => match p with | .int _ j => Ns.length - j.toNat | _ => 0)
      case atStart => exact ⟨0, by omega, rfl, by simpa using HL.out⟩
      case round =>
        clear q1 HL
        obtain ⟨j, hj, rfl, hL⟩ := hrel
        have HL := Lib.hid hL
        clear hL
        by_cases hjn : j < Ns.length
        · obtain ⟨blk, off, rfl, hblk, hcell⟩ := HN.out (by intro h; rw [List.map_eq_nil_iff] at h; subst h; simp at hjn)
          have hget : Ns[j]? = some Ns[j] := List.getElem?_eq_getElem hjn
          have hX0 := HNo.out Ns[j] (List.getElem_mem _)
          generalize Ns[j] = X at hget hX0
          have HO := Lib.hid hX0
          have hx := hcell j X.cells (by rw [List.getElem?_map, hget]; rfl)
          have HM := Lib.hid (line_room _ Ns (neighLine ahead.data.toList) j X _ hget HL2.out)
          have HT := Lib.hid (flat_take Ns (neighLine ahead.data.toList) j X hget)
          have hk : ∀ i u, X.cells[i]? = some u → wr.cell? ⟨blk, off + j * 7 + i, none⟩ = some u := fun i u hu => (HL.out.fr.1.cell (p := ⟨blk, off + j * 7 + i, none⟩) hblk).trans (hx i u hu)
          have k0 : wr.cell? ⟨blk, off + j * 7, none⟩ = _ := hk 0 _ rfl
          have k1 := hk 1 _ rfl
          have k2 := hk 2 _ rfl
          have k3 := hk 3 _ rfl
          have k4 := hk 4 _ rfl
          have k5 := hk 5 _ rfl
          have k6 := hk 6 _ rfl
          clear hk hx hcell hget hX0
          have hj1 : IntKind.i64.wrap (↑j + 1) = ↑j + 1 := IntWalk.i64_in _ (by omega)
          have hl0 := (HL.out.alloc (.cells #[.int .u32 X.ip, .int .u8 X.mac.b.toNat, .int .u8 X.mac.c.toNat, .int .u8 X.mac.d.toNat, .int .u8 X.mac.e.toNat, .int .u8 X.mac.f.toNat, .int .u8 X.mac.g.toNat] 107)).drew
          have HLx : wr.heap.size ≠ b := fun e => by have := HL.out.bld.lt; omega
          have HLb := Lib.hid HLx
          clear HLx
          have k9 := Lib.hid hl0
          clear hl0
          go_wp2
          have hl0 := k9.out
          have HX0 := Lib.hid (Bx.new wr #[.int .u32 X.ip, .int .u8 X.mac.b.toNat, .int .u8 X.mac.c.toNat, .int .u8 X.mac.d.toNat, .int .u8 X.mac.e.toNat, .int .u8 X.mac.f.toNat, .int .u8 X.mac.g.toNat] 107)
          go_region_held3 (fun u => u.cell? ⟨wr.heap.size, 0, none⟩ = some (.int .u32 X.ip) ∧ u.cell? ⟨wr.heap.size, 1, none⟩ = some (.int .u8 X.mac.b.toNat) ∧ u.cell? ⟨wr.heap.size, 2, none⟩ = some (.int .u8 X.mac.c.toNat) ∧ u.cell? ⟨wr.heap.size, 3, none⟩ = some (.int .u8 X.mac.d.toNat) ∧ u.cell? ⟨wr.heap.size, 4, none⟩ = some (.int .u8 X.mac.e.toNat) ∧ u.cell? ⟨wr.heap.size, 5, none⟩ = some (.int .u8 X.mac.f.toNat) ∧ u.cell? ⟨wr.heap.size, 6, none⟩ = some (.int .u8 X.mac.g.toNat) ∧ Bx wr.heap.size #[.int .u32 X.ip, .int .u8 X.mac.b.toNat, .int .u8 X.mac.c.toNat, .int .u8 X.mac.d.toNat, .int .u8 X.mac.e.toNat, .int .u8 X.mac.f.toNat, .int .u8 X.mac.g.toNat] 107 u)
            ((refine (fun hk : Bx wr.heap.size #[.int .u32 X.ip, .int .u8 X.mac.b.toNat, .int .u8 X.mac.c.toNat, .int .u8 X.mac.d.toNat, .int .u8 X.mac.e.toNat, .int .u8 X.mac.f.toNat, .int .u8 X.mac.g.toNat] 107 _ => ⟨hk.cell rfl, hk.cell rfl, hk.cell rfl, hk.cell rfl, hk.cell rfl, hk.cell rfl, hk.cell rfl, hk⟩) ?_; first | exact HX0.out | (go_split_ands; exact Bx.fr (by assumption) HLb.out (by decide) hq1) | (go_split_ands; exact Bx.grew (by assumption) hb1) | (go_split_ands; exact Bx.grew (by assumption) (Joins.below_alloc1 _ _))))
            (first | (go_at_call 23; refine (addr_D _ _ HO.out).mono ?_; rintro e w1 ⟨rfl, hb1⟩; have hl1 := Lp.grew (by assumption) hb1) | (go_at_call 54; refine (mac_D X.mac _).mono ?_; rintro e w1 ⟨rfl, hb1⟩; have hl1 := Lp.grew (by assumption) hb1) | (go_at_call 17; refine (Lp.putLit (by assumption) HNb.out (by first | exact HTy.out | decide) [ahead ++ ⟨#[110, 101, 105, 103, 104]⟩, ⟨(addrL X.ip).toArray⟩, ⟨X.mac.text.toArray⟩] [ahead.data.toList ++ [110, 101, 105, 103, 104], addrL X.ip, X.mac.text] _ _ rfl (by simp [ByteArray.data_append]) rfl (Nat.le_of_ble_eq_true rfl) (HM.out)).mono ?_; rintro e w1 ⟨rfl, hl1, hq1⟩))
          have HLc := Lib.hid hl1
          clear hl1
          go_wp2
          exact ⟨⟨j + 1, by omega, rfl, by rw [HT.out, ← List.append_assoc]; exact HLc.out⟩, by show Ns.length - ((j : Int) + 1).toNat < Ns.length - (j : Int).toNat; omega⟩
        · obtain rfl : j = Ns.length := by omega
          rw [List.take_length] at HL
          have q1 : wr.cell? ⟨w.heap.size, 2, none⟩ = some _ := HL.out.cell rfl
          go_wp2
          go_loopw [49] (fun p wr => ∃ j : Nat, j ≤ F.length ∧ p = .int .i64 j ∧ Lp w B b w.heap.size #[.slice a1 R.length c1, .slice a2 Ns.length c2, .slice a3 F.length c3] 38 (acc ++ R.flatMap (routeLine ahead.data.toList) ++ Ns.flatMap (neighLine ahead.data.toList) ++ (F.take j).flatMap (fdbLine ahead.data.toList)) wr) (fun p wr => match p with | .int _ j => F.length - j.toNat | _ => 0)
          case atStart => exact ⟨0, by omega, rfl, by simpa using HL.out⟩
          case round =>
            clear q1 HL
            obtain ⟨j, hj, rfl, hL⟩ := hrel
            have HL := Lib.hid hL
            clear hL
            by_cases hjn : j < F.length
            · obtain ⟨blk, off, rfl, hblk, hcell⟩ := HF.out (by intro h; rw [List.map_eq_nil_iff] at h; subst h; simp at hjn)
              have hget : F[j]? = some F[j] := List.getElem?_eq_getElem hjn
              have hX0 := HFo.out F[j] (List.getElem_mem _)
              generalize F[j] = X at hget hX0
              have HO := Lib.hid hX0
              have hx := hcell j X.cells (by rw [List.getElem?_map, hget]; rfl)
              have HM := Lib.hid (line_room _ F (fdbLine ahead.data.toList) j X _ hget HL3.out)
              have HT := Lib.hid (flat_take F (fdbLine ahead.data.toList) j X hget)
              have hk : ∀ i u, X.cells[i]? = some u → wr.cell? ⟨blk, off + j * 7 + i, none⟩ = some u := fun i u hu => (HL.out.fr.1.cell (p := ⟨blk, off + j * 7 + i, none⟩) hblk).trans (hx i u hu)
              have k0 : wr.cell? ⟨blk, off + j * 7, none⟩ = _ := hk 0 _ rfl
              have k1 := hk 1 _ rfl
              have k2 := hk 2 _ rfl
              have k3 := hk 3 _ rfl
              have k4 := hk 4 _ rfl
              have k5 := hk 5 _ rfl
              have k6 := hk 6 _ rfl
              clear hk hx hcell hget hX0
              have hj1 : IntKind.i64.wrap (↑j + 1) = ↑j + 1 := IntWalk.i64_in _ (by omega)
              have hl0 := (HL.out.alloc (.cells #[.int .u8 X.mac.b.toNat, .int .u8 X.mac.c.toNat, .int .u8 X.mac.d.toNat, .int .u8 X.mac.e.toNat, .int .u8 X.mac.f.toNat, .int .u8 X.mac.g.toNat, .int .u32 X.dst] 109)).drew
              have HLx : wr.heap.size ≠ b := fun e => by have := HL.out.bld.lt; omega
              have HLb := Lib.hid HLx
              clear HLx
              have k9 := Lib.hid hl0
              clear hl0
              go_wp2
              have hl0 := k9.out
              have HX0 := Lib.hid (Bx.new wr #[.int .u8 X.mac.b.toNat, .int .u8 X.mac.c.toNat, .int .u8 X.mac.d.toNat, .int .u8 X.mac.e.toNat, .int .u8 X.mac.f.toNat, .int .u8 X.mac.g.toNat, .int .u32 X.dst] 109)
              go_region_held3 (fun u => u.cell? ⟨wr.heap.size, 0, none⟩ = some (.int .u8 X.mac.b.toNat) ∧ u.cell? ⟨wr.heap.size, 1, none⟩ = some (.int .u8 X.mac.c.toNat) ∧ u.cell? ⟨wr.heap.size, 2, none⟩ = some (.int .u8 X.mac.d.toNat) ∧ u.cell? ⟨wr.heap.size, 3, none⟩ = some (.int .u8 X.mac.e.toNat) ∧ u.cell? ⟨wr.heap.size, 4, none⟩ = some (.int .u8 X.mac.f.toNat) ∧ u.cell? ⟨wr.heap.size, 5, none⟩ = some (.int .u8 X.mac.g.toNat) ∧ u.cell? ⟨wr.heap.size, 6, none⟩ = some (.int .u32 X.dst) ∧ Bx wr.heap.size #[.int .u8 X.mac.b.toNat, .int .u8 X.mac.c.toNat, .int .u8 X.mac.d.toNat, .int .u8 X.mac.e.toNat, .int .u8 X.mac.f.toNat, .int .u8 X.mac.g.toNat, .int .u32 X.dst] 109 u)
                ((refine (fun hk : Bx wr.heap.size #[.int .u8 X.mac.b.toNat, .int .u8 X.mac.c.toNat, .int .u8 X.mac.d.toNat, .int .u8 X.mac.e.toNat, .int .u8 X.mac.f.toNat, .int .u8 X.mac.g.toNat, .int .u32 X.dst] 109 _ => ⟨hk.cell rfl, hk.cell rfl, hk.cell rfl, hk.cell rfl, hk.cell rfl, hk.cell rfl, hk.cell rfl, hk⟩) ?_; first | exact HX0.out | (go_split_ands; exact Bx.fr (by assumption) HLb.out (by decide) hq1) | (go_split_ands; exact Bx.grew (by assumption) hb1) | (go_split_ands; exact Bx.grew (by assumption) (Joins.below_alloc1 _ _))))
                (first | (go_at_call 54; refine (mac_D X.mac _).mono ?_; rintro e w1 ⟨rfl, hb1⟩; have hl1 := Lp.grew (by assumption) hb1) | (go_at_call 23; refine (addr_D _ _ HO.out).mono ?_; rintro e w1 ⟨rfl, hb1⟩; have hl1 := Lp.grew (by assumption) hb1) | (go_at_call 17; refine (Lp.putLit (by assumption) HNb.out (by first | exact HTy.out | decide) [ahead ++ ⟨#[102, 100, 98]⟩, ⟨X.mac.text.toArray⟩, ⟨(addrL X.dst).toArray⟩] [ahead.data.toList ++ [102, 100, 98], X.mac.text, addrL X.dst] _ _ rfl (by simp [ByteArray.data_append]) rfl (Nat.le_of_ble_eq_true rfl) (HM.out)).mono ?_; rintro e w1 ⟨rfl, hl1, hq1⟩))
              have HLc := Lib.hid hl1
              clear hl1
              go_wp2
              exact ⟨⟨j + 1, by omega, rfl, by rw [HT.out, ← List.append_assoc]; exact HLc.out⟩, by show F.length - ((j : Int) + 1).toNat < F.length - (j : Int).toNat; omega⟩
            · obtain rfl : j = F.length := by omega
              rw [List.take_length] at HL
              go_wp2
              go_end0
              refine ⟨rfl, ?_, HL.out.fr⟩
              rw [tablesL, ← List.append_assoc, ← List.append_assoc]
              exact HL.out.bld
end Go.Proofs.YtmnkdnpjcfmjgaaGreatDoor
