/- Package shell: the lines of a view. -/
import Derived.Test.YtmnkdnpjcfmjgaaGreatDoorTables
import Derived.Test.YtmnkdnpjcfmjgaaGreatDoorEqs
import Derived.Deep.DeepCutAuto
namespace Go.Proofs.YtmnkdnpjcfmjgaaGreatDoor
open Go.RowKit

def bitL (b : Bool) : List UInt8 := if b then [49] else [48]
theorem bit_D (b : Bool) (w : World) : Calls Tryz.prog 56 #[.bool b] w fun e w' => e = .returned (.string ⟨(bitL b).toArray⟩) ∧ Below w.heap.size w w' :=
  (bit_any b w).mono fun e w' ⟨he, hw⟩ => ⟨he, hw ▸ Below.refl _ _⟩
theorem int_D (x : Int) (w : World) (h : I64 x) (hE : Env w) : Calls Tryz.prog 22 #[.int .i64 x, .int .i64 10] w fun e w' => e = .returned (.string ⟨(Lib.itoa x).toArray⟩) ∧ Below w.heap.size w w' := formatInt_any x w h.1 h.2 hE
theorem num_D (x : Int) (w : World) (h : I64 x) (hE : Env w) : Calls Tryz.prog 21 #[.int .i64 x] w fun e w' => e = .returned (.string ⟨(Lib.itoa x).toArray⟩) ∧ Below w.heap.size w w' := num_any x w h.1 h.2 hE

def LeaseD.zero : LeaseD := ⟨0, 0, 0, 0, ⟨0, 0, 0, 0, 0, 0⟩, 0, 0⟩
structure ViewD where
  has : Bool
  lease : LeaseD
  cursor : Int
  synced : Bool
  degraded : Bool
  leases : List LeaseD
  skipped : List PrefixD
  tabs : TablesD
def ViewD.lists (v : ViewD) : Nat := v.leases.length + v.skipped.length + v.tabs.routes.length + v.tabs.neighs.length + v.tabs.fdbs.length
def ViewD.Empty (v : ViewD) : Prop := v.lists = 0 ∧ v.has = false ∧ v.lease = LeaseD.zero ∧ v.cursor = 0 ∧ v.synced = false ∧ v.degraded = false
instance (v : ViewD) : Decidable v.Empty := by unfold ViewD.Empty; infer_instance
def viewFull (v : ViewD) : List UInt8 :=
  lineL [[118, 105, 101, 119], bitL v.has, Lib.itoa v.cursor, bitL v.synced, bitL v.degraded] ++ (lineL [[111, 119, 110], v.lease.text] ++ (v.leases.flatMap knowsLine ++ (v.skipped.flatMap skippedLine ++ tablesL [104, 97, 115, 45] v.tabs)))
def viewL (v : ViewD) : List UInt8 := if v.Empty then [] else viewFull v

set_option maxRecDepth 100000 in
set_option maxHeartbeats 8000000 in
theorem view_any (B b : Nat) (acc : List UInt8) (has : Bool) (L : LeaseD) (cur : Int) (syn deg : Bool) (Ls : List LeaseD) (Sk : List PrefixD) (R : List RouteD) (Ns : List NeighD) (F : List FdbD) (v5 v6 v1 v2 v3 : Value) (w : World) (hE : Env1 B w) (hB : B ≤ w.heap.size) (hbld : Bld B b (Lib.byteCells acc) w)
    (hL : L.ok) (hcur : I64 cur) (hls : ∀ x ∈ Ls, x.ok) (hsk : ∀ x ∈ Sk, x.ok) (hr : ∀ x ∈ R, x.ok) (hn : ∀ x ∈ Ns, x.ok) (hf : ∀ x ∈ F, x.ok)
    (h5 : RowOf B w v5 12 (Ls.map LeaseD.cells)) (h6 : RowOf B w v6 2 (Sk.map PrefixD.cells)) (h1 : RowOf B w v1 4 (R.map RouteD.cells)) (h2 : RowOf B w v2 7 (Ns.map NeighD.cells)) (h3 : RowOf B w v3 7 (F.map FdbD.cells))
    (hlen : acc.length + (viewL ⟨has, L, cur, syn, deg, Ls, Sk, ⟨R, Ns, F⟩⟩).length ≤ 140737488355328) :
    Calls Tryz.prog 28 #[.agg #[.bool has, .int .i64 L.host, .int .u32 L.a, .int .i64 L.n, .int .u32 L.pub, .int .u8 L.mac.b.toNat, .int .u8 L.mac.c.toNat, .int .u8 L.mac.d.toNat, .int .u8 L.mac.e.toNat, .int .u8 L.mac.f.toNat, .int .u8 L.mac.g.toNat, .int .i64 L.till, .int .i64 L.rev, .int .i64 cur, .bool syn, .bool deg, v5, v6, v1, v2, v3], putV b] w fun e w' => e = .returned (.tuple #[]) ∧ (Bld B b (Lib.byteCells (acc ++ viewL ⟨has, L, cur, syn, deg, Ls, Sk, ⟨R, Ns, F⟩⟩)) w' ∧ Fr B b w w') := by
  have HR := Lib.hid h1
  have HN := Lib.hid h2
  have HF := Lib.hid h3
  have H5 := Lib.hid h5
  have H6 := Lib.hid h6
  obtain ⟨a5, c5, rfl, hc5, hm5, hrow5⟩ := h5
  obtain ⟨a6, c6, rfl, hc6, hm6, hrow6⟩ := h6
  obtain ⟨a1, c1, rfl, hc1, hm1, hrow1⟩ := h1
  obtain ⟨a2, c2, rfl, hc2, hm2, hrow2⟩ := h2
  obtain ⟨a3, c3, rfl, hc3, hm3, hrow3⟩ := h3
  rw [List.length_map] at hc1 hm1 hc2 hm2 hc3 hm3 hc5 hm5 hc6 hm6
  have HK := Lib.hid hrow5
  have HS := Lib.hid hrow6
  clear hrow1 hrow2 hrow3 hrow5 hrow6 H5 H6
  have HRo := Lib.hid hr
  have HNo := Lib.hid hn
  have HFo := Lib.hid hf
  have HKo := Lib.hid hls
  have HSo := Lib.hid hsk
  have HLo := Lib.hid hL
  have HCo := Lib.hid hcur
  clear hr hn hf hls hsk hL hcur
  have hNb : w.heap.size ≠ b := fun e => by have := hbld.lt; omega
  have HNb := Lib.hid hNb
  clear hNb
  simp only [List.length_map] at HR HN HF HK HS ⊢
  have L0 : Lp w B b w.heap.size #[.bool has, .int .i64 L.host, .int .u32 L.a, .int .i64 L.n, .int .u32 L.pub, .int .u8 L.mac.b.toNat, .int .u8 L.mac.c.toNat, .int .u8 L.mac.d.toNat, .int .u8 L.mac.e.toNat, .int .u8 L.mac.f.toNat, .int .u8 L.mac.g.toNat, .int .i64 L.till, .int .i64 L.rev, .int .i64 cur, .bool syn, .bool deg, .slice a5 Ls.length c5, .slice a6 Sk.length c6, .slice a1 R.length c1, .slice a2 Ns.length c2, .slice a3 F.length c3] 49 acc (w.alloc (.cells #[.bool has, .int .i64 L.host, .int .u32 L.a, .int .i64 L.n, .int .u32 L.pub, .int .u8 L.mac.b.toNat, .int .u8 L.mac.c.toNat, .int .u8 L.mac.d.toNat, .int .u8 L.mac.e.toNat, .int .u8 L.mac.f.toNat, .int .u8 L.mac.g.toNat, .int .i64 L.till, .int .i64 L.rev, .int .i64 cur, .bool syn, .bool deg, .slice a5 Ls.length c5, .slice a6 Sk.length c6, .slice a1 R.length c1, .slice a2 Ns.length c2, .slice a3 F.length c3] 49)) := by
    have hb0 : Below w.heap.size w (w.alloc (.cells #[.bool has, .int .i64 L.host, .int .u32 L.a, .int .i64 L.n, .int .u32 L.pub, .int .u8 L.mac.b.toNat, .int .u8 L.mac.c.toNat, .int .u8 L.mac.d.toNat, .int .u8 L.mac.e.toNat, .int .u8 L.mac.f.toNat, .int .u8 L.mac.g.toNat, .int .i64 L.till, .int .i64 L.rev, .int .i64 cur, .bool syn, .bool deg, .slice a5 Ls.length c5, .slice a6 Sk.length c6, .slice a1 R.length c1, .slice a2 Ns.length c2, .slice a3 F.length c3] 49)) := (Below.refl _ _).alloc (Nat.le_refl _) _
    exact ⟨hE.step (hb0.mono hB), (Fr.refl _ _ _).grew hB hb0, Nat.le_trans hB hb0.size, heap_alloc_new w _, hbld.below hb0⟩
  have HL0 := Lib.hid L0
  clear L0 hbld hE
  have HLen := Lib.hid hlen
  clear hlen
  have s1 : IntKind.i64.wrap ((Ls.length : Int) + Sk.length) = Ls.length + Sk.length := IntWalk.i64_in _ (by omega)
  have s2 : IntKind.i64.wrap ((Ls.length : Int) + Sk.length + R.length) = Ls.length + Sk.length + R.length := IntWalk.i64_in _ (by omega)
  have s3 : IntKind.i64.wrap ((Ls.length : Int) + Sk.length + R.length + Ns.length) = Ls.length + Sk.length + R.length + Ns.length := IntWalk.i64_in _ (by omega)
  have s4 : IntKind.i64.wrap ((Ls.length : Int) + Sk.length + R.length + Ns.length + F.length) = Ls.length + Sk.length + R.length + Ns.length + F.length := IntWalk.i64_in _ (by omega)
  obtain ⟨b0, hb0⟩ : ∃ b0, b0 = decide (ViewD.Empty ⟨has, L, cur, syn, deg, Ls, Sk, ⟨R, Ns, F⟩⟩) := ⟨_, rfl⟩
  have HB0 := Lib.hid hb0
  clear hb0
  go_enter Tryz.func28, Tryz.ntmps28
  go_upto_region 2 with fail
  go_cut [58] (fun s wx => s = .bool b0 ∧ wx = w.alloc (.cells #[.bool has, .int .i64 L.host, .int .u32 L.a, .int .i64 L.n, .int .u32 L.pub, .int .u8 L.mac.b.toNat, .int .u8 L.mac.c.toNat, .int .u8 L.mac.d.toNat, .int .u8 L.mac.e.toNat, .int .u8 L.mac.f.toNat, .int .u8 L.mac.g.toNat, .int .i64 L.till, .int .i64 L.rev, .int .i64 cur, .bool syn, .bool deg, .slice a5 Ls.length c5, .slice a6 Sk.length c6, .slice a1 R.length c1, .slice a2 Ns.length c2, .slice a3 F.length c3] 49))
  case first =>
    by_cases z1 : Ls.length + Sk.length + R.length + Ns.length + F.length = 0
    · have e1 : ((Ls.length : Int) + Sk.length + R.length + Ns.length + F.length == 0) = true := by rw [beq_iff_eq]; omega
      have Z1 := Lib.hid z1
      clear z1
      cases has
      · by_cases z2 : L = LeaseD.zero
        · have Z2 := Lib.hid z2
          have hq := fun W => (lease_eq L LeaseD.zero W).trans (by rw [decide_eq_true z2] : _ = Result.ok (Value.bool true) W)
          have hq2 : ∀ W, (binOp .eql 46 (.agg #[.int .i64 L.host, .int .u32 L.a, .int .i64 L.n, .int .u32 L.pub, .int .u8 L.mac.b.toNat, .int .u8 L.mac.c.toNat, .int .u8 L.mac.d.toNat, .int .u8 L.mac.e.toNat, .int .u8 L.mac.f.toNat, .int .u8 L.mac.g.toNat, .int .i64 L.till, .int .i64 L.rev]) (.agg #[.int .i64 0, .int .u32 0, .int .i64 0, .int .u32 0, .int .u8 0, .int .u8 0, .int .u8 0, .int .u8 0, .int .u8 0, .int .u8 0, .int .i64 0, .int .i64 0])).run Tryz.prog W = .ok (.bool true) W := hq
          clear z2 hq
          by_cases z3 : cur = 0
          · subst z3
            cases syn
            · cases deg
              · go_wp2
                go_meet
                exact ⟨congrArg Value.bool (HB0.out.trans (decide_eq_true ⟨Z1.out, rfl, Z2.out, rfl, rfl, rfl⟩)).symm, rfl⟩
              · go_wp2
                go_meet
                exact ⟨congrArg Value.bool (HB0.out.trans (decide_eq_false fun h => by have := h.2.2.2.2.2; cases this)).symm, rfl⟩
            · go_wp2
              go_meet
              exact ⟨congrArg Value.bool (HB0.out.trans (decide_eq_false fun h => by have := h.2.2.2.2.1; cases this)).symm, rfl⟩
          · have Z3 := Lib.hid z3
            have e3 : (cur == 0) = false := by simpa using z3
            clear z3
            go_wp2
            go_meet
            exact ⟨congrArg Value.bool (HB0.out.trans (decide_eq_false fun h => Z3.out h.2.2.2.1)).symm, rfl⟩
        · have Z2 := Lib.hid z2
          have hq := fun W => (lease_eq L LeaseD.zero W).trans (by rw [decide_eq_false z2] : _ = Result.ok (Value.bool false) W)
          have hq2 : ∀ W, (binOp .eql 46 (.agg #[.int .i64 L.host, .int .u32 L.a, .int .i64 L.n, .int .u32 L.pub, .int .u8 L.mac.b.toNat, .int .u8 L.mac.c.toNat, .int .u8 L.mac.d.toNat, .int .u8 L.mac.e.toNat, .int .u8 L.mac.f.toNat, .int .u8 L.mac.g.toNat, .int .i64 L.till, .int .i64 L.rev]) (.agg #[.int .i64 0, .int .u32 0, .int .i64 0, .int .u32 0, .int .u8 0, .int .u8 0, .int .u8 0, .int .u8 0, .int .u8 0, .int .u8 0, .int .i64 0, .int .i64 0])).run Tryz.prog W = .ok (.bool false) W := hq
          clear z2 hq
          go_wp2
          go_meet
          exact ⟨congrArg Value.bool (HB0.out.trans (decide_eq_false fun h => Z2.out h.2.2.1)).symm, rfl⟩
      · go_wp2
        go_meet
        exact ⟨congrArg Value.bool (HB0.out.trans (decide_eq_false fun h => by have := h.2.1; cases this)).symm, rfl⟩
    · have e1 : ((Ls.length : Int) + Sk.length + R.length + Ns.length + F.length == 0) = false := by rw [beq_eq_false_iff_ne]; omega
      have Z1 := Lib.hid z1
      clear z1
      go_wp2
      go_meet
      exact ⟨congrArg Value.bool (HB0.out.trans (decide_eq_false fun h => Z1.out h.1)).symm, rfl⟩
  case rest =>
    obtain ⟨rfl, rfl⟩ := hcut
    cases b0
    case true =>
      go_wp2
      (try simp only [Exit.inBlock, Exit.then])
      refine bodyPost_ret (results_none rfl _ _ _) rfl ?_
      have he : viewL ⟨has, L, cur, syn, deg, Ls, Sk, ⟨R, Ns, F⟩⟩ = [] := if_pos (of_decide_eq_true HB0.out.symm)
      rw [he, List.append_nil]
      exact ⟨rfl, HL0.out.bld, HL0.out.fr⟩
    case false =>
      have hfull : viewL ⟨has, L, cur, syn, deg, Ls, Sk, ⟨R, Ns, F⟩⟩ = viewFull ⟨has, L, cur, syn, deg, Ls, Sk, ⟨R, Ns, F⟩⟩ := if_neg (of_decide_eq_false HB0.out.symm)
      have HFull := Lib.hid hfull
      have hl := HLen.out
      rw [hfull] at hl
      unfold viewFull at hl
      simp only [List.length_append] at hl
      have hlen1 : acc.length + (lineL [[118, 105, 101, 119], bitL has, Lib.itoa cur, bitL syn, bitL deg]).length ≤ 140737488355328 := by omega
      have hlen2 : (acc ++ lineL [[118, 105, 101, 119], bitL has, Lib.itoa cur, bitL syn, bitL deg]).length + (lineL [[111, 119, 110], L.text]).length ≤ 140737488355328 := by rw [List.length_append]; omega
      have hlen3 : (acc ++ lineL [[118, 105, 101, 119], bitL has, Lib.itoa cur, bitL syn, bitL deg] ++ lineL [[111, 119, 110], L.text]).length + (Ls.flatMap knowsLine).length ≤ 140737488355328 := by simp only [List.length_append]; omega
      have hlen4 : (acc ++ lineL [[118, 105, 101, 119], bitL has, Lib.itoa cur, bitL syn, bitL deg] ++ lineL [[111, 119, 110], L.text] ++ Ls.flatMap knowsLine).length + (Sk.flatMap skippedLine).length ≤ 140737488355328 := by simp only [List.length_append]; omega
      have hlen5 : (acc ++ lineL [[118, 105, 101, 119], bitL has, Lib.itoa cur, bitL syn, bitL deg] ++ lineL [[111, 119, 110], L.text] ++ Ls.flatMap knowsLine ++ Sk.flatMap skippedLine).length + (tablesL [104, 97, 115, 45] ⟨R, Ns, F⟩).length ≤ 140737488355328 := by simp only [List.length_append]; omega
      have HL1 := Lib.hid hlen1
      have HL2 := Lib.hid hlen2
      have HL3 := Lib.hid hlen3
      have HL4 := Lib.hid hlen4
      have HL5 := Lib.hid hlen5
      clear hl hfull hlen1 hlen2 hlen3 hlen4 hlen5
      have hl0 := HL0.out.drew
      have k99 := Lib.hid hl0
      clear hl0
      have HLb := HNb
      go_wp2
      have hl0 := k99.out
      have HM := HL1
      have HX0 := Lib.hid (HL0.out.drew.box : Bx w.heap.size #[.bool has, .int .i64 L.host, .int .u32 L.a, .int .i64 L.n, .int .u32 L.pub, .int .u8 L.mac.b.toNat, .int .u8 L.mac.c.toNat, .int .u8 L.mac.d.toNat, .int .u8 L.mac.e.toNat, .int .u8 L.mac.f.toNat, .int .u8 L.mac.g.toNat, .int .i64 L.till, .int .i64 L.rev, .int .i64 cur, .bool syn, .bool deg, .slice a5 Ls.length c5, .slice a6 Sk.length c6, .slice a1 R.length c1, .slice a2 Ns.length c2, .slice a3 F.length c3] 49 _)
      go_region_held3 (fun u => u.cell? ⟨w.heap.size, 0, none⟩ = some (.bool has) ∧ u.cell? ⟨w.heap.size, 1, none⟩ = some (.int .i64 L.host) ∧ u.cell? ⟨w.heap.size, 2, none⟩ = some (.int .u32 L.a) ∧ u.cell? ⟨w.heap.size, 3, none⟩ = some (.int .i64 L.n) ∧ u.cell? ⟨w.heap.size, 4, none⟩ = some (.int .u32 L.pub) ∧ u.cell? ⟨w.heap.size, 5, none⟩ = some (.int .u8 L.mac.b.toNat) ∧ u.cell? ⟨w.heap.size, 6, none⟩ = some (.int .u8 L.mac.c.toNat) ∧ u.cell? ⟨w.heap.size, 7, none⟩ = some (.int .u8 L.mac.d.toNat) ∧ u.cell? ⟨w.heap.size, 8, none⟩ = some (.int .u8 L.mac.e.toNat) ∧ u.cell? ⟨w.heap.size, 9, none⟩ = some (.int .u8 L.mac.f.toNat) ∧ u.cell? ⟨w.heap.size, 10, none⟩ = some (.int .u8 L.mac.g.toNat) ∧ u.cell? ⟨w.heap.size, 11, none⟩ = some (.int .i64 L.till) ∧ u.cell? ⟨w.heap.size, 12, none⟩ = some (.int .i64 L.rev) ∧ u.cell? ⟨w.heap.size, 13, none⟩ = some (.int .i64 cur) ∧ u.cell? ⟨w.heap.size, 14, none⟩ = some (.bool syn) ∧ u.cell? ⟨w.heap.size, 15, none⟩ = some (.bool deg) ∧ u.cell? ⟨w.heap.size, 16, none⟩ = some (.slice a5 Ls.length c5) ∧ u.cell? ⟨w.heap.size, 17, none⟩ = some (.slice a6 Sk.length c6) ∧ u.cell? ⟨w.heap.size, 18, none⟩ = some (.slice a1 R.length c1) ∧ u.cell? ⟨w.heap.size, 19, none⟩ = some (.slice a2 Ns.length c2) ∧ u.cell? ⟨w.heap.size, 20, none⟩ = some (.slice a3 F.length c3) ∧ Bx w.heap.size #[.bool has, .int .i64 L.host, .int .u32 L.a, .int .i64 L.n, .int .u32 L.pub, .int .u8 L.mac.b.toNat, .int .u8 L.mac.c.toNat, .int .u8 L.mac.d.toNat, .int .u8 L.mac.e.toNat, .int .u8 L.mac.f.toNat, .int .u8 L.mac.g.toNat, .int .i64 L.till, .int .i64 L.rev, .int .i64 cur, .bool syn, .bool deg, .slice a5 Ls.length c5, .slice a6 Sk.length c6, .slice a1 R.length c1, .slice a2 Ns.length c2, .slice a3 F.length c3] 49 u)
        ((refine (fun hk : Bx w.heap.size #[.bool has, .int .i64 L.host, .int .u32 L.a, .int .i64 L.n, .int .u32 L.pub, .int .u8 L.mac.b.toNat, .int .u8 L.mac.c.toNat, .int .u8 L.mac.d.toNat, .int .u8 L.mac.e.toNat, .int .u8 L.mac.f.toNat, .int .u8 L.mac.g.toNat, .int .i64 L.till, .int .i64 L.rev, .int .i64 cur, .bool syn, .bool deg, .slice a5 Ls.length c5, .slice a6 Sk.length c6, .slice a1 R.length c1, .slice a2 Ns.length c2, .slice a3 F.length c3] 49 _ => ⟨hk.cell rfl, hk.cell rfl, hk.cell rfl, hk.cell rfl, hk.cell rfl, hk.cell rfl, hk.cell rfl, hk.cell rfl, hk.cell rfl, hk.cell rfl, hk.cell rfl, hk.cell rfl, hk.cell rfl, hk.cell rfl, hk.cell rfl, hk.cell rfl, hk.cell rfl, hk.cell rfl, hk.cell rfl, hk.cell rfl, hk.cell rfl, hk⟩) ?_; first | exact HX0.out | (go_split_ands; exact Bx.fr (by assumption) HLb.out (by decide) hq1) | (go_split_ands; exact Bx.grew (by assumption) hb1) | (go_split_ands; exact Bx.grew (by assumption) (Joins.below_alloc1 _ _))))
        (first | (go_at_call 56; refine (bit_D _ _).mono ?_; rintro e w1 ⟨rfl, hb1⟩; have hl1 := Lp.grew (by assumption) hb1) | (go_at_call 22; refine (int_D _ _ HCo.out ?_).mono ?_; (exact Env1.env (Lp.env (by assumption))); rintro e w1 ⟨rfl, hb1⟩; have hl1 := Lp.grew (by assumption) hb1) | (go_at_call 17; refine (Lp.putLit (by assumption) HNb.out (by first | exact HTy.out | decide) [⟨#[118, 105, 101, 119]⟩, ⟨(bitL has).toArray⟩, ⟨(Lib.itoa cur).toArray⟩, ⟨(bitL syn).toArray⟩, ⟨(bitL deg).toArray⟩] [[118, 105, 101, 119], bitL has, Lib.itoa cur, bitL syn, bitL deg] _ _ rfl (rfl) rfl (Nat.le_of_ble_eq_true rfl) (HM.out)).mono ?_; rintro e w1 ⟨rfl, hl1, hq1⟩))
      have HL := Lib.hid hl1
      clear hl1 hl0
      have q1 : w1.cell? ⟨w.heap.size, 1, none⟩ = some _ := HL.out.cell rfl
      have q2 : w1.cell? ⟨w.heap.size, 2, none⟩ = some _ := HL.out.cell rfl
      have q3 : w1.cell? ⟨w.heap.size, 3, none⟩ = some _ := HL.out.cell rfl
      have q4 : w1.cell? ⟨w.heap.size, 4, none⟩ = some _ := HL.out.cell rfl
      have q5 : w1.cell? ⟨w.heap.size, 5, none⟩ = some _ := HL.out.cell rfl
      have q6 : w1.cell? ⟨w.heap.size, 6, none⟩ = some _ := HL.out.cell rfl
      have q7 : w1.cell? ⟨w.heap.size, 7, none⟩ = some _ := HL.out.cell rfl
      have q8 : w1.cell? ⟨w.heap.size, 8, none⟩ = some _ := HL.out.cell rfl
      have q9 : w1.cell? ⟨w.heap.size, 9, none⟩ = some _ := HL.out.cell rfl
      have q10 : w1.cell? ⟨w.heap.size, 10, none⟩ = some _ := HL.out.cell rfl
      have q11 : w1.cell? ⟨w.heap.size, 11, none⟩ = some _ := HL.out.cell rfl
      have q12 : w1.cell? ⟨w.heap.size, 12, none⟩ = some _ := HL.out.cell rfl
      go_wp2_with fail
      refine (lease_D L _ HLo.out HL.out.env.env).mono ?_
      rintro e w2 ⟨rfl, hb1⟩
      have HLa := Lib.hid (HL.out.grew hb1)
      clear hb1 HL q1 q2 q3 q4 q5 q6 q7 q8 q9 q10 q11 q12
      go_wp2_with fail
      refine (HLa.out.putLit HNb.out (by decide) [⟨#[111, 119, 110]⟩, ⟨L.text.toArray⟩] [[111, 119, 110], L.text] _ _ rfl rfl rfl (Nat.le_of_ble_eq_true rfl) HL2.out).mono ?_
      rintro e w3 ⟨rfl, hl2, _⟩
      have HL := Lib.hid hl2
      clear hl2 HLa
      have q16 : w3.cell? ⟨w.heap.size, 16, none⟩ = some _ := HL.out.cell rfl
      go_wp2
      go_loopw [83] (fun p wr => ∃ j : Nat, j ≤ Ls.length ∧ p = .int .i64 j ∧ Lp w B b w.heap.size #[.bool has, .int .i64 L.host, .int .u32 L.a, .int .i64 L.n, .int .u32 L.pub, .int .u8 L.mac.b.toNat, .int .u8 L.mac.c.toNat, .int .u8 L.mac.d.toNat, .int .u8 L.mac.e.toNat, .int .u8 L.mac.f.toNat, .int .u8 L.mac.g.toNat, .int .i64 L.till, .int .i64 L.rev, .int .i64 cur, .bool syn, .bool deg, .slice a5 Ls.length c5, .slice a6 Sk.length c6, .slice a1 R.length c1, .slice a2 Ns.length c2, .slice a3 F.length c3] 49 (acc ++ lineL [[118, 105, 101, 119], bitL has, Lib.itoa cur, bitL syn, bitL deg] ++ lineL [[111, 119, 110], L.text] ++ (Ls.take j).flatMap knowsLine) wr) (fun p wr => match p with | .int _ j => Ls.length - j.toNat | _ => 0)
      case atStart => exact ⟨0, by omega, rfl, by simpa using HL.out⟩
      case round =>
        clear HL q16
        obtain ⟨j, hj, rfl, hL⟩ := hrel
        have HL := Lib.hid hL
        clear hL
        by_cases hjn : j < Ls.length
        · obtain ⟨blk, off, rfl, hblk, hcell⟩ := HK.out (by intro h; rw [List.map_eq_nil_iff] at h; rw [h] at hjn; simp at hjn)
          have hget : Ls[j]? = some Ls[j] := List.getElem?_eq_getElem hjn
          have hX0 := HKo.out Ls[j] (List.getElem_mem _)
          generalize Ls[j] = X at hget hX0
          have HO := Lib.hid hX0
          have hx := hcell j X.cells (by rw [List.getElem?_map, hget]; rfl)
          have HM := Lib.hid (line_room _ Ls knowsLine j X _ hget HL3.out)
          have HT := Lib.hid (flat_take Ls knowsLine j X hget)
          have hk : ∀ i u, X.cells[i]? = some u → wr.cell? ⟨blk, off + j * 12 + i, none⟩ = some u := fun i u hu => (HL.out.fr.1.cell (p := ⟨blk, off + j * 12 + i, none⟩) hblk).trans (hx i u hu)
          have k0 : wr.cell? ⟨blk, off + j * 12, none⟩ = _ := hk 0 _ rfl
          have k1 := hk 1 _ rfl
          have k2 := hk 2 _ rfl
          have k3 := hk 3 _ rfl
          have k4 := hk 4 _ rfl
          have k5 := hk 5 _ rfl
          have k6 := hk 6 _ rfl
          have k7 := hk 7 _ rfl
          have k8 := hk 8 _ rfl
          have k9 := hk 9 _ rfl
          have k10 := hk 10 _ rfl
          have k11 := hk 11 _ rfl
          clear hk hx hcell hget hX0
          have hj1 : IntKind.i64.wrap (↑j + 1) = ↑j + 1 := IntWalk.i64_in _ (by omega)
          have HLa := Lib.hid (HL.out.alloc (.cells #[.int .i64 X.host, .int .u32 X.a, .int .i64 X.n, .int .u32 X.pub, .int .u8 X.mac.b.toNat, .int .u8 X.mac.c.toNat, .int .u8 X.mac.d.toNat, .int .u8 X.mac.e.toNat, .int .u8 X.mac.f.toNat, .int .u8 X.mac.g.toNat, .int .i64 X.till, .int .i64 X.rev] 46))
          go_wp2_with fail
          refine (lease_D X _ HO.out HLa.out.env.env).mono ?_
          rintro e w1 ⟨rfl, hb1⟩
          have HLb := Lib.hid (HLa.out.grew hb1)
          clear hb1
          go_wp2_with fail
          refine (HLb.out.putLit HNb.out (by first | exact HTy.out | decide) [⟨#[107, 110, 111, 119, 115]⟩, ⟨X.text.toArray⟩] [[107, 110, 111, 119, 115], X.text] _ _ rfl (rfl) rfl (Nat.le_of_ble_eq_true rfl) HM.out).mono ?_
          rintro e w2 ⟨rfl, hl2, _⟩
          have HLc := Lib.hid hl2
          clear hl2
          go_wp2
          exact ⟨⟨j + 1, by omega, rfl, by rw [HT.out, ← List.append_assoc]; exact HLc.out⟩, by show Ls.length - ((j : Int) + 1).toNat < Ls.length - (j : Int).toNat; omega⟩
        · obtain rfl : j = Ls.length := by omega
          rw [List.take_length] at HL
          have q17 : wr.cell? ⟨w.heap.size, 17, none⟩ = some _ := HL.out.cell rfl
          go_wp2
          go_loopw [96] (fun p wr => ∃ j : Nat, j ≤ Sk.length ∧ p = .int .i64 j ∧ Lp w B b w.heap.size #[.bool has, .int .i64 L.host, .int .u32 L.a, .int .i64 L.n, .int .u32 L.pub, .int .u8 L.mac.b.toNat, .int .u8 L.mac.c.toNat, .int .u8 L.mac.d.toNat, .int .u8 L.mac.e.toNat, .int .u8 L.mac.f.toNat, .int .u8 L.mac.g.toNat, .int .i64 L.till, .int .i64 L.rev, .int .i64 cur, .bool syn, .bool deg, .slice a5 Ls.length c5, .slice a6 Sk.length c6, .slice a1 R.length c1, .slice a2 Ns.length c2, .slice a3 F.length c3] 49 (acc ++ lineL [[118, 105, 101, 119], bitL has, Lib.itoa cur, bitL syn, bitL deg] ++ lineL [[111, 119, 110], L.text] ++ Ls.flatMap knowsLine ++ (Sk.take j).flatMap skippedLine) wr) (fun p wr => match p with | .int _ j => Sk.length - j.toNat | _ => 0)
          case atStart => exact ⟨0, by omega, rfl, by simpa using HL.out⟩
          case round =>
            clear HL q17
            obtain ⟨j, hj, rfl, hL⟩ := hrel
            have HL := Lib.hid hL
            clear hL
            by_cases hjn : j < Sk.length
            · obtain ⟨blk, off, rfl, hblk, hcell⟩ := HS.out (by intro h; rw [List.map_eq_nil_iff] at h; rw [h] at hjn; simp at hjn)
              have hget : Sk[j]? = some Sk[j] := List.getElem?_eq_getElem hjn
              have hX0 := HSo.out Sk[j] (List.getElem_mem _)
              generalize Sk[j] = X at hget hX0
              have HO := Lib.hid hX0
              have hx := hcell j X.cells (by rw [List.getElem?_map, hget]; rfl)
              have HM := Lib.hid (line_room _ Sk skippedLine j X _ hget HL4.out)
              have HT := Lib.hid (flat_take Sk skippedLine j X hget)
              have hk : ∀ i u, X.cells[i]? = some u → wr.cell? ⟨blk, off + j * 2 + i, none⟩ = some u := fun i u hu => (HL.out.fr.1.cell (p := ⟨blk, off + j * 2 + i, none⟩) hblk).trans (hx i u hu)
              have k0 : wr.cell? ⟨blk, off + j * 2, none⟩ = _ := hk 0 _ rfl
              have k1 := hk 1 _ rfl
              clear hk hx hcell hget hX0
              have hj1 : IntKind.i64.wrap (↑j + 1) = ↑j + 1 := IntWalk.i64_in _ (by omega)
              have HLa := Lib.hid (HL.out.alloc (.cells #[.int .u32 X.a, .int .i64 X.n] 42))
              go_wp2_with fail
              refine (prefix_D X _ HO.out HLa.out.env.env).mono ?_
              rintro e w1 ⟨rfl, hb1⟩
              have HLb := Lib.hid (HLa.out.grew hb1)
              clear hb1
              go_wp2_with fail
              refine (HLb.out.putLit HNb.out (by first | exact HTy.out | decide) [⟨#[115, 107, 105, 112, 112, 101, 100]⟩, ⟨X.text.toArray⟩] [[115, 107, 105, 112, 112, 101, 100], X.text] _ _ rfl (rfl) rfl (Nat.le_of_ble_eq_true rfl) HM.out).mono ?_
              rintro e w2 ⟨rfl, hl2, _⟩
              have HLc := Lib.hid hl2
              clear hl2
              go_wp2
              exact ⟨⟨j + 1, by omega, rfl, by rw [HT.out, ← List.append_assoc]; exact HLc.out⟩, by show Sk.length - ((j : Int) + 1).toNat < Sk.length - (j : Int).toNat; omega⟩
            · obtain rfl : j = Sk.length := by omega
              rw [List.take_length] at HL
              have q18 : wr.cell? ⟨w.heap.size, 18, none⟩ = some _ := HL.out.cell rfl
              have q19 : wr.cell? ⟨w.heap.size, 19, none⟩ = some _ := HL.out.cell rfl
              have q20 : wr.cell? ⟨w.heap.size, 20, none⟩ = some _ := HL.out.cell rfl
              have HH := Lib.hid (tables_any B b (acc ++ lineL [[118, 105, 101, 119], bitL has, Lib.itoa cur, bitL syn, bitL deg] ++ lineL [[111, 119, 110], L.text] ++ Ls.flatMap knowsLine ++ Sk.flatMap skippedLine) ⟨#[104, 97, 115, 45]⟩ ⟨R, Ns, F⟩ (.slice a1 R.length c1) (.slice a2 Ns.length c2) (.slice a3 F.length c3) wr HL.out.env HL.out.size HL.out.bld HRo.out HNo.out HFo.out (HR.out.below HL.out.fr.1) (HN.out.below HL.out.fr.1) (HF.out.below HL.out.fr.1) (by decide) HL5.out)
              go_wp2_with fail
              refine HH.out.mono ?_
              rintro e w1 ⟨rfl, hb1, hf1⟩
              have HB1 := Lib.hid hb1
              have HF1 := Lib.hid hf1
              clear hb1 hf1
              go_wp2
              go_end0
              refine ⟨rfl, ?_, HL.out.fr.trans HF1.out⟩
              rw [HFull.out, viewFull]
              simp only [← List.append_assoc]
              exact HB1.out

theorem view_D (B b : Nat) (acc : List UInt8) (V : ViewD) (v5 v6 v1 v2 v3 : Value) (w : World) (hE : Env1 B w) (hB : B ≤ w.heap.size) (hbld : Bld B b (Lib.byteCells acc) w)
    (hL : V.lease.ok) (hcur : I64 V.cursor) (hls : ∀ x ∈ V.leases, x.ok) (hsk : ∀ x ∈ V.skipped, x.ok) (hr : ∀ x ∈ V.tabs.routes, x.ok) (hn : ∀ x ∈ V.tabs.neighs, x.ok) (hf : ∀ x ∈ V.tabs.fdbs, x.ok)
    (h5 : RowOf B w v5 12 (V.leases.map LeaseD.cells)) (h6 : RowOf B w v6 2 (V.skipped.map PrefixD.cells)) (h1 : RowOf B w v1 4 (V.tabs.routes.map RouteD.cells)) (h2 : RowOf B w v2 7 (V.tabs.neighs.map NeighD.cells)) (h3 : RowOf B w v3 7 (V.tabs.fdbs.map FdbD.cells))
    (hlen : acc.length + (viewL V).length ≤ 140737488355328) :
    Calls Tryz.prog 28 #[.agg #[.bool V.has, .int .i64 V.lease.host, .int .u32 V.lease.a, .int .i64 V.lease.n, .int .u32 V.lease.pub, .int .u8 V.lease.mac.b.toNat, .int .u8 V.lease.mac.c.toNat, .int .u8 V.lease.mac.d.toNat, .int .u8 V.lease.mac.e.toNat, .int .u8 V.lease.mac.f.toNat, .int .u8 V.lease.mac.g.toNat, .int .i64 V.lease.till, .int .i64 V.lease.rev, .int .i64 V.cursor, .bool V.synced, .bool V.degraded, v5, v6, v1, v2, v3], putV b] w fun e w' => e = .returned (.tuple #[]) ∧ (Bld B b (Lib.byteCells (acc ++ viewL V)) w' ∧ Fr B b w w') := by
  obtain ⟨has, L, cur, syn, deg, Ls, Sk, ⟨R, Ns, F⟩⟩ := V
  exact view_any B b acc has L cur syn deg Ls Sk R Ns F v5 v6 v1 v2 v3 w hE hB hbld hL hcur hls hsk hr hn hf h5 h6 h1 h2 h3 hlen
end Go.Proofs.YtmnkdnpjcfmjgaaGreatDoor
