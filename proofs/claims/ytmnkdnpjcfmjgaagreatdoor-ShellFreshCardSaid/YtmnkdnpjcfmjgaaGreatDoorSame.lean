/- Package weftlaw20: the same lists. -/
import Derived.Test.YtmnkdnpjcfmjgaaGreatDoorApartLaw
import Derived.BigQuiet
namespace Go.Proofs.YtmnkdnpjcfmjgaaGreatDoor
open Go.RowKit

set_option maxRecDepth 100000 in
set_option maxHeartbeats 8000000 in
theorem lease_ne (X Y : LeaseD) (w : World) : (binOp .neq 46 (.agg #[.int .i64 X.host, .int .u32 X.a, .int .i64 X.n, .int .u32 X.pub, .int .u8 X.mac.b.toNat, .int .u8 X.mac.c.toNat, .int .u8 X.mac.d.toNat, .int .u8 X.mac.e.toNat, .int .u8 X.mac.f.toNat, .int .u8 X.mac.g.toNat, .int .i64 X.till, .int .i64 X.rev]) (.agg #[.int .i64 Y.host, .int .u32 Y.a, .int .i64 Y.n, .int .u32 Y.pub, .int .u8 Y.mac.b.toNat, .int .u8 Y.mac.c.toNat, .int .u8 Y.mac.d.toNat, .int .u8 Y.mac.e.toNat, .int .u8 Y.mac.f.toNat, .int .u8 Y.mac.g.toNat, .int .i64 Y.till, .int .i64 Y.rev])).run Tryz.prog w = .ok (.bool (!decide (X = Y))) w := by
  have hm := mac_in X.mac Y.mac
  obtain ⟨f0, f1, f2, f3, f4, f5, f6⟩ := X
  obtain ⟨g0, g1, g2, g3, g4, g5, g6⟩ := Y
  simp only at hm
  go_simp
  simp only [LeaseD.mk.injEq, Int.ofNat_inj]
  by_cases h0 : f0 = g0 <;> by_cases h1 : f1 = g1 <;> by_cases h2 : f2 = g2 <;> by_cases h3 : f3 = g3 <;> by_cases h4 : f4 = g4 <;> by_cases h5 : f5 = g5 <;> by_cases h6 : f6 = g6 <;> simp [h0, h1, h2, h3, h4, h5, h6, Result.andThen]
set_option maxRecDepth 100000 in
set_option maxHeartbeats 8000000 in
theorem prefix_ne (X Y : PrefixD) (w : World) : (binOp .neq 42 (.agg #[.int .u32 X.a, .int .i64 X.n]) (.agg #[.int .u32 Y.a, .int .i64 Y.n])).run Tryz.prog w = .ok (.bool (!decide (X = Y))) w := by
  obtain ⟨f0, f1⟩ := X
  obtain ⟨g0, g1⟩ := Y
  go_simp
  simp only [PrefixD.mk.injEq, Int.ofNat_inj]
  by_cases h0 : f0 = g0 <;> by_cases h1 : f1 = g1 <;> simp [h0, h1, Result.andThen]
set_option maxRecDepth 100000 in
set_option maxHeartbeats 8000000 in
theorem route_ne (X Y : RouteD) (w : World) : (binOp .neq 105 (.agg #[.int .u32 X.a, .int .i64 X.n, .int .u32 X.via, .bool X.loc]) (.agg #[.int .u32 Y.a, .int .i64 Y.n, .int .u32 Y.via, .bool Y.loc])).run Tryz.prog w = .ok (.bool (!decide (X = Y))) w := by
  obtain ⟨f0, f1, f2, f3⟩ := X
  obtain ⟨g0, g1, g2, g3⟩ := Y
  go_simp
  simp only [RouteD.mk.injEq, Int.ofNat_inj]
  by_cases h0 : f0 = g0 <;> by_cases h1 : f1 = g1 <;> by_cases h2 : f2 = g2 <;> by_cases h3 : f3 = g3 <;> simp [h0, h1, h2, h3, Result.andThen]
set_option maxRecDepth 100000 in
set_option maxHeartbeats 8000000 in
theorem neigh_ne (X Y : NeighD) (w : World) : (binOp .neq 107 (.agg #[.int .u32 X.ip, .int .u8 X.mac.b.toNat, .int .u8 X.mac.c.toNat, .int .u8 X.mac.d.toNat, .int .u8 X.mac.e.toNat, .int .u8 X.mac.f.toNat, .int .u8 X.mac.g.toNat]) (.agg #[.int .u32 Y.ip, .int .u8 Y.mac.b.toNat, .int .u8 Y.mac.c.toNat, .int .u8 Y.mac.d.toNat, .int .u8 Y.mac.e.toNat, .int .u8 Y.mac.f.toNat, .int .u8 Y.mac.g.toNat])).run Tryz.prog w = .ok (.bool (!decide (X = Y))) w := by
  have hm := mac_in X.mac Y.mac
  obtain ⟨f0, f1⟩ := X
  obtain ⟨g0, g1⟩ := Y
  simp only at hm
  go_simp
  simp only [NeighD.mk.injEq, Int.ofNat_inj]
  by_cases h0 : f0 = g0 <;> by_cases h1 : f1 = g1 <;> simp [h0, h1, Result.andThen]
set_option maxRecDepth 100000 in
set_option maxHeartbeats 8000000 in
theorem fdb_ne (X Y : FdbD) (w : World) : (binOp .neq 109 (.agg #[.int .u8 X.mac.b.toNat, .int .u8 X.mac.c.toNat, .int .u8 X.mac.d.toNat, .int .u8 X.mac.e.toNat, .int .u8 X.mac.f.toNat, .int .u8 X.mac.g.toNat, .int .u32 X.dst]) (.agg #[.int .u8 Y.mac.b.toNat, .int .u8 Y.mac.c.toNat, .int .u8 Y.mac.d.toNat, .int .u8 Y.mac.e.toNat, .int .u8 Y.mac.f.toNat, .int .u8 Y.mac.g.toNat, .int .u32 Y.dst])).run Tryz.prog w = .ok (.bool (!decide (X = Y))) w := by
  have hm := mac_in X.mac Y.mac
  obtain ⟨f0, f1⟩ := X
  obtain ⟨g0, g1⟩ := Y
  simp only at hm
  go_simp
  simp only [FdbD.mk.injEq, Int.ofNat_inj]
  by_cases h0 : f0 = g0 <;> by_cases h1 : f1 = g1 <;> simp [h0, h1, Result.andThen]
set_option maxRecDepth 100000 in
set_option maxHeartbeats 8000000 in
theorem pod_ne (X Y : PodD) (w : World) : (binOp .neq 86 (.agg #[.string X.name, .int .u32 X.a]) (.agg #[.string Y.name, .int .u32 Y.a])).run Tryz.prog w = .ok (.bool (!decide (X.val = Y.val))) w := by
  obtain ⟨f0, f1⟩ := X
  obtain ⟨g0, g1⟩ := Y
  go_simp
  simp only [PodD.val, Prod.mk.injEq, Int.ofNat_inj]
  by_cases h0 : f0 = g0
  · subst h0
    by_cases h1 : f1 = g1 <;> simp [h1]
  · have h2 : ¬ f0.data.toList = g0.data.toList := fun h => h0 (ByteArray.ext (Array.toList_inj.1 h))
    have h3 : ¬ f0.toList = g0.toList := by rw [ByteArray.toList_eq, ByteArray.toList_eq]; exact h2
    by_cases h1 : f1 = g1 <;> simp [h0, h2, h3, h1]
set_option maxRecDepth 100000 in
set_option maxHeartbeats 8000000 in
theorem leases_same (B1 B2 : Nat) (a b : Value) (l m : List LeaseD) (w : World) (ha : RowOf B1 w a 12 (l.map LeaseD.cells)) (hb : RowOf B2 w b 12 (m.map LeaseD.cells)) :
    Calls Tryz.prog 31 #[a, b] w fun e w' => e = .returned (.bool (decide (l = m))) ∧ Drw w w' := by
  obtain ⟨aa, ca, rfl, hca, hma, hxa⟩ := ha
  obtain ⟨ab, cb, rfl, hcb, hmb, hxb⟩ := hb
  rw [List.length_map] at hca hma hcb hmb
  simp only [List.length_map] at *
  by_cases hl : l.length = m.length
  · have hlb : ((l.length : Int) != m.length) = false := by rw [hl]; simp
    have HL := Lib.hid hl
    clear hl
    go_enter Tryz.func31, Tryz.ntmps31
    go_wp2
    go_loopw [5] (fun i wr => ∃ k n : Nat, k ≤ l.length ∧ i = .int .i64 k ∧ wr = w.drewN n ∧ l.take k = m.take k) (fun i _ => l.length - (intOf i).toNat)
    case atStart => exact ⟨0, 0, by omega, rfl, rfl, rfl⟩
    case round =>
      obtain ⟨k, n, hk, rfl, rfl, heq⟩ := hrel
      have HE := Lib.hid heq
      clear heq
      by_cases hlt : k < l.length
      · have hlt2 : k < m.length := by have := HL.out; omega
        obtain ⟨ba, oa, rfl, _, hca⟩ := hxa (by intro h; rw [List.map_eq_nil_iff] at h; rw [h] at hlt; simp at hlt)
        obtain ⟨bb, ob, rfl, _, hcb⟩ := hxb (by intro h; rw [List.map_eq_nil_iff] at h; rw [h] at hlt2; simp at hlt2)
        have hga : l[k]? = some l[k] := List.getElem?_eq_getElem hlt
        have hgb : m[k]? = some m[k] := List.getElem?_eq_getElem hlt2
        have hT1 := List.take_succ_eq_append_getElem hlt
        have hT2 := List.take_succ_eq_append_getElem hlt2
        generalize l[k] = X at hga hT1
        generalize m[k] = Y at hgb hT2
        have HT1 := Lib.hid hT1
        have HT2 := Lib.hid hT2
        have HGa := Lib.hid hga
        have HGb := Lib.hid hgb
        have hka := hca k X.cells (by rw [List.getElem?_map, hga]; rfl)
        have hkb := hcb k Y.cells (by rw [List.getElem?_map, hgb]; rfl)
        clear hca hcb hxa hxb hT1 hT2 hga hgb
        have k0 : w.cell? ⟨ba, oa + k * 12, none⟩ = _ := hka 0 _ rfl
        have k1 := hka 1 _ rfl
        have k2 := hka 2 _ rfl
        have k3 := hka 3 _ rfl
        have k4 := hka 4 _ rfl
        have k5 := hka 5 _ rfl
        have k6 := hka 6 _ rfl
        have k7 := hka 7 _ rfl
        have k8 := hka 8 _ rfl
        have k9 := hka 9 _ rfl
        have k10 := hka 10 _ rfl
        have k11 := hka 11 _ rfl
        have m0 : w.cell? ⟨bb, ob + k * 12, none⟩ = _ := hkb 0 _ rfl
        have m1 := hkb 1 _ rfl
        have m2 := hkb 2 _ rfl
        have m3 := hkb 3 _ rfl
        have m4 := hkb 4 _ rfl
        have m5 := hkb 5 _ rfl
        have m6 := hkb 6 _ rfl
        have m7 := hkb 7 _ rfl
        have m8 := hkb 8 _ rfl
        have m9 := hkb 9 _ rfl
        have m10 := hkb 10 _ rfl
        have m11 := hkb 11 _ rfl
        clear hka hkb
        by_cases hc : X = Y
        · have hq := fun W => (lease_ne X Y W).trans (by rw [decide_eq_true hc]; rfl : _ = Result.ok (Value.bool false) W)
          have HC := Lib.hid hc
          clear hc
          go_wp2
          go_quiet (fail)
          go_wp2
          go_roundw
          case rel =>
            refine ⟨k + 1, n + nq, by omega, by go_num, by simp, ?_⟩
            rw [HT1.out, HT2.out, HE.out, HC.out]
          case measure => simp [intOf]; omega
        · have hq := fun W => (lease_ne X Y W).trans (by rw [decide_eq_false hc]; rfl : _ = Result.ok (Value.bool true) W)
          have HC := Lib.hid hc
          clear hc
          go_wp2
          go_quiet (fail)
          go_wp2
          go_ret
          refine ⟨?_, _, by rw [World.drewN_drewN]⟩
          have : ¬ l = m := fun h => HC.out (by
            have h0 := congrArg (fun t => t[k]?) h
            simp only [HGa.out, HGb.out] at h0
            exact Option.some.inj h0)
          simp [this]
      · go_wp2
        go_ret
        refine ⟨?_, _, rfl⟩
        have hx : l.take k = l := List.take_of_length_le (by omega)
        have hy : m.take k = m := List.take_of_length_le (by have := HL.out; omega)
        have : l = m := by have := HE.out; rwa [hx, hy] at this
        simp [this]
  · have hlb : ((l.length : Int) != m.length) = true := by simp; omega
    go_enter Tryz.func31, Tryz.ntmps31
    go_wp2
    go_ret
    refine ⟨?_, 0, rfl⟩
    have : ¬ l = m := fun h => hl (by rw [h])
    simp [this]

set_option maxRecDepth 100000 in
set_option maxHeartbeats 8000000 in
theorem prefixes_same (B1 B2 : Nat) (a b : Value) (l m : List PrefixD) (w : World) (ha : RowOf B1 w a 2 (l.map PrefixD.cells)) (hb : RowOf B2 w b 2 (m.map PrefixD.cells)) :
    Calls Tryz.prog 57 #[a, b] w fun e w' => e = .returned (.bool (decide (l = m))) ∧ Drw w w' := by
  obtain ⟨aa, ca, rfl, hca, hma, hxa⟩ := ha
  obtain ⟨ab, cb, rfl, hcb, hmb, hxb⟩ := hb
  rw [List.length_map] at hca hma hcb hmb
  simp only [List.length_map] at *
  by_cases hl : l.length = m.length
  · have hlb : ((l.length : Int) != m.length) = false := by rw [hl]; simp
    have HL := Lib.hid hl
    clear hl
    go_enter Tryz.func57, Tryz.ntmps57
    go_wp2
    go_loopw [5] (fun i wr => ∃ k n : Nat, k ≤ l.length ∧ i = .int .i64 k ∧ wr = w.drewN n ∧ l.take k = m.take k) (fun i _ => l.length - (intOf i).toNat)
    case atStart => exact ⟨0, 0, by omega, rfl, rfl, rfl⟩
    case round =>
      obtain ⟨k, n, hk, rfl, rfl, heq⟩ := hrel
      have HE := Lib.hid heq
      clear heq
      by_cases hlt : k < l.length
      · have hlt2 : k < m.length := by have := HL.out; omega
        obtain ⟨ba, oa, rfl, _, hca⟩ := hxa (by intro h; rw [List.map_eq_nil_iff] at h; rw [h] at hlt; simp at hlt)
        obtain ⟨bb, ob, rfl, _, hcb⟩ := hxb (by intro h; rw [List.map_eq_nil_iff] at h; rw [h] at hlt2; simp at hlt2)
        have hga : l[k]? = some l[k] := List.getElem?_eq_getElem hlt
        have hgb : m[k]? = some m[k] := List.getElem?_eq_getElem hlt2
        have hT1 := List.take_succ_eq_append_getElem hlt
        have hT2 := List.take_succ_eq_append_getElem hlt2
        generalize l[k] = X at hga hT1
        generalize m[k] = Y at hgb hT2
        have HT1 := Lib.hid hT1
        have HT2 := Lib.hid hT2
        have HGa := Lib.hid hga
        have HGb := Lib.hid hgb
        have hka := hca k X.cells (by rw [List.getElem?_map, hga]; rfl)
        have hkb := hcb k Y.cells (by rw [List.getElem?_map, hgb]; rfl)
        clear hca hcb hxa hxb hT1 hT2 hga hgb
        have k0 : w.cell? ⟨ba, oa + k * 2, none⟩ = _ := hka 0 _ rfl
        have k1 := hka 1 _ rfl
        have m0 : w.cell? ⟨bb, ob + k * 2, none⟩ = _ := hkb 0 _ rfl
        have m1 := hkb 1 _ rfl
        clear hka hkb
        by_cases hc : X = Y
        · have hq := fun W => (prefix_ne X Y W).trans (by rw [decide_eq_true hc]; rfl : _ = Result.ok (Value.bool false) W)
          have HC := Lib.hid hc
          clear hc
          go_wp2
          go_quiet (fail)
          go_wp2
          go_roundw
          case rel =>
            refine ⟨k + 1, n + nq, by omega, by go_num, by simp, ?_⟩
            rw [HT1.out, HT2.out, HE.out, HC.out]
          case measure => simp [intOf]; omega
        · have hq := fun W => (prefix_ne X Y W).trans (by rw [decide_eq_false hc]; rfl : _ = Result.ok (Value.bool true) W)
          have HC := Lib.hid hc
          clear hc
          go_wp2
          go_quiet (fail)
          go_wp2
          go_ret
          refine ⟨?_, _, by rw [World.drewN_drewN]⟩
          have : ¬ l = m := fun h => HC.out (by
            have h0 := congrArg (fun t => t[k]?) h
            simp only [HGa.out, HGb.out] at h0
            exact Option.some.inj h0)
          simp [this]
      · go_wp2
        go_ret
        refine ⟨?_, _, rfl⟩
        have hx : l.take k = l := List.take_of_length_le (by omega)
        have hy : m.take k = m := List.take_of_length_le (by have := HL.out; omega)
        have : l = m := by have := HE.out; rwa [hx, hy] at this
        simp [this]
  · have hlb : ((l.length : Int) != m.length) = true := by simp; omega
    go_enter Tryz.func57, Tryz.ntmps57
    go_wp2
    go_ret
    refine ⟨?_, 0, rfl⟩
    have : ¬ l = m := fun h => hl (by rw [h])
    simp [this]

set_option maxRecDepth 100000 in
set_option maxHeartbeats 8000000 in
theorem pods_same (B1 B2 : Nat) (a b : Value) (l m : List PodD) (w : World) (ha : RowOf B1 w a 2 (l.map PodD.cells)) (hb : RowOf B2 w b 2 (m.map PodD.cells)) :
    Calls Tryz.prog 33 #[a, b] w fun e w' => e = .returned (.bool (decide ((l.map PodD.val) = (m.map PodD.val)))) ∧ Drw w w' := by
  obtain ⟨aa, ca, rfl, hca, hma, hxa⟩ := ha
  obtain ⟨ab, cb, rfl, hcb, hmb, hxb⟩ := hb
  rw [List.length_map] at hca hma hcb hmb
  simp only [List.length_map] at *
  by_cases hl : l.length = m.length
  · have hlb : ((l.length : Int) != m.length) = false := by rw [hl]; simp
    have HL := Lib.hid hl
    clear hl
    go_enter Tryz.func33, Tryz.ntmps33
    go_wp2
    go_loopw [5] (fun i wr => ∃ k n : Nat, k ≤ l.length ∧ i = .int .i64 k ∧ wr = w.drewN n ∧ (l.map PodD.val).take k = (m.map PodD.val).take k) (fun i _ => l.length - (intOf i).toNat)
    case atStart => exact ⟨0, 0, by omega, rfl, rfl, rfl⟩
    case round =>
      obtain ⟨k, n, hk, rfl, rfl, heq⟩ := hrel
      have HE := Lib.hid heq
      clear heq
      by_cases hlt : k < l.length
      · have hlt2 : k < m.length := by have := HL.out; omega
        obtain ⟨ba, oa, rfl, _, hca⟩ := hxa (by intro h; rw [List.map_eq_nil_iff] at h; rw [h] at hlt; simp at hlt)
        obtain ⟨bb, ob, rfl, _, hcb⟩ := hxb (by intro h; rw [List.map_eq_nil_iff] at h; rw [h] at hlt2; simp at hlt2)
        have hga : l[k]? = some l[k] := List.getElem?_eq_getElem hlt
        have hgb : m[k]? = some m[k] := List.getElem?_eq_getElem hlt2
        have hT1 : (l.map PodD.val).take (k + 1) = (l.map PodD.val).take k ++ [l[k].val] := by rw [List.take_succ_eq_append_getElem (by simpa using hlt), List.getElem_map]
        have hT2 : (m.map PodD.val).take (k + 1) = (m.map PodD.val).take k ++ [m[k].val] := by rw [List.take_succ_eq_append_getElem (by simpa using hlt2), List.getElem_map]
        generalize l[k] = X at hga hT1
        generalize m[k] = Y at hgb hT2
        have HT1 := Lib.hid hT1
        have HT2 := Lib.hid hT2
        have HGa := Lib.hid hga
        have HGb := Lib.hid hgb
        have hka := hca k X.cells (by rw [List.getElem?_map, hga]; rfl)
        have hkb := hcb k Y.cells (by rw [List.getElem?_map, hgb]; rfl)
        clear hca hcb hxa hxb hT1 hT2 hga hgb
        have k0 : w.cell? ⟨ba, oa + k * 2, none⟩ = _ := hka 0 _ rfl
        have k1 := hka 1 _ rfl
        have m0 : w.cell? ⟨bb, ob + k * 2, none⟩ = _ := hkb 0 _ rfl
        have m1 := hkb 1 _ rfl
        clear hka hkb
        by_cases hc : X.val = Y.val
        · have hq := fun W => (pod_ne X Y W).trans (by rw [decide_eq_true hc]; rfl : _ = Result.ok (Value.bool false) W)
          have HC := Lib.hid hc
          clear hc
          go_wp2
          go_quiet (fail)
          go_wp2
          go_roundw
          case rel =>
            refine ⟨k + 1, n + nq, by omega, by go_num, by simp, ?_⟩
            rw [HT1.out, HT2.out, HE.out, HC.out]
          case measure => simp [intOf]; omega
        · have hq := fun W => (pod_ne X Y W).trans (by rw [decide_eq_false hc]; rfl : _ = Result.ok (Value.bool true) W)
          have HC := Lib.hid hc
          clear hc
          go_wp2
          go_quiet (fail)
          go_wp2
          go_ret
          refine ⟨?_, _, by rw [World.drewN_drewN]⟩
          have : ¬ (l.map PodD.val) = (m.map PodD.val) := fun h => HC.out (by
            have h0 := congrArg (fun t => t[k]?) h
            simp only [List.getElem?_map, HGa.out, HGb.out, Option.map_some] at h0
            exact Option.some.inj h0)
          simp [this]
      · go_wp2
        go_ret
        refine ⟨?_, _, rfl⟩
        have hx : (l.map PodD.val).take k = (l.map PodD.val) := List.take_of_length_le (by rw [List.length_map]; omega)
        have hy : (m.map PodD.val).take k = (m.map PodD.val) := List.take_of_length_le (by rw [List.length_map]; have := HL.out; omega)
        have : (l.map PodD.val) = (m.map PodD.val) := by have := HE.out; rwa [hx, hy] at this
        simp [this]
  · have hlb : ((l.length : Int) != m.length) = true := by simp; omega
    go_enter Tryz.func33, Tryz.ntmps33
    go_wp2
    go_ret
    refine ⟨?_, 0, rfl⟩
    have : ¬ (l.map PodD.val) = (m.map PodD.val) := fun h => hl (by have := congrArg List.length h; simpa using this)
    simp [this]

set_option maxRecDepth 100000 in
set_option maxHeartbeats 8000000 in
theorem ints_same (B1 B2 : Nat) (a b : Value) (l m : List Int) (w : World) (ha : RowOf B1 w a 1 (l.map (fun x => [Value.int .i64 x]))) (hb : RowOf B2 w b 1 (m.map (fun x => [Value.int .i64 x]))) :
    Calls Tryz.prog 36 #[a, b] w fun e w' => e = .returned (.bool (decide (l = m))) ∧ Drw w w' := by
  obtain ⟨aa, ca, rfl, hca, hma, hxa⟩ := ha
  obtain ⟨ab, cb, rfl, hcb, hmb, hxb⟩ := hb
  rw [List.length_map] at hca hma hcb hmb
  simp only [List.length_map] at *
  by_cases hl : l.length = m.length
  · have hlb : ((l.length : Int) != m.length) = false := by rw [hl]; simp
    have HL := Lib.hid hl
    clear hl
    go_enter Tryz.func36, Tryz.ntmps36
    go_wp2
    go_loopw [5] (fun i wr => ∃ k n : Nat, k ≤ l.length ∧ i = .int .i64 k ∧ wr = w.drewN n ∧ l.take k = m.take k) (fun i _ => l.length - (intOf i).toNat)
    case atStart => exact ⟨0, 0, by omega, rfl, rfl, rfl⟩
    case round =>
      obtain ⟨k, n, hk, rfl, rfl, heq⟩ := hrel
      have HE := Lib.hid heq
      clear heq
      by_cases hlt : k < l.length
      · have hlt2 : k < m.length := by have := HL.out; omega
        obtain ⟨ba, oa, rfl, _, hca⟩ := hxa (by intro h; rw [List.map_eq_nil_iff] at h; rw [h] at hlt; simp at hlt)
        obtain ⟨bb, ob, rfl, _, hcb⟩ := hxb (by intro h; rw [List.map_eq_nil_iff] at h; rw [h] at hlt2; simp at hlt2)
        have hga : l[k]? = some l[k] := List.getElem?_eq_getElem hlt
        have hgb : m[k]? = some m[k] := List.getElem?_eq_getElem hlt2
        have hT1 := List.take_succ_eq_append_getElem hlt
        have hT2 := List.take_succ_eq_append_getElem hlt2
        generalize l[k] = X at hga hT1
        generalize m[k] = Y at hgb hT2
        have HT1 := Lib.hid hT1
        have HT2 := Lib.hid hT2
        have HGa := Lib.hid hga
        have HGb := Lib.hid hgb
        have hka := hca k [Value.int .i64 X] (by rw [List.getElem?_map, hga]; rfl)
        have hkb := hcb k [Value.int .i64 Y] (by rw [List.getElem?_map, hgb]; rfl)
        clear hca hcb hxa hxb hT1 hT2 hga hgb
        have k0 : w.cell? ⟨ba, oa + k, none⟩ = some (.int .i64 X) := by simpa using hka 0 _ rfl
        have m0 : w.cell? ⟨bb, ob + k, none⟩ = some (.int .i64 Y) := by simpa using hkb 0 _ rfl
        clear hka hkb
        by_cases hc : X = Y
        · have hq : (X != Y) = false := by rw [hc]; simp
          have HC := Lib.hid hc
          clear hc
          go_wp2
          go_quiet (fail)
          go_wp2
          go_roundw
          case rel =>
            refine ⟨k + 1, n + nq, by omega, by go_num, by simp, ?_⟩
            rw [HT1.out, HT2.out, HE.out, HC.out]
          case measure => simp [intOf]; omega
        · have hq : (X != Y) = true := by rw [bne_iff_ne]; exact hc
          have HC := Lib.hid hc
          clear hc
          go_wp2
          go_quiet (fail)
          go_wp2
          go_ret
          refine ⟨?_, _, by rw [World.drewN_drewN]⟩
          have : ¬ l = m := fun h => HC.out (by
            have h0 := congrArg (fun t => t[k]?) h
            simp only [HGa.out, HGb.out] at h0
            exact Option.some.inj h0)
          simp [this]
      · go_wp2
        go_ret
        refine ⟨?_, _, rfl⟩
        have hx : l.take k = l := List.take_of_length_le (by omega)
        have hy : m.take k = m := List.take_of_length_le (by have := HL.out; omega)
        have : l = m := by have := HE.out; rwa [hx, hy] at this
        simp [this]
  · have hlb : ((l.length : Int) != m.length) = true := by simp; omega
    go_enter Tryz.func36, Tryz.ntmps36
    go_wp2
    go_ret
    refine ⟨?_, 0, rfl⟩
    have : ¬ l = m := fun h => hl (by rw [h])
    simp [this]

theorem quiet_on {P : Program} {f : FuncId} {args : Array Value} {w : World} {a n : Nat} {v : Value}
    (h : Calls P f args (w.drewN (a + n)) fun e w' => e = .returned v ∧ Drw (w.drewN (a + n)) w') :
    Calls P f args (w.drewN (a + n)) fun e w'' => e = .returned v ∧ ∃ m, w'' = w.drewN (a + m) :=
  h.mono fun _ _ ⟨he, k, hm⟩ => ⟨he, n + k, by rw [hm, World.drewN_drewN, Nat.add_assoc]⟩
theorem bs_drewN {w : World} {v : Value} {l : List UInt8} (h : Bs w v l) (n : Nat) : Bs (w.drewN n) v l := by
  obtain ⟨a, c, hv, hm, hx⟩ := h
  exact ⟨a, c, hv, hm, hx⟩
set_option maxRecDepth 100000 in
set_option maxHeartbeats 8000000 in
theorem sents_same (B1 B2 : Nat) (a b : Value) (l m : List SentD) (w : World) (ha : RowOf B1 w a 2 (l.map SentD.cells)) (hb : RowOf B2 w b 2 (m.map SentD.cells)) (hbsa : ∀ x ∈ l, Bs w (.slice x.sa x.bytes.length x.sc) x.bytes) (hbsb : ∀ x ∈ m, Bs w (.slice x.sa x.bytes.length x.sc) x.bytes) :
    Calls Tryz.prog 34 #[a, b] w fun e w' => e = .returned (.bool (decide ((l.map SentD.val) = (m.map SentD.val)))) ∧ Drw w w' := by
  have HSA := Lib.hid hbsa
  have HSB := Lib.hid hbsb
  clear hbsa hbsb
  obtain ⟨aa, ca, rfl, hca, hma, hxa⟩ := ha
  obtain ⟨ab, cb, rfl, hcb, hmb, hxb⟩ := hb
  rw [List.length_map] at hca hma hcb hmb
  simp only [List.length_map] at *
  by_cases hl : l.length = m.length
  · have hlb : ((l.length : Int) != m.length) = false := by rw [hl]; simp
    have HL := Lib.hid hl
    clear hl
    go_enter Tryz.func34, Tryz.ntmps34
    go_wp2
    go_loopw [5] (fun i wr => ∃ k n : Nat, k ≤ l.length ∧ i = .int .i64 k ∧ wr = w.drewN n ∧ (l.map SentD.val).take k = (m.map SentD.val).take k) (fun i _ => l.length - (intOf i).toNat)
    case atStart => exact ⟨0, 0, by omega, rfl, rfl, rfl⟩
    case round =>
      obtain ⟨k, n, hk, rfl, rfl, heq⟩ := hrel
      have HE := Lib.hid heq
      clear heq
      by_cases hlt : k < l.length
      · have hlt2 : k < m.length := by have := HL.out; omega
        obtain ⟨ba, oa, rfl, _, hca⟩ := hxa (by intro h; rw [List.map_eq_nil_iff] at h; rw [h] at hlt; simp at hlt)
        obtain ⟨bb, ob, rfl, _, hcb⟩ := hxb (by intro h; rw [List.map_eq_nil_iff] at h; rw [h] at hlt2; simp at hlt2)
        have hga : l[k]? = some l[k] := List.getElem?_eq_getElem hlt
        have hgb : m[k]? = some m[k] := List.getElem?_eq_getElem hlt2
        have hT1 : (l.map SentD.val).take (k + 1) = (l.map SentD.val).take k ++ [l[k].val] := by rw [List.take_succ_eq_append_getElem (by simpa using hlt), List.getElem_map]
        have hT2 : (m.map SentD.val).take (k + 1) = (m.map SentD.val).take k ++ [m[k].val] := by rw [List.take_succ_eq_append_getElem (by simpa using hlt2), List.getElem_map]
        have hsa := HSA.out l[k] (List.getElem_mem _)
        have hsb := HSB.out m[k] (List.getElem_mem _)
        generalize l[k] = X at hga hT1 hsa
        generalize m[k] = Y at hgb hT2 hsb
        have HT1 := Lib.hid hT1
        have HT2 := Lib.hid hT2
        have HGa := Lib.hid hga
        have HGb := Lib.hid hgb
        have hka := hca k X.cells (by rw [List.getElem?_map, hga]; rfl)
        have hkb := hcb k Y.cells (by rw [List.getElem?_map, hgb]; rfl)
        clear hca hcb hxa hxb hT1 hT2 hga hgb
        have k0 : w.cell? ⟨ba, oa + k * 2, none⟩ = _ := hka 0 _ rfl
        have k1 := hka 1 _ rfl
        have m0 : w.cell? ⟨bb, ob + k * 2, none⟩ = _ := hkb 0 _ rfl
        have m1 := hkb 1 _ rfl
        clear hka hkb
        have hsm := fun n => same_any _ _ X.bytes Y.bytes (w.drewN n) (bs_drewN hsa n) (bs_drewN hsb n)
        clear hsa hsb
        by_cases h1 : X.dst = Y.dst
        · have hq : ((X.dst : Int) != (Y.dst : Int)) = false := by rw [h1]; simp
          have H1 := Lib.hid h1
          clear h1
          by_cases h2 : X.bytes = Y.bytes
          · have HC := Lib.hid (show X.val = Y.val by unfold SentD.val; rw [H1.out, h2])
            simp only [decide_eq_true h2] at hsm
            have HSM := Lib.hid hsm
            clear hsm h2
            go_wp2
            go_quiet ((go_at_call 13; exact quiet_on (HSM.out _)))
            go_wp2
            go_roundw
            case rel =>
              refine ⟨k + 1, n + nq, by omega, by go_num, by simp, ?_⟩
              rw [HT1.out, HT2.out, HE.out, HC.out]
            case measure => simp [intOf]; omega
          · have HC := Lib.hid (show ¬ X.val = Y.val from fun e => h2 (congrArg (fun p : Nat × List UInt8 => p.2) e))
            simp only [decide_eq_false h2] at hsm
            have HSM := Lib.hid hsm
            clear hsm h2
            go_wp2
            go_quiet ((go_at_call 13; exact quiet_on (HSM.out _)))
            go_wp2
            go_ret
            refine ⟨?_, _, by rw [World.drewN_drewN]⟩
            have : ¬ (l.map SentD.val) = (m.map SentD.val) := fun h => HC.out (by
              have h0 := congrArg (fun t => t[k]?) h
              simp only [List.getElem?_map, HGa.out, HGb.out, Option.map_some] at h0
              exact Option.some.inj h0)
            simp [this]
        · have hq : ((X.dst : Int) != (Y.dst : Int)) = true := by rw [bne_iff_ne]; omega
          have HC := Lib.hid (show ¬ X.val = Y.val from fun e => h1 (congrArg (fun p : Nat × List UInt8 => p.1) e))
          clear h1 hsm
          go_wp2
          go_quiet (fail)
          go_wp2
          go_ret
          refine ⟨?_, _, by rw [World.drewN_drewN]⟩
          have : ¬ (l.map SentD.val) = (m.map SentD.val) := fun h => HC.out (by
            have h0 := congrArg (fun t => t[k]?) h
            simp only [List.getElem?_map, HGa.out, HGb.out, Option.map_some] at h0
            exact Option.some.inj h0)
          simp [this]
      · go_wp2
        go_ret
        refine ⟨?_, _, rfl⟩
        have hx : (l.map SentD.val).take k = (l.map SentD.val) := List.take_of_length_le (by rw [List.length_map]; omega)
        have hy : (m.map SentD.val).take k = (m.map SentD.val) := List.take_of_length_le (by rw [List.length_map]; have := HL.out; omega)
        have : (l.map SentD.val) = (m.map SentD.val) := by have := HE.out; rwa [hx, hy] at this
        simp [this]
  · have hlb : ((l.length : Int) != m.length) = true := by simp; omega
    go_enter Tryz.func34, Tryz.ntmps34
    go_wp2
    go_ret
    refine ⟨?_, 0, rfl⟩
    have : ¬ (l.map SentD.val) = (m.map SentD.val) := fun h => hl (by have := congrArg List.length h; simpa using this)
    simp [this]

set_option maxRecDepth 100000 in
set_option maxHeartbeats 8000000 in
theorem givens_same (B1 B2 : Nat) (a b : Value) (l m : List GivenD) (w : World) (ha : RowOf B1 w a 4 (l.map GivenD.cells)) (hb : RowOf B2 w b 4 (m.map GivenD.cells)) (hbsa : ∀ x ∈ l, Bs w (.slice x.sa x.bytes.length x.sc) x.bytes) (hbsb : ∀ x ∈ m, Bs w (.slice x.sa x.bytes.length x.sc) x.bytes) :
    Calls Tryz.prog 30 #[a, b] w fun e w' => e = .returned (.bool (decide ((l.map GivenD.val) = (m.map GivenD.val)))) ∧ Drw w w' := by
  have HSA := Lib.hid hbsa
  have HSB := Lib.hid hbsb
  clear hbsa hbsb
  obtain ⟨aa, ca, rfl, hca, hma, hxa⟩ := ha
  obtain ⟨ab, cb, rfl, hcb, hmb, hxb⟩ := hb
  rw [List.length_map] at hca hma hcb hmb
  simp only [List.length_map] at *
  by_cases hl : l.length = m.length
  · have hlb : ((l.length : Int) != m.length) = false := by rw [hl]; simp
    have HL := Lib.hid hl
    clear hl
    go_enter Tryz.func30, Tryz.ntmps30
    go_wp2
    go_loopw [5] (fun i wr => ∃ k n : Nat, k ≤ l.length ∧ i = .int .i64 k ∧ wr = w.drewN n ∧ (l.map GivenD.val).take k = (m.map GivenD.val).take k) (fun i _ => l.length - (intOf i).toNat)
    case atStart => exact ⟨0, 0, by omega, rfl, rfl, rfl⟩
    case round =>
      obtain ⟨k, n, hk, rfl, rfl, heq⟩ := hrel
      have HE := Lib.hid heq
      clear heq
      by_cases hlt : k < l.length
      · have hlt2 : k < m.length := by have := HL.out; omega
        obtain ⟨ba, oa, rfl, _, hca⟩ := hxa (by intro h; rw [List.map_eq_nil_iff] at h; rw [h] at hlt; simp at hlt)
        obtain ⟨bb, ob, rfl, _, hcb⟩ := hxb (by intro h; rw [List.map_eq_nil_iff] at h; rw [h] at hlt2; simp at hlt2)
        have hga : l[k]? = some l[k] := List.getElem?_eq_getElem hlt
        have hgb : m[k]? = some m[k] := List.getElem?_eq_getElem hlt2
        have hT1 : (l.map GivenD.val).take (k + 1) = (l.map GivenD.val).take k ++ [l[k].val] := by rw [List.take_succ_eq_append_getElem (by simpa using hlt), List.getElem_map]
        have hT2 : (m.map GivenD.val).take (k + 1) = (m.map GivenD.val).take k ++ [m[k].val] := by rw [List.take_succ_eq_append_getElem (by simpa using hlt2), List.getElem_map]
        have hsa := HSA.out l[k] (List.getElem_mem _)
        have hsb := HSB.out m[k] (List.getElem_mem _)
        generalize l[k] = X at hga hT1 hsa
        generalize m[k] = Y at hgb hT2 hsb
        have HT1 := Lib.hid hT1
        have HT2 := Lib.hid hT2
        have HGa := Lib.hid hga
        have HGb := Lib.hid hgb
        have hka := hca k X.cells (by rw [List.getElem?_map, hga]; rfl)
        have hkb := hcb k Y.cells (by rw [List.getElem?_map, hgb]; rfl)
        clear hca hcb hxa hxb hT1 hT2 hga hgb
        have k0 : w.cell? ⟨ba, oa + k * 4, none⟩ = _ := hka 0 _ rfl
        have k1 := hka 1 _ rfl
        have k2 := hka 2 _ rfl
        have k3 := hka 3 _ rfl
        have m0 : w.cell? ⟨bb, ob + k * 4, none⟩ = _ := hkb 0 _ rfl
        have m1 := hkb 1 _ rfl
        have m2 := hkb 2 _ rfl
        have m3 := hkb 3 _ rfl
        clear hka hkb
        have hsm := fun n => same_any _ _ X.bytes Y.bytes (w.drewN n) (bs_drewN hsa n) (bs_drewN hsb n)
        clear hsa hsb
        by_cases h1 : X.host = Y.host
        · have hq1 : (X.host != Y.host) = false := by rw [h1]; simp
          by_cases h2 : X.dst = Y.dst
          · have hq2 : ((X.dst : Int) != (Y.dst : Int)) = false := by rw [h2]; simp
            by_cases h3 : X.name = Y.name
            · have hq3 : X.name.toList = Y.name.toList := by rw [h3]
              have hq3b : (X.name.toList != Y.name.toList) = false := by rw [h3]; simp
              have hq3c : decide (X.name.toList = Y.name.toList) = true := by rw [h3]; simp
              by_cases h4 : X.bytes = Y.bytes
              · have HC := Lib.hid (show X.val = Y.val by unfold GivenD.val; rw [h1, h2, h3, h4])
                simp only [decide_eq_true h4] at hsm
                have HSM := Lib.hid hsm
                clear hsm h1 h2 h3 h4
                go_wp2
                go_quiet ((go_at_call 13; exact quiet_on (HSM.out _)))
                go_wp2
                go_roundw
                case rel =>
                  refine ⟨k + 1, n + nq, by omega, by go_num, by simp, ?_⟩
                  rw [HT1.out, HT2.out, HE.out, HC.out]
                case measure => simp [intOf]; omega
              · have HC := Lib.hid (show ¬ X.val = Y.val from fun e => h4 (congrArg (fun p : Int × Nat × List UInt8 × List UInt8 => p.2.2.2) e))
                simp only [decide_eq_false h4] at hsm
                have HSM := Lib.hid hsm
                clear hsm h1 h2 h3 h4
                go_wp2
                go_quiet ((go_at_call 13; exact quiet_on (HSM.out _)))
                go_wp2
                go_ret
                refine ⟨?_, _, by rw [World.drewN_drewN]⟩
                have : ¬ (l.map GivenD.val) = (m.map GivenD.val) := fun h => HC.out (by
                  have h0 := congrArg (fun t => t[k]?) h
                  simp only [List.getElem?_map, HGa.out, HGb.out, Option.map_some] at h0
                  exact Option.some.inj h0)
                simp [this]
            · have hq3 : ¬ X.name.toList = Y.name.toList := by rw [ByteArray.toList_eq, ByteArray.toList_eq]; exact fun e => h3 (ByteArray.ext (Array.toList_inj.1 e))
              have hq3b : (X.name.toList != Y.name.toList) = true := by rw [bne_iff_ne]; exact hq3
              have hq3c : decide (X.name.toList = Y.name.toList) = false := decide_eq_false hq3
              have HC := Lib.hid (show ¬ X.val = Y.val from fun e => h3 (ByteArray.ext (Array.toList_inj.1 (congrArg (fun p : Int × Nat × List UInt8 × List UInt8 => p.2.2.1) e))))
              clear h1 h2 h3 hsm
              go_wp2
              go_quiet (fail)
              go_wp2
              go_ret
              refine ⟨?_, _, by rw [World.drewN_drewN]⟩
              have : ¬ (l.map GivenD.val) = (m.map GivenD.val) := fun h => HC.out (by
                have h0 := congrArg (fun t => t[k]?) h
                simp only [List.getElem?_map, HGa.out, HGb.out, Option.map_some] at h0
                exact Option.some.inj h0)
              simp [this]
          · have hq2 : ((X.dst : Int) != (Y.dst : Int)) = true := by rw [bne_iff_ne]; omega
            have HC := Lib.hid (show ¬ X.val = Y.val from fun e => h2 (congrArg (fun p : Int × Nat × List UInt8 × List UInt8 => p.2.1) e))
            clear h1 h2 hsm
            go_wp2
            go_quiet (fail)
            go_wp2
            go_ret
            refine ⟨?_, _, by rw [World.drewN_drewN]⟩
            have : ¬ (l.map GivenD.val) = (m.map GivenD.val) := fun h => HC.out (by
              have h0 := congrArg (fun t => t[k]?) h
              simp only [List.getElem?_map, HGa.out, HGb.out, Option.map_some] at h0
              exact Option.some.inj h0)
            simp [this]
        · have hq1 : (X.host != Y.host) = true := by rw [bne_iff_ne]; exact h1
          have HC := Lib.hid (show ¬ X.val = Y.val from fun e => h1 (congrArg (fun p : Int × Nat × List UInt8 × List UInt8 => p.1) e))
          clear h1 hsm
          go_wp2
          go_quiet (fail)
          go_wp2
          go_ret
          refine ⟨?_, _, by rw [World.drewN_drewN]⟩
          have : ¬ (l.map GivenD.val) = (m.map GivenD.val) := fun h => HC.out (by
            have h0 := congrArg (fun t => t[k]?) h
            simp only [List.getElem?_map, HGa.out, HGb.out, Option.map_some] at h0
            exact Option.some.inj h0)
          simp [this]
      · go_wp2
        go_ret
        refine ⟨?_, _, rfl⟩
        have hx : (l.map GivenD.val).take k = (l.map GivenD.val) := List.take_of_length_le (by rw [List.length_map]; omega)
        have hy : (m.map GivenD.val).take k = (m.map GivenD.val) := List.take_of_length_le (by rw [List.length_map]; have := HL.out; omega)
        have : (l.map GivenD.val) = (m.map GivenD.val) := by have := HE.out; rwa [hx, hy] at this
        simp [this]
  · have hlb : ((l.length : Int) != m.length) = true := by simp; omega
    go_enter Tryz.func30, Tryz.ntmps30
    go_wp2
    go_ret
    refine ⟨?_, 0, rfl⟩
    have : ¬ (l.map GivenD.val) = (m.map GivenD.val) := fun h => hl (by have := congrArg List.length h; simpa using this)
    simp [this]

end Go.Proofs.YtmnkdnpjcfmjgaaGreatDoor
