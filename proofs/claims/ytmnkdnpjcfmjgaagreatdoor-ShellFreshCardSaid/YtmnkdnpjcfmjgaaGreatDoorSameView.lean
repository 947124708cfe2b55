/- Package weftlaw20: the same views. -/
import Derived.Test.YtmnkdnpjcfmjgaaGreatDoorSameTabs
import Derived.BigQuiet
namespace Go.Proofs.YtmnkdnpjcfmjgaaGreatDoor
open Go.RowKit

/-- a callee's answer, known ahead -/
theorem known {P : Program} {f : FuncId} {args : Array Value} {w : World} {p : Prop} [Decidable p] {G : World → Prop} (h : Calls P f args w fun e w' => e = .returned (.bool (decide p)) ∧ G w') (b : Bool) (hb : decide p = b) : Calls P f args w fun e w' => e = .returned (.bool b) ∧ G w' := by
  subst hb; exact h
/-- the function answers whether p -/
def Tell (e : Ending) (p : Prop) : Prop := ∃ r, e = .returned (.bool r) ∧ (r = true ↔ p)
theorem knownB {P : Program} {f : FuncId} {args : Array Value} {w : World} {p : Prop} {G : World → Prop} (h : Calls P f args w fun e w' => Tell e p ∧ G w') (b : Bool) (hb : b = true ↔ p) : Calls P f args w fun e w' => e = .returned (.bool b) ∧ G w' := by
  refine h.mono ?_
  rintro e w' ⟨⟨r, rfl, hr⟩, hg⟩
  refine ⟨?_, hg⟩
  have : r = b := by rw [Bool.eq_iff_iff, hr, hb]
  rw [this]
def SameV (x y : ViewD) : Prop := x.has = y.has ∧ x.lease = y.lease ∧ x.cursor = y.cursor ∧ x.synced = y.synced ∧ x.degraded = y.degraded ∧ x.leases = y.leases ∧ x.skipped = y.skipped ∧ (x.tabs.routes = y.tabs.routes ∧ x.tabs.neighs = y.tabs.neighs ∧ x.tabs.fdbs = y.tabs.fdbs)

theorem Two.drw {w : World} {cs ds : Array Value} {T : TypeId} {u u' : World} (h : Two w cs ds T u) (hd : Drw u u') : Two w cs ds T u' := by
  obtain ⟨n, rfl⟩ := hd
  exact h.drewN n

set_option maxRecDepth 100000 in
set_option maxHeartbeats 16000000 in
theorem views_same (B1 B2 : Nat) (x y : ViewD) (v5 v6 v1 v2 v3 u5 u6 u1 u2 u3 : Value) (w : World) (hB1 : B1 ≤ w.heap.size) (hB2 : B2 ≤ w.heap.size)
    (f5 : RowOf B1 w v5 12 (x.leases.map LeaseD.cells)) (f6 : RowOf B1 w v6 2 (x.skipped.map PrefixD.cells)) (f1 : RowOf B1 w v1 4 (x.tabs.routes.map RouteD.cells)) (f2 : RowOf B1 w v2 7 (x.tabs.neighs.map NeighD.cells)) (f3 : RowOf B1 w v3 7 (x.tabs.fdbs.map FdbD.cells))
    (j5 : RowOf B2 w u5 12 (y.leases.map LeaseD.cells)) (j6 : RowOf B2 w u6 2 (y.skipped.map PrefixD.cells)) (j1 : RowOf B2 w u1 4 (y.tabs.routes.map RouteD.cells)) (j2 : RowOf B2 w u2 7 (y.tabs.neighs.map NeighD.cells)) (j3 : RowOf B2 w u3 7 (y.tabs.fdbs.map FdbD.cells)) :
    Calls Tryz.prog 35 #[.agg #[.bool x.has, .int .i64 x.lease.host, .int .u32 x.lease.a, .int .i64 x.lease.n, .int .u32 x.lease.pub, .int .u8 x.lease.mac.b.toNat, .int .u8 x.lease.mac.c.toNat, .int .u8 x.lease.mac.d.toNat, .int .u8 x.lease.mac.e.toNat, .int .u8 x.lease.mac.f.toNat, .int .u8 x.lease.mac.g.toNat, .int .i64 x.lease.till, .int .i64 x.lease.rev, .int .i64 x.cursor, .bool x.synced, .bool x.degraded, v5, v6, v1, v2, v3], .agg #[.bool y.has, .int .i64 y.lease.host, .int .u32 y.lease.a, .int .i64 y.lease.n, .int .u32 y.lease.pub, .int .u8 y.lease.mac.b.toNat, .int .u8 y.lease.mac.c.toNat, .int .u8 y.lease.mac.d.toNat, .int .u8 y.lease.mac.e.toNat, .int .u8 y.lease.mac.f.toNat, .int .u8 y.lease.mac.g.toNat, .int .i64 y.lease.till, .int .i64 y.lease.rev, .int .i64 y.cursor, .bool y.synced, .bool y.degraded, u5, u6, u1, u2, u3]] w fun e w' => Tell e (SameV x y) ∧ Below w.heap.size w w' := by
  have HX5 := Lib.hid f5
  have HY5 := Lib.hid j5
  have HX6 := Lib.hid f6
  have HY6 := Lib.hid j6
  have HX1 := Lib.hid f1
  have HY1 := Lib.hid j1
  have HX2 := Lib.hid f2
  have HY2 := Lib.hid j2
  have HX3 := Lib.hid f3
  have HY3 := Lib.hid j3
  have HB1 := Lib.hid hB1
  have HB2 := Lib.hid hB2
  clear f5 f6 f1 f2 f3 j5 j6 j1 j2 j3 hB1 hB2
  have HT0 := Lib.hid (Two.new w #[.bool x.has, .int .i64 x.lease.host, .int .u32 x.lease.a, .int .i64 x.lease.n, .int .u32 x.lease.pub, .int .u8 x.lease.mac.b.toNat, .int .u8 x.lease.mac.c.toNat, .int .u8 x.lease.mac.d.toNat, .int .u8 x.lease.mac.e.toNat, .int .u8 x.lease.mac.f.toNat, .int .u8 x.lease.mac.g.toNat, .int .i64 x.lease.till, .int .i64 x.lease.rev, .int .i64 x.cursor, .bool x.synced, .bool x.degraded, v5, v6, v1, v2, v3] #[.bool y.has, .int .i64 y.lease.host, .int .u32 y.lease.a, .int .i64 y.lease.n, .int .u32 y.lease.pub, .int .u8 y.lease.mac.b.toNat, .int .u8 y.lease.mac.c.toNat, .int .u8 y.lease.mac.d.toNat, .int .u8 y.lease.mac.e.toNat, .int .u8 y.lease.mac.f.toNat, .int .u8 y.lease.mac.g.toNat, .int .i64 y.lease.till, .int .i64 y.lease.rev, .int .i64 y.cursor, .bool y.synced, .bool y.degraded, u5, u6, u1, u2, u3] 49)
  go_enter Tryz.func35, Tryz.ntmps35
  go_upto_region 1 with fail
  generalize (w.alloc (.cells #[.bool x.has, .int .i64 x.lease.host, .int .u32 x.lease.a, .int .i64 x.lease.n, .int .u32 x.lease.pub, .int .u8 x.lease.mac.b.toNat, .int .u8 x.lease.mac.c.toNat, .int .u8 x.lease.mac.d.toNat, .int .u8 x.lease.mac.e.toNat, .int .u8 x.lease.mac.f.toNat, .int .u8 x.lease.mac.g.toNat, .int .i64 x.lease.till, .int .i64 x.lease.rev, .int .i64 x.cursor, .bool x.synced, .bool x.degraded, v5, v6, v1, v2, v3] 49)).alloc (.cells #[.bool y.has, .int .i64 y.lease.host, .int .u32 y.lease.a, .int .i64 y.lease.n, .int .u32 y.lease.pub, .int .u8 y.lease.mac.b.toNat, .int .u8 y.lease.mac.c.toNat, .int .u8 y.lease.mac.d.toNat, .int .u8 y.lease.mac.e.toNat, .int .u8 y.lease.mac.f.toNat, .int .u8 y.lease.mac.g.toNat, .int .i64 y.lease.till, .int .i64 y.lease.rev, .int .i64 y.cursor, .bool y.synced, .bool y.degraded, u5, u6, u1, u2, u3] 49) = W at HT0 ⊢
  have p0 := HT0.out.cell1 (k := 0) rfl
  have r0 := HT0.out.cell2 (k := 0) rfl
  have p1 := HT0.out.cell1 (k := 1) rfl
  have r1 := HT0.out.cell2 (k := 1) rfl
  have p2 := HT0.out.cell1 (k := 2) rfl
  have r2 := HT0.out.cell2 (k := 2) rfl
  have p3 := HT0.out.cell1 (k := 3) rfl
  have r3 := HT0.out.cell2 (k := 3) rfl
  have p4 := HT0.out.cell1 (k := 4) rfl
  have r4 := HT0.out.cell2 (k := 4) rfl
  have p5 := HT0.out.cell1 (k := 5) rfl
  have r5 := HT0.out.cell2 (k := 5) rfl
  have p6 := HT0.out.cell1 (k := 6) rfl
  have r6 := HT0.out.cell2 (k := 6) rfl
  have p7 := HT0.out.cell1 (k := 7) rfl
  have r7 := HT0.out.cell2 (k := 7) rfl
  have p8 := HT0.out.cell1 (k := 8) rfl
  have r8 := HT0.out.cell2 (k := 8) rfl
  have p9 := HT0.out.cell1 (k := 9) rfl
  have r9 := HT0.out.cell2 (k := 9) rfl
  have p10 := HT0.out.cell1 (k := 10) rfl
  have r10 := HT0.out.cell2 (k := 10) rfl
  have p11 := HT0.out.cell1 (k := 11) rfl
  have r11 := HT0.out.cell2 (k := 11) rfl
  have p12 := HT0.out.cell1 (k := 12) rfl
  have r12 := HT0.out.cell2 (k := 12) rfl
  have p13 := HT0.out.cell1 (k := 13) rfl
  have r13 := HT0.out.cell2 (k := 13) rfl
  have p14 := HT0.out.cell1 (k := 14) rfl
  have r14 := HT0.out.cell2 (k := 14) rfl
  have p15 := HT0.out.cell1 (k := 15) rfl
  have r15 := HT0.out.cell2 (k := 15) rfl
  have p16 := HT0.out.cell1 (k := 16) rfl
  have r16 := HT0.out.cell2 (k := 16) rfl
  have p17 := HT0.out.cell1 (k := 17) rfl
  have r17 := HT0.out.cell2 (k := 17) rfl
  have p18 := HT0.out.cell1 (k := 18) rfl
  have r18 := HT0.out.cell2 (k := 18) rfl
  have p19 := HT0.out.cell1 (k := 19) rfl
  have r19 := HT0.out.cell2 (k := 19) rfl
  have p20 := HT0.out.cell1 (k := 20) rfl
  have r20 := HT0.out.cell2 (k := 20) rfl
  by_cases e0 : x.has = y.has
  · have qe0 : (x.has == y.has) = true := by rw [e0]; simp
    have E0 := Lib.hid e0
    clear e0
    by_cases e1 : x.lease = y.lease
    · have qe1 := fun W => (lease_ne x.lease y.lease W).trans (by rw [decide_eq_true e1]; rfl : _ = Result.ok (Value.bool false) W)
      have E1 := Lib.hid e1
      clear e1
      by_cases e2 : x.cursor = y.cursor
      · have qe2 : (x.cursor != y.cursor) = false := by rw [e2]; simp
        have E2 := Lib.hid e2
        clear e2
        by_cases e3 : x.synced = y.synced
        · have qe3 : (x.synced == y.synced) = true := by rw [e3]; simp
          have E3 := Lib.hid e3
          clear e3
          by_cases e4 : x.degraded = y.degraded
          · have qe4 : (x.degraded == y.degraded) = true := by rw [e4]; simp
            have E4 := Lib.hid e4
            clear e4
            by_cases e5 : x.leases = y.leases
            · have E5 := Lib.hid e5
              clear e5
              go_wp2_with fail
              refine (known (leases_same B1 B2 v5 u5 x.leases y.leases _ (HX5.out.below (HT0.out.below.mono HB1.out)) (HY5.out.below (HT0.out.below.mono HB2.out))) true (decide_eq_true E5.out)).mono ?_
              rintro e w1 ⟨rfl, hg⟩
              have HT0 := Lib.hid (HT0.out.drw hg)
              clear hg
              clear p16 r16 p17 r17 p18 r18 p19 r19 p20 r20
              have p16 := HT0.out.cell1 (k := 16) rfl
              have r16 := HT0.out.cell2 (k := 16) rfl
              have p17 := HT0.out.cell1 (k := 17) rfl
              have r17 := HT0.out.cell2 (k := 17) rfl
              have p18 := HT0.out.cell1 (k := 18) rfl
              have r18 := HT0.out.cell2 (k := 18) rfl
              have p19 := HT0.out.cell1 (k := 19) rfl
              have r19 := HT0.out.cell2 (k := 19) rfl
              have p20 := HT0.out.cell1 (k := 20) rfl
              have r20 := HT0.out.cell2 (k := 20) rfl
              by_cases e6 : x.skipped = y.skipped
              · have E6 := Lib.hid e6
                clear e6
                go_wp2_with fail
                refine (known (prefixes_same B1 B2 v6 u6 x.skipped y.skipped _ (HX6.out.below (HT0.out.below.mono HB1.out)) (HY6.out.below (HT0.out.below.mono HB2.out))) true (decide_eq_true E6.out)).mono ?_
                rintro e w1 ⟨rfl, hg⟩
                have HT0 := Lib.hid (HT0.out.drw hg)
                clear hg
                clear p16 r16 p17 r17 p18 r18 p19 r19 p20 r20
                have p16 := HT0.out.cell1 (k := 16) rfl
                have r16 := HT0.out.cell2 (k := 16) rfl
                have p17 := HT0.out.cell1 (k := 17) rfl
                have r17 := HT0.out.cell2 (k := 17) rfl
                have p18 := HT0.out.cell1 (k := 18) rfl
                have r18 := HT0.out.cell2 (k := 18) rfl
                have p19 := HT0.out.cell1 (k := 19) rfl
                have r19 := HT0.out.cell2 (k := 19) rfl
                have p20 := HT0.out.cell1 (k := 20) rfl
                have r20 := HT0.out.cell2 (k := 20) rfl
                by_cases e7 : x.tabs.routes = y.tabs.routes ∧ x.tabs.neighs = y.tabs.neighs ∧ x.tabs.fdbs = y.tabs.fdbs
                · have E7 := Lib.hid e7
                  clear e7
                  go_wp2_with fail
                  refine (known (tables_same B1 B2 v1 v2 v3 u1 u2 u3 x.tabs y.tabs _ (Nat.le_trans HB1.out HT0.out.below.size) (Nat.le_trans HB2.out HT0.out.below.size) (HX1.out.below (HT0.out.below.mono HB1.out)) (HX2.out.below (HT0.out.below.mono HB1.out)) (HX3.out.below (HT0.out.below.mono HB1.out)) (HY1.out.below (HT0.out.below.mono HB2.out)) (HY2.out.below (HT0.out.below.mono HB2.out)) (HY3.out.below (HT0.out.below.mono HB2.out))) true (decide_eq_true E7.out)).mono ?_
                  rintro e w1 ⟨rfl, hg⟩
                  have HT0 := Lib.hid (HT0.out.grow hg)
                  clear hg
                  skip
                  go_wp2
                  go_ret
                  exact ⟨⟨true, rfl, ⟨fun _ => ⟨E0.out, E1.out, E2.out, E3.out, E4.out, E5.out, E6.out, E7.out⟩, fun _ => rfl⟩⟩, HT0.out.below⟩
                · have E7 := Lib.hid e7
                  clear e7
                  go_wp2_with fail
                  refine (known (tables_same B1 B2 v1 v2 v3 u1 u2 u3 x.tabs y.tabs _ (Nat.le_trans HB1.out HT0.out.below.size) (Nat.le_trans HB2.out HT0.out.below.size) (HX1.out.below (HT0.out.below.mono HB1.out)) (HX2.out.below (HT0.out.below.mono HB1.out)) (HX3.out.below (HT0.out.below.mono HB1.out)) (HY1.out.below (HT0.out.below.mono HB2.out)) (HY2.out.below (HT0.out.below.mono HB2.out)) (HY3.out.below (HT0.out.below.mono HB2.out))) false (decide_eq_false E7.out)).mono ?_
                  rintro e w1 ⟨rfl, hg⟩
                  have HT0 := Lib.hid (HT0.out.grow hg)
                  clear hg
                  go_wp2
                  go_ret
                  exact ⟨⟨false, rfl, ⟨fun h => absurd h Bool.false_ne_true, fun h => absurd (h.2.2.2.2.2.2.2) E7.out⟩⟩, HT0.out.below⟩
              · have E6 := Lib.hid e6
                clear e6
                go_wp2_with fail
                refine (known (prefixes_same B1 B2 v6 u6 x.skipped y.skipped _ (HX6.out.below (HT0.out.below.mono HB1.out)) (HY6.out.below (HT0.out.below.mono HB2.out))) false (decide_eq_false E6.out)).mono ?_
                rintro e w1 ⟨rfl, hg⟩
                have HT0 := Lib.hid (HT0.out.drw hg)
                clear hg
                go_wp2
                go_ret
                exact ⟨⟨false, rfl, ⟨fun h => absurd h Bool.false_ne_true, fun h => absurd (h.2.2.2.2.2.2.1) E6.out⟩⟩, HT0.out.below⟩
            · have E5 := Lib.hid e5
              clear e5
              go_wp2_with fail
              refine (known (leases_same B1 B2 v5 u5 x.leases y.leases _ (HX5.out.below (HT0.out.below.mono HB1.out)) (HY5.out.below (HT0.out.below.mono HB2.out))) false (decide_eq_false E5.out)).mono ?_
              rintro e w1 ⟨rfl, hg⟩
              have HT0 := Lib.hid (HT0.out.drw hg)
              clear hg
              go_wp2
              go_ret
              exact ⟨⟨false, rfl, ⟨fun h => absurd h Bool.false_ne_true, fun h => absurd (h.2.2.2.2.2.1) E5.out⟩⟩, HT0.out.below⟩
          · have qe4 : (x.degraded == y.degraded) = false := by rw [beq_eq_false_iff_ne]; exact e4
            have E4 := Lib.hid e4
            clear e4
            go_wp2
            go_ret
            exact ⟨⟨false, rfl, ⟨fun h => absurd h Bool.false_ne_true, fun h => absurd (h.2.2.2.2.1) E4.out⟩⟩, HT0.out.below⟩
        · have qe3 : (x.synced == y.synced) = false := by rw [beq_eq_false_iff_ne]; exact e3
          have E3 := Lib.hid e3
          clear e3
          go_wp2
          go_ret
          exact ⟨⟨false, rfl, ⟨fun h => absurd h Bool.false_ne_true, fun h => absurd (h.2.2.2.1) E3.out⟩⟩, HT0.out.below⟩
      · have qe2 : (x.cursor != y.cursor) = true := by rw [bne_iff_ne]; exact e2
        have E2 := Lib.hid e2
        clear e2
        go_wp2
        go_ret
        exact ⟨⟨false, rfl, ⟨fun h => absurd h Bool.false_ne_true, fun h => absurd (h.2.2.1) E2.out⟩⟩, HT0.out.below⟩
    · have qe1 := fun W => (lease_ne x.lease y.lease W).trans (by rw [decide_eq_false e1]; rfl : _ = Result.ok (Value.bool true) W)
      have E1 := Lib.hid e1
      clear e1
      go_wp2
      go_ret
      exact ⟨⟨false, rfl, ⟨fun h => absurd h Bool.false_ne_true, fun h => absurd (h.2.1) E1.out⟩⟩, HT0.out.below⟩
  · have qe0 : (x.has == y.has) = false := by rw [beq_eq_false_iff_ne]; exact e0
    have E0 := Lib.hid e0
    clear e0
    go_wp2
    go_ret
    exact ⟨⟨false, rfl, ⟨fun h => absurd h Bool.false_ne_true, fun h => absurd (h.1) E0.out⟩⟩, HT0.out.below⟩

end Go.Proofs.YtmnkdnpjcfmjgaaGreatDoor
