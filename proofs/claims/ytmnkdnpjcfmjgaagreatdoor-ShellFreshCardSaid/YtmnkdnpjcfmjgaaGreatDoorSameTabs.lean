/- Package weftlaw20: the same tables. -/
import Derived.Test.YtmnkdnpjcfmjgaaGreatDoorSame
import Derived.BigQuiet
namespace Go.Proofs.YtmnkdnpjcfmjgaaGreatDoor
open Go.RowKit

/-- two boxes that the function made, beside what was there -/
structure Two (w : World) (cs ds : Array Value) (T : TypeId) (u : World) : Prop where
  below : Below w.heap.size w u
  one : u.heap[w.heap.size]? = some (.cells cs T)
  two : u.heap[w.heap.size + 1]? = some (.cells ds T)
theorem Two.new (w : World) (cs ds : Array Value) (T : TypeId) : Two w cs ds T ((w.alloc (.cells cs T)).alloc (.cells ds T)) := by
  refine ⟨((Below.refl _ _).alloc (Nat.le_refl _) _).alloc (by simp) _, heap2_old _ _ _, ?_⟩
  have := heap_alloc_new (w.alloc (.cells cs T)) (.cells ds T)
  simpa using this
theorem Two.grow {w : World} {cs ds : Array Value} {T : TypeId} {u u' : World} (h : Two w cs ds T u) (hb : Below u.heap.size u u') : Two w cs ds T u' :=
  ⟨h.below.trans (hb.mono h.below.size), (hb.block _ (Array.getElem?_eq_some_iff.1 h.one).1).trans h.one, (hb.block _ (Array.getElem?_eq_some_iff.1 h.two).1).trans h.two⟩
theorem belowN (w : World) (n : Nat) : Below w.heap.size w (w.drewN n) := ⟨rfl, rfl, rfl, Nat.le_refl _, fun _ _ => rfl⟩
theorem Two.drewN {w : World} {cs ds : Array Value} {T : TypeId} {u : World} (h : Two w cs ds T u) (n : Nat) : Two w cs ds T (u.drewN n) := h.grow (belowN _ _)
theorem Two.cell1 {w : World} {cs ds : Array Value} {T : TypeId} {u : World} (h : Two w cs ds T u) {k : Nat} {v : Value} (hk : cs[k]? = some v) : u.cell? ⟨w.heap.size, k, none⟩ = some v := by
  simp [World.cell?, h.one, hk]
theorem Two.cell2 {w : World} {cs ds : Array Value} {T : TypeId} {u : World} (h : Two w cs ds T u) {k : Nat} {v : Value} (hk : ds[k]? = some v) : u.cell? ⟨w.heap.size + 1, k, none⟩ = some v := by
  simp [World.cell?, h.two, hk]

set_option maxRecDepth 100000 in
set_option maxHeartbeats 16000000 in
theorem tables_same (B1 B2 : Nat) (v1 v2 v3 u1 u2 u3 : Value) (t s : TablesD) (w : World) (hB1 : B1 ≤ w.heap.size) (hB2 : B2 ≤ w.heap.size)
    (g1 : RowOf B1 w v1 4 (t.routes.map RouteD.cells)) (g2 : RowOf B1 w v2 7 (t.neighs.map NeighD.cells)) (g3 : RowOf B1 w v3 7 (t.fdbs.map FdbD.cells))
    (j1 : RowOf B2 w u1 4 (s.routes.map RouteD.cells)) (j2 : RowOf B2 w u2 7 (s.neighs.map NeighD.cells)) (j3 : RowOf B2 w u3 7 (s.fdbs.map FdbD.cells)) :
    Calls Tryz.prog 32 #[.agg #[v1, v2, v3], .agg #[u1, u2, u3]] w fun e w' => e = .returned (.bool (decide (t.routes = s.routes ∧ t.neighs = s.neighs ∧ t.fdbs = s.fdbs))) ∧ Below w.heap.size w w' := by
  obtain ⟨a1, c1, rfl, hc1, hm1, hx1⟩ := g1
  obtain ⟨a2, c2, rfl, hc2, hm2, hx2⟩ := g2
  obtain ⟨a3, c3, rfl, hc3, hm3, hx3⟩ := g3
  obtain ⟨b1, d1, rfl, hd1, hn1, hy1⟩ := j1
  obtain ⟨b2, d2, rfl, hd2, hn2, hy2⟩ := j2
  obtain ⟨b3, d3, rfl, hd3, hn3, hy3⟩ := j3
  rw [List.length_map] at hc1 hm1 hc2 hm2 hc3 hm3 hd1 hn1 hd2 hn2 hd3 hn3
  obtain ⟨R1, N1, F1⟩ := t
  obtain ⟨R2, N2, F2⟩ := s
  simp only [List.length_map] at *
  have HX1 := Lib.hid hx1
  have HX2 := Lib.hid hx2
  have HX3 := Lib.hid hx3
  have HY1 := Lib.hid hy1
  have HY2 := Lib.hid hy2
  have HY3 := Lib.hid hy3
  have HB1 := Lib.hid hB1
  have HB2 := Lib.hid hB2
  clear hx1 hx2 hx3 hy1 hy2 hy3 hB1 hB2
  have HT0 := Lib.hid (Two.new w #[.slice a1 R1.length c1, .slice a2 N1.length c2, .slice a3 F1.length c3] #[.slice b1 R2.length d1, .slice b2 N2.length d2, .slice b3 F2.length d3] 38)
  go_enter Tryz.func32, Tryz.ntmps32
  go_upto_region 1 with fail
  generalize (w.alloc (.cells #[.slice a1 R1.length c1, .slice a2 N1.length c2, .slice a3 F1.length c3] 38)).alloc (.cells #[.slice b1 R2.length d1, .slice b2 N2.length d2, .slice b3 F2.length d3] 38) = W at HT0 ⊢
  have p1 := HT0.out.cell1 (k := 0) rfl
  have p2 := HT0.out.cell2 (k := 0) rfl
  have p3 := HT0.out.cell1 (k := 1) rfl
  have p4 := HT0.out.cell2 (k := 1) rfl
  have p5 := HT0.out.cell1 (k := 2) rfl
  have p6 := HT0.out.cell2 (k := 2) rfl
  by_cases hl1 : R1.length = R2.length
  · have hq1 : ((R1.length : Int) != R2.length) = false := by rw [hl1]; simp
    have HL1 := Lib.hid hl1
    clear hl1
    by_cases hl2 : N1.length = N2.length
    · have hq2 : ((N1.length : Int) != N2.length) = false := by rw [hl2]; simp
      have HL2 := Lib.hid hl2
      clear hl2
      by_cases hl3 : F1.length = F2.length
      · have hq3 : ((F1.length : Int) != F2.length) = false := by rw [hl3]; simp
        have HL3 := Lib.hid hl3
        clear hl3
        go_wp2
        clear p1 p2 p3 p4 p5 p6
        go_loopw [5] (fun i wr => ∃ k : Nat, k ≤ R1.length ∧ i = .int .i64 k ∧ Two w #[.slice a1 R1.length c1, .slice a2 N1.length c2, .slice a3 F1.length c3] #[.slice b1 R2.length d1, .slice b2 N2.length d2, .slice b3 F2.length d3] 38 wr ∧ R1.take k = R2.take k) (fun i _ => R1.length - (intOf i).toNat)
        case atStart => exact ⟨0, by omega, rfl, HT0.out, rfl⟩
        case round =>
          clear HT0
          obtain ⟨k, hk, rfl, ht, heq⟩ := hrel
          have HE := Lib.hid heq
          have HT0 := Lib.hid ht
          clear heq ht
          have q1 := HT0.out.cell1 (k := 0) rfl
          have q2 := HT0.out.cell2 (k := 0) rfl
          by_cases hlt : k < R1.length
          · have hlt2 : k < R2.length := by have := HL1.out; omega
            obtain ⟨ba, oa, rfl, hblk, hca⟩ := HX1.out (by intro h; rw [List.map_eq_nil_iff] at h; rw [h] at hlt; simp at hlt)
            obtain ⟨bb, ob, rfl, hblk2, hcb⟩ := HY1.out (by intro h; rw [List.map_eq_nil_iff] at h; rw [h] at hlt2; simp at hlt2)
            have hga : R1[k]? = some R1[k] := List.getElem?_eq_getElem hlt
            have hgb : R2[k]? = some R2[k] := List.getElem?_eq_getElem hlt2
            have hT1 := List.take_succ_eq_append_getElem hlt
            have hT2 := List.take_succ_eq_append_getElem hlt2
            generalize R1[k] = X at hga hT1
            generalize R2[k] = Y at hgb hT2
            have HT1 := Lib.hid hT1
            have HT2 := Lib.hid hT2
            have HGa := Lib.hid hga
            have HGb := Lib.hid hgb
            have hka : ∀ i u, X.cells[i]? = some u → wr.cell? ⟨ba, oa + k * 4 + i, none⟩ = some u := fun i u hu => (HT0.out.below.cell (p := ⟨ba, oa + k * 4 + i, none⟩) (Nat.lt_of_lt_of_le hblk HB1.out)).trans (hca k X.cells (by rw [List.getElem?_map, hga]; rfl) i u hu)
            have hkb : ∀ i u, Y.cells[i]? = some u → wr.cell? ⟨bb, ob + k * 4 + i, none⟩ = some u := fun i u hu => (HT0.out.below.cell (p := ⟨bb, ob + k * 4 + i, none⟩) (Nat.lt_of_lt_of_le hblk2 HB2.out)).trans (hcb k Y.cells (by rw [List.getElem?_map, hgb]; rfl) i u hu)
            clear hca hcb hT1 hT2 hga hgb hblk hblk2
            have k0 : wr.cell? ⟨ba, oa + k * 4, none⟩ = _ := hka 0 _ rfl
            have k1 := hka 1 _ rfl
            have k2 := hka 2 _ rfl
            have k3 := hka 3 _ rfl
            have m0 : wr.cell? ⟨bb, ob + k * 4, none⟩ = _ := hkb 0 _ rfl
            have m1 := hkb 1 _ rfl
            have m2 := hkb 2 _ rfl
            have m3 := hkb 3 _ rfl
            clear hka hkb
            by_cases hc : X = Y
            · have hq := fun W => (route_ne X Y W).trans (by rw [decide_eq_true hc]; rfl : _ = Result.ok (Value.bool false) W)
              have HC := Lib.hid hc
              clear hc
              go_wp2
              go_quiet (fail)
              go_wp2
              go_roundw
              case rel =>
                refine ⟨k + 1, by omega, by go_num, HT0.out.drewN _, ?_⟩
                rw [HT1.out, HT2.out, HE.out, HC.out]
              case measure => simp [intOf]; omega
            · have hq := fun W => (route_ne X Y W).trans (by rw [decide_eq_false hc]; rfl : _ = Result.ok (Value.bool true) W)
              have HC := Lib.hid hc
              clear hc
              go_wp2
              go_quiet (fail)
              go_wp2
              go_ret
              refine ⟨?_, (HT0.out.drewN _).below⟩
              have hd : ¬ R1 = R2 := fun h => HC.out (by
                have h0 := congrArg (fun t => t[k]?) h
                simp only [HGa.out, HGb.out] at h0
                exact Option.some.inj h0)
              simp [hd]
          · have HQ0 := Lib.hid (show R1 = R2 by
              have hx : R1.take k = R1 := List.take_of_length_le (by omega)
              have hy : R2.take k = R2 := List.take_of_length_le (by have := HL1.out; omega)
              have := HE.out
              rwa [hx, hy] at this)
            go_wp2
            go_loopw [6] (fun i wr => ∃ k : Nat, k ≤ N1.length ∧ i = .int .i64 k ∧ Two w #[.slice a1 R1.length c1, .slice a2 N1.length c2, .slice a3 F1.length c3] #[.slice b1 R2.length d1, .slice b2 N2.length d2, .slice b3 F2.length d3] 38 wr ∧ N1.take k = N2.take k) (fun i _ => N1.length - (intOf i).toNat)
            case atStart => exact ⟨0, by omega, rfl, HT0.out, rfl⟩
            case round =>
              clear HT0
              obtain ⟨k, hk, rfl, ht, heq⟩ := hrel
              have HE := Lib.hid heq
              have HT0 := Lib.hid ht
              clear heq ht
              have q1 := HT0.out.cell1 (k := 1) rfl
              have q2 := HT0.out.cell2 (k := 1) rfl
              by_cases hlt : k < N1.length
              · have hlt2 : k < N2.length := by have := HL2.out; omega
                obtain ⟨ba, oa, rfl, hblk, hca⟩ := HX2.out (by intro h; rw [List.map_eq_nil_iff] at h; rw [h] at hlt; simp at hlt)
                obtain ⟨bb, ob, rfl, hblk2, hcb⟩ := HY2.out (by intro h; rw [List.map_eq_nil_iff] at h; rw [h] at hlt2; simp at hlt2)
                have hga : N1[k]? = some N1[k] := List.getElem?_eq_getElem hlt
                have hgb : N2[k]? = some N2[k] := List.getElem?_eq_getElem hlt2
                have hT1 := List.take_succ_eq_append_getElem hlt
                have hT2 := List.take_succ_eq_append_getElem hlt2
                generalize N1[k] = X at hga hT1
                generalize N2[k] = Y at hgb hT2
                have HT1 := Lib.hid hT1
                have HT2 := Lib.hid hT2
                have HGa := Lib.hid hga
                have HGb := Lib.hid hgb
                have hka : ∀ i u, X.cells[i]? = some u → wr.cell? ⟨ba, oa + k * 7 + i, none⟩ = some u := fun i u hu => (HT0.out.below.cell (p := ⟨ba, oa + k * 7 + i, none⟩) (Nat.lt_of_lt_of_le hblk HB1.out)).trans (hca k X.cells (by rw [List.getElem?_map, hga]; rfl) i u hu)
                have hkb : ∀ i u, Y.cells[i]? = some u → wr.cell? ⟨bb, ob + k * 7 + i, none⟩ = some u := fun i u hu => (HT0.out.below.cell (p := ⟨bb, ob + k * 7 + i, none⟩) (Nat.lt_of_lt_of_le hblk2 HB2.out)).trans (hcb k Y.cells (by rw [List.getElem?_map, hgb]; rfl) i u hu)
                clear hca hcb hT1 hT2 hga hgb hblk hblk2
                have k0 : wr.cell? ⟨ba, oa + k * 7, none⟩ = _ := hka 0 _ rfl
                have k1 := hka 1 _ rfl
                have k2 := hka 2 _ rfl
                have k3 := hka 3 _ rfl
                have k4 := hka 4 _ rfl
                have k5 := hka 5 _ rfl
                have k6 := hka 6 _ rfl
                have m0 : wr.cell? ⟨bb, ob + k * 7, none⟩ = _ := hkb 0 _ rfl
                have m1 := hkb 1 _ rfl
                have m2 := hkb 2 _ rfl
                have m3 := hkb 3 _ rfl
                have m4 := hkb 4 _ rfl
                have m5 := hkb 5 _ rfl
                have m6 := hkb 6 _ rfl
                clear hka hkb
                by_cases hc : X = Y
                · have hq := fun W => (neigh_ne X Y W).trans (by rw [decide_eq_true hc]; rfl : _ = Result.ok (Value.bool false) W)
                  have HC := Lib.hid hc
                  clear hc
                  go_wp2
                  go_quiet (fail)
                  go_wp2
                  go_roundw
                  case rel =>
                    refine ⟨k + 1, by omega, by go_num, HT0.out.drewN _, ?_⟩
                    rw [HT1.out, HT2.out, HE.out, HC.out]
                  case measure => simp [intOf]; omega
                · have hq := fun W => (neigh_ne X Y W).trans (by rw [decide_eq_false hc]; rfl : _ = Result.ok (Value.bool true) W)
                  have HC := Lib.hid hc
                  clear hc
                  go_wp2
                  go_quiet (fail)
                  go_wp2
                  go_ret
                  refine ⟨?_, (HT0.out.drewN _).below⟩
                  have hd : ¬ N1 = N2 := fun h => HC.out (by
                    have h0 := congrArg (fun t => t[k]?) h
                    simp only [HGa.out, HGb.out] at h0
                    exact Option.some.inj h0)
                  simp [hd]
              · have HQ1 := Lib.hid (show N1 = N2 by
                  have hx : N1.take k = N1 := List.take_of_length_le (by omega)
                  have hy : N2.take k = N2 := List.take_of_length_le (by have := HL2.out; omega)
                  have := HE.out
                  rwa [hx, hy] at this)
                go_wp2
                go_loopw [7] (fun i wr => ∃ k : Nat, k ≤ F1.length ∧ i = .int .i64 k ∧ Two w #[.slice a1 R1.length c1, .slice a2 N1.length c2, .slice a3 F1.length c3] #[.slice b1 R2.length d1, .slice b2 N2.length d2, .slice b3 F2.length d3] 38 wr ∧ F1.take k = F2.take k) (fun i _ => F1.length - (intOf i).toNat)
                case atStart => exact ⟨0, by omega, rfl, HT0.out, rfl⟩
                case round =>
                  clear HT0
                  obtain ⟨k, hk, rfl, ht, heq⟩ := hrel
                  have HE := Lib.hid heq
                  have HT0 := Lib.hid ht
                  clear heq ht
                  have q1 := HT0.out.cell1 (k := 2) rfl
                  have q2 := HT0.out.cell2 (k := 2) rfl
                  by_cases hlt : k < F1.length
                  · have hlt2 : k < F2.length := by have := HL3.out; omega
                    obtain ⟨ba, oa, rfl, hblk, hca⟩ := HX3.out (by intro h; rw [List.map_eq_nil_iff] at h; rw [h] at hlt; simp at hlt)
                    obtain ⟨bb, ob, rfl, hblk2, hcb⟩ := HY3.out (by intro h; rw [List.map_eq_nil_iff] at h; rw [h] at hlt2; simp at hlt2)
                    have hga : F1[k]? = some F1[k] := List.getElem?_eq_getElem hlt
                    have hgb : F2[k]? = some F2[k] := List.getElem?_eq_getElem hlt2
                    have hT1 := List.take_succ_eq_append_getElem hlt
                    have hT2 := List.take_succ_eq_append_getElem hlt2
                    generalize F1[k] = X at hga hT1
                    generalize F2[k] = Y at hgb hT2
                    have HT1 := Lib.hid hT1
                    have HT2 := Lib.hid hT2
                    have HGa := Lib.hid hga
                    have HGb := Lib.hid hgb
                    have hka : ∀ i u, X.cells[i]? = some u → wr.cell? ⟨ba, oa + k * 7 + i, none⟩ = some u := fun i u hu => (HT0.out.below.cell (p := ⟨ba, oa + k * 7 + i, none⟩) (Nat.lt_of_lt_of_le hblk HB1.out)).trans (hca k X.cells (by rw [List.getElem?_map, hga]; rfl) i u hu)
                    have hkb : ∀ i u, Y.cells[i]? = some u → wr.cell? ⟨bb, ob + k * 7 + i, none⟩ = some u := fun i u hu => (HT0.out.below.cell (p := ⟨bb, ob + k * 7 + i, none⟩) (Nat.lt_of_lt_of_le hblk2 HB2.out)).trans (hcb k Y.cells (by rw [List.getElem?_map, hgb]; rfl) i u hu)
                    clear hca hcb hT1 hT2 hga hgb hblk hblk2
                    have k0 : wr.cell? ⟨ba, oa + k * 7, none⟩ = _ := hka 0 _ rfl
                    have k1 := hka 1 _ rfl
                    have k2 := hka 2 _ rfl
                    have k3 := hka 3 _ rfl
                    have k4 := hka 4 _ rfl
                    have k5 := hka 5 _ rfl
                    have k6 := hka 6 _ rfl
                    have m0 : wr.cell? ⟨bb, ob + k * 7, none⟩ = _ := hkb 0 _ rfl
                    have m1 := hkb 1 _ rfl
                    have m2 := hkb 2 _ rfl
                    have m3 := hkb 3 _ rfl
                    have m4 := hkb 4 _ rfl
                    have m5 := hkb 5 _ rfl
                    have m6 := hkb 6 _ rfl
                    clear hka hkb
                    by_cases hc : X = Y
                    · have hq := fun W => (fdb_ne X Y W).trans (by rw [decide_eq_true hc]; rfl : _ = Result.ok (Value.bool false) W)
                      have HC := Lib.hid hc
                      clear hc
                      go_wp2
                      go_quiet (fail)
                      go_wp2
                      go_roundw
                      case rel =>
                        refine ⟨k + 1, by omega, by go_num, HT0.out.drewN _, ?_⟩
                        rw [HT1.out, HT2.out, HE.out, HC.out]
                      case measure => simp [intOf]; omega
                    · have hq := fun W => (fdb_ne X Y W).trans (by rw [decide_eq_false hc]; rfl : _ = Result.ok (Value.bool true) W)
                      have HC := Lib.hid hc
                      clear hc
                      go_wp2
                      go_quiet (fail)
                      go_wp2
                      go_ret
                      refine ⟨?_, (HT0.out.drewN _).below⟩
                      have hd : ¬ F1 = F2 := fun h => HC.out (by
                        have h0 := congrArg (fun t => t[k]?) h
                        simp only [HGa.out, HGb.out] at h0
                        exact Option.some.inj h0)
                      simp [hd]
                  · have HQ2 := Lib.hid (show F1 = F2 by
                      have hx : F1.take k = F1 := List.take_of_length_le (by omega)
                      have hy : F2.take k = F2 := List.take_of_length_le (by have := HL3.out; omega)
                      have := HE.out
                      rwa [hx, hy] at this)
                    go_wp2
                    go_ret
                    refine ⟨?_, HT0.out.below⟩
                    simp [HQ0.out, HQ1.out, HQ2.out]
      · have hq3 : ((F1.length : Int) != F2.length) = true := by rw [bne_iff_ne]; omega
        have hd : ¬ F1 = F2 := fun h => hl3 (by rw [h])
        clear hl3
        go_wp2
        go_ret
        refine ⟨?_, HT0.out.below⟩
        simp [hd]
    · have hq2 : ((N1.length : Int) != N2.length) = true := by rw [bne_iff_ne]; omega
      have hd : ¬ N1 = N2 := fun h => hl2 (by rw [h])
      clear hl2
      go_wp2
      go_ret
      refine ⟨?_, HT0.out.below⟩
      simp [hd]
  · have hq1 : ((R1.length : Int) != R2.length) = true := by rw [bne_iff_ne]; omega
    have hd : ¬ R1 = R2 := fun h => hl1 (by rw [h])
    clear hl1
    go_wp2
    go_ret
    refine ⟨?_, HT0.out.below⟩
    simp [hd]
end Go.Proofs.YtmnkdnpjcfmjgaaGreatDoor
