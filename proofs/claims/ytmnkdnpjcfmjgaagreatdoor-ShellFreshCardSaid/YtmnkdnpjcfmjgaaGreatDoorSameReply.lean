/- Package weftlaw20: the same replies. -/
import Derived.Test.YtmnkdnpjcfmjgaaGreatDoorSameView
import Derived.BigQuiet
import Derived.Deep.DeepCutAuto
import Derived.Deep.MidRow
namespace Go.Proofs.YtmnkdnpjcfmjgaaGreatDoor
open Go.RowKit

theorem wpList_load_g {P : Program} {ops : Array Oper} {rest : List Oper} {op : Oper} {a : Act} {w : World} {Q : Exit → Act → World → Prop} (hw : Region.wanted op (yielded ops a.tmps) = true) (ty : TypeId) (x : Operand) (ho : op.op = .load ty x)
    (b o : Nat) (hx : a.eval x = .pointer (some ⟨b, o, none⟩)) (cs : List Value) (d : TypeDesc) (hc : w.rangeAt b o cs)
    (hu : P.underlying ty = some d) (hd : d.isRow = true) (hi : (P.info? ty).map (·.size) = some cs.length)
    (h : wpList P ops Q rest (a.put op.dst (.agg cs.toArray)) w) : wpList P ops Q (op :: rest) a w := by
  unfold wpList
  rw [if_pos hw]
  exact .inl (wp_load_mid ty x ho b o hx cs d hc hu hd hi h)
theorem Two.range1 {w : World} {cs ds : Array Value} {T : TypeId} {u : World} (h : Two w cs ds T u) {o : Nat} {l : List Value} (hl : (cs.toList.drop o).take l.length = l) : u.rangeAt w.heap.size o l := by
  intro j v hv
  refine h.cell1 ?_
  rw [← hl, List.getElem?_take] at hv
  split at hv
  · rw [List.getElem?_drop] at hv
    rw [← hv, Array.getElem?_toList]
  · cases hv
theorem Two.range2 {w : World} {cs ds : Array Value} {T : TypeId} {u : World} (h : Two w cs ds T u) {o : Nat} {l : List Value} (hl : (ds.toList.drop o).take l.length = l) : u.rangeAt (w.heap.size + 1) o l := by
  intro j v hv
  refine h.cell2 ?_
  rw [← hl, List.getElem?_take] at hv
  split at hv
  · rw [List.getElem?_drop] at hv
    rw [← hv, Array.getElem?_toList]
  · cases hv

set_option maxRecDepth 100000 in
set_option maxHeartbeats 16000000 in
theorem replies_same (a b : ReplyD) (xg xl x1 x2 x3 xp xf xv5 xv6 xv1 xv2 xv3 xc xa xb yg yl y1 y2 y3 yp yf yv5 yv6 yv1 yv2 yv3 yc ya yb : Value) (w : World) (hoa : a.Ok w) (hob : b.Ok w) (haa : a.At w.heap.size w xg xl x1 x2 x3 xp xf xv5 xv6 xv1 xv2 xv3 xc xa xb) (hab : b.At w.heap.size w yg yl y1 y2 y3 yp yf yv5 yv6 yv1 yv2 yv3 yc ya yb) :
    Calls Tryz.prog 10 #[.agg #[.int .i64 a.err, .int .i64 a.n, .int .i64 a.verdict, .int .i64 a.why, .int .i64 a.req, xg, xl, x1, x2, x3, xp, xf, .bool a.view.has, .int .i64 a.view.lease.host, .int .u32 a.view.lease.a, .int .i64 a.view.lease.n, .int .u32 a.view.lease.pub, .int .u8 a.view.lease.mac.b.toNat, .int .u8 a.view.lease.mac.c.toNat, .int .u8 a.view.lease.mac.d.toNat, .int .u8 a.view.lease.mac.e.toNat, .int .u8 a.view.lease.mac.f.toNat, .int .u8 a.view.lease.mac.g.toNat, .int .i64 a.view.lease.till, .int .i64 a.view.lease.rev, .int .i64 a.view.cursor, .bool a.view.synced, .bool a.view.degraded, xv5, xv6, xv1, xv2, xv3, xc, xa, xb], .agg #[.int .i64 b.err, .int .i64 b.n, .int .i64 b.verdict, .int .i64 b.why, .int .i64 b.req, yg, yl, y1, y2, y3, yp, yf, .bool b.view.has, .int .i64 b.view.lease.host, .int .u32 b.view.lease.a, .int .i64 b.view.lease.n, .int .u32 b.view.lease.pub, .int .u8 b.view.lease.mac.b.toNat, .int .u8 b.view.lease.mac.c.toNat, .int .u8 b.view.lease.mac.d.toNat, .int .u8 b.view.lease.mac.e.toNat, .int .u8 b.view.lease.mac.f.toNat, .int .u8 b.view.lease.mac.g.toNat, .int .i64 b.view.lease.till, .int .i64 b.view.lease.rev, .int .i64 b.view.cursor, .bool b.view.synced, .bool b.view.degraded, yv5, yv6, yv1, yv2, yv3, yc, ya, yb]] w fun e w' => Tell e (SameR a b) ∧ Below w.heap.size w w' := by
  have HOa := Lib.hid hoa
  have HOb := Lib.hid hob
  have HAa := Lib.hid haa
  have HAb := Lib.hid hab
  clear hoa hob haa hab
  have HT0 := Lib.hid (Two.new w #[.int .i64 a.err, .int .i64 a.n, .int .i64 a.verdict, .int .i64 a.why, .int .i64 a.req, xg, xl, x1, x2, x3, xp, xf, .bool a.view.has, .int .i64 a.view.lease.host, .int .u32 a.view.lease.a, .int .i64 a.view.lease.n, .int .u32 a.view.lease.pub, .int .u8 a.view.lease.mac.b.toNat, .int .u8 a.view.lease.mac.c.toNat, .int .u8 a.view.lease.mac.d.toNat, .int .u8 a.view.lease.mac.e.toNat, .int .u8 a.view.lease.mac.f.toNat, .int .u8 a.view.lease.mac.g.toNat, .int .i64 a.view.lease.till, .int .i64 a.view.lease.rev, .int .i64 a.view.cursor, .bool a.view.synced, .bool a.view.degraded, xv5, xv6, xv1, xv2, xv3, xc, xa, xb] #[.int .i64 b.err, .int .i64 b.n, .int .i64 b.verdict, .int .i64 b.why, .int .i64 b.req, yg, yl, y1, y2, y3, yp, yf, .bool b.view.has, .int .i64 b.view.lease.host, .int .u32 b.view.lease.a, .int .i64 b.view.lease.n, .int .u32 b.view.lease.pub, .int .u8 b.view.lease.mac.b.toNat, .int .u8 b.view.lease.mac.c.toNat, .int .u8 b.view.lease.mac.d.toNat, .int .u8 b.view.lease.mac.e.toNat, .int .u8 b.view.lease.mac.f.toNat, .int .u8 b.view.lease.mac.g.toNat, .int .i64 b.view.lease.till, .int .i64 b.view.lease.rev, .int .i64 b.view.cursor, .bool b.view.synced, .bool b.view.degraded, yv5, yv6, yv1, yv2, yv3, yc, ya, yb] 54)
  go_enter Tryz.func10, Tryz.ntmps10
  go_upto_region 1 with fail
  generalize (w.alloc (.cells #[.int .i64 a.err, .int .i64 a.n, .int .i64 a.verdict, .int .i64 a.why, .int .i64 a.req, xg, xl, x1, x2, x3, xp, xf, .bool a.view.has, .int .i64 a.view.lease.host, .int .u32 a.view.lease.a, .int .i64 a.view.lease.n, .int .u32 a.view.lease.pub, .int .u8 a.view.lease.mac.b.toNat, .int .u8 a.view.lease.mac.c.toNat, .int .u8 a.view.lease.mac.d.toNat, .int .u8 a.view.lease.mac.e.toNat, .int .u8 a.view.lease.mac.f.toNat, .int .u8 a.view.lease.mac.g.toNat, .int .i64 a.view.lease.till, .int .i64 a.view.lease.rev, .int .i64 a.view.cursor, .bool a.view.synced, .bool a.view.degraded, xv5, xv6, xv1, xv2, xv3, xc, xa, xb] 54)).alloc (.cells #[.int .i64 b.err, .int .i64 b.n, .int .i64 b.verdict, .int .i64 b.why, .int .i64 b.req, yg, yl, y1, y2, y3, yp, yf, .bool b.view.has, .int .i64 b.view.lease.host, .int .u32 b.view.lease.a, .int .i64 b.view.lease.n, .int .u32 b.view.lease.pub, .int .u8 b.view.lease.mac.b.toNat, .int .u8 b.view.lease.mac.c.toNat, .int .u8 b.view.lease.mac.d.toNat, .int .u8 b.view.lease.mac.e.toNat, .int .u8 b.view.lease.mac.f.toNat, .int .u8 b.view.lease.mac.g.toNat, .int .i64 b.view.lease.till, .int .i64 b.view.lease.rev, .int .i64 b.view.cursor, .bool b.view.synced, .bool b.view.degraded, yv5, yv6, yv1, yv2, yv3, yc, ya, yb] 54) = W at HT0 ⊢
  generalize Value.agg #[.int .i64 a.err, .int .i64 a.n, .int .i64 a.verdict, .int .i64 a.why, .int .i64 a.req, xg, xl, x1, x2, x3, xp, xf, .bool a.view.has, .int .i64 a.view.lease.host, .int .u32 a.view.lease.a, .int .i64 a.view.lease.n, .int .u32 a.view.lease.pub, .int .u8 a.view.lease.mac.b.toNat, .int .u8 a.view.lease.mac.c.toNat, .int .u8 a.view.lease.mac.d.toNat, .int .u8 a.view.lease.mac.e.toNat, .int .u8 a.view.lease.mac.f.toNat, .int .u8 a.view.lease.mac.g.toNat, .int .i64 a.view.lease.till, .int .i64 a.view.lease.rev, .int .i64 a.view.cursor, .bool a.view.synced, .bool a.view.degraded, xv5, xv6, xv1, xv2, xv3, xc, xa, xb] = z0
  generalize Value.agg #[.int .i64 b.err, .int .i64 b.n, .int .i64 b.verdict, .int .i64 b.why, .int .i64 b.req, yg, yl, y1, y2, y3, yp, yf, .bool b.view.has, .int .i64 b.view.lease.host, .int .u32 b.view.lease.a, .int .i64 b.view.lease.n, .int .u32 b.view.lease.pub, .int .u8 b.view.lease.mac.b.toNat, .int .u8 b.view.lease.mac.c.toNat, .int .u8 b.view.lease.mac.d.toNat, .int .u8 b.view.lease.mac.e.toNat, .int .u8 b.view.lease.mac.f.toNat, .int .u8 b.view.lease.mac.g.toNat, .int .i64 b.view.lease.till, .int .i64 b.view.lease.rev, .int .i64 b.view.cursor, .bool b.view.synced, .bool b.view.degraded, yv5, yv6, yv1, yv2, yv3, yc, ya, yb] = z1
  go_cut [37] (fun s wx => ∃ t, s = .bool t ∧ (t = false ↔ a.err = b.err ∧ a.n = b.n ∧ a.verdict = b.verdict ∧ a.why = b.why ∧ a.req = b.req) ∧ W = wx)
  case first =>
    have p0 : W.cell? ⟨w.heap.size, 0, none⟩ = some (.int .i64 a.err) := HT0.out.cell1 rfl
    have r0 : W.cell? ⟨w.heap.size + 1, 0, none⟩ = some (.int .i64 b.err) := HT0.out.cell2 rfl
    have p1 : W.cell? ⟨w.heap.size, 1, none⟩ = some (.int .i64 a.n) := HT0.out.cell1 rfl
    have r1 : W.cell? ⟨w.heap.size + 1, 1, none⟩ = some (.int .i64 b.n) := HT0.out.cell2 rfl
    have p2 : W.cell? ⟨w.heap.size, 2, none⟩ = some (.int .i64 a.verdict) := HT0.out.cell1 rfl
    have r2 : W.cell? ⟨w.heap.size + 1, 2, none⟩ = some (.int .i64 b.verdict) := HT0.out.cell2 rfl
    have p3 : W.cell? ⟨w.heap.size, 3, none⟩ = some (.int .i64 a.why) := HT0.out.cell1 rfl
    have r3 : W.cell? ⟨w.heap.size + 1, 3, none⟩ = some (.int .i64 b.why) := HT0.out.cell2 rfl
    have p4 : W.cell? ⟨w.heap.size, 4, none⟩ = some (.int .i64 a.req) := HT0.out.cell1 rfl
    have r4 : W.cell? ⟨w.heap.size + 1, 4, none⟩ = some (.int .i64 b.req) := HT0.out.cell2 rfl
    by_cases e0 : a.err = b.err
    · have qe0 : (a.err != b.err) = false := by rw [e0]; simp
      have E0 := Lib.hid e0
      clear e0
      by_cases e1 : a.n = b.n
      · have qe1 : (a.n != b.n) = false := by rw [e1]; simp
        have E1 := Lib.hid e1
        clear e1
        by_cases e2 : a.verdict = b.verdict
        · have qe2 : (a.verdict != b.verdict) = false := by rw [e2]; simp
          have E2 := Lib.hid e2
          clear e2
          by_cases e3 : a.why = b.why
          · have qe3 : (a.why != b.why) = false := by rw [e3]; simp
            have E3 := Lib.hid e3
            clear e3
            by_cases e4 : a.req = b.req
            · have qe4 : (a.req != b.req) = false := by rw [e4]; simp
              have E4 := Lib.hid e4
              clear e4
              go_wp2
              go_meet
              exact ⟨false, rfl, ⟨fun _ => ⟨E0.out, E1.out, E2.out, E3.out, E4.out⟩, fun _ => rfl⟩, rfl⟩
            · have qe4 : (a.req != b.req) = true := by rw [bne_iff_ne]; exact e4
              have E4 := Lib.hid e4
              clear e4
              go_wp2
              go_meet
              exact ⟨true, rfl, ⟨(fun h => by cases h), fun h => absurd (h.2.2.2.2) E4.out⟩, rfl⟩
          · have qe3 : (a.why != b.why) = true := by rw [bne_iff_ne]; exact e3
            have E3 := Lib.hid e3
            clear e3
            go_wp2
            go_meet
            exact ⟨true, rfl, ⟨(fun h => by cases h), fun h => absurd (h.2.2.2.1) E3.out⟩, rfl⟩
        · have qe2 : (a.verdict != b.verdict) = true := by rw [bne_iff_ne]; exact e2
          have E2 := Lib.hid e2
          clear e2
          go_wp2
          go_meet
          exact ⟨true, rfl, ⟨(fun h => by cases h), fun h => absurd (h.2.2.1) E2.out⟩, rfl⟩
      · have qe1 : (a.n != b.n) = true := by rw [bne_iff_ne]; exact e1
        have E1 := Lib.hid e1
        clear e1
        go_wp2
        go_meet
        exact ⟨true, rfl, ⟨(fun h => by cases h), fun h => absurd (h.2.1) E1.out⟩, rfl⟩
    · have qe0 : (a.err != b.err) = true := by rw [bne_iff_ne]; exact e0
      have E0 := Lib.hid e0
      clear e0
      go_wp2
      go_meet
      exact ⟨true, rfl, ⟨(fun h => by cases h), fun h => absurd (h.1) E0.out⟩, rfl⟩
  case rest =>
    obtain ⟨t0, rfl, hb0, rfl⟩ := hcut
    cases t0
    case true =>
      go_wp2
      go_ret
      exact ⟨⟨false, rfl, ⟨fun h => absurd h Bool.false_ne_true, fun h => by cases hb0.2 ⟨h.err, h.n, h.verdict, h.why, h.req⟩⟩⟩, HT0.out.below⟩
    case false =>
      have B0 := Lib.hid (hb0.1 rfl)
      clear hb0
      go_upto_region 3 with fail
      go_cut [67] (fun s wx => ∃ t wy, s = .bool t ∧ (t = false ↔ a.given.map GivenD.val = b.given.map GivenD.val ∧ a.leases = b.leases ∧ (a.tabs.routes = b.tabs.routes ∧ a.tabs.neighs = b.tabs.neighs ∧ a.tabs.fdbs = b.tabs.fdbs) ∧ a.pods.map PodD.val = b.pods.map PodD.val) ∧ wy = wx ∧ Two w #[.int .i64 a.err, .int .i64 a.n, .int .i64 a.verdict, .int .i64 a.why, .int .i64 a.req, xg, xl, x1, x2, x3, xp, xf, .bool a.view.has, .int .i64 a.view.lease.host, .int .u32 a.view.lease.a, .int .i64 a.view.lease.n, .int .u32 a.view.lease.pub, .int .u8 a.view.lease.mac.b.toNat, .int .u8 a.view.lease.mac.c.toNat, .int .u8 a.view.lease.mac.d.toNat, .int .u8 a.view.lease.mac.e.toNat, .int .u8 a.view.lease.mac.f.toNat, .int .u8 a.view.lease.mac.g.toNat, .int .i64 a.view.lease.till, .int .i64 a.view.lease.rev, .int .i64 a.view.cursor, .bool a.view.synced, .bool a.view.degraded, xv5, xv6, xv1, xv2, xv3, xc, xa, xb] #[.int .i64 b.err, .int .i64 b.n, .int .i64 b.verdict, .int .i64 b.why, .int .i64 b.req, yg, yl, y1, y2, y3, yp, yf, .bool b.view.has, .int .i64 b.view.lease.host, .int .u32 b.view.lease.a, .int .i64 b.view.lease.n, .int .u32 b.view.lease.pub, .int .u8 b.view.lease.mac.b.toNat, .int .u8 b.view.lease.mac.c.toNat, .int .u8 b.view.lease.mac.d.toNat, .int .u8 b.view.lease.mac.e.toNat, .int .u8 b.view.lease.mac.f.toNat, .int .u8 b.view.lease.mac.g.toNat, .int .i64 b.view.lease.till, .int .i64 b.view.lease.rev, .int .i64 b.view.cursor, .bool b.view.synced, .bool b.view.degraded, yv5, yv6, yv1, yv2, yv3, yc, ya, yb] 54 wy)
      case first =>
        by_cases e5 : a.given.map GivenD.val = b.given.map GivenD.val
        · have E5 := Lib.hid e5
          clear e5
          have p5 : W.cell? ⟨w.heap.size, 5, none⟩ = some (xg) := HT0.out.cell1 rfl
          have r5 : W.cell? ⟨w.heap.size + 1, 5, none⟩ = some (yg) := HT0.out.cell2 rfl
          go_wp2_with (fail)
          refine (known (givens_same w.heap.size w.heap.size xg yg a.given b.given _ (HAa.out.g.below (HT0.out.below.mono (Nat.le_refl _))) (HAb.out.g.below (HT0.out.below.mono (Nat.le_refl _))) (fun x hx => (HOa.out.given x hx).2.2.2.1.below HT0.out.below) (fun x hx => (HOb.out.given x hx).2.2.2.1.below HT0.out.below)) true (decide_eq_true E5.out)).mono ?_
          rintro e w5 ⟨rfl, hg⟩
          clear p5 r5
          have HT0 := Lib.hid (HT0.out.drw hg)
          clear hg
          by_cases e6 : a.leases = b.leases
          · have E6 := Lib.hid e6
            clear e6
            have p6 : w5.cell? ⟨w.heap.size, 6, none⟩ = some (xl) := HT0.out.cell1 rfl
            have r6 : w5.cell? ⟨w.heap.size + 1, 6, none⟩ = some (yl) := HT0.out.cell2 rfl
            go_wp2_with (fail)
            refine (known (leases_same w.heap.size w.heap.size xl yl a.leases b.leases _ (HAa.out.l.below (HT0.out.below.mono (Nat.le_refl _))) (HAb.out.l.below (HT0.out.below.mono (Nat.le_refl _)))) true (decide_eq_true E6.out)).mono ?_
            rintro e w6 ⟨rfl, hg⟩
            clear p6 r6
            have HT0 := Lib.hid (HT0.out.drw hg)
            clear hg
            by_cases e7 : a.tabs.routes = b.tabs.routes ∧ a.tabs.neighs = b.tabs.neighs ∧ a.tabs.fdbs = b.tabs.fdbs
            · have E7 := Lib.hid e7
              clear e7
              have p7 : w6.cell? ⟨w.heap.size, 7, none⟩ = some (x1) := HT0.out.cell1 rfl
              have r7 : w6.cell? ⟨w.heap.size + 1, 7, none⟩ = some (y1) := HT0.out.cell2 rfl
              have p8 : w6.cell? ⟨w.heap.size, 8, none⟩ = some (x2) := HT0.out.cell1 rfl
              have r8 : w6.cell? ⟨w.heap.size + 1, 8, none⟩ = some (y2) := HT0.out.cell2 rfl
              have p9 : w6.cell? ⟨w.heap.size, 9, none⟩ = some (x3) := HT0.out.cell1 rfl
              have r9 : w6.cell? ⟨w.heap.size + 1, 9, none⟩ = some (y3) := HT0.out.cell2 rfl
              go_wp2_with (fail)
              refine (known (tables_same w.heap.size w.heap.size x1 x2 x3 y1 y2 y3 a.tabs b.tabs _ (HT0.out.below.size) (HT0.out.below.size) (HAa.out.h1.below (HT0.out.below.mono (Nat.le_refl _))) (HAa.out.h2.below (HT0.out.below.mono (Nat.le_refl _))) (HAa.out.h3.below (HT0.out.below.mono (Nat.le_refl _))) (HAb.out.h1.below (HT0.out.below.mono (Nat.le_refl _))) (HAb.out.h2.below (HT0.out.below.mono (Nat.le_refl _))) (HAb.out.h3.below (HT0.out.below.mono (Nat.le_refl _)))) true (decide_eq_true E7.out)).mono ?_
              rintro e w7 ⟨rfl, hg⟩
              clear p7 r7 p8 r8 p9 r9
              have HT0 := Lib.hid (HT0.out.grow hg)
              clear hg
              by_cases e8 : a.pods.map PodD.val = b.pods.map PodD.val
              · have E8 := Lib.hid e8
                clear e8
                have p10 : w7.cell? ⟨w.heap.size, 10, none⟩ = some (xp) := HT0.out.cell1 rfl
                have r10 : w7.cell? ⟨w.heap.size + 1, 10, none⟩ = some (yp) := HT0.out.cell2 rfl
                go_wp2_with (fail)
                refine (known (pods_same w.heap.size w.heap.size xp yp a.pods b.pods _ (HAa.out.p.below (HT0.out.below.mono (Nat.le_refl _))) (HAb.out.p.below (HT0.out.below.mono (Nat.le_refl _)))) true (decide_eq_true E8.out)).mono ?_
                rintro e w8 ⟨rfl, hg⟩
                clear p10 r10
                have HT0 := Lib.hid (HT0.out.drw hg)
                clear hg
                go_wp2
                go_meet
                exact ⟨false, _, rfl, ⟨fun _ => ⟨E5.out, E6.out, E7.out, E8.out⟩, fun _ => rfl⟩, rfl, HT0.out⟩
              · have E8 := Lib.hid e8
                clear e8
                have p10 : w7.cell? ⟨w.heap.size, 10, none⟩ = some (xp) := HT0.out.cell1 rfl
                have r10 : w7.cell? ⟨w.heap.size + 1, 10, none⟩ = some (yp) := HT0.out.cell2 rfl
                go_wp2_with (fail)
                refine (known (pods_same w.heap.size w.heap.size xp yp a.pods b.pods _ (HAa.out.p.below (HT0.out.below.mono (Nat.le_refl _))) (HAb.out.p.below (HT0.out.below.mono (Nat.le_refl _)))) false (decide_eq_false E8.out)).mono ?_
                rintro e w8 ⟨rfl, hg⟩
                clear p10 r10
                have HT0 := Lib.hid (HT0.out.drw hg)
                clear hg
                go_wp2
                go_meet
                exact ⟨true, _, rfl, ⟨(fun h => by cases h), fun h => absurd (h.2.2.2) E8.out⟩, rfl, HT0.out⟩
            · have E7 := Lib.hid e7
              clear e7
              have p7 : w6.cell? ⟨w.heap.size, 7, none⟩ = some (x1) := HT0.out.cell1 rfl
              have r7 : w6.cell? ⟨w.heap.size + 1, 7, none⟩ = some (y1) := HT0.out.cell2 rfl
              have p8 : w6.cell? ⟨w.heap.size, 8, none⟩ = some (x2) := HT0.out.cell1 rfl
              have r8 : w6.cell? ⟨w.heap.size + 1, 8, none⟩ = some (y2) := HT0.out.cell2 rfl
              have p9 : w6.cell? ⟨w.heap.size, 9, none⟩ = some (x3) := HT0.out.cell1 rfl
              have r9 : w6.cell? ⟨w.heap.size + 1, 9, none⟩ = some (y3) := HT0.out.cell2 rfl
              go_wp2_with (fail)
              refine (known (tables_same w.heap.size w.heap.size x1 x2 x3 y1 y2 y3 a.tabs b.tabs _ (HT0.out.below.size) (HT0.out.below.size) (HAa.out.h1.below (HT0.out.below.mono (Nat.le_refl _))) (HAa.out.h2.below (HT0.out.below.mono (Nat.le_refl _))) (HAa.out.h3.below (HT0.out.below.mono (Nat.le_refl _))) (HAb.out.h1.below (HT0.out.below.mono (Nat.le_refl _))) (HAb.out.h2.below (HT0.out.below.mono (Nat.le_refl _))) (HAb.out.h3.below (HT0.out.below.mono (Nat.le_refl _)))) false (decide_eq_false E7.out)).mono ?_
              rintro e w7 ⟨rfl, hg⟩
              clear p7 r7 p8 r8 p9 r9
              have HT0 := Lib.hid (HT0.out.grow hg)
              clear hg
              go_wp2
              go_meet
              exact ⟨true, _, rfl, ⟨(fun h => by cases h), fun h => absurd (h.2.2.1) E7.out⟩, rfl, HT0.out⟩
          · have E6 := Lib.hid e6
            clear e6
            have p6 : w5.cell? ⟨w.heap.size, 6, none⟩ = some (xl) := HT0.out.cell1 rfl
            have r6 : w5.cell? ⟨w.heap.size + 1, 6, none⟩ = some (yl) := HT0.out.cell2 rfl
            go_wp2_with (fail)
            refine (known (leases_same w.heap.size w.heap.size xl yl a.leases b.leases _ (HAa.out.l.below (HT0.out.below.mono (Nat.le_refl _))) (HAb.out.l.below (HT0.out.below.mono (Nat.le_refl _)))) false (decide_eq_false E6.out)).mono ?_
            rintro e w6 ⟨rfl, hg⟩
            clear p6 r6
            have HT0 := Lib.hid (HT0.out.drw hg)
            clear hg
            go_wp2
            go_meet
            exact ⟨true, _, rfl, ⟨(fun h => by cases h), fun h => absurd (h.2.1) E6.out⟩, rfl, HT0.out⟩
        · have E5 := Lib.hid e5
          clear e5
          have p5 : W.cell? ⟨w.heap.size, 5, none⟩ = some (xg) := HT0.out.cell1 rfl
          have r5 : W.cell? ⟨w.heap.size + 1, 5, none⟩ = some (yg) := HT0.out.cell2 rfl
          go_wp2_with (fail)
          refine (known (givens_same w.heap.size w.heap.size xg yg a.given b.given _ (HAa.out.g.below (HT0.out.below.mono (Nat.le_refl _))) (HAb.out.g.below (HT0.out.below.mono (Nat.le_refl _))) (fun x hx => (HOa.out.given x hx).2.2.2.1.below HT0.out.below) (fun x hx => (HOb.out.given x hx).2.2.2.1.below HT0.out.below)) false (decide_eq_false E5.out)).mono ?_
          rintro e w5 ⟨rfl, hg⟩
          clear p5 r5
          have HT0 := Lib.hid (HT0.out.drw hg)
          clear hg
          go_wp2
          go_meet
          exact ⟨true, _, rfl, ⟨(fun h => by cases h), fun h => absurd (h.1) E5.out⟩, rfl, HT0.out⟩
      case rest =>
        clear HT0
        obtain ⟨t1, wy, rfl, hb1, rfl, hT0⟩ := hcut
        have HT0 := Lib.hid hT0
        clear hT0
        cases t1
        case true =>
          go_wp2
          go_ret
          exact ⟨⟨false, rfl, ⟨fun h => absurd h Bool.false_ne_true, fun h => by cases hb1.2 ⟨h.given, h.leases, ⟨h.routes, h.neighs, h.fdbs⟩, h.pods⟩⟩⟩, HT0.out.below⟩
        case false =>
          have B1 := Lib.hid (hb1.1 rfl)
          clear hb1
          by_cases e9 : a.flight.map SentD.val = b.flight.map SentD.val
          · have E9 := Lib.hid e9
            clear e9
            have p11 : wy.cell? ⟨w.heap.size, 11, none⟩ = some (xf) := HT0.out.cell1 rfl
            have r11 : wy.cell? ⟨w.heap.size + 1, 11, none⟩ = some (yf) := HT0.out.cell2 rfl
            go_wp2_with (fail)
            refine (known (sents_same w.heap.size w.heap.size xf yf a.flight b.flight _ (HAa.out.f.below (HT0.out.below.mono (Nat.le_refl _))) (HAb.out.f.below (HT0.out.below.mono (Nat.le_refl _))) (fun x hx => (HOa.out.flight x hx).2.1.below HT0.out.below) (fun x hx => (HOb.out.flight x hx).2.1.below HT0.out.below)) true (decide_eq_true E9.out)).mono ?_
            rintro e w9 ⟨rfl, hg⟩
            clear p11 r11
            have HT0 := Lib.hid (HT0.out.drw hg)
            clear hg
            by_cases e10 : SameV a.view b.view
            · have E10 := Lib.hid e10
              clear e10
              skip
              go_wp2_with (first | refine wpList_load_g rfl 49 (.tmp 74) rfl w.heap.size 12 rfl [.bool a.view.has, .int .i64 a.view.lease.host, .int .u32 a.view.lease.a, .int .i64 a.view.lease.n, .int .u32 a.view.lease.pub, .int .u8 a.view.lease.mac.b.toNat, .int .u8 a.view.lease.mac.c.toNat, .int .u8 a.view.lease.mac.d.toNat, .int .u8 a.view.lease.mac.e.toNat, .int .u8 a.view.lease.mac.f.toNat, .int .u8 a.view.lease.mac.g.toNat, .int .i64 a.view.lease.till, .int .i64 a.view.lease.rev, .int .i64 a.view.cursor, .bool a.view.synced, .bool a.view.degraded, xv5, xv6, xv1, xv2, xv3] _ (HT0.out.range1 rfl) Tryz.underlying49 rfl viewInfo ?_ | refine wpList_load_g rfl 49 (.tmp 76) rfl (w.heap.size + 1) 12 rfl [.bool b.view.has, .int .i64 b.view.lease.host, .int .u32 b.view.lease.a, .int .i64 b.view.lease.n, .int .u32 b.view.lease.pub, .int .u8 b.view.lease.mac.b.toNat, .int .u8 b.view.lease.mac.c.toNat, .int .u8 b.view.lease.mac.d.toNat, .int .u8 b.view.lease.mac.e.toNat, .int .u8 b.view.lease.mac.f.toNat, .int .u8 b.view.lease.mac.g.toNat, .int .i64 b.view.lease.till, .int .i64 b.view.lease.rev, .int .i64 b.view.cursor, .bool b.view.synced, .bool b.view.degraded, yv5, yv6, yv1, yv2, yv3] _ (HT0.out.range2 rfl) Tryz.underlying49 rfl viewInfo ?_)
              refine (knownB (views_same w.heap.size w.heap.size a.view b.view xv5 xv6 xv1 xv2 xv3 yv5 yv6 yv1 yv2 yv3 _ (HT0.out.below.size) (HT0.out.below.size) (HAa.out.h5.below (HT0.out.below.mono (Nat.le_refl _))) (HAa.out.h6.below (HT0.out.below.mono (Nat.le_refl _))) (HAa.out.k1.below (HT0.out.below.mono (Nat.le_refl _))) (HAa.out.k2.below (HT0.out.below.mono (Nat.le_refl _))) (HAa.out.k3.below (HT0.out.below.mono (Nat.le_refl _))) (HAb.out.h5.below (HT0.out.below.mono (Nat.le_refl _))) (HAb.out.h6.below (HT0.out.below.mono (Nat.le_refl _))) (HAb.out.k1.below (HT0.out.below.mono (Nat.le_refl _))) (HAb.out.k2.below (HT0.out.below.mono (Nat.le_refl _))) (HAb.out.k3.below (HT0.out.below.mono (Nat.le_refl _)))) true (iff_of_true rfl E10.out)).mono ?_
              rintro e w10 ⟨rfl, hg⟩
              skip
              have HT0 := Lib.hid (HT0.out.grow hg)
              clear hg
              by_cases e11 : a.counts = b.counts
              · have E11 := Lib.hid e11
                clear e11
                have p33 : w10.cell? ⟨w.heap.size, 33, none⟩ = some (xc) := HT0.out.cell1 rfl
                have r33 : w10.cell? ⟨w.heap.size + 1, 33, none⟩ = some (yc) := HT0.out.cell2 rfl
                go_wp2_with (fail)
                refine (known (ints_same w.heap.size w.heap.size xc yc a.counts b.counts _ (HAa.out.c.below (HT0.out.below.mono (Nat.le_refl _))) (HAb.out.c.below (HT0.out.below.mono (Nat.le_refl _)))) true (decide_eq_true E11.out)).mono ?_
                rintro e w11 ⟨rfl, hg⟩
                clear p33 r33
                have HT0 := Lib.hid (HT0.out.drw hg)
                clear hg
                by_cases e12 : a.diskA = b.diskA
                · have E12 := Lib.hid e12
                  clear e12
                  have p34 : w11.cell? ⟨w.heap.size, 34, none⟩ = some (xa) := HT0.out.cell1 rfl
                  have r34 : w11.cell? ⟨w.heap.size + 1, 34, none⟩ = some (ya) := HT0.out.cell2 rfl
                  go_wp2_with (fail)
                  refine (known (same_any xa ya a.diskA b.diskA _ (HAa.out.a.below HT0.out.below) (HAb.out.a.below HT0.out.below)) true (decide_eq_true E12.out)).mono ?_
                  rintro e w12 ⟨rfl, hg⟩
                  clear p34 r34
                  have HT0 := Lib.hid (HT0.out.drw hg)
                  clear hg
                  by_cases e13 : a.diskB = b.diskB
                  · have E13 := Lib.hid e13
                    clear e13
                    have p35 : w12.cell? ⟨w.heap.size, 35, none⟩ = some (xb) := HT0.out.cell1 rfl
                    have r35 : w12.cell? ⟨w.heap.size + 1, 35, none⟩ = some (yb) := HT0.out.cell2 rfl
                    go_wp2_with (fail)
                    refine (known (same_any xb yb a.diskB b.diskB _ (HAa.out.b.below HT0.out.below) (HAb.out.b.below HT0.out.below)) true (decide_eq_true E13.out)).mono ?_
                    rintro e w13 ⟨rfl, hg⟩
                    clear p35 r35
                    have HT0 := Lib.hid (HT0.out.drw hg)
                    clear hg
                    go_wp2
                    go_ret
                    exact ⟨⟨true, rfl, ⟨fun _ => ⟨B0.out.1, B0.out.2.1, B0.out.2.2.1, B0.out.2.2.2.1, B0.out.2.2.2.2, B1.out.1, B1.out.2.1, B1.out.2.2.1.1, B1.out.2.2.1.2.1, B1.out.2.2.1.2.2, B1.out.2.2.2, E9.out, E10.out.1, E10.out.2.1, E10.out.2.2.1, E10.out.2.2.2.1, E10.out.2.2.2.2.1, E10.out.2.2.2.2.2.1, E10.out.2.2.2.2.2.2.1, E10.out.2.2.2.2.2.2.2.1, E10.out.2.2.2.2.2.2.2.2.1, E10.out.2.2.2.2.2.2.2.2.2, E11.out, E12.out, E13.out⟩, fun _ => rfl⟩⟩, HT0.out.below⟩
                  · have E13 := Lib.hid e13
                    clear e13
                    have p35 : w12.cell? ⟨w.heap.size, 35, none⟩ = some (xb) := HT0.out.cell1 rfl
                    have r35 : w12.cell? ⟨w.heap.size + 1, 35, none⟩ = some (yb) := HT0.out.cell2 rfl
                    go_wp2_with (fail)
                    refine (known (same_any xb yb a.diskB b.diskB _ (HAa.out.b.below HT0.out.below) (HAb.out.b.below HT0.out.below)) false (decide_eq_false E13.out)).mono ?_
                    rintro e w13 ⟨rfl, hg⟩
                    clear p35 r35
                    have HT0 := Lib.hid (HT0.out.drw hg)
                    clear hg
                    go_wp2
                    go_ret
                    exact ⟨⟨false, rfl, ⟨fun h => absurd h Bool.false_ne_true, fun h => absurd (h.diskB) E13.out⟩⟩, HT0.out.below⟩
                · have E12 := Lib.hid e12
                  clear e12
                  have p34 : w11.cell? ⟨w.heap.size, 34, none⟩ = some (xa) := HT0.out.cell1 rfl
                  have r34 : w11.cell? ⟨w.heap.size + 1, 34, none⟩ = some (ya) := HT0.out.cell2 rfl
                  go_wp2_with (fail)
                  refine (known (same_any xa ya a.diskA b.diskA _ (HAa.out.a.below HT0.out.below) (HAb.out.a.below HT0.out.below)) false (decide_eq_false E12.out)).mono ?_
                  rintro e w12 ⟨rfl, hg⟩
                  clear p34 r34
                  have HT0 := Lib.hid (HT0.out.drw hg)
                  clear hg
                  go_wp2
                  go_ret
                  exact ⟨⟨false, rfl, ⟨fun h => absurd h Bool.false_ne_true, fun h => absurd (h.diskA) E12.out⟩⟩, HT0.out.below⟩
              · have E11 := Lib.hid e11
                clear e11
                have p33 : w10.cell? ⟨w.heap.size, 33, none⟩ = some (xc) := HT0.out.cell1 rfl
                have r33 : w10.cell? ⟨w.heap.size + 1, 33, none⟩ = some (yc) := HT0.out.cell2 rfl
                go_wp2_with (fail)
                refine (known (ints_same w.heap.size w.heap.size xc yc a.counts b.counts _ (HAa.out.c.below (HT0.out.below.mono (Nat.le_refl _))) (HAb.out.c.below (HT0.out.below.mono (Nat.le_refl _)))) false (decide_eq_false E11.out)).mono ?_
                rintro e w11 ⟨rfl, hg⟩
                clear p33 r33
                have HT0 := Lib.hid (HT0.out.drw hg)
                clear hg
                go_wp2
                go_ret
                exact ⟨⟨false, rfl, ⟨fun h => absurd h Bool.false_ne_true, fun h => absurd (h.counts) E11.out⟩⟩, HT0.out.below⟩
            · have E10 := Lib.hid e10
              clear e10
              skip
              go_wp2_with (first | refine wpList_load_g rfl 49 (.tmp 74) rfl w.heap.size 12 rfl [.bool a.view.has, .int .i64 a.view.lease.host, .int .u32 a.view.lease.a, .int .i64 a.view.lease.n, .int .u32 a.view.lease.pub, .int .u8 a.view.lease.mac.b.toNat, .int .u8 a.view.lease.mac.c.toNat, .int .u8 a.view.lease.mac.d.toNat, .int .u8 a.view.lease.mac.e.toNat, .int .u8 a.view.lease.mac.f.toNat, .int .u8 a.view.lease.mac.g.toNat, .int .i64 a.view.lease.till, .int .i64 a.view.lease.rev, .int .i64 a.view.cursor, .bool a.view.synced, .bool a.view.degraded, xv5, xv6, xv1, xv2, xv3] _ (HT0.out.range1 rfl) Tryz.underlying49 rfl viewInfo ?_ | refine wpList_load_g rfl 49 (.tmp 76) rfl (w.heap.size + 1) 12 rfl [.bool b.view.has, .int .i64 b.view.lease.host, .int .u32 b.view.lease.a, .int .i64 b.view.lease.n, .int .u32 b.view.lease.pub, .int .u8 b.view.lease.mac.b.toNat, .int .u8 b.view.lease.mac.c.toNat, .int .u8 b.view.lease.mac.d.toNat, .int .u8 b.view.lease.mac.e.toNat, .int .u8 b.view.lease.mac.f.toNat, .int .u8 b.view.lease.mac.g.toNat, .int .i64 b.view.lease.till, .int .i64 b.view.lease.rev, .int .i64 b.view.cursor, .bool b.view.synced, .bool b.view.degraded, yv5, yv6, yv1, yv2, yv3] _ (HT0.out.range2 rfl) Tryz.underlying49 rfl viewInfo ?_)
              refine (knownB (views_same w.heap.size w.heap.size a.view b.view xv5 xv6 xv1 xv2 xv3 yv5 yv6 yv1 yv2 yv3 _ (HT0.out.below.size) (HT0.out.below.size) (HAa.out.h5.below (HT0.out.below.mono (Nat.le_refl _))) (HAa.out.h6.below (HT0.out.below.mono (Nat.le_refl _))) (HAa.out.k1.below (HT0.out.below.mono (Nat.le_refl _))) (HAa.out.k2.below (HT0.out.below.mono (Nat.le_refl _))) (HAa.out.k3.below (HT0.out.below.mono (Nat.le_refl _))) (HAb.out.h5.below (HT0.out.below.mono (Nat.le_refl _))) (HAb.out.h6.below (HT0.out.below.mono (Nat.le_refl _))) (HAb.out.k1.below (HT0.out.below.mono (Nat.le_refl _))) (HAb.out.k2.below (HT0.out.below.mono (Nat.le_refl _))) (HAb.out.k3.below (HT0.out.below.mono (Nat.le_refl _)))) false (iff_of_false Bool.false_ne_true E10.out)).mono ?_
              rintro e w10 ⟨rfl, hg⟩
              skip
              have HT0 := Lib.hid (HT0.out.grow hg)
              clear hg
              go_wp2
              go_ret
              exact ⟨⟨false, rfl, ⟨fun h => absurd h Bool.false_ne_true, fun h => absurd (⟨h.has, h.lease, h.cursor, h.synced, h.degraded, h.vleases, h.skipped, h.vroutes, h.vneighs, h.vfdbs⟩) E10.out⟩⟩, HT0.out.below⟩
          · have E9 := Lib.hid e9
            clear e9
            have p11 : wy.cell? ⟨w.heap.size, 11, none⟩ = some (xf) := HT0.out.cell1 rfl
            have r11 : wy.cell? ⟨w.heap.size + 1, 11, none⟩ = some (yf) := HT0.out.cell2 rfl
            go_wp2_with (fail)
            refine (known (sents_same w.heap.size w.heap.size xf yf a.flight b.flight _ (HAa.out.f.below (HT0.out.below.mono (Nat.le_refl _))) (HAb.out.f.below (HT0.out.below.mono (Nat.le_refl _))) (fun x hx => (HOa.out.flight x hx).2.1.below HT0.out.below) (fun x hx => (HOb.out.flight x hx).2.1.below HT0.out.below)) false (decide_eq_false E9.out)).mono ?_
            rintro e w9 ⟨rfl, hg⟩
            clear p11 r11
            have HT0 := Lib.hid (HT0.out.drw hg)
            clear hg
            go_wp2
            go_ret
            exact ⟨⟨false, rfl, ⟨fun h => absurd h Bool.false_ne_true, fun h => absurd (h.flight) E9.out⟩⟩, HT0.out.below⟩
end Go.Proofs.YtmnkdnpjcfmjgaaGreatDoor
