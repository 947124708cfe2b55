/- A reply that came in, opened: its structs. -/
import Derived.Test.YtmnkdnpjcfmjgaaGreatDoorApartOpen
namespace Go.Proofs.YtmnkdnpjcfmjgaaGreatDoor
open Go.ChangeShapes Go.WideShapes Go.ChangeAt Go.RowKit Go.Deep

section
variable {H : Type} {enc : TypeId × Value → H} {w : World} {base : Nat} {sp : Nat → Bool} {held : Bool}
theorem part_bulk {xs : List (DataW H × List MemPlace)} {y : DataW H × List MemPlace} (h : y ∈ xs) : Rows.uptoBulk y.1 ≤ Rows.uptoBulk (DataW.agg (xs.map (·.1))) := by
  have := bulks.part_le (d := y.1) (l := xs.map (·.1)) (List.mem_map.2 ⟨y, h, rfl⟩)
  simp only [Rows.uptoBulk]
  omega
set_option maxRecDepth 100000 in
theorem mac_open {fuel : Nat} {cs : List Value} {x : DataW H × List MemPlace} (h : DataW.trod enc Tryz.prog w base sp held fuel 44 cs = some x) : ∃ m : MacD, cs = m.cells := by
  obtain ⟨xs, n, _, _, hl, hlen, hg⟩ := DataW.trod_array Tryz.underlying44 h
  match cs, hl.trans (show Tryz.prog.cellsOf 44 = 6 by kernel_rfl) with
  | [c0, c1, c2, c3, c4, c5], _ =>
   match xs, hlen with
   | [y0, y1, y2, y3, y4, y5], _ =>
    rw [cellsU8] at hg
    obtain ⟨b0, rfl⟩ := u8_open Tryz.underlying5 (show DataW.trod enc Tryz.prog w base sp held n 5 [c0] = some y0 from hg 0 (by omega))
    obtain ⟨b1, rfl⟩ := u8_open Tryz.underlying5 (show DataW.trod enc Tryz.prog w base sp held n 5 [c1] = some y1 from hg 1 (by omega))
    obtain ⟨b2, rfl⟩ := u8_open Tryz.underlying5 (show DataW.trod enc Tryz.prog w base sp held n 5 [c2] = some y2 from hg 2 (by omega))
    obtain ⟨b3, rfl⟩ := u8_open Tryz.underlying5 (show DataW.trod enc Tryz.prog w base sp held n 5 [c3] = some y3 from hg 3 (by omega))
    obtain ⟨b4, rfl⟩ := u8_open Tryz.underlying5 (show DataW.trod enc Tryz.prog w base sp held n 5 [c4] = some y4 from hg 4 (by omega))
    obtain ⟨b5, rfl⟩ := u8_open Tryz.underlying5 (show DataW.trod enc Tryz.prog w base sp held n 5 [c5] = some y5 from hg 5 (by omega))
    exact ⟨⟨b0, b1, b2, b3, b4, b5⟩, rfl⟩
set_option maxRecDepth 100000 in
theorem prefix_open {fuel : Nat} {cs : List Value} {x : DataW H × List MemPlace} (h : DataW.trod enc Tryz.prog w base sp held fuel 42 cs = some x) : ∃ p : PrefixD, cs = p.cells ∧ p.ok := by
  obtain ⟨xs, n, _, hx, hl, hlen, hg⟩ := DataW.trod_struct Tryz.underlying42 h
  match cs, hl.trans (show Tryz.prog.cellsOf 42 = 2 by kernel_rfl) with
  | c0 :: c1 :: [], _ =>
   match xs, hlen with
   | [y0, y1], _ =>
    have k0 : Tryz.prog.cellsOf 24 = 1 := by kernel_rfl
    have h0 : DataW.trod enc Tryz.prog w base sp held n 24 [c0] = some y0 := by simpa [k0] using hg 0 _ rfl
    clear k0
    obtain ⟨a, rfl, ha⟩ := u32_open Tryz.underlying24 h0
    have k1 : Tryz.prog.cellsOf 3 = 1 := by kernel_rfl
    have h1 : DataW.trod enc Tryz.prog w base sp held n 3 [c1] = some y1 := by simpa [k1] using hg 1 _ rfl
    clear k1
    obtain ⟨m, rfl, hm⟩ := i64_open Tryz.underlying3 h1
    exact ⟨⟨a, m⟩, rfl, ha, hm⟩
set_option maxRecDepth 100000 in
theorem lease_open {fuel : Nat} {cs : List Value} {x : DataW H × List MemPlace} (h : DataW.trod enc Tryz.prog w base sp held fuel 46 cs = some x) : ∃ p : LeaseD, cs = p.cells ∧ p.ok := by
  obtain ⟨xs, n, _, hx, hl, hlen, hg⟩ := DataW.trod_struct Tryz.underlying46 h
  match cs, hl.trans (show Tryz.prog.cellsOf 46 = 12 by kernel_rfl) with
  | c0 :: c1 :: c2 :: c3 :: c4 :: c5 :: c6 :: c7 :: c8 :: c9 :: c10 :: c11 :: [], _ =>
   match xs, hlen with
   | [y0, y1, y2, y3, y4, y5], _ =>
    have k0 : Tryz.prog.cellsOf 3 = 1 := by kernel_rfl
    have h0 : DataW.trod enc Tryz.prog w base sp held n 3 [c0] = some y0 := by simpa [k0] using hg 0 _ rfl
    clear k0
    obtain ⟨ho, rfl, hho⟩ := i64_open Tryz.underlying3 h0
    have k1 : Tryz.prog.cellsOf 42 = 2 := by kernel_rfl
    have h1 : DataW.trod enc Tryz.prog w base sp held n 42 [c1, c2] = some y1 := by simpa [k1] using hg 1 _ rfl
    clear k1
    obtain ⟨p, hp, hpo⟩ := prefix_open h1
    have k2 : Tryz.prog.cellsOf 24 = 1 := by kernel_rfl
    have h2 : DataW.trod enc Tryz.prog w base sp held n 24 [c3] = some y2 := by simpa [k2] using hg 2 _ rfl
    clear k2
    obtain ⟨pub, rfl, hpub⟩ := u32_open Tryz.underlying24 h2
    have k3 : Tryz.prog.cellsOf 44 = 6 := by kernel_rfl
    have h3 : DataW.trod enc Tryz.prog w base sp held n 44 [c4, c5, c6, c7, c8, c9] = some y3 := by simpa [k3] using hg 3 _ rfl
    clear k3
    obtain ⟨m, hm⟩ := mac_open h3
    have k4 : Tryz.prog.cellsOf 2 = 1 := by kernel_rfl
    have h4 : DataW.trod enc Tryz.prog w base sp held n 2 [c10] = some y4 := by simpa [k4] using hg 4 _ rfl
    clear k4
    obtain ⟨ti, rfl, hti⟩ := i64_open Tryz.underlying2 h4
    have k5 : Tryz.prog.cellsOf 2 = 1 := by kernel_rfl
    have h5 : DataW.trod enc Tryz.prog w base sp held n 2 [c11] = some y5 := by simpa [k5] using hg 5 _ rfl
    clear k5
    obtain ⟨re, rfl, hre⟩ := i64_open Tryz.underlying2 h5
    simp only [PrefixD.cells, MacD.cells, List.cons.injEq, and_true] at hp hm
    obtain ⟨rfl, rfl⟩ := hp
    obtain ⟨rfl, rfl, rfl, rfl, rfl, rfl⟩ := hm
    exact ⟨⟨ho, p.a, p.n, pub, m, ti, re⟩, rfl, hho, hpo.1, hpo.2, hpub, hti, hre⟩
set_option maxRecDepth 100000 in
theorem route_open {fuel : Nat} {cs : List Value} {x : DataW H × List MemPlace} (h : DataW.trod enc Tryz.prog w base sp held fuel 105 cs = some x) : ∃ p : RouteD, cs = p.cells ∧ p.ok := by
  obtain ⟨xs, n, _, hx, hl, hlen, hg⟩ := DataW.trod_struct Tryz.underlying105 h
  match cs, hl.trans (show Tryz.prog.cellsOf 105 = 4 by kernel_rfl) with
  | c0 :: c1 :: c2 :: c3 :: [], _ =>
   match xs, hlen with
   | [y0, y1, y2], _ =>
    have k0 : Tryz.prog.cellsOf 42 = 2 := by kernel_rfl
    have h0 : DataW.trod enc Tryz.prog w base sp held n 42 [c0, c1] = some y0 := by simpa [k0] using hg 0 _ rfl
    clear k0
    obtain ⟨p, hp, hpo⟩ := prefix_open h0
    have k1 : Tryz.prog.cellsOf 24 = 1 := by kernel_rfl
    have h1 : DataW.trod enc Tryz.prog w base sp held n 24 [c2] = some y1 := by simpa [k1] using hg 1 _ rfl
    clear k1
    obtain ⟨via, rfl, hvia⟩ := u32_open Tryz.underlying24 h1
    have k2 : Tryz.prog.cellsOf 4 = 1 := by kernel_rfl
    have h2 : DataW.trod enc Tryz.prog w base sp held n 4 [c3] = some y2 := by simpa [k2] using hg 2 _ rfl
    clear k2
    obtain ⟨lo, rfl⟩ := bool_open Tryz.underlying4 h2
    simp only [PrefixD.cells, List.cons.injEq, and_true] at hp
    obtain ⟨rfl, rfl⟩ := hp
    exact ⟨⟨p.a, p.n, via, lo⟩, rfl, hpo.1, hpo.2, hvia⟩
set_option maxRecDepth 100000 in
theorem neigh_open {fuel : Nat} {cs : List Value} {x : DataW H × List MemPlace} (h : DataW.trod enc Tryz.prog w base sp held fuel 107 cs = some x) : ∃ p : NeighD, cs = p.cells ∧ p.ok := by
  obtain ⟨xs, n, _, hx, hl, hlen, hg⟩ := DataW.trod_struct Tryz.underlying107 h
  match cs, hl.trans (show Tryz.prog.cellsOf 107 = 7 by kernel_rfl) with
  | c0 :: c1 :: c2 :: c3 :: c4 :: c5 :: c6 :: [], _ =>
   match xs, hlen with
   | [y0, y1], _ =>
    have k0 : Tryz.prog.cellsOf 24 = 1 := by kernel_rfl
    have h0 : DataW.trod enc Tryz.prog w base sp held n 24 [c0] = some y0 := by simpa [k0] using hg 0 _ rfl
    clear k0
    obtain ⟨ip, rfl, hip⟩ := u32_open Tryz.underlying24 h0
    have k1 : Tryz.prog.cellsOf 44 = 6 := by kernel_rfl
    have h1 : DataW.trod enc Tryz.prog w base sp held n 44 [c1, c2, c3, c4, c5, c6] = some y1 := by simpa [k1] using hg 1 _ rfl
    clear k1
    obtain ⟨m, hm⟩ := mac_open h1
    simp only [MacD.cells, List.cons.injEq, and_true] at hm
    obtain ⟨rfl, rfl, rfl, rfl, rfl, rfl⟩ := hm
    exact ⟨⟨ip, m⟩, rfl, hip⟩
set_option maxRecDepth 100000 in
theorem fdb_open {fuel : Nat} {cs : List Value} {x : DataW H × List MemPlace} (h : DataW.trod enc Tryz.prog w base sp held fuel 109 cs = some x) : ∃ p : FdbD, cs = p.cells ∧ p.ok := by
  obtain ⟨xs, n, _, hx, hl, hlen, hg⟩ := DataW.trod_struct Tryz.underlying109 h
  match cs, hl.trans (show Tryz.prog.cellsOf 109 = 7 by kernel_rfl) with
  | c0 :: c1 :: c2 :: c3 :: c4 :: c5 :: c6 :: [], _ =>
   match xs, hlen with
   | [y0, y1], _ =>
    have k0 : Tryz.prog.cellsOf 44 = 6 := by kernel_rfl
    have h0 : DataW.trod enc Tryz.prog w base sp held n 44 [c0, c1, c2, c3, c4, c5] = some y0 := by simpa [k0] using hg 0 _ rfl
    clear k0
    obtain ⟨m, hm⟩ := mac_open h0
    have k1 : Tryz.prog.cellsOf 24 = 1 := by kernel_rfl
    have h1 : DataW.trod enc Tryz.prog w base sp held n 24 [c6] = some y1 := by simpa [k1] using hg 1 _ rfl
    clear k1
    obtain ⟨ip, rfl, hip⟩ := u32_open Tryz.underlying24 h1
    simp only [MacD.cells, List.cons.injEq, and_true] at hm
    obtain ⟨rfl, rfl, rfl, rfl, rfl, rfl⟩ := hm
    exact ⟨⟨m, ip⟩, rfl, hip⟩
set_option maxRecDepth 100000 in
theorem pod_open {fuel : Nat} {cs : List Value} {x : DataW H × List MemPlace} (h : DataW.trod enc Tryz.prog w base sp held fuel 86 cs = some x) : ∃ p : PodD, cs = p.cells ∧ (p.a < 4294967296 ∧ p.name.size ≤ Rows.uptoBulk x.1) := by
  obtain ⟨xs, n, _, hx, hl, hlen, hg⟩ := DataW.trod_struct Tryz.underlying86 h
  match cs, hl.trans (show Tryz.prog.cellsOf 86 = 2 by kernel_rfl) with
  | c0 :: c1 :: [], _ =>
   match xs, hlen with
   | [y0, y1], _ =>
    have k0 : Tryz.prog.cellsOf 9 = 1 := by kernel_rfl
    have h0 : DataW.trod enc Tryz.prog w base sp held n 9 [c0] = some y0 := by simpa [k0] using hg 0 _ rfl
    clear k0
    have B0 := part_bulk (show y0 ∈ [y0, y1] by simp)
    rw [show DataW.agg ([y0, y1].map (·.1)) = x.1 from (congrArg Prod.fst hx).symm] at B0
    obtain ⟨s, rfl, hs⟩ := str_open Tryz.underlying9 h0
    have k1 : Tryz.prog.cellsOf 24 = 1 := by kernel_rfl
    have h1 : DataW.trod enc Tryz.prog w base sp held n 24 [c1] = some y1 := by simpa [k1] using hg 1 _ rfl
    clear k1
    have B1 := part_bulk (show y1 ∈ [y0, y1] by simp)
    rw [show DataW.agg ([y0, y1].map (·.1)) = x.1 from (congrArg Prod.fst hx).symm] at B1
    obtain ⟨a, rfl, ha⟩ := u32_open Tryz.underlying24 h1
    exact ⟨⟨s, a⟩, rfl, ha, Nat.le_trans hs B0⟩
set_option maxRecDepth 100000 in
theorem sent_open {fuel : Nat} {cs : List Value} {x : DataW H × List MemPlace} (h : DataW.trod enc Tryz.prog w base sp held fuel 88 cs = some x) : ∃ p : SentD, cs = p.cells ∧ (p.dst < 4294967296 ∧ Bs w (.slice p.sa p.bytes.length p.sc) p.bytes ∧ p.bytes.length ≤ Rows.uptoBulk x.1) := by
  obtain ⟨xs, n, _, hx, hl, hlen, hg⟩ := DataW.trod_struct Tryz.underlying88 h
  match cs, hl.trans (show Tryz.prog.cellsOf 88 = 2 by kernel_rfl) with
  | c0 :: c1 :: [], _ =>
   match xs, hlen with
   | [y0, y1], _ =>
    have k0 : Tryz.prog.cellsOf 24 = 1 := by kernel_rfl
    have h0 : DataW.trod enc Tryz.prog w base sp held n 24 [c0] = some y0 := by simpa [k0] using hg 0 _ rfl
    clear k0
    have B0 := part_bulk (show y0 ∈ [y0, y1] by simp)
    rw [show DataW.agg ([y0, y1].map (·.1)) = x.1 from (congrArg Prod.fst hx).symm] at B0
    obtain ⟨a, rfl, ha⟩ := u32_open Tryz.underlying24 h0
    have k1 : Tryz.prog.cellsOf 22 = 1 := by kernel_rfl
    have h1 : DataW.trod enc Tryz.prog w base sp held n 22 [c1] = some y1 := by simpa [k1] using hg 1 _ rfl
    clear k1
    have B1 := part_bulk (show y1 ∈ [y0, y1] by simp)
    rw [show DataW.agg ([y0, y1].map (·.1)) = x.1 from (congrArg Prod.fst hx).symm] at B1
    obtain ⟨l, hb, hs⟩ := bytes_openB h1
    have hb2 := hb
    obtain ⟨sa, sc, rfl, _⟩ := hb
    exact ⟨⟨a, sa, sc, l⟩, rfl, ha, hb2, Nat.le_trans hs B1⟩
set_option maxRecDepth 100000 in
theorem given_open {fuel : Nat} {cs : List Value} {x : DataW H × List MemPlace} (h : DataW.trod enc Tryz.prog w base sp held fuel 79 cs = some x) : ∃ p : GivenD, cs = p.cells ∧ ((I64 p.host ∧ p.dst < 4294967296) ∧ Bs w (.slice p.sa p.bytes.length p.sc) p.bytes ∧ p.bytes.length ≤ Rows.uptoBulk x.1 ∧ p.name.size ≤ Rows.uptoBulk x.1) := by
  obtain ⟨xs, n, _, hx, hl, hlen, hg⟩ := DataW.trod_struct Tryz.underlying79 h
  match cs, hl.trans (show Tryz.prog.cellsOf 79 = 4 by kernel_rfl) with
  | c0 :: c1 :: c2 :: c3 :: [], _ =>
   match xs, hlen with
   | [y0, y1, y2, y3], _ =>
    have k0 : Tryz.prog.cellsOf 3 = 1 := by kernel_rfl
    have h0 : DataW.trod enc Tryz.prog w base sp held n 3 [c0] = some y0 := by simpa [k0] using hg 0 _ rfl
    clear k0
    have B0 := part_bulk (show y0 ∈ [y0, y1, y2, y3] by simp)
    rw [show DataW.agg ([y0, y1, y2, y3].map (·.1)) = x.1 from (congrArg Prod.fst hx).symm] at B0
    obtain ⟨ho, rfl, hho⟩ := i64_open Tryz.underlying3 h0
    have k1 : Tryz.prog.cellsOf 24 = 1 := by kernel_rfl
    have h1 : DataW.trod enc Tryz.prog w base sp held n 24 [c1] = some y1 := by simpa [k1] using hg 1 _ rfl
    clear k1
    have B1 := part_bulk (show y1 ∈ [y0, y1, y2, y3] by simp)
    rw [show DataW.agg ([y0, y1, y2, y3].map (·.1)) = x.1 from (congrArg Prod.fst hx).symm] at B1
    obtain ⟨a, rfl, ha⟩ := u32_open Tryz.underlying24 h1
    have k2 : Tryz.prog.cellsOf 9 = 1 := by kernel_rfl
    have h2 : DataW.trod enc Tryz.prog w base sp held n 9 [c2] = some y2 := by simpa [k2] using hg 2 _ rfl
    clear k2
    have B2 := part_bulk (show y2 ∈ [y0, y1, y2, y3] by simp)
    rw [show DataW.agg ([y0, y1, y2, y3].map (·.1)) = x.1 from (congrArg Prod.fst hx).symm] at B2
    obtain ⟨s, rfl, hn⟩ := str_open Tryz.underlying9 h2
    have k3 : Tryz.prog.cellsOf 22 = 1 := by kernel_rfl
    have h3 : DataW.trod enc Tryz.prog w base sp held n 22 [c3] = some y3 := by simpa [k3] using hg 3 _ rfl
    clear k3
    have B3 := part_bulk (show y3 ∈ [y0, y1, y2, y3] by simp)
    rw [show DataW.agg ([y0, y1, y2, y3].map (·.1)) = x.1 from (congrArg Prod.fst hx).symm] at B3
    obtain ⟨l, hb, hs⟩ := bytes_openB h3
    have hb2 := hb
    obtain ⟨sa, sc, rfl, _⟩ := hb
    exact ⟨⟨ho, a, s, sa, sc, l⟩, rfl, ⟨hho, ha⟩, hb2, Nat.le_trans hs B3, Nat.le_trans hn B2⟩
set_option maxRecDepth 100000 in
theorem tables_open {fuel : Nat} {cs : List Value} {x : DataW H × List MemPlace} (h : DataW.trod enc Tryz.prog w base sp held fuel 38 cs = some x) (hB : Rows.uptoBulk x.1 ≤ 1048576) : ∃ (t : TablesD) (v1 v2 v3 : Value), cs = [v1, v2, v3] ∧ (RowOf w.heap.size w v1 4 (t.routes.map RouteD.cells) ∧ RowOf w.heap.size w v2 7 (t.neighs.map NeighD.cells) ∧ RowOf w.heap.size w v3 7 (t.fdbs.map FdbD.cells)) ∧ ((∀ d ∈ t.routes, d.ok) ∧ (∀ d ∈ t.neighs, d.ok) ∧ (∀ d ∈ t.fdbs, d.ok)) ∧ t.routes.length ≤ 1048576 ∧ t.neighs.length ≤ 1048576 ∧ t.fdbs.length ≤ 1048576 := by
  obtain ⟨xs, n, _, hx, hl, hlen, hg⟩ := DataW.trod_struct Tryz.underlying38 h
  match cs, hl.trans (show Tryz.prog.cellsOf 38 = 3 by kernel_rfl) with
  | c0 :: c1 :: c2 :: [], _ =>
   match xs, hlen with
   | [y0, y1, y2], _ =>
    have k0 : Tryz.prog.cellsOf 34 = 1 := by kernel_rfl
    have h0 : DataW.trod enc Tryz.prog w base sp held n 34 [c0] = some y0 := by simpa [k0] using hg 0 _ rfl
    clear k0
    have B0 := part_bulk (show y0 ∈ [y0, y1, y2] by simp)
    rw [show DataW.agg ([y0, y1, y2].map (·.1)) = x.1 from (congrArg Prod.fst hx).symm] at B0
    obtain ⟨R, hr, hrl, hro⟩ := rows_open RouteD.cells 4 (by decide) (fun d _ => d.ok) Tryz.underlying34 (by kernel_rfl) (fun _ _ _ hx => route_open hx) h0 (Nat.le_trans B0 hB)
    have k1 : Tryz.prog.cellsOf 35 = 1 := by kernel_rfl
    have h1 : DataW.trod enc Tryz.prog w base sp held n 35 [c1] = some y1 := by simpa [k1] using hg 1 _ rfl
    clear k1
    have B1 := part_bulk (show y1 ∈ [y0, y1, y2] by simp)
    rw [show DataW.agg ([y0, y1, y2].map (·.1)) = x.1 from (congrArg Prod.fst hx).symm] at B1
    obtain ⟨Ns, hn, hnl, hno⟩ := rows_open NeighD.cells 7 (by decide) (fun d _ => d.ok) Tryz.underlying35 (by kernel_rfl) (fun _ _ _ hx => neigh_open hx) h1 (Nat.le_trans B1 hB)
    have k2 : Tryz.prog.cellsOf 36 = 1 := by kernel_rfl
    have h2 : DataW.trod enc Tryz.prog w base sp held n 36 [c2] = some y2 := by simpa [k2] using hg 2 _ rfl
    clear k2
    have B2 := part_bulk (show y2 ∈ [y0, y1, y2] by simp)
    rw [show DataW.agg ([y0, y1, y2].map (·.1)) = x.1 from (congrArg Prod.fst hx).symm] at B2
    obtain ⟨F, hf, hfl, hfo⟩ := rows_open FdbD.cells 7 (by decide) (fun d _ => d.ok) Tryz.underlying36 (by kernel_rfl) (fun _ _ _ hx => fdb_open hx) h2 (Nat.le_trans B2 hB)
    exact ⟨⟨R, Ns, F⟩, c0, c1, c2, rfl, ⟨hr, hn, hf⟩, ⟨(fun d hd => (Exists.elim (hro d hd) fun _ q => q.1)), (fun d hd => (Exists.elim (hno d hd) fun _ q => q.1)), (fun d hd => (Exists.elim (hfo d hd) fun _ q => q.1))⟩, by show R.length ≤ _; omega, by show Ns.length ≤ _; omega, by show F.length ≤ _; omega⟩
set_option maxRecDepth 100000 in
theorem view_open {fuel : Nat} {cs : List Value} {x : DataW H × List MemPlace} (h : DataW.trod enc Tryz.prog w base sp held fuel 49 cs = some x) (hB : Rows.uptoBulk x.1 ≤ 1048576) : ∃ (v : ViewD) (v5 v6 v1 v2 v3 : Value), cs = [.bool v.has, .int .i64 v.lease.host, .int .u32 v.lease.a, .int .i64 v.lease.n, .int .u32 v.lease.pub, .int .u8 v.lease.mac.b.toNat, .int .u8 v.lease.mac.c.toNat, .int .u8 v.lease.mac.d.toNat, .int .u8 v.lease.mac.e.toNat, .int .u8 v.lease.mac.f.toNat, .int .u8 v.lease.mac.g.toNat, .int .i64 v.lease.till, .int .i64 v.lease.rev, .int .i64 v.cursor, .bool v.synced, .bool v.degraded, v5, v6, v1, v2, v3] ∧ (v.lease.ok ∧ I64 v.cursor) ∧ (RowOf w.heap.size w v5 12 (v.leases.map LeaseD.cells) ∧ RowOf w.heap.size w v6 2 (v.skipped.map PrefixD.cells)) ∧ ((∀ d ∈ v.leases, d.ok) ∧ (∀ d ∈ v.skipped, d.ok)) ∧ (v.leases.length ≤ 1048576 ∧ v.skipped.length ≤ 1048576) ∧ (RowOf w.heap.size w v1 4 (v.tabs.routes.map RouteD.cells) ∧ RowOf w.heap.size w v2 7 (v.tabs.neighs.map NeighD.cells) ∧ RowOf w.heap.size w v3 7 (v.tabs.fdbs.map FdbD.cells)) ∧ ((∀ d ∈ v.tabs.routes, d.ok) ∧ (∀ d ∈ v.tabs.neighs, d.ok) ∧ (∀ d ∈ v.tabs.fdbs, d.ok)) ∧ v.tabs.routes.length ≤ 1048576 ∧ v.tabs.neighs.length ≤ 1048576 ∧ v.tabs.fdbs.length ≤ 1048576 := by
  obtain ⟨xs, n, _, hx, hl, hlen, hg⟩ := DataW.trod_struct Tryz.underlying49 h
  match cs, hl.trans (show Tryz.prog.cellsOf 49 = 21 by kernel_rfl) with
  | c0 :: c1 :: c2 :: c3 :: c4 :: c5 :: c6 :: c7 :: c8 :: c9 :: c10 :: c11 :: c12 :: c13 :: c14 :: c15 :: c16 :: c17 :: c18 :: c19 :: c20 :: [], _ =>
   match xs, hlen with
   | [y0, y1, y2, y3, y4, y5, y6, y7], _ =>
    have k0 : Tryz.prog.cellsOf 4 = 1 := by kernel_rfl
    have h0 : DataW.trod enc Tryz.prog w base sp held n 4 [c0] = some y0 := by simpa [k0] using hg 0 _ rfl
    clear k0
    have B0 := part_bulk (show y0 ∈ [y0, y1, y2, y3, y4, y5, y6, y7] by simp)
    rw [show DataW.agg ([y0, y1, y2, y3, y4, y5, y6, y7].map (·.1)) = x.1 from (congrArg Prod.fst hx).symm] at B0
    obtain ⟨has, rfl⟩ := bool_open Tryz.underlying4 h0
    have k1 : Tryz.prog.cellsOf 46 = 12 := by kernel_rfl
    have h1 : DataW.trod enc Tryz.prog w base sp held n 46 [c1, c2, c3, c4, c5, c6, c7, c8, c9, c10, c11, c12] = some y1 := by simpa [k1] using hg 1 _ rfl
    clear k1
    have B1 := part_bulk (show y1 ∈ [y0, y1, y2, y3, y4, y5, y6, y7] by simp)
    rw [show DataW.agg ([y0, y1, y2, y3, y4, y5, y6, y7].map (·.1)) = x.1 from (congrArg Prod.fst hx).symm] at B1
    obtain ⟨L, hL, hLo⟩ := lease_open h1
    have k2 : Tryz.prog.cellsOf 2 = 1 := by kernel_rfl
    have h2 : DataW.trod enc Tryz.prog w base sp held n 2 [c13] = some y2 := by simpa [k2] using hg 2 _ rfl
    clear k2
    have B2 := part_bulk (show y2 ∈ [y0, y1, y2, y3, y4, y5, y6, y7] by simp)
    rw [show DataW.agg ([y0, y1, y2, y3, y4, y5, y6, y7].map (·.1)) = x.1 from (congrArg Prod.fst hx).symm] at B2
    obtain ⟨cu, rfl, hcu⟩ := i64_open Tryz.underlying2 h2
    have k3 : Tryz.prog.cellsOf 4 = 1 := by kernel_rfl
    have h3 : DataW.trod enc Tryz.prog w base sp held n 4 [c14] = some y3 := by simpa [k3] using hg 3 _ rfl
    clear k3
    have B3 := part_bulk (show y3 ∈ [y0, y1, y2, y3, y4, y5, y6, y7] by simp)
    rw [show DataW.agg ([y0, y1, y2, y3, y4, y5, y6, y7].map (·.1)) = x.1 from (congrArg Prod.fst hx).symm] at B3
    obtain ⟨sy, rfl⟩ := bool_open Tryz.underlying4 h3
    have k4 : Tryz.prog.cellsOf 4 = 1 := by kernel_rfl
    have h4 : DataW.trod enc Tryz.prog w base sp held n 4 [c15] = some y4 := by simpa [k4] using hg 4 _ rfl
    clear k4
    have B4 := part_bulk (show y4 ∈ [y0, y1, y2, y3, y4, y5, y6, y7] by simp)
    rw [show DataW.agg ([y0, y1, y2, y3, y4, y5, y6, y7].map (·.1)) = x.1 from (congrArg Prod.fst hx).symm] at B4
    obtain ⟨de, rfl⟩ := bool_open Tryz.underlying4 h4
    have k5 : Tryz.prog.cellsOf 33 = 1 := by kernel_rfl
    have h5 : DataW.trod enc Tryz.prog w base sp held n 33 [c16] = some y5 := by simpa [k5] using hg 5 _ rfl
    clear k5
    have B5 := part_bulk (show y5 ∈ [y0, y1, y2, y3, y4, y5, y6, y7] by simp)
    rw [show DataW.agg ([y0, y1, y2, y3, y4, y5, y6, y7].map (·.1)) = x.1 from (congrArg Prod.fst hx).symm] at B5
    obtain ⟨Ls, hl5, hll, hlo⟩ := rows_open LeaseD.cells 12 (by decide) (fun d _ => d.ok) Tryz.underlying33 (by kernel_rfl) (fun _ _ _ hx => lease_open hx) h5 (Nat.le_trans B5 hB)
    have k6 : Tryz.prog.cellsOf 47 = 1 := by kernel_rfl
    have h6 : DataW.trod enc Tryz.prog w base sp held n 47 [c17] = some y6 := by simpa [k6] using hg 6 _ rfl
    clear k6
    have B6 := part_bulk (show y6 ∈ [y0, y1, y2, y3, y4, y5, y6, y7] by simp)
    rw [show DataW.agg ([y0, y1, y2, y3, y4, y5, y6, y7].map (·.1)) = x.1 from (congrArg Prod.fst hx).symm] at B6
    obtain ⟨Sk, hs6, hsl, hso⟩ := rows_open PrefixD.cells 2 (by decide) (fun d _ => d.ok) Tryz.underlying47 (by kernel_rfl) (fun _ _ _ hx => prefix_open hx) h6 (Nat.le_trans B6 hB)
    have k7 : Tryz.prog.cellsOf 38 = 3 := by kernel_rfl
    have h7 : DataW.trod enc Tryz.prog w base sp held n 38 [c18, c19, c20] = some y7 := by simpa [k7] using hg 7 _ rfl
    clear k7
    have B7 := part_bulk (show y7 ∈ [y0, y1, y2, y3, y4, y5, y6, y7] by simp)
    rw [show DataW.agg ([y0, y1, y2, y3, y4, y5, y6, y7].map (·.1)) = x.1 from (congrArg Prod.fst hx).symm] at B7
    obtain ⟨t, v1, v2, v3, ht, hrw, hok, hln⟩ := tables_open h7 (Nat.le_trans B7 hB)
    simp only [LeaseD.cells, MacD.cells, List.cons_append, List.nil_append, List.cons.injEq, and_true] at hL ht
    obtain ⟨rfl, rfl, rfl, rfl, rfl, rfl, rfl, rfl, rfl, rfl, rfl, rfl⟩ := hL
    obtain ⟨rfl, rfl, rfl⟩ := ht
    exact ⟨⟨has, L, cu, sy, de, Ls, Sk, t⟩, _, _, _, _, _, rfl, ⟨hLo, hcu⟩, ⟨hl5, hs6⟩, ⟨(fun d hd => (Exists.elim (hlo d hd) fun _ q => q.1)), (fun d hd => (Exists.elim (hso d hd) fun _ q => q.1))⟩, ⟨by show Ls.length ≤ _; omega, by show Sk.length ≤ _; omega⟩, hrw, hok, hln⟩
set_option maxRecDepth 100000 in
theorem disk_open {fuel : Nat} {cs : List Value} {x : DataW H × List MemPlace} (h : DataW.trod enc Tryz.prog w base sp held fuel 52 cs = some x) : ∃ la lb : List UInt8, ∃ va vb : Value, cs = [va, vb] ∧ (Bs w va la ∧ Bs w vb lb) ∧ la.length ≤ Rows.uptoBulk x.1 ∧ lb.length ≤ Rows.uptoBulk x.1 := by
  obtain ⟨xs, n, _, hx, hl, hlen, hg⟩ := DataW.trod_struct Tryz.underlying52 h
  match cs, hl.trans (show Tryz.prog.cellsOf 52 = 2 by kernel_rfl) with
  | c0 :: c1 :: [], _ =>
   match xs, hlen with
   | [y0, y1], _ =>
    have k0 : Tryz.prog.cellsOf 22 = 1 := by kernel_rfl
    have h0 : DataW.trod enc Tryz.prog w base sp held n 22 [c0] = some y0 := by simpa [k0] using hg 0 _ rfl
    clear k0
    have B0 := part_bulk (show y0 ∈ [y0, y1] by simp)
    rw [show DataW.agg ([y0, y1].map (·.1)) = x.1 from (congrArg Prod.fst hx).symm] at B0
    obtain ⟨la, ha, hla⟩ := bytes_openB h0
    have k1 : Tryz.prog.cellsOf 22 = 1 := by kernel_rfl
    have h1 : DataW.trod enc Tryz.prog w base sp held n 22 [c1] = some y1 := by simpa [k1] using hg 1 _ rfl
    clear k1
    have B1 := part_bulk (show y1 ∈ [y0, y1] by simp)
    rw [show DataW.agg ([y0, y1].map (·.1)) = x.1 from (congrArg Prod.fst hx).symm] at B1
    obtain ⟨lb, hb, hlb⟩ := bytes_openB h1
    exact ⟨la, lb, c0, c1, rfl, ⟨ha, hb⟩, Nat.le_trans hla B0, Nat.le_trans hlb B1⟩
/-- every list is short, every text in it too -/
structure Small (r : ReplyD) : Prop where
  given : r.given.length ≤ 1048576 ∧ ∀ x ∈ r.given, x.bytes.length ≤ 1048576 ∧ x.name.size ≤ 1048576
  leases : r.leases.length ≤ 1048576
  routes : r.tabs.routes.length ≤ 1048576
  neighs : r.tabs.neighs.length ≤ 1048576
  fdbs : r.tabs.fdbs.length ≤ 1048576
  pods : r.pods.length ≤ 1048576 ∧ ∀ x ∈ r.pods, x.name.size ≤ 1048576
  flight : r.flight.length ≤ 1048576 ∧ ∀ x ∈ r.flight, x.bytes.length ≤ 1048576
  vleases : r.view.leases.length ≤ 1048576
  skipped : r.view.skipped.length ≤ 1048576
  vroutes : r.view.tabs.routes.length ≤ 1048576
  vneighs : r.view.tabs.neighs.length ≤ 1048576
  vfdbs : r.view.tabs.fdbs.length ≤ 1048576
  counts : r.counts.length ≤ 1048576
  diskA : r.diskA.length ≤ 1048576
  diskB : r.diskB.length ≤ 1048576
set_option maxHeartbeats 4000000 in
set_option maxRecDepth 100000 in
theorem reply_trod {fuel : Nat} {cs : List Value} {x : DataW H × List MemPlace} (h : DataW.trod enc Tryz.prog w base sp held fuel 54 cs = some x) (hB : Rows.uptoBulk x.1 ≤ 1048576) : ∃ (r : ReplyD) (xg xl x1 x2 x3 xp xf xv5 xv6 xv1 xv2 xv3 xc xa xb : Value), cs = [.int .i64 r.err, .int .i64 r.n, .int .i64 r.verdict, .int .i64 r.why, .int .i64 r.req, xg, xl, x1, x2, x3, xp, xf, .bool r.view.has, .int .i64 r.view.lease.host, .int .u32 r.view.lease.a, .int .i64 r.view.lease.n, .int .u32 r.view.lease.pub, .int .u8 r.view.lease.mac.b.toNat, .int .u8 r.view.lease.mac.c.toNat, .int .u8 r.view.lease.mac.d.toNat, .int .u8 r.view.lease.mac.e.toNat, .int .u8 r.view.lease.mac.f.toNat, .int .u8 r.view.lease.mac.g.toNat, .int .i64 r.view.lease.till, .int .i64 r.view.lease.rev, .int .i64 r.view.cursor, .bool r.view.synced, .bool r.view.degraded, xv5, xv6, xv1, xv2, xv3, xc, xa, xb] ∧ r.Ok w ∧ r.At w.heap.size w xg xl x1 x2 x3 xp xf xv5 xv6 xv1 xv2 xv3 xc xa xb ∧ Small r := by
  obtain ⟨xs, n, _, hx, hl, hlen, hg⟩ := DataW.trod_struct Tryz.underlying54 h
  match cs, hl.trans (show Tryz.prog.cellsOf 54 = 36 by kernel_rfl) with
  | c0 :: c1 :: c2 :: c3 :: c4 :: c5 :: c6 :: c7 :: c8 :: c9 :: c10 :: c11 :: c12 :: c13 :: c14 :: c15 :: c16 :: c17 :: c18 :: c19 :: c20 :: c21 :: c22 :: c23 :: c24 :: c25 :: c26 :: c27 :: c28 :: c29 :: c30 :: c31 :: c32 :: c33 :: c34 :: c35 :: [], _ =>
   match xs, hlen with
   | [y0, y1, y2, y3, y4, y5, y6, y7, y8, y9, y10, y11, y12], _ =>
    have k0 : Tryz.prog.cellsOf 31 = 1 := by kernel_rfl
    have h0 : DataW.trod enc Tryz.prog w base sp held n 31 [c0] = some y0 := by simpa [k0] using hg 0 _ rfl
    clear k0
    have B0 := part_bulk (show y0 ∈ [y0, y1, y2, y3, y4, y5, y6, y7, y8, y9, y10, y11, y12] by simp)
    rw [show DataW.agg ([y0, y1, y2, y3, y4, y5, y6, y7, y8, y9, y10, y11, y12].map (·.1)) = x.1 from (congrArg Prod.fst hx).symm] at B0
    obtain ⟨er, rfl, her⟩ := i64_open Tryz.underlying31 h0
    have k1 : Tryz.prog.cellsOf 2 = 1 := by kernel_rfl
    have h1 : DataW.trod enc Tryz.prog w base sp held n 2 [c1] = some y1 := by simpa [k1] using hg 1 _ rfl
    clear k1
    have B1 := part_bulk (show y1 ∈ [y0, y1, y2, y3, y4, y5, y6, y7, y8, y9, y10, y11, y12] by simp)
    rw [show DataW.agg ([y0, y1, y2, y3, y4, y5, y6, y7, y8, y9, y10, y11, y12].map (·.1)) = x.1 from (congrArg Prod.fst hx).symm] at B1
    obtain ⟨n0, rfl, hn0⟩ := i64_open Tryz.underlying2 h1
    have k2 : Tryz.prog.cellsOf 3 = 1 := by kernel_rfl
    have h2 : DataW.trod enc Tryz.prog w base sp held n 3 [c2] = some y2 := by simpa [k2] using hg 2 _ rfl
    clear k2
    have B2 := part_bulk (show y2 ∈ [y0, y1, y2, y3, y4, y5, y6, y7, y8, y9, y10, y11, y12] by simp)
    rw [show DataW.agg ([y0, y1, y2, y3, y4, y5, y6, y7, y8, y9, y10, y11, y12].map (·.1)) = x.1 from (congrArg Prod.fst hx).symm] at B2
    obtain ⟨ve, rfl, hve⟩ := i64_open Tryz.underlying3 h2
    have k3 : Tryz.prog.cellsOf 31 = 1 := by kernel_rfl
    have h3 : DataW.trod enc Tryz.prog w base sp held n 31 [c3] = some y3 := by simpa [k3] using hg 3 _ rfl
    clear k3
    have B3 := part_bulk (show y3 ∈ [y0, y1, y2, y3, y4, y5, y6, y7, y8, y9, y10, y11, y12] by simp)
    rw [show DataW.agg ([y0, y1, y2, y3, y4, y5, y6, y7, y8, y9, y10, y11, y12].map (·.1)) = x.1 from (congrArg Prod.fst hx).symm] at B3
    obtain ⟨wh, rfl, hwh⟩ := i64_open Tryz.underlying31 h3
    have k4 : Tryz.prog.cellsOf 3 = 1 := by kernel_rfl
    have h4 : DataW.trod enc Tryz.prog w base sp held n 3 [c4] = some y4 := by simpa [k4] using hg 4 _ rfl
    clear k4
    have B4 := part_bulk (show y4 ∈ [y0, y1, y2, y3, y4, y5, y6, y7, y8, y9, y10, y11, y12] by simp)
    rw [show DataW.agg ([y0, y1, y2, y3, y4, y5, y6, y7, y8, y9, y10, y11, y12].map (·.1)) = x.1 from (congrArg Prod.fst hx).symm] at B4
    obtain ⟨rq, rfl, hrq⟩ := i64_open Tryz.underlying3 h4
    have k5 : Tryz.prog.cellsOf 32 = 1 := by kernel_rfl
    have h5 : DataW.trod enc Tryz.prog w base sp held n 32 [c5] = some y5 := by simpa [k5] using hg 5 _ rfl
    clear k5
    have B5 := part_bulk (show y5 ∈ [y0, y1, y2, y3, y4, y5, y6, y7, y8, y9, y10, y11, y12] by simp)
    rw [show DataW.agg ([y0, y1, y2, y3, y4, y5, y6, y7, y8, y9, y10, y11, y12].map (·.1)) = x.1 from (congrArg Prod.fst hx).symm] at B5
    obtain ⟨Gs, hg5, hgl, hgo⟩ := rows_open GivenD.cells 4 (by decide) (fun d q => (I64 d.host ∧ d.dst < 4294967296) ∧ Bs w (.slice d.sa d.bytes.length d.sc) d.bytes ∧ d.bytes.length ≤ Rows.uptoBulk q ∧ d.name.size ≤ Rows.uptoBulk q) Tryz.underlying32 (by kernel_rfl) (fun _ _ _ hx => given_open hx) h5 (Nat.le_trans B5 hB)
    have k6 : Tryz.prog.cellsOf 33 = 1 := by kernel_rfl
    have h6 : DataW.trod enc Tryz.prog w base sp held n 33 [c6] = some y6 := by simpa [k6] using hg 6 _ rfl
    clear k6
    have B6 := part_bulk (show y6 ∈ [y0, y1, y2, y3, y4, y5, y6, y7, y8, y9, y10, y11, y12] by simp)
    rw [show DataW.agg ([y0, y1, y2, y3, y4, y5, y6, y7, y8, y9, y10, y11, y12].map (·.1)) = x.1 from (congrArg Prod.fst hx).symm] at B6
    obtain ⟨Ls, hl6, hll, hlo⟩ := rows_open LeaseD.cells 12 (by decide) (fun d _ => d.ok) Tryz.underlying33 (by kernel_rfl) (fun _ _ _ hx => lease_open hx) h6 (Nat.le_trans B6 hB)
    have k7 : Tryz.prog.cellsOf 38 = 3 := by kernel_rfl
    have h7 : DataW.trod enc Tryz.prog w base sp held n 38 [c7, c8, c9] = some y7 := by simpa [k7] using hg 7 _ rfl
    clear k7
    have B7 := part_bulk (show y7 ∈ [y0, y1, y2, y3, y4, y5, y6, y7, y8, y9, y10, y11, y12] by simp)
    rw [show DataW.agg ([y0, y1, y2, y3, y4, y5, y6, y7, y8, y9, y10, y11, y12].map (·.1)) = x.1 from (congrArg Prod.fst hx).symm] at B7
    obtain ⟨t, v1, v2, v3, ht, hrw, hok, hln⟩ := tables_open h7 (Nat.le_trans B7 hB)
    have k8 : Tryz.prog.cellsOf 39 = 1 := by kernel_rfl
    have h8 : DataW.trod enc Tryz.prog w base sp held n 39 [c10] = some y8 := by simpa [k8] using hg 8 _ rfl
    clear k8
    have B8 := part_bulk (show y8 ∈ [y0, y1, y2, y3, y4, y5, y6, y7, y8, y9, y10, y11, y12] by simp)
    rw [show DataW.agg ([y0, y1, y2, y3, y4, y5, y6, y7, y8, y9, y10, y11, y12].map (·.1)) = x.1 from (congrArg Prod.fst hx).symm] at B8
    obtain ⟨Ps, hp8, hpl, hpo⟩ := rows_open PodD.cells 2 (by decide) (fun d q => d.a < 4294967296 ∧ d.name.size ≤ Rows.uptoBulk q) Tryz.underlying39 (by kernel_rfl) (fun _ _ _ hx => pod_open hx) h8 (Nat.le_trans B8 hB)
    have k9 : Tryz.prog.cellsOf 40 = 1 := by kernel_rfl
    have h9 : DataW.trod enc Tryz.prog w base sp held n 40 [c11] = some y9 := by simpa [k9] using hg 9 _ rfl
    clear k9
    have B9 := part_bulk (show y9 ∈ [y0, y1, y2, y3, y4, y5, y6, y7, y8, y9, y10, y11, y12] by simp)
    rw [show DataW.agg ([y0, y1, y2, y3, y4, y5, y6, y7, y8, y9, y10, y11, y12].map (·.1)) = x.1 from (congrArg Prod.fst hx).symm] at B9
    obtain ⟨Ss, hs9, hsl, hso⟩ := rows_open SentD.cells 2 (by decide) (fun d q => d.dst < 4294967296 ∧ Bs w (.slice d.sa d.bytes.length d.sc) d.bytes ∧ d.bytes.length ≤ Rows.uptoBulk q) Tryz.underlying40 (by kernel_rfl) (fun _ _ _ hx => sent_open hx) h9 (Nat.le_trans B9 hB)
    have k10 : Tryz.prog.cellsOf 49 = 21 := by kernel_rfl
    have h10 : DataW.trod enc Tryz.prog w base sp held n 49 [c12, c13, c14, c15, c16, c17, c18, c19, c20, c21, c22, c23, c24, c25, c26, c27, c28, c29, c30, c31, c32] = some y10 := by simpa [k10] using hg 10 _ rfl
    clear k10
    have B10 := part_bulk (show y10 ∈ [y0, y1, y2, y3, y4, y5, y6, y7, y8, y9, y10, y11, y12] by simp)
    rw [show DataW.agg ([y0, y1, y2, y3, y4, y5, y6, y7, y8, y9, y10, y11, y12].map (·.1)) = x.1 from (congrArg Prod.fst hx).symm] at B10
    obtain ⟨vw, v5, v6, u1, u2, u3, hv, hvc, hvr, hvo, hvl, hvt, hvto, hvtl⟩ := view_open h10 (Nat.le_trans B10 hB)
    have k11 : Tryz.prog.cellsOf 50 = 1 := by kernel_rfl
    have h11 : DataW.trod enc Tryz.prog w base sp held n 50 [c33] = some y11 := by simpa [k11] using hg 11 _ rfl
    clear k11
    have B11 := part_bulk (show y11 ∈ [y0, y1, y2, y3, y4, y5, y6, y7, y8, y9, y10, y11, y12] by simp)
    rw [show DataW.agg ([y0, y1, y2, y3, y4, y5, y6, y7, y8, y9, y10, y11, y12].map (·.1)) = x.1 from (congrArg Prod.fst hx).symm] at B11
    obtain ⟨Cs, hc11, hcl, hco⟩ := rows_open (fun x => [Value.int .i64 x]) 1 (by decide) (fun d _ => I64 d) Tryz.underlying50 (by kernel_rfl) (fun _ cs _ hx => by
      obtain ⟨z, e, _, wf⟩ := DataW.trod_int Tryz.underlying3 hx
      obtain ⟨z', e', hz⟩ := i64_open Tryz.underlying3 (e ▸ hx)
      exact ⟨z', by rw [e, e'], hz⟩) h11 (Nat.le_trans B11 hB)
    have k12 : Tryz.prog.cellsOf 52 = 2 := by kernel_rfl
    have h12 : DataW.trod enc Tryz.prog w base sp held n 52 [c34, c35] = some y12 := by simpa [k12] using hg 12 _ rfl
    clear k12
    have B12 := part_bulk (show y12 ∈ [y0, y1, y2, y3, y4, y5, y6, y7, y8, y9, y10, y11, y12] by simp)
    rw [show DataW.agg ([y0, y1, y2, y3, y4, y5, y6, y7, y8, y9, y10, y11, y12].map (·.1)) = x.1 from (congrArg Prod.fst hx).symm] at B12
    obtain ⟨la, lb, va, vb, hd, hdb, hda, hdl⟩ := disk_open h12
    simp only [List.cons.injEq, and_true] at ht hv hd
    obtain ⟨rfl, rfl, rfl⟩ := ht
    obtain ⟨rfl, rfl, rfl, rfl, rfl, rfl, rfl, rfl, rfl, rfl, rfl, rfl, rfl, rfl, rfl, rfl, rfl, rfl, rfl, rfl, rfl⟩ := hv
    obtain ⟨rfl, rfl⟩ := hd
    have G : ∀ d ∈ Gs, (I64 d.host ∧ d.dst < 4294967296) ∧ Bs w (.slice d.sa d.bytes.length d.sc) d.bytes ∧ d.bytes.length ≤ 1048576 ∧ d.name.size ≤ 1048576 := fun d hd => by
      obtain ⟨q, hq, hb⟩ := hgo d hd
      exact ⟨hq.1, hq.2.1, by have := hq.2.2.1; omega, by have := hq.2.2.2; omega⟩
    have P : ∀ d ∈ Ps, d.a < 4294967296 ∧ d.name.size ≤ 1048576 := fun d hd => by
      obtain ⟨q, hq, hb⟩ := hpo d hd
      exact ⟨hq.1, by have := hq.2; omega⟩
    have S : ∀ d ∈ Ss, d.dst < 4294967296 ∧ Bs w (.slice d.sa d.bytes.length d.sc) d.bytes ∧ d.bytes.length ≤ 1048576 := fun d hd => by
      obtain ⟨q, hq, hb⟩ := hso d hd
      exact ⟨hq.1, hq.2.1, by have := hq.2.2; omega⟩
    refine ⟨⟨er, n0, ve, wh, rq, Gs, Ls, t, Ps, Ss, vw, Cs, la, lb⟩, _, _, _, _, _, _, _, _, _, _, _, _, _, _, _, rfl, ?_, ⟨hg5, hl6, hrw.1, hrw.2.1, hrw.2.2, hp8, hs9, hvr.1, hvr.2, hvt.1, hvt.2.1, hvt.2.2, hc11, hdb.1, hdb.2⟩, ?_⟩
    · exact ⟨her, hn0, hve, hwh, hrq, fun d hd => ⟨(G d hd).1.1, (G d hd).1.2, by have := (G d hd).2.2.2; omega, (G d hd).2.1, by have := (G d hd).2.2.1; omega⟩, (fun d hd => (Exists.elim (hlo d hd) fun _ q => q.1)), hok.1, hok.2.1, hok.2.2, fun d hd => ⟨(P d hd).1, by have := (P d hd).2; omega⟩, fun d hd => ⟨(S d hd).1, (S d hd).2.1, by have := (S d hd).2.2; omega⟩, hvc.1, hvc.2, hvo.1, hvo.2, hvto.1, hvto.2.1, hvto.2.2, (fun d hd => (Exists.elim (hco d hd) fun _ q => q.1)), by show Cs.length ≤ _; omega, by show la.length ≤ _; omega, by show lb.length ≤ _; omega⟩
    · exact ⟨⟨by show Gs.length ≤ _; omega, fun d hd => (G d hd).2.2⟩, by show Ls.length ≤ _; omega, hln.1, hln.2.1, hln.2.2, ⟨by show Ps.length ≤ _; omega, fun d hd => (P d hd).2⟩, ⟨by show Ss.length ≤ _; omega, fun d hd => (S d hd).2.2⟩, hvl.1, hvl.2, hvtl.1, hvtl.2.1, hvtl.2.2, by show Cs.length ≤ _; omega, by show la.length ≤ _; omega, by show lb.length ≤ _; omega⟩
end
end Go.Proofs.YtmnkdnpjcfmjgaaGreatDoor
