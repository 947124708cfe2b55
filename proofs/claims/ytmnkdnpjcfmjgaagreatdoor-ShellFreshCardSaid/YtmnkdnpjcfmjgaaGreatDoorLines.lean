/- Package shell: the lists of a reply, and their lines: what they are (plain Lean), and what stays while they are written. -/
import Derived.Test.YtmnkdnpjcfmjgaaGreatDoorPut
namespace Go.Proofs.YtmnkdnpjcfmjgaaGreatDoor
open Go.RowKit

/-- a line: words with a blank between each two, and a newline -/
def lineL (ws : List (List UInt8)) : List UInt8 := Lib.join ws [32] ++ [10]
/-- a number that an int64 holds -/
abbrev I64 (x : Int) : Prop := -9223372036854775808 ≤ x ∧ x ≤ 9223372036854775807

structure RouteD where
  a : Nat
  n : Int
  via : Nat
  loc : Bool
  deriving DecidableEq
def RouteD.ok (r : RouteD) : Prop := r.a < 4294967296 ∧ I64 r.n ∧ r.via < 4294967296
def RouteD.cells (r : RouteD) : List Value := [.int .u32 r.a, .int .i64 r.n, .int .u32 r.via, .bool r.loc]
def RouteD.text (r : RouteD) : List UInt8 := routeL r.a r.n r.via r.loc
structure MacD where
  b : UInt8
  c : UInt8
  d : UInt8
  e : UInt8
  f : UInt8
  g : UInt8
  deriving DecidableEq
def MacD.cells (m : MacD) : List Value := [.int .u8 m.b.toNat, .int .u8 m.c.toNat, .int .u8 m.d.toNat, .int .u8 m.e.toNat, .int .u8 m.f.toNat, .int .u8 m.g.toNat]
def MacD.text (m : MacD) : List UInt8 := macL m.b m.c m.d m.e m.f m.g
structure NeighD where
  ip : Nat
  mac : MacD
  deriving DecidableEq
def NeighD.ok (r : NeighD) : Prop := r.ip < 4294967296
def NeighD.cells (r : NeighD) : List Value := .int .u32 r.ip :: r.mac.cells
structure FdbD where
  mac : MacD
  dst : Nat
  deriving DecidableEq
def FdbD.ok (r : FdbD) : Prop := r.dst < 4294967296
def FdbD.cells (r : FdbD) : List Value := r.mac.cells ++ [.int .u32 r.dst]
structure LeaseD where
  host : Int
  a : Nat
  n : Int
  pub : Nat
  mac : MacD
  till : Int
  rev : Int
  deriving DecidableEq
def LeaseD.ok (l : LeaseD) : Prop := I64 l.host ∧ l.a < 4294967296 ∧ I64 l.n ∧ l.pub < 4294967296 ∧ I64 l.till ∧ I64 l.rev
def LeaseD.cells (l : LeaseD) : List Value := [.int .i64 l.host, .int .u32 l.a, .int .i64 l.n, .int .u32 l.pub] ++ l.mac.cells ++ [.int .i64 l.till, .int .i64 l.rev]
def LeaseD.text (l : LeaseD) : List UInt8 := leaseL l.host l.a l.n l.pub l.mac.b l.mac.c l.mac.d l.mac.e l.mac.f l.mac.g l.till l.rev
structure PrefixD where
  a : Nat
  n : Int
  deriving DecidableEq
def PrefixD.ok (p : PrefixD) : Prop := p.a < 4294967296 ∧ I64 p.n
def PrefixD.cells (p : PrefixD) : List Value := [.int .u32 p.a, .int .i64 p.n]
def PrefixD.text (p : PrefixD) : List UInt8 := prefixL p.a p.n
structure PodD where
  name : ByteArray
  a : Nat
def PodD.ok (p : PodD) : Prop := p.a < 4294967296 ∧ p.name.size ≤ 140737488351232
def PodD.cells (p : PodD) : List Value := [.string p.name, .int .u32 p.a]
structure SentD where
  dst : Nat
  sa : Option Addr
  sc : Nat
  bytes : List UInt8
def SentD.ok (s : SentD) : Prop := s.dst < 4294967296
def SentD.cells (s : SentD) : List Value := [.int .u32 s.dst, .slice s.sa s.bytes.length s.sc]
structure GivenD where
  host : Int
  dst : Nat
  name : ByteArray
  sa : Option Addr
  sc : Nat
  bytes : List UInt8
def GivenD.ok (g : GivenD) : Prop := I64 g.host ∧ g.dst < 4294967296 ∧ g.name.size ≤ 140737488351232
def GivenD.cells (g : GivenD) : List Value := [.int .i64 g.host, .int .u32 g.dst, .string g.name, .slice g.sa g.bytes.length g.sc]

def routeLine (ahead : List UInt8) (r : RouteD) : List UInt8 := lineL [ahead ++ [114, 111, 117, 116, 101], r.text]
def neighLine (ahead : List UInt8) (r : NeighD) : List UInt8 := lineL [ahead ++ [110, 101, 105, 103, 104], addrL r.ip, r.mac.text]
def fdbLine (ahead : List UInt8) (r : FdbD) : List UInt8 := lineL [ahead ++ [102, 100, 98], r.mac.text, addrL r.dst]
def leaseLine (l : LeaseD) : List UInt8 := lineL [[108, 101, 97, 115, 101], l.text]
def knowsLine (l : LeaseD) : List UInt8 := lineL [[107, 110, 111, 119, 115], l.text]
def skippedLine (p : PrefixD) : List UInt8 := lineL [[115, 107, 105, 112, 112, 101, 100], p.text]
def podLine (p : PodD) : List UInt8 := lineL [[112, 111, 100], nameL p.name.data.toList, addrL p.a]
def sentLine (s : SentD) : List UInt8 := lineL [[115, 101, 110, 116], addrL s.dst, bytesL s.bytes]
def givenLine (g : GivenD) : List UInt8 := lineL [[103, 105, 118, 101, 110], Lib.itoa g.host, addrL g.dst, nameL g.name.data.toList, bytesL g.bytes]

/-- tables: three lists, and their slices -/
structure TablesD where
  routes : List RouteD
  neighs : List NeighD
  fdbs : List FdbD
def tablesL (ahead : List UInt8) (t : TablesD) : List UInt8 :=
  t.routes.flatMap (routeLine ahead) ++ (t.neighs.flatMap (neighLine ahead) ++ t.fdbs.flatMap (fdbLine ahead))

theorem flat_take {α : Type} (l : List α) (f : α → List UInt8) (j : Nat) (x : α) (h : l[j]? = some x) : (l.take (j + 1)).flatMap f = (l.take j).flatMap f ++ f x := by
  obtain ⟨hj, rfl⟩ := List.getElem?_eq_some_iff.1 h
  rw [List.take_succ_eq_append_getElem hj, List.flatMap_append]; simp
theorem flat_le {α : Type} (l : List α) (f : α → List UInt8) (j : Nat) : ((l.take j).flatMap f).length ≤ (l.flatMap f).length := by
  conv => rhs; rw [← List.take_append_drop j l]
  rw [List.flatMap_append, List.length_append]; omega

/-- put, of words that were written out -/
theorem put_lit (B b : Nat) (acc : List UInt8) (xs : List ByteArray) (ws : List (List UInt8)) (u : World) (cs : Array Value) (n : Nat) (hcs : cs = (xs.map Value.string).toArray) (hws : xs.map (·.data.toList) = ws) (hn : xs.length = n) (hN : n ≤ 1000)
    (hb : Bld B b (Lib.byteCells acc) u) (hBw : B ≤ u.heap.size) (hlen : acc.length + (lineL ws).length ≤ 140737488355328) :
    Calls Tryz.prog 17 #[.slice (some ⟨u.heap.size, 0, none⟩) n n, .pointer (some ⟨b, 0, none⟩)] (u.alloc (.cells cs 9)) fun e w' => e = .returned (.tuple #[]) ∧ (Bld B b (Lib.byteCells (acc ++ lineL ws)) w' ∧ Fr B b u w') := by
  subst hcs hn hws
  have h0 : Below u.heap.size u (u.alloc (.cells (xs.map Value.string).toArray 9)) := (Below.refl _ _).alloc (Nat.le_refl _) _
  refine (put_any B b u.heap.size 0 xs.length xs.length acc xs _ (hb.below h0) (Nat.le_trans hBw h0.size) rfl (fun j x h => cells_strings u xs _ j x h) (by simp) (Nat.le_refl _) ?_ (by omega)).mono ?_
  · unfold lineL at hlen; rw [List.length_append] at hlen; simp only [List.length_cons, List.length_nil] at hlen; omega
  · rintro e w' ⟨he, hb', hf⟩
    exact ⟨he, hb', (((Fr.refl B b u).grew hBw h0).trans hf)⟩

/-- the library's variables stand in a world that grew above B -/
def Env1 (B : Nat) (w : World) : Prop := ∃ w0, Env w0 ∧ w0.heap.size ≤ B ∧ Below B w0 w
theorem Env1.env {B : Nat} {w : World} (h : Env1 B w) : Env w := by
  obtain ⟨w0, h0, h1, h2⟩ := h
  exact h0.below h2 h1
theorem Env1.step {B : Nat} {w w' : World} (h : Env1 B w) (hb : Below B w w') : Env1 B w' := by
  obtain ⟨w0, h0, h1, h2⟩ := h
  exact ⟨w0, h0, h1, h2.trans hb⟩

/-- While lines are written: w0 the world at the beginning, the builder in block b, the parameter's box in block N. -/
structure Lp (w0 : World) (B b N : Nat) (cs : Array Value) (T : TypeId) (acc : List UInt8) (u : World) : Prop where
  env : Env1 B u
  fr : Fr B b w0 u
  size : B ≤ u.heap.size
  box : u.heap[N]? = some (.cells cs T (0, 0))
  bld : Bld B b (Lib.byteCells acc) u
theorem Lp.grew {w0 : World} {B b N : Nat} {cs : Array Value} {T : TypeId} {acc : List UInt8} {u u' : World} (h : Lp w0 B b N cs T acc u) (hb : Below u.heap.size u u') : Lp w0 B b N cs T acc u' :=
  ⟨h.env.step (hb.mono h.size), h.fr.grew h.size hb, Nat.le_trans h.size hb.size, (hb.block N (Array.getElem?_eq_some_iff.1 h.box).1).trans h.box, h.bld.below hb⟩
theorem Lp.drew {w0 : World} {B b N : Nat} {cs : Array Value} {T : TypeId} {acc : List UInt8} {u : World} (h : Lp w0 B b N cs T acc u) : Lp w0 B b N cs T acc u.drew := h.grew ((Below.refl _ u).drew)
theorem Lp.alloc {w0 : World} {B b N : Nat} {cs : Array Value} {T : TypeId} {acc : List UInt8} {u : World} (h : Lp w0 B b N cs T acc u) (o : Obj) : Lp w0 B b N cs T acc (u.alloc o) := h.grew ((Below.refl _ u).alloc (Nat.le_refl _) _)
theorem Lp.put {w0 : World} {B b N : Nat} {cs : Array Value} {T : TypeId} {acc acc' : List UInt8} {u u' : World} (h : Lp w0 B b N cs T acc u) (hN : N ≠ b) (hT : T ≠ 5) (hf : Fr B b u u') (hb : Bld B b (Lib.byteCells acc') u') : Lp w0 B b N cs T acc' u' :=
  ⟨h.env.step hf.1, h.fr.trans hf, Nat.le_trans h.size hf.1.size, hf.block h.box hN hT, hb⟩
theorem Lp.cell {w0 : World} {B b N : Nat} {cs : Array Value} {T : TypeId} {acc : List UInt8} {u : World} (h : Lp w0 B b N cs T acc u) {i : Nat} {v : Value} (hv : cs[i]? = some v) : u.cell? ⟨N, i, none⟩ = some v := by
  simp [World.cell?, h.box, hv]
/-- a line is written while the builder holds acc -/
theorem Lp.putLit {w0 : World} {B b N : Nat} {cs : Array Value} {T : TypeId} {acc : List UInt8} {u : World} (h : Lp w0 B b N cs T acc u) (hN : N ≠ b) (hT : T ≠ 5) (xs : List ByteArray) (ws : List (List UInt8)) (vs : Array Value) (n : Nat) (hvs : vs = (xs.map Value.string).toArray) (hws : xs.map (·.data.toList) = ws) (hn : xs.length = n) (hn2 : n ≤ 1000)
    (hlen : acc.length + (lineL ws).length ≤ 140737488355328) :
    Calls Tryz.prog 17 #[.slice (some ⟨u.heap.size, 0, none⟩) n n, .pointer (some ⟨b, 0, none⟩)] (u.alloc (.cells vs 9)) fun e w' => e = .returned (.tuple #[]) ∧ (Lp w0 B b N cs T (acc ++ lineL ws) w' ∧ Fr B b (u.alloc (.cells vs 9)) w') := by
  subst hvs hn hws
  have h1 := h.alloc (.cells (xs.map Value.string).toArray 9)
  have hl := hlen
  unfold lineL at hl
  rw [List.length_append] at hl
  simp only [List.length_cons, List.length_nil] at hl
  refine (put_any B b u.heap.size 0 xs.length xs.length acc xs _ h1.bld h1.size rfl (fun j x h => cells_strings u xs _ j x h) (by simp) (Nat.le_refl _) (by omega) (by omega)).mono ?_
  rintro e w' ⟨he, hb', hf⟩
  exact ⟨he, h1.put hN hT hf hb', hf⟩
/-- one box in memory -/
def Bx (L : Nat) (lcs : Array Value) (LT : TypeId) (u : World) : Prop := u.heap[L]? = some (.cells lcs LT (0, 0))
theorem Bx.cell {L : Nat} {lcs : Array Value} {LT : TypeId} {u : World} (h : Bx L lcs LT u) {i : Nat} {v : Value} (hv : lcs[i]? = some v) : u.cell? ⟨L, i, none⟩ = some v := by
  unfold Bx at h
  simp [World.cell?, h, hv]
theorem Bx.fr {L B b : Nat} {lcs : Array Value} {LT : TypeId} {u u' : World} (h : Bx L lcs LT u) (hL : L ≠ b) (hT : LT ≠ 5) (hf : Fr B b u u') : Bx L lcs LT u' := hf.block h hL hT
theorem Bx.grew {L : Nat} {lcs : Array Value} {LT : TypeId} {u u' : World} (h : Bx L lcs LT u) (hb : Below u.heap.size u u') : Bx L lcs LT u' := (hb.block L (Array.getElem?_eq_some_iff.1 h).1).trans h
theorem Bx.new (u : World) (lcs : Array Value) (LT : TypeId) : Bx u.heap.size lcs LT (u.alloc (.cells lcs LT)).drew := heap_alloc_new u _

theorem route_D (X : RouteD) (w : World) (h : X.ok) (hE : Env w) : Calls Tryz.prog 55 #[.agg #[.int .u32 X.a, .int .i64 X.n, .int .u32 X.via, .bool X.loc]] w fun e w' => e = .returned (.string ⟨X.text.toArray⟩) ∧ Below w.heap.size w w' :=
  route_any X.a X.n X.via X.loc w (Int.natCast_nonneg _) (by have := h.1; omega) h.2.1.1 h.2.1.2 (Int.natCast_nonneg _) (by have := h.2.2; omega) hE
theorem mac_D (m : MacD) (w : World) : Calls Tryz.prog 54 #[.agg #[.int .u8 m.b.toNat, .int .u8 m.c.toNat, .int .u8 m.d.toNat, .int .u8 m.e.toNat, .int .u8 m.f.toNat, .int .u8 m.g.toNat]] w fun e w' => e = .returned (.string ⟨m.text.toArray⟩) ∧ Below w.heap.size w w' := mac_any m.b m.c m.d m.e m.f m.g w
theorem addr_D (a : Nat) (w : World) (h : a < 4294967296) : Calls Tryz.prog 23 #[.int .u32 a] w fun e w' => e = .returned (.string ⟨(addrL a).toArray⟩) ∧ Below w.heap.size w w' :=
  addrFormat a w (Int.natCast_nonneg _) (by omega)
theorem prefix_D (X : PrefixD) (w : World) (h : X.ok) (hE : Env w) : Calls Tryz.prog 53 #[.agg #[.int .u32 X.a, .int .i64 X.n]] w fun e w' => e = .returned (.string ⟨X.text.toArray⟩) ∧ Below w.heap.size w w' :=
  prefix_any X.a X.n w (Int.natCast_nonneg _) (by have := h.1; omega) h.2.1 h.2.2 hE
theorem lease_D (X : LeaseD) (w : World) (h : X.ok) (hE : Env w) : Calls Tryz.prog 26 #[.agg #[.int .i64 X.host, .int .u32 X.a, .int .i64 X.n, .int .u32 X.pub, .int .u8 X.mac.b.toNat, .int .u8 X.mac.c.toNat, .int .u8 X.mac.d.toNat, .int .u8 X.mac.e.toNat, .int .u8 X.mac.f.toNat, .int .u8 X.mac.g.toNat, .int .i64 X.till, .int .i64 X.rev]] w fun e w' => e = .returned (.string ⟨X.text.toArray⟩) ∧ Below w.heap.size w w' :=
  lease_any X.host X.a X.n X.pub X.till X.rev _ _ _ _ _ _ w h.1.1 h.1.2 (Int.natCast_nonneg _) (by have := h.2.1; omega) h.2.2.1.1 h.2.2.1.2 (Int.natCast_nonneg _) (by have := h.2.2.2.1; omega) h.2.2.2.2.1.1 h.2.2.2.2.1.2 h.2.2.2.2.2.1 h.2.2.2.2.2.2 hE
end Go.Proofs.YtmnkdnpjcfmjgaaGreatDoor
