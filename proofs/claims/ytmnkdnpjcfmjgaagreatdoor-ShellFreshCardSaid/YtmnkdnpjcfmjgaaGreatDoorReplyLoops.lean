/- Package shell: FormatReply's loops. -/
import Derived.Test.YtmnkdnpjcfmjgaaGreatDoorView
import Derived.Deep.MidRow
namespace Go.Proofs.YtmnkdnpjcfmjgaaGreatDoor
open Go.RowKit Go.Sort

structure ReplyD where
  err : Int
  n : Int
  verdict : Int
  why : Int
  req : Int
  given : List GivenD
  leases : List LeaseD
  tabs : TablesD
  pods : List PodD
  flight : List SentD
  view : ViewD
  counts : List Int
  diskA : List UInt8
  diskB : List UInt8
/-- the values that the types bear, and the bytes of what was given and sent in memory -/
structure ReplyD.Ok (r : ReplyD) (w : World) : Prop where
  err : I64 r.err
  n : I64 r.n
  verdict : I64 r.verdict
  why : I64 r.why
  req : I64 r.req
  given : ∀ x ∈ r.given, I64 x.host ∧ x.dst < 4294967296 ∧ x.name.size ≤ 140737488351232 ∧ Bs w (.slice x.sa x.bytes.length x.sc) x.bytes ∧ x.bytes.length ≤ 140737488351232
  leases : ∀ x ∈ r.leases, x.ok
  routes : ∀ x ∈ r.tabs.routes, x.ok
  neighs : ∀ x ∈ r.tabs.neighs, x.ok
  fdbs : ∀ x ∈ r.tabs.fdbs, x.ok
  pods : ∀ x ∈ r.pods, x.ok
  flight : ∀ x ∈ r.flight, x.dst < 4294967296 ∧ Bs w (.slice x.sa x.bytes.length x.sc) x.bytes ∧ x.bytes.length ≤ 140737488351232
  vlease : r.view.lease.ok
  vcur : I64 r.view.cursor
  vleases : ∀ x ∈ r.view.leases, x.ok
  vskip : ∀ x ∈ r.view.skipped, x.ok
  vroutes : ∀ x ∈ r.view.tabs.routes, x.ok
  vneighs : ∀ x ∈ r.view.tabs.neighs, x.ok
  vfdbs : ∀ x ∈ r.view.tabs.fdbs, x.ok
  counts : ∀ x ∈ r.counts, I64 x
  few : r.counts.length ≤ 1000000000000
  diskA : r.diskA.length ≤ 140737488351232
  diskB : r.diskB.length ≤ 140737488351232
/-- the lists in memory, below block B -/
structure ReplyD.At (r : ReplyD) (B : Nat) (w : World) (vg vl v1 v2 v3 vp vf v5 v6 u1 u2 u3 vc va vb : Value) : Prop where
  g : RowOf B w vg 4 (r.given.map GivenD.cells)
  l : RowOf B w vl 12 (r.leases.map LeaseD.cells)
  h1 : RowOf B w v1 4 (r.tabs.routes.map RouteD.cells)
  h2 : RowOf B w v2 7 (r.tabs.neighs.map NeighD.cells)
  h3 : RowOf B w v3 7 (r.tabs.fdbs.map FdbD.cells)
  p : RowOf B w vp 2 (r.pods.map PodD.cells)
  f : RowOf B w vf 2 (r.flight.map SentD.cells)
  h5 : RowOf B w v5 12 (r.view.leases.map LeaseD.cells)
  h6 : RowOf B w v6 2 (r.view.skipped.map PrefixD.cells)
  k1 : RowOf B w u1 4 (r.view.tabs.routes.map RouteD.cells)
  k2 : RowOf B w u2 7 (r.view.tabs.neighs.map NeighD.cells)
  k3 : RowOf B w u3 7 (r.view.tabs.fdbs.map FdbD.cells)
  c : RowOf B w vc 1 (r.counts.map fun x => [Value.int .i64 x])
  a : Bs w va r.diskA
  b : Bs w vb r.diskB
def headL (r : ReplyD) : List UInt8 := lineL [[101, 114, 114], Lib.itoa r.err, [110], Lib.itoa r.n, [118, 101, 114, 100, 105, 99, 116], Lib.itoa r.verdict, [119, 104, 121], Lib.itoa r.why, [114, 101, 113], Lib.itoa r.req]
def countsL (l : List Int) : List UInt8 := if l = [] then [] else lineL ([99, 111, 117, 110, 116, 115] :: l.map Lib.itoa)
def diskL (a b : List UInt8) : List UInt8 := if a.length + b.length = 0 then [] else lineL [[100, 105, 115, 107], bytesL a, bytesL b]
def replyL (r : ReplyD) : List UInt8 := headL r ++ r.given.flatMap givenLine ++ r.leases.flatMap leaseLine ++ tablesL [] r.tabs ++ r.pods.flatMap podLine ++ r.flight.flatMap sentLine ++ viewL r.view ++ countsL r.counts ++ diskL r.diskA r.diskB

theorem bld_new (w : World) (o : Obj) : Bld w.heap.size (w.heap.size + 1) (Lib.byteCells []) ((w.alloc o).alloc (.cells #[.pointer none, .slice none 0 0] 67)) := by
  refine .inl ⟨by omega, .slice none 0 0, ?_, World.ownsRowF_of (World.ownsRow_nil _ _ _ _), by simp [Value.ownBlock]⟩
  have := heap_alloc_new (w.alloc o) (.cells #[.pointer none, .slice none 0 0] 67)
  simpa using this

def loopsIn : Code → List Code
  | .loop c => [.loop c]
  | .seq a b => loopsIn a ++ loopsIn b
  | .block _ c => loopsIn c
  | .scope c => loopsIn c
  | .cond _ a b => loopsIn a ++ loopsIn b
  | _ => []
/-- the k-th loop of a function -/
noncomputable def loopOf (f : Func) (k : Nat) : Code := (((f.body.map loopsIn).getD [])[k]?).getD .skip

def regionsIn : Code → List Code
  | .region n o b => [.region n o b]
  | .loop c => regionsIn c
  | .seq a b => regionsIn a ++ regionsIn b
  | .block _ c => regionsIn c
  | .scope c => regionsIn c
  | .cond _ a b => regionsIn a ++ regionsIn b
  | _ => []
/-- the k-th region of a function -/
noncomputable def regionOf (f : Func) (k : Nat) : Code := (((f.body.map regionsIn).getD [])[k]?).getD .skip

theorem viewInfo : (Tryz.prog.info? 49).map (·.size) = some 21 := by kernel_rfl
theorem strInfo : (Tryz.prog.info? 9).map (fun i => (i.zero, i.size, i.bytes)) = some (some (.string ⟨#[]⟩), 1, 16) := by kernel_rfl
/-- the words of the counts -/
def wordsL (l : List Int) : List ByteArray := ⟨#[99, 111, 117, 110, 116, 115]⟩ :: l.map fun x => ⟨(Lib.itoa x).toArray⟩
theorem countsL_eq (l : List Int) (h : l ≠ []) : countsL l = Lib.join ((wordsL l).map (·.data.toList)) [32] ++ [10] := by
  rw [countsL, if_neg h, lineL, wordsL]
  simp [Function.comp_def]
theorem row_form {w : World} {B : Nat} {e : TypeId} {v : Value} {k : Nat} {xs : List Value} (h : w.ownsRow B e 1 v (k + 1) xs) : ∃ bk cp, v = .slice (some ⟨bk, 0, none⟩) (k + 1) cp ∧ k + 1 ≤ cp := by
  rcases h.2 with ⟨_, h0⟩ | ⟨g, cap, cur, hv, _, _, hle, _⟩
  · omega
  · exact ⟨g, cap, hv, hle⟩
theorem row_below {w w' : World} {B : Nat} {e : TypeId} {v : Value} {k : Nat} {xs : List Value} (h : w.ownsRow B e 1 v k xs) (hb : Below w.heap.size w w') : w'.ownsRow B e 1 v k xs := by
  refine ⟨h.1, ?_⟩
  rcases h.2 with hn | ⟨g, cap, cur, hv, hB, hg, rest⟩
  · exact .inl hn
  · exact .inr ⟨g, cap, cur, hv, hB, (hb.block g (Array.getElem?_eq_some_iff.1 hg).1).trans hg, rest⟩

def replyCS (r : ReplyD) (ag al ap af ac aa ab : Option Addr) (cg cl cp cf cc ca cb : Nat) (v1 v2 v3 v5 v6 u1 u2 u3 : Value) : Array Value := #[.int .i64 r.err, .int .i64 r.n, .int .i64 r.verdict, .int .i64 r.why, .int .i64 r.req, .slice ag r.given.length cg, .slice al r.leases.length cl, v1, v2, v3, .slice ap r.pods.length cp, .slice af r.flight.length cf, .bool r.view.has, .int .i64 r.view.lease.host, .int .u32 r.view.lease.a, .int .i64 r.view.lease.n, .int .u32 r.view.lease.pub, .int .u8 r.view.lease.mac.b.toNat, .int .u8 r.view.lease.mac.c.toNat, .int .u8 r.view.lease.mac.d.toNat, .int .u8 r.view.lease.mac.e.toNat, .int .u8 r.view.lease.mac.f.toNat, .int .u8 r.view.lease.mac.g.toNat, .int .i64 r.view.lease.till, .int .i64 r.view.lease.rev, .int .i64 r.view.cursor, .bool r.view.synced, .bool r.view.degraded, v5, v6, u1, u2, u3, .slice ac r.counts.length cc, .slice aa r.diskA.length ca, .slice ab r.diskB.length cb]
def dropSeq : Nat → Code → Code
  | 0, c => c
  | n + 1, .seq _ b => dropSeq n b
  | _, c => c
/-- what follows the first n statements of a function -/
noncomputable def tailOf (f : Func) (n : Nat) : Code := (f.body.map (dropSeq n)).getD .skip


set_option maxRecDepth 1000000 in
set_option maxHeartbeats 8000000 in
theorem given_loop {w0 : World} {B b N : Nat} {cs : Array Value} {T : TypeId} {acc : List UInt8} (l : List GivenD) (a : Option Addr) (c : Nat) (hNb : N ≠ b) (hTy : T ≠ 5) (hcap : l.length ≤ c) (hmax : l.length ≤ 140737488355328)
    (hrow : l.map GivenD.cells ≠ [] → ∃ b off, a = some ⟨b, off, none⟩ ∧ b < B ∧ ∀ j x, (l.map GivenD.cells)[j]? = some x → ∀ i u, x[i]? = some u → w0.cell? ⟨b, off + j * 4 + i, none⟩ = some u)
    (hok : ∀ x ∈ l, I64 x.host ∧ x.dst < 4294967296 ∧ x.name.size ≤ 140737488351232 ∧ (∀ u, Below B w0 u → Bs u (.slice x.sa x.bytes.length x.sc) x.bytes) ∧ x.bytes.length ≤ 140737488351232) (hroom : acc.length + (l.flatMap givenLine).length ≤ 140737488355328) {c0 c1 c2 c3 c5 c6 c7 c8 c9 c10 c11 c12 c13 c14 c15 c16 c17 c18 c19 c20 c21 c22 c23 c24 c25 c26 c27 c28 c29 c30 c31 c32 c33 c34 c35 c39 c40 c41 c42 c43 c44 c45 c46 c47 c48 c49 c50 c51 c52 c53 c54 c55 c56 c57 c58 c59 c60 c61 c62 c63 c64 c65 c66 c67 c68 c69 c70 c71 c72 c73 c74 c75 c76 c77 c78 c79 c80 c81 c82 c83 c84 c85 c86 c87 c88 c89 c90 c91 c92 c93 c94 c95 c96 c97 c98 c99 c100 c101 c102 c103 c104 c105 c106 c107 c108 c109 c110 c111 c112 c113 c114 c115 c116 c117 c118 c119 c120 c121 c122 c123 c124 c125 c126 c127 c128 c129 c130 c131 c132 c133 c134 c135 c136 c137 c138 c139 c140 c141 c142 c143 c144 c145 c146 c147 c148 c149 c150 c151 c152 c153 c154 c155 : Value} {Q0 : Exit → Act → World → Prop} (ws : World) (hws : Lp w0 B b N cs T acc ws)
    (hexit : ∀ (d6 d38 d39 d40 d41 d42 d43 d44 d45 d46 d47 d48 d49 d50 d51 d52 d53 d54 d55 d56 d57 : Value) (wx : World), Lp w0 B b N cs T (acc ++ l.flatMap givenLine) wx → Q0 (.exit 0) ⟨#[c0, c1, c2, c3, (putV b), c5, d6, c7, c8, c9, c10, c11, c12, c13, c14, c15, c16, c17, c18, c19, c20, c21, c22, c23, c24, c25, c26, c27, c28, c29, c30, c31, c32, c33, c34, c35, .slice a l.length c, .int .i64 l.length, d38, d39, d40, d41, d42, d43, d44, d45, d46, d47, d48, d49, d50, d51, d52, d53, d54, d55, d56, d57, c58, c59, c60, c61, c62, c63, c64, c65, c66, c67, c68, c69, c70, c71, c72, c73, c74, c75, c76, c77, c78, c79, c80, c81, c82, c83, c84, c85, c86, c87, c88, c89, c90, c91, c92, c93, c94, c95, c96, c97, c98, c99, c100, c101, c102, c103, c104, c105, c106, c107, c108, c109, c110, c111, c112, c113, c114, c115, c116, c117, c118, c119, c120, c121, c122, c123, c124, c125, c126, c127, c128, c129, c130, c131, c132, c133, c134, c135, c136, c137, c138, c139, c140, c141, c142, c143, c144, c145, c146, c147, c148, c149, c150, c151, c152, c153, c154, c155], []⟩ wx) :
    Code.wp Tryz.prog (loopOf Tryz.f9 0) Q0 ⟨#[c0, c1, c2, c3, (putV b), c5, c6, c7, c8, c9, c10, c11, c12, c13, c14, c15, c16, c17, c18, c19, c20, c21, c22, c23, c24, c25, c26, c27, c28, c29, c30, c31, c32, c33, c34, c35, .slice a l.length c, .int .i64 l.length, .int .i64 0, c39, c40, c41, c42, c43, c44, c45, c46, c47, c48, c49, c50, c51, c52, c53, c54, c55, c56, c57, c58, c59, c60, c61, c62, c63, c64, c65, c66, c67, c68, c69, c70, c71, c72, c73, c74, c75, c76, c77, c78, c79, c80, c81, c82, c83, c84, c85, c86, c87, c88, c89, c90, c91, c92, c93, c94, c95, c96, c97, c98, c99, c100, c101, c102, c103, c104, c105, c106, c107, c108, c109, c110, c111, c112, c113, c114, c115, c116, c117, c118, c119, c120, c121, c122, c123, c124, c125, c126, c127, c128, c129, c130, c131, c132, c133, c134, c135, c136, c137, c138, c139, c140, c141, c142, c143, c144, c145, c146, c147, c148, c149, c150, c151, c152, c153, c154, c155], []⟩ ws := by
  have HE := Lib.hid hexit
  have HL := Lib.hid hws
  clear hws hexit
  conv => arg 2; whnf
  conv => arg 4; dsimp only
  have HNb := Lib.hid hNb
  have HTy := Lib.hid hTy
  have HR := Lib.hid hrow
  have HO0 := Lib.hid hok
  have HM0 := Lib.hid hroom
  clear hNb hTy hrow hok hroom
  go_loopw [38] (fun p wr => ∃ j : Nat, j ≤ l.length ∧ p = .int .i64 j ∧ Lp w0 B b N cs T (acc ++ (l.take j).flatMap givenLine) wr) (fun p wr => match p with | .int _ j => l.length - j.toNat | _ => 0)
  case atStart => exact ⟨0, by omega, rfl, by simpa using HL.out⟩
  case round =>
    clear HL 
    obtain ⟨j, hj, rfl, hL⟩ := hrel
    have HL := Lib.hid hL
    clear hL
    by_cases hjn : j < l.length
    · obtain ⟨blk, off, rfl, hblk, hcell⟩ := HR.out (by intro h; rw [List.map_eq_nil_iff] at h; rw [h] at hjn; simp at hjn)
      have hget : l[j]? = some l[j] := List.getElem?_eq_getElem hjn
      have hX0 := HO0.out l[j] (List.getElem_mem _)
      generalize l[j] = X at hget hX0
      have HO := Lib.hid hX0
      have hx := hcell j X.cells (by rw [List.getElem?_map, hget]; rfl)
      have HM := Lib.hid (line_room _ l givenLine j X _ hget HM0.out)
      have HT := Lib.hid (flat_take l givenLine j X hget)
      have hk : ∀ i u, X.cells[i]? = some u → wr.cell? ⟨blk, off + j * 4 + i, none⟩ = some u := fun i u hu => (HL.out.fr.1.cell (p := ⟨blk, off + j * 4 + i, none⟩) hblk).trans (hx i u hu)
      have k0 : wr.cell? ⟨blk, off + j * 4, none⟩ = _ := hk 0 _ rfl
      have k1 := hk 1 _ rfl
      have k2 := hk 2 _ rfl
      have k3 := hk 3 _ rfl
      clear hk hx hcell hget hX0
      have hj1 : IntKind.i64.wrap (↑j + 1) = ↑j + 1 := IntWalk.i64_in _ (by omega)
      have hl0 := (HL.out.alloc (.cells #[.int .i64 X.host, .int .u32 X.dst, .string X.name, .slice X.sa X.bytes.length X.sc] 79)).drew
      have HLx : wr.heap.size ≠ b := fun e => by have := HL.out.bld.lt; omega
      have HLb := Lib.hid HLx
      clear HLx
      have k99 := Lib.hid hl0
      clear hl0
      go_wp2
      have hl0 := k99.out
      have HX0 := Lib.hid (Bx.new wr #[.int .i64 X.host, .int .u32 X.dst, .string X.name, .slice X.sa X.bytes.length X.sc] 79)
      go_region_held3 (fun u => u.cell? ⟨wr.heap.size, 0, none⟩ = some (.int .i64 X.host) ∧ u.cell? ⟨wr.heap.size, 1, none⟩ = some (.int .u32 X.dst) ∧ u.cell? ⟨wr.heap.size, 2, none⟩ = some (.string X.name) ∧ u.cell? ⟨wr.heap.size, 3, none⟩ = some (.slice X.sa X.bytes.length X.sc) ∧ Bx wr.heap.size #[.int .i64 X.host, .int .u32 X.dst, .string X.name, .slice X.sa X.bytes.length X.sc] 79 u)
        ((refine (fun hk : Bx wr.heap.size #[.int .i64 X.host, .int .u32 X.dst, .string X.name, .slice X.sa X.bytes.length X.sc] 79 _ => ⟨hk.cell rfl, hk.cell rfl, hk.cell rfl, hk.cell rfl, hk⟩) ?_; first | exact HX0.out | (go_split_ands; exact Bx.fr (by assumption) HLb.out (by decide) hq1) | (go_split_ands; exact Bx.grew (by assumption) hb1) | (go_split_ands; exact Bx.grew (by assumption) (Joins.below_alloc1 _ _))))
        (first | (go_at_call 21; refine (num_D _ _ HO.out.1 ?_).mono ?_; (exact Env1.env (Lp.env (by assumption))); rintro e w1 ⟨rfl, hb1⟩; have hl1 := Lp.grew (by assumption) hb1) | (go_at_call 23; refine (addr_D _ _ HO.out.2.1).mono ?_; rintro e w1 ⟨rfl, hb1⟩; have hl1 := Lp.grew (by assumption) hb1) | (go_at_call 24; refine (name_any _ _ HO.out.2.2.1).mono ?_; rintro e w1 ⟨rfl, hb1⟩; have hl1 := Lp.grew (by assumption) hb1) | (go_at_call 25; refine (bytes_any _ X.bytes _ (HO.out.2.2.2.1 _ (Lp.fr (by assumption)).1) HO.out.2.2.2.2).mono ?_; rintro e w1 ⟨rfl, hb1⟩; have hl1 := Lp.grew (by assumption) hb1) | (go_at_call 17; refine (Lp.putLit (by assumption) HNb.out (by first | exact HTy.out | decide) [⟨#[103, 105, 118, 101, 110]⟩, ⟨(Lib.itoa X.host).toArray⟩, ⟨(addrL X.dst).toArray⟩, ⟨(nameL X.name.data.toList).toArray⟩, ⟨(bytesL X.bytes).toArray⟩] [[103, 105, 118, 101, 110], Lib.itoa X.host, addrL X.dst, nameL X.name.data.toList, bytesL X.bytes] _ _ rfl (rfl) rfl (Nat.le_of_ble_eq_true rfl) (HM.out)).mono ?_; rintro e w1 ⟨rfl, hl1, hq1⟩))
      have HLc := Lib.hid hl1
      clear hl1
      go_wp2
      exact ⟨⟨j + 1, by omega, rfl, by rw [HT.out, ← List.append_assoc]; exact HLc.out⟩, by show l.length - ((j : Int) + 1).toNat < l.length - (j : Int).toNat; omega⟩
    · obtain rfl : j = l.length := by omega
      rw [List.take_length] at HL
      go_wp2
      exact HE.out _ _ _ _ _ _ _ _ _ _ _ _ _ _ _ _ _ _ _ _ _ wr HL.out

set_option maxRecDepth 1000000 in
set_option maxHeartbeats 8000000 in
theorem lease_loop {w0 : World} {B b N : Nat} {cs : Array Value} {T : TypeId} {acc : List UInt8} (l : List LeaseD) (a : Option Addr) (c : Nat) (hNb : N ≠ b) (hTy : T ≠ 5) (hcap : l.length ≤ c) (hmax : l.length ≤ 140737488355328)
    (hrow : l.map LeaseD.cells ≠ [] → ∃ b off, a = some ⟨b, off, none⟩ ∧ b < B ∧ ∀ j x, (l.map LeaseD.cells)[j]? = some x → ∀ i u, x[i]? = some u → w0.cell? ⟨b, off + j * 12 + i, none⟩ = some u)
    (hok : ∀ x ∈ l, x.ok) (hroom : acc.length + (l.flatMap leaseLine).length ≤ 140737488355328) {c0 c1 c2 c3 c5 c6 c7 c8 c9 c10 c11 c12 c13 c14 c15 c16 c17 c18 c19 c20 c21 c22 c23 c24 c25 c26 c27 c28 c29 c30 c31 c32 c33 c34 c35 c36 c37 c38 c39 c40 c41 c42 c43 c44 c45 c46 c47 c48 c49 c50 c51 c52 c53 c54 c55 c56 c57 c58 c62 c63 c64 c65 c66 c67 c68 c69 c70 c71 c72 c73 c74 c75 c76 c77 c78 c79 c80 c81 c82 c83 c84 c85 c86 c87 c88 c89 c90 c91 c92 c93 c94 c95 c96 c97 c98 c99 c100 c101 c102 c103 c104 c105 c106 c107 c108 c109 c110 c111 c112 c113 c114 c115 c116 c117 c118 c119 c120 c121 c122 c123 c124 c125 c126 c127 c128 c129 c130 c131 c132 c133 c134 c135 c136 c137 c138 c139 c140 c141 c142 c143 c144 c145 c146 c147 c148 c149 c150 c151 c152 c153 c154 c155 : Value} {Q0 : Exit → Act → World → Prop} (ws : World) (hws : Lp w0 B b N cs T acc ws)
    (hexit : ∀ (d8 d61 d62 d63 d64 d65 d66 d67 d68 d69 d70 : Value) (wx : World), Lp w0 B b N cs T (acc ++ l.flatMap leaseLine) wx → Q0 (.exit 2) ⟨#[c0, c1, c2, c3, (putV b), c5, c6, c7, d8, c9, c10, c11, c12, c13, c14, c15, c16, c17, c18, c19, c20, c21, c22, c23, c24, c25, c26, c27, c28, c29, c30, c31, c32, c33, c34, c35, c36, c37, c38, c39, c40, c41, c42, c43, c44, c45, c46, c47, c48, c49, c50, c51, c52, c53, c54, c55, c56, c57, c58, .slice a l.length c, .int .i64 l.length, d61, d62, d63, d64, d65, d66, d67, d68, d69, d70, c71, c72, c73, c74, c75, c76, c77, c78, c79, c80, c81, c82, c83, c84, c85, c86, c87, c88, c89, c90, c91, c92, c93, c94, c95, c96, c97, c98, c99, c100, c101, c102, c103, c104, c105, c106, c107, c108, c109, c110, c111, c112, c113, c114, c115, c116, c117, c118, c119, c120, c121, c122, c123, c124, c125, c126, c127, c128, c129, c130, c131, c132, c133, c134, c135, c136, c137, c138, c139, c140, c141, c142, c143, c144, c145, c146, c147, c148, c149, c150, c151, c152, c153, c154, c155], []⟩ wx) :
    Code.wp Tryz.prog (loopOf Tryz.f9 1) Q0 ⟨#[c0, c1, c2, c3, (putV b), c5, c6, c7, c8, c9, c10, c11, c12, c13, c14, c15, c16, c17, c18, c19, c20, c21, c22, c23, c24, c25, c26, c27, c28, c29, c30, c31, c32, c33, c34, c35, c36, c37, c38, c39, c40, c41, c42, c43, c44, c45, c46, c47, c48, c49, c50, c51, c52, c53, c54, c55, c56, c57, c58, .slice a l.length c, .int .i64 l.length, .int .i64 0, c62, c63, c64, c65, c66, c67, c68, c69, c70, c71, c72, c73, c74, c75, c76, c77, c78, c79, c80, c81, c82, c83, c84, c85, c86, c87, c88, c89, c90, c91, c92, c93, c94, c95, c96, c97, c98, c99, c100, c101, c102, c103, c104, c105, c106, c107, c108, c109, c110, c111, c112, c113, c114, c115, c116, c117, c118, c119, c120, c121, c122, c123, c124, c125, c126, c127, c128, c129, c130, c131, c132, c133, c134, c135, c136, c137, c138, c139, c140, c141, c142, c143, c144, c145, c146, c147, c148, c149, c150, c151, c152, c153, c154, c155], []⟩ ws := by
  have HE := Lib.hid hexit
  have HL := Lib.hid hws
  clear hws hexit
  conv => arg 2; whnf
  conv => arg 4; dsimp only
  have HNb := Lib.hid hNb
  have HTy := Lib.hid hTy
  have HR := Lib.hid hrow
  have HO0 := Lib.hid hok
  have HM0 := Lib.hid hroom
  clear hNb hTy hrow hok hroom
  go_loopw [61] (fun p wr => ∃ j : Nat, j ≤ l.length ∧ p = .int .i64 j ∧ Lp w0 B b N cs T (acc ++ (l.take j).flatMap leaseLine) wr) (fun p wr => match p with | .int _ j => l.length - j.toNat | _ => 0)
  case atStart => exact ⟨0, by omega, rfl, by simpa using HL.out⟩
  case round =>
    clear HL 
    obtain ⟨j, hj, rfl, hL⟩ := hrel
    have HL := Lib.hid hL
    clear hL
    by_cases hjn : j < l.length
    · obtain ⟨blk, off, rfl, hblk, hcell⟩ := HR.out (by intro h; rw [List.map_eq_nil_iff] at h; rw [h] at hjn; simp at hjn)
      have hget : l[j]? = some l[j] := List.getElem?_eq_getElem hjn
      have hX0 := HO0.out l[j] (List.getElem_mem _)
      generalize l[j] = X at hget hX0
      have HO := Lib.hid hX0
      have hx := hcell j X.cells (by rw [List.getElem?_map, hget]; rfl)
      have HM := Lib.hid (line_room _ l leaseLine j X _ hget HM0.out)
      have HT := Lib.hid (flat_take l leaseLine j X hget)
      have hk : ∀ i u, X.cells[i]? = some u → wr.cell? ⟨blk, off + j * 12 + i, none⟩ = some u := fun i u hu => (HL.out.fr.1.cell (p := ⟨blk, off + j * 12 + i, none⟩) hblk).trans (hx i u hu)
      have k0 : wr.cell? ⟨blk, off + j * 12, none⟩ = _ := hk 0 _ rfl
      have k1 := hk 1 _ rfl
      have k2 := hk 2 _ rfl
      have k3 := hk 3 _ rfl
      have k4 := hk 4 _ rfl
      have k5 := hk 5 _ rfl
      have k6 := hk 6 _ rfl
      have k7 := hk 7 _ rfl
      have k8 := hk 8 _ rfl
      have k9 := hk 9 _ rfl
      have k10 := hk 10 _ rfl
      have k11 := hk 11 _ rfl
      clear hk hx hcell hget hX0
      have hj1 : IntKind.i64.wrap (↑j + 1) = ↑j + 1 := IntWalk.i64_in _ (by omega)
      have HLa := Lib.hid (HL.out.alloc (.cells #[.int .i64 X.host, .int .u32 X.a, .int .i64 X.n, .int .u32 X.pub, .int .u8 X.mac.b.toNat, .int .u8 X.mac.c.toNat, .int .u8 X.mac.d.toNat, .int .u8 X.mac.e.toNat, .int .u8 X.mac.f.toNat, .int .u8 X.mac.g.toNat, .int .i64 X.till, .int .i64 X.rev] 46))
      go_wp2_with fail
      refine (lease_D X _ HO.out HLa.out.env.env).mono ?_
      rintro e w1 ⟨rfl, hb1⟩
      have HLb := Lib.hid (HLa.out.grew hb1)
      clear hb1
      go_wp2_with fail
      refine (HLb.out.putLit HNb.out (by first | exact HTy.out | decide) [⟨#[108, 101, 97, 115, 101]⟩, ⟨X.text.toArray⟩] [[108, 101, 97, 115, 101], X.text] _ _ rfl (rfl) rfl (Nat.le_of_ble_eq_true rfl) HM.out).mono ?_
      rintro e w2 ⟨rfl, hl2, _⟩
      have HLc := Lib.hid hl2
      clear hl2
      go_wp2
      exact ⟨⟨j + 1, by omega, rfl, by rw [HT.out, ← List.append_assoc]; exact HLc.out⟩, by show l.length - ((j : Int) + 1).toNat < l.length - (j : Int).toNat; omega⟩
    · obtain rfl : j = l.length := by omega
      rw [List.take_length] at HL
      go_wp2
      exact HE.out _ _ _ _ _ _ _ _ _ _ _ wr HL.out

set_option maxRecDepth 1000000 in
set_option maxHeartbeats 8000000 in
theorem pod_loop {w0 : World} {B b N : Nat} {cs : Array Value} {T : TypeId} {acc : List UInt8} (l : List PodD) (a : Option Addr) (c : Nat) (hNb : N ≠ b) (hTy : T ≠ 5) (hcap : l.length ≤ c) (hmax : l.length ≤ 140737488355328)
    (hrow : l.map PodD.cells ≠ [] → ∃ b off, a = some ⟨b, off, none⟩ ∧ b < B ∧ ∀ j x, (l.map PodD.cells)[j]? = some x → ∀ i u, x[i]? = some u → w0.cell? ⟨b, off + j * 2 + i, none⟩ = some u)
    (hok : ∀ x ∈ l, x.ok) (hroom : acc.length + (l.flatMap podLine).length ≤ 140737488355328) {c0 c1 c2 c3 c5 c6 c7 c8 c9 c10 c11 c12 c13 c14 c15 c16 c17 c18 c19 c20 c21 c22 c23 c24 c25 c26 c27 c28 c29 c30 c31 c32 c33 c34 c35 c36 c37 c38 c39 c40 c41 c42 c43 c44 c45 c46 c47 c48 c49 c50 c51 c52 c53 c54 c55 c56 c57 c58 c59 c60 c61 c62 c63 c64 c65 c66 c67 c68 c69 c70 c71 c72 c73 c74 c75 c79 c80 c81 c82 c83 c84 c85 c86 c87 c88 c89 c90 c91 c92 c93 c94 c95 c96 c97 c98 c99 c100 c101 c102 c103 c104 c105 c106 c107 c108 c109 c110 c111 c112 c113 c114 c115 c116 c117 c118 c119 c120 c121 c122 c123 c124 c125 c126 c127 c128 c129 c130 c131 c132 c133 c134 c135 c136 c137 c138 c139 c140 c141 c142 c143 c144 c145 c146 c147 c148 c149 c150 c151 c152 c153 c154 c155 : Value} {Q0 : Exit → Act → World → Prop} (ws : World) (hws : Lp w0 B b N cs T acc ws)
    (hexit : ∀ (d10 d78 d79 d80 d81 d82 d83 d84 d85 d86 d87 d88 d89 d90 d91 : Value) (wx : World), Lp w0 B b N cs T (acc ++ l.flatMap podLine) wx → Q0 (.exit 4) ⟨#[c0, c1, c2, c3, (putV b), c5, c6, c7, c8, c9, d10, c11, c12, c13, c14, c15, c16, c17, c18, c19, c20, c21, c22, c23, c24, c25, c26, c27, c28, c29, c30, c31, c32, c33, c34, c35, c36, c37, c38, c39, c40, c41, c42, c43, c44, c45, c46, c47, c48, c49, c50, c51, c52, c53, c54, c55, c56, c57, c58, c59, c60, c61, c62, c63, c64, c65, c66, c67, c68, c69, c70, c71, c72, c73, c74, c75, .slice a l.length c, .int .i64 l.length, d78, d79, d80, d81, d82, d83, d84, d85, d86, d87, d88, d89, d90, d91, c92, c93, c94, c95, c96, c97, c98, c99, c100, c101, c102, c103, c104, c105, c106, c107, c108, c109, c110, c111, c112, c113, c114, c115, c116, c117, c118, c119, c120, c121, c122, c123, c124, c125, c126, c127, c128, c129, c130, c131, c132, c133, c134, c135, c136, c137, c138, c139, c140, c141, c142, c143, c144, c145, c146, c147, c148, c149, c150, c151, c152, c153, c154, c155], []⟩ wx) :
    Code.wp Tryz.prog (loopOf Tryz.f9 2) Q0 ⟨#[c0, c1, c2, c3, (putV b), c5, c6, c7, c8, c9, c10, c11, c12, c13, c14, c15, c16, c17, c18, c19, c20, c21, c22, c23, c24, c25, c26, c27, c28, c29, c30, c31, c32, c33, c34, c35, c36, c37, c38, c39, c40, c41, c42, c43, c44, c45, c46, c47, c48, c49, c50, c51, c52, c53, c54, c55, c56, c57, c58, c59, c60, c61, c62, c63, c64, c65, c66, c67, c68, c69, c70, c71, c72, c73, c74, c75, .slice a l.length c, .int .i64 l.length, .int .i64 0, c79, c80, c81, c82, c83, c84, c85, c86, c87, c88, c89, c90, c91, c92, c93, c94, c95, c96, c97, c98, c99, c100, c101, c102, c103, c104, c105, c106, c107, c108, c109, c110, c111, c112, c113, c114, c115, c116, c117, c118, c119, c120, c121, c122, c123, c124, c125, c126, c127, c128, c129, c130, c131, c132, c133, c134, c135, c136, c137, c138, c139, c140, c141, c142, c143, c144, c145, c146, c147, c148, c149, c150, c151, c152, c153, c154, c155], []⟩ ws := by
  have HE := Lib.hid hexit
  have HL := Lib.hid hws
  clear hws hexit
  conv => arg 2; whnf
  conv => arg 4; dsimp only
  have HNb := Lib.hid hNb
  have HTy := Lib.hid hTy
  have HR := Lib.hid hrow
  have HO0 := Lib.hid hok
  have HM0 := Lib.hid hroom
  clear hNb hTy hrow hok hroom
  go_loopw [78] (fun p wr => ∃ j : Nat, j ≤ l.length ∧ p = .int .i64 j ∧ Lp w0 B b N cs T (acc ++ (l.take j).flatMap podLine) wr) (fun p wr => match p with | .int _ j => l.length - j.toNat | _ => 0)
  case atStart => exact ⟨0, by omega, rfl, by simpa using HL.out⟩
  case round =>
    clear HL 
    obtain ⟨j, hj, rfl, hL⟩ := hrel
    have HL := Lib.hid hL
    clear hL
    by_cases hjn : j < l.length
    · obtain ⟨blk, off, rfl, hblk, hcell⟩ := HR.out (by intro h; rw [List.map_eq_nil_iff] at h; rw [h] at hjn; simp at hjn)
      have hget : l[j]? = some l[j] := List.getElem?_eq_getElem hjn
      have hX0 := HO0.out l[j] (List.getElem_mem _)
      generalize l[j] = X at hget hX0
      have HO := Lib.hid hX0
      have hx := hcell j X.cells (by rw [List.getElem?_map, hget]; rfl)
      have HM := Lib.hid (line_room _ l podLine j X _ hget HM0.out)
      have HT := Lib.hid (flat_take l podLine j X hget)
      have hk : ∀ i u, X.cells[i]? = some u → wr.cell? ⟨blk, off + j * 2 + i, none⟩ = some u := fun i u hu => (HL.out.fr.1.cell (p := ⟨blk, off + j * 2 + i, none⟩) hblk).trans (hx i u hu)
      have k0 : wr.cell? ⟨blk, off + j * 2, none⟩ = _ := hk 0 _ rfl
      have k1 := hk 1 _ rfl
      clear hk hx hcell hget hX0
      have hj1 : IntKind.i64.wrap (↑j + 1) = ↑j + 1 := IntWalk.i64_in _ (by omega)
      have hl0 := (HL.out.alloc (.cells #[.string X.name, .int .u32 X.a] 86)).drew
      have HLx : wr.heap.size ≠ b := fun e => by have := HL.out.bld.lt; omega
      have HLb := Lib.hid HLx
      clear HLx
      have k99 := Lib.hid hl0
      clear hl0
      go_wp2
      have hl0 := k99.out
      have HX0 := Lib.hid (Bx.new wr #[.string X.name, .int .u32 X.a] 86)
      go_region_held3 (fun u => u.cell? ⟨wr.heap.size, 0, none⟩ = some (.string X.name) ∧ u.cell? ⟨wr.heap.size, 1, none⟩ = some (.int .u32 X.a) ∧ Bx wr.heap.size #[.string X.name, .int .u32 X.a] 86 u)
        ((refine (fun hk : Bx wr.heap.size #[.string X.name, .int .u32 X.a] 86 _ => ⟨hk.cell rfl, hk.cell rfl, hk⟩) ?_; first | exact HX0.out | (go_split_ands; exact Bx.fr (by assumption) HLb.out (by decide) hq1) | (go_split_ands; exact Bx.grew (by assumption) hb1) | (go_split_ands; exact Bx.grew (by assumption) (Joins.below_alloc1 _ _))))
        (first | (go_at_call 24; refine (name_any _ _ HO.out.2).mono ?_; rintro e w1 ⟨rfl, hb1⟩; have hl1 := Lp.grew (by assumption) hb1) | (go_at_call 23; refine (addr_D _ _ HO.out.1).mono ?_; rintro e w1 ⟨rfl, hb1⟩; have hl1 := Lp.grew (by assumption) hb1) | (go_at_call 17; refine (Lp.putLit (by assumption) HNb.out (by first | exact HTy.out | decide) [⟨#[112, 111, 100]⟩, ⟨(nameL X.name.data.toList).toArray⟩, ⟨(addrL X.a).toArray⟩] [[112, 111, 100], nameL X.name.data.toList, addrL X.a] _ _ rfl (rfl) rfl (Nat.le_of_ble_eq_true rfl) (HM.out)).mono ?_; rintro e w1 ⟨rfl, hl1, hq1⟩))
      have HLc := Lib.hid hl1
      clear hl1
      go_wp2
      exact ⟨⟨j + 1, by omega, rfl, by rw [HT.out, ← List.append_assoc]; exact HLc.out⟩, by show l.length - ((j : Int) + 1).toNat < l.length - (j : Int).toNat; omega⟩
    · obtain rfl : j = l.length := by omega
      rw [List.take_length] at HL
      go_wp2
      exact HE.out _ _ _ _ _ _ _ _ _ _ _ _ _ _ _ wr HL.out

set_option maxRecDepth 1000000 in
set_option maxHeartbeats 8000000 in
theorem sent_loop {w0 : World} {B b N : Nat} {cs : Array Value} {T : TypeId} {acc : List UInt8} (l : List SentD) (a : Option Addr) (c : Nat) (hNb : N ≠ b) (hTy : T ≠ 5) (hcap : l.length ≤ c) (hmax : l.length ≤ 140737488355328)
    (hrow : l.map SentD.cells ≠ [] → ∃ b off, a = some ⟨b, off, none⟩ ∧ b < B ∧ ∀ j x, (l.map SentD.cells)[j]? = some x → ∀ i u, x[i]? = some u → w0.cell? ⟨b, off + j * 2 + i, none⟩ = some u)
    (hok : ∀ x ∈ l, x.dst < 4294967296 ∧ (∀ u, Below B w0 u → Bs u (.slice x.sa x.bytes.length x.sc) x.bytes) ∧ x.bytes.length ≤ 140737488351232) (hroom : acc.length + (l.flatMap sentLine).length ≤ 140737488355328) {c0 c1 c2 c3 c5 c6 c7 c8 c9 c10 c11 c12 c13 c14 c15 c16 c17 c18 c19 c20 c21 c22 c23 c24 c25 c26 c27 c28 c29 c30 c31 c32 c33 c34 c35 c36 c37 c38 c39 c40 c41 c42 c43 c44 c45 c46 c47 c48 c49 c50 c51 c52 c53 c54 c55 c56 c57 c58 c59 c60 c61 c62 c63 c64 c65 c66 c67 c68 c69 c70 c71 c72 c73 c74 c75 c76 c77 c78 c79 c80 c81 c82 c83 c84 c85 c86 c87 c88 c89 c90 c91 c92 c96 c97 c98 c99 c100 c101 c102 c103 c104 c105 c106 c107 c108 c109 c110 c111 c112 c113 c114 c115 c116 c117 c118 c119 c120 c121 c122 c123 c124 c125 c126 c127 c128 c129 c130 c131 c132 c133 c134 c135 c136 c137 c138 c139 c140 c141 c142 c143 c144 c145 c146 c147 c148 c149 c150 c151 c152 c153 c154 c155 : Value} {Q0 : Exit → Act → World → Prop} (ws : World) (hws : Lp w0 B b N cs T acc ws)
    (hexit : ∀ (d12 d95 d96 d97 d98 d99 d100 d101 d102 d103 d104 d105 d106 d107 d108 : Value) (wx : World), Lp w0 B b N cs T (acc ++ l.flatMap sentLine) wx → Q0 (.exit 6) ⟨#[c0, c1, c2, c3, (putV b), c5, c6, c7, c8, c9, c10, c11, d12, c13, c14, c15, c16, c17, c18, c19, c20, c21, c22, c23, c24, c25, c26, c27, c28, c29, c30, c31, c32, c33, c34, c35, c36, c37, c38, c39, c40, c41, c42, c43, c44, c45, c46, c47, c48, c49, c50, c51, c52, c53, c54, c55, c56, c57, c58, c59, c60, c61, c62, c63, c64, c65, c66, c67, c68, c69, c70, c71, c72, c73, c74, c75, c76, c77, c78, c79, c80, c81, c82, c83, c84, c85, c86, c87, c88, c89, c90, c91, c92, .slice a l.length c, .int .i64 l.length, d95, d96, d97, d98, d99, d100, d101, d102, d103, d104, d105, d106, d107, d108, c109, c110, c111, c112, c113, c114, c115, c116, c117, c118, c119, c120, c121, c122, c123, c124, c125, c126, c127, c128, c129, c130, c131, c132, c133, c134, c135, c136, c137, c138, c139, c140, c141, c142, c143, c144, c145, c146, c147, c148, c149, c150, c151, c152, c153, c154, c155], []⟩ wx) :
    Code.wp Tryz.prog (loopOf Tryz.f9 3) Q0 ⟨#[c0, c1, c2, c3, (putV b), c5, c6, c7, c8, c9, c10, c11, c12, c13, c14, c15, c16, c17, c18, c19, c20, c21, c22, c23, c24, c25, c26, c27, c28, c29, c30, c31, c32, c33, c34, c35, c36, c37, c38, c39, c40, c41, c42, c43, c44, c45, c46, c47, c48, c49, c50, c51, c52, c53, c54, c55, c56, c57, c58, c59, c60, c61, c62, c63, c64, c65, c66, c67, c68, c69, c70, c71, c72, c73, c74, c75, c76, c77, c78, c79, c80, c81, c82, c83, c84, c85, c86, c87, c88, c89, c90, c91, c92, .slice a l.length c, .int .i64 l.length, .int .i64 0, c96, c97, c98, c99, c100, c101, c102, c103, c104, c105, c106, c107, c108, c109, c110, c111, c112, c113, c114, c115, c116, c117, c118, c119, c120, c121, c122, c123, c124, c125, c126, c127, c128, c129, c130, c131, c132, c133, c134, c135, c136, c137, c138, c139, c140, c141, c142, c143, c144, c145, c146, c147, c148, c149, c150, c151, c152, c153, c154, c155], []⟩ ws := by
  have HE := Lib.hid hexit
  have HL := Lib.hid hws
  clear hws hexit
  conv => arg 2; whnf
  conv => arg 4; dsimp only
  have HNb := Lib.hid hNb
  have HTy := Lib.hid hTy
  have HR := Lib.hid hrow
  have HO0 := Lib.hid hok
  have HM0 := Lib.hid hroom
  clear hNb hTy hrow hok hroom
  go_loopw [95] (fun p wr => ∃ j : Nat, j ≤ l.length ∧ p = .int .i64 j ∧ Lp w0 B b N cs T (acc ++ (l.take j).flatMap sentLine) wr) (fun p wr => match p with | .int _ j => l.length - j.toNat | _ => 0)
  case atStart => exact ⟨0, by omega, rfl, by simpa using HL.out⟩
  case round =>
    clear HL 
    obtain ⟨j, hj, rfl, hL⟩ := hrel
    have HL := Lib.hid hL
    clear hL
    by_cases hjn : j < l.length
    · obtain ⟨blk, off, rfl, hblk, hcell⟩ := HR.out (by intro h; rw [List.map_eq_nil_iff] at h; rw [h] at hjn; simp at hjn)
      have hget : l[j]? = some l[j] := List.getElem?_eq_getElem hjn
      have hX0 := HO0.out l[j] (List.getElem_mem _)
      generalize l[j] = X at hget hX0
      have HO := Lib.hid hX0
      have hx := hcell j X.cells (by rw [List.getElem?_map, hget]; rfl)
      have HM := Lib.hid (line_room _ l sentLine j X _ hget HM0.out)
      have HT := Lib.hid (flat_take l sentLine j X hget)
      have hk : ∀ i u, X.cells[i]? = some u → wr.cell? ⟨blk, off + j * 2 + i, none⟩ = some u := fun i u hu => (HL.out.fr.1.cell (p := ⟨blk, off + j * 2 + i, none⟩) hblk).trans (hx i u hu)
      have k0 : wr.cell? ⟨blk, off + j * 2, none⟩ = _ := hk 0 _ rfl
      have k1 := hk 1 _ rfl
      clear hk hx hcell hget hX0
      have hj1 : IntKind.i64.wrap (↑j + 1) = ↑j + 1 := IntWalk.i64_in _ (by omega)
      have hl0 := (HL.out.alloc (.cells #[.int .u32 X.dst, .slice X.sa X.bytes.length X.sc] 88)).drew
      have HLx : wr.heap.size ≠ b := fun e => by have := HL.out.bld.lt; omega
      have HLb := Lib.hid HLx
      clear HLx
      have k99 := Lib.hid hl0
      clear hl0
      go_wp2
      have hl0 := k99.out
      have HX0 := Lib.hid (Bx.new wr #[.int .u32 X.dst, .slice X.sa X.bytes.length X.sc] 88)
      go_region_held3 (fun u => u.cell? ⟨wr.heap.size, 0, none⟩ = some (.int .u32 X.dst) ∧ u.cell? ⟨wr.heap.size, 1, none⟩ = some (.slice X.sa X.bytes.length X.sc) ∧ Bx wr.heap.size #[.int .u32 X.dst, .slice X.sa X.bytes.length X.sc] 88 u)
        ((refine (fun hk : Bx wr.heap.size #[.int .u32 X.dst, .slice X.sa X.bytes.length X.sc] 88 _ => ⟨hk.cell rfl, hk.cell rfl, hk⟩) ?_; first | exact HX0.out | (go_split_ands; exact Bx.fr (by assumption) HLb.out (by decide) hq1) | (go_split_ands; exact Bx.grew (by assumption) hb1) | (go_split_ands; exact Bx.grew (by assumption) (Joins.below_alloc1 _ _))))
        (first | (go_at_call 23; refine (addr_D _ _ HO.out.1).mono ?_; rintro e w1 ⟨rfl, hb1⟩; have hl1 := Lp.grew (by assumption) hb1) | (go_at_call 25; refine (bytes_any _ X.bytes _ (HO.out.2.1 _ (Lp.fr (by assumption)).1) HO.out.2.2).mono ?_; rintro e w1 ⟨rfl, hb1⟩; have hl1 := Lp.grew (by assumption) hb1) | (go_at_call 17; refine (Lp.putLit (by assumption) HNb.out (by first | exact HTy.out | decide) [⟨#[115, 101, 110, 116]⟩, ⟨(addrL X.dst).toArray⟩, ⟨(bytesL X.bytes).toArray⟩] [[115, 101, 110, 116], addrL X.dst, bytesL X.bytes] _ _ rfl (rfl) rfl (Nat.le_of_ble_eq_true rfl) (HM.out)).mono ?_; rintro e w1 ⟨rfl, hl1, hq1⟩))
      have HLc := Lib.hid hl1
      clear hl1
      go_wp2
      exact ⟨⟨j + 1, by omega, rfl, by rw [HT.out, ← List.append_assoc]; exact HLc.out⟩, by show l.length - ((j : Int) + 1).toNat < l.length - (j : Int).toNat; omega⟩
    · obtain rfl : j = l.length := by omega
      rw [List.take_length] at HL
      go_wp2
      exact HE.out _ _ _ _ _ _ _ _ _ _ _ _ _ _ _ wr HL.out

set_option maxRecDepth 1000000 in
set_option maxHeartbeats 8000000 in
theorem counts_loop {w0 : World} {B b N : Nat} {cs : Array Value} {T : TypeId} {acc : List UInt8} (l : List Int) (a : Option Addr) (c : Nat) (hNb : N ≠ b) (hTy : T ≠ 5) (hcap : l.length ≤ c) (hmax : l.length ≤ 1000000000000)
    (hrow : (l.map fun x => [Value.int .i64 x]) ≠ [] → ∃ b off, a = some ⟨b, off, none⟩ ∧ b < B ∧ ∀ j x, (l.map fun x => [Value.int .i64 x])[j]? = some x → ∀ i u, x[i]? = some u → w0.cell? ⟨b, off + j * 1 + i, none⟩ = some u)
    (hok : ∀ x ∈ l, I64 x) {c0 c1 c2 c3 c5 c6 c7 c8 c9 c10 c11 c12 c14 c15 c16 c17 c18 c19 c20 c21 c22 c23 c24 c25 c26 c27 c28 c29 c30 c31 c32 c33 c34 c35 c36 c37 c38 c39 c40 c41 c42 c43 c44 c45 c46 c47 c48 c49 c50 c51 c52 c53 c54 c55 c56 c57 c58 c59 c60 c61 c62 c63 c64 c65 c66 c67 c68 c69 c70 c71 c72 c73 c74 c75 c76 c77 c78 c79 c80 c81 c82 c83 c84 c85 c86 c87 c88 c89 c90 c91 c92 c93 c94 c95 c96 c97 c98 c99 c100 c101 c102 c103 c104 c105 c106 c107 c108 c109 c110 c111 c112 c113 c114 c115 c116 c117 c118 c122 c123 c124 c125 c126 c127 c128 c129 c130 c131 c132 c133 c134 c135 c136 c137 c138 c139 c140 c141 c142 c143 c144 c145 c146 c147 c148 c149 c150 c151 c152 c153 c154 c155 : Value} {Q0 : Exit → Act → World → Prop} (ws : World) (hws : Lp w0 B b N cs T acc ws)
    (hexit : ∀ (d15 d121 d122 d123 d124 d125 d126 d127 d128 d129 d130 : Value) (bk cp : Nat) (wx : World), Lp w0 B b N cs T acc wx → (∀ (j : Nat) x, (wordsL l)[j]? = some x → wx.cell? ⟨bk, 0 + j, none⟩ = some (.string x)) → bk < wx.heap.size → l.length + 1 ≤ cp → Q0 (.exit 8) ⟨#[c0, c1, c2, c3, (putV b), c5, c6, c7, c8, c9, c10, c11, c12, .slice (some ⟨bk, 0, none⟩) (l.length + 1) cp, c14, d15, c16, c17, c18, c19, c20, c21, c22, c23, c24, c25, c26, c27, c28, c29, c30, c31, c32, c33, c34, c35, c36, c37, c38, c39, c40, c41, c42, c43, c44, c45, c46, c47, c48, c49, c50, c51, c52, c53, c54, c55, c56, c57, c58, c59, c60, c61, c62, c63, c64, c65, c66, c67, c68, c69, c70, c71, c72, c73, c74, c75, c76, c77, c78, c79, c80, c81, c82, c83, c84, c85, c86, c87, c88, c89, c90, c91, c92, c93, c94, c95, c96, c97, c98, c99, c100, c101, c102, c103, c104, c105, c106, c107, c108, c109, c110, c111, c112, c113, c114, c115, c116, c117, c118, .slice a l.length c, .int .i64 l.length, d121, d122, d123, d124, d125, d126, d127, d128, d129, d130, c131, c132, c133, c134, c135, c136, c137, c138, c139, c140, c141, c142, c143, c144, c145, c146, c147, c148, c149, c150, c151, c152, c153, c154, c155], []⟩ wx) :
    Code.wp Tryz.prog (loopOf Tryz.f9 4) Q0 ⟨#[c0, c1, c2, c3, (putV b), c5, c6, c7, c8, c9, c10, c11, c12, .slice (some ⟨ws.heap.size, 0, none⟩) 1 1, c14, c15, c16, c17, c18, c19, c20, c21, c22, c23, c24, c25, c26, c27, c28, c29, c30, c31, c32, c33, c34, c35, c36, c37, c38, c39, c40, c41, c42, c43, c44, c45, c46, c47, c48, c49, c50, c51, c52, c53, c54, c55, c56, c57, c58, c59, c60, c61, c62, c63, c64, c65, c66, c67, c68, c69, c70, c71, c72, c73, c74, c75, c76, c77, c78, c79, c80, c81, c82, c83, c84, c85, c86, c87, c88, c89, c90, c91, c92, c93, c94, c95, c96, c97, c98, c99, c100, c101, c102, c103, c104, c105, c106, c107, c108, c109, c110, c111, c112, c113, c114, c115, c116, c117, c118, .slice a l.length c, .int .i64 l.length, .int .i64 0, c122, c123, c124, c125, c126, c127, c128, c129, c130, c131, c132, c133, c134, c135, c136, c137, c138, c139, c140, c141, c142, c143, c144, c145, c146, c147, c148, c149, c150, c151, c152, c153, c154, c155], []⟩ (ws.alloc (.cells #[.string ⟨#[99, 111, 117, 110, 116, 115]⟩] 9)) := by
  have HE := Lib.hid hexit
  have HL := Lib.hid hws
  clear hws hexit
  conv => arg 2; whnf
  conv => arg 4; dsimp only
  have HNb := Lib.hid hNb
  have HTy := Lib.hid hTy
  have RC := Lib.hid hrow
  have HO0 := Lib.hid hok
  clear hNb hTy hrow hok
  obtain ⟨i0, hi, hz0, hz1, hz2⟩ := info_parts strInfo
  have hown0 : (ws.alloc (.cells #[.string ⟨#[99, 111, 117, 110, 116, 115]⟩] 9)).ownsRow ws.heap.size 9 1 (.slice (some ⟨ws.heap.size, 0, none⟩) 1 1) 1 [.string ⟨#[99, 111, 117, 110, 116, 115]⟩] := World.ownsRow_lit ws _ 1 (Nat.le_refl _) (by decide) rfl
  have HOW := Lib.hid hown0
  clear hown0
  go_loopw [13, 121] (fun p i wr => ∃ k : Nat, k ≤ l.length ∧ i = .int .i64 k ∧ wr.ownsRow ws.heap.size 9 1 p (k + 1) ((wordsL (l.take k)).map Value.string) ∧ Below ws.heap.size ws wr) (fun _ i _ => l.length - (intOf i).toNat)
  case atStart => exact ⟨0, by omega, rfl, HOW.out, (Below.refl _ _).alloc (Nat.le_refl _) _⟩
  case round =>
    obtain ⟨k, hk, rfl, hown, hbr⟩ := hrel
    obtain ⟨bk, cp, rfl, hcp⟩ := row_form hown
    have HLr := Lib.hid (HL.out.grew hbr)
    by_cases hkn : k < l.length
    · obtain ⟨blk, off, rfl, hblk, hcell⟩ := RC.out (by intro h; rw [List.map_eq_nil_iff] at h; rw [h] at hkn; simp at hkn)
      have hget : l[k]? = some l[k] := List.getElem?_eq_getElem hkn
      have hx := hcell k [.int .i64 l[k]] (by rw [List.getElem?_map, hget]; rfl) 0 _ rfl
      have htk : wordsL (l.take (k + 1)) = wordsL (l.take k) ++ [⟨(Lib.itoa l[k]).toArray⟩] := by
        unfold wordsL
        rw [List.take_succ_eq_append_getElem hkn, List.map_append]
        rfl
      have hX0 := HO0.out l[k] (List.getElem_mem _)
      generalize l[k] = X at hx htk hX0 hget
      have HX := Lib.hid hX0
      have HT := Lib.hid htk
      rw [Nat.mul_one] at hx
      have k0 : wr.cell? ⟨blk, off + k, none⟩ = some (.int .i64 X) := (HLr.out.fr.1.cell (p := ⟨blk, off + k, none⟩) hblk).trans hx
      clear hx htk hX0 hget hcell
      have HOw := Lib.hid hown
      have HBr := Lib.hid hbr
      clear hown hbr
      have hj1 : IntKind.i64.wrap (↑k + 1) = ↑k + 1 := IntWalk.i64_in _ (by omega)
      go_wp2_with fail
      refine (num_D X wr HX.out HLr.out.env.env).mono ?_
      rintro e w4 ⟨rfl, hb4⟩
      have HB4 := Lib.hid hb4
      have HO4 := Lib.hid (row_below HOw.out hb4)
      clear hb4
      go_wp2_with (at_builtin; refine wpList_append_own _ rfl _ _ 68 rfl ws.heap.size 9 i0 (.string ⟨#[]⟩) 1 16 Tryz.underlying68 hi hz0 hz1 hz2 rfl (by decide) _ _ _ rfl (HO4.out.alloc _) ⟨w4.heap.size, 0, none⟩ 1 1 [.string ⟨(Lib.itoa X).toArray⟩] rfl rfl ?c1 ?c2 ?c3 ?c4 ?c5 ?_)
      case c1 =>
        intro j u hj
        match j, hj with
        | 0, hj => simp at hj; subst hj; simp [Addr.add]
      case c2 => intro u hu; simp at hu; subst hu; rfl
      case c3 => unfold maxLen; omega
      case c4 => omega
      case c5 => have := HBr.out.size; have := HB4.out.size; simp; omega
      intro v' w5 hown' hgrow _
      have hb5 : Below ws.heap.size ws w5 := ((HBr.out.trans (HB4.out.mono HBr.out.size)).alloc (Nat.le_trans HBr.out.size HB4.out.size) _).grown hgrow (by have := HBr.out.size; have := HB4.out.size; simp; omega) (fun q hq => (HO4.out.lt q hq).1)
      have HO5 := Lib.hid hown'
      have HB5 := Lib.hid hb5
      clear hown' hgrow hb5
      go_wp2
      refine ⟨⟨k + 1, by omega, rfl, ?_, HB5.out⟩, by show l.length - ((k : Int) + 1).toNat < l.length - (k : Int).toNat; omega⟩
      rw [HT.out, List.map_append]
      exact HO5.out
    · obtain rfl : k = l.length := by omega
      rw [List.take_length] at hown
      have hcs : ∀ (j : Nat) x, (wordsL l)[j]? = some x → wr.cell? ⟨bk, 0 + j, none⟩ = some (.string x) := fun j x hx => by
        have := hown.cells (g := bk) rfl j (.string x) (by rw [List.getElem?_map, hx]; rfl)
        have hadd : (⟨bk, 0, none⟩ : Addr).add j = ⟨bk, j, none⟩ := by unfold Addr.add; split <;> simp_all
        rw [hadd] at this
        rw [Nat.zero_add]
        exact this
      have hbk := (hown.lt bk rfl).2
      have HC := Lib.hid hcs
      clear hcs hown
      go_wp2
      exact HE.out _ _ _ _ _ _ _ _ _ _ _ bk cp wr HLr.out HC.out hbk hcp

set_option maxRecDepth 1000000 in
set_option maxHeartbeats 8000000 in
theorem head_region {w0 : World} {B b N : Nat} {cs : Array Value} {T : TypeId} {acc : List UInt8} (hNb : N ≠ b) (hTy : T ≠ 5) (e n v y q : Int) (he : I64 e) (ge : cs[0]? = some (.int .i64 e)) (hn : I64 n) (gn : cs[1]? = some (.int .i64 n)) (hv : I64 v) (gv : cs[2]? = some (.int .i64 v)) (hy : I64 y) (gy : cs[3]? = some (.int .i64 y)) (hq : I64 q) (gq : cs[4]? = some (.int .i64 q)) (hroom : acc.length + (lineL [[101, 114, 114], Lib.itoa e, [110], Lib.itoa n, [118, 101, 114, 100, 105, 99, 116], Lib.itoa v, [119, 104, 121], Lib.itoa y, [114, 101, 113], Lib.itoa q]).length ≤ 140737488355328) {c0 c2 c3 c5 c6 c7 c8 c9 c10 c11 c12 c13 c14 c15 c16 c17 c18 c19 c20 c21 c22 c23 c24 c25 c26 c27 c28 c29 c30 c31 c32 c33 c34 c35 c36 c37 c38 c39 c40 c41 c42 c43 c44 c45 c46 c47 c48 c49 c50 c51 c52 c53 c54 c55 c56 c57 c58 c59 c60 c61 c62 c63 c64 c65 c66 c67 c68 c69 c70 c71 c72 c73 c74 c75 c76 c77 c78 c79 c80 c81 c82 c83 c84 c85 c86 c87 c88 c89 c90 c91 c92 c93 c94 c95 c96 c97 c98 c99 c100 c101 c102 c103 c104 c105 c106 c107 c108 c109 c110 c111 c112 c113 c114 c115 c116 c117 c118 c119 c120 c121 c122 c123 c124 c125 c126 c127 c128 c129 c130 c131 c132 c133 c134 c135 c136 c137 c138 c139 c140 c141 c142 c143 c144 c145 c146 c147 c148 c149 c150 c151 c152 c153 c154 c155 : Value} {Q0 : Exit → Act → World → Prop} (ws : World) (hws : Lp w0 B b N cs T acc ws)
    (hexit : ∀ (d17 d18 d19 d20 d21 d22 d23 d24 d25 d26 d27 d28 d29 d30 d31 d32 d33 d34 : Value) (wx : World), Lp w0 B b N cs T (acc ++ lineL [[101, 114, 114], Lib.itoa e, [110], Lib.itoa n, [118, 101, 114, 100, 105, 99, 116], Lib.itoa v, [119, 104, 121], Lib.itoa y, [114, 101, 113], Lib.itoa q]) wx → Q0 .normal ⟨#[c0, .pointer (some ⟨N, 0, none⟩), c2, c3, (putV b), c5, c6, c7, c8, c9, c10, c11, c12, c13, c14, c15, c16, d17, d18, d19, d20, d21, d22, d23, d24, d25, d26, d27, d28, d29, d30, d31, d32, d33, d34, c35, c36, c37, c38, c39, c40, c41, c42, c43, c44, c45, c46, c47, c48, c49, c50, c51, c52, c53, c54, c55, c56, c57, c58, c59, c60, c61, c62, c63, c64, c65, c66, c67, c68, c69, c70, c71, c72, c73, c74, c75, c76, c77, c78, c79, c80, c81, c82, c83, c84, c85, c86, c87, c88, c89, c90, c91, c92, c93, c94, c95, c96, c97, c98, c99, c100, c101, c102, c103, c104, c105, c106, c107, c108, c109, c110, c111, c112, c113, c114, c115, c116, c117, c118, c119, c120, c121, c122, c123, c124, c125, c126, c127, c128, c129, c130, c131, c132, c133, c134, c135, c136, c137, c138, c139, c140, c141, c142, c143, c144, c145, c146, c147, c148, c149, c150, c151, c152, c153, c154, c155], []⟩ wx) :
    Code.wp Tryz.prog (regionOf Tryz.f9 3) Q0 ⟨#[c0, .pointer (some ⟨N, 0, none⟩), c2, c3, (putV b), c5, c6, c7, c8, c9, c10, c11, c12, c13, c14, c15, c16, c17, c18, c19, c20, c21, c22, c23, c24, c25, c26, c27, c28, c29, c30, c31, c32, c33, c34, c35, c36, c37, c38, c39, c40, c41, c42, c43, c44, c45, c46, c47, c48, c49, c50, c51, c52, c53, c54, c55, c56, c57, c58, c59, c60, c61, c62, c63, c64, c65, c66, c67, c68, c69, c70, c71, c72, c73, c74, c75, c76, c77, c78, c79, c80, c81, c82, c83, c84, c85, c86, c87, c88, c89, c90, c91, c92, c93, c94, c95, c96, c97, c98, c99, c100, c101, c102, c103, c104, c105, c106, c107, c108, c109, c110, c111, c112, c113, c114, c115, c116, c117, c118, c119, c120, c121, c122, c123, c124, c125, c126, c127, c128, c129, c130, c131, c132, c133, c134, c135, c136, c137, c138, c139, c140, c141, c142, c143, c144, c145, c146, c147, c148, c149, c150, c151, c152, c153, c154, c155], []⟩ ws := by
  have HE := Lib.hid hexit
  have HL := Lib.hid hws
  clear hws hexit
  conv => arg 2; whnf
  conv => arg 4; dsimp only
  have HNb := Lib.hid hNb
  have HLb := HNb
  have HTy := Lib.hid hTy
  have HM := Lib.hid hroom
  have Ge := Lib.hid ge
  have Ke := Lib.hid he
  have Gn := Lib.hid gn
  have Kn := Lib.hid hn
  have Gv := Lib.hid gv
  have Kv := Lib.hid hv
  have Gy := Lib.hid gy
  have Ky := Lib.hid hy
  have Gq := Lib.hid gq
  have Kq := Lib.hid hq
  clear hNb hTy hroom ge he gn hn gv hv gy hy gq hq
  have hl0 := HL.out.drew
  have HX0 := Lib.hid (HL.out.drew.box : Bx N cs T _)
  go_region_held3 (fun u => u.cell? ⟨N, 0, none⟩ = some (.int .i64 e) ∧ u.cell? ⟨N, 1, none⟩ = some (.int .i64 n) ∧ u.cell? ⟨N, 2, none⟩ = some (.int .i64 v) ∧ u.cell? ⟨N, 3, none⟩ = some (.int .i64 y) ∧ u.cell? ⟨N, 4, none⟩ = some (.int .i64 q) ∧ Bx N cs T u)
    ((refine (fun hk : Bx N cs T _ => ⟨hk.cell Ge.out, hk.cell Gn.out, hk.cell Gv.out, hk.cell Gy.out, hk.cell Gq.out, hk⟩) ?_; first | exact HX0.out | (go_split_ands; exact Bx.fr (by assumption) HLb.out (by first | exact HTy.out | decide) hq1) | (go_split_ands; exact Bx.grew (by assumption) hb1) | (go_split_ands; exact Bx.grew (by assumption) (Joins.below_alloc1 _ _))))
    (first | (go_at_call 21; refine (num_D e _ Ke.out ?_).mono ?_; (exact Env1.env (Lp.env (by assumption))); rintro e w1 ⟨rfl, hb1⟩; have hl1 := Lp.grew (by assumption) hb1) | (go_at_call 21; refine (num_D v _ Kv.out ?_).mono ?_; (exact Env1.env (Lp.env (by assumption))); rintro e w1 ⟨rfl, hb1⟩; have hl1 := Lp.grew (by assumption) hb1) | (go_at_call 21; refine (num_D y _ Ky.out ?_).mono ?_; (exact Env1.env (Lp.env (by assumption))); rintro e w1 ⟨rfl, hb1⟩; have hl1 := Lp.grew (by assumption) hb1) | (go_at_call 21; refine (num_D q _ Kq.out ?_).mono ?_; (exact Env1.env (Lp.env (by assumption))); rintro e w1 ⟨rfl, hb1⟩; have hl1 := Lp.grew (by assumption) hb1) | (go_at_call 22; refine (int_D n _ Kn.out ?_).mono ?_; (exact Env1.env (Lp.env (by assumption))); rintro e w1 ⟨rfl, hb1⟩; have hl1 := Lp.grew (by assumption) hb1) | (go_at_call 17; refine (Lp.putLit (by assumption) HNb.out (by first | exact HTy.out | decide) [⟨#[101, 114, 114]⟩, ⟨(Lib.itoa e).toArray⟩, ⟨#[110]⟩, ⟨(Lib.itoa n).toArray⟩, ⟨#[118, 101, 114, 100, 105, 99, 116]⟩, ⟨(Lib.itoa v).toArray⟩, ⟨#[119, 104, 121]⟩, ⟨(Lib.itoa y).toArray⟩, ⟨#[114, 101, 113]⟩, ⟨(Lib.itoa q).toArray⟩] [[101, 114, 114], Lib.itoa e, [110], Lib.itoa n, [118, 101, 114, 100, 105, 99, 116], Lib.itoa v, [119, 104, 121], Lib.itoa y, [114, 101, 113], Lib.itoa q] _ _ rfl (rfl) rfl (Nat.le_of_ble_eq_true rfl) (HM.out)).mono ?_; rintro e w1 ⟨rfl, hl1, hq1⟩))
  exact HE.out _ _ _ _ _ _ _ _ _ _ _ _ _ _ _ _ _ _ _ hl1

set_option maxRecDepth 1000000 in
set_option maxHeartbeats 8000000 in
theorem disk_region {w0 : World} {B b N : Nat} {cs : Array Value} {T : TypeId} {acc : List UInt8} (hNb : N ≠ b) (hTy : T ≠ 5) (x y : List UInt8) (p q : Option Addr) (n m : Nat) (gp : cs[34]? = some (.slice p x.length n)) (gq : cs[35]? = some (.slice q y.length m)) (hp : ∀ u, Below B w0 u → Bs u (.slice p x.length n) x) (hq : ∀ u, Below B w0 u → Bs u (.slice q y.length m) y) (hx : x.length ≤ 140737488351232) (hy : y.length ≤ 140737488351232) (hroom : acc.length + (lineL [[100, 105, 115, 107], bytesL x, bytesL y]).length ≤ 140737488355328) {c0 c2 c3 c5 c6 c7 c8 c9 c10 c11 c12 c13 c14 c15 c16 c17 c18 c19 c20 c21 c22 c23 c24 c25 c26 c27 c28 c29 c30 c31 c32 c33 c34 c35 c36 c37 c38 c39 c40 c41 c42 c43 c44 c45 c46 c47 c48 c49 c50 c51 c52 c53 c54 c55 c56 c57 c58 c59 c60 c61 c62 c63 c64 c65 c66 c67 c68 c69 c70 c71 c72 c73 c74 c75 c76 c77 c78 c79 c80 c81 c82 c83 c84 c85 c86 c87 c88 c89 c90 c91 c92 c93 c94 c95 c96 c97 c98 c99 c100 c101 c102 c103 c104 c105 c106 c107 c108 c109 c110 c111 c112 c113 c114 c115 c116 c117 c118 c119 c120 c121 c122 c123 c124 c125 c126 c127 c128 c129 c130 c131 c132 c133 c134 c135 c136 c137 c138 c139 c140 c141 c142 c143 c144 c145 c146 c147 c148 c149 c150 c151 c152 c153 c154 c155 : Value} {Q0 : Exit → Act → World → Prop} (ws : World) (hws : Lp w0 B b N cs T acc ws)
    (hexit : ∀ (d144 d145 d146 d147 d148 d149 d150 d151 d152 d153 d154 : Value) (wx : World), Lp w0 B b N cs T (acc ++ lineL [[100, 105, 115, 107], bytesL x, bytesL y]) wx → Q0 .normal ⟨#[c0, .pointer (some ⟨N, 0, none⟩), c2, c3, (putV b), c5, c6, c7, c8, c9, c10, c11, c12, c13, c14, c15, c16, c17, c18, c19, c20, c21, c22, c23, c24, c25, c26, c27, c28, c29, c30, c31, c32, c33, c34, c35, c36, c37, c38, c39, c40, c41, c42, c43, c44, c45, c46, c47, c48, c49, c50, c51, c52, c53, c54, c55, c56, c57, c58, c59, c60, c61, c62, c63, c64, c65, c66, c67, c68, c69, c70, c71, c72, c73, c74, c75, c76, c77, c78, c79, c80, c81, c82, c83, c84, c85, c86, c87, c88, c89, c90, c91, c92, c93, c94, c95, c96, c97, c98, c99, c100, c101, c102, c103, c104, c105, c106, c107, c108, c109, c110, c111, c112, c113, c114, c115, c116, c117, c118, c119, c120, c121, c122, c123, c124, c125, c126, c127, c128, c129, c130, c131, c132, c133, c134, c135, c136, c137, c138, c139, c140, c141, c142, c143, d144, d145, d146, d147, d148, d149, d150, d151, d152, d153, d154, c155], []⟩ wx) :
    Code.wp Tryz.prog (regionOf Tryz.f9 35) Q0 ⟨#[c0, .pointer (some ⟨N, 0, none⟩), c2, c3, (putV b), c5, c6, c7, c8, c9, c10, c11, c12, c13, c14, c15, c16, c17, c18, c19, c20, c21, c22, c23, c24, c25, c26, c27, c28, c29, c30, c31, c32, c33, c34, c35, c36, c37, c38, c39, c40, c41, c42, c43, c44, c45, c46, c47, c48, c49, c50, c51, c52, c53, c54, c55, c56, c57, c58, c59, c60, c61, c62, c63, c64, c65, c66, c67, c68, c69, c70, c71, c72, c73, c74, c75, c76, c77, c78, c79, c80, c81, c82, c83, c84, c85, c86, c87, c88, c89, c90, c91, c92, c93, c94, c95, c96, c97, c98, c99, c100, c101, c102, c103, c104, c105, c106, c107, c108, c109, c110, c111, c112, c113, c114, c115, c116, c117, c118, c119, c120, c121, c122, c123, c124, c125, c126, c127, c128, c129, c130, c131, c132, c133, c134, c135, c136, c137, c138, c139, c140, c141, c142, c143, c144, c145, c146, c147, c148, c149, c150, c151, c152, c153, c154, c155], []⟩ ws := by
  have HE := Lib.hid hexit
  have HL := Lib.hid hws
  clear hws hexit
  conv => arg 2; whnf
  conv => arg 4; dsimp only
  have HNb := Lib.hid hNb
  have HLb := HNb
  have HTy := Lib.hid hTy
  have HM := Lib.hid hroom
  have GP := Lib.hid gp
  have GQ := Lib.hid gq
  have KP := Lib.hid hp
  have KQ := Lib.hid hq
  have HX := Lib.hid hx
  have HY := Lib.hid hy
  clear hNb hTy hroom gp gq hp hq hx hy
  have hl0 := HL.out.drew
  have HX0 := Lib.hid (HL.out.drew.box : Bx N cs T _)
  go_region_held3 (fun u => u.cell? ⟨N, 34, none⟩ = some (.slice p x.length n) ∧ u.cell? ⟨N, 35, none⟩ = some (.slice q y.length m) ∧ Bx N cs T u)
    ((refine (fun hk : Bx N cs T _ => ⟨hk.cell GP.out, hk.cell GQ.out, hk⟩) ?_; first | exact HX0.out | (go_split_ands; exact Bx.fr (by assumption) HLb.out (by first | exact HTy.out | decide) hq1) | (go_split_ands; exact Bx.grew (by assumption) hb1) | (go_split_ands; exact Bx.grew (by assumption) (Joins.below_alloc1 _ _))))
    (first | (go_at_call 25; refine (bytes_any (.slice p x.length n) x _ (KP.out _ (Lp.fr (by assumption)).1) HX.out).mono ?_; rintro e w1 ⟨rfl, hb1⟩; have hl1 := Lp.grew (by assumption) hb1) | (go_at_call 25; refine (bytes_any (.slice q y.length m) y _ (KQ.out _ (Lp.fr (by assumption)).1) HY.out).mono ?_; rintro e w1 ⟨rfl, hb1⟩; have hl1 := Lp.grew (by assumption) hb1) | (go_at_call 17; refine (Lp.putLit (by assumption) HNb.out (by first | exact HTy.out | decide) [⟨#[100, 105, 115, 107]⟩, ⟨(bytesL x).toArray⟩, ⟨(bytesL y).toArray⟩] [[100, 105, 115, 107], bytesL x, bytesL y] _ _ rfl (rfl) rfl (Nat.le_of_ble_eq_true rfl) (HM.out)).mono ?_; rintro e w1 ⟨rfl, hl1, hq1⟩))
  exact HE.out _ _ _ _ _ _ _ _ _ _ _ _ hl1
end Go.Proofs.YtmnkdnpjcfmjgaaGreatDoor
