/- Package shell: the words of a reply. -/
import Derived.Test.YtmnkdnpjcfmjgaaGreatDoorShelf
import Derived.Test.YtmnkdnpjcfmjgaaGreatDoorAddr
import Derived.Test.YtmnkdnpjcfmjgaaGreatDoorHex
import Derived.Test.YtmnkdnpjcfmjgaaGreatDoorMac
import Derived.Deep.RegionHeld3
import Derived.Lib.SmallJoins
import Derived.Sort.Grow
namespace Go.Proofs.YtmnkdnpjcfmjgaaGreatDoor
open Go.RowKit Go.Sort

/-- what stands in the library's own variables -/
structure Env (w : World) : Prop where
  tab : Lib.TabIs Tryz.prog w "internal/strconv.uint64pow10" .u64 Lib.pow10Tab
  syn : ∃ tp p, w.var? Tryz.prog "strconv.ErrSyntax" = some #[.iface tp p]
  rng : ∃ tp p, w.var? Tryz.prog "strconv.ErrRange" = some #[.iface tp p]
  max : ∃ m, w.cell? ⟨1, 0, none⟩ = some (.int .i64 m)
theorem gTab : Tryz.prog.globalNamed "internal/strconv.uint64pow10" = some 0 := by kernel_rfl
theorem gSyn : Tryz.prog.globalNamed "strconv.ErrSyntax" = some 6 := by kernel_rfl
theorem gRng : Tryz.prog.globalNamed "strconv.ErrRange" = some 7 := by kernel_rfl
theorem Env.below {w w' : World} {B : Nat} (h : Env w) (hb : Below B w w') (hB : w.heap.size ≤ B) : Env w' := by
  obtain ⟨a, ⟨tp, p, b⟩, ⟨tq, q, c⟩, ⟨m, d⟩⟩ := h
  refine ⟨Joins.tab_stays gTab a hb hB, ⟨tp, p, Joins.var_stays gSyn b hb hB⟩, ⟨tq, q, Joins.var_stays gRng c hb hB⟩, ⟨m, ?_⟩⟩
  have := World.block_lt_of_cell? w _ d
  exact (hb.cell (p := ⟨1, 0, none⟩) (by simp at this ⊢; omega)).trans d
theorem grow_below (w : World) (k : Nat) (os : Array Obj) : Below w.heap.size w (grow (w.drewN k) os) := by
  refine ⟨rfl, rfl, rfl, by simp [grow], fun i hi => ?_⟩
  simp [grow, Array.getElem?_append, hi]

theorem itoa_any (x : Int) (w : World) (h0 : -9223372036854775808 ≤ x) (h1 : x ≤ 9223372036854775807) (hE : Env w) :
    Calls Tryz.prog 38 #[.int .i64 x] w fun e w' => e = .returned (.string ⟨(Lib.itoa x).toArray⟩) ∧ Below w.heap.size w w' :=
  (Tryz.strconv_Itoa x h0 h1 w hE.tab).mono fun e w' ⟨he, k, os, hw⟩ => ⟨he, hw ▸ grow_below w k os⟩
theorem formatInt_any (x : Int) (w : World) (h0 : -9223372036854775808 ≤ x) (h1 : x ≤ 9223372036854775807) (hE : Env w) :
    Calls Tryz.prog 22 #[.int .i64 x, .int .i64 10] w fun e w' => e = .returned (.string ⟨(Lib.itoa x).toArray⟩) ∧ Below w.heap.size w w' :=
  (Tryz.strconv_FormatInt_10 x h0 h1 w hE.tab).mono fun e w' ⟨he, k, os, hw⟩ => ⟨he, hw ▸ grow_below w k os⟩
theorem itoa_len (x : Int) (h0 : -9223372036854775808 ≤ x) (h1 : x ≤ 9223372036854775807) : (Lib.itoa x).length ≤ 21 := by
  unfold Lib.itoa
  split
  · simp only [List.length_cons]
    have := dec_len x.natAbs (by omega)
    omega
  · have := dec_len x.toNat (by omega)
    omega

set_option maxRecDepth 100000 in
set_option maxHeartbeats 400000 in
theorem num_any (x : Int) (w : World) (h0 : -9223372036854775808 ≤ x) (h1 : x ≤ 9223372036854775807) (hE : Env w) :
    Calls Tryz.prog 21 #[.int .i64 x] w fun e w' => e = .returned (.string ⟨(Lib.itoa x).toArray⟩) ∧ Below w.heap.size w w' := by
  go_enter Tryz.func21, Tryz.ntmps21
  go_wp2_with fail
  refine (itoa_any _ _ h0 h1 hE).mono ?_
  rintro e w1 ⟨rfl, hb⟩
  go_wp2
  go_ret
  exact ⟨rfl, hb⟩

theorem quad_len (a : Nat) : (addrL a).length ≤ 100 := by
  have h1 := dec_len (a / 16777216 % 256) (by omega)
  have h2 := dec_len (a / 65536 % 256) (by omega)
  have h3 := dec_len (a / 256 % 256) (by omega)
  have h4 := dec_len (a % 256) (by omega)
  unfold addrL
  simp only [List.length_append, List.length_cons, List.length_nil]
  omega

/-- While a drawn statement runs: the variables stand, what was there stands, and the box in block B holds cs. -/
structure Kp (w : World) (B : Nat) (cs : Array Value) (T : TypeId) (u : World) : Prop where
  env : Env u
  below : Below B w u
  box : u.heap[B]? = some (.cells cs T (0, 0))
theorem Kp.start {w : World} {cs : Array Value} {T : TypeId} (h : Env w) : Kp w w.heap.size cs T (w.alloc (.cells cs T)) := by
  have hb : Below w.heap.size w (w.alloc (.cells cs T)) := (Below.refl _ _).alloc (Nat.le_refl _) _
  exact ⟨h.below hb (Nat.le_refl _), hb, heap_alloc_new w _⟩
theorem Kp.drew {w : World} {B : Nat} {cs : Array Value} {T : TypeId} {u : World} (h : Kp w B cs T u) : Kp w B cs T u.drew :=
  ⟨h.env.below ((Below.refl u.heap.size u).drew) (Nat.le_refl _), h.below.drew, h.box⟩
theorem Kp.lt {w : World} {B : Nat} {cs : Array Value} {T : TypeId} {u : World} (h : Kp w B cs T u) : B < u.heap.size := (Array.getElem?_eq_some_iff.1 h.box).1
theorem Kp.step {w : World} {B : Nat} {cs : Array Value} {T : TypeId} {u u' : World} (h : Kp w B cs T u) (hb : Below u.heap.size u u') : Kp w B cs T u' :=
  ⟨h.env.below hb (Nat.le_refl _), h.below.trans (hb.mono (Nat.le_of_lt h.lt)), (hb.block B h.lt).trans h.box⟩
theorem Kp.cell {w : World} {B : Nat} {cs : Array Value} {T : TypeId} {u : World} (h : Kp w B cs T u) {i : Nat} {v : Value} (hv : cs[i]? = some v) : u.cell? ⟨B, i, none⟩ = some v := by
  simp [World.cell?, h.box, hv]

/-- a prefix as a word -/
def prefixL (a : Nat) (n : Int) : List UInt8 := addrL a ++ ([47] ++ Lib.itoa n)

set_option maxRecDepth 100000 in
set_option maxHeartbeats 1000000 in
theorem prefix_any (a n : Int) (w : World) (ha : 0 ≤ a) (ia : a < 4294967296) (hn : -9223372036854775808 ≤ n) (inn : n ≤ 9223372036854775807) (hE : Env w) :
    Calls Tryz.prog 53 #[.agg #[.int .u32 a, .int .i64 n]] w fun e w' => e = .returned (.string ⟨(prefixL a.toNat n).toArray⟩) ∧ Below w.heap.size w w' := by
  have l1 := quad_len a.toNat
  have l2 := itoa_len n hn inn
  have m1 : ¬ 9223372036854775807 < (addrL a.toNat).length + 1 := by omega
  have m2 : ¬ 9223372036854775807 < (addrL a.toNat).length + 1 + (Lib.itoa n).length := by omega
  go_enter Tryz.func53, Tryz.ntmps53
  go_wp2_with fail
  have hk0 : Kp w w.heap.size #[.int .u32 a, .int .i64 n] 42 (w.alloc (.cells #[.int .u32 a, .int .i64 n] 42)).drew := (Kp.start hE).drew
  have HK0 := Lib.hid hk0
  clear hk0
  go_region_held3 (fun u => u.cell? ⟨w.heap.size, 0, none⟩ = some (.int .u32 a) ∧ u.cell? ⟨w.heap.size, 1, none⟩ = some (.int .i64 n) ∧ Kp w w.heap.size #[.int .u32 a, .int .i64 n] 42 u)
    ((refine (fun hk : Kp w w.heap.size #[.int .u32 a, .int .i64 n] 42 _ => ⟨hk.cell rfl, hk.cell rfl, hk⟩) ?_; first | exact HK0.out | (go_split_ands; exact Kp.step (by assumption) hb1) | (go_split_ands; exact Kp.step (by assumption) (Joins.below_alloc1 _ _))))
    (first | (go_at_call 23; refine (addrFormat _ _ ha ia).mono ?_; rintro e w1 ⟨rfl, hb1⟩) | (go_at_call 21; refine (num_any _ _ hn inn ?_).mono ?_; (go_split_ands; exact Kp.env (w := w) (B := w.heap.size) (cs := #[.int .u32 a, .int .i64 n]) (T := 42) (by assumption)); rintro e w1 ⟨rfl, hb1⟩))
  go_split_ands
  go_wp2
  go_ret
  exact ⟨ret_str (by unfold prefixL; apply ByteArray.ext; simp [ByteArray.data_append]), Kp.below (w := w) (B := w.heap.size) (cs := #[.int .u32 a, .int .i64 n]) (T := 42) (by assumption)⟩

theorem prefix_len (a : Nat) (n : Int) (h0 : -9223372036854775808 ≤ n) (h1 : n ≤ 9223372036854775807) : (prefixL a n).length ≤ 200 := by
  have l1 := quad_len a
  have l2 := itoa_len n h0 h1
  unfold prefixL
  simp only [List.length_append, List.length_cons, List.length_nil]
  omega

theorem cells_strings (u : World) (xs : List ByteArray) (t : TypeId) (j : Nat) (x : ByteArray) (h : xs[j]? = some x) : (u.alloc (.cells (xs.map Value.string).toArray t)).cell? ⟨u.heap.size, 0 + j, none⟩ = some (.string x) := by
  simp [h]
/-- strings.Join of a list that was written out. -/
theorem join_lit (xs : List ByteArray) (sep : ByteArray) (u : World) (cs : Array Value) (n : Nat) (hcs : cs = (xs.map Value.string).toArray) (hn : xs.length = n) (hN : n ≤ 1000) (hlen : (Lib.join (xs.map (·.data.toList)) sep.data.toList).length ≤ 140737488355328) :
    Calls Tryz.prog 19 #[.slice (some ⟨u.heap.size, 0, none⟩) n n, .string sep] (u.alloc (.cells cs 9)) fun e w' => e = .returned (.string ⟨(Lib.join (xs.map (·.data.toList)) sep.data.toList).toArray⟩) ∧ Below (u.alloc (.cells cs 9)).heap.size (u.alloc (.cells cs 9)) w' := by
  subst hcs hn
  exact Tryz.strings_Join u.heap.size 0 xs.length xs sep _ (fun j x h => cells_strings u xs _ j x h) (by simp) (by omega) (Nat.le_refl _) hlen

/-- a lease as words -/
def leaseL (host : Int) (a : Nat) (n : Int) (pub : Nat) (b c d e f g : UInt8) (until_ rev : Int) : List UInt8 :=
  Lib.join [Lib.itoa host, prefixL a n, addrL pub, macL b c d e f g, Lib.itoa until_, Lib.itoa rev] [32]
theorem lease_len (host : Int) (a : Nat) (n : Int) (pub : Nat) (b c d e f g : UInt8) (t rev : Int) (h0 : -9223372036854775808 ≤ host) (h1 : host ≤ 9223372036854775807) (h2 : -9223372036854775808 ≤ n) (h3 : n ≤ 9223372036854775807) (h4 : -9223372036854775808 ≤ t) (h5 : t ≤ 9223372036854775807) (h6 : -9223372036854775808 ≤ rev) (h7 : rev ≤ 9223372036854775807) : (leaseL host a n pub b c d e f g t rev).length ≤ 1000 := by
  have l1 := itoa_len host h0 h1
  have l2 := prefix_len a n h2 h3
  have l3 := quad_len pub
  have l4 : (macL b c d e f g).length = 17 := rfl
  have l5 := itoa_len t h4 h5
  have l6 := itoa_len rev h6 h7
  simp only [leaseL, Lib.join, List.intercalate, List.intersperse, List.flatten_cons, List.flatten_nil, List.length_append, List.length_cons, List.length_nil]
  omega

set_option maxRecDepth 100000 in
set_option maxHeartbeats 4000000 in
theorem lease_any (host a n pub t rev : Int) (b c d e f g : UInt8) (w : World) (hhost : -9223372036854775808 ≤ host) (ihost : host ≤ 9223372036854775807) (ha : 0 ≤ a) (ia : a < 4294967296) (hn : -9223372036854775808 ≤ n) (inn : n ≤ 9223372036854775807) (hpub : 0 ≤ pub) (ipub : pub < 4294967296) (ht : -9223372036854775808 ≤ t) (it : t ≤ 9223372036854775807) (hrev : -9223372036854775808 ≤ rev) (irev : rev ≤ 9223372036854775807) (hE : Env w) :
    Calls Tryz.prog 26 #[.agg #[.int .i64 host, .int .u32 a, .int .i64 n, .int .u32 pub, .int .u8 b.toNat, .int .u8 c.toNat, .int .u8 d.toNat, .int .u8 e.toNat, .int .u8 f.toNat, .int .u8 g.toNat, .int .i64 t, .int .i64 rev]] w fun e' w' => e' = .returned (.string ⟨(leaseL host a.toNat n pub.toNat b c d e f g t rev).toArray⟩) ∧ Below w.heap.size w w' := by
  have hl := lease_len host a.toNat n pub.toNat b c d e f g t rev hhost ihost hn inn ht it hrev irev
  go_enter Tryz.func26, Tryz.ntmps26
  go_wp2_with fail
  have hk0 : Kp w w.heap.size #[.int .i64 host, .int .u32 a, .int .i64 n, .int .u32 pub, .int .u8 b.toNat, .int .u8 c.toNat, .int .u8 d.toNat, .int .u8 e.toNat, .int .u8 f.toNat, .int .u8 g.toNat, .int .i64 t, .int .i64 rev] 46 (w.alloc (.cells #[.int .i64 host, .int .u32 a, .int .i64 n, .int .u32 pub, .int .u8 b.toNat, .int .u8 c.toNat, .int .u8 d.toNat, .int .u8 e.toNat, .int .u8 f.toNat, .int .u8 g.toNat, .int .i64 t, .int .i64 rev] 46)).drew := (Kp.start hE).drew
  have HK0 := Lib.hid hk0
  clear hk0
  go_region_held3 (fun u => u.cell? ⟨w.heap.size, 0, none⟩ = some (.int .i64 host) ∧ u.cell? ⟨w.heap.size, 1, none⟩ = some (.int .u32 a) ∧ u.cell? ⟨w.heap.size, 2, none⟩ = some (.int .i64 n) ∧ u.cell? ⟨w.heap.size, 3, none⟩ = some (.int .u32 pub) ∧ u.cell? ⟨w.heap.size, 4, none⟩ = some (.int .u8 b.toNat) ∧ u.cell? ⟨w.heap.size, 5, none⟩ = some (.int .u8 c.toNat) ∧ u.cell? ⟨w.heap.size, 6, none⟩ = some (.int .u8 d.toNat) ∧ u.cell? ⟨w.heap.size, 7, none⟩ = some (.int .u8 e.toNat) ∧ u.cell? ⟨w.heap.size, 8, none⟩ = some (.int .u8 f.toNat) ∧ u.cell? ⟨w.heap.size, 9, none⟩ = some (.int .u8 g.toNat) ∧ u.cell? ⟨w.heap.size, 10, none⟩ = some (.int .i64 t) ∧ u.cell? ⟨w.heap.size, 11, none⟩ = some (.int .i64 rev) ∧ Kp w w.heap.size #[.int .i64 host, .int .u32 a, .int .i64 n, .int .u32 pub, .int .u8 b.toNat, .int .u8 c.toNat, .int .u8 d.toNat, .int .u8 e.toNat, .int .u8 f.toNat, .int .u8 g.toNat, .int .i64 t, .int .i64 rev] 46 u)
    ((refine (fun hk : Kp w w.heap.size #[.int .i64 host, .int .u32 a, .int .i64 n, .int .u32 pub, .int .u8 b.toNat, .int .u8 c.toNat, .int .u8 d.toNat, .int .u8 e.toNat, .int .u8 f.toNat, .int .u8 g.toNat, .int .i64 t, .int .i64 rev] 46 _ => ⟨hk.cell rfl, hk.cell rfl, hk.cell rfl, hk.cell rfl, hk.cell rfl, hk.cell rfl, hk.cell rfl, hk.cell rfl, hk.cell rfl, hk.cell rfl, hk.cell rfl, hk.cell rfl, hk⟩) ?_; first | exact HK0.out | (go_split_ands; exact Kp.step (by assumption) hb1) | (go_split_ands; exact Kp.step (by assumption) (Joins.below_alloc1 _ _))))
    (first | (go_at_call 21; refine (num_any _ _ hhost ihost ?_).mono ?_; (go_split_ands; exact Kp.env (w := w) (B := w.heap.size) (cs := #[.int .i64 host, .int .u32 a, .int .i64 n, .int .u32 pub, .int .u8 b.toNat, .int .u8 c.toNat, .int .u8 d.toNat, .int .u8 e.toNat, .int .u8 f.toNat, .int .u8 g.toNat, .int .i64 t, .int .i64 rev]) (T := 46) (by assumption)); rintro e w1 ⟨rfl, hb1⟩) | (go_at_call 53; refine (prefix_any _ _ _ ha ia hn inn ?_).mono ?_; (go_split_ands; exact Kp.env (w := w) (B := w.heap.size) (cs := #[.int .i64 host, .int .u32 a, .int .i64 n, .int .u32 pub, .int .u8 b.toNat, .int .u8 c.toNat, .int .u8 d.toNat, .int .u8 e.toNat, .int .u8 f.toNat, .int .u8 g.toNat, .int .i64 t, .int .i64 rev]) (T := 46) (by assumption)); rintro e w1 ⟨rfl, hb1⟩) | (go_at_call 23; refine (addrFormat _ _ hpub ipub).mono ?_; rintro e w1 ⟨rfl, hb1⟩) | (go_at_call 54; refine (mac_any b c d e f g _).mono ?_; rintro e w1 ⟨rfl, hb1⟩) | (go_at_call 22; refine (formatInt_any _ _ ?_ ?_ ?_).mono ?_; (omega); (omega); (go_split_ands; exact Kp.env (w := w) (B := w.heap.size) (cs := #[.int .i64 host, .int .u32 a, .int .i64 n, .int .u32 pub, .int .u8 b.toNat, .int .u8 c.toNat, .int .u8 d.toNat, .int .u8 e.toNat, .int .u8 f.toNat, .int .u8 g.toNat, .int .i64 t, .int .i64 rev]) (T := 46) (by assumption)); rintro e w1 ⟨rfl, hb1⟩) | (go_at_call 19; refine (join_lit [⟨(Lib.itoa host).toArray⟩, ⟨(prefixL a.toNat n).toArray⟩, ⟨(addrL pub.toNat).toArray⟩, ⟨(macL b c d e f g).toArray⟩, ⟨(Lib.itoa t).toArray⟩, ⟨(Lib.itoa rev).toArray⟩] ⟨#[32]⟩ _ _ 6 rfl rfl ?_ ?_).mono ?_; (omega); (exact Nat.le_trans hl (by omega)); rintro e w1 ⟨rfl, hb1⟩))
  go_split_ands
  go_wp2
  go_ret
  exact ⟨rfl, Kp.below (w := w) (B := w.heap.size) (cs := #[.int .i64 host, .int .u32 a, .int .i64 n, .int .u32 pub, .int .u8 b.toNat, .int .u8 c.toNat, .int .u8 d.toNat, .int .u8 e.toNat, .int .u8 f.toNat, .int .u8 g.toNat, .int .i64 t, .int .i64 rev]) (T := 46) (by assumption)⟩

/-- a route as words -/
def routeL (a : Nat) (n : Int) (via : Nat) (loc : Bool) : List UInt8 :=
  prefixL a n ++ ([32] ++ (addrL via ++ ([32] ++ (if loc then [108, 111, 99, 97, 108] else [114, 101, 109, 111, 116, 101]))))

set_option maxRecDepth 100000 in
set_option maxHeartbeats 4000000 in
theorem route_any (a n via : Int) (loc : Bool) (w : World) (ha : 0 ≤ a) (ia : a < 4294967296) (hn : -9223372036854775808 ≤ n) (inn : n ≤ 9223372036854775807) (hvia : 0 ≤ via) (ivia : via < 4294967296) (hE : Env w) :
    Calls Tryz.prog 55 #[.agg #[.int .u32 a, .int .i64 n, .int .u32 via, .bool loc]] w fun e w' => e = .returned (.string ⟨(routeL a.toNat n via.toNat loc).toArray⟩) ∧ Below w.heap.size w w' := by
  have l1 := prefix_len a.toNat n hn inn
  have l2 := quad_len via.toNat
  have m1 : ¬ 9223372036854775807 < (prefixL a.toNat n).length + 1 := by omega
  have m2 : ¬ 9223372036854775807 < (prefixL a.toNat n).length + 1 + (addrL via.toNat).length := by omega
  have m3 : ¬ 9223372036854775807 < (prefixL a.toNat n).length + 1 + (addrL via.toNat).length + 1 := by omega
  have m4 : ¬ 9223372036854775807 < (prefixL a.toNat n).length + 1 + (addrL via.toNat).length + 1 + 6 := by omega
  have m5 : ¬ 9223372036854775807 < (prefixL a.toNat n).length + 1 + (addrL via.toNat).length + 1 + 5 := by omega
  cases loc
  · go_enter Tryz.func55, Tryz.ntmps55
    go_wp2_with fail
    have hk0 : Kp w w.heap.size #[.int .u32 a, .int .i64 n, .int .u32 via, .bool false] 105 (w.alloc (.cells #[.int .u32 a, .int .i64 n, .int .u32 via, .bool false] 105)).drew := (Kp.start hE).drew
    have HK0 := Lib.hid hk0
    clear hk0
    go_region_held3 (fun u => u.cell? ⟨w.heap.size, 0, none⟩ = some (.int .u32 a) ∧ u.cell? ⟨w.heap.size, 1, none⟩ = some (.int .i64 n) ∧ u.cell? ⟨w.heap.size, 2, none⟩ = some (.int .u32 via) ∧ u.cell? ⟨w.heap.size, 3, none⟩ = some (.bool false) ∧ Kp w w.heap.size #[.int .u32 a, .int .i64 n, .int .u32 via, .bool false] 105 u)
      ((refine (fun hk : Kp w w.heap.size #[.int .u32 a, .int .i64 n, .int .u32 via, .bool false] 105 _ => ⟨hk.cell rfl, hk.cell rfl, hk.cell rfl, hk.cell rfl, hk⟩) ?_; first | exact HK0.out | (go_split_ands; exact Kp.step (by assumption) hb1) | (go_split_ands; exact Kp.step (by assumption) (Joins.below_alloc1 _ _))))
      (first | (go_at_call 53; refine (prefix_any _ _ _ ha ia hn inn ?_).mono ?_; (go_split_ands; exact Kp.env (w := w) (B := w.heap.size) (cs := #[.int .u32 a, .int .i64 n, .int .u32 via, .bool false]) (T := 105) (by assumption)); rintro e w1 ⟨rfl, hb1⟩) | (go_at_call 23; refine (addrFormat _ _ hvia ivia).mono ?_; rintro e w1 ⟨rfl, hb1⟩))
    go_split_ands
    go_wp2
    go_ret
    refine ⟨ret_str ?_, Kp.below (w := w) (B := w.heap.size) (cs := #[.int .u32 a, .int .i64 n, .int .u32 via, .bool false]) (T := 105) (by assumption)⟩
    unfold routeL
    apply ByteArray.ext
    simp [ByteArray.data_append]
  · go_enter Tryz.func55, Tryz.ntmps55
    go_wp2_with fail
    have hk0 : Kp w w.heap.size #[.int .u32 a, .int .i64 n, .int .u32 via, .bool true] 105 (w.alloc (.cells #[.int .u32 a, .int .i64 n, .int .u32 via, .bool true] 105)).drew := (Kp.start hE).drew
    have HK0 := Lib.hid hk0
    clear hk0
    go_region_held3 (fun u => u.cell? ⟨w.heap.size, 0, none⟩ = some (.int .u32 a) ∧ u.cell? ⟨w.heap.size, 1, none⟩ = some (.int .i64 n) ∧ u.cell? ⟨w.heap.size, 2, none⟩ = some (.int .u32 via) ∧ u.cell? ⟨w.heap.size, 3, none⟩ = some (.bool true) ∧ Kp w w.heap.size #[.int .u32 a, .int .i64 n, .int .u32 via, .bool true] 105 u)
      ((refine (fun hk : Kp w w.heap.size #[.int .u32 a, .int .i64 n, .int .u32 via, .bool true] 105 _ => ⟨hk.cell rfl, hk.cell rfl, hk.cell rfl, hk.cell rfl, hk⟩) ?_; first | exact HK0.out | (go_split_ands; exact Kp.step (by assumption) hb1) | (go_split_ands; exact Kp.step (by assumption) (Joins.below_alloc1 _ _))))
      (first | (go_at_call 53; refine (prefix_any _ _ _ ha ia hn inn ?_).mono ?_; (go_split_ands; exact Kp.env (w := w) (B := w.heap.size) (cs := #[.int .u32 a, .int .i64 n, .int .u32 via, .bool true]) (T := 105) (by assumption)); rintro e w1 ⟨rfl, hb1⟩) | (go_at_call 23; refine (addrFormat _ _ hvia ivia).mono ?_; rintro e w1 ⟨rfl, hb1⟩))
    go_split_ands
    go_wp2
    go_ret
    refine ⟨ret_str ?_, Kp.below (w := w) (B := w.heap.size) (cs := #[.int .u32 a, .int .i64 n, .int .u32 via, .bool true]) (T := 105) (by assumption)⟩
    unfold routeL
    apply ByteArray.ext
    simp [ByteArray.data_append]

set_option maxRecDepth 100000 in
set_option maxHeartbeats 400000 in
theorem bit_any (b : Bool) (w : World) :
    Calls Tryz.prog 56 #[.bool b] w fun e w' => e = .returned (.string ⟨(if b then [49] else [48] : List UInt8).toArray⟩) ∧ w = w' := by
  cases b
  all_goals
    go_enter Tryz.func56, Tryz.ntmps56
    go_wp2
    go_ret
    exact ⟨rfl, rfl⟩

/-- bytes as a word -/
def bytesL (l : List UInt8) : List UInt8 := if l = [] then [45] else hexL l

set_option maxRecDepth 100000 in
set_option maxHeartbeats 400000 in
theorem bytes_any (v : Value) (l : List UInt8) (w : World) (hv : Bs w v l) (hl : l.length ≤ 140737488351232) :
    Calls Tryz.prog 25 #[v] w fun e w' => e = .returned (.string ⟨(bytesL l).toArray⟩) ∧ Below w.heap.size w w' := by
  have HH := Lib.hid (hex_any v l w hv hl)
  obtain ⟨a, c, rfl, _, _⟩ := hv
  by_cases h : l = []
  · subst h
    go_enter Tryz.func25, Tryz.ntmps25
    go_wp2
    go_ret
    exact ⟨rfl, Below.refl _ _⟩
  · have h0 : ((l.length : Int) == 0) = false := by
      rw [beq_eq_false_iff_ne]
      intro e
      exact h (List.eq_nil_of_length_eq_zero (by omega))
    have HN := Lib.hid h
    clear h
    go_enter Tryz.func25, Tryz.ntmps25
    go_wp2_with fail
    refine HH.out.mono ?_
    rintro e w1 ⟨rfl, hb⟩
    go_wp2
    go_ret
    refine ⟨ret_str ?_, hb⟩
    unfold bytesL
    rw [if_neg HN.out]

/-- a letter that a name may bear plainly -/
def plainB (c : UInt8) : Bool := (decide (97 ≤ c.toNat) && decide (c.toNat ≤ 122)) || (decide (48 ≤ c.toNat) && decide (c.toNat ≤ 57)) || decide (c.toNat = 45)
/-- a name as a word -/
def nameL (s : List UInt8) : List UInt8 := if s ≠ [] ∧ s.all plainB = true then s else 37 :: hexL s

end Go.Proofs.YtmnkdnpjcfmjgaaGreatDoor
