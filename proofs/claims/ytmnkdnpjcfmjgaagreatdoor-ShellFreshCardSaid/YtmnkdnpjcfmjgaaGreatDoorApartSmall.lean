/- A small reply's text is short. -/
import Derived.Test.YtmnkdnpjcfmjgaaGreatDoorApartRow
import Derived.Test.YtmnkdnpjcfmjgaaGreatDoorApartLaw
import Derived.Test.YtmnkdnpjcfmjgaaGreatDoorFormat
namespace Go.Proofs.YtmnkdnpjcfmjgaaGreatDoor
open Go.RowKit Go.ChangeShapes Go.WideShapes

theorem flat_small {α : Type} (l : List α) (f : α → List UInt8) (h : ∀ x ∈ l, (f x).length ≤ 8388608) (hl : l.length ≤ 1048576) : (l.flatMap f).length ≤ 8796093022208 := by
  have : (l.flatMap f).length ≤ l.length * 8388608 := by
    clear hl
    induction l with
    | nil => simp
    | cons x l ih =>
      have h1 := h x (List.mem_cons_self ..)
      have h2 := ih fun y hy => h y (List.mem_cons_of_mem _ hy)
      rw [List.flatMap_cons, List.length_append, List.length_cons]
      omega
  omega
theorem addr_small (a : Nat) : (addrL a).length ≤ 100 := quad_len a
theorem int_small (x : Int) (h : I64 x) : (Lib.itoa x).length ≤ 21 := Lib.itoa_length_le x h.1 h.2
theorem prefix_small (a : Nat) (n : Int) (h : I64 n) : (prefixL a n).length ≤ 130 := by
  have h1 := addr_small a
  have h2 := int_small n h
  unfold prefixL
  simp only [List.length_append, List.length_singleton]
  omega
theorem name_small (s : List UInt8) : (nameL s).length ≤ 2 * s.length + 1 := by
  unfold nameL
  split
  · omega
  · rw [List.length_cons, hexL_length]; omega
theorem mac_small (m : MacD) : m.text.length = 17 := rfl
theorem lease_small (tag : List UInt8) (ht : tag.length ≤ 10) (l : LeaseD) (h : l.ok) : (lineL [tag, l.text]).length ≤ 1000 := by
  rw [lease_line, leaseWs]
  have h1 := int_small _ h.1
  have h2 := prefix_small l.a _ h.2.2.1
  have h3 := addr_small l.pub
  have h4 := mac_small l.mac
  have h5 := int_small _ h.2.2.2.2.1
  have h6 := int_small _ h.2.2.2.2.2
  simp only [lineW, leaseWs.m6, List.flatMap_cons, List.flatMap_nil, List.length_append, List.length_cons, List.length_nil]
  omega
theorem route_small (ah : List UInt8) (ha : ah.length ≤ 10) (r : RouteD) (h : r.ok) : (routeLine ah r).length ≤ 1000 := by
  unfold routeLine
  rw [route_line, routeWs]
  have h2 := prefix_small r.a _ h.2.1
  have h3 := addr_small r.via
  have h4 : (if r.loc = true then [108, 111, 99, 97, 108] else [114, 101, 109, 111, 116, 101] : List UInt8).length ≤ 10 := by split <;> decide
  simp only [lineW, List.flatMap_cons, List.flatMap_nil, List.length_append, List.length_cons, List.length_nil]
  omega
theorem neigh_small (ah : List UInt8) (ha : ah.length ≤ 10) (r : NeighD) : (neighLine ah r).length ≤ 1000 := by
  unfold neighLine lineL
  rw [join_line]
  have h3 := addr_small r.ip
  have h4 := mac_small r.mac
  simp only [lineW, List.flatMap_cons, List.flatMap_nil, List.length_append, List.length_cons, List.length_nil]
  omega
theorem fdb_small (ah : List UInt8) (ha : ah.length ≤ 10) (r : FdbD) : (fdbLine ah r).length ≤ 1000 := by
  unfold fdbLine lineL
  rw [join_line]
  have h3 := addr_small r.dst
  have h4 := mac_small r.mac
  simp only [lineW, List.flatMap_cons, List.flatMap_nil, List.length_append, List.length_cons, List.length_nil]
  omega
theorem tables_small (ah : List UInt8) (ha : ah.length ≤ 10) (t : TablesD) (h1 : ∀ x ∈ t.routes, x.ok) (l1 : t.routes.length ≤ 1048576) (l2 : t.neighs.length ≤ 1048576) (l3 : t.fdbs.length ≤ 1048576) : (tablesL ah t).length ≤ 26388279066624 := by
  have a1 := flat_small t.routes (routeLine ah) (fun x hx => by have := route_small ah ha x (h1 x hx); omega) l1
  have a2 := flat_small t.neighs (neighLine ah) (fun x hx => by have := neigh_small ah ha x; omega) l2
  have a3 := flat_small t.fdbs (fdbLine ah) (fun x hx => by have := fdb_small ah ha x; omega) l3
  unfold tablesL
  rw [List.length_append, List.length_append]
  omega
theorem reply_small (r : ReplyD) {w : World} (ho : r.Ok w) (hs : Small r) : (replyL r).length ≤ 140737488351232 := by
  have a0 : (headL r).length ≤ 1000 := by
    have h1 := int_small _ ho.err
    have h2 := int_small _ ho.n
    have h3 := int_small _ ho.verdict
    have h4 := int_small _ ho.why
    have h5 := int_small _ ho.req
    unfold headL lineL
    rw [join_line]
    simp only [lineW, List.flatMap_cons, List.flatMap_nil, List.length_append, List.length_cons, List.length_nil]
    omega
  have a1 := flat_small r.given givenLine (fun x hx => by
    have h1 := int_small _ (ho.given x hx).1
    have h2 := addr_small x.dst
    have h3 := name_small x.name.data.toList
    have h4 := bytesL_len x.bytes
    have h5 := hs.given.2 x hx
    rw [Lib.size_eq] at h5
    unfold givenLine lineL
    rw [join_line]
    simp only [lineW, List.flatMap_cons, List.flatMap_nil, List.length_append, List.length_cons, List.length_nil]
    omega) hs.given.1
  have a2 := flat_small r.leases leaseLine (fun x hx => by have := lease_small [108, 101, 97, 115, 101] (by decide) x (ho.leases x hx); unfold leaseLine; omega) hs.leases
  have a3 := tables_small [] (by decide) r.tabs ho.routes hs.routes hs.neighs hs.fdbs
  have a4 := flat_small r.pods podLine (fun x hx => by
    have h2 := addr_small x.a
    have h3 := name_small x.name.data.toList
    have h5 := hs.pods.2 x hx
    rw [Lib.size_eq] at h5
    unfold podLine lineL
    rw [join_line]
    simp only [lineW, List.flatMap_cons, List.flatMap_nil, List.length_append, List.length_cons, List.length_nil]
    omega) hs.pods.1
  have a5 := flat_small r.flight sentLine (fun x hx => by
    have h2 := addr_small x.dst
    have h4 := bytesL_len x.bytes
    have h5 := hs.flight.2 x hx
    unfold sentLine lineL
    rw [join_line]
    simp only [lineW, List.flatMap_cons, List.flatMap_nil, List.length_append, List.length_cons, List.length_nil]
    omega) hs.flight.1
  have a6 : (viewL r.view).length ≤ 43980465121040 := by
    unfold viewL
    split
    · simp
    · have b1 := flat_small r.view.leases knowsLine (fun x hx => by have := lease_small [107, 110, 111, 119, 115] (by decide) x (ho.vleases x hx); unfold knowsLine; omega) hs.vleases
      have b2 := flat_small r.view.skipped skippedLine (fun x hx => by
        have h2 := prefix_small x.a _ (ho.vskip x hx).2
        unfold skippedLine lineL PrefixD.text
        rw [join_line]
        simp only [lineW, List.flatMap_cons, List.flatMap_nil, List.length_append, List.length_cons, List.length_nil]
        omega) hs.skipped
      have b3 := tables_small [104, 97, 115, 45] (by decide) r.view.tabs ho.vroutes hs.vroutes hs.vneighs hs.vfdbs
      have b4 := lease_small [111, 119, 110] (by decide) r.view.lease ho.vlease
      have b5 : (lineL [[118, 105, 101, 119], bitL r.view.has, Lib.itoa r.view.cursor, bitL r.view.synced, bitL r.view.degraded]).length ≤ 1000 := by
        have h1 := int_small _ ho.vcur
        have h2 : ∀ b, (bitL b).length = 1 := fun b => by cases b <;> rfl
        unfold lineL
        rw [join_line]
        simp only [lineW, List.flatMap_cons, List.flatMap_nil, List.length_append, List.length_cons, List.length_nil, h2]
        omega
      unfold viewFull
      rw [List.length_append, List.length_append, List.length_append, List.length_append]
      omega
  have a7 : (countsL r.counts).length ≤ 8796093022308 := by
    unfold countsL
    split
    · simp
    · have b1 := flat_small r.counts (fun x => 32 :: Lib.itoa x) (fun x hx => by have := int_small x (ho.counts x hx); rw [List.length_cons]; omega) hs.counts
      unfold lineL
      rw [join_line, lineW, List.length_append, List.length_append, List.flatMap_map]
      simp only [List.length_cons, List.length_nil]
      omega
  have a8 : (diskL r.diskA r.diskB).length ≤ 5000000 := by
    unfold diskL
    split
    · simp
    · have h1 := bytesL_len r.diskA
      have h2 := bytesL_len r.diskB
      have h3 := hs.diskA
      have h4 := hs.diskB
      unfold lineL
      rw [join_line]
      simp only [lineW, List.flatMap_cons, List.flatMap_nil, List.length_append, List.length_cons, List.length_nil]
      omega
  unfold replyL
  simp only [List.length_append]
  omega
end Go.Proofs.YtmnkdnpjcfmjgaaGreatDoor
