/- Package shell, in plain Lean: two replies have one text just if they are the same. -/
import Derived.Test.YtmnkdnpjcfmjgaaGreatDoorReplyLoops
import Derived.Test.YtmnkdnpjcfmjgaaGreatDoorActLaw
namespace Go.Proofs.YtmnkdnpjcfmjgaaGreatDoor

instance decClean (l : List UInt8) : Decidable (Clean l) := by unfold Clean; exact inferInstance

def GivenD.val (g : GivenD) : Int × Nat × List UInt8 × List UInt8 := (g.host, g.dst, g.name.data.toList, g.bytes)
def SentD.val (s : SentD) : Nat × List UInt8 := (s.dst, s.bytes)
def PodD.val (p : PodD) : List UInt8 × Nat := (p.name.data.toList, p.a)
structure SameR (a b : ReplyD) : Prop where
  err : a.err = b.err
  n : a.n = b.n
  verdict : a.verdict = b.verdict
  why : a.why = b.why
  req : a.req = b.req
  given : a.given.map GivenD.val = b.given.map GivenD.val
  leases : a.leases = b.leases
  routes : a.tabs.routes = b.tabs.routes
  neighs : a.tabs.neighs = b.tabs.neighs
  fdbs : a.tabs.fdbs = b.tabs.fdbs
  pods : a.pods.map PodD.val = b.pods.map PodD.val
  flight : a.flight.map SentD.val = b.flight.map SentD.val
  has : a.view.has = b.view.has
  lease : a.view.lease = b.view.lease
  cursor : a.view.cursor = b.view.cursor
  synced : a.view.synced = b.view.synced
  degraded : a.view.degraded = b.view.degraded
  vleases : a.view.leases = b.view.leases
  skipped : a.view.skipped = b.view.skipped
  vroutes : a.view.tabs.routes = b.view.tabs.routes
  vneighs : a.view.tabs.neighs = b.view.tabs.neighs
  vfdbs : a.view.tabs.fdbs = b.view.tabs.fdbs
  counts : a.counts = b.counts
  diskA : a.diskA = b.diskA
  diskB : a.diskB = b.diskB

/-! ### the words of a line, the lines of a text -/
def txtL (L : List (List (List UInt8))) : List UInt8 := L.flatMap fun ws => lineW (ws.headD []) ws.tail ++ [10]
theorem join_line (w : List UInt8) (ws : List (List UInt8)) : Lib.join (w :: ws) [32] = lineW w ws := by
  rw [Lib.join_cons, lineW, Lib.joinTail, List.flatMap_def]
  rfl
theorem cut10 (x : List UInt8) : ∀ (y r s : List UInt8), 10 ∉ x → 10 ∉ y → x ++ 10 :: r = y ++ 10 :: s → x = y ∧ r = s := by
  induction x with
  | nil =>
    intro y r s _ hy h
    cases y with
    | nil => exact ⟨rfl, (List.cons.inj h).2⟩
    | cons c y =>
      have := (List.cons.inj h).1
      exact absurd (this ▸ List.mem_cons_self ..) hy
  | cons b x ih =>
    intro y r s hx hy h
    cases y with
    | nil =>
      have := (List.cons.inj h).1
      exact absurd (this ▸ List.mem_cons_self ..) hx
    | cons c y =>
      rw [List.cons_append, List.cons_append, List.cons.injEq] at h
      obtain ⟨h1, h2⟩ := ih y r s (fun m => hx (List.mem_cons_of_mem _ m)) (fun m => hy (List.mem_cons_of_mem _ m)) h.2
      exact ⟨by rw [h.1, h1], h2⟩
def Good (ws : List (List UInt8)) : Prop := ws ≠ [] ∧ ∀ w ∈ ws, Clean w
theorem line_inj (x y : List (List UInt8)) (hx : Good x) (hy : Good y) (h : lineW (x.headD []) x.tail = lineW (y.headD []) y.tail) : x = y := by
  cases x with
  | nil => exact absurd rfl hx.1
  | cons w ws =>
    cases y with
    | nil => exact absurd rfl hy.1
    | cons v vs =>
      simp only [List.headD_cons, List.tail_cons] at h
      have a := words_line ws w (hx.2 w (List.mem_cons_self ..)).1 (fun u hu => (hx.2 u (List.mem_cons_of_mem _ hu)).1)
      have b := words_line vs v (hy.2 v (List.mem_cons_self ..)).1 (fun u hu => (hy.2 u (List.mem_cons_of_mem _ hu)).1)
      rw [h] at a
      exact a.symm.trans b
theorem good_line (x : List (List UInt8)) (hx : Good x) : 10 ∉ lineW (x.headD []) x.tail := by
  cases x with
  | nil => exact absurd rfl hx.1
  | cons w ws => exact clean_line w ws (hx.2 w (List.mem_cons_self ..)) (fun u hu => hx.2 u (List.mem_cons_of_mem _ hu))
theorem txt_inj (L : List (List (List UInt8))) : ∀ M, (∀ x ∈ L, Good x) → (∀ x ∈ M, Good x) → txtL L = txtL M → L = M := by
  induction L with
  | nil =>
    intro M _ _ h
    cases M with
    | nil => rfl
    | cons y M => exfalso; have := congrArg List.length h; simp [txtL] at this
  | cons x L ih =>
    intro M hL hM h
    cases M with
    | nil => exfalso; have := congrArg List.length h; simp [txtL] at this
    | cons y M =>
      simp only [txtL, List.flatMap_cons, List.append_assoc, List.singleton_append] at h
      have hx := hL x (List.mem_cons_self ..)
      have hy := hM y (List.mem_cons_self ..)
      obtain ⟨h1, h2⟩ := cut10 _ _ _ _ (good_line x hx) (good_line y hy) h
      rw [line_inj x y hx hy h1, ih M (fun u hu => hL u (List.mem_cons_of_mem _ hu)) (fun u hu => hM u (List.mem_cons_of_mem _ hu)) h2]

/-! ### the words of a reply -/
def macW (m : MacD) : List UInt8 := m.text
def leaseWs.m6 (l : LeaseD) : List UInt8 := l.mac.text
def leaseWs (l : LeaseD) : List (List UInt8) := [Lib.itoa l.host, prefixL l.a l.n, addrL l.pub, leaseWs.m6 l, Lib.itoa l.till, Lib.itoa l.rev]
def routeWs (r : RouteD) : List (List UInt8) := [prefixL r.a r.n, addrL r.via, if r.loc then [108, 111, 99, 97, 108] else [114, 101, 109, 111, 116, 101]]
def givenWs (g : GivenD) : List (List UInt8) := [[103, 105, 118, 101, 110], Lib.itoa g.host, addrL g.dst, nameL g.name.data.toList, bytesL g.bytes]
def podWs (p : PodD) : List (List UInt8) := [[112, 111, 100], nameL p.name.data.toList, addrL p.a]
def sentWs (s : SentD) : List (List UInt8) := [[115, 101, 110, 116], addrL s.dst, bytesL s.bytes]
def rtWs (ahead : List UInt8) (r : RouteD) : List (List UInt8) := (ahead ++ [114, 111, 117, 116, 101]) :: routeWs r
def ngWs (ahead : List UInt8) (r : NeighD) : List (List UInt8) := [ahead ++ [110, 101, 105, 103, 104], addrL r.ip, r.mac.text]
def fdWs (ahead : List UInt8) (r : FdbD) : List (List UInt8) := [ahead ++ [102, 100, 98], r.mac.text, addrL r.dst]
def lsWs (l : LeaseD) : List (List UInt8) := [108, 101, 97, 115, 101] :: leaseWs l
def knWs (l : LeaseD) : List (List UInt8) := [107, 110, 111, 119, 115] :: leaseWs l
def ownWs (l : LeaseD) : List (List UInt8) := [111, 119, 110] :: leaseWs l
def skWs (p : PrefixD) : List (List UInt8) := [[115, 107, 105, 112, 112, 101, 100], p.text]
def vwWs (v : ViewD) : List (List UInt8) := [[118, 105, 101, 119], bitL v.has, Lib.itoa v.cursor, bitL v.synced, bitL v.degraded]
def hdWs (r : ReplyD) : List (List UInt8) := [[101, 114, 114], Lib.itoa r.err, [110], Lib.itoa r.n, [118, 101, 114, 100, 105, 99, 116], Lib.itoa r.verdict, [119, 104, 121], Lib.itoa r.why, [114, 101, 113], Lib.itoa r.req]
def tbWs (ahead : List UInt8) (t : TablesD) : List (List (List UInt8)) := t.routes.map (rtWs ahead) ++ (t.neighs.map (ngWs ahead) ++ t.fdbs.map (fdWs ahead))
def viewWs (v : ViewD) : List (List (List UInt8)) := if v.Empty then [] else vwWs v :: ownWs v.lease :: (v.leases.map knWs ++ (v.skipped.map skWs ++ tbWs [104, 97, 115, 45] v.tabs))
def ctWs (l : List Int) : List (List (List UInt8)) := if l = [] then [] else [[99, 111, 117, 110, 116, 115] :: l.map Lib.itoa]
def dkWs (a b : List UInt8) : List (List (List UInt8)) := if a.length + b.length = 0 then [] else [[[100, 105, 115, 107], bytesL a, bytesL b]]
def replyWs (r : ReplyD) : List (List (List UInt8)) :=
  hdWs r :: (r.given.map givenWs ++ (r.leases.map lsWs ++ (tbWs [] r.tabs ++ (r.pods.map podWs ++ (r.flight.map sentWs ++ (viewWs r.view ++ (ctWs r.counts ++ dkWs r.diskA r.diskB)))))))

theorem txt_append (L M : List (List (List UInt8))) : txtL (L ++ M) = txtL L ++ txtL M := by unfold txtL; rw [List.flatMap_append]
theorem txt_cons (x : List (List UInt8)) (M : List (List (List UInt8))) : txtL (x :: M) = (lineW (x.headD []) x.tail ++ [10]) ++ txtL M := by unfold txtL; rw [List.flatMap_cons]
theorem txt_map {α : Type} (f : α → List (List UInt8)) (g : α → List UInt8) (l : List α) (h : ∀ x, g x = lineW ((f x).headD []) (f x).tail ++ [10]) : txtL (l.map f) = l.flatMap g := by
  unfold txtL
  rw [List.flatMap_map]
  congr 1
  funext x
  exact (h x).symm
theorem lease_line (tag : List UInt8) (l : LeaseD) : lineL [tag, l.text] = lineW tag (leaseWs l) ++ [10] := by
  unfold lineL LeaseD.text leaseL
  rw [join_line, join_line]
  simp [lineW, leaseWs, leaseWs.m6, MacD.text]
theorem route_line (tag : List UInt8) (r : RouteD) : lineL [tag, r.text] = lineW tag (routeWs r) ++ [10] := by
  unfold lineL RouteD.text routeL
  rw [join_line]
  simp [lineW, routeWs]
theorem txt_tabs (ahead : List UInt8) (t : TablesD) : txtL (tbWs ahead t) = tablesL ahead t := by
  unfold tbWs tablesL
  rw [txt_append, txt_append, txt_map (rtWs ahead) (routeLine ahead), txt_map (ngWs ahead) (neighLine ahead), txt_map (fdWs ahead) (fdbLine ahead)]
  · intro x; unfold fdbLine lineL; rw [join_line]; rfl
  · intro x; unfold neighLine lineL; rw [join_line]; rfl
  · intro x; unfold routeLine; rw [route_line]; rfl
theorem txt_view (v : ViewD) : txtL (viewWs v) = viewL v := by
  unfold viewWs viewL
  by_cases h : v.Empty
  · rw [if_pos h, if_pos h]; rfl
  · rw [if_neg h, if_neg h, txt_cons, txt_cons, txt_append, txt_append, txt_tabs, txt_map knWs knowsLine, txt_map skWs skippedLine]
    · unfold viewFull
      rw [lease_line, lineL, join_line]
      simp [vwWs, ownWs]
    · intro x; unfold skippedLine lineL; rw [join_line]; rfl
    · intro x; unfold knowsLine; rw [lease_line]; rfl
theorem txt_reply (r : ReplyD) : txtL (replyWs r) = replyL r := by
  unfold replyWs replyL
  rw [txt_cons, txt_append, txt_append, txt_append, txt_append, txt_append, txt_append, txt_append, txt_tabs, txt_view, txt_map givenWs givenLine, txt_map lsWs leaseLine, txt_map podWs podLine, txt_map sentWs sentLine]
  · have h1 : headL r = lineW ((hdWs r).headD []) (hdWs r).tail ++ [10] := by unfold headL lineL; rw [join_line]; rfl
    have h2 : countsL r.counts = txtL (ctWs r.counts) := by
      unfold countsL ctWs
      split
      · rfl
      · rw [txt_cons]; unfold lineL; rw [join_line]; simp [txtL]
    have h3 : diskL r.diskA r.diskB = txtL (dkWs r.diskA r.diskB) := by
      unfold diskL dkWs
      split
      · rfl
      · rw [txt_cons]; unfold lineL; rw [join_line]; simp [txtL]
    rw [h1, h2, h3]
    simp only [List.append_assoc]
  · intro x; unfold sentLine lineL; rw [join_line]; rfl
  · intro x; unfold podLine lineL; rw [join_line]; rfl
  · intro x; unfold leaseLine; rw [lease_line]; rfl
  · intro x; unfold givenLine lineL; rw [join_line]; rfl

/-! ### every word is clean -/
theorem clean_append {a b : List UInt8} (h : Clean a) (k : Clean b) : Clean (a ++ b) := by
  constructor <;> (rw [List.mem_append, not_or]; first | exact ⟨h.1, k.1⟩ | exact ⟨h.2, k.2⟩)
theorem clean_prefix (a : Nat) (n : Int) : Clean (prefixL a n) := clean_append (clean_addr a) (clean_append (by decide) (clean_itoa n))
theorem hexd_range (n : Nat) (h : n < 16) : (48 ≤ (hexd n).toNat ∧ (hexd n).toNat ≤ 57) ∨ (97 ≤ (hexd n).toNat ∧ (hexd n).toNat ≤ 102) := by
  rw [hexd_nat n h]; split <;> omega
theorem clean_of (l : List UInt8) (h : ∀ c ∈ l, c.toNat ≠ 32 ∧ c.toNat ≠ 10) : Clean l :=
  ⟨fun e => (h _ e).1 rfl, fun e => (h _ e).2 rfl⟩
theorem clean_mac2 (c : UInt8) : Clean (mac2 c) := by
  have hc := c.toNat_lt
  refine clean_of _ fun x hx => ?_
  unfold mac2 at hx
  simp only [List.mem_cons, List.not_mem_nil, or_false] at hx
  rcases hx with rfl | rfl
  · have := hexd_range (c.toNat / 16) (by omega); omega
  · have := hexd_range (c.toNat % 16) (by omega); omega
theorem clean_mac (m : MacD) : Clean m.text := by
  unfold MacD.text macL
  exact clean_append (clean_mac2 _) (clean_append (by decide) (clean_append (clean_mac2 _) (clean_append (by decide) (clean_append (clean_mac2 _) (clean_append (by decide) (clean_append (clean_mac2 _) (clean_append (by decide) (clean_append (clean_mac2 _) (clean_append (by decide) (clean_mac2 _))))))))))
theorem clean_hex (l : List UInt8) : Clean (hexL l) := by
  by_cases h : l = []
  · subst h; decide
  · have := clean_bytes l
    unfold bytesL at this
    rwa [if_neg h] at this
theorem clean_name (s : List UInt8) : Clean (nameL s) := by
  unfold nameL
  split
  · rename_i h
    refine clean_of _ fun x hx => ?_
    have := List.all_eq_true.1 h.2 x hx
    simp only [plainB, Bool.or_eq_true, Bool.and_eq_true, decide_eq_true_eq] at this
    omega
  · exact ⟨by rw [List.mem_cons, not_or]; exact ⟨by decide, (clean_hex s).1⟩, by rw [List.mem_cons, not_or]; exact ⟨by decide, (clean_hex s).2⟩⟩
theorem clean_bit (b : Bool) : Clean (bitL b) := by cases b <;> decide
theorem clean_lease (l : LeaseD) : ∀ w ∈ leaseWs l, Clean w := by
  intro w hw
  simp only [leaseWs, leaseWs.m6, List.mem_cons, List.not_mem_nil, or_false] at hw
  rcases hw with rfl | rfl | rfl | rfl | rfl | rfl
  · exact clean_itoa _
  · exact clean_prefix _ _
  · exact clean_addr _
  · exact clean_mac _
  · exact clean_itoa _
  · exact clean_itoa _
theorem clean_route (r : RouteD) : ∀ w ∈ routeWs r, Clean w := by
  intro w hw
  simp only [routeWs, List.mem_cons, List.not_mem_nil, or_false] at hw
  rcases hw with rfl | rfl | rfl
  · exact clean_prefix _ _
  · exact clean_addr _
  · split <;> decide
theorem good_cons (t : List UInt8) (ws : List (List UInt8)) (ht : Clean t) (h : ∀ w ∈ ws, Clean w) : Good (t :: ws) :=
  ⟨by simp, fun w hw => by rcases List.mem_cons.1 hw with rfl | hw; exact ht; exact h w hw⟩
theorem good_tabs (ahead : List UInt8) (ha : Clean ahead) (t : TablesD) : ∀ x ∈ tbWs ahead t, Good x := by
  intro x hx
  unfold tbWs at hx
  simp only [List.mem_append, List.mem_map] at hx
  rcases hx with ⟨r, _, rfl⟩ | ⟨r, _, rfl⟩ | ⟨r, _, rfl⟩
  · exact good_cons _ _ (clean_append ha (by decide)) (clean_route r)
  · refine good_cons _ _ (clean_append ha (by decide)) fun w hw => ?_
    simp only [List.mem_cons, List.not_mem_nil, or_false] at hw
    rcases hw with rfl | rfl
    · exact clean_addr _
    · exact clean_mac _
  · refine good_cons _ _ (clean_append ha (by decide)) fun w hw => ?_
    simp only [List.mem_cons, List.not_mem_nil, or_false] at hw
    rcases hw with rfl | rfl
    · exact clean_mac _
    · exact clean_addr _
theorem good_reply (r : ReplyD) : ∀ x ∈ replyWs r, Good x := by
  intro x hx
  unfold replyWs at hx
  simp only [List.mem_cons, List.mem_append, List.mem_map] at hx
  rcases hx with rfl | ⟨g, _, rfl⟩ | ⟨l, _, rfl⟩ | hx | ⟨p, _, rfl⟩ | ⟨s, _, rfl⟩ | hx | hx | hx
  · refine good_cons _ _ (by decide) fun w hw => ?_
    simp only [List.mem_cons, List.not_mem_nil, or_false] at hw
    rcases hw with rfl | rfl | rfl | rfl | rfl | rfl | rfl | rfl | rfl <;> first | exact clean_itoa _ | decide
  · refine good_cons _ _ (by decide) fun w hw => ?_
    simp only [List.mem_cons, List.not_mem_nil, or_false] at hw
    rcases hw with rfl | rfl | rfl | rfl
    · exact clean_itoa _
    · exact clean_addr _
    · exact clean_name _
    · exact clean_bytes _
  · exact good_cons _ _ (by decide) (clean_lease l)
  · exact good_tabs [] (by decide) _ x hx
  · refine good_cons _ _ (by decide) fun w hw => ?_
    simp only [List.mem_cons, List.not_mem_nil, or_false] at hw
    rcases hw with rfl | rfl
    · exact clean_name _
    · exact clean_addr _
  · refine good_cons _ _ (by decide) fun w hw => ?_
    simp only [List.mem_cons, List.not_mem_nil, or_false] at hw
    rcases hw with rfl | rfl
    · exact clean_addr _
    · exact clean_bytes _
  · unfold viewWs at hx
    split at hx
    · cases hx
    · simp only [List.mem_cons, List.mem_append, List.mem_map] at hx
      rcases hx with rfl | rfl | ⟨l, _, rfl⟩ | ⟨p, _, rfl⟩ | hx
      · refine good_cons _ _ (by decide) fun w hw => ?_
        simp only [List.mem_cons, List.not_mem_nil, or_false] at hw
        rcases hw with rfl | rfl | rfl | rfl <;> first | exact clean_itoa _ | exact clean_bit _
      · exact good_cons _ _ (by decide) (clean_lease _)
      · exact good_cons _ _ (by decide) (clean_lease _)
      · refine good_cons _ _ (by decide) fun w hw => ?_
        simp only [List.mem_cons, List.not_mem_nil, or_false] at hw
        rw [hw]; exact clean_prefix _ _
      · exact good_tabs _ (by decide) _ x hx
  · unfold ctWs at hx
    split at hx
    · cases hx
    · rw [List.mem_singleton] at hx
      subst hx
      refine good_cons _ _ (by decide) fun w hw => ?_
      obtain ⟨n, _, rfl⟩ := List.mem_map.1 hw
      exact clean_itoa _
  · unfold dkWs at hx
    split at hx
    · cases hx
    · rw [List.mem_singleton] at hx
      subst hx
      refine good_cons _ _ (by decide) fun w hw => ?_
      simp only [List.mem_cons, List.not_mem_nil, or_false] at hw
      rcases hw with rfl | rfl <;> exact clean_bytes _

/-! ### each word tells its value -/
theorem itoa_inj (x y : Int) (hx : I64 x) (hy : I64 y) (h : Lib.itoa x = Lib.itoa y) : x = y := by
  have a := num_there x hx.1 hx.2
  rw [h, num_there y hy.1 hy.2] at a
  exact (Option.some.inj a).symm
theorem addr_inj (x y : Nat) (hx : x < 4294967296) (hy : y < 4294967296) (h : addrL x = addrL y) : x = y := by
  have a := addr_there x hx
  rw [h, addr_there y hy] at a
  exact (Option.some.inj a).symm
theorem bytes_inj (x y : List UInt8) (h : bytesL x = bytesL y) : x = y := by
  have a := unhex_there x
  rw [h, unhex_there y] at a
  exact (Option.some.inj a).symm
theorem hex_inj (x y : List UInt8) (h : hexL x = hexL y) : x = y := by
  have a := unhexGo_hex x
  rw [h, unhexGo_hex y] at a
  exact (Option.some.inj a).symm
theorem name_inj (x y : List UInt8) (h : nameL x = nameL y) : x = y := by
  have hp : ∀ s : List UInt8, s.all plainB = true → ∀ t, s ≠ 37 :: t := by
    intro s hs t e
    subst e
    rw [List.all_cons, Bool.and_eq_true] at hs
    revert hs; simp [plainB]
  unfold nameL at h
  split at h
  · rename_i hx
    split at h
    · exact h
    · exact absurd h (hp x hx.2 _)
  · split at h
    · rename_i hy
      exact absurd h.symm (hp y hy.2 _)
    · exact hex_inj _ _ (List.cons.inj h).2
theorem cut47 (x : List UInt8) : ∀ (y r s : List UInt8), 47 ∉ x → 47 ∉ y → x ++ 47 :: r = y ++ 47 :: s → x = y ∧ r = s := by
  induction x with
  | nil =>
    intro y r s _ hy h
    cases y with
    | nil => exact ⟨rfl, (List.cons.inj h).2⟩
    | cons c y =>
      have := (List.cons.inj h).1
      exact absurd (this ▸ List.mem_cons_self ..) hy
  | cons b x ih =>
    intro y r s hx hy h
    cases y with
    | nil =>
      have := (List.cons.inj h).1
      exact absurd (this ▸ List.mem_cons_self ..) hx
    | cons c y =>
      rw [List.cons_append, List.cons_append, List.cons.injEq] at h
      obtain ⟨h1, h2⟩ := ih y r s (fun m => hx (List.mem_cons_of_mem _ m)) (fun m => hy (List.mem_cons_of_mem _ m)) h.2
      exact ⟨by rw [h.1, h1], h2⟩
theorem addr_no47 (a : Nat) : 47 ∉ addrL a := by
  intro h; rcases addr_plain a _ h with h | h <;> revert h <;> decide
theorem prefix_inj (a b : Nat) (n m : Int) (ha : a < 4294967296) (hb : b < 4294967296) (hn : I64 n) (hm : I64 m) (h : prefixL a n = prefixL b m) : a = b ∧ n = m := by
  obtain ⟨h1, h2⟩ := cut47 _ _ _ _ (addr_no47 a) (addr_no47 b) h
  exact ⟨addr_inj _ _ ha hb h1, itoa_inj _ _ hn hm h2⟩
theorem hexd_inj (m n : Nat) (hm : m < 16) (hn : n < 16) (h : hexd m = hexd n) : m = n := by
  have a := nib_hexd m hm
  rw [h, nib_hexd n hn] at a
  omega
theorem byte_inj (a b : UInt8) (h1 : hexd (a.toNat / 16) = hexd (b.toNat / 16)) (h2 : hexd (a.toNat % 16) = hexd (b.toNat % 16)) : a = b := by
  have ha := a.toNat_lt
  have hb := b.toNat_lt
  have e1 := hexd_inj _ _ (by omega) (by omega) h1
  have e2 := hexd_inj _ _ (by omega) (by omega) h2
  exact UInt8.toNat_inj.1 (by omega)
theorem mac_inj (x y : MacD) (h : x.text = y.text) : x = y := by
  unfold MacD.text macL mac2 at h
  simp only [List.cons_append, List.nil_append, List.cons.injEq, and_true, true_and] at h
  obtain ⟨a1, a2, b1, b2, c1, c2, d1, d2, e1, e2, f1, f2⟩ := h
  cases x; cases y
  simp only at *
  rw [byte_inj _ _ a1 a2, byte_inj _ _ b1 b2, byte_inj _ _ c1 c2, byte_inj _ _ d1 d2, byte_inj _ _ e1 e2, byte_inj _ _ f1 f2]
theorem lease_inj (x y : LeaseD) (hx : x.ok) (hy : y.ok) (h : leaseWs x = leaseWs y) : x = y := by
  simp only [leaseWs, leaseWs.m6, List.cons.injEq, and_true] at h
  obtain ⟨h1, h2, h3, h4, h5, h6⟩ := h
  obtain ⟨x1, x2, x3, x4, x5, x6⟩ := hx
  obtain ⟨y1, y2, y3, y4, y5, y6⟩ := hy
  have e2 := prefix_inj _ _ _ _ x2 y2 x3 y3 h2
  have e1 := itoa_inj _ _ x1 y1 h1
  have e3 := addr_inj _ _ x4 y4 h3
  have e4 := mac_inj _ _ h4
  have e5 := itoa_inj _ _ x5 y5 h5
  have e6 := itoa_inj _ _ x6 y6 h6
  cases x; cases y
  simp only at *
  rw [e1, e2.1, e2.2, e3, e4, e5, e6]
theorem route_inj (x y : RouteD) (hx : x.ok) (hy : y.ok) (h : routeWs x = routeWs y) : x = y := by
  simp only [routeWs, List.cons.injEq, and_true] at h
  obtain ⟨h1, h2, h3⟩ := h
  obtain ⟨x1, x2, x3⟩ := hx
  obtain ⟨y1, y2, y3⟩ := hy
  have e1 := prefix_inj _ _ _ _ x1 y1 x2 y2 h1
  have e2 := addr_inj _ _ x3 y3 h2
  cases x; cases y
  rename_i l1 _ _ _ l2
  simp only at *
  have e3 : l1 = l2 := by
    cases l1 <;> cases l2 <;> first | rfl | (exfalso; simp at h3)
  rw [e1.1, e1.2, e2, e3]
theorem map_inj_on {α β : Type} (f : α → β) (P : α → Prop) (hf : ∀ x y, P x → P y → f x = f y → x = y) (l : List α) : ∀ m : List α, (∀ x ∈ l, P x) → (∀ x ∈ m, P x) → l.map f = m.map f → l = m := by
  induction l with
  | nil => intro m _ _ h; cases m with | nil => rfl | cons y m => simp at h
  | cons x l ih =>
    intro m hl hm h
    cases m with
    | nil => simp at h
    | cons y m =>
      simp only [List.map_cons, List.cons.injEq] at h
      rw [hf x y (hl x (List.mem_cons_self ..)) (hm y (List.mem_cons_self ..)) h.1, ih m (fun u hu => hl u (List.mem_cons_of_mem _ hu)) (fun u hu => hm u (List.mem_cons_of_mem _ hu)) h.2]
theorem map_val_on {α β γ : Type} (f : α → β) (g : α → γ) (P : α → Prop) (hf : ∀ x y, P x → P y → f x = f y → g x = g y) (l : List α) : ∀ m : List α, (∀ x ∈ l, P x) → (∀ x ∈ m, P x) → l.map f = m.map f → l.map g = m.map g := by
  induction l with
  | nil => intro m _ _ h; cases m with | nil => rfl | cons y m => simp at h
  | cons x l ih =>
    intro m hl hm h
    cases m with
    | nil => simp at h
    | cons y m =>
      simp only [List.map_cons, List.cons.injEq] at h ⊢
      exact ⟨hf x y (hl x (List.mem_cons_self ..)) (hm y (List.mem_cons_self ..)) h.1, ih m (fun u hu => hl u (List.mem_cons_of_mem _ hu)) (fun u hu => hm u (List.mem_cons_of_mem _ hu)) h.2⟩

/-! ### the lines of one kind -/
def selL (T : List UInt8) (L : List (List (List UInt8))) : List (List (List UInt8)) := L.filter fun ws => ws.headD [] == T
theorem sel_append (T : List UInt8) (L M : List (List (List UInt8))) : selL T (L ++ M) = selL T L ++ selL T M := List.filter_append ..
theorem sel_cons_yes (T : List UInt8) (x : List (List UInt8)) (M : List (List (List UInt8))) (h : x.headD [] = T) : selL T (x :: M) = x :: selL T M := by
  unfold selL; rw [List.filter_cons, if_pos (by simpa using h)]
theorem sel_cons_no (T : List UInt8) (x : List (List UInt8)) (M : List (List (List UInt8))) (h : x.headD [] ≠ T) : selL T (x :: M) = selL T M := by
  unfold selL; rw [List.filter_cons, if_neg (by simpa using h)]
theorem sel_map {α : Type} (T tag : List UInt8) (f : α → List (List UInt8)) (l : List α) (h : ∀ x, (f x).headD [] = tag) : selL T (l.map f) = if tag = T then l.map f else [] := by
  induction l with
  | nil => simp [selL]
  | cons x l ih =>
    by_cases e : tag = T
    · rw [if_pos e, List.map_cons, sel_cons_yes T _ _ ((h x).trans e), ih, if_pos e]
    · rw [if_neg e, List.map_cons, sel_cons_no T _ _ (by rw [h x]; exact e), ih, if_neg e]
theorem sel_nil (T : List UInt8) : selL T [] = [] := rfl
theorem sel_cons (T tag : List UInt8) (x : List (List UInt8)) (M : List (List (List UInt8))) (h : x.headD [] = tag) : selL T (x :: M) = (if tag = T then [x] else []) ++ selL T M := by
  by_cases e : tag = T
  · rw [if_pos e, sel_cons_yes _ _ _ (h.trans e)]; rfl
  · rw [if_neg e, sel_cons_no _ _ _ (by rw [h]; exact e)]; rfl

/-- the fields in the ranges that the types bear -/
structure ReplyD.In (r : ReplyD) : Prop where
  err : I64 r.err
  n : I64 r.n
  verdict : I64 r.verdict
  why : I64 r.why
  req : I64 r.req
  given : ∀ x ∈ r.given, I64 x.host ∧ x.dst < 4294967296
  leases : ∀ x ∈ r.leases, x.ok
  routes : ∀ x ∈ r.tabs.routes, x.ok
  neighs : ∀ x ∈ r.tabs.neighs, x.ok
  fdbs : ∀ x ∈ r.tabs.fdbs, x.ok
  pods : ∀ x ∈ r.pods, x.a < 4294967296
  flight : ∀ x ∈ r.flight, x.dst < 4294967296
  vlease : r.view.lease.ok
  vcur : I64 r.view.cursor
  vleases : ∀ x ∈ r.view.leases, x.ok
  vskip : ∀ x ∈ r.view.skipped, x.ok
  vroutes : ∀ x ∈ r.view.tabs.routes, x.ok
  vneighs : ∀ x ∈ r.view.tabs.neighs, x.ok
  vfdbs : ∀ x ∈ r.view.tabs.fdbs, x.ok
  counts : ∀ x ∈ r.counts, I64 x
theorem ReplyD.Ok.range {r : ReplyD} {w : World} (h : r.Ok w) : r.In :=
  ⟨h.err, h.n, h.verdict, h.why, h.req, fun x hx => ⟨(h.given x hx).1, (h.given x hx).2.1⟩, h.leases, h.routes, h.neighs, h.fdbs, fun x hx => (h.pods x hx).1, fun x hx => (h.flight x hx).1, h.vlease, h.vcur, h.vleases, h.vskip, h.vroutes, h.vneighs, h.vfdbs, h.counts⟩

def tailWs (r : ReplyD) : List (List (List UInt8)) := r.given.map givenWs ++ (r.leases.map lsWs ++ (tbWs [] r.tabs ++ (r.pods.map podWs ++ (r.flight.map sentWs ++ (viewWs r.view ++ (ctWs r.counts ++ dkWs r.diskA r.diskB))))))
theorem empty_lists {v : ViewD} (h : v.Empty) : v.leases = [] ∧ v.skipped = [] ∧ v.tabs.routes = [] ∧ v.tabs.neighs = [] ∧ v.tabs.fdbs = [] := by
  have := h.1
  unfold ViewD.lists at this
  exact ⟨List.eq_nil_of_length_eq_zero (by omega), List.eq_nil_of_length_eq_zero (by omega), List.eq_nil_of_length_eq_zero (by omega), List.eq_nil_of_length_eq_zero (by omega), List.eq_nil_of_length_eq_zero (by omega)⟩
/-- a view's own two lines, and its lists -/
theorem view_form (v : ViewD) : viewWs v = (if v.Empty then [] else [vwWs v, ownWs v.lease]) ++ (v.leases.map knWs ++ (v.skipped.map skWs ++ tbWs [104, 97, 115, 45] v.tabs)) := by
  unfold viewWs
  by_cases h : v.Empty
  · obtain ⟨h1, h2, h3, h4, h5⟩ := empty_lists h
    rw [if_pos h, if_pos h, h1, h2, tbWs, h3, h4, h5]; rfl
  · rw [if_neg h, if_neg h]; rfl
theorem sel_tb (T ahead : List UInt8) (t : TablesD) : selL T (tbWs ahead t) = (if ahead ++ [114, 111, 117, 116, 101] = T then t.routes.map (rtWs ahead) else []) ++ ((if ahead ++ [110, 101, 105, 103, 104] = T then t.neighs.map (ngWs ahead) else []) ++ (if ahead ++ [102, 100, 98] = T then t.fdbs.map (fdWs ahead) else [])) := by
  unfold tbWs
  rw [sel_append, sel_append, sel_map T (ahead ++ [114, 111, 117, 116, 101]) (rtWs ahead) _ (fun _ => rfl), sel_map T (ahead ++ [110, 101, 105, 103, 104]) (ngWs ahead) _ (fun _ => rfl), sel_map T (ahead ++ [102, 100, 98]) (fdWs ahead) _ (fun _ => rfl)]
theorem sel_view (T : List UInt8) (v : ViewD) : selL T (viewWs v) = (if v.Empty then [] else (if [118, 105, 101, 119] = T then [vwWs v] else []) ++ (if [111, 119, 110] = T then [ownWs v.lease] else [])) ++ ((if [107, 110, 111, 119, 115] = T then v.leases.map knWs else []) ++ ((if [115, 107, 105, 112, 112, 101, 100] = T then v.skipped.map skWs else []) ++ selL T (tbWs [104, 97, 115, 45] v.tabs))) := by
  rw [view_form, sel_append, sel_append, sel_append, sel_map T _ knWs _ (fun _ => rfl), sel_map T _ skWs _ (fun _ => rfl)]
  congr 1
  by_cases h : v.Empty
  · rw [if_pos h, if_pos h]; rfl
  · rw [if_neg h, if_neg h, sel_cons T [118, 105, 101, 119] _ _ rfl, sel_cons T [111, 119, 110] _ _ rfl, sel_nil, List.append_nil]
theorem sel_tail (T : List UInt8) (r : ReplyD) : selL T (tailWs r) = (if [103, 105, 118, 101, 110] = T then r.given.map givenWs else []) ++ ((if [108, 101, 97, 115, 101] = T then r.leases.map lsWs else []) ++ (selL T (tbWs [] r.tabs) ++ ((if [112, 111, 100] = T then r.pods.map podWs else []) ++ ((if [115, 101, 110, 116] = T then r.flight.map sentWs else []) ++ (selL T (viewWs r.view) ++ ((if [99, 111, 117, 110, 116, 115] = T then ctWs r.counts else []) ++ (if [100, 105, 115, 107] = T then dkWs r.diskA r.diskB else []))))))) := by
  unfold tailWs
  have hc : selL T (ctWs r.counts) = if [99, 111, 117, 110, 116, 115] = T then ctWs r.counts else [] := by
    unfold ctWs
    by_cases h : r.counts = []
    · simp [h, selL]
    · rw [if_neg h, sel_cons T [99, 111, 117, 110, 116, 115] _ _ rfl, sel_nil, List.append_nil]
  have hd : selL T (dkWs r.diskA r.diskB) = if [100, 105, 115, 107] = T then dkWs r.diskA r.diskB else [] := by
    unfold dkWs
    by_cases h : r.diskA.length + r.diskB.length = 0
    · simp [h, selL]
    · rw [if_neg h, sel_cons T [100, 105, 115, 107] _ _ rfl, sel_nil, List.append_nil]
  rw [sel_append, sel_append, sel_append, sel_append, sel_append, sel_append, sel_append, sel_map T _ givenWs _ (fun _ => rfl), sel_map T _ lsWs _ (fun _ => rfl), sel_map T _ podWs _ (fun _ => rfl), sel_map T _ sentWs _ (fun _ => rfl), hc, hd]
/-- a section of the lines by its tag -/
theorem sect {a b : ReplyD} (h : tailWs a = tailWs b) (T : List UInt8) : selL T (tailWs a) = selL T (tailWs b) := congrArg (selL T) h
theorem bit_inj (a b : Bool) (h : bitL a = bitL b) : a = b := by
  cases a <;> cases b <;> first | rfl | (exfalso; revert h; decide)
theorem neigh_inj (ah : List UInt8) (x y : NeighD) (hx : x.ok) (hy : y.ok) (h : ngWs ah x = ngWs ah y) : x = y := by
  simp only [ngWs, List.cons.injEq, and_true, true_and] at h
  have e1 := addr_inj _ _ hx hy h.1
  have e2 := mac_inj _ _ h.2
  cases x; cases y
  simp only at *
  rw [e1, e2]
theorem fdb_inj (ah : List UInt8) (x y : FdbD) (hx : x.ok) (hy : y.ok) (h : fdWs ah x = fdWs ah y) : x = y := by
  simp only [fdWs, List.cons.injEq, and_true, true_and] at h
  have e1 := addr_inj _ _ hx hy h.2
  have e2 := mac_inj _ _ h.1
  cases x; cases y
  simp only at *
  rw [e1, e2]
theorem skip_inj (x y : PrefixD) (hx : x.ok) (hy : y.ok) (h : skWs x = skWs y) : x = y := by
  simp only [skWs, PrefixD.text, List.cons.injEq, and_true, true_and] at h
  have e := prefix_inj _ _ _ _ hx.1 hy.1 hx.2 hy.2 h
  cases x; cases y
  simp only at *
  rw [e.1, e.2]
theorem rt_inj (ah : List UInt8) (x y : RouteD) (hx : x.ok) (hy : y.ok) (h : rtWs ah x = rtWs ah y) : x = y := route_inj x y hx hy (List.cons.inj h).2
theorem given_val (x y : GivenD) (hx : I64 x.host ∧ x.dst < 4294967296) (hy : I64 y.host ∧ y.dst < 4294967296) (h : givenWs x = givenWs y) : x.val = y.val := by
  simp only [givenWs, List.cons.injEq, and_true, true_and] at h
  unfold GivenD.val
  rw [itoa_inj _ _ hx.1 hy.1 h.1, addr_inj _ _ hx.2 hy.2 h.2.1, name_inj _ _ h.2.2.1, bytes_inj _ _ h.2.2.2]
theorem pod_val (x y : PodD) (hx : x.a < 4294967296) (hy : y.a < 4294967296) (h : podWs x = podWs y) : x.val = y.val := by
  simp only [podWs, List.cons.injEq, and_true, true_and] at h
  unfold PodD.val
  rw [addr_inj _ _ hx hy h.2, name_inj _ _ h.1]
theorem sent_val (x y : SentD) (hx : x.dst < 4294967296) (hy : y.dst < 4294967296) (h : sentWs x = sentWs y) : x.val = y.val := by
  simp only [sentWs, List.cons.injEq, and_true, true_and] at h
  unfold SentD.val
  rw [addr_inj _ _ hx hy h.1, bytes_inj _ _ h.2]
theorem counts_inj (x y : List Int) (hx : ∀ n ∈ x, I64 n) (hy : ∀ n ∈ y, I64 n) (h : ctWs x = ctWs y) : x = y := by
  unfold ctWs at h
  by_cases ex : x = []
  · by_cases ey : y = []
    · rw [ex, ey]
    · rw [if_pos ex, if_neg ey] at h; cases h
  · by_cases ey : y = []
    · rw [if_neg ex, if_pos ey] at h; cases h
    · rw [if_neg ex, if_neg ey] at h
      exact map_inj_on _ I64 itoa_inj x y hx hy (List.cons.inj (List.cons.inj h).1).2
theorem disk_inj (x y u v : List UInt8) (h : dkWs x y = dkWs u v) : x = u ∧ y = v := by
  unfold dkWs at h
  by_cases ex : x.length + y.length = 0
  · by_cases ey : u.length + v.length = 0
    · rw [List.eq_nil_of_length_eq_zero (l := x) (by omega), List.eq_nil_of_length_eq_zero (l := y) (by omega), List.eq_nil_of_length_eq_zero (l := u) (by omega), List.eq_nil_of_length_eq_zero (l := v) (by omega)]
      exact ⟨rfl, rfl⟩
    · rw [if_pos ex, if_neg ey] at h; cases h
  · by_cases ey : u.length + v.length = 0
    · rw [if_neg ex, if_pos ey] at h; cases h
    · rw [if_neg ex, if_neg ey] at h
      simp only [List.cons.injEq, and_true, true_and] at h
      exact ⟨bytes_inj _ _ h.1, bytes_inj _ _ h.2⟩
/-- one text, one reply -/
theorem same_of_text {a b : ReplyD} (ha : a.In) (hb : b.In) (h : replyL a = replyL b) : SameR a b := by
  rw [← txt_reply, ← txt_reply] at h
  have hw := txt_inj _ _ (good_reply a) (good_reply b) h
  have hh : hdWs a = hdWs b := (List.cons.inj hw).1
  have ht : tailWs a = tailWs b := (List.cons.inj hw).2
  clear hw h
  simp only [hdWs, List.cons.injEq, and_true, true_and] at hh
  obtain ⟨e1, e2, e3, e4, e5⟩ := hh
  have s1 := sect ht [103, 105, 118, 101, 110]
  have s2 := sect ht [108, 101, 97, 115, 101]
  have s3 := sect ht [114, 111, 117, 116, 101]
  have s4 := sect ht [110, 101, 105, 103, 104]
  have s5 := sect ht [102, 100, 98]
  have s6 := sect ht [112, 111, 100]
  have s7 := sect ht [115, 101, 110, 116]
  have s8 := sect ht [118, 105, 101, 119]
  have s9 := sect ht [111, 119, 110]
  have s10 := sect ht [107, 110, 111, 119, 115]
  have s11 := sect ht [115, 107, 105, 112, 112, 101, 100]
  have s12 := sect ht [104, 97, 115, 45, 114, 111, 117, 116, 101]
  have s13 := sect ht [104, 97, 115, 45, 110, 101, 105, 103, 104]
  have s14 := sect ht [104, 97, 115, 45, 102, 100, 98]
  have s15 := sect ht [99, 111, 117, 110, 116, 115]
  have s16 := sect ht [100, 105, 115, 107]
  clear ht
  simp [sel_tail, sel_view, sel_tb] at s1 s2 s3 s4 s5 s6 s7 s8 s9 s10 s11 s12 s13 s14 s15 s16
  have v8 : a.view.has = b.view.has ∧ a.view.lease = b.view.lease ∧ a.view.cursor = b.view.cursor ∧ a.view.synced = b.view.synced ∧ a.view.degraded = b.view.degraded := by
    by_cases ea : a.view.Empty
    · by_cases eb : b.view.Empty
      · exact ⟨ea.2.1.trans eb.2.1.symm, ea.2.2.1.trans eb.2.2.1.symm, ea.2.2.2.1.trans eb.2.2.2.1.symm, ea.2.2.2.2.1.trans eb.2.2.2.2.1.symm, ea.2.2.2.2.2.trans eb.2.2.2.2.2.symm⟩
      · rw [if_pos ea, if_neg eb] at s8; cases s8
    · by_cases eb : b.view.Empty
      · rw [if_neg ea, if_pos eb] at s8; cases s8
      · rw [if_neg ea, if_neg eb] at s8 s9
        have q9 := (List.cons.inj (List.cons.inj s9).1).2
        have q8 := (List.cons.inj s8).1
        simp only [vwWs, List.cons.injEq, and_true, true_and] at q8
        exact ⟨bit_inj _ _ q8.1, lease_inj _ _ ha.vlease hb.vlease q9, itoa_inj _ _ ha.vcur hb.vcur q8.2.1, bit_inj _ _ q8.2.2.1, bit_inj _ _ q8.2.2.2⟩
  have li : ∀ x y : LeaseD, x.ok → y.ok → lsWs x = lsWs y → x = y := fun x y hx hy h => lease_inj x y hx hy (List.cons.inj h).2
  have ki : ∀ x y : LeaseD, x.ok → y.ok → knWs x = knWs y → x = y := fun x y hx hy h => lease_inj x y hx hy (List.cons.inj h).2
  have d16 := disk_inj _ _ _ _ s16
  exact {
    err := itoa_inj _ _ ha.err hb.err e1
    n := itoa_inj _ _ ha.n hb.n e2
    verdict := itoa_inj _ _ ha.verdict hb.verdict e3
    why := itoa_inj _ _ ha.why hb.why e4
    req := itoa_inj _ _ ha.req hb.req e5
    given := map_val_on _ _ _ given_val _ _ ha.given hb.given s1
    leases := map_inj_on _ _ li _ _ ha.leases hb.leases s2
    routes := map_inj_on _ _ (rt_inj _) _ _ ha.routes hb.routes s3
    neighs := map_inj_on _ _ (neigh_inj _) _ _ ha.neighs hb.neighs s4
    fdbs := map_inj_on _ _ (fdb_inj _) _ _ ha.fdbs hb.fdbs s5
    pods := map_val_on _ _ _ pod_val _ _ ha.pods hb.pods s6
    flight := map_val_on _ _ _ sent_val _ _ ha.flight hb.flight s7
    has := v8.1
    lease := v8.2.1
    cursor := v8.2.2.1
    synced := v8.2.2.2.1
    degraded := v8.2.2.2.2
    vleases := map_inj_on _ _ ki _ _ ha.vleases hb.vleases s10
    skipped := map_inj_on _ _ skip_inj _ _ ha.vskip hb.vskip s11
    vroutes := map_inj_on _ _ (rt_inj _) _ _ ha.vroutes hb.vroutes s12
    vneighs := map_inj_on _ _ (neigh_inj _) _ _ ha.vneighs hb.vneighs s13
    vfdbs := map_inj_on _ _ (fdb_inj _) _ _ ha.vfdbs hb.vfdbs s14
    counts := counts_inj _ _ ha.counts hb.counts s15
    diskA := d16.1
    diskB := d16.2 }
theorem flat_val {α β : Type} (f : α → List UInt8) (g : α → β) (h : ∀ x y, g x = g y → f x = f y) (l : List α) : ∀ m : List α, l.map g = m.map g → l.flatMap f = m.flatMap f := by
  induction l with
  | nil => intro m e; cases m with | nil => rfl | cons y m => cases e
  | cons x l ih =>
    intro m e
    cases m with
    | nil => cases e
    | cons y m =>
      have e' := List.cons.inj e
      rw [List.flatMap_cons, List.flatMap_cons, h x y e'.1, ih m e'.2]
/-- one reply, one text -/
theorem text_of_same {a b : ReplyD} (h : SameR a b) : replyL a = replyL b := by
  have hv : viewL a.view = viewL b.view := by
    have e : a.view = b.view := by
      obtain ⟨h1, h2, h3, h4, h5, h6, h7, h8, h9, h10⟩ := (⟨h.has, h.lease, h.cursor, h.synced, h.degraded, h.vleases, h.skipped, h.vroutes, h.vneighs, h.vfdbs⟩ : _ ∧ _ ∧ _ ∧ _ ∧ _ ∧ _ ∧ _ ∧ _ ∧ _ ∧ _)
      revert h1 h2 h3 h4 h5 h6 h7 h8 h9 h10
      generalize a.view = x
      generalize b.view = y
      obtain ⟨x1, x2, x3, x4, x5, x6, x7, x8, x9, x10⟩ := x
      obtain ⟨y1, y2, y3, y4, y5, y6, y7, y8, y9, y10⟩ := y
      rintro rfl rfl rfl rfl rfl rfl rfl rfl rfl rfl
      rfl
    rw [e]
  have ht : a.tabs = b.tabs := by
    have h1 := h.routes
    have h2 := h.neighs
    have h3 := h.fdbs
    revert h1 h2 h3
    generalize a.tabs = x
    generalize b.tabs = y
    obtain ⟨x1, x2, x3⟩ := x
    obtain ⟨y1, y2, y3⟩ := y
    rintro rfl rfl rfl
    rfl
  have hg := flat_val givenLine GivenD.val (fun x y e => by
    unfold GivenD.val at e
    simp only [Prod.mk.injEq] at e
    unfold givenLine
    rw [e.1, e.2.1, e.2.2.1, e.2.2.2]) _ _ h.given
  have hp := flat_val podLine PodD.val (fun x y e => by
    unfold PodD.val at e
    simp only [Prod.mk.injEq] at e
    unfold podLine
    rw [e.1, e.2]) _ _ h.pods
  have hs := flat_val sentLine SentD.val (fun x y e => by
    unfold SentD.val at e
    simp only [Prod.mk.injEq] at e
    unfold sentLine
    rw [e.1, e.2]) _ _ h.flight
  unfold replyL headL
  rw [h.err, h.n, h.verdict, h.why, h.req, hg, h.leases, ht, hp, hs, hv, h.counts, h.diskA, h.diskB]
/-- P20.4 -/
theorem text_same {a b : ReplyD} (ha : a.In) (hb : b.In) : replyL a = replyL b ↔ SameR a b := ⟨same_of_text ha hb, text_of_same⟩
end Go.Proofs.YtmnkdnpjcfmjgaaGreatDoor
