/- Package weftlaw20, rounds: what its loops keep of the lists that they fill: slices of fresh bytes, each in memory of its own. -/
import Derived.Test.YtmnkdnpjcfmjgaaGreatDoorFilled
import Derived.Test.YtmnkdnpjcfmjgaaGreatDoorFreshLaw
import Derived.Test.YtmnkdnpjcfmjgaaGreatDoorLaw
import Derived.ArgAppend
namespace Go.Proofs.YtmnkdnpjcfmjgaaGreatDoor
open Go.RowKit

/-- append to what the call owns: the same row where there is room, else a new one -/
def Moved (w w' : World) (v v' : Value) (n : Nat) : Prop :=
  ((∃ g cap, v = .slice (some ⟨g, 0, none⟩) n cap ∧ v' = .slice (some ⟨g, 0, none⟩) (n + 1) cap ∧ n + 1 ≤ cap) ∧ w.grownBy w' v.ownBlock) ∨
  ((∃ g cap, v' = .slice (some ⟨g, 0, none⟩) (n + 1) cap ∧ w.heap.size ≤ g) ∧ w.grownBy w' none)
theorem grown_none {w w' : World} (h : w.grownBy w' none) (r : Option Nat) : w.grownBy w' r :=
  ⟨h.os, h.tape, h.output, h.size, fun k hk _ => h.block k hk (by simp)⟩
theorem Moved.grown {w w' : World} {v v' : Value} {n : Nat} (h : Moved w w' v v' n) : w.grownBy w' v.ownBlock := by
  rcases h with ⟨_, h⟩ | ⟨_, h⟩
  · exact h
  · exact grown_none h _
theorem Moved.block {w w' : World} {v v' : Value} {n : Nat} (h : Moved w w' v v' n) : v'.ownBlock = v.ownBlock ∨ ∀ k, v'.ownBlock = some k → w.heap.size ≤ k := by
  rcases h with ⟨⟨g, cap, rfl, rfl, _⟩, _⟩ | ⟨⟨g, cap, rfl, hg⟩, _⟩
  · exact .inl rfl
  · refine .inr fun k hk => ?_
    simp [Value.ownBlock] at hk
    omega

section
variable {P : Program} (w : World)
theorem own_shape {w : World} {base e size n : Nat} {v : Value} {xs : List Value} (h : w.ownsRow base e size v (n + 1) xs) : ∃ g cap, v = .slice (some ⟨g, 0, none⟩) (n + 1) cap ∧ base ≤ g := by
  rcases h.2 with ⟨_, h0⟩ | ⟨g, cap, cur, rfl, hb, _⟩
  · omega
  · exact ⟨g, cap, rfl, hb⟩
theorem run_append_moved (base : Nat) (t ty e : TypeId) (i : TypeInfo) (z : Value) (size bytes : Nat) (ht : P.underlying t = some (.slice e)) (hi : P.info? e = some i) (hz : i.zero = some z)
    (hsize : i.size = size) (hby : i.bytes = bytes) (hzs : z.cells.size = size) (hsz : 0 < size)
    (v : Value) (n : Nat) (xs : List Value) (hown : w.ownsRow base e size v n xs)
    (a : Addr) (c : Nat) (news : List Value) (hl : news.length = 1 * size) (hnews : ∀ j u, news[j]? = some u → w.cell? (a.add j) = some u) (h1 : ∀ u ∈ news, u.oneCell' = true)
    (h63 : n + 1 ≤ maxLen) (hbytes : (n + 1) * bytes ≤ 140737488355328) (hbase : base ≤ w.heap.size) :
    ∃ v' w', (Builtin.append_ #[t, t] ty #[v, .slice (some a) 1 c]).run P w = .ok v' w' ∧ w'.ownsRow base e size v' (n + 1) (xs ++ news) ∧ Moved w w' v v' n := by
  rcases hown.2 with ⟨rfl, rfl⟩ | ⟨g, cap, cur, rfl, hbg, hg, hnc, hcm, hcs, htake⟩
  · obtain rfl : xs = [] := List.eq_nil_of_length_eq_zero (by simpa using hown.1)
    obtain ⟨v', w', hr, ho, hgr, hnil⟩ := run_append_own (P := P) w w.heap.size t ty e i z size bytes ht hi hz hsize hby hzs hsz (.slice none 0 0) 0 [] (World.ownsRow_nil w _ e size) a 1 c news hl hnews h1 h63 hbytes (Nat.le_refl _)
    obtain ⟨g, cap, rfl, hg⟩ := own_shape ho
    exact ⟨_, w', hr, World.ownsRow.mono ho hbase, .inr ⟨⟨g, cap, rfl, hg⟩, hgr⟩⟩
  · by_cases hroom : n + 1 ≤ cap
    · obtain ⟨w', hr, ho, hgr⟩ := run_append_fits (P := P) w base t ty e i size ht hi hsize g n cap xs hown a 1 c news hl hnews h1 hroom
      exact ⟨_, w', hr, ho, .inl ⟨⟨g, cap, rfl, rfl, hroom⟩, hgr⟩⟩
    · have holds : ∀ j u, xs[j]? = some u → w.cell? ((⟨g, 0, none⟩ : Addr).add j) = some u := hown.cells (g := g) rfl
      obtain ⟨v', w', hr, ho, hgr⟩ := run_append_arg_grows (P := P) w t ty e i z size bytes ht hi hz hsize hby hzs hsz ⟨g, 0, none⟩ n cap xs hown.1 holds a 1 c news hl hnews (by omega) h63 hbytes
      obtain ⟨g', cap', rfl, hg'⟩ := own_shape ho
      exact ⟨_, w', hr, World.ownsRow.mono ho hbase, .inr ⟨⟨g', cap', rfl, hg'⟩, hgr⟩⟩
theorem wpList_append_moved {ops : Array Oper} {rest : List Oper} {o : Oper} {a : Act} {Q : Exit → Act → World → Prop} (hgd : o.guard = none) (s x : Operand) (t : TypeId)
    (ho : o.op = .call { callee := .builtin .append, args := #[s, x], argTypes := #[t, t] })
    (base : Nat) (e : TypeId) (i : TypeInfo) (z : Value) (size bytes : Nat) (ht : P.underlying t = some (.slice e)) (hi : P.info? e = some i) (hz : i.zero = some z)
    (hsize : i.size = size) (hby : i.bytes = bytes) (hzs : z.cells.size = size) (hsz : 0 < size)
    (v : Value) (n : Nat) (xs : List Value) (hs : a.eval s = v) (hown : w.ownsRow base e size v n xs)
    (ad : Addr) (c : Nat) (news : List Value) (hx : a.eval x = .slice (some ad) 1 c) (hl : news.length = 1 * size) (hnews : ∀ j u, news[j]? = some u → w.cell? (ad.add j) = some u) (h1 : ∀ u ∈ news, u.oneCell' = true)
    (h63 : n + 1 ≤ maxLen) (hbytes : (n + 1) * bytes ≤ 140737488355328) (hbase : base ≤ w.heap.size)
    (h : ∀ v' w', w'.ownsRow base e size v' (n + 1) (xs ++ news) → Moved w w' v v' n → wpList P ops Q rest (a.put o.dst v') w') : wpList P ops Q (o :: rest) a w := by
  refine wpList_plain hgd fun _ hK => ?_
  obtain ⟨v', w', hr, h2, h3⟩ := run_append_moved (P := P) w base t o.type e i z size bytes ht hi hz hsize hby hzs hsz v n xs hown ad c news hl hnews h1 h63 hbytes hbase
  unfold Oper.wp execOp
  simp only [ho, resolve, invoke, builtin, Sem.run_bind, Sem.run_pure, Result.andThen_ok, List.map_toArray, List.map_cons, List.map_nil, hs, hx, hr]
  exact hK _ _ (h v' w' h2 h3)
end

theorem own_types {w : World} {B B' e e' s s' n n' : Nat} {v v' : Value} {xs xs' : List Value} (h : w.ownsRow B e s v n xs) (h' : w.ownsRow B' e' s' v' n' xs') (he : e ≠ e') : v.ownBlock = none ∨ v.ownBlock ≠ v'.ownBlock := by
  rcases h.2 with ⟨rfl, _⟩ | ⟨g, cap, cur, rfl, _, hg, _⟩
  · exact .inl rfl
  · refine .inr fun hq => ?_
    rcases h'.2 with ⟨rfl, _⟩ | ⟨g', cap', cur', rfl, _, hg', _⟩
    · simp [Value.ownBlock] at hq
    · simp [Value.ownBlock] at hq
      subst hq
      rw [hg] at hg'
      simp at hg'
      exact he hg'.2
theorem Fresh.types {w : World} {B B' e s n : Nat} {v v' : Value} {xs : List Value} {l : List UInt8} (h : Fresh B w v l) (h' : w.ownsRow B' e s v' n xs) (he : 5 ≠ e) : v.ownBlock = none ∨ v.ownBlock ≠ v'.ownBlock := by
  rcases h with ⟨rfl, _⟩ | ⟨g, rfl, h⟩
  · exact .inl rfl
  · exact own_types h h' he
theorem Fresh.keptBy {w w' : World} {B : Nat} {v : Value} {l : List UInt8} {r : Option Nat} (h : Fresh B w v l) (hg : w.grownBy w' r) (hr : v.ownBlock = none ∨ v.ownBlock ≠ r) : Fresh B w' v l := by
  rcases h with h | ⟨g, rfl, h⟩
  · exact .inl h
  · exact .inr ⟨g, rfl, h.kept hg hr⟩
theorem Fresh.lt {w : World} {B : Nat} {v : Value} {l : List UInt8} (h : Fresh B w v l) : ∀ k, v.ownBlock = some k → B ≤ k ∧ k < w.heap.size := by
  rcases h with ⟨rfl, _⟩ | ⟨g, rfl, h⟩
  · intro k hk; cases hk
  · exact h.lt

/-- what rounds holds: all, the lists that it has read; grown, those of them that are written full; each its own memory -/
structure Rd (w0 w : World) (va vg : Value) (vs : List Value) (j : Nat) (c : Nat → List UInt8) : Prop where
  below : Below w0.heap.size w0 w
  all : w.ownsRow w0.heap.size 22 1 va vs.length vs
  grown : w.ownsRow w0.heap.size 22 1 vg j (vs.take j)
  le : j ≤ vs.length
  apart : va.ownBlock = none ∨ va.ownBlock ≠ vg.ownBlock
  each : ∀ (k : Nat) v, vs[k]? = some v → Fresh w0.heap.size w v (c k)
  diff : ∀ (k k' : Nat) v v', k ≠ k' → vs[k]? = some v → vs[k']? = some v' → v.ownBlock = none ∨ v.ownBlock ≠ v'.ownBlock
theorem Rd.start (w : World) (c : Nat → List UInt8) : Rd w w (.slice none 0 0) (.slice none 0 0) [] 0 c :=
  ⟨Below.refl _ _, World.ownsRow_nil _ _ _ _, World.ownsRow_nil _ _ _ _, Nat.le_refl _, .inl rfl, fun k v h => by simp at h, fun k k' v v' _ h => by simp at h⟩
theorem Rd.grew {w0 w w' : World} {va vg : Value} {vs : List Value} {j : Nat} {c : Nat → List UInt8} (h : Rd w0 w va vg vs j c) (hb : Below w.heap.size w w') : Rd w0 w' va vg vs j c :=
  ⟨h.below.trans (hb.mono h.below.size), row_below h.all hb, row_below h.grown hb, h.le, h.apart, fun k v hv => (h.each k v hv).below hb, h.diff⟩
theorem Rd.cong {w0 w : World} {va vg : Value} {vs : List Value} {j : Nat} {c c' : Nat → List UInt8} (h : Rd w0 w va vg vs j c) (hc : ∀ k, k < vs.length → c k = c' k) : Rd w0 w va vg vs j c' :=
  ⟨h.below, h.all, h.grown, h.le, h.apart, fun k v hv => by rw [← hc k (List.getElem?_eq_some_iff.1 hv).1]; exact h.each k v hv, h.diff⟩
/-- one list more -/
theorem Rd.push {w0 w w' : World} {va vg va' v : Value} {vs : List Value} {j : Nat} {c : Nat → List UInt8} (h : Rd w0 w va vg vs j c) (hf : Fresh w0.heap.size w v (c vs.length))
    (hnew : ∀ (k : Nat) u, vs[k]? = some u → (u.ownBlock = none ∨ u.ownBlock ≠ v.ownBlock) ∧ (v.ownBlock = none ∨ v.ownBlock ≠ u.ownBlock))
    (ho : w'.ownsRow w0.heap.size 22 1 va' (vs.length + 1) (vs ++ [v])) (hm : Moved w w' va va' vs.length) : Rd w0 w' va' vg (vs ++ [v]) j c := by
  have hg := hm.grown
  have hga : vg.ownBlock = none ∨ vg.ownBlock ≠ va.ownBlock := by
    rcases h.apart with h1 | h1
    · rw [h1]; cases vg.ownBlock <;> simp
    · exact .inr fun q => h1 q.symm
  refine ⟨?_, ?_, ?_, ?_, ?_, ?_, ?_⟩
  · exact h.below.grown hg h.below.size fun k hk => (h.all.lt k hk).1
  · rw [List.length_append]; exact ho
  · rw [List.take_append_of_le_length h.le]
    exact h.grown.kept hg hga
  · rw [List.length_append]; exact Nat.le_trans h.le (Nat.le_add_right _ _)
  · rcases hm.block with hq | hq
    · rw [hq]; exact h.apart
    · cases hv : va'.ownBlock with
      | none => exact .inl rfl
      | some k =>
        refine .inr fun e => ?_
        have := (h.grown.lt k e.symm).2
        have := hq k hv
        omega
  · intro k u hu
    by_cases hk : k < vs.length
    · rw [List.getElem?_append_left hk] at hu
      exact (h.each k u hu).keptBy hg ((h.each k u hu).types h.all (by decide))
    · obtain rfl : k = vs.length := by
        have := (List.getElem?_eq_some_iff.1 hu).1
        simp at this; omega
      simp at hu
      subst hu
      exact hf.keptBy hg (hf.types h.all (by decide))
  · intro k k' u u' hkk hu hu'
    by_cases hk : k < vs.length
    · rw [List.getElem?_append_left hk] at hu
      by_cases hk' : k' < vs.length
      · rw [List.getElem?_append_left hk'] at hu'
        exact h.diff k k' u u' hkk hu hu'
      · obtain rfl : k' = vs.length := by
          have := (List.getElem?_eq_some_iff.1 hu').1
          simp at this; omega
        simp at hu'
        subst hu'
        exact (hnew k u hu).1
    · obtain rfl : k = vs.length := by
        have := (List.getElem?_eq_some_iff.1 hu).1
        simp at this; omega
      simp at hu
      subst hu
      by_cases hk' : k' < vs.length
      · rw [List.getElem?_append_left hk'] at hu'
        exact (hnew k' u' hu').2
      · have := (List.getElem?_eq_some_iff.1 hu').1
        simp at this; omega
/-- a list is written full -/
theorem Rd.filled {w0 w w' : World} {va vg v : Value} {vs : List Value} {j k : Nat} {c : Nat → List UInt8} (h : Rd w0 w va vg vs j c) (hk : vs[k]? = some v) (l : List UInt8) (hf : Fresh w0.heap.size w' v l) (hg : w.grownBy w' v.ownBlock) :
    Rd w0 w' va vg vs j (fun i => if i = k then l else c i) := by
  have hty : ∀ {u : Value} {n : Nat} {xs : List Value}, w.ownsRow w0.heap.size 22 1 u n xs → u.ownBlock = none ∨ u.ownBlock ≠ v.ownBlock := by
    intro u n xs hu
    rcases h.each k v hk with ⟨rfl, _⟩ | ⟨g, rfl, h1⟩
    · cases u.ownBlock <;> simp [Value.ownBlock]
    · exact own_types hu h1 (by decide)
  refine ⟨h.below.grown hg h.below.size fun q hq => ((h.each k v hk).lt q hq).1, h.all.kept hg (hty h.all), h.grown.kept hg (hty h.grown), h.le, h.apart, fun i u hu => ?_, h.diff⟩
  by_cases hi : i = k
  · subst hi
    rw [if_pos rfl]
    obtain rfl := Option.some.inj (hk.symm.trans hu)
    exact hf
  · rw [if_neg hi]
    exact (h.each i u hu).keptBy hg (h.diff i k u v hi hu hk)
/-- it goes among the grown ones -/
theorem Rd.more {w0 w w' : World} {va vg vg' v : Value} {vs : List Value} {j : Nat} {c : Nat → List UInt8} (h : Rd w0 w va vg vs j c) (hk : vs[j]? = some v)
    (ho : w'.ownsRow w0.heap.size 22 1 vg' (j + 1) (vs.take j ++ [v])) (hm : Moved w w' vg vg' j) : Rd w0 w' va vg' vs (j + 1) c := by
  have hg := hm.grown
  have hlt := (List.getElem?_eq_some_iff.1 hk).1
  refine ⟨h.below.grown hg h.below.size fun q hq => (h.grown.lt q hq).1, h.all.kept hg h.apart, ?_, hlt, ?_, fun i u hu => (h.each i u hu).keptBy hg ((h.each i u hu).types h.grown (by decide)), h.diff⟩
  · rw [List.take_add_one, hk]; exact ho
  · rcases hm.block with hq | hq
    · rw [hq]; exact h.apart
    · cases hv : va.ownBlock with
      | none => exact .inl rfl
      | some q =>
        refine .inr fun e => ?_
        have := (h.all.lt q hv).2
        have := hq q e.symm
        omega
/-- the bytes of list k while j lists are written full -/
def cont (l : List UInt8) (j k : Nat) : List UInt8 := if k < j then patF (k + 1) 0 l.length else l
theorem cont_length (l : List UInt8) (j k : Nat) : (cont l j k).length = l.length := by
  unfold cont; split
  · exact patF_length _ _ _
  · rfl
theorem cont_step (l : List UInt8) (j i : Nat) : (if i = j then patF (j + 1) 0 l.length else cont l j i) = cont l (j + 1) i := by
  unfold cont
  by_cases h : i = j
  · subst h; simp
  · rw [if_neg h]
    by_cases h2 : i < j
    · rw [if_pos h2, if_pos (by omega)]
    · rw [if_neg h2, if_neg (by omega)]
end Go.Proofs.YtmnkdnpjcfmjgaaGreatDoor
