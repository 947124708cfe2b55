/- Package weftlaw20, ShellFresh: what it keeps of the three answers that it holds while it writes into two of them. -/
import Derived.Test.YtmnkdnpjcfmjgaaGreatDoorRounds
namespace Go.Proofs.YtmnkdnpjcfmjgaaGreatDoor
open Go.RowKit

/-- two slices lie apart -/
def Apart (u v : Value) : Prop := (u.ownBlock = none ∨ u.ownBlock ≠ v.ownBlock) ∧ (v.ownBlock = none ∨ v.ownBlock ≠ u.ownBlock)
theorem Apart.symm {u v : Value} (h : Apart u v) : Apart v u := ⟨h.2, h.1⟩
theorem apart_of {u v : Value} (h : ∀ a b, u.ownBlock = some a → v.ownBlock = some b → a ≠ b) : Apart u v := by
  cases hu : u.ownBlock with
  | none => exact ⟨.inl hu, by rw [hu]; cases v.ownBlock <;> simp⟩
  | some a =>
    cases hv : v.ownBlock with
    | none => exact ⟨.inr (by rw [hu, hv]; simp), .inl hv⟩
    | some b =>
      have := h a b hu hv
      exact ⟨.inr (by rw [hu, hv]; simpa using this), .inr (by rw [hu, hv]; simpa using fun e => this e.symm)⟩
theorem Apart.ne {u v : Value} (h : Apart u v) {a b : Nat} (ha : u.ownBlock = some a) (hb : v.ownBlock = some b) : a ≠ b := by
  rcases h.1 with h1 | h1
  · rw [ha] at h1; cases h1
  · rw [ha, hb] at h1; simpa using h1

structure FS (w0 w : World) (l m : List UInt8) (X Y Z : Nat) (ax ay az : Option Addr) (lx lz : List UInt8) : Prop where
  below : Below w0.heap.size w0 w
  hX : w.heap[X]? = some (.cells (bytesCells 13 ax l.length) 26 (0, 0))
  hY : w.heap[Y]? = some (.cells (bytesCells 13 ay l.length) 26 (0, 0))
  hZ : w.heap[Z]? = some (.cells (bytesCells 12 az m.length) 26 (0, 0))
  lenx : lx.length = l.length
  lenz : lz.length = m.length
  fx : Fresh w0.heap.size w (.slice ax l.length l.length) lx
  fy : Fresh w0.heap.size w (.slice ay l.length l.length) l
  fz : Fresh w0.heap.size w (.slice az m.length m.length) lz
  xy : Apart (.slice ax l.length l.length) (.slice ay l.length l.length)
  xz : Apart (.slice ax l.length l.length) (.slice az m.length m.length)
  yz : Apart (.slice ay l.length l.length) (.slice az m.length m.length)
section
variable {w0 w w' : World} {l m : List UInt8} {X Y Z : Nat} {ax ay az : Option Addr} {lx lz : List UInt8}
theorem FS.grew (h : FS w0 w l m X Y Z ax ay az lx lz) (hb : Below w.heap.size w w') : FS w0 w' l m X Y Z ax ay az lx lz := by
  have k : ∀ {n : Nat} {o : Obj}, w.heap[n]? = some o → w'.heap[n]? = some o := fun {n o} q => (hb.block n (Array.getElem?_eq_some_iff.1 q).1).trans q
  exact ⟨h.below.trans (hb.mono h.below.size), k h.hX, k h.hY, k h.hZ, h.lenx, h.lenz, h.fx.below hb, h.fy.below hb, h.fz.below hb, h.xy, h.xz, h.yz⟩
/-- no answer's own memory is one of the blocks that hold the acts -/
theorem act_other {w : World} {B X n : Nat} {v : Value} {xs : List Value} {cs : Array Value} (h : w.ownsRow B 5 1 v n xs) (hX : w.heap[X]? = some (.cells cs 26 (0, 0))) : v.ownBlock ≠ some X := by
  intro e
  rcases h.2 with ⟨rfl, _⟩ | ⟨g, cap, cur, rfl, _, hg, _⟩
  · cases e
  · simp [Value.ownBlock] at e
    subst e
    rw [hX] at hg
    simp at hg
/-- a write into memory of a row of bytes that lies apart from the three -/
theorem FS.grown {v : Value} {n : Nat} {xs : List Value} (h : FS w0 w l m X Y Z ax ay az lx lz) (ho : w.ownsRow w0.heap.size 5 1 v n xs) (hg : w.grownBy w' v.ownBlock)
    (hx : Apart (.slice ax l.length l.length) v) (hy : Apart (.slice ay l.length l.length) v) (hz : Apart (.slice az m.length m.length) v) : FS w0 w' l m X Y Z ax ay az lx lz := by
  have k : ∀ {n : Nat} {cs : Array Value}, w.heap[n]? = some (.cells cs 26 (0, 0)) → w'.heap[n]? = some (.cells cs 26 (0, 0)) := fun {n cs} q => (hg.block n (Array.getElem?_eq_some_iff.1 q).1 (fun e => act_other ho q e.symm)).trans q
  exact ⟨h.below.grown hg h.below.size fun q hq => (ho.lt q hq).1, k h.hX, k h.hY, k h.hZ, h.lenx, h.lenz, h.fx.keptBy hg hx.1, h.fy.keptBy hg hy.1, h.fz.keptBy hg hz.1, h.xy, h.xz, h.yz⟩
theorem fresh_own {B : Nat} {v : Value} {l : List UInt8} (h : Fresh B w v l) : w.ownsRow B 5 1 v l.length (Lib.byteCells l) := by
  rcases h with ⟨rfl, rfl⟩ | ⟨g, rfl, h⟩
  · exact World.ownsRow_nil _ _ _ _
  · exact h
theorem FS.xset (h : FS w0 w l m X Y Z ax ay az lx lz) {l' : List UInt8} (hl : l'.length = l.length) (hf : Fresh w0.heap.size w' (.slice ax l.length l.length) l') (hg : w.grownBy w' (Value.slice ax l.length l.length).ownBlock) : FS w0 w' l m X Y Z ax ay az l' lz := by
  have ho := fresh_own h.fx
  have k : ∀ {n : Nat} {cs : Array Value}, w.heap[n]? = some (.cells cs 26 (0, 0)) → w'.heap[n]? = some (.cells cs 26 (0, 0)) := fun {n cs} q => (hg.block n (Array.getElem?_eq_some_iff.1 q).1 (fun e => act_other ho q e.symm)).trans q
  exact ⟨h.below.grown hg h.below.size fun q hq => (ho.lt q hq).1, k h.hX, k h.hY, k h.hZ, hl, h.lenz, hf, h.fy.keptBy hg h.xy.2, h.fz.keptBy hg h.xz.2, h.xy, h.xz, h.yz⟩
theorem FS.zset (h : FS w0 w l m X Y Z ax ay az lx lz) {l' : List UInt8} (hl : l'.length = m.length) (hf : Fresh w0.heap.size w' (.slice az m.length m.length) l') (hg : w.grownBy w' (Value.slice az m.length m.length).ownBlock) : FS w0 w' l m X Y Z ax ay az lx l' := by
  have ho := fresh_own h.fz
  have k : ∀ {n : Nat} {cs : Array Value}, w.heap[n]? = some (.cells cs 26 (0, 0)) → w'.heap[n]? = some (.cells cs 26 (0, 0)) := fun {n cs} q => (hg.block n (Array.getElem?_eq_some_iff.1 q).1 (fun e => act_other ho q e.symm)).trans q
  exact ⟨h.below.grown hg h.below.size fun q hq => (ho.lt q hq).1, k h.hX, k h.hY, k h.hZ, h.lenx, hl, h.fx.keptBy hg h.xz.1, h.fy.keptBy hg h.yz.1, hf, h.xy, h.xz, h.yz⟩
end
/-- the first k bytes are c -/
def pre (c : UInt8) (k : Nat) (l : List UInt8) : List UInt8 := List.replicate k c ++ l.drop k
theorem pre_zero (c : UInt8) (l : List UInt8) : pre c 0 l = l := by simp [pre]
theorem pre_length (c : UInt8) (k : Nat) (l : List UInt8) (h : k ≤ l.length) : (pre c k l).length = l.length := by simp [pre]; omega
theorem pre_all (c : UInt8) (l : List UInt8) : pre c l.length l = List.replicate l.length c := by simp [pre]
theorem pre_set (c : UInt8) (k : Nat) (l : List UInt8) (h : k < l.length) : (Lib.byteCells (pre c k l)).set k (.int .u8 c.toNat) = Lib.byteCells (pre c (k + 1) l) := by
  unfold Lib.byteCells pre
  rw [List.drop_eq_getElem_cons h, List.map_append, List.set_append_right _ _ (by rw [List.length_map, List.length_replicate]; exact Nat.le_refl _), List.length_map, List.length_replicate, Nat.sub_self, List.map_cons, List.set_cons_zero, List.replicate_succ', List.map_append, List.map_append, List.append_assoc]
  rfl
/-- a byte is written into a fresh slice -/
theorem Fresh.put {B : Nat} {w : World} {ao : Option Addr} {n k : Nat} {c : UInt8} {l : List UInt8} (h : Fresh B w (.slice ao n n) (pre c k l)) (hn : l.length = n) (hk : k < n) :
    ∃ g, ao = some ⟨g, 0, none⟩ ∧ w.cell? ⟨g, k, none⟩ = some (.int .u8 ((pre c k l).getD k 0).toNat) ∧ w.frozen? ⟨g, k, none⟩ = false ∧
      Fresh B (w.setCell ⟨g, k, none⟩ (.int .u8 c.toNat)) (.slice ao n n) (pre c (k + 1) l) ∧ w.grownBy (w.setCell ⟨g, k, none⟩ (.int .u8 c.toNat)) (Value.slice ao n n).ownBlock := by
  have hl := pre_length c k l (by omega)
  have hl2 := pre_length c (k + 1) l (by omega)
  rcases h with ⟨h, h0⟩ | ⟨g, h, ho⟩
  · have := congrArg List.length h0
    rw [hl, List.length_nil] at this
    omega
  · simp only [Value.slice.injEq] at h
    obtain ⟨rfl, h1, h2⟩ := h
    rw [hl, hn] at ho
    have hs := ho.stored k (.int .u8 c.toNat)
    rw [pre_set c k l (by omega)] at hs
    refine ⟨g, rfl, ?_, ho.frozenAt k, .inr ⟨g, by rw [hl2, hn], by rw [hl2, hn]; exact hs.1⟩, hs.2⟩
    rw [ho.cellAt k (by omega), Lib.byteCells, List.getElem?_map, List.getD_eq_getElem?_getD, List.getElem?_eq_getElem (show k < (pre c k l).length by omega)]
    rfl
theorem Fresh.byteAt {B : Nat} {w : World} {ao : Option Addr} {n k : Nat} {c : UInt8} (h : Fresh B w (.slice ao n n) (List.replicate n c)) (hk : k < n) : ∃ g, ao = some ⟨g, 0, none⟩ ∧ w.cell? ⟨g, k, none⟩ = some (.int .u8 c.toNat) := by
  rcases h with ⟨h, h0⟩ | ⟨g, h, ho⟩
  · have := congrArg List.length h0
    simp at this
    omega
  · simp only [Value.slice.injEq] at h
    obtain ⟨rfl, h1, h2⟩ := h
    rw [List.length_replicate] at ho
    refine ⟨g, rfl, ?_⟩
    rw [ho.cellAt k (by omega), Lib.byteCells, List.getElem?_map, List.getElem?_replicate, if_pos hk]
    rfl
theorem own_byteAt {B : Nat} {w : World} {v : Value} {n k : Nat} {c : UInt8} (h : w.ownsRow B 5 1 v n (Lib.byteCells (List.replicate n c))) (hk : k < n) : ∃ g cap, v = .slice (some ⟨g, 0, none⟩) n cap ∧ w.cell? ⟨g, k, none⟩ = some (.int .u8 c.toNat) := by
  obtain ⟨g, cap, rfl, _⟩ := own_shape2 h (by omega)
  refine ⟨g, cap, rfl, ?_⟩
  rw [h.cellAt k (by omega), Lib.byteCells, List.getElem?_map, List.getElem?_replicate, if_pos hk]
  rfl

/-- while x1 and z1 grow: k bytes more -/
structure AP (w0 w : World) (l m : List UInt8) (X Y Z : Nat) (ax ay az : Option Addr) (v1 v2 : Value) (k1 k2 : Nat) : Prop where
  fs : FS w0 w l m X Y Z ax ay az (List.replicate l.length 1) (List.replicate m.length 2)
  o1 : w.ownsRow w0.heap.size 5 1 v1 (l.length + k1) (Lib.byteCells (List.replicate (l.length + k1) 1))
  o2 : w.ownsRow w0.heap.size 5 1 v2 (m.length + k2) (Lib.byteCells (List.replicate (m.length + k2) 2))
  v12 : Apart v1 v2
  y1 : Apart (.slice ay l.length l.length) v1
  z1 : Apart (.slice az m.length m.length) v1
  x1 : v1 = .slice ax l.length l.length ∨ Apart (.slice ax l.length l.length) v1
  x2 : Apart (.slice ax l.length l.length) v2
  y2 : Apart (.slice ay l.length l.length) v2
  z2 : v2 = .slice az m.length m.length ∨ Apart (.slice az m.length m.length) v2
section
variable {w0 w w' : World} {l m : List UInt8} {X Y Z : Nat} {ax ay az : Option Addr} {v1 v2 v' : Value} {k1 k2 : Nat}
theorem AP.start (h : FS w0 w l m X Y Z ax ay az (List.replicate l.length 1) (List.replicate m.length 2)) : AP w0 w l m X Y Z ax ay az (.slice ax l.length l.length) (.slice az m.length m.length) 0 0 := by
  have h1 := fresh_own h.fx
  have h2 := fresh_own h.fz
  rw [List.length_replicate] at h1 h2
  exact ⟨h, h1, h2, h.xz, h.xy.symm, h.xz.symm, .inl rfl, h.xz, h.yz, .inl rfl⟩
theorem AP.grew (h : AP w0 w l m X Y Z ax ay az v1 v2 k1 k2) (hb : Below w.heap.size w w') : AP w0 w' l m X Y Z ax ay az v1 v2 k1 k2 :=
  ⟨h.fs.grew hb, row_below h.o1 hb, row_below h.o2 hb, h.v12, h.y1, h.z1, h.x1, h.x2, h.y2, h.z2⟩
theorem fresh_new {B : Nat} {u v' : Value} {l : List UInt8} (h : Fresh B w u l) (hn : ∀ k, v'.ownBlock = some k → w.heap.size ≤ k) : Apart u v' :=
  apart_of fun a b ha hb => by have := (h.lt a ha).2; have := hn b hb; omega
theorem row_new {B n e : Nat} {u v' : Value} {xs : List Value} (h : w.ownsRow B e 1 u n xs) (hn : ∀ k, v'.ownBlock = some k → w.heap.size ≤ k) : Apart u v' :=
  apart_of fun a b ha hb => by have := (h.lt a ha).2; have := hn b hb; omega
theorem apart_cong {u v v' : Value} (h : Apart u v) (e : v'.ownBlock = v.ownBlock) : Apart u v' := by unfold Apart; rw [e]; exact h
theorem moved_full {w w' : World} {v v' : Value} {n : Nat} {ao : Option Addr} (h : Moved w w' v v' n) (hv : v = .slice ao n n) : w.grownBy w' none ∧ ∀ k, v'.ownBlock = some k → w.heap.size ≤ k := by
  rcases h with ⟨⟨g, cap, h1, h2, h3⟩, _⟩ | ⟨⟨g, cap, h1, h2⟩, hg⟩
  · rw [hv] at h1
    simp only [Value.slice.injEq] at h1
    omega
  · subst h1
    exact ⟨hg, fun k hk => by simp [Value.ownBlock] at hk; omega⟩
theorem row_length {B n e : Nat} {ao : Option Addr} {a c : Nat} {xs : List Value} (h : w.ownsRow B e 1 (.slice ao a c) n xs) : a = n := by
  rcases h.2 with ⟨h, h0⟩ | ⟨g, cap, cur, h, _⟩
  · simp only [Value.slice.injEq] at h; omega
  · simp only [Value.slice.injEq] at h; omega
theorem FS.none (h : FS w0 w l m X Y Z ax ay az (List.replicate l.length 1) (List.replicate m.length 2)) (hg : w.grownBy w' none) : FS w0 w' l m X Y Z ax ay az (List.replicate l.length 1) (List.replicate m.length 2) :=
  h.grew ⟨hg.os, hg.tape, hg.output, hg.size, fun k hk => hg.block k hk (by simp)⟩
theorem replicate_cells (n : Nat) (c : UInt8) : Lib.byteCells (List.replicate n c) ++ [.int .u8 c.toNat] = Lib.byteCells (List.replicate (n + 1) c) := by
  rw [List.replicate_succ', Lib.byteCells, Lib.byteCells, List.map_append]; rfl
theorem AP.one (h : AP w0 w l m X Y Z ax ay az v1 v2 k1 k2) (ho : w'.ownsRow w0.heap.size 5 1 v' (l.length + k1 + 1) (Lib.byteCells (List.replicate (l.length + k1) 1) ++ [.int .u8 1])) (hm : Moved w w' v1 v' (l.length + k1)) : AP w0 w' l m X Y Z ax ay az v' v2 (k1 + 1) k2 := by
  have ho' : w'.ownsRow w0.heap.size 5 1 v' (l.length + (k1 + 1)) (Lib.byteCells (List.replicate (l.length + (k1 + 1)) 1)) := by
    have := replicate_cells (l.length + k1) 1
    rw [show ((1 : UInt8).toNat : Int) = 1 from rfl] at this
    rw [this] at ho
    exact ho
  rcases h.x1 with hx | hx
  · have hlen : l.length = l.length + k1 := row_length (hx ▸ h.o1)
    have hv : v1 = .slice ax (l.length + k1) (l.length + k1) := by rw [← hlen]; exact hx
    obtain ⟨hg, hn⟩ := moved_full hm hv
    exact ⟨h.fs.none hg, ho', h.o2.kept hg (by cases v2.ownBlock <;> simp), (row_new h.o2 hn).symm, fresh_new h.fs.fy hn, fresh_new h.fs.fz hn, .inr (fresh_new h.fs.fx hn), h.x2, h.y2, h.z2⟩
  · have hfs := h.fs.grown h.o1 hm.grown hx h.y1 h.z1
    have ho2 := h.o2.kept hm.grown h.v12.2
    rcases hm.block with e | hn
    · exact ⟨hfs, ho', ho2, (apart_cong h.v12.symm e).symm, apart_cong h.y1 e, apart_cong h.z1 e, .inr (apart_cong hx e), h.x2, h.y2, h.z2⟩
    · exact ⟨hfs, ho', ho2, (row_new h.o2 hn).symm, fresh_new h.fs.fy hn, fresh_new h.fs.fz hn, .inr (fresh_new h.fs.fx hn), h.x2, h.y2, h.z2⟩
theorem AP.two (h : AP w0 w l m X Y Z ax ay az v1 v2 k1 k2) (ho : w'.ownsRow w0.heap.size 5 1 v' (m.length + k2 + 1) (Lib.byteCells (List.replicate (m.length + k2) 2) ++ [.int .u8 2])) (hm : Moved w w' v2 v' (m.length + k2)) : AP w0 w' l m X Y Z ax ay az v1 v' k1 (k2 + 1) := by
  have ho' : w'.ownsRow w0.heap.size 5 1 v' (m.length + (k2 + 1)) (Lib.byteCells (List.replicate (m.length + (k2 + 1)) 2)) := by
    have := replicate_cells (m.length + k2) 2
    rw [show ((2 : UInt8).toNat : Int) = 2 from rfl] at this
    rw [this] at ho
    exact ho
  rcases h.z2 with hx | hx
  · have hlen : m.length = m.length + k2 := row_length (hx ▸ h.o2)
    have hv : v2 = .slice az (m.length + k2) (m.length + k2) := by rw [← hlen]; exact hx
    obtain ⟨hg, hn⟩ := moved_full hm hv
    exact ⟨h.fs.none hg, h.o1.kept hg (by cases v1.ownBlock <;> simp), ho', row_new h.o1 hn, h.y1, h.z1, h.x1, fresh_new h.fs.fx hn, fresh_new h.fs.fy hn, .inr (fresh_new h.fs.fz hn)⟩
  · have hfs := h.fs.grown h.o2 hm.grown h.x2 h.y2 hx
    have ho1 := h.o1.kept hm.grown h.v12.1
    rcases hm.block with e | hn
    · exact ⟨hfs, ho1, ho', apart_cong h.v12 e, h.y1, h.z1, h.x1, apart_cong h.x2 e, apart_cong h.y2 e, .inr (apart_cong hx e)⟩
    · exact ⟨hfs, ho1, ho', row_new h.o1 hn, h.y1, h.z1, h.x1, fresh_new h.fs.fx hn, fresh_new h.fs.fy hn, .inr (fresh_new h.fs.fz hn)⟩
end
end Go.Proofs.YtmnkdnpjcfmjgaaGreatDoor
