/- From the rows' premises to the walks': the library's variables, an act and bytes that came in. -/
import Derived.Test.YtmnkdnpjcfmjgaaGreatDoorFirst
import Derived.Test.YtmnkdnpjcfmjgaaGreatDoorCards
import Derived.Test.YtmnkdnpjcfmjgaaGreatDoorTie
import Derived.ProofKit
import Derived.OpenShut
import Derived.Lay
import Derived.Lib.LaidTab
import Derived.Lib.LaidU8
import Derived.Deep.DeepHandedRow
import Derived.LaidOnce
import Derived.SevenTiedAt
namespace Go.Proofs.YtmnkdnpjcfmjgaaGreatDoor
open Go.ChangeShapes Go.WideShapes Go.ChangeAt Go.RowKit

theorem own : ownKnob Tryz.prog.godebug = none := by kernel_rfl
theorem laidOut : laidOutB Tryz.prog = true := by kernel_rfl

def laidL : List (String × DataW Unit) := Rows.shellBackRow.laid
theorem laid_plain (W : World) (h : laidMetH Tryz.prog laidL W) : laidMet Tryz.prog laidL W := by
  rwa [MakeChecks.laidMetH_plain _ _ _ (by kernel_rfl)] at h

theorem gTab2 : (Tryz.prog.globals[0]?).map (·.type) = some 168 := by kernel_rfl
theorem cellsTab : Tryz.prog.cellsOf 168 = 20 := by kernel_rfl
theorem cellsU64 : Tryz.prog.cellsOf 141 = 1 := by kernel_rfl
theorem gSyn2 : (Tryz.prog.globals[6]?).map (·.type) = some 70 := by kernel_rfl
theorem gRng2 : (Tryz.prog.globals[7]?).map (·.type) = some 70 := by kernel_rfl

theorem tab_of {W : World} (h : laidMet Tryz.prog laidL W) : Lib.TabIs Tryz.prog W "internal/strconv.uint64pow10" .u64 Lib.pow10Tab := by
  obtain ⟨g, t, cs, fuel, p, h1, h2, h3, h4⟩ := Lib.laidMet.reads h (n := "internal/strconv.uint64pow10") (d := Rows.laid_internal_strconv_uint64pow10) (by simp [laidL, Rows.shellBackRow])
  obtain rfl := Option.some.inj (gTab.symm.trans h1)
  obtain rfl := Option.some.inj (gTab2.symm.trans h2)
  have e : (Rows.laid_internal_strconv_uint64pow10 : DataW Unit) = Lib.tabData .u64 Lib.pow10Tab := by kernel_rfl
  rw [e] at h4
  have := Lib.cells_of_tab Tryz.underlying168 Tryz.underlying141 cellsU64 cellsTab h4
  unfold Lib.TabIs
  rw [h3, ← this]
theorem iface_of {W : World} (h : laidMet Tryz.prog laidL W) (n : String) (d : DataW Unit) (nm : String) (g0 : Nat) (hm : (n, DataW.iface nm d) ∈ laidL) (hg : Tryz.prog.globalNamed n = some g0) (ht : (Tryz.prog.globals[g0]?).map (·.type) = some 70) : ∃ tp p, W.var? Tryz.prog n = some #[.iface tp p] := by
  obtain ⟨g, t, cs, fuel, p, h1, h2, h3, h4⟩ := Lib.laidMet.reads h hm
  obtain rfl := Option.some.inj (hg.symm.trans h1)
  obtain rfl := Option.some.inj (ht.symm.trans h2)
  obtain ⟨f', u, v, hc, _, _⟩ := iface_of_trod Tryz.underlying70 h4
  refine ⟨u, v, ?_⟩
  rw [h3]
  obtain ⟨l⟩ := cs
  simp only at hc
  rw [hc]
theorem env_of {W : World} (h : laidMetH Tryz.prog laidL W) (hsh : W.ShapedOpen Tryz.prog) : Env W := by
  have h' := laid_plain W h
  exact ⟨tab_of h', iface_of h' "strconv.ErrSyntax" _ _ _ (by simp [laidL, Rows.shellBackRow, Rows.laid_strconv_ErrSyntax]; exact ⟨rfl, rfl⟩) gSyn gSyn2, iface_of h' "strconv.ErrRange" _ _ _ (by simp [laidL, Rows.shellBackRow, Rows.laid_strconv_ErrRange]; exact ⟨rfl, rfl⟩) gRng gRng2, Tryz.laysM146.s1_3 W hsh⟩

theorem cellsU8 : Tryz.prog.cellsOf 5 = 1 := by kernel_rfl
section
variable {H : Type} {enc : TypeId × Value → H} {w : World} {base : Nat} {sp : Nat → Bool} {held : Bool}
/-- bytes that came in -/
theorem bytes_open {fuel : Nat} {c : Value} {y : DataW H × List MemPlace} (h : DataW.trod enc Tryz.prog w base sp held fuel 22 [c] = some y) :
    ∃ l : List UInt8, Bs w c l ∧ ((y.1 = .nil ∧ l = []) ∨ ∃ elems spare, y.1 = .slice elems spare ∧ elems = l.map fun u => DataW.lit (.int .u8 u.toNat)) := by
  rcases open_ints Tryz.underlying22 Tryz.underlying5 cellsU8 h with ⟨hc, rfl⟩ | ⟨a, len, cap, zs, hc, hb, hl, hm, hz, rfl, hcell, hwf⟩
  · obtain rfl : c = .slice none 0 0 := by simpa using hc
    exact ⟨[], Bs.nil w, .inl ⟨rfl, rfl⟩⟩
  · obtain rfl : c = .slice (some a) len cap := by simpa using hc
    have hlz : len ≤ zs.length := by rw [hz]; split <;> omega
    have hr : ∀ n ∈ zs, 0 ≤ n ∧ n ≤ 255 := fun n hn => by
      have := hwf n hn
      simp [Lit.wf, IntKind.min, IntKind.max, IntKind.signed, IntKind.bits] at this
      omega
    have hll : ((zs.take len).map fun z => UInt8.ofNat z.toNat).length = len := by simp; omega
    have hlz2 : lits .u8 (zs.take len) = (((zs.take len).map fun z => UInt8.ofNat z.toNat).map fun u => (DataW.lit (.int .u8 u.toNat) : DataW H)) := by
      rw [List.map_map]
      unfold lits
      apply List.map_congr_left
      intro z hz
      have := hr z (List.mem_of_mem_take hz)
      simp only [Function.comp_apply, UInt8.toNat_ofNat']
      congr 2
      omega
    refine ⟨(zs.take len).map fun z => UInt8.ofNat z.toNat, ⟨some a, cap, by rw [hll], by rw [hll]; omega, fun hne => ?_⟩, .inr ⟨_, _, rfl, hlz2⟩⟩
    have hpos : 0 < len := by
      rcases Nat.eq_zero_or_pos len with h0 | h0
      · subst h0; exact absurd rfl hne
      · exact h0
    have hc0 := hcell 0 (by omega)
    obtain ⟨b, off, spot⟩ := a
    have hspot : spot = none := by simpa [Addr.add] using World.cell?_spot hc0
    subst hspot
    refine ⟨b, off, rfl, ?_, fun j u hu => ?_⟩
    · have := World.block_lt_of_cell? w _ hc0
      simpa [Addr.add] using this
    · rw [List.getElem?_map, List.getElem?_take] at hu
      split at hu
      · rename_i hj
        have hjz : j < zs.length := by omega
        have := hcell j hjz
        rw [List.getElem?_eq_getElem hjz] at hu
        simp only [Option.map_some, Option.some.injEq] at hu
        have hzj := hr zs[j] (List.getElem_mem hjz)
        have e : (⟨b, off, none⟩ : Addr).add j = ⟨b, off + j, none⟩ := by unfold Addr.add; split <;> simp_all
        rw [e] at this
        rw [this, List.getD, List.getElem?_eq_getElem hjz, Option.getD_some, ← hu, UInt8.toNat_ofNat']
        congr 2
        omega
      · cases hu

set_option maxRecDepth 100000 in
/-- an act that came in -/
theorem act_open {b0 : Nat} {v : Value} {d : DataW H} {p : List MemPlace} (hv : Value.okWide Tryz.prog w .any b0 26 v) (h : DataW.Trod enc Tryz.prog w base sp held 26 v d p)
    (hsz : (d.weights Tryz.prog 26).all (· ≤ reachBytes) = true) : ∃ (a : ActD) (sv : Value), v = .agg (a.cells sv) ∧ a.Ok ∧ Bs w sv a.bytes := by
  obtain ⟨cs, rfl, hsz2⟩ := okWide_struct Tryz.underlying26 hv
  obtain ⟨l⟩ := cs
  match l, hsz2.trans (show Tryz.prog.cellsOf 26 = 7 by kernel_rfl) with
  | [c0, c1, c2, c3, c4, c5, c6], _ =>
    obtain ⟨fuel, hf⟩ := h
    obtain ⟨xs, n, _, hx, _, hlen, hg⟩ := DataW.trod_struct Tryz.underlying26 hf
    match xs, hlen with
    | [y0, y1, y2, y3, y4, y5, y6], _ =>
      have k3 : Tryz.prog.cellsOf 3 = 1 := by kernel_rfl
      have k2 : Tryz.prog.cellsOf 2 = 1 := by kernel_rfl
      have k9 : Tryz.prog.cellsOf 9 = 1 := by kernel_rfl
      have k22 : Tryz.prog.cellsOf 22 = 1 := by kernel_rfl
      have k24 : Tryz.prog.cellsOf 24 = 1 := by kernel_rfl
      have h0 : DataW.trod enc Tryz.prog w base sp held n 3 [c0] = some y0 := by simpa [Value.cells, k3] using hg 0 _ rfl
      have h1 : DataW.trod enc Tryz.prog w base sp held n 3 [c1] = some y1 := by simpa [Value.cells, k3] using hg 1 _ rfl
      have h2 : DataW.trod enc Tryz.prog w base sp held n 2 [c2] = some y2 := by simpa [Value.cells, k2] using hg 2 _ rfl
      have h3 : DataW.trod enc Tryz.prog w base sp held n 3 [c3] = some y3 := by simpa [Value.cells, k3] using hg 3 _ rfl
      have h4 : DataW.trod enc Tryz.prog w base sp held n 9 [c4] = some y4 := by simpa [Value.cells, k9] using hg 4 _ rfl
      have h5 : DataW.trod enc Tryz.prog w base sp held n 22 [c5] = some y5 := by simpa [Value.cells, k22] using hg 5 _ rfl
      have h6 : DataW.trod enc Tryz.prog w base sp held n 24 [c6] = some y6 := by simpa [Value.cells, k24] using hg 6 _ rfl
      obtain ⟨x0, e0, rfl, w0⟩ := DataW.trod_int Tryz.underlying3 h0
      obtain ⟨x1, e1, rfl, w1⟩ := DataW.trod_int Tryz.underlying3 h1
      obtain ⟨x2, e2, rfl, w2⟩ := DataW.trod_int Tryz.underlying2 h2
      obtain ⟨x3, e3, rfl, w3⟩ := DataW.trod_int Tryz.underlying3 h3
      obtain ⟨s, e4, rfl, w4⟩ := DataW.trod_string Tryz.underlying9 h4
      obtain ⟨lb, hb, _⟩ := bytes_open h5
      obtain ⟨x6, e6, rfl, w6⟩ := DataW.trod_int Tryz.underlying24 h6
      simp only [List.cons.injEq, and_true] at e0 e1 e2 e3 e4 e6
      subst e0 e1 e2 e3 e4 e6
      simp [Lit.wf, IntKind.min, IntKind.max, IntKind.signed, IntKind.bits] at w0 w1 w2 w3 w6
      have hd := congrArg Prod.fst hx
      simp only [List.map_cons, List.map_nil] at hd
      subst hd
      have hname : s.data.toList.length ≤ 140737488351232 := by
        simp only [DataW.weights, Tryz.underlying26, List.map_cons, List.map_nil, DataW.weightsEach, List.nil_append, List.cons_append, List.all_cons, Bool.and_eq_true, reachBytes] at hsz
        exact of_decide_eq_true hsz.1
      refine ⟨⟨x0, x1, x2, x3, s.data.toList, lb, x6.toNat⟩, c5, ?_, ⟨by show _ ∧ _; omega, by show _ ∧ _; omega, by show _ ∧ _; omega, by show _ ∧ _; omega, hname, by show x6.toNat < _; omega⟩, hb⟩
      have e6 : ((x6.toNat : Nat) : Int) = x6 := by omega
      unfold ActD.cells
      simp only [e6]
end
end Go.Proofs.YtmnkdnpjcfmjgaaGreatDoor
