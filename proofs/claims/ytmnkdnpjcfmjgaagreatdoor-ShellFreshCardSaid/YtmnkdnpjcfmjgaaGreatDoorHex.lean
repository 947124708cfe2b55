/- Package shell: bytes as digits, and back. -/
import Derived.Test.YtmnkdnpjcfmjgaaGreatDoorBase
import Derived.Deep.DeepAppendRoom
import Derived.Deep.RegionLaw
import Derived.Lib.IndexBytes
import Derived.Lib.Builder
namespace Go.Proofs.YtmnkdnpjcfmjgaaGreatDoor
open Go.RowKit

def nib (c : UInt8) : Int := nibbleF c.toNat
theorem nib_le (c : UInt8) : nib c ≤ 15 := by
  unfold nib nibbleF; split
  · omega
  · split <;> omega

theorem nibble_same (c : Int) (w : World) (h0 : 0 ≤ c) (h1 : c ≤ 255) :
    Calls Tryz.prog 86 #[.int .u8 c] w fun e w' => e = .returned (.int .i64 (nibbleF c)) ∧ w' = w :=
  (nibble_any c w h0 h1).mono fun _ _ ⟨a, b⟩ => ⟨a, b.symm⟩
theorem drop_cons (s : ByteArray) (k : Nat) (h : k < s.size) : s.data.toList.drop k = s[k] :: s.data.toList.drop (k + 1) := by
  rw [List.drop_eq_getElem_cons (by simpa using h)]; rfl

def unhexGo : List UInt8 → Option (List UInt8)
  | a :: b :: r => if nib a < 0 ∨ nib b < 0 then none else (unhexGo r).map (UInt8.ofNat ((nib a).toNat * 16 + (nib b).toNat) :: ·)
  | [_] => none
  | [] => some []
/-- shell.unhex -/
def unhexL (s : List UInt8) : Option (List UInt8) :=
  if s = [45] then some [] else if s = [] ∨ s.length % 2 ≠ 0 then none else unhexGo s

/-- what shell.unhex hands back: fresh memory, just as long as what it holds -/
def Fresh (B : Nat) (w : World) (v : Value) (l : List UInt8) : Prop :=
  (v = .slice none 0 0 ∧ l = []) ∨ ∃ g, v = .slice (some ⟨g, 0, none⟩) l.length l.length ∧ w.ownsRow B 5 1 v l.length (Lib.byteCells l)
def UnhexPost (B : Nat) (o : Option (List UInt8)) (e : Ending) (w : World) : Prop := match o with
  | none => e = .returned (.tuple #[.slice none 0 0, .bool false])
  | some l => ∃ v, e = .returned (.tuple #[v, .bool true]) ∧ Fresh B w v l

theorem byteInfo' : (Tryz.prog.info? 5).map (fun i => (i.zero, i.size, i.bytes)) = some (some (.int .u8 0), 1, 1) := by kernel_rfl

theorem join4 (a b : Int) (h0 : 0 ≤ a) (h1 : a ≤ 15) (h2 : 0 ≤ b) (h3 : b ≤ 15) : bits .or .i64 (a * 16) b = a * 16 + b := by
  exact bits_join .i64 8 (by decide) (fun n h0 h1 => by rw [IntKind.wrap_i64]; omega) 4 (a * 16) b (by omega) (by omega) (by omega) h2 (by omega) (by omega)

set_option maxRecDepth 100000 in
set_option maxHeartbeats 2000000 in
theorem unhex_any (s : ByteArray) (w : World) (hs : s.size ≤ 140737488351232) :
    Calls Tryz.prog 66 #[.string s] w fun e w' => UnhexPost w.heap.size (unhexL s.data.toList) e w' ∧ Below w.heap.size w w' := by
  by_cases hd : s.data.toList = [45]
  · have hd1 : (s.toList == [45]) = true := by rw [Lib.toList_data, hd]; rfl
    have HD := Lib.hid hd
    clear hd
    go_enter Tryz.func66, Tryz.ntmps66
    go_wp2
    go_ret2
    refine ⟨?_, Below.refl _ _⟩
    unfold unhexL
    rw [if_pos HD.out]
    exact ⟨_, rfl, .inl ⟨rfl, rfl⟩⟩
  · have hd1 : (s.toList == [45]) = false := by rw [Lib.toList_data]; simpa using hd
    have HD := Lib.hid hd
    clear hd
    by_cases he : s.size = 0
    · have he1 : s.toList = [] := by rw [Lib.toList_data]; exact List.eq_nil_of_length_eq_zero (by simpa using he)
      have HE := Lib.hid he
      clear he
      go_enter Tryz.func66, Tryz.ntmps66
      go_wp2
      go_ret2
      refine ⟨?_, Below.refl _ _⟩
      have hn : s.data.toList = [] := by rw [← Lib.toList_data, he1]
      unfold unhexL
      rw [hn, if_neg (by decide), if_pos (by simp)]
      rfl
    · by_cases ho : s.size % 2 = 0
      · obtain ⟨n, hn⟩ : ∃ n, s.size = 2 * n := ⟨s.size / 2, by omega⟩
        have hp : ((s.size : Int) % 2 != 0) = false := by rw [bne_eq_false_iff_eq]; omega
        have he1 : s.toList.isEmpty = false := by
          rw [Lib.toList_data, List.isEmpty_eq_false_iff]; intro h
          have := congrArg List.length h
          rw [← Lib.size_eq] at this; simp only [List.length_nil] at this; omega
        have hU : unhexL s.data.toList = unhexGo s.data.toList := by
          unfold unhexL
          rw [if_neg HD.out, if_neg]
          rw [← Lib.size_eq]
          rintro (h | h)
          · rw [Lib.toList_data, h] at he1; cases he1
          · exact h ho
        have HU := Lib.hid hU
        clear hU ho
        obtain ⟨i0, hi, hz0, hz1, hz2⟩ := info_parts byteInfo'
        obtain ⟨w1, hmk, hown, hgrow⟩ := run_make_own (P := Tryz.prog) w w.heap.size 22 5 i0 (.int .u8 0) 1 Tryz.underlying22 hi hz0 hz1 .i64 .i64 n (by rw [hz2]; omega) (by unfold maxLen; omega) (Nat.le_refl _)
        rw [show ((n : Nat) : Int) = (s.size : Int) / 2 from by omega] at hmk
        have HN := Lib.hid hn
        clear hn
        go_enter Tryz.func66, Tryz.ntmps66
        go_wp2
        go_loopw [4, 5] (fun b i wr => ∃ (k j : Nat) (xs : List UInt8), j ≤ s.size ∧ Hid (j = 2 * k) ∧ Hid (xs.length = k) ∧ i = .int .i64 j ∧ b = .slice (some ⟨w.heap.size, 0, none⟩) k n ∧
          wr.ownsRow w.heap.size 5 1 (.slice (some ⟨w.heap.size, 0, none⟩) k n) k (Lib.byteCells xs) ∧ Below w.heap.size w wr ∧
          Hid (unhexGo s.data.toList = (unhexGo (s.data.toList.drop j)).map (xs ++ ·))) (fun _ i _ => s.size - (intOf i).toNat)
        case atStart => exact ⟨0, 0, [], by omega, rfl, rfl, rfl, rfl, hown, (Below.refl _ _).grown hgrow (Nat.le_refl _) (fun _ h => by cases h), by show _ = _; simp⟩
        case round =>
          obtain ⟨k, j, xs, hj, HJ, HX, rfl, rfl, hownr, hbr, HG⟩ := hrel
          clear hown hgrow hmk
          have hbase := hbr.size
          by_cases hlt : j < s.size
          · have hlt2 : j + 1 < s.size := by have := HJ.out; have := HN.out; omega
            have hc : s.data.toList.drop j = s[j] :: s[j + 1] :: s.data.toList.drop (j + 2) := by rw [drop_cons s j hlt, drop_cons s (j + 1) hlt2]
            have HC := Lib.hid hc
            clear hc
            have n1 := nib_le s[j]
            have n2 := nib_le s[j + 1]
            have b1 := s[j].toNat_lt
            have b2 := s[j + 1].toNat_lt
            have e1 : IntKind.i64.wrap ((j : Int) + 1) = (j : Int) + 1 := IntWalk.i64_in _ (by omega)
            have e2 : (0 : Int) ≤ (j : Int) + 1 := by omega
            have e3 : ((j : Int) + 1).toNat = j + 1 := by omega
            have e4 : (j : Int) + 1 < s.size := by omega
            by_cases hbad1 : nibbleF (s[j].toNat : Int) < 0
            · skip
              have hfin : unhexGo s.data.toList = none := by
                rw [HG.out, HC.out, unhexGo, if_pos (show nib s[j] < 0 ∨ nib s[j + 1] < 0 from .inl hbad1)]; rfl
              have HF := Lib.hid hfin
              clear hfin
              go_wp2
              go_quiet ((go_at_call 86; exact Calls.quiet_of_same (nibble_same _ _ (by omega) (by omega))))
              go_wp2
              go_ret2
              refine ⟨?_, below_drewN hbr _⟩
              rw [HU.out, HF.out]
              rfl
            by_cases hbad2 : nibbleF (s[j + 1].toNat : Int) < 0
            · skip
              have hfin : unhexGo s.data.toList = none := by
                rw [HG.out, HC.out, unhexGo, if_pos (show nib s[j] < 0 ∨ nib s[j + 1] < 0 from .inr hbad2)]; rfl
              have HF := Lib.hid hfin
              clear hfin
              go_wp2
              go_quiet ((go_at_call 86; exact Calls.quiet_of_same (nibble_same _ _ (by omega) (by omega))))
              go_wp2
              go_ret2
              refine ⟨?_, below_drewN hbr _⟩
              rw [HU.out, HF.out]
              rfl
            · have g1 : 0 ≤ nibbleF (s[j].toNat : Int) := by omega
              have g2 : 0 ≤ nibbleF (s[j + 1].toNat : Int) := by omega
              have HB : Hid (¬ (nib s[j] < 0 ∨ nib s[j + 1] < 0)) := fun h => h.elim hbad1 hbad2
              clear hbad1 hbad2
              unfold nib at n1 n2
              have j4 := join4 (nibbleF (s[j].toNat : Int)) (nibbleF (s[j + 1].toNat : Int)) g1 n1 g2 n2
              go_wp2
              go_quiet ((go_at_call 86; exact Calls.quiet_of_same (nibble_same _ _ (by omega) (by omega))))
              have hkn : k + 1 ≤ n := by have := HJ.out; have := HN.out; omega
              go_wp2_with (at_builtin; refine wpList_append_own_spare _ rfl _ _ 22 rfl w.heap.size 5 i0 1 Tryz.underlying22 hi hz1 w.heap.size k n _ rfl ((show (wr.drewN nq).ownsRow w.heap.size 5 1 (.slice (some ⟨w.heap.size, 0, none⟩) k n) k (Lib.byteCells xs) from hownr).alloc _) ⟨wr.heap.size, 0, none⟩ 1 1 [.int .u8 (nibbleF (s[j].toNat : Int) * 16 + nibbleF (s[j + 1].toNat : Int))] rfl rfl ?c1 ?c2 ?c3 ?_)
              case c1 => exact cell_one_new (wr.drewN nq) _ _
              case c2 => intro u hu; simp at hu; subst hu; rfl
              case c3 => exact hkn
              intro w2 hown2 hgrow2
              go_wp2
              go_roundw
              case rel =>
                refine ⟨k + 1, j + 2, xs ++ [UInt8.ofNat ((nib s[j]).toNat * 16 + (nib s[j + 1]).toNat)], by omega, ?_, ?_, by go_num, rfl, ?_, ?_, ?_⟩
                · have := HJ.out; show _ = _; omega
                · have := HX.out; show _ = _; simp [this]
                · have hv : nibbleF (s[j].toNat : Int) * 16 + nibbleF (s[j + 1].toNat : Int) = ((UInt8.ofNat ((nib s[j]).toNat * 16 + (nib s[j + 1]).toNat)).toNat : Int) := by
                    unfold nib
                    rw [UInt8.toNat_ofNat']
                    omega
                  rw [hv] at hown2
                  simpa [Lib.byteCells] using hown2
                · exact ((below_drewN hbr nq).alloc (by simpa using hbase) _).grown hgrow2 (by simp; omega) (fun q hq => by cases hq; exact Nat.le_refl _)
                · show _ = _
                  rw [HG.out, HC.out, unhexGo, if_neg HB.out]
                  simp [Option.map_map, Function.comp_def]
              case measure => simp [intOf]; omega
          · have hk : k = n := by have := HJ.out; have := HN.out; omega
            have HK := Lib.hid hk
            clear hk
            go_wp2
            go_ret2
            refine ⟨?_, hbr⟩
            have hj' : j = s.size := by omega
            rw [HU.out, HG.out, hj', List.drop_eq_nil_of_le (by simp)]
            simp only [unhexGo, Option.map_some, List.append_nil]
            refine ⟨_, rfl, .inr ⟨w.heap.size, ?_, ?_⟩⟩
            · rw [HX.out, HK.out]; rfl
            · rw [HX.out]; exact hownr
      · have hp : ((s.size : Int) % 2 != 0) = true := by rw [bne_iff_ne]; omega
        have he1 : s.toList.isEmpty = false := by
          rw [Lib.toList_data, List.isEmpty_eq_false_iff]; intro h
          have := congrArg List.length h
          rw [← Lib.size_eq] at this; simp only [List.length_nil] at this; omega
        have HO := Lib.hid ho
        clear ho
        go_enter Tryz.func66, Tryz.ntmps66
        go_wp2
        go_ret2
        refine ⟨?_, Below.refl _ _⟩
        unfold unhexL
        rw [if_neg HD.out, if_pos (.inr (by rw [← Lib.size_eq]; exact HO.out))]
        rfl

def hexd (n : Nat) : UInt8 := if n < 10 then UInt8.ofNat (48 + n) else UInt8.ofNat (87 + n)
/-- shell.hex -/
def hexL : List UInt8 → List UInt8
  | [] => []
  | c :: r => hexd (c.toNat / 16) :: hexd (c.toNat % 16) :: hexL r
theorem hexL_append (a b : List UInt8) : hexL (a ++ b) = hexL a ++ hexL b := by
  induction a with
  | nil => rfl
  | cons c r ih => simp [hexL, ih]
theorem hexL_length (a : List UInt8) : (hexL a).length = 2 * a.length := by
  induction a with
  | nil => rfl
  | cons c r ih => simp [hexL, ih]; omega

theorem step_append_spare {P : Program} {ops : Array Oper} {o : Oper} {a : Act} {w : World} {K : Act → World → Prop} {Q : Exit → Act → World → Prop} {E : Prop} (hgd : o.guard = none) (s x : Operand) (t : TypeId)
    (ho : o.op = .call { callee := .builtin .append, args := #[s, x], argTypes := #[t, t] })
    (base : Nat) (e : TypeId) (i : TypeInfo) (size : Nat) (ht : P.underlying t = some (.slice e)) (hi : P.info? e = some i) (hsize : i.size = size)
    (g n cap : Nat) (xs : List Value) (hs : a.eval s = .slice (some ⟨g, 0, none⟩) n cap) (hown : w.ownsRow base e size (.slice (some ⟨g, 0, none⟩) n cap) n xs)
    (ad : Addr) (m c : Nat) (news : List Value) (hx : a.eval x = .slice (some ad) m c) (hl : news.length = m * size) (hnews : ∀ j u, news[j]? = some u → w.cell? (ad.add j) = some u) (h1 : ∀ u ∈ news, u.oneCell' = true)
    (hroom : n + m ≤ cap)
    (h : ∀ w', w'.ownsRow base e size (.slice (some ⟨g, 0, none⟩) (n + m) cap) (n + m) (xs ++ news) → w.grownBy w' (some g) → K (a.put o.dst (.slice (some ⟨g, 0, none⟩) (n + m) cap)) w') :
    if Region.wanted o (yielded ops a.tmps) = true then Oper.wp P o a w K Q else E := by
  have hw : Region.wanted o (yielded ops a.tmps) = true := by simp [Region.wanted, hgd]
  rw [if_pos hw]
  exact wp_append_own_spare w s x t ho base e i size ht hi hsize g n cap xs hs hown ad m c news hx hl hnews h1 hroom h

set_option maxRecDepth 100000 in
theorem hexIndex (n : Nat) (h : n < 16) (w : World) :
    (Instr.index 9 (.string ⟨#[48, 49, 50, 51, 52, 53, 54, 55, 56, 57, 97, 98, 99, 100, 101, 102]⟩) (.int .u8 n)).run Tryz.prog w = .ok (.int .u8 (hexd n).toNat) w := by
  have hn : n = 0 ∨ n = 1 ∨ n = 2 ∨ n = 3 ∨ n = 4 ∨ n = 5 ∨ n = 6 ∨ n = 7 ∨ n = 8 ∨ n = 9 ∨ n = 10 ∨ n = 11 ∨ n = 12 ∨ n = 13 ∨ n = 14 ∨ n = 15 := by omega
  rcases hn with rfl | rfl | rfl | rfl | rfl | rfl | rfl | rfl | rfl | rfl | rfl | rfl | rfl | rfl | rfl | rfl
  all_goals (refine (Eq.refl _ : _ = _))
theorem one_two (k : IntKind) (a b : Int) : ∀ u ∈ [Value.int k a, Value.int k b], u.oneCell' = true := by
  intro u hu
  simp only [List.mem_cons, List.not_mem_nil, or_false] at hu
  rcases hu with h | h <;> (rw [h]; rfl)
theorem cells_new (w : World) (xs : List Value) (t : TypeId) : ∀ j u, xs[j]? = some u → (w.alloc (.cells xs.toArray t)).cell? ((⟨w.heap.size, 0, none⟩ : Addr).add j) = some u := by
  intro j u h
  have : (⟨w.heap.size, 0, none⟩ : Addr).add j = ⟨w.heap.size, j, none⟩ := by unfold Addr.add; split <;> simp_all
  rw [this]
  simpa using h

set_option maxRecDepth 100000 in
set_option maxHeartbeats 1000000 in
theorem hex_any (v : Value) (l : List UInt8) (w : World) (hv : Bs w v l) (hl : l.length ≤ 140737488351232) :
    Calls Tryz.prog 52 #[v] w fun e w' => e = .returned (.string ⟨(hexL l).toArray⟩) ∧ Below w.heap.size w w' := by
  obtain ⟨a, c, rfl, _, hx⟩ := hv
  obtain ⟨i0, hi, hz0, hz1, hz2⟩ := info_parts byteInfo'
  obtain ⟨w1, hmk, hown, hgrow⟩ := run_make_own (P := Tryz.prog) w w.heap.size 22 5 i0 (.int .u8 0) 1 Tryz.underlying22 hi hz0 hz1 .i64 .i64 (2 * l.length) (by rw [hz2]; omega) (by unfold maxLen; omega) (Nat.le_refl _)
  rw [show ((2 * l.length : Nat) : Int) = 2 * (l.length : Int) from by omega] at hmk
  go_enter Tryz.func52, Tryz.ntmps52
  go_wp2
  go_loopw [3, 12] (fun b i wr => ∃ (k : Nat), k ≤ l.length ∧ i = .int .i64 k ∧ b = .slice (some ⟨w.heap.size, 0, none⟩) (2 * k) (2 * l.length) ∧
    wr.ownsRow w.heap.size 5 1 (.slice (some ⟨w.heap.size, 0, none⟩) (2 * k) (2 * l.length)) (2 * k) (Lib.byteCells (hexL (l.take k))) ∧ Below w.heap.size w wr) (fun _ i _ => l.length - (intOf i).toNat)
  case atStart => exact ⟨0, by omega, rfl, rfl, hown, (Below.refl _ _).grown hgrow (Nat.le_refl _) (fun _ h => by cases h)⟩
  case round =>
    obtain ⟨k, hk, rfl, rfl, hownr, hbr⟩ := hrel
    clear hown hgrow hmk
    have hbase := hbr.size
    by_cases hlt : k < l.length
    · obtain ⟨ba, oa, rfl, hba, hc⟩ := hx (by intro h; simp [h] at hlt)
      have c1 : wr.cell? ⟨ba, oa + k, none⟩ = some (.int .u8 l[k].toNat) := (hbr.cell (p := ⟨ba, oa + k, none⟩) hba).trans (hc k l[k] (by simp [hlt]))
      clear hc hx
      have b1 := l[k].toNat_lt
      have hkn : 2 * k + 2 ≤ 2 * l.length := by omega
      have a15 := u8_and15 (x := (l[k].toNat : Int)) (by omega) (by omega)
      have i1 := fun w => hexIndex (l[k].toNat / 16) (by omega) w
      have i2 := fun w => hexIndex (l[k].toNat % 16) (by omega) w
      rw [show ((l[k].toNat / 16 : Nat) : Int) = (l[k].toNat : Int) / 16 from by omega] at i1
      rw [show ((l[k].toNat % 16 : Nat) : Int) = (l[k].toNat : Int) % 16 from by omega] at i2
      go_wp2
      go_region_law ((refine step_append_spare rfl _ _ 22 rfl w.heap.size 5 i0 1 Tryz.underlying22 hi hz1 w.heap.size (2 * k) (2 * l.length) _ rfl ((show wr.drew.ownsRow w.heap.size 5 1 (.slice (some ⟨w.heap.size, 0, none⟩) (2 * k) (2 * l.length)) (2 * k) (Lib.byteCells (hexL (l.take k))) from hownr).alloc _) ⟨wr.heap.size, 0, none⟩ 2 2 [.int .u8 (hexd (l[k].toNat / 16)).toNat, .int .u8 (hexd (l[k].toNat % 16)).toNat] rfl rfl (cells_new wr.drew _ _) (one_two _ _ _) hkn ?_; intro w2 hown2 hgrow2))
      all_goals
        go_wp2
        go_roundw
        case rel =>
          refine ⟨k + 1, by omega, by go_num, rfl, ?_, ?_⟩
          · rw [List.take_succ_eq_append_getElem hlt, hexL_append, show 2 * (k + 1) = 2 * k + 2 from by omega]
            have e : Lib.byteCells (hexL (l.take k) ++ hexL [l[k]]) = Lib.byteCells (hexL (l.take k)) ++ [.int .u8 (hexd (l[k].toNat / 16)).toNat, .int .u8 (hexd (l[k].toNat % 16)).toNat] := by simp [Lib.byteCells, hexL]
            rw [e]; exact hown2
          · exact ((hbr.drew).alloc (by simpa using hbase) _).grown (show (wr.drew.alloc _).grownBy w2 _ from hgrow2) (by simp; omega) (fun q hq => by cases hq; exact Nat.le_refl _)
        case measure => simp [intOf]; omega
    · have hkl : l.take k = l := List.take_of_length_le (by omega)
      rw [hkl] at hownr
      have hcv := run_convert_bytes_back (P := Tryz.prog) wr 22 9 5 ⟨w.heap.size, 0, none⟩ (2 * l.length) (hexL l) Tryz.underlying22 Tryz.underlying5 Tryz.underlying9 (fun j hj => by
        have := hownr.cells (g := w.heap.size) rfl j (.int .u8 (hexL l)[j].toNat) (by simp [Lib.byteCells, hj])
        exact this)
      rw [hexL_length, show l.length = k from by omega] at hcv
      have hkk : k = l.length := by omega
      rw [show 2 * k = 2 * l.length from by omega] at hcv
      go_wp2
      go_ret
      exact ⟨rfl, hbr⟩
end Go.Proofs.YtmnkdnpjcfmjgaaGreatDoor
