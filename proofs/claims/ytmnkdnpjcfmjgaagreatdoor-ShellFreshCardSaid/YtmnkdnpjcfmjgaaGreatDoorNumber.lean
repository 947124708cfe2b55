/- Package shell: number. -/
import Derived.Test.YtmnkdnpjcfmjgaaGreatDoorName
import Derived.Deep.DeepCutAuto
namespace Go.Proofs.YtmnkdnpjcfmjgaaGreatDoor
open Go.RowKit

def digB (c : UInt8) : Bool := decide (48 ≤ c.toNat) && decide (c.toNat ≤ 57)
/-- a whole number in its one form -/
def numB (l : List UInt8) : Option Int :=
  let d := Lib.trimPrefix l [45]
  if d = [] then none else if d.head? = some 48 ∧ l ≠ [48] then none else if d.all digB = false then none else
    match Lib.parseIntB 64 l with
    | .ok v => some v
    | _ => none

set_option maxRecDepth 100000 in
set_option maxHeartbeats 2000000 in
theorem number_any (s : ByteArray) (w : World) (hs : s.size ≤ 1000000) (hE : Env w) :
    Calls Tryz.prog 68 #[.string s] w fun e w' => (∃ v, e = .returned (.tuple #[.int .i64 v, .bool (numB s.data.toList).isSome]) ∧ ∀ x, numB s.data.toList = some x → v = x) ∧ Below w.heap.size w w' := by
  have hT := Tryz.strings_TrimPrefix s ⟨#[45]⟩ w
  have hnum : numB s.data.toList = (let d := Lib.trimPrefix s.data.toList [45]; if d = [] then none else if d.head? = some 48 ∧ s.data.toList ≠ [48] then none else if d.all digB = false then none else
    match Lib.parseIntB 64 s.data.toList with
    | .ok v => some v
    | _ => none) := rfl
  rw [show (⟨#[45]⟩ : ByteArray).data.toList = [45] from rfl] at hT
  generalize hd : Lib.trimPrefix s.data.toList [45] = d at hnum hT
  simp only at hnum
  obtain ⟨D, hD⟩ : ∃ D : ByteArray, D = ⟨d.toArray⟩ := ⟨_, rfl⟩
  obtain rfl : d = D.data.toList := by rw [hD]
  rw [← hD] at hT
  have HT := Lib.hid hT
  have HN := Lib.hid hnum
  have hle : D.size ≤ s.size := by
    rw [Lib.size_eq, Lib.size_eq, ← hd]
    unfold Lib.trimPrefix
    split <;> simp
  clear hd hD hT hnum
  have hDl : D.toList = D.data.toList := Lib.toList_data D
  have hDs := Lib.size_eq D
  by_cases h1 : D.size = 0
  · have he : D.data.toList = [] := List.eq_nil_of_length_eq_zero (by rw [← hDs]; exact h1)
    have hz : D.toList = [] := by rw [hDl, he]
    have hnone : numB s.data.toList = none := by rw [HN.out, if_pos he]
    have H0 := Lib.hid hnone
    clear hDl hDs h1 he hnone
    go_enter Tryz.func68, Tryz.ntmps68
    go_wp2_with fail
    refine HT.out.mono ?_
    rintro e w1 ⟨rfl, rfl⟩
    go_wp2
    go_ret2
    refine ⟨⟨0, by rw [H0.out]; rfl, fun x hx => by rw [H0.out] at hx; cases hx⟩, Below.refl _ _⟩
  · have hpos : 0 < D.size := by omega
    have hne : D.toList.isEmpty = false := by
      rw [hDl, List.isEmpty_eq_false_iff]; intro h
      rw [h, List.length_nil] at hDs; omega
    have hne2 : ¬ D.toList = [] := by rw [hDl]; intro h; rw [h, List.length_nil] at hDs; omega
    have hne3 : ¬ D.data.toList = [] := by rw [← hDl]; exact hne2
    have hhead : D.data.toList.head? = some D[0] := by
      rw [List.head?_eq_getElem?, List.getElem?_eq_getElem (by rw [← hDs]; exact hpos)]; rfl
    have hb0 := D[0].toNat_lt
    have HNe := Lib.hid hne3
    have HH := Lib.hid hhead
    clear hhead hne3 h1
    by_cases h2 : D[0] = 48 ∧ s.data.toList ≠ [48]
    · have hnone : numB s.data.toList = none := by rw [HN.out, if_neg HNe.out, if_pos ⟨by rw [HH.out, h2.1], h2.2⟩]
      have H0 := Lib.hid hnone
      have e1 : ((D[0].toNat : Int) == 48) = true := by rw [h2.1]; rfl
      have e2 : (s.toList == [48]) = false := by
        rw [Lib.toList_data]; simpa using h2.2
      have e3 : ¬ s.toList = [48] := by rw [Lib.toList_data]; exact h2.2
      clear hnone hDl hDs h2
      go_enter Tryz.func68, Tryz.ntmps68
      go_wp2_with fail
      refine HT.out.mono ?_
      rintro e w1 ⟨rfl, rfl⟩
      go_wp2
      go_ret2
      refine ⟨⟨0, by rw [H0.out]; rfl, fun x hx => by rw [H0.out] at hx; cases hx⟩, Below.refl _ _⟩
    · have H2 := Lib.hid h2
      clear h2
      go_enter Tryz.func68, Tryz.ntmps68
      go_wp2_with fail
      refine HT.out.mono ?_
      rintro e w1 ⟨rfl, rfl⟩
      go_upto_region 2 with fail
      go_cut [21] (fun x wx => x = .bool false ∧ wx = w1)
      case first =>
        by_cases h3 : D[0] = 48
        · have h4 : s.data.toList = [48] := Classical.byContradiction fun h => H2.out ⟨h3, h⟩
          have e1 : ((D[0].toNat : Int) == 48) = true := by rw [h3]; rfl
          have e2 : (s.toList == [48]) = true := by
            rw [Lib.toList_data]; simpa using h4
          have e3 : s.toList = [48] := by rw [Lib.toList_data]; exact h4
          clear h3 h4 hDl hDs
          go_wp2
          go_meet
          exact ⟨rfl, rfl⟩
        · have e1 : ((D[0].toNat : Int) == 48) = false := by
            rw [beq_eq_false_iff_ne]; intro h; exact h3 (UInt8.toNat_inj.1 (by show D[0].toNat = 48; omega))
          clear h3 hDl hDs
          go_wp2
          go_meet
          exact ⟨rfl, rfl⟩
      case rest =>
        obtain ⟨rfl, rfl⟩ := hcut
        have HL := Lib.hid hDs
        clear hDs
        have hok : ∀ v, Lib.parseIntB 64 s.data.toList = .ok v → (.int .i64 v : Value) = .int .i64 v := fun _ _ => rfl
        clear hok
        go_wp2
        go_loopw [] (fun wr => ∃ pos : Nat, wr.heap[wc.heap.size]? = some (.stringIter D pos) ∧ Below wc.heap.size wc wr ∧ Hid ((D.data.toList.take pos).all digB = true)) (fun wr => D.size - wr.iterPos wc.heap.size)
        case atStart => exact ⟨0, World.iter_heap wc D 0, (Below.refl _ _).alloc (Nat.le_refl _) _, by show _ = _; simp⟩
        case round =>
          obtain ⟨pos, hit, hbr, HAll⟩ := hrel
          have hsz : wc.heap.size < wr.heap.size := (Array.getElem?_eq_some_iff.1 hit).1
          by_cases hp : pos < D.size
          · obtain ⟨r, wd, hdec, hw1, hr1, hr2⟩ := rune_at D pos hp
            have hnx : ∀ ty, (Instr.next (.pointer (some ⟨wc.heap.size, 0, none⟩)) true ty).run Tryz.prog wr = .ok (.tuple #[.bool true, .int .i64 pos, .int .i32 r]) (wr.iterAt wc.heap.size D (pos + wd)) := fun ty => by
              rw [Lib.run_next_any_at wr wc.heap.size D pos ty hit hp, hdec]
            have hit2 := Lib.iterAt_heap wr wc.heap.size D pos (pos + wd) hit
            have hbw2 := Lib.below_iterAt hbr (k := wc.heap.size) (Nat.le_refl _) D (pos + wd)
            have hms : D.size - (wr.iterAt wc.heap.size D (pos + wd)).iterPos wc.heap.size < D.size - wr.iterPos wc.heap.size := by
              simp only [World.iterPos, hit2, hit]; omega
            have HI2 := Lib.hid hit2
            have HM := Lib.hid hms
            have HB2 := Lib.hid hbw2
            clear hdec hit hit2 hms hbw2
            by_cases hdg : 48 ≤ r ∧ r ≤ 57
            · obtain ⟨hd1, hd2⟩ := hdg
              have hone : wd = 1 := by omega
              have hall : (D.data.toList.take (pos + wd)).all digB = true := by
                rw [hone, take_succ_all _ _ _ (by rw [← HL.out]; exact hp), HAll.out, Bool.true_and, show D.data.toList[pos]'(by rw [← HL.out]; exact hp) = D[pos] from rfl]
                simp only [digB, Bool.and_eq_true, decide_eq_true_eq]
                omega
              have HA := Lib.hid hall
              clear hone hall
              go_wp2
              exact ⟨⟨pos + wd, HI2.out, HB2.out, HA.out⟩, HM.out⟩
            · have hall : D.data.toList.all digB = false := by
                rw [List.all_eq_false]
                refine ⟨D[pos], List.getElem_mem (by rw [← HL.out]; exact hp), ?_⟩
                simp only [digB, Bool.and_eq_true, decide_eq_true_eq]
                omega
              have hnone : numB s.data.toList = none := by
                rw [HN.out, if_neg HNe.out, if_neg (by rw [HH.out]; exact fun h => H2.out ⟨Option.some.inj h.1, h.2⟩), if_pos hall]
              have H0 := Lib.hid hnone
              have hor : r < 48 ∨ 57 < r := by omega
              clear hnone hall hdg
              rcases hor with hor | hor
              · have hor2 : (r : Int) < 48 := by omega
                go_wp2
                go_ret2
                exact ⟨⟨0, by rw [H0.out]; rfl, fun x hx => by rw [H0.out] at hx; cases hx⟩, HB2.out⟩
              · have hor2 : ¬ (r : Int) < 48 := by omega
                have hor3 : (57 : Int) < (r : Int) := by omega
                go_wp2
                go_ret2
                exact ⟨⟨0, by rw [H0.out]; rfl, fun x hx => by rw [H0.out] at hx; cases hx⟩, HB2.out⟩
          · have hnx : ∀ ty, (Instr.next (.pointer (some ⟨wc.heap.size, 0, none⟩)) true ty).run Tryz.prog wr = _ := fun ty => Lib.run_next_end_at wr wc.heap.size D pos ty hit hp
            have hall : D.data.toList.all digB = true := by
              have := HAll.out
              rwa [List.take_of_length_le (by rw [← HL.out]; omega)] at this
            have hval : numB s.data.toList = (match Lib.parseIntB 64 s.data.toList with | .ok v => some v | _ => none) := by
              rw [HN.out, if_neg HNe.out, if_neg (by rw [HH.out]; exact fun h => H2.out ⟨Option.some.inj h.1, h.2⟩), if_neg (by rw [hall]; simp)]
            have HV := Lib.hid hval
            have HI := Lib.hid hit
            have hE2 : Env wr := hE.below hbr (Nat.le_refl _)
            have HE2 := Lib.hid hE2
            have HBr := Lib.hid hbr
            clear hall hval hit hE2 hbr HAll
            generalize hP : Lib.parseIntB 64 s.data.toList = P at HV
            cases P with
            | ok v =>
              have hv : numB s.data.toList = some v := HV.out
              have HV2 := Lib.hid hv
              have HP := Lib.hid hP
              clear hv hP
              go_wp2_with fail
              refine (Tryz.strconv_ParseInt_10_at64_ok s (by omega) v HP.out wr).mono ?_
              rintro e w2 ⟨rfl, hw2⟩
              have hb2 : Below wr.heap.size wr w2 := by
                rcases hw2 with rfl | ⟨q, rfl⟩
                · exact Below.refl _ _
                · exact bytesWorld_below wr q
              have HB2 := Lib.hid hb2
              clear hb2 hw2
              go_wp2
              go_quiet (fail)
              go_wp2
              go_ret2
              exact ⟨⟨v, by rw [HV2.out]; rfl, fun x hx => Option.some.inj (HV2.out.symm.trans hx)⟩, below_drewN (HBr.out.trans (HB2.out.mono HBr.out.size)) _⟩
            | range =>
              have hv : numB s.data.toList = none := HV.out
              have HV2 := Lib.hid hv
              have HP := Lib.hid hP
              obtain ⟨tp, p, hvar⟩ := HE2.out.rng
              have HVar := Lib.hid hvar
              clear hv hP hvar
              go_wp2_with fail
              refine (Tryz.strconv_ParseInt_10_at64_range_var s (by omega) HP.out tp p wr HVar.out).mono ?_
              rintro e w2 ⟨N, rfl, hN, hbk, hb2⟩
              have HB2 := Lib.hid hb2
              clear hb2 hbk
              go_wp2
              go_quiet (fail)
              go_wp2
              go_ret2
              exact ⟨⟨_, by rw [HV2.out]; rfl, fun x hx => by rw [HV2.out] at hx; cases hx⟩, below_drewN (HBr.out.trans (HB2.out.mono HBr.out.size)) _⟩
            | _ =>
              have hv : numB s.data.toList = none := HV.out
              have HV2 := Lib.hid hv
              have HP := Lib.hid hP
              obtain ⟨tp, p, hvar⟩ := HE2.out.syn
              have HVar := Lib.hid hvar
              clear hv hP hvar
              go_wp2_with fail
              refine (Tryz.strconv_ParseInt_10_at64_syntax_var s (by omega) HP.out tp p wr HVar.out).mono ?_
              rintro e w2 ⟨N, rfl, hN, hbk, hb2⟩
              have HB2 := Lib.hid hb2
              clear hb2 hbk
              go_wp2
              go_quiet (fail)
              go_wp2
              go_ret2
              exact ⟨⟨_, by rw [HV2.out]; rfl, fun x hx => by rw [HV2.out] at hx; cases hx⟩, below_drewN (HBr.out.trans (HB2.out.mono HBr.out.size)) _⟩
end Go.Proofs.YtmnkdnpjcfmjgaaGreatDoor
