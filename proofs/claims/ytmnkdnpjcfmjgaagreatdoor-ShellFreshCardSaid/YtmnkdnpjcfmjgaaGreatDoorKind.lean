/- Package shell: kindOf. -/
import Derived.Test.YtmnkdnpjcfmjgaaGreatDoorActs
import Derived.Maps.Own
import Derived.Maps.OwnOps
import Derived.Maps.Views
import Derived.Lib.Hide
namespace Go.Proofs.YtmnkdnpjcfmjgaaGreatDoor
open Go.RowKit Go.Maps Go.WideMaps

theorem gramInfo : (Tryz.prog.info? 99).map (·.size) = some 2 := by kernel_rfl
theorem gram_get (l : List (List UInt8 × List UInt8)) (j : Nat) (g : List UInt8 × List UInt8) (h : l[j]? = some g) : (gramCells l).toArray.extract (j * 2) (j * 2 + 2) = #[.string ⟨g.1.toArray⟩, .string ⟨g.2.toArray⟩] := by
  induction l generalizing j with
  | nil => simp at h
  | cons x l ih =>
    cases j with
    | zero =>
      simp only [List.getElem?_cons_zero, Option.some.injEq] at h
      subst h
      simp [gramCells]
    | succ j =>
      simp only [List.getElem?_cons_succ] at h
      have := ih j h
      rw [← this]
      simp only [List.extract_toArray, gramCells, List.flatMap_cons, List.cons_append, List.nil_append, List.extract_eq_take_drop]
      rw [show (j + 1) * 2 = j * 2 + 1 + 1 from by omega]
      simp
/-- the table's element of a kind -/
theorem gram_at (w : World) (l : List (List UInt8 × List UInt8)) (j : Nat) (g : List UInt8 × List UInt8) (h : l[j]? = some g) (hj : j < 30) :
    (Instr.index 100 (.agg (gramCells l).toArray) (.int .i64 j)).run Tryz.prog w = .ok (.agg #[.string ⟨g.1.toArray⟩, .string ⟨g.2.toArray⟩]) w := by
  obtain ⟨i, hi, hs⟩ := Option.map_eq_some_iff.1 gramInfo
  have hag : ∀ w, (isAgg 99).run Tryz.prog w = .ok true w := fun w => by
    unfold isAgg
    rw [Sem.run_bind, run_underlying Tryz.underlying99 w]
    simp
  have hsz : ∀ w, (sizeOf 99).run Tryz.prog w = .ok 2 w := fun w => by
    simp [sizeOf, typeInfo, hi, hs]
  have hjj : (0 : Int) ≤ (j : Int) ∧ (j : Int) < ((30 : Nat) : Int) := by omega
  simp [Instr.index, asIntOf, run_underlying Tryz.underlying100, Sem.run_bind, part, hag, hsz]
  rw [if_pos hj]
  have hg := gram_get l j g h
  simp only [List.extract_toArray, List.extract_eq_take_drop, Nat.add_sub_cancel_left] at hg
  rw [hg]

theorem mapLaw : Keyed Tryz.prog 9 := string_keyed Tryz.underlying9
theorem zeroI (w : World) : (zeroValue 3).run Tryz.prog w = .ok (.int .i64 0) w := by kernel_rfl

/-- the number of an act by its word, by the first n rows -/
def kindTo : Nat → List UInt8 → Int
  | 0, _ => 0
  | n + 1, l => if (gramL.getD n ([], [])).1 = l then n else kindTo n l
abbrev kindB (l : List UInt8) : Int := kindTo 30 l
def tableM : Nat → DataW Unit
  | 0 => .map []
  | n + 1 => (tableM n).put (.string (gramL.getD n ([], [])).1) (.lit (.int .i64 n))
theorem tableM_map (n : Nat) : IsMap (tableM n) := by
  induction n with
  | zero => exact ⟨_, rfl⟩
  | succ n ih => exact ih.put _ _
theorem table_at (n : Nat) (l : List UInt8) : (tableM n).atKey (.string l) (.lit (.int .i64 0)) = .lit (.int .i64 (kindTo n l)) := by
  induction n with
  | zero => rfl
  | succ n ih =>
    unfold tableM kindTo
    by_cases h : (gramL.getD n ([], [])).1 = l
    · rw [if_pos h, h, atKey_put_same (tableM_map n) (by trivial)]
    · rw [if_neg h, atKey_put_other (fun e => h (Lit.string.inj e).symm), ih]

theorem gram_short (j : Nat) : (⟨(gramL.getD j ([], [])).1.toArray⟩ : ByteArray).size ≤ maxLen := by
  by_cases hj : j < 30
  · have : ∀ k : Fin 30, (gramL.getD k ([], [])).1.length ≤ 10 := by decide
    have := this ⟨j, hj⟩
    show (gramL.getD j ([], [])).1.toArray.size ≤ maxLen
    unfold maxLen
    simp only [List.size_toArray]
    simp only at this
    omega
  · rw [List.getD, List.getElem?_eq_none (show gramL.length ≤ j from by show 30 ≤ j; omega)]
    exact Nat.zero_le _

set_option maxRecDepth 100000 in
set_option maxHeartbeats 2000000 in
theorem kind_any (s : ByteArray) (w : World) (hs : s.size ≤ 1000000) : Calls Tryz.prog 44 #[.string s] w fun e w' => e = .returned (.int .i64 (kindB s.data.toList)) ∧ Below w.heap.size w w' := by
  have hmm := @run_makeMap Tryz.prog
  go_enter Tryz.func44, Tryz.ntmps44
  go_wp2_with fail
  refine (acts_any _).mono ?_
  rintro e w1 ⟨rfl, hb1⟩
  have hw1 : Below w.heap.size w w1 := ((Below.refl w.heap.size w).alloc (Nat.le_refl _) _).trans (hb1.mono (by simp))
  have HW1 := Lib.hid hw1
  have hown0 : w1.ownsMap Tryz.prog 9 (plainElem Tryz.prog 3) w.heap.size 0 (tableM 0) := (World.ownsMap_made (H := Unit) _ _ _ _).kept (row := none) ⟨hb1.os, hb1.tape, hb1.output, hb1.size, fun k hk _ => hb1.block k hk⟩ (by simp)
  have HO0 := Lib.hid hown0
  clear hb1 hown0 hw1
  go_wp2
  go_loopw [8] (fun i wr => ∃ j : Nat, j ≤ 30 ∧ i = .int .i64 j ∧ wr.ownsMap Tryz.prog 9 (plainElem Tryz.prog 3) w.heap.size j (tableM j) ∧ Below w.heap.size w wr) (fun i _ => 30 - (intOf i).toNat)
  case atStart => exact ⟨0, by omega, rfl, HO0.out, HW1.out⟩
  case round =>
    obtain ⟨j, hj, rfl, hown, hbr⟩ := hrel
    have HB := Lib.hid hbr
    have HO := Lib.hid hown
    clear hbr hown
    by_cases hlt : j < 30
    · obtain ⟨g, hg⟩ : ∃ g, g = gramL.getD j ([], []) := ⟨_, rfl⟩
      have hidx := fun W => gram_at W gramL j g (by rw [hg, List.getD, List.getElem?_eq_getElem (show j < gramL.length from hlt)]; rfl) hlt
      have hkey : keyOf Tryz.prog 9 (.string ⟨g.1.toArray⟩) = some (.string g.1) := keyOf_string_mk Tryz.underlying9 (by rw [hg]; exact gram_short j)
      have hj1 : IntKind.i64.wrap (↑j + 1) = ↑j + 1 := IntWalk.i64_in _ (by omega)
      have HG := Lib.hid hg
      clear hg
      have HK := Lib.hid hkey
      clear hkey
      have hjwf : (Lit.int .i64 (j : Int)).wf = true := by
        have := wrap64_wf (j : Int)
        rwa [show wrap64 (j : Int) = (j : Int) from by unfold wrap64; omega] at this
      have HW := Lib.hid hjwf
      clear hjwf
      go_wp2_with (at_mapUpdate; refine wpList_mapUpdate_own _ rfl _ _ _ 131 rfl 9 3 mapLaw Tryz.underlying131 _ w.heap.size j _ rfl (HO.out.alloc _) (by unfold maxLen; omega) _ _ _ rfl rfl HK.out _ [] (plainElem_int Tryz.underlying3 HW.out) ?_)
      intro w2 hown2 hgrow2
      have hb2 : Below w.heap.size w w2 := (HB.out.alloc HB.out.size _).grown hgrow2 (by have := HB.out.size; simp; omega) (fun q hq => by cases hq; exact Nat.le_refl _)
      have hm2 : w2.ownsMap Tryz.prog 9 (plainElem Tryz.prog 3) w.heap.size (j + 1) (tableM (j + 1)) := by
        rw [tableM, ← HG.out]; exact hown2
      have HM2 := Lib.hid hm2
      have HB2 := Lib.hid hb2
      clear hown2 hgrow2 hm2 hb2
      go_wp2
      go_roundw
      case rel => exact ⟨j + 1, by omega, by go_num, HM2.out, HB2.out⟩
      case measure => simp [intOf]; omega
    · obtain rfl : j = 30 := by omega
      have hkey : keyOf Tryz.prog 9 (.string s) = some (.string s.data.toList) := keyOf_string_mk Tryz.underlying9 (by unfold maxLen; omega)
      obtain ⟨c, hrun, hat, _⟩ := HO.out.lookup_int mapLaw Tryz.underlying131 Tryz.underlying3 (zeroI _) hkey
      rw [table_at] at hat
      obtain rfl : kindTo 30 s.data.toList = c := by
        have := DataW.lit.inj hat
        exact (Lit.int.inj this).2
      clear hat hkey
      go_wp2
      go_ret
      exact ⟨rfl, HB.out⟩
end Go.Proofs.YtmnkdnpjcfmjgaaGreatDoor
