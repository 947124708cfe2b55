/- Package shell: a name as a word. -/
import Derived.Test.YtmnkdnpjcfmjgaaGreatDoorWords
import Derived.Lib.OthersKept
import Derived.Lib.ConvBytes
namespace Go.Proofs.YtmnkdnpjcfmjgaaGreatDoor
open Go.RowKit

theorem take_all (l : List UInt8) (n m : Nat) (p : UInt8 → Bool) (h : n < l.length) (hm : n < m) (hp : p l[n] = false) : (l.take m).all p = false := by
  rw [List.all_eq_false]
  exact ⟨l[n], by rw [List.mem_take_iff_getElem]; exact ⟨n, by omega, rfl⟩, by simp [hp]⟩
theorem take_succ_all (l : List UInt8) (n : Nat) (p : UInt8 → Bool) (h : n < l.length) : (l.take (n + 1)).all p = ((l.take n).all p && p l[n]) := by
  rw [List.take_succ_eq_append_getElem h, List.all_append]; simp

/-- the rune at a place, and what it says of the byte there -/
theorem rune_at (s : ByteArray) (pos : Nat) (h : pos < s.size) : ∃ r wd : Nat, Utf8.decode s pos = (r, wd) ∧ 1 ≤ wd ∧ r ≤ 2147483647 ∧ ((s[pos].toNat < 128 ∧ r = s[pos].toNat ∧ wd = 1) ∨ (128 ≤ s[pos].toNat ∧ 128 ≤ r)) := by
  have hle := decode_le s pos
  by_cases ha : (s[pos]'h).toNat < 128
  · refine ⟨_, _, decode_ascii s pos h ha, by omega, ?_, .inl ⟨ha, rfl, rfl⟩⟩
    omega
  · have hd := decode_high s pos h (by omega)
    exact ⟨(Utf8.decode s pos).1, (Utf8.decode s pos).2, rfl, hd.2, hle, .inr ⟨by omega, hd.1⟩⟩

theorem bytes_of (w : World) (s : ByteArray) (hs : s.size ≤ maxLen) (c : Nat) : Bs (Lib.bytesWorld w 5 s) (.slice (some ⟨w.heap.size, 0, none⟩) s.size c) s.data.toList := by
  refine ⟨some ⟨w.heap.size, 0, none⟩, c, by rw [← Lib.size_eq], by rw [← Lib.size_eq]; exact hs, fun _ => ⟨w.heap.size, 0, rfl, by rw [Lib.bytesWorld_size]; omega, fun j u hu => ?_⟩⟩
  have hj : j < s.size := by
    rw [Lib.size_eq]; exact (List.getElem?_eq_some_iff.1 hu).1
  rw [show 0 + j = j from by omega, Lib.bytesWorld_cell w _ s j hj, List.getD, hu]
  rfl
theorem bytesWorld_below (w : World) (s : ByteArray) : Below w.heap.size w (Lib.bytesWorld w 5 s) := by
  refine ⟨rfl, rfl, ?_, by rw [Lib.bytesWorld_size]; omega, fun k hk => Lib.bytesWorld_at_old w _ s k hk⟩
  unfold Lib.bytesWorld World.freeze
  split <;> rfl

set_option maxRecDepth 100000 in
set_option maxHeartbeats 2000000 in
theorem name_any (s : ByteArray) (w : World) (hs : s.size ≤ 140737488351232) :
    Calls Tryz.prog 24 #[.string s] w fun e w' => e = .returned (.string ⟨(nameL s.data.toList).toArray⟩) ∧ Below w.heap.size w w' := by
  by_cases he : s.size = 0
  · have he1 : s.data.toList = [] := List.eq_nil_of_length_eq_zero (by rw [← Lib.size_eq]; exact he)
    have he2 : s.toList = [] := by rw [Lib.toList_data, he1]
    have hs0 : s.size ≤ 0 := by omega
    have HE := Lib.hid he1
    clear he he1
    have HH := Lib.hid fun W (c : Nat) => hex_any _ _ _ (bytes_of W s (by unfold maxLen; omega) c) (by rw [← Lib.size_eq]; omega)
    go_enter Tryz.func24, Tryz.ntmps24
    go_wp2
    refine wp_loop_rounds 1 ?_
    rw [rounds_succ]
    have hnx : ∀ ty, (Instr.next (.pointer (some ⟨w.heap.size, 0, none⟩)) true ty).run Tryz.prog (w.iter s 0) = _ := fun ty => Lib.run_next_end_at (w.iter s 0) w.heap.size s 0 ty (World.iter_heap w s 0) (by omega)
    have hcv := Lib.run_convert_string_bytes (P := Tryz.prog) (w.iter s 0) 9 22 5 s Tryz.underlying9 Tryz.underlying22 Tryz.underlying5
    go_wp2_with fail
    refine (HH.out _ _).mono ?_
    rintro e w1 ⟨rfl, hb⟩
    have hl : (hexL s.data.toList).length ≤ 0 := by rw [HE.out]; simp [hexL]
    go_wp2
    go_ret
    refine ⟨ret_str ?_, ?_⟩
    · unfold nameL
      rw [if_neg (by rw [HE.out]; simp)]
      exact ByteArray.mk_append_mk [37] _
    · have h0 : Below w.heap.size w (w.iter s 0) := (Below.refl _ _).alloc (Nat.le_refl _) _
      exact h0.trans (((bytesWorld_below _ s).mono h0.size).trans (hb.mono (Nat.le_trans h0.size (by rw [Lib.bytesWorld_size]; omega))))
  · have hne : s.toList.isEmpty = false := by
      rw [Lib.toList_data, List.isEmpty_eq_false_iff]; intro h
      have := congrArg List.length h
      rw [← Lib.size_eq] at this; simp only [List.length_nil] at this; omega
    have HH := Lib.hid fun W (c : Nat) => hex_any _ _ _ (bytes_of W s (by unfold maxLen; omega) c) (by rw [← Lib.size_eq]; omega)
    have hlen : s.data.toList.length = s.size := (Lib.size_eq s).symm
    have HL := Lib.hid hlen
    clear hlen
    go_enter Tryz.func24, Tryz.ntmps24
    go_wp2
    go_loopw [3] (fun p wr => ∃ pos : Nat, wr.heap[w.heap.size]? = some (.stringIter s pos) ∧ Below w.heap.size w wr ∧ p = .bool ((s.data.toList.take pos).all plainB)) (fun _ wr => s.size - wr.iterPos w.heap.size)
    case atStart => exact ⟨0, World.iter_heap w s 0, (Below.refl _ _).alloc (Nat.le_refl _) _, by simp⟩
    case round =>
      obtain ⟨pos, hit, hbr, rfl⟩ := hrel
      have hsz : w.heap.size < wr.heap.size := (Array.getElem?_eq_some_iff.1 hit).1
      by_cases hp : pos < s.size
      · obtain ⟨r, wd, hd, hw1, hr1, hr2⟩ := rune_at s pos hp
        have hnx : ∀ ty, (Instr.next (.pointer (some ⟨w.heap.size, 0, none⟩)) true ty).run Tryz.prog wr = .ok (.tuple #[.bool true, .int .i64 pos, .int .i32 r]) (wr.iterAt w.heap.size s (pos + wd)) := fun ty => by
          rw [Lib.run_next_any_at wr w.heap.size s pos ty hit hp, hd]
        have hit2 := Lib.iterAt_heap wr w.heap.size s pos (pos + wd) hit
        have hbw2 := Lib.below_iterAt hbr (k := w.heap.size) (Nat.le_refl _) s (pos + wd)
        have hms : s.size - (wr.iterAt w.heap.size s (pos + wd)).iterPos w.heap.size < s.size - wr.iterPos w.heap.size := by
          simp only [World.iterPos, hit2, hit]; omega
        have HD := Lib.hid hd
        have HI2 := Lib.hid hit2
        have HM := Lib.hid hms
        clear hd hit hit2 hms
        by_cases hpl : plainB s[pos] = true
        · have h3 : (97 ≤ r ∧ r ≤ 122) ∨ (48 ≤ r ∧ r ≤ 57) ∨ (r ≤ 45 ∧ 45 ≤ r) := by
            simp [plainB] at hpl
            omega
          have hone : wd ≤ 1 := by
            simp [plainB] at hpl
            omega
          have hall : (s.data.toList.take pos).all plainB = (s.data.toList.take (pos + wd)).all plainB := by
            obtain rfl : wd = 1 := by omega
            rw [take_succ_all _ _ _ (by rw [HL.out]; exact hp), show s.data.toList[pos]'(by rw [HL.out]; exact hp) = s[pos] from rfl, hpl, Bool.and_true]
          have HA := Lib.hid hall
          clear hpl hall
          rcases h3 with h3 | h3 | h3
          · go_wp2
            exact ⟨⟨pos + wd, HI2.out, hbw2, by rw [HA.out]⟩, HM.out⟩
          · go_wp2
            exact ⟨⟨pos + wd, HI2.out, hbw2, by rw [HA.out]⟩, HM.out⟩
          · have h45 : ((r : Int) == 45) = true := by rw [beq_iff_eq]; omega
            go_wp2
            exact ⟨⟨pos + wd, HI2.out, hbw2, by rw [HA.out]⟩, HM.out⟩
        · have h3 : ¬ ((97 ≤ r ∧ r ≤ 122) ∨ (48 ≤ r ∧ r ≤ 57) ∨ r = 45) := by
            simp [plainB] at hpl
            omega
          have h45 : ((r : Int) == 45) = false := by rw [beq_eq_false_iff_ne]; omega
          have hall : (s.data.toList.take (pos + wd)).all plainB = false := take_all _ pos _ _ (by rw [HL.out]; exact hp) (by omega) (show plainB s[pos] = false from by simpa using hpl)
          have HA := Lib.hid hall
          clear hpl hall
          go_wp2
          all_goals
            refine ⟨⟨pos + wd, HI2.out, hbw2, ?_⟩, HM.out⟩
            first | (rw [HA.out]; done) | (exfalso; rename_i hx; simp at hx; omega)
      · have hnx : ∀ ty, (Instr.next (.pointer (some ⟨w.heap.size, 0, none⟩)) true ty).run Tryz.prog wr = _ := fun ty => Lib.run_next_end_at wr w.heap.size s pos ty hit hp
        have hcv := Lib.run_convert_string_bytes (P := Tryz.prog) wr 9 22 5 s Tryz.underlying9 Tryz.underlying22 Tryz.underlying5
        have htk : s.data.toList.take pos = s.data.toList := List.take_of_length_le (by rw [HL.out]; omega)
        rw [htk]
        generalize hP : s.data.toList.all plainB = pb
        have HT := Lib.hid htk
        have HI := Lib.hid hit
        have hxl : (hexL s.data.toList).length ≤ 281474976702464 := by rw [hexL_length, HL.out]; omega
        clear htk hit
        have hx0 : s.data.toList ≠ [] := by
          intro h; have := HL.out; rw [h] at this; simp at this; omega
        have HX0 := Lib.hid hx0
        clear hx0
        have HB := Lib.hid hP
        clear hP
        cases pb
        case true =>
          go_wp2
          go_ret
          refine ⟨ret_str ?_, hbr⟩
          unfold nameL
          rw [if_pos ⟨HX0.out, HB.out⟩]
        case false =>
          go_wp2_with fail
          refine (HH.out _ _).mono ?_
          rintro e w1 ⟨rfl, hb1⟩
          go_wp2
          go_ret
          refine ⟨ret_str ?_, ?_⟩
          · unfold nameL
            rw [if_neg (fun h => by have := h.2; rw [HB.out] at this; cases this)]
            exact ByteArray.mk_append_mk [37] _
          · exact hbr.trans (((bytesWorld_below _ s).mono hbr.size).trans (hb1.mono (Nat.le_trans hbr.size (by rw [Lib.bytesWorld_size]; omega))))
end Go.Proofs.YtmnkdnpjcfmjgaaGreatDoor
