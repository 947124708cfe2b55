/- strings.ContainsAny at " \n", of any string. -/
import Derived.Test.YtmnkdnpjcfmjgaaGreatDoorName
import Derived.Test.YtmnkdnpjcfmjgaaGreatDoorShelf
import Derived.Lib.DecodeN
import Derived.Laws.CopyOwn
import Derived.Laws.Tables
import Derived.Laws.Runes
import Derived.Outline
import Derived.WalkMore
import Derived.Deep.LoopGhost
namespace Go.Proofs.YtmnkdnpjcfmjgaaGreatDoor
open Go.RowKit

abbrev chars2 : ByteArray := ⟨#[32, 10]⟩

theorem quiet_again {P : Program} {f : FuncId} {args : Array Value} {w : World} {a n : Nat} {v : Value}
    (h : Calls P f args (w.drewN (a + n)) fun e w' => e = .returned v ∧ w' = w.drewN (a + n)) :
    Calls P f args (w.drewN (a + n)) fun e w'' => e = .returned v ∧ ∃ m, w'' = w.drewN (a + m) :=
  h.mono fun _ _ ⟨he, hm⟩ => ⟨he, n, hm⟩

set_option maxRecDepth 100000 in
set_option maxHeartbeats 2000000 in
theorem rune_far (r : Int) (w : World) (h0 : 128 ≤ r) (hv : Utf8.valid r = true) (hne : r ≠ 65533) :
    Calls Tryz.prog 79 #[.string ⟨#[32, 10]⟩, .int .i32 r] w fun e w' => e = .returned (.int .i64 (-1)) ∧ Drw w w' := by
  obtain ⟨e2, e4, e128⟩ := encode_facts r hv h0
  have hcv := fun w => run_convert_int_string (P := Tryz.prog) w 21 9 .i32 r (by kernel_rfl) Tryz.underlying9
  have hvr : Lib.validRune r = true := by
    simp only [Lib.validRune, Utf8.valid, decide_eq_true_eq, Bool.or_eq_true, Bool.and_eq_true] at hv ⊢
    omega
  have HV := Lib.hid (Tryz.utf8_ValidRune r)
  rw [hvr] at HV
  obtain ⟨n, hn⟩ : ∃ n, (Utf8.encode r).size = n := ⟨_, rfl⟩
  generalize Utf8.encode r = enc at *
  have hd1 : decide (0 ≤ r) = true := by simp; omega
  have hd2 : decide (r < 128) = false := by simp; omega
  have hd3 : (r == 65533) = false := by simpa using hne
  clear hvr hv hne
  go_enter Tryz.func79, Tryz.ntmps79
  go_wp2_with fail
  refine (HV.out _).mono ?_
  rintro e w' ⟨rfl, rfl⟩
  have hn3 : n = 2 ∨ 3 ≤ n := by omega
  rcases hn3 with h2 | h3
  · subst h2
    have hsz : 1 < enc.size := by omega
    have hb1 : 128 ≤ (enc[1]'hsz).toNat := by
      have := e128 (by omega)
      simp only [hn] at this
      exact this
    have hs2 : enc.size ≤ 2 := by omega
    have hne2 : ((((⟨#[32, 10]⟩ : ByteArray)[1]'(by decide)).toNat : Int) != ((enc[1]'hsz).toNat : Int)) = true := by rw [bne_iff_ne, show ((⟨#[32, 10]⟩ : ByteArray)[1]'(by decide)).toNat = 10 from rfl]; omega
    clear e128 e4 e2 hs2
    have HIB := Lib.hid fun w => Tryz.strings_IndexByte ByteArray.empty (enc[1]'hsz).toNat w
    go_wp2
    go_step3
    go_wp2
    refine wp_loop_rounds 1 ?_
    rw [rounds_succ]
    go_wp2
    go_step3
    go_wp2_with fail
    go_quiet (fail)
    go_wp2
    go_quiet ((go_at_call 42; exact quiet_again (HIB.out _)))
    have hlt : Lib.indexByte ByteArray.empty.data.toList ((enc[1]'hsz).toNat : Int).toNat.toUInt8 < 0 := by
      show (-1 : Int) < 0; decide
    go_wp2
    rw [Exit.noGoto_ret]
    go_wp2
    rw [Exit.noGoto_ret]
    go_ret
    exact ⟨rfl, Drw.mk _ _⟩
  · have hge : decide ((enc.size : Int) - 1 < 2) = false := by simp; omega
    have HN := Lib.hid hn
    clear hn e128
    go_wp2
    go_step3
    go_wp2
    refine wp_loop_rounds 1 ?_
    rw [rounds_succ]
    go_wp2
    rw [Exit.noGoto_ret]
    go_ret
    exact ⟨rfl, Drw.refl _⟩
theorem chars2_dec (pos : Nat) (h : pos < 2) : ∃ r : Nat, r < 128 ∧ Utf8.decode ⟨#[32, 10]⟩ pos = (r, 1) := by
  have : pos = 0 ∨ pos = 1 := by omega
  rcases this with rfl | rfl
  · exact ⟨32, by decide, decode_ascii ⟨#[32, 10]⟩ 0 (by decide) (by decide)⟩
  · exact ⟨10, by decide, decode_ascii ⟨#[32, 10]⟩ 1 (by decide) (by decide)⟩

set_option maxRecDepth 100000 in
set_option maxHeartbeats 2000000 in
theorem rune_error (w : World) :
    Calls Tryz.prog 79 #[.string ⟨#[32, 10]⟩, .int .i32 65533] w fun e w' => e = .returned (.int .i64 (-1)) ∧ Below w.heap.size w w' := by
  go_enter Tryz.func79, Tryz.ntmps79
  go_wp2
  go_loopw [] (fun wr => ∃ pos : Nat, pos ≤ 2 ∧ wr.heap[w.heap.size]? = some (.stringIter ⟨#[32, 10]⟩ pos) ∧ Below w.heap.size w wr) (fun wr => 2 - wr.iterPos w.heap.size)
  case atStart => exact ⟨0, by omega, World.iter_heap w _ 0, (Below.refl _ _).alloc (Nat.le_refl _) _⟩
  case round =>
    obtain ⟨pos, hp2, hit, hbr⟩ := hrel
    by_cases hp : pos < 2
    · obtain ⟨r, hr, hd⟩ := chars2_dec pos hp
      have hnx : ∀ ty, (Instr.next (.pointer (some ⟨w.heap.size, 0, none⟩)) true ty).run Tryz.prog wr = .ok (.tuple #[.bool true, .int .i64 pos, .int .i32 r]) (wr.iterAt w.heap.size ⟨#[32, 10]⟩ (pos + 1)) := fun ty => by
        rw [Lib.run_next_any_at wr w.heap.size ⟨#[32, 10]⟩ pos ty hit hp, hd]
      have hit2 := Lib.iterAt_heap wr w.heap.size ⟨#[32, 10]⟩ pos (pos + 1) hit
      have hbw2 := Lib.below_iterAt hbr (k := w.heap.size) (Nat.le_refl _) ⟨#[32, 10]⟩ (pos + 1)
      have hms : 2 - (wr.iterAt w.heap.size ⟨#[32, 10]⟩ (pos + 1)).iterPos w.heap.size < 2 - wr.iterPos w.heap.size := by
        simp only [World.iterPos, hit2, hit]; omega
      have HI2 := Lib.hid hit2
      have HM := Lib.hid hms
      have HB2 := Lib.hid hbw2
      have hne : ((r : Int) == 65533) = false := by rw [beq_eq_false_iff_ne]; omega
      clear hd hit hit2 hms hbw2
      go_wp2
      exact ⟨⟨pos + 1, by omega, HI2.out, HB2.out⟩, HM.out⟩
    · have hnx : ∀ ty, (Instr.next (.pointer (some ⟨w.heap.size, 0, none⟩)) true ty).run Tryz.prog wr = _ := fun ty => Lib.run_next_end_at wr w.heap.size ⟨#[32, 10]⟩ pos ty hit hp
      have HB := Lib.hid hbr
      clear hit hbr
      go_wp2
      go_ret
      exact ⟨rfl, HB.out⟩

set_option maxRecDepth 100000 in
set_option maxHeartbeats 2000000 in
theorem rune_bad (r : Int) (w : World) (h0 : 128 ≤ r) (hv : Utf8.valid r = false) (hne : r ≠ 65533) :
    Calls Tryz.prog 79 #[.string ⟨#[32, 10]⟩, .int .i32 r] w fun e w' => e = .returned (.int .i64 (-1)) ∧ w = w' := by
  have hvr : Lib.validRune r = false := by
    simp only [Lib.validRune, Utf8.valid, decide_eq_false_iff_not, Bool.or_eq_false_iff, Bool.and_eq_false_iff] at hv ⊢
    omega
  have HV := Lib.hid (Tryz.utf8_ValidRune r)
  rw [hvr] at HV
  have hd1 : decide (0 ≤ r) = true := by simp; omega
  have hd2 : decide (r < 128) = false := by simp; omega
  have hd3 : (r == 65533) = false := by simpa using hne
  clear hvr hv hne
  go_enter Tryz.func79, Tryz.ntmps79
  go_wp2_with fail
  refine (HV.out _).mono ?_
  rintro e w' ⟨rfl, rfl⟩
  go_wp2
  go_ret
  exact ⟨rfl, rfl⟩

theorem rune_high (r : Int) (w : World) (h0 : 128 ≤ r) :
    Calls Tryz.prog 79 #[.string ⟨#[32, 10]⟩, .int .i32 r] w fun e w' => e = .returned (.int .i64 (-1)) ∧ Below w.heap.size w w' := by
  by_cases he : r = 65533
  · subst he; exact rune_error w
  · by_cases hv : Utf8.valid r = true
    · exact (rune_far r w h0 hv he).mono fun _ _ ⟨a, b⟩ => ⟨a, b.below _⟩
    · exact (rune_bad r w h0 (by simpa using hv) he).mono fun _ _ ⟨a, b⟩ => ⟨a, b ▸ Below.refl _ _⟩
def spB (c : UInt8) : Bool := c == 32 || c == 10
/-- what strings.IndexAny(s, " \n") answers -/
def AnyPost (l : List UInt8) (e : Ending) : Prop := ∃ v : Int, e = .returned (.int .i64 v) ∧ (0 ≤ v ↔ l.any spB = true)

theorem take_any_hit (l : List UInt8) (n : Nat) (h : n < l.length) (hp : spB l[n] = true) : l.any spB = true := List.any_eq_true.2 ⟨l[n], List.getElem_mem h, hp⟩
theorem take_any_more (l : List UInt8) (n m : Nat) (h : (l.take n).any spB = false) (hp : ∀ j, n ≤ j → j < m → (hj : j < l.length) → spB l[j] = false) : (l.take m).any spB = false := by
  rw [List.any_eq_false] at h ⊢
  intro x hx
  obtain ⟨j, hj, rfl⟩ := List.mem_take_iff_getElem.1 hx
  by_cases hjn : j < n
  · exact h _ (List.mem_take_iff_getElem.2 ⟨j, by omega, rfl⟩)
  · rw [hp j (by omega) (by omega) (by omega)]; simp
theorem ix_no (x : UInt8) (h1 : ¬ x = 32) (h2 : ¬ x = 10) : Lib.indexByte [32, 10] x = -1 := by
  simp [Lib.indexByte, Ne.symm h1, Ne.symm h2]
theorem get_bang (s : ByteArray) (i : Nat) (h : i < s.size) : s.get! i = s[i] := by simp [ByteArray.get!, getElem!_pos, h]; rfl
theorem high_run (s : ByteArray) (pos r wd : Nat) (h : pos < s.size) (h128 : 128 ≤ s[pos].toNat) (hd : Utf8.decode s pos = (r, wd)) : ∀ j, pos ≤ j → j < pos + wd → (hj : j < s.size) → 128 ≤ s[j].toNat := by
  rw [Lib.decode_at] at hd
  have e0 : s.get! pos = s[pos] := get_bang s pos h
  rw [e0] at hd
  intro j h1 h2 hj
  by_cases hj0 : j = pos
  · subst hj0; exact h128
  have hk : ∃ k, j = pos + k ∧ 1 ≤ k := ⟨j - pos, by omega, by omega⟩
  obtain ⟨k, rfl, hk1⟩ := hk
  have ek := get_bang s (pos + k) hj
  rw [← ek]
  have hwd := congrArg Prod.snd hd
  simp only at hwd
  have hkw : k < wd := by omega
  clear hd ek h1 h2
  unfold Lib.decodeN at hwd
  generalize hb1 : (s.get! (pos + 1)).toNat = b1 at hwd
  generalize hb2 : (s.get! (pos + 2)).toNat = b2 at hwd
  generalize hb3 : (s.get! (pos + 3)).toNat = b3 at hwd
  have fin : (k = 1 → 128 ≤ b1) → (k = 2 → 128 ≤ b2) → (k = 3 → 128 ≤ b3) → k ≤ 3 → 128 ≤ (s.get! (pos + k)).toNat := by
    intro f1 f2 f3 hk3
    have : k = 1 ∨ k = 2 ∨ k = 3 := by omega
    rcases this with rfl | rfl | rfl
    · rw [hb1]; exact f1 rfl
    · rw [hb2]; exact f2 rfl
    · rw [hb3]; exact f3 rfl
  clear hb1 hb2 hb3
  repeat' split at hwd
  all_goals (simp only at hwd; refine fin ?_ ?_ ?_ ?_ <;> omega)

set_option maxRecDepth 100000 in
set_option maxHeartbeats 2000000 in
theorem any_short (s : ByteArray) (w : World) (h8 : s.size ≤ 8) :
    Calls Tryz.prog 63 #[.string s, .string ⟨#[32, 10]⟩] w fun e w' => AnyPost s.data.toList e ∧ Below w.heap.size w w' := by
  have HSU := Lib.hid (Tryz.strings_shouldUseASCIISet s.size)
  have hd8 : decide (8 < (s.size : Int)) = false := by simp; omega
  rw [hd8] at HSU
  have hlen := (Lib.size_eq s).symm
  have HL := Lib.hid hlen
  clear hlen hd8
  go_enter Tryz.func63, Tryz.ntmps63
  go_wp2_with fail
  refine (HSU.out _).mono ?_
  rintro e w' ⟨rfl, rfl⟩
  go_wp2
  go_loopw [] (fun wr => ∃ pos : Nat, wr.heap[w'.heap.size]? = some (.stringIter s pos) ∧ Below w'.heap.size w' wr ∧ Hid ((s.data.toList.take pos).any spB = false)) (fun wr => s.size - wr.iterPos w'.heap.size)
  case atStart => exact ⟨0, World.iter_heap w' s 0, (Below.refl _ _).alloc (Nat.le_refl _) _, rfl⟩
  case round =>
    obtain ⟨pos, hit, hbr, HAll⟩ := hrel
    by_cases hp : pos < s.size
    · obtain ⟨r, wd, hdec, hw1, hr1, hr2⟩ := rune_at s pos hp
      have hnx : ∀ ty, (Instr.next (.pointer (some ⟨w'.heap.size, 0, none⟩)) true ty).run Tryz.prog wr = .ok (.tuple #[.bool true, .int .i64 pos, .int .i32 r]) (wr.iterAt w'.heap.size s (pos + wd)) := fun ty => by
        rw [Lib.run_next_any_at wr w'.heap.size s pos ty hit hp, hdec]
      have hit2 := Lib.iterAt_heap wr w'.heap.size s pos (pos + wd) hit
      have hbw2 := Lib.below_iterAt hbr (k := w'.heap.size) (Nat.le_refl _) s (pos + wd)
      have hms : s.size - (wr.iterAt w'.heap.size s (pos + wd)).iterPos w'.heap.size < s.size - wr.iterPos w'.heap.size := by
        simp only [World.iterPos, hit2, hit]; omega
      have HI2 := Lib.hid hit2
      have HM := Lib.hid hms
      have HB2 := Lib.hid hbw2
      have HD := Lib.hid hdec
      rcases hr2 with ⟨ha, hra, hwd⟩ | ⟨ha, hra⟩
      · have hr128 : (r : Int) < 128 := by omega
        have HX := Lib.hid (Tryz.strings_IndexRune_ascii ⟨#[32, 10]⟩ r (wr.iterAt w'.heap.size s (pos + wd)) (by omega) hr128)
        have hrb : (r : Int).toNat.toUInt8 = s[pos] := by
          rw [show (r : Int).toNat = r from by omega, hra]; exact UInt8.ofNat_toNat
        rw [hrb] at HX
        by_cases hsp : spB s[pos] = true
        · have hge : (0 : Int) ≤ Lib.indexByte [32, 10] s[pos] := by
            simp only [spB, Bool.or_eq_true, beq_iff_eq] at hsp
            rcases hsp with h | h <;> rw [h] <;> decide
          have hyes : s.data.toList.any spB = true := take_any_hit _ pos (by rw [HL.out]; exact hp) hsp
          have HY := Lib.hid hyes
          clear hit hbr hdec hms hit2 hbw2 hra hwd ha hsp hyes hrb
          rw [show (⟨#[32, 10]⟩ : ByteArray).data.toList = [32, 10] from rfl] at HX
          generalize Lib.indexByte [32, 10] s[pos] = ix at *
          go_wp2_with fail
          refine HX.out.mono ?_
          rintro e w2 ⟨rfl, rfl⟩
          go_wp2
          go_ret
          exact ⟨⟨pos, rfl, by rw [HY.out]; simp⟩, HB2.out⟩
        · have hge : Lib.indexByte [32, 10] s[pos] < 0 := by
            simp only [spB, Bool.or_eq_true, beq_iff_eq, not_or] at hsp
            rw [ix_no _ hsp.1 hsp.2]; decide
          have hall : (s.data.toList.take (pos + wd)).any spB = false := take_any_more _ pos _ HAll.out (fun j h1 h2 hj => by
            obtain rfl : j = pos := by omega
            show spB s[j] = false
            simpa using hsp)
          have HA := Lib.hid hall
          clear hit hbr hdec hms hit2 hbw2 hra hwd ha hsp hall hrb
          rw [show (⟨#[32, 10]⟩ : ByteArray).data.toList = [32, 10] from rfl] at HX
          generalize Lib.indexByte [32, 10] s[pos] = ix at *
          go_wp2_with fail
          refine HX.out.mono ?_
          rintro e w2 ⟨rfl, rfl⟩
          go_wp2
          exact ⟨⟨pos + wd, HI2.out, HB2.out, HA.out⟩, HM.out⟩
      · have HX := Lib.hid (rune_high r (wr.iterAt w'.heap.size s (pos + wd)) (by omega))
        have hall : (s.data.toList.take (pos + wd)).any spB = false := take_any_more _ pos _ HAll.out (fun j h1 h2 hj => by
          have := high_run s pos r wd hp ha hdec j h1 h2 (by rw [← HL.out]; exact hj)
          simp only [spB, Bool.or_eq_false_iff, beq_eq_false_iff_ne]
          have e : s.data.toList[j] = s[j]'(by rw [← HL.out]; exact hj) := rfl
          rw [e]
          constructor <;> (intro h; rw [h] at this; exact absurd this (by decide)))
        have HA := Lib.hid hall
        clear hit hbr hdec hms hit2 hbw2 hra ha hall
        go_wp2_with fail
        refine HX.out.mono ?_
        rintro e w2 ⟨rfl, hb3⟩
        have hit3 := (hb3.block w'.heap.size (Array.getElem?_eq_some_iff.1 HI2.out).1).trans HI2.out
        have hm3 : s.size - w2.iterPos w'.heap.size < s.size - wr.iterPos w'.heap.size := by
          have := HM.out
          simp only [World.iterPos, HI2.out, hit3] at this ⊢
          exact this
        have hb4 := HB2.out.trans (hb3.mono HB2.out.size)
        have H3 := Lib.hid hit3
        have HM3 := Lib.hid hm3
        have HB4 := Lib.hid hb4
        clear hb3 hit3 hm3 hb4
        go_wp2
        exact ⟨⟨pos + wd, H3.out, HB4.out, HA.out⟩, HM3.out⟩
    · have hnx : ∀ ty, (Instr.next (.pointer (some ⟨w'.heap.size, 0, none⟩)) true ty).run Tryz.prog wr = _ := fun ty => Lib.run_next_end_at wr w'.heap.size s pos ty hit hp
      have hall : s.data.toList.any spB = false := by
        have := HAll.out
        rwa [List.take_of_length_le (by rw [HL.out]; omega)] at this
      have HA := Lib.hid hall
      have HB := Lib.hid hbr
      clear hit hbr hall
      go_wp2
      go_ret
      exact ⟨⟨-1, rfl, by rw [HA.out]; simp⟩, HB.out⟩
theorem setInfo : (Tryz.prog.info? 154).map (fun i => (i.zero, i.size)) = some (some (.agg (Array.replicate 256 (.bool false))), 256) := by kernel_rfl
theorem set_zero (w : World) : (zeroValue 154).run Tryz.prog w = .ok (.agg (Array.replicate 256 (.bool false))) w := (zero_of_info setInfo).1 w

set_option maxRecDepth 1000000 in
set_option maxHeartbeats 4000000 in
theorem any_long (s : ByteArray) (w : World) (h8 : 8 < s.size) (hs : s.size ≤ 140737488351232) :
    Calls Tryz.prog 63 #[.string s, .string ⟨#[32, 10]⟩] w fun e w' => AnyPost s.data.toList e ∧ Below w.heap.size w w' := by
  have HSU := Lib.hid (Tryz.strings_shouldUseASCIISet s.size)
  have hd8 : decide (8 < (s.size : Int)) = true := by simp; omega
  rw [hd8] at HSU
  have HMK := Lib.hid fun w => Tryz.strings_makeASCIISet set_zero ⟨#[32, 10]⟩ w (by decide) (by
    intro j b hj
    have : b ∈ [(32 : UInt8), 10] := List.mem_of_getElem? hj
    simp only [List.mem_cons, List.not_mem_nil, or_false] at this
    rcases this with rfl | rfl <;> decide)
  have hlen := (Lib.size_eq s).symm
  have HL := Lib.hid hlen
  clear hlen hd8
  go_enter Tryz.func63, Tryz.ntmps63
  go_wp2_with fail
  refine (HSU.out _).mono ?_
  rintro e w' ⟨rfl, rfl⟩
  go_wp2_with fail
  refine (HMK.out _).mono ?_
  rintro e w1 ⟨rfl, rfl⟩
  obtain ⟨O1, hO1⟩ : ∃ O1, Obj.cells (Lib.setCells [32, 10]) 154 = O1 := ⟨_, rfl⟩
  rw [hO1]
  clear hO1
  have hg2 : ((w'.alloc O1).alloc (.cells Tryz.zeroCells154 154)).heap[w'.heap.size + 1]? = some (.cells Tryz.zeroCells154 154 (0, 0)) := by
    have := heap_alloc_new (w'.alloc O1) (.cells Tryz.zeroCells154 154)
    simpa using this
  have HG2 := Lib.hid hg2
  clear hg2
  go_wp2_with (refine wpList_store_row rfl _ _ _ rfl (w'.heap.size + 1) (Lib.setCells [32, 10]) rfl rfl _ _ HG2.out (by kernel_rfl) (by kernel_rfl) (by kernel_rfl) ?_)
  have hbel : Below w'.heap.size w' (((w'.alloc O1).alloc (.cells Tryz.zeroCells154 154)).setRow (w'.heap.size + 1) (Lib.setCells [32, 10])) :=
    below_setRow (((Below.refl _ _).alloc (Nat.le_refl _) _).alloc (by simp) _) (by omega) _
  have hcell : ∀ x : UInt8, (((w'.alloc O1).alloc (.cells Tryz.zeroCells154 154)).setRow (w'.heap.size + 1) (Lib.setCells [32, 10])).cell? ⟨w'.heap.size + 1, x.toNat, none⟩ = some (.bool (spB x)) := fun x => by
    rw [cell_setRow_same _ _ _ _ _ _ _ HG2.out]
    have h := Lib.setCells_at [32, 10] x
    rw [h]
    congr 2
    simp only [spB, List.contains_cons, List.contains_nil, Bool.or_false]
  have HB := Lib.hid hbel
  have HC := Lib.hid hcell
  clear hbel hcell
  generalize ((w'.alloc O1).alloc (.cells Tryz.zeroCells154 154)).setRow (w'.heap.size + 1) (Lib.setCells [32, 10]) = W2 at HB HC ⊢
  clear HG2
  go_loop [8] (fun i => ∃ k : Nat, k ≤ s.size ∧ i = .int .i64 k ∧ Hid ((s.data.toList.take k).any spB = false)) (fun i => s.size - (intOf i).toNat)
  case atStart => exact ⟨0, Nat.zero_le _, rfl, rfl⟩
  case round =>
    obtain ⟨k, hk, rfl, HAll⟩ := hrel
    by_cases hlt : k < s.size
    · have HX := Lib.hid (Tryz.asciiSet_contains (w'.heap.size + 1) s[k] _ W2 (HC.out s[k]))
      by_cases hsp : spB s[k] = true
      · have hyes : s.data.toList.any spB = true := take_any_hit _ k (by rw [HL.out]; exact hlt) hsp
        have HY := Lib.hid hyes
        rw [hsp] at HX
        clear hsp hyes
        go_wp2_with fail
        refine HX.out.mono ?_
        rintro e w2 ⟨rfl, rfl⟩
        go_wp2
        go_ret
        exact ⟨⟨k, rfl, by rw [HY.out]; simp⟩, HB.out⟩
      · have hall : (s.data.toList.take (k + 1)).any spB = false := take_any_more _ k _ HAll.out (fun j h1 h2 hj => by
          obtain rfl : j = k := by omega
          show spB s[j] = false
          simpa using hsp)
        have HA := Lib.hid hall
        rw [show spB s[k] = false from by simpa using hsp] at HX
        clear hsp hall
        go_wp2_with fail
        refine HX.out.mono ?_
        rintro e w2 ⟨rfl, rfl⟩
        go_wp2
        go_round
        case rel => exact ⟨k + 1, by omega, by go_num, HA.out⟩
        case measure => simp [intOf]; omega
    · have hall : s.data.toList.any spB = false := by
        have := HAll.out
        rwa [List.take_of_length_le (by rw [HL.out]; omega)] at this
      have HA := Lib.hid hall
      clear hall
      go_wp2
      go_ret
      exact ⟨⟨-1, rfl, by rw [HA.out]; simp⟩, HB.out⟩

set_option maxRecDepth 100000 in
set_option maxHeartbeats 1000000 in
theorem containsAny (s : ByteArray) (w : World) (hs : s.size ≤ 140737488351232) :
    Calls Tryz.prog 41 #[.string s, .string ⟨#[32, 10]⟩] w fun e w' => e = .returned (.bool (s.data.toList.any spB)) ∧ Below w.heap.size w w' := by
  have H : Calls Tryz.prog 63 #[.string s, .string ⟨#[32, 10]⟩] w fun e w' => AnyPost s.data.toList e ∧ Below w.heap.size w w' := by
    by_cases h8 : s.size ≤ 8
    · exact any_short s w h8
    · exact any_long s w (by omega) hs
  have HH := Lib.hid H
  clear H
  go_enter Tryz.func41, Tryz.ntmps41
  go_wp2_with fail
  refine HH.out.mono ?_
  rintro e w1 ⟨⟨v, rfl, hv⟩, hb⟩
  have HV := Lib.hid hv
  have HB := Lib.hid hb
  clear hv hb
  by_cases h0 : 0 ≤ v
  · have hB := HV.out.1 h0
    have HBB := Lib.hid hB
    clear hB
    go_wp2
    go_ret
    exact ⟨by rw [HBB.out]; rfl, HB.out⟩
  · have hB : s.data.toList.any spB = false := by
      rw [← Bool.not_eq_true]; exact fun h => h0 (HV.out.2 h)
    have HBB := Lib.hid hB
    have hlt : decide (0 ≤ v) = false := by simpa using h0
    clear hB h0
    go_wp2
    go_ret
    exact ⟨by rw [HBB.out]; rfl, HB.out⟩
end Go.Proofs.YtmnkdnpjcfmjgaaGreatDoor
