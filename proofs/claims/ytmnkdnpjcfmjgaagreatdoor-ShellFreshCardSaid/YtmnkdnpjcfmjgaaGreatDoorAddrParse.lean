/- Package addr: what reading an address answers. -/
import Derived.Test.YtmnkdnpjcfmjgaaGreatDoorBase
import Derived.Lib.IndexBytes
namespace Go.Proofs.YtmnkdnpjcfmjgaaGreatDoor
open Go.RowKit

/-- addr.number from a place on: the digits, up to the first other byte -/
def numGo (top : Nat) (z : Bool) : List UInt8 → Nat → Nat → Nat × Nat
  | [], n, i => (n, i)
  | c :: r, n, i =>
    if 48 ≤ c.toNat ∧ c.toNat ≤ 57 then
      if top < n * 10 + (c.toNat - 48) ∨ (1 ≤ i ∧ z = true) then (0, 0) else numGo top z r (n * 10 + (c.toNat - 48)) (i + 1)
    else (n, i)
def numL (top : Nat) (l : List UInt8) : Nat × Nat := numGo top (l.head? == some 48) l 0 0

theorem drop_consA (s : ByteArray) (k : Nat) (h : k < s.size) : s.data.toList.drop k = s[k] :: s.data.toList.drop (k + 1) := by
  rw [List.drop_eq_getElem_cons (by simpa using h)]; rfl

theorem numGo_other {top : Nat} {z : Bool} {c : UInt8} {r : List UInt8} {n i : Nat} (h : ¬ (48 ≤ c.toNat ∧ c.toNat ≤ 57)) : numGo top z (c :: r) n i = (n, i) := by
  simp only [numGo]; rw [if_neg h]
theorem numGo_bad {top : Nat} {z : Bool} {c : UInt8} {r : List UInt8} {n i : Nat} (h : 48 ≤ c.toNat ∧ c.toNat ≤ 57) (hb : top < n * 10 + (c.toNat - 48) ∨ (1 ≤ i ∧ z = true)) : numGo top z (c :: r) n i = (0, 0) := by
  simp only [numGo]; rw [if_pos h, if_pos hb]
theorem numGo_step {top : Nat} {z : Bool} {c : UInt8} {r : List UInt8} {n i : Nat} (h : 48 ≤ c.toNat ∧ c.toNat ≤ 57) (hb : ¬ (top < n * 10 + (c.toNat - 48) ∨ (1 ≤ i ∧ z = true))) : numGo top z (c :: r) n i = numGo top z r (n * 10 + (c.toNat - 48)) (i + 1) := by
  simp only [numGo]; rw [if_pos h, if_neg hb]
theorem head_is (s : ByteArray) (h : 0 < s.size) (b : Bool) (hb : ((s[0].toNat : Int) == 48) = b) : (s.data.toList.head? == some 48) = b := by
  have hd := drop_consA s 0 h
  rw [List.drop_zero] at hd
  rw [hd, List.head?_cons, ← hb, Bool.eq_iff_iff]
  simp only [beq_iff_eq, Option.some.injEq]
  constructor
  · intro e; rw [e]; rfl
  · intro e; exact UInt8.toNat_inj.1 (by simpa using (by omega : s[0].toNat = 48))

set_option maxRecDepth 100000 in
set_option maxHeartbeats 1000000 in
theorem addrNumber (s : ByteArray) (top : Int) (w : World) (hs : s.size ≤ maxLen) (h0 : 0 ≤ top) (h1 : top ≤ 1000) :
    Calls Tryz.prog 87 #[.string s, .int .i64 top] w fun e w' => e = .returned (.tuple #[.int .i64 (numL top.toNat s.data.toList).1, .int .i64 (numL top.toNat s.data.toList).2]) ∧ w = w' := by
  unfold maxLen at hs
  go_enter Tryz.func87, Tryz.ntmps87
  go_wp2
  go_loop [6, 7] (fun n i => ∃ k v : Nat, k ≤ s.size ∧ v ≤ top ∧ i = .int .i64 k ∧ n = .int .i64 v ∧ Hid (numGo top.toNat (s.data.toList.head? == some 48) (s.data.toList.drop k) v k = numL top.toNat s.data.toList)) (fun _ i => s.size - (intOf i).toNat)
  case atStart => exact ⟨0, 0, by omega, by omega, rfl, rfl, rfl⟩
  case round =>
    obtain ⟨k, v, hk, hv, rfl, rfl, HG⟩ := hrel
    by_cases hlt : k < s.size
    · have HD := Lib.hid (drop_consA s k hlt)
      go_wp2
      · go_ret2
        refine ⟨?_, rfl⟩
        rename_i hz
        rw [← HG.out, HD.out, numGo_bad (by omega)]
        · rfl
        · rcases hz with hz | hz
          · omega
          · exact .inr ⟨by omega, head_is s (by omega) true hz⟩
      · go_round
        case rel =>
          rename_i hz
          refine ⟨k + 1, v * 10 + (s[k].toNat - 48), by omega, by omega, by go_num, by congr 1; omega, ?_⟩
          rw [← HG.out, HD.out, numGo_step (by omega)]
          · rfl
          · rintro (h | ⟨_, h⟩)
            · omega
            · rw [head_is s (by omega) false hz.2] at h; cases h
        case measure => simp [intOf]; omega
      · go_round
        case rel =>
          refine ⟨k + 1, v * 10 + (s[k].toNat - 48), by omega, by omega, by go_num, by congr 1; omega, ?_⟩
          rw [← HG.out, HD.out, numGo_step (by omega)]
          · rfl
          · omega
        case measure => simp [intOf]; omega
      · go_ret2
        refine ⟨?_, rfl⟩
        rw [← HG.out, HD.out, numGo_bad (by omega) (by omega)]
        rfl
      · go_ret2
        refine ⟨?_, rfl⟩
        rw [← HG.out, HD.out, numGo_other (by omega)]
        rfl
      · go_ret2
        refine ⟨?_, rfl⟩
        rw [← HG.out, HD.out, numGo_other (by omega)]
        rfl
    · go_wp2
      go_ret2
      refine ⟨?_, rfl⟩
      rw [← HG.out, List.drop_eq_nil_of_le (by simpa using (by omega : s.size ≤ k))]
      rfl

theorem numGo_le (top : Nat) (z : Bool) : ∀ (l : List UInt8) (n i : Nat), n ≤ top → (numGo top z l n i).1 ≤ top ∧ (numGo top z l n i).2 ≤ i + l.length
  | [], n, i, h => by simp [numGo]; exact h
  | c :: r, n, i, h => by
    simp only [numGo]
    split
    · split
      · simp
      · rename_i hb
        have := numGo_le top z r (n * 10 + (c.toNat - 48)) (i + 1) (by omega)
        simp only [List.length_cons]
        omega
    · simp [h]
theorem numL_le (top : Nat) (l : List UInt8) : (numL top l).1 ≤ top ∧ (numL top l).2 ≤ l.length := by
  have := numGo_le top (l.head? == some 48) l 0 0 (by omega)
  unfold numL; omega

/-- addr.Parse with m parts to come -/
def parseFrom : Nat → Nat → List UInt8 → Option Nat
  | 0, a, s => if s = [] then some a else none
  | m + 1, a, s =>
    if m + 1 ≠ 4 ∧ s.head? ≠ some 46 then none
    else if (numL 255 (if m + 1 = 4 then s else s.tail)).2 = 0 then none
    else parseFrom m (a * 256 + (numL 255 (if m + 1 = 4 then s else s.tail)).1) ((if m + 1 = 4 then s else s.tail).drop (numL 255 (if m + 1 = 4 then s else s.tail)).2)
def parseAddr (s : List UInt8) : Option Nat := parseFrom 4 0 s

theorem parse_step0 {a : Nat} {t : List UInt8} {p : Nat × Nat} (hp : numL 255 t = p) (hz : p.2 ≠ 0) : parseFrom 4 a t = parseFrom 3 (a * 256 + p.1) (t.drop p.2) := by
  rw [show parseFrom 4 a t = parseFrom (3 + 1) a t from rfl, parseFrom, if_neg (by simp)]
  simp only [if_true]
  rw [hp, if_neg hz]
theorem parse_step {k a : Nat} {t r : List UInt8} {p : Nat × Nat} (h0 : 0 < k) (h4 : k < 4) (ht : t = 46 :: r) (hp : numL 255 r = p) (hz : p.2 ≠ 0) :
    parseFrom (4 - k) a t = parseFrom (4 - (k + 1)) (a * 256 + p.1) (r.drop p.2) := by
  subst ht
  rw [show 4 - k = (4 - (k + 1)) + 1 from by omega, parseFrom, if_neg (by simp), if_neg (show ¬ 4 - (k + 1) + 1 = 4 from by omega), List.tail_cons, hp, if_neg hz]
theorem parse_stop {k a : Nat} {t r : List UInt8} {p : Nat × Nat} (h0 : 0 < k) (h4 : k < 4) (ht : t = 46 :: r) (hp : numL 255 r = p) (hz : p.2 = 0) :
    parseFrom (4 - k) a t = none := by
  subst ht
  rw [show 4 - k = (4 - (k + 1)) + 1 from by omega, parseFrom, if_neg (by simp), if_neg (show ¬ 4 - (k + 1) + 1 = 4 from by omega), List.tail_cons, hp, if_pos hz]
theorem or_join (a n : Nat) (ha : a < 16777216) (hn : n < 256) : bits .or .u32 ((a : Int) * 256) (n : Int) = ((a * 256 + n : Nat) : Int) := by
  have := u32_or_nat (a * 256) n (by omega) (by omega)
  rw [nat_join 8 (a * 256) n (by omega) (by omega)] at this
  rw [← this]
  congr 1
theorem pow_256 {k a n : Nat} (ha : a < 256 ^ k) (hn : n < 256) : a * 256 + n < 256 ^ (k + 1) := by
  rw [Nat.pow_succ]; omega

/-- what addr.Parse answers -/
def addrRes (o : Option Nat) : Value := match o with
  | some a => .tuple #[.int .u32 a, .int .i64 0]
  | none => .tuple #[.int .u32 0, .int .i64 10]

set_option maxRecDepth 100000 in
set_option maxHeartbeats 1000000 in
theorem addrParse (s : ByteArray) (w : World) (hs : s.size ≤ maxLen) :
    Calls Tryz.prog 67 #[.string s] w fun e w' => e = .returned (addrRes (parseAddr s.data.toList)) ∧ w = w' := by
  unfold maxLen at hs
  go_enter Tryz.func67, Tryz.ntmps67
  go_wp2
  go_loop [0, 8, 4] (fun x i n => ∃ (k a : Nat) (t : ByteArray), k ≤ 4 ∧ t.size ≤ s.size ∧ a < 256 ^ k ∧ x = .string t ∧ i = .int .i64 k ∧ n = .int .u32 a ∧ Hid (parseFrom (4 - k) a t.data.toList = parseAddr s.data.toList)) (fun _ i _ => 4 - (intOf i).toNat)
  case atStart => exact ⟨0, 0, s, by omega, by omega, by omega, rfl, rfl, rfl, rfl⟩
  case round =>
    obtain ⟨k, a, t, hk, ht, ha, rfl, rfl, rfl, HG⟩ := hrel
    by_cases hlt : k < 4
    · have ha2 : a < 16777216 := by
        have : 256 ^ k ≤ 256 ^ 3 := Nat.pow_le_pow_right (by omega) (by omega)
        omega
      by_cases h0 : 0 < k
      · by_cases he : t.size = 0
        · have he' : t.toList = [] := by rw [Lib.toList_data]; exact List.eq_nil_of_length_eq_zero (by simpa using he)
          have hfin : parseFrom (4 - k) a t.data.toList = none := by
            rw [show 4 - k = (3 - k) + 1 from by omega]
            simp only [parseFrom]
            rw [if_pos ⟨by omega, by rw [← Lib.toList_data, he']; simp⟩]
          have HF := Lib.hid hfin
          clear hfin
          have HE := Lib.hid he
          clear he
          go_wp2
          go_ret2
          refine ⟨?_, rfl⟩
          rw [← HG.out, HF.out]
          rfl
        · have hpos : 0 < t.size := by omega
          have hne : ¬ t.toList = [] := by
            rw [Lib.toList_data]; intro h
            have := congrArg List.length h
            rw [← Lib.size_eq] at this; simp only [List.length_nil] at this; omega
          have hne2 : t.toList.isEmpty = false := List.isEmpty_eq_false_iff.2 hne
          have HC := Lib.hid (drop_consA t 0 hpos)
          by_cases hd : t[0].toNat = 46
          · have hb : ((t[0].toNat : Int) != 46) = false := by rw [hd]; rfl
            have HD := Lib.hid hd
            clear hd
            have hcu : t.data.toList = 46 :: (t.extract 1 t.size).data.toList := by
              have hc := HC.out
              rw [List.drop_zero] at hc
              rw [hc, Lib.extract_to_end]
              congr 1
              exact UInt8.toNat_inj.1 HD.out
            have hul : (t.extract 1 t.size).size ≤ t.size := by simp
            have HU := Lib.hid hcu
            clear hcu
            go_wp2_with fail
            refine (addrNumber _ _ _ (by unfold maxLen; omega) (by omega) (by omega)).mono ?_
            rintro e w' ⟨rfl, rfl⟩
            generalize hp : numL (255 : Int).toNat (t.extract 1 t.size).data.toList = p
            rw [show (255 : Int).toNat = 255 from rfl] at hp
            have hle := numL_le 255 (t.extract 1 t.size).data.toList
            rw [hp, ← Lib.size_eq] at hle
            have HP := Lib.hid hp
            clear hp
            have hle1 := hle.1
            have hle2 := hle.2
            clear hle
            by_cases hz : p.2 = 0
            · have hzb : ((p.2 : Int) == 0) = true := by rw [hz]; rfl
              have HF := Lib.hid (parse_stop (a := a) h0 hlt HU.out HP.out hz)
              have HZ := Lib.hid hz
              clear hz
              go_wp2
              go_ret2
              refine ⟨?_, rfl⟩
              rw [← HG.out, HF.out]
              rfl
            · have hzb : ((p.2 : Int) == 0) = false := by rw [beq_eq_false_iff_ne]; omega
              have HF := Lib.hid (parse_step (a := a) h0 hlt HU.out HP.out hz)
              go_wp2
              go_round
              case rel =>
                refine ⟨k + 1, a * 256 + p.1, (t.extract 1 t.size).extract p.2 (t.extract 1 t.size).size, by omega, by simp; omega, pow_256 (n := p.1) ha (by omega), by simp, by go_num, by rw [or_join _ _ ha2 (by omega)], ?_⟩
                rw [← HG.out, HF.out, Lib.extract_to_end]
                rfl
              case measure => simp [intOf]; omega
          · have hb : ((t[0].toNat : Int) != 46) = true := by rw [bne_iff_ne]; omega
            have hfin : parseFrom (4 - k) a t.data.toList = none := by
              rw [show 4 - k = (3 - k) + 1 from by omega]
              have hc := HC.out
              rw [List.drop_zero] at hc
              simp only [parseFrom]
              rw [if_pos ⟨by omega, by rw [hc]; simp; intro h; exact hd (by rw [h]; rfl)⟩]
            have HF := Lib.hid hfin
            clear hfin
            go_wp2
            go_ret2
            refine ⟨?_, rfl⟩
            rw [← HG.out, HF.out]
            rfl
      · obtain rfl : k = 0 := by omega
        go_wp2_with fail
        refine (addrNumber _ _ _ (by unfold maxLen; omega) (by omega) (by omega)).mono ?_
        rintro e w' ⟨rfl, rfl⟩
        generalize hp : numL (255 : Int).toNat t.data.toList = p
        rw [show (255 : Int).toNat = 255 from rfl] at hp
        have hle := numL_le 255 t.data.toList
        rw [hp, ← Lib.size_eq] at hle
        have HP := Lib.hid hp
        clear hp
        have hle1 := hle.1
        have hle2 := hle.2
        clear hle
        by_cases hz : p.2 = 0
        · have hzb : ((p.2 : Int) == 0) = true := by rw [hz]; rfl
          have hfin : parseFrom (4 - 0) a t.data.toList = none := by
            simp only [parseFrom]
            rw [if_neg (by simp), if_pos (by simpa [HP.out] using hz)]
          have HF := Lib.hid hfin
          have HZ := Lib.hid hz
          clear hfin hz
          go_wp2
          go_ret2
          refine ⟨?_, rfl⟩
          rw [← HG.out, HF.out]
          rfl
        · have hzb : ((p.2 : Int) == 0) = false := by rw [beq_eq_false_iff_ne]; omega
          have HF := Lib.hid (parse_step0 (a := a) HP.out hz)
          go_wp2
          go_round
          case rel =>
            refine ⟨0 + 1, a * 256 + p.1, t.extract p.2 t.size, by omega, by simp; omega, pow_256 (n := p.1) ha (by omega), rfl, by go_num, by rw [or_join _ _ ha2 (by omega)], ?_⟩
            rw [← HG.out, show 4 - 0 = 4 from rfl, HF.out, Lib.extract_to_end]
            rfl
          case measure => simp [intOf]
    · obtain rfl : k = 4 := by omega
      by_cases he : t.size = 0
      · have he' : t.toList = [] := by rw [Lib.toList_data]; exact List.eq_nil_of_length_eq_zero (by simpa using he)
        have hfin : parseFrom (4 - 4) a t.data.toList = some a := by
          rw [← Lib.toList_data, he']; simp [parseFrom]
        have HF := Lib.hid hfin
        clear hfin
        have HE := Lib.hid he
        clear he
        go_wp2
        go_ret2
        refine ⟨?_, rfl⟩
        rw [← HG.out, HF.out]
        rfl
      · have hne : t.toList.isEmpty = false := by
          rw [Lib.toList_data, List.isEmpty_eq_false_iff]; intro h
          have := congrArg List.length h
          rw [← Lib.size_eq] at this; simp only [List.length_nil] at this; omega
        have hfin : parseFrom (4 - 4) a t.data.toList = none := by
          simp only [parseFrom, Nat.sub_self]
          rw [if_neg (by intro h; rw [Lib.toList_data, h] at hne; cases hne)]
        have HF := Lib.hid hfin
        clear hfin
        go_wp2
        go_ret2
        refine ⟨?_, rfl⟩
        rw [← HG.out, HF.out]
        rfl
end Go.Proofs.YtmnkdnpjcfmjgaaGreatDoor
