/- Package shell, in plain Lean: a number, bytes, an address, the words of a line: reading undoes writing, and writing undoes reading. -/
import Derived.Test.YtmnkdnpjcfmjgaaGreatDoorNumber
import Derived.Test.YtmnkdnpjcfmjgaaGreatDoorAddr
import Derived.Test.YtmnkdnpjcfmjgaaGreatDoorAddrParse
import Derived.Lib.SplitLaws
namespace Go.Proofs.YtmnkdnpjcfmjgaaGreatDoor

/-- the number that digits spell, behind what is read -/
def valD (a : Nat) (l : List UInt8) : Nat := l.foldl (fun n c => n * 10 + (c.toNat - 48)) a
theorem valD_nil (a : Nat) : valD a [] = a := List.foldl_nil
theorem valD_cons (a : Nat) (c : UInt8) (r : List UInt8) : valD a (c :: r) = valD (a * 10 + (c.toNat - 48)) r := List.foldl_cons ..
theorem valD_ge (l : List UInt8) : ∀ a, a ≤ valD a l := by
  induction l with
  | nil => intro a; exact Nat.le_refl _
  | cons c r ih => intro a; rw [valD_cons]; exact Nat.le_trans (by omega) (ih _)
theorem valD_snoc (l : List UInt8) (c : UInt8) : ∀ a, valD a (l ++ [c]) = valD a l * 10 + (c.toNat - 48) := by
  induction l with
  | nil => intro a; rw [List.nil_append, valD_cons, valD_nil, valD_nil]
  | cons b r ih => intro a; rw [List.cons_append, valD_cons, valD_cons]; exact ih _
theorem digB_iff (c : UInt8) : digB c = true ↔ 48 ≤ c.toNat ∧ c.toNat ≤ 57 := by simp [digB]
theorem pu_step (M a : Nat) (c : UInt8) (r : List UInt8) (hc : 48 ≤ c.toNat ∧ c.toNat ≤ 57) (h1 : a < 1844674407370955162) (h2 : a * 10 + (c.toNat - 48) ≤ M) : Lib.parseUintM M a (c :: r) = Lib.parseUintM M (a * 10 + (c.toNat - 48)) r := by
  rw [Lib.parseUintM]
  rw [if_pos hc, if_neg (Nat.not_le_of_lt h1), if_neg (Nat.not_lt_of_le h2)]
theorem pu_lim (a M : Nat) (hM : M < 18446744073709551620) (h : a * 10 ≤ M) : a < 1844674407370955162 := by omega
theorem parse_val (M : Nat) (hM : M < 18446744073709551620) (l : List UInt8) : ∀ a, l.all digB = true → valD a l ≤ M → Lib.parseUintM M a l = .ok (valD a l) := by
  induction l with
  | nil => intro a _ _; exact congrArg _ rfl
  | cons c r ih =>
    intro a h hv
    simp only [List.all_cons, Bool.and_eq_true] at h
    have hc := (digB_iff c).1 h.1
    have hge := valD_ge r (a * 10 + (c.toNat - 48))
    have hv2 : valD (a * 10 + (c.toNat - 48)) r ≤ M := by rwa [valD_cons] at hv
    have hv3 := Nat.le_trans hge hv2
    rw [pu_step M a c r hc (pu_lim a M hM (Nat.le_trans (Nat.le_add_right _ _) hv3)) hv3]
    rw [valD_cons]
    exact ih _ h.2 hv2
theorem parse_ok (M : Nat) (l : List UInt8) : ∀ a u, a ≤ M → Lib.parseUintM M a l = .ok u → l.all digB = true ∧ u = valD a l ∧ u ≤ M := by
  induction l with
  | nil =>
    intro a u ha h
    rw [Lib.parseUintM] at h
    obtain rfl : a = u := Lib.NumEnd.ok.inj h
    exact ⟨rfl, (valD_nil a).symm, ha⟩
  | cons c r ih =>
    intro a u ha h
    rw [Lib.parseUintM] at h
    split at h
    · rename_i hc
      split at h
      · cases h
      · split at h
        · cases h
        · have := ih _ u (by omega) h
          exact ⟨by rw [List.all_cons, (digB_iff c).2 hc, this.1, Bool.true_and], by rw [valD_cons]; exact this.2.1, this.2.2⟩
    · cases h
theorem dec_val (u : Nat) : valD 0 (Lib.decDigits u) = u := by
  induction u using Nat.strongRecOn with
  | ind u ih =>
    by_cases h : u < 10
    · rw [Lib.decDigits_one h]
      rw [valD_cons, valD_nil, UInt8.toNat_ofNat']
      omega
    · rw [Lib.decDigits, dif_neg h, valD_snoc, ih _ (by omega)]
      simp only [UInt8.toNat_ofNat']
      omega
theorem dec_all (u : Nat) : (Lib.decDigits u).all digB = true := by
  induction u using Nat.strongRecOn with
  | ind u ih =>
    by_cases h : u < 10
    · rw [Lib.decDigits_one h, List.all_cons, List.all_nil, Bool.and_true, digB_iff, UInt8.toNat_ofNat']
      omega
    · rw [Lib.decDigits, dif_neg h, List.all_append, ih _ (by omega), List.all_cons, List.all_nil, Bool.and_true, Bool.true_and, digB_iff, UInt8.toNat_ofNat']
      omega
theorem dec_ne (u : Nat) : Lib.decDigits u ≠ [] := by
  intro h
  have := Lib.decDigits_length u
  rw [h] at this
  have := Lib.nDigits_pos u
  simp at *
  omega
theorem head?_app {a b : List UInt8} (h : a ≠ []) : (a ++ b).head? = a.head? := by
  cases a with
  | nil => exact absurd rfl h
  | cons c r => rfl
theorem dec_head (u : Nat) (h1 : 1 ≤ u) : (Lib.decDigits u).head? ≠ some 48 := by
  induction u using Nat.strongRecOn with
  | ind u ih =>
    by_cases h : u < 10
    · rw [Lib.decDigits_one h]
      simp only [List.head?_cons, ne_eq, Option.some.injEq]
      intro e
      have := congrArg UInt8.toNat e
      rw [UInt8.toNat_ofNat'] at this
      have h48 : (48 : UInt8).toNat = 48 := rfl
      omega
    · rw [Lib.decDigits, dif_neg h, head?_app (dec_ne _)]
      exact ih _ (by omega) (by omega)
theorem dec_back (n : Nat) : ∀ l : List UInt8, l.length = n → l ≠ [] → l.all digB = true → (l.head? ≠ some 48 ∨ l = [48]) → Lib.decDigits (valD 0 l) = l := by
  induction n with
  | zero => intro l hl hne; exact absurd (List.length_eq_zero_iff.1 hl) hne
  | succ n ih =>
    intro l hl hne hall hh
    obtain ⟨r, c, rfl⟩ : ∃ r c, l = r ++ [c] := ⟨l.dropLast, l.getLast hne, (List.dropLast_concat_getLast hne).symm⟩
    rw [List.all_append, List.all_cons, List.all_nil, Bool.and_true, Bool.and_eq_true] at hall
    have hc := (digB_iff c).1 hall.2
    rw [valD_snoc]
    have hcc : UInt8.ofNat (48 + (c.toNat - 48)) = c := by
      rw [show 48 + (c.toNat - 48) = c.toNat from by omega]; exact UInt8.ofNat_toNat
    by_cases hr : r = []
    · subst hr
      rw [valD_nil, Lib.decDigits_one (by omega), show 48 + (0 * 10 + (c.toNat - 48)) = 48 + (c.toNat - 48) from by omega, hcc]; rfl
    · have hh2 : r.head? ≠ some 48 := by
        rcases hh with hh | hh
        · rwa [head?_app hr] at hh
        · exfalso
          have := congrArg List.length hh
          simp at this
          exact hr this
      have hi := ih r (by simp at hl; omega) hr hall.1 (.inl hh2)
      have hpos : 1 ≤ valD 0 r := by
        cases r with
        | nil => exact absurd rfl hr
        | cons b t =>
          have hb : digB b = true := by
            have := hall.1
            rw [List.all_cons, Bool.and_eq_true] at this
            exact this.1
          have hb2 := (digB_iff b).1 hb
          have hge := valD_ge t (0 * 10 + (b.toNat - 48))
          have hne48 : b.toNat ≠ 48 := fun e => hh2 (by rw [List.head?_cons]; exact congrArg some (UInt8.toNat_inj.1 (by rw [e]; rfl)))
          rw [valD_cons]
          omega
      rw [Lib.decDigits, dif_neg (by omega), show (valD 0 r * 10 + (c.toNat - 48)) / 10 = valD 0 r from by omega, show (valD 0 r * 10 + (c.toNat - 48)) % 10 = c.toNat - 48 from by omega, hi, hcc]
theorem trim_minus (d : List UInt8) : Lib.trimPrefix (45 :: d) [45] = d := by
  simp [Lib.trimPrefix, Lib.hasPrefix]
theorem trim_other (l : List UInt8) (h : l.head? ≠ some 45) : Lib.trimPrefix l [45] = l := by
  cases l with
  | nil => rfl
  | cons c r =>
    have : ¬ (45 : UInt8) = c := fun e => h (by rw [List.head?_cons, e])
    simp [Lib.trimPrefix, Lib.hasPrefix, this]
theorem num_back (l : List UInt8) (x : Int) (h : numB l = some x) : Lib.itoa x = l ∧ -9223372036854775808 ≤ x ∧ x ≤ 9223372036854775807 := by
  unfold numB at h
  simp only at h
  split at h
  · cases h
  rename_i h1
  split at h
  · cases h
  rename_i h2
  split at h
  · cases h
  rename_i h3
  by_cases hm : l.head? = some 45
  · cases l with
    | nil => cases hm
    | cons c d =>
      rw [List.head?_cons] at hm
      obtain rfl : c = 45 := Option.some.inj hm
      rw [trim_minus] at h1 h2 h3
      have hd48 : d.head? ≠ some 48 := fun e => h2 ⟨e, by simp⟩
      have hall : d.all digB = true := by simpa using h3
      simp only [Lib.parseIntB, Lib.parseUintB] at h
      rw [if_pos (Or.inr rfl : (45 : UInt8).toNat = 43 ∨ (45 : UInt8).toNat = 45), if_neg h1] at h
      cases hp : Lib.parseUintM (2 ^ 64 - 1) 0 d with
      | ok u =>
        rw [hp] at h
        have hu := parse_ok _ d 0 u (Nat.zero_le _) hp
        have hb := dec_back d.length d rfl h1 hall (.inl hd48)
        rw [← hu.2.1] at hb
        have hu1 : 1 ≤ u := by
          rcases Nat.eq_zero_or_pos u with h0 | h0
          · subst h0
            rw [Lib.decDigits_one (by omega)] at hb
            exact absurd (by rw [← hb]; rfl) hd48
          · exact h0
        simp only [show (45 : UInt8).toNat = 45 from rfl] at h
        simp only [not_true_eq_false, false_and, if_false, true_and, if_true] at h
        by_cases hlt : 2 ^ (64 - 1) < u
        · rw [if_pos hlt] at h; cases h
        rw [if_neg hlt] at h
        have hlt2 : u ≤ 9223372036854775808 := Nat.le_of_not_lt hlt
        clear hlt
        obtain rfl : -(u : Int) = x := Option.some.inj h
        refine ⟨?_, by omega, by omega⟩
        unfold Lib.itoa
        rw [if_pos (by omega), show (-(u : Int)).natAbs = u from by omega, hb]
      | _ => rw [hp] at h; cases h
  · rw [trim_other l hm] at h1 h2 h3
    have hall : l.all digB = true := by simpa using h3
    cases l with
    | nil => exact absurd rfl h1
    | cons c r =>
      have hc := (digB_iff c).1 (by rw [List.all_cons, Bool.and_eq_true] at hall; exact hall.1)
      simp only [Lib.parseIntB, Lib.parseUintB] at h
      rw [if_neg (show ¬ (c.toNat = 43 ∨ c.toNat = 45) from by omega)] at h
      rw [if_neg h1] at h
      cases hp : Lib.parseUintM (2 ^ 64 - 1) 0 (c :: r) with
      | ok u =>
        rw [hp] at h
        have hu := parse_ok _ (c :: r) 0 u (Nat.zero_le _) hp
        have hb := dec_back _ (c :: r) rfl h1 hall (by
          by_cases e : (c :: r).head? = some 48
          · exact .inr (Classical.byContradiction fun hne => h2 ⟨e, hne⟩)
          · exact .inl e)
        rw [← hu.2.1] at hb
        have hc45 : ¬ c.toNat = 45 := by omega
        simp only [hc45, not_false_eq_true, true_and, false_and, if_false] at h
        by_cases hlt : 2 ^ (64 - 1) ≤ u
        · rw [if_pos hlt] at h; cases h
        rw [if_neg hlt] at h
        have hlt2 : u < 9223372036854775808 := Nat.lt_of_not_le hlt
        clear hlt
        obtain rfl : (u : Int) = x := Option.some.inj h
        refine ⟨?_, by omega, by omega⟩
        unfold Lib.itoa
        rw [if_neg (by omega), show ((u : Int)).toNat = u from by omega, hb]
      | _ => rw [hp] at h; cases h
theorem num_there (x : Int) (h0 : -9223372036854775808 ≤ x) (h1 : x ≤ 9223372036854775807) : numB (Lib.itoa x) = some x := by
  unfold numB
  by_cases hn : x < 0
  · have e : Lib.itoa x = 45 :: Lib.decDigits x.natAbs := by unfold Lib.itoa; rw [if_pos hn]
    rw [e, trim_minus]
    have hh := dec_head x.natAbs (by omega)
    simp only
    rw [if_neg (dec_ne _), if_neg (fun h => hh h.1), if_neg (by rw [dec_all]; simp)]
    simp only [Lib.parseIntB, Lib.parseUintB]
    rw [if_pos (Or.inr rfl : (45 : UInt8).toNat = 43 ∨ (45 : UInt8).toNat = 45), if_neg (dec_ne _), parse_val _ (by decide) _ _ (dec_all _) (by rw [dec_val]; omega), dec_val]
    simp only [show (45 : UInt8).toNat = 45 from rfl]
    simp only [not_true_eq_false, false_and, if_false, true_and, if_true]
    rw [if_neg (by omega)]
    simp only [Option.some.injEq]
    omega
  · have e : Lib.itoa x = Lib.decDigits x.toNat := by unfold Lib.itoa; rw [if_neg hn]
    rw [e]
    have hal := dec_all x.toNat
    have hne := dec_ne x.toNat
    have hpv := parse_val (2 ^ 64 - 1) (by decide) _ 0 (dec_all x.toNat) (by rw [dec_val]; omega)
    rw [dec_val] at hpv
    have hh : (Lib.decDigits x.toNat).head? = some 48 → Lib.decDigits x.toNat = [48] := by
      intro h
      rcases Nat.eq_zero_or_pos x.toNat with h0 | h0
      · rw [h0, Lib.decDigits_one (by omega)]; rfl
      · exact absurd h (dec_head _ h0)
    generalize Lib.decDigits x.toNat = l at *
    cases l with
    | nil => exact absurd rfl hne
    | cons c r =>
      have hc := (digB_iff c).1 (by rw [List.all_cons, Bool.and_eq_true] at hal; exact hal.1)
      rw [trim_other _ (by rw [List.head?_cons]; intro e; have := congrArg UInt8.toNat (Option.some.inj e); rw [show (45 : UInt8).toNat = 45 from rfl] at this; omega)]
      simp only
      rw [if_neg hne, if_neg (fun h => h.2 (hh h.1)), if_neg (by rw [hal]; simp)]
      simp only [Lib.parseIntB, Lib.parseUintB]
      rw [if_neg (show ¬ (c.toNat = 43 ∨ c.toNat = 45) from by omega)]
      rw [if_neg hne, hpv]
      have hc45 : ¬ c.toNat = 45 := by omega
      simp only [hc45, not_false_eq_true, true_and, false_and, if_false]
      rw [if_neg (by omega)]
      simp only [Option.some.injEq]
      omega
theorem itoa_plain (x : Int) : ∀ c ∈ Lib.itoa x, c = 45 ∨ digB c = true := by
  intro c hc
  unfold Lib.itoa at hc
  split at hc
  · rcases List.mem_cons.1 hc with h | h
    · exact .inl h
    · exact .inr (List.all_eq_true.1 (dec_all _) c h)
  · exact .inr (List.all_eq_true.1 (dec_all _) c hc)

/-- the words of a line -/
def wsL : List UInt8 → List (List UInt8)
  | [] => [[]]
  | b :: l => if b = 32 then [] :: wsL l else (match wsL l with | w :: ws => (b :: w) :: ws | [] => [[b]])
theorem words_ne (l : List UInt8) : wsL l ≠ [] := by
  cases l with
  | nil => simp [wsL]
  | cons b l =>
    rw [wsL]
    split
    · simp
    · split <;> simp
theorem words_sp (l : List UInt8) : wsL (32 :: l) = [] :: wsL l := by rw [wsL, if_pos rfl]
theorem words_c (b : UInt8) (l : List UInt8) (h : b ≠ 32) (w : List UInt8) (ws : List (List UInt8)) (e : wsL l = w :: ws) : wsL (b :: l) = (b :: w) :: ws := by
  rw [wsL, if_neg h, e]
theorem split_words (l : List UInt8) : Lib.splitK [32] 0 (l.count 32) l = wsL l := by
  induction l with
  | nil => rfl
  | cons b l ih =>
    by_cases hb : b = 32
    · subst hb
      rw [words_sp, List.count_cons_self]
      have hix : Lib.index (32 :: l) [32] = ((0 : Nat) : Int) := by rw [Lib.index]; simp [List.isPrefixOf]
      rw [Lib.splitK, hix, if_neg (by decide), ← ih]
      simp
    · obtain ⟨w, ws, hw⟩ : ∃ w ws, wsL l = w :: ws := List.exists_cons_of_ne_nil (words_ne l)
      rw [words_c b l hb w ws hw, List.count_cons_of_ne (by simpa using hb)]
      rw [hw] at ih
      have hp : ([32] : List UInt8).isPrefixOf (b :: l) = false := by simp [List.isPrefixOf, Ne.symm hb]
      have hix : Lib.index (b :: l) [32] = if Lib.index l [32] == -1 then -1 else Lib.index l [32] + 1 := by rw [Lib.index, hp]; simp
      generalize l.count 32 = k at ih ⊢
      cases k with
      | zero =>
        rw [Lib.splitK] at ih ⊢
        rw [List.cons.injEq] at ih
        rw [ih.1, ← ih.2]
      | succ k =>
        rw [Lib.splitK] at ih ⊢
        rw [hix]
        by_cases hm : Lib.index l [32] = -1
        · rw [hm] at ih ⊢
          rw [if_pos (by decide)] at ih
          rw [if_pos (show ((-1 : Int) == -1) = true by decide), if_pos (by decide)]
          rw [List.cons.injEq] at ih
          rw [ih.1, ← ih.2]
        · have hm2 : ¬ (Lib.index l [32] == -1) = true := by simpa using hm
          have hge := Lib.index_ge l [32]
          obtain ⟨j, hj⟩ : ∃ j : Nat, Lib.index l [32] = j := ⟨(Lib.index l [32]).toNat, by omega⟩
          rw [if_neg hm2] at ih ⊢
          rw [if_neg (by rw [beq_iff_eq]; omega)]
          rw [hj] at ih ⊢
          rw [List.cons.injEq] at ih
          rw [show ((j : Int) + 1).toNat = j + 1 from by omega]
          rw [show (j : Int).toNat = j from by omega] at ih
          simp only [List.length_singleton, Nat.add_zero] at ih ⊢
          rw [show j + 1 + 1 = (j + 1) + 1 from rfl, List.take_succ_cons, List.drop_succ_cons, ih.1, ih.2]
theorem splitB_words (s : ByteArray) : (Lib.splitB ⟨#[32]⟩ 0 (Lib.countB s ⟨#[32]⟩) s).map (·.data.toList) = wsL s.data.toList := by
  rw [Lib.splitB_data]
  show Lib.splitK [32] 0 (Lib.count s.data.toList [32]) s.data.toList = _
  rw [Lib.count_one, split_words]
/-- a line of words -/
def lineW (w : List UInt8) (ws : List (List UInt8)) : List UInt8 := w ++ ws.flatMap (32 :: ·)
theorem words_app (w t : List UInt8) (h : 32 ∉ w) : wsL (w ++ 32 :: t) = w :: wsL t := by
  induction w with
  | nil => exact words_sp t
  | cons b w ih =>
    rw [List.mem_cons, not_or] at h
    exact words_c b _ (Ne.symm h.1) w _ (ih h.2)
theorem words_plain (w : List UInt8) (h : 32 ∉ w) : wsL w = [w] := by
  induction w with
  | nil => rfl
  | cons b w ih =>
    rw [List.mem_cons, not_or] at h
    exact words_c b _ (Ne.symm h.1) w _ (ih h.2)
theorem words_line (ws : List (List UInt8)) : ∀ w : List UInt8, 32 ∉ w → (∀ v ∈ ws, 32 ∉ v) → wsL (lineW w ws) = w :: ws := by
  induction ws with
  | nil => intro w h _; rw [lineW, List.flatMap_nil, List.append_nil, words_plain w h]
  | cons v ws ih =>
    intro w h hs
    have := ih v (hs v (List.mem_cons_self ..)) (fun x hx => hs x (List.mem_cons_of_mem _ hx))
    rw [lineW, List.flatMap_cons, List.cons_append, words_app w _ h]
    rw [lineW] at this
    rw [this]
theorem line_words (l : List UInt8) : ∀ w ws, wsL l = w :: ws → lineW w ws = l := by
  induction l with
  | nil => intro w ws h; rw [wsL, List.cons.injEq] at h; rw [← h.1, ← h.2]; rfl
  | cons b l ih =>
    intro w ws h
    obtain ⟨v, vs, hv⟩ : ∃ w ws, wsL l = w :: ws := List.exists_cons_of_ne_nil (words_ne l)
    have hl := ih v vs hv
    by_cases hb : b = 32
    · subst hb
      rw [words_sp, List.cons.injEq, hv] at h
      rw [← h.1, ← h.2, lineW, List.flatMap_cons, ← hl, lineW]
      rfl
    · rw [words_c b l hb v vs hv, List.cons.injEq] at h
      rw [← h.1, ← h.2, ← hl, lineW, lineW, List.cons_append]

theorem hexd_nat (n : Nat) (h : n < 16) : (hexd n).toNat = if n < 10 then 48 + n else 87 + n := by
  unfold hexd
  split
  · rw [UInt8.toNat_ofNat']; omega
  · rw [UInt8.toNat_ofNat']; omega
theorem nib_hexd (n : Nat) (h : n < 16) : nib (hexd n) = n := by
  unfold nib nibbleF
  rw [hexd_nat n h]
  by_cases h10 : n < 10
  · rw [if_pos h10, if_pos (by omega)]; omega
  · rw [if_neg h10, if_neg (by omega), if_pos (by omega)]; omega
theorem hexd_nib (c : UInt8) (h : ¬ nib c < 0) : hexd (nib c).toNat = c ∧ (nib c).toNat < 16 := by
  unfold nib nibbleF at h ⊢
  have hc := c.toNat_lt
  by_cases h1 : 48 ≤ (c.toNat : Int) ∧ (c.toNat : Int) ≤ 57
  · rw [if_pos h1] at h ⊢
    refine ⟨UInt8.toNat_inj.1 ?_, by omega⟩
    rw [hexd_nat _ (by omega), if_pos (by omega)]; omega
  · rw [if_neg h1] at h ⊢
    by_cases h2 : 97 ≤ (c.toNat : Int) ∧ (c.toNat : Int) ≤ 102
    · rw [if_pos h2] at h ⊢
      refine ⟨UInt8.toNat_inj.1 ?_, by omega⟩
      rw [hexd_nat _ (by omega), if_neg (by omega)]; omega
    · rw [if_neg h2] at h; omega
theorem unhexGo_hex (l : List UInt8) : unhexGo (hexL l) = some l := by
  induction l with
  | nil => rfl
  | cons c r ih =>
    have hc := c.toNat_lt
    rw [hexL, unhexGo, nib_hexd _ (by omega), nib_hexd _ (by omega), if_neg (by omega), ih, Option.map_some]
    congr 2
    apply UInt8.toNat_inj.1
    rw [UInt8.toNat_ofNat']
    omega
theorem unhex_there (l : List UInt8) : unhexL (bytesL l) = some l := by
  unfold bytesL
  by_cases h : l = []
  · subst h; rfl
  · rw [if_neg h]
    unfold unhexL
    have hl := hexL_length l
    have hpos : 0 < l.length := List.length_pos_iff.2 h
    rw [if_neg (fun e => by rw [e] at hl; simp only [List.length_singleton] at hl; omega), if_neg (by
      rintro (e | e)
      · rw [e] at hl; simp only [List.length_nil] at hl; omega
      · omega), unhexGo_hex]
theorem unhexGo_back (n : Nat) : ∀ (s l : List UInt8), s.length ≤ n → unhexGo s = some l → hexL l = s := by
  induction n with
  | zero =>
    intro s l hn h
    obtain rfl : s = [] := List.length_eq_zero_iff.1 (Nat.le_zero.1 hn)
    rw [unhexGo] at h
    obtain rfl : [] = l := Option.some.inj h
    rfl
  | succ n ih =>
    intro s l hn h
    match s, hn, h with
    | [], _, h =>
      rw [unhexGo] at h
      obtain rfl : [] = l := Option.some.inj h
      rfl
    | [_], _, h => rw [unhexGo] at h; cases h
    | a :: b :: r, hn, h =>
      rw [unhexGo] at h
      split at h
      · cases h
      rename_i hab
      have ha := hexd_nib a (fun e => hab (.inl e))
      have hb := hexd_nib b (fun e => hab (.inr e))
      obtain ⟨t, ht, rfl⟩ := Option.map_eq_some_iff.1 h
      have := ih r t (by simp only [List.length_cons] at hn; omega) ht
      rw [hexL, this, UInt8.toNat_ofNat']
      rw [show ((nib a).toNat * 16 + (nib b).toNat) % 2 ^ 8 / 16 = (nib a).toNat from by omega, show ((nib a).toNat * 16 + (nib b).toNat) % 2 ^ 8 % 16 = (nib b).toNat from by omega, ha.1, hb.1]
theorem unhex_back (s l : List UInt8) (h : unhexL s = some l) : bytesL l = s ∧ 2 * l.length ≤ s.length := by
  unfold unhexL at h
  split at h
  · rename_i e
    obtain rfl : [] = l := Option.some.inj h
    exact ⟨e.symm, by simp⟩
  split at h
  · cases h
  rename_i e
  have hb := unhexGo_back s.length s l (Nat.le_refl _) h
  have hl := hexL_length l
  rw [hb] at hl
  refine ⟨?_, by omega⟩
  unfold bytesL
  rw [if_neg (fun h0 => e (.inl (by rw [← hb, h0]; rfl))), hb]
theorem hex_plain (l : List UInt8) : ∀ c ∈ bytesL l, c.toNat = 45 ∨ (48 ≤ c.toNat ∧ c.toNat ≤ 57) ∨ (97 ≤ c.toNat ∧ c.toNat ≤ 102) := by
  have hd : ∀ n, n < 16 → (48 ≤ (hexd n).toNat ∧ (hexd n).toNat ≤ 57) ∨ (97 ≤ (hexd n).toNat ∧ (hexd n).toNat ≤ 102) := by
    intro n hn
    rw [hexd_nat n hn]
    split <;> omega
  have hx : ∀ c ∈ hexL l, (48 ≤ c.toNat ∧ c.toNat ≤ 57) ∨ (97 ≤ c.toNat ∧ c.toNat ≤ 102) := by
    induction l with
    | nil => intro c hc; cases hc
    | cons b r ih =>
      intro c hc
      have hb := b.toNat_lt
      rw [hexL, List.mem_cons, List.mem_cons] at hc
      rcases hc with rfl | rfl | hc
      · exact hd _ (by omega)
      · exact hd _ (by omega)
      · exact ih c hc
  intro c hc
  unfold bytesL at hc
  split at hc
  · rw [List.mem_singleton] at hc; subst hc; exact .inl rfl
  · exact .inr (hx c hc)

theorem numGo_digits (top : Nat) (z : Bool) (t : List UInt8) (d : List UInt8) : ∀ n i, d.all digB = true → valD n d ≤ top → (z = true → d = [] ∨ (i = 0 ∧ d.length ≤ 1)) →
    numGo top z (d ++ t) n i = numGo top z t (valD n d) (i + d.length) := by
  induction d with
  | nil => intro n i _ _ _; rw [List.nil_append, valD_nil, List.length_nil, Nat.add_zero]
  | cons c r ih =>
    intro n i hall hv hz
    rw [List.all_cons, Bool.and_eq_true] at hall
    have hc := (digB_iff c).1 hall.1
    rw [valD_cons] at hv ⊢
    have hge := valD_ge r (n * 10 + (c.toNat - 48))
    rw [List.cons_append, numGo_step hc (by
      rintro (h | ⟨h1, h2⟩)
      · omega
      · rcases hz h2 with h | ⟨h, _⟩
        · cases h
        · omega), ih _ _ hall.2 hv (by
      intro h
      rcases hz h with h' | ⟨_, h'⟩
      · cases h'
      · exact .inl (List.length_eq_zero_iff.1 (by simp only [List.length_cons] at h'; omega)))]
    rw [List.length_cons, show i + 1 + r.length = i + (r.length + 1) from by omega]
theorem numL_dec (u : Nat) (t : List UInt8) (hu : u ≤ 255) (ht : ∀ c r, t = c :: r → ¬ (48 ≤ c.toNat ∧ c.toNat ≤ 57)) : numL 255 (Lib.decDigits u ++ t) = (u, (Lib.decDigits u).length) := by
  unfold numL
  rw [numGo_digits 255 _ t _ 0 0 (dec_all u) (by rw [dec_val]; exact hu) (by
    intro hz
    rw [beq_iff_eq, head?_app (dec_ne u)] at hz
    rcases Nat.eq_zero_or_pos u with h0 | h0
    · subst h0; exact .inr ⟨rfl, by rw [Lib.decDigits_one (by omega)]; simp⟩
    · exact absurd hz (dec_head u h0)), dec_val, Nat.zero_add]
  cases t with
  | nil => rfl
  | cons c r => rw [numGo_other (ht c r rfl)]
theorem dec_len_pos (u : Nat) : (Lib.decDigits u).length ≠ 0 := by rw [Lib.decDigits_length]; have := Lib.nDigits_pos u; omega
theorem addr_there (a : Nat) (ha : a < 4294967296) : parseAddr (addrL a) = some a := by
  have dot : ∀ (x : List UInt8) c r, [46] ++ x = c :: r → ¬ (48 ≤ c.toNat ∧ c.toNat ≤ 57) := by
    intro x c r h
    rw [List.singleton_append, List.cons.injEq] at h
    rw [← h.1]; decide
  unfold parseAddr addrL
  rw [show parseFrom 4 = parseFrom (3 + 1) from rfl, parseFrom, if_neg (by simp)]
  simp only [if_true]
  rw [numL_dec _ _ (by omega) (dot _), if_neg (dec_len_pos _), List.drop_left]
  rw [show parseFrom 3 = parseFrom (2 + 1) from rfl, parseFrom, if_neg (by simp)]
  simp only [show ¬ (2 + 1 = 4) from by omega, if_false, List.singleton_append, List.tail_cons]
  rw [numL_dec _ _ (by omega) (fun c r h => by rw [List.cons.injEq] at h; rw [← h.1]; decide), if_neg (dec_len_pos _), List.drop_left]
  rw [show parseFrom 2 = parseFrom (1 + 1) from rfl, parseFrom, if_neg (by simp)]
  simp only [show ¬ (1 + 1 = 4) from by omega, if_false, List.tail_cons]
  rw [numL_dec _ _ (by omega) (fun c r h => by rw [List.cons.injEq] at h; rw [← h.1]; decide), if_neg (dec_len_pos _), List.drop_left]
  rw [show parseFrom 1 = parseFrom (0 + 1) from rfl, parseFrom, if_neg (by simp)]
  simp only [show ¬ (0 + 1 = 4) from by omega, if_false, List.tail_cons]
  have h := numL_dec (a % 256) [] (by omega) (fun c r h => by cases h)
  rw [List.append_nil] at h
  rw [h, if_neg (dec_len_pos _), List.drop_length, parseFrom, if_pos rfl]
  congr 1
  omega
theorem numGo_back (top : Nat) (z : Bool) (l : List UInt8) : ∀ n i, n ≤ top → (numGo top z l n i).2 ≠ 0 → ∃ d r, l = d ++ r ∧ (numGo top z l n i).2 = i + d.length ∧ (numGo top z l n i).1 = valD n d ∧ valD n d ≤ top ∧ d.all digB = true ∧ (z = true → d = [] ∨ (i = 0 ∧ d.length ≤ 1)) := by
  induction l with
  | nil => intro n i hn _; exact ⟨[], [], rfl, rfl, (valD_nil n).symm, by rw [valD_nil]; exact hn, rfl, fun _ => .inl rfl⟩
  | cons c r ih =>
    intro n i hn h
    by_cases hc : 48 ≤ c.toNat ∧ c.toNat ≤ 57
    · by_cases hb : top < n * 10 + (c.toNat - 48) ∨ (1 ≤ i ∧ z = true)
      · rw [numGo_bad hc hb] at h; exact absurd rfl h
      · rw [numGo_step hc hb] at h ⊢
        obtain ⟨d, s, e1, e2, e3, e4, e5, e6⟩ := ih (n * 10 + (c.toNat - 48)) (i + 1) (by omega) h
        refine ⟨c :: d, s, by rw [e1]; rfl, by rw [e2, List.length_cons]; omega, by rw [e3, valD_cons], by rw [valD_cons]; exact e4, by rw [List.all_cons, (digB_iff c).2 hc, e5]; rfl, ?_⟩
        intro hz
        rcases e6 hz with h' | ⟨h', _⟩
        · subst h'
          refine .inr ⟨?_, by simp⟩
          rcases Nat.eq_zero_or_pos i with h0 | h0
          · exact h0
          · exact absurd (.inr ⟨h0, hz⟩) hb
        · omega
    · rw [numGo_other hc]
      exact ⟨[], c :: r, rfl, rfl, (valD_nil n).symm, by rw [valD_nil]; exact hn, rfl, fun _ => .inl rfl⟩
theorem numL_back (l : List UInt8) (h : (numL 255 l).2 ≠ 0) : ∃ r, l = Lib.decDigits (numL 255 l).1 ++ r ∧ l.drop (numL 255 l).2 = r ∧ (numL 255 l).1 ≤ 255 := by
  obtain ⟨d, r, e1, e2, e3, e4, e5, e6⟩ := numGo_back 255 (l.head? == some 48) l 0 0 (by omega) h
  have hd : d ≠ [] := by
    intro h0
    subst h0
    apply h
    unfold numL
    rw [e2]; rfl
  have hb : Lib.decDigits (valD 0 d) = d := dec_back d.length d rfl hd e5 (by
    by_cases h48 : d.head? = some 48
    · right
      have := e6 (by rw [e1, head?_app hd, h48]; rfl)
      rcases this with h0 | ⟨_, h1⟩
      · exact absurd h0 hd
      · cases d with
        | nil => exact absurd rfl hd
        | cons c t =>
          rw [List.head?_cons] at h48
          rw [Option.some.inj h48, List.length_eq_zero_iff.1 (show t.length = 0 by simp only [List.length_cons] at h1; omega)]
    · exact .inl h48)
  refine ⟨r, ?_, ?_, ?_⟩
  · unfold numL; rw [e3, hb]; exact e1
  · unfold numL; rw [e2, Nat.zero_add]
    conv => lhs; arg 2; rw [e1]
    exact List.drop_left
  · unfold numL; rw [e3]; exact e4
theorem parse_some (m a : Nat) (s : List UInt8) (x : Nat) (hm : m < 3) (h : parseFrom (m + 1) a s = some x) : ∃ n r, s = 46 :: (Lib.decDigits n ++ r) ∧ n ≤ 255 ∧ parseFrom m (a * 256 + n) r = some x := by
  rw [parseFrom] at h
  simp only [show ¬ (m + 1 = 4) from by omega, ne_eq, not_false_eq_true, true_and, if_false] at h
  by_cases h1 : s.head? = some 46
  · rw [if_neg (by simpa using h1)] at h
    cases s with
    | nil => cases h1
    | cons c t =>
      rw [List.head?_cons] at h1
      obtain rfl : c = 46 := Option.some.inj h1
      rw [List.tail_cons] at h
      by_cases h2 : (numL 255 t).2 = 0
      · rw [if_pos h2] at h; cases h
      · rw [if_neg h2] at h
        obtain ⟨r, e1, e2, e3⟩ := numL_back t h2
        rw [e2] at h
        exact ⟨_, r, by rw [← e1], e3, h⟩
  · rw [if_pos h1] at h; cases h
theorem addr_back (s : List UInt8) (a : Nat) (h : parseAddr s = some a) : addrL a = s ∧ a < 4294967296 := by
  unfold parseAddr at h
  rw [show parseFrom 4 = parseFrom (3 + 1) from rfl, parseFrom, if_neg (by simp)] at h
  simp only [if_true] at h
  by_cases h2 : (numL 255 s).2 = 0
  · rw [if_pos h2] at h; cases h
  rw [if_neg h2] at h
  obtain ⟨r, e1, e2, e3⟩ := numL_back s h2
  rw [e2] at h
  generalize (numL 255 s).1 = n1 at *
  obtain ⟨n2, r2, f1, f2, h⟩ := parse_some 2 _ _ _ (by omega) h
  obtain ⟨n3, r3, g1, g2, h⟩ := parse_some 1 _ _ _ (by omega) h
  obtain ⟨n4, r4, k1, k2, h⟩ := parse_some 0 _ _ _ (by omega) h
  rw [parseFrom] at h
  by_cases hr : r4 = []
  · rw [if_pos hr] at h
    have ha := (Option.some.inj h).symm
    refine ⟨?_, by omega⟩
    unfold addrL
    rw [e1, f1, g1, k1, hr, show a / 16777216 % 256 = n1 from by omega, show a / 65536 % 256 = n2 from by omega, show a / 256 % 256 = n3 from by omega, show a % 256 = n4 from by omega, List.append_nil]
    rfl
  · rw [if_neg hr] at h; cases h
theorem addr_plain (a : Nat) : ∀ c ∈ addrL a, c.toNat = 46 ∨ (48 ≤ c.toNat ∧ c.toNat ≤ 57) := by
  have hd : ∀ u, ∀ c ∈ Lib.decDigits u, (48 ≤ c.toNat ∧ c.toNat ≤ 57) := fun u c hc => (digB_iff c).1 (List.all_eq_true.1 (dec_all u) c hc)
  intro c hc
  unfold addrL at hc
  simp only [List.mem_append, List.mem_singleton] at hc
  rcases hc with h | rfl | h | rfl | h | rfl | h
  · exact .inr (hd _ _ h)
  · exact .inl rfl
  · exact .inr (hd _ _ h)
  · exact .inl rfl
  · exact .inr (hd _ _ h)
  · exact .inl rfl
  · exact .inr (hd _ _ h)

end Go.Proofs.YtmnkdnpjcfmjgaaGreatDoor
