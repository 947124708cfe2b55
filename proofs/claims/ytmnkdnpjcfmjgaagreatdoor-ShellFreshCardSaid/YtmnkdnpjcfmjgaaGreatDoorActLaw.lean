/- Package shell, in plain Lean: an act's line is read back as the act; a line that is an act is that act's line. -/
import Derived.Test.YtmnkdnpjcfmjgaaGreatDoorFormat
namespace Go.Proofs.YtmnkdnpjcfmjgaaGreatDoor

theorem kind_word (k : Nat) (h1 : 1 ≤ k) (h : k < 30) : kindB (gramL.getD k ([], [])).1 = k := by
  have : ∀ k : Fin 30, 1 ≤ k.val → kindB (gramL.getD k ([], [])).1 = (k.val : Int) := by decide +kernel
  exact this ⟨k, h⟩ h1
theorem kind_back (n : Nat) (l : List UInt8) : kindTo n l = 0 ∨ ∃ j : Nat, j < n ∧ kindTo n l = j ∧ (gramL.getD j ([], [])).1 = l := by
  induction n with
  | zero => exact .inl rfl
  | succ n ih =>
    rw [kindTo]
    split
    · rename_i h; exact .inr ⟨n, by omega, rfl, h⟩
    · rcases ih with h | ⟨j, h1, h2, h3⟩
      · exact .inl h
      · exact .inr ⟨j, by omega, h2, h3⟩
theorem word_plain (k : Nat) (h : k < 30) : 32 ∉ (gramL.getD k ([], [])).1 ∧ 10 ∉ (gramL.getD k ([], [])).1 ∧ 1 ≤ k → True := fun _ => trivial
theorem word_clean (k : Nat) (h : k < 30) : 32 ∉ (gramL.getD k ([], [])).1 ∧ 10 ∉ (gramL.getD k ([], [])).1 := by
  have : ∀ k : Fin 30, 32 ∉ (gramL.getD k ([], [])).1 ∧ 10 ∉ (gramL.getD k ([], [])).1 := by decide +kernel
  exact this ⟨k, h⟩

/-- no blank and no newline -/
def Clean (l : List UInt8) : Prop := 32 ∉ l ∧ 10 ∉ l
theorem clean_itoa (x : Int) : Clean (Lib.itoa x) := by
  constructor <;> (intro h; rcases itoa_plain x _ h with h | h <;> revert h <;> decide)
theorem clean_bytes (l : List UInt8) : Clean (bytesL l) := by
  constructor <;> (intro h; rcases hex_plain l _ h with h | h | h <;> revert h <;> decide)
theorem clean_addr (a : Nat) : Clean (addrL a) := by
  constructor <;> (intro h; rcases addr_plain a _ h with h | h <;> revert h <;> decide)
theorem clean_any (l : List UInt8) : l.any spB = false ↔ Clean l := by
  rw [List.any_eq_false]
  constructor
  · intro h
    exact ⟨fun e => h _ e (by decide), fun e => h _ e (by decide)⟩
  · intro h x hx
    simp only [spB, Bool.or_eq_true, beq_iff_eq, not_or]
    exact ⟨fun e => h.1 (e ▸ hx), fun e => h.2 (e ▸ hx)⟩

theorem set_num_there (a : ActD) (x : Int) (h : -9223372036854775808 ≤ x ∧ x ≤ 9223372036854775807) :
    setL a 104 (Lib.itoa x) = .ok { a with host := x } ∧ setL a 97 (Lib.itoa x) = .ok { a with place := x } ∧ setL a 110 (Lib.itoa x) = .ok { a with n := x } := by
  have := num_there x h.1 h.2
  refine ⟨?_, ?_, ?_⟩ <;> (unfold setL; rw [this]; rfl)
theorem set_name_there (a : ActD) (x : List UInt8) (h : x ≠ []) : setL a 119 x = .ok { a with name := x } := by
  unfold setL; rw [if_pos rfl, if_neg h]
theorem set_bytes_there (a : ActD) (x : List UInt8) : setL a 98 (bytesL x) = .ok { a with bytes := x } := by
  unfold setL; rw [unhex_there]; rfl
theorem set_addr_there (a : ActD) (x : Nat) (h : x < 4294967296) : setL a 105 (addrL x) = .ok { a with addr := x } := by
  unfold setL; rw [addr_there x h]; rfl

theorem clean_line (w : List UInt8) (ws : List (List UInt8)) (h0 : Clean w) (hs : ∀ v ∈ ws, Clean v) : 10 ∉ lineW w ws := by
  unfold lineW
  rw [List.mem_append, List.mem_flatMap]
  rintro (h | ⟨v, hv, h⟩)
  · exact h0.2 h
  · rw [List.mem_cons] at h
    rcases h with h | h
    · revert h; decide
    · exact (hs v hv).2 h
theorem parse_line (k : Nat) (h1 : 1 ≤ k) (h30 : k < 30) (ws : List (List UInt8)) (hs : ∀ v ∈ ws, Clean v) (hl : (lineW (gramL.getD k ([], [])).1 ws).length ≤ 131200) (hn : ws.length = (gramL.getD k ([], [])).2.length) :
    parseL (lineW (gramL.getD k ([], [])).1 ws) = setsL { ActD.zero with kind := k } (gramL.getD k ([], [])).2 ws := by
  have hw := word_clean k h30
  have hk := kind_word k h1 h30
  unfold parseL
  rw [words_line ws _ hw.1 (fun v hv => (hs v hv).1)]
  rw [if_neg (by omega), if_neg (clean_line _ ws hw hs), List.headD_cons, hk, if_neg (by omega), show ((k : Nat) : Int).toNat = k from by omega, List.length_cons, List.tail_cons, if_neg (by omega)]

theorem flat_mem {α : Type} (f : α → List UInt8) (l : List α) (x : α) (h : x ∈ l) : (f x).length ≤ (l.flatMap f).length := by
  induction l with
  | nil => cases h
  | cons y r ih =>
    rw [List.flatMap_cons, List.length_append]
    rcases List.mem_cons.1 h with rfl | h
    · omega
    · have := ih h; omega
theorem act_ext {a b : ActD} (h1 : a.kind = b.kind) (h2 : a.host = b.host) (h3 : a.n = b.n) (h4 : a.place = b.place) (h5 : a.name = b.name) (h6 : a.bytes = b.bytes) (h7 : a.addr = b.addr) : a = b := by
  cases a; cases b; simp_all

theorem format_parse (a : ActD) (ha : a.Ok) (s : List UInt8) (h : formatL a = .ok s) : parseL s = .ok a ∧ s.length ≤ 131200 := by
  unfold formatL at h
  by_cases h0 : a.kind < 1 ∨ 30 ≤ a.kind
  · rw [if_pos h0] at h; cases h
  rw [if_neg h0] at h
  obtain ⟨k, hk⟩ : ∃ k : Nat, a.kind = k := ⟨a.kind.toNat, by omega⟩
  rw [hk, show ((k : Nat) : Int).toNat = k from by omega] at h
  have h1 : 1 ≤ k := by omega
  have h30 : k < 30 := by omega
  clear h0
  by_cases hb : ¬ (leftL a (gramL.getD k ([], [])).2).bare
  · rw [if_pos hb] at h; cases h
  rw [if_neg hb] at h
  replace hb := Classical.not_not.1 hb
  by_cases hn : 119 ∈ (gramL.getD k ([], [])).2 ∧ (a.name = [] ∨ a.name.any spB = true)
  · rw [if_pos hn] at h; cases h
  rw [if_neg hn] at h
  by_cases hl : 131200 < (lineF a (gramL.getD k ([], []))).length
  · rw [if_pos hl] at h; cases h
  rw [if_neg hl] at h
  obtain rfl := Except.ok.inj h
  clear h
  refine ⟨?_, by omega⟩
  have hname : 119 ∈ (gramL.getD k ([], [])).2 → a.name ≠ [] ∧ Clean a.name := by
    intro hm
    refine ⟨fun e => hn ⟨hm, .inl e⟩, (clean_any _).1 ?_⟩
    rw [← Bool.not_eq_true]; exact fun e => hn ⟨hm, .inr e⟩
  have hbytes : 98 ∈ (gramL.getD k ([], [])).2 → a.bytes.length ≤ 131200 := by
    intro hm
    apply Classical.byContradiction
    intro hbig
    apply hl
    have hz : (fieldL a 98) = zerosL := if_neg hbig
    have : (32 :: fieldL a 98).length ≤ (((gramL.getD k ([], [])).2.map (fieldL a)).flatMap (32 :: ·)).length := flat_mem _ _ _ (List.mem_map_of_mem hm)
    unfold lineF lineW
    rw [List.length_append]
    rw [hz, List.length_cons, zerosL_len] at this
    omega
  have hf : ∀ v ∈ (gramL.getD k ([], [])).2.map (fieldL a), Clean v := by
    intro v hv
    obtain ⟨f, hf, rfl⟩ := List.mem_map.1 hv
    rcases arg_letters k f hf with rfl | rfl | rfl | rfl | rfl | rfl
    · exact clean_itoa _
    · exact clean_itoa _
    · exact clean_itoa _
    · exact (hname hf).2
    · show Clean (if a.bytes.length ≤ 131200 then bytesL a.bytes else zerosL)
      rw [if_pos (hbytes hf)]; exact clean_bytes _
    · exact clean_addr _
  unfold lineF at hl ⊢
  rw [parse_line k h1 h30 _ hf (by omega) (List.length_map ..)]
  clear hl hf hn
  have hg := gram_lists k h30
  generalize (gramL.getD k ([], [])).2 = l at *
  have n1 : ∀ b, setL b 104 (fieldL a 104) = .ok { b with host := a.host } := fun b => (set_num_there b a.host ha.host).1
  have n2 : ∀ b, setL b 97 (fieldL a 97) = .ok { b with place := a.place } := fun b => (set_num_there b a.place ha.place).2.1
  have n3 : ∀ b, setL b 110 (fieldL a 110) = .ok { b with n := a.n } := fun b => (set_num_there b a.n ha.n).2.2
  have n4 : ∀ b, setL b 105 (fieldL a 105) = .ok { b with addr := a.addr } := fun b => set_addr_there b a.addr ha.addr
  rcases hg with rfl | rfl | rfl | rfl | rfl | rfl | rfl | rfl | rfl
  all_goals
    obtain ⟨b1, b2, b3, b4, b5, b6⟩ := hb
    simp only [List.map_nil, List.map_cons, setsL, n1, n2, n3, n4]
  · exact congrArg _ (act_ext hk.symm b1.symm b3.symm b2.symm b4.symm b5.symm b6.symm)
  · exact congrArg _ (act_ext hk.symm b1.symm rfl b2.symm b4.symm b5.symm b6.symm)
  · exact congrArg _ (act_ext hk.symm rfl b3.symm b2.symm b4.symm b5.symm b6.symm)
  · exact congrArg _ (act_ext hk.symm b1.symm b3.symm rfl b4.symm b5.symm b6.symm)
  · exact congrArg _ (act_ext hk.symm b1.symm b3.symm b2.symm b4.symm b5.symm rfl)
  · exact congrArg _ (act_ext hk.symm rfl rfl b2.symm b4.symm b5.symm b6.symm)
  · have n5 : ∀ b, setL b 119 (fieldL a 119) = .ok { b with name := a.name } := fun b => set_name_there b a.name (hname (by decide)).1
    simp only [n5]
    exact congrArg _ (act_ext hk.symm rfl b3.symm b2.symm rfl b5.symm b6.symm)
  · have n6 : ∀ b, setL b 98 (fieldL a 98) = .ok { b with bytes := a.bytes } := fun b => by
      rw [show fieldL a 98 = bytesL a.bytes from if_pos (hbytes (by decide))]; exact set_bytes_there b a.bytes
    simp only [n6]
    exact congrArg _ (act_ext hk.symm rfl b3.symm b2.symm b4.symm rfl b6.symm)
  · have n6 : ∀ b, setL b 98 (fieldL a 98) = .ok { b with bytes := a.bytes } := fun b => by
      rw [show fieldL a 98 = bytesL a.bytes from if_pos (hbytes (by decide))]; exact set_bytes_there b a.bytes
    simp only [n6]
    exact congrArg _ (act_ext hk.symm b1.symm rfl rfl b4.symm rfl b6.symm)

theorem words_mem (l : List UInt8) : ∀ w ∈ wsL l, 32 ∉ w ∧ ∀ c ∈ w, c ∈ l := by
  induction l with
  | nil =>
    intro w hw
    rw [wsL, List.mem_singleton] at hw
    subst hw
    exact ⟨by simp, fun c hc => by cases hc⟩
  | cons b l ih =>
    intro w hw
    obtain ⟨v, vs, hv⟩ : ∃ w ws, wsL l = w :: ws := List.exists_cons_of_ne_nil (words_ne l)
    by_cases hb : b = 32
    · subst hb
      rw [words_sp, List.mem_cons] at hw
      rcases hw with rfl | hw
      · exact ⟨by simp, fun c hc => by cases hc⟩
      · exact ⟨(ih w hw).1, fun c hc => List.mem_cons_of_mem _ ((ih w hw).2 c hc)⟩
    · rw [words_c b l hb v vs hv, List.mem_cons] at hw
      rcases hw with rfl | hw
      · have := ih v (by rw [hv]; exact List.mem_cons_self ..)
        refine ⟨?_, fun c hc => ?_⟩
        · rw [List.mem_cons, not_or]; exact ⟨Ne.symm hb, this.1⟩
        · rcases List.mem_cons.1 hc with rfl | hc
          · exact List.mem_cons_self ..
          · exact List.mem_cons_of_mem _ (this.2 c hc)
      · have := ih w (by rw [hv]; exact List.mem_cons_of_mem _ hw)
        exact ⟨this.1, fun c hc => List.mem_cons_of_mem _ (this.2 c hc)⟩
theorem set_num_back (a b : ActD) (s : List UInt8) :
    (setL a 104 s = .ok b → ∃ x, b = { a with host := x } ∧ Lib.itoa x = s ∧ -9223372036854775808 ≤ x ∧ x ≤ 9223372036854775807) ∧
    (setL a 97 s = .ok b → ∃ x, b = { a with place := x } ∧ Lib.itoa x = s ∧ -9223372036854775808 ≤ x ∧ x ≤ 9223372036854775807) ∧
    (setL a 110 s = .ok b → ∃ x, b = { a with n := x } ∧ Lib.itoa x = s ∧ -9223372036854775808 ≤ x ∧ x ≤ 9223372036854775807) := by
  refine ⟨?_, ?_, ?_⟩
  all_goals
    intro h
    unfold setL at h
    cases hn : numB s with
    | none => rw [hn] at h; cases h
    | some x =>
      rw [hn] at h
      exact ⟨x, (Except.ok.inj h).symm, num_back s x hn⟩
theorem set_name_back (a b : ActD) (s : List UInt8) (h : setL a 119 s = .ok b) : b = { a with name := s } ∧ s ≠ [] := by
  unfold setL at h
  rw [if_pos rfl] at h
  split at h
  · cases h
  · rename_i hs; exact ⟨(Except.ok.inj h).symm, hs⟩
theorem set_bytes_back (a b : ActD) (s : List UInt8) (h : setL a 98 s = .ok b) : ∃ x, b = { a with bytes := x } ∧ bytesL x = s ∧ 2 * x.length ≤ s.length := by
  unfold setL at h
  rw [if_neg (by decide), if_pos rfl] at h
  cases hn : unhexL s with
  | none => rw [hn] at h; cases h
  | some x =>
    rw [hn] at h
    exact ⟨x, (Except.ok.inj h).symm, unhex_back s x hn⟩
theorem set_addr_back (a b : ActD) (s : List UInt8) (h : setL a 105 s = .ok b) : ∃ x, b = { a with addr := x } ∧ addrL x = s ∧ x < 4294967296 := by
  unfold setL at h
  rw [if_neg (by decide), if_neg (by decide), if_pos rfl] at h
  cases hn : parseAddr s with
  | none => rw [hn] at h; cases h
  | some x =>
    rw [hn] at h
    exact ⟨x, (Except.ok.inj h).symm, addr_back s x hn⟩
theorem sets_one (a c : ActD) (f : UInt8) (s : List UInt8) (fs : List UInt8) (ss : List (List UInt8)) (h : setsL a (f :: fs) (s :: ss) = .ok c) : ∃ b, setL a f s = .ok b ∧ setsL b fs ss = .ok c := by
  rw [setsL] at h
  cases hs : setL a f s with
  | error e => rw [hs] at h; cases h
  | ok b => rw [hs] at h; exact ⟨b, rfl, h⟩
theorem sets_nil (a c : ActD) (h : setsL a [] [] = .ok c) : a = c := by
  rw [setsL] at h
  · exact Except.ok.inj h
  · intros; simp_all

theorem len1 {α : Type} (l : List α) (h : l.length = 1) : ∃ x, l = [x] := by
  match l, h with
  | [x], _ => exact ⟨x, rfl⟩
theorem len2 {α : Type} (l : List α) (h : l.length = 2) : ∃ x y, l = [x, y] := by
  match l, h with
  | [x, y], _ => exact ⟨x, y, rfl⟩
theorem len3 {α : Type} (l : List α) (h : l.length = 3) : ∃ x y z, l = [x, y, z] := by
  match l, h with
  | [x, y, z], _ => exact ⟨x, y, z, rfl⟩

/-- what is known of an act that a line's words give -/
structure Read (k : Nat) (args : List UInt8) (ws : List (List UInt8)) (a : ActD) : Prop where
  kind : a.kind = k
  ok : a.Ok
  bare : (leftL a args).bare
  fields : args.map (fieldL a) = ws
  name : 119 ∈ args → a.name ≠ [] ∧ a.name ∈ ws
theorem read_sets (k : Nat) (args : List UInt8) (ws : List (List UInt8)) (a : ActD) (h30 : k < 30) (hargs : args = (gramL.getD k ([], [])).2) (hlen : ws.length = args.length) (hsh : ∀ w ∈ ws, w.length ≤ 131200) (h : setsL { ActD.zero with kind := k } args ws = .ok a) : Read k args ws a := by
  have hg := gram_lists k h30
  rw [← hargs] at hg
  have hk : -9223372036854775808 ≤ (k : Int) ∧ (k : Int) ≤ 9223372036854775807 := by omega
  have z : -9223372036854775808 ≤ (0 : Int) ∧ (0 : Int) ≤ 9223372036854775807 := by omega
  clear hargs
  rcases hg with rfl | rfl | rfl | rfl | rfl | rfl | rfl | rfl | rfl
  · obtain rfl : ws = [] := List.length_eq_zero_iff.1 hlen
    obtain rfl := sets_nil _ _ h
    exact ⟨rfl, ⟨hk, z, z, z, by simp [ActD.zero], by simp [ActD.zero]⟩, ⟨rfl, rfl, rfl, rfl, rfl, rfl⟩, rfl, fun h => by cases h⟩
  · obtain ⟨x, rfl⟩ := len1 ws hlen
    obtain ⟨b, h1, h⟩ := sets_one _ _ _ _ _ _ h
    obtain ⟨v, rfl, e, hv⟩ := (set_num_back _ _ _).2.2 h1
    obtain rfl := sets_nil _ _ h
    exact ⟨rfl, ⟨hk, z, hv, z, by simp [ActD.zero], by simp [ActD.zero]⟩, ⟨rfl, rfl, rfl, rfl, rfl, rfl⟩, congrArg (· :: []) e, fun h => absurd h (by decide)⟩
  · obtain ⟨x, rfl⟩ := len1 ws hlen
    obtain ⟨b, h1, h⟩ := sets_one _ _ _ _ _ _ h
    obtain ⟨v, rfl, e, hv⟩ := (set_num_back _ _ _).1 h1
    obtain rfl := sets_nil _ _ h
    exact ⟨rfl, ⟨hk, hv, z, z, by simp [ActD.zero], by simp [ActD.zero]⟩, ⟨rfl, rfl, rfl, rfl, rfl, rfl⟩, congrArg (· :: []) e, fun h => absurd h (by decide)⟩
  · obtain ⟨x, rfl⟩ := len1 ws hlen
    obtain ⟨b, h1, h⟩ := sets_one _ _ _ _ _ _ h
    obtain ⟨v, rfl, e, hv⟩ := (set_num_back _ _ _).2.1 h1
    obtain rfl := sets_nil _ _ h
    exact ⟨rfl, ⟨hk, z, z, hv, by simp [ActD.zero], by simp [ActD.zero]⟩, ⟨rfl, rfl, rfl, rfl, rfl, rfl⟩, congrArg (· :: []) e, fun h => absurd h (by decide)⟩
  · obtain ⟨x, rfl⟩ := len1 ws hlen
    obtain ⟨b, h1, h⟩ := sets_one _ _ _ _ _ _ h
    obtain ⟨v, rfl, e, hv⟩ := set_addr_back _ _ _ h1
    obtain rfl := sets_nil _ _ h
    exact ⟨rfl, ⟨hk, z, z, z, by simp [ActD.zero], hv⟩, ⟨rfl, rfl, rfl, rfl, rfl, rfl⟩, congrArg (· :: []) e, fun h => absurd h (by decide)⟩
  · obtain ⟨x, y, rfl⟩ := len2 ws hlen
    obtain ⟨b, h1, h⟩ := sets_one _ _ _ _ _ _ h
    obtain ⟨v, rfl, e, hv⟩ := (set_num_back _ _ _).1 h1
    obtain ⟨b, h1, h⟩ := sets_one _ _ _ _ _ _ h
    obtain ⟨v2, rfl, e2, hv2⟩ := (set_num_back _ _ _).2.2 h1
    obtain rfl := sets_nil _ _ h
    exact ⟨rfl, ⟨hk, hv, hv2, z, by simp [ActD.zero], by simp [ActD.zero]⟩, ⟨rfl, rfl, rfl, rfl, rfl, rfl⟩, by rw [← e, ← e2]; rfl, fun h => absurd h (by decide)⟩
  · obtain ⟨x, y, rfl⟩ := len2 ws hlen
    obtain ⟨b, h1, h⟩ := sets_one _ _ _ _ _ _ h
    obtain ⟨v, rfl, e, hv⟩ := (set_num_back _ _ _).1 h1
    obtain ⟨b, h1, h⟩ := sets_one _ _ _ _ _ _ h
    obtain ⟨rfl, hy⟩ := set_name_back _ _ _ h1
    obtain rfl := sets_nil _ _ h
    have := hsh y (by simp)
    exact ⟨rfl, ⟨hk, hv, z, z, by show y.length ≤ _; omega, by simp [ActD.zero]⟩, ⟨rfl, rfl, rfl, rfl, rfl, rfl⟩, by rw [← e]; rfl, fun _ => ⟨hy, by show y ∈ [x, y]; simp⟩⟩
  · obtain ⟨x, y, rfl⟩ := len2 ws hlen
    obtain ⟨b, h1, h⟩ := sets_one _ _ _ _ _ _ h
    obtain ⟨v, rfl, e, hv⟩ := (set_num_back _ _ _).1 h1
    obtain ⟨b, h1, h⟩ := sets_one _ _ _ _ _ _ h
    obtain ⟨v2, rfl, e2, hv2⟩ := set_bytes_back _ _ _ h1
    obtain rfl := sets_nil _ _ h
    have := hsh y (by simp)
    refine ⟨rfl, ⟨hk, hv, z, z, by simp [ActD.zero], by simp [ActD.zero]⟩, ⟨rfl, rfl, rfl, rfl, rfl, rfl⟩, ?_, fun h => absurd h (by decide)⟩
    rw [← e, ← e2]
    show [Lib.itoa v, if v2.length ≤ 131200 then bytesL v2 else zerosL] = _
    rw [if_pos (by omega)]
  · obtain ⟨x, y, u, rfl⟩ := len3 ws hlen
    obtain ⟨b, h1, h⟩ := sets_one _ _ _ _ _ _ h
    obtain ⟨v, rfl, e, hv⟩ := (set_num_back _ _ _).2.1 h1
    obtain ⟨b, h1, h⟩ := sets_one _ _ _ _ _ _ h
    obtain ⟨v3, rfl, e3, hv3⟩ := (set_num_back _ _ _).2.2 h1
    obtain ⟨b, h1, h⟩ := sets_one _ _ _ _ _ _ h
    obtain ⟨v2, rfl, e2, hv2⟩ := set_bytes_back _ _ _ h1
    obtain rfl := sets_nil _ _ h
    have := hsh u (by simp)
    refine ⟨rfl, ⟨hk, z, hv3, hv, by simp [ActD.zero], by simp [ActD.zero]⟩, ⟨rfl, rfl, rfl, rfl, rfl, rfl⟩, ?_, fun h => absurd h (by decide)⟩
    rw [← e, ← e2, ← e3]
    show [Lib.itoa v, Lib.itoa v3, if v2.length ≤ 131200 then bytesL v2 else zerosL] = _
    rw [if_pos (by omega)]

theorem parse_format (l : List UInt8) (a : ActD) (h : parseL l = .ok a) : formatL a = .ok l ∧ a.Ok := by
  unfold parseL at h
  by_cases hl : 131200 < l.length
  · rw [if_pos hl] at h; cases h
  rw [if_neg hl] at h
  by_cases hn : 10 ∈ l
  · rw [if_pos hn] at h; cases h
  rw [if_neg hn] at h
  obtain ⟨w, ws, hws⟩ : ∃ w ws, wsL l = w :: ws := List.exists_cons_of_ne_nil (words_ne l)
  have hline := line_words l w ws hws
  have hmem := words_mem l
  rw [hws] at h hmem
  rw [List.headD_cons, List.tail_cons] at h
  rcases kind_back 30 w with hk | ⟨k, hk30, hk, hw⟩
  · rw [show kindB w = 0 from hk, if_pos rfl] at h; cases h
  rw [show kindB w = k from hk] at h
  by_cases hk0 : (k : Int) = 0
  · rw [if_pos hk0] at h; cases h
  rw [if_neg hk0, show ((k : Nat) : Int).toNat = k from by omega] at h
  by_cases hc : (w :: ws).length ≠ 1 + (gramL.getD k ([], [])).2.length
  · rw [if_pos hc] at h; cases h
  rw [if_neg hc] at h
  have hlen : ws.length = (gramL.getD k ([], [])).2.length := by
    have := Classical.not_not.1 hc
    rw [List.length_cons] at this; omega
  have hsub : ∀ v ∈ ws, v.length ≤ 131200 := by
    intro v hv
    have h1 := flat_mem (32 :: ·) ws v hv
    rw [← hline] at hl
    unfold lineW at hl
    rw [List.length_append] at hl
    simp only [List.length_cons] at h1
    omega
  have hr := read_sets k _ ws a hk30 rfl hlen hsub h
  refine ⟨?_, hr.ok⟩
  unfold formatL
  have hlf : lineF a (gramL.getD k ([], [])) = l := by
    unfold lineF
    rw [hr.fields, hw, hline]
  rw [hr.kind, if_neg (by omega), show ((k : Nat) : Int).toNat = k from by omega, if_neg (fun x => x hr.bare), hlf, if_neg, if_neg hl]
  rintro ⟨hm, hx⟩
  obtain ⟨hne, hmw⟩ := hr.name hm
  rcases hx with hx | hx
  · exact hne hx
  · have := hmem a.name (List.mem_cons_of_mem _ hmw)
    have hcl : a.name.any spB = false := (clean_any _).2 ⟨this.1, fun h10 => hn (this.2 10 h10)⟩
    rw [hcl] at hx; cases hx
end Go.Proofs.YtmnkdnpjcfmjgaaGreatDoor
