/- Package shell: ParseAct. -/
import Derived.Test.YtmnkdnpjcfmjgaaGreatDoorAct
import Derived.Test.YtmnkdnpjcfmjgaaGreatDoorMac
import Derived.Test.YtmnkdnpjcfmjgaaGreatDoorShelf
import Derived.Outline
import Derived.Laws.CopyOwn
import Derived.Deep.Onto
namespace Go.Proofs.YtmnkdnpjcfmjgaaGreatDoor
open Go.RowKit

/-- what ParseAct answers -/
def ParsePost (B : Nat) (r : Except Int ActD) (e : Ending) (w' : World) : Prop := match r with
  | .error k => e = .returned (.tuple #[.agg (ActD.zero.cells (.slice none 0 0)), .int .i64 k])
  | .ok a => ∃ v, e = .returned (.tuple #[.agg (a.cells v), .int .i64 0]) ∧ Fresh B w' v a.bytes

theorem newline_there (l : List UInt8) : (0 ≤ Lib.indexByte l 10) ↔ 10 ∈ l := by
  induction l with
  | nil => simp [Lib.indexByte]
  | cons b r ih =>
    have hge := Lib.indexByte_ge r 10
    rw [Lib.indexByte, List.mem_cons]
    by_cases hb : b = 10
    · subst hb; simp
    · rw [if_neg (by simpa using hb)]
      by_cases hm : Lib.indexByte r 10 = -1
      · rw [if_pos (by simpa using hm)]
        have : ¬ 10 ∈ r := fun h => by have := ih.2 h; omega
        simp [this, Ne.symm hb]
      · rw [if_neg (by simpa using hm)]
        have : 10 ∈ r := ih.1 (by omega)
        simp [this]; omega
theorem arg_letters (k : Nat) (f : UInt8) (h : f ∈ (gramL.getD k ([], [])).2) : f = 104 ∨ f = 110 ∨ f = 97 ∨ f = 119 ∨ f = 98 ∨ f = 105 := by
  by_cases hk : k < 30
  · have : ∀ k : Fin 30, ∀ f ∈ (gramL.getD k ([], [])).2, f = 104 ∨ f = 110 ∨ f = 97 ∨ f = 119 ∨ f = 98 ∨ f = 105 := by decide
    exact this ⟨k, hk⟩ f h
  · rw [List.getD, List.getElem?_eq_none (show gramL.length ≤ k from by show 30 ≤ k; omega)] at h
    cases h
theorem kind_range (n : Nat) (l : List UInt8) : 0 ≤ kindTo n l ∧ (kindTo n l < n ∨ kindTo n l = 0) := by
  induction n with
  | zero => exact ⟨Int.le_refl _, .inr rfl⟩
  | succ n ih => rw [kindTo]; split <;> omega

set_option maxRecDepth 100000 in
set_option maxHeartbeats 2000000 in
theorem parse_long (s : ByteArray) (w : World) (hs : s.size ≤ 140737488351232) (hl : 131200 < s.size) :
    Calls Tryz.prog 14 #[.string s] w fun e w' => ParsePost w.heap.size (parseL s.data.toList) e w' ∧ Below w.heap.size w w' := by
  have hr : parseL s.data.toList = .error 2 := by unfold parseL; rw [if_pos (by rw [← Lib.size_eq]; exact hl)]
  have HR := Lib.hid hr
  clear hr
  go_enter Tryz.func14, Tryz.ntmps14
  go_wp2
  refine bodyPost_ret (v := .tuple #[.agg (ActD.zero.cells (.slice none 0 0)), .int .i64 2]) (by simp [results, Tryz.results14, go_sem]; rfl) rfl ?_
  rw [HR.out]
  exact ⟨rfl, (Below.refl _ _).alloc (Nat.le_refl _) _⟩

set_option maxRecDepth 100000 in
set_option maxHeartbeats 2000000 in
theorem parse_newline (s : ByteArray) (w : World) (hl : s.size ≤ 131200) (hn : 10 ∈ s.data.toList) :
    Calls Tryz.prog 14 #[.string s] w fun e w' => ParsePost w.heap.size (parseL s.data.toList) e w' ∧ Below w.heap.size w w' := by
  have hr : parseL s.data.toList = .error 200 := by unfold parseL; rw [if_neg (by rw [← Lib.size_eq]; omega), if_pos hn]
  have HR := Lib.hid hr
  have hge : (0 : Int) ≤ Lib.indexByte s.data.toList 10 := (newline_there _).2 hn
  have HI := Lib.hid fun w => Tryz.strings_IndexByte s 10 w
  rw [show (10 : Int).toNat.toUInt8 = 10 from rfl] at HI
  clear hr hn
  generalize Lib.indexByte s.data.toList 10 = ix at *
  go_enter Tryz.func14, Tryz.ntmps14
  go_wp2_with fail
  refine (HI.out _).mono ?_
  rintro e w1 ⟨rfl, rfl⟩
  go_wp2
  refine bodyPost_ret (v := .tuple #[.agg (ActD.zero.cells (.slice none 0 0)), .int .i64 200]) (by simp [results, Tryz.results14, go_sem]; rfl) rfl ?_
  rw [HR.out]
  exact ⟨rfl, (Below.refl _ _).alloc (Nat.le_refl _) _⟩
/-- the words of a line, as strings -/
def wordsB (s : ByteArray) : List ByteArray := Lib.splitB ⟨#[32]⟩ 0 (Lib.countB s ⟨#[32]⟩) s
theorem wordsB_len (s : ByteArray) : (wordsB s).length = Lib.countB s ⟨#[32]⟩ + 1 := Lib.splitB_all ⟨#[32]⟩ (Nat.le_refl _) 0 _ s rfl
theorem wordsB_words (s : ByteArray) : (wordsB s).map (·.data.toList) = wsL s.data.toList := splitB_words s
theorem wordsB_short (s : ByteArray) (x : ByteArray) (h : x ∈ wordsB s) : x.size ≤ s.size := by
  have : x.data.toList ∈ wsL s.data.toList := by rw [← wordsB_words]; exact List.mem_map_of_mem h
  have hs : ∀ (l : List UInt8) x, x ∈ wsL l → x.length ≤ l.length := by
    intro l
    induction l with
    | nil => intro x hx; rw [wsL, List.mem_singleton] at hx; subst hx; exact Nat.le_refl _
    | cons b l ih =>
      intro x hx
      obtain ⟨v, vs, hv⟩ : ∃ w ws, wsL l = w :: ws := List.exists_cons_of_ne_nil (words_ne l)
      by_cases hb : b = 32
      · subst hb
        rw [words_sp, List.mem_cons] at hx
        rcases hx with rfl | hx
        · simp
        · have := ih x hx; simp only [List.length_cons]; omega
      · rw [words_c b l hb v vs hv, List.mem_cons] at hx
        rcases hx with rfl | hx
        · have := ih v (by rw [hv]; exact List.mem_cons_self ..); simp only [List.length_cons]; omega
        · have := ih x (by rw [hv]; exact List.mem_cons_of_mem _ hx); simp only [List.length_cons]; omega
  have := hs _ _ this
  rw [Lib.size_eq, Lib.size_eq]; exact this

theorem actInfo : (Tryz.prog.info? 26).map (·.size) = some 7 := by kernel_rfl
theorem parse_results (tmps : Array Value) (w : World) (g : Nat) (cs : Array Value) (k : Int) (hp : tmps.getD 2 undef = .pointer (some ⟨g, 0, none⟩)) (hk : tmps.getD 3 undef = .int .i64 k)
    (hg : w.heap[g]? = some (.cells cs 26 (0, 0))) (hs : cs.size = 7) : (results Tryz.f14 tmps).run Tryz.prog w = .ok (.tuple #[.agg cs, .int .i64 k]) w := by
  have hp' : tmps[2]?.getD undef = .pointer (some ⟨g, 0, none⟩) := by simpa using hp
  have hk' : tmps[3]?.getD undef = .int .i64 k := by simpa using hk
  simp [results, Tryz.results14, hp', hk', asAddr, run_loadVar_row w g 26 26 cs (0, 0) _ hg Tryz.underlying26 rfl (by rw [hs]; exact actInfo)]

theorem Fresh.kept {B p : Nat} {w w' : World} {v : Value} {l : List UInt8} (h : Fresh B w v l) (hk : Kept p w w') (hp : p < B) : Fresh B w' v l := by
  rcases h with h | ⟨g, rfl, h⟩
  · exact .inl h
  · refine .inr ⟨g, rfl, ⟨h.1, ?_⟩⟩
    rcases h.2 with ⟨hv, h0⟩ | ⟨g', cap, cur, hv, hB, hg, h1⟩
    · cases hv
    · exact .inr ⟨g', cap, cur, hv, hB, (hk.other g' (Array.getElem?_eq_some_iff.1 hg).1 (by omega)).trans hg, h1⟩
theorem Fresh.mono {B B' : Nat} {w : World} {v : Value} {l : List UInt8} (h : Fresh B w v l) (hB : B' ≤ B) : Fresh B' w v l := by
  rcases h with h | ⟨g, rfl, h⟩
  · exact .inl h
  · exact .inr ⟨g, rfl, World.ownsRow.mono h hB⟩
theorem Fresh.iter {B k : Nat} {w : World} {v : Value} {l : List UInt8} (h : Fresh B w v l) (hk : k < B) (s : ByteArray) (pos : Nat) : Fresh B (w.iterAt k s pos) v l := by
  rcases h with h | ⟨g, rfl, h⟩
  · exact .inl h
  · refine .inr ⟨g, rfl, ⟨h.1, ?_⟩⟩
    rcases h.2 with ⟨hv, h0⟩ | ⟨g', cap, cur, hv, hB, hg, h1⟩
    · cases hv
    · exact .inr ⟨g', cap, cur, hv, hB, (Lib.iterAt_other w k g' s pos (by omega)).trans hg, h1⟩
theorem act_one {B : Nat} {w : World} {v : Value} (a : ActD) (h : Fresh B w v a.bytes) : (a.cells v).all (·.oneCell') = true := by
  rcases h with ⟨rfl, _⟩ | ⟨g, rfl, _⟩ <;> kernel_rfl
theorem setL_err (a : ActD) (f : UInt8) (s : List UInt8) (k : Int) (h : setL a f s = .error k) : 0 < k := by
  unfold setL at h
  repeat' split at h
  all_goals first | (cases h; done) | (cases h; decide)
theorem Fresh.setRow {B g0 : Nat} {w : World} {v : Value} {l : List UInt8} {cs : Array Value} (h : Fresh B w v l) (hk : g0 < B) : Fresh B (w.setRow g0 cs) v l := by
  rcases h with h | ⟨g, rfl, h⟩
  · exact .inl h
  · refine .inr ⟨g, rfl, ⟨h.1, ?_⟩⟩
    rcases h.2 with ⟨hv, h0⟩ | ⟨g', cap, cur, hv, hB, hg, h1⟩
    · cases hv
    · exact .inr ⟨g', cap, cur, hv, hB, (setRow_other w g0 g' cs (by omega)).trans hg, h1⟩
/-- the words' block -/
def wordsO (l : List ByteArray) : Obj := .cells (l.map Value.string).toArray 9

theorem gram_field (W : World) (a b : ByteArray) : (Instr.field 99 (.agg #[.string a, .string b]) 1).run Tryz.prog W = .ok (.string b) W := by
  kernel_rfl

set_option maxRecDepth 100000 in
set_option maxHeartbeats 2000000 in
theorem parse_main (s : ByteArray) (w : World) (hE : Env w) (hl : s.size ≤ 131200) (hn : ¬ 10 ∈ s.data.toList) :
    Calls Tryz.prog 14 #[.string s] w fun e w' => ParsePost w.heap.size (parseL s.data.toList) e w' ∧ Below w.heap.size w w' := by
  have hge : Lib.indexByte s.data.toList 10 < 0 := by
    have h := (newline_there s.data.toList).1
    exact Int.not_le.1 fun h0 => hn (h h0)
  have HI := Lib.hid fun w => Tryz.strings_IndexByte s 10 w
  rw [show (10 : Int).toNat.toUInt8 = 10 from rfl] at HI
  obtain ⟨m, hm⟩ := (hE.below ((Below.refl _ w).alloc (Nat.le_refl _) (.cells #[.int .i64 0, .int .i64 0, .int .i64 0, .int .i64 0, .string ⟨#[]⟩, .slice none 0 0, .int .u32 0] 26)) (Nat.le_refl _)).max
  have hS := Tryz.strings_Split s ⟨#[32]⟩ m (w.alloc (.cells #[.int .i64 0, .int .i64 0, .int .i64 0, .int .i64 0, .string ⟨#[]⟩, .slice none 0 0, .int .u32 0] 26)) (by omega) hm (Nat.le_refl _)
  have hwl := wordsB_len s
  obtain ⟨x0, xs, hxs⟩ : ∃ x0 xs, wordsB s = x0 :: xs := by
    cases h : wordsB s with
    | nil => rw [h] at hwl; simp at hwl
    | cons a b => exact ⟨a, b, rfl⟩
  have hxss : ∀ x ∈ xs, x.size ≤ 1000000 := fun x hx => by
    have := wordsB_short s x (by rw [hxs]; exact List.mem_cons_of_mem _ hx)
    omega
  have HXS := Lib.hid hxss
  clear hxss
  have hx0 : x0.size ≤ s.size := wordsB_short s x0 (by rw [hxs]; exact List.mem_cons_self ..)
  have hxl : xs.length = Lib.countB s ⟨#[32]⟩ := by rw [hxs, List.length_cons] at hwl; omega
  have hxm : xs.length ≤ 131200 := by
    have := Lib.countB_le ⟨#[32]⟩ (Nat.le_refl _) _ s (Nat.le_refl _)
    omega
  have hB1 : Below w.heap.size w ((w.alloc (.cells #[.int .i64 0, .int .i64 0, .int .i64 0, .int .i64 0, .string ⟨#[]⟩, .slice none 0 0, .int .u32 0] 26)).alloc (wordsO (x0 :: xs))) := ((Below.refl _ w).alloc (Nat.le_refl _) _).alloc (by simp) _
  have hws : wsL s.data.toList = x0.data.toList :: xs.map (·.data.toList) := by rw [← wordsB_words, hxs]; rfl
  have hcell : ∀ j x, (x0 :: xs)[j]? = some x → ((w.alloc (.cells #[.int .i64 0, .int .i64 0, .int .i64 0, .int .i64 0, .string ⟨#[]⟩, .slice none 0 0, .int .u32 0] 26)).alloc (wordsO (x0 :: xs))).cell? ⟨w.heap.size + 1, 0 + j, none⟩ = some (.string x) := by
    intro j x hj
    have := cells_strings (w.alloc (.cells #[.int .i64 0, .int .i64 0, .int .i64 0, .int .i64 0, .string ⟨#[]⟩, .slice none 0 0, .int .u32 0] 26)) (x0 :: xs) 9 j x hj
    rw [wordsO]
    simpa using this
  have hc0 : ((w.alloc (.cells #[.int .i64 0, .int .i64 0, .int .i64 0, .int .i64 0, .string ⟨#[]⟩, .slice none 0 0, .int .u32 0] 26)).alloc (wordsO (x0 :: xs))).cell? ⟨w.heap.size + 1, 0, none⟩ = some (.string x0) := by simpa using hcell 0 x0 rfl
  have hS2 : Calls Tryz.prog 43 #[.string s, .string ⟨#[32]⟩] (w.alloc (.cells #[.int .i64 0, .int .i64 0, .int .i64 0, .int .i64 0, .string ⟨#[]⟩, .slice none 0 0, .int .u32 0] 26)) fun e w' => e = .returned (.slice (some ⟨w.heap.size + 1, 0, none⟩) (xs.length + 1) (xs.length + 1)) ∧ w' = (w.alloc (.cells #[.int .i64 0, .int .i64 0, .int .i64 0, .int .i64 0, .string ⟨#[]⟩, .slice none 0 0, .int .u32 0] 26)).alloc (wordsO (x0 :: xs)) := by
    refine hS.mono ?_
    rintro e w' ⟨rfl, rfl⟩
    rw [hxl, wordsO, ← hxs, wordsB]
    exact ⟨by simp, rfl⟩
  clear hS
  have HS := Lib.hid hS2
  clear hS2
  have HC := Lib.hid hcell
  have HB1 := Lib.hid hB1
  have HW := Lib.hid hws
  have HK := Lib.hid (fun w => kind_any x0 w (by omega))
  have HE := Lib.hid hE
  have HN := Lib.hid hn
  have hkr := kind_range 30 x0.data.toList
  obtain ⟨k, hk⟩ : ∃ k : Nat, kindB x0.data.toList = k := ⟨(kindB x0.data.toList).toNat, by unfold kindB; omega⟩
  have hk30 : k < 30 := by unfold kindB at hk; omega
  rw [hk] at HK
  have HKE := Lib.hid hk
  clear hkr hk hcell hwl hxl hxs hB1 hws hm hE hn
  generalize Lib.indexByte s.data.toList 10 = ix at *
  by_cases hk0 : k = 0
  · subst hk0
    have hr : parseL s.data.toList = .error 200 := by
      unfold parseL
      rw [if_neg (by rw [← Lib.size_eq]; omega), if_neg HN.out, HW.out, if_pos (by rw [List.headD_cons, HKE.out]; rfl)]
    have HR := Lib.hid hr
    clear hr
    go_enter Tryz.func14, Tryz.ntmps14
    go_wp2_with fail
    refine (HI.out _).mono ?_
    rintro e w1 ⟨rfl, rfl⟩
    go_wp2_with fail
    refine HS.out.mono ?_
    rintro e w1 ⟨rfl, rfl⟩
    go_wp2_with fail
    refine (HK.out _).mono ?_
    rintro e w1 ⟨rfl, hb1⟩
    have hbx : w1.heap[w.heap.size]? = some (.cells #[.int .i64 0, .int .i64 0, .int .i64 0, .int .i64 0, .string ⟨#[]⟩, .slice none 0 0, .int .u32 0] 26 (0, 0)) := by
      rw [hb1.block _ (by simp; omega), Lib.alloc_old _ _ _ (by simp)]; exact heap_alloc_new w _
    have HX := Lib.hid hbx
    have HB := Lib.hid hb1
    clear hb1 hbx
    go_wp2_with (refine wpList_store_row rfl _ _ _ rfl w.heap.size _ rfl rfl _ _ HX.out (by kernel_rfl) rfl (by kernel_rfl) ?_)
    refine bodyPost_ret (parse_results _ _ w.heap.size _ 200 rfl rfl (setRow_heap _ _ _ _ _ _ HX.out) rfl) rfl ?_
    rw [HR.out]
    exact ⟨rfl, below_setRow (HB1.out.trans (HB.out.mono (by simp; omega))) (Nat.le_refl _) _⟩
  · obtain ⟨g, hg⟩ : ∃ g, g = gramL.getD k ([], []) := ⟨_, rfl⟩
    have hidx := fun W => gram_at W gramL k g (by rw [hg, List.getD, List.getElem?_eq_getElem (show k < gramL.length from hk30)]; rfl) hk30
    have hg3 : g.2.length ≤ 3 := by
      have : ∀ k : Fin 30, (gramL.getD k ([], [])).2.length ≤ 3 := by decide
      rw [hg]; exact this ⟨k, hk30⟩
    have hgl : ∀ f ∈ g.2, f = 104 ∨ f = 110 ∨ f = 97 ∨ f = 119 ∨ f = 98 ∨ f = 105 := by rw [hg]; exact arg_letters k
    have hpl : parseL s.data.toList = if xs.length ≠ g.2.length then .error 203 else setsL { ActD.zero with kind := k } g.2 (xs.map (·.data.toList)) := by
      unfold parseL
      rw [if_neg (by rw [← Lib.size_eq]; omega), if_neg HN.out, HW.out, List.headD_cons, HKE.out, if_neg (by omega), show (k : Int).toNat = k from by omega, ← hg, List.length_cons, List.length_map, List.tail_cons]
      by_cases h : xs.length = g.2.length
      · rw [if_neg (by omega), if_neg (by omega)]
      · rw [if_pos (by omega), if_pos (by omega)]
    have HP := Lib.hid hpl
    have HGL := Lib.hid hgl
    have HKz := Lib.hid hk0
    have hkb : ((k : Int) == 0) = false := by rw [beq_eq_false_iff_ne]; omega
    have hfld := fun W => gram_field W ⟨g.1.toArray⟩ ⟨g.2.toArray⟩
    clear hg hpl hgl hk0
    by_cases hcnt : xs.length = g.2.length
    · have HCN := Lib.hid hcnt
      have hcb : (((xs.length : Int) + 1) != 1 + (g.2.length : Int)) = false := by rw [bne_eq_false_iff_eq]; omega
      clear hcnt
      go_enter Tryz.func14, Tryz.ntmps14
      go_wp2_with fail
      refine (HI.out _).mono ?_
      rintro e w1 ⟨rfl, rfl⟩
      go_wp2_with fail
      refine HS.out.mono ?_
      rintro e w1 ⟨rfl, rfl⟩
      go_wp2_with fail
      refine (HK.out _).mono ?_
      rintro e w1 ⟨rfl, hb1⟩
      have HB := Lib.hid hb1
      clear hb1
      go_wp2_with fail
      refine (acts_any _).mono ?_
      rintro e w2 ⟨rfl, hb2⟩
      have hbx : w2.heap[w.heap.size]? = some (.cells #[.int .i64 0, .int .i64 0, .int .i64 0, .int .i64 0, .string ⟨#[]⟩, .slice none 0 0, .int .u32 0] 26 (0, 0)) := by
        rw [hb2.block _ (by have := HB.out.size; simp at this; omega), HB.out.block _ (by simp; omega), Lib.alloc_old _ _ _ (by simp)]; exact heap_alloc_new w _
      have hw2 : Below w.heap.size w w2 := (HB1.out.trans (HB.out.mono (by simp; omega))).trans (hb2.mono (Nat.le_trans (by simp; omega) HB.out.size))
      have hsz : w.heap.size + 2 ≤ w2.heap.size := by have := HB.out.size; have := hb2.size; simp at *; omega
      have hwc : ∀ j x, (x0 :: xs)[j]? = some x → w2.cell? ⟨w.heap.size + 1, 0 + j, none⟩ = some (.string x) := fun j x hj => by
        rw [hb2.cell (p := ⟨w.heap.size + 1, 0 + j, none⟩) (by have := HB.out.size; simp at *; omega), HB.out.cell (p := ⟨w.heap.size + 1, 0 + j, none⟩) (by simp)]; exact HC.out j x hj
      have HW2 := Lib.hid hw2
      have HX := Lib.hid hbx
      have HWC := Lib.hid hwc
      clear hb2 hw2 hbx hwc HB HC HB1
      go_wp2
      go_loopw [] (fun wr => ∃ (pos : Nat) (a : ActD) (v : Value), pos ≤ g.2.length ∧ wr.heap[w2.heap.size + 1]? = some (.stringIter ⟨g.2.toArray⟩ pos) ∧ ActAt wr w2.heap.size a v ∧ Fresh (w2.heap.size + 2) wr v a.bytes ∧ Below w2.heap.size w2 wr ∧ w2.heap.size + 2 ≤ wr.heap.size ∧
        Hid (setsL { ActD.zero with kind := k } g.2 (xs.map (·.data.toList)) = setsL a (g.2.drop pos) ((xs.map (·.data.toList)).drop pos))) (fun wr => g.2.length - wr.iterPos (w2.heap.size + 1))
      case atStart =>
        refine ⟨0, { ActD.zero with kind := k }, .slice none 0 0, Nat.zero_le _, ?_, ?_, .inl ⟨rfl, rfl⟩, ((Below.refl _ _).alloc (Nat.le_refl _) _).alloc (by simp) _, ?_, rfl⟩
        · exact heap2_new w2 _ _
        · exact heap2_old w2 _ _
        · simp [World.iter]
      case round =>
        obtain ⟨pos, a, v, hpos, hit, hact, hfr, hbr, hsr, HS2⟩ := hrel
        have HB := Lib.hid hbr
        have HF := Lib.hid hfr
        have hIt := Lib.hid hit
        by_cases hp : pos < g.2.length
        · have hpx : pos < xs.length := by have := HCN.out; omega
          obtain ⟨c, hc⟩ : ∃ c, c = g.2[pos] := ⟨_, rfl⟩
          obtain ⟨x, hx⟩ : ∃ x, x = xs[pos] := ⟨_, rfl⟩
          have hlet := HGL.out c (by rw [hc]; exact List.getElem_mem hp)
          have hc128 : c.toNat < 128 := by rcases hlet with rfl | rfl | rfl | rfl | rfl | rfl <;> decide
          have hdec : Utf8.decode ⟨g.2.toArray⟩ pos = (c.toNat, 1) := by
            have := decode_ascii ⟨g.2.toArray⟩ pos hp (by show (g.2[pos]).toNat < 128; rw [← hc]; exact hc128)
            rw [this, hc]; rfl
          have hnx : ∀ ty, (Instr.next (.pointer (some ⟨w2.heap.size + 1, 0, none⟩)) true ty).run Tryz.prog wr = .ok (.tuple #[.bool true, .int .i64 pos, .int .i32 c.toNat]) (wr.iterAt (w2.heap.size + 1) ⟨g.2.toArray⟩ (pos + 1)) := fun ty => by
            rw [Lib.run_next_any_at wr (w2.heap.size + 1) ⟨g.2.toArray⟩ pos ty hit hp, hdec]
          have hbU := Lib.below_iterAt hbr (k := w2.heap.size + 1) (by omega) ⟨g.2.toArray⟩ (pos + 1)
          have haU : ActAt (wr.iterAt (w2.heap.size + 1) ⟨g.2.toArray⟩ (pos + 1)) w2.heap.size a v := (Lib.iterAt_other wr _ _ _ _ (by omega)).trans hact
          have hxs : x.size ≤ 1000000 := HXS.out x (by rw [hx]; exact List.getElem_mem hpx)
          have hEU : Env (wr.iterAt (w2.heap.size + 1) ⟨g.2.toArray⟩ (pos + 1)) := HE.out.below (HW2.out.trans (hbU.mono HW2.out.size)) (Nat.le_refl _)
          have HSET := Lib.hid (set_any w2.heap.size a v c x _ hlet haU hxs hEU)
          have hcw : (wr.iterAt (w2.heap.size + 1) ⟨g.2.toArray⟩ (pos + 1)).cell? ⟨w.heap.size + 1, 1 + pos, none⟩ = some (.string x) := by
            rw [hbU.cell (p := ⟨w.heap.size + 1, 1 + pos, none⟩) (by simp; omega)]
            have := HWC.out (1 + pos) x (by rw [Nat.add_comm 1 pos, List.getElem?_cons_succ, List.getElem?_eq_getElem hpx, hx])
            rwa [Nat.zero_add] at this
          have e1 : IntKind.i64.wrap (1 + (pos : Int)) = 1 + (pos : Int) := IntWalk.i64_in _ (by omega)
          have e2 : (0 : Int) ≤ 1 + (pos : Int) := by omega
          have e3 : (1 + (pos : Int)).toNat = 1 + pos := by omega
          have hdg : g.2.drop pos = c :: g.2.drop (pos + 1) := by rw [List.drop_eq_getElem_cons hp, hc]
          have hdx : (xs.map (·.data.toList)).drop pos = x.data.toList :: (xs.map (·.data.toList)).drop (pos + 1) := by
            rw [List.drop_eq_getElem_cons (by rw [List.length_map]; exact hpx), List.getElem_map, hx]
          have hst := HS2.out
          rw [hdg, hdx, setsL] at hst
          have hms : g.2.length - (wr.iterAt (w2.heap.size + 1) ⟨g.2.toArray⟩ (pos + 1)).iterPos (w2.heap.size + 1) < g.2.length - wr.iterPos (w2.heap.size + 1) := by
            simp only [World.iterPos, Lib.iterAt_heap wr _ ⟨g.2.toArray⟩ pos (pos + 1) hit, hit]; omega
          have hitU := Lib.iterAt_heap wr _ ⟨g.2.toArray⟩ pos (pos + 1) hit
          have hfU : Fresh (w2.heap.size + 2) (wr.iterAt (w2.heap.size + 1) ⟨g.2.toArray⟩ (pos + 1)) v a.bytes := hfr.iter (by omega) _ _
          have hszU : (wr.iterAt (w2.heap.size + 1) ⟨g.2.toArray⟩ (pos + 1)).heap.size = wr.heap.size := Lib.iterAt_size ..
          have hw2lt : w2.heap.size < wr.heap.size := by omega
          have HIU := Lib.hid hitU
          have HMS := Lib.hid hms
          have HFU := Lib.hid hfU
          have HBU := Lib.hid hbU
          have HSU := Lib.hid hszU
          have HST := Lib.hid hst
          clear hit hact hfr hbr hdec hc hx hdg hdx hst hms hitU hfU hbU hszU haU hEU HS2 hxs hlet
          cases hres : setL a c x.data.toList with
          | error kk =>
            rw [hres] at HSET HST
            have hkk := setL_err a c _ kk hres
            have hkb2 : ((kk : Int) != 0) = true := by rw [bne_iff_ne]; omega
            have hr : parseL s.data.toList = .error kk := by rw [HP.out, if_neg (by rw [HCN.out]; simp), HST.out]
            have HR := Lib.hid hr
            clear hres hkk hr
            go_wp2_with fail
            refine HSET.out.mono ?_
            rintro e w3 ⟨hk3, rfl⟩
            have hbx3 := (hk3.other w.heap.size (by rw [HSU.out]; omega) (by omega)).trans ((HBU.out.block w.heap.size (by omega)).trans HX.out)
            have HX3 := Lib.hid hbx3
            have HK3 := Lib.hid hk3
            clear hk3 hbx3
            go_wp2_with (refine wpList_store_row rfl _ _ _ rfl w.heap.size _ rfl rfl _ _ HX3.out (by kernel_rfl) rfl (by kernel_rfl) ?_)
            refine bodyPost_ret (parse_results _ _ w.heap.size _ kk rfl rfl (setRow_heap _ _ _ _ _ _ HX3.out) rfl) rfl ?_
            rw [HR.out]
            exact ⟨rfl, below_setRow (HW2.out.trans ((HBU.out.trans HK3.out.below).mono HW2.out.size)) (Nat.le_refl _) _⟩
          | ok b =>
            rw [hres] at HSET HST
            clear hres
            go_wp2_with fail
            refine HSET.out.mono ?_
            rintro e w3 ⟨hk3, rfl, v3, ha3, hf3⟩
            have hf4 : Fresh (w2.heap.size + 2) w3 v3 b.bytes := by
              rcases hf3 with ⟨rfl, h⟩ | h
              · rw [h]; exact HFU.out.kept hk3 (by omega)
              · exact h.mono (by rw [HSU.out]; exact hsr)
            have hit3 := (hk3.other (w2.heap.size + 1) (by rw [HSU.out]; omega) (by omega)).trans HIU.out
            have hm3 : g.2.length - w3.iterPos (w2.heap.size + 1) < g.2.length - wr.iterPos (w2.heap.size + 1) := by
              have := HMS.out
              simp only [World.iterPos, HIU.out, hit3] at this ⊢
              exact this
            have HK3 := Lib.hid hk3
            have HA3 := Lib.hid ha3
            have HF3 := Lib.hid hf4
            have HI3 := Lib.hid hit3
            have HM3 := Lib.hid hm3
            clear hk3 ha3 hf3 hf4 hit3 hm3
            go_wp2
            refine ⟨⟨pos + 1, b, v3, by omega, HI3.out, HA3.out, HF3.out, HBU.out.trans HK3.out.below, ?_, HST.out⟩, HM3.out⟩
            have := HK3.out.size
            rw [HSU.out] at this
            omega
        · have hnx : ∀ ty, (Instr.next (.pointer (some ⟨w2.heap.size + 1, 0, none⟩)) true ty).run Tryz.prog wr = _ := fun ty => Lib.run_next_end_at wr (w2.heap.size + 1) ⟨g.2.toArray⟩ pos ty hit (by exact hp)
          have hpe : pos = g.2.length := by omega
          have hr : parseL s.data.toList = .ok a := by
            rw [HP.out, if_neg (by rw [HCN.out]; simp), HS2.out, hpe, List.drop_length]
            cases (xs.map (·.data.toList)).drop g.2.length <;> rfl
          have HR := Lib.hid hr
          have hbx3 := (hbr.block w.heap.size (by omega)).trans HX.out
          have HX3 := Lib.hid hbx3
          have HACT := Lib.hid hact
          have HO := Lib.hid (act_one a hfr)
          clear hit hact hfr hbr hpe hr hbx3
          go_wp2_with (first | (refine wpList_load_row rfl _ _ rfl w2.heap.size rfl _ _ _ _ HACT.out Tryz.underlying26 rfl actInfo ?_) | (refine wpList_store_row rfl _ _ _ rfl w.heap.size _ rfl rfl _ _ HX3.out actInfo rfl HO.out ?_))
          refine bodyPost_ret (parse_results _ _ w.heap.size _ 0 rfl rfl (setRow_heap _ _ _ _ _ _ HX3.out) rfl) rfl ?_
          rw [HR.out]
          refine ⟨⟨v, rfl, ?_⟩, below_setRow (HW2.out.trans (HB.out.mono HW2.out.size)) (Nat.le_refl _) _⟩
          exact (HF.out.setRow (by omega)).mono (by omega)
    · have hcb : (((xs.length : Int) + 1) != 1 + (g.2.length : Int)) = true := by rw [bne_iff_ne]; omega
      have hr : parseL s.data.toList = .error 203 := by rw [HP.out, if_pos hcnt]
      have HR := Lib.hid hr
      clear hr hcnt
      go_enter Tryz.func14, Tryz.ntmps14
      go_wp2_with fail
      refine (HI.out _).mono ?_
      rintro e w1 ⟨rfl, rfl⟩
      go_wp2_with fail
      refine HS.out.mono ?_
      rintro e w1 ⟨rfl, rfl⟩
      go_wp2_with fail
      refine (HK.out _).mono ?_
      rintro e w1 ⟨rfl, hb1⟩
      have hbx : w1.heap[w.heap.size]? = some (.cells #[.int .i64 0, .int .i64 0, .int .i64 0, .int .i64 0, .string ⟨#[]⟩, .slice none 0 0, .int .u32 0] 26 (0, 0)) := by
        rw [hb1.block _ (by simp; omega), Lib.alloc_old _ _ _ (by simp)]; exact heap_alloc_new w _
      have HX := Lib.hid hbx
      have HB := Lib.hid hb1
      clear hb1 hbx
      go_wp2_with fail
      refine (acts_any _).mono ?_
      rintro e w2 ⟨rfl, hb2⟩
      have HB2 := Lib.hid hb2
      have hbx2 := (hb2.block _ (Array.getElem?_eq_some_iff.1 HX.out).1).trans HX.out
      have HX2 := Lib.hid hbx2
      clear hb2 hbx2
      go_wp2_with (refine wpList_store_row rfl _ _ _ rfl w.heap.size _ rfl rfl _ _ HX2.out (by kernel_rfl) rfl (by kernel_rfl) ?_)
      refine bodyPost_ret (parse_results _ _ w.heap.size _ 203 rfl rfl (setRow_heap _ _ _ _ _ _ HX2.out) rfl) rfl ?_
      rw [HR.out]
      exact ⟨rfl, below_setRow ((HB1.out.trans (HB.out.mono (by simp; omega))).trans (HB2.out.mono (Nat.le_trans (by simp; omega) HB.out.size))) (Nat.le_refl _) _⟩
/-- ParseAct: of any line -/
theorem parse_any (s : ByteArray) (w : World) (hE : Env w) (hs : s.size ≤ 140737488351232) :
    Calls Tryz.prog 14 #[.string s] w fun e w' => ParsePost w.heap.size (parseL s.data.toList) e w' ∧ Below w.heap.size w w' := by
  by_cases hl : 131200 < s.size
  · exact parse_long s w hs hl
  · by_cases hn : 10 ∈ s.data.toList
    · exact parse_newline s w (by omega) hn
    · exact parse_main s w hE (by omega) hn
end Go.Proofs.YtmnkdnpjcfmjgaaGreatDoor
