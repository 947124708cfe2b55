/- Package weftlaw20: rounds: a line is read again and again, each answer written full of a mark of its own: none of them writes into another's memory. -/
import Derived.Test.YtmnkdnpjcfmjgaaGreatDoorRoundsLaw
import Derived.Deep.CutRange
import Derived.Deep.DeepCutAuto
namespace Go.Proofs.YtmnkdnpjcfmjgaaGreatDoor
open Go.RowKit

theorem bytesInfo : (Tryz.prog.info? 22).map (fun i => (i.zero, i.size, i.bytes)) = some (some (.slice none 0 0), 1, 24) := by kernel_rfl
theorem fresh_form {B : Nat} {w : World} {v : Value} {l : List UInt8} (h : Fresh B w v l) : ∃ ao, v = .slice ao l.length l.length := by
  rcases h with ⟨rfl, rfl⟩ | ⟨g, rfl, _⟩
  · exact ⟨none, rfl⟩
  · exact ⟨_, rfl⟩
theorem new_block {B : Nat} {w w' : World} {v : Value} {l : List UInt8} {va vg : Value} {vs : List Value} {j : Nat} {c : Nat → List UInt8} {w0 : World} (h : Rd w0 w va vg vs j c) (hf : Fresh B w' v l) (hB : w.heap.size ≤ B) :
    ∀ (k : Nat) u, vs[k]? = some u → (u.ownBlock = none ∨ u.ownBlock ≠ v.ownBlock) ∧ (v.ownBlock = none ∨ v.ownBlock ≠ u.ownBlock) := by
  intro k u hu
  have h1 := (h.each k u hu).lt
  have h2 := hf.lt
  cases hq : u.ownBlock with
  | none => exact ⟨.inl rfl, by cases v.ownBlock <;> simp⟩
  | some a =>
    cases hr : v.ownBlock with
    | none => exact ⟨.inr (by simp), .inl rfl⟩
    | some b =>
      have := h1 a hq
      have := h2 b hr
      have : a ≠ b := by omega
      exact ⟨.inr (by simpa using this), .inr (by simpa using fun e => this e.symm)⟩

theorem cell_new (w : World) (v : Value) (t : TypeId) : ∀ j u, [v][j]? = some u → (w.alloc (.cells #[v] t)).cell? ((⟨w.heap.size, 0, none⟩ : Addr).add j) = some u := cells_new w [v] t
theorem one_slice (ao : Option Addr) (n c : Nat) : ∀ u ∈ [Value.slice ao n c], u.oneCell' = true := by
  intro u hu
  simp at hu
  subst hu
  rfl
theorem cont_self (l : List UInt8) (k : Nat) : cont l k k = l := by unfold cont; simp
theorem own_shape2 {w : World} {base e size n : Nat} {v : Value} {xs : List Value} (h : w.ownsRow base e size v n xs) (hn : 0 < n) : ∃ g cap, v = .slice (some ⟨g, 0, none⟩) n cap ∧ base ≤ g := by
  obtain ⟨m, rfl⟩ : ∃ m, n = m + 1 := ⟨n - 1, by omega⟩
  exact own_shape h
theorem fresh_cell {B : Nat} {w : World} {ao : Option Addr} {n p i : Nat} (h : Fresh B w (.slice ao n n) (patF (p + 1) 0 n)) (hi : i < n) : ∃ g, ao = some ⟨g, 0, none⟩ ∧ w.cell? ⟨g, i, none⟩ = some (.int .u8 (patN (1 + p) i)) := by
  rcases h with ⟨h, h0⟩ | ⟨g, h, ho⟩
  · have := congrArg List.length h0
    rw [patF_length] at this
    simp at this
    omega
  · simp only [Value.slice.injEq] at h
    obtain ⟨rfl, -, -⟩ := h
    rw [patF_length] at ho
    refine ⟨g, rfl, ?_⟩
    rw [ho.cellAt i (by omega), Lib.byteCells, List.getElem?_map, patF_get _ _ _ _ hi, Nat.zero_add, Nat.add_comm p 1]
    simp only [Option.map_some, pat_byte]
theorem all_len {w0 w : World} {va vg : Value} {vs : List Value} {j k : Nat} {c : Nat → List UInt8} (h : Rd w0 w va vg vs j c) (hk : vs.length = k) : w.ownsRow w0.heap.size 22 1 va k vs := hk ▸ h.all
theorem cont_zero (l : List UInt8) (k : Nat) : cont l 0 k = l := by unfold cont; simp
/-- an answer of bytes alone -/
abbrev bytesCells (n : Int) (ao : Option Addr) (k : Nat) : Array Value := #[.int .i64 n, .int .i64 0, .int .i64 0, .int .i64 0, .string ⟨#[]⟩, .slice ao k k, .int .u32 0]
theorem parse_bytes (n : Nat) (s : ByteArray) (l : List UInt8) (u : World) (hE : Env u) (hs : s.size ≤ 131200) (hp : parseL s.data.toList = .ok (bytesAct n l)) :
    Calls Tryz.prog 14 #[.string s] u fun e w' => (∃ ao, e = .returned (.tuple #[.agg (bytesCells n ao l.length), .int .i64 0]) ∧ Fresh u.heap.size w' (.slice ao l.length l.length) l) ∧ Below u.heap.size u w' := by
  refine (parse_any s u hE (by omega)).mono ?_
  rintro e w' ⟨h, hb⟩
  rw [hp] at h
  obtain ⟨v, rfl, hf⟩ := h
  obtain ⟨ao, rfl⟩ := fresh_form hf
  exact ⟨⟨ao, rfl, hf⟩, hb⟩
theorem same_true (a b : Value) (l : List UInt8) (w : World) (ha : Bs w a l) (hb : Bs w b l) :
    Calls Tryz.prog 13 #[a, b] w fun e w' => e = .returned (.bool true) ∧ Below w.heap.size w w' := by
  refine (same_any a b l l w ha hb).mono ?_
  rintro e w' ⟨rfl, hd⟩
  exact ⟨by simp, hd.below _⟩

set_option maxRecDepth 100000 in
set_option maxHeartbeats 4000000 in
theorem rounds_early (s : ByteArray) (vb : Value) (l : List UInt8) (N : Nat) (w : World) (hE : Env w) (hs : s.size ≤ 131200) (hp : parseL s.data.toList = .ok (bytesAct 13 l)) (hl : l.length ≤ 60000) (hbs : Bs w vb l) (hN : N ≤ 60000) :
    Calls Tryz.prog 15 #[.string s, vb, .int .i64 N, .bool false] w fun e w' => e = .returned (.bool true) ∧ Below w.heap.size w w' := by
  obtain ⟨pb, cb, rfl, -, -⟩ := id hbs
  have HPA := Lib.hid fun u (hu : Below w.heap.size w u) => parse_bytes 13 s l u (hE.below hu (Nat.le_refl _)) hs hp
  have HBS := Lib.hid fun u (hu : Below w.heap.size w u) => hbs.below hu
  have HS := Lib.hid hs
  unfold bytesCells at HPA
  clear hp hbs hE hs
  obtain ⟨i0, hi, hz0, hz1, hz2⟩ := info_parts bytesInfo
  go_enter Tryz.func15, Tryz.ntmps15
  have h1 : IntKind.i64.wrap ((l.length : Int) + 96) = l.length + 96 := IntWalk.i64_in _ (by omega)
  have hmul : (N : Int) * ((l.length : Int) + 96) ≤ 60000 * 60096 := Int.mul_le_mul (by omega) (by omega) (by omega) (by omega)
  have hmul0 : 0 ≤ (N : Int) * ((l.length : Int) + 96) := Int.mul_nonneg (by omega) (by omega)
  go_upto_if 22 with fail
  go_cut [2] from 17 to 26 (fun v wx => ∃ M : Nat, v = .int .i64 M ∧ M ≤ 60000 ∧ wx = w)
  case first =>
    go_wp2
    · go_meet
      have h2 : (0 : Int) ≤ 20000000 / ((l.length : Int) + 96) := Int.ediv_nonneg (by omega) (by omega)
      have h3 : (20000000 : Int) / ((l.length : Int) + 96) ≤ N := by
        have := Int.ediv_le_ediv (a := 20000000) (b := (N : Int) * ((l.length : Int) + 96)) (c := (l.length : Int) + 96) (by omega) (by omega)
        rwa [Int.mul_ediv_cancel _ (by omega)] at this
      exact ⟨(20000000 / ((l.length : Int) + 96)).toNat, by rw [Int.toNat_of_nonneg h2], by omega, rfl⟩
    · go_meet
      exact ⟨N, rfl, hN, rfl⟩
  case rest =>
    obtain ⟨M, rfl, hM, rfl⟩ := hcut
    clear hmul hmul0 h1
    go_wp2
    go_loopw [9, 10, 11] (fun va vg m wr => ∃ (k : Nat) (vs : List Value), k ≤ M ∧ m = .int .i64 ((k : Int) + 1) ∧ vs.length = k ∧ Rd wc wr va vg vs k (cont l k)) (fun _ _ m _ => M + 1 - (intOf m).toNat)
    case atStart => exact ⟨0, [], by omega, rfl, rfl, Rd.start _ _⟩
    case round =>
      obtain ⟨k, vs, hk, rfl, hv, hR⟩ := hrel
      have HR := Lib.hid hR
      have HV := Lib.hid hv
      clear hv hR
      by_cases hkm : k < M
      · have HP := Lib.hid (HPA.out _ HR.out.below)
        go_wp2_with fail
        refine HP.out.mono ?_
        rintro e w1 ⟨⟨ao, rfl, hfr⟩, hb1⟩
        have HF := Lib.hid hfr
        have HR1 := Lib.hid (HR.out.grew hb1)
        have HB1 := Lib.hid hb1
        clear hfr hb1
        go_wp2_with fail
        refine (same_true _ _ l _ (HF.out.bs.below ((Below.refl _ _).alloc (Nat.le_refl _) _)) (HBS.out _ (HR1.out.below.alloc HR1.out.below.size _))).mono ?_
        rintro e w2 ⟨rfl, hb2⟩
        have hx2 := (hb2.block w1.heap.size (by simp)).trans (heap_alloc_new w1 _)
        have HX2 := Lib.hid hx2
        have HF2 := Lib.hid ((HF.out.below ((Below.refl _ _).alloc (Nat.le_refl _) _)).below hb2)
        have HR2 := Lib.hid ((HR1.out.grew ((Below.refl _ _).alloc (Nat.le_refl _) _)).grew hb2)
        have q5 : w2.cell? ⟨w1.heap.size, 5, none⟩ = some (.slice ao l.length l.length) := by rw [Joins.cell_of_block (i := 5) hx2]; rfl
        clear hb2 hx2
        go_wp2_with (at_builtin; refine wpList_append_moved _ rfl (.tmp 46) (.tmp 49) 115 rfl wc.heap.size 22 i0 (.slice none 0 0) 1 24 Tryz.underlying115 hi hz0 hz1 hz2 rfl (by decide) _ vs.length vs rfl (HR2.out.all.alloc _) ⟨w2.heap.size, 0, none⟩ 1 [.slice ao l.length l.length] rfl rfl (cell_new w2 _ _) (one_slice _ _ _) (by rw [HV.out]; unfold maxLen; omega) (by rw [HV.out]; omega) (by have := HR2.out.below.size; simp; omega) ?_)
        intro v3 w3 ho3 hm3
        have HR3 := Lib.hid (Rd.push (HR2.out.grew ((Below.refl _ _).alloc (Nat.le_refl _) (.cells #[.slice ao l.length l.length] 22))) (v := .slice ao l.length l.length) (by rw [HV.out, cont_self]; exact (HF2.out.below ((Below.refl _ _).alloc (Nat.le_refl _) _)).mono HR.out.below.size) (new_block HR.out HF.out (Nat.le_refl _)) ho3 hm3)
        have hx3 : w3.heap[w1.heap.size]? = some (.cells (bytesCells 13 ao l.length) 26 (0, 0)) := (hm3.grown.block w1.heap.size (by have := (Array.getElem?_eq_some_iff.1 HX2.out).1; simp; omega) (fun e => by have := (HR.out.all.lt _ e.symm).2; have := HB1.out.size; omega)).trans ((Lib.alloc_old _ _ _ (Array.getElem?_eq_some_iff.1 HX2.out).1).trans HX2.out)
        have q5 : w3.cell? ⟨w1.heap.size, 5, none⟩ = some (.slice ao l.length l.length) := by rw [Joins.cell_of_block (i := 5) hx3]; rfl
        have hget : (vs ++ [.slice ao l.length l.length])[k]? = some (.slice ao l.length l.length) := by rw [← HV.out]; simp
        have HF3 := Lib.hid (HR3.out.each k _ hget)
        have HG := Lib.hid hget
        rw [cont_self] at HF3
        have HFL := Lib.hid (filled_any (.slice ao l.length l.length) l (k + 1) wc.heap.size w3 HF3.out (by omega) (by omega))
        rw [show ((k + 1 : Nat) : Int) = (k : Int) + 1 from rfl] at HFL
        clear ho3 hm3 hx3 hget
        go_wp2_with fail
        refine HFL.out.mono ?_
        rintro e w4 ⟨rfl, hf4, hg4⟩
        have HR4 := Lib.hid ((HR3.out.filled HG.out _ hf4 hg4).cong fun i _ => cont_step l k i)
        clear hf4 hg4
        go_wp2_with (at_builtin; refine wpList_append_moved _ rfl (.tmp 53) (.tmp 58) 115 rfl wc.heap.size 22 i0 (.slice none 0 0) 1 24 Tryz.underlying115 hi hz0 hz1 hz2 rfl (by decide) _ k _ rfl (HR4.out.grown.alloc _) ⟨w4.heap.size, 0, none⟩ 1 [.slice ao l.length l.length] rfl rfl (cell_new w4 _ _) (one_slice _ _ _) (by unfold maxLen; omega) (by omega) (by have := HR4.out.below.size; simp; omega) ?_)
        intro v5 w5 ho5 hm5
        have HR5 := Lib.hid (Rd.more (HR4.out.grew ((Below.refl _ _).alloc (Nat.le_refl _) (.cells #[.slice ao l.length l.length] 22))) HG.out ho5 hm5)
        clear ho5 hm5
        have hj1 : IntKind.i64.wrap ((k : Int) + 1 + 1) = (k : Int) + 1 + 1 := IntWalk.i64_in _ (by omega)
        go_wp2
        go_roundw
        case rel => exact ⟨k + 1, _, by omega, rfl, by rw [List.length_append, HV.out]; rfl, HR5.out⟩
        case measure => simp [intOf]; omega
      · obtain rfl : k = M := by omega
        by_cases h0 : 0 < k
        case neg =>
          obtain rfl : k = 0 := by omega
          go_wp2_with fail
          refine wp_loop_rounds 1 ?_
          rw [rounds_succ]
          go_wp2
          refine wp_loop_rounds 1 ?_
          rw [rounds_succ]
          go_wp2
          go_ret
          exact ⟨rfl, HR.out.below⟩
        have h1 : (1 : Int) ≤ k := by omega
        go_wp2_with fail
        refine wp_loop_rounds 1 ?_
        rw [rounds_succ]
        go_wp2
        go_loopw [15] (fun q wx => ∃ p n : Nat, p ≤ k ∧ q = .int .i64 p ∧ wx = wr.drewN n) (fun q _ => k - (intOf q).toNat)
        case atStart => exact ⟨0, 0, by omega, rfl, rfl⟩
        case round =>
          obtain ⟨p, n, hp, rfl, rfl⟩ := hrel
          by_cases hpk : p < k
          · obtain ⟨gg, cg, rfl, -⟩ := own_shape2 HR.out.grown (by omega)
            obtain ⟨ga, ca, rfl, -⟩ := own_shape2 (all_len HR.out HV.out) (by omega)
            obtain ⟨v, hv⟩ : ∃ v, vs[p]? = some v := ⟨vs[p]'(by rw [HV.out]; omega), List.getElem?_eq_getElem _⟩
            have hf := HR.out.each p v hv
            obtain ⟨ao, rfl⟩ := fresh_form hf
            rw [cont_length] at hf hv
            have cg1 : wr.cell? ⟨gg, p, none⟩ = some (.slice ao l.length l.length) := by
              rw [HR.out.grown.cellAt p (by omega), List.getElem?_take, if_pos hpk, hv]
            have ca1 : wr.cell? ⟨ga, p, none⟩ = some (.slice ao l.length l.length) := by
              rw [(all_len HR.out HV.out).cellAt p (by omega), hv]
            have HF := Lib.hid hf
            rw [show cont l k p = patF (p + 1) 0 l.length by unfold cont; rw [if_pos hpk]] at HF
            have HPT := Lib.hid fun i (hi : i ≤ 20000000) u => pat_any (1 + p) i u (by omega) hi
            rw [show ((1 + p : Nat) : Int) = 1 + (p : Int) from by omega] at HPT
            have hw1 : IntKind.i64.wrap (1 + (p : Int)) = 1 + (p : Int) := IntWalk.i64_in _ (by omega)
            have hw2 : IntKind.i64.wrap ((p : Int) + 1) = (p : Int) + 1 := IntWalk.i64_in _ (by omega)
            have HN := Lib.hid HV.out
            clear hf hv HV
            go_wp2_with fail
            go_loopw [16] (fun q wx => ∃ i n : Nat, i ≤ l.length ∧ q = .int .i64 i ∧ wx = wr.drewN n) (fun q _ => l.length - (intOf q).toNat)
            case atStart => exact ⟨0, n, by omega, rfl, rfl⟩
            case round =>
              obtain ⟨i, m, hi, rfl, rfl⟩ := hrel
              by_cases hil : i < l.length
              · obtain ⟨g, rfl, hc⟩ := fresh_cell HF.out hil
                have hw3 : IntKind.i64.wrap ((i : Int) + 1) = (i : Int) + 1 := IntWalk.i64_in _ (by omega)
                have hb : (((patN (1 + p) i : Nat) : Int) != (patN (1 + p) i : Nat)) = false := by simp
                have HPI := Lib.hid (HPT.out i (by omega))
                go_wp2_with fail
                go_quiet (first | (go_at_call 47; exact (HPI.out _).mono fun _ _ h => ⟨h.1, _, h.2⟩))
                go_wp2
                go_roundw
                case rel => exact ⟨i + 1, m + nq, by omega, by go_num, by simp⟩
                case measure => simp [intOf]; omega
              · obtain rfl : i = l.length := by omega
                go_wp2
                go_roundw
                case rel => exact ⟨p + 1, m, by omega, by go_num, rfl⟩
                case measure => simp [intOf]; omega
          · obtain rfl : p = k := by omega
            go_wp2
            go_ret
            exact ⟨rfl, HR.out.below.trans ((Drw.mk _ _).below _)⟩
set_option maxRecDepth 100000 in
set_option maxHeartbeats 4000000 in
theorem rounds_late (s : ByteArray) (vb : Value) (l : List UInt8) (N : Nat) (w : World) (hE : Env w) (hs : s.size ≤ 131200) (hp : parseL s.data.toList = .ok (bytesAct 13 l)) (hl : l.length ≤ 60000) (hbs : Bs w vb l) (hN : N ≤ 60000) :
    Calls Tryz.prog 15 #[.string s, vb, .int .i64 N, .bool true] w fun e w' => e = .returned (.bool true) ∧ Below w.heap.size w w' := by
  obtain ⟨pb, cb, rfl, -, -⟩ := id hbs
  have HPA := Lib.hid fun u (hu : Below w.heap.size w u) => parse_bytes 13 s l u (hE.below hu (Nat.le_refl _)) hs hp
  have HBS := Lib.hid fun u (hu : Below w.heap.size w u) => hbs.below hu
  have HS := Lib.hid hs
  unfold bytesCells at HPA
  clear hp hbs hE hs
  obtain ⟨i0, hi, hz0, hz1, hz2⟩ := info_parts bytesInfo
  go_enter Tryz.func15, Tryz.ntmps15
  have h1 : IntKind.i64.wrap ((l.length : Int) + 96) = l.length + 96 := IntWalk.i64_in _ (by omega)
  have hmul : (N : Int) * ((l.length : Int) + 96) ≤ 60000 * 60096 := Int.mul_le_mul (by omega) (by omega) (by omega) (by omega)
  have hmul0 : 0 ≤ (N : Int) * ((l.length : Int) + 96) := Int.mul_nonneg (by omega) (by omega)
  go_upto_if 22 with fail
  go_cut [2] from 17 to 26 (fun v wx => ∃ M : Nat, v = .int .i64 M ∧ M ≤ 60000 ∧ wx = w)
  case first =>
    go_wp2
    · go_meet
      have h2 : (0 : Int) ≤ 20000000 / ((l.length : Int) + 96) := Int.ediv_nonneg (by omega) (by omega)
      have h3 : (20000000 : Int) / ((l.length : Int) + 96) ≤ N := by
        have := Int.ediv_le_ediv (a := 20000000) (b := (N : Int) * ((l.length : Int) + 96)) (c := (l.length : Int) + 96) (by omega) (by omega)
        rwa [Int.mul_ediv_cancel _ (by omega)] at this
      exact ⟨(20000000 / ((l.length : Int) + 96)).toNat, by rw [Int.toNat_of_nonneg h2], by omega, rfl⟩
    · go_meet
      exact ⟨N, rfl, hN, rfl⟩
  case rest =>
    obtain ⟨M, rfl, hM, rfl⟩ := hcut
    clear hmul hmul0 h1
    go_wp2
    go_loopw [9, 10, 11] (fun va vg m wr => ∃ (k : Nat) (vs : List Value), k ≤ M ∧ m = .int .i64 ((k : Int) + 1) ∧ vs.length = k ∧ Rd wc wr va vg vs 0 (cont l 0)) (fun _ _ m _ => M + 1 - (intOf m).toNat)
    case atStart => exact ⟨0, [], by omega, rfl, rfl, Rd.start _ _⟩
    case round =>
      obtain ⟨k, vs, hk, rfl, hv, hR⟩ := hrel
      have HR := Lib.hid hR
      have HV := Lib.hid hv
      clear hv hR
      by_cases hkm : k < M
      · have HP := Lib.hid (HPA.out _ HR.out.below)
        go_wp2_with fail
        refine HP.out.mono ?_
        rintro e w1 ⟨⟨ao, rfl, hfr⟩, hb1⟩
        have HF := Lib.hid hfr
        have HR1 := Lib.hid (HR.out.grew hb1)
        have HB1 := Lib.hid hb1
        clear hfr hb1
        go_wp2_with fail
        refine (same_true _ _ l _ (HF.out.bs.below ((Below.refl _ _).alloc (Nat.le_refl _) _)) (HBS.out _ (HR1.out.below.alloc HR1.out.below.size _))).mono ?_
        rintro e w2 ⟨rfl, hb2⟩
        have hx2 := (hb2.block w1.heap.size (by simp)).trans (heap_alloc_new w1 _)
        have HX2 := Lib.hid hx2
        have HF2 := Lib.hid ((HF.out.below ((Below.refl _ _).alloc (Nat.le_refl _) _)).below hb2)
        have HR2 := Lib.hid ((HR1.out.grew ((Below.refl _ _).alloc (Nat.le_refl _) _)).grew hb2)
        have q5 : w2.cell? ⟨w1.heap.size, 5, none⟩ = some (.slice ao l.length l.length) := by rw [Joins.cell_of_block (i := 5) hx2]; rfl
        clear hb2 hx2
        go_wp2_with (at_builtin; refine wpList_append_moved _ rfl (.tmp 46) (.tmp 49) 115 rfl wc.heap.size 22 i0 (.slice none 0 0) 1 24 Tryz.underlying115 hi hz0 hz1 hz2 rfl (by decide) _ vs.length vs rfl (HR2.out.all.alloc _) ⟨w2.heap.size, 0, none⟩ 1 [.slice ao l.length l.length] rfl rfl (cell_new w2 _ _) (one_slice _ _ _) (by rw [HV.out]; unfold maxLen; omega) (by rw [HV.out]; omega) (by have := HR2.out.below.size; simp; omega) ?_)
        intro v3 w3 ho3 hm3
        have HR3 := Lib.hid (Rd.push (HR2.out.grew ((Below.refl _ _).alloc (Nat.le_refl _) (.cells #[.slice ao l.length l.length] 22))) (v := .slice ao l.length l.length) (by rw [cont_zero]; exact (HF2.out.below ((Below.refl _ _).alloc (Nat.le_refl _) _)).mono HR.out.below.size) (new_block HR.out HF.out (Nat.le_refl _)) ho3 hm3)
        clear ho3 hm3
        have hj1 : IntKind.i64.wrap ((k : Int) + 1 + 1) = (k : Int) + 1 + 1 := IntWalk.i64_in _ (by omega)
        go_wp2
        go_roundw
        case rel => exact ⟨k + 1, _, by omega, rfl, by rw [List.length_append, HV.out]; rfl, HR3.out⟩
        case measure => simp [intOf]; omega
      · obtain rfl : k = M := by omega
        by_cases h0 : 0 < k
        case neg =>
          obtain rfl : k = 0 := by omega
          go_wp2_with fail
          refine wp_loop_rounds 1 ?_
          rw [rounds_succ]
          go_wp2
          refine wp_loop_rounds 1 ?_
          rw [rounds_succ]
          go_wp2
          go_ret
          exact ⟨rfl, HR.out.below⟩
        have h1 : (1 : Int) ≤ k := by omega
        obtain ⟨ga, ca, rfl, -⟩ := own_shape2 (all_len HR.out HV.out) (by omega)
        have hwx : ∀ (q : Nat), q < k → ∃ ao, vs[q]? = some (.slice ao l.length l.length) := fun q hq => by
          obtain ⟨v, hv⟩ : ∃ v, vs[q]? = some v := ⟨vs[q]'(by rw [HV.out]; omega), List.getElem?_eq_getElem _⟩
          obtain ⟨ao, rfl⟩ := fresh_form (HR.out.each q v hv)
          rw [cont_length] at hv
          exact ⟨ao, hv⟩
        have HWX := Lib.hid hwx
        clear hwx
        go_wp2_with fail
        go_loopw [10, 14] (fun vg m wx => ∃ j : Nat, j ≤ k ∧ m = .int .i64 ((j : Int) + 1) ∧ Rd wc wx (.slice (some ⟨ga, 0, none⟩) k ca) vg vs j (cont l j)) (fun _ m _ => k + 1 - (intOf m).toNat)
        case atStart => exact ⟨0, by omega, rfl, HR.out⟩
        case round =>
          obtain ⟨j, hj, rfl, hr⟩ := hrel
          have HR2 := Lib.hid hr
          clear hr
          by_cases hjk : j < k
          · obtain ⟨ao, hv⟩ := HWX.out j hjk
            have ca2 : wr.cell? ⟨ga, j, none⟩ = some (.slice ao l.length l.length) := by
              rw [(all_len HR2.out HV.out).cellAt j (by omega), hv]
            have hjj : IntKind.i64.wrap ((j : Int) + 1 - 1) = (j : Int) := by rw [Int.add_sub_cancel]; exact IntWalk.i64_in _ (by omega)
            have HF3 := Lib.hid (HR2.out.each j _ hv)
            rw [cont_self] at HF3
            have HG := Lib.hid hv
            have HFL := Lib.hid (filled_any (.slice ao l.length l.length) l (j + 1) wc.heap.size wr HF3.out (by omega) (by omega))
            rw [show ((j + 1 : Nat) : Int) = (j : Int) + 1 from rfl] at HFL
            clear hv
            go_wp2_with fail
            refine HFL.out.mono ?_
            rintro e w4 ⟨rfl, hf4, hg4⟩
            have HR4 := Lib.hid ((HR2.out.filled HG.out _ hf4 hg4).cong fun i _ => cont_step l j i)
            clear hf4 hg4
            go_wp2_with (at_builtin; refine wpList_append_moved _ rfl (.tmp 68) (.tmp 76) 115 rfl wc.heap.size 22 i0 (.slice none 0 0) 1 24 Tryz.underlying115 hi hz0 hz1 hz2 rfl (by decide) _ j _ rfl (HR4.out.grown.alloc _) ⟨w4.heap.size, 0, none⟩ 1 [.slice ao l.length l.length] rfl rfl (cell_new w4 _ _) (one_slice _ _ _) (by unfold maxLen; omega) (by omega) (by have := HR4.out.below.size; simp; omega) ?_)
            intro v5 w5 ho5 hm5
            have HR5 := Lib.hid (Rd.more (HR4.out.grew ((Below.refl _ _).alloc (Nat.le_refl _) (.cells #[.slice ao l.length l.length] 22))) HG.out ho5 hm5)
            clear ho5 hm5
            have hj1 : IntKind.i64.wrap ((j : Int) + 1 + 1) = (j : Int) + 1 + 1 := IntWalk.i64_in _ (by omega)
            go_wp2
            go_roundw
            case rel => exact ⟨j + 1, by omega, rfl, HR5.out⟩
            case measure => simp [intOf]; omega
          · obtain rfl : k = j := by omega
            clear HR
            have HR := HR2
            clear HR2
            go_wp2
            go_loopw [15] (fun q wx => ∃ p n : Nat, p ≤ k ∧ q = .int .i64 p ∧ wx = wr.drewN n) (fun q _ => k - (intOf q).toNat)
            case atStart => exact ⟨0, 0, by omega, rfl, rfl⟩
            case round =>
              obtain ⟨p, n, hp, rfl, rfl⟩ := hrel
              by_cases hpk : p < k
              · obtain ⟨gg, cg, rfl, -⟩ := own_shape2 HR.out.grown (by omega)
                obtain ⟨v, hv⟩ : ∃ v, vs[p]? = some v := ⟨vs[p]'(by rw [HV.out]; omega), List.getElem?_eq_getElem _⟩
                have hf := HR.out.each p v hv
                obtain ⟨ao, rfl⟩ := fresh_form hf
                rw [cont_length] at hf hv
                have cg1 : wr.cell? ⟨gg, p, none⟩ = some (.slice ao l.length l.length) := by
                  rw [HR.out.grown.cellAt p (by omega), List.getElem?_take, if_pos hpk, hv]
                have ca1 : wr.cell? ⟨ga, p, none⟩ = some (.slice ao l.length l.length) := by
                  rw [(all_len HR.out HV.out).cellAt p (by omega), hv]
                have HF := Lib.hid hf
                rw [show cont l k p = patF (p + 1) 0 l.length by unfold cont; rw [if_pos hpk]] at HF
                have HPT := Lib.hid fun i (hi : i ≤ 20000000) u => pat_any (1 + p) i u (by omega) hi
                rw [show ((1 + p : Nat) : Int) = 1 + (p : Int) from by omega] at HPT
                have hw1 : IntKind.i64.wrap (1 + (p : Int)) = 1 + (p : Int) := IntWalk.i64_in _ (by omega)
                have hw2 : IntKind.i64.wrap ((p : Int) + 1) = (p : Int) + 1 := IntWalk.i64_in _ (by omega)
                have HN := Lib.hid HV.out
                clear hf hv HV
                go_wp2_with fail
                go_loopw [16] (fun q wx => ∃ i n : Nat, i ≤ l.length ∧ q = .int .i64 i ∧ wx = wr.drewN n) (fun q _ => l.length - (intOf q).toNat)
                case atStart => exact ⟨0, n, by omega, rfl, rfl⟩
                case round =>
                  obtain ⟨i, m, hi, rfl, rfl⟩ := hrel
                  by_cases hil : i < l.length
                  · obtain ⟨g, rfl, hc⟩ := fresh_cell HF.out hil
                    have hw3 : IntKind.i64.wrap ((i : Int) + 1) = (i : Int) + 1 := IntWalk.i64_in _ (by omega)
                    have hb : (((patN (1 + p) i : Nat) : Int) != (patN (1 + p) i : Nat)) = false := by simp
                    have HPI := Lib.hid (HPT.out i (by omega))
                    go_wp2_with fail
                    go_quiet (first | (go_at_call 47; exact (HPI.out _).mono fun _ _ h => ⟨h.1, _, h.2⟩))
                    go_wp2
                    go_roundw
                    case rel => exact ⟨i + 1, m + nq, by omega, by go_num, by simp⟩
                    case measure => simp [intOf]; omega
                  · obtain rfl : i = l.length := by omega
                    go_wp2
                    go_roundw
                    case rel => exact ⟨p + 1, m, by omega, by go_num, rfl⟩
                    case measure => simp [intOf]; omega
              · obtain rfl : p = k := by omega
                go_wp2
                go_ret
                exact ⟨rfl, HR.out.below.trans ((Drw.mk _ _).below _)⟩
/-- rounds answers true -/
theorem rounds_any (late : Bool) (s : ByteArray) (vb : Value) (l : List UInt8) (N : Nat) (w : World) (hE : Env w) (hs : s.size ≤ 131200) (hp : parseL s.data.toList = .ok (bytesAct 13 l)) (hl : l.length ≤ 60000) (hbs : Bs w vb l) (hN : N ≤ 60000) :
    Calls Tryz.prog 15 #[.string s, vb, .int .i64 N, .bool late] w fun e w' => e = .returned (.bool true) ∧ Below w.heap.size w w' := by
  cases late
  · exact rounds_early s vb l N w hE hs hp hl hbs hN
  · exact rounds_late s vb l N w hE hs hp hl hbs hN
#print axioms rounds_any
end Go.Proofs.YtmnkdnpjcfmjgaaGreatDoor
