/- Package shell: FormatReply. -/
import Derived.Test.YtmnkdnpjcfmjgaaGreatDoorReplyLoops
namespace Go.Proofs.YtmnkdnpjcfmjgaaGreatDoor
open Go.RowKit Go.Sort

set_option maxRecDepth 1000000 in
set_option maxHeartbeats 8000000 in
theorem reply_tail2 (r : ReplyD) (ag al ap af ac aa ab : Option Addr) (cg cl cp cf cc ca cb : Nat) (v1 v2 v3 v5 v6 u1 u2 u3 : Value) (w : World) (hok : r.Ok w) (hat : r.At w.heap.size w (.slice ag r.given.length cg) (.slice al r.leases.length cl) v1 v2 v3 (.slice ap r.pods.length cp) (.slice af r.flight.length cf) v5 v6 u1 u2 u3 (.slice ac r.counts.length cc) (.slice aa r.diskA.length ca) (.slice ab r.diskB.length cb)) (hlen : (replyL r).length ≤ 140737488351232) {c0 c2 c5 c6 c7 c8 c9 c10 c11 c12 c13 c14 c15 c16 c17 c18 c19 c20 c21 c22 c23 c24 c25 c26 c27 c28 c29 c30 c31 c32 c33 c34 c35 c36 c37 c38 c39 c40 c41 c42 c43 c44 c45 c46 c47 c48 c49 c50 c51 c52 c53 c54 c55 c56 c57 c58 c59 c60 c61 c62 c63 c64 c65 c66 c67 c68 c69 c70 c71 c72 c73 c74 c75 c76 c77 c78 c79 c80 c81 c82 c83 c84 c85 c86 c87 c88 c89 c90 c91 c92 c93 c94 c95 c96 c97 c98 c99 c100 c101 c102 c103 c104 c105 c106 c107 c108 c109 c110 c111 c112 c113 c114 c115 c116 c117 c118 c119 c120 c121 c122 c123 c124 c125 c126 c127 c128 c129 c130 c131 c132 c133 c134 c135 c136 c137 c138 c139 c140 c141 c142 c143 c144 c145 c146 c147 c148 c149 c150 c151 c152 c153 c154 c155 : Value} {Q0 : Exit → Act → World → Prop} (ws : World) (hws : Lp w w.heap.size (w.heap.size + 1) w.heap.size (replyCS r ag al ap af ac aa ab cg cl cp cf cc ca cb v1 v2 v3 v5 v6 u1 u2 u3) 54 (headL r ++ r.given.flatMap givenLine ++ r.leases.flatMap leaseLine ++ tablesL [] r.tabs ++ r.pods.flatMap podLine ++ r.flight.flatMap sentLine ++ viewL r.view) ws)
    (hexit : ∀ (a : Act) (wx : World), a.defers = [] → a.tmps.getD 2 undef = .string ⟨(replyL r).toArray⟩ → Below w.heap.size w wx → Q0 .ret a wx) :
    Code.wp Tryz.prog (tailOf Tryz.f9 10) Q0 ⟨#[c0, .pointer (some ⟨w.heap.size, 0, none⟩), c2, .pointer (some ⟨w.heap.size + 1, 0, none⟩), (putV (w.heap.size + 1)), c5, c6, c7, c8, c9, c10, c11, c12, c13, c14, c15, c16, c17, c18, c19, c20, c21, c22, c23, c24, c25, c26, c27, c28, c29, c30, c31, c32, c33, c34, c35, c36, c37, c38, c39, c40, c41, c42, c43, c44, c45, c46, c47, c48, c49, c50, c51, c52, c53, c54, c55, c56, c57, c58, c59, c60, c61, c62, c63, c64, c65, c66, c67, c68, c69, c70, c71, c72, c73, c74, c75, c76, c77, c78, c79, c80, c81, c82, c83, c84, c85, c86, c87, c88, c89, c90, c91, c92, c93, c94, c95, c96, c97, c98, c99, c100, c101, c102, c103, c104, c105, c106, c107, c108, c109, c110, c111, c112, c113, c114, c115, c116, c117, c118, c119, c120, c121, c122, c123, c124, c125, c126, c127, c128, c129, c130, c131, c132, c133, c134, c135, c136, c137, c138, c139, c140, c141, c142, c143, c144, c145, c146, c147, c148, c149, c150, c151, c152, c153, c154, c155], []⟩ ws := by
  have HQ := Lib.hid hexit
  have HL := Lib.hid hws
  have HLen := Lib.hid hlen
  have RW := Lib.hid hat
  have OK := Lib.hid hok
  have OG := Lib.hid (fun x hx => (⟨(hok.given x hx).1, (hok.given x hx).2.1, (hok.given x hx).2.2.1, fun u hu => Bs.below (hok.given x hx).2.2.2.1 hu, (hok.given x hx).2.2.2.2⟩ : I64 x.host ∧ x.dst < 4294967296 ∧ x.name.size ≤ 140737488351232 ∧ (∀ u, Below w.heap.size w u → Bs u (.slice x.sa x.bytes.length x.sc) x.bytes) ∧ x.bytes.length ≤ 140737488351232))
  have OL := Lib.hid hok.leases
  have OP := Lib.hid hok.pods
  have OF := Lib.hid (fun x hx => (⟨(hok.flight x hx).1, fun u hu => Bs.below (hok.flight x hx).2.1 hu, (hok.flight x hx).2.2⟩ : x.dst < 4294967296 ∧ (∀ u, Below w.heap.size w u → Bs u (.slice x.sa x.bytes.length x.sc) x.bytes) ∧ x.bytes.length ≤ 140737488351232))
  obtain ⟨ag', cg', hvg, hcg, hmg, hrg⟩ := hat.g
  obtain ⟨rfl, -, rfl⟩ := Value.slice.inj hvg
  obtain ⟨al', cl', hvl, hcl, hml, hrl⟩ := hat.l
  obtain ⟨rfl, -, rfl⟩ := Value.slice.inj hvl
  obtain ⟨ap', cp', hvp, hcp, hmp, hrp⟩ := hat.p
  obtain ⟨rfl, -, rfl⟩ := Value.slice.inj hvp
  obtain ⟨af', cf', hvf, hcf, hmf, hrf⟩ := hat.f
  obtain ⟨rfl, -, rfl⟩ := Value.slice.inj hvf
  obtain ⟨ac', cc', hvc, hcc, hmc, hrc⟩ := hat.c
  obtain ⟨rfl, -, rfl⟩ := Value.slice.inj hvc
  have RG := Lib.hid hrg
  have RL := Lib.hid hrl
  have RP := Lib.hid hrp
  have RF := Lib.hid hrf
  have RC := Lib.hid hrc
  clear hrg hrl hrp hrf hrc hat hok hws hexit hvg hvl hvp hvf hvc
  rw [List.length_map] at hcg hmg hcl hml hcp hmp hcf hmf hcc hmc
  have hl1 := hlen
  unfold replyL at hl1
  simp only [List.length_append] at hl1
  have m1 : (headL r).length + (r.given.flatMap givenLine).length ≤ 140737488355328 := by omega
  have m2 : (headL r ++ r.given.flatMap givenLine).length + (r.leases.flatMap leaseLine).length ≤ 140737488355328 := by simp only [List.length_append]; omega
  have m3 : (headL r ++ r.given.flatMap givenLine ++ r.leases.flatMap leaseLine).length + (tablesL [] r.tabs).length ≤ 140737488355328 := by simp only [List.length_append]; omega
  have m4 : (headL r ++ r.given.flatMap givenLine ++ r.leases.flatMap leaseLine ++ tablesL [] r.tabs).length + (r.pods.flatMap podLine).length ≤ 140737488355328 := by simp only [List.length_append]; omega
  have m5 : (headL r ++ r.given.flatMap givenLine ++ r.leases.flatMap leaseLine ++ tablesL [] r.tabs ++ r.pods.flatMap podLine).length + (r.flight.flatMap sentLine).length ≤ 140737488355328 := by simp only [List.length_append]; omega
  have m6 : (headL r ++ r.given.flatMap givenLine ++ r.leases.flatMap leaseLine ++ tablesL [] r.tabs ++ r.pods.flatMap podLine ++ r.flight.flatMap sentLine).length + (viewL r.view).length ≤ 140737488355328 := by simp only [List.length_append]; omega
  have m7 : (headL r ++ r.given.flatMap givenLine ++ r.leases.flatMap leaseLine ++ tablesL [] r.tabs ++ r.pods.flatMap podLine ++ r.flight.flatMap sentLine ++ viewL r.view).length + (countsL r.counts).length ≤ 140737488355328 := by simp only [List.length_append]; omega
  have m8 : (headL r ++ r.given.flatMap givenLine ++ r.leases.flatMap leaseLine ++ tablesL [] r.tabs ++ r.pods.flatMap podLine ++ r.flight.flatMap sentLine ++ viewL r.view ++ countsL r.counts).length + (diskL r.diskA r.diskB).length ≤ 140737488355328 := by simp only [List.length_append]; omega
  have M1 := Lib.hid m1
  have M2 := Lib.hid m2
  have M3 := Lib.hid m3
  have M4 := Lib.hid m4
  have M5 := Lib.hid m5
  have M6 := Lib.hid m6
  have M7 := Lib.hid m7
  have M8 := Lib.hid m8
  clear m1 m2 m3 m4 m5 m6 m7 m8 hl1 hlen
  have hNb : w.heap.size ≠ w.heap.size + 1 := by omega
  have HNb := Lib.hid hNb
  have HLb := HNb
  clear hNb

  conv => arg 2; whnf
  conv => arg 4; dsimp only
  have q33 : ws.cell? ⟨w.heap.size, 33, none⟩ = some (.slice ac r.counts.length cc) := HL.out.cell rfl
  by_cases hc : 0 < r.counts.length
  · have hne : r.counts ≠ [] := by intro h; rw [h] at hc; simp at hc
    have hm7 : (headL r ++ r.given.flatMap givenLine ++ r.leases.flatMap leaseLine ++ tablesL [] r.tabs ++ r.pods.flatMap podLine ++ r.flight.flatMap sentLine ++ viewL r.view).length + (Lib.join ((wordsL r.counts).map (·.data.toList)) [32]).length + 1 ≤ 140737488355328 := by
      have h2 := congrArg List.length (countsL_eq _ hne)
      rw [List.length_append] at h2
      simp only [List.length_cons, List.length_nil] at h2
      have := M7.out
      omega
    have HM := Lib.hid hm7
    have HNE := Lib.hid hne
    have hc3 : (0 : Int) < (r.counts.length : Int) := by omega
    clear hm7
    have q33b : (ws.alloc (.cells #[.string ⟨#[99, 111, 117, 110, 116, 115]⟩] 9)).cell? ⟨w.heap.size, 33, none⟩ = some (.slice ac r.counts.length cc) := (HL.out.alloc _).cell rfl
    go_wp2
    refine counts_loop r.counts ac cc HNb.out (by decide) hcc OK.out.few RC.out OK.out.counts ws HL.out ?_
    intro d15 d121 d122 d123 d124 d125 d126 d127 d128 d129 d130 bk cx wg hl hcs hbk hcap
    have HLr := Lib.hid hl
    have hP := put_any w.heap.size (w.heap.size + 1) bk 0 cx (r.counts.length + 1) (headL r ++ r.given.flatMap givenLine ++ r.leases.flatMap leaseLine ++ tablesL [] r.tabs ++ r.pods.flatMap podLine ++ r.flight.flatMap sentLine ++ viewL r.view) (wordsL r.counts) wg HLr.out.bld HLr.out.size (by simp [wordsL]) hcs hbk hcap HM.out (by have := OK.out.few; omega)
    have HP := Lib.hid hP
    clear hP hcs hbk hcap hl q33 q33b
    go_wp2_with fail
    refine HP.out.mono ?_
    rintro e w6 ⟨rfl, hb6, hf6⟩
    have hl6 : Lp w w.heap.size (w.heap.size + 1) w.heap.size (replyCS r ag al ap af ac aa ab cg cl cp cf cc ca cb v1 v2 v3 v5 v6 u1 u2 u3) 54 (headL r ++ r.given.flatMap givenLine ++ r.leases.flatMap leaseLine ++ tablesL [] r.tabs ++ r.pods.flatMap podLine ++ r.flight.flatMap sentLine ++ viewL r.view ++ countsL r.counts) w6 := HLr.out.put HNb.out (by decide) hf6 (by rw [countsL_eq _ HNE.out, ← List.append_assoc]; simpa only [List.append_assoc] using hb6)
    have HLs := Lib.hid hl6
    clear hl6 hb6 hf6 HL HLr HP
    have HL := HLs
    clear HLs
    have q34 : w6.cell? ⟨w.heap.size, 34, none⟩ = some (.slice aa r.diskA.length ca) := HL.out.cell rfl
    have q35 : w6.cell? ⟨w.heap.size, 35, none⟩ = some (.slice ab r.diskB.length cb) := HL.out.cell rfl
    have s1 : IntKind.i64.wrap ((r.diskA.length : Int) + r.diskB.length) = r.diskA.length + r.diskB.length := IntWalk.i64_in _ (by have := OK.out.diskA; have := OK.out.diskB; omega)
    by_cases hd : 0 < r.diskA.length + r.diskB.length
    · have hm8 : (headL r ++ r.given.flatMap givenLine ++ r.leases.flatMap leaseLine ++ tablesL [] r.tabs ++ r.pods.flatMap podLine ++ r.flight.flatMap sentLine ++ viewL r.view ++ countsL r.counts).length + (lineL [[100, 105, 115, 107], bytesL r.diskA, bytesL r.diskB]).length ≤ 140737488355328 := by
        have := M8.out
        rw [show diskL r.diskA r.diskB = lineL [[100, 105, 115, 107], bytesL r.diskA, bytesL r.diskB] from if_neg (by omega)] at this
        exact this
      have HM := Lib.hid hm8
      clear hm8
      have hd2 : (0 : Int) < (r.diskA.length : Int) + r.diskB.length := by omega
      go_wp2
      refine disk_region HNb.out (by decide) r.diskA r.diskB aa ab ca cb rfl rfl (fun u hu => Bs.below RW.out.a hu) (fun u hu => Bs.below RW.out.b hu) OK.out.diskA OK.out.diskB HM.out _ HL.out ?_
      intro d144 d145 d146 d147 d148 d149 d150 d151 d152 d153 d154 wd hl
      have HLd := Lib.hid hl
      clear hl
      go_wp2_with fail
      refine (Tryz.Builder_String_any_k w.heap.size (w.heap.size + 1) _ _ HLd.out.bld HLd.out.size).mono ?_
      rintro e w9 ⟨rfl, _, hb9, _⟩
      go_wp2
      refine HQ.out _ _ rfl ?_ (HLd.out.fr.1.trans hb9)
      rw [replyL, show diskL r.diskA r.diskB = lineL [[100, 105, 115, 107], bytesL r.diskA, bytesL r.diskB] from if_neg (by omega)]
      simp only [List.append_assoc]
      rfl
    · have hd2 : ¬ (0 : Int) < (r.diskA.length : Int) + r.diskB.length := by omega
      go_wp2_with fail
      refine (Tryz.Builder_String_any_k w.heap.size (w.heap.size + 1) _ _ HL.out.bld HL.out.size).mono ?_
      rintro e w9 ⟨rfl, _, hb9, _⟩
      go_wp2
      refine HQ.out _ _ rfl ?_ (HL.out.fr.1.trans hb9)
      rw [replyL, show diskL r.diskA r.diskB = [] from if_pos (by omega), List.append_nil]
      simp only [List.append_assoc]
      rfl
  · have hz : r.counts.length ≤ 0 := by omega
    have hz3 : ¬ (0 : Int) < (r.counts.length : Int) := by omega
    have hl6 : Lp w w.heap.size (w.heap.size + 1) w.heap.size (replyCS r ag al ap af ac aa ab cg cl cp cf cc ca cb v1 v2 v3 v5 v6 u1 u2 u3) 54 (headL r ++ r.given.flatMap givenLine ++ r.leases.flatMap leaseLine ++ tablesL [] r.tabs ++ r.pods.flatMap podLine ++ r.flight.flatMap sentLine ++ viewL r.view ++ countsL r.counts) ws := by
      have e : countsL r.counts = [] := if_pos (List.length_eq_zero_iff.1 (by omega))
      rw [e, List.append_nil]
      exact HL.out
    have HLs := Lib.hid hl6
    clear hl6 HL
    have HL := HLs
    clear HLs
    have q34 : ws.cell? ⟨w.heap.size, 34, none⟩ = some (.slice aa r.diskA.length ca) := HL.out.cell rfl
    have q35 : ws.cell? ⟨w.heap.size, 35, none⟩ = some (.slice ab r.diskB.length cb) := HL.out.cell rfl
    have s1 : IntKind.i64.wrap ((r.diskA.length : Int) + r.diskB.length) = r.diskA.length + r.diskB.length := IntWalk.i64_in _ (by have := OK.out.diskA; have := OK.out.diskB; omega)
    by_cases hd : 0 < r.diskA.length + r.diskB.length
    · have hm8 : (headL r ++ r.given.flatMap givenLine ++ r.leases.flatMap leaseLine ++ tablesL [] r.tabs ++ r.pods.flatMap podLine ++ r.flight.flatMap sentLine ++ viewL r.view ++ countsL r.counts).length + (lineL [[100, 105, 115, 107], bytesL r.diskA, bytesL r.diskB]).length ≤ 140737488355328 := by
        have := M8.out
        rw [show diskL r.diskA r.diskB = lineL [[100, 105, 115, 107], bytesL r.diskA, bytesL r.diskB] from if_neg (by omega)] at this
        exact this
      have HM := Lib.hid hm8
      clear hm8
      have hd2 : (0 : Int) < (r.diskA.length : Int) + r.diskB.length := by omega
      go_wp2
      refine disk_region HNb.out (by decide) r.diskA r.diskB aa ab ca cb rfl rfl (fun u hu => Bs.below RW.out.a hu) (fun u hu => Bs.below RW.out.b hu) OK.out.diskA OK.out.diskB HM.out _ HL.out ?_
      intro d144 d145 d146 d147 d148 d149 d150 d151 d152 d153 d154 wd hl
      have HLd := Lib.hid hl
      clear hl
      go_wp2_with fail
      refine (Tryz.Builder_String_any_k w.heap.size (w.heap.size + 1) _ _ HLd.out.bld HLd.out.size).mono ?_
      rintro e w9 ⟨rfl, _, hb9, _⟩
      go_wp2
      refine HQ.out _ _ rfl ?_ (HLd.out.fr.1.trans hb9)
      rw [replyL, show diskL r.diskA r.diskB = lineL [[100, 105, 115, 107], bytesL r.diskA, bytesL r.diskB] from if_neg (by omega)]
      simp only [List.append_assoc]
      rfl
    · have hd2 : ¬ (0 : Int) < (r.diskA.length : Int) + r.diskB.length := by omega
      go_wp2_with fail
      refine (Tryz.Builder_String_any_k w.heap.size (w.heap.size + 1) _ _ HL.out.bld HL.out.size).mono ?_
      rintro e w9 ⟨rfl, _, hb9, _⟩
      go_wp2
      refine HQ.out _ _ rfl ?_ (HL.out.fr.1.trans hb9)
      rw [replyL, show diskL r.diskA r.diskB = [] from if_pos (by omega), List.append_nil]
      simp only [List.append_assoc]
      rfl

set_option maxRecDepth 1000000 in
set_option maxHeartbeats 8000000 in
theorem reply_tail1 (r : ReplyD) (ag al ap af ac aa ab : Option Addr) (cg cl cp cf cc ca cb : Nat) (v1 v2 v3 v5 v6 u1 u2 u3 : Value) (w : World) (hok : r.Ok w) (hat : r.At w.heap.size w (.slice ag r.given.length cg) (.slice al r.leases.length cl) v1 v2 v3 (.slice ap r.pods.length cp) (.slice af r.flight.length cf) v5 v6 u1 u2 u3 (.slice ac r.counts.length cc) (.slice aa r.diskA.length ca) (.slice ab r.diskB.length cb)) (hlen : (replyL r).length ≤ 140737488351232) {c0 c2 c5 c6 c7 c8 c9 c10 c11 c12 c13 c14 c15 c16 c17 c18 c19 c20 c21 c22 c23 c24 c25 c26 c27 c28 c29 c30 c31 c32 c33 c34 c35 c36 c37 c38 c39 c40 c41 c42 c43 c44 c45 c46 c47 c48 c49 c50 c51 c52 c53 c54 c55 c56 c57 c58 c59 c60 c61 c62 c63 c64 c65 c66 c67 c68 c69 c70 c71 c72 c73 c74 c75 c76 c77 c78 c79 c80 c81 c82 c83 c84 c85 c86 c87 c88 c89 c90 c91 c92 c93 c94 c95 c96 c97 c98 c99 c100 c101 c102 c103 c104 c105 c106 c107 c108 c109 c110 c111 c112 c113 c114 c115 c116 c117 c118 c119 c120 c121 c122 c123 c124 c125 c126 c127 c128 c129 c130 c131 c132 c133 c134 c135 c136 c137 c138 c139 c140 c141 c142 c143 c144 c145 c146 c147 c148 c149 c150 c151 c152 c153 c154 c155 : Value} {Q0 : Exit → Act → World → Prop} (ws : World) (hws : Lp w w.heap.size (w.heap.size + 1) w.heap.size (replyCS r ag al ap af ac aa ab cg cl cp cf cc ca cb v1 v2 v3 v5 v6 u1 u2 u3) 54 (headL r) ws)
    (hexit : ∀ (a : Act) (wx : World), a.defers = [] → a.tmps.getD 2 undef = .string ⟨(replyL r).toArray⟩ → Below w.heap.size w wx → Q0 .ret a wx) :
    Code.wp Tryz.prog (tailOf Tryz.f9 4) Q0 ⟨#[c0, .pointer (some ⟨w.heap.size, 0, none⟩), c2, .pointer (some ⟨w.heap.size + 1, 0, none⟩), (putV (w.heap.size + 1)), c5, c6, c7, c8, c9, c10, c11, c12, c13, c14, c15, c16, c17, c18, c19, c20, c21, c22, c23, c24, c25, c26, c27, c28, c29, c30, c31, c32, c33, c34, c35, c36, c37, c38, c39, c40, c41, c42, c43, c44, c45, c46, c47, c48, c49, c50, c51, c52, c53, c54, c55, c56, c57, c58, c59, c60, c61, c62, c63, c64, c65, c66, c67, c68, c69, c70, c71, c72, c73, c74, c75, c76, c77, c78, c79, c80, c81, c82, c83, c84, c85, c86, c87, c88, c89, c90, c91, c92, c93, c94, c95, c96, c97, c98, c99, c100, c101, c102, c103, c104, c105, c106, c107, c108, c109, c110, c111, c112, c113, c114, c115, c116, c117, c118, c119, c120, c121, c122, c123, c124, c125, c126, c127, c128, c129, c130, c131, c132, c133, c134, c135, c136, c137, c138, c139, c140, c141, c142, c143, c144, c145, c146, c147, c148, c149, c150, c151, c152, c153, c154, c155], []⟩ ws := by
  have HQ := Lib.hid hexit
  have HL := Lib.hid hws
  have HLen := Lib.hid hlen
  have RW := Lib.hid hat
  have OK := Lib.hid hok
  have OG := Lib.hid (fun x hx => (⟨(hok.given x hx).1, (hok.given x hx).2.1, (hok.given x hx).2.2.1, fun u hu => Bs.below (hok.given x hx).2.2.2.1 hu, (hok.given x hx).2.2.2.2⟩ : I64 x.host ∧ x.dst < 4294967296 ∧ x.name.size ≤ 140737488351232 ∧ (∀ u, Below w.heap.size w u → Bs u (.slice x.sa x.bytes.length x.sc) x.bytes) ∧ x.bytes.length ≤ 140737488351232))
  have OL := Lib.hid hok.leases
  have OP := Lib.hid hok.pods
  have OF := Lib.hid (fun x hx => (⟨(hok.flight x hx).1, fun u hu => Bs.below (hok.flight x hx).2.1 hu, (hok.flight x hx).2.2⟩ : x.dst < 4294967296 ∧ (∀ u, Below w.heap.size w u → Bs u (.slice x.sa x.bytes.length x.sc) x.bytes) ∧ x.bytes.length ≤ 140737488351232))
  obtain ⟨ag', cg', hvg, hcg, hmg, hrg⟩ := hat.g
  obtain ⟨rfl, -, rfl⟩ := Value.slice.inj hvg
  obtain ⟨al', cl', hvl, hcl, hml, hrl⟩ := hat.l
  obtain ⟨rfl, -, rfl⟩ := Value.slice.inj hvl
  obtain ⟨ap', cp', hvp, hcp, hmp, hrp⟩ := hat.p
  obtain ⟨rfl, -, rfl⟩ := Value.slice.inj hvp
  obtain ⟨af', cf', hvf, hcf, hmf, hrf⟩ := hat.f
  obtain ⟨rfl, -, rfl⟩ := Value.slice.inj hvf
  obtain ⟨ac', cc', hvc, hcc, hmc, hrc⟩ := hat.c
  obtain ⟨rfl, -, rfl⟩ := Value.slice.inj hvc
  have RG := Lib.hid hrg
  have RL := Lib.hid hrl
  have RP := Lib.hid hrp
  have RF := Lib.hid hrf
  have RC := Lib.hid hrc
  clear hrg hrl hrp hrf hrc hat hok hws hexit hvg hvl hvp hvf hvc
  rw [List.length_map] at hcg hmg hcl hml hcp hmp hcf hmf hcc hmc
  have hl1 := hlen
  unfold replyL at hl1
  simp only [List.length_append] at hl1
  have m1 : (headL r).length + (r.given.flatMap givenLine).length ≤ 140737488355328 := by omega
  have m2 : (headL r ++ r.given.flatMap givenLine).length + (r.leases.flatMap leaseLine).length ≤ 140737488355328 := by simp only [List.length_append]; omega
  have m3 : (headL r ++ r.given.flatMap givenLine ++ r.leases.flatMap leaseLine).length + (tablesL [] r.tabs).length ≤ 140737488355328 := by simp only [List.length_append]; omega
  have m4 : (headL r ++ r.given.flatMap givenLine ++ r.leases.flatMap leaseLine ++ tablesL [] r.tabs).length + (r.pods.flatMap podLine).length ≤ 140737488355328 := by simp only [List.length_append]; omega
  have m5 : (headL r ++ r.given.flatMap givenLine ++ r.leases.flatMap leaseLine ++ tablesL [] r.tabs ++ r.pods.flatMap podLine).length + (r.flight.flatMap sentLine).length ≤ 140737488355328 := by simp only [List.length_append]; omega
  have m6 : (headL r ++ r.given.flatMap givenLine ++ r.leases.flatMap leaseLine ++ tablesL [] r.tabs ++ r.pods.flatMap podLine ++ r.flight.flatMap sentLine).length + (viewL r.view).length ≤ 140737488355328 := by simp only [List.length_append]; omega
  have m7 : (headL r ++ r.given.flatMap givenLine ++ r.leases.flatMap leaseLine ++ tablesL [] r.tabs ++ r.pods.flatMap podLine ++ r.flight.flatMap sentLine ++ viewL r.view).length + (countsL r.counts).length ≤ 140737488355328 := by simp only [List.length_append]; omega
  have m8 : (headL r ++ r.given.flatMap givenLine ++ r.leases.flatMap leaseLine ++ tablesL [] r.tabs ++ r.pods.flatMap podLine ++ r.flight.flatMap sentLine ++ viewL r.view ++ countsL r.counts).length + (diskL r.diskA r.diskB).length ≤ 140737488355328 := by simp only [List.length_append]; omega
  have M1 := Lib.hid m1
  have M2 := Lib.hid m2
  have M3 := Lib.hid m3
  have M4 := Lib.hid m4
  have M5 := Lib.hid m5
  have M6 := Lib.hid m6
  have M7 := Lib.hid m7
  have M8 := Lib.hid m8
  clear m1 m2 m3 m4 m5 m6 m7 m8 hl1 hlen
  have hNb : w.heap.size ≠ w.heap.size + 1 := by omega
  have HNb := Lib.hid hNb
  have HLb := HNb
  clear hNb

  conv => arg 2; whnf
  conv => arg 4; dsimp only
  have q5 : ws.cell? ⟨w.heap.size, 5, none⟩ = some (.slice ag r.given.length cg) := HL.out.cell rfl
  go_wp2
  refine given_loop r.given ag cg HNb.out (by decide) hcg hmg RG.out OG.out M1.out _ HL.out ?_
  intro d6 d38 d39 d40 d41 d42 d43 d44 d45 d46 d47 d48 d49 d50 d51 d52 d53 d54 d55 d56 d57 wa hl
  have HLn := Lib.hid hl
  clear hl HL
  have HL := HLn
  clear HLn
  clear q5
  have q6 : wa.cell? ⟨w.heap.size, 6, none⟩ = some (.slice al r.leases.length cl) := HL.out.cell rfl
  go_wp2
  refine lease_loop r.leases al cl HNb.out (by decide) hcl hml RL.out OL.out M2.out _ HL.out ?_
  intro d8 d61 d62 d63 d64 d65 d66 d67 d68 d69 d70 wb hl
  have HLn := Lib.hid hl
  clear hl HL
  have HL := HLn
  clear HLn
  clear q6
  have q7 : wb.cell? ⟨w.heap.size, 7, none⟩ = some (v1) := HL.out.cell rfl
  have q8 : wb.cell? ⟨w.heap.size, 8, none⟩ = some (v2) := HL.out.cell rfl
  have q9 : wb.cell? ⟨w.heap.size, 9, none⟩ = some (v3) := HL.out.cell rfl
  have HH := Lib.hid (tables_any w.heap.size (w.heap.size + 1) (headL r ++ r.given.flatMap givenLine ++ r.leases.flatMap leaseLine) ⟨#[]⟩ r.tabs v1 v2 v3 wb HL.out.env HL.out.size HL.out.bld OK.out.routes OK.out.neighs OK.out.fdbs (RW.out.h1.below HL.out.fr.1) (RW.out.h2.below HL.out.fr.1) (RW.out.h3.below HL.out.fr.1) (by decide) M3.out)
  go_wp2_with fail
  refine HH.out.mono ?_
  rintro e wc ⟨rfl, hb1, hf1⟩
  have HLn := Lib.hid (HL.out.put HNb.out (by decide) hf1 hb1)
  clear hb1 hf1 HL HH q7 q8 q9
  have HL := HLn
  clear HLn
  have q10 : wc.cell? ⟨w.heap.size, 10, none⟩ = some (.slice ap r.pods.length cp) := HL.out.cell rfl
  go_wp2
  refine pod_loop r.pods ap cp HNb.out (by decide) hcp hmp RP.out OP.out M4.out _ HL.out ?_
  intro d10 d78 d79 d80 d81 d82 d83 d84 d85 d86 d87 d88 d89 d90 d91 wd hl
  have HLn := Lib.hid hl
  clear hl HL
  have HL := HLn
  clear HLn
  clear q10
  have q11 : wd.cell? ⟨w.heap.size, 11, none⟩ = some (.slice af r.flight.length cf) := HL.out.cell rfl
  go_wp2
  refine sent_loop r.flight af cf HNb.out (by decide) hcf hmf RF.out OF.out M5.out _ HL.out ?_
  intro d12 d95 d96 d97 d98 d99 d100 d101 d102 d103 d104 d105 d106 d107 d108 we hl
  have HLn := Lib.hid hl
  clear hl HL
  have HL := HLn
  clear HLn
  clear q11
  have hinf : (Tryz.prog.info? 49).map (·.size) = some ([.bool r.view.has, .int .i64 r.view.lease.host, .int .u32 r.view.lease.a, .int .i64 r.view.lease.n, .int .u32 r.view.lease.pub, .int .u8 r.view.lease.mac.b.toNat, .int .u8 r.view.lease.mac.c.toNat, .int .u8 r.view.lease.mac.d.toNat, .int .u8 r.view.lease.mac.e.toNat, .int .u8 r.view.lease.mac.f.toNat, .int .u8 r.view.lease.mac.g.toNat, .int .i64 r.view.lease.till, .int .i64 r.view.lease.rev, .int .i64 r.view.cursor, .bool r.view.synced, .bool r.view.degraded, v5, v6, u1, u2, u3] : List Value).length := viewInfo
  have HINF := Lib.hid hinf
  have hrg : we.rangeAt w.heap.size 12 [.bool r.view.has, .int .i64 r.view.lease.host, .int .u32 r.view.lease.a, .int .i64 r.view.lease.n, .int .u32 r.view.lease.pub, .int .u8 r.view.lease.mac.b.toNat, .int .u8 r.view.lease.mac.c.toNat, .int .u8 r.view.lease.mac.d.toNat, .int .u8 r.view.lease.mac.e.toNat, .int .u8 r.view.lease.mac.f.toNat, .int .u8 r.view.lease.mac.g.toNat, .int .i64 r.view.lease.till, .int .i64 r.view.lease.rev, .int .i64 r.view.cursor, .bool r.view.synced, .bool r.view.degraded, v5, v6, u1, u2, u3] := by
    intro j v hv
    refine HL.out.cell ?_
    rw [show [.bool r.view.has, .int .i64 r.view.lease.host, .int .u32 r.view.lease.a, .int .i64 r.view.lease.n, .int .u32 r.view.lease.pub, .int .u8 r.view.lease.mac.b.toNat, .int .u8 r.view.lease.mac.c.toNat, .int .u8 r.view.lease.mac.d.toNat, .int .u8 r.view.lease.mac.e.toNat, .int .u8 r.view.lease.mac.f.toNat, .int .u8 r.view.lease.mac.g.toNat, .int .i64 r.view.lease.till, .int .i64 r.view.lease.rev, .int .i64 r.view.cursor, .bool r.view.synced, .bool r.view.degraded, v5, v6, u1, u2, u3] = ((replyCS r ag al ap af ac aa ab cg cl cp cf cc ca cb v1 v2 v3 v5 v6 u1 u2 u3).toList.drop 12).take 21 from rfl, List.getElem?_take] at hv
    split at hv
    · rw [List.getElem?_drop] at hv
      rw [← hv, Array.getElem?_toList]
    · cases hv
  have HRG := Lib.hid hrg
  clear hinf hrg
  have HH := Lib.hid (view_D w.heap.size (w.heap.size + 1) (headL r ++ r.given.flatMap givenLine ++ r.leases.flatMap leaseLine ++ tablesL [] r.tabs ++ r.pods.flatMap podLine ++ r.flight.flatMap sentLine) r.view v5 v6 u1 u2 u3 we HL.out.env HL.out.size HL.out.bld OK.out.vlease OK.out.vcur OK.out.vleases OK.out.vskip OK.out.vroutes OK.out.vneighs OK.out.vfdbs (RW.out.h5.below HL.out.fr.1) (RW.out.h6.below HL.out.fr.1) (RW.out.k1.below HL.out.fr.1) (RW.out.k2.below HL.out.fr.1) (RW.out.k3.below HL.out.fr.1) M6.out)
  go_wp2_with (refine wpList_load_mid rfl 49 (.tmp 109) rfl w.heap.size 12 rfl [.bool r.view.has, .int .i64 r.view.lease.host, .int .u32 r.view.lease.a, .int .i64 r.view.lease.n, .int .u32 r.view.lease.pub, .int .u8 r.view.lease.mac.b.toNat, .int .u8 r.view.lease.mac.c.toNat, .int .u8 r.view.lease.mac.d.toNat, .int .u8 r.view.lease.mac.e.toNat, .int .u8 r.view.lease.mac.f.toNat, .int .u8 r.view.lease.mac.g.toNat, .int .i64 r.view.lease.till, .int .i64 r.view.lease.rev, .int .i64 r.view.cursor, .bool r.view.synced, .bool r.view.degraded, v5, v6, u1, u2, u3] _ HRG.out Tryz.underlying49 rfl HINF.out ?_)
  refine HH.out.mono ?_
  rintro e wf ⟨rfl, hb1, hf1⟩
  have HLn := Lib.hid (HL.out.put HNb.out (by decide) hf1 hb1)
  clear hb1 hf1 HL HH HRG HINF
  have HL := HLn
  clear HLn
  simp only []
  apply_assumption
  unfold wpList
  simp only [Exit.then]
  apply_assumption
  refine reply_tail2 r ag al ap af ac aa ab cg cl cp cf cc ca cb v1 v2 v3 v5 v6 u1 u2 u3 w OK.out RW.out HLen.out wf HL.out HQ.out

set_option maxRecDepth 1000000 in
set_option maxHeartbeats 8000000 in
theorem reply_any (r : ReplyD) (vg vl v1 v2 v3 vp vf v5 v6 u1 u2 u3 vc va vb : Value) (w : World) (hE : Env w) (hok : r.Ok w) (hat : r.At w.heap.size w vg vl v1 v2 v3 vp vf v5 v6 u1 u2 u3 vc va vb) (hlen : (replyL r).length ≤ 140737488351232) :
    Calls Tryz.prog 9 #[.agg #[.int .i64 r.err, .int .i64 r.n, .int .i64 r.verdict, .int .i64 r.why, .int .i64 r.req, vg, vl, v1, v2, v3, vp, vf, .bool r.view.has, .int .i64 r.view.lease.host, .int .u32 r.view.lease.a, .int .i64 r.view.lease.n, .int .u32 r.view.lease.pub, .int .u8 r.view.lease.mac.b.toNat, .int .u8 r.view.lease.mac.c.toNat, .int .u8 r.view.lease.mac.d.toNat, .int .u8 r.view.lease.mac.e.toNat, .int .u8 r.view.lease.mac.f.toNat, .int .u8 r.view.lease.mac.g.toNat, .int .i64 r.view.lease.till, .int .i64 r.view.lease.rev, .int .i64 r.view.cursor, .bool r.view.synced, .bool r.view.degraded, v5, v6, u1, u2, u3, vc, va, vb]] w fun e w' => e = .returned (.string ⟨(replyL r).toArray⟩) ∧ Below w.heap.size w w' := by
  obtain ⟨ag, cg, rfl, -, -, -⟩ := hat.g
  obtain ⟨al, cl, rfl, -, -, -⟩ := hat.l
  obtain ⟨ap, cp, rfl, -, -, -⟩ := hat.p
  obtain ⟨af, cf, rfl, -, -, -⟩ := hat.f
  obtain ⟨ac, cc, rfl, -, -, -⟩ := hat.c
  obtain ⟨aa, ca, rfl, -, -⟩ := hat.a
  obtain ⟨ab, cb, rfl, -, -⟩ := hat.b
  have hlr := hlen
  unfold replyL at hlr
  simp only [List.length_append] at hlr
  have M0 := Lib.hid (show ([] : List UInt8).length + (headL r).length ≤ 140737488355328 by simp only [List.length_nil]; omega)
  clear hlr
  have HLen := Lib.hid hlen
  have RW := Lib.hid hat
  have OK := Lib.hid hok
  clear hlen hat hok
  have hNb : w.heap.size ≠ w.heap.size + 1 := by omega
  have HNb := Lib.hid hNb
  clear hNb
  have L0 : Lp w w.heap.size (w.heap.size + 1) w.heap.size (replyCS r ag al ap af ac aa ab cg cl cp cf cc ca cb v1 v2 v3 v5 v6 u1 u2 u3) 54 [] ((w.alloc (.cells (replyCS r ag al ap af ac aa ab cg cl cp cf cc ca cb v1 v2 v3 v5 v6 u1 u2 u3) 54)).alloc (.cells #[.pointer none, .slice none 0 0] 67)) := by
    have hb0 : Below w.heap.size w ((w.alloc (.cells (replyCS r ag al ap af ac aa ab cg cl cp cf cc ca cb v1 v2 v3 v5 v6 u1 u2 u3) 54)).alloc (.cells #[.pointer none, .slice none 0 0] 67)) := ((Below.refl _ _).alloc (Nat.le_refl _) _).alloc (by simp) _
    exact ⟨⟨w, hE, Nat.le_refl _, hb0⟩, (Fr.refl _ _ _).grew (Nat.le_refl _) hb0, hb0.size, by rw [Lib.alloc_old _ _ _ (by simp)]; exact heap_alloc_new w _, bld_new w _⟩
  have HL0 := Lib.hid L0
  clear L0 hE
  simp only [List.length_map] at RW ⊢
  go_enter Tryz.func9, Tryz.ntmps9
  go_wp2
  refine head_region HNb.out (by decide) r.err r.n r.verdict r.why r.req OK.out.err rfl OK.out.n rfl OK.out.verdict rfl OK.out.why rfl OK.out.req rfl M0.out _ HL0.out ?_
  intro d17 d18 d19 d20 d21 d22 d23 d24 d25 d26 d27 d28 d29 d30 d31 d32 d33 d34 w1 hl
  simp only [Exit.then]
  apply_assumption
  refine reply_tail1 r ag al ap af ac aa ab cg cl cp cf cc ca cb v1 v2 v3 v5 v6 u1 u2 u3 w OK.out RW.out HLen.out w1 hl ?_
  intro a wx hd h2 hb
  exact ⟨hd, _, results_tmp rfl _ _ _, congrArg Ending.returned h2, hb⟩
end Go.Proofs.YtmnkdnpjcfmjgaaGreatDoor
