/- ShellApart's card, second form: where the two replies are of bulk at most the rows' number, FormatReply tells two replies apart just if they differ. -/
import Derived.Test.YtmnkdnpjcfmjgaaGreatDoorBack
import Derived.Test.YtmnkdnpjcfmjgaaGreatDoorApartSmall
import Derived.Test.YtmnkdnpjcfmjgaaGreatDoorApartWalk
namespace Go.Proofs.YtmnkdnpjcfmjgaaGreatDoor
open Go.ChangeShapes Go.WideShapes Go.ChangeAt Go.RowKit
open Go.ChangeMaps (open_string)

section
variable {H : Type} {enc : TypeId × Value → H} {w : World} {base : Nat} {sp : Nat → Bool} {held : Bool}
set_option maxRecDepth 100000 in
/-- a reply that came in -/
theorem reply_open {b0 : Nat} {v : Value} {d : DataW H} {p : List MemPlace} (hv : Value.okWide Tryz.prog w .any b0 54 v) (h : DataW.Trod enc Tryz.prog w base sp held 54 v d p) (hB : Rows.uptoBulk d ≤ 1048576) :
    ∃ (r : ReplyD) (xg xl x1 x2 x3 xp xf xv5 xv6 xv1 xv2 xv3 xc xa xb : Value), v = .agg #[.int .i64 r.err, .int .i64 r.n, .int .i64 r.verdict, .int .i64 r.why, .int .i64 r.req, xg, xl, x1, x2, x3, xp, xf, .bool r.view.has, .int .i64 r.view.lease.host, .int .u32 r.view.lease.a, .int .i64 r.view.lease.n, .int .u32 r.view.lease.pub, .int .u8 r.view.lease.mac.b.toNat, .int .u8 r.view.lease.mac.c.toNat, .int .u8 r.view.lease.mac.d.toNat, .int .u8 r.view.lease.mac.e.toNat, .int .u8 r.view.lease.mac.f.toNat, .int .u8 r.view.lease.mac.g.toNat, .int .i64 r.view.lease.till, .int .i64 r.view.lease.rev, .int .i64 r.view.cursor, .bool r.view.synced, .bool r.view.degraded, xv5, xv6, xv1, xv2, xv3, xc, xa, xb] ∧ r.Ok w ∧ r.At w.heap.size w xg xl x1 x2 x3 xp xf xv5 xv6 xv1 xv2 xv3 xc xa xb ∧ (replyL r).length ≤ 140737488351232 := by
  obtain ⟨cs, rfl, hsz2⟩ := okWide_struct Tryz.underlying54 hv
  obtain ⟨l⟩ := cs
  obtain ⟨fuel, hf⟩ := h
  obtain ⟨r, xg, xl, x1, x2, x3, xp, xf, xv5, xv6, xv1, xv2, xv3, xc, xa, xb, hc, hok, hat, hs⟩ := reply_trod (x := (d, p)) (by simpa [Value.cells] using hf) hB
  exact ⟨r, xg, xl, x1, x2, x3, xp, xf, xv5, xv6, xv1, xv2, xv3, xc, xa, xb, by rw [hc], hok, hat, reply_small r hok hs⟩
end

namespace Apart
abbrev zero : Value := .agg #[.int .i64 0, .int .i64 0, .int .i64 0, .int .i64 0, .int .i64 0, .slice none 0 0, .slice none 0 0, .slice none 0 0, .slice none 0 0, .slice none 0 0, .slice none 0 0, .slice none 0 0, .bool false, .int .i64 0, .int .u32 0, .int .i64 0, .int .u32 0, .int .u8 0, .int .u8 0, .int .u8 0, .int .u8 0, .int .u8 0, .int .u8 0, .int .i64 0, .int .i64 0, .int .i64 0, .bool false, .bool false, .slice none 0 0, .slice none 0 0, .slice none 0 0, .slice none 0 0, .slice none 0 0, .slice none 0 0, .slice none 0 0, .slice none 0 0]
abbrev zeros : Array Value := #[zero, zero]
abbrev zeroD {H : Type} : DataW H := .agg [.lit (.int .i64 0), .lit (.int .i64 0), .lit (.int .i64 0), .lit (.int .i64 0), .lit (.int .i64 0), .nil, .nil, .agg [.nil, .nil, .nil], .nil, .nil, .agg [.lit (.bool false), .agg [.lit (.int .i64 0), .agg [.lit (.int .u32 0), .lit (.int .i64 0)], .lit (.int .u32 0), .agg [.lit (.int .u8 0), .lit (.int .u8 0), .lit (.int .u8 0), .lit (.int .u8 0), .lit (.int .u8 0), .lit (.int .u8 0)], .lit (.int .i64 0), .lit (.int .i64 0)], .lit (.int .i64 0), .lit (.bool false), .lit (.bool false), .nil, .nil, .agg [.nil, .nil, .nil]], .nil, .agg [.nil, .nil]]
theorem shaped (os : Os) : ((laidWorld os).forCall (fun _ _ => 0) ⟨#[], zeros, []⟩).Shaped Tryz.prog := World.shaped_of_ZipB (by kernel_rfl) (by kernel_rfl)
theorem reads (os : Os) {H : Type} (enc : TypeId × Value → H) : ∃ places, DataW.whole enc Tryz.prog ((laidWorld os).forCall (fun _ _ => 0) ⟨#[], zeros, []⟩).memory Tryz.f4.params.toList Rows.shellApartSpec.vars false zeros.toList 8 = some ([zeroD, zeroD], [], places) :=
  ⟨[], by kernel_rfl⟩

set_option maxRecDepth 100000 in
theorem lifted (os : Os) (started : os.Started) (H : Type) (enc : TypeId × Value → H) (F : Stop.Interp) :
    ReturnsInHanded {} Tryz.checked os 4 .any ((Rows.OpenSpec.upto Rows.shellApartSpec).preRow enc Tryz.prog Tryz.f4 Rows.shellApartUptoRow.domain false Rows.shellApartUptoRow.laid) (((Rows.OpenSpec.upto Rows.shellApartSpec).at F).post enc Tryz.prog Tryz.f4 false true false false) := by
  obtain ⟨places, hx⟩ := reads os enc
  refine returnsInHanded_of_row (C := Tryz.checked) (s := Rows.OpenSpec.upto Rows.shellApartSpec) own started (by kernel_rfl) Tryz.func4
    (witness_row_shaped (enc := enc) (C := Tryz.checked) false (laidWorld os) zeros (World.laidAll_os _ _ _) (shaped os) (by kernel_rfl)
      (OpenSpec.preRow_of_cond 8 hx (by kernel_rfl) (fun k hk => by cases hk; kernel_rfl) (by kernel_rfl) (laid_met os zeros))) ?_
  intro W base args ds gs before hval0 hW _ hcond _ hL hsh _
  have hval : ∀ (j : Nat) t v, Tryz.f4.params[j]? = some t → args[j]? = some v → Value.okWide Tryz.prog W .any base t v := hval0
  have hW' := hW
  obtain ⟨p, q, hA0, hV, rfl, hfz, hnd⟩ := hW
  have hA : DataW.TrodAll enc Tryz.prog W 0 (fun _ => true) true Tryz.f4.params.toList args.toList ds p := hA0
  rw [Tryz.params4] at hA hval
  obtain ⟨v0, vs0, d0, ds0, p0, q0, hargs, rfl, rfl, h0, r0⟩ := trodAll_cons hA
  obtain ⟨v1, vs1, d1, ds1, p1, q1, rfl, rfl, rfl, h1, r1⟩ := trodAll_cons r0
  obtain ⟨rfl, rfl, rfl⟩ := trodAll_nil r1
  obtain rfl : args = #[v0, v1] := by cases args; simp_all
  obtain ⟨rfl, rfl⟩ := trodVars_none hV
  have hk := of_decide_eq_true (hcond _ rfl)
  simp only [Rows.uptoBulkAll, List.append_nil, List.nil_append, List.cons_append] at hk
  have k0 := h0
  have lt0 : ∀ x ∈ p0, x.block < W.heap.size := by obtain ⟨m, hm⟩ := k0; exact DataW.trod_lt m _ _ _ hm
  have k1 := h1
  have lt1 : ∀ x ∈ p1, x.block < W.heap.size := by obtain ⟨m, hm⟩ := k1; exact DataW.trod_lt m _ _ _ hm
  obtain ⟨a, xg, xl, x1, x2, x3, xp, xf, xv5, xv6, xv1, xv2, xv3, xc, xa, xb, rfl, hoa, haa, hla⟩ := reply_open (hval 0 54 v0 rfl rfl) h0 (by omega)
  obtain ⟨b, yg, yl, y1, y2, y3, yp, yf, yv5, yv6, yv1, yv2, yv3, yc, ya, yb, rfl, hob, hab, hlb⟩ := reply_open (hval 1 54 v1 rfl rfl) h1 (by omega)
  clear hA0 hval0
  refine (shellApart_any a b xg xl x1 x2 x3 xp xf xv5 xv6 xv1 xv2 xv3 xc xa xb yg yl y1 y2 y3 yp yf yv5 yv6 yv1 yv2 yv3 yc ya yb W (env_of hL hsh) hoa hob haa hab hla hlb).mono fun e W' ⟨he, bel⟩ => ?_
  subst he
  exact ⟨_, rfl, _, _, _, [], _, [], hW', trodAll_mk1 (shut_bool Tryz.underlying4 _), (trodAll_cons_mk (Below.trod laidOut (by kernel_rfl) (of_decide_eq_true (by kernel_rfl)) k0 bel lt0) (trodAll_cons_mk (Below.trod laidOut (by kernel_rfl) (of_decide_eq_true (by kernel_rfl)) k1 bel lt1) trodAll_mk0)), rfl, bel.frame _, fun h => by cases h⟩

theorem said : Rows.ShellApartUptoSaid :=
  OpenClaim.holds_of_cond 4 Tryz.f4 rfl rfl rfl rfl rfl rfl rfl ⟨rfl, rfl, rfl, rfl, rfl⟩ rfl rfl rfl rfl rfl (by kernel_rfl) Tryz.func4 (by kernel_rfl)
    (of_decide_eq_true (by kernel_rfl)) (by unfold Func.isWrapper; first | (rw [if_pos (by decide +kernel)]; kernel_rfl) | (rw [if_neg (by decide +kernel)]; exact ⟨rfl, rfl⟩))
    (fun os started H enc _ F => by rw [OpenClaim.pre_eq_preRow]; exact lifted os started H enc F)

/-- No parameter wants a stand-in; the program's own looks are as the card says. -/
theorem plain (f : FuncId) (fn : Func) (hf : Tryz.pinned.checked.prog.funcNamed "weft/weftlaw20.ShellApart" = some f) (hfn : Tryz.pinned.checked.prog.funcs[f]? = some fn) :
    true = Tryz.pinned.checked.prog.looks [] ∧ ∀ (j : Nat) t, fn.params[j]? = some t → Tryz.pinned.checked.prog.wantsStandIn t = false := by
  obtain rfl : f = 4 := Option.some.inj ((show Tryz.prog.funcNamed "weft/weftlaw20.ShellApart" = some 4 by kernel_rfl).symm.trans hf) |>.symm
  obtain rfl : fn = Tryz.f4 := (Option.some.inj (Tryz.func4.symm.trans hfn)).symm
  refine ⟨by kernel_rfl, fun j t ht => ?_⟩
  rw [Tryz.params4] at ht
  have hm : t ∈ [54, 54] := by simpa using Array.mem_of_getElem? ht
  have hall : ([54, 54].all fun u => !Tryz.prog.wantsStandIn u) = true := by kernel_rfl
  exact (show Tryz.prog.wantsStandIn t = false by simpa using List.all_eq_true.1 hall t hm)
end Apart

/-- ████ THE CARD ████ -/
theorem shellApartUpto_card : Rows.ShellApartUptoCardSaid :=
  Claim7.holds_tied_plain_at .later [] _ _ _ _ Apart.said (fun _ h => by cases h) (by kernel_rfl) (fun _ h => by cases h) shellApartUpto_row_tie rfl ⟨rfl, rfl⟩ (by kernel_rfl) rfl Apart.plain (by kernel_rfl)
#print axioms shellApartUpto_card
end Go.Proofs.YtmnkdnpjcfmjgaaGreatDoor
