/- Texts L32a, Law. -/
import Derived.Test.YtfmoghkffffmmaaJ27
import Derived.Test.YtfmoghkffffmmaaJ28
import Derived.Test.YtfmoghkffffmmaaJ29
import Derived.Test.YtfmoghkffffmmaaJ00
import Derived.ProofKit
import Derived.Lib.SmallJoins
namespace Go.Proofs.Ytfmoghkffffmmaa
open Go.RowKit

attribute [local irreducible] wpQuiet wpG wpP wpK wpList Code.wp Calls

/-- What tame says of a case. -/
def tameB (F : Fnt) (n : Nat) (num den : Bx (n + 1)) : Bool := fewB F && (decide (bCount (n + 1) num ≤ 200) && decide (bCount (n + 1) den ≤ 200))
theorem tame_out {F : Fnt} {n : Nat} {num den : Bx (n + 1)} (h : tameB F n num den = true) : (F.gs.length ≤ 500 ∧ F.ss.length ≤ 50) ∧ bCount (n + 1) num ≤ 1000000 ∧ bCount (n + 1) den ≤ 1000000 := by
  simp only [tameB, Bool.and_eq_true, decide_eq_true_eq] at h
  have h1 := fewB_iff.1 h.1
  exact ⟨⟨h1.1, h1.2.1⟩, by omega, by omega⟩

set_option maxHeartbeats 8000000 in
set_option maxRecDepth 100000 in
theorem fractionMakes_wild (F : Fnt) (l : Int) (c : Bool) (n : Nat) (num den : Bx (n + 1)) (cs ds : List Value) (w : World) (hF : FntOk w F) (hr : Rep w (n + 1) num cs) (hs : Rep w (n + 1) den ds) (ht : tameB F n num den = false) :
    Calls Try.prog 3 #[.agg (caseL F l c cs ds).toArray] w (Gives (.bool true) w) := by
  have HT := Lib.hid (fun w' (h : Below w.heap.size w w') => tame32_calls F l c n num den cs ds w' (hF.below h) (hr.step h) (hs.step h) false ht.symm)
  have h11 := hr.len
  have h12 := hs.len
  obtain ⟨c0, c1, c2, c3, c4, c5, c6, c7, c8, c9, c10, rfl⟩ := eleven h11
  obtain ⟨d0, d1, d2, d3, d4, d5, d6, d7, d8, d9, d10, rfl⟩ := eleven h12
  clear hF hr hs h11 h12 ht
  go_enter Try.func3, Try.ntmps3
  have hS := own_start w
  go_wp2_with (first | (refine own_unguard (by rfl) ?_) | (refine own_box rfl _ _ rfl rfl hS ?_; clear hS; intro kb w0 hS0; have hB0 := hS0.below; have hrC := has_range (hS0.get at0); have hrF : w0.rangeAt kb 0 F.cells := fun j v hj => hrC j v (case_f (F := F) (l := l) (c := c) (cs := [c0, c1, c2, c3, c4, c5, c6, c7, c8, c9, c10]) (ds := [d0, d1, d2, d3, d4, d5, d6, d7, d8, d9, d10]) hj); have hrS : w0.rangeAt kb 22 [.int .i64 l, .bool c] := fun j v hj => (case_off hrC (case_s (F := F) (l := l) (c := c) (cs := [c0, c1, c2, c3, c4, c5, c6, c7, c8, c9, c10]) (ds := [d0, d1, d2, d3, d4, d5, d6, d7, d8, d9, d10]) hj)); have hrN : w0.rangeAt kb 24 [c0, c1, c2, c3, c4, c5, c6, c7, c8, c9, c10] := fun j v hj => (case_off hrC (case_n (F := F) (l := l) (c := c) (ds := [d0, d1, d2, d3, d4, d5, d6, d7, d8, d9, d10]) hj)); have hrD : w0.rangeAt kb 35 [d0, d1, d2, d3, d4, d5, d6, d7, d8, d9, d10] := fun j v hj => (case_off hrC (case_d (F := F) (l := l) (c := c) hj)); have hS := own_start w0; clear hS0) | (refine own_load_old rfl _ _ rfl rfl hS hrC List.not_mem_nil rt_case ?_) | (refine own_load_old rfl _ _ rfl rfl hS hrF List.not_mem_nil rt_font ?_) | (refine own_load_old rfl _ _ rfl rfl hS hrS List.not_mem_nil rt_style ?_) | (refine own_load_old rfl _ _ rfl rfl hS hrN List.not_mem_nil rt_box ?_) | (refine own_load_old rfl _ _ rfl rfl hS hrD List.not_mem_nil rt_box ?_) | (go_at_call 9; refine own_calls hS (awake32_calls _) ?_; clear hS; (try clear ww); intro ww hS) | (go_at_call 10; refine own_calls hS (HT.out _ (bthen hB0 hS.below)) ?_; clear hS; (try clear ww); intro ww hS) | (refine own_load1 rfl _ _ rfl rfl hS (atl (by repeat constructor)) (by first | exact ot_int | exact ot_bool | exact ot_boxs | exact ot_ints) (by first | rfl | assumption) ?_) | (refine own_load rfl _ _ rfl rfl hS (atl (by repeat constructor)) (by first | exact rt_font | exact rt_style | exact rt_box) ?_) | (refine own_load_old rfl _ _ rfl rfl hS (by assumption) (by first | exact List.not_mem_nil | assumption) (by first | exact rt_font | exact rt_style | exact rt_box) ?_) | (refine own_load_has rfl _ _ rfl rfl hS (by assumption) (by first | exact List.not_mem_nil | assumption) (by first | exact rt_font | exact rt_style | exact rt_box) ?_) | (refine own_load1_old rfl _ _ rfl rfl hS (by assumption) (by first | exact List.not_mem_nil | assumption) (by first | exact ot_int | exact ot_bool | exact ot_boxs | exact ot_ints) ?_) | (refine own_load1_has rfl _ _ rfl rfl hS (by assumption) (by first | exact List.not_mem_nil | assumption) (by first | exact ot_int | exact ot_bool | exact ot_boxs | exact ot_ints) (by first | rfl | assumption) ?_) | (refine own_box rfl _ _ rfl rfl hS ?_; clear hS; (try clear ww); intro bb ww hS) | (refine own_alloc rfl _ rfl hS (by first | exact zt_box) ?_; clear hS; (try clear ww); intro bb ww hS) | (refine own_store rfl _ _ _ rfl rfl rfl hS (atl (by repeat constructor)) (by first | exact rt_font | exact rt_style | exact rt_box) (by rfl) (by rfl) ?_; clear hS; (try clear ww); intro ww hS; (try simp only at hS); (try simp only [List.set_cons_succ] at hS); (try simp only [List.set_cons_zero] at hS)) | (refine own_store1 rfl _ _ _ rfl rfl rfl rfl hS (atl (by repeat constructor)) (by first | exact ot_int | exact ot_bool | exact ot_boxs | exact ot_ints) (by simp) ?_; clear hS; (try clear ww); intro ww hS; (try simp only at hS); (try simp only [List.set_cons_succ] at hS); (try simp only [List.set_cons_zero] at hS); (try simp only [Act.eval] at hS); (try simp only [Array.getD_eq_getD_getElem?] at hS); (try simp only [List.getElem?_toArray] at hS); (try simp only [List.getElem?_cons_succ] at hS); (try simp only [List.getElem?_cons_zero] at hS); (try simp only [Option.getD_some] at hS)))
  go_ret
  exact ⟨rfl, bthen hB0 hS.below⟩

set_option maxHeartbeats 8000000 in
set_option maxRecDepth 100000 in
theorem fractionMakes_tame (F : Fnt) (l : Int) (c : Bool) (n : Nat) (num den : Bx (n + 1)) (cs ds : List Value) (w : World) (hF : FntOk w F) (hr : Rep w (n + 1) num cs) (hs : Rep w (n + 1) den ds) (ht : tameB F n num den = true) :
    Calls Try.prog 3 #[.agg (caseL F l c cs ds).toArray] w (Gives (.bool true) w) := by
  have HT := Lib.hid (fun w' (h : Below w.heap.size w w') => tame32_calls F l c n num den cs ds w' (hF.below h) (hr.step h) (hs.step h) true ht.symm)
  obtain ⟨hq, b1, b2⟩ := tame_out ht
  obtain ⟨R, e, hsm, h1, h2, _⟩ := frac_both F l c n num den cs ds w hF hq hr hs b1 b2
  have HM1 := Lib.hid h1
  have HM2 := Lib.hid h2
  have HSm := Lib.hid hsm
  have h11 := hr.len
  have h12 := hs.len
  obtain ⟨c0, c1, c2, c3, c4, c5, c6, c7, c8, c9, c10, rfl⟩ := eleven h11
  obtain ⟨d0, d1, d2, d3, d4, d5, d6, d7, d8, d9, d10, rfl⟩ := eleven h12
  clear hF hr hs h11 h12 ht hq b1 b2 h1 h2 hsm
  go_enter Try.func3, Try.ntmps3
  have hS := own_start w
  go_wp2_with (first | (refine own_unguard (by rfl) ?_) | (refine own_box rfl _ _ rfl rfl hS ?_; clear hS; intro kb w0 hS0; have hB0 := hS0.below; have hrC := has_range (hS0.get at0); have hrF : w0.rangeAt kb 0 F.cells := fun j v hj => hrC j v (case_f (F := F) (l := l) (c := c) (cs := [c0, c1, c2, c3, c4, c5, c6, c7, c8, c9, c10]) (ds := [d0, d1, d2, d3, d4, d5, d6, d7, d8, d9, d10]) hj); have hrS : w0.rangeAt kb 22 [.int .i64 l, .bool c] := fun j v hj => (case_off hrC (case_s (F := F) (l := l) (c := c) (cs := [c0, c1, c2, c3, c4, c5, c6, c7, c8, c9, c10]) (ds := [d0, d1, d2, d3, d4, d5, d6, d7, d8, d9, d10]) hj)); have hrN : w0.rangeAt kb 24 [c0, c1, c2, c3, c4, c5, c6, c7, c8, c9, c10] := fun j v hj => (case_off hrC (case_n (F := F) (l := l) (c := c) (ds := [d0, d1, d2, d3, d4, d5, d6, d7, d8, d9, d10]) hj)); have hrD : w0.rangeAt kb 35 [d0, d1, d2, d3, d4, d5, d6, d7, d8, d9, d10] := fun j v hj => (case_off hrC (case_d (F := F) (l := l) (c := c) hj)); have hS := own_start w0; clear hS0) | (refine own_load_old rfl _ _ rfl rfl hS hrC List.not_mem_nil rt_case ?_) | (refine own_load_old rfl _ _ rfl rfl hS hrF List.not_mem_nil rt_font ?_) | (refine own_load_old rfl _ _ rfl rfl hS hrS List.not_mem_nil rt_style ?_) | (refine own_load_old rfl _ _ rfl rfl hS hrN List.not_mem_nil rt_box ?_) | (refine own_load_old rfl _ _ rfl rfl hS hrD List.not_mem_nil rt_box ?_) | (go_at_call 9; refine own_calls hS (awake32_calls _) ?_; clear hS; (try clear ww); intro ww hS) | (go_at_call 10; refine own_calls hS (HT.out _ (bthen hB0 hS.below)) ?_; clear hS; (try clear ww); intro ww hS) | (go_at_call 11; refine own_be hS (HM1.out _ (bthen hB0 hS.below)) ?_; intro es w1 hR1 hS1 hb1; have hBk := bthen hB0 hS1.below; have hrFk := rangeAt_below hrF hS1.below; have hrSk := rangeAt_below hrS hS1.below; have hrNk := rangeAt_below hrN hS1.below; have hrDk := rangeAt_below hrD hS1.below; clear hS hS1 hb1; have hall1 := rep_all hR1; obtain ⟨e0, e1, e2, e3, e4, e5, e6, e7, e8, e9, e10, rfl⟩ := eleven hR1.len; have hS := own_start w1) | (refine own_load_old rfl _ _ rfl rfl hS hrFk List.not_mem_nil rt_font ?_) | (refine own_load_old rfl _ _ rfl rfl hS hrSk List.not_mem_nil rt_style ?_) | (refine own_load_old rfl _ _ rfl rfl hS hrNk List.not_mem_nil rt_box ?_) | (refine own_load_old rfl _ _ rfl rfl hS hrDk List.not_mem_nil rt_box ?_) | (go_at_call 12; refine own_be hS (HM2.out _ (bthen hBk hS.below)) ?_; intro fs w2 hR2 hS2 hb2; have hR1b := hR1.step hS2.below; have hBm := bthen hBk hS2.below; have hB3 := has_range (hS2.get at0); clear hS hb2 hS2; have hall2 := rep_all hR2; obtain ⟨f0, f1, f2, f3, f4, f5, f6, f7, f8, f9, f10, rfl⟩ := eleven hR2.len; have hS := own_start w2) | (refine own_load_old rfl _ _ rfl rfl hS hB3 List.not_mem_nil rt_box ?_) | (refine own_store rfl _ _ _ rfl rfl rfl hS at0 rt_box (by rfl) (by assumption) ?_; clear hS; (try clear ww); intro ww hS; (try simp only [List.set_cons_zero] at hS)) | (refine own_load1 rfl _ _ rfl rfl hS (atl (by repeat constructor)) (by first | exact ot_int | exact ot_bool | exact ot_boxs | exact ot_ints) (by first | rfl | assumption) ?_) | (refine own_load rfl _ _ rfl rfl hS (atl (by repeat constructor)) (by first | exact rt_font | exact rt_style | exact rt_box) ?_) | (refine own_load_old rfl _ _ rfl rfl hS (by assumption) (by first | exact List.not_mem_nil | assumption) (by first | exact rt_font | exact rt_style | exact rt_box) ?_) | (refine own_load_has rfl _ _ rfl rfl hS (by assumption) (by first | exact List.not_mem_nil | assumption) (by first | exact rt_font | exact rt_style | exact rt_box) ?_) | (refine own_load1_old rfl _ _ rfl rfl hS (by assumption) (by first | exact List.not_mem_nil | assumption) (by first | exact ot_int | exact ot_bool | exact ot_boxs | exact ot_ints) ?_) | (refine own_load1_has rfl _ _ rfl rfl hS (by assumption) (by first | exact List.not_mem_nil | assumption) (by first | exact ot_int | exact ot_bool | exact ot_boxs | exact ot_ints) (by first | rfl | assumption) ?_) | (refine own_box rfl _ _ rfl rfl hS ?_; clear hS; (try clear ww); intro bb ww hS) | (refine own_alloc rfl _ rfl hS (by first | exact zt_box) ?_; clear hS; (try clear ww); intro bb ww hS) | (refine own_store rfl _ _ _ rfl rfl rfl hS (atl (by repeat constructor)) (by first | exact rt_font | exact rt_style | exact rt_box) (by rfl) (by rfl) ?_; clear hS; (try clear ww); intro ww hS; (try simp only at hS); (try simp only [List.set_cons_succ] at hS); (try simp only [List.set_cons_zero] at hS)) | (refine own_store1 rfl _ _ _ rfl rfl rfl rfl hS (atl (by repeat constructor)) (by first | exact ot_int | exact ot_bool | exact ot_boxs | exact ot_ints) (by simp) ?_; clear hS; (try clear ww); intro ww hS; (try simp only at hS); (try simp only [List.set_cons_succ] at hS); (try simp only [List.set_cons_zero] at hS); (try simp only [Act.eval] at hS); (try simp only [Array.getD_eq_getD_getElem?] at hS); (try simp only [List.getElem?_toArray] at hS); (try simp only [List.getElem?_cons_succ] at hS); (try simp only [List.getElem?_cons_zero] at hS); (try simp only [Option.getD_some] at hS)))
  have hEq := ref28_Equal_calls (n + 2) R _ _ _ (hR1b.step hS.below) (hR2.step hS.below) HSm.out
  go_at_call 13
  refine own_calls hS hEq ?_
  clear hS hEq
  intro ww hS
  go_wp2_with (first | (refine own_unguard (by rfl) ?_) | (refine own_load1 rfl _ _ rfl rfl hS (atl (by repeat constructor)) (by first | exact ot_int | exact ot_bool | exact ot_boxs | exact ot_ints) (by first | rfl | assumption) ?_) | (refine own_load rfl _ _ rfl rfl hS (atl (by repeat constructor)) (by first | exact rt_font | exact rt_style | exact rt_box) ?_) | (refine own_load_old rfl _ _ rfl rfl hS (by assumption) (by first | exact List.not_mem_nil | assumption) (by first | exact rt_font | exact rt_style | exact rt_box) ?_) | (refine own_load_has rfl _ _ rfl rfl hS (by assumption) (by first | exact List.not_mem_nil | assumption) (by first | exact rt_font | exact rt_style | exact rt_box) ?_) | (refine own_load1_old rfl _ _ rfl rfl hS (by assumption) (by first | exact List.not_mem_nil | assumption) (by first | exact ot_int | exact ot_bool | exact ot_boxs | exact ot_ints) ?_) | (refine own_load1_has rfl _ _ rfl rfl hS (by assumption) (by first | exact List.not_mem_nil | assumption) (by first | exact ot_int | exact ot_bool | exact ot_boxs | exact ot_ints) (by first | rfl | assumption) ?_) | (refine own_box rfl _ _ rfl rfl hS ?_; clear hS; (try clear ww); intro bb ww hS) | (refine own_alloc rfl _ rfl hS (by first | exact zt_box) ?_; clear hS; (try clear ww); intro bb ww hS) | (refine own_store rfl _ _ _ rfl rfl rfl hS (atl (by repeat constructor)) (by first | exact rt_font | exact rt_style | exact rt_box) (by rfl) (by rfl) ?_; clear hS; (try clear ww); intro ww hS; (try simp only at hS); (try simp only [List.set_cons_succ] at hS); (try simp only [List.set_cons_zero] at hS)) | (refine own_store1 rfl _ _ _ rfl rfl rfl rfl hS (atl (by repeat constructor)) (by first | exact ot_int | exact ot_bool | exact ot_boxs | exact ot_ints) (by simp) ?_; clear hS; (try clear ww); intro ww hS; (try simp only at hS); (try simp only [List.set_cons_succ] at hS); (try simp only [List.set_cons_zero] at hS); (try simp only [Act.eval] at hS); (try simp only [Array.getD_eq_getD_getElem?] at hS); (try simp only [List.getElem?_toArray] at hS); (try simp only [List.getElem?_cons_succ] at hS); (try simp only [List.getElem?_cons_zero] at hS); (try simp only [Option.getD_some] at hS)))
  go_ret
  exact ⟨rfl, bthen hBm hS.below⟩

theorem fractionMakes_calls (F : Fnt) (l : Int) (c : Bool) (n : Nat) (num den : Bx (n + 1)) (cs ds : List Value) (w : World) (hF : FntOk w F) (hr : Rep w (n + 1) num cs) (hs : Rep w (n + 1) den ds) :
    Calls Try.prog 3 #[.agg (caseL F l c cs ds).toArray] w (Gives (.bool true) w) := by
  cases ht : tameB F n num den
  · exact fractionMakes_wild F l c n num den cs ds w hF hr hs ht
  · exact fractionMakes_tame F l c n num den cs ds w hF hr hs ht

end Go.Proofs.Ytfmoghkffffmmaa
namespace Go.Proofs.Ytfmoghkffffmmaa
open Go.RowKit Go.ChangeShapes Go.WideShapes Go.ChangeAt

theorem Try.own : ownKnob Try.prog.godebug = none := by kernel_rfl
theorem Try.laidOut : laidOutB Try.prog = true := by kernel_rfl

/-- All arguments read as before. -/
theorem below_trodAll {H : Type} {enc : TypeId × Value → H} {P : Program} (hl : laidOutB P = true) {W W' : World} (hb : Below W.heap.size W W') (ts : List TypeId) :
    ∀ (vs : List Value) (ds : List (DataW H)) (ps : List MemPlace), (∀ t ∈ ts, P.readableRec t = true ∧ t < P.types.size) → DataW.TrodAll enc P W 0 (fun _ => true) true ts vs ds ps →
    (∀ x ∈ ps, x.block < W.heap.size) → DataW.TrodAll enc P W' 0 (fun b => decide (b < W.heap.size)) true ts vs ds ps := by
  induction ts with
  | nil => intro vs ds ps _ h _; obtain ⟨rfl, rfl, rfl⟩ := trodAll_nil h; exact rfl
  | cons t ts ih =>
    intro vs ds ps hr h hlt
    obtain ⟨v, vs', d, ds', p, q, rfl, rfl, rfl, h1, h2⟩ := trodAll_cons h
    exact ⟨p, q, Below.trod hl (hr t (by simp)).1 (hr t (by simp)).2 h1 hb (fun x hx => hlt x (by simp [hx])),
      ih vs' ds' q (fun u hu => hr u (by simp [hu])) h2 (fun x hx => hlt x (by simp [hx])), rfl⟩

/-- What the row asks behind the call of a law. -/
theorem law_post {H : Type} {enc : TypeId × Value → H} {P : Program} (hl : laidOutB P = true) {f : Func} {s : ChangeSpec} {tb : TypeId} {W W' : World} {args : Array Value} {ds gs : List (DataW H)} {before : List MemPlace}
    (hvars : s.vars = []) (hres : f.resultTypes = #[tb]) (hbool : P.underlying tb = some .bool) (hread : ∀ t ∈ f.params.toList, P.readableRec t = true ∧ t < P.types.size)
    (hspec : s.fn H (ds ++ gs) = { results := [.lit (.bool true)], args := ds }) (hW : DataW.Whole enc P f.params.toList s.vars false W args.toList ds gs before) (hb : Below W.heap.size W W') :
    s.post enc P f false true false false W args (.bool true) W' := by
  obtain ⟨p, q, hA, hV, rfl, hfz, hnd⟩ := id hW
  refine ⟨ds, gs, p ++ q, [], p, [], hW, ?_, ?_, ?_, Below.frame hb _, fun h => by cases h⟩
  · rw [hspec, hres]
    exact trodAll_mk1 (shut_bool hbool true)
  · rw [hspec]
    exact below_trodAll hl hb _ _ _ _ hread hA (fun x hx => hW.lt x (by simp [hx]))
  · rw [hspec, hvars]
    exact rfl
end Go.Proofs.Ytfmoghkffffmmaa
