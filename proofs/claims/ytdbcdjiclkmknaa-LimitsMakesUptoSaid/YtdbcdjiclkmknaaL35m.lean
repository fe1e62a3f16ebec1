/- Chapter 35, LimitsMakes: the law returns true. -/
import Derived.Test.YtdbcdjiclkmknaaK17
import Derived.Test.YtdbcdjiclkmknaaK29
import Derived.Test.YtdbcdjiclkmknaaLrj
namespace Go.Proofs.Ytdbcdjiclkmknaa
open Go.RowKit

attribute [local irreducible] wpQuiet wpG wpP wpK wpList Code.wp Calls

theorem tame5_out {F : Fnt} {n : Nat} {base : Bx n} {subs sups : List (Bx n)} (h : tameS F n base subs sups = true) : (F.gs.length ≤ 500 ∧ F.ss.length ≤ 50) ∧ subs.length ≤ 7 ∧ sups.length ≤ 7 ∧ ∀ k ∈ base :: (subs ++ sups), bCount n k ≤ 200 := by
  simp only [tameS, Bool.and_eq_true, decide_eq_true_eq] at h
  have h1 := fewB_iff.1 h.2.1
  exact ⟨⟨h1.1, h1.2.1⟩, by omega, by omega, fun k hk => of_decide_eq_true (List.all_eq_true.1 h.2.2 k hk)⟩

set_option maxHeartbeats 8000000 in
set_option maxRecDepth 100000 in
theorem limitsMakes_wild (F : Fnt) (l : Int) (c : Bool) (n : Nat) (base : Bx (n + 1)) (subs sups : List (Bx (n + 1))) (cs : List Value) (sx ux : Option Addr) (sc uc : Nat) (w : World) (hF : FntOk w F) (hr : Rep w (n + 1) base cs) (hs : RepL w (n + 1) sx subs) (hu : RepL w (n + 1) ux sups) (b1 : subs.length ≤ 1048576) (b2 : sups.length ≤ 1048576) (ht : tameS F (n + 1) base subs sups = false) : Calls Try.prog 3 #[.agg (caseS F l c cs (.slice sx subs.length sc) (.slice ux sups.length uc)).toArray] w (Gives (.bool true) w) := by
  have HT := Lib.hid (fun w' (h : Below w.heap.size w w') => tame35_calls F l c n base subs sups cs sx ux sc uc w' (hF.below h) (hr.step h) (hs.step h) (hu.step h) b1 b2 _ ht.symm)
  obtain ⟨c0, c1, c2, c3, c4, c5, c6, c7, c8, c9, c10, rfl⟩ := eleven hr.len
  clear hF hr hs hu ht
  go_enter Try.func3, Try.ntmps3
  have hS := own_start w
  go_wp2_with (first|(refine own_unguard (by rfl) ?_)|(refine own_box rfl _ _ rfl rfl hS ?_;clear hS;intro kb w0 hS0;have hrC := (hS0.get at0).range;have HB0 := Lib.hid hS0.below;obtain ⟨hrF, hrS, hrN, cV, cU⟩ := caseS_out hrC;have hS := own_start w0;clear hS0)|(refine own_load_old rfl _ _ rfl rfl hS hrC List.not_mem_nil rt_case35 ?_)|(refine own_load_old rfl _ _ rfl rfl hS hrF List.not_mem_nil rt_font ?_)|(refine own_load_old rfl _ _ rfl rfl hS hrS List.not_mem_nil rt_style ?_)|(refine own_load_old rfl _ _ rfl rfl hS hrN List.not_mem_nil rt_box ?_)|(go_at_call 8;refine own_calls hS (by first|exact awake35_calls _) ?_;clear hS;(try clear ww);intro ww hS)|(go_at_call 9;refine own_calls hS (by first|exact HT.out _ (bthen HB0.out hS.below)) ?_;clear hS;(try clear ww);intro ww hS)|(refine w_ld rfl _ rfl (by rfl) (by first|exact rd_1 (by repeat constructor) (by first|rfl|assumption)|exact rd_w (by repeat constructor) (by rfl)|((first|refine rd_o ‹_› (by rfl) ?_|refine rd_h ‹_› (by rfl) ?_|refine rd_1o ‹_› ?_|refine rd_1h ‹_› (by first|rfl|assumption) ?_);first|exact nmn|assumption|simp)) hS ?_)|((first|refine own_box rfl _ _ rfl (by rfl) hS ?_|refine w_al rfl rfl hS ?_);clear hS;(try clear ww);intro bb ww hS)|((first|refine w_st rfl _ _ rfl (by rfl) (by rfl) (by repeat constructor) (by rfl) (by rfl) (by first|rfl|assumption) hS ?_|refine w_s1 rfl _ _ rfl (by rfl) (by repeat constructor) (by first|exact .c|exact .t rfl) (by rfl) (by repeat constructor) hS ?_);clear hS;(try clear ww);intro ww hS))
  go_ret
  exact ⟨rfl, bthen HB0.out hS.below⟩

set_option maxHeartbeats 8000000 in
set_option maxRecDepth 100000 in
theorem limitsMakes_tame (F : Fnt) (l : Int) (c : Bool) (n : Nat) (base : Bx (n + 1)) (subs sups : List (Bx (n + 1))) (cs : List Value) (sx ux : Option Addr) (sc uc : Nat) (w : World) (hF : FntOk w F) (hr : Rep w (n + 1) base cs) (hs : RepL w (n + 1) sx subs) (hu : RepL w (n + 1) ux sups) (b1 : subs.length ≤ 1048576) (b2 : sups.length ≤ 1048576) (ht : tameS F (n + 1) base subs sups = true) : Calls Try.prog 3 #[.agg (caseS F l c cs (.slice sx subs.length sc) (.slice ux sups.length uc)).toArray] w (Gives (.bool true) w) := by
  have HT := Lib.hid (fun w' (h : Below w.heap.size w w') => tame35_calls F l c n base subs sups cs sx ux sc uc w' (hF.below h) (hr.step h) (hs.step h) (hu.step h) b1 b2 _ ht.symm)
  obtain ⟨hq, k1, k2, k3⟩ := tame5_out ht
  obtain ⟨R, e, hsm, h1, h2⟩ := lim_both F l c n base subs sups cs sx ux sc uc w hq hF hr hs hu k1 k2 k3
  have HM1 := Lib.hid h1
  have HM2 := Lib.hid h2
  have HSm := Lib.hid hsm
  obtain ⟨c0, c1, c2, c3, c4, c5, c6, c7, c8, c9, c10, rfl⟩ := eleven hr.len
  clear hF hr hs hu ht hq k1 k2 k3 h1 h2 hsm
  go_enter Try.func3, Try.ntmps3
  have hS := own_start w
  go_wp2_with (first|(refine own_unguard (by rfl) ?_)|(refine own_box rfl _ _ rfl rfl hS ?_;clear hS;intro kb w0 hS0;have hrC := (hS0.get at0).range;have HB0 := Lib.hid hS0.below;obtain ⟨hrF, hrS, hrN, cV, cU⟩ := caseS_out hrC;have hS := own_start w0;clear hS0)|(refine own_load_old rfl _ _ rfl rfl hS hrC List.not_mem_nil rt_case35 ?_)|(refine own_load_old rfl _ _ rfl rfl hS hrF List.not_mem_nil rt_font ?_)|(refine own_load_old rfl _ _ rfl rfl hS hrS List.not_mem_nil rt_style ?_)|(refine own_load_old rfl _ _ rfl rfl hS hrN List.not_mem_nil rt_box ?_)|(go_at_call 8;refine own_calls hS (by first|exact awake35_calls _) ?_;clear hS;(try clear ww);intro ww hS)|(go_at_call 9;refine own_calls hS (by first|exact HT.out _ (bthen HB0.out hS.below)) ?_;clear hS;(try clear ww);intro ww hS)|(go_at_call 10;refine own_be hS (HM1.out _ (bthen HB0.out hS.below)) ?_;intro es w1 hR1 hS1 hb1;have hBk := bthen HB0.out hS1.below;have hrFk := rangeAt_below hrF hS1.below;have hrSk := rangeAt_below hrS hS1.below;have cVk := (hS1.below.cell (World.block_lt_of_cell? _ _ cV)).trans cV;have cUk := (hS1.below.cell (World.block_lt_of_cell? _ _ cU)).trans cU;have hrNk := rangeAt_below hrN hS1.below;clear hS hS1 hb1;have hall1 := rep_all hR1;obtain ⟨e0, e1, e2, e3, e4, e5, e6, e7, e8, e9, e10, rfl⟩ := eleven hR1.len;have hS := own_start w1)|(refine own_load_old rfl _ _ rfl rfl hS hrFk List.not_mem_nil rt_font ?_)|(refine own_load_old rfl _ _ rfl rfl hS hrSk List.not_mem_nil rt_style ?_)|(refine own_load_old rfl _ _ rfl rfl hS hrNk List.not_mem_nil rt_box ?_)|(go_at_call 11;refine own_be hS (HM2.out _ (bthen hBk hS.below)) ?_;intro fs w2 hR2 hS2 hb2;have hR1b := hR1.step hS2.below;have hBm := bthen hBk hS2.below;have hB3 := has_range (hS2.get at0);clear hS hb2 hS2;have hall2 := rep_all hR2;obtain ⟨f0, f1, f2, f3, f4, f5, f6, f7, f8, f9, f10, rfl⟩ := eleven hR2.len;have hS := own_start w2)|(refine own_load_old rfl _ _ rfl rfl hS hB3 List.not_mem_nil rt_box ?_)|(refine own_store rfl _ _ _ rfl rfl rfl hS at0 rt_box (by rfl) (by assumption) ?_;clear hS;(try clear ww);intro ww hS;(try simp only [List.set_cons_zero] at hS))|(refine w_ld rfl _ rfl (by rfl) (by first|exact rd_1 (by repeat constructor) (by first|rfl|assumption)|exact rd_w (by repeat constructor) (by rfl)|((first|refine rd_o ‹_› (by rfl) ?_|refine rd_h ‹_› (by rfl) ?_|refine rd_1o ‹_› ?_|refine rd_1h ‹_› (by first|rfl|assumption) ?_);first|exact nmn|assumption|simp)) hS ?_)|((first|refine own_box rfl _ _ rfl (by rfl) hS ?_|refine w_al rfl rfl hS ?_);clear hS;(try clear ww);intro bb ww hS)|((first|refine w_st rfl _ _ rfl (by rfl) (by rfl) (by repeat constructor) (by rfl) (by rfl) (by first|rfl|assumption) hS ?_|refine w_s1 rfl _ _ rfl (by rfl) (by repeat constructor) (by first|exact .c|exact .t rfl) (by rfl) (by repeat constructor) hS ?_);clear hS;(try clear ww);intro ww hS))
  have hEq := ref28_Equal_calls (n + 2) R _ _ _ (hR1b.step hS.below) (hR2.step hS.below) HSm.out
  go_at_call 12
  refine own_calls hS hEq ?_
  clear hS hEq
  intro ww hS
  go_wp2_with (first|(refine own_unguard (by rfl) ?_)|(refine w_ld rfl _ rfl (by rfl) (by first|exact rd_1 (by repeat constructor) (by first|rfl|assumption)|exact rd_w (by repeat constructor) (by rfl)|((first|refine rd_o ‹_› (by rfl) ?_|refine rd_h ‹_› (by rfl) ?_|refine rd_1o ‹_› ?_|refine rd_1h ‹_› (by first|rfl|assumption) ?_);first|exact nmn|assumption|simp)) hS ?_)|((first|refine own_box rfl _ _ rfl (by rfl) hS ?_|refine w_al rfl rfl hS ?_);clear hS;(try clear ww);intro bb ww hS)|((first|refine w_st rfl _ _ rfl (by rfl) (by rfl) (by repeat constructor) (by rfl) (by rfl) (by first|rfl|assumption) hS ?_|refine w_s1 rfl _ _ rfl (by rfl) (by repeat constructor) (by first|exact .c|exact .t rfl) (by rfl) (by repeat constructor) hS ?_);clear hS;(try clear ww);intro ww hS))
  go_ret
  exact ⟨rfl, bthen hBm hS.below⟩

theorem limitsMakes_calls (F : Fnt) (l : Int) (c : Bool) (n : Nat) (base : Bx (n + 1)) (subs sups : List (Bx (n + 1))) (cs : List Value) (sx ux : Option Addr) (sc uc : Nat) (w : World) (hF : FntOk w F) (hr : Rep w (n + 1) base cs) (hs : RepL w (n + 1) sx subs) (hu : RepL w (n + 1) ux sups) (b1 : subs.length ≤ 1048576) (b2 : sups.length ≤ 1048576) : Calls Try.prog 3 #[.agg (caseS F l c cs (.slice sx subs.length sc) (.slice ux sups.length uc)).toArray] w (Gives (.bool true) w) := by
  cases ht : tameS F (n + 1) base subs sups
  · exact limitsMakes_wild F l c n base subs sups cs sx ux sc uc w hF hr hs hu b1 b2 ht
  · exact limitsMakes_tame F l c n base subs sups cs sx ux sc uc w hF hr hs hu b1 b2 ht

end Go.Proofs.Ytdbcdjiclkmknaa
