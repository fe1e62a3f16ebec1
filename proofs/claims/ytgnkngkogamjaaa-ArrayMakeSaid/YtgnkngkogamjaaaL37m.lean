/- Chapter 37, ArrayMake: the law returns true. -/
import Derived.Test.YtgnkngkogamjaaaJ21
import Derived.Test.YtgnkngkogamjaaaJ22
import Derived.Test.YtgnkngkogamjaaaJ24
import Derived.Test.YtgnkngkogamjaaaJ25
namespace Go.Proofs.Ytgnkngkogamjaaa
open Go.RowKit
attribute [local irreducible] wpQuiet wpG wpP wpK wpList Code.wp Calls

set_option maxHeartbeats 16000000 in
set_option maxRecDepth 100000 in
theorem arrayMake_wild (F : Fnt) (l : Int) (c : Bool) (C : Int) (n : Nat) (kids : List (Bx (n + 1))) (kx : Option Addr) (kc : Nat) (w : World) (hF : FntOk w F) (hk : RepL w (n + 1) kx kids) (hm : kids.length ≤ maxLen) (ht : fewX F n kids = false) : Calls Try.prog 3 #[.agg (caseX F l c).toArray, .int .i64 C, .slice kx kids.length kc] w (Gives (.bool true) w) := by
  have HT := Lib.hid (fun w' (h : Below w.heap.size w w') => few37_calls F l c n kids kx kc w' (hF.below h) (hk.step h) hm false ht.symm)
  clear hF hk ht
  go_enter Try.func3, Try.ntmps3
  have hS := own_start w
  go_wp2_with (first | (refine own_unguard (by rfl) ?_) | (refine own_box rfl _ _ rfl rfl hS ?_; clear hS; intro kb w0 hS0; have hrC := (hS0.get at0).range; have HB0 := Lib.hid hS0.below; obtain ⟨hrF, hrS⟩ := caseX_out hrC; have hS := own_start w0; clear hS0) | (refine own_load_old rfl _ _ rfl rfl hS hrC List.not_mem_nil rt_case37 ?_) | (refine own_load_old rfl _ _ rfl rfl hS hrF List.not_mem_nil rt_font ?_) | (refine own_load_old rfl _ _ rfl rfl hS hrS List.not_mem_nil rt_style ?_) | (go_at_call 8; refine own_calls hS (by first | exact awake37_calls _) ?_; clear hS; (try clear ww); intro ww hS) | (go_at_call 9; refine own_calls hS (HT.out _ (bthen HB0.out hS.below)) ?_; clear hS; (try clear ww); intro ww hS) | (refine w_ld rfl _ rfl (by rfl) (by first | exact rd_1 (by repeat constructor) (by first | rfl | assumption) | exact rd_w (by repeat constructor) (by rfl) | exact rd_o (by assumption) (by rfl) (by first | exact nmn | assumption | simp) | exact rd_h (by assumption) (by rfl) (by first | exact nmn | assumption | simp) | exact rd_1o (by assumption) (by first | exact nmn | assumption | simp) | exact rd_1h (by assumption) (by first | rfl | assumption) (by first | exact nmn | assumption | simp)) hS ?_) | (refine own_box rfl _ _ rfl (by rfl) hS ?_; clear hS; (try clear ww); intro bb ww hS) | (refine w_al rfl rfl hS ?_; clear hS; (try clear ww); intro bb ww hS) | (refine w_st rfl _ _ rfl (by rfl) (by rfl) (by repeat constructor) (by rfl) (by rfl) (by first | rfl | assumption) hS ?_; clear hS; (try clear ww); intro ww hS) | (refine w_s1 rfl _ _ rfl (by rfl) (by repeat constructor) (by first | exact .c | exact .t rfl) (by rfl) (by repeat constructor) hS ?_; clear hS; (try clear ww); intro ww hS))
  go_ret
  exact ⟨rfl, bthen HB0.out hS.below⟩

set_option maxHeartbeats 16000000 in
set_option maxRecDepth 100000 in
theorem arrayMake_tame (F : Fnt) (l : Int) (c : Bool) (C : Int) (n : Nat) (kids : List (Bx (n + 1))) (kx : Option Addr) (kc : Nat) (w : World) (hF : FntOk w F) (hk : RepL w (n + 1) kx kids) (hm : kids.length ≤ maxLen) (ht : fewX F n kids = true) : Calls Try.prog 3 #[.agg (caseX F l c).toArray, .int .i64 C, .slice kx kids.length kc] w (Gives (.bool true) w) := by
  have HT := Lib.hid (fun w' (h : Below w.heap.size w w') => few37_calls F l c n kids kx kc w' (hF.below h) (hk.step h) hm true ht.symm)
  obtain ⟨hq, b1, b2⟩ := fewX_out ht
  obtain ⟨N, R, e, hsm, h1, h2⟩ := arr_both F l c n C kids kx kc w hF hq hk b2 b1
  have HM1 := Lib.hid h1
  have HM2 := Lib.hid h2
  have HSm := Lib.hid hsm
  clear hF hk ht hq b1 b2 h1 h2 hsm
  go_enter Try.func3, Try.ntmps3
  have hS := own_start w
  go_wp2_with (first | (refine own_unguard (by rfl) ?_) | (refine own_box rfl _ _ rfl rfl hS ?_; clear hS; intro kb w0 hS0; have hrC := (hS0.get at0).range; have HB0 := Lib.hid hS0.below; obtain ⟨hrF, hrS⟩ := caseX_out hrC; have hS := own_start w0; clear hS0) | (refine own_load_old rfl _ _ rfl rfl hS hrC List.not_mem_nil rt_case37 ?_) | (refine own_load_old rfl _ _ rfl rfl hS hrF List.not_mem_nil rt_font ?_) | (refine own_load_old rfl _ _ rfl rfl hS hrS List.not_mem_nil rt_style ?_) | (go_at_call 8; refine own_calls hS (by first | exact awake37_calls _) ?_; clear hS; (try clear ww); intro ww hS) | (go_at_call 9; refine own_calls hS (HT.out _ (bthen HB0.out hS.below)) ?_; clear hS; (try clear ww); intro ww hS) | (go_at_call 10; refine own_be hS (HM1.out _ (bthen HB0.out hS.below)) ?_; intro es w1 hR1 hS1 hb1; have hBk := bthen HB0.out hS1.below; have hrFk := rangeAt_below hrF hS1.below; have hrSk := rangeAt_below hrS hS1.below; clear hS hS1 hb1; have hall1 := rep_all hR1; obtain ⟨e0, e1, e2, e3, e4, e5, e6, e7, e8, e9, e10, rfl⟩ := eleven hR1.len; have hS := own_start w1) | (refine own_load_old rfl _ _ rfl rfl hS hrFk List.not_mem_nil rt_font ?_) | (refine own_load_old rfl _ _ rfl rfl hS hrSk List.not_mem_nil rt_style ?_) | (go_at_call 11; refine own_be hS (HM2.out _ (bthen hBk hS.below)) ?_; intro fs w2 hR2 hS2 hb2; have hR1b := hR1.step hS2.below; have hBm := bthen hBk hS2.below; have hB3 := has_range (hS2.get at0); clear hS hb2 hS2; have hall2 := rep_all hR2; obtain ⟨f0, f1, f2, f3, f4, f5, f6, f7, f8, f9, f10, rfl⟩ := eleven hR2.len; have hS := own_start w2) | (refine own_load_old rfl _ _ rfl rfl hS hB3 List.not_mem_nil rt_box ?_) | (refine own_store rfl _ _ _ rfl rfl rfl hS at0 rt_box (by rfl) (by assumption) ?_; clear hS; (try clear ww); intro ww hS; (try simp only [List.set_cons_zero] at hS)) | (refine w_ld rfl _ rfl (by rfl) (by first | exact rd_1 (by repeat constructor) (by first | rfl | assumption) | exact rd_w (by repeat constructor) (by rfl) | exact rd_o (by assumption) (by rfl) (by first | exact nmn | assumption | simp) | exact rd_h (by assumption) (by rfl) (by first | exact nmn | assumption | simp) | exact rd_1o (by assumption) (by first | exact nmn | assumption | simp) | exact rd_1h (by assumption) (by first | rfl | assumption) (by first | exact nmn | assumption | simp)) hS ?_) | (refine own_box rfl _ _ rfl (by rfl) hS ?_; clear hS; (try clear ww); intro bb ww hS) | (refine w_al rfl rfl hS ?_; clear hS; (try clear ww); intro bb ww hS) | (refine w_st rfl _ _ rfl (by rfl) (by rfl) (by repeat constructor) (by rfl) (by rfl) (by first | rfl | assumption) hS ?_; clear hS; (try clear ww); intro ww hS) | (refine w_s1 rfl _ _ rfl (by rfl) (by repeat constructor) (by first | exact .c | exact .t rfl) (by rfl) (by repeat constructor) hS ?_; clear hS; (try clear ww); intro ww hS))
  have hEq := ref28_Equal_calls (N + 1) R _ _ _ (hR1b.step hS.below) (hR2.step hS.below) HSm.out
  go_at_call 12
  refine own_calls hS hEq ?_
  clear hS hEq
  intro ww hS
  go_wp2_with (first | (refine own_unguard (by rfl) ?_) | (refine w_ld rfl _ rfl (by rfl) (by first | exact rd_1 (by repeat constructor) (by first | rfl | assumption) | exact rd_w (by repeat constructor) (by rfl) | exact rd_o (by assumption) (by rfl) (by first | exact nmn | assumption | simp) | exact rd_h (by assumption) (by rfl) (by first | exact nmn | assumption | simp) | exact rd_1o (by assumption) (by first | exact nmn | assumption | simp) | exact rd_1h (by assumption) (by first | rfl | assumption) (by first | exact nmn | assumption | simp)) hS ?_) | (refine own_box rfl _ _ rfl (by rfl) hS ?_; clear hS; (try clear ww); intro bb ww hS) | (refine w_al rfl rfl hS ?_; clear hS; (try clear ww); intro bb ww hS) | (refine w_st rfl _ _ rfl (by rfl) (by rfl) (by repeat constructor) (by rfl) (by rfl) (by first | rfl | assumption) hS ?_; clear hS; (try clear ww); intro ww hS) | (refine w_s1 rfl _ _ rfl (by rfl) (by repeat constructor) (by first | exact .c | exact .t rfl) (by rfl) (by repeat constructor) hS ?_; clear hS; (try clear ww); intro ww hS))
  go_ret
  exact ⟨rfl, bthen hBm hS.below⟩
theorem arrayMake_calls (F : Fnt) (l : Int) (c : Bool) (C : Int) (n : Nat) (kids : List (Bx (n + 1))) (kx : Option Addr) (kc : Nat) (w : World) (hF : FntOk w F) (hk : RepL w (n + 1) kx kids) (hm : kids.length ≤ maxLen) : Calls Try.prog 3 #[.agg (caseX F l c).toArray, .int .i64 C, .slice kx kids.length kc] w (Gives (.bool true) w) := by
  cases ht : fewX F n kids
  · exact arrayMake_wild F l c C n kids kx kc w hF hk hm ht
  · exact arrayMake_tame F l c C n kids kx kc w hF hk hm ht

end Go.Proofs.Ytgnkngkogamjaaa
