/- Chapter 35, LimitsApart: the law returns true. -/
import Derived.Test.YtdbcdjiclkmknaaLt5
import Derived.Test.YtdbcdjiclkmknaaLv5
import Derived.Test.YtdbcdjiclkmknaaJ25
namespace Go.Proofs.Ytdbcdjiclkmknaa
open Go.RowKit

attribute [local irreducible] wpQuiet wpG wpP wpK wpList Code.wp Calls

theorem all_app {xs ys : List Value} (h1 : xs.all (·.oneCell') = true) (h2 : ys.all (·.oneCell') = true) : (xs ++ ys).all (·.oneCell') = true := by rw [List.all_append, h1, h2]; rfl
theorem range_sub35 {w : World} {b : Nat} {L cs : List Value} (h : w.rangeAt b 0 L) (i : Nat) (e : (L.drop i).take cs.length = cs) : w.rangeAt b i cs := fun j v hj => by
  have h1 : L[i + j]? = some v := by
    rw [← hj, ← e, List.getElem?_take, List.getElem?_drop, if_pos (List.getElem?_eq_some_iff.1 hj).1]
  have := h (i + j) v h1
  rwa [Nat.zero_add] at this
instance zt_case35 : ZeroTy Try.prog 35 [.slice none 0 0, .slice none 0 0, .int .i64 0, .int .i64 0, .int .i64 0, .int .i64 0, .int .i64 0, .int .i64 0, .int .i64 0, .int .i64 0, .int .i64 0, .int .i64 0, .int .i64 0, .int .i64 0, .int .i64 0, .int .i64 0, .int .i64 0, .int .i64 0, .int .i64 0, .int .i64 0, .int .i64 0, .int .i64 0, .int .i64 0, .bool false, .int .i64 0, .string ⟨#[]⟩, .int .i64 0, .int .i64 0, .int .i64 0, .int .i64 0, .int .i64 0, .int .i64 0, .slice none 0 0, .int .i64 0, .slice none 0 0, .slice none 0 0, .slice none 0 0] := ⟨.agg #[.slice none 0 0, .slice none 0 0, .int .i64 0, .int .i64 0, .int .i64 0, .int .i64 0, .int .i64 0, .int .i64 0, .int .i64 0, .int .i64 0, .int .i64 0, .int .i64 0, .int .i64 0, .int .i64 0, .int .i64 0, .int .i64 0, .int .i64 0, .int .i64 0, .int .i64 0, .int .i64 0, .int .i64 0, .int .i64 0, .int .i64 0, .bool false, .int .i64 0, .string ⟨#[]⟩, .int .i64 0, .int .i64 0, .int .i64 0, .int .i64 0, .int .i64 0, .int .i64 0, .slice none 0 0, .int .i64 0, .slice none 0 0, .slice none 0 0, .slice none 0 0], by kernel_rfl, rfl⟩

set_option maxHeartbeats 8000000 in
set_option maxRecDepth 100000 in
theorem limitsApart_bad (F : Fnt) (l : Int) (c : Bool) (n : Nat) (base : Bx (n + 1)) (subs sups : List (Bx (n + 1))) (cs : List Value) (sx ux : Option Addr) (sc uc : Nat) (w : World) (hF : FntOk w F) (hr : Rep w (n + 1) base cs) (hs : RepL w (n + 1) sx subs) (hu : RepL w (n + 1) ux sups) (b1 : subs.length ≤ 1048576) (b2 : sups.length ≤ 1048576) (hb : ¬ MadeOk5 F l n base subs sups) : Calls Try.prog 7 #[.agg (caseS F l c cs (.slice sx subs.length sc) (.slice ux sups.length uc)).toArray] w (Gives (.bool true) w) := by
  have HM := Lib.hid (fun w' (h : Below w.heap.size w w') => made35_bad F l c n base subs sups cs sx ux sc uc w' (hF.below h) (hr.step h) (hs.step h) (hu.step h) b1 b2 0 hb)
  obtain ⟨c0, c1, c2, c3, c4, c5, c6, c7, c8, c9, c10, rfl⟩ := eleven hr.len
  clear hF hr hs hu hb
  go_enter Try.func7, Try.ntmps7
  have hS := own_start w
  go_wp2_with (first | (refine own_unguard (by rfl) ?_) | (refine own_box rfl _ _ rfl rfl hS ?_; clear hS; intro kb w0 hS0; have hrC := (hS0.get at0).range; have HB0 := Lib.hid hS0.below; obtain ⟨hrF, hrS, hrN, cV, cU⟩ := caseS_out hrC; have hS := own_start w0; clear hS0) | (refine own_load_old rfl _ _ rfl rfl hS hrC List.not_mem_nil rt_case35 ?_) | (go_at_call 8; refine own_calls hS (awake35_calls _) ?_; clear hS; (try clear ww); intro ww hS) | (go_at_call 13; refine Calls.mono (HM.out _ (bthen HB0.out hS.below)) ?_; rintro e w1 ⟨cs1, rfl, hR1, hb1⟩; have HB1 := Lib.hid (bthen HB0.out (bthen hS.below hb1)); obtain ⟨kx, kc, tx, tc, rfl⟩ := zero_out hR1; clear hR1 hS hb1; have hS := own_start w1) | (refine w_ld rfl _ rfl (by rfl) (by first | exact rd_1 (by repeat constructor) (by first | rfl | assumption) | exact rd_w (by repeat constructor) (by rfl) | exact rd_o (by assumption) (by rfl) (by first | exact nmn | assumption | simp) | exact rd_h (by assumption) (by rfl) (by first | exact nmn | assumption | simp) | exact rd_1o (by assumption) (by first | exact nmn | assumption | simp) | exact rd_1h (by assumption) (by first | rfl | assumption) (by first | exact nmn | assumption | simp)) hS ?_) | (refine own_box rfl _ _ rfl (by rfl) hS ?_; clear hS; (try clear ww); intro bb ww hS) | (refine w_al rfl rfl hS ?_; clear hS; (try clear ww); intro bb ww hS) | (refine w_st rfl _ _ rfl (by rfl) (by rfl) (by repeat constructor) (by rfl) (by rfl) (by first | rfl | assumption) hS ?_; clear hS; (try clear ww); intro ww hS) | (refine w_s1 rfl _ _ rfl (by rfl) (by repeat constructor) (by first | exact .c | exact .t rfl) (by rfl) (by repeat constructor) hS ?_; clear hS; (try clear ww); intro ww hS))
  go_ret
  exact ⟨rfl, bthen HB1.out hS.below⟩

set_option maxHeartbeats 16000000 in
set_option maxRecDepth 100000 in
theorem limitsApart_00 (F : Fnt) (l : Int) (c : Bool) (n : Nat) (base : Bx (n + 1))  (cs : List Value) (sx ux : Option Addr) (sc uc : Nat) (w : World) (hF : FntOk w F) (hr : Rep w (n + 1) base cs) (hs : RepL w (n + 1) sx []) (hu : RepL w (n + 1) ux []) (b1 : 0 ≤ 1048576) (b2 : 0 ≤ 1048576) (h : MadeOk5 F l n base [] []) : Calls Try.prog 7 #[.agg (caseS F l c cs (.slice sx 0 sc) (.slice ux 0 uc)).toArray] w (Gives (.bool true) w) := by
  have HM := Lib.hid (fun w' (hb : Below w.heap.size w w') => made35_ok F l c n base [] [] cs sx ux sc uc w' (hF.below hb) (hr.step hb) (hs.step hb) (hu.step hb) b1 b2 h)
  have eR : limB F l n base [] [] = listB (n + 1) (limE F n base [] []) (limH F l n base []) (limD F l n base []) (limK F l n base [] []) := rfl
  rw [eR] at HM
  generalize limE F n base [] [] = E at *
  generalize limH F l n base [] = H at *
  generalize limD F l n base [] = D at *
  generalize limK F l n base [] [] = K at *
  obtain ⟨c0, c1, c2, c3, c4, c5, c6, c7, c8, c9, c10, rfl⟩ := eleven hr.len
  clear hF hr hs hu h b1 b2 eR
  go_enter Try.func7, Try.ntmps7
  have hS := own_start w
  go_wp2_with (first | (refine own_unguard (by rfl) ?_) | (refine own_box rfl _ _ rfl rfl hS ?_; clear hS; intro kb w0 hS0; have hrC := (hS0.get at0).range; have HB0 := Lib.hid hS0.below; obtain ⟨hrF, hrS, hrN, cV, cU⟩ := caseS_out hrC; have hS := own_start w0; clear hS0) | (refine own_load_old rfl _ _ rfl rfl hS hrC List.not_mem_nil rt_case35 ?_) | (go_at_call 8; refine own_calls hS (awake35_calls _) ?_; clear hS; (try clear ww); intro ww hS) | (go_at_call 13; refine Calls.mono (HM.out _ (bthen HB0.out hS.below)) ?_; rintro e w1 ⟨cs1, rfl, hR1, hb1⟩; have hrF1 := rangeAt_below (hS.range List.not_mem_nil hrF) hb1; have hrS1 := rangeAt_below (hS.range List.not_mem_nil hrS) hb1; have hrN1 := rangeAt_below (hS.range List.not_mem_nil hrN) hb1; have cV1 := cell_below (hS.cell List.not_mem_nil cV) hb1; have cU1 := cell_below (hS.cell List.not_mem_nil cU) hb1; have HB1 := Lib.hid (bthen HB0.out (bthen hS.below hb1)); obtain ⟨kx, kc, tx, tc, rfl, _, _, _, hks⟩ := rep_out hR1; have HKs := Lib.hid hks; clear hks hR1 hS hb1 hrC hrF hrS hrN cV cU; have hS := own_start w1) | (refine w_ld rfl _ rfl (by rfl) (by first | exact rd_1 (by repeat constructor) (by first | rfl | assumption) | exact rd_w (by repeat constructor) (by rfl) | exact rd_o (by assumption) (by rfl) (by first | exact nmn | assumption | simp) | exact rd_h (by assumption) (by rfl) (by first | exact nmn | assumption | simp) | exact rd_1o (by assumption) (by first | exact nmn | assumption | simp) | exact rd_1h (by assumption) (by first | rfl | assumption) (by first | exact nmn | assumption | simp)) hS ?_) | (refine own_box rfl _ _ rfl (by rfl) hS ?_; clear hS; (try clear ww); intro bb ww hS) | (refine w_al rfl rfl hS ?_; clear hS; (try clear ww); intro bb ww hS) | (refine w_st rfl _ _ rfl (by rfl) (by rfl) (by repeat constructor) (by rfl) (by rfl) (by first | rfl | assumption) hS ?_; clear hS; (try clear ww); intro ww hS) | (refine w_s1 rfl _ _ rfl (by rfl) (by repeat constructor) (by first | exact .c | exact .t rfl) (by rfl) (by repeat constructor) hS ?_; clear hS; (try clear ww); intro ww hS))
  go_ret
  exact ⟨rfl, bthen HB1.out hS.below⟩

set_option maxHeartbeats 16000000 in
set_option maxRecDepth 100000 in
theorem limitsApart_01 (F : Fnt) (l : Int) (c : Bool) (n : Nat) (base : Bx (n + 1)) (sp : Bx (n + 1)) (cs : List Value) (sx ux : Option Addr) (sc uc : Nat) (w : World) (hF : FntOk w F) (hr : Rep w (n + 1) base cs) (hs : RepL w (n + 1) sx []) (hu : RepL w (n + 1) ux [sp]) (b1 : 0 ≤ 1048576) (b2 : 1 ≤ 1048576) (h : MadeOk5 F l n base [] [sp]) : Calls Try.prog 7 #[.agg (caseS F l c cs (.slice sx 0 sc) (.slice ux 1 uc)).toArray] w (Gives (.bool true) w) := by
  have HM := Lib.hid (fun w' (hb : Below w.heap.size w w') => made35_ok F l c n base [] [sp] cs sx ux sc uc w' (hF.below hb) (hr.step hb) (hs.step hb) (hu.step hb) b1 b2 h)
  have eR : limB F l n base [] [sp] = listB (n + 1) (limE F n base [] [sp]) (limH F l n base [sp]) (limD F l n base []) (limK F l n base [] [sp]) := rfl
  rw [eR] at HM
  generalize limE F n base [] [sp] = E at *
  generalize limH F l n base [sp] = H at *
  generalize limD F l n base [] = D at *
  generalize limK F l n base [] [sp] = K at *
  obtain ⟨c0, c1, c2, c3, c4, c5, c6, c7, c8, c9, c10, rfl⟩ := eleven hr.len
  clear hF hr hs hu h b1 b2 eR
  go_enter Try.func7, Try.ntmps7
  have hS := own_start w
  go_wp2_with (first | (refine own_unguard (by rfl) ?_) | (refine own_box rfl _ _ rfl rfl hS ?_; clear hS; intro kb w0 hS0; have hrC := (hS0.get at0).range; have HB0 := Lib.hid hS0.below; obtain ⟨hrF, hrS, hrN, cV, cU⟩ := caseS_out hrC; have hS := own_start w0; clear hS0) | (refine own_load_old rfl _ _ rfl rfl hS hrC List.not_mem_nil rt_case35 ?_) | (go_at_call 8; refine own_calls hS (awake35_calls _) ?_; clear hS; (try clear ww); intro ww hS) | (go_at_call 13; refine Calls.mono (HM.out _ (bthen HB0.out hS.below)) ?_; rintro e w1 ⟨cs1, rfl, hR1, hb1⟩; have hrF1 := rangeAt_below (hS.range List.not_mem_nil hrF) hb1; have hrS1 := rangeAt_below (hS.range List.not_mem_nil hrS) hb1; have hrN1 := rangeAt_below (hS.range List.not_mem_nil hrN) hb1; have cV1 := cell_below (hS.cell List.not_mem_nil cV) hb1; have cU1 := cell_below (hS.cell List.not_mem_nil cU) hb1; have HB1 := Lib.hid (bthen HB0.out (bthen hS.below hb1)); obtain ⟨kx, kc, tx, tc, rfl, _, _, _, hks⟩ := rep_out hR1; have HKs := Lib.hid hks; clear hks hR1 hS hb1 hrC hrF hrS hrN cV cU; have hS := own_start w1) | (refine w_ld rfl _ rfl (by rfl) (by first | exact rd_1 (by repeat constructor) (by first | rfl | assumption) | exact rd_w (by repeat constructor) (by rfl) | exact rd_o (by assumption) (by rfl) (by first | exact nmn | assumption | simp) | exact rd_h (by assumption) (by rfl) (by first | exact nmn | assumption | simp) | exact rd_1o (by assumption) (by first | exact nmn | assumption | simp) | exact rd_1h (by assumption) (by first | rfl | assumption) (by first | exact nmn | assumption | simp)) hS ?_) | (refine own_box rfl _ _ rfl (by rfl) hS ?_; clear hS; (try clear ww); intro bb ww hS) | (refine w_al rfl rfl hS ?_; clear hS; (try clear ww); intro bb ww hS) | (refine w_st rfl _ _ rfl (by rfl) (by rfl) (by repeat constructor) (by rfl) (by rfl) (by first | rfl | assumption) hS ?_; clear hS; (try clear ww); intro ww hS) | (refine w_s1 rfl _ _ rfl (by rfl) (by repeat constructor) (by first | exact .c | exact .t rfl) (by rfl) (by repeat constructor) hS ?_; clear hS; (try clear ww); intro ww hS))
  go_ret
  exact ⟨rfl, bthen HB1.out hS.below⟩

set_option maxHeartbeats 16000000 in
set_option maxRecDepth 100000 in
theorem limitsApart_10 (F : Fnt) (l : Int) (c : Bool) (n : Nat) (base : Bx (n + 1)) (sb : Bx (n + 1))  (cs : List Value) (sx ux : Option Addr) (sc uc : Nat) (w : World) (hF : FntOk w F) (hr : Rep w (n + 1) base cs) (hs : RepL w (n + 1) sx [sb]) (hu : RepL w (n + 1) ux []) (b1 : 1 ≤ 1048576) (b2 : 0 ≤ 1048576) (h : MadeOk5 F l n base [sb] []) : Calls Try.prog 7 #[.agg (caseS F l c cs (.slice sx 1 sc) (.slice ux 0 uc)).toArray] w (Gives (.bool true) w) := by
  have HM := Lib.hid (fun w' (hb : Below w.heap.size w w') => made35_ok F l c n base [sb] [] cs sx ux sc uc w' (hF.below hb) (hr.step hb) (hs.step hb) (hu.step hb) b1 b2 h)
  have eR : limB F l n base [sb] [] = listB (n + 1) (limE F n base [sb] []) (limH F l n base []) (limD F l n base [sb]) (limK F l n base [sb] []) := rfl
  rw [eR] at HM
  generalize limE F n base [sb] [] = E at *
  generalize limH F l n base [] = H at *
  generalize limD F l n base [sb] = D at *
  generalize limK F l n base [sb] [] = K at *
  obtain ⟨c0, c1, c2, c3, c4, c5, c6, c7, c8, c9, c10, rfl⟩ := eleven hr.len
  clear hF hr hs hu h b1 b2 eR
  go_enter Try.func7, Try.ntmps7
  have hS := own_start w
  go_wp2_with (first | (refine own_unguard (by rfl) ?_) | (refine own_box rfl _ _ rfl rfl hS ?_; clear hS; intro kb w0 hS0; have hrC := (hS0.get at0).range; have HB0 := Lib.hid hS0.below; obtain ⟨hrF, hrS, hrN, cV, cU⟩ := caseS_out hrC; have hS := own_start w0; clear hS0) | (refine own_load_old rfl _ _ rfl rfl hS hrC List.not_mem_nil rt_case35 ?_) | (go_at_call 8; refine own_calls hS (awake35_calls _) ?_; clear hS; (try clear ww); intro ww hS) | (go_at_call 13; refine Calls.mono (HM.out _ (bthen HB0.out hS.below)) ?_; rintro e w1 ⟨cs1, rfl, hR1, hb1⟩; have hrF1 := rangeAt_below (hS.range List.not_mem_nil hrF) hb1; have hrS1 := rangeAt_below (hS.range List.not_mem_nil hrS) hb1; have hrN1 := rangeAt_below (hS.range List.not_mem_nil hrN) hb1; have cV1 := cell_below (hS.cell List.not_mem_nil cV) hb1; have cU1 := cell_below (hS.cell List.not_mem_nil cU) hb1; have HB1 := Lib.hid (bthen HB0.out (bthen hS.below hb1)); obtain ⟨kx, kc, tx, tc, rfl, _, _, _, hks⟩ := rep_out hR1; have HKs := Lib.hid hks; clear hks hR1 hS hb1 hrC hrF hrS hrN cV cU; have hS := own_start w1) | (refine w_ld rfl _ rfl (by rfl) (by first | exact rd_1 (by repeat constructor) (by first | rfl | assumption) | exact rd_w (by repeat constructor) (by rfl) | exact rd_o (by assumption) (by rfl) (by first | exact nmn | assumption | simp) | exact rd_h (by assumption) (by rfl) (by first | exact nmn | assumption | simp) | exact rd_1o (by assumption) (by first | exact nmn | assumption | simp) | exact rd_1h (by assumption) (by first | rfl | assumption) (by first | exact nmn | assumption | simp)) hS ?_) | (refine own_box rfl _ _ rfl (by rfl) hS ?_; clear hS; (try clear ww); intro bb ww hS) | (refine w_al rfl rfl hS ?_; clear hS; (try clear ww); intro bb ww hS) | (refine w_st rfl _ _ rfl (by rfl) (by rfl) (by repeat constructor) (by rfl) (by rfl) (by first | rfl | assumption) hS ?_; clear hS; (try clear ww); intro ww hS) | (refine w_s1 rfl _ _ rfl (by rfl) (by repeat constructor) (by first | exact .c | exact .t rfl) (by rfl) (by repeat constructor) hS ?_; clear hS; (try clear ww); intro ww hS))
  go_ret
  exact ⟨rfl, bthen HB1.out hS.below⟩

end Go.Proofs.Ytdbcdjiclkmknaa
