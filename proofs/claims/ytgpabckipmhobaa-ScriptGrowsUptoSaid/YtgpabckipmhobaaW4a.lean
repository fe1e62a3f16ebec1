/- Chapter 34, ScriptGrows: the law returns true. -/
import Derived.Test.YtgpabckipmhobaaJ22
import Derived.Test.YtgpabckipmhobaaLwv
import Derived.Test.YtgpabckipmhobaaC4a
namespace Go.Proofs.Ytgpabckipmhobaa
open Go.RowKit

attribute [local irreducible] wpQuiet wpG wpP wpK wpList Code.wp Calls

set_option maxHeartbeats 8000000 in
set_option maxRecDepth 100000 in
theorem scriptGrows_bad0 (F : Fnt) (l : Int) (c : Bool) (n : Nat) (base : Bx (n + 1)) (subs sups : List (Bx (n + 1))) (cs : List Value) (sx ux : Option Addr) (sc uc : Nat) (w : World) (hF : FntOk w F) (hr : Rep w (n + 1) base cs) (hs : RepL w (n + 1) sx subs) (hu : RepL w (n + 1) ux sups) (b1 : subs.length ≤ 1048576) (b2 : sups.length ≤ 1048576) (z : Int) (hi : innerS (n + 1) base = none) (hb : ¬ MadeOkS F l c n base subs sups) : Calls Try.prog 8 #[.agg (caseS F l c cs (.slice sx subs.length sc) (.slice ux sups.length uc)).toArray, .int .u16 z] w (Gives (.bool true) w) := by
  have HM := Lib.hid (fun w' (h : Below w.heap.size w w') => made34_bad F l c n base subs sups cs sx ux sc uc w' (hF.below h) (hr.step h) (hs.step h) (hu.step h) b1 b2 0 hb)
  obtain ⟨v, hv, hcS⟩ := ref34_Simple_calls (n + 1) base cs w hr
  rw [hi] at hv
  obtain rfl : v = _ := hv
  have HSi := Lib.hid hcS
  clear hcS
  obtain ⟨c0, c1, c2, c3, c4, c5, c6, c7, c8, c9, c10, rfl⟩ := eleven hr.len
  clear hF hr hs hu hb hi
  go_enter Try.func8, Try.ntmps8
  have hS := own_start w
  go_wp2_with (first | (refine own_unguard (by rfl) ?_) | (refine own_box rfl _ _ rfl rfl hS ?_; clear hS; intro kb w0 hS0; have hrC := (hS0.get at0).range; have HB0 := Lib.hid hS0.below; obtain ⟨hrF, hrS, hrN, cV, cU⟩ := caseS_out hrC; have hS := own_start w0; clear hS0) | (refine own_load_old rfl _ _ rfl rfl hS hrC List.not_mem_nil rt_case34 ?_) | (go_at_call 9; refine own_calls hS (awake34_calls _) ?_; clear hS; (try clear ww); intro ww hS) | (go_at_call 10; refine Calls.mono (HM.out _ (bthen HB0.out hS.below)) ?_; rintro e w1 ⟨cs1, rfl, hR1, hb1⟩; have hrN1 := rangeAt_below (hS.range List.not_mem_nil hrN) hb1; have HB1 := Lib.hid (bthen HB0.out (bthen hS.below hb1)); obtain ⟨kx, kc, tx, tc, rfl⟩ := zero_out hR1; clear hR1 hS hb1 hrC hrF hrS hrN cV cU; have hS := own_start w1) | (go_at_call 15; refine own_calls hS (HSi.out _ (bthen HB1.out hS.below)) ?_; clear hS; (try clear ww); intro ww hS) | (refine w_ld rfl _ rfl (by rfl) (by first | exact rd_1 (by repeat constructor) (by first | rfl | assumption) | exact rd_w (by repeat constructor) (by rfl) | exact rd_o (by assumption) (by rfl) (by first | exact nmn | assumption | simp) | exact rd_h (by assumption) (by rfl) (by first | exact nmn | assumption | simp) | exact rd_1o (by assumption) (by first | exact nmn | assumption | simp) | exact rd_1h (by assumption) (by first | rfl | assumption) (by first | exact nmn | assumption | simp)) hS ?_) | (refine own_box rfl _ _ rfl (by rfl) hS ?_; clear hS; (try clear ww); intro bb ww hS) | (refine w_al rfl rfl hS ?_; clear hS; (try clear ww); intro bb ww hS) | (refine w_st rfl _ _ rfl (by rfl) (by rfl) (by repeat constructor) (by rfl) (by rfl) (by first | rfl | assumption) hS ?_; clear hS; (try clear ww); intro ww hS) | (refine w_s1 rfl _ _ rfl (by rfl) (by repeat constructor) (by first | exact .c | exact .t rfl) (by rfl) (by repeat constructor) hS ?_; clear hS; (try clear ww); intro ww hS))
  go_ret
  exact ⟨rfl, bthen HB1.out hS.below⟩

set_option maxHeartbeats 8000000 in
set_option maxRecDepth 100000 in
theorem scriptGrows_bad1 (F : Fnt) (l : Int) (c : Bool) (n : Nat) (base : Bx (n + 1)) (subs sups : List (Bx (n + 1))) (cs : List Value) (sx ux : Option Addr) (sc uc : Nat) (w : World) (hF : FntOk w F) (hr : Rep w (n + 1) base cs) (hs : RepL w (n + 1) sx subs) (hu : RepL w (n + 1) ux sups) (b1 : subs.length ≤ 1048576) (b2 : sups.length ≤ 1048576) (z : Int) (g0_ : Σ m, Bx (m + 1)) (hi : innerS (n + 1) base = some g0_) (hb : ¬ MadeOkS F l c n base subs sups) : Calls Try.prog 8 #[.agg (caseS F l c cs (.slice sx subs.length sc) (.slice ux sups.length uc)).toArray, .int .u16 z] w (Gives (.bool true) w) := by
  have HM := Lib.hid (fun w' (h : Below w.heap.size w w') => made34_bad F l c n base subs sups cs sx ux sc uc w' (hF.below h) (hr.step h) (hs.step h) (hu.step h) b1 b2 0 hb)
  obtain ⟨v, hv, hcS⟩ := ref34_Simple_calls (n + 1) base cs w hr
  rw [hi] at hv
  obtain ⟨gcs, rfl, hg⟩ := hv
  have hallg := rep_all hg
  obtain ⟨g0, g1, g2, g3, g4, g5, g6, g7, g8, g9, g10, rfl⟩ := eleven hg.len
  have HSi := Lib.hid hcS
  clear hg hcS
  obtain ⟨c0, c1, c2, c3, c4, c5, c6, c7, c8, c9, c10, rfl⟩ := eleven hr.len
  clear hF hr hs hu hb hi
  go_enter Try.func8, Try.ntmps8
  have hS := own_start w
  go_wp2_with (first | (refine own_unguard (by rfl) ?_) | (refine own_box rfl _ _ rfl rfl hS ?_; clear hS; intro kb w0 hS0; have hrC := (hS0.get at0).range; have HB0 := Lib.hid hS0.below; obtain ⟨hrF, hrS, hrN, cV, cU⟩ := caseS_out hrC; have hS := own_start w0; clear hS0) | (refine own_load_old rfl _ _ rfl rfl hS hrC List.not_mem_nil rt_case34 ?_) | (go_at_call 9; refine own_calls hS (awake34_calls _) ?_; clear hS; (try clear ww); intro ww hS) | (go_at_call 10; refine Calls.mono (HM.out _ (bthen HB0.out hS.below)) ?_; rintro e w1 ⟨cs1, rfl, hR1, hb1⟩; have hrN1 := rangeAt_below (hS.range List.not_mem_nil hrN) hb1; have HB1 := Lib.hid (bthen HB0.out (bthen hS.below hb1)); obtain ⟨kx, kc, tx, tc, rfl⟩ := zero_out hR1; clear hR1 hS hb1 hrC hrF hrS hrN cV cU; have hS := own_start w1) | (go_at_call 15; refine own_calls hS (HSi.out _ (bthen HB1.out hS.below)) ?_; clear hS; (try clear ww); intro ww hS) | (refine w_ld rfl _ rfl (by rfl) (by first | exact rd_1 (by repeat constructor) (by first | rfl | assumption) | exact rd_w (by repeat constructor) (by rfl) | exact rd_o (by assumption) (by rfl) (by first | exact nmn | assumption | simp) | exact rd_h (by assumption) (by rfl) (by first | exact nmn | assumption | simp) | exact rd_1o (by assumption) (by first | exact nmn | assumption | simp) | exact rd_1h (by assumption) (by first | rfl | assumption) (by first | exact nmn | assumption | simp)) hS ?_) | (refine own_box rfl _ _ rfl (by rfl) hS ?_; clear hS; (try clear ww); intro bb ww hS) | (refine w_al rfl rfl hS ?_; clear hS; (try clear ww); intro bb ww hS) | (refine w_st rfl _ _ rfl (by rfl) (by rfl) (by repeat constructor) (by rfl) (by rfl) (by first | rfl | assumption) hS ?_; clear hS; (try clear ww); intro ww hS) | (refine w_s1 rfl _ _ rfl (by rfl) (by repeat constructor) (by first | exact .c | exact .t rfl) (by rfl) (by repeat constructor) hS ?_; clear hS; (try clear ww); intro ww hS))
  go_ret
  exact ⟨rfl, bthen HB1.out hS.below⟩

set_option maxHeartbeats 8000000 in
set_option maxRecDepth 100000 in
theorem scriptGrows_simple (F : Fnt) (l : Int) (c : Bool) (n : Nat) (base : Bx (n + 1)) (subs sups : List (Bx (n + 1))) (cs : List Value) (sx ux : Option Addr) (sc uc : Nat) (w : World) (hF : FntOk w F) (hr : Rep w (n + 1) base cs) (hs : RepL w (n + 1) sx subs) (hu : RepL w (n + 1) ux sups) (b1 : subs.length ≤ 1048576) (b2 : sups.length ≤ 1048576) (z : Int) (g0_ : Σ m, Bx (m + 1)) (hi : innerS (n + 1) base = some g0_) (h : MadeOkS F l c n base subs sups) : Calls Try.prog 8 #[.agg (caseS F l c cs (.slice sx subs.length sc) (.slice ux sups.length uc)).toArray, .int .u16 z] w (Gives (.bool true) w) := by
  have HM := Lib.hid (fun w' (hb : Below w.heap.size w w') => made34_ok F l c n base subs sups cs sx ux sc uc w' (hF.below hb) (hr.step hb) (hs.step hb) (hu.step hb) b1 b2 h)
  obtain ⟨v, hv, hcS⟩ := ref34_Simple_calls (n + 1) base cs w hr
  rw [hi] at hv
  obtain ⟨gcs, rfl, hg⟩ := hv
  have hallg := rep_all hg
  obtain ⟨g0, g1, g2, g3, g4, g5, g6, g7, g8, g9, g10, rfl⟩ := eleven hg.len
  have HSi := Lib.hid hcS
  clear hg hcS
  unfold scrB at HM
  generalize extL ((scrK F l c n base subs sups).map (·.1)) = E at *
  generalize scrK F l c n base subs sups = K at *
  obtain ⟨c0, c1, c2, c3, c4, c5, c6, c7, c8, c9, c10, rfl⟩ := eleven hr.len
  clear hF hr hs hu h hi b1 b2
  go_enter Try.func8, Try.ntmps8
  have hS := own_start w
  go_wp2_with (first | (refine own_unguard (by rfl) ?_) | (refine own_box rfl _ _ rfl rfl hS ?_; clear hS; intro kb w0 hS0; have hrC := (hS0.get at0).range; have HB0 := Lib.hid hS0.below; obtain ⟨hrF, hrS, hrN, cV, cU⟩ := caseS_out hrC; have hS := own_start w0; clear hS0) | (refine own_load_old rfl _ _ rfl rfl hS hrC List.not_mem_nil rt_case34 ?_) | (go_at_call 9; refine own_calls hS (awake34_calls _) ?_; clear hS; (try clear ww); intro ww hS) | (go_at_call 10; refine Calls.mono (HM.out _ (bthen HB0.out hS.below)) ?_; rintro e w1 ⟨cs1, rfl, hR1, hb1⟩; have hrF1 := rangeAt_below (hS.range List.not_mem_nil hrF) hb1; have hrS1 := rangeAt_below (hS.range List.not_mem_nil hrS) hb1; have hrN1 := rangeAt_below (hS.range List.not_mem_nil hrN) hb1; have cV1 := cell_below (hS.cell List.not_mem_nil cV) hb1; have cU1 := cell_below (hS.cell List.not_mem_nil cU) hb1; have HB1 := Lib.hid (bthen HB0.out (bthen hS.below hb1)); obtain ⟨kx, kc, tx, tc, rfl, _, _, _, hks⟩ := rep_out hR1; have HKs := Lib.hid hks; clear hks hR1 hS hb1 hrC hrF hrS hrN cV cU; have hS := own_start w1) | (go_at_call 15; refine own_calls hS (HSi.out _ (bthen HB1.out hS.below)) ?_; clear hS; (try clear ww); intro ww hS) | (refine w_ld rfl _ rfl (by rfl) (by first | exact rd_1 (by repeat constructor) (by first | rfl | assumption) | exact rd_w (by repeat constructor) (by rfl) | exact rd_o (by assumption) (by rfl) (by first | exact nmn | assumption | simp) | exact rd_h (by assumption) (by rfl) (by first | exact nmn | assumption | simp) | exact rd_1o (by assumption) (by first | exact nmn | assumption | simp) | exact rd_1h (by assumption) (by first | rfl | assumption) (by first | exact nmn | assumption | simp)) hS ?_) | (refine own_box rfl _ _ rfl (by rfl) hS ?_; clear hS; (try clear ww); intro bb ww hS) | (refine w_al rfl rfl hS ?_; clear hS; (try clear ww); intro bb ww hS) | (refine w_st rfl _ _ rfl (by rfl) (by rfl) (by repeat constructor) (by rfl) (by rfl) (by first | rfl | assumption) hS ?_; clear hS; (try clear ww); intro ww hS) | (refine w_s1 rfl _ _ rfl (by rfl) (by repeat constructor) (by first | exact .c | exact .t rfl) (by rfl) (by repeat constructor) hS ?_; clear hS; (try clear ww); intro ww hS))
  go_ret
  exact ⟨rfl, bthen HB1.out hS.below⟩

set_option maxHeartbeats 16000000 in
set_option maxRecDepth 100000 in
theorem scriptGrows_00 (F : Fnt) (l : Int) (c : Bool) (n : Nat) (base : Bx (n + 1))  (cs : List Value) (sx ux : Option Addr) (sc uc : Nat) (w : World) (hF : FntOk w F) (hr : Rep w (n + 1) base cs) (hs : RepL w (n + 1) sx []) (hu : RepL w (n + 1) ux []) (b1 : 0 ≤ 1048576) (b2 : 0 ≤ 1048576) (z : Int) (_hz : 0 ≤ z ∧ z ≤ 65535) (hi : innerS (n + 1) base = none) (h : MadeOkS F l c n base [] []) : Calls Try.prog 8 #[.agg (caseS F l c cs (.slice sx 0 sc) (.slice ux 0 uc)).toArray, .int .u16 z] w (Gives (.bool true) w) := by
  have HM := Lib.hid (fun w' (hb : Below w.heap.size w w') => made34_ok F l c n base [] [] cs sx ux sc uc w' (hF.below hb) (hr.step hb) (hs.step hb) (hu.step hb) b1 b2 h)
  obtain ⟨v, hv, hcS⟩ := ref34_Simple_calls (n + 1) base cs w hr
  rw [hi] at hv
  obtain rfl : v = _ := hv
  have HSi := Lib.hid hcS
  clear hcS
  have eHM : scrB F l c n base [] [] = listB (n + 1) (extL ((scrK F l c n base [] []).map (·.1))).r (extL ((scrK F l c n base [] []).map (·.1))).h (extL ((scrK F l c n base [] []).map (·.1))).d [atXY (n + 1) base 0 0] := rfl
  rw [eHM] at HM
  clear eHM
  generalize extL ((scrK F l c n base [] []).map (·.1)) = E at *
  obtain ⟨c0, c1, c2, c3, c4, c5, c6, c7, c8, c9, c10, rfl⟩ := eleven hr.len
  have hall := rep_all hr
  obtain ⟨V8, hV8⟩ : ∃ v, Value.slice sx 0 sc = v := ⟨_, rfl⟩
  obtain ⟨U8, hU8⟩ : ∃ v, Value.slice ux 0 uc = v := ⟨_, rfl⟩
  have o8 : V8.oneCell' = true := by rw [← hV8]; rfl
  have oU : U8.oneCell' = true := by rw [← hU8]; rfl
  simp only [List.length_nil] at HM
  rw [hV8, hU8] at HM ⊢
  clear hF hr hs hu h hi b1 b2 _hz hV8 hall
  obtain ⟨⟨bk, bn, bz, bw, bh, bd, bx, by_, bo, bs⟩, bks⟩ := base
  (try simp only at *)
  go_enter Try.func8, Try.ntmps8
  have hS := own_start w
  go_wp2_with (first | (refine own_unguard (by rfl) ?_) | (refine own_box rfl _ _ rfl rfl hS ?_; clear hS; intro kb w0 hS0; have hrC := (hS0.get at0).range; have HB0 := Lib.hid hS0.below; obtain ⟨hrF, hrS, hrN, cV, cU⟩ := caseS_out hrC; have hS := own_start w0; clear hS0) | (refine own_load_old rfl _ _ rfl rfl hS hrC List.not_mem_nil rt_case34 ?_) | (go_at_call 9; refine own_calls hS (awake34_calls _) ?_; clear hS; (try clear ww); intro ww hS) | (go_at_call 10; refine Calls.mono (HM.out _ (bthen HB0.out hS.below)) ?_; rintro e w1 ⟨cs1, rfl, hR1, hb1⟩; have hrF1 := rangeAt_below (hS.range List.not_mem_nil hrF) hb1; have hrS1 := rangeAt_below (hS.range List.not_mem_nil hrS) hb1; have hrN1 := rangeAt_below (hS.range List.not_mem_nil hrN) hb1; have cV1 := cell_below (hS.cell List.not_mem_nil cV) hb1; have cU1 := cell_below (hS.cell List.not_mem_nil cU) hb1; have HB1 := Lib.hid (bthen HB0.out (bthen hS.below hb1)); obtain ⟨k, o, kc, tx, tc, q0, rfl, hk0, hp0⟩ := list1_out hR1; obtain ⟨kx0, kc0, sx0, sc0, rfl⟩ := kid_out hp0; have hrC1 := rangeAt_below (hS.range List.not_mem_nil hrC) hb1; clear hR1 hS hb1 hp0 hrC hrF hrS hrN cV cU; have hS := own_start w1) | (go_at_call 15; refine own_calls hS (HSi.out _ (bthen HB1.out hS.below)) ?_; clear hS; (try clear ww); intro ww hS) | (refine w_ld rfl _ rfl (by rfl) (by first | exact rd_1 (by repeat constructor) (by first | rfl | assumption) | exact rd_w (by repeat constructor) (by rfl) | exact rd_o (by assumption) (by rfl) (by first | exact nmn | assumption | simp) | exact rd_h (by assumption) (by rfl) (by first | exact nmn | assumption | simp) | exact rd_1o (by assumption) (by first | exact nmn | assumption | simp) | exact rd_1h (by assumption) (by first | rfl | assumption) (by first | exact nmn | assumption | simp)) hS ?_) | (refine own_box rfl _ _ rfl (by rfl) hS ?_; clear hS; (try clear ww); intro bb ww hS) | (refine w_al rfl rfl hS ?_; clear hS; (try clear ww); intro bb ww hS) | (refine w_st rfl _ _ rfl (by rfl) (by rfl) (by repeat constructor) (by rfl) (by rfl) (by first | rfl | assumption) hS ?_; clear hS; (try clear ww); intro ww hS) | (refine w_s1 rfl _ _ rfl (by rfl) (by repeat constructor) (by first | exact .c | exact .t rfl) (by rfl) (by repeat constructor) hS ?_; clear hS; (try clear ww); intro ww hS))
  go_ret
  exact ⟨rfl, bthen HB1.out hS.below⟩

set_option maxHeartbeats 16000000 in
set_option maxRecDepth 100000 in
theorem scriptGrows_11 (F : Fnt) (l : Int) (c : Bool) (n : Nat) (base : Bx (n + 1)) (sb : Bx (n + 1)) (sp : Bx (n + 1)) (cs : List Value) (sx ux : Option Addr) (sc uc : Nat) (w : World) (hF : FntOk w F) (hr : Rep w (n + 1) base cs) (hs : RepL w (n + 1) sx [sb]) (hu : RepL w (n + 1) ux [sp]) (b1 : 1 ≤ 1048576) (b2 : 1 ≤ 1048576) (z : Int) (_hz : 0 ≤ z ∧ z ≤ 65535) (hi : innerS (n + 1) base = none) (h : MadeOkS F l c n base [sb] [sp]) : Calls Try.prog 8 #[.agg (caseS F l c cs (.slice sx 1 sc) (.slice ux 1 uc)).toArray, .int .u16 z] w (Gives (.bool true) w) := by
  have HM := Lib.hid (fun w' (hb : Below w.heap.size w w') => made34_ok F l c n base [sb] [sp] cs sx ux sc uc w' (hF.below hb) (hr.step hb) (hs.step hb) (hu.step hb) b1 b2 h)
  obtain ⟨v, hv, hcS⟩ := ref34_Simple_calls (n + 1) base cs w hr
  rw [hi] at hv
  obtain rfl : v = _ := hv
  have HSi := Lib.hid hcS
  clear hcS
  have eHM : scrB F l c n base [sb] [sp] = listB (n + 1) (extL ((scrK F l c n base [sb] [sp]).map (·.1))).r (extL ((scrK F l c n base [sb] [sp]).map (·.1))).h (extL ((scrK F l c n base [sb] [sp]).map (·.1))).d [atXY (n + 1) base 0 0, atXY (n + 1) sb (base.1.w - italB F (n + 1) base) (-(scrUV F l c n base [sb] [sp]).2), atXY (n + 1) sp base.1.w (scrUV F l c n base [sb] [sp]).1] := rfl
  rw [eHM] at HM
  clear eHM
  generalize extL ((scrK F l c n base [sb] [sp]).map (·.1)) = E at *
  generalize (scrUV F l c n base [sb] [sp]).2 = VV at *
  generalize italB F (n + 1) base = IT at *
  generalize (scrUV F l c n base [sb] [sp]).1 = UU at *
  obtain ⟨c0, c1, c2, c3, c4, c5, c6, c7, c8, c9, c10, rfl⟩ := eleven hr.len
  have hall := rep_all hr
  obtain ⟨V8, hV8⟩ : ∃ v, Value.slice sx 1 sc = v := ⟨_, rfl⟩
  obtain ⟨U8, hU8⟩ : ∃ v, Value.slice ux 1 uc = v := ⟨_, rfl⟩
  have o8 : V8.oneCell' = true := by rw [← hV8]; rfl
  have oU : U8.oneCell' = true := by rw [← hU8]; rfl
  simp only [List.length_cons, List.length_nil, Nat.zero_add] at HM
  rw [hV8, hU8] at HM ⊢
  clear hF hr hs hu h hi b1 b2 _hz hV8 hall
  obtain ⟨⟨bk, bn, bz, bw, bh, bd, bx, by_, bo, bs⟩, bks⟩ := base
  obtain ⟨⟨sk, sn, sz, sw, sh, sd, sx', sy, so, ss⟩, sks⟩ := sb
  obtain ⟨⟨uk, un, uz, uw, uh, ud, ux', uy, uo, us⟩, uks⟩ := sp
  (try simp only at *)
  go_enter Try.func8, Try.ntmps8
  have hS := own_start w
  go_wp2_with (first | (refine own_unguard (by rfl) ?_) | (refine own_box rfl _ _ rfl rfl hS ?_; clear hS; intro kb w0 hS0; have hrC := (hS0.get at0).range; have HB0 := Lib.hid hS0.below; obtain ⟨hrF, hrS, hrN, cV, cU⟩ := caseS_out hrC; have hS := own_start w0; clear hS0) | (refine own_load_old rfl _ _ rfl rfl hS hrC List.not_mem_nil rt_case34 ?_) | (go_at_call 9; refine own_calls hS (awake34_calls _) ?_; clear hS; (try clear ww); intro ww hS) | (go_at_call 10; refine Calls.mono (HM.out _ (bthen HB0.out hS.below)) ?_; rintro e w1 ⟨cs1, rfl, hR1, hb1⟩; have hrF1 := rangeAt_below (hS.range List.not_mem_nil hrF) hb1; have hrS1 := rangeAt_below (hS.range List.not_mem_nil hrS) hb1; have hrN1 := rangeAt_below (hS.range List.not_mem_nil hrN) hb1; have cV1 := cell_below (hS.cell List.not_mem_nil cV) hb1; have cU1 := cell_below (hS.cell List.not_mem_nil cU) hb1; have HB1 := Lib.hid (bthen HB0.out (bthen hS.below hb1)); obtain ⟨k, o, kc, tx, tc, q0, q1, q2, rfl, hk0, hk1, hk2, hp0, hp1, hp2⟩ := three_out hR1; obtain ⟨kx0, kc0, sx0, sc0, rfl⟩ := kid_out hp0; obtain ⟨kx1, kc1, sx1, sc1, rfl⟩ := kid_out hp1; obtain ⟨kx2, kc2, sx2, sc2, rfl⟩ := kid_out hp2; have hrC1 := rangeAt_below (hS.range List.not_mem_nil hrC) hb1; clear hR1 hS hb1 hp0 hp1 hp2 hrC hrF hrS hrN cV cU; have hS := own_start w1) | (go_at_call 15; refine own_calls hS (HSi.out _ (bthen HB1.out hS.below)) ?_; clear hS; (try clear ww); intro ww hS) | (refine w_ld rfl _ rfl (by rfl) (by first | exact rd_1 (by repeat constructor) (by first | rfl | assumption) | exact rd_w (by repeat constructor) (by rfl) | exact rd_o (by assumption) (by rfl) (by first | exact nmn | assumption | simp) | exact rd_h (by assumption) (by rfl) (by first | exact nmn | assumption | simp) | exact rd_1o (by assumption) (by first | exact nmn | assumption | simp) | exact rd_1h (by assumption) (by first | rfl | assumption) (by first | exact nmn | assumption | simp)) hS ?_) | (refine own_box rfl _ _ rfl (by rfl) hS ?_; clear hS; (try clear ww); intro bb ww hS) | (refine w_al rfl rfl hS ?_; clear hS; (try clear ww); intro bb ww hS) | (refine w_st rfl _ _ rfl (by rfl) (by rfl) (by repeat constructor) (by rfl) (by rfl) (by first | rfl | assumption) hS ?_; clear hS; (try clear ww); intro ww hS) | (refine w_s1 rfl _ _ rfl (by rfl) (by repeat constructor) (by first | exact .c | exact .t rfl) (by rfl) (by repeat constructor) hS ?_; clear hS; (try clear ww); intro ww hS))
  go_ret
  exact ⟨rfl, bthen HB1.out hS.below⟩

end Go.Proofs.Ytgpabckipmhobaa
