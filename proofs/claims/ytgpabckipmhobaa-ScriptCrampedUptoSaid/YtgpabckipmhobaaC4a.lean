/- Chapter 34, ScriptCramped: the law returns true. -/
import Derived.Test.YtgpabckipmhobaaJ22
import Derived.Test.YtgpabckipmhobaaLwv
import Derived.Test.YtgpabckipmhobaaJ23
namespace Go.Proofs.Ytgpabckipmhobaa
open Go.RowKit

attribute [local irreducible] wpQuiet wpG wpP wpK wpList Code.wp Calls

instance zt_case34 : ZeroTy Try.prog 35 [.slice none 0 0, .slice none 0 0, .int .i64 0, .int .i64 0, .int .i64 0, .int .i64 0, .int .i64 0, .int .i64 0, .int .i64 0, .int .i64 0, .int .i64 0, .int .i64 0, .int .i64 0, .int .i64 0, .int .i64 0, .int .i64 0, .int .i64 0, .int .i64 0, .int .i64 0, .int .i64 0, .int .i64 0, .int .i64 0, .int .i64 0, .bool false, .int .i64 0, .string ⟨#[]⟩, .int .i64 0, .int .i64 0, .int .i64 0, .int .i64 0, .int .i64 0, .int .i64 0, .slice none 0 0, .int .i64 0, .slice none 0 0, .slice none 0 0, .slice none 0 0] := ⟨.agg #[.slice none 0 0, .slice none 0 0, .int .i64 0, .int .i64 0, .int .i64 0, .int .i64 0, .int .i64 0, .int .i64 0, .int .i64 0, .int .i64 0, .int .i64 0, .int .i64 0, .int .i64 0, .int .i64 0, .int .i64 0, .int .i64 0, .int .i64 0, .int .i64 0, .int .i64 0, .int .i64 0, .int .i64 0, .int .i64 0, .int .i64 0, .bool false, .int .i64 0, .string ⟨#[]⟩, .int .i64 0, .int .i64 0, .int .i64 0, .int .i64 0, .int .i64 0, .int .i64 0, .slice none 0 0, .int .i64 0, .slice none 0 0, .slice none 0 0, .slice none 0 0], by kernel_rfl, rfl⟩
instance zt_params34 : ZeroTy Try.prog 25 [.int .i64 0, .int .i64 0, .int .i64 0, .int .i64 0, .int .i64 0, .int .i64 0, .int .i64 0, .int .i64 0, .int .i64 0, .int .i64 0, .int .i64 0, .int .i64 0, .int .i64 0, .int .i64 0, .int .i64 0, .int .i64 0, .int .i64 0, .int .i64 0, .int .i64 0, .int .i64 0] := ⟨.agg #[.int .i64 0, .int .i64 0, .int .i64 0, .int .i64 0, .int .i64 0, .int .i64 0, .int .i64 0, .int .i64 0, .int .i64 0, .int .i64 0, .int .i64 0, .int .i64 0, .int .i64 0, .int .i64 0, .int .i64 0, .int .i64 0, .int .i64 0, .int .i64 0, .int .i64 0, .int .i64 0], by kernel_rfl, rfl⟩
theorem all_app {xs ys : List Value} (h1 : xs.all (·.oneCell') = true) (h2 : ys.all (·.oneCell') = true) : (xs ++ ys).all (·.oneCell') = true := by rw [List.all_append, h1, h2]; rfl
theorem range_sub34 {w : World} {b : Nat} {L cs : List Value} (h : w.rangeAt b 0 L) (i : Nat) (e : (L.drop i).take cs.length = cs) : w.rangeAt b i cs := fun j v hj => by
  have h1 : L[i + j]? = some v := by
    rw [← hj, ← e, List.getElem?_take, List.getElem?_drop, if_pos (List.getElem?_eq_some_iff.1 hj).1]
  have := h (i + j) v h1
  rwa [Nat.zero_add] at this

set_option maxHeartbeats 8000000 in
set_option maxRecDepth 100000 in
theorem scriptCramped_bad (F : Fnt) (l : Int) (c : Bool) (n : Nat) (base : Bx (n + 1)) (subs sups : List (Bx (n + 1))) (cs : List Value) (sx ux : Option Addr) (sc uc : Nat) (w : World) (hF : FntOk w F) (hr : Rep w (n + 1) base cs) (hs : RepL w (n + 1) sx subs) (hu : RepL w (n + 1) ux sups) (b1 : subs.length ≤ 1048576) (b2 : sups.length ≤ 1048576) (hb : ¬ MadeOkS F l false n base subs sups) : Calls Try.prog 3 #[.agg (caseS F l c cs (.slice sx subs.length sc) (.slice ux sups.length uc)).toArray] w (Gives (.bool true) w) := by
  have HM := Lib.hid (fun w' (h : Below w.heap.size w w') => made34_bad F l false n base subs sups cs sx ux sc uc w' (hF.below h) (hr.step h) (hs.step h) (hu.step h) b1 b2 0 hb)
  obtain ⟨c0, c1, c2, c3, c4, c5, c6, c7, c8, c9, c10, rfl⟩ := eleven hr.len
  obtain ⟨V8, hV8⟩ : ∃ v, Value.slice sx subs.length sc = v := ⟨_, rfl⟩
  obtain ⟨U8, hU8⟩ : ∃ v, Value.slice ux sups.length uc = v := ⟨_, rfl⟩
  rw [hV8, hU8] at HM ⊢
  clear hF hr hs hu hb hV8 hU8
  go_enter Try.func3, Try.ntmps3
  have hS := own_start w
  go_upto_region 3 with (first | (refine own_unguard (by rfl) ?_) | (refine own_box rfl _ _ rfl rfl hS ?_; clear hS; intro kb ww hS) | (go_at_call 9; refine own_calls hS (awake34_calls _) ?_; clear hS; (try clear ww); intro ww hS) | (refine w_ld rfl _ rfl (by rfl) (by first | exact rd_1 (by repeat constructor) (by first | rfl | assumption) | exact rd_w (by repeat constructor) (by rfl) | exact rd_o (by assumption) (by rfl) (by first | exact nmn | assumption | simp) | exact rd_h (by assumption) (by rfl) (by first | exact nmn | assumption | simp) | exact rd_1o (by assumption) (by first | exact nmn | assumption | simp) | exact rd_1h (by assumption) (by first | rfl | assumption) (by first | exact nmn | assumption | simp)) hS ?_) | (refine own_box rfl _ _ rfl (by rfl) hS ?_; clear hS; (try clear ww); intro bb ww hS) | (refine w_al rfl rfl hS ?_; clear hS; (try clear ww); intro bb ww hS) | (refine w_st rfl _ _ rfl (by rfl) (by rfl) (by repeat constructor) (by rfl) (by rfl) (by first | rfl | assumption) hS ?_; clear hS; (try clear ww); intro ww hS) | (refine w_s1 rfl _ _ rfl (by rfl) (by repeat constructor) (by first | exact .c | exact .t rfl) (by rfl) (by repeat constructor) hS ?_; clear hS; (try clear ww); intro ww hS))
  go_upto_region 4 with (first | (refine own_unguard (by rfl) ?_) | (refine own_store1 (i := 23) (v := .bool false) rfl _ _ _ rfl rfl rfl rfl hS at0 ot_bool (by show 23 < 37; decide) ?_; clear hS; (try clear ww); intro ww hS) | (refine w_ld rfl _ rfl (by rfl) (by first | exact rd_1 (by repeat constructor) (by first | rfl | assumption) | exact rd_w (by repeat constructor) (by rfl) | exact rd_o (by assumption) (by rfl) (by first | exact nmn | assumption | simp) | exact rd_h (by assumption) (by rfl) (by first | exact nmn | assumption | simp) | exact rd_1o (by assumption) (by first | exact nmn | assumption | simp) | exact rd_1h (by assumption) (by first | rfl | assumption) (by first | exact nmn | assumption | simp)) hS ?_) | (refine own_box rfl _ _ rfl (by rfl) hS ?_; clear hS; (try clear ww); intro bb ww hS) | (refine w_al rfl rfl hS ?_; clear hS; (try clear ww); intro bb ww hS) | (refine w_st rfl _ _ rfl (by rfl) (by rfl) (by repeat constructor) (by rfl) (by rfl) (by first | rfl | assumption) hS ?_; clear hS; (try clear ww); intro ww hS) | (refine w_s1 rfl _ _ rfl (by rfl) (by repeat constructor) (by first | exact .c | exact .t rfl) (by rfl) (by repeat constructor) hS ?_; clear hS; (try clear ww); intro ww hS))
  have hrC : ww.rangeAt kb 0 (caseS F l false [c0, c1, c2, c3, c4, c5, c6, c7, c8, c9, c10] V8 U8) := (hS.get at0).range
  have HB0 := Lib.hid hS.below
  obtain ⟨hrF, hrS, hrN, cV, cU⟩ := caseS_out hrC
  obtain ⟨rP, _⟩ := fnt_cells hrF
  clear hS
  have hS := own_start ww
  go_wp2_with (first | (refine own_unguard (by rfl) ?_) | (refine own_load_old rfl _ _ rfl rfl hS hrC List.not_mem_nil rt_case34 ?_) | (go_at_call 10; refine Calls.mono (HM.out _ (bthen HB0.out hS.below)) ?_; rintro e w1 ⟨cs1, rfl, hR1, hb1⟩; have rP1 := rangeAt_below (hS.range List.not_mem_nil rP) hb1; have HB1 := Lib.hid (bthen HB0.out (bthen hS.below hb1)); obtain ⟨kx, kc, tx, tc, rfl⟩ := zero_out hR1; clear hR1 hS hb1 hrC hrF hrS hrN cV cU rP; have hS := own_start w1) | (refine w_ld rfl _ rfl (by rfl) (by first | exact rd_1 (by repeat constructor) (by first | rfl | assumption) | exact rd_w (by repeat constructor) (by rfl) | exact rd_o (by assumption) (by rfl) (by first | exact nmn | assumption | simp) | exact rd_h (by assumption) (by rfl) (by first | exact nmn | assumption | simp) | exact rd_1o (by assumption) (by first | exact nmn | assumption | simp) | exact rd_1h (by assumption) (by first | rfl | assumption) (by first | exact nmn | assumption | simp)) hS ?_) | (refine own_box rfl _ _ rfl (by rfl) hS ?_; clear hS; (try clear ww); intro bb ww hS) | (refine w_al rfl rfl hS ?_; clear hS; (try clear ww); intro bb ww hS) | (refine w_st rfl _ _ rfl (by rfl) (by rfl) (by repeat constructor) (by rfl) (by rfl) (by first | rfl | assumption) hS ?_; clear hS; (try clear ww); intro ww hS) | (refine w_s1 rfl _ _ rfl (by rfl) (by repeat constructor) (by first | exact .c | exact .t rfl) (by rfl) (by repeat constructor) hS ?_; clear hS; (try clear ww); intro ww hS))
  go_ret
  exact ⟨rfl, bthen HB1.out hS.below⟩

set_option maxHeartbeats 16000000 in
set_option maxRecDepth 100000 in
theorem scriptCramped_00_0 (F : Fnt) (l : Int) (c : Bool) (n : Nat) (base : Bx (n + 1))  (cs : List Value) (sx ux : Option Addr) (sc uc : Nat) (w : World) (hF : FntOk w F) (hr : Rep w (n + 1) base cs) (hs : RepL w (n + 1) sx []) (hu : RepL w (n + 1) ux []) (b1 : 0 ≤ 1048576) (b2 : 0 ≤ 1048576) (h : MadeOkS F l false n base [] []) : Calls Try.prog 3 #[.agg (caseS F l c cs (.slice sx 0 sc) (.slice ux 0 uc)).toArray] w (Gives (.bool true) w) := by
  have HM := Lib.hid (fun w' (hb : Below w.heap.size w w') => made34_ok F l false n base [] [] cs sx ux sc uc w' (hF.below hb) (hr.step hb) (hs.step hb) (hu.step hb) b1 b2 h)
  have eHM : scrB F l false n base [] [] = listB (n + 1) (extL ((scrK F l false n base [] []).map (·.1))).r (extL ((scrK F l false n base [] []).map (·.1))).h (extL ((scrK F l false n base [] []).map (·.1))).d [atXY (n + 1) base 0 0] := rfl
  rw [eHM] at HM
  clear eHM
  generalize extL ((scrK F l false n base [] []).map (·.1)) = E at *
  obtain ⟨c0, c1, c2, c3, c4, c5, c6, c7, c8, c9, c10, rfl⟩ := eleven hr.len
  have hall := rep_all hr
  obtain ⟨V8, hV8⟩ : ∃ v, Value.slice sx 0 sc = v := ⟨_, rfl⟩
  obtain ⟨U8, hU8⟩ : ∃ v, Value.slice ux 0 uc = v := ⟨_, rfl⟩
  have o8 : V8.oneCell' = true := by rw [← hV8]; rfl
  have oU : U8.oneCell' = true := by rw [← hU8]; rfl
  simp only [List.length_nil] at HM
  rw [hV8, hU8] at HM ⊢
  clear hF hr hs hu h b1 b2 hV8 hall
  obtain ⟨⟨bk, bn, bz, bw, bh, bd, bx, by_, bo, bs⟩, bks⟩ := base
  (try simp only at *)
  go_enter Try.func3, Try.ntmps3
  have hS := own_start w
  go_upto_region 3 with (first | (refine own_unguard (by rfl) ?_) | (refine own_box rfl _ _ rfl rfl hS ?_; clear hS; intro kb ww hS) | (go_at_call 9; refine own_calls hS (awake34_calls _) ?_; clear hS; (try clear ww); intro ww hS) | (refine w_ld rfl _ rfl (by rfl) (by first | exact rd_1 (by repeat constructor) (by first | rfl | assumption) | exact rd_w (by repeat constructor) (by rfl) | exact rd_o (by assumption) (by rfl) (by first | exact nmn | assumption | simp) | exact rd_h (by assumption) (by rfl) (by first | exact nmn | assumption | simp) | exact rd_1o (by assumption) (by first | exact nmn | assumption | simp) | exact rd_1h (by assumption) (by first | rfl | assumption) (by first | exact nmn | assumption | simp)) hS ?_) | (refine own_box rfl _ _ rfl (by rfl) hS ?_; clear hS; (try clear ww); intro bb ww hS) | (refine w_al rfl rfl hS ?_; clear hS; (try clear ww); intro bb ww hS) | (refine w_st rfl _ _ rfl (by rfl) (by rfl) (by repeat constructor) (by rfl) (by rfl) (by first | rfl | assumption) hS ?_; clear hS; (try clear ww); intro ww hS) | (refine w_s1 rfl _ _ rfl (by rfl) (by repeat constructor) (by first | exact .c | exact .t rfl) (by rfl) (by repeat constructor) hS ?_; clear hS; (try clear ww); intro ww hS))
  go_upto_region 4 with (first | (refine own_unguard (by rfl) ?_) | (refine own_store1 (i := 23) (v := .bool false) rfl _ _ _ rfl rfl rfl rfl hS at0 ot_bool (by show 23 < 37; decide) ?_; clear hS; (try clear ww); intro ww hS) | (refine w_ld rfl _ rfl (by rfl) (by first | exact rd_1 (by repeat constructor) (by first | rfl | assumption) | exact rd_w (by repeat constructor) (by rfl) | exact rd_o (by assumption) (by rfl) (by first | exact nmn | assumption | simp) | exact rd_h (by assumption) (by rfl) (by first | exact nmn | assumption | simp) | exact rd_1o (by assumption) (by first | exact nmn | assumption | simp) | exact rd_1h (by assumption) (by first | rfl | assumption) (by first | exact nmn | assumption | simp)) hS ?_) | (refine own_box rfl _ _ rfl (by rfl) hS ?_; clear hS; (try clear ww); intro bb ww hS) | (refine w_al rfl rfl hS ?_; clear hS; (try clear ww); intro bb ww hS) | (refine w_st rfl _ _ rfl (by rfl) (by rfl) (by repeat constructor) (by rfl) (by rfl) (by first | rfl | assumption) hS ?_; clear hS; (try clear ww); intro ww hS) | (refine w_s1 rfl _ _ rfl (by rfl) (by repeat constructor) (by first | exact .c | exact .t rfl) (by rfl) (by repeat constructor) hS ?_; clear hS; (try clear ww); intro ww hS))
  have hrC : ww.rangeAt kb 0 (caseS F l false [c0, c1, c2, c3, c4, c5, c6, c7, c8, c9, c10] V8 U8) := (hS.get at0).range
  have HB0 := Lib.hid hS.below
  obtain ⟨hrF, hrS, hrN, cV, cU⟩ := caseS_out hrC
  obtain ⟨rP, _⟩ := fnt_cells hrF
  clear hS
  have hS := own_start ww
  go_wp2_with (first | (refine own_unguard (by rfl) ?_) | (refine own_load_old rfl _ _ rfl rfl hS hrC List.not_mem_nil rt_case34 ?_) | (go_at_call 10; refine Calls.mono (HM.out _ (bthen HB0.out hS.below)) ?_; rintro e w1 ⟨cs1, rfl, hR1, hb1⟩; have hrF1 := rangeAt_below (hS.range List.not_mem_nil hrF) hb1; have rP1 := rangeAt_below (hS.range List.not_mem_nil rP) hb1; have hrC1 := rangeAt_below (hS.range List.not_mem_nil hrC) hb1; have cU1 := cell_below (hS.cell List.not_mem_nil cU) hb1; have HB1 := Lib.hid (bthen HB0.out (bthen hS.below hb1));  obtain ⟨ak, ao, akc, atx, atc, aq0, rfl, ak0, ap0⟩ := list1_out hR1; obtain ⟨akx0, akc0, asx0, asc0, rfl⟩ := kid_out ap0; clear hR1 hS hb1 ap0 hrC hrF hrS hrN cV cU rP; have hS := own_start w1) | (refine w_ld rfl _ rfl (by rfl) (by first | exact rd_1 (by repeat constructor) (by first | rfl | assumption) | exact rd_w (by repeat constructor) (by rfl) | exact rd_o (by assumption) (by rfl) (by first | exact nmn | assumption | simp) | exact rd_h (by assumption) (by rfl) (by first | exact nmn | assumption | simp) | exact rd_1o (by assumption) (by first | exact nmn | assumption | simp) | exact rd_1h (by assumption) (by first | rfl | assumption) (by first | exact nmn | assumption | simp)) hS ?_) | (refine own_box rfl _ _ rfl (by rfl) hS ?_; clear hS; (try clear ww); intro bb ww hS) | (refine w_al rfl rfl hS ?_; clear hS; (try clear ww); intro bb ww hS) | (refine w_st rfl _ _ rfl (by rfl) (by rfl) (by repeat constructor) (by rfl) (by rfl) (by first | rfl | assumption) hS ?_; clear hS; (try clear ww); intro ww hS) | (refine w_s1 rfl _ _ rfl (by rfl) (by repeat constructor) (by first | exact .c | exact .t rfl) (by rfl) (by repeat constructor) hS ?_; clear hS; (try clear ww); intro ww hS))
  go_ret
  exact ⟨rfl, bthen HB1.out hS.below⟩

set_option maxHeartbeats 16000000 in
set_option maxRecDepth 100000 in
theorem scriptCramped_11_0 (F : Fnt) (l : Int) (c : Bool) (n : Nat) (base : Bx (n + 1)) (sb : Bx (n + 1)) (sp : Bx (n + 1)) (cs : List Value) (sx ux : Option Addr) (sc uc : Nat) (w : World) (hF : FntOk w F) (hr : Rep w (n + 1) base cs) (hs : RepL w (n + 1) sx [sb]) (hu : RepL w (n + 1) ux [sp]) (b1 : 1 ≤ 1048576) (b2 : 1 ≤ 1048576) (h : MadeOkS F l false n base [sb] [sp]) : Calls Try.prog 3 #[.agg (caseS F l c cs (.slice sx 1 sc) (.slice ux 1 uc)).toArray] w (Gives (.bool true) w) := by
  have HM := Lib.hid (fun w' (hb : Below w.heap.size w w') => made34_ok F l false n base [sb] [sp] cs sx ux sc uc w' (hF.below hb) (hr.step hb) (hs.step hb) (hu.step hb) b1 b2 h)
  have eHM : scrB F l false n base [sb] [sp] = listB (n + 1) (extL ((scrK F l false n base [sb] [sp]).map (·.1))).r (extL ((scrK F l false n base [sb] [sp]).map (·.1))).h (extL ((scrK F l false n base [sb] [sp]).map (·.1))).d [atXY (n + 1) base 0 0, atXY (n + 1) sb (base.1.w - italB F (n + 1) base) (-(scrUV F l false n base [sb] [sp]).2), atXY (n + 1) sp base.1.w (scrUV F l false n base [sb] [sp]).1] := rfl
  rw [eHM] at HM
  clear eHM
  generalize extL ((scrK F l false n base [sb] [sp]).map (·.1)) = E at *
  generalize (scrUV F l false n base [sb] [sp]).2 = VV at *
  generalize (scrUV F l false n base [sb] [sp]).1 = UU at *
  generalize italB F (n + 1) base = IT at *
  obtain ⟨c0, c1, c2, c3, c4, c5, c6, c7, c8, c9, c10, rfl⟩ := eleven hr.len
  have hall := rep_all hr
  obtain ⟨V8, hV8⟩ : ∃ v, Value.slice sx 1 sc = v := ⟨_, rfl⟩
  obtain ⟨U8, hU8⟩ : ∃ v, Value.slice ux 1 uc = v := ⟨_, rfl⟩
  have o8 : V8.oneCell' = true := by rw [← hV8]; rfl
  have oU : U8.oneCell' = true := by rw [← hU8]; rfl
  simp only [List.length_cons, List.length_nil, Nat.zero_add] at HM
  rw [hV8, hU8] at HM ⊢
  clear hF hr hs hu h b1 b2 hV8 hall
  obtain ⟨⟨bk, bn, bz, bw, bh, bd, bx, by_, bo, bs⟩, bks⟩ := base
  obtain ⟨⟨sk, sn, sz, sw, sh, sd, sx', sy, so, ss⟩, sks⟩ := sb
  obtain ⟨⟨uk, un, uz, uw, uh, ud, ux', uy, uo, us⟩, uks⟩ := sp
  (try simp only at *)
  go_enter Try.func3, Try.ntmps3
  have hS := own_start w
  go_upto_region 3 with (first | (refine own_unguard (by rfl) ?_) | (refine own_box rfl _ _ rfl rfl hS ?_; clear hS; intro kb ww hS) | (go_at_call 9; refine own_calls hS (awake34_calls _) ?_; clear hS; (try clear ww); intro ww hS) | (refine w_ld rfl _ rfl (by rfl) (by first | exact rd_1 (by repeat constructor) (by first | rfl | assumption) | exact rd_w (by repeat constructor) (by rfl) | exact rd_o (by assumption) (by rfl) (by first | exact nmn | assumption | simp) | exact rd_h (by assumption) (by rfl) (by first | exact nmn | assumption | simp) | exact rd_1o (by assumption) (by first | exact nmn | assumption | simp) | exact rd_1h (by assumption) (by first | rfl | assumption) (by first | exact nmn | assumption | simp)) hS ?_) | (refine own_box rfl _ _ rfl (by rfl) hS ?_; clear hS; (try clear ww); intro bb ww hS) | (refine w_al rfl rfl hS ?_; clear hS; (try clear ww); intro bb ww hS) | (refine w_st rfl _ _ rfl (by rfl) (by rfl) (by repeat constructor) (by rfl) (by rfl) (by first | rfl | assumption) hS ?_; clear hS; (try clear ww); intro ww hS) | (refine w_s1 rfl _ _ rfl (by rfl) (by repeat constructor) (by first | exact .c | exact .t rfl) (by rfl) (by repeat constructor) hS ?_; clear hS; (try clear ww); intro ww hS))
  go_upto_region 4 with (first | (refine own_unguard (by rfl) ?_) | (refine own_store1 (i := 23) (v := .bool false) rfl _ _ _ rfl rfl rfl rfl hS at0 ot_bool (by show 23 < 37; decide) ?_; clear hS; (try clear ww); intro ww hS) | (refine w_ld rfl _ rfl (by rfl) (by first | exact rd_1 (by repeat constructor) (by first | rfl | assumption) | exact rd_w (by repeat constructor) (by rfl) | exact rd_o (by assumption) (by rfl) (by first | exact nmn | assumption | simp) | exact rd_h (by assumption) (by rfl) (by first | exact nmn | assumption | simp) | exact rd_1o (by assumption) (by first | exact nmn | assumption | simp) | exact rd_1h (by assumption) (by first | rfl | assumption) (by first | exact nmn | assumption | simp)) hS ?_) | (refine own_box rfl _ _ rfl (by rfl) hS ?_; clear hS; (try clear ww); intro bb ww hS) | (refine w_al rfl rfl hS ?_; clear hS; (try clear ww); intro bb ww hS) | (refine w_st rfl _ _ rfl (by rfl) (by rfl) (by repeat constructor) (by rfl) (by rfl) (by first | rfl | assumption) hS ?_; clear hS; (try clear ww); intro ww hS) | (refine w_s1 rfl _ _ rfl (by rfl) (by repeat constructor) (by first | exact .c | exact .t rfl) (by rfl) (by repeat constructor) hS ?_; clear hS; (try clear ww); intro ww hS))
  have hrC : ww.rangeAt kb 0 (caseS F l false [c0, c1, c2, c3, c4, c5, c6, c7, c8, c9, c10] V8 U8) := (hS.get at0).range
  have HB0 := Lib.hid hS.below
  obtain ⟨hrF, hrS, hrN, cV, cU⟩ := caseS_out hrC
  obtain ⟨rP, _⟩ := fnt_cells hrF
  clear hS
  have hS := own_start ww
  go_wp2_with (first | (refine own_unguard (by rfl) ?_) | (refine own_load_old rfl _ _ rfl rfl hS hrC List.not_mem_nil rt_case34 ?_) | (go_at_call 10; refine Calls.mono (HM.out _ (bthen HB0.out hS.below)) ?_; rintro e w1 ⟨cs1, rfl, hR1, hb1⟩; have hrF1 := rangeAt_below (hS.range List.not_mem_nil hrF) hb1; have rP1 := rangeAt_below (hS.range List.not_mem_nil rP) hb1; have hrC1 := rangeAt_below (hS.range List.not_mem_nil hrC) hb1; have cU1 := cell_below (hS.cell List.not_mem_nil cU) hb1; have HB1 := Lib.hid (bthen HB0.out (bthen hS.below hb1));  obtain ⟨ak, ao, akc, atx, atc, aq0, aq1, aq2, rfl, ak0, ak1, ak2, ap0, ap1, ap2⟩ := three_out hR1; obtain ⟨akx0, akc0, asx0, asc0, rfl⟩ := kid_out ap0; obtain ⟨akx1, akc1, asx1, asc1, rfl⟩ := kid_out ap1; obtain ⟨akx2, akc2, asx2, asc2, rfl⟩ := kid_out ap2; clear hR1 hS hb1 ap0 ap1 ap2 hrC hrF hrS hrN cV cU rP; have hS := own_start w1) | (refine w_ld rfl _ rfl (by rfl) (by first | exact rd_1 (by repeat constructor) (by first | rfl | assumption) | exact rd_w (by repeat constructor) (by rfl) | exact rd_o (by assumption) (by rfl) (by first | exact nmn | assumption | simp) | exact rd_h (by assumption) (by rfl) (by first | exact nmn | assumption | simp) | exact rd_1o (by assumption) (by first | exact nmn | assumption | simp) | exact rd_1h (by assumption) (by first | rfl | assumption) (by first | exact nmn | assumption | simp)) hS ?_) | (refine own_box rfl _ _ rfl (by rfl) hS ?_; clear hS; (try clear ww); intro bb ww hS) | (refine w_al rfl rfl hS ?_; clear hS; (try clear ww); intro bb ww hS) | (refine w_st rfl _ _ rfl (by rfl) (by rfl) (by repeat constructor) (by rfl) (by rfl) (by first | rfl | assumption) hS ?_; clear hS; (try clear ww); intro ww hS) | (refine w_s1 rfl _ _ rfl (by rfl) (by repeat constructor) (by first | exact .c | exact .t rfl) (by rfl) (by repeat constructor) hS ?_; clear hS; (try clear ww); intro ww hS))
  go_ret
  exact ⟨rfl, bthen HB1.out hS.below⟩

set_option maxHeartbeats 16000000 in
set_option maxRecDepth 100000 in
theorem scriptCramped_01_1 (F : Fnt) (l : Int) (c : Bool) (n : Nat) (base : Bx (n + 1)) (sp : Bx (n + 1)) (cs : List Value) (sx ux : Option Addr) (sc uc : Nat) (w : World) (hF : FntOk w F) (hr : Rep w (n + 1) base cs) (hs : RepL w (n + 1) sx []) (hu : RepL w (n + 1) ux [sp]) (b1 : 0 ≤ 1048576) (b2 : 1 ≤ 1048576) (h : MadeOkS F l false n base [] [sp]) (h3 : F.sup1 < F.sup3) : Calls Try.prog 3 #[.agg (caseS F l c cs (.slice sx 0 sc) (.slice ux 1 uc)).toArray] w (Gives (.bool true) w) := by
  have HM := Lib.hid (fun w' (hb : Below w.heap.size w w') => made34_ok F l false n base [] [sp] cs sx ux sc uc w' (hF.below hb) (hr.step hb) (hs.step hb) (hu.step hb) b1 b2 h)
  have d1 : decide (F.sup1 < F.sup3) = true := decide_eq_true h3
  have eHM : scrB F l false n base [] [sp] = listB (n + 1) (extL ((scrK F l false n base [] [sp]).map (·.1))).r (extL ((scrK F l false n base [] [sp]).map (·.1))).h (extL ((scrK F l false n base [] [sp]).map (·.1))).d [atXY (n + 1) base 0 0, atXY (n + 1) sp base.1.w (scrUV F l false n base [] [sp]).1] := rfl
  rw [eHM] at HM
  clear eHM
  generalize extL ((scrK F l false n base [] [sp]).map (·.1)) = E at *
  generalize (scrUV F l false n base [] [sp]).1 = UU at *
  obtain ⟨c0, c1, c2, c3, c4, c5, c6, c7, c8, c9, c10, rfl⟩ := eleven hr.len
  have hall := rep_all hr
  obtain ⟨V8, hV8⟩ : ∃ v, Value.slice sx 0 sc = v := ⟨_, rfl⟩
  obtain ⟨U8, hU8⟩ : ∃ v, Value.slice ux 1 uc = v := ⟨_, rfl⟩
  have o8 : V8.oneCell' = true := by rw [← hV8]; rfl
  have oU : U8.oneCell' = true := by rw [← hU8]; rfl
  simp only [List.length_cons, List.length_nil, Nat.zero_add] at HM
  rw [hV8, hU8] at HM ⊢
  clear hF hr hs hu h b1 b2 h3 hV8 hall
  obtain ⟨⟨bk, bn, bz, bw, bh, bd, bx, by_, bo, bs⟩, bks⟩ := base
  obtain ⟨⟨uk, un, uz, uw, uh, ud, ux', uy, uo, us⟩, uks⟩ := sp
  (try simp only at *)
  go_enter Try.func3, Try.ntmps3
  have hS := own_start w
  go_upto_region 3 with (first | (refine own_unguard (by rfl) ?_) | (refine own_box rfl _ _ rfl rfl hS ?_; clear hS; intro kb ww hS) | (go_at_call 9; refine own_calls hS (awake34_calls _) ?_; clear hS; (try clear ww); intro ww hS) | (refine w_ld rfl _ rfl (by rfl) (by first | exact rd_1 (by repeat constructor) (by first | rfl | assumption) | exact rd_w (by repeat constructor) (by rfl) | exact rd_o (by assumption) (by rfl) (by first | exact nmn | assumption | simp) | exact rd_h (by assumption) (by rfl) (by first | exact nmn | assumption | simp) | exact rd_1o (by assumption) (by first | exact nmn | assumption | simp) | exact rd_1h (by assumption) (by first | rfl | assumption) (by first | exact nmn | assumption | simp)) hS ?_) | (refine own_box rfl _ _ rfl (by rfl) hS ?_; clear hS; (try clear ww); intro bb ww hS) | (refine w_al rfl rfl hS ?_; clear hS; (try clear ww); intro bb ww hS) | (refine w_st rfl _ _ rfl (by rfl) (by rfl) (by repeat constructor) (by rfl) (by rfl) (by first | rfl | assumption) hS ?_; clear hS; (try clear ww); intro ww hS) | (refine w_s1 rfl _ _ rfl (by rfl) (by repeat constructor) (by first | exact .c | exact .t rfl) (by rfl) (by repeat constructor) hS ?_; clear hS; (try clear ww); intro ww hS))
  go_upto_region 4 with (first | (refine own_unguard (by rfl) ?_) | (refine own_store1 (i := 23) (v := .bool false) rfl _ _ _ rfl rfl rfl rfl hS at0 ot_bool (by show 23 < 37; decide) ?_; clear hS; (try clear ww); intro ww hS) | (refine w_ld rfl _ rfl (by rfl) (by first | exact rd_1 (by repeat constructor) (by first | rfl | assumption) | exact rd_w (by repeat constructor) (by rfl) | exact rd_o (by assumption) (by rfl) (by first | exact nmn | assumption | simp) | exact rd_h (by assumption) (by rfl) (by first | exact nmn | assumption | simp) | exact rd_1o (by assumption) (by first | exact nmn | assumption | simp) | exact rd_1h (by assumption) (by first | rfl | assumption) (by first | exact nmn | assumption | simp)) hS ?_) | (refine own_box rfl _ _ rfl (by rfl) hS ?_; clear hS; (try clear ww); intro bb ww hS) | (refine w_al rfl rfl hS ?_; clear hS; (try clear ww); intro bb ww hS) | (refine w_st rfl _ _ rfl (by rfl) (by rfl) (by repeat constructor) (by rfl) (by rfl) (by first | rfl | assumption) hS ?_; clear hS; (try clear ww); intro ww hS) | (refine w_s1 rfl _ _ rfl (by rfl) (by repeat constructor) (by first | exact .c | exact .t rfl) (by rfl) (by repeat constructor) hS ?_; clear hS; (try clear ww); intro ww hS))
  have hrC : ww.rangeAt kb 0 (caseS F l false [c0, c1, c2, c3, c4, c5, c6, c7, c8, c9, c10] V8 U8) := (hS.get at0).range
  have HB0 := Lib.hid hS.below
  obtain ⟨hrF, hrS, hrN, cV, cU⟩ := caseS_out hrC
  obtain ⟨rP, _⟩ := fnt_cells hrF
  clear hS
  have hS := own_start ww
  go_wp2_with (first | (refine own_unguard (by rfl) ?_) | (refine own_load_old rfl _ _ rfl rfl hS hrC List.not_mem_nil rt_case34 ?_) | (go_at_call 10; refine Calls.mono (HM.out _ (bthen HB0.out hS.below)) ?_; rintro e w1 ⟨cs1, rfl, hR1, hb1⟩; have hrF1 := rangeAt_below (hS.range List.not_mem_nil hrF) hb1; have rP1 := rangeAt_below (hS.range List.not_mem_nil rP) hb1; have hrC1 := rangeAt_below (hS.range List.not_mem_nil hrC) hb1; have cU1 := cell_below (hS.cell List.not_mem_nil cU) hb1; have HB1 := Lib.hid (bthen HB0.out (bthen hS.below hb1));  obtain ⟨ak, ao, akc, atx, atc, aq0, aq1, rfl, ak0, ak1, ap0, ap1⟩ := list2_out hR1; obtain ⟨akx0, akc0, asx0, asc0, rfl⟩ := kid_out ap0; obtain ⟨akx1, akc1, asx1, asc1, rfl⟩ := kid_out ap1; clear hR1 hS hb1 ap0 ap1 hrC hrF hrS hrN cV cU rP; have hS := own_start w1) | (refine w_ld rfl _ rfl (by rfl) (by first | exact rd_1 (by repeat constructor) (by first | rfl | assumption) | exact rd_w (by repeat constructor) (by rfl) | exact rd_o (by assumption) (by rfl) (by first | exact nmn | assumption | simp) | exact rd_h (by assumption) (by rfl) (by first | exact nmn | assumption | simp) | exact rd_1o (by assumption) (by first | exact nmn | assumption | simp) | exact rd_1h (by assumption) (by first | rfl | assumption) (by first | exact nmn | assumption | simp)) hS ?_) | (refine own_box rfl _ _ rfl (by rfl) hS ?_; clear hS; (try clear ww); intro bb ww hS) | (refine w_al rfl rfl hS ?_; clear hS; (try clear ww); intro bb ww hS) | (refine w_st rfl _ _ rfl (by rfl) (by rfl) (by repeat constructor) (by rfl) (by rfl) (by first | rfl | assumption) hS ?_; clear hS; (try clear ww); intro ww hS) | (refine w_s1 rfl _ _ rfl (by rfl) (by repeat constructor) (by first | exact .c | exact .t rfl) (by rfl) (by repeat constructor) hS ?_; clear hS; (try clear ww); intro ww hS))
  go_ret
  exact ⟨rfl, bthen HB1.out hS.below⟩

set_option maxHeartbeats 16000000 in
set_option maxRecDepth 100000 in
theorem scriptCramped_01_2 (F : Fnt) (l : Int) (c : Bool) (n : Nat) (base : Bx (n + 1)) (sp : Bx (n + 1)) (cs : List Value) (sx ux : Option Addr) (sc uc : Nat) (w : World) (hF : FntOk w F) (hr : Rep w (n + 1) base cs) (hs : RepL w (n + 1) sx []) (hu : RepL w (n + 1) ux [sp]) (b1 : 0 ≤ 1048576) (b2 : 1 ≤ 1048576) (h : MadeOkS F l false n base [] [sp]) (h3 : ¬ F.sup1 < F.sup3) (h4 : F.sup2 < F.sup3) : Calls Try.prog 3 #[.agg (caseS F l c cs (.slice sx 0 sc) (.slice ux 1 uc)).toArray] w (Gives (.bool true) w) := by
  have HM := Lib.hid (fun w' (hb : Below w.heap.size w w') => made34_ok F l false n base [] [sp] cs sx ux sc uc w' (hF.below hb) (hr.step hb) (hs.step hb) (hu.step hb) b1 b2 h)
  have d1 : decide (F.sup1 < F.sup3) = false := decide_eq_false h3
  have d2 : decide (F.sup2 < F.sup3) = true := decide_eq_true h4
  have eHM : scrB F l false n base [] [sp] = listB (n + 1) (extL ((scrK F l false n base [] [sp]).map (·.1))).r (extL ((scrK F l false n base [] [sp]).map (·.1))).h (extL ((scrK F l false n base [] [sp]).map (·.1))).d [atXY (n + 1) base 0 0, atXY (n + 1) sp base.1.w (scrUV F l false n base [] [sp]).1] := rfl
  rw [eHM] at HM
  clear eHM
  generalize extL ((scrK F l false n base [] [sp]).map (·.1)) = E at *
  generalize (scrUV F l false n base [] [sp]).1 = UU at *
  obtain ⟨c0, c1, c2, c3, c4, c5, c6, c7, c8, c9, c10, rfl⟩ := eleven hr.len
  have hall := rep_all hr
  obtain ⟨V8, hV8⟩ : ∃ v, Value.slice sx 0 sc = v := ⟨_, rfl⟩
  obtain ⟨U8, hU8⟩ : ∃ v, Value.slice ux 1 uc = v := ⟨_, rfl⟩
  have o8 : V8.oneCell' = true := by rw [← hV8]; rfl
  have oU : U8.oneCell' = true := by rw [← hU8]; rfl
  simp only [List.length_cons, List.length_nil, Nat.zero_add] at HM
  rw [hV8, hU8] at HM ⊢
  clear hF hr hs hu h b1 b2 h3 h4 hV8 hall
  obtain ⟨⟨bk, bn, bz, bw, bh, bd, bx, by_, bo, bs⟩, bks⟩ := base
  obtain ⟨⟨uk, un, uz, uw, uh, ud, ux', uy, uo, us⟩, uks⟩ := sp
  (try simp only at *)
  go_enter Try.func3, Try.ntmps3
  have hS := own_start w
  go_upto_region 3 with (first | (refine own_unguard (by rfl) ?_) | (refine own_box rfl _ _ rfl rfl hS ?_; clear hS; intro kb ww hS) | (go_at_call 9; refine own_calls hS (awake34_calls _) ?_; clear hS; (try clear ww); intro ww hS) | (refine w_ld rfl _ rfl (by rfl) (by first | exact rd_1 (by repeat constructor) (by first | rfl | assumption) | exact rd_w (by repeat constructor) (by rfl) | exact rd_o (by assumption) (by rfl) (by first | exact nmn | assumption | simp) | exact rd_h (by assumption) (by rfl) (by first | exact nmn | assumption | simp) | exact rd_1o (by assumption) (by first | exact nmn | assumption | simp) | exact rd_1h (by assumption) (by first | rfl | assumption) (by first | exact nmn | assumption | simp)) hS ?_) | (refine own_box rfl _ _ rfl (by rfl) hS ?_; clear hS; (try clear ww); intro bb ww hS) | (refine w_al rfl rfl hS ?_; clear hS; (try clear ww); intro bb ww hS) | (refine w_st rfl _ _ rfl (by rfl) (by rfl) (by repeat constructor) (by rfl) (by rfl) (by first | rfl | assumption) hS ?_; clear hS; (try clear ww); intro ww hS) | (refine w_s1 rfl _ _ rfl (by rfl) (by repeat constructor) (by first | exact .c | exact .t rfl) (by rfl) (by repeat constructor) hS ?_; clear hS; (try clear ww); intro ww hS))
  go_upto_region 4 with (first | (refine own_unguard (by rfl) ?_) | (refine own_store1 (i := 23) (v := .bool false) rfl _ _ _ rfl rfl rfl rfl hS at0 ot_bool (by show 23 < 37; decide) ?_; clear hS; (try clear ww); intro ww hS) | (refine w_ld rfl _ rfl (by rfl) (by first | exact rd_1 (by repeat constructor) (by first | rfl | assumption) | exact rd_w (by repeat constructor) (by rfl) | exact rd_o (by assumption) (by rfl) (by first | exact nmn | assumption | simp) | exact rd_h (by assumption) (by rfl) (by first | exact nmn | assumption | simp) | exact rd_1o (by assumption) (by first | exact nmn | assumption | simp) | exact rd_1h (by assumption) (by first | rfl | assumption) (by first | exact nmn | assumption | simp)) hS ?_) | (refine own_box rfl _ _ rfl (by rfl) hS ?_; clear hS; (try clear ww); intro bb ww hS) | (refine w_al rfl rfl hS ?_; clear hS; (try clear ww); intro bb ww hS) | (refine w_st rfl _ _ rfl (by rfl) (by rfl) (by repeat constructor) (by rfl) (by rfl) (by first | rfl | assumption) hS ?_; clear hS; (try clear ww); intro ww hS) | (refine w_s1 rfl _ _ rfl (by rfl) (by repeat constructor) (by first | exact .c | exact .t rfl) (by rfl) (by repeat constructor) hS ?_; clear hS; (try clear ww); intro ww hS))
  have hrC : ww.rangeAt kb 0 (caseS F l false [c0, c1, c2, c3, c4, c5, c6, c7, c8, c9, c10] V8 U8) := (hS.get at0).range
  have HB0 := Lib.hid hS.below
  obtain ⟨hrF, hrS, hrN, cV, cU⟩ := caseS_out hrC
  obtain ⟨rP, _⟩ := fnt_cells hrF
  clear hS
  have hS := own_start ww
  go_wp2_with (first | (refine own_unguard (by rfl) ?_) | (refine own_load_old rfl _ _ rfl rfl hS hrC List.not_mem_nil rt_case34 ?_) | (go_at_call 10; refine Calls.mono (HM.out _ (bthen HB0.out hS.below)) ?_; rintro e w1 ⟨cs1, rfl, hR1, hb1⟩; have hrF1 := rangeAt_below (hS.range List.not_mem_nil hrF) hb1; have rP1 := rangeAt_below (hS.range List.not_mem_nil rP) hb1; have hrC1 := rangeAt_below (hS.range List.not_mem_nil hrC) hb1; have cU1 := cell_below (hS.cell List.not_mem_nil cU) hb1; have HB1 := Lib.hid (bthen HB0.out (bthen hS.below hb1));  obtain ⟨ak, ao, akc, atx, atc, aq0, aq1, rfl, ak0, ak1, ap0, ap1⟩ := list2_out hR1; obtain ⟨akx0, akc0, asx0, asc0, rfl⟩ := kid_out ap0; obtain ⟨akx1, akc1, asx1, asc1, rfl⟩ := kid_out ap1; clear hR1 hS hb1 ap0 ap1 hrC hrF hrS hrN cV cU rP; have hS := own_start w1) | (refine w_ld rfl _ rfl (by rfl) (by first | exact rd_1 (by repeat constructor) (by first | rfl | assumption) | exact rd_w (by repeat constructor) (by rfl) | exact rd_o (by assumption) (by rfl) (by first | exact nmn | assumption | simp) | exact rd_h (by assumption) (by rfl) (by first | exact nmn | assumption | simp) | exact rd_1o (by assumption) (by first | exact nmn | assumption | simp) | exact rd_1h (by assumption) (by first | rfl | assumption) (by first | exact nmn | assumption | simp)) hS ?_) | (refine own_box rfl _ _ rfl (by rfl) hS ?_; clear hS; (try clear ww); intro bb ww hS) | (refine w_al rfl rfl hS ?_; clear hS; (try clear ww); intro bb ww hS) | (refine w_st rfl _ _ rfl (by rfl) (by rfl) (by repeat constructor) (by rfl) (by rfl) (by first | rfl | assumption) hS ?_; clear hS; (try clear ww); intro ww hS) | (refine w_s1 rfl _ _ rfl (by rfl) (by repeat constructor) (by first | exact .c | exact .t rfl) (by rfl) (by repeat constructor) hS ?_; clear hS; (try clear ww); intro ww hS))
  go_ret
  exact ⟨rfl, bthen HB1.out hS.below⟩

set_option maxHeartbeats 16000000 in
set_option maxRecDepth 100000 in
theorem scriptCramped_10_1 (F : Fnt) (l : Int) (c : Bool) (n : Nat) (base : Bx (n + 1)) (sb : Bx (n + 1))  (cs : List Value) (sx ux : Option Addr) (sc uc : Nat) (w : World) (hF : FntOk w F) (hr : Rep w (n + 1) base cs) (hs : RepL w (n + 1) sx [sb]) (hu : RepL w (n + 1) ux []) (b1 : 1 ≤ 1048576) (b2 : 0 ≤ 1048576) (h : MadeOkS F l false n base [sb] []) (h3 : F.sup1 < F.sup3) : Calls Try.prog 3 #[.agg (caseS F l c cs (.slice sx 1 sc) (.slice ux 0 uc)).toArray] w (Gives (.bool true) w) := by
  have HM := Lib.hid (fun w' (hb : Below w.heap.size w w') => made34_ok F l false n base [sb] [] cs sx ux sc uc w' (hF.below hb) (hr.step hb) (hs.step hb) (hu.step hb) b1 b2 h)
  have d1 : decide (F.sup1 < F.sup3) = true := decide_eq_true h3
  have eHM : scrB F l false n base [sb] [] = listB (n + 1) (extL ((scrK F l false n base [sb] []).map (·.1))).r (extL ((scrK F l false n base [sb] []).map (·.1))).h (extL ((scrK F l false n base [sb] []).map (·.1))).d [atXY (n + 1) base 0 0, atXY (n + 1) sb (base.1.w - italB F (n + 1) base) (-(scrUV F l false n base [sb] []).2)] := rfl
  rw [eHM] at HM
  clear eHM
  generalize extL ((scrK F l false n base [sb] []).map (·.1)) = E at *
  generalize (scrUV F l false n base [sb] []).2 = VV at *
  generalize italB F (n + 1) base = IT at *
  obtain ⟨c0, c1, c2, c3, c4, c5, c6, c7, c8, c9, c10, rfl⟩ := eleven hr.len
  have hall := rep_all hr
  obtain ⟨V8, hV8⟩ : ∃ v, Value.slice sx 1 sc = v := ⟨_, rfl⟩
  obtain ⟨U8, hU8⟩ : ∃ v, Value.slice ux 0 uc = v := ⟨_, rfl⟩
  have o8 : V8.oneCell' = true := by rw [← hV8]; rfl
  have oU : U8.oneCell' = true := by rw [← hU8]; rfl
  simp only [List.length_cons, List.length_nil, Nat.zero_add] at HM
  rw [hV8, hU8] at HM ⊢
  clear hF hr hs hu h b1 b2 h3 hV8 hall
  obtain ⟨⟨bk, bn, bz, bw, bh, bd, bx, by_, bo, bs⟩, bks⟩ := base
  obtain ⟨⟨sk, sn, sz, sw, sh, sd, sx', sy, so, ss⟩, sks⟩ := sb
  (try simp only at *)
  go_enter Try.func3, Try.ntmps3
  have hS := own_start w
  go_upto_region 3 with (first | (refine own_unguard (by rfl) ?_) | (refine own_box rfl _ _ rfl rfl hS ?_; clear hS; intro kb ww hS) | (go_at_call 9; refine own_calls hS (awake34_calls _) ?_; clear hS; (try clear ww); intro ww hS) | (refine w_ld rfl _ rfl (by rfl) (by first | exact rd_1 (by repeat constructor) (by first | rfl | assumption) | exact rd_w (by repeat constructor) (by rfl) | exact rd_o (by assumption) (by rfl) (by first | exact nmn | assumption | simp) | exact rd_h (by assumption) (by rfl) (by first | exact nmn | assumption | simp) | exact rd_1o (by assumption) (by first | exact nmn | assumption | simp) | exact rd_1h (by assumption) (by first | rfl | assumption) (by first | exact nmn | assumption | simp)) hS ?_) | (refine own_box rfl _ _ rfl (by rfl) hS ?_; clear hS; (try clear ww); intro bb ww hS) | (refine w_al rfl rfl hS ?_; clear hS; (try clear ww); intro bb ww hS) | (refine w_st rfl _ _ rfl (by rfl) (by rfl) (by repeat constructor) (by rfl) (by rfl) (by first | rfl | assumption) hS ?_; clear hS; (try clear ww); intro ww hS) | (refine w_s1 rfl _ _ rfl (by rfl) (by repeat constructor) (by first | exact .c | exact .t rfl) (by rfl) (by repeat constructor) hS ?_; clear hS; (try clear ww); intro ww hS))
  go_upto_region 4 with (first | (refine own_unguard (by rfl) ?_) | (refine own_store1 (i := 23) (v := .bool false) rfl _ _ _ rfl rfl rfl rfl hS at0 ot_bool (by show 23 < 37; decide) ?_; clear hS; (try clear ww); intro ww hS) | (refine w_ld rfl _ rfl (by rfl) (by first | exact rd_1 (by repeat constructor) (by first | rfl | assumption) | exact rd_w (by repeat constructor) (by rfl) | exact rd_o (by assumption) (by rfl) (by first | exact nmn | assumption | simp) | exact rd_h (by assumption) (by rfl) (by first | exact nmn | assumption | simp) | exact rd_1o (by assumption) (by first | exact nmn | assumption | simp) | exact rd_1h (by assumption) (by first | rfl | assumption) (by first | exact nmn | assumption | simp)) hS ?_) | (refine own_box rfl _ _ rfl (by rfl) hS ?_; clear hS; (try clear ww); intro bb ww hS) | (refine w_al rfl rfl hS ?_; clear hS; (try clear ww); intro bb ww hS) | (refine w_st rfl _ _ rfl (by rfl) (by rfl) (by repeat constructor) (by rfl) (by rfl) (by first | rfl | assumption) hS ?_; clear hS; (try clear ww); intro ww hS) | (refine w_s1 rfl _ _ rfl (by rfl) (by repeat constructor) (by first | exact .c | exact .t rfl) (by rfl) (by repeat constructor) hS ?_; clear hS; (try clear ww); intro ww hS))
  have hrC : ww.rangeAt kb 0 (caseS F l false [c0, c1, c2, c3, c4, c5, c6, c7, c8, c9, c10] V8 U8) := (hS.get at0).range
  have HB0 := Lib.hid hS.below
  obtain ⟨hrF, hrS, hrN, cV, cU⟩ := caseS_out hrC
  obtain ⟨rP, _⟩ := fnt_cells hrF
  clear hS
  have hS := own_start ww
  go_wp2_with (first | (refine own_unguard (by rfl) ?_) | (refine own_load_old rfl _ _ rfl rfl hS hrC List.not_mem_nil rt_case34 ?_) | (go_at_call 10; refine Calls.mono (HM.out _ (bthen HB0.out hS.below)) ?_; rintro e w1 ⟨cs1, rfl, hR1, hb1⟩; have hrF1 := rangeAt_below (hS.range List.not_mem_nil hrF) hb1; have rP1 := rangeAt_below (hS.range List.not_mem_nil rP) hb1; have hrC1 := rangeAt_below (hS.range List.not_mem_nil hrC) hb1; have cU1 := cell_below (hS.cell List.not_mem_nil cU) hb1; have HB1 := Lib.hid (bthen HB0.out (bthen hS.below hb1));  obtain ⟨ak, ao, akc, atx, atc, aq0, aq1, rfl, ak0, ak1, ap0, ap1⟩ := list2_out hR1; obtain ⟨akx0, akc0, asx0, asc0, rfl⟩ := kid_out ap0; obtain ⟨akx1, akc1, asx1, asc1, rfl⟩ := kid_out ap1; clear hR1 hS hb1 ap0 ap1 hrC hrF hrS hrN cV cU rP; have hS := own_start w1) | (refine w_ld rfl _ rfl (by rfl) (by first | exact rd_1 (by repeat constructor) (by first | rfl | assumption) | exact rd_w (by repeat constructor) (by rfl) | exact rd_o (by assumption) (by rfl) (by first | exact nmn | assumption | simp) | exact rd_h (by assumption) (by rfl) (by first | exact nmn | assumption | simp) | exact rd_1o (by assumption) (by first | exact nmn | assumption | simp) | exact rd_1h (by assumption) (by first | rfl | assumption) (by first | exact nmn | assumption | simp)) hS ?_) | (refine own_box rfl _ _ rfl (by rfl) hS ?_; clear hS; (try clear ww); intro bb ww hS) | (refine w_al rfl rfl hS ?_; clear hS; (try clear ww); intro bb ww hS) | (refine w_st rfl _ _ rfl (by rfl) (by rfl) (by repeat constructor) (by rfl) (by rfl) (by first | rfl | assumption) hS ?_; clear hS; (try clear ww); intro ww hS) | (refine w_s1 rfl _ _ rfl (by rfl) (by repeat constructor) (by first | exact .c | exact .t rfl) (by rfl) (by repeat constructor) hS ?_; clear hS; (try clear ww); intro ww hS))
  go_ret
  exact ⟨rfl, bthen HB1.out hS.below⟩

set_option maxHeartbeats 16000000 in
set_option maxRecDepth 100000 in
theorem scriptCramped_10_2 (F : Fnt) (l : Int) (c : Bool) (n : Nat) (base : Bx (n + 1)) (sb : Bx (n + 1))  (cs : List Value) (sx ux : Option Addr) (sc uc : Nat) (w : World) (hF : FntOk w F) (hr : Rep w (n + 1) base cs) (hs : RepL w (n + 1) sx [sb]) (hu : RepL w (n + 1) ux []) (b1 : 1 ≤ 1048576) (b2 : 0 ≤ 1048576) (h : MadeOkS F l false n base [sb] []) (h3 : ¬ F.sup1 < F.sup3) (h4 : F.sup2 < F.sup3) : Calls Try.prog 3 #[.agg (caseS F l c cs (.slice sx 1 sc) (.slice ux 0 uc)).toArray] w (Gives (.bool true) w) := by
  have HM := Lib.hid (fun w' (hb : Below w.heap.size w w') => made34_ok F l false n base [sb] [] cs sx ux sc uc w' (hF.below hb) (hr.step hb) (hs.step hb) (hu.step hb) b1 b2 h)
  have d1 : decide (F.sup1 < F.sup3) = false := decide_eq_false h3
  have d2 : decide (F.sup2 < F.sup3) = true := decide_eq_true h4
  have eHM : scrB F l false n base [sb] [] = listB (n + 1) (extL ((scrK F l false n base [sb] []).map (·.1))).r (extL ((scrK F l false n base [sb] []).map (·.1))).h (extL ((scrK F l false n base [sb] []).map (·.1))).d [atXY (n + 1) base 0 0, atXY (n + 1) sb (base.1.w - italB F (n + 1) base) (-(scrUV F l false n base [sb] []).2)] := rfl
  rw [eHM] at HM
  clear eHM
  generalize extL ((scrK F l false n base [sb] []).map (·.1)) = E at *
  generalize (scrUV F l false n base [sb] []).2 = VV at *
  generalize italB F (n + 1) base = IT at *
  obtain ⟨c0, c1, c2, c3, c4, c5, c6, c7, c8, c9, c10, rfl⟩ := eleven hr.len
  have hall := rep_all hr
  obtain ⟨V8, hV8⟩ : ∃ v, Value.slice sx 1 sc = v := ⟨_, rfl⟩
  obtain ⟨U8, hU8⟩ : ∃ v, Value.slice ux 0 uc = v := ⟨_, rfl⟩
  have o8 : V8.oneCell' = true := by rw [← hV8]; rfl
  have oU : U8.oneCell' = true := by rw [← hU8]; rfl
  simp only [List.length_cons, List.length_nil, Nat.zero_add] at HM
  rw [hV8, hU8] at HM ⊢
  clear hF hr hs hu h b1 b2 h3 h4 hV8 hall
  obtain ⟨⟨bk, bn, bz, bw, bh, bd, bx, by_, bo, bs⟩, bks⟩ := base
  obtain ⟨⟨sk, sn, sz, sw, sh, sd, sx', sy, so, ss⟩, sks⟩ := sb
  (try simp only at *)
  go_enter Try.func3, Try.ntmps3
  have hS := own_start w
  go_upto_region 3 with (first | (refine own_unguard (by rfl) ?_) | (refine own_box rfl _ _ rfl rfl hS ?_; clear hS; intro kb ww hS) | (go_at_call 9; refine own_calls hS (awake34_calls _) ?_; clear hS; (try clear ww); intro ww hS) | (refine w_ld rfl _ rfl (by rfl) (by first | exact rd_1 (by repeat constructor) (by first | rfl | assumption) | exact rd_w (by repeat constructor) (by rfl) | exact rd_o (by assumption) (by rfl) (by first | exact nmn | assumption | simp) | exact rd_h (by assumption) (by rfl) (by first | exact nmn | assumption | simp) | exact rd_1o (by assumption) (by first | exact nmn | assumption | simp) | exact rd_1h (by assumption) (by first | rfl | assumption) (by first | exact nmn | assumption | simp)) hS ?_) | (refine own_box rfl _ _ rfl (by rfl) hS ?_; clear hS; (try clear ww); intro bb ww hS) | (refine w_al rfl rfl hS ?_; clear hS; (try clear ww); intro bb ww hS) | (refine w_st rfl _ _ rfl (by rfl) (by rfl) (by repeat constructor) (by rfl) (by rfl) (by first | rfl | assumption) hS ?_; clear hS; (try clear ww); intro ww hS) | (refine w_s1 rfl _ _ rfl (by rfl) (by repeat constructor) (by first | exact .c | exact .t rfl) (by rfl) (by repeat constructor) hS ?_; clear hS; (try clear ww); intro ww hS))
  go_upto_region 4 with (first | (refine own_unguard (by rfl) ?_) | (refine own_store1 (i := 23) (v := .bool false) rfl _ _ _ rfl rfl rfl rfl hS at0 ot_bool (by show 23 < 37; decide) ?_; clear hS; (try clear ww); intro ww hS) | (refine w_ld rfl _ rfl (by rfl) (by first | exact rd_1 (by repeat constructor) (by first | rfl | assumption) | exact rd_w (by repeat constructor) (by rfl) | exact rd_o (by assumption) (by rfl) (by first | exact nmn | assumption | simp) | exact rd_h (by assumption) (by rfl) (by first | exact nmn | assumption | simp) | exact rd_1o (by assumption) (by first | exact nmn | assumption | simp) | exact rd_1h (by assumption) (by first | rfl | assumption) (by first | exact nmn | assumption | simp)) hS ?_) | (refine own_box rfl _ _ rfl (by rfl) hS ?_; clear hS; (try clear ww); intro bb ww hS) | (refine w_al rfl rfl hS ?_; clear hS; (try clear ww); intro bb ww hS) | (refine w_st rfl _ _ rfl (by rfl) (by rfl) (by repeat constructor) (by rfl) (by rfl) (by first | rfl | assumption) hS ?_; clear hS; (try clear ww); intro ww hS) | (refine w_s1 rfl _ _ rfl (by rfl) (by repeat constructor) (by first | exact .c | exact .t rfl) (by rfl) (by repeat constructor) hS ?_; clear hS; (try clear ww); intro ww hS))
  have hrC : ww.rangeAt kb 0 (caseS F l false [c0, c1, c2, c3, c4, c5, c6, c7, c8, c9, c10] V8 U8) := (hS.get at0).range
  have HB0 := Lib.hid hS.below
  obtain ⟨hrF, hrS, hrN, cV, cU⟩ := caseS_out hrC
  obtain ⟨rP, _⟩ := fnt_cells hrF
  clear hS
  have hS := own_start ww
  go_wp2_with (first | (refine own_unguard (by rfl) ?_) | (refine own_load_old rfl _ _ rfl rfl hS hrC List.not_mem_nil rt_case34 ?_) | (go_at_call 10; refine Calls.mono (HM.out _ (bthen HB0.out hS.below)) ?_; rintro e w1 ⟨cs1, rfl, hR1, hb1⟩; have hrF1 := rangeAt_below (hS.range List.not_mem_nil hrF) hb1; have rP1 := rangeAt_below (hS.range List.not_mem_nil rP) hb1; have hrC1 := rangeAt_below (hS.range List.not_mem_nil hrC) hb1; have cU1 := cell_below (hS.cell List.not_mem_nil cU) hb1; have HB1 := Lib.hid (bthen HB0.out (bthen hS.below hb1));  obtain ⟨ak, ao, akc, atx, atc, aq0, aq1, rfl, ak0, ak1, ap0, ap1⟩ := list2_out hR1; obtain ⟨akx0, akc0, asx0, asc0, rfl⟩ := kid_out ap0; obtain ⟨akx1, akc1, asx1, asc1, rfl⟩ := kid_out ap1; clear hR1 hS hb1 ap0 ap1 hrC hrF hrS hrN cV cU rP; have hS := own_start w1) | (refine w_ld rfl _ rfl (by rfl) (by first | exact rd_1 (by repeat constructor) (by first | rfl | assumption) | exact rd_w (by repeat constructor) (by rfl) | exact rd_o (by assumption) (by rfl) (by first | exact nmn | assumption | simp) | exact rd_h (by assumption) (by rfl) (by first | exact nmn | assumption | simp) | exact rd_1o (by assumption) (by first | exact nmn | assumption | simp) | exact rd_1h (by assumption) (by first | rfl | assumption) (by first | exact nmn | assumption | simp)) hS ?_) | (refine own_box rfl _ _ rfl (by rfl) hS ?_; clear hS; (try clear ww); intro bb ww hS) | (refine w_al rfl rfl hS ?_; clear hS; (try clear ww); intro bb ww hS) | (refine w_st rfl _ _ rfl (by rfl) (by rfl) (by repeat constructor) (by rfl) (by rfl) (by first | rfl | assumption) hS ?_; clear hS; (try clear ww); intro ww hS) | (refine w_s1 rfl _ _ rfl (by rfl) (by repeat constructor) (by first | exact .c | exact .t rfl) (by rfl) (by repeat constructor) hS ?_; clear hS; (try clear ww); intro ww hS))
  go_ret
  exact ⟨rfl, bthen HB1.out hS.below⟩

end Go.Proofs.Ytgpabckipmhobaa
