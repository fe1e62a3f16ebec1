/- Chapter 34, ScriptGrows: the law returns true. -/
import Derived.Test.YtgpabckipmhobaaJ22
import Derived.Test.YtgpabckipmhobaaLwv
import Derived.Test.YtgpabckipmhobaaC4a
namespace Go.Proofs.Ytgpabckipmhobaa
open Go.RowKit

attribute [local irreducible] wpQuiet wpG wpP wpK wpList Code.wp Calls

set_option maxHeartbeats 16000000 in
set_option maxRecDepth 100000 in
theorem scriptGrows_01 (F : Fnt) (l : Int) (c : Bool) (n : Nat) (base : Bx (n + 1)) (sp : Bx (n + 1)) (cs : List Value) (sx ux : Option Addr) (sc uc : Nat) (w : World) (hF : FntOk w F) (hr : Rep w (n + 1) base cs) (hs : RepL w (n + 1) sx []) (hu : RepL w (n + 1) ux [sp]) (b1 : 0 ≤ 1048576) (b2 : 1 ≤ 1048576) (z : Int) (hz : 0 ≤ z ∧ z ≤ 65535) (hi : innerS (n + 1) base = none) (h : MadeOkS F l c n base [] [sp]) : Calls Try.prog 8 #[.agg (caseS F l c cs (.slice sx 0 sc) (.slice ux 1 uc)).toArray, .int .u16 z] w (Gives (.bool true) w) := by
  have HM := Lib.hid (fun w' (hb : Below w.heap.size w w') => made34_ok F l c n base [] [sp] cs sx ux sc uc w' (hF.below hb) (hr.step hb) (hs.step hb) (hu.step hb) b1 b2 h)
  have hdm := scr_dim h hz
  have hY := up_dim (F := F) (l := l) (c := c) (sp := sp) hz.1 hi
  have mb := modL2_out h.2.2.2.1 (b := base) (by simp)
  obtain ⟨v, hv, hcS⟩ := ref34_Simple_calls (n + 1) base cs w hr
  rw [hi] at hv
  obtain rfl : v = _ := hv
  have HSi := Lib.hid hcS
  clear hcS
  obtain ⟨⟨bk, bn, bz, bw, bh, bd, bx, by_, bo, bs⟩, bks⟩ := base
  obtain ⟨kx0, kc0, tx0, tc0, rfl⟩ := kid_out hr
  obtain ⟨v8, hv8⟩ : ∃ v, Value.slice kx0 bks.length kc0 = v := ⟨_, rfl⟩
  obtain ⟨v10, hv10⟩ : ∃ v, Value.slice tx0 bs.length tc0 = v := ⟨_, rfl⟩
  rw [hv8, hv10] at hr HM HSi
  rw [hv8, hv10]
  have hall := rep_all hr
  simp only at mb
  have hdm : ScrOk F l n ((⟨bk, bn, bz, bw, bh + z, bd + z, bx, by_, bo, bs⟩, bks) : Bx (n + 1)) [] [sp] ∧ validB (n + 2) (scrB F l c n ((⟨bk, bn, bz, bw, bh + z, bd + z, bx, by_, bo, bs⟩, bks) : Bx (n + 1)) [] [sp]) := hdm
  have HMk := Lib.hid (fun w' (hb : Below w.heap.size w w') => scrMake_ok (fun k => k < w'.heap.size) F l c n 0 ((⟨bk, bn, bz, bw, bh + z, bd + z, bx, by_, bo, bs⟩, bks) : Bx (n + 1)) [] [sp] [.int .i64 bk, .string bn, .int .i64 bz, .int .i64 bw, .int .i64 (bh + z), .int .i64 (bd + z), .int .i64 bx, .int .i64 by_, v8, .int .i64 bo, v10] sx ux sc uc w' (hF.below hb) (fun _ hk => hk) (repP_old (rep_setD (rep_setH (hr.step hb) (by unfold I64; omega)) (by unfold I64; omega))) (repLP_old (hs.step hb)) (repLP_old (hu.step hb)) hdm.1 hdm.2)
  have eHM : scrB F l c n ((⟨bk, bn, bz, bw, bh, bd, bx, by_, bo, bs⟩, bks) : Bx (n + 1)) [] [sp] = listB (n + 1) (extL ((scrK F l c n ((⟨bk, bn, bz, bw, bh, bd, bx, by_, bo, bs⟩, bks) : Bx (n + 1)) [] [sp]).map (·.1))).r (extL ((scrK F l c n ((⟨bk, bn, bz, bw, bh, bd, bx, by_, bo, bs⟩, bks) : Bx (n + 1)) [] [sp]).map (·.1))).h (extL ((scrK F l c n ((⟨bk, bn, bz, bw, bh, bd, bx, by_, bo, bs⟩, bks) : Bx (n + 1)) [] [sp]).map (·.1))).d [atXY (n + 1) ((⟨bk, bn, bz, bw, bh, bd, bx, by_, bo, bs⟩, bks) : Bx (n + 1)) 0 0, atXY (n + 1) sp ((⟨bk, bn, bz, bw, bh, bd, bx, by_, bo, bs⟩, bks) : Bx (n + 1)).1.w (scrUV F l c n ((⟨bk, bn, bz, bw, bh, bd, bx, by_, bo, bs⟩, bks) : Bx (n + 1)) [] [sp]).1] := rfl
  have eHMk : scrB F l c n ((⟨bk, bn, bz, bw, bh + z, bd + z, bx, by_, bo, bs⟩, bks) : Bx (n + 1)) [] [sp] = listB (n + 1) (extL ((scrK F l c n ((⟨bk, bn, bz, bw, bh + z, bd + z, bx, by_, bo, bs⟩, bks) : Bx (n + 1)) [] [sp]).map (·.1))).r (extL ((scrK F l c n ((⟨bk, bn, bz, bw, bh + z, bd + z, bx, by_, bo, bs⟩, bks) : Bx (n + 1)) [] [sp]).map (·.1))).h (extL ((scrK F l c n ((⟨bk, bn, bz, bw, bh + z, bd + z, bx, by_, bo, bs⟩, bks) : Bx (n + 1)) [] [sp]).map (·.1))).d [atXY (n + 1) ((⟨bk, bn, bz, bw, bh + z, bd + z, bx, by_, bo, bs⟩, bks) : Bx (n + 1)) 0 0, atXY (n + 1) sp ((⟨bk, bn, bz, bw, bh + z, bd + z, bx, by_, bo, bs⟩, bks) : Bx (n + 1)).1.w (scrUV F l c n ((⟨bk, bn, bz, bw, bh + z, bd + z, bx, by_, bo, bs⟩, bks) : Bx (n + 1)) [] [sp]).1] := rfl
  rw [eHM] at HM
  rw [eHMk] at HMk
  clear eHM eHMk
  generalize extL ((scrK F l c n ((⟨bk, bn, bz, bw, bh, bd, bx, by_, bo, bs⟩, bks) : Bx (n + 1)) [] [sp]).map (·.1)) = E at *
  generalize extL ((scrK F l c n ((⟨bk, bn, bz, bw, bh + z, bd + z, bx, by_, bo, bs⟩, bks) : Bx (n + 1)) [] [sp]).map (·.1)) = E2 at *
  have hY : (scrUV F l c n ((⟨bk, bn, bz, bw, bh, bd, bx, by_, bo, bs⟩, bks) : Bx (n + 1)) [] [sp]).1 ≤ (scrUV F l c n ((⟨bk, bn, bz, bw, bh + z, bd + z, bx, by_, bo, bs⟩, bks) : Bx (n + 1)) [] [sp]).1 := hY
  generalize (scrUV F l c n ((⟨bk, bn, bz, bw, bh, bd, bx, by_, bo, bs⟩, bks) : Bx (n + 1)) [] [sp]).1 = Y1 at *
  generalize (scrUV F l c n ((⟨bk, bn, bz, bw, bh + z, bd + z, bx, by_, bo, bs⟩, bks) : Bx (n + 1)) [] [sp]).1 = Y2 at *
  have d1 : decide (Y1 ≤ Y2) = true := decide_eq_true hY
  have i1 : IntKind.i64.wrap z = z := wrap_in (by omega)
  have i2 : IntKind.i64.wrap (bh + z) = bh + z := wrap_in (by omega)
  have i3 : IntKind.i64.wrap (bd + z) = bd + z := wrap_in (by omega)
  obtain ⟨V8, hV8⟩ : ∃ v, Value.slice sx 0 sc = v := ⟨_, rfl⟩
  obtain ⟨U8, hU8⟩ : ∃ v, Value.slice ux 1 uc = v := ⟨_, rfl⟩
  have o8 : V8.oneCell' = true := by rw [← hV8]; rfl
  have oU : U8.oneCell' = true := by rw [← hU8]; rfl
  have hallC : (caseS F l c [.int .i64 bk, .string bn, .int .i64 bz, .int .i64 bw, .int .i64 bh, .int .i64 bd, .int .i64 bx, .int .i64 by_, v8, .int .i64 bo, v10] V8 U8).all (·.oneCell') = true := all_app rfl (all_app rfl (all_app hall (by simp [o8, oU])))
  simp only [List.length_cons, List.length_nil, Nat.zero_add] at HM HMk
  rw [hV8, hU8] at HM HMk ⊢
  clear hF hr hs hu h hi b1 b2 hz hdm hY mb hv8 hv10 hV8 hall
  obtain ⟨⟨uk, un, uz, uw, uh, ud, ux', uy, uo, us⟩, uks⟩ := sp
  (try simp only at *)
  go_enter Try.func8, Try.ntmps8
  have hS := own_start w
  go_upto_region 7 with (first | (refine own_unguard (by rfl) ?_) | (refine own_box rfl _ _ rfl rfl hS ?_; clear hS; intro kb w0 hS0; have hrC := (hS0.get at0).range; have HB0 := Lib.hid hS0.below; obtain ⟨hrF, hrS, hrN, cV, cU⟩ := caseS_out hrC; have hS := own_start w0; clear hS0) | (refine own_load_old rfl _ _ rfl rfl hS hrC List.not_mem_nil rt_case34 ?_) | (go_at_call 9; refine own_calls hS (awake34_calls _) ?_; clear hS; (try clear ww); intro ww hS) | (go_at_call 10; refine Calls.mono (HM.out _ (bthen HB0.out hS.below)) ?_; rintro e w1 ⟨cs1, rfl, hR1, hb1⟩; have hrF1 := rangeAt_below (hS.range List.not_mem_nil hrF) hb1; have hrS1 := rangeAt_below (hS.range List.not_mem_nil hrS) hb1; have hrN1 := rangeAt_below (hS.range List.not_mem_nil hrN) hb1; have cV1 := cell_below (hS.cell List.not_mem_nil cV) hb1; have cU1 := cell_below (hS.cell List.not_mem_nil cU) hb1; have HB1 := Lib.hid (bthen HB0.out (bthen hS.below hb1)); obtain ⟨k, o, kc, tx, tc, q0, q1, rfl, hk0, hk1, hp0, hp1⟩ := list2_out hR1; obtain ⟨kx0, kc0, sx0, sc0, rfl⟩ := kid_out hp0; obtain ⟨kx1, kc1, sx1, sc1, rfl⟩ := kid_out hp1; have hrC1 := rangeAt_below (hS.range List.not_mem_nil hrC) hb1; clear hR1 hS hb1 hp0 hp1 hrC hrF hrS hrN cV cU; have hS := own_start w1) | (go_at_call 15; refine own_calls hS (HSi.out _ (bthen HB1.out hS.below)) ?_; clear hS; (try clear ww); intro ww hS) | (refine w_ld rfl _ rfl (by rfl) (by first | exact rd_1 (by repeat constructor) (by first | rfl | assumption) | exact rd_w (by repeat constructor) (by rfl) | exact rd_o (by assumption) (by rfl) (by first | exact nmn | assumption | simp) | exact rd_h (by assumption) (by rfl) (by first | exact nmn | assumption | simp) | exact rd_1o (by assumption) (by first | exact nmn | assumption | simp) | exact rd_1h (by assumption) (by first | rfl | assumption) (by first | exact nmn | assumption | simp)) hS ?_) | (refine own_box rfl _ _ rfl (by rfl) hS ?_; clear hS; (try clear ww); intro bb ww hS) | (refine w_al rfl rfl hS ?_; clear hS; (try clear ww); intro bb ww hS) | (refine w_st rfl _ _ rfl (by rfl) (by rfl) (by repeat constructor) (by rfl) (by rfl) (by first | rfl | assumption) hS ?_; clear hS; (try clear ww); intro ww hS) | (refine w_s1 rfl _ _ rfl (by rfl) (by repeat constructor) (by first | exact .c | exact .t rfl) (by rfl) (by repeat constructor) hS ?_; clear hS; (try clear ww); intro ww hS))
  have r5 := (hS.get at1).range
  go_upto_region 8 with (first | (refine own_unguard (by rfl) ?_) | (refine own_load_old rfl _ _ rfl rfl hS hrC1 List.not_mem_nil rt_case34 ?_) | (refine own_store rfl _ _ _ rfl rfl rfl hS at0 rt_case34 (by rfl) hallC ?_; clear hS; (try clear ww); intro ww hS) | (refine w_ld rfl _ rfl (by rfl) (by first | exact rd_1 (by repeat constructor) (by first | rfl | assumption) | exact rd_w (by repeat constructor) (by rfl) | exact rd_o (by assumption) (by rfl) (by first | exact nmn | assumption | simp) | exact rd_h (by assumption) (by rfl) (by first | exact nmn | assumption | simp) | exact rd_1o (by assumption) (by first | exact nmn | assumption | simp) | exact rd_1h (by assumption) (by first | rfl | assumption) (by first | exact nmn | assumption | simp)) hS ?_) | (refine own_box rfl _ _ rfl (by rfl) hS ?_; clear hS; (try clear ww); intro bb ww hS) | (refine w_al rfl rfl hS ?_; clear hS; (try clear ww); intro bb ww hS) | (refine w_st rfl _ _ rfl (by rfl) (by rfl) (by repeat constructor) (by rfl) (by rfl) (by first | rfl | assumption) hS ?_; clear hS; (try clear ww); intro ww hS) | (refine w_s1 rfl _ _ rfl (by rfl) (by repeat constructor) (by first | exact .c | exact .t rfl) (by rfl) (by repeat constructor) hS ?_; clear hS; (try clear ww); intro ww hS))
  go_upto_region 9 with (first | (refine own_unguard (by rfl) ?_) | (refine own_store1 (i := 28) (v := .int .i64 (bh + z)) rfl _ _ _ rfl rfl rfl rfl hS at0 ot_int (by show 28 < 37; decide) ?_; clear hS; (try clear ww); intro ww hS) | (refine w_ld rfl _ rfl (by rfl) (by first | exact rd_1 (by repeat constructor) (by first | rfl | assumption) | exact rd_w (by repeat constructor) (by rfl) | exact rd_o (by assumption) (by rfl) (by first | exact nmn | assumption | simp) | exact rd_h (by assumption) (by rfl) (by first | exact nmn | assumption | simp) | exact rd_1o (by assumption) (by first | exact nmn | assumption | simp) | exact rd_1h (by assumption) (by first | rfl | assumption) (by first | exact nmn | assumption | simp)) hS ?_) | (refine own_box rfl _ _ rfl (by rfl) hS ?_; clear hS; (try clear ww); intro bb ww hS) | (refine w_al rfl rfl hS ?_; clear hS; (try clear ww); intro bb ww hS) | (refine w_st rfl _ _ rfl (by rfl) (by rfl) (by repeat constructor) (by rfl) (by rfl) (by first | rfl | assumption) hS ?_; clear hS; (try clear ww); intro ww hS) | (refine w_s1 rfl _ _ rfl (by rfl) (by repeat constructor) (by first | exact .c | exact .t rfl) (by rfl) (by repeat constructor) hS ?_; clear hS; (try clear ww); intro ww hS))
  go_upto_region 10 with (first | (refine own_unguard (by rfl) ?_) | (refine own_store1 (i := 29) (v := .int .i64 (bd + z)) rfl _ _ _ rfl rfl rfl rfl hS at0 ot_int (by show 29 < 37; decide) ?_; clear hS; (try clear ww); intro ww hS) | (refine w_ld rfl _ rfl (by rfl) (by first | exact rd_1 (by repeat constructor) (by first | rfl | assumption) | exact rd_w (by repeat constructor) (by rfl) | exact rd_o (by assumption) (by rfl) (by first | exact nmn | assumption | simp) | exact rd_h (by assumption) (by rfl) (by first | exact nmn | assumption | simp) | exact rd_1o (by assumption) (by first | exact nmn | assumption | simp) | exact rd_1h (by assumption) (by first | rfl | assumption) (by first | exact nmn | assumption | simp)) hS ?_) | (refine own_box rfl _ _ rfl (by rfl) hS ?_; clear hS; (try clear ww); intro bb ww hS) | (refine w_al rfl rfl hS ?_; clear hS; (try clear ww); intro bb ww hS) | (refine w_st rfl _ _ rfl (by rfl) (by rfl) (by repeat constructor) (by rfl) (by rfl) (by first | rfl | assumption) hS ?_; clear hS; (try clear ww); intro ww hS) | (refine w_s1 rfl _ _ rfl (by rfl) (by repeat constructor) (by first | exact .c | exact .t rfl) (by rfl) (by repeat constructor) hS ?_; clear hS; (try clear ww); intro ww hS))
  have hC2 : ww.rangeAt _ 0 (caseS F l c [.int .i64 bk, .string bn, .int .i64 bz, .int .i64 bw, .int .i64 (bh + z), .int .i64 (bd + z), .int .i64 bx, .int .i64 by_, v8, .int .i64 bo, v10] V8 U8) := (hS.get at0).range
  obtain ⟨gF, gS, gN, gV, gU⟩ := caseS_out hC2
  have r5 := (hS.get at2).range
  have hk1' := hS.range List.not_mem_nil hk1
  have cU := hS.cell List.not_mem_nil cU1
  have HB2 := Lib.hid (bthen HB1.out hS.below)
  clear hS hC2 hrC1 hrF1 hrS1 hrN1 cV1 cU1 hk0 hk1
  rename World => w4
  have hS := own_start w4
  go_upto_region 13 with (first | (refine own_unguard (by rfl) ?_) | (go_at_call 23; refine Calls.mono (HMk.out _ (bthen HB2.out hS.below)) ?_; rintro e w5 ⟨cs1, rfl, hR1, hb1⟩; have r5b := rangeAt_below (hS.range List.not_mem_nil r5) hb1; have ak1 := rangeAt_below (hS.range List.not_mem_nil hk1') hb1; have cUb := cell_below (hS.cell List.not_mem_nil cU) hb1; have HB5 := Lib.hid (bthen HB2.out (bthen hS.below hb1)); obtain ⟨bk', bo', bkc, btx, btc, bq0, bq1, rfl, bk0, bk1, bp0, bp1⟩ := list2_out hR1.rep; obtain ⟨_, _, _, _, rfl⟩ := kid_out bp0; obtain ⟨_, _, _, _, rfl⟩ := kid_out bp1; clear hR1 hS hb1 bp0 bp1 gF gS gN gV gU r5 hk1' cU; have hS := own_start w5) | (refine w_ld rfl _ rfl (by rfl) (by first | exact rd_1 (by repeat constructor) (by first | rfl | assumption) | exact rd_w (by repeat constructor) (by rfl) | exact rd_o (by assumption) (by rfl) (by first | exact nmn | assumption | simp) | exact rd_h (by assumption) (by rfl) (by first | exact nmn | assumption | simp) | exact rd_1o (by assumption) (by first | exact nmn | assumption | simp) | exact rd_1h (by assumption) (by first | rfl | assumption) (by first | exact nmn | assumption | simp)) hS ?_) | (refine own_box rfl _ _ rfl (by rfl) hS ?_; clear hS; (try clear ww); intro bb ww hS) | (refine w_al rfl rfl hS ?_; clear hS; (try clear ww); intro bb ww hS) | (refine w_st rfl _ _ rfl (by rfl) (by rfl) (by repeat constructor) (by rfl) (by rfl) (by first | rfl | assumption) hS ?_; clear hS; (try clear ww); intro ww hS) | (refine w_s1 rfl _ _ rfl (by rfl) (by repeat constructor) (by first | exact .c | exact .t rfl) (by rfl) (by repeat constructor) hS ?_; clear hS; (try clear ww); intro ww hS))
  obtain rfl := hU8
  have x7 := ak1 7 _ rfl
  have y7 := bk1 7 _ rfl
  have f8 := r5b 8 _ rfl
  go_upto_region 14 with (first | (refine own_unguard (by rfl) ?_) | (refine w_ld rfl _ rfl (by rfl) (by first | exact rd_1 (by repeat constructor) (by first | rfl | assumption) | exact rd_w (by repeat constructor) (by rfl) | exact rd_o (by assumption) (by rfl) (by first | exact nmn | assumption | simp) | exact rd_h (by assumption) (by rfl) (by first | exact nmn | assumption | simp) | exact rd_1o (by assumption) (by first | exact nmn | assumption | simp) | exact rd_1h (by assumption) (by first | rfl | assumption) (by first | exact nmn | assumption | simp)) hS ?_) | (refine own_box rfl _ _ rfl (by rfl) hS ?_; clear hS; (try clear ww); intro bb ww hS) | (refine w_al rfl rfl hS ?_; clear hS; (try clear ww); intro bb ww hS) | (refine w_st rfl _ _ rfl (by rfl) (by rfl) (by repeat constructor) (by rfl) (by rfl) (by first | rfl | assumption) hS ?_; clear hS; (try clear ww); intro ww hS) | (refine w_s1 rfl _ _ rfl (by rfl) (by repeat constructor) (by first | exact .c | exact .t rfl) (by rfl) (by repeat constructor) hS ?_; clear hS; (try clear ww); intro ww hS))
  (try simp only [Act.put]); (try simp only [List.setIfInBounds_toArray]); (try simp only [List.set_cons_succ]); (try simp only [List.set_cons_zero])
  refine own_region hS (by kernel_rfl) (by kernel_rfl) ?_
  (try simp only [List.append])
  (try simp only); (try simp only [List.drop_succ_cons]); (try simp only [List.drop_zero]); (try simp only [List.take_succ_cons]); (try simp only [List.take_zero])
  repeat (first
      | (first | (refine quiet_plain rfl ?_) | (refine quiet_yes rfl rfl rfl (by simp only [List.getElem?_toArray, List.getElem?_cons_succ, List.getElem?_cons_zero]; rfl) (by with_reducible constructor) ?_)
         apply Exists.intro; refine ⟨?_, ?_⟩
         focus (intro wq hq0; have hq : Own _ _ _ wq := hq0; first | (exact quietAt_rd rfl (by rfl) (by first | exact rd_1 (by repeat constructor) (by first | rfl | assumption) | exact rd_w (by repeat constructor) (by rfl) | exact rd_o (by assumption) (by rfl) (by first | exact nmn | assumption | simp) | exact rd_h (by assumption) (by rfl) (by first | exact nmn | assumption | simp) | exact rd_1o (by assumption) (by first | exact nmn | assumption | simp) | exact rd_1h (by assumption) (by first | rfl | assumption) (by first | exact nmn | assumption | simp)) hq) | (go_simp; first | (with_reducible rfl)))
         simp only [Act.put, List.setIfInBounds_toArray, List.set_cons_zero, List.set_cons_succ])
      | (refine quiet_no rfl rfl rfl (by simp only [List.getElem?_toArray, List.getElem?_cons_succ, List.getElem?_cons_zero]; rfl) (by with_reducible constructor) ?_; simp only [Act.put, List.setIfInBounds_toArray, List.set_cons_zero, List.set_cons_succ]))
  refine wpQuiet_nil ?_
  clear hS
  intro ww hS
  go_wp2_with (first | (refine own_unguard (by rfl) ?_) | (refine w_ld rfl _ rfl (by rfl) (by first | exact rd_1 (by repeat constructor) (by first | rfl | assumption) | exact rd_w (by repeat constructor) (by rfl) | exact rd_o (by assumption) (by rfl) (by first | exact nmn | assumption | simp) | exact rd_h (by assumption) (by rfl) (by first | exact nmn | assumption | simp) | exact rd_1o (by assumption) (by first | exact nmn | assumption | simp) | exact rd_1h (by assumption) (by first | rfl | assumption) (by first | exact nmn | assumption | simp)) hS ?_) | (refine own_box rfl _ _ rfl (by rfl) hS ?_; clear hS; (try clear ww); intro bb ww hS) | (refine w_al rfl rfl hS ?_; clear hS; (try clear ww); intro bb ww hS) | (refine w_st rfl _ _ rfl (by rfl) (by rfl) (by repeat constructor) (by rfl) (by rfl) (by first | rfl | assumption) hS ?_; clear hS; (try clear ww); intro ww hS) | (refine w_s1 rfl _ _ rfl (by rfl) (by repeat constructor) (by first | exact .c | exact .t rfl) (by rfl) (by repeat constructor) hS ?_; clear hS; (try clear ww); intro ww hS))
  go_ret
  exact ⟨rfl, bthen HB5.out hS.below⟩

end Go.Proofs.Ytgpabckipmhobaa
