/- Chapter 34, ScriptCramped: the law returns true. -/
import Derived.Test.YtgpabckipmhobaaC4a
namespace Go.Proofs.Ytgpabckipmhobaa
open Go.RowKit

attribute [local irreducible] wpQuiet wpG wpP wpK wpList Code.wp Calls

set_option maxHeartbeats 16000000 in
set_option maxRecDepth 100000 in
theorem scriptCramped_10_3 (F : Fnt) (l : Int) (c : Bool) (n : Nat) (base : Bx (n + 1)) (sb : Bx (n + 1))  (cs : List Value) (sx ux : Option Addr) (sc uc : Nat) (w : World) (hF : FntOk w F) (hr : Rep w (n + 1) base cs) (hs : RepL w (n + 1) sx [sb]) (hu : RepL w (n + 1) ux []) (b1 : 1 ≤ 1048576) (b2 : 0 ≤ 1048576) (h : MadeOkS F l false n base [sb] []) (h3 : ¬ F.sup1 < F.sup3) (h4 : ¬ F.sup2 < F.sup3) : Calls Try.prog 3 #[.agg (caseS F l c cs (.slice sx 1 sc) (.slice ux 0 uc)).toArray] w (Gives (.bool true) w) := by
  have HM := Lib.hid (fun w' (hb : Below w.heap.size w w') => made34_ok F l false n base [sb] [] cs sx ux sc uc w' (hF.below hb) (hr.step hb) (hs.step hb) (hu.step hb) b1 b2 h)
  have h' : MadeOkS F l true n base [sb] [] := scr_cramp h
  have HM2 := Lib.hid (fun w' (hb : Below w.heap.size w w') => made34_ok F l true n base [sb] [] cs sx ux sc uc w' (hF.below hb) (hr.step hb) (hs.step hb) (hu.step hb) b1 b2 h')
  have HSm := Lib.hid (validB_small h.2.2.2.2.2).1
  have d1 : decide (F.sup1 < F.sup3) = false := decide_eq_false h3
  have d2 : decide (F.sup2 < F.sup3) = false := decide_eq_false h4
  have eHM : scrB F l false n base [sb] [] = listB (n + 1) (extL ((scrK F l false n base [sb] []).map (·.1))).r (extL ((scrK F l false n base [sb] []).map (·.1))).h (extL ((scrK F l false n base [sb] []).map (·.1))).d [atXY (n + 1) base 0 0, atXY (n + 1) sb (base.1.w - italB F (n + 1) base) (-(scrUV F l false n base [sb] []).2)] := rfl
  rw [eHM] at HM
  have e12 : scrB F l true n base [sb] [] = scrB F l false n base [sb] [] := rfl
  rw [e12, eHM] at HM2
  rw [eHM] at HSm
  clear e12
  clear eHM
  generalize extL ((scrK F l false n base [sb] []).map (·.1)) = E at *
  generalize (scrUV F l false n base [sb] []).2 = VV at *
  generalize italB F (n + 1) base = IT at *
  obtain ⟨c0, c1, c2, c3, c4, c5, c6, c7, c8, c9, c10, rfl⟩ := eleven hr.len
  have hall := rep_all hr
  obtain ⟨V8, hV8⟩ : ∃ v, Value.slice sx 1 sc = v := ⟨_, rfl⟩
  obtain ⟨U8, hU8⟩ : ∃ v, Value.slice ux 0 uc = v := ⟨_, rfl⟩
  have o8 : V8.oneCell' = true := by rw [← hV8]; rfl
  have oU : U8.oneCell' = true := by rw [← hU8]; rfl
  have hallC : (caseS F l false [c0, c1, c2, c3, c4, c5, c6, c7, c8, c9, c10] V8 U8).all (·.oneCell') = true := all_app rfl (all_app rfl (all_app hall (by simp [o8, oU])))
  simp only [List.length_cons, List.length_nil, Nat.zero_add] at HM HM2
  rw [hV8, hU8] at HM HM2 ⊢
  clear hF hr hs hu h b1 b2 h' h3 h4 hV8 hall
  obtain ⟨⟨bk, bn, bz, bw, bh, bd, bx, by_, bo, bs⟩, bks⟩ := base
  obtain ⟨⟨sk, sn, sz, sw, sh, sd, sx', sy, so, ss⟩, sks⟩ := sb
  (try simp only at *)
  go_enter Try.func3, Try.ntmps3
  have hS := own_start w
  go_upto_region 3 with (first | (refine own_unguard (by rfl) ?_) | (refine own_box rfl _ _ rfl rfl hS ?_; clear hS; intro kb ww hS) | (go_at_call 9; refine own_calls hS (awake34_calls _) ?_; clear hS; (try clear ww); intro ww hS) | (refine w_ld rfl _ rfl (by rfl) (by first | exact rd_1 (by repeat constructor) (by first | rfl | assumption) | exact rd_w (by repeat constructor) (by rfl) | exact rd_o (by assumption) (by rfl) (by first | exact nmn | assumption | simp) | exact rd_h (by assumption) (by rfl) (by first | exact nmn | assumption | simp) | exact rd_1o (by assumption) (by first | exact nmn | assumption | simp) | exact rd_1h (by assumption) (by first | rfl | assumption) (by first | exact nmn | assumption | simp)) hS ?_) | (refine own_box rfl _ _ rfl (by rfl) hS ?_; clear hS; (try clear ww); intro bb ww hS) | (refine w_al rfl rfl hS ?_; clear hS; (try clear ww); intro bb ww hS) | (refine w_st rfl _ _ rfl (by rfl) (by rfl) (by repeat constructor) (by rfl) (by rfl) (by first | rfl | assumption) hS ?_; clear hS; (try clear ww); intro ww hS) | (refine w_s1 rfl _ _ rfl (by rfl) (by repeat constructor) (by first | exact .c | exact .t rfl) (by rfl) (by repeat constructor) hS ?_; clear hS; (try clear ww); intro ww hS))
  go_upto_region 4 with (first | (refine own_unguard (by rfl) ?_) | (refine own_store1 (i := 23) (v := .bool false) rfl _ _ _ rfl rfl rfl rfl hS at0 ot_bool (by show 23 < 37; decide) ?_; clear hS; (try clear ww); intro ww hS) | (refine w_ld rfl _ rfl (by rfl) (by first | exact rd_1 (by repeat constructor) (by first | rfl | assumption) | exact rd_w (by repeat constructor) (by rfl) | exact rd_o (by assumption) (by rfl) (by first | exact nmn | assumption | simp) | exact rd_h (by assumption) (by rfl) (by first | exact nmn | assumption | simp) | exact rd_1o (by assumption) (by first | exact nmn | assumption | simp) | exact rd_1h (by assumption) (by first | rfl | assumption) (by first | exact nmn | assumption | simp)) hS ?_) | (refine own_box rfl _ _ rfl (by rfl) hS ?_; clear hS; (try clear ww); intro bb ww hS) | (refine w_al rfl rfl hS ?_; clear hS; (try clear ww); intro bb ww hS) | (refine w_st rfl _ _ rfl (by rfl) (by rfl) (by repeat constructor) (by rfl) (by rfl) (by first | rfl | assumption) hS ?_; clear hS; (try clear ww); intro ww hS) | (refine w_s1 rfl _ _ rfl (by rfl) (by repeat constructor) (by first | exact .c | exact .t rfl) (by rfl) (by repeat constructor) hS ?_; clear hS; (try clear ww); intro ww hS))
  have hrC : ww.rangeAt kb 0 (caseS F l false [c0, c1, c2, c3, c4, c5, c6, c7, c8, c9, c10] V8 U8) := (hS.get at0).range
  have HB0 := Lib.hid hS.below
  obtain ⟨hrF, hrS, hrN, cV, cU⟩ := caseS_out hrC
  obtain ⟨rP, _⟩ := fnt_cells hrF
  clear hS
  have hS := own_start ww
  go_upto_region 8 with (first | (refine own_unguard (by rfl) ?_) | (refine own_load_old rfl _ _ rfl rfl hS hrC List.not_mem_nil rt_case34 ?_) | (go_at_call 10; refine Calls.mono (HM.out _ (bthen HB0.out hS.below)) ?_; rintro e w1 ⟨cs1, rfl, hR1, hb1⟩; have hrF1 := rangeAt_below (hS.range List.not_mem_nil hrF) hb1; have rP1 := rangeAt_below (hS.range List.not_mem_nil rP) hb1; have hrC1 := rangeAt_below (hS.range List.not_mem_nil hrC) hb1; have cU1 := cell_below (hS.cell List.not_mem_nil cU) hb1; have HB1 := Lib.hid (bthen HB0.out (bthen hS.below hb1));  have HR1 := Lib.hid hR1; obtain ⟨ak, ao, akc, atx, atc, aq0, aq1, rfl, ak0, ak1, ap0, ap1⟩ := list2_out hR1; obtain ⟨akx0, akc0, asx0, asc0, rfl⟩ := kid_out ap0; obtain ⟨akx1, akc1, asx1, asc1, rfl⟩ := kid_out ap1; clear hR1 hS hb1 ap0 ap1 hrC hrF hrS hrN cV cU rP; have hS := own_start w1) | (refine w_ld rfl _ rfl (by rfl) (by first | exact rd_1 (by repeat constructor) (by first | rfl | assumption) | exact rd_w (by repeat constructor) (by rfl) | exact rd_o (by assumption) (by rfl) (by first | exact nmn | assumption | simp) | exact rd_h (by assumption) (by rfl) (by first | exact nmn | assumption | simp) | exact rd_1o (by assumption) (by first | exact nmn | assumption | simp) | exact rd_1h (by assumption) (by first | rfl | assumption) (by first | exact nmn | assumption | simp)) hS ?_) | (refine own_box rfl _ _ rfl (by rfl) hS ?_; clear hS; (try clear ww); intro bb ww hS) | (refine w_al rfl rfl hS ?_; clear hS; (try clear ww); intro bb ww hS) | (refine w_st rfl _ _ rfl (by rfl) (by rfl) (by repeat constructor) (by rfl) (by rfl) (by first | rfl | assumption) hS ?_; clear hS; (try clear ww); intro ww hS) | (refine w_s1 rfl _ _ rfl (by rfl) (by repeat constructor) (by first | exact .c | exact .t rfl) (by rfl) (by repeat constructor) hS ?_; clear hS; (try clear ww); intro ww hS))
  have r3 := (hS.get at1).range
  go_upto_region 9 with (first | (refine own_unguard (by rfl) ?_) | (refine own_load_old rfl _ _ rfl rfl hS hrC1 List.not_mem_nil rt_case34 ?_) | (refine own_store rfl _ _ _ rfl rfl rfl hS at0 rt_case34 (by rfl) hallC ?_; clear hS; (try clear ww); intro ww hS) | (refine w_ld rfl _ rfl (by rfl) (by first | exact rd_1 (by repeat constructor) (by first | rfl | assumption) | exact rd_w (by repeat constructor) (by rfl) | exact rd_o (by assumption) (by rfl) (by first | exact nmn | assumption | simp) | exact rd_h (by assumption) (by rfl) (by first | exact nmn | assumption | simp) | exact rd_1o (by assumption) (by first | exact nmn | assumption | simp) | exact rd_1h (by assumption) (by first | rfl | assumption) (by first | exact nmn | assumption | simp)) hS ?_) | (refine own_box rfl _ _ rfl (by rfl) hS ?_; clear hS; (try clear ww); intro bb ww hS) | (refine w_al rfl rfl hS ?_; clear hS; (try clear ww); intro bb ww hS) | (refine w_st rfl _ _ rfl (by rfl) (by rfl) (by repeat constructor) (by rfl) (by rfl) (by first | rfl | assumption) hS ?_; clear hS; (try clear ww); intro ww hS) | (refine w_s1 rfl _ _ rfl (by rfl) (by repeat constructor) (by first | exact .c | exact .t rfl) (by rfl) (by repeat constructor) hS ?_; clear hS; (try clear ww); intro ww hS))
  go_upto_region 10 with (first | (refine own_unguard (by rfl) ?_) | (refine own_store1 (i := 23) (v := .bool true) rfl _ _ _ rfl rfl rfl rfl hS at0 ot_bool (by show 23 < 37; decide) ?_; clear hS; (try clear ww); intro ww hS) | (refine w_ld rfl _ rfl (by rfl) (by first | exact rd_1 (by repeat constructor) (by first | rfl | assumption) | exact rd_w (by repeat constructor) (by rfl) | exact rd_o (by assumption) (by rfl) (by first | exact nmn | assumption | simp) | exact rd_h (by assumption) (by rfl) (by first | exact nmn | assumption | simp) | exact rd_1o (by assumption) (by first | exact nmn | assumption | simp) | exact rd_1h (by assumption) (by first | rfl | assumption) (by first | exact nmn | assumption | simp)) hS ?_) | (refine own_box rfl _ _ rfl (by rfl) hS ?_; clear hS; (try clear ww); intro bb ww hS) | (refine w_al rfl rfl hS ?_; clear hS; (try clear ww); intro bb ww hS) | (refine w_st rfl _ _ rfl (by rfl) (by rfl) (by repeat constructor) (by rfl) (by rfl) (by first | rfl | assumption) hS ?_; clear hS; (try clear ww); intro ww hS) | (refine w_s1 rfl _ _ rfl (by rfl) (by repeat constructor) (by first | exact .c | exact .t rfl) (by rfl) (by repeat constructor) hS ?_; clear hS; (try clear ww); intro ww hS))
  have hrC : ww.rangeAt _ 0 (caseS F l true [c0, c1, c2, c3, c4, c5, c6, c7, c8, c9, c10] V8 U8) := (hS.get at0).range
  have r3 := (hS.get at2).range
  have ak1' := hS.range List.not_mem_nil ak1
  have ak0' := hS.range List.not_mem_nil ak0
  have cU := hS.cell List.not_mem_nil cU1
  have HB2 := Lib.hid (bthen HB1.out hS.below)
  have HKW := Lib.hid hS.below
  clear hS hrC1 hrF1 rP1 cU1 ak0 ak1
  rename World => w4
  have hS := own_start w4
  go_upto_region 11 with (first | (refine own_unguard (by rfl) ?_) | (refine own_load_old rfl _ _ rfl rfl hS hrC List.not_mem_nil rt_case34 ?_) | (go_at_call 10; refine Calls.mono (HM2.out _ (bthen HB2.out hS.below)) ?_; rintro e w5 ⟨cs1, rfl, hR1, hb1⟩; have r3b := rangeAt_below (hS.range List.not_mem_nil r3) hb1; have ak1b := rangeAt_below (hS.range List.not_mem_nil ak1') hb1; have ak0b := rangeAt_below (hS.range List.not_mem_nil ak0') hb1; have cU1 := cell_below (hS.cell List.not_mem_nil cU) hb1; have HB5 := Lib.hid (bthen HB2.out (bthen hS.below hb1)); have HR2 := Lib.hid hR1; have HR1b := Lib.hid (HR1.out.step (bthen HKW.out (bthen hS.below hb1))); obtain ⟨bk, bo, bkc, btx, btc, bq0, bq1, rfl, bk0, bk1, bp0, bp1⟩ := list2_out hR1; obtain ⟨bkx0, bkc0, bsx0, bsc0, rfl⟩ := kid_out bp0; obtain ⟨bkx1, bkc1, bsx1, bsc1, rfl⟩ := kid_out bp1; clear hR1 hS hb1 bp0 bp1 hrC cU r3 ak1' ak0'; have hS := own_start w5) | (refine w_ld rfl _ rfl (by rfl) (by first | exact rd_1 (by repeat constructor) (by first | rfl | assumption) | exact rd_w (by repeat constructor) (by rfl) | exact rd_o (by assumption) (by rfl) (by first | exact nmn | assumption | simp) | exact rd_h (by assumption) (by rfl) (by first | exact nmn | assumption | simp) | exact rd_1o (by assumption) (by first | exact nmn | assumption | simp) | exact rd_1h (by assumption) (by first | rfl | assumption) (by first | exact nmn | assumption | simp)) hS ?_) | (refine own_box rfl _ _ rfl (by rfl) hS ?_; clear hS; (try clear ww); intro bb ww hS) | (refine w_al rfl rfl hS ?_; clear hS; (try clear ww); intro bb ww hS) | (refine w_st rfl _ _ rfl (by rfl) (by rfl) (by repeat constructor) (by rfl) (by rfl) (by first | rfl | assumption) hS ?_; clear hS; (try clear ww); intro ww hS) | (refine w_s1 rfl _ _ rfl (by rfl) (by repeat constructor) (by first | exact .c | exact .t rfl) (by rfl) (by repeat constructor) hS ?_; clear hS; (try clear ww); intro ww hS))
  have HQ := Lib.hid (fun w' (hb : Below w5.heap.size w5 w') => ref28_Equal_calls (n + 2) _ _ _ w' (HR1b.out.step hb) (HR2.out.step hb) HSm.out)
  obtain rfl := hU8
  go_wp2_with (first | (refine own_unguard (by rfl) ?_) | (go_at_call 11; refine own_calls hS (HQ.out _ hS.below) ?_; clear hS; (try clear ww); intro ww hS) | (refine w_ld rfl _ rfl (by rfl) (by first | exact rd_1 (by repeat constructor) (by first | rfl | assumption) | exact rd_w (by repeat constructor) (by rfl) | exact rd_o (by assumption) (by rfl) (by first | exact nmn | assumption | simp) | exact rd_h (by assumption) (by rfl) (by first | exact nmn | assumption | simp) | exact rd_1o (by assumption) (by first | exact nmn | assumption | simp) | exact rd_1h (by assumption) (by first | rfl | assumption) (by first | exact nmn | assumption | simp)) hS ?_) | (refine own_box rfl _ _ rfl (by rfl) hS ?_; clear hS; (try clear ww); intro bb ww hS) | (refine w_al rfl rfl hS ?_; clear hS; (try clear ww); intro bb ww hS) | (refine w_st rfl _ _ rfl (by rfl) (by rfl) (by repeat constructor) (by rfl) (by rfl) (by first | rfl | assumption) hS ?_; clear hS; (try clear ww); intro ww hS) | (refine w_s1 rfl _ _ rfl (by rfl) (by repeat constructor) (by first | exact .c | exact .t rfl) (by rfl) (by repeat constructor) hS ?_; clear hS; (try clear ww); intro ww hS))
  go_ret
  exact ⟨rfl, bthen HB5.out hS.below⟩

end Go.Proofs.Ytgpabckipmhobaa
