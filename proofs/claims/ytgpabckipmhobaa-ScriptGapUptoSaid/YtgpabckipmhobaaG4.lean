/- Chapter 34, ScriptGap: the law returns true. -/
import Derived.Test.YtgpabckipmhobaaJ22
namespace Go.Proofs.Ytgpabckipmhobaa
open Go.RowKit

attribute [local irreducible] wpQuiet wpG wpP wpK wpList Code.wp Calls

set_option maxHeartbeats 8000000 in
set_option maxRecDepth 100000 in
theorem scriptGap_bad (F : Fnt) (l : Int) (c : Bool) (n : Nat) (base : Bx (n + 1)) (subs sups : List (Bx (n + 1))) (cs : List Value) (sx ux : Option Addr) (sc uc : Nat) (w : World) (hF : FntOk w F) (hr : Rep w (n + 1) base cs) (hs : RepL w (n + 1) sx subs) (hu : RepL w (n + 1) ux sups) (b1 : subs.length ≤ 1048576) (b2 : sups.length ≤ 1048576) (hb : ¬ MadeOkS F l c n base subs sups) : Calls Try.prog 5 #[.agg (caseS F l c cs (.slice sx subs.length sc) (.slice ux sups.length uc)).toArray] w (Gives (.bool true) w) := by
  have HM := Lib.hid (fun w' (h : Below w.heap.size w w') => made34_bad F l c n base subs sups cs sx ux sc uc w' (hF.below h) (hr.step h) (hs.step h) (hu.step h) b1 b2 0 hb)
  obtain ⟨c0, c1, c2, c3, c4, c5, c6, c7, c8, c9, c10, rfl⟩ := eleven hr.len
  clear hF hr hs hu hb
  go_enter Try.func5, Try.ntmps5
  have hS := own_start w
  go_wp2_with (first | (refine own_unguard (by rfl) ?_) | (refine own_box rfl _ _ rfl rfl hS ?_; clear hS; intro kb w0 hS0; have hrC := (hS0.get at0).range; have HB0 := Lib.hid hS0.below; obtain ⟨hrF, hrS, hrN, cV, cU⟩ := caseS_out hrC; have hS := own_start w0; clear hS0) | (refine own_load_old rfl _ _ rfl rfl hS hrC List.not_mem_nil rt_case34 ?_) | (go_at_call 9; refine own_calls hS (awake34_calls _) ?_; clear hS; (try clear ww); intro ww hS) | (go_at_call 10; refine Calls.mono (HM.out _ (bthen HB0.out hS.below)) ?_; rintro e w1 ⟨cs1, rfl, hR1, hb1⟩; have HB1 := Lib.hid (bthen HB0.out (bthen hS.below hb1)); obtain ⟨kx, kc, tx, tc, rfl⟩ := zero_out hR1; clear hR1 hS hb1; have hS := own_start w1) | (refine w_ld rfl _ rfl (by rfl) (by first | exact rd_1 (by repeat constructor) (by first | rfl | assumption) | exact rd_w (by repeat constructor) (by rfl) | exact rd_o (by assumption) (by rfl) (by first | exact nmn | assumption | simp) | exact rd_h (by assumption) (by rfl) (by first | exact nmn | assumption | simp) | exact rd_1o (by assumption) (by first | exact nmn | assumption | simp) | exact rd_1h (by assumption) (by first | rfl | assumption) (by first | exact nmn | assumption | simp)) hS ?_) | (refine own_box rfl _ _ rfl (by rfl) hS ?_; clear hS; (try clear ww); intro bb ww hS) | (refine w_al rfl rfl hS ?_; clear hS; (try clear ww); intro bb ww hS) | (refine w_st rfl _ _ rfl (by rfl) (by rfl) (by repeat constructor) (by rfl) (by rfl) (by first | rfl | assumption) hS ?_; clear hS; (try clear ww); intro ww hS) | (refine w_s1 rfl _ _ rfl (by rfl) (by repeat constructor) (by first | exact .c | exact .t rfl) (by rfl) (by repeat constructor) hS ?_; clear hS; (try clear ww); intro ww hS))
  go_ret
  exact ⟨rfl, bthen HB1.out hS.below⟩

set_option maxHeartbeats 16000000 in
set_option maxRecDepth 100000 in
theorem scriptGap_00 (F : Fnt) (l : Int) (c : Bool) (n : Nat) (base : Bx (n + 1))  (cs : List Value) (sx ux : Option Addr) (sc uc : Nat) (w : World) (hF : FntOk w F) (hr : Rep w (n + 1) base cs) (hs : RepL w (n + 1) sx []) (hu : RepL w (n + 1) ux []) (b1 : 0 ≤ 1048576) (b2 : 0 ≤ 1048576) (h : MadeOkS F l c n base [] []) : Calls Try.prog 5 #[.agg (caseS F l c cs (.slice sx 0 sc) (.slice ux 0 uc)).toArray] w (Gives (.bool true) w) := by
  have HM := Lib.hid (fun w' (hb : Below w.heap.size w w') => made34_ok F l c n base [] [] cs sx ux sc uc w' (hF.below hb) (hr.step hb) (hs.step hb) (hu.step hb) b1 b2 h)
  have huv := scrUV_in (c := c) h.2.2.2.2.1
  have hit := ital_in h.2.2.2.2.1.1 h.2.2.2.2.1.2.2.1
  have hv := h.2.2.2.2.1.1
  have hl := h.2.2.2.2.1.2.1
  have hp := prm_scr hv
  have mb := modL2_out h.2.2.2.1 (b := base) (by simp)
  obtain ⟨U, V, hUV⟩ : ∃ U V : Int, scrUV F l c n base [] [] = (U, V) := ⟨_, _, rfl⟩
  obtain ⟨IT, hIT⟩ : ∃ I, italB F (n + 1) base = I := ⟨_, rfl⟩
  obtain ⟨E, hE⟩ : ∃ E, extL ((scrK F l c n base [] []).map (·.1)) = E := ⟨_, rfl⟩
  have eK : scrK F l c n base [] [] = [atXY (n + 1) base 0 0] := by
    unfold scrK
    rw [hUV, hIT]
    rfl
  have eR : scrB F l c n base [] [] = listB (n + 1) E.r E.h E.d [atXY (n + 1) base 0 0] := by
    unfold scrB
    rw [hE, eK]
  rw [eR] at HM
  rw [hUV] at huv
  (try rw [hUV] at hg)
  rw [hIT] at hit
  (try simp only at huv hg)
  (try simp only at huv)
  obtain ⟨c0, c1, c2, c3, c4, c5, c6, c7, c8, c9, c10, rfl⟩ := eleven hr.len
  clear hF hr hs hu h huv hit hv hl hp mb hUV hIT hE eK eR b1 b2
  obtain ⟨⟨bk, bn, bz, bw, bh, bd, bx, by_, bo, bs⟩, bks⟩ := base
  go_enter Try.func5, Try.ntmps5
  have hS := own_start w
  go_wp2_with (first | (refine own_unguard (by rfl) ?_) | (refine own_box rfl _ _ rfl rfl hS ?_; clear hS; intro kb w0 hS0; have hrC := (hS0.get at0).range; have HB0 := Lib.hid hS0.below; obtain ⟨hrF, hrS, hrN, cV, cU⟩ := caseS_out hrC; have hS := own_start w0; clear hS0) | (refine own_load_old rfl _ _ rfl rfl hS hrC List.not_mem_nil rt_case34 ?_) | (go_at_call 9; refine own_calls hS (awake34_calls _) ?_; clear hS; (try clear ww); intro ww hS) | (go_at_call 10; refine Calls.mono (HM.out _ (bthen HB0.out hS.below)) ?_; rintro e w1 ⟨cs1, rfl, hR1, hb1⟩; have hrF1 := rangeAt_below (hS.range List.not_mem_nil hrF) hb1; have hrS1 := rangeAt_below (hS.range List.not_mem_nil hrS) hb1; have hrN1 := rangeAt_below (hS.range List.not_mem_nil hrN) hb1; have cV1 := cell_below (hS.cell List.not_mem_nil cV) hb1; have cU1 := cell_below (hS.cell List.not_mem_nil cU) hb1; have HB1 := Lib.hid (bthen HB0.out (bthen hS.below hb1)); obtain ⟨k, o, kc, tx, tc, q0, rfl, hk0, hp0⟩ := list1_out hR1; obtain ⟨kx0, kc0, sx0, sc0, rfl⟩ := kid_out hp0; obtain ⟨rP1, p3, p5, p13, p14, p15, p16⟩ := fnt_cells hrF1; clear hR1 hS hb1 hp0 hrC hrF hrS hrN cV cU; have hS := own_start w1) | (refine w_ld rfl _ rfl (by rfl) (by first | exact rd_1 (by repeat constructor) (by first | rfl | assumption) | exact rd_w (by repeat constructor) (by rfl) | exact rd_o (by assumption) (by rfl) (by first | exact nmn | assumption | simp) | exact rd_h (by assumption) (by rfl) (by first | exact nmn | assumption | simp) | exact rd_1o (by assumption) (by first | exact nmn | assumption | simp) | exact rd_1h (by assumption) (by first | rfl | assumption) (by first | exact nmn | assumption | simp)) hS ?_) | (refine own_box rfl _ _ rfl (by rfl) hS ?_; clear hS; (try clear ww); intro bb ww hS) | (refine w_al rfl rfl hS ?_; clear hS; (try clear ww); intro bb ww hS) | (refine w_st rfl _ _ rfl (by rfl) (by rfl) (by repeat constructor) (by rfl) (by rfl) (by first | rfl | assumption) hS ?_; clear hS; (try clear ww); intro ww hS) | (refine w_s1 rfl _ _ rfl (by rfl) (by repeat constructor) (by first | exact .c | exact .t rfl) (by rfl) (by repeat constructor) hS ?_; clear hS; (try clear ww); intro ww hS))
  go_ret
  exact ⟨rfl, bthen HB1.out hS.below⟩

set_option maxHeartbeats 16000000 in
set_option maxRecDepth 100000 in
theorem scriptGap_01 (F : Fnt) (l : Int) (c : Bool) (n : Nat) (base : Bx (n + 1)) (sp : Bx (n + 1)) (cs : List Value) (sx ux : Option Addr) (sc uc : Nat) (w : World) (hF : FntOk w F) (hr : Rep w (n + 1) base cs) (hs : RepL w (n + 1) sx []) (hu : RepL w (n + 1) ux [sp]) (b1 : 0 ≤ 1048576) (b2 : 1 ≤ 1048576) (h : MadeOkS F l c n base [] [sp]) : Calls Try.prog 5 #[.agg (caseS F l c cs (.slice sx 0 sc) (.slice ux 1 uc)).toArray] w (Gives (.bool true) w) := by
  have HM := Lib.hid (fun w' (hb : Below w.heap.size w w') => made34_ok F l c n base [] [sp] cs sx ux sc uc w' (hF.below hb) (hr.step hb) (hs.step hb) (hu.step hb) b1 b2 h)
  have huv := scrUV_in (c := c) h.2.2.2.2.1
  have hit := ital_in h.2.2.2.2.1.1 h.2.2.2.2.1.2.2.1
  have hv := h.2.2.2.2.1.1
  have hl := h.2.2.2.2.1.2.1
  have hp := prm_scr hv
  have mb := modL2_out h.2.2.2.1 (b := base) (by simp)
  have mu := modL2_out h.2.2.2.1 (b := sp) (by simp)
  have hg := scr_up F l c n base sp
  have bX := shX_in (l := l) (p := 25) hv (by omega)
  have HX := Lib.hid (fun w' => show Calls Try.prog 21 #[F.val, .agg #[.int .i64 l, .bool c], .int .i64 25] w' (Gives (.int .i64 (shX F l 25)) w') from ref34_XHeight_calls F l 25 c w' hl hv (by omega))
  generalize shX F l 25 = M at *
  obtain ⟨U, V, hUV⟩ : ∃ U V : Int, scrUV F l c n base [] [sp] = (U, V) := ⟨_, _, rfl⟩
  obtain ⟨IT, hIT⟩ : ∃ I, italB F (n + 1) base = I := ⟨_, rfl⟩
  obtain ⟨E, hE⟩ : ∃ E, extL ((scrK F l c n base [] [sp]).map (·.1)) = E := ⟨_, rfl⟩
  have eK : scrK F l c n base [] [sp] = [atXY (n + 1) base 0 0, atXY (n + 1) sp base.1.w U] := by
    unfold scrK
    rw [hUV, hIT]
    rfl
  have eR : scrB F l c n base [] [sp] = listB (n + 1) E.r E.h E.d [atXY (n + 1) base 0 0, atXY (n + 1) sp base.1.w U] := by
    unfold scrB
    rw [hE, eK]
  rw [eR] at HM
  rw [hUV] at huv
  (try rw [hUV] at hg)
  rw [hIT] at hit
  (try simp only at huv hg)
  (try simp only at huv)
  obtain ⟨X1, hX1⟩ : ∃ x : Int, x = U - sp.1.d := ⟨_, rfl⟩
  have iX1 : IntKind.i64.wrap (U - sp.1.d) = X1 := by rw [hX1]; exact IntWalk.i64_in _ (by omega)
  have t1 : decide (M ≤ X1) = true := decide_eq_true (by omega)
  obtain ⟨c0, c1, c2, c3, c4, c5, c6, c7, c8, c9, c10, rfl⟩ := eleven hr.len
  clear hF hr hs hu h huv hit hv hl hp mb hUV hIT hE eK eR b1 b2 mu hg bX hX1
  obtain ⟨⟨bk, bn, bz, bw, bh, bd, bx, by_, bo, bs⟩, bks⟩ := base
  obtain ⟨⟨uk, un, uz, uw, uh, ud, ux', uy, uo, us⟩, uks⟩ := sp
  simp only at *
  go_enter Try.func5, Try.ntmps5
  have hS := own_start w
  go_upto_region 11 with (first | (refine own_unguard (by rfl) ?_) | (refine own_box rfl _ _ rfl rfl hS ?_; clear hS; intro kb w0 hS0; have hrC := (hS0.get at0).range; have HB0 := Lib.hid hS0.below; obtain ⟨hrF, hrS, hrN, cV, cU⟩ := caseS_out hrC; have hS := own_start w0; clear hS0) | (refine own_load_old rfl _ _ rfl rfl hS hrC List.not_mem_nil rt_case34 ?_) | (go_at_call 9; refine own_calls hS (awake34_calls _) ?_; clear hS; (try clear ww); intro ww hS) | (go_at_call 10; refine Calls.mono (HM.out _ (bthen HB0.out hS.below)) ?_; rintro e w1 ⟨cs1, rfl, hR1, hb1⟩; have hrF1 := rangeAt_below (hS.range List.not_mem_nil hrF) hb1; have hrS1 := rangeAt_below (hS.range List.not_mem_nil hrS) hb1; have hrN1 := rangeAt_below (hS.range List.not_mem_nil hrN) hb1; have cV1 := cell_below (hS.cell List.not_mem_nil cV) hb1; have cU1 := cell_below (hS.cell List.not_mem_nil cU) hb1; have HB1 := Lib.hid (bthen HB0.out (bthen hS.below hb1)); obtain ⟨k, o, kc, tx, tc, q0, q1, rfl, hk0, hk1, hp0, hp1⟩ := list2_out hR1; obtain ⟨kx0, kc0, sx0, sc0, rfl⟩ := kid_out hp0; obtain ⟨kx1, kc1, sx1, sc1, rfl⟩ := kid_out hp1; obtain ⟨rP1, p3, p5, p13, p14, p15, p16⟩ := fnt_cells hrF1; clear hR1 hS hb1 hp0 hp1 hrC hrF hrS hrN cV cU; have hS := own_start w1) | (refine w_ld rfl _ rfl (by rfl) (by first | exact rd_1 (by repeat constructor) (by first | rfl | assumption) | exact rd_w (by repeat constructor) (by rfl) | exact rd_o (by assumption) (by rfl) (by first | exact nmn | assumption | simp) | exact rd_h (by assumption) (by rfl) (by first | exact nmn | assumption | simp) | exact rd_1o (by assumption) (by first | exact nmn | assumption | simp) | exact rd_1h (by assumption) (by first | rfl | assumption) (by first | exact nmn | assumption | simp)) hS ?_) | (refine own_box rfl _ _ rfl (by rfl) hS ?_; clear hS; (try clear ww); intro bb ww hS) | (refine w_al rfl rfl hS ?_; clear hS; (try clear ww); intro bb ww hS) | (refine w_st rfl _ _ rfl (by rfl) (by rfl) (by repeat constructor) (by rfl) (by rfl) (by first | rfl | assumption) hS ?_; clear hS; (try clear ww); intro ww hS) | (refine w_s1 rfl _ _ rfl (by rfl) (by repeat constructor) (by first | exact .c | exact .t rfl) (by rfl) (by repeat constructor) hS ?_; clear hS; (try clear ww); intro ww hS))
  (try simp only [Act.put]); (try simp only [List.setIfInBounds_toArray]); (try simp only [List.set_cons_succ]); (try simp only [List.set_cons_zero])
  refine own_region hS (by kernel_rfl) (by kernel_rfl) ?_
  (try simp only [List.append])
  (try simp only); (try simp only [List.drop_succ_cons]); (try simp only [List.drop_zero]); (try simp only [List.take_succ_cons]); (try simp only [List.take_zero])
  repeat (first
      | (first | (refine quiet_plain rfl ?_) | (refine quiet_yes rfl rfl rfl (by simp only [List.getElem?_toArray, List.getElem?_cons_succ, List.getElem?_cons_zero]; rfl) (by with_reducible constructor) ?_)
         apply Exists.intro; refine ⟨?_, ?_⟩
         focus (intro wq hq0; have hq : Own _ _ _ wq := hq0; first | (exact quietAt_rd rfl (by rfl) (by first | exact rd_1 (by repeat constructor) (by first | rfl | assumption) | exact rd_w (by repeat constructor) (by rfl) | exact rd_o (by assumption) (by rfl) (by first | exact nmn | assumption | simp) | exact rd_h (by assumption) (by rfl) (by first | exact nmn | assumption | simp) | exact rd_1o (by assumption) (by first | exact nmn | assumption | simp) | exact rd_1h (by assumption) (by first | rfl | assumption) (by first | exact nmn | assumption | simp)) hq) | (go_simp; first | (go_at_call 21; exact quietG hq (HX.out _)) | (with_reducible rfl)))
         simp only [Act.put, List.setIfInBounds_toArray, List.set_cons_zero, List.set_cons_succ])
      | (refine quiet_no rfl rfl rfl (by simp only [List.getElem?_toArray, List.getElem?_cons_succ, List.getElem?_cons_zero]; rfl) (by with_reducible constructor) ?_; simp only [Act.put, List.setIfInBounds_toArray, List.set_cons_zero, List.set_cons_succ]))
  refine wpQuiet_nil ?_
  clear hS
  intro ww hS
  go_wp2_with (first | (refine own_unguard (by rfl) ?_) | (refine w_ld rfl _ rfl (by rfl) (by first | exact rd_1 (by repeat constructor) (by first | rfl | assumption) | exact rd_w (by repeat constructor) (by rfl) | exact rd_o (by assumption) (by rfl) (by first | exact nmn | assumption | simp) | exact rd_h (by assumption) (by rfl) (by first | exact nmn | assumption | simp) | exact rd_1o (by assumption) (by first | exact nmn | assumption | simp) | exact rd_1h (by assumption) (by first | rfl | assumption) (by first | exact nmn | assumption | simp)) hS ?_) | (refine own_box rfl _ _ rfl (by rfl) hS ?_; clear hS; (try clear ww); intro bb ww hS) | (refine w_al rfl rfl hS ?_; clear hS; (try clear ww); intro bb ww hS) | (refine w_st rfl _ _ rfl (by rfl) (by rfl) (by repeat constructor) (by rfl) (by rfl) (by first | rfl | assumption) hS ?_; clear hS; (try clear ww); intro ww hS) | (refine w_s1 rfl _ _ rfl (by rfl) (by repeat constructor) (by first | exact .c | exact .t rfl) (by rfl) (by repeat constructor) hS ?_; clear hS; (try clear ww); intro ww hS))
  go_ret
  exact ⟨rfl, bthen HB1.out hS.below⟩

set_option maxHeartbeats 16000000 in
set_option maxRecDepth 100000 in
theorem scriptGap_10 (F : Fnt) (l : Int) (c : Bool) (n : Nat) (base : Bx (n + 1)) (sb : Bx (n + 1))  (cs : List Value) (sx ux : Option Addr) (sc uc : Nat) (w : World) (hF : FntOk w F) (hr : Rep w (n + 1) base cs) (hs : RepL w (n + 1) sx [sb]) (hu : RepL w (n + 1) ux []) (b1 : 1 ≤ 1048576) (b2 : 0 ≤ 1048576) (h : MadeOkS F l c n base [sb] []) : Calls Try.prog 5 #[.agg (caseS F l c cs (.slice sx 1 sc) (.slice ux 0 uc)).toArray] w (Gives (.bool true) w) := by
  have HM := Lib.hid (fun w' (hb : Below w.heap.size w w') => made34_ok F l c n base [sb] [] cs sx ux sc uc w' (hF.below hb) (hr.step hb) (hs.step hb) (hu.step hb) b1 b2 h)
  have huv := scrUV_in (c := c) h.2.2.2.2.1
  have hit := ital_in h.2.2.2.2.1.1 h.2.2.2.2.1.2.2.1
  have hv := h.2.2.2.2.1.1
  have hl := h.2.2.2.2.1.2.1
  have hp := prm_scr hv
  have mb := modL2_out h.2.2.2.1 (b := base) (by simp)
  have ms := modL2_out h.2.2.2.1 (b := sb) (by simp)
  have hg := scr_low F l c n base sb
  have bX := shX_in (l := l) (p := 80) hv (by omega)
  have HX := Lib.hid (fun w' => show Calls Try.prog 21 #[F.val, .agg #[.int .i64 l, .bool c], .int .i64 80] w' (Gives (.int .i64 (shX F l 80)) w') from ref34_XHeight_calls F l 80 c w' hl hv (by omega))
  generalize shX F l 80 = M at *
  obtain ⟨U, V, hUV⟩ : ∃ U V : Int, scrUV F l c n base [sb] [] = (U, V) := ⟨_, _, rfl⟩
  obtain ⟨IT, hIT⟩ : ∃ I, italB F (n + 1) base = I := ⟨_, rfl⟩
  obtain ⟨E, hE⟩ : ∃ E, extL ((scrK F l c n base [sb] []).map (·.1)) = E := ⟨_, rfl⟩
  have eK : scrK F l c n base [sb] [] = [atXY (n + 1) base 0 0, atXY (n + 1) sb (base.1.w - IT) (-V)] := by
    unfold scrK
    rw [hUV, hIT]
    rfl
  have eR : scrB F l c n base [sb] [] = listB (n + 1) E.r E.h E.d [atXY (n + 1) base 0 0, atXY (n + 1) sb (base.1.w - IT) (-V)] := by
    unfold scrB
    rw [hE, eK]
  rw [eR] at HM
  rw [hUV] at huv
  (try rw [hUV] at hg)
  rw [hIT] at hit
  (try simp only at huv hg)
  (try simp only at huv)
  obtain ⟨X1, hX1⟩ : ∃ x : Int, x = -V + sb.1.h := ⟨_, rfl⟩
  have iX1 : IntKind.i64.wrap (-V + sb.1.h) = X1 := by rw [hX1]; exact IntWalk.i64_in _ (by omega)
  have t1 : decide (X1 ≤ M) = true := decide_eq_true (by omega)
  obtain ⟨c0, c1, c2, c3, c4, c5, c6, c7, c8, c9, c10, rfl⟩ := eleven hr.len
  clear hF hr hs hu h huv hit hv hl hp mb hUV hIT hE eK eR b1 b2 ms hg bX hX1
  obtain ⟨⟨bk, bn, bz, bw, bh, bd, bx, by_, bo, bs⟩, bks⟩ := base
  obtain ⟨⟨sk, sn, sz, sw, sh, sd, sx', sy, so, ss⟩, sks⟩ := sb
  simp only at *
  go_enter Try.func5, Try.ntmps5
  have hS := own_start w
  go_upto_region 12 with (first | (refine own_unguard (by rfl) ?_) | (refine own_box rfl _ _ rfl rfl hS ?_; clear hS; intro kb w0 hS0; have hrC := (hS0.get at0).range; have HB0 := Lib.hid hS0.below; obtain ⟨hrF, hrS, hrN, cV, cU⟩ := caseS_out hrC; have hS := own_start w0; clear hS0) | (refine own_load_old rfl _ _ rfl rfl hS hrC List.not_mem_nil rt_case34 ?_) | (go_at_call 9; refine own_calls hS (awake34_calls _) ?_; clear hS; (try clear ww); intro ww hS) | (go_at_call 10; refine Calls.mono (HM.out _ (bthen HB0.out hS.below)) ?_; rintro e w1 ⟨cs1, rfl, hR1, hb1⟩; have hrF1 := rangeAt_below (hS.range List.not_mem_nil hrF) hb1; have hrS1 := rangeAt_below (hS.range List.not_mem_nil hrS) hb1; have hrN1 := rangeAt_below (hS.range List.not_mem_nil hrN) hb1; have cV1 := cell_below (hS.cell List.not_mem_nil cV) hb1; have cU1 := cell_below (hS.cell List.not_mem_nil cU) hb1; have HB1 := Lib.hid (bthen HB0.out (bthen hS.below hb1)); obtain ⟨k, o, kc, tx, tc, q0, q1, rfl, hk0, hk1, hp0, hp1⟩ := list2_out hR1; obtain ⟨kx0, kc0, sx0, sc0, rfl⟩ := kid_out hp0; obtain ⟨kx1, kc1, sx1, sc1, rfl⟩ := kid_out hp1; obtain ⟨rP1, p3, p5, p13, p14, p15, p16⟩ := fnt_cells hrF1; clear hR1 hS hb1 hp0 hp1 hrC hrF hrS hrN cV cU; have hS := own_start w1) | (refine w_ld rfl _ rfl (by rfl) (by first | exact rd_1 (by repeat constructor) (by first | rfl | assumption) | exact rd_w (by repeat constructor) (by rfl) | exact rd_o (by assumption) (by rfl) (by first | exact nmn | assumption | simp) | exact rd_h (by assumption) (by rfl) (by first | exact nmn | assumption | simp) | exact rd_1o (by assumption) (by first | exact nmn | assumption | simp) | exact rd_1h (by assumption) (by first | rfl | assumption) (by first | exact nmn | assumption | simp)) hS ?_) | (refine own_box rfl _ _ rfl (by rfl) hS ?_; clear hS; (try clear ww); intro bb ww hS) | (refine w_al rfl rfl hS ?_; clear hS; (try clear ww); intro bb ww hS) | (refine w_st rfl _ _ rfl (by rfl) (by rfl) (by repeat constructor) (by rfl) (by rfl) (by first | rfl | assumption) hS ?_; clear hS; (try clear ww); intro ww hS) | (refine w_s1 rfl _ _ rfl (by rfl) (by repeat constructor) (by first | exact .c | exact .t rfl) (by rfl) (by repeat constructor) hS ?_; clear hS; (try clear ww); intro ww hS))
  (try simp only [Act.put]); (try simp only [List.setIfInBounds_toArray]); (try simp only [List.set_cons_succ]); (try simp only [List.set_cons_zero])
  refine own_region hS (by kernel_rfl) (by kernel_rfl) ?_
  (try simp only [List.append])
  (try simp only); (try simp only [List.drop_succ_cons]); (try simp only [List.drop_zero]); (try simp only [List.take_succ_cons]); (try simp only [List.take_zero])
  repeat (first
      | (first | (refine quiet_plain rfl ?_) | (refine quiet_yes rfl rfl rfl (by simp only [List.getElem?_toArray, List.getElem?_cons_succ, List.getElem?_cons_zero]; rfl) (by with_reducible constructor) ?_)
         apply Exists.intro; refine ⟨?_, ?_⟩
         focus (intro wq hq0; have hq : Own _ _ _ wq := hq0; first | (exact quietAt_rd rfl (by rfl) (by first | exact rd_1 (by repeat constructor) (by first | rfl | assumption) | exact rd_w (by repeat constructor) (by rfl) | exact rd_o (by assumption) (by rfl) (by first | exact nmn | assumption | simp) | exact rd_h (by assumption) (by rfl) (by first | exact nmn | assumption | simp) | exact rd_1o (by assumption) (by first | exact nmn | assumption | simp) | exact rd_1h (by assumption) (by first | rfl | assumption) (by first | exact nmn | assumption | simp)) hq) | (go_simp; first | (go_at_call 21; exact quietG hq (HX.out _)) | (with_reducible rfl)))
         simp only [Act.put, List.setIfInBounds_toArray, List.set_cons_zero, List.set_cons_succ])
      | (refine quiet_no rfl rfl rfl (by simp only [List.getElem?_toArray, List.getElem?_cons_succ, List.getElem?_cons_zero]; rfl) (by with_reducible constructor) ?_; simp only [Act.put, List.setIfInBounds_toArray, List.set_cons_zero, List.set_cons_succ]))
  refine wpQuiet_nil ?_
  clear hS
  intro ww hS
  go_wp2_with (first | (refine own_unguard (by rfl) ?_) | (refine w_ld rfl _ rfl (by rfl) (by first | exact rd_1 (by repeat constructor) (by first | rfl | assumption) | exact rd_w (by repeat constructor) (by rfl) | exact rd_o (by assumption) (by rfl) (by first | exact nmn | assumption | simp) | exact rd_h (by assumption) (by rfl) (by first | exact nmn | assumption | simp) | exact rd_1o (by assumption) (by first | exact nmn | assumption | simp) | exact rd_1h (by assumption) (by first | rfl | assumption) (by first | exact nmn | assumption | simp)) hS ?_) | (refine own_box rfl _ _ rfl (by rfl) hS ?_; clear hS; (try clear ww); intro bb ww hS) | (refine w_al rfl rfl hS ?_; clear hS; (try clear ww); intro bb ww hS) | (refine w_st rfl _ _ rfl (by rfl) (by rfl) (by repeat constructor) (by rfl) (by rfl) (by first | rfl | assumption) hS ?_; clear hS; (try clear ww); intro ww hS) | (refine w_s1 rfl _ _ rfl (by rfl) (by repeat constructor) (by first | exact .c | exact .t rfl) (by rfl) (by repeat constructor) hS ?_; clear hS; (try clear ww); intro ww hS))
  go_ret
  exact ⟨rfl, bthen HB1.out hS.below⟩

set_option maxHeartbeats 16000000 in
set_option maxRecDepth 100000 in
theorem scriptGap_11 (F : Fnt) (l : Int) (c : Bool) (n : Nat) (base : Bx (n + 1)) (sb : Bx (n + 1)) (sp : Bx (n + 1)) (cs : List Value) (sx ux : Option Addr) (sc uc : Nat) (w : World) (hF : FntOk w F) (hr : Rep w (n + 1) base cs) (hs : RepL w (n + 1) sx [sb]) (hu : RepL w (n + 1) ux [sp]) (b1 : 1 ≤ 1048576) (b2 : 1 ≤ 1048576) (h : MadeOkS F l c n base [sb] [sp]) : Calls Try.prog 5 #[.agg (caseS F l c cs (.slice sx 1 sc) (.slice ux 1 uc)).toArray] w (Gives (.bool true) w) := by
  have HM := Lib.hid (fun w' (hb : Below w.heap.size w w') => made34_ok F l c n base [sb] [sp] cs sx ux sc uc w' (hF.below hb) (hr.step hb) (hs.step hb) (hu.step hb) b1 b2 h)
  have huv := scrUV_in (c := c) h.2.2.2.2.1
  have hit := ital_in h.2.2.2.2.1.1 h.2.2.2.2.1.2.2.1
  have hv := h.2.2.2.2.1.1
  have hl := h.2.2.2.2.1.2.1
  have hp := prm_scr hv
  have mb := modL2_out h.2.2.2.1 (b := base) (by simp)
  have ms := modL2_out h.2.2.2.1 (b := sb) (by simp)
  have mu := modL2_out h.2.2.2.1 (b := sp) (by simp)
  have hg := scr_gap F l c n base sb sp
  have bR := par_in (l := l) hv hp.2.1.1 hp.2.1.2
  have HP := Lib.hid (fun w' => ref32_Par_calls F l F.rule c w' hl hv (by omega))
  generalize par F l F.rule = R at *
  obtain ⟨U, V, hUV⟩ : ∃ U V : Int, scrUV F l c n base [sb] [sp] = (U, V) := ⟨_, _, rfl⟩
  obtain ⟨IT, hIT⟩ : ∃ I, italB F (n + 1) base = I := ⟨_, rfl⟩
  obtain ⟨E, hE⟩ : ∃ E, extL ((scrK F l c n base [sb] [sp]).map (·.1)) = E := ⟨_, rfl⟩
  have eK : scrK F l c n base [sb] [sp] = [atXY (n + 1) base 0 0, atXY (n + 1) sb (base.1.w - IT) (-V), atXY (n + 1) sp base.1.w U] := by
    unfold scrK
    rw [hUV, hIT]
    rfl
  have eR : scrB F l c n base [sb] [sp] = listB (n + 1) E.r E.h E.d [atXY (n + 1) base 0 0, atXY (n + 1) sb (base.1.w - IT) (-V), atXY (n + 1) sp base.1.w U] := by
    unfold scrB
    rw [hE, eK]
  rw [eR] at HM
  rw [hUV] at huv
  (try rw [hUV] at hg)
  rw [hIT] at hit
  (try simp only at huv hg)
  (try simp only at huv)
  have q1 : R ≤ 20000 := by omega
  obtain ⟨X1, hX1⟩ : ∃ x : Int, x = U - sp.1.d := ⟨_, rfl⟩
  have iX1 : IntKind.i64.wrap (U - sp.1.d) = X1 := by rw [hX1]; exact IntWalk.i64_in _ (by omega)
  obtain ⟨X2, hX2⟩ : ∃ x : Int, x = -V + sb.1.h := ⟨_, rfl⟩
  have iX2 : IntKind.i64.wrap (-V + sb.1.h) = X2 := by rw [hX2]; exact IntWalk.i64_in _ (by omega)
  obtain ⟨X3, hX3⟩ : ∃ x : Int, x = X1 - X2 := ⟨_, rfl⟩
  have iX3 : IntKind.i64.wrap (X1 - X2) = X3 := by rw [hX3]; exact IntWalk.i64_in _ (by omega)
  obtain ⟨X4, hX4⟩ : ∃ x : Int, x = 4 * R := ⟨_, rfl⟩
  have iX4 : IntKind.i64.wrap (4 * R) = X4 := by rw [hX4]; exact IntWalk.i64_in _ (by omega)
  have t1 : decide (X4 ≤ X3) = true := decide_eq_true (by omega)
  obtain ⟨c0, c1, c2, c3, c4, c5, c6, c7, c8, c9, c10, rfl⟩ := eleven hr.len
  clear hF hr hs hu h huv hit hv hl hp mb hUV hIT hE eK eR b1 b2 ms mu hg bR q1 hX1 hX2 hX3 hX4
  obtain ⟨⟨bk, bn, bz, bw, bh, bd, bx, by_, bo, bs⟩, bks⟩ := base
  obtain ⟨⟨sk, sn, sz, sw, sh, sd, sx', sy, so, ss⟩, sks⟩ := sb
  obtain ⟨⟨uk, un, uz, uw, uh, ud, ux', uy, uo, us⟩, uks⟩ := sp
  simp only at *
  go_enter Try.func5, Try.ntmps5
  have hS := own_start w
  go_upto_region 9 with (first | (refine own_unguard (by rfl) ?_) | (refine own_box rfl _ _ rfl rfl hS ?_; clear hS; intro kb w0 hS0; have hrC := (hS0.get at0).range; have HB0 := Lib.hid hS0.below; obtain ⟨hrF, hrS, hrN, cV, cU⟩ := caseS_out hrC; have hS := own_start w0; clear hS0) | (refine own_load_old rfl _ _ rfl rfl hS hrC List.not_mem_nil rt_case34 ?_) | (go_at_call 9; refine own_calls hS (awake34_calls _) ?_; clear hS; (try clear ww); intro ww hS) | (go_at_call 10; refine Calls.mono (HM.out _ (bthen HB0.out hS.below)) ?_; rintro e w1 ⟨cs1, rfl, hR1, hb1⟩; have hrF1 := rangeAt_below (hS.range List.not_mem_nil hrF) hb1; have hrS1 := rangeAt_below (hS.range List.not_mem_nil hrS) hb1; have hrN1 := rangeAt_below (hS.range List.not_mem_nil hrN) hb1; have cV1 := cell_below (hS.cell List.not_mem_nil cV) hb1; have cU1 := cell_below (hS.cell List.not_mem_nil cU) hb1; have HB1 := Lib.hid (bthen HB0.out (bthen hS.below hb1)); obtain ⟨k, o, kc, tx, tc, q0, q1, q2, rfl, hk0, hk1, hk2, hp0, hp1, hp2⟩ := three_out hR1; obtain ⟨kx0, kc0, sx0, sc0, rfl⟩ := kid_out hp0; obtain ⟨kx1, kc1, sx1, sc1, rfl⟩ := kid_out hp1; obtain ⟨kx2, kc2, sx2, sc2, rfl⟩ := kid_out hp2; obtain ⟨rP1, p3, p5, p13, p14, p15, p16⟩ := fnt_cells hrF1; clear hR1 hS hb1 hp0 hp1 hp2 hrC hrF hrS hrN cV cU; have hS := own_start w1) | (refine w_ld rfl _ rfl (by rfl) (by first | exact rd_1 (by repeat constructor) (by first | rfl | assumption) | exact rd_w (by repeat constructor) (by rfl) | exact rd_o (by assumption) (by rfl) (by first | exact nmn | assumption | simp) | exact rd_h (by assumption) (by rfl) (by first | exact nmn | assumption | simp) | exact rd_1o (by assumption) (by first | exact nmn | assumption | simp) | exact rd_1h (by assumption) (by first | rfl | assumption) (by first | exact nmn | assumption | simp)) hS ?_) | (refine own_box rfl _ _ rfl (by rfl) hS ?_; clear hS; (try clear ww); intro bb ww hS) | (refine w_al rfl rfl hS ?_; clear hS; (try clear ww); intro bb ww hS) | (refine w_st rfl _ _ rfl (by rfl) (by rfl) (by repeat constructor) (by rfl) (by rfl) (by first | rfl | assumption) hS ?_; clear hS; (try clear ww); intro ww hS) | (refine w_s1 rfl _ _ rfl (by rfl) (by repeat constructor) (by first | exact .c | exact .t rfl) (by rfl) (by repeat constructor) hS ?_; clear hS; (try clear ww); intro ww hS))
  (try simp only [Act.put]); (try simp only [List.setIfInBounds_toArray]); (try simp only [List.set_cons_succ]); (try simp only [List.set_cons_zero])
  refine own_region hS (by kernel_rfl) (by kernel_rfl) ?_
  (try simp only [List.append])
  (try simp only); (try simp only [List.drop_succ_cons]); (try simp only [List.drop_zero]); (try simp only [List.take_succ_cons]); (try simp only [List.take_zero])
  repeat (first
      | (first | (refine quiet_plain rfl ?_) | (refine quiet_yes rfl rfl rfl (by simp only [List.getElem?_toArray, List.getElem?_cons_succ, List.getElem?_cons_zero]; rfl) (by with_reducible constructor) ?_)
         apply Exists.intro; refine ⟨?_, ?_⟩
         focus (intro wq hq0; have hq : Own _ _ _ wq := hq0; first | (exact quietAt_rd rfl (by rfl) (by first | exact rd_1 (by repeat constructor) (by first | rfl | assumption) | exact rd_w (by repeat constructor) (by rfl) | exact rd_o (by assumption) (by rfl) (by first | exact nmn | assumption | simp) | exact rd_h (by assumption) (by rfl) (by first | exact nmn | assumption | simp) | exact rd_1o (by assumption) (by first | exact nmn | assumption | simp) | exact rd_1h (by assumption) (by first | rfl | assumption) (by first | exact nmn | assumption | simp)) hq) | (go_simp; first | (go_at_call 20; exact quietG hq (HP.out _)) | (with_reducible rfl)))
         simp only [Act.put, List.setIfInBounds_toArray, List.set_cons_zero, List.set_cons_succ])
      | (refine quiet_no rfl rfl rfl (by simp only [List.getElem?_toArray, List.getElem?_cons_succ, List.getElem?_cons_zero]; rfl) (by with_reducible constructor) ?_; simp only [Act.put, List.setIfInBounds_toArray, List.set_cons_zero, List.set_cons_succ]))
  refine wpQuiet_nil ?_
  clear hS
  intro ww hS
  go_wp2_with (first | (refine own_unguard (by rfl) ?_) | (refine w_ld rfl _ rfl (by rfl) (by first | exact rd_1 (by repeat constructor) (by first | rfl | assumption) | exact rd_w (by repeat constructor) (by rfl) | exact rd_o (by assumption) (by rfl) (by first | exact nmn | assumption | simp) | exact rd_h (by assumption) (by rfl) (by first | exact nmn | assumption | simp) | exact rd_1o (by assumption) (by first | exact nmn | assumption | simp) | exact rd_1h (by assumption) (by first | rfl | assumption) (by first | exact nmn | assumption | simp)) hS ?_) | (refine own_box rfl _ _ rfl (by rfl) hS ?_; clear hS; (try clear ww); intro bb ww hS) | (refine w_al rfl rfl hS ?_; clear hS; (try clear ww); intro bb ww hS) | (refine w_st rfl _ _ rfl (by rfl) (by rfl) (by repeat constructor) (by rfl) (by rfl) (by first | rfl | assumption) hS ?_; clear hS; (try clear ww); intro ww hS) | (refine w_s1 rfl _ _ rfl (by rfl) (by repeat constructor) (by first | exact .c | exact .t rfl) (by rfl) (by repeat constructor) hS ?_; clear hS; (try clear ww); intro ww hS))
  go_ret
  exact ⟨rfl, bthen HB1.out hS.below⟩

theorem scriptGap_calls (F : Fnt) (l : Int) (c : Bool) (n : Nat) (base : Bx (n + 1)) (subs sups : List (Bx (n + 1))) (cs : List Value) (sx ux : Option Addr) (sc uc : Nat) (w : World) (hF : FntOk w F) (hr : Rep w (n + 1) base cs) (hs : RepL w (n + 1) sx subs) (hu : RepL w (n + 1) ux sups) (b1 : subs.length ≤ 1048576) (b2 : sups.length ≤ 1048576) : Calls Try.prog 5 #[.agg (caseS F l c cs (.slice sx subs.length sc) (.slice ux sups.length uc)).toArray] w (Gives (.bool true) w) := by
  by_cases h : MadeOkS F l c n base subs sups
  · have h1 := h.2.1
    have h2 := h.2.2.1
    rcases subs with _ | ⟨sb, _ | ⟨x, subs⟩⟩
    · rcases sups with _ | ⟨sp, _ | ⟨y, sups⟩⟩
      · exact scriptGap_00 F l c n base cs sx ux sc uc w hF hr hs hu b1 b2 h
      · exact scriptGap_01 F l c n base sp cs sx ux sc uc w hF hr hs hu b1 b2 h
      · simp at h2
    · rcases sups with _ | ⟨sp, _ | ⟨y, sups⟩⟩
      · exact scriptGap_10 F l c n base sb cs sx ux sc uc w hF hr hs hu b1 b2 h
      · exact scriptGap_11 F l c n base sb sp cs sx ux sc uc w hF hr hs hu b1 b2 h
      · simp at h2
    · simp at h1
  · exact scriptGap_bad F l c n base subs sups cs sx ux sc uc w hF hr hs hu b1 b2 h

end Go.Proofs.Ytgpabckipmhobaa
