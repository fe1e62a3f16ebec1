/- Chapter 35, LimitsInside: the law returns true. -/
import Derived.Test.YtdbcdjiclkmknaaLt5
namespace Go.Proofs.Ytdbcdjiclkmknaa
open Go.RowKit

attribute [local irreducible] wpQuiet wpG wpP wpK wpList Code.wp Calls

set_option maxHeartbeats 8000000 in
set_option maxRecDepth 100000 in
theorem limitsInside_bad (F : Fnt) (l : Int) (c : Bool) (n : Nat) (base : Bx (n + 1)) (subs sups : List (Bx (n + 1))) (cs : List Value) (sx ux : Option Addr) (sc uc : Nat) (w : World) (hF : FntOk w F) (hr : Rep w (n + 1) base cs) (hs : RepL w (n + 1) sx subs) (hu : RepL w (n + 1) ux sups) (b1 : subs.length ≤ 1048576) (b2 : sups.length ≤ 1048576) (hb : ¬ MadeOk5 F l n base subs sups) : Calls Try.prog 5 #[.agg (caseS F l c cs (.slice sx subs.length sc) (.slice ux sups.length uc)).toArray] w (Gives (.bool true) w) := by
  have HM := Lib.hid (fun w' (h : Below w.heap.size w w') => made35_bad F l c n base subs sups cs sx ux sc uc w' (hF.below h) (hr.step h) (hs.step h) (hu.step h) b1 b2 0 hb)
  obtain ⟨c0, c1, c2, c3, c4, c5, c6, c7, c8, c9, c10, rfl⟩ := eleven hr.len
  clear hF hr hs hu hb
  go_enter Try.func5, Try.ntmps5
  have hS := own_start w
  go_wp2_with (first | (refine own_unguard (by rfl) ?_) | (refine own_box rfl _ _ rfl rfl hS ?_; clear hS; intro kb w0 hS0; have hrC := (hS0.get at0).range; have HB0 := Lib.hid hS0.below; obtain ⟨hrF, hrS, hrN, cV, cU⟩ := caseS_out hrC; have hS := own_start w0; clear hS0) | (refine own_load_old rfl _ _ rfl rfl hS hrC List.not_mem_nil rt_case35 ?_) | (go_at_call 8; refine own_calls hS (awake35_calls _) ?_; clear hS; (try clear ww); intro ww hS) | (go_at_call 13; refine Calls.mono (HM.out _ (bthen HB0.out hS.below)) ?_; rintro e w1 ⟨cs1, rfl, hR1, hb1⟩; have HB1 := Lib.hid (bthen HB0.out (bthen hS.below hb1)); obtain ⟨kx, kc, tx, tc, rfl⟩ := zero_out hR1; clear hR1 hS hb1; have hS := own_start w1) | (refine w_ld rfl _ rfl (by rfl) (by first | exact rd_1 (by repeat constructor) (by first | rfl | assumption) | exact rd_w (by repeat constructor) (by rfl) | exact rd_o (by assumption) (by rfl) (by first | exact nmn | assumption | simp) | exact rd_h (by assumption) (by rfl) (by first | exact nmn | assumption | simp) | exact rd_1o (by assumption) (by first | exact nmn | assumption | simp) | exact rd_1h (by assumption) (by first | rfl | assumption) (by first | exact nmn | assumption | simp)) hS ?_) | (refine own_box rfl _ _ rfl (by rfl) hS ?_; clear hS; (try clear ww); intro bb ww hS) | (refine w_al rfl rfl hS ?_; clear hS; (try clear ww); intro bb ww hS) | (refine w_st rfl _ _ rfl (by rfl) (by rfl) (by repeat constructor) (by rfl) (by rfl) (by first | rfl | assumption) hS ?_; clear hS; (try clear ww); intro ww hS) | (refine w_s1 rfl _ _ rfl (by rfl) (by repeat constructor) (by first | exact .c | exact .t rfl) (by rfl) (by repeat constructor) hS ?_; clear hS; (try clear ww); intro ww hS))
  go_ret
  exact ⟨rfl, bthen HB1.out hS.below⟩

set_option maxHeartbeats 16000000 in
set_option maxRecDepth 100000 in
theorem limitsInside_00 (F : Fnt) (l : Int) (c : Bool) (n : Nat) (base : Bx (n + 1))  (cs : List Value) (sx ux : Option Addr) (sc uc : Nat) (w : World) (hF : FntOk w F) (hr : Rep w (n + 1) base cs) (hs : RepL w (n + 1) sx []) (hu : RepL w (n + 1) ux []) (b1 : 0 ≤ 1048576) (b2 : 0 ≤ 1048576) (h : MadeOk5 F l n base [] []) : Calls Try.prog 5 #[.agg (caseS F l c cs (.slice sx 0 sc) (.slice ux 0 uc)).toArray] w (Gives (.bool true) w) := by
  have HM := Lib.hid (fun w' (hb : Below w.heap.size w w') => made35_ok F l c n base [] [] cs sx ux sc uc w' (hF.below hb) (hr.step hb) (hs.step hb) (hu.step hb) b1 b2 h)
  have hso := h.2.2.2.2.1
  have hin := lim_in hso
  have HIn := Lib.hid (fun k (hk : k ∈ limK F l n base [] []) => limK_in hso hk)
  have eK : limK F l n base [] [] = [atXY (n + 1) base (lmX0 (limW n base [] []) base.1.w - limL F n base [] []) 0] := rfl
  rw [eK] at HIn
  have hv := h.2.2.2.2.1.1
  have hl := h.2.2.2.2.1.2.1
  have mb := modL2_out h.2.2.2.1 (b := base) (by simp)
  have q10 := lmQ_in (l := l) (p := 10) hv (by omega)
  have HP10 := Lib.hid (fun w' => ref35_Quad_calls F l 10 c w' hl hv (by omega))
  have eR : limB F l n base [] [] = listB (n + 1) (limE F n base [] []) (limH F l n base []) (limD F l n base []) [atXY (n + 1) base (lmX0 (limW n base [] []) base.1.w - limL F n base [] []) 0] := rfl
  rw [eR] at HM
  have hH : limH F l n base [] = base.1.h := rfl
  have hD : limD F l n base [] = base.1.d := rfl
  generalize limH F l n base [] = H at *
  generalize limD F l n base [] = D at *
  generalize lmX0 (limW n base [] []) base.1.w - limL F n base [] [] = X0 at *
  generalize limE F n base [] [] = E at *
  generalize lmQ F l 10 = Q10 at *
  have HE := Lib.hid hin.2.2.2
  have t3 : decide (H < base.1.h) = false := decide_eq_false (by omega)
  have t4 : decide (D < base.1.d) = false := decide_eq_false (by omega)
  obtain ⟨K, hK⟩ : ∃ K, K = [atXY (n + 1) base X0 0] := ⟨_, rfl⟩
  rw [← hK] at HM HIn
  have HK0 := Lib.hid (show K[0]? = some (atXY (n + 1) base X0 0) by rw [hK]; rfl)
  have hlK : K.length = 1 := by rw [hK]; rfl
  obtain ⟨c0, c1, c2, c3, c4, c5, c6, c7, c8, c9, c10, rfl⟩ := eleven hr.len
  clear hF hr hs hu h hso hv hl b1 b2 mb eR eK hH hD hin q10 hK
  obtain ⟨⟨bk, bn, bz, bw, bh, bd, bx, by_, bo, bs⟩, bks⟩ := base
  simp only at t3 t4
  go_enter Try.func5, Try.ntmps5
  have hS := own_start w
  go_wp2_with (first | (refine own_unguard (by rfl) ?_) | (refine own_box rfl _ _ rfl rfl hS ?_; clear hS; intro kb w0 hS0; have hrC := (hS0.get at0).range; have HB0 := Lib.hid hS0.below; obtain ⟨hrF, hrS, hrN, cV, cU⟩ := caseS_out hrC; have hS := own_start w0; clear hS0) | (refine own_load_old rfl _ _ rfl rfl hS hrC List.not_mem_nil rt_case35 ?_) | (go_at_call 8; refine own_calls hS (awake35_calls _) ?_; clear hS; (try clear ww); intro ww hS) | (go_at_call 13; refine Calls.mono (HM.out _ (bthen HB0.out hS.below)) ?_; rintro e w1 ⟨cs1, rfl, hR1, hb1⟩; have hrF1 := rangeAt_below (hS.range List.not_mem_nil hrF) hb1; have hrS1 := rangeAt_below (hS.range List.not_mem_nil hrS) hb1; have hrN1 := rangeAt_below (hS.range List.not_mem_nil hrN) hb1; have cV1 := cell_below (hS.cell List.not_mem_nil cV) hb1; have cU1 := cell_below (hS.cell List.not_mem_nil cU) hb1; have HB1 := Lib.hid (bthen HB0.out (bthen hS.below hb1)); obtain ⟨kx, kc, tx, tc, rfl, _, _, _, hks⟩ := rep_out hR1; obtain ⟨k, o, q0, rfl, hk0, hp0⟩ := hks 0 _ HK0.out; rw [Nat.zero_mul, Nat.add_zero] at hk0; obtain ⟨_, _, _, _, rfl⟩ := kid_out hp0; have HKs := Lib.hid hks; clear hks hp0 hR1 hS hb1 hrC hrF hrS hrN cV cU; have hS := own_start w1) | (refine w_ld rfl _ rfl (by rfl) (by first | exact rd_1 (by repeat constructor) (by first | rfl | assumption) | exact rd_w (by repeat constructor) (by rfl) | exact rd_o (by assumption) (by rfl) (by first | exact nmn | assumption | simp) | exact rd_h (by assumption) (by rfl) (by first | exact nmn | assumption | simp) | exact rd_1o (by assumption) (by first | exact nmn | assumption | simp) | exact rd_1h (by assumption) (by first | rfl | assumption) (by first | exact nmn | assumption | simp)) hS ?_) | (refine own_box rfl _ _ rfl (by rfl) hS ?_; clear hS; (try clear ww); intro bb ww hS) | (refine w_al rfl rfl hS ?_; clear hS; (try clear ww); intro bb ww hS) | (refine w_st rfl _ _ rfl (by rfl) (by rfl) (by repeat constructor) (by rfl) (by rfl) (by first | rfl | assumption) hS ?_; clear hS; (try clear ww); intro ww hS) | (refine w_s1 rfl _ _ rfl (by rfl) (by repeat constructor) (by first | exact .c | exact .t rfl) (by rfl) (by repeat constructor) hS ?_; clear hS; (try clear ww); intro ww hS))
  obtain ⟨L0, HL, hS0⟩ := hS.named
  have hat0 := hS.get at0
  go_loopw [5] (fun i wr => ∃ j : Nat, j ≤ K.length ∧ i = .int .i64 j ∧ Own [] w1 L0 wr) (fun i _ => K.length - (intOf i).toNat)
  case atStart => exact ⟨0, Nat.zero_le _, rfl, hS0⟩
  case round =>
    clear hS hS0 hat0
    obtain ⟨j, hj, rfl, hS⟩ := hrel
    obtain rfl := HL.out
    clear HL
    by_cases hlt : j < K.length
    · obtain ⟨kid, hkid⟩ : ∃ q, K[j]? = some q := ⟨K[j], by rw [List.getElem?_eq_getElem]⟩
      obtain ⟨kb3, ko3, css, e3, hrg, hp3⟩ := HKs.out j kid hkid
      obtain ⟨rfl, rfl⟩ : k = kb3 ∧ o = ko3 := by simpa using e3
      have hin := HIn.out kid (List.mem_of_getElem? hkid)
      have hE := HE.out
      obtain ⟨⟨k0, k1, k2, k3, k4, k5, k6, k7, k9, k10⟩, kks⟩ := kid
      obtain ⟨_, _, _, _, rfl, _⟩ := rep_out hp3
      simp only at hin
      obtain ⟨Z1, hZ1⟩ : ∃ x : Int, x = k6 + k3 := ⟨_, rfl⟩
      have iZ1 : IntKind.i64.wrap (k6 + k3) = Z1 := by rw [hZ1]; exact IntWalk.i64_in _ (by omega)
      have d1 : decide (k6 < 0) = false := decide_eq_false (by omega)
      have d2 : decide (E < Z1) = false := decide_eq_false (by omega)
      clear hin hE hZ1 hp3 hkid e3 hk0
      by_cases h0 : 0 ≤ k3
      · have d0 : decide (0 ≤ k3) = true := decide_eq_true h0
        clear h0
        go_wp2_with (first | (refine own_unguard (by rfl) ?_) | (refine w_ld rfl _ rfl (by rfl) (by first | exact rd_1 (by repeat constructor) (by first | rfl | assumption) | exact rd_w (by repeat constructor) (by rfl) | exact rd_o (by assumption) (by rfl) (by first | exact nmn | assumption | simp) | exact rd_h (by assumption) (by rfl) (by first | exact nmn | assumption | simp) | exact rd_1o (by assumption) (by first | exact nmn | assumption | simp) | exact rd_1h (by assumption) (by first | rfl | assumption) (by first | exact nmn | assumption | simp)) hS ?_) | (refine own_box rfl _ _ rfl (by rfl) hS ?_; clear hS; (try clear ww); intro bb ww hS) | (refine w_al rfl rfl hS ?_; clear hS; (try clear ww); intro bb ww hS) | (refine w_st rfl _ _ rfl (by rfl) (by rfl) (by repeat constructor) (by rfl) (by rfl) (by first | rfl | assumption) hS ?_; clear hS; (try clear ww); intro ww hS) | (refine w_s1 rfl _ _ rfl (by rfl) (by repeat constructor) (by first | exact .c | exact .t rfl) (by rfl) (by repeat constructor) hS ?_; clear hS; (try clear ww); intro ww hS))
        go_roundw
        case rel => exact ⟨j + 1, hlt, by go_num, hS.forget (by simp)⟩
        case measure => exact loop_meas hlt
      · have d0 : decide (0 ≤ k3) = false := decide_eq_false h0
        clear h0
        go_wp2_with (first | (refine own_unguard (by rfl) ?_) | (refine w_ld rfl _ rfl (by rfl) (by first | exact rd_1 (by repeat constructor) (by first | rfl | assumption) | exact rd_w (by repeat constructor) (by rfl) | exact rd_o (by assumption) (by rfl) (by first | exact nmn | assumption | simp) | exact rd_h (by assumption) (by rfl) (by first | exact nmn | assumption | simp) | exact rd_1o (by assumption) (by first | exact nmn | assumption | simp) | exact rd_1h (by assumption) (by first | rfl | assumption) (by first | exact nmn | assumption | simp)) hS ?_) | (refine own_box rfl _ _ rfl (by rfl) hS ?_; clear hS; (try clear ww); intro bb ww hS) | (refine w_al rfl rfl hS ?_; clear hS; (try clear ww); intro bb ww hS) | (refine w_st rfl _ _ rfl (by rfl) (by rfl) (by repeat constructor) (by rfl) (by rfl) (by first | rfl | assumption) hS ?_; clear hS; (try clear ww); intro ww hS) | (refine w_s1 rfl _ _ rfl (by rfl) (by repeat constructor) (by first | exact .c | exact .t rfl) (by rfl) (by repeat constructor) hS ?_; clear hS; (try clear ww); intro ww hS))
        go_roundw
        case rel => exact ⟨j + 1, hlt, by go_num, hS.forget (by simp)⟩
        case measure => exact loop_meas hlt
    · obtain rfl : j = K.length := by omega
      (try rw [hlK] at hS)
      (try rw [hlK])
      clear HKs HIn HE hlt
      have f4 : w1.cell? ⟨k, o + 4, none⟩ = some (.int .i64 bh) := hk0 4 _ rfl
      have f5 : w1.cell? ⟨k, o + 5, none⟩ = some (.int .i64 bd) := hk0 5 _ rfl
      go_upto_region 12 with (first | (refine own_unguard (by rfl) ?_) | (refine w_ld rfl _ rfl (by rfl) (by first | exact rd_1 (by repeat constructor) (by first | rfl | assumption) | exact rd_w (by repeat constructor) (by rfl) | exact rd_o (by assumption) (by rfl) (by first | exact nmn | assumption | simp) | exact rd_h (by assumption) (by rfl) (by first | exact nmn | assumption | simp) | exact rd_1o (by assumption) (by first | exact nmn | assumption | simp) | exact rd_1h (by assumption) (by first | rfl | assumption) (by first | exact nmn | assumption | simp)) hS ?_) | (refine own_box rfl _ _ rfl (by rfl) hS ?_; clear hS; (try clear ww); intro bb ww hS) | (refine w_al rfl rfl hS ?_; clear hS; (try clear ww); intro bb ww hS) | (refine w_st rfl _ _ rfl (by rfl) (by rfl) (by repeat constructor) (by rfl) (by rfl) (by first | rfl | assumption) hS ?_; clear hS; (try clear ww); intro ww hS) | (refine w_s1 rfl _ _ rfl (by rfl) (by repeat constructor) (by first | exact .c | exact .t rfl) (by rfl) (by repeat constructor) hS ?_; clear hS; (try clear ww); intro ww hS))
      (try simp only [Act.put]); (try simp only [List.setIfInBounds_toArray]); (try simp only [List.set_cons_succ]); (try simp only [List.set_cons_zero])
      refine own_region hS (by kernel_rfl) (by kernel_rfl) ?_
      (try simp only [List.append])
      (try simp only); (try simp only [List.drop_succ_cons]); (try simp only [List.drop_zero]); (try simp only [List.take_succ_cons]); (try simp only [List.take_zero])
      repeat (first
          | (first | (refine quiet_plain rfl ?_) | (refine quiet_yes rfl rfl rfl (by simp only [List.getElem?_toArray, List.getElem?_cons_succ, List.getElem?_cons_zero]; rfl) (by with_reducible constructor) ?_)
             apply Exists.intro; refine ⟨?_, ?_⟩
             focus (intro wq hq0; have hq : Own _ _ _ wq := hq0; first | (exact quietAt_rd rfl (by rfl) (by first | exact rd_1 (by repeat constructor) (by first | rfl | assumption) | exact rd_w (by repeat constructor) (by rfl) | exact rd_o (by assumption) (by rfl) (by first | exact nmn | assumption | simp) | exact rd_h (by assumption) (by rfl) (by first | exact nmn | assumption | simp) | exact rd_1o (by assumption) (by first | exact nmn | assumption | simp) | exact rd_1h (by assumption) (by first | rfl | assumption) (by first | exact nmn | assumption | simp)) hq) | (go_simp; first | (with_reducible rfl)))
             simp only [Act.put, List.setIfInBounds_toArray, List.set_cons_zero, List.set_cons_succ])
          | (refine quiet_no rfl rfl rfl (by simp only [List.getElem?_toArray, List.getElem?_cons_succ, List.getElem?_cons_zero]; rfl) (by with_reducible constructor) ?_; simp only [Act.put, List.setIfInBounds_toArray, List.set_cons_zero, List.set_cons_succ]))
      refine wpQuiet_nil ?_
      clear hS
      intro ww hS
      go_wp2_with (first | (refine own_unguard (by rfl) ?_) | (go_at_call 14; refine own_calls hS (HP10.out _) ?_; clear hS; (try clear ww); intro ww hS) | (refine w_ld rfl _ rfl (by rfl) (by first | exact rd_1 (by repeat constructor) (by first | rfl | assumption) | exact rd_w (by repeat constructor) (by rfl) | exact rd_o (by assumption) (by rfl) (by first | exact nmn | assumption | simp) | exact rd_h (by assumption) (by rfl) (by first | exact nmn | assumption | simp) | exact rd_1o (by assumption) (by first | exact nmn | assumption | simp) | exact rd_1h (by assumption) (by first | rfl | assumption) (by first | exact nmn | assumption | simp)) hS ?_) | (refine own_box rfl _ _ rfl (by rfl) hS ?_; clear hS; (try clear ww); intro bb ww hS) | (refine w_al rfl rfl hS ?_; clear hS; (try clear ww); intro bb ww hS) | (refine w_st rfl _ _ rfl (by rfl) (by rfl) (by repeat constructor) (by rfl) (by rfl) (by first | rfl | assumption) hS ?_; clear hS; (try clear ww); intro ww hS) | (refine w_s1 rfl _ _ rfl (by rfl) (by repeat constructor) (by first | exact .c | exact .t rfl) (by rfl) (by repeat constructor) hS ?_; clear hS; (try clear ww); intro ww hS))
      go_ret
      exact ⟨rfl, bthen HB1.out hS.below⟩

set_option maxHeartbeats 16000000 in
set_option maxRecDepth 100000 in
theorem limitsInside_01 (F : Fnt) (l : Int) (c : Bool) (n : Nat) (base : Bx (n + 1)) (sp : Bx (n + 1)) (cs : List Value) (sx ux : Option Addr) (sc uc : Nat) (w : World) (hF : FntOk w F) (hr : Rep w (n + 1) base cs) (hs : RepL w (n + 1) sx []) (hu : RepL w (n + 1) ux [sp]) (b1 : 0 ≤ 1048576) (b2 : 1 ≤ 1048576) (h : MadeOk5 F l n base [] [sp]) : Calls Try.prog 5 #[.agg (caseS F l c cs (.slice sx 0 sc) (.slice ux 1 uc)).toArray] w (Gives (.bool true) w) := by
  have HM := Lib.hid (fun w' (hb : Below w.heap.size w w') => made35_ok F l c n base [] [sp] cs sx ux sc uc w' (hF.below hb) (hr.step hb) (hs.step hb) (hu.step hb) b1 b2 h)
  have hso := h.2.2.2.2.1
  have hin := lim_in hso
  have HIn := Lib.hid (fun k (hk : k ∈ limK F l n base [] [sp]) => limK_in hso hk)
  have eK : limK F l n base [] [sp] = [atXY (n + 1) base (lmX0 (limW n base [] [sp]) base.1.w - limL F n base [] [sp]) 0, atXY (n + 1) sp (lmX2 (limW n base [] [sp]) (limI F n base) sp.1.w - limL F n base [] [sp]) (base.1.h + lmQ F l 11 + sp.1.d)] := rfl
  rw [eK] at HIn
  have hv := h.2.2.2.2.1.1
  have hl := h.2.2.2.2.1.2.1
  have mb := modL2_out h.2.2.2.1 (b := base) (by simp)
  have mu := modL2_out h.2.2.2.1 (b := sp) (by simp)
  have q10 := lmQ_in (l := l) (p := 10) hv (by omega)
  have HP10 := Lib.hid (fun w' => ref35_Quad_calls F l 10 c w' hl hv (by omega))
  have q11 := lmQ_in (l := l) (p := 11) hv (by omega)
  have HP11 := Lib.hid (fun w' => ref35_Quad_calls F l 11 c w' hl hv (by omega))
  have eR : limB F l n base [] [sp] = listB (n + 1) (limE F n base [] [sp]) (limH F l n base [sp]) (limD F l n base []) [atXY (n + 1) base (lmX0 (limW n base [] [sp]) base.1.w - limL F n base [] [sp]) 0, atXY (n + 1) sp (lmX2 (limW n base [] [sp]) (limI F n base) sp.1.w - limL F n base [] [sp]) (base.1.h + lmQ F l 11 + sp.1.d)] := rfl
  rw [eR] at HM
  have hH : limH F l n base [sp] = max base.1.h (base.1.h + lmQ F l 11 + sp.1.d + sp.1.h + lmQ F l 10) := rfl
  have hD : limD F l n base [] = base.1.d := rfl
  generalize limH F l n base [sp] = H at *
  generalize limD F l n base [] = D at *
  generalize lmX0 (limW n base [] [sp]) base.1.w - limL F n base [] [sp] = X0 at *
  generalize lmX2 (limW n base [] [sp]) (limI F n base) sp.1.w - limL F n base [] [sp] = X1 at *
  generalize limE F n base [] [sp] = E at *
  generalize lmQ F l 10 = Q10 at *
  generalize lmQ F l 11 = Q11 at *
  have HE := Lib.hid hin.2.2.2
  obtain ⟨YU, hYU⟩ : ∃ y : Int, y = base.1.h + Q11 + sp.1.d := ⟨_, rfl⟩
  rw [← hYU] at HM HIn
  obtain ⟨B1, hB1⟩ : ∃ x : Int, x = YU + sp.1.h := ⟨_, rfl⟩
  have iB1 : IntKind.i64.wrap (YU + sp.1.h) = B1 := by rw [hB1]; exact IntWalk.i64_in _ (by omega)
  obtain ⟨B2, hB2⟩ : ∃ x : Int, x = B1 + Q10 := ⟨_, rfl⟩
  have iB2 : IntKind.i64.wrap (B1 + Q10) = B2 := by rw [hB2]; exact IntWalk.i64_in _ (by omega)
  have t2 : decide (H < B2) = false := decide_eq_false (by omega)
  have t3 : decide (H < base.1.h) = false := decide_eq_false (by omega)
  have t4 : decide (D < base.1.d) = false := decide_eq_false (by omega)
  obtain ⟨K, hK⟩ : ∃ K, K = [atXY (n + 1) base X0 0, atXY (n + 1) sp X1 YU] := ⟨_, rfl⟩
  rw [← hK] at HM HIn
  have HK0 := Lib.hid (show K[0]? = some (atXY (n + 1) base X0 0) by rw [hK]; rfl)
  have HK1 := Lib.hid (show K[1]? = some (atXY (n + 1) sp X1 YU) by rw [hK]; rfl)
  have hlK : K.length = 2 := by rw [hK]; rfl
  obtain ⟨c0, c1, c2, c3, c4, c5, c6, c7, c8, c9, c10, rfl⟩ := eleven hr.len
  clear hF hr hs hu h hso hv hl b1 b2 mb eR eK hH hD hin q10 q11 mu hYU hB1 hB2 hK
  obtain ⟨⟨bk, bn, bz, bw, bh, bd, bx, by_, bo, bs⟩, bks⟩ := base
  obtain ⟨⟨uk, un, uz, uw, uh, ud, ux', uy, uo, us⟩, uks⟩ := sp
  simp only at t3 t4
  simp only at t2 iB1 iB2
  go_enter Try.func5, Try.ntmps5
  have hS := own_start w
  go_wp2_with (first | (refine own_unguard (by rfl) ?_) | (refine own_box rfl _ _ rfl rfl hS ?_; clear hS; intro kb w0 hS0; have hrC := (hS0.get at0).range; have HB0 := Lib.hid hS0.below; obtain ⟨hrF, hrS, hrN, cV, cU⟩ := caseS_out hrC; have hS := own_start w0; clear hS0) | (refine own_load_old rfl _ _ rfl rfl hS hrC List.not_mem_nil rt_case35 ?_) | (go_at_call 8; refine own_calls hS (awake35_calls _) ?_; clear hS; (try clear ww); intro ww hS) | (go_at_call 13; refine Calls.mono (HM.out _ (bthen HB0.out hS.below)) ?_; rintro e w1 ⟨cs1, rfl, hR1, hb1⟩; have hrF1 := rangeAt_below (hS.range List.not_mem_nil hrF) hb1; have hrS1 := rangeAt_below (hS.range List.not_mem_nil hrS) hb1; have hrN1 := rangeAt_below (hS.range List.not_mem_nil hrN) hb1; have cV1 := cell_below (hS.cell List.not_mem_nil cV) hb1; have cU1 := cell_below (hS.cell List.not_mem_nil cU) hb1; have HB1 := Lib.hid (bthen HB0.out (bthen hS.below hb1)); obtain ⟨kx, kc, tx, tc, rfl, _, _, _, hks⟩ := rep_out hR1; obtain ⟨k, o, q0, rfl, hk0, hp0⟩ := hks 0 _ HK0.out; rw [Nat.zero_mul, Nat.add_zero] at hk0; obtain ⟨_, _, _, _, rfl⟩ := kid_out hp0; have HKs := Lib.hid hks; clear hks hp0 hR1 hS hb1 hrC hrF hrS hrN cV cU; have hS := own_start w1) | (refine w_ld rfl _ rfl (by rfl) (by first | exact rd_1 (by repeat constructor) (by first | rfl | assumption) | exact rd_w (by repeat constructor) (by rfl) | exact rd_o (by assumption) (by rfl) (by first | exact nmn | assumption | simp) | exact rd_h (by assumption) (by rfl) (by first | exact nmn | assumption | simp) | exact rd_1o (by assumption) (by first | exact nmn | assumption | simp) | exact rd_1h (by assumption) (by first | rfl | assumption) (by first | exact nmn | assumption | simp)) hS ?_) | (refine own_box rfl _ _ rfl (by rfl) hS ?_; clear hS; (try clear ww); intro bb ww hS) | (refine w_al rfl rfl hS ?_; clear hS; (try clear ww); intro bb ww hS) | (refine w_st rfl _ _ rfl (by rfl) (by rfl) (by repeat constructor) (by rfl) (by rfl) (by first | rfl | assumption) hS ?_; clear hS; (try clear ww); intro ww hS) | (refine w_s1 rfl _ _ rfl (by rfl) (by repeat constructor) (by first | exact .c | exact .t rfl) (by rfl) (by repeat constructor) hS ?_; clear hS; (try clear ww); intro ww hS))
  obtain ⟨L0, HL, hS0⟩ := hS.named
  have hat0 := hS.get at0
  go_loopw [5] (fun i wr => ∃ j : Nat, j ≤ K.length ∧ i = .int .i64 j ∧ Own [] w1 L0 wr) (fun i _ => K.length - (intOf i).toNat)
  case atStart => exact ⟨0, Nat.zero_le _, rfl, hS0⟩
  case round =>
    clear hS hS0 hat0
    obtain ⟨j, hj, rfl, hS⟩ := hrel
    obtain rfl := HL.out
    clear HL
    by_cases hlt : j < K.length
    · obtain ⟨kid, hkid⟩ : ∃ q, K[j]? = some q := ⟨K[j], by rw [List.getElem?_eq_getElem]⟩
      obtain ⟨kb3, ko3, css, e3, hrg, hp3⟩ := HKs.out j kid hkid
      obtain ⟨rfl, rfl⟩ : k = kb3 ∧ o = ko3 := by simpa using e3
      have hin := HIn.out kid (List.mem_of_getElem? hkid)
      have hE := HE.out
      obtain ⟨⟨k0, k1, k2, k3, k4, k5, k6, k7, k9, k10⟩, kks⟩ := kid
      obtain ⟨_, _, _, _, rfl, _⟩ := rep_out hp3
      simp only at hin
      obtain ⟨Z1, hZ1⟩ : ∃ x : Int, x = k6 + k3 := ⟨_, rfl⟩
      have iZ1 : IntKind.i64.wrap (k6 + k3) = Z1 := by rw [hZ1]; exact IntWalk.i64_in _ (by omega)
      have d1 : decide (k6 < 0) = false := decide_eq_false (by omega)
      have d2 : decide (E < Z1) = false := decide_eq_false (by omega)
      clear hin hE hZ1 hp3 hkid e3 hk0
      by_cases h0 : 0 ≤ k3
      · have d0 : decide (0 ≤ k3) = true := decide_eq_true h0
        clear h0
        go_wp2_with (first | (refine own_unguard (by rfl) ?_) | (refine w_ld rfl _ rfl (by rfl) (by first | exact rd_1 (by repeat constructor) (by first | rfl | assumption) | exact rd_w (by repeat constructor) (by rfl) | exact rd_o (by assumption) (by rfl) (by first | exact nmn | assumption | simp) | exact rd_h (by assumption) (by rfl) (by first | exact nmn | assumption | simp) | exact rd_1o (by assumption) (by first | exact nmn | assumption | simp) | exact rd_1h (by assumption) (by first | rfl | assumption) (by first | exact nmn | assumption | simp)) hS ?_) | (refine own_box rfl _ _ rfl (by rfl) hS ?_; clear hS; (try clear ww); intro bb ww hS) | (refine w_al rfl rfl hS ?_; clear hS; (try clear ww); intro bb ww hS) | (refine w_st rfl _ _ rfl (by rfl) (by rfl) (by repeat constructor) (by rfl) (by rfl) (by first | rfl | assumption) hS ?_; clear hS; (try clear ww); intro ww hS) | (refine w_s1 rfl _ _ rfl (by rfl) (by repeat constructor) (by first | exact .c | exact .t rfl) (by rfl) (by repeat constructor) hS ?_; clear hS; (try clear ww); intro ww hS))
        go_roundw
        case rel => exact ⟨j + 1, hlt, by go_num, hS.forget (by simp)⟩
        case measure => exact loop_meas hlt
      · have d0 : decide (0 ≤ k3) = false := decide_eq_false h0
        clear h0
        go_wp2_with (first | (refine own_unguard (by rfl) ?_) | (refine w_ld rfl _ rfl (by rfl) (by first | exact rd_1 (by repeat constructor) (by first | rfl | assumption) | exact rd_w (by repeat constructor) (by rfl) | exact rd_o (by assumption) (by rfl) (by first | exact nmn | assumption | simp) | exact rd_h (by assumption) (by rfl) (by first | exact nmn | assumption | simp) | exact rd_1o (by assumption) (by first | exact nmn | assumption | simp) | exact rd_1h (by assumption) (by first | rfl | assumption) (by first | exact nmn | assumption | simp)) hS ?_) | (refine own_box rfl _ _ rfl (by rfl) hS ?_; clear hS; (try clear ww); intro bb ww hS) | (refine w_al rfl rfl hS ?_; clear hS; (try clear ww); intro bb ww hS) | (refine w_st rfl _ _ rfl (by rfl) (by rfl) (by repeat constructor) (by rfl) (by rfl) (by first | rfl | assumption) hS ?_; clear hS; (try clear ww); intro ww hS) | (refine w_s1 rfl _ _ rfl (by rfl) (by repeat constructor) (by first | exact .c | exact .t rfl) (by rfl) (by repeat constructor) hS ?_; clear hS; (try clear ww); intro ww hS))
        go_roundw
        case rel => exact ⟨j + 1, hlt, by go_num, hS.forget (by simp)⟩
        case measure => exact loop_meas hlt
    · obtain rfl : j = K.length := by omega
      obtain ⟨kb1, ko1, q1, e1, hk1, hp1⟩ := HKs.out 1 _ HK1.out
      obtain ⟨rfl, rfl⟩ : k = kb1 ∧ o = ko1 := by simpa using e1
      obtain ⟨_, _, _, _, rfl⟩ := kid_out hp1
      rw [Nat.one_mul] at hk1
      clear e1 hp1
      (try rw [hlK] at hS)
      (try rw [hlK])
      clear HKs HIn HE hlt
      have f4 : w1.cell? ⟨k, o + 4, none⟩ = some (.int .i64 bh) := hk0 4 _ rfl
      have f5 : w1.cell? ⟨k, o + 5, none⟩ = some (.int .i64 bd) := hk0 5 _ rfl
      go_upto_region 12 with (first | (refine own_unguard (by rfl) ?_) | (refine w_ld rfl _ rfl (by rfl) (by first | exact rd_1 (by repeat constructor) (by first | rfl | assumption) | exact rd_w (by repeat constructor) (by rfl) | exact rd_o (by assumption) (by rfl) (by first | exact nmn | assumption | simp) | exact rd_h (by assumption) (by rfl) (by first | exact nmn | assumption | simp) | exact rd_1o (by assumption) (by first | exact nmn | assumption | simp) | exact rd_1h (by assumption) (by first | rfl | assumption) (by first | exact nmn | assumption | simp)) hS ?_) | (refine own_box rfl _ _ rfl (by rfl) hS ?_; clear hS; (try clear ww); intro bb ww hS) | (refine w_al rfl rfl hS ?_; clear hS; (try clear ww); intro bb ww hS) | (refine w_st rfl _ _ rfl (by rfl) (by rfl) (by repeat constructor) (by rfl) (by rfl) (by first | rfl | assumption) hS ?_; clear hS; (try clear ww); intro ww hS) | (refine w_s1 rfl _ _ rfl (by rfl) (by repeat constructor) (by first | exact .c | exact .t rfl) (by rfl) (by repeat constructor) hS ?_; clear hS; (try clear ww); intro ww hS))
      (try simp only [Act.put]); (try simp only [List.setIfInBounds_toArray]); (try simp only [List.set_cons_succ]); (try simp only [List.set_cons_zero])
      refine own_region hS (by kernel_rfl) (by kernel_rfl) ?_
      (try simp only [List.append])
      (try simp only); (try simp only [List.drop_succ_cons]); (try simp only [List.drop_zero]); (try simp only [List.take_succ_cons]); (try simp only [List.take_zero])
      repeat (first
          | (first | (refine quiet_plain rfl ?_) | (refine quiet_yes rfl rfl rfl (by simp only [List.getElem?_toArray, List.getElem?_cons_succ, List.getElem?_cons_zero]; rfl) (by with_reducible constructor) ?_)
             apply Exists.intro; refine ⟨?_, ?_⟩
             focus (intro wq hq0; have hq : Own _ _ _ wq := hq0; first | (exact quietAt_rd rfl (by rfl) (by first | exact rd_1 (by repeat constructor) (by first | rfl | assumption) | exact rd_w (by repeat constructor) (by rfl) | exact rd_o (by assumption) (by rfl) (by first | exact nmn | assumption | simp) | exact rd_h (by assumption) (by rfl) (by first | exact nmn | assumption | simp) | exact rd_1o (by assumption) (by first | exact nmn | assumption | simp) | exact rd_1h (by assumption) (by first | rfl | assumption) (by first | exact nmn | assumption | simp)) hq) | (go_simp; first | (with_reducible rfl)))
             simp only [Act.put, List.setIfInBounds_toArray, List.set_cons_zero, List.set_cons_succ])
          | (refine quiet_no rfl rfl rfl (by simp only [List.getElem?_toArray, List.getElem?_cons_succ, List.getElem?_cons_zero]; rfl) (by with_reducible constructor) ?_; simp only [Act.put, List.setIfInBounds_toArray, List.set_cons_zero, List.set_cons_succ]))
      refine wpQuiet_nil ?_
      clear hS
      intro ww hS
      go_wp2_with (first | (refine own_unguard (by rfl) ?_) | (go_at_call 14; refine own_calls hS (HP10.out _) ?_; clear hS; (try clear ww); intro ww hS) | (refine w_ld rfl _ rfl (by rfl) (by first | exact rd_1 (by repeat constructor) (by first | rfl | assumption) | exact rd_w (by repeat constructor) (by rfl) | exact rd_o (by assumption) (by rfl) (by first | exact nmn | assumption | simp) | exact rd_h (by assumption) (by rfl) (by first | exact nmn | assumption | simp) | exact rd_1o (by assumption) (by first | exact nmn | assumption | simp) | exact rd_1h (by assumption) (by first | rfl | assumption) (by first | exact nmn | assumption | simp)) hS ?_) | (refine own_box rfl _ _ rfl (by rfl) hS ?_; clear hS; (try clear ww); intro bb ww hS) | (refine w_al rfl rfl hS ?_; clear hS; (try clear ww); intro bb ww hS) | (refine w_st rfl _ _ rfl (by rfl) (by rfl) (by repeat constructor) (by rfl) (by rfl) (by first | rfl | assumption) hS ?_; clear hS; (try clear ww); intro ww hS) | (refine w_s1 rfl _ _ rfl (by rfl) (by repeat constructor) (by first | exact .c | exact .t rfl) (by rfl) (by repeat constructor) hS ?_; clear hS; (try clear ww); intro ww hS))
      go_ret
      exact ⟨rfl, bthen HB1.out hS.below⟩

set_option maxHeartbeats 16000000 in
set_option maxRecDepth 100000 in
theorem limitsInside_10 (F : Fnt) (l : Int) (c : Bool) (n : Nat) (base : Bx (n + 1)) (sb : Bx (n + 1))  (cs : List Value) (sx ux : Option Addr) (sc uc : Nat) (w : World) (hF : FntOk w F) (hr : Rep w (n + 1) base cs) (hs : RepL w (n + 1) sx [sb]) (hu : RepL w (n + 1) ux []) (b1 : 1 ≤ 1048576) (b2 : 0 ≤ 1048576) (h : MadeOk5 F l n base [sb] []) : Calls Try.prog 5 #[.agg (caseS F l c cs (.slice sx 1 sc) (.slice ux 0 uc)).toArray] w (Gives (.bool true) w) := by
  have HM := Lib.hid (fun w' (hb : Below w.heap.size w w') => made35_ok F l c n base [sb] [] cs sx ux sc uc w' (hF.below hb) (hr.step hb) (hs.step hb) (hu.step hb) b1 b2 h)
  have hso := h.2.2.2.2.1
  have hin := lim_in hso
  have HIn := Lib.hid (fun k (hk : k ∈ limK F l n base [sb] []) => limK_in hso hk)
  have eK : limK F l n base [sb] [] = [atXY (n + 1) base (lmX0 (limW n base [sb] []) base.1.w - limL F n base [sb] []) 0, atXY (n + 1) sb (lmX1 (limW n base [sb] []) (limI F n base) sb.1.w - limL F n base [sb] []) (-(base.1.d + lmQ F l 17 + sb.1.h))] := rfl
  rw [eK] at HIn
  have hv := h.2.2.2.2.1.1
  have hl := h.2.2.2.2.1.2.1
  have mb := modL2_out h.2.2.2.1 (b := base) (by simp)
  have ms := modL2_out h.2.2.2.1 (b := sb) (by simp)
  have q10 := lmQ_in (l := l) (p := 10) hv (by omega)
  have HP10 := Lib.hid (fun w' => ref35_Quad_calls F l 10 c w' hl hv (by omega))
  have q17 := lmQ_in (l := l) (p := 17) hv (by omega)
  have HP17 := Lib.hid (fun w' => ref35_Quad_calls F l 17 c w' hl hv (by omega))
  have eR : limB F l n base [sb] [] = listB (n + 1) (limE F n base [sb] []) (limH F l n base []) (limD F l n base [sb]) [atXY (n + 1) base (lmX0 (limW n base [sb] []) base.1.w - limL F n base [sb] []) 0, atXY (n + 1) sb (lmX1 (limW n base [sb] []) (limI F n base) sb.1.w - limL F n base [sb] []) (-(base.1.d + lmQ F l 17 + sb.1.h))] := rfl
  rw [eR] at HM
  have hH : limH F l n base [] = base.1.h := rfl
  have hD : limD F l n base [sb] = max base.1.d (base.1.d + lmQ F l 17 + sb.1.h + sb.1.d + lmQ F l 10) := rfl
  generalize limH F l n base [] = H at *
  generalize limD F l n base [sb] = D at *
  generalize lmX0 (limW n base [sb] []) base.1.w - limL F n base [sb] [] = X0 at *
  generalize lmX1 (limW n base [sb] []) (limI F n base) sb.1.w - limL F n base [sb] [] = X1 at *
  generalize limE F n base [sb] [] = E at *
  generalize lmQ F l 10 = Q10 at *
  generalize lmQ F l 17 = Q17 at *
  have HE := Lib.hid hin.2.2.2
  obtain ⟨YS, hYS⟩ : ∃ y : Int, y = -(base.1.d + Q17 + sb.1.h) := ⟨_, rfl⟩
  rw [← hYS] at HM HIn
  obtain ⟨A1, hA1⟩ : ∃ x : Int, x = sb.1.d - YS := ⟨_, rfl⟩
  have iA1 : IntKind.i64.wrap (sb.1.d - YS) = A1 := by rw [hA1]; exact IntWalk.i64_in _ (by omega)
  obtain ⟨A2, hA2⟩ : ∃ x : Int, x = A1 + Q10 := ⟨_, rfl⟩
  have iA2 : IntKind.i64.wrap (A1 + Q10) = A2 := by rw [hA2]; exact IntWalk.i64_in _ (by omega)
  have t1 : decide (D < A2) = false := decide_eq_false (by omega)
  have t3 : decide (H < base.1.h) = false := decide_eq_false (by omega)
  have t4 : decide (D < base.1.d) = false := decide_eq_false (by omega)
  obtain ⟨K, hK⟩ : ∃ K, K = [atXY (n + 1) base X0 0, atXY (n + 1) sb X1 YS] := ⟨_, rfl⟩
  rw [← hK] at HM HIn
  have HK0 := Lib.hid (show K[0]? = some (atXY (n + 1) base X0 0) by rw [hK]; rfl)
  have HK1 := Lib.hid (show K[1]? = some (atXY (n + 1) sb X1 YS) by rw [hK]; rfl)
  have hlK : K.length = 2 := by rw [hK]; rfl
  obtain ⟨c0, c1, c2, c3, c4, c5, c6, c7, c8, c9, c10, rfl⟩ := eleven hr.len
  clear hF hr hs hu h hso hv hl b1 b2 mb eR eK hH hD hin q10 q17 ms hYS hA1 hA2 hK
  obtain ⟨⟨bk, bn, bz, bw, bh, bd, bx, by_, bo, bs⟩, bks⟩ := base
  obtain ⟨⟨sk, sn, sz, sw, sh, sd, sx', sy, so, ss⟩, sks⟩ := sb
  simp only at t3 t4
  simp only at t1 iA1 iA2
  go_enter Try.func5, Try.ntmps5
  have hS := own_start w
  go_wp2_with (first | (refine own_unguard (by rfl) ?_) | (refine own_box rfl _ _ rfl rfl hS ?_; clear hS; intro kb w0 hS0; have hrC := (hS0.get at0).range; have HB0 := Lib.hid hS0.below; obtain ⟨hrF, hrS, hrN, cV, cU⟩ := caseS_out hrC; have hS := own_start w0; clear hS0) | (refine own_load_old rfl _ _ rfl rfl hS hrC List.not_mem_nil rt_case35 ?_) | (go_at_call 8; refine own_calls hS (awake35_calls _) ?_; clear hS; (try clear ww); intro ww hS) | (go_at_call 13; refine Calls.mono (HM.out _ (bthen HB0.out hS.below)) ?_; rintro e w1 ⟨cs1, rfl, hR1, hb1⟩; have hrF1 := rangeAt_below (hS.range List.not_mem_nil hrF) hb1; have hrS1 := rangeAt_below (hS.range List.not_mem_nil hrS) hb1; have hrN1 := rangeAt_below (hS.range List.not_mem_nil hrN) hb1; have cV1 := cell_below (hS.cell List.not_mem_nil cV) hb1; have cU1 := cell_below (hS.cell List.not_mem_nil cU) hb1; have HB1 := Lib.hid (bthen HB0.out (bthen hS.below hb1)); obtain ⟨kx, kc, tx, tc, rfl, _, _, _, hks⟩ := rep_out hR1; obtain ⟨k, o, q0, rfl, hk0, hp0⟩ := hks 0 _ HK0.out; rw [Nat.zero_mul, Nat.add_zero] at hk0; obtain ⟨_, _, _, _, rfl⟩ := kid_out hp0; have HKs := Lib.hid hks; clear hks hp0 hR1 hS hb1 hrC hrF hrS hrN cV cU; have hS := own_start w1) | (refine w_ld rfl _ rfl (by rfl) (by first | exact rd_1 (by repeat constructor) (by first | rfl | assumption) | exact rd_w (by repeat constructor) (by rfl) | exact rd_o (by assumption) (by rfl) (by first | exact nmn | assumption | simp) | exact rd_h (by assumption) (by rfl) (by first | exact nmn | assumption | simp) | exact rd_1o (by assumption) (by first | exact nmn | assumption | simp) | exact rd_1h (by assumption) (by first | rfl | assumption) (by first | exact nmn | assumption | simp)) hS ?_) | (refine own_box rfl _ _ rfl (by rfl) hS ?_; clear hS; (try clear ww); intro bb ww hS) | (refine w_al rfl rfl hS ?_; clear hS; (try clear ww); intro bb ww hS) | (refine w_st rfl _ _ rfl (by rfl) (by rfl) (by repeat constructor) (by rfl) (by rfl) (by first | rfl | assumption) hS ?_; clear hS; (try clear ww); intro ww hS) | (refine w_s1 rfl _ _ rfl (by rfl) (by repeat constructor) (by first | exact .c | exact .t rfl) (by rfl) (by repeat constructor) hS ?_; clear hS; (try clear ww); intro ww hS))
  obtain ⟨L0, HL, hS0⟩ := hS.named
  have hat0 := hS.get at0
  go_loopw [5] (fun i wr => ∃ j : Nat, j ≤ K.length ∧ i = .int .i64 j ∧ Own [] w1 L0 wr) (fun i _ => K.length - (intOf i).toNat)
  case atStart => exact ⟨0, Nat.zero_le _, rfl, hS0⟩
  case round =>
    clear hS hS0 hat0
    obtain ⟨j, hj, rfl, hS⟩ := hrel
    obtain rfl := HL.out
    clear HL
    by_cases hlt : j < K.length
    · obtain ⟨kid, hkid⟩ : ∃ q, K[j]? = some q := ⟨K[j], by rw [List.getElem?_eq_getElem]⟩
      obtain ⟨kb3, ko3, css, e3, hrg, hp3⟩ := HKs.out j kid hkid
      obtain ⟨rfl, rfl⟩ : k = kb3 ∧ o = ko3 := by simpa using e3
      have hin := HIn.out kid (List.mem_of_getElem? hkid)
      have hE := HE.out
      obtain ⟨⟨k0, k1, k2, k3, k4, k5, k6, k7, k9, k10⟩, kks⟩ := kid
      obtain ⟨_, _, _, _, rfl, _⟩ := rep_out hp3
      simp only at hin
      obtain ⟨Z1, hZ1⟩ : ∃ x : Int, x = k6 + k3 := ⟨_, rfl⟩
      have iZ1 : IntKind.i64.wrap (k6 + k3) = Z1 := by rw [hZ1]; exact IntWalk.i64_in _ (by omega)
      have d1 : decide (k6 < 0) = false := decide_eq_false (by omega)
      have d2 : decide (E < Z1) = false := decide_eq_false (by omega)
      clear hin hE hZ1 hp3 hkid e3 hk0
      by_cases h0 : 0 ≤ k3
      · have d0 : decide (0 ≤ k3) = true := decide_eq_true h0
        clear h0
        go_wp2_with (first | (refine own_unguard (by rfl) ?_) | (refine w_ld rfl _ rfl (by rfl) (by first | exact rd_1 (by repeat constructor) (by first | rfl | assumption) | exact rd_w (by repeat constructor) (by rfl) | exact rd_o (by assumption) (by rfl) (by first | exact nmn | assumption | simp) | exact rd_h (by assumption) (by rfl) (by first | exact nmn | assumption | simp) | exact rd_1o (by assumption) (by first | exact nmn | assumption | simp) | exact rd_1h (by assumption) (by first | rfl | assumption) (by first | exact nmn | assumption | simp)) hS ?_) | (refine own_box rfl _ _ rfl (by rfl) hS ?_; clear hS; (try clear ww); intro bb ww hS) | (refine w_al rfl rfl hS ?_; clear hS; (try clear ww); intro bb ww hS) | (refine w_st rfl _ _ rfl (by rfl) (by rfl) (by repeat constructor) (by rfl) (by rfl) (by first | rfl | assumption) hS ?_; clear hS; (try clear ww); intro ww hS) | (refine w_s1 rfl _ _ rfl (by rfl) (by repeat constructor) (by first | exact .c | exact .t rfl) (by rfl) (by repeat constructor) hS ?_; clear hS; (try clear ww); intro ww hS))
        go_roundw
        case rel => exact ⟨j + 1, hlt, by go_num, hS.forget (by simp)⟩
        case measure => exact loop_meas hlt
      · have d0 : decide (0 ≤ k3) = false := decide_eq_false h0
        clear h0
        go_wp2_with (first | (refine own_unguard (by rfl) ?_) | (refine w_ld rfl _ rfl (by rfl) (by first | exact rd_1 (by repeat constructor) (by first | rfl | assumption) | exact rd_w (by repeat constructor) (by rfl) | exact rd_o (by assumption) (by rfl) (by first | exact nmn | assumption | simp) | exact rd_h (by assumption) (by rfl) (by first | exact nmn | assumption | simp) | exact rd_1o (by assumption) (by first | exact nmn | assumption | simp) | exact rd_1h (by assumption) (by first | rfl | assumption) (by first | exact nmn | assumption | simp)) hS ?_) | (refine own_box rfl _ _ rfl (by rfl) hS ?_; clear hS; (try clear ww); intro bb ww hS) | (refine w_al rfl rfl hS ?_; clear hS; (try clear ww); intro bb ww hS) | (refine w_st rfl _ _ rfl (by rfl) (by rfl) (by repeat constructor) (by rfl) (by rfl) (by first | rfl | assumption) hS ?_; clear hS; (try clear ww); intro ww hS) | (refine w_s1 rfl _ _ rfl (by rfl) (by repeat constructor) (by first | exact .c | exact .t rfl) (by rfl) (by repeat constructor) hS ?_; clear hS; (try clear ww); intro ww hS))
        go_roundw
        case rel => exact ⟨j + 1, hlt, by go_num, hS.forget (by simp)⟩
        case measure => exact loop_meas hlt
    · obtain rfl : j = K.length := by omega
      obtain ⟨kb1, ko1, q1, e1, hk1, hp1⟩ := HKs.out 1 _ HK1.out
      obtain ⟨rfl, rfl⟩ : k = kb1 ∧ o = ko1 := by simpa using e1
      obtain ⟨_, _, _, _, rfl⟩ := kid_out hp1
      rw [Nat.one_mul] at hk1
      clear e1 hp1
      (try rw [hlK] at hS)
      (try rw [hlK])
      clear HKs HIn HE hlt
      have f4 : w1.cell? ⟨k, o + 4, none⟩ = some (.int .i64 bh) := hk0 4 _ rfl
      have f5 : w1.cell? ⟨k, o + 5, none⟩ = some (.int .i64 bd) := hk0 5 _ rfl
      go_upto_region 12 with (first | (refine own_unguard (by rfl) ?_) | (refine w_ld rfl _ rfl (by rfl) (by first | exact rd_1 (by repeat constructor) (by first | rfl | assumption) | exact rd_w (by repeat constructor) (by rfl) | exact rd_o (by assumption) (by rfl) (by first | exact nmn | assumption | simp) | exact rd_h (by assumption) (by rfl) (by first | exact nmn | assumption | simp) | exact rd_1o (by assumption) (by first | exact nmn | assumption | simp) | exact rd_1h (by assumption) (by first | rfl | assumption) (by first | exact nmn | assumption | simp)) hS ?_) | (refine own_box rfl _ _ rfl (by rfl) hS ?_; clear hS; (try clear ww); intro bb ww hS) | (refine w_al rfl rfl hS ?_; clear hS; (try clear ww); intro bb ww hS) | (refine w_st rfl _ _ rfl (by rfl) (by rfl) (by repeat constructor) (by rfl) (by rfl) (by first | rfl | assumption) hS ?_; clear hS; (try clear ww); intro ww hS) | (refine w_s1 rfl _ _ rfl (by rfl) (by repeat constructor) (by first | exact .c | exact .t rfl) (by rfl) (by repeat constructor) hS ?_; clear hS; (try clear ww); intro ww hS))
      (try simp only [Act.put]); (try simp only [List.setIfInBounds_toArray]); (try simp only [List.set_cons_succ]); (try simp only [List.set_cons_zero])
      refine own_region hS (by kernel_rfl) (by kernel_rfl) ?_
      (try simp only [List.append])
      (try simp only); (try simp only [List.drop_succ_cons]); (try simp only [List.drop_zero]); (try simp only [List.take_succ_cons]); (try simp only [List.take_zero])
      repeat (first
          | (first | (refine quiet_plain rfl ?_) | (refine quiet_yes rfl rfl rfl (by simp only [List.getElem?_toArray, List.getElem?_cons_succ, List.getElem?_cons_zero]; rfl) (by with_reducible constructor) ?_)
             apply Exists.intro; refine ⟨?_, ?_⟩
             focus (intro wq hq0; have hq : Own _ _ _ wq := hq0; first | (exact quietAt_rd rfl (by rfl) (by first | exact rd_1 (by repeat constructor) (by first | rfl | assumption) | exact rd_w (by repeat constructor) (by rfl) | exact rd_o (by assumption) (by rfl) (by first | exact nmn | assumption | simp) | exact rd_h (by assumption) (by rfl) (by first | exact nmn | assumption | simp) | exact rd_1o (by assumption) (by first | exact nmn | assumption | simp) | exact rd_1h (by assumption) (by first | rfl | assumption) (by first | exact nmn | assumption | simp)) hq) | (go_simp; first | (with_reducible rfl)))
             simp only [Act.put, List.setIfInBounds_toArray, List.set_cons_zero, List.set_cons_succ])
          | (refine quiet_no rfl rfl rfl (by simp only [List.getElem?_toArray, List.getElem?_cons_succ, List.getElem?_cons_zero]; rfl) (by with_reducible constructor) ?_; simp only [Act.put, List.setIfInBounds_toArray, List.set_cons_zero, List.set_cons_succ]))
      refine wpQuiet_nil ?_
      clear hS
      intro ww hS
      go_wp2_with (first | (refine own_unguard (by rfl) ?_) | (go_at_call 14; refine own_calls hS (HP10.out _) ?_; clear hS; (try clear ww); intro ww hS) | (refine w_ld rfl _ rfl (by rfl) (by first | exact rd_1 (by repeat constructor) (by first | rfl | assumption) | exact rd_w (by repeat constructor) (by rfl) | exact rd_o (by assumption) (by rfl) (by first | exact nmn | assumption | simp) | exact rd_h (by assumption) (by rfl) (by first | exact nmn | assumption | simp) | exact rd_1o (by assumption) (by first | exact nmn | assumption | simp) | exact rd_1h (by assumption) (by first | rfl | assumption) (by first | exact nmn | assumption | simp)) hS ?_) | (refine own_box rfl _ _ rfl (by rfl) hS ?_; clear hS; (try clear ww); intro bb ww hS) | (refine w_al rfl rfl hS ?_; clear hS; (try clear ww); intro bb ww hS) | (refine w_st rfl _ _ rfl (by rfl) (by rfl) (by repeat constructor) (by rfl) (by rfl) (by first | rfl | assumption) hS ?_; clear hS; (try clear ww); intro ww hS) | (refine w_s1 rfl _ _ rfl (by rfl) (by repeat constructor) (by first | exact .c | exact .t rfl) (by rfl) (by repeat constructor) hS ?_; clear hS; (try clear ww); intro ww hS))
      go_ret
      exact ⟨rfl, bthen HB1.out hS.below⟩

set_option maxHeartbeats 16000000 in
set_option maxRecDepth 100000 in
theorem limitsInside_11 (F : Fnt) (l : Int) (c : Bool) (n : Nat) (base : Bx (n + 1)) (sb : Bx (n + 1)) (sp : Bx (n + 1)) (cs : List Value) (sx ux : Option Addr) (sc uc : Nat) (w : World) (hF : FntOk w F) (hr : Rep w (n + 1) base cs) (hs : RepL w (n + 1) sx [sb]) (hu : RepL w (n + 1) ux [sp]) (b1 : 1 ≤ 1048576) (b2 : 1 ≤ 1048576) (h : MadeOk5 F l n base [sb] [sp]) : Calls Try.prog 5 #[.agg (caseS F l c cs (.slice sx 1 sc) (.slice ux 1 uc)).toArray] w (Gives (.bool true) w) := by
  have HM := Lib.hid (fun w' (hb : Below w.heap.size w w') => made35_ok F l c n base [sb] [sp] cs sx ux sc uc w' (hF.below hb) (hr.step hb) (hs.step hb) (hu.step hb) b1 b2 h)
  have hso := h.2.2.2.2.1
  have hin := lim_in hso
  have HIn := Lib.hid (fun k (hk : k ∈ limK F l n base [sb] [sp]) => limK_in hso hk)
  have eK : limK F l n base [sb] [sp] = [atXY (n + 1) base (lmX0 (limW n base [sb] [sp]) base.1.w - limL F n base [sb] [sp]) 0, atXY (n + 1) sb (lmX1 (limW n base [sb] [sp]) (limI F n base) sb.1.w - limL F n base [sb] [sp]) (-(base.1.d + lmQ F l 17 + sb.1.h)), atXY (n + 1) sp (lmX2 (limW n base [sb] [sp]) (limI F n base) sp.1.w - limL F n base [sb] [sp]) (base.1.h + lmQ F l 11 + sp.1.d)] := rfl
  rw [eK] at HIn
  have hv := h.2.2.2.2.1.1
  have hl := h.2.2.2.2.1.2.1
  have mb := modL2_out h.2.2.2.1 (b := base) (by simp)
  have ms := modL2_out h.2.2.2.1 (b := sb) (by simp)
  have mu := modL2_out h.2.2.2.1 (b := sp) (by simp)
  have q10 := lmQ_in (l := l) (p := 10) hv (by omega)
  have HP10 := Lib.hid (fun w' => ref35_Quad_calls F l 10 c w' hl hv (by omega))
  have q17 := lmQ_in (l := l) (p := 17) hv (by omega)
  have HP17 := Lib.hid (fun w' => ref35_Quad_calls F l 17 c w' hl hv (by omega))
  have q11 := lmQ_in (l := l) (p := 11) hv (by omega)
  have HP11 := Lib.hid (fun w' => ref35_Quad_calls F l 11 c w' hl hv (by omega))
  have eR : limB F l n base [sb] [sp] = listB (n + 1) (limE F n base [sb] [sp]) (limH F l n base [sp]) (limD F l n base [sb]) [atXY (n + 1) base (lmX0 (limW n base [sb] [sp]) base.1.w - limL F n base [sb] [sp]) 0, atXY (n + 1) sb (lmX1 (limW n base [sb] [sp]) (limI F n base) sb.1.w - limL F n base [sb] [sp]) (-(base.1.d + lmQ F l 17 + sb.1.h)), atXY (n + 1) sp (lmX2 (limW n base [sb] [sp]) (limI F n base) sp.1.w - limL F n base [sb] [sp]) (base.1.h + lmQ F l 11 + sp.1.d)] := rfl
  rw [eR] at HM
  have hH : limH F l n base [sp] = max base.1.h (base.1.h + lmQ F l 11 + sp.1.d + sp.1.h + lmQ F l 10) := rfl
  have hD : limD F l n base [sb] = max base.1.d (base.1.d + lmQ F l 17 + sb.1.h + sb.1.d + lmQ F l 10) := rfl
  generalize limH F l n base [sp] = H at *
  generalize limD F l n base [sb] = D at *
  generalize lmX0 (limW n base [sb] [sp]) base.1.w - limL F n base [sb] [sp] = X0 at *
  generalize lmX1 (limW n base [sb] [sp]) (limI F n base) sb.1.w - limL F n base [sb] [sp] = X1 at *
  generalize lmX2 (limW n base [sb] [sp]) (limI F n base) sp.1.w - limL F n base [sb] [sp] = X2 at *
  generalize limE F n base [sb] [sp] = E at *
  generalize lmQ F l 10 = Q10 at *
  generalize lmQ F l 17 = Q17 at *
  generalize lmQ F l 11 = Q11 at *
  have HE := Lib.hid hin.2.2.2
  obtain ⟨YS, hYS⟩ : ∃ y : Int, y = -(base.1.d + Q17 + sb.1.h) := ⟨_, rfl⟩
  rw [← hYS] at HM HIn
  obtain ⟨A1, hA1⟩ : ∃ x : Int, x = sb.1.d - YS := ⟨_, rfl⟩
  have iA1 : IntKind.i64.wrap (sb.1.d - YS) = A1 := by rw [hA1]; exact IntWalk.i64_in _ (by omega)
  obtain ⟨A2, hA2⟩ : ∃ x : Int, x = A1 + Q10 := ⟨_, rfl⟩
  have iA2 : IntKind.i64.wrap (A1 + Q10) = A2 := by rw [hA2]; exact IntWalk.i64_in _ (by omega)
  have t1 : decide (D < A2) = false := decide_eq_false (by omega)
  obtain ⟨YU, hYU⟩ : ∃ y : Int, y = base.1.h + Q11 + sp.1.d := ⟨_, rfl⟩
  rw [← hYU] at HM HIn
  obtain ⟨B1, hB1⟩ : ∃ x : Int, x = YU + sp.1.h := ⟨_, rfl⟩
  have iB1 : IntKind.i64.wrap (YU + sp.1.h) = B1 := by rw [hB1]; exact IntWalk.i64_in _ (by omega)
  obtain ⟨B2, hB2⟩ : ∃ x : Int, x = B1 + Q10 := ⟨_, rfl⟩
  have iB2 : IntKind.i64.wrap (B1 + Q10) = B2 := by rw [hB2]; exact IntWalk.i64_in _ (by omega)
  have t2 : decide (H < B2) = false := decide_eq_false (by omega)
  have t3 : decide (H < base.1.h) = false := decide_eq_false (by omega)
  have t4 : decide (D < base.1.d) = false := decide_eq_false (by omega)
  obtain ⟨K, hK⟩ : ∃ K, K = [atXY (n + 1) base X0 0, atXY (n + 1) sb X1 YS, atXY (n + 1) sp X2 YU] := ⟨_, rfl⟩
  rw [← hK] at HM HIn
  have HK0 := Lib.hid (show K[0]? = some (atXY (n + 1) base X0 0) by rw [hK]; rfl)
  have HK1 := Lib.hid (show K[1]? = some (atXY (n + 1) sb X1 YS) by rw [hK]; rfl)
  have HK2 := Lib.hid (show K[2]? = some (atXY (n + 1) sp X2 YU) by rw [hK]; rfl)
  have hlK : K.length = 3 := by rw [hK]; rfl
  obtain ⟨c0, c1, c2, c3, c4, c5, c6, c7, c8, c9, c10, rfl⟩ := eleven hr.len
  clear hF hr hs hu h hso hv hl b1 b2 mb eR eK hH hD hin q10 q17 q11 ms mu hYS hA1 hA2 hYU hB1 hB2 hK
  obtain ⟨⟨bk, bn, bz, bw, bh, bd, bx, by_, bo, bs⟩, bks⟩ := base
  obtain ⟨⟨sk, sn, sz, sw, sh, sd, sx', sy, so, ss⟩, sks⟩ := sb
  obtain ⟨⟨uk, un, uz, uw, uh, ud, ux', uy, uo, us⟩, uks⟩ := sp
  simp only at t3 t4
  simp only at t1 iA1 iA2
  simp only at t2 iB1 iB2
  go_enter Try.func5, Try.ntmps5
  have hS := own_start w
  go_wp2_with (first | (refine own_unguard (by rfl) ?_) | (refine own_box rfl _ _ rfl rfl hS ?_; clear hS; intro kb w0 hS0; have hrC := (hS0.get at0).range; have HB0 := Lib.hid hS0.below; obtain ⟨hrF, hrS, hrN, cV, cU⟩ := caseS_out hrC; have hS := own_start w0; clear hS0) | (refine own_load_old rfl _ _ rfl rfl hS hrC List.not_mem_nil rt_case35 ?_) | (go_at_call 8; refine own_calls hS (awake35_calls _) ?_; clear hS; (try clear ww); intro ww hS) | (go_at_call 13; refine Calls.mono (HM.out _ (bthen HB0.out hS.below)) ?_; rintro e w1 ⟨cs1, rfl, hR1, hb1⟩; have hrF1 := rangeAt_below (hS.range List.not_mem_nil hrF) hb1; have hrS1 := rangeAt_below (hS.range List.not_mem_nil hrS) hb1; have hrN1 := rangeAt_below (hS.range List.not_mem_nil hrN) hb1; have cV1 := cell_below (hS.cell List.not_mem_nil cV) hb1; have cU1 := cell_below (hS.cell List.not_mem_nil cU) hb1; have HB1 := Lib.hid (bthen HB0.out (bthen hS.below hb1)); obtain ⟨kx, kc, tx, tc, rfl, _, _, _, hks⟩ := rep_out hR1; obtain ⟨k, o, q0, rfl, hk0, hp0⟩ := hks 0 _ HK0.out; rw [Nat.zero_mul, Nat.add_zero] at hk0; obtain ⟨_, _, _, _, rfl⟩ := kid_out hp0; have HKs := Lib.hid hks; clear hks hp0 hR1 hS hb1 hrC hrF hrS hrN cV cU; have hS := own_start w1) | (refine w_ld rfl _ rfl (by rfl) (by first | exact rd_1 (by repeat constructor) (by first | rfl | assumption) | exact rd_w (by repeat constructor) (by rfl) | exact rd_o (by assumption) (by rfl) (by first | exact nmn | assumption | simp) | exact rd_h (by assumption) (by rfl) (by first | exact nmn | assumption | simp) | exact rd_1o (by assumption) (by first | exact nmn | assumption | simp) | exact rd_1h (by assumption) (by first | rfl | assumption) (by first | exact nmn | assumption | simp)) hS ?_) | (refine own_box rfl _ _ rfl (by rfl) hS ?_; clear hS; (try clear ww); intro bb ww hS) | (refine w_al rfl rfl hS ?_; clear hS; (try clear ww); intro bb ww hS) | (refine w_st rfl _ _ rfl (by rfl) (by rfl) (by repeat constructor) (by rfl) (by rfl) (by first | rfl | assumption) hS ?_; clear hS; (try clear ww); intro ww hS) | (refine w_s1 rfl _ _ rfl (by rfl) (by repeat constructor) (by first | exact .c | exact .t rfl) (by rfl) (by repeat constructor) hS ?_; clear hS; (try clear ww); intro ww hS))
  obtain ⟨L0, HL, hS0⟩ := hS.named
  have hat0 := hS.get at0
  go_loopw [5] (fun i wr => ∃ j : Nat, j ≤ K.length ∧ i = .int .i64 j ∧ Own [] w1 L0 wr) (fun i _ => K.length - (intOf i).toNat)
  case atStart => exact ⟨0, Nat.zero_le _, rfl, hS0⟩
  case round =>
    clear hS hS0 hat0
    obtain ⟨j, hj, rfl, hS⟩ := hrel
    obtain rfl := HL.out
    clear HL
    by_cases hlt : j < K.length
    · obtain ⟨kid, hkid⟩ : ∃ q, K[j]? = some q := ⟨K[j], by rw [List.getElem?_eq_getElem]⟩
      obtain ⟨kb3, ko3, css, e3, hrg, hp3⟩ := HKs.out j kid hkid
      obtain ⟨rfl, rfl⟩ : k = kb3 ∧ o = ko3 := by simpa using e3
      have hin := HIn.out kid (List.mem_of_getElem? hkid)
      have hE := HE.out
      obtain ⟨⟨k0, k1, k2, k3, k4, k5, k6, k7, k9, k10⟩, kks⟩ := kid
      obtain ⟨_, _, _, _, rfl, _⟩ := rep_out hp3
      simp only at hin
      obtain ⟨Z1, hZ1⟩ : ∃ x : Int, x = k6 + k3 := ⟨_, rfl⟩
      have iZ1 : IntKind.i64.wrap (k6 + k3) = Z1 := by rw [hZ1]; exact IntWalk.i64_in _ (by omega)
      have d1 : decide (k6 < 0) = false := decide_eq_false (by omega)
      have d2 : decide (E < Z1) = false := decide_eq_false (by omega)
      clear hin hE hZ1 hp3 hkid e3 hk0
      by_cases h0 : 0 ≤ k3
      · have d0 : decide (0 ≤ k3) = true := decide_eq_true h0
        clear h0
        go_wp2_with (first | (refine own_unguard (by rfl) ?_) | (refine w_ld rfl _ rfl (by rfl) (by first | exact rd_1 (by repeat constructor) (by first | rfl | assumption) | exact rd_w (by repeat constructor) (by rfl) | exact rd_o (by assumption) (by rfl) (by first | exact nmn | assumption | simp) | exact rd_h (by assumption) (by rfl) (by first | exact nmn | assumption | simp) | exact rd_1o (by assumption) (by first | exact nmn | assumption | simp) | exact rd_1h (by assumption) (by first | rfl | assumption) (by first | exact nmn | assumption | simp)) hS ?_) | (refine own_box rfl _ _ rfl (by rfl) hS ?_; clear hS; (try clear ww); intro bb ww hS) | (refine w_al rfl rfl hS ?_; clear hS; (try clear ww); intro bb ww hS) | (refine w_st rfl _ _ rfl (by rfl) (by rfl) (by repeat constructor) (by rfl) (by rfl) (by first | rfl | assumption) hS ?_; clear hS; (try clear ww); intro ww hS) | (refine w_s1 rfl _ _ rfl (by rfl) (by repeat constructor) (by first | exact .c | exact .t rfl) (by rfl) (by repeat constructor) hS ?_; clear hS; (try clear ww); intro ww hS))
        go_roundw
        case rel => exact ⟨j + 1, hlt, by go_num, hS.forget (by simp)⟩
        case measure => exact loop_meas hlt
      · have d0 : decide (0 ≤ k3) = false := decide_eq_false h0
        clear h0
        go_wp2_with (first | (refine own_unguard (by rfl) ?_) | (refine w_ld rfl _ rfl (by rfl) (by first | exact rd_1 (by repeat constructor) (by first | rfl | assumption) | exact rd_w (by repeat constructor) (by rfl) | exact rd_o (by assumption) (by rfl) (by first | exact nmn | assumption | simp) | exact rd_h (by assumption) (by rfl) (by first | exact nmn | assumption | simp) | exact rd_1o (by assumption) (by first | exact nmn | assumption | simp) | exact rd_1h (by assumption) (by first | rfl | assumption) (by first | exact nmn | assumption | simp)) hS ?_) | (refine own_box rfl _ _ rfl (by rfl) hS ?_; clear hS; (try clear ww); intro bb ww hS) | (refine w_al rfl rfl hS ?_; clear hS; (try clear ww); intro bb ww hS) | (refine w_st rfl _ _ rfl (by rfl) (by rfl) (by repeat constructor) (by rfl) (by rfl) (by first | rfl | assumption) hS ?_; clear hS; (try clear ww); intro ww hS) | (refine w_s1 rfl _ _ rfl (by rfl) (by repeat constructor) (by first | exact .c | exact .t rfl) (by rfl) (by repeat constructor) hS ?_; clear hS; (try clear ww); intro ww hS))
        go_roundw
        case rel => exact ⟨j + 1, hlt, by go_num, hS.forget (by simp)⟩
        case measure => exact loop_meas hlt
    · obtain rfl : j = K.length := by omega
      obtain ⟨kb1, ko1, q1, e1, hk1, hp1⟩ := HKs.out 1 _ HK1.out
      obtain ⟨rfl, rfl⟩ : k = kb1 ∧ o = ko1 := by simpa using e1
      obtain ⟨_, _, _, _, rfl⟩ := kid_out hp1
      rw [Nat.one_mul] at hk1
      clear e1 hp1
      obtain ⟨kb2, ko2, q2, e2, hk2, hp2⟩ := HKs.out 2 _ HK2.out
      obtain ⟨rfl, rfl⟩ : k = kb2 ∧ o = ko2 := by simpa using e2
      obtain ⟨_, _, _, _, rfl⟩ := kid_out hp2
      clear e2 hp2
      (try rw [hlK] at hS)
      (try rw [hlK])
      clear HKs HIn HE hlt
      have f4 : w1.cell? ⟨k, o + 4, none⟩ = some (.int .i64 bh) := hk0 4 _ rfl
      have f5 : w1.cell? ⟨k, o + 5, none⟩ = some (.int .i64 bd) := hk0 5 _ rfl
      go_upto_region 12 with (first | (refine own_unguard (by rfl) ?_) | (refine w_ld rfl _ rfl (by rfl) (by first | exact rd_1 (by repeat constructor) (by first | rfl | assumption) | exact rd_w (by repeat constructor) (by rfl) | exact rd_o (by assumption) (by rfl) (by first | exact nmn | assumption | simp) | exact rd_h (by assumption) (by rfl) (by first | exact nmn | assumption | simp) | exact rd_1o (by assumption) (by first | exact nmn | assumption | simp) | exact rd_1h (by assumption) (by first | rfl | assumption) (by first | exact nmn | assumption | simp)) hS ?_) | (refine own_box rfl _ _ rfl (by rfl) hS ?_; clear hS; (try clear ww); intro bb ww hS) | (refine w_al rfl rfl hS ?_; clear hS; (try clear ww); intro bb ww hS) | (refine w_st rfl _ _ rfl (by rfl) (by rfl) (by repeat constructor) (by rfl) (by rfl) (by first | rfl | assumption) hS ?_; clear hS; (try clear ww); intro ww hS) | (refine w_s1 rfl _ _ rfl (by rfl) (by repeat constructor) (by first | exact .c | exact .t rfl) (by rfl) (by repeat constructor) hS ?_; clear hS; (try clear ww); intro ww hS))
      (try simp only [Act.put]); (try simp only [List.setIfInBounds_toArray]); (try simp only [List.set_cons_succ]); (try simp only [List.set_cons_zero])
      refine own_region hS (by kernel_rfl) (by kernel_rfl) ?_
      (try simp only [List.append])
      (try simp only); (try simp only [List.drop_succ_cons]); (try simp only [List.drop_zero]); (try simp only [List.take_succ_cons]); (try simp only [List.take_zero])
      repeat (first
          | (first | (refine quiet_plain rfl ?_) | (refine quiet_yes rfl rfl rfl (by simp only [List.getElem?_toArray, List.getElem?_cons_succ, List.getElem?_cons_zero]; rfl) (by with_reducible constructor) ?_)
             apply Exists.intro; refine ⟨?_, ?_⟩
             focus (intro wq hq0; have hq : Own _ _ _ wq := hq0; first | (exact quietAt_rd rfl (by rfl) (by first | exact rd_1 (by repeat constructor) (by first | rfl | assumption) | exact rd_w (by repeat constructor) (by rfl) | exact rd_o (by assumption) (by rfl) (by first | exact nmn | assumption | simp) | exact rd_h (by assumption) (by rfl) (by first | exact nmn | assumption | simp) | exact rd_1o (by assumption) (by first | exact nmn | assumption | simp) | exact rd_1h (by assumption) (by first | rfl | assumption) (by first | exact nmn | assumption | simp)) hq) | (go_simp; first | (with_reducible rfl)))
             simp only [Act.put, List.setIfInBounds_toArray, List.set_cons_zero, List.set_cons_succ])
          | (refine quiet_no rfl rfl rfl (by simp only [List.getElem?_toArray, List.getElem?_cons_succ, List.getElem?_cons_zero]; rfl) (by with_reducible constructor) ?_; simp only [Act.put, List.setIfInBounds_toArray, List.set_cons_zero, List.set_cons_succ]))
      refine wpQuiet_nil ?_
      clear hS
      intro ww hS
      go_wp2_with (first | (refine own_unguard (by rfl) ?_) | (go_at_call 14; refine own_calls hS (HP10.out _) ?_; clear hS; (try clear ww); intro ww hS) | (refine w_ld rfl _ rfl (by rfl) (by first | exact rd_1 (by repeat constructor) (by first | rfl | assumption) | exact rd_w (by repeat constructor) (by rfl) | exact rd_o (by assumption) (by rfl) (by first | exact nmn | assumption | simp) | exact rd_h (by assumption) (by rfl) (by first | exact nmn | assumption | simp) | exact rd_1o (by assumption) (by first | exact nmn | assumption | simp) | exact rd_1h (by assumption) (by first | rfl | assumption) (by first | exact nmn | assumption | simp)) hS ?_) | (refine own_box rfl _ _ rfl (by rfl) hS ?_; clear hS; (try clear ww); intro bb ww hS) | (refine w_al rfl rfl hS ?_; clear hS; (try clear ww); intro bb ww hS) | (refine w_st rfl _ _ rfl (by rfl) (by rfl) (by repeat constructor) (by rfl) (by rfl) (by first | rfl | assumption) hS ?_; clear hS; (try clear ww); intro ww hS) | (refine w_s1 rfl _ _ rfl (by rfl) (by repeat constructor) (by first | exact .c | exact .t rfl) (by rfl) (by repeat constructor) hS ?_; clear hS; (try clear ww); intro ww hS))
      go_ret
      exact ⟨rfl, bthen HB1.out hS.below⟩

theorem limitsInside_calls (F : Fnt) (l : Int) (c : Bool) (n : Nat) (base : Bx (n + 1)) (subs sups : List (Bx (n + 1))) (cs : List Value) (sx ux : Option Addr) (sc uc : Nat) (w : World) (hF : FntOk w F) (hr : Rep w (n + 1) base cs) (hs : RepL w (n + 1) sx subs) (hu : RepL w (n + 1) ux sups) (b1 : subs.length ≤ 1048576) (b2 : sups.length ≤ 1048576) : Calls Try.prog 5 #[.agg (caseS F l c cs (.slice sx subs.length sc) (.slice ux sups.length uc)).toArray] w (Gives (.bool true) w) := by
  by_cases h : MadeOk5 F l n base subs sups
  · have h1 := h.2.1
    have h2 := h.2.2.1
    rcases subs with _ | ⟨sb, _ | ⟨x, subs⟩⟩
    · rcases sups with _ | ⟨sp, _ | ⟨y, sups⟩⟩
      · exact limitsInside_00 F l c n base cs sx ux sc uc w hF hr hs hu b1 b2 h
      · exact limitsInside_01 F l c n base sp cs sx ux sc uc w hF hr hs hu b1 b2 h
      · simp at h2
    · rcases sups with _ | ⟨sp, _ | ⟨y, sups⟩⟩
      · exact limitsInside_10 F l c n base sb cs sx ux sc uc w hF hr hs hu b1 b2 h
      · exact limitsInside_11 F l c n base sb sp cs sx ux sc uc w hF hr hs hu b1 b2 h
      · simp at h2
    · simp at h1
  · exact limitsInside_bad F l c n base subs sups cs sx ux sc uc w hF hr hs hu b1 b2 h

end Go.Proofs.Ytdbcdjiclkmknaa
