/- Chapter 35, LimitsCentred: the law returns true. -/
import Derived.Test.YtdbcdjiclkmknaaLt5
namespace Go.Proofs.Ytdbcdjiclkmknaa
open Go.RowKit

attribute [local irreducible] wpQuiet wpG wpP wpK wpList Code.wp Calls

set_option maxHeartbeats 8000000 in
set_option maxRecDepth 100000 in
theorem limitsCentred_bad (F : Fnt) (l : Int) (c : Bool) (n : Nat) (base : Bx (n + 1)) (subs sups : List (Bx (n + 1))) (cs : List Value) (sx ux : Option Addr) (sc uc : Nat) (w : World) (hF : FntOk w F) (hr : Rep w (n + 1) base cs) (hs : RepL w (n + 1) sx subs) (hu : RepL w (n + 1) ux sups) (b1 : subs.length ≤ 1048576) (b2 : sups.length ≤ 1048576) (hb : ¬ MadeOk5 F l n base subs sups) : Calls Try.prog 6 #[.agg (caseS F l c cs (.slice sx subs.length sc) (.slice ux sups.length uc)).toArray] w (Gives (.bool true) w) := by
  have HM := Lib.hid (fun w' (h : Below w.heap.size w w') => made35_bad F l c n base subs sups cs sx ux sc uc w' (hF.below h) (hr.step h) (hs.step h) (hu.step h) b1 b2 0 hb)
  obtain ⟨c0, c1, c2, c3, c4, c5, c6, c7, c8, c9, c10, rfl⟩ := eleven hr.len
  clear hF hr hs hu hb
  go_enter Try.func6, Try.ntmps6
  have hS := own_start w
  go_wp2_with (first | (refine own_unguard (by rfl) ?_) | (refine own_box rfl _ _ rfl rfl hS ?_; clear hS; intro kb w0 hS0; have hrC := (hS0.get at0).range; have HB0 := Lib.hid hS0.below; obtain ⟨hrF, hrS, hrN, cV, cU⟩ := caseS_out hrC; have hS := own_start w0; clear hS0) | (refine own_load_old rfl _ _ rfl rfl hS hrC List.not_mem_nil rt_case35 ?_) | (go_at_call 8; refine own_calls hS (awake35_calls _) ?_; clear hS; (try clear ww); intro ww hS) | (go_at_call 13; refine Calls.mono (HM.out _ (bthen HB0.out hS.below)) ?_; rintro e w1 ⟨cs1, rfl, hR1, hb1⟩; have HB1 := Lib.hid (bthen HB0.out (bthen hS.below hb1)); obtain ⟨kx, kc, tx, tc, rfl⟩ := zero_out hR1; clear hR1 hS hb1; have hS := own_start w1) | (refine w_ld rfl _ rfl (by rfl) (by first | exact rd_1 (by repeat constructor) (by first | rfl | assumption) | exact rd_w (by repeat constructor) (by rfl) | exact rd_o (by assumption) (by rfl) (by first | exact nmn | assumption | simp) | exact rd_h (by assumption) (by rfl) (by first | exact nmn | assumption | simp) | exact rd_1o (by assumption) (by first | exact nmn | assumption | simp) | exact rd_1h (by assumption) (by first | rfl | assumption) (by first | exact nmn | assumption | simp)) hS ?_) | (refine own_box rfl _ _ rfl (by rfl) hS ?_; clear hS; (try clear ww); intro bb ww hS) | (refine w_al rfl rfl hS ?_; clear hS; (try clear ww); intro bb ww hS) | (refine w_st rfl _ _ rfl (by rfl) (by rfl) (by repeat constructor) (by rfl) (by rfl) (by first | rfl | assumption) hS ?_; clear hS; (try clear ww); intro ww hS) | (refine w_s1 rfl _ _ rfl (by rfl) (by repeat constructor) (by first | exact .c | exact .t rfl) (by rfl) (by repeat constructor) hS ?_; clear hS; (try clear ww); intro ww hS))
  go_ret
  exact ⟨rfl, bthen HB1.out hS.below⟩

set_option maxHeartbeats 16000000 in
set_option maxRecDepth 100000 in
theorem limitsCentred_out (F : Fnt) (l : Int) (c : Bool) (n : Nat) (base : Bx (n + 1)) (subs sups : List (Bx (n + 1))) (cs : List Value) (sx ux : Option Addr) (sc uc : Nat) (w : World) (hF : FntOk w F) (hr : Rep w (n + 1) base cs) (hs : RepL w (n + 1) sx subs) (hu : RepL w (n + 1) ux sups) (b1 : subs.length ≤ 1048576) (b2 : sups.length ≤ 1048576) (h : MadeOk5 F l n base subs sups) (hz : ¬ italB F (n + 1) base = 0) : Calls Try.prog 6 #[.agg (caseS F l c cs (.slice sx subs.length sc) (.slice ux sups.length uc)).toArray] w (Gives (.bool true) w) := by
  have hso := h.2.2.2.2.1
  have HM := Lib.hid (fun w' (hb : Below w.heap.size w w') => made35_ok F l c n base subs sups cs sx ux sc uc w' (hF.below hb) (hr.step hb) (hs.step hb) (hu.step hb) b1 b2 h)
  have HIt := Lib.hid (fun w' (hb : Below w.heap.size w w') => ref34_Italic_ok35 F (n + 1) base cs w' (hF.below hb) (hr.step hb) hso.1 hso.2.2.1)
  have hall := rep_all hr
  have z0 : (italB F (n + 1) base == 0) = false := by simp; omega
  clear hz
  have eR : limB F l n base subs sups = listB (n + 1) (limE F n base subs sups) (limH F l n base sups) (limD F l n base subs) (limK F l n base subs sups) := rfl
  rw [eR] at HM
  generalize limE F n base subs sups = E at *
  generalize limH F l n base sups = H at *
  generalize limD F l n base subs = D at *
  have hlK : (limK F l n base subs sups).length ≤ 3 := by
    rw [limK_len]
    have := h.2.1
    have := h.2.2.1
    omega
  generalize limK F l n base subs sups = K at *
  generalize italB F (n + 1) base = IT at *
  obtain ⟨c0, c1, c2, c3, c4, c5, c6, c7, c8, c9, c10, rfl⟩ := eleven hr.len
  clear hF hr hs hu h hso b1 b2 eR
  go_enter Try.func6, Try.ntmps6
  have hS := own_start w
  go_wp2_with (first | (refine own_unguard (by rfl) ?_) | (refine own_box rfl _ _ rfl rfl hS ?_; clear hS; intro kb w0 hS0; have hrC := (hS0.get at0).range; have HB0 := Lib.hid hS0.below; obtain ⟨hrF, hrS, hrN, cV, cU⟩ := caseS_out hrC; have hS := own_start w0; clear hS0) | (refine own_load_old rfl _ _ rfl rfl hS hrC List.not_mem_nil rt_case35 ?_) | (go_at_call 8; refine own_calls hS (awake35_calls _) ?_; clear hS; (try clear ww); intro ww hS) | (go_at_call 13; refine Calls.mono (HM.out _ (bthen HB0.out hS.below)) ?_; rintro e w1 ⟨cs1, rfl, hR1, hb1⟩; have hrF1 := rangeAt_below (hS.range List.not_mem_nil hrF) hb1; have hrS1 := rangeAt_below (hS.range List.not_mem_nil hrS) hb1; have hrN1 := rangeAt_below (hS.range List.not_mem_nil hrN) hb1; have cV1 := cell_below (hS.cell List.not_mem_nil cV) hb1; have cU1 := cell_below (hS.cell List.not_mem_nil cU) hb1; have HB1 := Lib.hid (bthen HB0.out (bthen hS.below hb1)); obtain ⟨kx, kc, tx, tc, rfl, _, _, _, hks⟩ := rep_out hR1; have HKs := Lib.hid hks; clear hks hR1 hS hb1 hrC hrF hrS hrN cV cU; have hS := own_start w1) | (go_at_call 15; refine own_calls hS (HIt.out _ (bthen HB1.out hS.below)) ?_; clear hS; (try clear ww); intro ww hS) | (refine w_ld rfl _ rfl (by rfl) (by first | exact rd_1 (by repeat constructor) (by first | rfl | assumption) | exact rd_w (by repeat constructor) (by rfl) | exact rd_o (by assumption) (by rfl) (by first | exact nmn | assumption | simp) | exact rd_h (by assumption) (by rfl) (by first | exact nmn | assumption | simp) | exact rd_1o (by assumption) (by first | exact nmn | assumption | simp) | exact rd_1h (by assumption) (by first | rfl | assumption) (by first | exact nmn | assumption | simp)) hS ?_) | (refine own_box rfl _ _ rfl (by rfl) hS ?_; clear hS; (try clear ww); intro bb ww hS) | (refine w_al rfl rfl hS ?_; clear hS; (try clear ww); intro bb ww hS) | (refine w_st rfl _ _ rfl (by rfl) (by rfl) (by repeat constructor) (by rfl) (by rfl) (by first | rfl | assumption) hS ?_; clear hS; (try clear ww); intro ww hS) | (refine w_s1 rfl _ _ rfl (by rfl) (by repeat constructor) (by first | exact .c | exact .t rfl) (by rfl) (by repeat constructor) hS ?_; clear hS; (try clear ww); intro ww hS))
  go_ret
  exact ⟨rfl, bthen HB1.out hS.below⟩

set_option maxHeartbeats 16000000 in
set_option maxRecDepth 100000 in
theorem limitsCentred_good (F : Fnt) (l : Int) (c : Bool) (n : Nat) (base : Bx (n + 1)) (subs sups : List (Bx (n + 1))) (cs : List Value) (sx ux : Option Addr) (sc uc : Nat) (w : World) (hF : FntOk w F) (hr : Rep w (n + 1) base cs) (hs : RepL w (n + 1) sx subs) (hu : RepL w (n + 1) ux sups) (b1 : subs.length ≤ 1048576) (b2 : sups.length ≤ 1048576) (h : MadeOk5 F l n base subs sups) (hz : italB F (n + 1) base = 0) : Calls Try.prog 6 #[.agg (caseS F l c cs (.slice sx subs.length sc) (.slice ux sups.length uc)).toArray] w (Gives (.bool true) w) := by
  have hso := h.2.2.2.2.1
  have HM := Lib.hid (fun w' (hb : Below w.heap.size w w') => made35_ok F l c n base subs sups cs sx ux sc uc w' (hF.below hb) (hr.step hb) (hs.step hb) (hu.step hb) b1 b2 h)
  have HIt := Lib.hid (fun w' (hb : Below w.heap.size w w') => ref34_Italic_ok35 F (n + 1) base cs w' (hF.below hb) (hr.step hb) hso.1 hso.2.2.1)
  have hall := rep_all hr
  have hI : limI F n base = 0 := by
    unfold limI
    rw [hz]
    rfl
  have HIn := Lib.hid (fun k (hk : k ∈ limK F l n base subs sups) => limK_cen h.2.2.2.1 hI hk)
  have hin := lim_in hso
  have HE := Lib.hid hin.2.2.2
  rw [hz] at HIt
  clear hin hI hz
  have eR : limB F l n base subs sups = listB (n + 1) (limE F n base subs sups) (limH F l n base sups) (limD F l n base subs) (limK F l n base subs sups) := rfl
  rw [eR] at HM
  generalize limE F n base subs sups = E at *
  generalize limH F l n base sups = H at *
  generalize limD F l n base subs = D at *
  have hlK : (limK F l n base subs sups).length ≤ 3 := by
    rw [limK_len]
    have := h.2.1
    have := h.2.2.1
    omega
  generalize limK F l n base subs sups = K at *
  obtain ⟨c0, c1, c2, c3, c4, c5, c6, c7, c8, c9, c10, rfl⟩ := eleven hr.len
  clear hF hr hs hu h hso b1 b2 eR
  go_enter Try.func6, Try.ntmps6
  have hS := own_start w
  go_wp2_with (first | (refine own_unguard (by rfl) ?_) | (refine own_box rfl _ _ rfl rfl hS ?_; clear hS; intro kb w0 hS0; have hrC := (hS0.get at0).range; have HB0 := Lib.hid hS0.below; obtain ⟨hrF, hrS, hrN, cV, cU⟩ := caseS_out hrC; have hS := own_start w0; clear hS0) | (refine own_load_old rfl _ _ rfl rfl hS hrC List.not_mem_nil rt_case35 ?_) | (go_at_call 8; refine own_calls hS (awake35_calls _) ?_; clear hS; (try clear ww); intro ww hS) | (go_at_call 13; refine Calls.mono (HM.out _ (bthen HB0.out hS.below)) ?_; rintro e w1 ⟨cs1, rfl, hR1, hb1⟩; have hrF1 := rangeAt_below (hS.range List.not_mem_nil hrF) hb1; have hrS1 := rangeAt_below (hS.range List.not_mem_nil hrS) hb1; have hrN1 := rangeAt_below (hS.range List.not_mem_nil hrN) hb1; have cV1 := cell_below (hS.cell List.not_mem_nil cV) hb1; have cU1 := cell_below (hS.cell List.not_mem_nil cU) hb1; have HB1 := Lib.hid (bthen HB0.out (bthen hS.below hb1)); obtain ⟨kx, kc, tx, tc, rfl, _, _, _, hks⟩ := rep_out hR1; have HKs := Lib.hid hks; clear hks hR1 hS hb1 hrC hrF hrS hrN cV cU; have hS := own_start w1) | (go_at_call 15; refine own_calls hS (HIt.out _ (bthen HB1.out hS.below)) ?_; clear hS; (try clear ww); intro ww hS) | (refine w_ld rfl _ rfl (by rfl) (by first | exact rd_1 (by repeat constructor) (by first | rfl | assumption) | exact rd_w (by repeat constructor) (by rfl) | exact rd_o (by assumption) (by rfl) (by first | exact nmn | assumption | simp) | exact rd_h (by assumption) (by rfl) (by first | exact nmn | assumption | simp) | exact rd_1o (by assumption) (by first | exact nmn | assumption | simp) | exact rd_1h (by assumption) (by first | rfl | assumption) (by first | exact nmn | assumption | simp)) hS ?_) | (refine own_box rfl _ _ rfl (by rfl) hS ?_; clear hS; (try clear ww); intro bb ww hS) | (refine w_al rfl rfl hS ?_; clear hS; (try clear ww); intro bb ww hS) | (refine w_st rfl _ _ rfl (by rfl) (by rfl) (by repeat constructor) (by rfl) (by rfl) (by first | rfl | assumption) hS ?_; clear hS; (try clear ww); intro ww hS) | (refine w_s1 rfl _ _ rfl (by rfl) (by repeat constructor) (by first | exact .c | exact .t rfl) (by rfl) (by repeat constructor) hS ?_; clear hS; (try clear ww); intro ww hS))
  obtain ⟨L0, HL, hS0⟩ := hS.named
  have hat0 := hS.get at0
  go_loopw [5] (fun i wr => ∃ j : Nat, j ≤ K.length ∧ i = .int .i64 j ∧ Own [] w1 L0 wr) (fun i _ => K.length - (intOf i).toNat)
  case atStart => exact ⟨0, Nat.zero_le _, rfl, hS0⟩
  case round =>
    clear hS hS0 hat0
    obtain ⟨j, hj, rfl, hS⟩ := hrel
    obtain rfl := HL.out
    clear HL
    by_cases hlt : j < K.length
    · obtain ⟨kid, hkid⟩ : ∃ q, K[j]? = some q := ⟨K[j], by rw [List.getElem?_eq_getElem]⟩
      obtain ⟨kb3, ko3, css, rfl, hrg, hp3⟩ := HKs.out j kid hkid
      have hin := HIn.out kid (List.mem_of_getElem? hkid)
      have hE := HE.out
      obtain ⟨⟨k0, k1, k2, k3, k4, k5, k6, k7, k9, k10⟩, kks⟩ := kid
      obtain ⟨_, _, _, _, rfl, _⟩ := rep_out hp3
      simp only at hin
      obtain ⟨Z1, hZ1⟩ : ∃ x : Int, x = 2 * k6 := ⟨_, rfl⟩
      have iZ1 : IntKind.i64.wrap (2 * k6) = Z1 := by rw [hZ1]; exact IntWalk.i64_in _ (by omega)
      obtain ⟨Z2, hZ2⟩ : ∃ x : Int, x = Z1 + k3 := ⟨_, rfl⟩
      have iZ2 : IntKind.i64.wrap (Z1 + k3) = Z2 := by rw [hZ2]; exact IntWalk.i64_in _ (by omega)
      obtain ⟨Z3, hZ3⟩ : ∃ x : Int, x = Z2 - E := ⟨_, rfl⟩
      have iZ3 : IntKind.i64.wrap (Z2 - E) = Z3 := by rw [hZ3]; exact IntWalk.i64_in _ (by omega)
      have d1 : decide (Z3 < -1) = false := decide_eq_false (by omega)
      have d2 : decide (1 < Z3) = false := decide_eq_false (by omega)
      clear hin hE hZ1 hZ2 hZ3 hp3 hkid
      go_wp2_with (first | (refine own_unguard (by rfl) ?_) | (refine w_ld rfl _ rfl (by rfl) (by first | exact rd_1 (by repeat constructor) (by first | rfl | assumption) | exact rd_w (by repeat constructor) (by rfl) | exact rd_o (by assumption) (by rfl) (by first | exact nmn | assumption | simp) | exact rd_h (by assumption) (by rfl) (by first | exact nmn | assumption | simp) | exact rd_1o (by assumption) (by first | exact nmn | assumption | simp) | exact rd_1h (by assumption) (by first | rfl | assumption) (by first | exact nmn | assumption | simp)) hS ?_) | (refine own_box rfl _ _ rfl (by rfl) hS ?_; clear hS; (try clear ww); intro bb ww hS) | (refine w_al rfl rfl hS ?_; clear hS; (try clear ww); intro bb ww hS) | (refine w_st rfl _ _ rfl (by rfl) (by rfl) (by repeat constructor) (by rfl) (by rfl) (by first | rfl | assumption) hS ?_; clear hS; (try clear ww); intro ww hS) | (refine w_s1 rfl _ _ rfl (by rfl) (by repeat constructor) (by first | exact .c | exact .t rfl) (by rfl) (by repeat constructor) hS ?_; clear hS; (try clear ww); intro ww hS))
      go_roundw
      case rel => exact ⟨j + 1, hlt, by go_num, hS.forget (by simp)⟩
      case measure => exact loop_meas hlt
    · obtain rfl : j = K.length := by omega
      go_wp2_with (first | (refine own_unguard (by rfl) ?_) | (refine w_ld rfl _ rfl (by rfl) (by first | exact rd_1 (by repeat constructor) (by first | rfl | assumption) | exact rd_w (by repeat constructor) (by rfl) | exact rd_o (by assumption) (by rfl) (by first | exact nmn | assumption | simp) | exact rd_h (by assumption) (by rfl) (by first | exact nmn | assumption | simp) | exact rd_1o (by assumption) (by first | exact nmn | assumption | simp) | exact rd_1h (by assumption) (by first | rfl | assumption) (by first | exact nmn | assumption | simp)) hS ?_) | (refine own_box rfl _ _ rfl (by rfl) hS ?_; clear hS; (try clear ww); intro bb ww hS) | (refine w_al rfl rfl hS ?_; clear hS; (try clear ww); intro bb ww hS) | (refine w_st rfl _ _ rfl (by rfl) (by rfl) (by repeat constructor) (by rfl) (by rfl) (by first | rfl | assumption) hS ?_; clear hS; (try clear ww); intro ww hS) | (refine w_s1 rfl _ _ rfl (by rfl) (by repeat constructor) (by first | exact .c | exact .t rfl) (by rfl) (by repeat constructor) hS ?_; clear hS; (try clear ww); intro ww hS))
      go_ret
      exact ⟨rfl, bthen HB1.out hS.below⟩

theorem limitsCentred_calls (F : Fnt) (l : Int) (c : Bool) (n : Nat) (base : Bx (n + 1)) (subs sups : List (Bx (n + 1))) (cs : List Value) (sx ux : Option Addr) (sc uc : Nat) (w : World) (hF : FntOk w F) (hr : Rep w (n + 1) base cs) (hs : RepL w (n + 1) sx subs) (hu : RepL w (n + 1) ux sups) (b1 : subs.length ≤ 1048576) (b2 : sups.length ≤ 1048576) : Calls Try.prog 6 #[.agg (caseS F l c cs (.slice sx subs.length sc) (.slice ux sups.length uc)).toArray] w (Gives (.bool true) w) := by
  by_cases h : MadeOk5 F l n base subs sups
  · by_cases hz : italB F (n + 1) base = 0
    · exact limitsCentred_good F l c n base subs sups cs sx ux sc uc w hF hr hs hu b1 b2 h hz
    · exact limitsCentred_out F l c n base subs sups cs sx ux sc uc w hF hr hs hu b1 b2 h hz
  · exact limitsCentred_bad F l c n base subs sups cs sx ux sc uc w hF hr hs hu b1 b2 h

end Go.Proofs.Ytdbcdjiclkmknaa
