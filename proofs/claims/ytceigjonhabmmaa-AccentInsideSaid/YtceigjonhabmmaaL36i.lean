/- Chapter 36, AccentInside: the law returns true. -/
import Derived.Test.YtceigjonhabmmaaLw6
namespace Go.Proofs.Ytceigjonhabmmaa
open Go.RowKit

attribute [local irreducible] wpQuiet wpG wpP wpK wpList Code.wp Calls

set_option maxHeartbeats 8000000 in
set_option maxRecDepth 100000 in
theorem accentInside_bad (F : Fnt) (l : Int) (c : Bool) (s : ByteArray) (n : Nat) (body : Bx (n + 1)) (cs : List Value) (w : World) (hF : FntOk w F) (hr : Rep w (n + 1) body cs) (hb : ¬ MadeA F l n s body) : Calls Try.prog 6 #[.agg (caseA F l c s cs).toArray] w (Gives (.bool true) w) := by
  have HM := Lib.hid (fun w' (h : Below w.heap.size w w') => made36_bad F l c s n body cs w' (hF.below h) (hr.step h) 0 hb)
  obtain ⟨c0, c1, c2, c3, c4, c5, c6, c7, c8, c9, c10, rfl⟩ := eleven hr.len
  clear hF hr hb
  go_enter Try.func6, Try.ntmps6
  have hS := own_start w
  go_wp2_with (first | (refine own_unguard (by rfl) ?_) | (refine own_box rfl _ _ rfl rfl hS ?_; clear hS; intro kb w0 hS0; have hrC := (hS0.get at0).range; have HB0 := Lib.hid hS0.below; obtain ⟨hrF, hrS, cN, hrB⟩ := caseA_out hrC; have hS := own_start w0; clear hS0) | (refine own_load_old rfl _ _ rfl rfl hS hrC List.not_mem_nil rt_case36 ?_) | (refine own_load_old rfl _ _ rfl rfl hS hrF List.not_mem_nil rt_font ?_) | (refine own_load_old rfl _ _ rfl rfl hS hrS List.not_mem_nil rt_style ?_) | (refine own_load_old rfl _ _ rfl rfl hS hrB List.not_mem_nil rt_box ?_) | (go_at_call 8; refine own_calls hS (by first | exact awake36_calls _) ?_; clear hS; (try clear ww); intro ww hS) | (go_at_call 19; refine Calls.mono (HM.out _ (bthen HB0.out hS.below)) ?_; rintro e w1 ⟨cs1, rfl, hR1, hb1⟩; have HB1 := Lib.hid (bthen HB0.out (bthen hS.below hb1)); obtain ⟨kx, kc, sx, sc, rfl⟩ := zero_out hR1; clear hR1 hS hb1; have hS := own_start w1) | (refine w_ld rfl _ rfl (by rfl) (by first | exact rd_1 (by repeat constructor) (by first | rfl | assumption) | exact rd_w (by repeat constructor) (by rfl) | exact rd_o (by assumption) (by rfl) (by first | exact nmn | assumption | simp) | exact rd_h (by assumption) (by rfl) (by first | exact nmn | assumption | simp) | exact rd_1o (by assumption) (by first | exact nmn | assumption | simp) | exact rd_1h (by assumption) (by first | rfl | assumption) (by first | exact nmn | assumption | simp)) hS ?_) | (refine own_box rfl _ _ rfl (by rfl) hS ?_; clear hS; (try clear ww); intro bb ww hS) | (refine w_al rfl rfl hS ?_; clear hS; (try clear ww); intro bb ww hS) | (refine w_st rfl _ _ rfl (by rfl) (by rfl) (by repeat constructor) (by rfl) (by rfl) (by first | rfl | assumption) hS ?_; clear hS; (try clear ww); intro ww hS) | (refine w_s1 rfl _ _ rfl (by rfl) (by repeat constructor) (by first | exact .c | exact .t rfl) (by rfl) (by repeat constructor) hS ?_; clear hS; (try clear ww); intro ww hS))
  go_ret
  exact ⟨rfl, bthen HB1.out hS.below⟩

set_option maxHeartbeats 8000000 in
set_option maxRecDepth 100000 in
theorem accentInside_good (F : Fnt) (l : Int) (c : Bool) (s : ByteArray) (n : Nat) (body : Bx (n + 1)) (cs : List Value) (w : World) (hF : FntOk w F) (hr : Rep w (n + 1) body cs) (h : MadeA F l n s body) : Calls Try.prog 6 #[.agg (caseA F l c s cs).toArray] w (Gives (.bool true) w) := by
  have HM := Lib.hid (fun w' (hb : Below w.heap.size w w') => made36_ok F l c s n body cs w' (hF.below hb) (hr.step hb) h)
  have HIn := Lib.hid (fun k (hk : k ∈ accK F l n s body) => accK_in hk)
  have HMi := Lib.hid (accK_mild h.2.2.1)
  unfold accB at HM
  have HlK := Lib.hid (show (accK F l n s body).length = 2 from rfl)
  generalize max 0 (extL ((accK F l n s body).map (·.1))).r = E at *
  generalize (extL ((accK F l n s body).map (·.1))).h = H at *
  generalize (extL ((accK F l n s body).map (·.1))).d = D at *
  generalize accK F l n s body = K at *
  obtain ⟨c0, c1, c2, c3, c4, c5, c6, c7, c8, c9, c10, rfl⟩ := eleven hr.len
  clear hF hr h
  go_enter Try.func6, Try.ntmps6
  have hS := own_start w
  go_wp2_with (first | (refine own_unguard (by rfl) ?_) | (refine own_box rfl _ _ rfl rfl hS ?_; clear hS; intro kb w0 hS0; have hrC := (hS0.get at0).range; have HB0 := Lib.hid hS0.below; obtain ⟨hrF, hrS, cN, hrB⟩ := caseA_out hrC; have hS := own_start w0; clear hS0) | (refine own_load_old rfl _ _ rfl rfl hS hrC List.not_mem_nil rt_case36 ?_) | (refine own_load_old rfl _ _ rfl rfl hS hrF List.not_mem_nil rt_font ?_) | (refine own_load_old rfl _ _ rfl rfl hS hrS List.not_mem_nil rt_style ?_) | (refine own_load_old rfl _ _ rfl rfl hS hrB List.not_mem_nil rt_box ?_) | (go_at_call 8; refine own_calls hS (by first | exact awake36_calls _) ?_; clear hS; (try clear ww); intro ww hS) | (go_at_call 19; refine Calls.mono (HM.out _ (bthen HB0.out hS.below)) ?_; rintro e w1 ⟨cs1, rfl, hR1, hb1⟩; have HB1 := Lib.hid (bthen HB0.out (bthen hS.below hb1)); obtain ⟨kx, kc, tx, tc, rfl, _, _, _, hks⟩ := rep_out hR1; rw [HlK.out]; have HKs := Lib.hid hks; clear hks hR1 hS hb1 hrC hrF hrS cN hrB; have hS := own_start w1) | (refine w_ld rfl _ rfl (by rfl) (by first | exact rd_1 (by repeat constructor) (by first | rfl | assumption) | exact rd_w (by repeat constructor) (by rfl) | exact rd_o (by assumption) (by rfl) (by first | exact nmn | assumption | simp) | exact rd_h (by assumption) (by rfl) (by first | exact nmn | assumption | simp) | exact rd_1o (by assumption) (by first | exact nmn | assumption | simp) | exact rd_1h (by assumption) (by first | rfl | assumption) (by first | exact nmn | assumption | simp)) hS ?_) | (refine own_box rfl _ _ rfl (by rfl) hS ?_; clear hS; (try clear ww); intro bb ww hS) | (refine w_al rfl rfl hS ?_; clear hS; (try clear ww); intro bb ww hS) | (refine w_st rfl _ _ rfl (by rfl) (by rfl) (by repeat constructor) (by rfl) (by rfl) (by first | rfl | assumption) hS ?_; clear hS; (try clear ww); intro ww hS) | (refine w_s1 rfl _ _ rfl (by rfl) (by repeat constructor) (by first | exact .c | exact .t rfl) (by rfl) (by repeat constructor) hS ?_; clear hS; (try clear ww); intro ww hS))
  obtain ⟨L0, HL, hS0⟩ := hS.named
  go_loopw [5] (fun i wr => ∃ j : Nat, j ≤ 2 ∧ i = .int .i64 j ∧ Own [] w1 L0 wr) (fun i _ => 2 - (intOf i).toNat)
  case atStart => exact ⟨0, Nat.zero_le _, rfl, hS0⟩
  case round =>
    clear hS hS0
    obtain ⟨j, hj, rfl, hS⟩ := hrel
    obtain rfl := HL.out
    clear HL
    by_cases hlt : j < 2
    · obtain ⟨kid, hkid⟩ : ∃ q, K[j]? = some q := ⟨K[j]'(by rw [HlK.out]; exact hlt), by rw [List.getElem?_eq_getElem]⟩
      obtain ⟨kb3, ko3, css, rfl, hrg, hp3⟩ := HKs.out j kid hkid
      have hmk := List.mem_of_getElem? hkid
      have hmi := HMi.out kid hmk
      have hin := HIn.out kid hmk
      obtain ⟨⟨k0, k1, k2, k3, k4, k5, k6, k7, k9, k10⟩, kks⟩ := kid
      obtain ⟨_, _, _, _, rfl, _⟩ := rep_out hp3
      unfold Mild at hmi
      simp only at hmi hin
      obtain ⟨X1, hX1⟩ : ∃ x : Int, x = k6 + k3 := ⟨_, rfl⟩
      have iX1 : IntKind.i64.wrap (k6 + k3) = X1 := by rw [hX1]; exact IntWalk.i64_in _ (by omega)
      obtain ⟨X2, hX2⟩ : ∃ x : Int, x = k7 + k4 := ⟨_, rfl⟩
      have iX2 : IntKind.i64.wrap (k7 + k4) = X2 := by rw [hX2]; exact IntWalk.i64_in _ (by omega)
      obtain ⟨X3, hX3⟩ : ∃ x : Int, x = k5 - k7 := ⟨_, rfl⟩
      have iX3 : IntKind.i64.wrap (k5 - k7) = X3 := by rw [hX3]; exact IntWalk.i64_in _ (by omega)
      have d1 : decide (k6 < 0) = false := decide_eq_false (by omega)
      have d2 : decide (E < X1) = false := decide_eq_false (by omega)
      have d3 : decide (H < X2) = false := decide_eq_false (by omega)
      have d4 : decide (D < X3) = false := decide_eq_false (by omega)
      clear hmk hmi hin hX1 hX2 hX3 hp3 hkid
      by_cases h0 : 0 ≤ k3
      · have d0 : decide (0 ≤ k3) = true := decide_eq_true h0
        clear h0
        go_wp2_with (first | (refine own_unguard (by rfl) ?_) | (refine w_ld rfl _ rfl (by rfl) (by first | exact rd_1 (by repeat constructor) (by first | rfl | assumption) | exact rd_w (by repeat constructor) (by rfl) | exact rd_o (by assumption) (by rfl) (by first | exact nmn | assumption | simp) | exact rd_h (by assumption) (by rfl) (by first | exact nmn | assumption | simp) | exact rd_1o (by assumption) (by first | exact nmn | assumption | simp) | exact rd_1h (by assumption) (by first | rfl | assumption) (by first | exact nmn | assumption | simp)) hS ?_) | (refine own_box rfl _ _ rfl (by rfl) hS ?_; clear hS; (try clear ww); intro bb ww hS) | (refine w_al rfl rfl hS ?_; clear hS; (try clear ww); intro bb ww hS) | (refine w_st rfl _ _ rfl (by rfl) (by rfl) (by repeat constructor) (by rfl) (by rfl) (by first | rfl | assumption) hS ?_; clear hS; (try clear ww); intro ww hS) | (refine w_s1 rfl _ _ rfl (by rfl) (by repeat constructor) (by first | exact .c | exact .t rfl) (by rfl) (by repeat constructor) hS ?_; clear hS; (try clear ww); intro ww hS))
        go_roundw
        case rel => exact ⟨j + 1, hlt, by go_num, hS.forget (by simp)⟩
        case measure => exact loop_meas hlt
      · have d0 : decide (0 ≤ k3) = false := decide_eq_false h0
        clear h0
        go_wp2_with (first | (refine own_unguard (by rfl) ?_) | (refine w_ld rfl _ rfl (by rfl) (by first | exact rd_1 (by repeat constructor) (by first | rfl | assumption) | exact rd_w (by repeat constructor) (by rfl) | exact rd_o (by assumption) (by rfl) (by first | exact nmn | assumption | simp) | exact rd_h (by assumption) (by rfl) (by first | exact nmn | assumption | simp) | exact rd_1o (by assumption) (by first | exact nmn | assumption | simp) | exact rd_1h (by assumption) (by first | rfl | assumption) (by first | exact nmn | assumption | simp)) hS ?_) | (refine own_box rfl _ _ rfl (by rfl) hS ?_; clear hS; (try clear ww); intro bb ww hS) | (refine w_al rfl rfl hS ?_; clear hS; (try clear ww); intro bb ww hS) | (refine w_st rfl _ _ rfl (by rfl) (by rfl) (by repeat constructor) (by rfl) (by rfl) (by first | rfl | assumption) hS ?_; clear hS; (try clear ww); intro ww hS) | (refine w_s1 rfl _ _ rfl (by rfl) (by repeat constructor) (by first | exact .c | exact .t rfl) (by rfl) (by repeat constructor) hS ?_; clear hS; (try clear ww); intro ww hS))
        go_roundw
        case rel => exact ⟨j + 1, hlt, by go_num, hS.forget (by simp)⟩
        case measure => exact loop_meas hlt
    · skip
      go_wp2_with (first | (refine own_unguard (by rfl) ?_) | (refine w_ld rfl _ rfl (by rfl) (by first | exact rd_1 (by repeat constructor) (by first | rfl | assumption) | exact rd_w (by repeat constructor) (by rfl) | exact rd_o (by assumption) (by rfl) (by first | exact nmn | assumption | simp) | exact rd_h (by assumption) (by rfl) (by first | exact nmn | assumption | simp) | exact rd_1o (by assumption) (by first | exact nmn | assumption | simp) | exact rd_1h (by assumption) (by first | rfl | assumption) (by first | exact nmn | assumption | simp)) hS ?_) | (refine own_box rfl _ _ rfl (by rfl) hS ?_; clear hS; (try clear ww); intro bb ww hS) | (refine w_al rfl rfl hS ?_; clear hS; (try clear ww); intro bb ww hS) | (refine w_st rfl _ _ rfl (by rfl) (by rfl) (by repeat constructor) (by rfl) (by rfl) (by first | rfl | assumption) hS ?_; clear hS; (try clear ww); intro ww hS) | (refine w_s1 rfl _ _ rfl (by rfl) (by repeat constructor) (by first | exact .c | exact .t rfl) (by rfl) (by repeat constructor) hS ?_; clear hS; (try clear ww); intro ww hS))
      go_ret
      exact ⟨rfl, bthen HB1.out hS.below⟩

theorem accentInside_calls (F : Fnt) (l : Int) (c : Bool) (s : ByteArray) (n : Nat) (body : Bx (n + 1)) (cs : List Value) (w : World) (hF : FntOk w F) (hr : Rep w (n + 1) body cs) : Calls Try.prog 6 #[.agg (caseA F l c s cs).toArray] w (Gives (.bool true) w) := by
  by_cases h : MadeA F l n s body
  · exact accentInside_good F l c s n body cs w hF hr h
  · exact accentInside_bad F l c s n body cs w hF hr h

end Go.Proofs.Ytceigjonhabmmaa
