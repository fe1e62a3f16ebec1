/- Chapter 36, AccentAttach: the law returns true. -/
import Derived.Test.YtceigjonhabmmaaJ23
import Derived.Test.YtceigjonhabmmaaJ24
import Derived.Test.YtceigjonhabmmaaJ10
namespace Go.Proofs.Ytceigjonhabmmaa
open Go.RowKit

attribute [local irreducible] wpQuiet wpG wpP wpK wpList Code.wp Calls

set_option maxHeartbeats 8000000 in
set_option maxRecDepth 100000 in
theorem attLaw_0 (F : Fnt) (n : Nat) (b : Bx (n + 1)) (cs : List Value) (w : World) (hF : FntOk w F) (hr : Rep w (n + 1) b cs) (h1 : fewB F = false) : Calls Try.prog 4 #[F.val, .agg cs.toArray] w (Gives (.bool true) w) := by
  have HF := Lib.hid (fun w' (h : Below w.heap.size w w') => few_v36 (hF.below h) (Lib.hid h1))
  obtain ⟨c0, c1, c2, c3, c4, c5, c6, c7, c8, c9, c10, rfl⟩ := eleven hr.len
  clear hF hr h1
  go_enter Try.func4, Try.ntmps4
  have hS := own_start w
  go_wp2_with (first | (refine own_unguard (by rfl) ?_) | (go_at_call 8; refine own_calls hS (by first | exact awake36_calls _) ?_; clear hS; (try clear ww); intro ww hS) | (go_at_call 13; refine own_calls hS (by first | exact HF.out _ hS.below) ?_; clear hS; (try clear ww); intro ww hS) | (refine w_ld rfl _ rfl (by rfl) (by first | exact rd_1 (by repeat constructor) (by first | rfl | assumption) | exact rd_w (by repeat constructor) (by rfl) | exact rd_o (by assumption) (by rfl) (by first | exact nmn | assumption | simp) | exact rd_h (by assumption) (by rfl) (by first | exact nmn | assumption | simp) | exact rd_1o (by assumption) (by first | exact nmn | assumption | simp) | exact rd_1h (by assumption) (by first | rfl | assumption) (by first | exact nmn | assumption | simp)) hS ?_) | (refine own_box rfl _ _ rfl (by rfl) hS ?_; clear hS; (try clear ww); intro bb ww hS) | (refine w_al rfl rfl hS ?_; clear hS; (try clear ww); intro bb ww hS) | (refine w_st rfl _ _ rfl (by rfl) (by rfl) (by repeat constructor) (by rfl) (by rfl) (by first | rfl | assumption) hS ?_; clear hS; (try clear ww); intro ww hS) | (refine w_s1 rfl _ _ rfl (by rfl) (by repeat constructor) (by first | exact .c | exact .t rfl) (by rfl) (by repeat constructor) hS ?_; clear hS; (try clear ww); intro ww hS))
  go_ret
  exact own_gives hS

set_option maxHeartbeats 8000000 in
set_option maxRecDepth 100000 in
theorem attLaw_1 (F : Fnt) (n : Nat) (b : Bx (n + 1)) (cs : List Value) (w : World) (hF : FntOk w F) (hr : Rep w (n + 1) b cs) (h1 : fewB F = true) (h2 : decide (bCount (n + 1) b ≤ 200) = false) : Calls Try.prog 4 #[F.val, .agg cs.toArray] w (Gives (.bool true) w) := by
  have HF := Lib.hid (fun w' (h : Below w.heap.size w w') => few_v36 (hF.below h) (Lib.hid h1))
  have HN := Lib.hid (fun w' (h : Below w.heap.size w w') => ref28_Few_calls (n + 1) b cs 200 w' (hr.step h) (by omega) _ h2.symm)
  obtain ⟨c0, c1, c2, c3, c4, c5, c6, c7, c8, c9, c10, rfl⟩ := eleven hr.len
  clear hF hr h1 h2
  go_enter Try.func4, Try.ntmps4
  have hS := own_start w
  go_wp2_with (first | (refine own_unguard (by rfl) ?_) | (go_at_call 8; refine own_calls hS (by first | exact awake36_calls _) ?_; clear hS; (try clear ww); intro ww hS) | (go_at_call 13; refine own_calls hS (by first | exact HF.out _ hS.below) ?_; clear hS; (try clear ww); intro ww hS) | (go_at_call 14; refine own_calls hS (by first | exact HN.out _ hS.below) ?_; clear hS; (try clear ww); intro ww hS) | (refine w_ld rfl _ rfl (by rfl) (by first | exact rd_1 (by repeat constructor) (by first | rfl | assumption) | exact rd_w (by repeat constructor) (by rfl) | exact rd_o (by assumption) (by rfl) (by first | exact nmn | assumption | simp) | exact rd_h (by assumption) (by rfl) (by first | exact nmn | assumption | simp) | exact rd_1o (by assumption) (by first | exact nmn | assumption | simp) | exact rd_1h (by assumption) (by first | rfl | assumption) (by first | exact nmn | assumption | simp)) hS ?_) | (refine own_box rfl _ _ rfl (by rfl) hS ?_; clear hS; (try clear ww); intro bb ww hS) | (refine w_al rfl rfl hS ?_; clear hS; (try clear ww); intro bb ww hS) | (refine w_st rfl _ _ rfl (by rfl) (by rfl) (by repeat constructor) (by rfl) (by rfl) (by first | rfl | assumption) hS ?_; clear hS; (try clear ww); intro ww hS) | (refine w_s1 rfl _ _ rfl (by rfl) (by repeat constructor) (by first | exact .c | exact .t rfl) (by rfl) (by repeat constructor) hS ?_; clear hS; (try clear ww); intro ww hS))
  go_ret
  exact own_gives hS

set_option maxHeartbeats 8000000 in
set_option maxRecDepth 100000 in
theorem attLaw_2 (F : Fnt) (n : Nat) (b : Bx (n + 1)) (cs : List Value) (w : World) (hF : FntOk w F) (hr : Rep w (n + 1) b cs) (h1 : fewB F = true) (h2 : decide (bCount (n + 1) b ≤ 200) = true) (hv : ¬ ValidF F) : Calls Try.prog 4 #[F.val, .agg cs.toArray] w (Gives (.bool true) w) := by
  have HF := Lib.hid (fun w' (h : Below w.heap.size w w') => few_v36 (hF.below h) (Lib.hid h1))
  have HN := Lib.hid (fun w' (h : Below w.heap.size w w') => ref28_Few_calls (n + 1) b cs 200 w' (hr.step h) (by omega) _ h2.symm)
  have hq := fewB_iff.1 h1
  have hcb : bCount (n + 1) b ≤ 1000000 := by have := of_decide_eq_true h2; omega
  have HV := Lib.hid (fun w' (h : Below w.heap.size w w') => ref05_Valid_calls F w' (hF.below h) ⟨hq.1, hq.2.1⟩ _ (iff_f hv))
  have HA := Lib.hid (fun w' (h : Below w.heap.size w w') => accent_Attach_calls F n b cs w' (hF.below h) (hr.step h) (0) (fun h => absurd h.1 hv) (fun _ => rfl))
  obtain ⟨c0, c1, c2, c3, c4, c5, c6, c7, c8, c9, c10, rfl⟩ := eleven hr.len
  clear hF hr h1 h2 hq hcb hv
  go_enter Try.func4, Try.ntmps4
  have hS := own_start w
  go_wp2_with (first | (refine own_unguard (by rfl) ?_) | (go_at_call 8; refine own_calls hS (by first | exact awake36_calls _) ?_; clear hS; (try clear ww); intro ww hS) | (go_at_call 13; refine own_calls hS (by first | exact HF.out _ hS.below) ?_; clear hS; (try clear ww); intro ww hS) | (go_at_call 14; refine own_calls hS (by first | exact HN.out _ hS.below) ?_; clear hS; (try clear ww); intro ww hS) | (go_at_call 15; refine own_calls hS (by first | exact HV.out _ hS.below) ?_; clear hS; (try clear ww); intro ww hS) | (go_at_call 18; refine own_calls hS (by first | exact HA.out _ hS.below) ?_; clear hS; (try clear ww); intro ww hS) | (refine w_ld rfl _ rfl (by rfl) (by first | exact rd_1 (by repeat constructor) (by first | rfl | assumption) | exact rd_w (by repeat constructor) (by rfl) | exact rd_o (by assumption) (by rfl) (by first | exact nmn | assumption | simp) | exact rd_h (by assumption) (by rfl) (by first | exact nmn | assumption | simp) | exact rd_1o (by assumption) (by first | exact nmn | assumption | simp) | exact rd_1h (by assumption) (by first | rfl | assumption) (by first | exact nmn | assumption | simp)) hS ?_) | (refine own_box rfl _ _ rfl (by rfl) hS ?_; clear hS; (try clear ww); intro bb ww hS) | (refine w_al rfl rfl hS ?_; clear hS; (try clear ww); intro bb ww hS) | (refine w_st rfl _ _ rfl (by rfl) (by rfl) (by repeat constructor) (by rfl) (by rfl) (by first | rfl | assumption) hS ?_; clear hS; (try clear ww); intro ww hS) | (refine w_s1 rfl _ _ rfl (by rfl) (by repeat constructor) (by first | exact .c | exact .t rfl) (by rfl) (by repeat constructor) hS ?_; clear hS; (try clear ww); intro ww hS))
  go_ret
  exact own_gives hS

set_option maxHeartbeats 8000000 in
set_option maxRecDepth 100000 in
theorem attLaw_3 (F : Fnt) (n : Nat) (b : Bx (n + 1)) (cs : List Value) (w : World) (hF : FntOk w F) (hr : Rep w (n + 1) b cs) (h1 : fewB F = true) (h2 : decide (bCount (n + 1) b ≤ 200) = true) (hv : ValidF F) (hb : ¬ validB (n + 1) b) : Calls Try.prog 4 #[F.val, .agg cs.toArray] w (Gives (.bool true) w) := by
  have HF := Lib.hid (fun w' (h : Below w.heap.size w w') => few_v36 (hF.below h) (Lib.hid h1))
  have HN := Lib.hid (fun w' (h : Below w.heap.size w w') => ref28_Few_calls (n + 1) b cs 200 w' (hr.step h) (by omega) _ h2.symm)
  have hq := fewB_iff.1 h1
  have hcb : bCount (n + 1) b ≤ 1000000 := by have := of_decide_eq_true h2; omega
  have HV := Lib.hid (fun w' (h : Below w.heap.size w w') => ref05_Valid_calls F w' (hF.below h) ⟨hq.1, hq.2.1⟩ _ (iff_t hv))
  have HA := Lib.hid (fun w' (h : Below w.heap.size w w') => accent_Attach_calls F n b cs w' (hF.below h) (hr.step h) (0) (fun h => absurd h.2 hb) (fun _ => rfl))
  have HB := Lib.hid (fun w' (h : Below w.heap.size w w') => ref28_Valid_calls (n + 1) b cs w' (hr.step h) hr.wide hcb _ (iff_f hb))
  obtain ⟨c0, c1, c2, c3, c4, c5, c6, c7, c8, c9, c10, rfl⟩ := eleven hr.len
  clear hF hr h1 h2 hq hcb hv hb
  go_enter Try.func4, Try.ntmps4
  have hS := own_start w
  go_wp2_with (first | (refine own_unguard (by rfl) ?_) | (go_at_call 8; refine own_calls hS (by first | exact awake36_calls _) ?_; clear hS; (try clear ww); intro ww hS) | (go_at_call 13; refine own_calls hS (by first | exact HF.out _ hS.below) ?_; clear hS; (try clear ww); intro ww hS) | (go_at_call 14; refine own_calls hS (by first | exact HN.out _ hS.below) ?_; clear hS; (try clear ww); intro ww hS) | (go_at_call 15; refine own_calls hS (by first | exact HV.out _ hS.below) ?_; clear hS; (try clear ww); intro ww hS) | (go_at_call 18; refine own_calls hS (by first | exact HA.out _ hS.below) ?_; clear hS; (try clear ww); intro ww hS) | (go_at_call 16; refine own_calls hS (by first | exact HB.out _ hS.below) ?_; clear hS; (try clear ww); intro ww hS) | (refine w_ld rfl _ rfl (by rfl) (by first | exact rd_1 (by repeat constructor) (by first | rfl | assumption) | exact rd_w (by repeat constructor) (by rfl) | exact rd_o (by assumption) (by rfl) (by first | exact nmn | assumption | simp) | exact rd_h (by assumption) (by rfl) (by first | exact nmn | assumption | simp) | exact rd_1o (by assumption) (by first | exact nmn | assumption | simp) | exact rd_1h (by assumption) (by first | rfl | assumption) (by first | exact nmn | assumption | simp)) hS ?_) | (refine own_box rfl _ _ rfl (by rfl) hS ?_; clear hS; (try clear ww); intro bb ww hS) | (refine w_al rfl rfl hS ?_; clear hS; (try clear ww); intro bb ww hS) | (refine w_st rfl _ _ rfl (by rfl) (by rfl) (by repeat constructor) (by rfl) (by rfl) (by first | rfl | assumption) hS ?_; clear hS; (try clear ww); intro ww hS) | (refine w_s1 rfl _ _ rfl (by rfl) (by repeat constructor) (by first | exact .c | exact .t rfl) (by rfl) (by repeat constructor) hS ?_; clear hS; (try clear ww); intro ww hS))
  go_ret
  exact own_gives hS

set_option maxHeartbeats 8000000 in
set_option maxRecDepth 100000 in
theorem attLaw_4 (F : Fnt) (n : Nat) (b : Bx (n + 1)) (cs : List Value) (w : World) (hF : FntOk w F) (hr : Rep w (n + 1) b cs) (h1 : fewB F = true) (h2 : decide (bCount (n + 1) b ≤ 200) = true) (hv : ValidF F) (hb : validB (n + 1) b) : Calls Try.prog 4 #[F.val, .agg cs.toArray] w (Gives (.bool true) w) := by
  have HF := Lib.hid (fun w' (h : Below w.heap.size w w') => few_v36 (hF.below h) (Lib.hid h1))
  have HN := Lib.hid (fun w' (h : Below w.heap.size w w') => ref28_Few_calls (n + 1) b cs 200 w' (hr.step h) (by omega) _ h2.symm)
  have hq := fewB_iff.1 h1
  have hcb : bCount (n + 1) b ≤ 1000000 := by have := of_decide_eq_true h2; omega
  have HV := Lib.hid (fun w' (h : Below w.heap.size w w') => ref05_Valid_calls F w' (hF.below h) ⟨hq.1, hq.2.1⟩ _ (iff_t hv))
  have HA := Lib.hid (fun w' (h : Below w.heap.size w w') => accent_Attach_calls F n b cs w' (hF.below h) (hr.step h) (attB F n b) (fun _ => rfl) (fun h => absurd ⟨hv, hb⟩ h))
  have HB := Lib.hid (fun w' (h : Below w.heap.size w w') => ref28_Valid_calls (n + 1) b cs w' (hr.step h) hr.wide hcb _ (iff_t hb))
  have HR := Lib.hid (fun w' (h : Below w.heap.size w w') => ref36_Attach_calls F n b cs w' (hF.below h) (hr.step h) hv hb)
  generalize attB F n b = z at *
  obtain ⟨c0, c1, c2, c3, c4, c5, c6, c7, c8, c9, c10, rfl⟩ := eleven hr.len
  clear hF hr h1 h2 hq hcb hv hb
  go_enter Try.func4, Try.ntmps4
  have hS := own_start w
  go_wp2_with (first | (refine own_unguard (by rfl) ?_) | (go_at_call 8; refine own_calls hS (by first | exact awake36_calls _) ?_; clear hS; (try clear ww); intro ww hS) | (go_at_call 13; refine own_calls hS (by first | exact HF.out _ hS.below) ?_; clear hS; (try clear ww); intro ww hS) | (go_at_call 14; refine own_calls hS (by first | exact HN.out _ hS.below) ?_; clear hS; (try clear ww); intro ww hS) | (go_at_call 15; refine own_calls hS (by first | exact HV.out _ hS.below) ?_; clear hS; (try clear ww); intro ww hS) | (go_at_call 18; refine own_calls hS (by first | exact HA.out _ hS.below) ?_; clear hS; (try clear ww); intro ww hS) | (go_at_call 16; refine own_calls hS (by first | exact HB.out _ hS.below) ?_; clear hS; (try clear ww); intro ww hS) | (go_at_call 17; refine own_calls hS (by first | exact HR.out _ hS.below) ?_; clear hS; (try clear ww); intro ww hS) | (refine w_ld rfl _ rfl (by rfl) (by first | exact rd_1 (by repeat constructor) (by first | rfl | assumption) | exact rd_w (by repeat constructor) (by rfl) | exact rd_o (by assumption) (by rfl) (by first | exact nmn | assumption | simp) | exact rd_h (by assumption) (by rfl) (by first | exact nmn | assumption | simp) | exact rd_1o (by assumption) (by first | exact nmn | assumption | simp) | exact rd_1h (by assumption) (by first | rfl | assumption) (by first | exact nmn | assumption | simp)) hS ?_) | (refine own_box rfl _ _ rfl (by rfl) hS ?_; clear hS; (try clear ww); intro bb ww hS) | (refine w_al rfl rfl hS ?_; clear hS; (try clear ww); intro bb ww hS) | (refine w_st rfl _ _ rfl (by rfl) (by rfl) (by repeat constructor) (by rfl) (by rfl) (by first | rfl | assumption) hS ?_; clear hS; (try clear ww); intro ww hS) | (refine w_s1 rfl _ _ rfl (by rfl) (by repeat constructor) (by first | exact .c | exact .t rfl) (by rfl) (by repeat constructor) hS ?_; clear hS; (try clear ww); intro ww hS))
  go_ret
  exact ⟨ret_bool (by simp), hS.below⟩

theorem accentAttach_calls (F : Fnt) (n : Nat) (b : Bx (n + 1)) (cs : List Value) (w : World) (hF : FntOk w F) (hr : Rep w (n + 1) b cs) : Calls Try.prog 4 #[F.val, .agg cs.toArray] w (Gives (.bool true) w) := by
  cases h1 : fewB F
  · exact attLaw_0 F n b cs w hF hr h1
  · cases h2 : decide (bCount (n + 1) b ≤ 200)
    · exact attLaw_1 F n b cs w hF hr h1 h2
    · by_cases hv : ValidF F
      · by_cases hb : validB (n + 1) b
        · exact attLaw_4 F n b cs w hF hr h1 h2 hv hb
        · exact attLaw_3 F n b cs w hF hr h1 h2 hv hb
      · exact attLaw_2 F n b cs w hF hr h1 h2 hv

end Go.Proofs.Ytceigjonhabmmaa
