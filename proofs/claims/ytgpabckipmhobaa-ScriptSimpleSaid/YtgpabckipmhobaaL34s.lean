/- Chapter 34, ScriptSimple: the law returns true. -/
import Derived.Test.YtgpabckipmhobaaK22
import Derived.Test.YtgpabckipmhobaaOps
import Derived.Test.YtgpabckipmhobaaK14
import Derived.Test.YtgpabckipmhobaaK15
import Derived.Test.YtgpabckipmhobaaK12
import Derived.Test.YtgpabckipmhobaaK04
import Derived.Test.YtgpabckipmhobaaK09
import Derived.Test.YtgpabckipmhobaaK13
namespace Go.Proofs.Ytgpabckipmhobaa
open Go.RowKit

attribute [local irreducible] wpQuiet wpG wpP wpK wpList Code.wp Calls

theorem inner_srcs : ∀ (n : Nat) (b : Bx n) (m : Nat) (g : Bx (m + 1)), innerS n b = some ⟨m, g⟩ → SrcIn n b → SrcIn (m + 1) g ∧ bCount (m + 1) g ≤ bCount n b := by
  intro n
  induction n with
  | zero => intro b; exact b.elim
  | succ n ih =>
    rintro ⟨a, ks⟩ m g h ho
    by_cases h1 : a.kind = 1
    · rw [inner_glyph h1] at h
      cases h
      exact ⟨ho, Nat.le_refl _⟩
    · by_cases h3 : a.kind = 3
      · by_cases hl : ks.length = 1
        · obtain ⟨k, rfl⟩ := List.length_eq_one_iff.1 hl
          cases ha : atO n k
          · rw [inner_off h1 ha] at h; cases h
          · rw [inner_down h3 ha] at h
            have h2 := ih k m g h (ho.2 k (List.mem_singleton.2 rfl))
            refine ⟨h2.1, Nat.le_trans h2.2 ?_⟩
            show bCount n k ≤ 1 + ([k].map (bCount n)).sum
            simp
        · rw [inner_len h1 hl] at h; cases h
      · rw [inner_kind h1 h3] at h; cases h
theorem few_v34 {F : Fnt} {w : World} {v : Bool} (hF : FntOk w F) (hv : Hid (fewB F = v)) : Calls Try.prog 12 #[F.val] w (Gives (.bool v) w) := by
  have := ref05_Few_calls F w hF
  rwa [hv.out] at this
theorem small_zero34 : Small 1 (zeroB 0) := ⟨by simp [zeroB], by simp [zeroB], fun k hk => by simp [zeroB] at hk⟩

set_option maxHeartbeats 16000000 in
set_option maxRecDepth 100000 in
theorem simLaw_0 (F : Fnt) (n : Nat) (b : Bx (n + 1)) (cs : List Value) (w : World) (hF : FntOk w F) (hr : Rep w (n + 1) b cs) (h1 : fewB F = false) : Calls Try.prog 4 #[F.val, .agg cs.toArray] w (Gives (.bool true) w) := by
  have HF := Lib.hid (fun w' (h : Below w.heap.size w w') => few_v34 (hF.below h) (Lib.hid h1))
  obtain ⟨c0, c1, c2, c3, c4, c5, c6, c7, c8, c9, c10, rfl⟩ := eleven hr.len
  clear hF hr h1
  go_enter Try.func4, Try.ntmps4
  have HB0 := Lib.hid (bself w)
  have hS := own_start w
  go_wp2_with (first | (refine own_unguard (by rfl) ?_) | (go_at_call 9; refine own_calls hS (by first | exact awake34_calls _) ?_; clear hS; (try clear ww); intro ww hS) | (go_at_call 12; refine own_calls hS (by first | exact HF.out _ (bthen HB0.out hS.below)) ?_; clear hS; (try clear ww); intro ww hS) | (refine w_ld rfl _ rfl (by rfl) (by first | exact rd_1 (by repeat constructor) (by first | rfl | assumption) | exact rd_w (by repeat constructor) (by rfl) | exact rd_o (by assumption) (by rfl) (by first | exact nmn | assumption | simp) | exact rd_h (by assumption) (by rfl) (by first | exact nmn | assumption | simp) | exact rd_1o (by assumption) (by first | exact nmn | assumption | simp) | exact rd_1h (by assumption) (by first | rfl | assumption) (by first | exact nmn | assumption | simp)) hS ?_) | (refine own_box rfl _ _ rfl (by rfl) hS ?_; clear hS; (try clear ww); intro bb ww hS) | (refine w_al rfl rfl hS ?_; clear hS; (try clear ww); intro bb ww hS) | (refine w_st rfl _ _ rfl (by rfl) (by rfl) (by repeat constructor) (by rfl) (by rfl) (by first | rfl | assumption) hS ?_; clear hS; (try clear ww); intro ww hS) | (refine w_s1 rfl _ _ rfl (by rfl) (by repeat constructor) (by first | exact .c | exact .t rfl) (by rfl) (by repeat constructor) hS ?_; clear hS; (try clear ww); intro ww hS))
  go_ret
  exact ⟨ret_bool (by simp), bthen HB0.out hS.below⟩

set_option maxHeartbeats 16000000 in
set_option maxRecDepth 100000 in
theorem simLaw_1 (F : Fnt) (n : Nat) (b : Bx (n + 1)) (cs : List Value) (w : World) (hF : FntOk w F) (hr : Rep w (n + 1) b cs) (h1 : fewB F = true) (h2 : decide (bCount (n + 1) b ≤ 200) = false) : Calls Try.prog 4 #[F.val, .agg cs.toArray] w (Gives (.bool true) w) := by
  have HF := Lib.hid (fun w' (h : Below w.heap.size w w') => few_v34 (hF.below h) (Lib.hid h1))
  have HN := Lib.hid (fun w' (h : Below w.heap.size w w') => ref28_Few_calls (n + 1) b cs 200 w' (hr.step h) (by omega) _ h2.symm)
  obtain ⟨c0, c1, c2, c3, c4, c5, c6, c7, c8, c9, c10, rfl⟩ := eleven hr.len
  clear hF hr h1 h2
  go_enter Try.func4, Try.ntmps4
  have HB0 := Lib.hid (bself w)
  have hS := own_start w
  go_wp2_with (first | (refine own_unguard (by rfl) ?_) | (go_at_call 9; refine own_calls hS (by first | exact awake34_calls _) ?_; clear hS; (try clear ww); intro ww hS) | (go_at_call 12; refine own_calls hS (by first | exact HF.out _ (bthen HB0.out hS.below)) ?_; clear hS; (try clear ww); intro ww hS) | (go_at_call 13; refine own_calls hS (by first | exact HN.out _ (bthen HB0.out hS.below)) ?_; clear hS; (try clear ww); intro ww hS) | (refine w_ld rfl _ rfl (by rfl) (by first | exact rd_1 (by repeat constructor) (by first | rfl | assumption) | exact rd_w (by repeat constructor) (by rfl) | exact rd_o (by assumption) (by rfl) (by first | exact nmn | assumption | simp) | exact rd_h (by assumption) (by rfl) (by first | exact nmn | assumption | simp) | exact rd_1o (by assumption) (by first | exact nmn | assumption | simp) | exact rd_1h (by assumption) (by first | rfl | assumption) (by first | exact nmn | assumption | simp)) hS ?_) | (refine own_box rfl _ _ rfl (by rfl) hS ?_; clear hS; (try clear ww); intro bb ww hS) | (refine w_al rfl rfl hS ?_; clear hS; (try clear ww); intro bb ww hS) | (refine w_st rfl _ _ rfl (by rfl) (by rfl) (by repeat constructor) (by rfl) (by rfl) (by first | rfl | assumption) hS ?_; clear hS; (try clear ww); intro ww hS) | (refine w_s1 rfl _ _ rfl (by rfl) (by repeat constructor) (by first | exact .c | exact .t rfl) (by rfl) (by repeat constructor) hS ?_; clear hS; (try clear ww); intro ww hS))
  go_ret
  exact ⟨ret_bool (by simp), bthen HB0.out hS.below⟩

set_option maxHeartbeats 16000000 in
set_option maxRecDepth 100000 in
theorem simLaw_n2 (F : Fnt) (n : Nat) (b : Bx (n + 1)) (cs : List Value) (w : World) (hF : FntOk w F) (hr : Rep w (n + 1) b cs) (h1 : fewB F = true) (h2 : decide (bCount (n + 1) b ≤ 200) = true) (hv : ¬ ValidF F) (hi : innerS (n + 1) b = none) : Calls Try.prog 4 #[F.val, .agg cs.toArray] w (Gives (.bool true) w) := by
  have HF := Lib.hid (fun w' (h : Below w.heap.size w w') => few_v34 (hF.below h) (Lib.hid h1))
  have HN := Lib.hid (fun w' (h : Below w.heap.size w w') => ref28_Few_calls (n + 1) b cs 200 w' (hr.step h) (by omega) _ h2.symm)
  have hq := fewB_iff.1 h1
  have hcb : bCount (n + 1) b ≤ 1000000 := by have := of_decide_eq_true h2; omega
  have HV := Lib.hid (fun w' (h : Below w.heap.size w w') => ref05_Valid_calls F w' (hF.below h) ⟨hq.1, hq.2.1⟩ _ (iff_f hv))
  have hit := script_Italic_calls F (n + 1) b cs
  rw [if_neg (fun h => hv h.1)] at hit
  have HI := Lib.hid (fun w' (h : Below w.heap.size w w') => hit w' (hF.below h) (hr.step h))
  have HSm := Lib.hid (fun w' (h : Below w.heap.size w w') => script_Simple_none (n + 1) b cs w' (hr.step h) hi)
  obtain ⟨rv, hrv, hrc⟩ := ref34_Simple_calls (n + 1) b cs w hr
  rw [hi] at hrv
  obtain rfl : rv = _ := hrv
  have HRs := Lib.hid hrc
  obtain ⟨c0, c1, c2, c3, c4, c5, c6, c7, c8, c9, c10, rfl⟩ := eleven hr.len
  clear hF hr h1 h2 hq hcb hv hit hi hrc
  go_enter Try.func4, Try.ntmps4
  have HB0 := Lib.hid (bself w)
  have hS := own_start w
  go_wp2_with (first | (refine own_unguard (by rfl) ?_) | (go_at_call 9; refine own_calls hS (by first | exact awake34_calls _) ?_; clear hS; (try clear ww); intro ww hS) | (go_at_call 12; refine own_calls hS (by first | exact HF.out _ (bthen HB0.out hS.below)) ?_; clear hS; (try clear ww); intro ww hS) | (go_at_call 13; refine own_calls hS (by first | exact HN.out _ (bthen HB0.out hS.below)) ?_; clear hS; (try clear ww); intro ww hS) | (go_at_call 16; refine own_calls hS (by first | exact HV.out _ (bthen HB0.out hS.below)) ?_; clear hS; (try clear ww); intro ww hS) | (go_at_call 19; refine own_calls hS (by first | exact HI.out _ (bthen HB0.out hS.below)) ?_; clear hS; (try clear ww); intro ww hS) | (go_at_call 14; refine own_calls hS (by first | exact HSm.out _ (bthen HB0.out hS.below)) ?_; clear hS; (try clear ww); intro ww hS) | (go_at_call 15; refine own_calls hS (by first | exact HRs.out _ (bthen HB0.out hS.below)) ?_; clear hS; (try clear ww); intro ww hS) | (go_at_call 11; refine own_calls hS (by first | exact ref28_Equal_calls 1 (zeroB 0) _ _ _ (rep_zero 0 _) (rep_zero 0 _) small_zero34) ?_; clear hS; (try clear ww); intro ww hS) | (refine w_ld rfl _ rfl (by rfl) (by first | exact rd_1 (by repeat constructor) (by first | rfl | assumption) | exact rd_w (by repeat constructor) (by rfl) | exact rd_o (by assumption) (by rfl) (by first | exact nmn | assumption | simp) | exact rd_h (by assumption) (by rfl) (by first | exact nmn | assumption | simp) | exact rd_1o (by assumption) (by first | exact nmn | assumption | simp) | exact rd_1h (by assumption) (by first | rfl | assumption) (by first | exact nmn | assumption | simp)) hS ?_) | (refine own_box rfl _ _ rfl (by rfl) hS ?_; clear hS; (try clear ww); intro bb ww hS) | (refine w_al rfl rfl hS ?_; clear hS; (try clear ww); intro bb ww hS) | (refine w_st rfl _ _ rfl (by rfl) (by rfl) (by repeat constructor) (by rfl) (by rfl) (by first | rfl | assumption) hS ?_; clear hS; (try clear ww); intro ww hS) | (refine w_s1 rfl _ _ rfl (by rfl) (by repeat constructor) (by first | exact .c | exact .t rfl) (by rfl) (by repeat constructor) hS ?_; clear hS; (try clear ww); intro ww hS))
  go_ret
  exact ⟨ret_bool (by simp), bthen HB0.out hS.below⟩

set_option maxHeartbeats 16000000 in
set_option maxRecDepth 100000 in
theorem simLaw_n3 (F : Fnt) (n : Nat) (b : Bx (n + 1)) (cs : List Value) (w : World) (hF : FntOk w F) (hr : Rep w (n + 1) b cs) (h1 : fewB F = true) (h2 : decide (bCount (n + 1) b ≤ 200) = true) (hv : ValidF F) (hb : ¬ validB (n + 1) b) (hi : innerS (n + 1) b = none) : Calls Try.prog 4 #[F.val, .agg cs.toArray] w (Gives (.bool true) w) := by
  have HF := Lib.hid (fun w' (h : Below w.heap.size w w') => few_v34 (hF.below h) (Lib.hid h1))
  have HN := Lib.hid (fun w' (h : Below w.heap.size w w') => ref28_Few_calls (n + 1) b cs 200 w' (hr.step h) (by omega) _ h2.symm)
  have hq := fewB_iff.1 h1
  have hcb : bCount (n + 1) b ≤ 1000000 := by have := of_decide_eq_true h2; omega
  have HV := Lib.hid (fun w' (h : Below w.heap.size w w') => ref05_Valid_calls F w' (hF.below h) ⟨hq.1, hq.2.1⟩ _ (iff_t hv))
  have hit := script_Italic_calls F (n + 1) b cs
  rw [if_neg (fun h => hb h.2)] at hit
  have HI := Lib.hid (fun w' (h : Below w.heap.size w w') => hit w' (hF.below h) (hr.step h))
  have HSm := Lib.hid (fun w' (h : Below w.heap.size w w') => script_Simple_none (n + 1) b cs w' (hr.step h) hi)
  obtain ⟨rv, hrv, hrc⟩ := ref34_Simple_calls (n + 1) b cs w hr
  rw [hi] at hrv
  obtain rfl : rv = _ := hrv
  have HRs := Lib.hid hrc
  have HB := Lib.hid (fun w' (h : Below w.heap.size w w') => ref28_Valid_calls (n + 1) b cs w' (hr.step h) hr.wide hcb _ (iff_f hb))
  obtain ⟨c0, c1, c2, c3, c4, c5, c6, c7, c8, c9, c10, rfl⟩ := eleven hr.len
  clear hF hr h1 h2 hq hcb hv hit hi hrc hb
  go_enter Try.func4, Try.ntmps4
  have HB0 := Lib.hid (bself w)
  have hS := own_start w
  go_wp2_with (first | (refine own_unguard (by rfl) ?_) | (go_at_call 9; refine own_calls hS (by first | exact awake34_calls _) ?_; clear hS; (try clear ww); intro ww hS) | (go_at_call 12; refine own_calls hS (by first | exact HF.out _ (bthen HB0.out hS.below)) ?_; clear hS; (try clear ww); intro ww hS) | (go_at_call 13; refine own_calls hS (by first | exact HN.out _ (bthen HB0.out hS.below)) ?_; clear hS; (try clear ww); intro ww hS) | (go_at_call 16; refine own_calls hS (by first | exact HV.out _ (bthen HB0.out hS.below)) ?_; clear hS; (try clear ww); intro ww hS) | (go_at_call 19; refine own_calls hS (by first | exact HI.out _ (bthen HB0.out hS.below)) ?_; clear hS; (try clear ww); intro ww hS) | (go_at_call 14; refine own_calls hS (by first | exact HSm.out _ (bthen HB0.out hS.below)) ?_; clear hS; (try clear ww); intro ww hS) | (go_at_call 15; refine own_calls hS (by first | exact HRs.out _ (bthen HB0.out hS.below)) ?_; clear hS; (try clear ww); intro ww hS) | (go_at_call 11; refine own_calls hS (by first | exact ref28_Equal_calls 1 (zeroB 0) _ _ _ (rep_zero 0 _) (rep_zero 0 _) small_zero34) ?_; clear hS; (try clear ww); intro ww hS) | (go_at_call 17; refine own_calls hS (by first | exact HB.out _ (bthen HB0.out hS.below)) ?_; clear hS; (try clear ww); intro ww hS) | (refine w_ld rfl _ rfl (by rfl) (by first | exact rd_1 (by repeat constructor) (by first | rfl | assumption) | exact rd_w (by repeat constructor) (by rfl) | exact rd_o (by assumption) (by rfl) (by first | exact nmn | assumption | simp) | exact rd_h (by assumption) (by rfl) (by first | exact nmn | assumption | simp) | exact rd_1o (by assumption) (by first | exact nmn | assumption | simp) | exact rd_1h (by assumption) (by first | rfl | assumption) (by first | exact nmn | assumption | simp)) hS ?_) | (refine own_box rfl _ _ rfl (by rfl) hS ?_; clear hS; (try clear ww); intro bb ww hS) | (refine w_al rfl rfl hS ?_; clear hS; (try clear ww); intro bb ww hS) | (refine w_st rfl _ _ rfl (by rfl) (by rfl) (by repeat constructor) (by rfl) (by rfl) (by first | rfl | assumption) hS ?_; clear hS; (try clear ww); intro ww hS) | (refine w_s1 rfl _ _ rfl (by rfl) (by repeat constructor) (by first | exact .c | exact .t rfl) (by rfl) (by repeat constructor) hS ?_; clear hS; (try clear ww); intro ww hS))
  go_ret
  exact ⟨ret_bool (by simp), bthen HB0.out hS.below⟩

set_option maxHeartbeats 16000000 in
set_option maxRecDepth 100000 in
theorem simLaw_n4 (F : Fnt) (n : Nat) (b : Bx (n + 1)) (cs : List Value) (w : World) (hF : FntOk w F) (hr : Rep w (n + 1) b cs) (h1 : fewB F = true) (h2 : decide (bCount (n + 1) b ≤ 200) = true) (hv : ValidF F) (hb : validB (n + 1) b) (hi : innerS (n + 1) b = none) : Calls Try.prog 4 #[F.val, .agg cs.toArray] w (Gives (.bool true) w) := by
  have HF := Lib.hid (fun w' (h : Below w.heap.size w w') => few_v34 (hF.below h) (Lib.hid h1))
  have HN := Lib.hid (fun w' (h : Below w.heap.size w w') => ref28_Few_calls (n + 1) b cs 200 w' (hr.step h) (by omega) _ h2.symm)
  have hq := fewB_iff.1 h1
  have hcb : bCount (n + 1) b ≤ 1000000 := by have := of_decide_eq_true h2; omega
  have HV := Lib.hid (fun w' (h : Below w.heap.size w w') => ref05_Valid_calls F w' (hF.below h) ⟨hq.1, hq.2.1⟩ _ (iff_t hv))
  have hit := script_Italic_calls F (n + 1) b cs
  rw [if_pos ⟨hv, hb⟩] at hit
  have h00 : italB F (n + 1) b = 0 := by unfold italB; rw [hi]
  rw [h00] at hit
  have HI := Lib.hid (fun w' (h : Below w.heap.size w w') => hit w' (hF.below h) (hr.step h))
  have HSm := Lib.hid (fun w' (h : Below w.heap.size w w') => script_Simple_none (n + 1) b cs w' (hr.step h) hi)
  obtain ⟨rv, hrv, hrc⟩ := ref34_Simple_calls (n + 1) b cs w hr
  rw [hi] at hrv
  obtain rfl : rv = _ := hrv
  have HRs := Lib.hid hrc
  have HB := Lib.hid (fun w' (h : Below w.heap.size w w') => ref28_Valid_calls (n + 1) b cs w' (hr.step h) hr.wide hcb _ (iff_t hb))
  have HR := Lib.hid (fun w' (h : Below w.heap.size w w') => ref34_Italic_none F (n + 1) b cs w' (hr.step h) hi)
  obtain ⟨c0, c1, c2, c3, c4, c5, c6, c7, c8, c9, c10, rfl⟩ := eleven hr.len
  clear hF hr h1 h2 hq hcb hv hit hi hrc hb h00
  go_enter Try.func4, Try.ntmps4
  have HB0 := Lib.hid (bself w)
  have hS := own_start w
  go_wp2_with (first | (refine own_unguard (by rfl) ?_) | (go_at_call 9; refine own_calls hS (by first | exact awake34_calls _) ?_; clear hS; (try clear ww); intro ww hS) | (go_at_call 12; refine own_calls hS (by first | exact HF.out _ (bthen HB0.out hS.below)) ?_; clear hS; (try clear ww); intro ww hS) | (go_at_call 13; refine own_calls hS (by first | exact HN.out _ (bthen HB0.out hS.below)) ?_; clear hS; (try clear ww); intro ww hS) | (go_at_call 16; refine own_calls hS (by first | exact HV.out _ (bthen HB0.out hS.below)) ?_; clear hS; (try clear ww); intro ww hS) | (go_at_call 19; refine own_calls hS (by first | exact HI.out _ (bthen HB0.out hS.below)) ?_; clear hS; (try clear ww); intro ww hS) | (go_at_call 14; refine own_calls hS (by first | exact HSm.out _ (bthen HB0.out hS.below)) ?_; clear hS; (try clear ww); intro ww hS) | (go_at_call 15; refine own_calls hS (by first | exact HRs.out _ (bthen HB0.out hS.below)) ?_; clear hS; (try clear ww); intro ww hS) | (go_at_call 11; refine own_calls hS (by first | exact ref28_Equal_calls 1 (zeroB 0) _ _ _ (rep_zero 0 _) (rep_zero 0 _) small_zero34) ?_; clear hS; (try clear ww); intro ww hS) | (go_at_call 17; refine own_calls hS (by first | exact HB.out _ (bthen HB0.out hS.below)) ?_; clear hS; (try clear ww); intro ww hS) | (go_at_call 18; refine own_calls hS (by first | exact HR.out _ (bthen HB0.out hS.below)) ?_; clear hS; (try clear ww); intro ww hS) | (refine w_ld rfl _ rfl (by rfl) (by first | exact rd_1 (by repeat constructor) (by first | rfl | assumption) | exact rd_w (by repeat constructor) (by rfl) | exact rd_o (by assumption) (by rfl) (by first | exact nmn | assumption | simp) | exact rd_h (by assumption) (by rfl) (by first | exact nmn | assumption | simp) | exact rd_1o (by assumption) (by first | exact nmn | assumption | simp) | exact rd_1h (by assumption) (by first | rfl | assumption) (by first | exact nmn | assumption | simp)) hS ?_) | (refine own_box rfl _ _ rfl (by rfl) hS ?_; clear hS; (try clear ww); intro bb ww hS) | (refine w_al rfl rfl hS ?_; clear hS; (try clear ww); intro bb ww hS) | (refine w_st rfl _ _ rfl (by rfl) (by rfl) (by repeat constructor) (by rfl) (by rfl) (by first | rfl | assumption) hS ?_; clear hS; (try clear ww); intro ww hS) | (refine w_s1 rfl _ _ rfl (by rfl) (by repeat constructor) (by first | exact .c | exact .t rfl) (by rfl) (by repeat constructor) hS ?_; clear hS; (try clear ww); intro ww hS))
  go_ret
  exact ⟨ret_bool (by simp), bthen HB0.out hS.below⟩

set_option maxHeartbeats 16000000 in
set_option maxRecDepth 100000 in
theorem simLaw_s2 (F : Fnt) (n : Nat) (b : Bx (n + 1)) (cs : List Value) (w : World) (hF : FntOk w F) (hr : Rep w (n + 1) b cs) (hsr : SrcIn (n + 1) b) (h1 : fewB F = true) (h2 : decide (bCount (n + 1) b ≤ 200) = true) (hv : ¬ ValidF F) (m : Nat) (g : Bx (m + 1)) (hi : innerS (n + 1) b = some ⟨m, g⟩) : Calls Try.prog 4 #[F.val, .agg cs.toArray] w (Gives (.bool true) w) := by
  have HF := Lib.hid (fun w' (h : Below w.heap.size w w') => few_v34 (hF.below h) (Lib.hid h1))
  have HN := Lib.hid (fun w' (h : Below w.heap.size w w') => ref28_Few_calls (n + 1) b cs 200 w' (hr.step h) (by omega) _ h2.symm)
  have hq := fewB_iff.1 h1
  have hcb : bCount (n + 1) b ≤ 1000000 := by have := of_decide_eq_true h2; omega
  have HV := Lib.hid (fun w' (h : Below w.heap.size w w') => ref05_Valid_calls F w' (hF.below h) ⟨hq.1, hq.2.1⟩ _ (iff_f hv))
  have hit := script_Italic_calls F (n + 1) b cs
  rw [if_neg (fun h => hv h.1)] at hit
  have HI := Lib.hid (fun w' (h : Below w.heap.size w w') => hit w' (hF.below h) (hr.step h))
  obtain ⟨hsg, hcg⟩ := inner_srcs _ _ m g hi hsr
  have hcg2 : bCount (m + 1) g ≤ 1000000 := Nat.le_trans hcg hcb
  have hsg2 := src_small _ _ hsg hcg2
  have HSg := Lib.hid hsg2
  have HSm := Lib.hid (fun w' (h : Below w.heap.size w w') => script_Simple_some (n + 1) b cs w' (hr.step h) m g hi hsg2 hcg2)
  obtain ⟨rv, hrv, hrc⟩ := ref34_Simple_calls (n + 1) b cs w hr
  rw [hi] at hrv
  obtain ⟨gs, rfl, hrg⟩ := hrv
  have HRs := Lib.hid hrc
  have HRg := Lib.hid hrg
  have hga := rep_all hrg
  obtain ⟨e0, e1, e2, e3, e4, e5, e6, e7, e8, e9, e10, rfl⟩ := eleven hrg.len
  obtain ⟨c0, c1, c2, c3, c4, c5, c6, c7, c8, c9, c10, rfl⟩ := eleven hr.len
  clear hF hr hsr h1 h2 hq hcb hv hit hi hrc hsg hcg hcg2 hsg2 hrg
  go_enter Try.func4, Try.ntmps4
  have HB0 := Lib.hid (bself w)
  have hS := own_start w
  go_wp2_with (first | (refine own_unguard (by rfl) ?_) | (go_at_call 9; refine own_calls hS (by first | exact awake34_calls _) ?_; clear hS; (try clear ww); intro ww hS) | (go_at_call 12; refine own_calls hS (by first | exact HF.out _ (bthen HB0.out hS.below)) ?_; clear hS; (try clear ww); intro ww hS) | (go_at_call 13; refine own_calls hS (by first | exact HN.out _ (bthen HB0.out hS.below)) ?_; clear hS; (try clear ww); intro ww hS) | (go_at_call 16; refine own_calls hS (by first | exact HV.out _ (bthen HBk.out hS.below)) ?_; clear hS; (try clear ww); intro ww hS) | (go_at_call 19; refine own_calls hS (by first | exact HI.out _ (bthen HBk.out hS.below)) ?_; clear hS; (try clear ww); intro ww hS) | (go_at_call 14; refine Calls.mono (HSm.out _ (bthen HB0.out hS.below)) ?_; rintro e w1 ⟨cs1, rfl, hR1, hb1⟩; have HBk := Lib.hid (bthen (bthen HB0.out hS.below) hb1); have HR1 := Lib.hid hR1; have hall1 := rep_all hR1; obtain ⟨f0, f1, f2, f3, f4, f5, f6, f7, f8, f9, f10, rfl⟩ := eleven hR1.len; have hS1 := hS.step hb1; have hrB1 := has_range (hS1.get at0); have hrF1 := has_range (hS1.get at1); clear hS hb1 hR1 hS1; have hS := own_start w1) | (go_at_call 15; refine own_calls hS (by first | exact HRs.out _ (bthen HBk.out hS.below)) ?_; clear hS; (try clear ww); intro ww hS) | (go_at_call 11; refine own_calls hS (by first | exact ref28_Equal_calls (m + 1) g _ _ _ (HR1.out.step hS.below) (HRg.out.step (bthen HBk.out hS.below)) HSg.out) ?_; clear hS; (try clear ww); intro ww hS) | (refine w_ld rfl _ rfl (by rfl) (by first | exact rd_1 (by repeat constructor) (by first | rfl | assumption) | exact rd_w (by repeat constructor) (by rfl) | exact rd_o (by assumption) (by rfl) (by first | exact nmn | assumption | simp) | exact rd_h (by assumption) (by rfl) (by first | exact nmn | assumption | simp) | exact rd_1o (by assumption) (by first | exact nmn | assumption | simp) | exact rd_1h (by assumption) (by first | rfl | assumption) (by first | exact nmn | assumption | simp)) hS ?_) | (refine own_box rfl _ _ rfl (by rfl) hS ?_; clear hS; (try clear ww); intro bb ww hS) | (refine w_al rfl rfl hS ?_; clear hS; (try clear ww); intro bb ww hS) | (refine w_st rfl _ _ rfl (by rfl) (by rfl) (by repeat constructor) (by rfl) (by rfl) (by first | rfl | assumption) hS ?_; clear hS; (try clear ww); intro ww hS) | (refine w_s1 rfl _ _ rfl (by rfl) (by repeat constructor) (by first | exact .c | exact .t rfl) (by rfl) (by repeat constructor) hS ?_; clear hS; (try clear ww); intro ww hS))
  go_ret
  exact ⟨ret_bool (by simp), bthen HBk.out hS.below⟩

set_option maxHeartbeats 16000000 in
set_option maxRecDepth 100000 in
theorem simLaw_s3 (F : Fnt) (n : Nat) (b : Bx (n + 1)) (cs : List Value) (w : World) (hF : FntOk w F) (hr : Rep w (n + 1) b cs) (hsr : SrcIn (n + 1) b) (h1 : fewB F = true) (h2 : decide (bCount (n + 1) b ≤ 200) = true) (hv : ValidF F) (hb : ¬ validB (n + 1) b) (m : Nat) (g : Bx (m + 1)) (hi : innerS (n + 1) b = some ⟨m, g⟩) : Calls Try.prog 4 #[F.val, .agg cs.toArray] w (Gives (.bool true) w) := by
  have HF := Lib.hid (fun w' (h : Below w.heap.size w w') => few_v34 (hF.below h) (Lib.hid h1))
  have HN := Lib.hid (fun w' (h : Below w.heap.size w w') => ref28_Few_calls (n + 1) b cs 200 w' (hr.step h) (by omega) _ h2.symm)
  have hq := fewB_iff.1 h1
  have hcb : bCount (n + 1) b ≤ 1000000 := by have := of_decide_eq_true h2; omega
  have HV := Lib.hid (fun w' (h : Below w.heap.size w w') => ref05_Valid_calls F w' (hF.below h) ⟨hq.1, hq.2.1⟩ _ (iff_t hv))
  have hit := script_Italic_calls F (n + 1) b cs
  rw [if_neg (fun h => hb h.2)] at hit
  have HI := Lib.hid (fun w' (h : Below w.heap.size w w') => hit w' (hF.below h) (hr.step h))
  obtain ⟨hsg, hcg⟩ := inner_srcs _ _ m g hi hsr
  have hcg2 : bCount (m + 1) g ≤ 1000000 := Nat.le_trans hcg hcb
  have hsg2 := src_small _ _ hsg hcg2
  have HSg := Lib.hid hsg2
  have HSm := Lib.hid (fun w' (h : Below w.heap.size w w') => script_Simple_some (n + 1) b cs w' (hr.step h) m g hi hsg2 hcg2)
  obtain ⟨rv, hrv, hrc⟩ := ref34_Simple_calls (n + 1) b cs w hr
  rw [hi] at hrv
  obtain ⟨gs, rfl, hrg⟩ := hrv
  have HRs := Lib.hid hrc
  have HRg := Lib.hid hrg
  have hga := rep_all hrg
  obtain ⟨e0, e1, e2, e3, e4, e5, e6, e7, e8, e9, e10, rfl⟩ := eleven hrg.len
  have HB := Lib.hid (fun w' (h : Below w.heap.size w w') => ref28_Valid_calls (n + 1) b cs w' (hr.step h) hr.wide hcb _ (iff_f hb))
  obtain ⟨c0, c1, c2, c3, c4, c5, c6, c7, c8, c9, c10, rfl⟩ := eleven hr.len
  clear hF hr hsr h1 h2 hq hcb hv hit hi hrc hb hsg hcg hcg2 hsg2 hrg
  go_enter Try.func4, Try.ntmps4
  have HB0 := Lib.hid (bself w)
  have hS := own_start w
  go_wp2_with (first | (refine own_unguard (by rfl) ?_) | (go_at_call 9; refine own_calls hS (by first | exact awake34_calls _) ?_; clear hS; (try clear ww); intro ww hS) | (go_at_call 12; refine own_calls hS (by first | exact HF.out _ (bthen HB0.out hS.below)) ?_; clear hS; (try clear ww); intro ww hS) | (go_at_call 13; refine own_calls hS (by first | exact HN.out _ (bthen HB0.out hS.below)) ?_; clear hS; (try clear ww); intro ww hS) | (go_at_call 16; refine own_calls hS (by first | exact HV.out _ (bthen HBk.out hS.below)) ?_; clear hS; (try clear ww); intro ww hS) | (go_at_call 19; refine own_calls hS (by first | exact HI.out _ (bthen HBk.out hS.below)) ?_; clear hS; (try clear ww); intro ww hS) | (go_at_call 14; refine Calls.mono (HSm.out _ (bthen HB0.out hS.below)) ?_; rintro e w1 ⟨cs1, rfl, hR1, hb1⟩; have HBk := Lib.hid (bthen (bthen HB0.out hS.below) hb1); have HR1 := Lib.hid hR1; have hall1 := rep_all hR1; obtain ⟨f0, f1, f2, f3, f4, f5, f6, f7, f8, f9, f10, rfl⟩ := eleven hR1.len; have hS1 := hS.step hb1; have hrB1 := has_range (hS1.get at0); have hrF1 := has_range (hS1.get at1); clear hS hb1 hR1 hS1; have hS := own_start w1) | (go_at_call 15; refine own_calls hS (by first | exact HRs.out _ (bthen HBk.out hS.below)) ?_; clear hS; (try clear ww); intro ww hS) | (go_at_call 11; refine own_calls hS (by first | exact ref28_Equal_calls (m + 1) g _ _ _ (HR1.out.step hS.below) (HRg.out.step (bthen HBk.out hS.below)) HSg.out) ?_; clear hS; (try clear ww); intro ww hS) | (go_at_call 17; refine own_calls hS (by first | exact HB.out _ (bthen HBk.out hS.below)) ?_; clear hS; (try clear ww); intro ww hS) | (refine w_ld rfl _ rfl (by rfl) (by first | exact rd_1 (by repeat constructor) (by first | rfl | assumption) | exact rd_w (by repeat constructor) (by rfl) | exact rd_o (by assumption) (by rfl) (by first | exact nmn | assumption | simp) | exact rd_h (by assumption) (by rfl) (by first | exact nmn | assumption | simp) | exact rd_1o (by assumption) (by first | exact nmn | assumption | simp) | exact rd_1h (by assumption) (by first | rfl | assumption) (by first | exact nmn | assumption | simp)) hS ?_) | (refine own_box rfl _ _ rfl (by rfl) hS ?_; clear hS; (try clear ww); intro bb ww hS) | (refine w_al rfl rfl hS ?_; clear hS; (try clear ww); intro bb ww hS) | (refine w_st rfl _ _ rfl (by rfl) (by rfl) (by repeat constructor) (by rfl) (by rfl) (by first | rfl | assumption) hS ?_; clear hS; (try clear ww); intro ww hS) | (refine w_s1 rfl _ _ rfl (by rfl) (by repeat constructor) (by first | exact .c | exact .t rfl) (by rfl) (by repeat constructor) hS ?_; clear hS; (try clear ww); intro ww hS))
  go_ret
  exact ⟨ret_bool (by simp), bthen HBk.out hS.below⟩

set_option maxHeartbeats 16000000 in
set_option maxRecDepth 100000 in
theorem simLaw_s4 (F : Fnt) (n : Nat) (b : Bx (n + 1)) (cs : List Value) (w : World) (hF : FntOk w F) (hr : Rep w (n + 1) b cs) (hsr : SrcIn (n + 1) b) (h1 : fewB F = true) (h2 : decide (bCount (n + 1) b ≤ 200) = true) (hv : ValidF F) (hb : validB (n + 1) b) (m : Nat) (g : Bx (m + 1)) (hi : innerS (n + 1) b = some ⟨m, g⟩) : Calls Try.prog 4 #[F.val, .agg cs.toArray] w (Gives (.bool true) w) := by
  have HF := Lib.hid (fun w' (h : Below w.heap.size w w') => few_v34 (hF.below h) (Lib.hid h1))
  have HN := Lib.hid (fun w' (h : Below w.heap.size w w') => ref28_Few_calls (n + 1) b cs 200 w' (hr.step h) (by omega) _ h2.symm)
  have hq := fewB_iff.1 h1
  have hcb : bCount (n + 1) b ≤ 1000000 := by have := of_decide_eq_true h2; omega
  have HV := Lib.hid (fun w' (h : Below w.heap.size w w') => ref05_Valid_calls F w' (hF.below h) ⟨hq.1, hq.2.1⟩ _ (iff_t hv))
  have hit := script_Italic_calls F (n + 1) b cs
  rw [if_pos ⟨hv, hb⟩] at hit
  have HI := Lib.hid (fun w' (h : Below w.heap.size w w') => hit w' (hF.below h) (hr.step h))
  obtain ⟨hsg, hcg⟩ := inner_srcs _ _ m g hi hsr
  have hcg2 : bCount (m + 1) g ≤ 1000000 := Nat.le_trans hcg hcb
  have hsg2 := src_small _ _ hsg hcg2
  have HSg := Lib.hid hsg2
  have HSm := Lib.hid (fun w' (h : Below w.heap.size w w') => script_Simple_some (n + 1) b cs w' (hr.step h) m g hi hsg2 hcg2)
  obtain ⟨rv, hrv, hrc⟩ := ref34_Simple_calls (n + 1) b cs w hr
  rw [hi] at hrv
  obtain ⟨gs, rfl, hrg⟩ := hrv
  have HRs := Lib.hid hrc
  have HRg := Lib.hid hrg
  have hga := rep_all hrg
  obtain ⟨e0, e1, e2, e3, e4, e5, e6, e7, e8, e9, e10, rfl⟩ := eleven hrg.len
  have HB := Lib.hid (fun w' (h : Below w.heap.size w w') => ref28_Valid_calls (n + 1) b cs w' (hr.step h) hr.wide hcb _ (iff_t hb))
  have HR := Lib.hid (fun w' (h : Below w.heap.size w w') => ref34_Italic_some F (n + 1) b cs w' (hF.below h) (hr.step h) hv hb m g hi)
  generalize italB F (n + 1) b = z at *
  obtain ⟨c0, c1, c2, c3, c4, c5, c6, c7, c8, c9, c10, rfl⟩ := eleven hr.len
  clear hF hr hsr h1 h2 hq hcb hv hit hi hrc hb hsg hcg hcg2 hsg2 hrg
  go_enter Try.func4, Try.ntmps4
  have HB0 := Lib.hid (bself w)
  have hS := own_start w
  go_wp2_with (first | (refine own_unguard (by rfl) ?_) | (go_at_call 9; refine own_calls hS (by first | exact awake34_calls _) ?_; clear hS; (try clear ww); intro ww hS) | (go_at_call 12; refine own_calls hS (by first | exact HF.out _ (bthen HB0.out hS.below)) ?_; clear hS; (try clear ww); intro ww hS) | (go_at_call 13; refine own_calls hS (by first | exact HN.out _ (bthen HB0.out hS.below)) ?_; clear hS; (try clear ww); intro ww hS) | (go_at_call 16; refine own_calls hS (by first | exact HV.out _ (bthen HBk.out hS.below)) ?_; clear hS; (try clear ww); intro ww hS) | (go_at_call 19; refine own_calls hS (by first | exact HI.out _ (bthen HBk.out hS.below)) ?_; clear hS; (try clear ww); intro ww hS) | (go_at_call 14; refine Calls.mono (HSm.out _ (bthen HB0.out hS.below)) ?_; rintro e w1 ⟨cs1, rfl, hR1, hb1⟩; have HBk := Lib.hid (bthen (bthen HB0.out hS.below) hb1); have HR1 := Lib.hid hR1; have hall1 := rep_all hR1; obtain ⟨f0, f1, f2, f3, f4, f5, f6, f7, f8, f9, f10, rfl⟩ := eleven hR1.len; have hS1 := hS.step hb1; have hrB1 := has_range (hS1.get at0); have hrF1 := has_range (hS1.get at1); clear hS hb1 hR1 hS1; have hS := own_start w1) | (go_at_call 15; refine own_calls hS (by first | exact HRs.out _ (bthen HBk.out hS.below)) ?_; clear hS; (try clear ww); intro ww hS) | (go_at_call 11; refine own_calls hS (by first | exact ref28_Equal_calls (m + 1) g _ _ _ (HR1.out.step hS.below) (HRg.out.step (bthen HBk.out hS.below)) HSg.out) ?_; clear hS; (try clear ww); intro ww hS) | (go_at_call 17; refine own_calls hS (by first | exact HB.out _ (bthen HBk.out hS.below)) ?_; clear hS; (try clear ww); intro ww hS) | (go_at_call 18; refine own_calls hS (by first | exact HR.out _ (bthen HBk.out hS.below)) ?_; clear hS; (try clear ww); intro ww hS) | (refine w_ld rfl _ rfl (by rfl) (by first | exact rd_1 (by repeat constructor) (by first | rfl | assumption) | exact rd_w (by repeat constructor) (by rfl) | exact rd_o (by assumption) (by rfl) (by first | exact nmn | assumption | simp) | exact rd_h (by assumption) (by rfl) (by first | exact nmn | assumption | simp) | exact rd_1o (by assumption) (by first | exact nmn | assumption | simp) | exact rd_1h (by assumption) (by first | rfl | assumption) (by first | exact nmn | assumption | simp)) hS ?_) | (refine own_box rfl _ _ rfl (by rfl) hS ?_; clear hS; (try clear ww); intro bb ww hS) | (refine w_al rfl rfl hS ?_; clear hS; (try clear ww); intro bb ww hS) | (refine w_st rfl _ _ rfl (by rfl) (by rfl) (by repeat constructor) (by rfl) (by rfl) (by first | rfl | assumption) hS ?_; clear hS; (try clear ww); intro ww hS) | (refine w_s1 rfl _ _ rfl (by rfl) (by repeat constructor) (by first | exact .c | exact .t rfl) (by rfl) (by repeat constructor) hS ?_; clear hS; (try clear ww); intro ww hS))
  go_ret
  exact ⟨ret_bool (by simp), bthen HBk.out hS.below⟩

theorem scriptSimple_calls (F : Fnt) (n : Nat) (b : Bx (n + 1)) (cs : List Value) (w : World) (hF : FntOk w F) (hr : Rep w (n + 1) b cs) (hsr : SrcIn (n + 1) b) : Calls Try.prog 4 #[F.val, .agg cs.toArray] w (Gives (.bool true) w) := by
  cases h1 : fewB F
  · exact simLaw_0 F n b cs w hF hr h1
  · cases h2 : decide (bCount (n + 1) b ≤ 200)
    · exact simLaw_1 F n b cs w hF hr h1 h2
    · cases hi : innerS (n + 1) b with
      | none =>
        by_cases hv : ValidF F
        · by_cases hb : validB (n + 1) b
          · exact simLaw_n4 F n b cs w hF hr h1 h2 hv hb hi
          · exact simLaw_n3 F n b cs w hF hr h1 h2 hv hb hi
        · exact simLaw_n2 F n b cs w hF hr h1 h2 hv hi
      | some g =>
        by_cases hv : ValidF F
        · by_cases hb : validB (n + 1) b
          · exact simLaw_s4 F n b cs w hF hr hsr h1 h2 hv hb g.1 g.2 hi
          · exact simLaw_s3 F n b cs w hF hr hsr h1 h2 hv hb g.1 g.2 hi
        · exact simLaw_s2 F n b cs w hF hr hsr h1 h2 hv g.1 g.2 hi

end Go.Proofs.Ytgpabckipmhobaa
