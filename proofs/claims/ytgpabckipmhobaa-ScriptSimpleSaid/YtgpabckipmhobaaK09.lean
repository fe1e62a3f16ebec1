/- Texts Vlr, Map. -/
import Derived.Test.YtgpabckipmhobaaK08
import Derived.Test.YtgpabckipmhobaaK01
import Derived.Laws.StructEq
import Derived.Maps.Own
namespace Go.Proofs.Ytgpabckipmhobaa
open Go.RowKit

attribute [local irreducible] wpQuiet wpG wpP wpList Code.wp

theorem ref05_Params_v {F : Fnt} {w : World} {v : Bool} (hv : Hid (prmOk F = v)) : Calls Try.prog 30 #[.agg F.prm.toArray] w (Gives (.bool v) w) := by
  have := ref05_Params_calls F w
  rwa [hv.out] at this

theorem iff_t {p : Prop} (h : p) : true = true ↔ p := ⟨fun _ => h, fun _ => rfl⟩
theorem iff_f {p : Prop} (h : ¬ p) : false = true ↔ p := ⟨fun h => (by cases h), fun h' => absurd h' h⟩
section
variable {F : Fnt} {b : Bool}
theorem ValidF.no (hb : Hid (b = true ↔ ValidF F)) (h : ¬ ValidF F) : false = b := by
  cases b
  · rfl
  · exact absurd (hb.out.1 rfl) h
theorem ValidF.no_str (hb : Hid (b = true ↔ ValidF F)) {k : Nat} {s : Str} (hs : F.ss[k]? = some s) (h : ¬ StrReq F.gs s) : false = b :=
  ValidF.no hb fun hv => h (hv.2.2.2.2 k s hs).1
theorem ValidF.no_fresh (hb : Hid (b = true ↔ ValidF F)) {k j : Nat} {s s' : Str} (hs : F.ss[k]? = some s) (hj : j < k) (hs' : F.ss[j]? = some s') (h : (s'.name.toList == s.name.toList) = true) : false = b :=
  ValidF.no hb fun hv => by
    have := (hv.2.2.2.2 k s hs).2 j hj s' hs'
    rw [h] at this; cases this
theorem ValidF.yes (hb : Hid (b = true ↔ ValidF F)) (h1 : F.gs.length ≤ 400 ∧ F.ss.length ≤ 40) (h2 : prmOk F = true) (h3 : GlysOk F.gs) (h4 : ∀ j, j < F.ss.length → ∀ s, F.ss[j]? = some s → StrReq F.gs s ∧ freshS F.ss j s) : true = b :=
  (hb.out.2 ⟨h1.1, h1.2, h2, h3, fun k s hk => h4 k (List.getElem?_eq_some_iff.1 hk).1 s hk⟩).symm
end
theorem strs_next {gs : List Gly} {ss : List Str} {k : Nat} {s : Str} (h : Hid (∀ j, j < k → ∀ s, ss[j]? = some s → StrReq gs s ∧ freshS ss j s)) (hs : ss[k]? = some s) (h1 : StrReq gs s) (h2 : freshS ss k s) : ∀ j, j < k + 1 → ∀ s, ss[j]? = some s → StrReq gs s ∧ freshS ss j s := by
  intro j hj s' hs'
  by_cases he : j = k
  · subst he
    rw [hs] at hs'
    cases hs'
    exact ⟨h1, h2⟩
  · exact h.out j (by omega) s' hs'
theorem fresh_next {ss : List Str} {m : Nat} {s s2 : Str} (h : Hid (freshS ss m s)) (h2 : ss[m]? = some s2) (he : (s2.name.toList == s.name.toList) = false) : freshS ss (m + 1) s := by
  intro j hj s' hs'
  by_cases e : j = m
  · subst e
    rw [h2] at hs'
    cases hs'
    exact he
  · exact h.out j (by omega) s' hs'
theorem glys_metrics {gs : List Gly} (h : GlysOk gs) : ∀ g ∈ gs, metricsOk g = true := by
  intro g hg
  obtain ⟨k, hk⟩ := List.mem_iff_getElem?.1 hg
  have := (h k g hk).1
  simp [gIn] at this
  exact this.1.2

set_option maxHeartbeats 4000000 in
set_option maxRecDepth 100000 in
theorem ref05_Valid_a (F : Fnt) (w : World) (hF : FntOk w F) (hq : F.gs.length ≤ 1000000 ∧ F.ss.length ≤ 1000000) (h1 : ¬ F.gs.length ≤ 400) : Calls Try.prog 16 #[F.val] w (Gives (.bool false) w) := by
  have HF := Lib.hid hF
  have HQ := Lib.hid hq
  clear hF hq
  obtain ⟨d1, d2⟩ := lt_dec h1
  simp only [Int.cast_ofNat_Int] at d2
  clear h1
  go_enter Try.func16, Try.ntmps16
  have hS := own_start w
  go_wp2_with (first | (refine own_unguard (by rfl) ?_) | (refine w_ld rfl _ rfl (by rfl) (by first | exact rd_1 (by repeat constructor) (by first | rfl | assumption) | exact rd_w (by repeat constructor) (by rfl) | exact rd_o (by assumption) (by rfl) (by first | exact nmn | assumption | simp) | exact rd_h (by assumption) (by rfl) (by first | exact nmn | assumption | simp) | exact rd_1o (by assumption) (by first | exact nmn | assumption | simp) | exact rd_1h (by assumption) (by first | rfl | assumption) (by first | exact nmn | assumption | simp)) hS ?_) | (refine own_box rfl _ _ rfl (by rfl) hS ?_; clear hS; (try clear ww); intro bb ww hS) | (refine w_al rfl rfl hS ?_; clear hS; (try clear ww); intro bb ww hS) | (refine w_st rfl _ _ rfl (by rfl) (by rfl) (by repeat constructor) (by rfl) (by rfl) (by first | rfl | assumption) hS ?_; clear hS; (try clear ww); intro ww hS) | (refine w_s1 rfl _ _ rfl (by rfl) (by repeat constructor) (by first | exact .c | exact .t rfl) (by rfl) (by repeat constructor) hS ?_; clear hS; (try clear ww); intro ww hS))
  go_ret
  exact own_gives hS

set_option maxHeartbeats 4000000 in
set_option maxRecDepth 100000 in
theorem ref05_Valid_b (F : Fnt) (w : World) (hF : FntOk w F) (hq : F.gs.length ≤ 1000000 ∧ F.ss.length ≤ 1000000) (h1 : F.gs.length ≤ 400) (h2 : ¬ F.ss.length ≤ 40) : Calls Try.prog 16 #[F.val] w (Gives (.bool false) w) := by
  have HF := Lib.hid hF
  have HQ := Lib.hid hq
  clear hF hq
  obtain ⟨d1, d2⟩ := not_lt_dec h1
  obtain ⟨d3, d4⟩ := lt_dec h2
  simp only [Int.cast_ofNat_Int] at d2 d4
  clear h1 h2
  go_enter Try.func16, Try.ntmps16
  have hS := own_start w
  go_wp2_with (first | (refine own_unguard (by rfl) ?_) | (refine w_ld rfl _ rfl (by rfl) (by first | exact rd_1 (by repeat constructor) (by first | rfl | assumption) | exact rd_w (by repeat constructor) (by rfl) | exact rd_o (by assumption) (by rfl) (by first | exact nmn | assumption | simp) | exact rd_h (by assumption) (by rfl) (by first | exact nmn | assumption | simp) | exact rd_1o (by assumption) (by first | exact nmn | assumption | simp) | exact rd_1h (by assumption) (by first | rfl | assumption) (by first | exact nmn | assumption | simp)) hS ?_) | (refine own_box rfl _ _ rfl (by rfl) hS ?_; clear hS; (try clear ww); intro bb ww hS) | (refine w_al rfl rfl hS ?_; clear hS; (try clear ww); intro bb ww hS) | (refine w_st rfl _ _ rfl (by rfl) (by rfl) (by repeat constructor) (by rfl) (by rfl) (by first | rfl | assumption) hS ?_; clear hS; (try clear ww); intro ww hS) | (refine w_s1 rfl _ _ rfl (by rfl) (by repeat constructor) (by first | exact .c | exact .t rfl) (by rfl) (by repeat constructor) hS ?_; clear hS; (try clear ww); intro ww hS))
  go_ret
  exact own_gives hS

set_option maxHeartbeats 4000000 in
set_option maxRecDepth 100000 in
theorem ref05_Valid_c (F : Fnt) (w : World) (hF : FntOk w F) (hq : F.gs.length ≤ 1000000 ∧ F.ss.length ≤ 1000000) (h1 : F.gs.length ≤ 400) (h2 : F.ss.length ≤ 40) (h3 : prmOk F = false) : Calls Try.prog 16 #[F.val] w (Gives (.bool false) w) := by
  have HF := Lib.hid hF
  have HQ := Lib.hid hq
  clear hF hq
  obtain ⟨d1, d2⟩ := not_lt_dec h1
  obtain ⟨d3, d4⟩ := not_lt_dec h2
  simp only [Int.cast_ofNat_Int] at d2 d4
  have H3 := Lib.hid h3
  clear h1 h2 h3
  go_enter Try.func16, Try.ntmps16
  have hS := own_start w
  go_wp2_with (first | (refine own_unguard (by rfl) ?_) | (refine own_load_sub rfl _ _ rfl rfl hS (by first | exact at0 | exact at1) (cs' := F.prm) rfl rt_params ?_) | (go_at_call 30; refine own_calls hS (ref05_Params_v H3) ?_; clear hS; (try clear ww); intro ww hS) | (refine w_ld rfl _ rfl (by rfl) (by first | exact rd_1 (by repeat constructor) (by first | rfl | assumption) | exact rd_w (by repeat constructor) (by rfl) | exact rd_o (by assumption) (by rfl) (by first | exact nmn | assumption | simp) | exact rd_h (by assumption) (by rfl) (by first | exact nmn | assumption | simp) | exact rd_1o (by assumption) (by first | exact nmn | assumption | simp) | exact rd_1h (by assumption) (by first | rfl | assumption) (by first | exact nmn | assumption | simp)) hS ?_) | (refine own_box rfl _ _ rfl (by rfl) hS ?_; clear hS; (try clear ww); intro bb ww hS) | (refine w_al rfl rfl hS ?_; clear hS; (try clear ww); intro bb ww hS) | (refine w_st rfl _ _ rfl (by rfl) (by rfl) (by repeat constructor) (by rfl) (by rfl) (by first | rfl | assumption) hS ?_; clear hS; (try clear ww); intro ww hS) | (refine w_s1 rfl _ _ rfl (by rfl) (by repeat constructor) (by first | exact .c | exact .t rfl) (by rfl) (by repeat constructor) hS ?_; clear hS; (try clear ww); intro ww hS))
  go_ret
  exact own_gives hS

set_option maxHeartbeats 4000000 in
set_option maxRecDepth 100000 in
theorem ref05_Valid_d (F : Fnt) (w : World) (hF : FntOk w F) (hq : F.gs.length ≤ 1000000 ∧ F.ss.length ≤ 1000000) (h1 : F.gs.length ≤ 400) (h2 : F.ss.length ≤ 40) (h3 : prmOk F = true) (h4 : ¬ GlysOk F.gs) : Calls Try.prog 16 #[F.val] w (Gives (.bool false) w) := by
  have HF := Lib.hid hF
  have HQ := Lib.hid hq
  clear hF hq
  obtain ⟨d1, d2⟩ := not_lt_dec h1
  obtain ⟨d3, d4⟩ := not_lt_dec h2
  simp only [Int.cast_ofNat_Int] at d2 d4
  have H3 := Lib.hid h3
  have H4 := Lib.hid h4
  clear h1 h2 h3 h4
  go_enter Try.func16, Try.ntmps16
  have hS := own_start w
  go_wp2_with (first | (refine own_unguard (by rfl) ?_) | (refine own_load_sub rfl _ _ rfl rfl hS (by first | exact at0 | exact at1) (cs' := F.prm) rfl rt_params ?_) | (go_at_call 30; refine own_calls hS (ref05_Params_v H3) ?_; clear hS; (try clear ww); intro ww hS) | (go_at_call 31; refine own_calls hS (ref05_glyphs_calls F.gx F.gc F.gs _ (HF.out.glys.below hS.below) (fun g hg => (HF.out.gok g hg).2) HQ.out.1 _ (iff_f H4.out)) ?_; clear hS; (try clear ww); intro ww hS) | (refine w_ld rfl _ rfl (by rfl) (by first | exact rd_1 (by repeat constructor) (by first | rfl | assumption) | exact rd_w (by repeat constructor) (by rfl) | exact rd_o (by assumption) (by rfl) (by first | exact nmn | assumption | simp) | exact rd_h (by assumption) (by rfl) (by first | exact nmn | assumption | simp) | exact rd_1o (by assumption) (by first | exact nmn | assumption | simp) | exact rd_1h (by assumption) (by first | rfl | assumption) (by first | exact nmn | assumption | simp)) hS ?_) | (refine own_box rfl _ _ rfl (by rfl) hS ?_; clear hS; (try clear ww); intro bb ww hS) | (refine w_al rfl rfl hS ?_; clear hS; (try clear ww); intro bb ww hS) | (refine w_st rfl _ _ rfl (by rfl) (by rfl) (by repeat constructor) (by rfl) (by rfl) (by first | rfl | assumption) hS ?_; clear hS; (try clear ww); intro ww hS) | (refine w_s1 rfl _ _ rfl (by rfl) (by repeat constructor) (by first | exact .c | exact .t rfl) (by rfl) (by repeat constructor) hS ?_; clear hS; (try clear ww); intro ww hS))
  go_ret
  exact own_gives hS

set_option maxHeartbeats 8000000 in
set_option maxRecDepth 100000 in
theorem ref05_Valid_e (F : Fnt) (w : World) (hF : FntOk w F) (h1 : F.gs.length ≤ 400) (h2 : F.ss.length ≤ 40) (h3 : prmOk F = true) (h4 : GlysOk F.gs) (b : Bool) (hb : b = true ↔ ValidF F) : Calls Try.prog 16 #[F.val] w (Gives (.bool b) w) := by
  obtain ⟨gx, gc, gs, fx, fc, ss, q0, q1, q2, q3, q4, q5, q6, q7, q8, q9, q10, q11, q12, q13, q14, q15, q16, q17, q18, q19⟩ := F
  simp only at h1 h2
  have HF := Lib.hid hF
  have HQ := Lib.hid (show gs.length ≤ 1000000 ∧ ss.length ≤ 1000000 by omega)
  have HN := Lib.hid (show gs.length ≤ 400 ∧ ss.length ≤ 40 from ⟨h1, h2⟩)
  have HB := Lib.hid hb
  have HG := Lib.hid h4
  have HM := Lib.hid (glys_metrics h4)
  obtain ⟨d1, d2⟩ := not_lt_dec h1
  obtain ⟨d3, d4⟩ := not_lt_dec h2
  simp only [Int.cast_ofNat_Int] at d2 d4
  have H3 := Lib.hid h3
  clear h1 h2 h3 h4 hF hb
  go_enter Try.func16, Try.ntmps16
  have hS := own_start w
  go_wp2_with (first | (refine own_unguard (by rfl) ?_) | (refine own_load_sub rfl _ _ rfl rfl hS (by first | exact at0 | exact at1) (cs' := [.int .i64 q0, .int .i64 q1, .int .i64 q2, .int .i64 q3, .int .i64 q4, .int .i64 q5, .int .i64 q6, .int .i64 q7, .int .i64 q8, .int .i64 q9, .int .i64 q10, .int .i64 q11, .int .i64 q12, .int .i64 q13, .int .i64 q14, .int .i64 q15, .int .i64 q16, .int .i64 q17, .int .i64 q18, .int .i64 q19]) rfl rt_params ?_) | (go_at_call 30; refine own_calls hS (ref05_Params_v (F := ⟨gx, gc, gs, fx, fc, ss, q0, q1, q2, q3, q4, q5, q6, q7, q8, q9, q10, q11, q12, q13, q14, q15, q16, q17, q18, q19⟩) H3) ?_; clear hS; (try clear ww); intro ww hS) | (go_at_call 31; refine own_calls hS (ref05_glyphs_calls _ _ _ _ (HF.out.glys.below hS.below) (fun g hg => (HF.out.gok g hg).2) HQ.out.1 _ (iff_t HG.out)) ?_; clear hS; (try clear ww); intro ww hS) | (refine w_ld rfl _ rfl (by rfl) (by first | exact rd_1 (by repeat constructor) (by first | rfl | assumption) | exact rd_w (by repeat constructor) (by rfl) | exact rd_o (by assumption) (by rfl) (by first | exact nmn | assumption | simp) | exact rd_h (by assumption) (by rfl) (by first | exact nmn | assumption | simp) | exact rd_1o (by assumption) (by first | exact nmn | assumption | simp) | exact rd_1h (by assumption) (by first | rfl | assumption) (by first | exact nmn | assumption | simp)) hS ?_) | (refine own_box rfl _ _ rfl (by rfl) hS ?_; clear hS; (try clear ww); intro bb ww hS) | (refine w_al rfl rfl hS ?_; clear hS; (try clear ww); intro bb ww hS) | (refine w_st rfl _ _ rfl (by rfl) (by rfl) (by repeat constructor) (by rfl) (by rfl) (by first | rfl | assumption) hS ?_; clear hS; (try clear ww); intro ww hS) | (refine w_s1 rfl _ _ rfl (by rfl) (by repeat constructor) (by first | exact .c | exact .t rfl) (by rfl) (by repeat constructor) hS ?_; clear hS; (try clear ww); intro ww hS))
  clear d1 d2 d3 d4
  obtain ⟨L0, HL, hS⟩ := hS.named
  go_loopw [3] (fun i wr => ∃ k : Nat, k ≤ ss.length ∧ i = .int .i64 k ∧ (∀ j, j < k → ∀ s, ss[j]? = some s → StrReq gs s ∧ freshS ss j s) ∧ Own [] w L0 wr) (fun i _ => ss.length - (intOf i).toNat)
  case atStart => exact ⟨0, Nat.zero_le _, rfl, fun j hj => absurd hj (Nat.not_lt_zero j), hS⟩
  case round =>
    clear hS
    obtain ⟨k, hk, rfl, hp, hS⟩ := hrel
    have HP := Lib.hid hp
    clear hp
    have hz : ss.length ≤ 40 := HN.out.2
    by_cases hlt : k < ss.length
    · obtain ⟨s, hs⟩ : ∃ s, ss[k]? = some s := ⟨ss[k], by simp [hlt]⟩
      obtain ⟨b0, o0, hx, r0⟩ := HF.out.strs.get hs
      obtain rfl : fx = some ⟨b0, o0, none⟩ := hx
      obtain rfl := HL.out
      clear HL
      obtain ⟨n, sx, sc, sz, px, pc, ps, ov⟩ := s
      have HZ := Lib.hid hs
      have HT := Lib.hid (HF.out.sok _ (List.mem_of_getElem? hs))
      have s0 : w.rangeAt b0 (o0 + k * 4) [.string n, .slice sx sz.length sc, .slice px ps.length pc, .int .i64 ov] := r0
      have c0 : w.cell? ⟨b0, o0 + k * 4, none⟩ = some (.string n) := r0 0 _ rfl
      clear hs r0
      by_cases hr : StrReq gs ⟨n, sx, sc, sz, px, pc, ps, ov⟩
      · have HR := Lib.hid hr
        clear hr
        go_wp2_with (first | (refine own_unguard (by rfl) ?_) | (refine w_ld rfl _ rfl (by rfl) (by first | exact rd_1 (by repeat constructor) (by first | rfl | assumption) | exact rd_w (by repeat constructor) (by rfl) | exact rd_o (by assumption) (by rfl) (by first | exact nmn | assumption | simp) | exact rd_h (by assumption) (by rfl) (by first | exact nmn | assumption | simp) | exact rd_1o (by assumption) (by first | exact nmn | assumption | simp) | exact rd_1h (by assumption) (by first | rfl | assumption) (by first | exact nmn | assumption | simp)) hS ?_) | (refine own_box rfl _ _ rfl (by rfl) hS ?_; clear hS; (try clear ww); intro bb ww hS) | (refine w_al rfl rfl hS ?_; clear hS; (try clear ww); intro bb ww hS) | (refine w_st rfl _ _ rfl (by rfl) (by rfl) (by repeat constructor) (by rfl) (by rfl) (by first | rfl | assumption) hS ?_; clear hS; (try clear ww); intro ww hS) | (refine w_s1 rfl _ _ rfl (by rfl) (by repeat constructor) (by first | exact .c | exact .t rfl) (by rfl) (by repeat constructor) hS ?_; clear hS; (try clear ww); intro ww hS))
        refine own_region hS (by kernel_rfl) (by kernel_rfl) ?_
        (try simp only); (try simp only [List.drop_succ_cons]); (try simp only [List.drop_zero]); (try simp only [List.take_succ_cons]); (try simp only [List.take_zero])
        repeat (first
            | (first | (refine quiet_plain rfl ?_) | (refine quiet_yes rfl rfl rfl (by simp only [List.getElem?_toArray, List.getElem?_cons_succ, List.getElem?_cons_zero]; rfl) (by with_reducible constructor) ?_)
               apply Exists.intro; refine ⟨?_, ?_⟩
               focus (intro wq hq0; have hq : Own _ _ _ wq := hq0; first | (exact quietAt_rd rfl (by rfl) (by first | exact rd_1 (by repeat constructor) (by first | rfl | assumption) | exact rd_w (by repeat constructor) (by rfl) | exact rd_o (by assumption) (by rfl) (by first | exact nmn | assumption | simp) | exact rd_h (by assumption) (by rfl) (by first | exact nmn | assumption | simp) | exact rd_1o (by assumption) (by first | exact nmn | assumption | simp) | exact rd_1h (by assumption) (by first | rfl | assumption) (by first | exact nmn | assumption | simp)) hq) | (go_simp; first | (go_at_call 32; exact quietG hq (ref05_stretch_calls ⟨gx, gc, gs, some ⟨b0, o0, none⟩, fc, ss, q0, q1, q2, q3, q4, q5, q6, q7, q8, q9, q10, q11, q12, q13, q14, q15, q16, q17, q18, q19⟩ n sx px sc pc sz ps ov _ (HF.out.below hq.below) (Nat.le_trans HN.out.1 (by omega)) HM.out (HT.out.below hq.below) _ (iff_t HR.out))) | (with_reducible rfl)))
               simp only [Act.put, List.setIfInBounds_toArray, List.set_cons_zero, List.set_cons_succ])
            | (refine quiet_no rfl rfl rfl (by simp only [List.getElem?_toArray, List.getElem?_cons_succ, List.getElem?_cons_zero]; rfl) (by with_reducible constructor) ?_; simp only [Act.put, List.setIfInBounds_toArray, List.set_cons_zero, List.set_cons_succ]))
        refine wpQuiet_nil ?_
        clear hS
        intro ww hS
        go_wp2_with (first | (refine own_unguard (by rfl) ?_) | (refine w_ld rfl _ rfl (by rfl) (by first | exact rd_1 (by repeat constructor) (by first | rfl | assumption) | exact rd_w (by repeat constructor) (by rfl) | exact rd_o (by assumption) (by rfl) (by first | exact nmn | assumption | simp) | exact rd_h (by assumption) (by rfl) (by first | exact nmn | assumption | simp) | exact rd_1o (by assumption) (by first | exact nmn | assumption | simp) | exact rd_1h (by assumption) (by first | rfl | assumption) (by first | exact nmn | assumption | simp)) hS ?_) | (refine own_box rfl _ _ rfl (by rfl) hS ?_; clear hS; (try clear ww); intro bb ww hS) | (refine w_al rfl rfl hS ?_; clear hS; (try clear ww); intro bb ww hS) | (refine w_st rfl _ _ rfl (by rfl) (by rfl) (by repeat constructor) (by rfl) (by rfl) (by first | rfl | assumption) hS ?_; clear hS; (try clear ww); intro ww hS) | (refine w_s1 rfl _ _ rfl (by rfl) (by repeat constructor) (by first | exact .c | exact .t rfl) (by rfl) (by repeat constructor) hS ?_; clear hS; (try clear ww); intro ww hS))
        go_loopw [4] (fun i wr => ∃ m : Nat, m ≤ k ∧ i = .int .i64 m ∧ freshS ss m ⟨n, sx, sc, sz, px, pc, ps, ov⟩ ∧ Own [] w [(bb, [.slice gx gs.length gc, .slice (some ⟨b0, o0, none⟩) ss.length fc, .int .i64 q0, .int .i64 q1, .int .i64 q2, .int .i64 q3, .int .i64 q4, .int .i64 q5, .int .i64 q6, .int .i64 q7, .int .i64 q8, .int .i64 q9, .int .i64 q10, .int .i64 q11, .int .i64 q12, .int .i64 q13, .int .i64 q14, .int .i64 q15, .int .i64 q16, .int .i64 q17, .int .i64 q18, .int .i64 q19])] wr) (fun i _ => k - (intOf i).toNat)
        case atStart => exact ⟨0, Nat.zero_le _, rfl, fun j hj => absurd hj (Nat.not_lt_zero j), hS⟩
        case round =>
          clear hS
          obtain ⟨m, hm, rfl, hf, hS⟩ := hrel
          have HFr := Lib.hid hf
          clear hf
          by_cases hlm : m < k
          · have hmn : m < ss.length := by omega
            obtain ⟨s2, hs2⟩ : ∃ s, ss[m]? = some s := ⟨ss[m], by simp [hmn]⟩
            obtain ⟨b2, o2, hx2, r2⟩ := HF.out.strs.get hs2
            have he0 : b0 = b2 ∧ o0 = o2 := by simpa using hx2
            obtain ⟨rfl, rfl⟩ := he0
            have d0 : w.cell? ⟨b0, o0 + m * 4, none⟩ = some (.string s2.name) := r2 0 _ rfl
            have HZ2 := Lib.hid hs2
            clear r2 hx2 hs2
            cases he : (s2.name.toList == n.toList)
            · have E2 := Lib.hid (fresh_next HFr HZ2.out he)
              go_wp2_with (first | (refine own_unguard (by rfl) ?_) | (refine w_ld rfl _ rfl (by rfl) (by first | exact rd_1 (by repeat constructor) (by first | rfl | assumption) | exact rd_w (by repeat constructor) (by rfl) | exact rd_o (by assumption) (by rfl) (by first | exact nmn | assumption | simp) | exact rd_h (by assumption) (by rfl) (by first | exact nmn | assumption | simp) | exact rd_1o (by assumption) (by first | exact nmn | assumption | simp) | exact rd_1h (by assumption) (by first | rfl | assumption) (by first | exact nmn | assumption | simp)) hS ?_) | (refine own_box rfl _ _ rfl (by rfl) hS ?_; clear hS; (try clear ww); intro bb ww hS) | (refine w_al rfl rfl hS ?_; clear hS; (try clear ww); intro bb ww hS) | (refine w_st rfl _ _ rfl (by rfl) (by rfl) (by repeat constructor) (by rfl) (by rfl) (by first | rfl | assumption) hS ?_; clear hS; (try clear ww); intro ww hS) | (refine w_s1 rfl _ _ rfl (by rfl) (by repeat constructor) (by first | exact .c | exact .t rfl) (by rfl) (by repeat constructor) hS ?_; clear hS; (try clear ww); intro ww hS))
              refine own_region hS (by kernel_rfl) (by kernel_rfl) ?_
              (try simp only); (try simp only [List.drop_succ_cons]); (try simp only [List.drop_zero]); (try simp only [List.take_succ_cons]); (try simp only [List.take_zero])
              repeat (first
                  | (first | (refine quiet_plain rfl ?_) | (refine quiet_yes rfl rfl rfl (by simp only [List.getElem?_toArray, List.getElem?_cons_succ, List.getElem?_cons_zero]; rfl) (by with_reducible constructor) ?_)
                     apply Exists.intro; refine ⟨?_, ?_⟩
                     focus (intro wq hq0; have hq : Own _ _ _ wq := hq0; first | (exact quietAt_rd rfl (by rfl) (by first | exact rd_1 (by repeat constructor) (by first | rfl | assumption) | exact rd_w (by repeat constructor) (by rfl) | exact rd_o (by assumption) (by rfl) (by first | exact nmn | assumption | simp) | exact rd_h (by assumption) (by rfl) (by first | exact nmn | assumption | simp) | exact rd_1o (by assumption) (by first | exact nmn | assumption | simp) | exact rd_1h (by assumption) (by first | rfl | assumption) (by first | exact nmn | assumption | simp)) hq) | (go_simp; first | (with_reducible rfl)))
                     simp only [Act.put, List.setIfInBounds_toArray, List.set_cons_zero, List.set_cons_succ])
                  | (refine quiet_no rfl rfl rfl (by simp only [List.getElem?_toArray, List.getElem?_cons_succ, List.getElem?_cons_zero]; rfl) (by with_reducible constructor) ?_; simp only [Act.put, List.setIfInBounds_toArray, List.set_cons_zero, List.set_cons_succ]))
              refine wpQuiet_nil ?_
              clear hS
              intro ww hS
              go_wp2_with (first | (refine own_unguard (by rfl) ?_) | (refine w_ld rfl _ rfl (by rfl) (by first | exact rd_1 (by repeat constructor) (by first | rfl | assumption) | exact rd_w (by repeat constructor) (by rfl) | exact rd_o (by assumption) (by rfl) (by first | exact nmn | assumption | simp) | exact rd_h (by assumption) (by rfl) (by first | exact nmn | assumption | simp) | exact rd_1o (by assumption) (by first | exact nmn | assumption | simp) | exact rd_1h (by assumption) (by first | rfl | assumption) (by first | exact nmn | assumption | simp)) hS ?_) | (refine own_box rfl _ _ rfl (by rfl) hS ?_; clear hS; (try clear ww); intro bb ww hS) | (refine w_al rfl rfl hS ?_; clear hS; (try clear ww); intro bb ww hS) | (refine w_st rfl _ _ rfl (by rfl) (by rfl) (by repeat constructor) (by rfl) (by rfl) (by first | rfl | assumption) hS ?_; clear hS; (try clear ww); intro ww hS) | (refine w_s1 rfl _ _ rfl (by rfl) (by repeat constructor) (by first | exact .c | exact .t rfl) (by rfl) (by repeat constructor) hS ?_; clear hS; (try clear ww); intro ww hS))
              go_roundw
              case rel => exact ⟨m + 1, hlm, by go_num, E2.out, hS⟩
              case measure => exact loop_meas hlm
            · have E2 := Lib.hid (ValidF.no_fresh HB HZ.out hlm HZ2.out he)
              go_wp2_with (first | (refine own_unguard (by rfl) ?_) | (refine w_ld rfl _ rfl (by rfl) (by first | exact rd_1 (by repeat constructor) (by first | rfl | assumption) | exact rd_w (by repeat constructor) (by rfl) | exact rd_o (by assumption) (by rfl) (by first | exact nmn | assumption | simp) | exact rd_h (by assumption) (by rfl) (by first | exact nmn | assumption | simp) | exact rd_1o (by assumption) (by first | exact nmn | assumption | simp) | exact rd_1h (by assumption) (by first | rfl | assumption) (by first | exact nmn | assumption | simp)) hS ?_) | (refine own_box rfl _ _ rfl (by rfl) hS ?_; clear hS; (try clear ww); intro bb ww hS) | (refine w_al rfl rfl hS ?_; clear hS; (try clear ww); intro bb ww hS) | (refine w_st rfl _ _ rfl (by rfl) (by rfl) (by repeat constructor) (by rfl) (by rfl) (by first | rfl | assumption) hS ?_; clear hS; (try clear ww); intro ww hS) | (refine w_s1 rfl _ _ rfl (by rfl) (by repeat constructor) (by first | exact .c | exact .t rfl) (by rfl) (by repeat constructor) hS ?_; clear hS; (try clear ww); intro ww hS))
              refine own_region hS (by kernel_rfl) (by kernel_rfl) ?_
              (try simp only); (try simp only [List.drop_succ_cons]); (try simp only [List.drop_zero]); (try simp only [List.take_succ_cons]); (try simp only [List.take_zero])
              repeat (first
                  | (first | (refine quiet_plain rfl ?_) | (refine quiet_yes rfl rfl rfl (by simp only [List.getElem?_toArray, List.getElem?_cons_succ, List.getElem?_cons_zero]; rfl) (by with_reducible constructor) ?_)
                     apply Exists.intro; refine ⟨?_, ?_⟩
                     focus (intro wq hq0; have hq : Own _ _ _ wq := hq0; first | (exact quietAt_rd rfl (by rfl) (by first | exact rd_1 (by repeat constructor) (by first | rfl | assumption) | exact rd_w (by repeat constructor) (by rfl) | exact rd_o (by assumption) (by rfl) (by first | exact nmn | assumption | simp) | exact rd_h (by assumption) (by rfl) (by first | exact nmn | assumption | simp) | exact rd_1o (by assumption) (by first | exact nmn | assumption | simp) | exact rd_1h (by assumption) (by first | rfl | assumption) (by first | exact nmn | assumption | simp)) hq) | (go_simp; first | (with_reducible rfl)))
                     simp only [Act.put, List.setIfInBounds_toArray, List.set_cons_zero, List.set_cons_succ])
                  | (refine quiet_no rfl rfl rfl (by simp only [List.getElem?_toArray, List.getElem?_cons_succ, List.getElem?_cons_zero]; rfl) (by with_reducible constructor) ?_; simp only [Act.put, List.setIfInBounds_toArray, List.set_cons_zero, List.set_cons_succ]))
              refine wpQuiet_nil ?_
              clear hS
              intro ww hS
              go_wp2_with (first | (refine own_unguard (by rfl) ?_) | (refine w_ld rfl _ rfl (by rfl) (by first | exact rd_1 (by repeat constructor) (by first | rfl | assumption) | exact rd_w (by repeat constructor) (by rfl) | exact rd_o (by assumption) (by rfl) (by first | exact nmn | assumption | simp) | exact rd_h (by assumption) (by rfl) (by first | exact nmn | assumption | simp) | exact rd_1o (by assumption) (by first | exact nmn | assumption | simp) | exact rd_1h (by assumption) (by first | rfl | assumption) (by first | exact nmn | assumption | simp)) hS ?_) | (refine own_box rfl _ _ rfl (by rfl) hS ?_; clear hS; (try clear ww); intro bb ww hS) | (refine w_al rfl rfl hS ?_; clear hS; (try clear ww); intro bb ww hS) | (refine w_st rfl _ _ rfl (by rfl) (by rfl) (by repeat constructor) (by rfl) (by rfl) (by first | rfl | assumption) hS ?_; clear hS; (try clear ww); intro ww hS) | (refine w_s1 rfl _ _ rfl (by rfl) (by repeat constructor) (by first | exact .c | exact .t rfl) (by rfl) (by repeat constructor) hS ?_; clear hS; (try clear ww); intro ww hS))
              go_ret
              exact ⟨ret_bool E2.out, hS.below⟩
          · obtain rfl : m = k := by omega
            go_wp2_with (first | (refine own_unguard (by rfl) ?_) | (refine w_ld rfl _ rfl (by rfl) (by first | exact rd_1 (by repeat constructor) (by first | rfl | assumption) | exact rd_w (by repeat constructor) (by rfl) | exact rd_o (by assumption) (by rfl) (by first | exact nmn | assumption | simp) | exact rd_h (by assumption) (by rfl) (by first | exact nmn | assumption | simp) | exact rd_1o (by assumption) (by first | exact nmn | assumption | simp) | exact rd_1h (by assumption) (by first | rfl | assumption) (by first | exact nmn | assumption | simp)) hS ?_) | (refine own_box rfl _ _ rfl (by rfl) hS ?_; clear hS; (try clear ww); intro bb ww hS) | (refine w_al rfl rfl hS ?_; clear hS; (try clear ww); intro bb ww hS) | (refine w_st rfl _ _ rfl (by rfl) (by rfl) (by repeat constructor) (by rfl) (by rfl) (by first | rfl | assumption) hS ?_; clear hS; (try clear ww); intro ww hS) | (refine w_s1 rfl _ _ rfl (by rfl) (by repeat constructor) (by first | exact .c | exact .t rfl) (by rfl) (by repeat constructor) hS ?_; clear hS; (try clear ww); intro ww hS))
            go_roundw
            case rel => exact ⟨m + 1, hlt, by go_num, strs_next HP HZ.out HR.out HFr.out, hS⟩
            case measure => exact loop_meas hlt
      · have H5 := Lib.hid hr
        have E1 := Lib.hid (ValidF.no_str HB HZ.out hr)
        clear hr
        go_wp2_with (first | (refine own_unguard (by rfl) ?_) | (refine w_ld rfl _ rfl (by rfl) (by first | exact rd_1 (by repeat constructor) (by first | rfl | assumption) | exact rd_w (by repeat constructor) (by rfl) | exact rd_o (by assumption) (by rfl) (by first | exact nmn | assumption | simp) | exact rd_h (by assumption) (by rfl) (by first | exact nmn | assumption | simp) | exact rd_1o (by assumption) (by first | exact nmn | assumption | simp) | exact rd_1h (by assumption) (by first | rfl | assumption) (by first | exact nmn | assumption | simp)) hS ?_) | (refine own_box rfl _ _ rfl (by rfl) hS ?_; clear hS; (try clear ww); intro bb ww hS) | (refine w_al rfl rfl hS ?_; clear hS; (try clear ww); intro bb ww hS) | (refine w_st rfl _ _ rfl (by rfl) (by rfl) (by repeat constructor) (by rfl) (by rfl) (by first | rfl | assumption) hS ?_; clear hS; (try clear ww); intro ww hS) | (refine w_s1 rfl _ _ rfl (by rfl) (by repeat constructor) (by first | exact .c | exact .t rfl) (by rfl) (by repeat constructor) hS ?_; clear hS; (try clear ww); intro ww hS))
        refine own_region hS (by kernel_rfl) (by kernel_rfl) ?_
        (try simp only); (try simp only [List.drop_succ_cons]); (try simp only [List.drop_zero]); (try simp only [List.take_succ_cons]); (try simp only [List.take_zero])
        repeat (first
            | (first | (refine quiet_plain rfl ?_) | (refine quiet_yes rfl rfl rfl (by simp only [List.getElem?_toArray, List.getElem?_cons_succ, List.getElem?_cons_zero]; rfl) (by with_reducible constructor) ?_)
               apply Exists.intro; refine ⟨?_, ?_⟩
               focus (intro wq hq0; have hq : Own _ _ _ wq := hq0; first | (exact quietAt_rd rfl (by rfl) (by first | exact rd_1 (by repeat constructor) (by first | rfl | assumption) | exact rd_w (by repeat constructor) (by rfl) | exact rd_o (by assumption) (by rfl) (by first | exact nmn | assumption | simp) | exact rd_h (by assumption) (by rfl) (by first | exact nmn | assumption | simp) | exact rd_1o (by assumption) (by first | exact nmn | assumption | simp) | exact rd_1h (by assumption) (by first | rfl | assumption) (by first | exact nmn | assumption | simp)) hq) | (go_simp; first | (go_at_call 32; exact quietG hq (ref05_stretch_calls ⟨gx, gc, gs, some ⟨b0, o0, none⟩, fc, ss, q0, q1, q2, q3, q4, q5, q6, q7, q8, q9, q10, q11, q12, q13, q14, q15, q16, q17, q18, q19⟩ n sx px sc pc sz ps ov _ (HF.out.below hq.below) (Nat.le_trans HN.out.1 (by omega)) HM.out (HT.out.below hq.below) _ (iff_f H5.out))) | (with_reducible rfl)))
               simp only [Act.put, List.setIfInBounds_toArray, List.set_cons_zero, List.set_cons_succ])
            | (refine quiet_no rfl rfl rfl (by simp only [List.getElem?_toArray, List.getElem?_cons_succ, List.getElem?_cons_zero]; rfl) (by with_reducible constructor) ?_; simp only [Act.put, List.setIfInBounds_toArray, List.set_cons_zero, List.set_cons_succ]))
        refine wpQuiet_nil ?_
        clear hS
        intro ww hS
        go_wp2_with (first | (refine own_unguard (by rfl) ?_) | (refine w_ld rfl _ rfl (by rfl) (by first | exact rd_1 (by repeat constructor) (by first | rfl | assumption) | exact rd_w (by repeat constructor) (by rfl) | exact rd_o (by assumption) (by rfl) (by first | exact nmn | assumption | simp) | exact rd_h (by assumption) (by rfl) (by first | exact nmn | assumption | simp) | exact rd_1o (by assumption) (by first | exact nmn | assumption | simp) | exact rd_1h (by assumption) (by first | rfl | assumption) (by first | exact nmn | assumption | simp)) hS ?_) | (refine own_box rfl _ _ rfl (by rfl) hS ?_; clear hS; (try clear ww); intro bb ww hS) | (refine w_al rfl rfl hS ?_; clear hS; (try clear ww); intro bb ww hS) | (refine w_st rfl _ _ rfl (by rfl) (by rfl) (by repeat constructor) (by rfl) (by rfl) (by first | rfl | assumption) hS ?_; clear hS; (try clear ww); intro ww hS) | (refine w_s1 rfl _ _ rfl (by rfl) (by repeat constructor) (by first | exact .c | exact .t rfl) (by rfl) (by repeat constructor) hS ?_; clear hS; (try clear ww); intro ww hS))
        go_ret
        exact ⟨ret_bool E1.out, hS.below⟩
    · obtain rfl := HL.out
      clear HL
      have E1 := Lib.hid (ValidF.yes HB HN.out H3.out HG.out (fun j hj => HP.out j (by simp only at hj; omega)))
      go_wp2_with (first | (refine own_unguard (by rfl) ?_) | (refine w_ld rfl _ rfl (by rfl) (by first | exact rd_1 (by repeat constructor) (by first | rfl | assumption) | exact rd_w (by repeat constructor) (by rfl) | exact rd_o (by assumption) (by rfl) (by first | exact nmn | assumption | simp) | exact rd_h (by assumption) (by rfl) (by first | exact nmn | assumption | simp) | exact rd_1o (by assumption) (by first | exact nmn | assumption | simp) | exact rd_1h (by assumption) (by first | rfl | assumption) (by first | exact nmn | assumption | simp)) hS ?_) | (refine own_box rfl _ _ rfl (by rfl) hS ?_; clear hS; (try clear ww); intro bb ww hS) | (refine w_al rfl rfl hS ?_; clear hS; (try clear ww); intro bb ww hS) | (refine w_st rfl _ _ rfl (by rfl) (by rfl) (by repeat constructor) (by rfl) (by rfl) (by first | rfl | assumption) hS ?_; clear hS; (try clear ww); intro ww hS) | (refine w_s1 rfl _ _ rfl (by rfl) (by repeat constructor) (by first | exact .c | exact .t rfl) (by rfl) (by repeat constructor) hS ?_; clear hS; (try clear ww); intro ww hS))
      go_ret
      exact ⟨ret_bool E1.out, hS.below⟩

theorem ref05_Valid_calls (F : Fnt) (w : World) (hF : FntOk w F) (hq : F.gs.length ≤ 500 ∧ F.ss.length ≤ 50) (b : Bool) (hb : b = true ↔ ValidF F) : Calls Try.prog 16 #[F.val] w (Gives (.bool b) w) := by
  have hq' : F.gs.length ≤ 1000000 ∧ F.ss.length ≤ 1000000 := by omega
  have hno : ¬ ValidF F → b = false := fun h => (ValidF.no (Lib.hid hb) h).symm
  by_cases h1 : F.gs.length ≤ 400
  · by_cases h2 : F.ss.length ≤ 40
    · cases h3 : prmOk F
      · rw [hno (fun h => by rw [h.2.2.1] at h3; cases h3)]
        exact ref05_Valid_c F w hF hq' h1 h2 h3
      · by_cases h4 : GlysOk F.gs
        · exact ref05_Valid_e F w hF h1 h2 h3 h4 b hb
        · rw [hno (fun h => h4 h.2.2.2.1)]
          exact ref05_Valid_d F w hF hq' h1 h2 h3 h4
    · rw [hno (fun h => h2 h.2.1)]
      exact ref05_Valid_b F w hF hq' h1 h2
  · rw [hno (fun h => h1 h.1)]
    exact ref05_Valid_a F w hF hq' h1

end Go.Proofs.Ytgpabckipmhobaa
namespace Go.Proofs.Ytgpabckipmhobaa
open Go.RowKit

/-- Block b is a map that holds the heights of these glyphs, whose names differ. -/
def MapAt (w : World) (b : Nat) (gs : List Gly) : Prop :=
  ∃ es clock, w.heap[b]? = some (.map es clock) ∧ es.toList.map (fun e => (e.key, e.val)) = gs.map fun g => (Value.string g.name, Value.int .i64 (g.h + g.d))
/-- The height of the glyph with a name; 0 if there is none. -/
def htOr (gs : List Gly) (s : ByteArray) : Int := match findG gs s with | some g => g.h + g.d | none => 0

theorem MapAt.made (w : World) : MapAt (w.alloc (.map #[] 0)) w.heap.size [] := ⟨#[], 0, heap_alloc_new w _, rfl⟩
theorem MapAt.lt {w : World} {b : Nat} {gs : List Gly} (h : MapAt w b gs) : b < w.heap.size := by
  obtain ⟨es, c, h, _⟩ := h
  exact (Array.getElem?_eq_some_iff.1 h).1
theorem MapAt.below {w w' : World} {b : Nat} {gs : List Gly} (h : MapAt w b gs) (hb : Below w.heap.size w w') : MapAt w' b gs := by
  have hlt := h.lt
  obtain ⟨es, c, h, he⟩ := h
  exact ⟨es, c, (hb.block b hlt).trans h, he⟩
theorem MapAt.ne {w : World} {b b' : Nat} {gs : List Gly} {cs : List Value} (h : MapAt w b gs) (h' : Has w b' cs) : b' ≠ b := by
  rintro rfl
  obtain ⟨es, c, h, _⟩ := h
  obtain ⟨t, h'⟩ := h'
  rw [h] at h'
  cases h'

theorem findNow_names (s : ByteArray) : ∀ (gs : List Gly) (es : List MapEntry) (i : Nat), es.map (fun e => (e.key, e.val)) = (gs.map fun g => (Value.string g.name, Value.int .i64 (g.h + g.d))) →
    ∃ r, Instr.findNow .string (.string s) es i = some r ∧ r.map (·.2) = (findG gs s).map fun g => Value.int .i64 (g.h + g.d) := by
  intro gs
  induction gs with
  | nil =>
    intro es i h
    simp at h
    subst h
    exact ⟨none, rfl, rfl⟩
  | cons g gs ih =>
    intro es i h
    cases es with
    | nil => simp at h
    | cons e es =>
      simp only [List.map_cons, List.cons.injEq, Prod.mk.injEq] at h
      obtain ⟨⟨hk, hv⟩, hr⟩ := h
      unfold Instr.findNow
      rw [hk]
      simp only [Instr.sameNow, beq_toListBytes]
      by_cases hs : (s.toList == g.name.toList) = true
      · rw [hs]
        refine ⟨some (i, e.val), rfl, ?_⟩
        have hs' : (g.name.toList == s.toList) = true := by rw [beq_iff_eq] at hs ⊢; exact hs.symm
        simp [findG, hs', hv]
      · have hs1 : (s.toList == g.name.toList) = false := by simpa using hs
        have hs' : (g.name.toList == s.toList) = false := by
          rw [beq_eq_false_iff_ne] at hs1 ⊢; exact fun h => hs1 h.symm
        rw [hs1]
        obtain ⟨r, h1, h2⟩ := ih es (i + 1) hr
        refine ⟨r, h1, ?_⟩
        rw [h2]
        simp [findG, hs']

section
variable {P : Program} {w : World} {t k e : TypeId}
theorem run_checkKey_string (hk : P.underlying k = some .string) (b : Bool) (s : ByteArray) : (Instr.checkKey b 10000 k (.string s)).run P w = .ok () w := by
  rw [show (10000 : Nat) = 9999 + 1 from rfl]
  unfold Instr.checkKey
  simp [run_underlying hk]
theorem run_lookup_names (ht : P.underlying t = some (.map k e)) (hk : P.underlying k = some .string) (hz : (zeroValue e).run P w = .ok (.int .i64 0) w) {b : Nat} {gs : List Gly} (h : MapAt w b gs) (s : ByteArray) :
    (Instr.lookup t (.map (some b)) (.string s) true).run P w = .ok (.tuple #[.int .i64 (htOr gs s), .bool (findG gs s).isSome]) w := by
  obtain ⟨es, c, hb, he⟩ := h
  obtain ⟨r, h1, h2⟩ := findNow_names s gs es.toList 0 he
  unfold Instr.lookup Instr.findKey
  simp only [Sem.run_bind, run_underlying ht, Result.andThen_ok, MapKept.run_getObj_map hb, run_checkKey_string hk, run_underlying hk, h1, Sem.run_pure]
  cases hf : findG gs s with
  | none =>
    rw [hf] at h2
    cases r with
    | none => simp [hz, htOr, hf]
    | some x => simp at h2
  | some g =>
    rw [hf] at h2
    cases r with
    | none => simp at h2
    | some x =>
      obtain ⟨j, v⟩ := x
      simp at h2
      simp [h2, htOr, hf]
/-- One entry more. -/
theorem run_update_names (ht : P.underlying t = some (.map k e)) (hk : P.underlying k = some .string) {b : Nat} {gs : List Gly} (h : MapAt w b gs) (g : Gly) (hn : findG gs g.name = none) :
    ∃ w', (Instr.mapUpdate t (.map (some b)) (.string g.name) (.int .i64 (g.h + g.d))).run P w = .ok () w' ∧ MapAt w' b (gs ++ [g]) ∧ w'.os = w.os ∧ w'.tape = w.tape ∧ w'.output = w.output ∧ w'.heap.size = w.heap.size ∧ ∀ i, i ≠ b → w'.heap[i]? = w.heap[i]? := by
  obtain ⟨es, c, hb, he⟩ := h
  obtain ⟨r, h1, h2⟩ := findNow_names g.name gs es.toList 0 he
  rw [hn] at h2
  have hr : r = none := by cases r <;> simp_all
  subst hr
  refine ⟨{ w with heap := w.heap.setIfInBounds b (.map (es.push { key := .string g.name, val := .int .i64 (g.h + g.d), born := c }) (c + 1)) }, ?_, ?_, rfl, rfl, rfl, by simp, fun i hi => ?_⟩
  · unfold Instr.mapUpdate Instr.findKey
    simp only [Sem.run_bind, run_underlying ht, Result.andThen_ok, MapKept.run_getObj_map hb, run_checkKey_string hk, run_underlying hk, h1, Sem.run_pure]
    simp [setObj, Sem.run, hb]
  · refine ⟨es.push { key := .string g.name, val := .int .i64 (g.h + g.d), born := c }, c + 1, ?_, ?_⟩
    · show (w.heap.setIfInBounds b _)[b]? = some _
      have hlt : b < w.heap.size := (Array.getElem?_eq_some_iff.1 hb).1
      rw [Array.getElem?_setIfInBounds_self_of_lt hlt]
    · simp [he]
  · show (w.heap.setIfInBounds b _)[i]? = _
    rw [Array.getElem?_setIfInBounds_ne (Ne.symm hi)]
end
end Go.Proofs.Ytgpabckipmhobaa
