/- The law FontValid: what its call returns. -/
import Derived.Test.YtgknameejoalnaaVlf
import Derived.Test.YtgknameejoalnaaL05a
namespace Go.Proofs.Ytgknameejoalnaa
open Go.RowKit

attribute [local irreducible] wpQuiet wpG wpP wpList Code.wp

theorem few_v {F : Fnt} {w : World} {v : Bool} (hF : FntOk w F) (hv : Hid (fewB F = v)) : Calls Try.prog 14 #[F.val] w (Gives (.bool v) w) := by
  have := ref05_Few_calls F w hF
  rwa [hv.out] at this

set_option maxHeartbeats 4000000 in
set_option maxRecDepth 100000 in
theorem fontValid_calls (F : Fnt) (w : World) (hF : FntOk w F) : Calls Try.prog 6 #[F.val] w (Gives (.bool true) w) := by
  obtain ⟨b, hb⟩ : ∃ b : Bool, b = true ↔ ValidF F := by
    by_cases h : ValidF F
    · exact ⟨true, iff_t h⟩
    · exact ⟨false, iff_f h⟩
  have HF := Lib.hid hF
  have HB := Lib.hid hb
  clear hF hb
  cases hfew : fewB F
  · have HE := Lib.hid hfew
    clear hfew
    go_enter Try.func6, Try.ntmps6
    have hS := own_start w
    go_wp2_with (first
      | (refine own_unguard (by rfl) ?_)
      | (go_at_call 10; refine own_calls hS (awake05_calls _) ?_; clear hS; (try clear ww); intro ww hS)
      | (refine own_load1 rfl _ _ rfl rfl hS (by first | exact at0 | exact at1 | exact at2 | exact at3 | exact at4 | exact at5 | exact at6 | exact at7 | exact at8) (by first | exact ot_int) (by first | rfl | assumption) ?_)
      | (refine own_load rfl _ _ rfl rfl hS (by first | exact at0 | exact at1 | exact at2 | exact at3 | exact at4 | exact at5 | exact at6 | exact at7 | exact at8) (by first | exact rt_font) ?_)
      | (refine own_load_old rfl _ _ rfl rfl hS (by assumption) (by first | exact List.not_mem_nil | assumption) (by first | exact rt_font) ?_)
      | (refine own_load_has rfl _ _ rfl rfl hS (by assumption) (by first | exact List.not_mem_nil | assumption) (by first | exact rt_font) ?_)
      | (refine own_load1_old rfl _ _ rfl rfl hS (by assumption) (by first | exact List.not_mem_nil | assumption) (by first | exact ot_int) ?_)
      | (refine own_load1_has rfl _ _ rfl rfl hS (by assumption) (by first | exact List.not_mem_nil | assumption) (by first | exact ot_int) (by first | rfl | assumption) ?_)
      | (refine own_box rfl _ _ rfl rfl hS ?_; clear hS; (try clear ww); intro bb ww hS)
      | (refine own_store rfl _ _ _ rfl rfl rfl hS (by first | exact at0 | exact at1 | exact at2 | exact at3 | exact at4 | exact at5 | exact at6 | exact at7 | exact at8) (by first | exact rt_font) (by rfl) (by rfl) ?_; clear hS; (try clear ww); intro ww hS; simp only [List.set_cons_zero, List.set_cons_succ] at hS)
      | (refine own_store1 rfl _ _ _ rfl rfl rfl rfl hS (by first | exact at0 | exact at1 | exact at2 | exact at3 | exact at4 | exact at5 | exact at6 | exact at7 | exact at8) (by first | exact ot_int) (by simp) ?_; clear hS; (try clear ww); intro ww hS; simp only [List.set_cons_zero, List.set_cons_succ, Act.eval, Array.getD_eq_getD_getElem?, List.getElem?_toArray, List.getElem?_cons_succ, List.getElem?_cons_zero, Option.getD_some] at hS))
    refine own_region hS (by kernel_rfl) (by kernel_rfl) ?_
    try simp only [Nat.reduceSub, List.take_succ_cons, List.take_zero, List.drop_succ_cons, List.drop_zero]
    repeat (first
        | (refine quiet_plain (by with_reducible rfl) ?_
           apply Exists.intro
           refine ⟨?_, ?_⟩
           focus (intro wq hq0; have hq : Own _ _ _ wq := hq0; first | (exact quietAt_row rfl rfl (Own.get hq at0) (by first | exact rt_font)) | (go_simp; first | (go_at_call 14; exact quietG hq (few_v (HF.out.below hq.below) HE)) | (with_reducible rfl)))
           simp only [Act.put, List.setIfInBounds_toArray, List.set_cons_zero, List.set_cons_succ])
        | (refine quiet_at (by with_reducible rfl) (by rfl) (by rfl) (by simp only [List.getElem?_toArray, List.getElem?_cons_succ, List.getElem?_cons_zero]; rfl) ?_
           first | (with_reducible refine QG_tt ?_) | (with_reducible refine QG_ff ?_)
           apply Exists.intro
           refine ⟨?_, ?_⟩
           focus (intro wq hq0; have hq : Own _ _ _ wq := hq0; first | (exact quietAt_row rfl rfl (Own.get hq at0) (by first | exact rt_font)) | (go_simp; first | (go_at_call 14; exact quietG hq (few_v (HF.out.below hq.below) HE)) | (with_reducible rfl)))
           simp only [Act.put, List.setIfInBounds_toArray, List.set_cons_zero, List.set_cons_succ])
        | (refine quiet_at (by with_reducible rfl) (by rfl) (by rfl) (by simp only [List.getElem?_toArray, List.getElem?_cons_succ, List.getElem?_cons_zero]; rfl) ?_
           first | (with_reducible refine QG_tf ?_) | (with_reducible refine QG_ft ?_) | (with_reducible refine QG_u ?_)
           simp only [Act.put, List.setIfInBounds_toArray, List.set_cons_zero, List.set_cons_succ]))
    refine wpQuiet_nil ?_
    clear hS
    intro ww hS
    go_wp2_with (first
      | (refine own_unguard (by rfl) ?_)
      | (refine own_load1 rfl _ _ rfl rfl hS (by first | exact at0 | exact at1 | exact at2 | exact at3 | exact at4 | exact at5 | exact at6 | exact at7 | exact at8) (by first | exact ot_int) (by first | rfl | assumption) ?_)
      | (refine own_load rfl _ _ rfl rfl hS (by first | exact at0 | exact at1 | exact at2 | exact at3 | exact at4 | exact at5 | exact at6 | exact at7 | exact at8) (by first | exact rt_font) ?_)
      | (refine own_load_old rfl _ _ rfl rfl hS (by assumption) (by first | exact List.not_mem_nil | assumption) (by first | exact rt_font) ?_)
      | (refine own_load_has rfl _ _ rfl rfl hS (by assumption) (by first | exact List.not_mem_nil | assumption) (by first | exact rt_font) ?_)
      | (refine own_load1_old rfl _ _ rfl rfl hS (by assumption) (by first | exact List.not_mem_nil | assumption) (by first | exact ot_int) ?_)
      | (refine own_load1_has rfl _ _ rfl rfl hS (by assumption) (by first | exact List.not_mem_nil | assumption) (by first | exact ot_int) (by first | rfl | assumption) ?_)
      | (refine own_box rfl _ _ rfl rfl hS ?_; clear hS; (try clear ww); intro bb ww hS)
      | (refine own_store rfl _ _ _ rfl rfl rfl hS (by first | exact at0 | exact at1 | exact at2 | exact at3 | exact at4 | exact at5 | exact at6 | exact at7 | exact at8) (by first | exact rt_font) (by rfl) (by rfl) ?_; clear hS; (try clear ww); intro ww hS; simp only [List.set_cons_zero, List.set_cons_succ] at hS)
      | (refine own_store1 rfl _ _ _ rfl rfl rfl rfl hS (by first | exact at0 | exact at1 | exact at2 | exact at3 | exact at4 | exact at5 | exact at6 | exact at7 | exact at8) (by first | exact ot_int) (by simp) ?_; clear hS; (try clear ww); intro ww hS; simp only [List.set_cons_zero, List.set_cons_succ, Act.eval, Array.getD_eq_getD_getElem?, List.getElem?_toArray, List.getElem?_cons_succ, List.getElem?_cons_zero, Option.getD_some] at hS))
    go_ret
    exact own_gives hS
  · have HE := Lib.hid hfew
    have HN := Lib.hid (fewB_iff.1 hfew)
    clear hfew
    go_enter Try.func6, Try.ntmps6
    have hS := own_start w
    go_wp2_with (first
      | (refine own_unguard (by rfl) ?_)
      | (go_at_call 10; refine own_calls hS (awake05_calls _) ?_; clear hS; (try clear ww); intro ww hS)
      | (refine own_load1 rfl _ _ rfl rfl hS (by first | exact at0 | exact at1 | exact at2 | exact at3 | exact at4 | exact at5 | exact at6 | exact at7 | exact at8) (by first | exact ot_int) (by first | rfl | assumption) ?_)
      | (refine own_load rfl _ _ rfl rfl hS (by first | exact at0 | exact at1 | exact at2 | exact at3 | exact at4 | exact at5 | exact at6 | exact at7 | exact at8) (by first | exact rt_font) ?_)
      | (refine own_load_old rfl _ _ rfl rfl hS (by assumption) (by first | exact List.not_mem_nil | assumption) (by first | exact rt_font) ?_)
      | (refine own_load_has rfl _ _ rfl rfl hS (by assumption) (by first | exact List.not_mem_nil | assumption) (by first | exact rt_font) ?_)
      | (refine own_load1_old rfl _ _ rfl rfl hS (by assumption) (by first | exact List.not_mem_nil | assumption) (by first | exact ot_int) ?_)
      | (refine own_load1_has rfl _ _ rfl rfl hS (by assumption) (by first | exact List.not_mem_nil | assumption) (by first | exact ot_int) (by first | rfl | assumption) ?_)
      | (refine own_box rfl _ _ rfl rfl hS ?_; clear hS; (try clear ww); intro bb ww hS)
      | (refine own_store rfl _ _ _ rfl rfl rfl hS (by first | exact at0 | exact at1 | exact at2 | exact at3 | exact at4 | exact at5 | exact at6 | exact at7 | exact at8) (by first | exact rt_font) (by rfl) (by rfl) ?_; clear hS; (try clear ww); intro ww hS; simp only [List.set_cons_zero, List.set_cons_succ] at hS)
      | (refine own_store1 rfl _ _ _ rfl rfl rfl rfl hS (by first | exact at0 | exact at1 | exact at2 | exact at3 | exact at4 | exact at5 | exact at6 | exact at7 | exact at8) (by first | exact ot_int) (by simp) ?_; clear hS; (try clear ww); intro ww hS; simp only [List.set_cons_zero, List.set_cons_succ, Act.eval, Array.getD_eq_getD_getElem?, List.getElem?_toArray, List.getElem?_cons_succ, List.getElem?_cons_zero, Option.getD_some] at hS))
    refine own_region hS (by kernel_rfl) (by kernel_rfl) ?_
    try simp only [Nat.reduceSub, List.take_succ_cons, List.take_zero, List.drop_succ_cons, List.drop_zero]
    repeat (first
        | (refine quiet_plain (by with_reducible rfl) ?_
           apply Exists.intro
           refine ⟨?_, ?_⟩
           focus (intro wq hq0; have hq : Own _ _ _ wq := hq0; first | (exact quietAt_row rfl rfl (Own.get hq at0) (by first | exact rt_font)) | (go_simp; first | (go_at_call 14; exact quietG hq (few_v (HF.out.below hq.below) HE)) | (go_at_call 22; exact quietG hq (font_Valid_calls F _ (HF.out.below hq.below) b HB.out)) | (go_at_call 23; exact quietG hq (ref05_Valid_calls F _ (HF.out.below hq.below) ⟨HN.out.1, HN.out.2.1⟩ b HB.out)) | (with_reducible rfl)))
           simp only [Act.put, List.setIfInBounds_toArray, List.set_cons_zero, List.set_cons_succ])
        | (refine quiet_at (by with_reducible rfl) (by rfl) (by rfl) (by simp only [List.getElem?_toArray, List.getElem?_cons_succ, List.getElem?_cons_zero]; rfl) ?_
           first | (with_reducible refine QG_tt ?_) | (with_reducible refine QG_ff ?_)
           apply Exists.intro
           refine ⟨?_, ?_⟩
           focus (intro wq hq0; have hq : Own _ _ _ wq := hq0; first | (exact quietAt_row rfl rfl (Own.get hq at0) (by first | exact rt_font)) | (go_simp; first | (go_at_call 14; exact quietG hq (few_v (HF.out.below hq.below) HE)) | (go_at_call 22; exact quietG hq (font_Valid_calls F _ (HF.out.below hq.below) b HB.out)) | (go_at_call 23; exact quietG hq (ref05_Valid_calls F _ (HF.out.below hq.below) ⟨HN.out.1, HN.out.2.1⟩ b HB.out)) | (with_reducible rfl)))
           simp only [Act.put, List.setIfInBounds_toArray, List.set_cons_zero, List.set_cons_succ])
        | (refine quiet_at (by with_reducible rfl) (by rfl) (by rfl) (by simp only [List.getElem?_toArray, List.getElem?_cons_succ, List.getElem?_cons_zero]; rfl) ?_
           first | (with_reducible refine QG_tf ?_) | (with_reducible refine QG_ft ?_) | (with_reducible refine QG_u ?_)
           simp only [Act.put, List.setIfInBounds_toArray, List.set_cons_zero, List.set_cons_succ]))
    refine wpQuiet_nil ?_
    clear hS
    intro ww hS
    go_wp2_with (first
      | (refine own_unguard (by rfl) ?_)
      | (refine own_load1 rfl _ _ rfl rfl hS (by first | exact at0 | exact at1 | exact at2 | exact at3 | exact at4 | exact at5 | exact at6 | exact at7 | exact at8) (by first | exact ot_int) (by first | rfl | assumption) ?_)
      | (refine own_load rfl _ _ rfl rfl hS (by first | exact at0 | exact at1 | exact at2 | exact at3 | exact at4 | exact at5 | exact at6 | exact at7 | exact at8) (by first | exact rt_font) ?_)
      | (refine own_load_old rfl _ _ rfl rfl hS (by assumption) (by first | exact List.not_mem_nil | assumption) (by first | exact rt_font) ?_)
      | (refine own_load_has rfl _ _ rfl rfl hS (by assumption) (by first | exact List.not_mem_nil | assumption) (by first | exact rt_font) ?_)
      | (refine own_load1_old rfl _ _ rfl rfl hS (by assumption) (by first | exact List.not_mem_nil | assumption) (by first | exact ot_int) ?_)
      | (refine own_load1_has rfl _ _ rfl rfl hS (by assumption) (by first | exact List.not_mem_nil | assumption) (by first | exact ot_int) (by first | rfl | assumption) ?_)
      | (refine own_box rfl _ _ rfl rfl hS ?_; clear hS; (try clear ww); intro bb ww hS)
      | (refine own_store rfl _ _ _ rfl rfl rfl hS (by first | exact at0 | exact at1 | exact at2 | exact at3 | exact at4 | exact at5 | exact at6 | exact at7 | exact at8) (by first | exact rt_font) (by rfl) (by rfl) ?_; clear hS; (try clear ww); intro ww hS; simp only [List.set_cons_zero, List.set_cons_succ] at hS)
      | (refine own_store1 rfl _ _ _ rfl rfl rfl rfl hS (by first | exact at0 | exact at1 | exact at2 | exact at3 | exact at4 | exact at5 | exact at6 | exact at7 | exact at8) (by first | exact ot_int) (by simp) ?_; clear hS; (try clear ww); intro ww hS; simp only [List.set_cons_zero, List.set_cons_succ, Act.eval, Array.getD_eq_getD_getElem?, List.getElem?_toArray, List.getElem?_cons_succ, List.getElem?_cons_zero, Option.getD_some] at hS))
    go_ret
    exact own_gives hS

end Go.Proofs.Ytgknameejoalnaa
