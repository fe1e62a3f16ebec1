/- The law StylePercent: what its call returns. -/
import Derived.Test.YtillohdeljlchaaPct
import Derived.Test.YtillohdeljlchaaAwk
namespace Go.Proofs.Ytillohdeljlchaa
open Go.RowKit

attribute [local irreducible] wpQuiet wpG wpP wpList Code.wp

theorem few_v {F : Fnt} {w : World} {v : Bool} (hF : FntOk w F) (hv : Hid (fewB F = v)) : Calls Try.prog 18 #[F.val] w (Gives (.bool v) w) := by
  have := ref05_Few_calls F w hF
  rwa [hv.out] at this

set_option maxHeartbeats 4000000 in
set_option maxRecDepth 100000 in
theorem percent_few (F : Fnt) (l : Int) (c : Bool) (w : World) (hF : FntOk w F) (hfew : fewB F = false) : Calls Try.prog 8 #[F.val, .agg #[.int .i64 l, .bool c]] w (Gives (.bool true) w) := by
  have HF := Lib.hid hF
  have HE := Lib.hid hfew
  clear hF hfew
  go_enter Try.func8, Try.ntmps8
  have hS := own_start w
  go_wp2_with (first
    | (refine own_unguard (by rfl) ?_)
    | (go_at_call 10; refine own_calls hS (awake25_calls _) ?_; clear hS; (try clear ww); intro ww hS)
    | (go_at_call 18; refine own_calls hS (few_v (HF.out.below hS.below) HE) ?_; clear hS; (try clear ww); intro ww hS)
    | (refine own_load1 rfl _ _ rfl rfl hS (by first | exact at0 | exact at1 | exact at2 | exact at3 | exact at4 | exact at5 | exact at6 | exact at7 | exact at8) (by first | exact ot_int | exact ot_bool) (by first | rfl | assumption) ?_)
    | (refine own_load rfl _ _ rfl rfl hS (by first | exact at0 | exact at1 | exact at2 | exact at3 | exact at4 | exact at5 | exact at6 | exact at7 | exact at8) (by first | exact rt_font | exact rt_style) ?_)
    | (refine own_load_old rfl _ _ rfl rfl hS (by assumption) (by first | exact List.not_mem_nil | assumption) (by first | exact rt_font | exact rt_style) ?_)
    | (refine own_load_has rfl _ _ rfl rfl hS (by assumption) (by first | exact List.not_mem_nil | assumption) (by first | exact rt_font | exact rt_style) ?_)
    | (refine own_load1_old rfl _ _ rfl rfl hS (by assumption) (by first | exact List.not_mem_nil | assumption) (by first | exact ot_int | exact ot_bool) ?_)
    | (refine own_load1_has rfl _ _ rfl rfl hS (by assumption) (by first | exact List.not_mem_nil | assumption) (by first | exact ot_int | exact ot_bool) (by first | rfl | assumption) ?_)
    | (refine own_box rfl _ _ rfl rfl hS ?_; clear hS; (try clear ww); intro bb ww hS)
    | (refine own_alloc rfl _ rfl hS (by first | exact zt_style) ?_; clear hS; (try clear ww); intro bb ww hS)
    | (refine own_store rfl _ _ _ rfl rfl rfl hS (by first | exact at0 | exact at1 | exact at2 | exact at3 | exact at4 | exact at5 | exact at6 | exact at7 | exact at8) (by first | exact rt_font | exact rt_style) (by rfl) (by rfl) ?_; clear hS; (try clear ww); intro ww hS; simp only [List.set_cons_zero, List.set_cons_succ] at hS)
    | (refine own_store1 rfl _ _ _ rfl rfl rfl rfl hS (by first | exact at0 | exact at1 | exact at2 | exact at3 | exact at4 | exact at5 | exact at6 | exact at7 | exact at8) (by first | exact ot_int | exact ot_bool) (by simp) ?_; clear hS; (try clear ww); intro ww hS; simp only [List.set_cons_zero, List.set_cons_succ, Act.eval, Array.getD_eq_getD_getElem?, List.getElem?_toArray, List.getElem?_cons_succ, List.getElem?_cons_zero, Option.getD_some] at hS))
  go_ret
  exact own_gives hS

set_option maxHeartbeats 4000000 in
set_option maxRecDepth 100000 in
theorem percent_same (F : Fnt) (l p e : Int) (c : Bool) (w : World) (hF : FntOk w F) (hfew : fewB F = true)
    (hp : ∀ w', FntOk w' F → Calls Try.prog 19 #[F.val, .agg #[.int .i64 l, .bool c]] w' (Gives (.tuple #[.int .i64 p, .int .i64 e]) w'))
    (hr : ∀ w', FntOk w' F → Calls Try.prog 20 #[F.val, .agg #[.int .i64 l, .bool c]] w' (Gives (.tuple #[.int .i64 p, .int .i64 e]) w')) : Calls Try.prog 8 #[F.val, .agg #[.int .i64 l, .bool c]] w (Gives (.bool true) w) := by
  have HF := Lib.hid hF
  have HE := Lib.hid hfew
  have HP := Lib.hid hp
  have HR := Lib.hid hr
  clear hF hfew hp hr
  go_enter Try.func8, Try.ntmps8
  have hS := own_start w
  go_wp2_with (first
    | (refine own_unguard (by rfl) ?_)
    | (go_at_call 10; refine own_calls hS (awake25_calls _) ?_; clear hS; (try clear ww); intro ww hS)
    | (go_at_call 18; refine own_calls hS (few_v (HF.out.below hS.below) HE) ?_; clear hS; (try clear ww); intro ww hS)
    | (go_at_call 19; refine own_calls hS (HP.out _ (HF.out.below hS.below)) ?_; clear hS; (try clear ww); intro ww hS)
    | (go_at_call 20; refine own_calls hS (HR.out _ (HF.out.below hS.below)) ?_; clear hS; (try clear ww); intro ww hS)
    | (refine own_load1 rfl _ _ rfl rfl hS (by first | exact at0 | exact at1 | exact at2 | exact at3 | exact at4 | exact at5 | exact at6 | exact at7 | exact at8) (by first | exact ot_int | exact ot_bool) (by first | rfl | assumption) ?_)
    | (refine own_load rfl _ _ rfl rfl hS (by first | exact at0 | exact at1 | exact at2 | exact at3 | exact at4 | exact at5 | exact at6 | exact at7 | exact at8) (by first | exact rt_font | exact rt_style) ?_)
    | (refine own_load_old rfl _ _ rfl rfl hS (by assumption) (by first | exact List.not_mem_nil | assumption) (by first | exact rt_font | exact rt_style) ?_)
    | (refine own_load_has rfl _ _ rfl rfl hS (by assumption) (by first | exact List.not_mem_nil | assumption) (by first | exact rt_font | exact rt_style) ?_)
    | (refine own_load1_old rfl _ _ rfl rfl hS (by assumption) (by first | exact List.not_mem_nil | assumption) (by first | exact ot_int | exact ot_bool) ?_)
    | (refine own_load1_has rfl _ _ rfl rfl hS (by assumption) (by first | exact List.not_mem_nil | assumption) (by first | exact ot_int | exact ot_bool) (by first | rfl | assumption) ?_)
    | (refine own_box rfl _ _ rfl rfl hS ?_; clear hS; (try clear ww); intro bb ww hS)
    | (refine own_alloc rfl _ rfl hS (by first | exact zt_style) ?_; clear hS; (try clear ww); intro bb ww hS)
    | (refine own_store rfl _ _ _ rfl rfl rfl hS (by first | exact at0 | exact at1 | exact at2 | exact at3 | exact at4 | exact at5 | exact at6 | exact at7 | exact at8) (by first | exact rt_font | exact rt_style) (by rfl) (by rfl) ?_; clear hS; (try clear ww); intro ww hS; simp only [List.set_cons_zero, List.set_cons_succ] at hS)
    | (refine own_store1 rfl _ _ _ rfl rfl rfl rfl hS (by first | exact at0 | exact at1 | exact at2 | exact at3 | exact at4 | exact at5 | exact at6 | exact at7 | exact at8) (by first | exact ot_int | exact ot_bool) (by simp) ?_; clear hS; (try clear ww); intro ww hS; simp only [List.set_cons_zero, List.set_cons_succ, Act.eval, Array.getD_eq_getD_getElem?, List.getElem?_toArray, List.getElem?_cons_succ, List.getElem?_cons_zero, Option.getD_some] at hS))
  go_ret
  exact own_gives hS

theorem stylePercent_calls (F : Fnt) (l : Int) (c : Bool) (w : World) (hF : FntOk w F) : Calls Try.prog 8 #[F.val, .agg #[.int .i64 l, .bool c]] w (Gives (.bool true) w) := by
  cases hfew : fewB F
  · exact percent_few F l c w hF hfew
  · have hq := fewB_iff.1 hfew
    obtain ⟨⟨p, e⟩, hx⟩ := pct_ex F l
    exact percent_same F l p e c w hF hfew (fun w' h => style_Percent_calls F l p e c w' h hx) (fun w' h => ref25_Percent_calls F l p e c w' h ⟨hq.1, hq.2.1⟩ hx)

end Go.Proofs.Ytillohdeljlchaa
