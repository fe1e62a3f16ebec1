/- The law StyleSizes: what its call returns. -/
import Derived.Test.YtillohdeljlchaaL25e
import Derived.Test.YtillohdeljlchaaSlotA
namespace Go.Proofs.Ytillohdeljlchaa
open Go.RowKit

attribute [local irreducible] wpQuiet wpG wpP wpList Code.wp

theorem rt_arr2 : RowTy Try.prog 44 2 := ⟨⟨_, Try.underlying44, rfl⟩, by kernel_rfl⟩

set_option maxHeartbeats 4000000 in
set_option maxRecDepth 100000 in
theorem sizes_few (F : Fnt) (k s l : Int) (c : Bool) (w : World) (hF : FntOk w F) (hfew : fewB F = false) : Calls Try.prog 9 #[F.val, .agg #[.int .i64 k, .int .i64 s], .agg #[.int .i64 l, .bool c]] w (Gives (.bool true) w) := by
  have HF := Lib.hid hF
  have HE := Lib.hid hfew
  clear hF hfew
  go_enter Try.func9, Try.ntmps9
  have hS := own_start w
  go_wp2_with (first
    | (refine own_unguard (by rfl) ?_)
    | (go_at_call 10; refine own_calls hS (awake25_calls _) ?_; clear hS; (try clear ww); intro ww hS)
    | (go_at_call 18; refine own_calls hS (few_v (F := F) (HF.out.below hS.below) HE) ?_; clear hS; (try clear ww); intro ww hS)
    | (refine own_load1 rfl _ _ rfl rfl hS (by first | exact at0 | exact at1 | exact at2 | exact at3 | exact at4 | exact at5 | exact at6 | exact at7 | exact at8) (by first | exact ot_int | exact ot_bool) (by first | rfl | assumption) ?_)
    | (refine own_load rfl _ _ rfl rfl hS (by first | exact at0 | exact at1 | exact at2 | exact at3 | exact at4 | exact at5 | exact at6 | exact at7 | exact at8) (by first | exact rt_font | exact rt_style | exact rt_arr2) ?_)
    | (refine own_load_old rfl _ _ rfl rfl hS (by assumption) (by first | exact List.not_mem_nil | assumption) (by first | exact rt_font | exact rt_style | exact rt_arr2) ?_)
    | (refine own_load_has rfl _ _ rfl rfl hS (by assumption) (by first | exact List.not_mem_nil | assumption) (by first | exact rt_font | exact rt_style | exact rt_arr2) ?_)
    | (refine own_load1_old rfl _ _ rfl rfl hS (by assumption) (by first | exact List.not_mem_nil | assumption) (by first | exact ot_int | exact ot_bool) ?_)
    | (refine own_load1_has rfl _ _ rfl rfl hS (by assumption) (by first | exact List.not_mem_nil | assumption) (by first | exact ot_int | exact ot_bool) (by first | rfl | assumption) ?_)
    | (refine own_box rfl _ _ rfl rfl hS ?_; clear hS; (try clear ww); intro bb ww hS)
    | (refine own_alloc rfl _ rfl hS (by first | exact zt_style) ?_; clear hS; (try clear ww); intro bb ww hS)
    | (refine own_store rfl _ _ _ rfl rfl rfl hS (by first | exact at0 | exact at1 | exact at2 | exact at3 | exact at4 | exact at5 | exact at6 | exact at7 | exact at8) (by first | exact rt_font | exact rt_style | exact rt_arr2) (by rfl) (by rfl) ?_; clear hS; (try clear ww); intro ww hS; simp only [List.set_cons_zero, List.set_cons_succ] at hS)
    | (refine own_store1 rfl _ _ _ rfl rfl rfl rfl hS (by first | exact at0 | exact at1 | exact at2 | exact at3 | exact at4 | exact at5 | exact at6 | exact at7 | exact at8) (by first | exact ot_int | exact ot_bool) (by simp) ?_; clear hS; (try clear ww); intro ww hS; simp only [List.set_cons_zero, List.set_cons_succ, Act.eval, Array.getD_eq_getD_getElem?, List.getElem?_toArray, List.getElem?_cons_succ, List.getElem?_cons_zero, Option.getD_some] at hS))
  go_ret
  exact own_gives hS

set_option maxHeartbeats 4000000 in
set_option maxRecDepth 100000 in
theorem sizes_up (F : Fnt) (k s l : Int) (c : Bool) (w : World) (hF : FntOk w F) (hfew : fewB F = true) (hs : F.script < F.sscript) : Calls Try.prog 9 #[F.val, .agg #[.int .i64 k, .int .i64 s], .agg #[.int .i64 l, .bool c]] w (Gives (.bool true) w) := by
  have HF := Lib.hid hF
  have HE := Lib.hid hfew
  have d1 : decide (F.script < F.sscript) = true := by simpa using hs
  clear hF hfew
  go_enter Try.func9, Try.ntmps9
  have hS := own_start w
  go_wp2_with (first
    | (refine own_unguard (by rfl) ?_)
    | (go_at_call 10; refine own_calls hS (awake25_calls _) ?_; clear hS; (try clear ww); intro ww hS)
    | (go_at_call 18; refine own_calls hS (few_v (F := F) (HF.out.below hS.below) HE) ?_; clear hS; (try clear ww); intro ww hS)
    | (refine own_load1 rfl _ _ rfl rfl hS (by first | exact at0 | exact at1 | exact at2 | exact at3 | exact at4 | exact at5 | exact at6 | exact at7 | exact at8) (by first | exact ot_int | exact ot_bool) (by first | rfl | assumption) ?_)
    | (refine own_load rfl _ _ rfl rfl hS (by first | exact at0 | exact at1 | exact at2 | exact at3 | exact at4 | exact at5 | exact at6 | exact at7 | exact at8) (by first | exact rt_font | exact rt_style | exact rt_arr2) ?_)
    | (refine own_load_old rfl _ _ rfl rfl hS (by assumption) (by first | exact List.not_mem_nil | assumption) (by first | exact rt_font | exact rt_style | exact rt_arr2) ?_)
    | (refine own_load_has rfl _ _ rfl rfl hS (by assumption) (by first | exact List.not_mem_nil | assumption) (by first | exact rt_font | exact rt_style | exact rt_arr2) ?_)
    | (refine own_load1_old rfl _ _ rfl rfl hS (by assumption) (by first | exact List.not_mem_nil | assumption) (by first | exact ot_int | exact ot_bool) ?_)
    | (refine own_load1_has rfl _ _ rfl rfl hS (by assumption) (by first | exact List.not_mem_nil | assumption) (by first | exact ot_int | exact ot_bool) (by first | rfl | assumption) ?_)
    | (refine own_box rfl _ _ rfl rfl hS ?_; clear hS; (try clear ww); intro bb ww hS)
    | (refine own_alloc rfl _ rfl hS (by first | exact zt_style) ?_; clear hS; (try clear ww); intro bb ww hS)
    | (refine own_store rfl _ _ _ rfl rfl rfl hS (by first | exact at0 | exact at1 | exact at2 | exact at3 | exact at4 | exact at5 | exact at6 | exact at7 | exact at8) (by first | exact rt_font | exact rt_style | exact rt_arr2) (by rfl) (by rfl) ?_; clear hS; (try clear ww); intro ww hS; simp only [List.set_cons_zero, List.set_cons_succ] at hS)
    | (refine own_store1 rfl _ _ _ rfl rfl rfl rfl hS (by first | exact at0 | exact at1 | exact at2 | exact at3 | exact at4 | exact at5 | exact at6 | exact at7 | exact at8) (by first | exact ot_int | exact ot_bool) (by simp) ?_; clear hS; (try clear ww); intro ww hS; simp only [List.set_cons_zero, List.set_cons_succ, Act.eval, Array.getD_eq_getD_getElem?, List.getElem?_toArray, List.getElem?_cons_succ, List.getElem?_cons_zero, Option.getD_some] at hS))
  go_ret
  exact own_gives hS

set_option maxHeartbeats 4000000 in
set_option maxRecDepth 100000 in
theorem sizes_e1 (F : Fnt) (k s l L n m : Int) (g h : Int) (c C : Bool) (w : World) (hF : FntOk w F) (hfew : fewB F = true) (hs : ¬ F.script < F.sscript)
    (hsl : ∀ w', Calls Try.prog 11 #[.int .i64 k, .int .i64 s, .agg #[.int .i64 l, .bool c]] w' (Gives (.tuple #[.agg #[.int .i64 L, .bool C], .int .i64 1]) w'))
    (hp : ∀ w', FntOk w' F → Calls Try.prog 19 #[F.val, .agg #[.int .i64 l, .bool c]] w' (Gives (.tuple #[.int .i64 n, .int .i64 g]) w'))
    (hr : ∀ w', FntOk w' F → Calls Try.prog 19 #[F.val, .agg #[.int .i64 L, .bool C]] w' (Gives (.tuple #[.int .i64 m, .int .i64 h]) w')) : Calls Try.prog 9 #[F.val, .agg #[.int .i64 k, .int .i64 s], .agg #[.int .i64 l, .bool c]] w (Gives (.bool true) w) := by
  have HF := Lib.hid hF
  have HE := Lib.hid hfew
  have HSl := Lib.hid hsl
  have HP := Lib.hid hp
  have HR := Lib.hid hr
  have d1 : decide (F.script < F.sscript) = false := by simpa using hs
  have tok1 : True := trivial
  clear hF hfew hsl hp hr
  go_enter Try.func9, Try.ntmps9
  have hS := own_start w
  go_wp2_with (first
    | (refine own_unguard (by rfl) ?_)
    | (go_at_call 10; refine own_calls hS (awake25_calls _) ?_; clear hS; (try clear ww); intro ww hS)
    | (go_at_call 18; refine own_calls hS (few_v (F := F) (HF.out.below hS.below) HE) ?_; clear hS; (try clear ww); intro ww hS)
    | (go_at_call 11; refine own_calls hS (HSl.out _) ?_; clear hS; (try clear ww); intro ww hS)
    | (go_at_call 19; have _t := tok1; refine own_calls hS (HP.out _ (HF.out.below hS.below)) ?_; clear hS tok1; (try clear ww); intro ww hS)
    | (go_at_call 19; refine own_calls hS (HR.out _ (HF.out.below hS.below)) ?_; clear hS; (try clear ww); intro ww hS)
    | (refine own_load1 rfl _ _ rfl rfl hS (by first | exact at0 | exact at1 | exact at2 | exact at3 | exact at4 | exact at5 | exact at6 | exact at7 | exact at8) (by first | exact ot_int | exact ot_bool) (by first | rfl | assumption) ?_)
    | (refine own_load rfl _ _ rfl rfl hS (by first | exact at0 | exact at1 | exact at2 | exact at3 | exact at4 | exact at5 | exact at6 | exact at7 | exact at8) (by first | exact rt_font | exact rt_style | exact rt_arr2) ?_)
    | (refine own_load_old rfl _ _ rfl rfl hS (by assumption) (by first | exact List.not_mem_nil | assumption) (by first | exact rt_font | exact rt_style | exact rt_arr2) ?_)
    | (refine own_load_has rfl _ _ rfl rfl hS (by assumption) (by first | exact List.not_mem_nil | assumption) (by first | exact rt_font | exact rt_style | exact rt_arr2) ?_)
    | (refine own_load1_old rfl _ _ rfl rfl hS (by assumption) (by first | exact List.not_mem_nil | assumption) (by first | exact ot_int | exact ot_bool) ?_)
    | (refine own_load1_has rfl _ _ rfl rfl hS (by assumption) (by first | exact List.not_mem_nil | assumption) (by first | exact ot_int | exact ot_bool) (by first | rfl | assumption) ?_)
    | (refine own_box rfl _ _ rfl rfl hS ?_; clear hS; (try clear ww); intro bb ww hS)
    | (refine own_alloc rfl _ rfl hS (by first | exact zt_style) ?_; clear hS; (try clear ww); intro bb ww hS)
    | (refine own_store rfl _ _ _ rfl rfl rfl hS (by first | exact at0 | exact at1 | exact at2 | exact at3 | exact at4 | exact at5 | exact at6 | exact at7 | exact at8) (by first | exact rt_font | exact rt_style | exact rt_arr2) (by rfl) (by rfl) ?_; clear hS; (try clear ww); intro ww hS; simp only [List.set_cons_zero, List.set_cons_succ] at hS)
    | (refine own_store1 rfl _ _ _ rfl rfl rfl rfl hS (by first | exact at0 | exact at1 | exact at2 | exact at3 | exact at4 | exact at5 | exact at6 | exact at7 | exact at8) (by first | exact ot_int | exact ot_bool) (by simp) ?_; clear hS; (try clear ww); intro ww hS; simp only [List.set_cons_zero, List.set_cons_succ, Act.eval, Array.getD_eq_getD_getElem?, List.getElem?_toArray, List.getElem?_cons_succ, List.getElem?_cons_zero, Option.getD_some] at hS))
  go_ret
  exact own_gives hS

set_option maxHeartbeats 4000000 in
set_option maxRecDepth 100000 in
theorem sizes_e2 (F : Fnt) (k s l L n m : Int) (g h : Int) (c C : Bool) (w : World) (hF : FntOk w F) (hfew : fewB F = true) (hs : ¬ F.script < F.sscript)
    (hsl : ∀ w', Calls Try.prog 11 #[.int .i64 k, .int .i64 s, .agg #[.int .i64 l, .bool c]] w' (Gives (.tuple #[.agg #[.int .i64 L, .bool C], .int .i64 2]) w'))
    (hp : ∀ w', FntOk w' F → Calls Try.prog 19 #[F.val, .agg #[.int .i64 l, .bool c]] w' (Gives (.tuple #[.int .i64 n, .int .i64 g]) w'))
    (hr : ∀ w', FntOk w' F → Calls Try.prog 19 #[F.val, .agg #[.int .i64 L, .bool C]] w' (Gives (.tuple #[.int .i64 m, .int .i64 h]) w')) : Calls Try.prog 9 #[F.val, .agg #[.int .i64 k, .int .i64 s], .agg #[.int .i64 l, .bool c]] w (Gives (.bool true) w) := by
  have HF := Lib.hid hF
  have HE := Lib.hid hfew
  have HSl := Lib.hid hsl
  have HP := Lib.hid hp
  have HR := Lib.hid hr
  have d1 : decide (F.script < F.sscript) = false := by simpa using hs
  have tok1 : True := trivial
  clear hF hfew hsl hp hr
  go_enter Try.func9, Try.ntmps9
  have hS := own_start w
  go_wp2_with (first
    | (refine own_unguard (by rfl) ?_)
    | (go_at_call 10; refine own_calls hS (awake25_calls _) ?_; clear hS; (try clear ww); intro ww hS)
    | (go_at_call 18; refine own_calls hS (few_v (F := F) (HF.out.below hS.below) HE) ?_; clear hS; (try clear ww); intro ww hS)
    | (go_at_call 11; refine own_calls hS (HSl.out _) ?_; clear hS; (try clear ww); intro ww hS)
    | (go_at_call 19; have _t := tok1; refine own_calls hS (HP.out _ (HF.out.below hS.below)) ?_; clear hS tok1; (try clear ww); intro ww hS)
    | (go_at_call 19; refine own_calls hS (HR.out _ (HF.out.below hS.below)) ?_; clear hS; (try clear ww); intro ww hS)
    | (refine own_load1 rfl _ _ rfl rfl hS (by first | exact at0 | exact at1 | exact at2 | exact at3 | exact at4 | exact at5 | exact at6 | exact at7 | exact at8) (by first | exact ot_int | exact ot_bool) (by first | rfl | assumption) ?_)
    | (refine own_load rfl _ _ rfl rfl hS (by first | exact at0 | exact at1 | exact at2 | exact at3 | exact at4 | exact at5 | exact at6 | exact at7 | exact at8) (by first | exact rt_font | exact rt_style | exact rt_arr2) ?_)
    | (refine own_load_old rfl _ _ rfl rfl hS (by assumption) (by first | exact List.not_mem_nil | assumption) (by first | exact rt_font | exact rt_style | exact rt_arr2) ?_)
    | (refine own_load_has rfl _ _ rfl rfl hS (by assumption) (by first | exact List.not_mem_nil | assumption) (by first | exact rt_font | exact rt_style | exact rt_arr2) ?_)
    | (refine own_load1_old rfl _ _ rfl rfl hS (by assumption) (by first | exact List.not_mem_nil | assumption) (by first | exact ot_int | exact ot_bool) ?_)
    | (refine own_load1_has rfl _ _ rfl rfl hS (by assumption) (by first | exact List.not_mem_nil | assumption) (by first | exact ot_int | exact ot_bool) (by first | rfl | assumption) ?_)
    | (refine own_box rfl _ _ rfl rfl hS ?_; clear hS; (try clear ww); intro bb ww hS)
    | (refine own_alloc rfl _ rfl hS (by first | exact zt_style) ?_; clear hS; (try clear ww); intro bb ww hS)
    | (refine own_store rfl _ _ _ rfl rfl rfl hS (by first | exact at0 | exact at1 | exact at2 | exact at3 | exact at4 | exact at5 | exact at6 | exact at7 | exact at8) (by first | exact rt_font | exact rt_style | exact rt_arr2) (by rfl) (by rfl) ?_; clear hS; (try clear ww); intro ww hS; simp only [List.set_cons_zero, List.set_cons_succ] at hS)
    | (refine own_store1 rfl _ _ _ rfl rfl rfl rfl hS (by first | exact at0 | exact at1 | exact at2 | exact at3 | exact at4 | exact at5 | exact at6 | exact at7 | exact at8) (by first | exact ot_int | exact ot_bool) (by simp) ?_; clear hS; (try clear ww); intro ww hS; simp only [List.set_cons_zero, List.set_cons_succ, Act.eval, Array.getD_eq_getD_getElem?, List.getElem?_toArray, List.getElem?_cons_succ, List.getElem?_cons_zero, Option.getD_some] at hS))
  go_ret
  exact own_gives hS

set_option maxHeartbeats 4000000 in
set_option maxRecDepth 100000 in
theorem sizes_g (F : Fnt) (k s l L n m : Int) (h : Int) (c C : Bool) (w : World) (hF : FntOk w F) (hfew : fewB F = true) (hs : ¬ F.script < F.sscript)
    (hsl : ∀ w', Calls Try.prog 11 #[.int .i64 k, .int .i64 s, .agg #[.int .i64 l, .bool c]] w' (Gives (.tuple #[.agg #[.int .i64 L, .bool C], .int .i64 0]) w'))
    (hp : ∀ w', FntOk w' F → Calls Try.prog 19 #[F.val, .agg #[.int .i64 l, .bool c]] w' (Gives (.tuple #[.int .i64 n, .int .i64 1]) w'))
    (hr : ∀ w', FntOk w' F → Calls Try.prog 19 #[F.val, .agg #[.int .i64 L, .bool C]] w' (Gives (.tuple #[.int .i64 m, .int .i64 h]) w')) : Calls Try.prog 9 #[F.val, .agg #[.int .i64 k, .int .i64 s], .agg #[.int .i64 l, .bool c]] w (Gives (.bool true) w) := by
  have HF := Lib.hid hF
  have HE := Lib.hid hfew
  have HSl := Lib.hid hsl
  have HP := Lib.hid hp
  have HR := Lib.hid hr
  have d1 : decide (F.script < F.sscript) = false := by simpa using hs
  have tok1 : True := trivial
  clear hF hfew hsl hp hr
  go_enter Try.func9, Try.ntmps9
  have hS := own_start w
  go_wp2_with (first
    | (refine own_unguard (by rfl) ?_)
    | (go_at_call 10; refine own_calls hS (awake25_calls _) ?_; clear hS; (try clear ww); intro ww hS)
    | (go_at_call 18; refine own_calls hS (few_v (F := F) (HF.out.below hS.below) HE) ?_; clear hS; (try clear ww); intro ww hS)
    | (go_at_call 11; refine own_calls hS (HSl.out _) ?_; clear hS; (try clear ww); intro ww hS)
    | (go_at_call 19; have _t := tok1; refine own_calls hS (HP.out _ (HF.out.below hS.below)) ?_; clear hS tok1; (try clear ww); intro ww hS)
    | (go_at_call 19; refine own_calls hS (HR.out _ (HF.out.below hS.below)) ?_; clear hS; (try clear ww); intro ww hS)
    | (refine own_load1 rfl _ _ rfl rfl hS (by first | exact at0 | exact at1 | exact at2 | exact at3 | exact at4 | exact at5 | exact at6 | exact at7 | exact at8) (by first | exact ot_int | exact ot_bool) (by first | rfl | assumption) ?_)
    | (refine own_load rfl _ _ rfl rfl hS (by first | exact at0 | exact at1 | exact at2 | exact at3 | exact at4 | exact at5 | exact at6 | exact at7 | exact at8) (by first | exact rt_font | exact rt_style | exact rt_arr2) ?_)
    | (refine own_load_old rfl _ _ rfl rfl hS (by assumption) (by first | exact List.not_mem_nil | assumption) (by first | exact rt_font | exact rt_style | exact rt_arr2) ?_)
    | (refine own_load_has rfl _ _ rfl rfl hS (by assumption) (by first | exact List.not_mem_nil | assumption) (by first | exact rt_font | exact rt_style | exact rt_arr2) ?_)
    | (refine own_load1_old rfl _ _ rfl rfl hS (by assumption) (by first | exact List.not_mem_nil | assumption) (by first | exact ot_int | exact ot_bool) ?_)
    | (refine own_load1_has rfl _ _ rfl rfl hS (by assumption) (by first | exact List.not_mem_nil | assumption) (by first | exact ot_int | exact ot_bool) (by first | rfl | assumption) ?_)
    | (refine own_box rfl _ _ rfl rfl hS ?_; clear hS; (try clear ww); intro bb ww hS)
    | (refine own_alloc rfl _ rfl hS (by first | exact zt_style) ?_; clear hS; (try clear ww); intro bb ww hS)
    | (refine own_store rfl _ _ _ rfl rfl rfl hS (by first | exact at0 | exact at1 | exact at2 | exact at3 | exact at4 | exact at5 | exact at6 | exact at7 | exact at8) (by first | exact rt_font | exact rt_style | exact rt_arr2) (by rfl) (by rfl) ?_; clear hS; (try clear ww); intro ww hS; simp only [List.set_cons_zero, List.set_cons_succ] at hS)
    | (refine own_store1 rfl _ _ _ rfl rfl rfl rfl hS (by first | exact at0 | exact at1 | exact at2 | exact at3 | exact at4 | exact at5 | exact at6 | exact at7 | exact at8) (by first | exact ot_int | exact ot_bool) (by simp) ?_; clear hS; (try clear ww); intro ww hS; simp only [List.set_cons_zero, List.set_cons_succ, Act.eval, Array.getD_eq_getD_getElem?, List.getElem?_toArray, List.getElem?_cons_succ, List.getElem?_cons_zero, Option.getD_some] at hS))
  go_ret
  exact own_gives hS

set_option maxHeartbeats 4000000 in
set_option maxRecDepth 100000 in
theorem sizes_h (F : Fnt) (k s l L n m : Int) (c C : Bool) (w : World) (hF : FntOk w F) (hfew : fewB F = true) (hs : ¬ F.script < F.sscript)
    (hsl : ∀ w', Calls Try.prog 11 #[.int .i64 k, .int .i64 s, .agg #[.int .i64 l, .bool c]] w' (Gives (.tuple #[.agg #[.int .i64 L, .bool C], .int .i64 0]) w'))
    (hp : ∀ w', FntOk w' F → Calls Try.prog 19 #[F.val, .agg #[.int .i64 l, .bool c]] w' (Gives (.tuple #[.int .i64 n, .int .i64 0]) w'))
    (hr : ∀ w', FntOk w' F → Calls Try.prog 19 #[F.val, .agg #[.int .i64 L, .bool C]] w' (Gives (.tuple #[.int .i64 m, .int .i64 0]) w')) (hmn : m ≤ n) (hm : 1 ≤ m) : Calls Try.prog 9 #[F.val, .agg #[.int .i64 k, .int .i64 s], .agg #[.int .i64 l, .bool c]] w (Gives (.bool true) w) := by
  have HF := Lib.hid hF
  have HE := Lib.hid hfew
  have HSl := Lib.hid hsl
  have HP := Lib.hid hp
  have HR := Lib.hid hr
  have d1 : decide (F.script < F.sscript) = false := by simpa using hs
  have tok1 : True := trivial
  clear hF hfew hsl hp hr
  go_enter Try.func9, Try.ntmps9
  have hS := own_start w
  go_wp2_with (first
    | (refine own_unguard (by rfl) ?_)
    | (go_at_call 10; refine own_calls hS (awake25_calls _) ?_; clear hS; (try clear ww); intro ww hS)
    | (go_at_call 18; refine own_calls hS (few_v (F := F) (HF.out.below hS.below) HE) ?_; clear hS; (try clear ww); intro ww hS)
    | (go_at_call 11; refine own_calls hS (HSl.out _) ?_; clear hS; (try clear ww); intro ww hS)
    | (go_at_call 19; have _t := tok1; refine own_calls hS (HP.out _ (HF.out.below hS.below)) ?_; clear hS tok1; (try clear ww); intro ww hS)
    | (go_at_call 19; refine own_calls hS (HR.out _ (HF.out.below hS.below)) ?_; clear hS; (try clear ww); intro ww hS)
    | (refine own_load1 rfl _ _ rfl rfl hS (by first | exact at0 | exact at1 | exact at2 | exact at3 | exact at4 | exact at5 | exact at6 | exact at7 | exact at8) (by first | exact ot_int | exact ot_bool) (by first | rfl | assumption) ?_)
    | (refine own_load rfl _ _ rfl rfl hS (by first | exact at0 | exact at1 | exact at2 | exact at3 | exact at4 | exact at5 | exact at6 | exact at7 | exact at8) (by first | exact rt_font | exact rt_style | exact rt_arr2) ?_)
    | (refine own_load_old rfl _ _ rfl rfl hS (by assumption) (by first | exact List.not_mem_nil | assumption) (by first | exact rt_font | exact rt_style | exact rt_arr2) ?_)
    | (refine own_load_has rfl _ _ rfl rfl hS (by assumption) (by first | exact List.not_mem_nil | assumption) (by first | exact rt_font | exact rt_style | exact rt_arr2) ?_)
    | (refine own_load1_old rfl _ _ rfl rfl hS (by assumption) (by first | exact List.not_mem_nil | assumption) (by first | exact ot_int | exact ot_bool) ?_)
    | (refine own_load1_has rfl _ _ rfl rfl hS (by assumption) (by first | exact List.not_mem_nil | assumption) (by first | exact ot_int | exact ot_bool) (by first | rfl | assumption) ?_)
    | (refine own_box rfl _ _ rfl rfl hS ?_; clear hS; (try clear ww); intro bb ww hS)
    | (refine own_alloc rfl _ rfl hS (by first | exact zt_style) ?_; clear hS; (try clear ww); intro bb ww hS)
    | (refine own_store rfl _ _ _ rfl rfl rfl hS (by first | exact at0 | exact at1 | exact at2 | exact at3 | exact at4 | exact at5 | exact at6 | exact at7 | exact at8) (by first | exact rt_font | exact rt_style | exact rt_arr2) (by rfl) (by rfl) ?_; clear hS; (try clear ww); intro ww hS; simp only [List.set_cons_zero, List.set_cons_succ] at hS)
    | (refine own_store1 rfl _ _ _ rfl rfl rfl rfl hS (by first | exact at0 | exact at1 | exact at2 | exact at3 | exact at4 | exact at5 | exact at6 | exact at7 | exact at8) (by first | exact ot_int | exact ot_bool) (by simp) ?_; clear hS; (try clear ww); intro ww hS; simp only [List.set_cons_zero, List.set_cons_succ, Act.eval, Array.getD_eq_getD_getElem?, List.getElem?_toArray, List.getElem?_cons_succ, List.getElem?_cons_zero, Option.getD_some] at hS))
  go_ret
  exact own_gives hS

theorem slotErr_ones (k s l : Int) : slotErr k s l = 0 ∧ 0 ≤ l ∧ l ≤ 3 ∨ slotErr k s l = 1 ∨ slotErr k s l = 2 := by
  unfold slotErr
  split
  · exact .inr (.inl rfl)
  · split
    · exact .inr (.inr rfl)
    · exact .inl ⟨rfl, by omega, by omega⟩
theorem slotLevel_up {k s l : Int} (h : slotErr k s l = 0) (h0 : 0 ≤ l) (h3 : l ≤ 3) : 0 ≤ slotLevel k s l ∧ slotLevel k s l ≤ 3 ∧ l ≤ slotLevel k s l := by
  unfold slotLevel
  rw [if_pos h]
  repeat' split
  all_goals omega
theorem prm_sizes {F : Fnt} (h : ValidF F) : (1 ≤ F.script ∧ F.script ≤ 100) ∧ (1 ≤ F.sscript ∧ F.sscript ≤ 100) := by
  have := h.2.2.1
  simp [prmOk, allIn] at this
  omega
theorem sizeOf_mono {F : Fnt} {l L : Int} (h : ValidF F) (hs : ¬ F.script < F.sscript) (h0 : 0 ≤ l) (hL : L ≤ 3) (hlL : l ≤ L) : sizeOf' F L ≤ sizeOf' F l ∧ 1 ≤ sizeOf' F L := by
  have := prm_sizes h
  unfold sizeOf'
  repeat' split
  all_goals omega

theorem styleSizes_calls (F : Fnt) (k s l : Int) (c : Bool) (w : World) (hF : FntOk w F) : Calls Try.prog 9 #[F.val, .agg #[.int .i64 k, .int .i64 s], .agg #[.int .i64 l, .bool c]] w (Gives (.bool true) w) := by
  cases hfew : fewB F
  · exact sizes_few F k s l c w hF hfew
  by_cases hs : F.script < F.sscript
  · exact sizes_up F k s l c w hF hfew hs
  have hsl := fun w' => style_Slot_calls k s l c w'
  simp only [slotVal] at hsl
  obtain ⟨⟨n, g⟩, hn⟩ := pct_ex F l
  obtain ⟨⟨m, h⟩, hm⟩ := pct_ex F (slotLevel k s l)
  have hp := fun w' (hw : FntOk w' F) => style_Percent_calls F l n g c w' hw hn
  have hr := fun w' (hw : FntOk w' F) => style_Percent_calls F (slotLevel k s l) m h (slotCr k s l c) w' hw hm
  rcases slotErr_ones k s l with ⟨he, h0, h3⟩ | he | he
  · rw [he] at hsl
    by_cases hv : ValidF F
    · have hup := slotLevel_up he h0 h3
      obtain ⟨e1, e2⟩ := hn.1 ⟨by simp [lvlOk]; omega, hv⟩
      obtain ⟨e3, e4⟩ := hm.1 ⟨by simp [lvlOk]; omega, hv⟩
      simp only at e1 e2 e3 e4
      subst e1 e2 e3 e4
      have hmo := sizeOf_mono hv hs h0 hup.2.1 hup.2.2
      exact sizes_h F k s l _ _ _ c _ w hF hfew hs hsl hp hr hmo.1 hmo.2
    · obtain ⟨e1, e2⟩ := hn.2 (Or.inr hv)
      simp only at e1 e2
      subst e1 e2
      exact sizes_g F k s l _ _ _ _ c _ w hF hfew hs hsl hp hr
  · rw [he] at hsl
    exact sizes_e1 F k s l _ _ _ _ _ c _ w hF hfew hs hsl hp hr
  · rw [he] at hsl
    exact sizes_e2 F k s l _ _ _ _ _ c _ w hF hfew hs hsl hp hr

end Go.Proofs.Ytillohdeljlchaa
