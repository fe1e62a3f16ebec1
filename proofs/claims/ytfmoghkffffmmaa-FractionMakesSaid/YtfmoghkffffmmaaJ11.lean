/- Texts Pct, Hlf. -/
import Derived.Test.YtfmoghkffffmmaaJ10
import Derived.Test.YtfmoghkffffmmaaJ02
namespace Go.Proofs.Ytfmoghkffffmmaa
open Go.RowKit

attribute [local irreducible] wpQuiet wpG wpP wpList Code.wp

theorem rt_style : RowTy Try.prog 29 2 := ⟨⟨_, Try.underlying29, rfl⟩, by kernel_rfl⟩
theorem zt_style : ZeroTy Try.prog 29 [.int .i64 0, .bool false] := ⟨.agg #[.int .i64 0, .bool false], by kernel_rfl, rfl⟩

set_option maxHeartbeats 1000000 in
theorem style_Valid_own (l : Int) (c : Bool) (w : World) : Calls Try.prog 39 #[.agg #[.int .i64 l, .bool c]] w (Gives (.bool (decide (0 ≤ l) && decide (l ≤ 3))) w) := by
  go_enter Try.func39, Try.ntmps39
  have hS := own_start w
  go_wp2_with (first | (refine own_unguard (by rfl) ?_) | (refine own_load1 rfl _ _ rfl rfl hS (atl (by repeat constructor)) (by first | exact ot_int | exact ot_bool) (by first | rfl | assumption) ?_) | (refine own_load rfl _ _ rfl rfl hS (atl (by repeat constructor)) (by first | exact rt_font | exact rt_style) ?_) | (refine own_load_old rfl _ _ rfl rfl hS (by assumption) (by first | exact List.not_mem_nil | assumption) (by first | exact rt_font | exact rt_style) ?_) | (refine own_load_has rfl _ _ rfl rfl hS (by assumption) (by first | exact List.not_mem_nil | assumption) (by first | exact rt_font | exact rt_style) ?_) | (refine own_load1_old rfl _ _ rfl rfl hS (by assumption) (by first | exact List.not_mem_nil | assumption) (by first | exact ot_int | exact ot_bool) ?_) | (refine own_load1_has rfl _ _ rfl rfl hS (by assumption) (by first | exact List.not_mem_nil | assumption) (by first | exact ot_int | exact ot_bool) (by first | rfl | assumption) ?_) | (refine own_box rfl _ _ rfl rfl hS ?_; clear hS; (try clear ww); intro bb ww hS) | (refine own_alloc rfl _ rfl hS (by first | exact zt_style) ?_; clear hS; (try clear ww); intro bb ww hS) | (refine own_store rfl _ _ _ rfl rfl rfl hS (atl (by repeat constructor)) (by first | exact rt_font | exact rt_style) (by rfl) (by rfl) ?_; clear hS; (try clear ww); intro ww hS; (try simp only at hS); (try simp only [List.set_cons_succ] at hS); (try simp only [List.set_cons_zero] at hS)) | (refine own_store1 rfl _ _ _ rfl rfl rfl rfl hS (atl (by repeat constructor)) (by first | exact ot_int | exact ot_bool) (by simp) ?_; clear hS; (try clear ww); intro ww hS; (try simp only at hS); (try simp only [List.set_cons_succ] at hS); (try simp only [List.set_cons_zero] at hS); (try simp only [Act.eval] at hS); (try simp only [Array.getD_eq_getD_getElem?] at hS); (try simp only [List.getElem?_toArray] at hS); (try simp only [List.getElem?_cons_succ] at hS); (try simp only [List.getElem?_cons_zero] at hS); (try simp only [Option.getD_some] at hS)))
  all_goals
    go_ret
    refine ⟨ret_bool ?_, hS.below⟩
    simp
    try omega

set_option maxHeartbeats 1000000 in
theorem ref25_Valid_own (l : Int) (c : Bool) (w : World) : Calls Try.prog 48 #[.agg #[.int .i64 l, .bool c]] w (Gives (.bool (decide (0 ≤ l) && decide (l ≤ 3))) w) := by
  go_enter Try.func48, Try.ntmps48
  have hS := own_start w
  go_wp2_with (first | (refine own_unguard (by rfl) ?_) | (refine own_load1 rfl _ _ rfl rfl hS (atl (by repeat constructor)) (by first | exact ot_int | exact ot_bool) (by first | rfl | assumption) ?_) | (refine own_load rfl _ _ rfl rfl hS (atl (by repeat constructor)) (by first | exact rt_font | exact rt_style) ?_) | (refine own_load_old rfl _ _ rfl rfl hS (by assumption) (by first | exact List.not_mem_nil | assumption) (by first | exact rt_font | exact rt_style) ?_) | (refine own_load_has rfl _ _ rfl rfl hS (by assumption) (by first | exact List.not_mem_nil | assumption) (by first | exact rt_font | exact rt_style) ?_) | (refine own_load1_old rfl _ _ rfl rfl hS (by assumption) (by first | exact List.not_mem_nil | assumption) (by first | exact ot_int | exact ot_bool) ?_) | (refine own_load1_has rfl _ _ rfl rfl hS (by assumption) (by first | exact List.not_mem_nil | assumption) (by first | exact ot_int | exact ot_bool) (by first | rfl | assumption) ?_) | (refine own_box rfl _ _ rfl rfl hS ?_; clear hS; (try clear ww); intro bb ww hS) | (refine own_alloc rfl _ rfl hS (by first | exact zt_style) ?_; clear hS; (try clear ww); intro bb ww hS) | (refine own_store rfl _ _ _ rfl rfl rfl hS (atl (by repeat constructor)) (by first | exact rt_font | exact rt_style) (by rfl) (by rfl) ?_; clear hS; (try clear ww); intro ww hS; (try simp only at hS); (try simp only [List.set_cons_succ] at hS); (try simp only [List.set_cons_zero] at hS)) | (refine own_store1 rfl _ _ _ rfl rfl rfl rfl hS (atl (by repeat constructor)) (by first | exact ot_int | exact ot_bool) (by simp) ?_; clear hS; (try clear ww); intro ww hS; (try simp only at hS); (try simp only [List.set_cons_succ] at hS); (try simp only [List.set_cons_zero] at hS); (try simp only [Act.eval] at hS); (try simp only [Array.getD_eq_getD_getElem?] at hS); (try simp only [List.getElem?_toArray] at hS); (try simp only [List.getElem?_cons_succ] at hS); (try simp only [List.getElem?_cons_zero] at hS); (try simp only [Option.getD_some] at hS)))
  all_goals
    go_ret
    refine ⟨ret_bool ?_, hS.below⟩
    simp
    try omega

/-- Is a level one of the four? -/
def lvlOk (l : Int) : Bool := decide (0 ≤ l) && decide (l ≤ 3)
/-- The size of a level. -/
def sizeOf' (F : Fnt) (l : Int) : Int := if l = 2 then F.script else if l = 3 then F.sscript else 100

/-- What Percent returns: the size, the error. -/
def PctOk (F : Fnt) (l : Int) (p e : Int) : Prop := (lvlOk l = true ∧ ValidF F → p = sizeOf' F l ∧ e = 0) ∧ (lvlOk l = false ∨ ¬ ValidF F → p = 0 ∧ e = 1)
theorem style_Valid_v {l : Int} {c v : Bool} {w : World} (hv : Hid (lvlOk l = v)) : Calls Try.prog 39 #[.agg #[.int .i64 l, .bool c]] w (Gives (.bool v) w) := by
  have := style_Valid_own l c w
  unfold lvlOk at hv
  rwa [hv.out] at this
theorem ref25_Valid_v {l : Int} {c v : Bool} {w : World} (hv : Hid (lvlOk l = v)) : Calls Try.prog 48 #[.agg #[.int .i64 l, .bool c]] w (Gives (.bool v) w) := by
  have := ref25_Valid_own l c w
  unfold lvlOk at hv
  rwa [hv.out] at this

set_option maxHeartbeats 4000000 in
set_option maxRecDepth 100000 in
theorem style_Percent_lvl (F : Fnt) (l : Int) (c : Bool) (w : World) (h : lvlOk l = false) : Calls Try.prog 21 #[F.val, .agg #[.int .i64 l, .bool c]] w (Gives (.tuple #[.int .i64 0, .int .i64 1]) w) := by
  have HL := Lib.hid h
  clear h
  go_enter Try.func21, Try.ntmps21
  have hS := own_start w
  go_wp2_with (first | (refine own_unguard (by rfl) ?_) | (go_at_call 39; refine own_calls hS (style_Valid_v HL) ?_; clear hS; (try clear ww); intro ww hS) | (refine own_load1 rfl _ _ rfl rfl hS (atl (by repeat constructor)) (by first | exact ot_int | exact ot_bool) (by first | rfl | assumption) ?_) | (refine own_load rfl _ _ rfl rfl hS (atl (by repeat constructor)) (by first | exact rt_font | exact rt_style) ?_) | (refine own_load_old rfl _ _ rfl rfl hS (by assumption) (by first | exact List.not_mem_nil | assumption) (by first | exact rt_font | exact rt_style) ?_) | (refine own_load_has rfl _ _ rfl rfl hS (by assumption) (by first | exact List.not_mem_nil | assumption) (by first | exact rt_font | exact rt_style) ?_) | (refine own_load1_old rfl _ _ rfl rfl hS (by assumption) (by first | exact List.not_mem_nil | assumption) (by first | exact ot_int | exact ot_bool) ?_) | (refine own_load1_has rfl _ _ rfl rfl hS (by assumption) (by first | exact List.not_mem_nil | assumption) (by first | exact ot_int | exact ot_bool) (by first | rfl | assumption) ?_) | (refine own_box rfl _ _ rfl rfl hS ?_; clear hS; (try clear ww); intro bb ww hS) | (refine own_alloc rfl _ rfl hS (by first | exact zt_style) ?_; clear hS; (try clear ww); intro bb ww hS) | (refine own_store rfl _ _ _ rfl rfl rfl hS (atl (by repeat constructor)) (by first | exact rt_font | exact rt_style) (by rfl) (by rfl) ?_; clear hS; (try clear ww); intro ww hS; (try simp only at hS); (try simp only [List.set_cons_succ] at hS); (try simp only [List.set_cons_zero] at hS)) | (refine own_store1 rfl _ _ _ rfl rfl rfl rfl hS (atl (by repeat constructor)) (by first | exact ot_int | exact ot_bool) (by simp) ?_; clear hS; (try clear ww); intro ww hS; (try simp only at hS); (try simp only [List.set_cons_succ] at hS); (try simp only [List.set_cons_zero] at hS); (try simp only [Act.eval] at hS); (try simp only [Array.getD_eq_getD_getElem?] at hS); (try simp only [List.getElem?_toArray] at hS); (try simp only [List.getElem?_cons_succ] at hS); (try simp only [List.getElem?_cons_zero] at hS); (try simp only [Option.getD_some] at hS)))
  go_ret2
  exact own_gives hS

set_option maxHeartbeats 4000000 in
set_option maxRecDepth 100000 in
theorem style_Percent_bad (F : Fnt) (l : Int) (c : Bool) (w : World) (hF : FntOk w F) (h : lvlOk l = true) (hv : ¬ ValidF F) : Calls Try.prog 21 #[F.val, .agg #[.int .i64 l, .bool c]] w (Gives (.tuple #[.int .i64 0, .int .i64 1]) w) := by
  have HF := Lib.hid hF
  have HL := Lib.hid h
  have HV := Lib.hid hv
  clear hF h hv
  go_enter Try.func21, Try.ntmps21
  have hS := own_start w
  go_wp2_with (first | (refine own_unguard (by rfl) ?_) | (go_at_call 39; refine own_calls hS (style_Valid_v HL) ?_; clear hS; (try clear ww); intro ww hS) | (go_at_call 40; refine own_calls hS (font_Valid_calls F _ (HF.out.below hS.below) _ (iff_f HV.out)) ?_; clear hS; (try clear ww); intro ww hS) | (refine own_load1 rfl _ _ rfl rfl hS (atl (by repeat constructor)) (by first | exact ot_int | exact ot_bool) (by first | rfl | assumption) ?_) | (refine own_load rfl _ _ rfl rfl hS (atl (by repeat constructor)) (by first | exact rt_font | exact rt_style) ?_) | (refine own_load_old rfl _ _ rfl rfl hS (by assumption) (by first | exact List.not_mem_nil | assumption) (by first | exact rt_font | exact rt_style) ?_) | (refine own_load_has rfl _ _ rfl rfl hS (by assumption) (by first | exact List.not_mem_nil | assumption) (by first | exact rt_font | exact rt_style) ?_) | (refine own_load1_old rfl _ _ rfl rfl hS (by assumption) (by first | exact List.not_mem_nil | assumption) (by first | exact ot_int | exact ot_bool) ?_) | (refine own_load1_has rfl _ _ rfl rfl hS (by assumption) (by first | exact List.not_mem_nil | assumption) (by first | exact ot_int | exact ot_bool) (by first | rfl | assumption) ?_) | (refine own_box rfl _ _ rfl rfl hS ?_; clear hS; (try clear ww); intro bb ww hS) | (refine own_alloc rfl _ rfl hS (by first | exact zt_style) ?_; clear hS; (try clear ww); intro bb ww hS) | (refine own_store rfl _ _ _ rfl rfl rfl hS (atl (by repeat constructor)) (by first | exact rt_font | exact rt_style) (by rfl) (by rfl) ?_; clear hS; (try clear ww); intro ww hS; (try simp only at hS); (try simp only [List.set_cons_succ] at hS); (try simp only [List.set_cons_zero] at hS)) | (refine own_store1 rfl _ _ _ rfl rfl rfl rfl hS (atl (by repeat constructor)) (by first | exact ot_int | exact ot_bool) (by simp) ?_; clear hS; (try clear ww); intro ww hS; (try simp only at hS); (try simp only [List.set_cons_succ] at hS); (try simp only [List.set_cons_zero] at hS); (try simp only [Act.eval] at hS); (try simp only [Array.getD_eq_getD_getElem?] at hS); (try simp only [List.getElem?_toArray] at hS); (try simp only [List.getElem?_cons_succ] at hS); (try simp only [List.getElem?_cons_zero] at hS); (try simp only [Option.getD_some] at hS)))
  go_ret2
  exact own_gives hS

set_option maxHeartbeats 4000000 in
set_option maxRecDepth 100000 in
theorem style_Percent_0 (F : Fnt) (c : Bool) (w : World) (hF : FntOk w F) (hv : ValidF F) : Calls Try.prog 21 #[F.val, .agg #[.int .i64 0, .bool c]] w (Gives (.tuple #[.int .i64 (100), .int .i64 0]) w) := by
  have HF := Lib.hid hF
  have HL := Lib.hid (show lvlOk 0 = true from rfl)
  have HV := Lib.hid hv
  clear hF hv
  go_enter Try.func21, Try.ntmps21
  have hS := own_start w
  go_wp2_with (first | (refine own_unguard (by rfl) ?_) | (go_at_call 39; refine own_calls hS (style_Valid_v HL) ?_; clear hS; (try clear ww); intro ww hS) | (go_at_call 40; refine own_calls hS (font_Valid_calls F _ (HF.out.below hS.below) _ (iff_t HV.out)) ?_; clear hS; (try clear ww); intro ww hS) | (refine own_load1 rfl _ _ rfl rfl hS (atl (by repeat constructor)) (by first | exact ot_int | exact ot_bool) (by first | rfl | assumption) ?_) | (refine own_load rfl _ _ rfl rfl hS (atl (by repeat constructor)) (by first | exact rt_font | exact rt_style) ?_) | (refine own_load_old rfl _ _ rfl rfl hS (by assumption) (by first | exact List.not_mem_nil | assumption) (by first | exact rt_font | exact rt_style) ?_) | (refine own_load_has rfl _ _ rfl rfl hS (by assumption) (by first | exact List.not_mem_nil | assumption) (by first | exact rt_font | exact rt_style) ?_) | (refine own_load1_old rfl _ _ rfl rfl hS (by assumption) (by first | exact List.not_mem_nil | assumption) (by first | exact ot_int | exact ot_bool) ?_) | (refine own_load1_has rfl _ _ rfl rfl hS (by assumption) (by first | exact List.not_mem_nil | assumption) (by first | exact ot_int | exact ot_bool) (by first | rfl | assumption) ?_) | (refine own_box rfl _ _ rfl rfl hS ?_; clear hS; (try clear ww); intro bb ww hS) | (refine own_alloc rfl _ rfl hS (by first | exact zt_style) ?_; clear hS; (try clear ww); intro bb ww hS) | (refine own_store rfl _ _ _ rfl rfl rfl hS (atl (by repeat constructor)) (by first | exact rt_font | exact rt_style) (by rfl) (by rfl) ?_; clear hS; (try clear ww); intro ww hS; (try simp only at hS); (try simp only [List.set_cons_succ] at hS); (try simp only [List.set_cons_zero] at hS)) | (refine own_store1 rfl _ _ _ rfl rfl rfl rfl hS (atl (by repeat constructor)) (by first | exact ot_int | exact ot_bool) (by simp) ?_; clear hS; (try clear ww); intro ww hS; (try simp only at hS); (try simp only [List.set_cons_succ] at hS); (try simp only [List.set_cons_zero] at hS); (try simp only [Act.eval] at hS); (try simp only [Array.getD_eq_getD_getElem?] at hS); (try simp only [List.getElem?_toArray] at hS); (try simp only [List.getElem?_cons_succ] at hS); (try simp only [List.getElem?_cons_zero] at hS); (try simp only [Option.getD_some] at hS)))
  go_ret2
  exact own_gives hS

set_option maxHeartbeats 4000000 in
set_option maxRecDepth 100000 in
theorem style_Percent_1 (F : Fnt) (c : Bool) (w : World) (hF : FntOk w F) (hv : ValidF F) : Calls Try.prog 21 #[F.val, .agg #[.int .i64 1, .bool c]] w (Gives (.tuple #[.int .i64 (100), .int .i64 0]) w) := by
  have HF := Lib.hid hF
  have HL := Lib.hid (show lvlOk 1 = true from rfl)
  have HV := Lib.hid hv
  clear hF hv
  go_enter Try.func21, Try.ntmps21
  have hS := own_start w
  go_wp2_with (first | (refine own_unguard (by rfl) ?_) | (go_at_call 39; refine own_calls hS (style_Valid_v HL) ?_; clear hS; (try clear ww); intro ww hS) | (go_at_call 40; refine own_calls hS (font_Valid_calls F _ (HF.out.below hS.below) _ (iff_t HV.out)) ?_; clear hS; (try clear ww); intro ww hS) | (refine own_load1 rfl _ _ rfl rfl hS (atl (by repeat constructor)) (by first | exact ot_int | exact ot_bool) (by first | rfl | assumption) ?_) | (refine own_load rfl _ _ rfl rfl hS (atl (by repeat constructor)) (by first | exact rt_font | exact rt_style) ?_) | (refine own_load_old rfl _ _ rfl rfl hS (by assumption) (by first | exact List.not_mem_nil | assumption) (by first | exact rt_font | exact rt_style) ?_) | (refine own_load_has rfl _ _ rfl rfl hS (by assumption) (by first | exact List.not_mem_nil | assumption) (by first | exact rt_font | exact rt_style) ?_) | (refine own_load1_old rfl _ _ rfl rfl hS (by assumption) (by first | exact List.not_mem_nil | assumption) (by first | exact ot_int | exact ot_bool) ?_) | (refine own_load1_has rfl _ _ rfl rfl hS (by assumption) (by first | exact List.not_mem_nil | assumption) (by first | exact ot_int | exact ot_bool) (by first | rfl | assumption) ?_) | (refine own_box rfl _ _ rfl rfl hS ?_; clear hS; (try clear ww); intro bb ww hS) | (refine own_alloc rfl _ rfl hS (by first | exact zt_style) ?_; clear hS; (try clear ww); intro bb ww hS) | (refine own_store rfl _ _ _ rfl rfl rfl hS (atl (by repeat constructor)) (by first | exact rt_font | exact rt_style) (by rfl) (by rfl) ?_; clear hS; (try clear ww); intro ww hS; (try simp only at hS); (try simp only [List.set_cons_succ] at hS); (try simp only [List.set_cons_zero] at hS)) | (refine own_store1 rfl _ _ _ rfl rfl rfl rfl hS (atl (by repeat constructor)) (by first | exact ot_int | exact ot_bool) (by simp) ?_; clear hS; (try clear ww); intro ww hS; (try simp only at hS); (try simp only [List.set_cons_succ] at hS); (try simp only [List.set_cons_zero] at hS); (try simp only [Act.eval] at hS); (try simp only [Array.getD_eq_getD_getElem?] at hS); (try simp only [List.getElem?_toArray] at hS); (try simp only [List.getElem?_cons_succ] at hS); (try simp only [List.getElem?_cons_zero] at hS); (try simp only [Option.getD_some] at hS)))
  go_ret2
  exact own_gives hS

set_option maxHeartbeats 4000000 in
set_option maxRecDepth 100000 in
theorem style_Percent_2 (F : Fnt) (c : Bool) (w : World) (hF : FntOk w F) (hv : ValidF F) : Calls Try.prog 21 #[F.val, .agg #[.int .i64 2, .bool c]] w (Gives (.tuple #[.int .i64 (F.script), .int .i64 0]) w) := by
  have HF := Lib.hid hF
  have HL := Lib.hid (show lvlOk 2 = true from rfl)
  have HV := Lib.hid hv
  clear hF hv
  go_enter Try.func21, Try.ntmps21
  have hS := own_start w
  go_wp2_with (first | (refine own_unguard (by rfl) ?_) | (go_at_call 39; refine own_calls hS (style_Valid_v HL) ?_; clear hS; (try clear ww); intro ww hS) | (go_at_call 40; refine own_calls hS (font_Valid_calls F _ (HF.out.below hS.below) _ (iff_t HV.out)) ?_; clear hS; (try clear ww); intro ww hS) | (refine own_load1 rfl _ _ rfl rfl hS (atl (by repeat constructor)) (by first | exact ot_int | exact ot_bool) (by first | rfl | assumption) ?_) | (refine own_load rfl _ _ rfl rfl hS (atl (by repeat constructor)) (by first | exact rt_font | exact rt_style) ?_) | (refine own_load_old rfl _ _ rfl rfl hS (by assumption) (by first | exact List.not_mem_nil | assumption) (by first | exact rt_font | exact rt_style) ?_) | (refine own_load_has rfl _ _ rfl rfl hS (by assumption) (by first | exact List.not_mem_nil | assumption) (by first | exact rt_font | exact rt_style) ?_) | (refine own_load1_old rfl _ _ rfl rfl hS (by assumption) (by first | exact List.not_mem_nil | assumption) (by first | exact ot_int | exact ot_bool) ?_) | (refine own_load1_has rfl _ _ rfl rfl hS (by assumption) (by first | exact List.not_mem_nil | assumption) (by first | exact ot_int | exact ot_bool) (by first | rfl | assumption) ?_) | (refine own_box rfl _ _ rfl rfl hS ?_; clear hS; (try clear ww); intro bb ww hS) | (refine own_alloc rfl _ rfl hS (by first | exact zt_style) ?_; clear hS; (try clear ww); intro bb ww hS) | (refine own_store rfl _ _ _ rfl rfl rfl hS (atl (by repeat constructor)) (by first | exact rt_font | exact rt_style) (by rfl) (by rfl) ?_; clear hS; (try clear ww); intro ww hS; (try simp only at hS); (try simp only [List.set_cons_succ] at hS); (try simp only [List.set_cons_zero] at hS)) | (refine own_store1 rfl _ _ _ rfl rfl rfl rfl hS (atl (by repeat constructor)) (by first | exact ot_int | exact ot_bool) (by simp) ?_; clear hS; (try clear ww); intro ww hS; (try simp only at hS); (try simp only [List.set_cons_succ] at hS); (try simp only [List.set_cons_zero] at hS); (try simp only [Act.eval] at hS); (try simp only [Array.getD_eq_getD_getElem?] at hS); (try simp only [List.getElem?_toArray] at hS); (try simp only [List.getElem?_cons_succ] at hS); (try simp only [List.getElem?_cons_zero] at hS); (try simp only [Option.getD_some] at hS)))
  go_ret2
  exact own_gives hS

set_option maxHeartbeats 4000000 in
set_option maxRecDepth 100000 in
theorem style_Percent_3 (F : Fnt) (c : Bool) (w : World) (hF : FntOk w F) (hv : ValidF F) : Calls Try.prog 21 #[F.val, .agg #[.int .i64 3, .bool c]] w (Gives (.tuple #[.int .i64 (F.sscript), .int .i64 0]) w) := by
  have HF := Lib.hid hF
  have HL := Lib.hid (show lvlOk 3 = true from rfl)
  have HV := Lib.hid hv
  clear hF hv
  go_enter Try.func21, Try.ntmps21
  have hS := own_start w
  go_wp2_with (first | (refine own_unguard (by rfl) ?_) | (go_at_call 39; refine own_calls hS (style_Valid_v HL) ?_; clear hS; (try clear ww); intro ww hS) | (go_at_call 40; refine own_calls hS (font_Valid_calls F _ (HF.out.below hS.below) _ (iff_t HV.out)) ?_; clear hS; (try clear ww); intro ww hS) | (refine own_load1 rfl _ _ rfl rfl hS (atl (by repeat constructor)) (by first | exact ot_int | exact ot_bool) (by first | rfl | assumption) ?_) | (refine own_load rfl _ _ rfl rfl hS (atl (by repeat constructor)) (by first | exact rt_font | exact rt_style) ?_) | (refine own_load_old rfl _ _ rfl rfl hS (by assumption) (by first | exact List.not_mem_nil | assumption) (by first | exact rt_font | exact rt_style) ?_) | (refine own_load_has rfl _ _ rfl rfl hS (by assumption) (by first | exact List.not_mem_nil | assumption) (by first | exact rt_font | exact rt_style) ?_) | (refine own_load1_old rfl _ _ rfl rfl hS (by assumption) (by first | exact List.not_mem_nil | assumption) (by first | exact ot_int | exact ot_bool) ?_) | (refine own_load1_has rfl _ _ rfl rfl hS (by assumption) (by first | exact List.not_mem_nil | assumption) (by first | exact ot_int | exact ot_bool) (by first | rfl | assumption) ?_) | (refine own_box rfl _ _ rfl rfl hS ?_; clear hS; (try clear ww); intro bb ww hS) | (refine own_alloc rfl _ rfl hS (by first | exact zt_style) ?_; clear hS; (try clear ww); intro bb ww hS) | (refine own_store rfl _ _ _ rfl rfl rfl hS (atl (by repeat constructor)) (by first | exact rt_font | exact rt_style) (by rfl) (by rfl) ?_; clear hS; (try clear ww); intro ww hS; (try simp only at hS); (try simp only [List.set_cons_succ] at hS); (try simp only [List.set_cons_zero] at hS)) | (refine own_store1 rfl _ _ _ rfl rfl rfl rfl hS (atl (by repeat constructor)) (by first | exact ot_int | exact ot_bool) (by simp) ?_; clear hS; (try clear ww); intro ww hS; (try simp only at hS); (try simp only [List.set_cons_succ] at hS); (try simp only [List.set_cons_zero] at hS); (try simp only [Act.eval] at hS); (try simp only [Array.getD_eq_getD_getElem?] at hS); (try simp only [List.getElem?_toArray] at hS); (try simp only [List.getElem?_cons_succ] at hS); (try simp only [List.getElem?_cons_zero] at hS); (try simp only [Option.getD_some] at hS)))
  go_ret2
  exact own_gives hS

theorem style_Percent_ok (F : Fnt) (l : Int) (c : Bool) (w : World) (hF : FntOk w F) (h : lvlOk l = true) (hv : ValidF F) : Calls Try.prog 21 #[F.val, .agg #[.int .i64 l, .bool c]] w (Gives (.tuple #[.int .i64 (sizeOf' F l), .int .i64 0]) w) := by
  have hc : l = 0 ∨ l = 1 ∨ l = 2 ∨ l = 3 := by simp [lvlOk] at h; omega
  rcases hc with rfl | rfl | rfl | rfl
  · exact style_Percent_0 F c w hF hv
  · exact style_Percent_1 F c w hF hv
  · exact style_Percent_2 F c w hF hv
  · exact style_Percent_3 F c w hF hv

/-- What Percent returns. -/
theorem style_Percent_calls (F : Fnt) (l p e : Int) (c : Bool) (w : World) (hF : FntOk w F) (hx : PctOk F l p e) : Calls Try.prog 21 #[F.val, .agg #[.int .i64 l, .bool c]] w (Gives (.tuple #[.int .i64 p, .int .i64 e]) w) := by
  cases h : lvlOk l
  · obtain ⟨rfl, rfl⟩ := hx.2 (Or.inl h); exact style_Percent_lvl F l c w h
  · by_cases hv : ValidF F
    · obtain ⟨rfl, rfl⟩ := hx.1 ⟨h, hv⟩; exact style_Percent_ok F l c w hF h hv
    · obtain ⟨rfl, rfl⟩ := hx.2 (Or.inr hv); exact style_Percent_bad F l c w hF h hv

set_option maxHeartbeats 4000000 in
set_option maxRecDepth 100000 in
theorem ref25_Size_0 (F : Fnt) (c : Bool) (w : World) : Calls Try.prog 36 #[F.val, .agg #[.int .i64 0, .bool c]] w (Gives (.int .i64 (100)) w) := by
  have HL := Lib.hid (show lvlOk 0 = true from rfl)
  go_enter Try.func36, Try.ntmps36
  have hS := own_start w
  go_wp2_with (first | (refine own_unguard (by rfl) ?_) | (go_at_call 48; refine own_calls hS (ref25_Valid_v HL) ?_; clear hS; (try clear ww); intro ww hS) | (refine own_buildSlice rfl _ _ 4 _ rfl [.int .i64 100, .int .i64 100, .int .i64 F.script, .int .i64 F.sscript] hS Try.underlying31 (by kernel_rfl) ?_; clear hS; (try clear ww); intro bb ww hS) | (refine own_load1 rfl _ _ rfl rfl hS (atl (by repeat constructor)) (by first | exact ot_int | exact ot_bool) (by first | rfl | assumption) ?_) | (refine own_load rfl _ _ rfl rfl hS (atl (by repeat constructor)) (by first | exact rt_font | exact rt_style) ?_) | (refine own_load_old rfl _ _ rfl rfl hS (by assumption) (by first | exact List.not_mem_nil | assumption) (by first | exact rt_font | exact rt_style) ?_) | (refine own_load_has rfl _ _ rfl rfl hS (by assumption) (by first | exact List.not_mem_nil | assumption) (by first | exact rt_font | exact rt_style) ?_) | (refine own_load1_old rfl _ _ rfl rfl hS (by assumption) (by first | exact List.not_mem_nil | assumption) (by first | exact ot_int | exact ot_bool) ?_) | (refine own_load1_has rfl _ _ rfl rfl hS (by assumption) (by first | exact List.not_mem_nil | assumption) (by first | exact ot_int | exact ot_bool) (by first | rfl | assumption) ?_) | (refine own_box rfl _ _ rfl rfl hS ?_; clear hS; (try clear ww); intro bb ww hS) | (refine own_alloc rfl _ rfl hS (by first | exact zt_style) ?_; clear hS; (try clear ww); intro bb ww hS) | (refine own_store rfl _ _ _ rfl rfl rfl hS (atl (by repeat constructor)) (by first | exact rt_font | exact rt_style) (by rfl) (by rfl) ?_; clear hS; (try clear ww); intro ww hS; (try simp only at hS); (try simp only [List.set_cons_succ] at hS); (try simp only [List.set_cons_zero] at hS)) | (refine own_store1 rfl _ _ _ rfl rfl rfl rfl hS (atl (by repeat constructor)) (by first | exact ot_int | exact ot_bool) (by simp) ?_; clear hS; (try clear ww); intro ww hS; (try simp only at hS); (try simp only [List.set_cons_succ] at hS); (try simp only [List.set_cons_zero] at hS); (try simp only [Act.eval] at hS); (try simp only [Array.getD_eq_getD_getElem?] at hS); (try simp only [List.getElem?_toArray] at hS); (try simp only [List.getElem?_cons_succ] at hS); (try simp only [List.getElem?_cons_zero] at hS); (try simp only [Option.getD_some] at hS)))
  go_ret
  exact own_gives hS

set_option maxHeartbeats 4000000 in
set_option maxRecDepth 100000 in
theorem ref25_Size_1 (F : Fnt) (c : Bool) (w : World) : Calls Try.prog 36 #[F.val, .agg #[.int .i64 1, .bool c]] w (Gives (.int .i64 (100)) w) := by
  have HL := Lib.hid (show lvlOk 1 = true from rfl)
  go_enter Try.func36, Try.ntmps36
  have hS := own_start w
  go_wp2_with (first | (refine own_unguard (by rfl) ?_) | (go_at_call 48; refine own_calls hS (ref25_Valid_v HL) ?_; clear hS; (try clear ww); intro ww hS) | (refine own_buildSlice rfl _ _ 4 _ rfl [.int .i64 100, .int .i64 100, .int .i64 F.script, .int .i64 F.sscript] hS Try.underlying31 (by kernel_rfl) ?_; clear hS; (try clear ww); intro bb ww hS) | (refine own_load1 rfl _ _ rfl rfl hS (atl (by repeat constructor)) (by first | exact ot_int | exact ot_bool) (by first | rfl | assumption) ?_) | (refine own_load rfl _ _ rfl rfl hS (atl (by repeat constructor)) (by first | exact rt_font | exact rt_style) ?_) | (refine own_load_old rfl _ _ rfl rfl hS (by assumption) (by first | exact List.not_mem_nil | assumption) (by first | exact rt_font | exact rt_style) ?_) | (refine own_load_has rfl _ _ rfl rfl hS (by assumption) (by first | exact List.not_mem_nil | assumption) (by first | exact rt_font | exact rt_style) ?_) | (refine own_load1_old rfl _ _ rfl rfl hS (by assumption) (by first | exact List.not_mem_nil | assumption) (by first | exact ot_int | exact ot_bool) ?_) | (refine own_load1_has rfl _ _ rfl rfl hS (by assumption) (by first | exact List.not_mem_nil | assumption) (by first | exact ot_int | exact ot_bool) (by first | rfl | assumption) ?_) | (refine own_box rfl _ _ rfl rfl hS ?_; clear hS; (try clear ww); intro bb ww hS) | (refine own_alloc rfl _ rfl hS (by first | exact zt_style) ?_; clear hS; (try clear ww); intro bb ww hS) | (refine own_store rfl _ _ _ rfl rfl rfl hS (atl (by repeat constructor)) (by first | exact rt_font | exact rt_style) (by rfl) (by rfl) ?_; clear hS; (try clear ww); intro ww hS; (try simp only at hS); (try simp only [List.set_cons_succ] at hS); (try simp only [List.set_cons_zero] at hS)) | (refine own_store1 rfl _ _ _ rfl rfl rfl rfl hS (atl (by repeat constructor)) (by first | exact ot_int | exact ot_bool) (by simp) ?_; clear hS; (try clear ww); intro ww hS; (try simp only at hS); (try simp only [List.set_cons_succ] at hS); (try simp only [List.set_cons_zero] at hS); (try simp only [Act.eval] at hS); (try simp only [Array.getD_eq_getD_getElem?] at hS); (try simp only [List.getElem?_toArray] at hS); (try simp only [List.getElem?_cons_succ] at hS); (try simp only [List.getElem?_cons_zero] at hS); (try simp only [Option.getD_some] at hS)))
  go_ret
  exact own_gives hS

set_option maxHeartbeats 4000000 in
set_option maxRecDepth 100000 in
theorem ref25_Size_2 (F : Fnt) (c : Bool) (w : World) : Calls Try.prog 36 #[F.val, .agg #[.int .i64 2, .bool c]] w (Gives (.int .i64 (F.script)) w) := by
  have HL := Lib.hid (show lvlOk 2 = true from rfl)
  go_enter Try.func36, Try.ntmps36
  have hS := own_start w
  go_wp2_with (first | (refine own_unguard (by rfl) ?_) | (go_at_call 48; refine own_calls hS (ref25_Valid_v HL) ?_; clear hS; (try clear ww); intro ww hS) | (refine own_buildSlice rfl _ _ 4 _ rfl [.int .i64 100, .int .i64 100, .int .i64 F.script, .int .i64 F.sscript] hS Try.underlying31 (by kernel_rfl) ?_; clear hS; (try clear ww); intro bb ww hS) | (refine own_load1 rfl _ _ rfl rfl hS (atl (by repeat constructor)) (by first | exact ot_int | exact ot_bool) (by first | rfl | assumption) ?_) | (refine own_load rfl _ _ rfl rfl hS (atl (by repeat constructor)) (by first | exact rt_font | exact rt_style) ?_) | (refine own_load_old rfl _ _ rfl rfl hS (by assumption) (by first | exact List.not_mem_nil | assumption) (by first | exact rt_font | exact rt_style) ?_) | (refine own_load_has rfl _ _ rfl rfl hS (by assumption) (by first | exact List.not_mem_nil | assumption) (by first | exact rt_font | exact rt_style) ?_) | (refine own_load1_old rfl _ _ rfl rfl hS (by assumption) (by first | exact List.not_mem_nil | assumption) (by first | exact ot_int | exact ot_bool) ?_) | (refine own_load1_has rfl _ _ rfl rfl hS (by assumption) (by first | exact List.not_mem_nil | assumption) (by first | exact ot_int | exact ot_bool) (by first | rfl | assumption) ?_) | (refine own_box rfl _ _ rfl rfl hS ?_; clear hS; (try clear ww); intro bb ww hS) | (refine own_alloc rfl _ rfl hS (by first | exact zt_style) ?_; clear hS; (try clear ww); intro bb ww hS) | (refine own_store rfl _ _ _ rfl rfl rfl hS (atl (by repeat constructor)) (by first | exact rt_font | exact rt_style) (by rfl) (by rfl) ?_; clear hS; (try clear ww); intro ww hS; (try simp only at hS); (try simp only [List.set_cons_succ] at hS); (try simp only [List.set_cons_zero] at hS)) | (refine own_store1 rfl _ _ _ rfl rfl rfl rfl hS (atl (by repeat constructor)) (by first | exact ot_int | exact ot_bool) (by simp) ?_; clear hS; (try clear ww); intro ww hS; (try simp only at hS); (try simp only [List.set_cons_succ] at hS); (try simp only [List.set_cons_zero] at hS); (try simp only [Act.eval] at hS); (try simp only [Array.getD_eq_getD_getElem?] at hS); (try simp only [List.getElem?_toArray] at hS); (try simp only [List.getElem?_cons_succ] at hS); (try simp only [List.getElem?_cons_zero] at hS); (try simp only [Option.getD_some] at hS)))
  go_ret
  exact own_gives hS

set_option maxHeartbeats 4000000 in
set_option maxRecDepth 100000 in
theorem ref25_Size_3 (F : Fnt) (c : Bool) (w : World) : Calls Try.prog 36 #[F.val, .agg #[.int .i64 3, .bool c]] w (Gives (.int .i64 (F.sscript)) w) := by
  have HL := Lib.hid (show lvlOk 3 = true from rfl)
  go_enter Try.func36, Try.ntmps36
  have hS := own_start w
  go_wp2_with (first | (refine own_unguard (by rfl) ?_) | (go_at_call 48; refine own_calls hS (ref25_Valid_v HL) ?_; clear hS; (try clear ww); intro ww hS) | (refine own_buildSlice rfl _ _ 4 _ rfl [.int .i64 100, .int .i64 100, .int .i64 F.script, .int .i64 F.sscript] hS Try.underlying31 (by kernel_rfl) ?_; clear hS; (try clear ww); intro bb ww hS) | (refine own_load1 rfl _ _ rfl rfl hS (atl (by repeat constructor)) (by first | exact ot_int | exact ot_bool) (by first | rfl | assumption) ?_) | (refine own_load rfl _ _ rfl rfl hS (atl (by repeat constructor)) (by first | exact rt_font | exact rt_style) ?_) | (refine own_load_old rfl _ _ rfl rfl hS (by assumption) (by first | exact List.not_mem_nil | assumption) (by first | exact rt_font | exact rt_style) ?_) | (refine own_load_has rfl _ _ rfl rfl hS (by assumption) (by first | exact List.not_mem_nil | assumption) (by first | exact rt_font | exact rt_style) ?_) | (refine own_load1_old rfl _ _ rfl rfl hS (by assumption) (by first | exact List.not_mem_nil | assumption) (by first | exact ot_int | exact ot_bool) ?_) | (refine own_load1_has rfl _ _ rfl rfl hS (by assumption) (by first | exact List.not_mem_nil | assumption) (by first | exact ot_int | exact ot_bool) (by first | rfl | assumption) ?_) | (refine own_box rfl _ _ rfl rfl hS ?_; clear hS; (try clear ww); intro bb ww hS) | (refine own_alloc rfl _ rfl hS (by first | exact zt_style) ?_; clear hS; (try clear ww); intro bb ww hS) | (refine own_store rfl _ _ _ rfl rfl rfl hS (atl (by repeat constructor)) (by first | exact rt_font | exact rt_style) (by rfl) (by rfl) ?_; clear hS; (try clear ww); intro ww hS; (try simp only at hS); (try simp only [List.set_cons_succ] at hS); (try simp only [List.set_cons_zero] at hS)) | (refine own_store1 rfl _ _ _ rfl rfl rfl rfl hS (atl (by repeat constructor)) (by first | exact ot_int | exact ot_bool) (by simp) ?_; clear hS; (try clear ww); intro ww hS; (try simp only at hS); (try simp only [List.set_cons_succ] at hS); (try simp only [List.set_cons_zero] at hS); (try simp only [Act.eval] at hS); (try simp only [Array.getD_eq_getD_getElem?] at hS); (try simp only [List.getElem?_toArray] at hS); (try simp only [List.getElem?_cons_succ] at hS); (try simp only [List.getElem?_cons_zero] at hS); (try simp only [Option.getD_some] at hS)))
  go_ret
  exact own_gives hS

theorem ref25_Size_in (F : Fnt) (l : Int) (c : Bool) (w : World) (h : lvlOk l = true) : Calls Try.prog 36 #[F.val, .agg #[.int .i64 l, .bool c]] w (Gives (.int .i64 (sizeOf' F l)) w) := by
  have hc : l = 0 ∨ l = 1 ∨ l = 2 ∨ l = 3 := by simp [lvlOk] at h; omega
  rcases hc with rfl | rfl | rfl | rfl
  · exact ref25_Size_0 F c w
  · exact ref25_Size_1 F c w
  · exact ref25_Size_2 F c w
  · exact ref25_Size_3 F c w









end Go.Proofs.Ytfmoghkffffmmaa
namespace Go.Proofs.Ytfmoghkffffmmaa
open Go.RowKit

attribute [local irreducible] Code.wp Calls

set_option maxHeartbeats 1000000 in
theorem length_Half_calls (n : Int) (w : World) : Calls Try.prog 25 #[.int .i64 n] w (Draws (.int .i64 (hlf n)) w) := by
  by_cases h : lenOk n = true
  · have hb := lenOk_iff.1 h
    have hs := Lib.hid (hlf_ok hb)
    go_enter Try.func25, Try.ntmps25
    go_wp2_with fail
    refine (length_Valid_calls _ _).mono ?_
    rintro e w' ⟨rfl, rfl⟩
    go_wp2_with fail
    refine (quotient_2_calls _ _ (by omega) (by omega)).mono ?_
    rintro e w' ⟨rfl, m, rfl⟩
    go_wp2_with fail
    go_ret
    exact ⟨ret_int hs.out.symm, m, rfl⟩
  · have hs := Lib.hid (show hlf n = 0 by unfold hlf; rw [if_neg h])
    have hl : lenOk n = false := by simpa using h
    clear h
    go_enter Try.func25, Try.ntmps25
    go_wp2_with fail
    refine (length_Valid_calls _ _).mono ?_
    rintro e w' ⟨rfl, rfl⟩
    go_wp2_with fail
    go_ret
    exact ⟨ret_int hs.out.symm, 0, rfl⟩

theorem length_Half_gives (n : Int) (w : World) : Calls Try.prog 25 #[.int .i64 n] w (Gives (.int .i64 (hlf n)) w) := (length_Half_calls n w).mono fun _ _ h => h.gives
set_option maxHeartbeats 400000 in
theorem ref01_Valid_calls (a : Int) (w : World) :
    Calls Try.prog 51 #[.int .i64 a] w fun e w' => e = .returned (.bool (lenOk a)) ∧ w = w' := by
  go_enter Try.func51, Try.ntmps51
  go_wp2
  all_goals (go_ret; refine ⟨ret_bool ?_, rfl⟩; unfold lenOk; simp; omega)

set_option maxHeartbeats 400000 in
theorem ref01_size_p (a : Int) (w : World) (h : 0 ≤ a) :
    Calls Try.prog 65 #[.int .i64 a] w fun e w' => e = .returned (.int .i64 a) ∧ w = w' := by
  go_enter Try.func65, Try.ntmps65
  go_wp2
  all_goals (go_ret; exact ⟨rfl, rfl⟩)

set_option maxHeartbeats 400000 in
theorem ref01_size_n (a : Int) (w : World) (h : a < 0) (h1 : -10737418240000 ≤ a) :
    Calls Try.prog 65 #[.int .i64 a] w fun e w' => e = .returned (.int .i64 (-a)) ∧ w = w' := by
  go_enter Try.func65, Try.ntmps65
  go_wp2
  all_goals (go_ret; exact ⟨rfl, rfl⟩)

set_option maxHeartbeats 1000000 in
theorem ref01_round_100_p (a : Int) (w : World) (h0 : 0 ≤ a) (h1 : a ≤ 10737418240000) :
    Calls Try.prog 52 #[.int .i64 a, .int .i64 100] w fun e w' => e = .returned (.int .i64 (rdiv a 100)) ∧ w = w' := by
  have hs := Lib.hid (show rdiv a 100 = (2 * a + 100) / 200 by unfold rdiv; rw [if_pos h0]; rfl)
  go_enter Try.func52, Try.ntmps52
  go_wp2_with fail
  refine (ref01_size_p a _ h0).mono ?_
  rintro e w' ⟨rfl, rfl⟩
  go_wp2_with fail
  refine (ref01_size_p 100 _ (by omega)).mono ?_
  rintro e w' ⟨rfl, rfl⟩
  go_wp2_with fail
  refine (ref01_size_p 100 _ (by omega)).mono ?_
  rintro e w' ⟨rfl, rfl⟩
  go_wp2_with fail
  go_ret
  exact ⟨ret_int hs.out.symm, rfl⟩

set_option maxHeartbeats 1000000 in
theorem ref01_round_100_n (a : Int) (w : World) (h0 : a < 0) (h1 : -10737418240000 ≤ a) :
    Calls Try.prog 52 #[.int .i64 a, .int .i64 100] w fun e w' => e = .returned (.int .i64 (rdiv a 100)) ∧ w = w' := by
  have hs := Lib.hid (show rdiv a 100 = -((2 * (-a) + 100) / 200) by unfold rdiv; rw [if_neg (by omega)]; rfl)
  go_enter Try.func52, Try.ntmps52
  go_wp2_with fail
  refine (ref01_size_n a _ h0 h1).mono ?_
  rintro e w' ⟨rfl, rfl⟩
  go_wp2_with fail
  refine (ref01_size_p 100 _ (by omega)).mono ?_
  rintro e w' ⟨rfl, rfl⟩
  go_wp2_with fail
  refine (ref01_size_p 100 _ (by omega)).mono ?_
  rintro e w' ⟨rfl, rfl⟩
  go_wp2_with fail
  go_ret
  exact ⟨ret_int hs.out.symm, rfl⟩

set_option maxHeartbeats 1000000 in
theorem ref01_round_2_p (a : Int) (w : World) (h0 : 0 ≤ a) (h1 : a ≤ 10737418240000) :
    Calls Try.prog 52 #[.int .i64 a, .int .i64 2] w fun e w' => e = .returned (.int .i64 (rdiv a 2)) ∧ w = w' := by
  have hs := Lib.hid (show rdiv a 2 = (2 * a + 2) / 4 by unfold rdiv; rw [if_pos h0]; rfl)
  go_enter Try.func52, Try.ntmps52
  go_wp2_with fail
  refine (ref01_size_p a _ h0).mono ?_
  rintro e w' ⟨rfl, rfl⟩
  go_wp2_with fail
  refine (ref01_size_p 2 _ (by omega)).mono ?_
  rintro e w' ⟨rfl, rfl⟩
  go_wp2_with fail
  refine (ref01_size_p 2 _ (by omega)).mono ?_
  rintro e w' ⟨rfl, rfl⟩
  go_wp2_with fail
  go_ret
  exact ⟨ret_int hs.out.symm, rfl⟩

set_option maxHeartbeats 1000000 in
theorem ref01_round_2_n (a : Int) (w : World) (h0 : a < 0) (h1 : -10737418240000 ≤ a) :
    Calls Try.prog 52 #[.int .i64 a, .int .i64 2] w fun e w' => e = .returned (.int .i64 (rdiv a 2)) ∧ w = w' := by
  have hs := Lib.hid (show rdiv a 2 = -((2 * (-a) + 2) / 4) by unfold rdiv; rw [if_neg (by omega)]; rfl)
  go_enter Try.func52, Try.ntmps52
  go_wp2_with fail
  refine (ref01_size_n a _ h0 h1).mono ?_
  rintro e w' ⟨rfl, rfl⟩
  go_wp2_with fail
  refine (ref01_size_p 2 _ (by omega)).mono ?_
  rintro e w' ⟨rfl, rfl⟩
  go_wp2_with fail
  refine (ref01_size_p 2 _ (by omega)).mono ?_
  rintro e w' ⟨rfl, rfl⟩
  go_wp2_with fail
  go_ret
  exact ⟨ret_int hs.out.symm, rfl⟩

theorem ref01_round_100 (a : Int) (w : World) (h0 : -10737418240000 ≤ a) (h1 : a ≤ 10737418240000) :
    Calls Try.prog 52 #[.int .i64 a, .int .i64 100] w fun e w' => e = .returned (.int .i64 (rdiv a 100)) ∧ w = w' := by
  by_cases h : 0 ≤ a
  · exact ref01_round_100_p a w h h1
  · exact ref01_round_100_n a w (by omega) h0
theorem ref01_round_2 (a : Int) (w : World) (h0 : -10737418240000 ≤ a) (h1 : a ≤ 10737418240000) :
    Calls Try.prog 52 #[.int .i64 a, .int .i64 2] w fun e w' => e = .returned (.int .i64 (rdiv a 2)) ∧ w = w' := by
  by_cases h : 0 ≤ a
  · exact ref01_round_2_p a w h h1
  · exact ref01_round_2_n a w (by omega) h0

set_option maxHeartbeats 1000000 in
theorem ref01_Half_calls (n : Int) (w : World) : Calls Try.prog 50 #[.int .i64 n] w fun e w' => e = .returned (.int .i64 (hlf n)) ∧ w = w' := by
  by_cases h : lenOk n = true
  · have hb := lenOk_iff.1 h
    have hs := Lib.hid (hlf_ok hb)
    go_enter Try.func50, Try.ntmps50
    go_wp2_with fail
    refine (ref01_Valid_calls _ _).mono ?_
    rintro e w' ⟨rfl, rfl⟩
    go_wp2_with fail
    refine (ref01_round_2 _ _ (by omega) (by omega)).mono ?_
    rintro e w' ⟨rfl, rfl⟩
    go_wp2_with fail
    go_ret
    exact ⟨ret_int hs.out.symm, rfl⟩
  · have hs := Lib.hid (show hlf n = 0 by unfold hlf; rw [if_neg h])
    have hl : lenOk n = false := by simpa using h
    clear h
    go_enter Try.func50, Try.ntmps50
    go_wp2_with fail
    refine (ref01_Valid_calls _ _).mono ?_
    rintro e w' ⟨rfl, rfl⟩
    go_wp2_with fail
    go_ret
    exact ⟨ret_int hs.out.symm, rfl⟩

set_option maxHeartbeats 1000000 in
theorem ref01_Scale_in (n p : Int) (w : World) (h : -1073741824 ≤ n ∧ n ≤ 1073741824) (h0 : 0 ≤ p) (h1 : p ≤ 10000) :
    Calls Try.prog 35 #[.int .i64 n, .int .i64 p] w fun e w' => e = .returned (.int .i64 (scl n p)) ∧ w = w' := by
  have hb := mul_bd h h0 h1
  have hv : lenOk n = true := lenOk_iff.2 h
  have hs := Lib.hid (scl_ok h h0 h1)
  have hm : wrap64 (n * p) = n * p := IntWalk.wrap64_in _ (by omega)
  go_enter Try.func35, Try.ntmps35
  go_wp2_with fail
  refine (ref01_Valid_calls _ _).mono ?_
  rintro e w' ⟨rfl, rfl⟩
  go_wp2_with fail
  refine (ref01_round_100 _ _ hb.1 hb.2).mono ?_
  rintro e w' ⟨rfl, rfl⟩
  go_wp2_with fail
  go_ret
  exact ⟨ret_int hs.out.symm, rfl⟩

theorem ref01_Half_gives (n : Int) (w : World) : Calls Try.prog 50 #[.int .i64 n] w (Gives (.int .i64 (hlf n)) w) :=
  (ref01_Half_calls n w).mono fun _ _ ⟨he, hw⟩ => ⟨he, hw ▸ bself w⟩
theorem ref01_Scale_gives (n p : Int) (w : World) (h : -1073741824 ≤ n ∧ n ≤ 1073741824) (h0 : 0 ≤ p) (h1 : p ≤ 10000) :
    Calls Try.prog 35 #[.int .i64 n, .int .i64 p] w (Gives (.int .i64 (scl n p)) w) :=
  (ref01_Scale_in n p w h h0 h1).mono fun _ _ ⟨he, hw⟩ => ⟨he, hw ▸ bself w⟩

end Go.Proofs.Ytfmoghkffffmmaa
