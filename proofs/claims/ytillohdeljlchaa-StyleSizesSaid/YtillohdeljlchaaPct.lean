/- Percent, in package style and in its reference. -/
import Derived.Test.YtillohdeljlchaaVlf
namespace Go.Proofs.Ytillohdeljlchaa
open Go.RowKit

attribute [local irreducible] wpQuiet wpG wpP wpList Code.wp

theorem rt_style : RowTy Try.prog 23 2 := ⟨⟨_, Try.underlying23, rfl⟩, by kernel_rfl⟩
theorem zt_style : ZeroTy Try.prog 23 [.int .i64 0, .bool false] := ⟨.agg #[.int .i64 0, .bool false], by kernel_rfl, rfl⟩

set_option maxHeartbeats 1000000 in
theorem style_Valid_own (l : Int) (c : Bool) (w : World) : Calls Try.prog 12 #[.agg #[.int .i64 l, .bool c]] w (Gives (.bool (decide (0 ≤ l) && decide (l ≤ 3))) w) := by
  go_enter Try.func12, Try.ntmps12
  have hS := own_start w
  go_wp2_with (first
    | (refine own_unguard (by rfl) ?_)
    | (refine own_load1 rfl _ _ rfl rfl hS (by first | exact at0 | exact at1 | exact at2 | exact at3 | exact at4 | exact at5 | exact at6 | exact at7 | exact at8) (by first | exact ot_int | exact ot_bool) (by first | rfl | assumption) ?_)
    | (refine own_load rfl _ _ rfl rfl hS (by first | exact at0 | exact at1 | exact at2 | exact at3 | exact at4 | exact at5 | exact at6 | exact at7 | exact at8) (by first | exact rt_font | exact rt_style) ?_)
    | (refine own_load_old rfl _ _ rfl rfl hS (by assumption) (by first | exact List.not_mem_nil | assumption) (by first | exact rt_font | exact rt_style) ?_)
    | (refine own_load_has rfl _ _ rfl rfl hS (by assumption) (by first | exact List.not_mem_nil | assumption) (by first | exact rt_font | exact rt_style) ?_)
    | (refine own_load1_old rfl _ _ rfl rfl hS (by assumption) (by first | exact List.not_mem_nil | assumption) (by first | exact ot_int | exact ot_bool) ?_)
    | (refine own_load1_has rfl _ _ rfl rfl hS (by assumption) (by first | exact List.not_mem_nil | assumption) (by first | exact ot_int | exact ot_bool) (by first | rfl | assumption) ?_)
    | (refine own_box rfl _ _ rfl rfl hS ?_; clear hS; (try clear ww); intro bb ww hS)
    | (refine own_alloc rfl _ rfl hS (by first | exact zt_style) ?_; clear hS; (try clear ww); intro bb ww hS)
    | (refine own_store rfl _ _ _ rfl rfl rfl hS (by first | exact at0 | exact at1 | exact at2 | exact at3 | exact at4 | exact at5 | exact at6 | exact at7 | exact at8) (by first | exact rt_font | exact rt_style) (by rfl) (by rfl) ?_; clear hS; (try clear ww); intro ww hS; simp only [List.set_cons_zero, List.set_cons_succ] at hS)
    | (refine own_store1 rfl _ _ _ rfl rfl rfl rfl hS (by first | exact at0 | exact at1 | exact at2 | exact at3 | exact at4 | exact at5 | exact at6 | exact at7 | exact at8) (by first | exact ot_int | exact ot_bool) (by simp) ?_; clear hS; (try clear ww); intro ww hS; simp only [List.set_cons_zero, List.set_cons_succ, Act.eval, Array.getD_eq_getD_getElem?, List.getElem?_toArray, List.getElem?_cons_succ, List.getElem?_cons_zero, Option.getD_some] at hS))
  all_goals
    go_ret
    refine ⟨ret_bool ?_, hS.below⟩
    simp
    try omega

set_option maxHeartbeats 1000000 in
theorem ref25_Valid_own (l : Int) (c : Bool) (w : World) : Calls Try.prog 14 #[.agg #[.int .i64 l, .bool c]] w (Gives (.bool (decide (0 ≤ l) && decide (l ≤ 3))) w) := by
  go_enter Try.func14, Try.ntmps14
  have hS := own_start w
  go_wp2_with (first
    | (refine own_unguard (by rfl) ?_)
    | (refine own_load1 rfl _ _ rfl rfl hS (by first | exact at0 | exact at1 | exact at2 | exact at3 | exact at4 | exact at5 | exact at6 | exact at7 | exact at8) (by first | exact ot_int | exact ot_bool) (by first | rfl | assumption) ?_)
    | (refine own_load rfl _ _ rfl rfl hS (by first | exact at0 | exact at1 | exact at2 | exact at3 | exact at4 | exact at5 | exact at6 | exact at7 | exact at8) (by first | exact rt_font | exact rt_style) ?_)
    | (refine own_load_old rfl _ _ rfl rfl hS (by assumption) (by first | exact List.not_mem_nil | assumption) (by first | exact rt_font | exact rt_style) ?_)
    | (refine own_load_has rfl _ _ rfl rfl hS (by assumption) (by first | exact List.not_mem_nil | assumption) (by first | exact rt_font | exact rt_style) ?_)
    | (refine own_load1_old rfl _ _ rfl rfl hS (by assumption) (by first | exact List.not_mem_nil | assumption) (by first | exact ot_int | exact ot_bool) ?_)
    | (refine own_load1_has rfl _ _ rfl rfl hS (by assumption) (by first | exact List.not_mem_nil | assumption) (by first | exact ot_int | exact ot_bool) (by first | rfl | assumption) ?_)
    | (refine own_box rfl _ _ rfl rfl hS ?_; clear hS; (try clear ww); intro bb ww hS)
    | (refine own_alloc rfl _ rfl hS (by first | exact zt_style) ?_; clear hS; (try clear ww); intro bb ww hS)
    | (refine own_store rfl _ _ _ rfl rfl rfl hS (by first | exact at0 | exact at1 | exact at2 | exact at3 | exact at4 | exact at5 | exact at6 | exact at7 | exact at8) (by first | exact rt_font | exact rt_style) (by rfl) (by rfl) ?_; clear hS; (try clear ww); intro ww hS; simp only [List.set_cons_zero, List.set_cons_succ] at hS)
    | (refine own_store1 rfl _ _ _ rfl rfl rfl rfl hS (by first | exact at0 | exact at1 | exact at2 | exact at3 | exact at4 | exact at5 | exact at6 | exact at7 | exact at8) (by first | exact ot_int | exact ot_bool) (by simp) ?_; clear hS; (try clear ww); intro ww hS; simp only [List.set_cons_zero, List.set_cons_succ, Act.eval, Array.getD_eq_getD_getElem?, List.getElem?_toArray, List.getElem?_cons_succ, List.getElem?_cons_zero, Option.getD_some] at hS))
  all_goals
    go_ret
    refine ⟨ret_bool ?_, hS.below⟩
    simp
    try omega

/-- Is a level one of the four? -/
def lvlOk (l : Int) : Bool := decide (0 ≤ l) && decide (l ≤ 3)
/-- The size of a level. -/
def sizeOf' (F : Fnt) (l : Int) : Int := if l = 2 then F.script else if l = 3 then F.sscript else 100

/-- What Percent returns: the size, the error. -/
def PctOk (F : Fnt) (l : Int) (p e : Int) : Prop := (lvlOk l = true ∧ ValidF F → p = sizeOf' F l ∧ e = 0) ∧ (lvlOk l = false ∨ ¬ ValidF F → p = 0 ∧ e = 1)
theorem pct_ex (F : Fnt) (l : Int) : ∃ x : Int × Int, PctOk F l x.1 x.2 := by
  by_cases h : lvlOk l = true ∧ ValidF F
  · exact ⟨(sizeOf' F l, 0), fun _ => ⟨rfl, rfl⟩, fun h' => by
      rcases h' with h' | h'
      · rw [h.1] at h'; cases h'
      · exact absurd h.2 h'⟩
  · exact ⟨(0, 1), fun h' => absurd h' h, fun _ => ⟨rfl, rfl⟩⟩

theorem style_Valid_v {l : Int} {c v : Bool} {w : World} (hv : Hid (lvlOk l = v)) : Calls Try.prog 12 #[.agg #[.int .i64 l, .bool c]] w (Gives (.bool v) w) := by
  have := style_Valid_own l c w
  unfold lvlOk at hv
  rwa [hv.out] at this
theorem ref25_Valid_v {l : Int} {c v : Bool} {w : World} (hv : Hid (lvlOk l = v)) : Calls Try.prog 14 #[.agg #[.int .i64 l, .bool c]] w (Gives (.bool v) w) := by
  have := ref25_Valid_own l c w
  unfold lvlOk at hv
  rwa [hv.out] at this

set_option maxHeartbeats 4000000 in
set_option maxRecDepth 100000 in
theorem style_Percent_lvl (F : Fnt) (l : Int) (c : Bool) (w : World) (h : lvlOk l = false) : Calls Try.prog 19 #[F.val, .agg #[.int .i64 l, .bool c]] w (Gives (.tuple #[.int .i64 0, .int .i64 1]) w) := by
  have HL := Lib.hid h
  clear h
  go_enter Try.func19, Try.ntmps19
  have hS := own_start w
  go_wp2_with (first
    | (refine own_unguard (by rfl) ?_)
    | (go_at_call 12; refine own_calls hS (style_Valid_v HL) ?_; clear hS; (try clear ww); intro ww hS)
    | (refine own_load1 rfl _ _ rfl rfl hS (by first | exact at0 | exact at1 | exact at2 | exact at3 | exact at4 | exact at5 | exact at6 | exact at7 | exact at8) (by first | exact ot_int | exact ot_bool) (by first | rfl | assumption) ?_)
    | (refine own_load rfl _ _ rfl rfl hS (by first | exact at0 | exact at1 | exact at2 | exact at3 | exact at4 | exact at5 | exact at6 | exact at7 | exact at8) (by first | exact rt_font | exact rt_style) ?_)
    | (refine own_load_old rfl _ _ rfl rfl hS (by assumption) (by first | exact List.not_mem_nil | assumption) (by first | exact rt_font | exact rt_style) ?_)
    | (refine own_load_has rfl _ _ rfl rfl hS (by assumption) (by first | exact List.not_mem_nil | assumption) (by first | exact rt_font | exact rt_style) ?_)
    | (refine own_load1_old rfl _ _ rfl rfl hS (by assumption) (by first | exact List.not_mem_nil | assumption) (by first | exact ot_int | exact ot_bool) ?_)
    | (refine own_load1_has rfl _ _ rfl rfl hS (by assumption) (by first | exact List.not_mem_nil | assumption) (by first | exact ot_int | exact ot_bool) (by first | rfl | assumption) ?_)
    | (refine own_box rfl _ _ rfl rfl hS ?_; clear hS; (try clear ww); intro bb ww hS)
    | (refine own_alloc rfl _ rfl hS (by first | exact zt_style) ?_; clear hS; (try clear ww); intro bb ww hS)
    | (refine own_store rfl _ _ _ rfl rfl rfl hS (by first | exact at0 | exact at1 | exact at2 | exact at3 | exact at4 | exact at5 | exact at6 | exact at7 | exact at8) (by first | exact rt_font | exact rt_style) (by rfl) (by rfl) ?_; clear hS; (try clear ww); intro ww hS; simp only [List.set_cons_zero, List.set_cons_succ] at hS)
    | (refine own_store1 rfl _ _ _ rfl rfl rfl rfl hS (by first | exact at0 | exact at1 | exact at2 | exact at3 | exact at4 | exact at5 | exact at6 | exact at7 | exact at8) (by first | exact ot_int | exact ot_bool) (by simp) ?_; clear hS; (try clear ww); intro ww hS; simp only [List.set_cons_zero, List.set_cons_succ, Act.eval, Array.getD_eq_getD_getElem?, List.getElem?_toArray, List.getElem?_cons_succ, List.getElem?_cons_zero, Option.getD_some] at hS))
  go_ret2
  exact own_gives hS

set_option maxHeartbeats 4000000 in
set_option maxRecDepth 100000 in
theorem style_Percent_bad (F : Fnt) (l : Int) (c : Bool) (w : World) (hF : FntOk w F) (h : lvlOk l = true) (hv : ¬ ValidF F) : Calls Try.prog 19 #[F.val, .agg #[.int .i64 l, .bool c]] w (Gives (.tuple #[.int .i64 0, .int .i64 1]) w) := by
  have HF := Lib.hid hF
  have HL := Lib.hid h
  have HV := Lib.hid hv
  clear hF h hv
  go_enter Try.func19, Try.ntmps19
  have hS := own_start w
  go_wp2_with (first
    | (refine own_unguard (by rfl) ?_)
    | (go_at_call 12; refine own_calls hS (style_Valid_v HL) ?_; clear hS; (try clear ww); intro ww hS)
    | (go_at_call 24; refine own_calls hS (font_Valid_calls F _ (HF.out.below hS.below) _ (iff_f HV.out)) ?_; clear hS; (try clear ww); intro ww hS)
    | (refine own_load1 rfl _ _ rfl rfl hS (by first | exact at0 | exact at1 | exact at2 | exact at3 | exact at4 | exact at5 | exact at6 | exact at7 | exact at8) (by first | exact ot_int | exact ot_bool) (by first | rfl | assumption) ?_)
    | (refine own_load rfl _ _ rfl rfl hS (by first | exact at0 | exact at1 | exact at2 | exact at3 | exact at4 | exact at5 | exact at6 | exact at7 | exact at8) (by first | exact rt_font | exact rt_style) ?_)
    | (refine own_load_old rfl _ _ rfl rfl hS (by assumption) (by first | exact List.not_mem_nil | assumption) (by first | exact rt_font | exact rt_style) ?_)
    | (refine own_load_has rfl _ _ rfl rfl hS (by assumption) (by first | exact List.not_mem_nil | assumption) (by first | exact rt_font | exact rt_style) ?_)
    | (refine own_load1_old rfl _ _ rfl rfl hS (by assumption) (by first | exact List.not_mem_nil | assumption) (by first | exact ot_int | exact ot_bool) ?_)
    | (refine own_load1_has rfl _ _ rfl rfl hS (by assumption) (by first | exact List.not_mem_nil | assumption) (by first | exact ot_int | exact ot_bool) (by first | rfl | assumption) ?_)
    | (refine own_box rfl _ _ rfl rfl hS ?_; clear hS; (try clear ww); intro bb ww hS)
    | (refine own_alloc rfl _ rfl hS (by first | exact zt_style) ?_; clear hS; (try clear ww); intro bb ww hS)
    | (refine own_store rfl _ _ _ rfl rfl rfl hS (by first | exact at0 | exact at1 | exact at2 | exact at3 | exact at4 | exact at5 | exact at6 | exact at7 | exact at8) (by first | exact rt_font | exact rt_style) (by rfl) (by rfl) ?_; clear hS; (try clear ww); intro ww hS; simp only [List.set_cons_zero, List.set_cons_succ] at hS)
    | (refine own_store1 rfl _ _ _ rfl rfl rfl rfl hS (by first | exact at0 | exact at1 | exact at2 | exact at3 | exact at4 | exact at5 | exact at6 | exact at7 | exact at8) (by first | exact ot_int | exact ot_bool) (by simp) ?_; clear hS; (try clear ww); intro ww hS; simp only [List.set_cons_zero, List.set_cons_succ, Act.eval, Array.getD_eq_getD_getElem?, List.getElem?_toArray, List.getElem?_cons_succ, List.getElem?_cons_zero, Option.getD_some] at hS))
  go_ret2
  exact own_gives hS

set_option maxHeartbeats 4000000 in
set_option maxRecDepth 100000 in
theorem style_Percent_0 (F : Fnt) (c : Bool) (w : World) (hF : FntOk w F) (hv : ValidF F) : Calls Try.prog 19 #[F.val, .agg #[.int .i64 0, .bool c]] w (Gives (.tuple #[.int .i64 (100), .int .i64 0]) w) := by
  have HF := Lib.hid hF
  have HL := Lib.hid (show lvlOk 0 = true from rfl)
  have HV := Lib.hid hv
  clear hF hv
  go_enter Try.func19, Try.ntmps19
  have hS := own_start w
  go_wp2_with (first
    | (refine own_unguard (by rfl) ?_)
    | (go_at_call 12; refine own_calls hS (style_Valid_v HL) ?_; clear hS; (try clear ww); intro ww hS)
    | (go_at_call 24; refine own_calls hS (font_Valid_calls F _ (HF.out.below hS.below) _ (iff_t HV.out)) ?_; clear hS; (try clear ww); intro ww hS)
    | (refine own_load1 rfl _ _ rfl rfl hS (by first | exact at0 | exact at1 | exact at2 | exact at3 | exact at4 | exact at5 | exact at6 | exact at7 | exact at8) (by first | exact ot_int | exact ot_bool) (by first | rfl | assumption) ?_)
    | (refine own_load rfl _ _ rfl rfl hS (by first | exact at0 | exact at1 | exact at2 | exact at3 | exact at4 | exact at5 | exact at6 | exact at7 | exact at8) (by first | exact rt_font | exact rt_style) ?_)
    | (refine own_load_old rfl _ _ rfl rfl hS (by assumption) (by first | exact List.not_mem_nil | assumption) (by first | exact rt_font | exact rt_style) ?_)
    | (refine own_load_has rfl _ _ rfl rfl hS (by assumption) (by first | exact List.not_mem_nil | assumption) (by first | exact rt_font | exact rt_style) ?_)
    | (refine own_load1_old rfl _ _ rfl rfl hS (by assumption) (by first | exact List.not_mem_nil | assumption) (by first | exact ot_int | exact ot_bool) ?_)
    | (refine own_load1_has rfl _ _ rfl rfl hS (by assumption) (by first | exact List.not_mem_nil | assumption) (by first | exact ot_int | exact ot_bool) (by first | rfl | assumption) ?_)
    | (refine own_box rfl _ _ rfl rfl hS ?_; clear hS; (try clear ww); intro bb ww hS)
    | (refine own_alloc rfl _ rfl hS (by first | exact zt_style) ?_; clear hS; (try clear ww); intro bb ww hS)
    | (refine own_store rfl _ _ _ rfl rfl rfl hS (by first | exact at0 | exact at1 | exact at2 | exact at3 | exact at4 | exact at5 | exact at6 | exact at7 | exact at8) (by first | exact rt_font | exact rt_style) (by rfl) (by rfl) ?_; clear hS; (try clear ww); intro ww hS; simp only [List.set_cons_zero, List.set_cons_succ] at hS)
    | (refine own_store1 rfl _ _ _ rfl rfl rfl rfl hS (by first | exact at0 | exact at1 | exact at2 | exact at3 | exact at4 | exact at5 | exact at6 | exact at7 | exact at8) (by first | exact ot_int | exact ot_bool) (by simp) ?_; clear hS; (try clear ww); intro ww hS; simp only [List.set_cons_zero, List.set_cons_succ, Act.eval, Array.getD_eq_getD_getElem?, List.getElem?_toArray, List.getElem?_cons_succ, List.getElem?_cons_zero, Option.getD_some] at hS))
  go_ret2
  exact own_gives hS

set_option maxHeartbeats 4000000 in
set_option maxRecDepth 100000 in
theorem style_Percent_1 (F : Fnt) (c : Bool) (w : World) (hF : FntOk w F) (hv : ValidF F) : Calls Try.prog 19 #[F.val, .agg #[.int .i64 1, .bool c]] w (Gives (.tuple #[.int .i64 (100), .int .i64 0]) w) := by
  have HF := Lib.hid hF
  have HL := Lib.hid (show lvlOk 1 = true from rfl)
  have HV := Lib.hid hv
  clear hF hv
  go_enter Try.func19, Try.ntmps19
  have hS := own_start w
  go_wp2_with (first
    | (refine own_unguard (by rfl) ?_)
    | (go_at_call 12; refine own_calls hS (style_Valid_v HL) ?_; clear hS; (try clear ww); intro ww hS)
    | (go_at_call 24; refine own_calls hS (font_Valid_calls F _ (HF.out.below hS.below) _ (iff_t HV.out)) ?_; clear hS; (try clear ww); intro ww hS)
    | (refine own_load1 rfl _ _ rfl rfl hS (by first | exact at0 | exact at1 | exact at2 | exact at3 | exact at4 | exact at5 | exact at6 | exact at7 | exact at8) (by first | exact ot_int | exact ot_bool) (by first | rfl | assumption) ?_)
    | (refine own_load rfl _ _ rfl rfl hS (by first | exact at0 | exact at1 | exact at2 | exact at3 | exact at4 | exact at5 | exact at6 | exact at7 | exact at8) (by first | exact rt_font | exact rt_style) ?_)
    | (refine own_load_old rfl _ _ rfl rfl hS (by assumption) (by first | exact List.not_mem_nil | assumption) (by first | exact rt_font | exact rt_style) ?_)
    | (refine own_load_has rfl _ _ rfl rfl hS (by assumption) (by first | exact List.not_mem_nil | assumption) (by first | exact rt_font | exact rt_style) ?_)
    | (refine own_load1_old rfl _ _ rfl rfl hS (by assumption) (by first | exact List.not_mem_nil | assumption) (by first | exact ot_int | exact ot_bool) ?_)
    | (refine own_load1_has rfl _ _ rfl rfl hS (by assumption) (by first | exact List.not_mem_nil | assumption) (by first | exact ot_int | exact ot_bool) (by first | rfl | assumption) ?_)
    | (refine own_box rfl _ _ rfl rfl hS ?_; clear hS; (try clear ww); intro bb ww hS)
    | (refine own_alloc rfl _ rfl hS (by first | exact zt_style) ?_; clear hS; (try clear ww); intro bb ww hS)
    | (refine own_store rfl _ _ _ rfl rfl rfl hS (by first | exact at0 | exact at1 | exact at2 | exact at3 | exact at4 | exact at5 | exact at6 | exact at7 | exact at8) (by first | exact rt_font | exact rt_style) (by rfl) (by rfl) ?_; clear hS; (try clear ww); intro ww hS; simp only [List.set_cons_zero, List.set_cons_succ] at hS)
    | (refine own_store1 rfl _ _ _ rfl rfl rfl rfl hS (by first | exact at0 | exact at1 | exact at2 | exact at3 | exact at4 | exact at5 | exact at6 | exact at7 | exact at8) (by first | exact ot_int | exact ot_bool) (by simp) ?_; clear hS; (try clear ww); intro ww hS; simp only [List.set_cons_zero, List.set_cons_succ, Act.eval, Array.getD_eq_getD_getElem?, List.getElem?_toArray, List.getElem?_cons_succ, List.getElem?_cons_zero, Option.getD_some] at hS))
  go_ret2
  exact own_gives hS

set_option maxHeartbeats 4000000 in
set_option maxRecDepth 100000 in
theorem style_Percent_2 (F : Fnt) (c : Bool) (w : World) (hF : FntOk w F) (hv : ValidF F) : Calls Try.prog 19 #[F.val, .agg #[.int .i64 2, .bool c]] w (Gives (.tuple #[.int .i64 (F.script), .int .i64 0]) w) := by
  have HF := Lib.hid hF
  have HL := Lib.hid (show lvlOk 2 = true from rfl)
  have HV := Lib.hid hv
  clear hF hv
  go_enter Try.func19, Try.ntmps19
  have hS := own_start w
  go_wp2_with (first
    | (refine own_unguard (by rfl) ?_)
    | (go_at_call 12; refine own_calls hS (style_Valid_v HL) ?_; clear hS; (try clear ww); intro ww hS)
    | (go_at_call 24; refine own_calls hS (font_Valid_calls F _ (HF.out.below hS.below) _ (iff_t HV.out)) ?_; clear hS; (try clear ww); intro ww hS)
    | (refine own_load1 rfl _ _ rfl rfl hS (by first | exact at0 | exact at1 | exact at2 | exact at3 | exact at4 | exact at5 | exact at6 | exact at7 | exact at8) (by first | exact ot_int | exact ot_bool) (by first | rfl | assumption) ?_)
    | (refine own_load rfl _ _ rfl rfl hS (by first | exact at0 | exact at1 | exact at2 | exact at3 | exact at4 | exact at5 | exact at6 | exact at7 | exact at8) (by first | exact rt_font | exact rt_style) ?_)
    | (refine own_load_old rfl _ _ rfl rfl hS (by assumption) (by first | exact List.not_mem_nil | assumption) (by first | exact rt_font | exact rt_style) ?_)
    | (refine own_load_has rfl _ _ rfl rfl hS (by assumption) (by first | exact List.not_mem_nil | assumption) (by first | exact rt_font | exact rt_style) ?_)
    | (refine own_load1_old rfl _ _ rfl rfl hS (by assumption) (by first | exact List.not_mem_nil | assumption) (by first | exact ot_int | exact ot_bool) ?_)
    | (refine own_load1_has rfl _ _ rfl rfl hS (by assumption) (by first | exact List.not_mem_nil | assumption) (by first | exact ot_int | exact ot_bool) (by first | rfl | assumption) ?_)
    | (refine own_box rfl _ _ rfl rfl hS ?_; clear hS; (try clear ww); intro bb ww hS)
    | (refine own_alloc rfl _ rfl hS (by first | exact zt_style) ?_; clear hS; (try clear ww); intro bb ww hS)
    | (refine own_store rfl _ _ _ rfl rfl rfl hS (by first | exact at0 | exact at1 | exact at2 | exact at3 | exact at4 | exact at5 | exact at6 | exact at7 | exact at8) (by first | exact rt_font | exact rt_style) (by rfl) (by rfl) ?_; clear hS; (try clear ww); intro ww hS; simp only [List.set_cons_zero, List.set_cons_succ] at hS)
    | (refine own_store1 rfl _ _ _ rfl rfl rfl rfl hS (by first | exact at0 | exact at1 | exact at2 | exact at3 | exact at4 | exact at5 | exact at6 | exact at7 | exact at8) (by first | exact ot_int | exact ot_bool) (by simp) ?_; clear hS; (try clear ww); intro ww hS; simp only [List.set_cons_zero, List.set_cons_succ, Act.eval, Array.getD_eq_getD_getElem?, List.getElem?_toArray, List.getElem?_cons_succ, List.getElem?_cons_zero, Option.getD_some] at hS))
  go_ret2
  exact own_gives hS

set_option maxHeartbeats 4000000 in
set_option maxRecDepth 100000 in
theorem style_Percent_3 (F : Fnt) (c : Bool) (w : World) (hF : FntOk w F) (hv : ValidF F) : Calls Try.prog 19 #[F.val, .agg #[.int .i64 3, .bool c]] w (Gives (.tuple #[.int .i64 (F.sscript), .int .i64 0]) w) := by
  have HF := Lib.hid hF
  have HL := Lib.hid (show lvlOk 3 = true from rfl)
  have HV := Lib.hid hv
  clear hF hv
  go_enter Try.func19, Try.ntmps19
  have hS := own_start w
  go_wp2_with (first
    | (refine own_unguard (by rfl) ?_)
    | (go_at_call 12; refine own_calls hS (style_Valid_v HL) ?_; clear hS; (try clear ww); intro ww hS)
    | (go_at_call 24; refine own_calls hS (font_Valid_calls F _ (HF.out.below hS.below) _ (iff_t HV.out)) ?_; clear hS; (try clear ww); intro ww hS)
    | (refine own_load1 rfl _ _ rfl rfl hS (by first | exact at0 | exact at1 | exact at2 | exact at3 | exact at4 | exact at5 | exact at6 | exact at7 | exact at8) (by first | exact ot_int | exact ot_bool) (by first | rfl | assumption) ?_)
    | (refine own_load rfl _ _ rfl rfl hS (by first | exact at0 | exact at1 | exact at2 | exact at3 | exact at4 | exact at5 | exact at6 | exact at7 | exact at8) (by first | exact rt_font | exact rt_style) ?_)
    | (refine own_load_old rfl _ _ rfl rfl hS (by assumption) (by first | exact List.not_mem_nil | assumption) (by first | exact rt_font | exact rt_style) ?_)
    | (refine own_load_has rfl _ _ rfl rfl hS (by assumption) (by first | exact List.not_mem_nil | assumption) (by first | exact rt_font | exact rt_style) ?_)
    | (refine own_load1_old rfl _ _ rfl rfl hS (by assumption) (by first | exact List.not_mem_nil | assumption) (by first | exact ot_int | exact ot_bool) ?_)
    | (refine own_load1_has rfl _ _ rfl rfl hS (by assumption) (by first | exact List.not_mem_nil | assumption) (by first | exact ot_int | exact ot_bool) (by first | rfl | assumption) ?_)
    | (refine own_box rfl _ _ rfl rfl hS ?_; clear hS; (try clear ww); intro bb ww hS)
    | (refine own_alloc rfl _ rfl hS (by first | exact zt_style) ?_; clear hS; (try clear ww); intro bb ww hS)
    | (refine own_store rfl _ _ _ rfl rfl rfl hS (by first | exact at0 | exact at1 | exact at2 | exact at3 | exact at4 | exact at5 | exact at6 | exact at7 | exact at8) (by first | exact rt_font | exact rt_style) (by rfl) (by rfl) ?_; clear hS; (try clear ww); intro ww hS; simp only [List.set_cons_zero, List.set_cons_succ] at hS)
    | (refine own_store1 rfl _ _ _ rfl rfl rfl rfl hS (by first | exact at0 | exact at1 | exact at2 | exact at3 | exact at4 | exact at5 | exact at6 | exact at7 | exact at8) (by first | exact ot_int | exact ot_bool) (by simp) ?_; clear hS; (try clear ww); intro ww hS; simp only [List.set_cons_zero, List.set_cons_succ, Act.eval, Array.getD_eq_getD_getElem?, List.getElem?_toArray, List.getElem?_cons_succ, List.getElem?_cons_zero, Option.getD_some] at hS))
  go_ret2
  exact own_gives hS

theorem style_Percent_ok (F : Fnt) (l : Int) (c : Bool) (w : World) (hF : FntOk w F) (h : lvlOk l = true) (hv : ValidF F) : Calls Try.prog 19 #[F.val, .agg #[.int .i64 l, .bool c]] w (Gives (.tuple #[.int .i64 (sizeOf' F l), .int .i64 0]) w) := by
  have hc : l = 0 ∨ l = 1 ∨ l = 2 ∨ l = 3 := by simp [lvlOk] at h; omega
  rcases hc with rfl | rfl | rfl | rfl
  · exact style_Percent_0 F c w hF hv
  · exact style_Percent_1 F c w hF hv
  · exact style_Percent_2 F c w hF hv
  · exact style_Percent_3 F c w hF hv

/-- What Percent returns. -/
theorem style_Percent_calls (F : Fnt) (l p e : Int) (c : Bool) (w : World) (hF : FntOk w F) (hx : PctOk F l p e) : Calls Try.prog 19 #[F.val, .agg #[.int .i64 l, .bool c]] w (Gives (.tuple #[.int .i64 p, .int .i64 e]) w) := by
  cases h : lvlOk l
  · obtain ⟨rfl, rfl⟩ := hx.2 (Or.inl h); exact style_Percent_lvl F l c w h
  · by_cases hv : ValidF F
    · obtain ⟨rfl, rfl⟩ := hx.1 ⟨h, hv⟩; exact style_Percent_ok F l c w hF h hv
    · obtain ⟨rfl, rfl⟩ := hx.2 (Or.inr hv); exact style_Percent_bad F l c w hF h hv

set_option maxHeartbeats 4000000 in
set_option maxRecDepth 100000 in
theorem ref25_Size_0 (F : Fnt) (c : Bool) (w : World) : Calls Try.prog 26 #[F.val, .agg #[.int .i64 0, .bool c]] w (Gives (.int .i64 (100)) w) := by
  have HL := Lib.hid (show lvlOk 0 = true from rfl)
  go_enter Try.func26, Try.ntmps26
  have hS := own_start w
  go_wp2_with (first
    | (refine own_unguard (by rfl) ?_)
    | (go_at_call 14; refine own_calls hS (ref25_Valid_v HL) ?_; clear hS; (try clear ww); intro ww hS)
    | (refine own_buildSlice rfl _ _ 4 _ rfl [.int .i64 100, .int .i64 100, .int .i64 F.script, .int .i64 F.sscript] hS Try.underlying31 (by kernel_rfl) ?_; clear hS; (try clear ww); intro bb ww hS)
    | (refine own_load1 rfl _ _ rfl rfl hS (by first | exact at0 | exact at1 | exact at2 | exact at3 | exact at4 | exact at5 | exact at6 | exact at7 | exact at8) (by first | exact ot_int | exact ot_bool) (by first | rfl | assumption) ?_)
    | (refine own_load rfl _ _ rfl rfl hS (by first | exact at0 | exact at1 | exact at2 | exact at3 | exact at4 | exact at5 | exact at6 | exact at7 | exact at8) (by first | exact rt_font | exact rt_style) ?_)
    | (refine own_load_old rfl _ _ rfl rfl hS (by assumption) (by first | exact List.not_mem_nil | assumption) (by first | exact rt_font | exact rt_style) ?_)
    | (refine own_load_has rfl _ _ rfl rfl hS (by assumption) (by first | exact List.not_mem_nil | assumption) (by first | exact rt_font | exact rt_style) ?_)
    | (refine own_load1_old rfl _ _ rfl rfl hS (by assumption) (by first | exact List.not_mem_nil | assumption) (by first | exact ot_int | exact ot_bool) ?_)
    | (refine own_load1_has rfl _ _ rfl rfl hS (by assumption) (by first | exact List.not_mem_nil | assumption) (by first | exact ot_int | exact ot_bool) (by first | rfl | assumption) ?_)
    | (refine own_box rfl _ _ rfl rfl hS ?_; clear hS; (try clear ww); intro bb ww hS)
    | (refine own_alloc rfl _ rfl hS (by first | exact zt_style) ?_; clear hS; (try clear ww); intro bb ww hS)
    | (refine own_store rfl _ _ _ rfl rfl rfl hS (by first | exact at0 | exact at1 | exact at2 | exact at3 | exact at4 | exact at5 | exact at6 | exact at7 | exact at8) (by first | exact rt_font | exact rt_style) (by rfl) (by rfl) ?_; clear hS; (try clear ww); intro ww hS; simp only [List.set_cons_zero, List.set_cons_succ] at hS)
    | (refine own_store1 rfl _ _ _ rfl rfl rfl rfl hS (by first | exact at0 | exact at1 | exact at2 | exact at3 | exact at4 | exact at5 | exact at6 | exact at7 | exact at8) (by first | exact ot_int | exact ot_bool) (by simp) ?_; clear hS; (try clear ww); intro ww hS; simp only [List.set_cons_zero, List.set_cons_succ, Act.eval, Array.getD_eq_getD_getElem?, List.getElem?_toArray, List.getElem?_cons_succ, List.getElem?_cons_zero, Option.getD_some] at hS))
  go_ret
  exact own_gives hS

set_option maxHeartbeats 4000000 in
set_option maxRecDepth 100000 in
theorem ref25_Size_1 (F : Fnt) (c : Bool) (w : World) : Calls Try.prog 26 #[F.val, .agg #[.int .i64 1, .bool c]] w (Gives (.int .i64 (100)) w) := by
  have HL := Lib.hid (show lvlOk 1 = true from rfl)
  go_enter Try.func26, Try.ntmps26
  have hS := own_start w
  go_wp2_with (first
    | (refine own_unguard (by rfl) ?_)
    | (go_at_call 14; refine own_calls hS (ref25_Valid_v HL) ?_; clear hS; (try clear ww); intro ww hS)
    | (refine own_buildSlice rfl _ _ 4 _ rfl [.int .i64 100, .int .i64 100, .int .i64 F.script, .int .i64 F.sscript] hS Try.underlying31 (by kernel_rfl) ?_; clear hS; (try clear ww); intro bb ww hS)
    | (refine own_load1 rfl _ _ rfl rfl hS (by first | exact at0 | exact at1 | exact at2 | exact at3 | exact at4 | exact at5 | exact at6 | exact at7 | exact at8) (by first | exact ot_int | exact ot_bool) (by first | rfl | assumption) ?_)
    | (refine own_load rfl _ _ rfl rfl hS (by first | exact at0 | exact at1 | exact at2 | exact at3 | exact at4 | exact at5 | exact at6 | exact at7 | exact at8) (by first | exact rt_font | exact rt_style) ?_)
    | (refine own_load_old rfl _ _ rfl rfl hS (by assumption) (by first | exact List.not_mem_nil | assumption) (by first | exact rt_font | exact rt_style) ?_)
    | (refine own_load_has rfl _ _ rfl rfl hS (by assumption) (by first | exact List.not_mem_nil | assumption) (by first | exact rt_font | exact rt_style) ?_)
    | (refine own_load1_old rfl _ _ rfl rfl hS (by assumption) (by first | exact List.not_mem_nil | assumption) (by first | exact ot_int | exact ot_bool) ?_)
    | (refine own_load1_has rfl _ _ rfl rfl hS (by assumption) (by first | exact List.not_mem_nil | assumption) (by first | exact ot_int | exact ot_bool) (by first | rfl | assumption) ?_)
    | (refine own_box rfl _ _ rfl rfl hS ?_; clear hS; (try clear ww); intro bb ww hS)
    | (refine own_alloc rfl _ rfl hS (by first | exact zt_style) ?_; clear hS; (try clear ww); intro bb ww hS)
    | (refine own_store rfl _ _ _ rfl rfl rfl hS (by first | exact at0 | exact at1 | exact at2 | exact at3 | exact at4 | exact at5 | exact at6 | exact at7 | exact at8) (by first | exact rt_font | exact rt_style) (by rfl) (by rfl) ?_; clear hS; (try clear ww); intro ww hS; simp only [List.set_cons_zero, List.set_cons_succ] at hS)
    | (refine own_store1 rfl _ _ _ rfl rfl rfl rfl hS (by first | exact at0 | exact at1 | exact at2 | exact at3 | exact at4 | exact at5 | exact at6 | exact at7 | exact at8) (by first | exact ot_int | exact ot_bool) (by simp) ?_; clear hS; (try clear ww); intro ww hS; simp only [List.set_cons_zero, List.set_cons_succ, Act.eval, Array.getD_eq_getD_getElem?, List.getElem?_toArray, List.getElem?_cons_succ, List.getElem?_cons_zero, Option.getD_some] at hS))
  go_ret
  exact own_gives hS

set_option maxHeartbeats 4000000 in
set_option maxRecDepth 100000 in
theorem ref25_Size_2 (F : Fnt) (c : Bool) (w : World) : Calls Try.prog 26 #[F.val, .agg #[.int .i64 2, .bool c]] w (Gives (.int .i64 (F.script)) w) := by
  have HL := Lib.hid (show lvlOk 2 = true from rfl)
  go_enter Try.func26, Try.ntmps26
  have hS := own_start w
  go_wp2_with (first
    | (refine own_unguard (by rfl) ?_)
    | (go_at_call 14; refine own_calls hS (ref25_Valid_v HL) ?_; clear hS; (try clear ww); intro ww hS)
    | (refine own_buildSlice rfl _ _ 4 _ rfl [.int .i64 100, .int .i64 100, .int .i64 F.script, .int .i64 F.sscript] hS Try.underlying31 (by kernel_rfl) ?_; clear hS; (try clear ww); intro bb ww hS)
    | (refine own_load1 rfl _ _ rfl rfl hS (by first | exact at0 | exact at1 | exact at2 | exact at3 | exact at4 | exact at5 | exact at6 | exact at7 | exact at8) (by first | exact ot_int | exact ot_bool) (by first | rfl | assumption) ?_)
    | (refine own_load rfl _ _ rfl rfl hS (by first | exact at0 | exact at1 | exact at2 | exact at3 | exact at4 | exact at5 | exact at6 | exact at7 | exact at8) (by first | exact rt_font | exact rt_style) ?_)
    | (refine own_load_old rfl _ _ rfl rfl hS (by assumption) (by first | exact List.not_mem_nil | assumption) (by first | exact rt_font | exact rt_style) ?_)
    | (refine own_load_has rfl _ _ rfl rfl hS (by assumption) (by first | exact List.not_mem_nil | assumption) (by first | exact rt_font | exact rt_style) ?_)
    | (refine own_load1_old rfl _ _ rfl rfl hS (by assumption) (by first | exact List.not_mem_nil | assumption) (by first | exact ot_int | exact ot_bool) ?_)
    | (refine own_load1_has rfl _ _ rfl rfl hS (by assumption) (by first | exact List.not_mem_nil | assumption) (by first | exact ot_int | exact ot_bool) (by first | rfl | assumption) ?_)
    | (refine own_box rfl _ _ rfl rfl hS ?_; clear hS; (try clear ww); intro bb ww hS)
    | (refine own_alloc rfl _ rfl hS (by first | exact zt_style) ?_; clear hS; (try clear ww); intro bb ww hS)
    | (refine own_store rfl _ _ _ rfl rfl rfl hS (by first | exact at0 | exact at1 | exact at2 | exact at3 | exact at4 | exact at5 | exact at6 | exact at7 | exact at8) (by first | exact rt_font | exact rt_style) (by rfl) (by rfl) ?_; clear hS; (try clear ww); intro ww hS; simp only [List.set_cons_zero, List.set_cons_succ] at hS)
    | (refine own_store1 rfl _ _ _ rfl rfl rfl rfl hS (by first | exact at0 | exact at1 | exact at2 | exact at3 | exact at4 | exact at5 | exact at6 | exact at7 | exact at8) (by first | exact ot_int | exact ot_bool) (by simp) ?_; clear hS; (try clear ww); intro ww hS; simp only [List.set_cons_zero, List.set_cons_succ, Act.eval, Array.getD_eq_getD_getElem?, List.getElem?_toArray, List.getElem?_cons_succ, List.getElem?_cons_zero, Option.getD_some] at hS))
  go_ret
  exact own_gives hS

set_option maxHeartbeats 4000000 in
set_option maxRecDepth 100000 in
theorem ref25_Size_3 (F : Fnt) (c : Bool) (w : World) : Calls Try.prog 26 #[F.val, .agg #[.int .i64 3, .bool c]] w (Gives (.int .i64 (F.sscript)) w) := by
  have HL := Lib.hid (show lvlOk 3 = true from rfl)
  go_enter Try.func26, Try.ntmps26
  have hS := own_start w
  go_wp2_with (first
    | (refine own_unguard (by rfl) ?_)
    | (go_at_call 14; refine own_calls hS (ref25_Valid_v HL) ?_; clear hS; (try clear ww); intro ww hS)
    | (refine own_buildSlice rfl _ _ 4 _ rfl [.int .i64 100, .int .i64 100, .int .i64 F.script, .int .i64 F.sscript] hS Try.underlying31 (by kernel_rfl) ?_; clear hS; (try clear ww); intro bb ww hS)
    | (refine own_load1 rfl _ _ rfl rfl hS (by first | exact at0 | exact at1 | exact at2 | exact at3 | exact at4 | exact at5 | exact at6 | exact at7 | exact at8) (by first | exact ot_int | exact ot_bool) (by first | rfl | assumption) ?_)
    | (refine own_load rfl _ _ rfl rfl hS (by first | exact at0 | exact at1 | exact at2 | exact at3 | exact at4 | exact at5 | exact at6 | exact at7 | exact at8) (by first | exact rt_font | exact rt_style) ?_)
    | (refine own_load_old rfl _ _ rfl rfl hS (by assumption) (by first | exact List.not_mem_nil | assumption) (by first | exact rt_font | exact rt_style) ?_)
    | (refine own_load_has rfl _ _ rfl rfl hS (by assumption) (by first | exact List.not_mem_nil | assumption) (by first | exact rt_font | exact rt_style) ?_)
    | (refine own_load1_old rfl _ _ rfl rfl hS (by assumption) (by first | exact List.not_mem_nil | assumption) (by first | exact ot_int | exact ot_bool) ?_)
    | (refine own_load1_has rfl _ _ rfl rfl hS (by assumption) (by first | exact List.not_mem_nil | assumption) (by first | exact ot_int | exact ot_bool) (by first | rfl | assumption) ?_)
    | (refine own_box rfl _ _ rfl rfl hS ?_; clear hS; (try clear ww); intro bb ww hS)
    | (refine own_alloc rfl _ rfl hS (by first | exact zt_style) ?_; clear hS; (try clear ww); intro bb ww hS)
    | (refine own_store rfl _ _ _ rfl rfl rfl hS (by first | exact at0 | exact at1 | exact at2 | exact at3 | exact at4 | exact at5 | exact at6 | exact at7 | exact at8) (by first | exact rt_font | exact rt_style) (by rfl) (by rfl) ?_; clear hS; (try clear ww); intro ww hS; simp only [List.set_cons_zero, List.set_cons_succ] at hS)
    | (refine own_store1 rfl _ _ _ rfl rfl rfl rfl hS (by first | exact at0 | exact at1 | exact at2 | exact at3 | exact at4 | exact at5 | exact at6 | exact at7 | exact at8) (by first | exact ot_int | exact ot_bool) (by simp) ?_; clear hS; (try clear ww); intro ww hS; simp only [List.set_cons_zero, List.set_cons_succ, Act.eval, Array.getD_eq_getD_getElem?, List.getElem?_toArray, List.getElem?_cons_succ, List.getElem?_cons_zero, Option.getD_some] at hS))
  go_ret
  exact own_gives hS

theorem ref25_Size_in (F : Fnt) (l : Int) (c : Bool) (w : World) (h : lvlOk l = true) : Calls Try.prog 26 #[F.val, .agg #[.int .i64 l, .bool c]] w (Gives (.int .i64 (sizeOf' F l)) w) := by
  have hc : l = 0 ∨ l = 1 ∨ l = 2 ∨ l = 3 := by simp [lvlOk] at h; omega
  rcases hc with rfl | rfl | rfl | rfl
  · exact ref25_Size_0 F c w
  · exact ref25_Size_1 F c w
  · exact ref25_Size_2 F c w
  · exact ref25_Size_3 F c w

set_option maxHeartbeats 4000000 in
set_option maxRecDepth 100000 in
theorem ref25_Percent_lvl (F : Fnt) (l : Int) (c : Bool) (w : World) (h : lvlOk l = false) : Calls Try.prog 20 #[F.val, .agg #[.int .i64 l, .bool c]] w (Gives (.tuple #[.int .i64 0, .int .i64 1]) w) := by
  have HL := Lib.hid h
  clear h
  go_enter Try.func20, Try.ntmps20
  have hS := own_start w
  go_wp2_with (first
    | (refine own_unguard (by rfl) ?_)
    | (go_at_call 14; refine own_calls hS (ref25_Valid_v HL) ?_; clear hS; (try clear ww); intro ww hS)
    | (refine own_load1 rfl _ _ rfl rfl hS (by first | exact at0 | exact at1 | exact at2 | exact at3 | exact at4 | exact at5 | exact at6 | exact at7 | exact at8) (by first | exact ot_int | exact ot_bool) (by first | rfl | assumption) ?_)
    | (refine own_load rfl _ _ rfl rfl hS (by first | exact at0 | exact at1 | exact at2 | exact at3 | exact at4 | exact at5 | exact at6 | exact at7 | exact at8) (by first | exact rt_font | exact rt_style) ?_)
    | (refine own_load_old rfl _ _ rfl rfl hS (by assumption) (by first | exact List.not_mem_nil | assumption) (by first | exact rt_font | exact rt_style) ?_)
    | (refine own_load_has rfl _ _ rfl rfl hS (by assumption) (by first | exact List.not_mem_nil | assumption) (by first | exact rt_font | exact rt_style) ?_)
    | (refine own_load1_old rfl _ _ rfl rfl hS (by assumption) (by first | exact List.not_mem_nil | assumption) (by first | exact ot_int | exact ot_bool) ?_)
    | (refine own_load1_has rfl _ _ rfl rfl hS (by assumption) (by first | exact List.not_mem_nil | assumption) (by first | exact ot_int | exact ot_bool) (by first | rfl | assumption) ?_)
    | (refine own_box rfl _ _ rfl rfl hS ?_; clear hS; (try clear ww); intro bb ww hS)
    | (refine own_alloc rfl _ rfl hS (by first | exact zt_style) ?_; clear hS; (try clear ww); intro bb ww hS)
    | (refine own_store rfl _ _ _ rfl rfl rfl hS (by first | exact at0 | exact at1 | exact at2 | exact at3 | exact at4 | exact at5 | exact at6 | exact at7 | exact at8) (by first | exact rt_font | exact rt_style) (by rfl) (by rfl) ?_; clear hS; (try clear ww); intro ww hS; simp only [List.set_cons_zero, List.set_cons_succ] at hS)
    | (refine own_store1 rfl _ _ _ rfl rfl rfl rfl hS (by first | exact at0 | exact at1 | exact at2 | exact at3 | exact at4 | exact at5 | exact at6 | exact at7 | exact at8) (by first | exact ot_int | exact ot_bool) (by simp) ?_; clear hS; (try clear ww); intro ww hS; simp only [List.set_cons_zero, List.set_cons_succ, Act.eval, Array.getD_eq_getD_getElem?, List.getElem?_toArray, List.getElem?_cons_succ, List.getElem?_cons_zero, Option.getD_some] at hS))
  go_ret2
  exact own_gives hS

set_option maxHeartbeats 4000000 in
set_option maxRecDepth 100000 in
theorem ref25_Percent_bad (F : Fnt) (l : Int) (c : Bool) (w : World) (hF : FntOk w F) (hq : F.gs.length ≤ 500 ∧ F.ss.length ≤ 50) (h : lvlOk l = true) (hv : ¬ ValidF F) : Calls Try.prog 20 #[F.val, .agg #[.int .i64 l, .bool c]] w (Gives (.tuple #[.int .i64 0, .int .i64 1]) w) := by
  have HF := Lib.hid hF
  have HL := Lib.hid h
  have HV := Lib.hid hv
  have HQ := Lib.hid hq
  clear hq
  clear hF h hv
  go_enter Try.func20, Try.ntmps20
  have hS := own_start w
  go_wp2_with (first
    | (refine own_unguard (by rfl) ?_)
    | (go_at_call 14; refine own_calls hS (ref25_Valid_v HL) ?_; clear hS; (try clear ww); intro ww hS)
    | (go_at_call 25; refine own_calls hS (ref05_Valid_calls F _ (HF.out.below hS.below) HQ.out _ (iff_f HV.out)) ?_; clear hS; (try clear ww); intro ww hS)
    | (refine own_load1 rfl _ _ rfl rfl hS (by first | exact at0 | exact at1 | exact at2 | exact at3 | exact at4 | exact at5 | exact at6 | exact at7 | exact at8) (by first | exact ot_int | exact ot_bool) (by first | rfl | assumption) ?_)
    | (refine own_load rfl _ _ rfl rfl hS (by first | exact at0 | exact at1 | exact at2 | exact at3 | exact at4 | exact at5 | exact at6 | exact at7 | exact at8) (by first | exact rt_font | exact rt_style) ?_)
    | (refine own_load_old rfl _ _ rfl rfl hS (by assumption) (by first | exact List.not_mem_nil | assumption) (by first | exact rt_font | exact rt_style) ?_)
    | (refine own_load_has rfl _ _ rfl rfl hS (by assumption) (by first | exact List.not_mem_nil | assumption) (by first | exact rt_font | exact rt_style) ?_)
    | (refine own_load1_old rfl _ _ rfl rfl hS (by assumption) (by first | exact List.not_mem_nil | assumption) (by first | exact ot_int | exact ot_bool) ?_)
    | (refine own_load1_has rfl _ _ rfl rfl hS (by assumption) (by first | exact List.not_mem_nil | assumption) (by first | exact ot_int | exact ot_bool) (by first | rfl | assumption) ?_)
    | (refine own_box rfl _ _ rfl rfl hS ?_; clear hS; (try clear ww); intro bb ww hS)
    | (refine own_alloc rfl _ rfl hS (by first | exact zt_style) ?_; clear hS; (try clear ww); intro bb ww hS)
    | (refine own_store rfl _ _ _ rfl rfl rfl hS (by first | exact at0 | exact at1 | exact at2 | exact at3 | exact at4 | exact at5 | exact at6 | exact at7 | exact at8) (by first | exact rt_font | exact rt_style) (by rfl) (by rfl) ?_; clear hS; (try clear ww); intro ww hS; simp only [List.set_cons_zero, List.set_cons_succ] at hS)
    | (refine own_store1 rfl _ _ _ rfl rfl rfl rfl hS (by first | exact at0 | exact at1 | exact at2 | exact at3 | exact at4 | exact at5 | exact at6 | exact at7 | exact at8) (by first | exact ot_int | exact ot_bool) (by simp) ?_; clear hS; (try clear ww); intro ww hS; simp only [List.set_cons_zero, List.set_cons_succ, Act.eval, Array.getD_eq_getD_getElem?, List.getElem?_toArray, List.getElem?_cons_succ, List.getElem?_cons_zero, Option.getD_some] at hS))
  go_ret2
  exact own_gives hS

set_option maxHeartbeats 4000000 in
set_option maxRecDepth 100000 in
theorem ref25_Percent_ok (F : Fnt) (l : Int) (c : Bool) (w : World) (hF : FntOk w F) (hq : F.gs.length ≤ 500 ∧ F.ss.length ≤ 50) (h : lvlOk l = true) (hv : ValidF F) : Calls Try.prog 20 #[F.val, .agg #[.int .i64 l, .bool c]] w (Gives (.tuple #[.int .i64 (sizeOf' F l), .int .i64 0]) w) := by
  have HF := Lib.hid hF
  have HL := Lib.hid h
  have HV := Lib.hid hv
  have HQ := Lib.hid hq
  clear hq
  clear hF h hv
  go_enter Try.func20, Try.ntmps20
  have hS := own_start w
  go_wp2_with (first
    | (refine own_unguard (by rfl) ?_)
    | (go_at_call 14; refine own_calls hS (ref25_Valid_v HL) ?_; clear hS; (try clear ww); intro ww hS)
    | (go_at_call 25; refine own_calls hS (ref05_Valid_calls F _ (HF.out.below hS.below) HQ.out _ (iff_t HV.out)) ?_; clear hS; (try clear ww); intro ww hS)
    | (go_at_call 26; refine own_calls hS (ref25_Size_in F l c _ HL.out) ?_; clear hS; (try clear ww); intro ww hS)
    | (refine own_load1 rfl _ _ rfl rfl hS (by first | exact at0 | exact at1 | exact at2 | exact at3 | exact at4 | exact at5 | exact at6 | exact at7 | exact at8) (by first | exact ot_int | exact ot_bool) (by first | rfl | assumption) ?_)
    | (refine own_load rfl _ _ rfl rfl hS (by first | exact at0 | exact at1 | exact at2 | exact at3 | exact at4 | exact at5 | exact at6 | exact at7 | exact at8) (by first | exact rt_font | exact rt_style) ?_)
    | (refine own_load_old rfl _ _ rfl rfl hS (by assumption) (by first | exact List.not_mem_nil | assumption) (by first | exact rt_font | exact rt_style) ?_)
    | (refine own_load_has rfl _ _ rfl rfl hS (by assumption) (by first | exact List.not_mem_nil | assumption) (by first | exact rt_font | exact rt_style) ?_)
    | (refine own_load1_old rfl _ _ rfl rfl hS (by assumption) (by first | exact List.not_mem_nil | assumption) (by first | exact ot_int | exact ot_bool) ?_)
    | (refine own_load1_has rfl _ _ rfl rfl hS (by assumption) (by first | exact List.not_mem_nil | assumption) (by first | exact ot_int | exact ot_bool) (by first | rfl | assumption) ?_)
    | (refine own_box rfl _ _ rfl rfl hS ?_; clear hS; (try clear ww); intro bb ww hS)
    | (refine own_alloc rfl _ rfl hS (by first | exact zt_style) ?_; clear hS; (try clear ww); intro bb ww hS)
    | (refine own_store rfl _ _ _ rfl rfl rfl hS (by first | exact at0 | exact at1 | exact at2 | exact at3 | exact at4 | exact at5 | exact at6 | exact at7 | exact at8) (by first | exact rt_font | exact rt_style) (by rfl) (by rfl) ?_; clear hS; (try clear ww); intro ww hS; simp only [List.set_cons_zero, List.set_cons_succ] at hS)
    | (refine own_store1 rfl _ _ _ rfl rfl rfl rfl hS (by first | exact at0 | exact at1 | exact at2 | exact at3 | exact at4 | exact at5 | exact at6 | exact at7 | exact at8) (by first | exact ot_int | exact ot_bool) (by simp) ?_; clear hS; (try clear ww); intro ww hS; simp only [List.set_cons_zero, List.set_cons_succ, Act.eval, Array.getD_eq_getD_getElem?, List.getElem?_toArray, List.getElem?_cons_succ, List.getElem?_cons_zero, Option.getD_some] at hS))
  go_ret2
  exact own_gives hS

/-- What Percent returns. -/
theorem ref25_Percent_calls (F : Fnt) (l p e : Int) (c : Bool) (w : World) (hF : FntOk w F) (hq : F.gs.length ≤ 500 ∧ F.ss.length ≤ 50) (hx : PctOk F l p e) : Calls Try.prog 20 #[F.val, .agg #[.int .i64 l, .bool c]] w (Gives (.tuple #[.int .i64 p, .int .i64 e]) w) := by
  cases h : lvlOk l
  · obtain ⟨rfl, rfl⟩ := hx.2 (Or.inl h); exact ref25_Percent_lvl F l c w h
  · by_cases hv : ValidF F
    · obtain ⟨rfl, rfl⟩ := hx.1 ⟨h, hv⟩; exact ref25_Percent_ok F l c w hF hq h hv
    · obtain ⟨rfl, rfl⟩ := hx.2 (Or.inr hv); exact ref25_Percent_bad F l c w hF hq h hv

end Go.Proofs.Ytillohdeljlchaa
