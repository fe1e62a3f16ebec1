/- Texts Pct, Hlf, Apn, Slr, Tre. -/
import Derived.Test.YtdbcdjiclkmknaaK07
import Derived.Test.YtdbcdjiclkmknaaK02
import Derived.Test.YtdbcdjiclkmknaaK01
import Derived.ArgAppend
import Derived.Deep.MidRow
namespace Go.Proofs.Ytdbcdjiclkmknaa
open Go.RowKit

attribute [local irreducible] wpQuiet wpG wpP wpList Code.wp

instance rt_style : RowTy Try.prog 29 2 := ⟨⟨_, Try.underlying29, rfl⟩, by kernel_rfl⟩
instance zt_style : ZeroTy Try.prog 29 [.int .i64 0, .bool false] := ⟨.agg #[.int .i64 0, .bool false], by kernel_rfl, rfl⟩

set_option maxHeartbeats 1000000 in
theorem style_Valid_own (l : Int) (c : Bool) (w : World) : Calls Try.prog 38 #[.agg #[.int .i64 l, .bool c]] w (Gives (.bool (decide (0 ≤ l) && decide (l ≤ 3))) w) := by
  go_enter Try.func38, Try.ntmps38
  have hS := own_start w
  go_wp2_with (first|(refine own_unguard (by rfl) ?_)|(refine w_ld rfl _ rfl (by rfl) (by first|exact rd_1 (by repeat constructor) (by first|rfl|assumption)|exact rd_w (by repeat constructor) (by rfl)|((first|refine rd_o ‹_› (by rfl) ?_|refine rd_h ‹_› (by rfl) ?_|refine rd_1o ‹_› ?_|refine rd_1h ‹_› (by first|rfl|assumption) ?_);first|exact nmn|assumption|simp)) hS ?_)|((first|refine own_box rfl _ _ rfl (by rfl) hS ?_|refine w_al rfl rfl hS ?_);clear hS;(try clear ww);intro bb ww hS)|((first|refine w_st rfl _ _ rfl (by rfl) (by rfl) (by repeat constructor) (by rfl) (by rfl) (by first|rfl|assumption) hS ?_|refine w_s1 rfl _ _ rfl (by rfl) (by repeat constructor) (by first|exact .c|exact .t rfl) (by rfl) (by repeat constructor) hS ?_);clear hS;(try clear ww);intro ww hS))
  all_goals
    go_ret
    refine ⟨ret_bool ?_, hS.below⟩
    simp
    try omega

set_option maxHeartbeats 1000000 in
theorem ref25_Valid_own (l : Int) (c : Bool) (w : World) : Calls Try.prog 49 #[.agg #[.int .i64 l, .bool c]] w (Gives (.bool (decide (0 ≤ l) && decide (l ≤ 3))) w) := by
  go_enter Try.func49, Try.ntmps49
  have hS := own_start w
  go_wp2_with (first|(refine own_unguard (by rfl) ?_)|(refine w_ld rfl _ rfl (by rfl) (by first|exact rd_1 (by repeat constructor) (by first|rfl|assumption)|exact rd_w (by repeat constructor) (by rfl)|((first|refine rd_o ‹_› (by rfl) ?_|refine rd_h ‹_› (by rfl) ?_|refine rd_1o ‹_› ?_|refine rd_1h ‹_› (by first|rfl|assumption) ?_);first|exact nmn|assumption|simp)) hS ?_)|((first|refine own_box rfl _ _ rfl (by rfl) hS ?_|refine w_al rfl rfl hS ?_);clear hS;(try clear ww);intro bb ww hS)|((first|refine w_st rfl _ _ rfl (by rfl) (by rfl) (by repeat constructor) (by rfl) (by rfl) (by first|rfl|assumption) hS ?_|refine w_s1 rfl _ _ rfl (by rfl) (by repeat constructor) (by first|exact .c|exact .t rfl) (by rfl) (by repeat constructor) hS ?_);clear hS;(try clear ww);intro ww hS))
  all_goals
    go_ret
    refine ⟨ret_bool ?_, hS.below⟩
    simp
    try omega

/-- Is a level one of the four? -/
def lvlOk (l : Int) : Bool := decide (0 ≤ l) && decide (l ≤ 3)
/-- The size of a level. -/
def sizeOf' (F : Fnt) (l : Int) : Int := if l = 2 then F.script else if l = 3 then F.sscript else 100

/-- What Percent returns: the size, the error. -/
def PctOk (F : Fnt) (l : Int) (p e : Int) : Prop := (lvlOk l = true ∧ ValidF F → p = sizeOf' F l ∧ e = 0) ∧ (lvlOk l = false ∨ ¬ ValidF F → p = 0 ∧ e = 1)
theorem style_Valid_v {l : Int} {c v : Bool} {w : World} (hv : Hid (lvlOk l = v)) : Calls Try.prog 38 #[.agg #[.int .i64 l, .bool c]] w (Gives (.bool v) w) := by
  have := style_Valid_own l c w
  unfold lvlOk at hv
  rwa [hv.out] at this
theorem ref25_Valid_v {l : Int} {c v : Bool} {w : World} (hv : Hid (lvlOk l = v)) : Calls Try.prog 49 #[.agg #[.int .i64 l, .bool c]] w (Gives (.bool v) w) := by
  have := ref25_Valid_own l c w
  unfold lvlOk at hv
  rwa [hv.out] at this

set_option maxHeartbeats 4000000 in
set_option maxRecDepth 100000 in
theorem style_Percent_lvl (F : Fnt) (l : Int) (c : Bool) (w : World) (h : lvlOk l = false) : Calls Try.prog 19 #[F.val, .agg #[.int .i64 l, .bool c]] w (Gives (.tuple #[.int .i64 0, .int .i64 1]) w) := by
  have HL := Lib.hid h
  clear h
  go_enter Try.func19, Try.ntmps19
  have hS := own_start w
  go_wp2_with (first|(refine own_unguard (by rfl) ?_)|(go_at_call 38;refine own_calls hS (style_Valid_v HL) ?_;clear hS;(try clear ww);intro ww hS)|(refine w_ld rfl _ rfl (by rfl) (by first|exact rd_1 (by repeat constructor) (by first|rfl|assumption)|exact rd_w (by repeat constructor) (by rfl)|((first|refine rd_o ‹_› (by rfl) ?_|refine rd_h ‹_› (by rfl) ?_|refine rd_1o ‹_› ?_|refine rd_1h ‹_› (by first|rfl|assumption) ?_);first|exact nmn|assumption|simp)) hS ?_)|((first|refine own_box rfl _ _ rfl (by rfl) hS ?_|refine w_al rfl rfl hS ?_);clear hS;(try clear ww);intro bb ww hS)|((first|refine w_st rfl _ _ rfl (by rfl) (by rfl) (by repeat constructor) (by rfl) (by rfl) (by first|rfl|assumption) hS ?_|refine w_s1 rfl _ _ rfl (by rfl) (by repeat constructor) (by first|exact .c|exact .t rfl) (by rfl) (by repeat constructor) hS ?_);clear hS;(try clear ww);intro ww hS))
  go_ret2
  exact own_gives hS

set_option maxHeartbeats 4000000 in
set_option maxRecDepth 100000 in
theorem style_Percent_bad (F : Fnt) (l : Int) (c : Bool) (w : World) (hF : FntOk w F) (h : lvlOk l = true) (hv : ¬ ValidF F) : Calls Try.prog 19 #[F.val, .agg #[.int .i64 l, .bool c]] w (Gives (.tuple #[.int .i64 0, .int .i64 1]) w) := by
  have HF := Lib.hid hF
  have HL := Lib.hid h
  have HV := Lib.hid hv
  clear hF h hv
  go_enter Try.func19, Try.ntmps19
  have hS := own_start w
  go_wp2_with (first|(refine own_unguard (by rfl) ?_)|(go_at_call 38;refine own_calls hS (style_Valid_v HL) ?_;clear hS;(try clear ww);intro ww hS)|(go_at_call 39;refine own_calls hS (font_Valid_calls F _ (HF.out.below hS.below) _ (iff_f HV.out)) ?_;clear hS;(try clear ww);intro ww hS)|(refine w_ld rfl _ rfl (by rfl) (by first|exact rd_1 (by repeat constructor) (by first|rfl|assumption)|exact rd_w (by repeat constructor) (by rfl)|((first|refine rd_o ‹_› (by rfl) ?_|refine rd_h ‹_› (by rfl) ?_|refine rd_1o ‹_› ?_|refine rd_1h ‹_› (by first|rfl|assumption) ?_);first|exact nmn|assumption|simp)) hS ?_)|((first|refine own_box rfl _ _ rfl (by rfl) hS ?_|refine w_al rfl rfl hS ?_);clear hS;(try clear ww);intro bb ww hS)|((first|refine w_st rfl _ _ rfl (by rfl) (by rfl) (by repeat constructor) (by rfl) (by rfl) (by first|rfl|assumption) hS ?_|refine w_s1 rfl _ _ rfl (by rfl) (by repeat constructor) (by first|exact .c|exact .t rfl) (by rfl) (by repeat constructor) hS ?_);clear hS;(try clear ww);intro ww hS))
  go_ret2
  exact own_gives hS

set_option maxHeartbeats 4000000 in
set_option maxRecDepth 100000 in
theorem style_Percent_0 (F : Fnt) (c : Bool) (w : World) (hF : FntOk w F) (hv : ValidF F) : Calls Try.prog 19 #[F.val, .agg #[.int .i64 0, .bool c]] w (Gives (.tuple #[.int .i64 (100), .int .i64 0]) w) := by
  have HF := Lib.hid hF
  have HL := Lib.hid (show lvlOk 0 = true from rfl)
  have HV := Lib.hid hv
  clear hF hv
  go_enter Try.func19, Try.ntmps19
  have hS := own_start w
  go_wp2_with (first|(refine own_unguard (by rfl) ?_)|(go_at_call 38;refine own_calls hS (style_Valid_v HL) ?_;clear hS;(try clear ww);intro ww hS)|(go_at_call 39;refine own_calls hS (font_Valid_calls F _ (HF.out.below hS.below) _ (iff_t HV.out)) ?_;clear hS;(try clear ww);intro ww hS)|(refine w_ld rfl _ rfl (by rfl) (by first|exact rd_1 (by repeat constructor) (by first|rfl|assumption)|exact rd_w (by repeat constructor) (by rfl)|((first|refine rd_o ‹_› (by rfl) ?_|refine rd_h ‹_› (by rfl) ?_|refine rd_1o ‹_› ?_|refine rd_1h ‹_› (by first|rfl|assumption) ?_);first|exact nmn|assumption|simp)) hS ?_)|((first|refine own_box rfl _ _ rfl (by rfl) hS ?_|refine w_al rfl rfl hS ?_);clear hS;(try clear ww);intro bb ww hS)|((first|refine w_st rfl _ _ rfl (by rfl) (by rfl) (by repeat constructor) (by rfl) (by rfl) (by first|rfl|assumption) hS ?_|refine w_s1 rfl _ _ rfl (by rfl) (by repeat constructor) (by first|exact .c|exact .t rfl) (by rfl) (by repeat constructor) hS ?_);clear hS;(try clear ww);intro ww hS))
  go_ret2
  exact own_gives hS

set_option maxHeartbeats 4000000 in
set_option maxRecDepth 100000 in
theorem style_Percent_1 (F : Fnt) (c : Bool) (w : World) (hF : FntOk w F) (hv : ValidF F) : Calls Try.prog 19 #[F.val, .agg #[.int .i64 1, .bool c]] w (Gives (.tuple #[.int .i64 (100), .int .i64 0]) w) := by
  have HF := Lib.hid hF
  have HL := Lib.hid (show lvlOk 1 = true from rfl)
  have HV := Lib.hid hv
  clear hF hv
  go_enter Try.func19, Try.ntmps19
  have hS := own_start w
  go_wp2_with (first|(refine own_unguard (by rfl) ?_)|(go_at_call 38;refine own_calls hS (style_Valid_v HL) ?_;clear hS;(try clear ww);intro ww hS)|(go_at_call 39;refine own_calls hS (font_Valid_calls F _ (HF.out.below hS.below) _ (iff_t HV.out)) ?_;clear hS;(try clear ww);intro ww hS)|(refine w_ld rfl _ rfl (by rfl) (by first|exact rd_1 (by repeat constructor) (by first|rfl|assumption)|exact rd_w (by repeat constructor) (by rfl)|((first|refine rd_o ‹_› (by rfl) ?_|refine rd_h ‹_› (by rfl) ?_|refine rd_1o ‹_› ?_|refine rd_1h ‹_› (by first|rfl|assumption) ?_);first|exact nmn|assumption|simp)) hS ?_)|((first|refine own_box rfl _ _ rfl (by rfl) hS ?_|refine w_al rfl rfl hS ?_);clear hS;(try clear ww);intro bb ww hS)|((first|refine w_st rfl _ _ rfl (by rfl) (by rfl) (by repeat constructor) (by rfl) (by rfl) (by first|rfl|assumption) hS ?_|refine w_s1 rfl _ _ rfl (by rfl) (by repeat constructor) (by first|exact .c|exact .t rfl) (by rfl) (by repeat constructor) hS ?_);clear hS;(try clear ww);intro ww hS))
  go_ret2
  exact own_gives hS

set_option maxHeartbeats 4000000 in
set_option maxRecDepth 100000 in
theorem style_Percent_2 (F : Fnt) (c : Bool) (w : World) (hF : FntOk w F) (hv : ValidF F) : Calls Try.prog 19 #[F.val, .agg #[.int .i64 2, .bool c]] w (Gives (.tuple #[.int .i64 (F.script), .int .i64 0]) w) := by
  have HF := Lib.hid hF
  have HL := Lib.hid (show lvlOk 2 = true from rfl)
  have HV := Lib.hid hv
  clear hF hv
  go_enter Try.func19, Try.ntmps19
  have hS := own_start w
  go_wp2_with (first|(refine own_unguard (by rfl) ?_)|(go_at_call 38;refine own_calls hS (style_Valid_v HL) ?_;clear hS;(try clear ww);intro ww hS)|(go_at_call 39;refine own_calls hS (font_Valid_calls F _ (HF.out.below hS.below) _ (iff_t HV.out)) ?_;clear hS;(try clear ww);intro ww hS)|(refine w_ld rfl _ rfl (by rfl) (by first|exact rd_1 (by repeat constructor) (by first|rfl|assumption)|exact rd_w (by repeat constructor) (by rfl)|((first|refine rd_o ‹_› (by rfl) ?_|refine rd_h ‹_› (by rfl) ?_|refine rd_1o ‹_› ?_|refine rd_1h ‹_› (by first|rfl|assumption) ?_);first|exact nmn|assumption|simp)) hS ?_)|((first|refine own_box rfl _ _ rfl (by rfl) hS ?_|refine w_al rfl rfl hS ?_);clear hS;(try clear ww);intro bb ww hS)|((first|refine w_st rfl _ _ rfl (by rfl) (by rfl) (by repeat constructor) (by rfl) (by rfl) (by first|rfl|assumption) hS ?_|refine w_s1 rfl _ _ rfl (by rfl) (by repeat constructor) (by first|exact .c|exact .t rfl) (by rfl) (by repeat constructor) hS ?_);clear hS;(try clear ww);intro ww hS))
  go_ret2
  exact own_gives hS

set_option maxHeartbeats 4000000 in
set_option maxRecDepth 100000 in
theorem style_Percent_3 (F : Fnt) (c : Bool) (w : World) (hF : FntOk w F) (hv : ValidF F) : Calls Try.prog 19 #[F.val, .agg #[.int .i64 3, .bool c]] w (Gives (.tuple #[.int .i64 (F.sscript), .int .i64 0]) w) := by
  have HF := Lib.hid hF
  have HL := Lib.hid (show lvlOk 3 = true from rfl)
  have HV := Lib.hid hv
  clear hF hv
  go_enter Try.func19, Try.ntmps19
  have hS := own_start w
  go_wp2_with (first|(refine own_unguard (by rfl) ?_)|(go_at_call 38;refine own_calls hS (style_Valid_v HL) ?_;clear hS;(try clear ww);intro ww hS)|(go_at_call 39;refine own_calls hS (font_Valid_calls F _ (HF.out.below hS.below) _ (iff_t HV.out)) ?_;clear hS;(try clear ww);intro ww hS)|(refine w_ld rfl _ rfl (by rfl) (by first|exact rd_1 (by repeat constructor) (by first|rfl|assumption)|exact rd_w (by repeat constructor) (by rfl)|((first|refine rd_o ‹_› (by rfl) ?_|refine rd_h ‹_› (by rfl) ?_|refine rd_1o ‹_› ?_|refine rd_1h ‹_› (by first|rfl|assumption) ?_);first|exact nmn|assumption|simp)) hS ?_)|((first|refine own_box rfl _ _ rfl (by rfl) hS ?_|refine w_al rfl rfl hS ?_);clear hS;(try clear ww);intro bb ww hS)|((first|refine w_st rfl _ _ rfl (by rfl) (by rfl) (by repeat constructor) (by rfl) (by rfl) (by first|rfl|assumption) hS ?_|refine w_s1 rfl _ _ rfl (by rfl) (by repeat constructor) (by first|exact .c|exact .t rfl) (by rfl) (by repeat constructor) hS ?_);clear hS;(try clear ww);intro ww hS))
  go_ret2
  exact own_gives hS

theorem style_Percent_ok (F : Fnt) (l : Int) (c : Bool) (w : World) (hF : FntOk w F) (h : lvlOk l = true) (hv : ValidF F) : Calls Try.prog 19 #[F.val, .agg #[.int .i64 l, .bool c]] w (Gives (.tuple #[.int .i64 (sizeOf' F l), .int .i64 0]) w) := by
  have hc : l = 0 ∨ l = 1 ∨ l = 2 ∨ l = 3 := by simp [lvlOk] at h; omega
  rcases hc with rfl | rfl | rfl | rfl
  · exact style_Percent_0 F c w hF hv
  · exact style_Percent_1 F c w hF hv
  · exact style_Percent_2 F c w hF hv
  · exact style_Percent_3 F c w hF hv

/-- What Percent returns. -/
theorem style_Percent_calls (F : Fnt) (l p e : Int) (c : Bool) (w : World) (hF : FntOk w F) (hx : PctOk F l p e) : Calls Try.prog 19 #[F.val, .agg #[.int .i64 l, .bool c]] w (Gives (.tuple #[.int .i64 p, .int .i64 e]) w) := by
  cases h : lvlOk l
  · obtain ⟨rfl, rfl⟩ := hx.2 (Or.inl h); exact style_Percent_lvl F l c w h
  · by_cases hv : ValidF F
    · obtain ⟨rfl, rfl⟩ := hx.1 ⟨h, hv⟩; exact style_Percent_ok F l c w hF h hv
    · obtain ⟨rfl, rfl⟩ := hx.2 (Or.inr hv); exact style_Percent_bad F l c w hF h hv

set_option maxHeartbeats 4000000 in
set_option maxRecDepth 100000 in
theorem ref25_Size_0 (F : Fnt) (c : Bool) (w : World) : Calls Try.prog 53 #[F.val, .agg #[.int .i64 0, .bool c]] w (Gives (.int .i64 (100)) w) := by
  have HL := Lib.hid (show lvlOk 0 = true from rfl)
  go_enter Try.func53, Try.ntmps53
  have hS := own_start w
  go_wp2_with (first|(refine own_unguard (by rfl) ?_)|(go_at_call 49;refine own_calls hS (ref25_Valid_v HL) ?_;clear hS;(try clear ww);intro ww hS)|(refine own_buildSlice rfl _ _ 4 _ rfl [.int .i64 100, .int .i64 100, .int .i64 F.script, .int .i64 F.sscript] hS Try.underlying31 (by kernel_rfl) ?_;clear hS;(try clear ww);intro bb ww hS)|(refine w_ld rfl _ rfl (by rfl) (by first|exact rd_1 (by repeat constructor) (by first|rfl|assumption)|exact rd_w (by repeat constructor) (by rfl)|((first|refine rd_o ‹_› (by rfl) ?_|refine rd_h ‹_› (by rfl) ?_|refine rd_1o ‹_› ?_|refine rd_1h ‹_› (by first|rfl|assumption) ?_);first|exact nmn|assumption|simp)) hS ?_)|((first|refine own_box rfl _ _ rfl (by rfl) hS ?_|refine w_al rfl rfl hS ?_);clear hS;(try clear ww);intro bb ww hS)|((first|refine w_st rfl _ _ rfl (by rfl) (by rfl) (by repeat constructor) (by rfl) (by rfl) (by first|rfl|assumption) hS ?_|refine w_s1 rfl _ _ rfl (by rfl) (by repeat constructor) (by first|exact .c|exact .t rfl) (by rfl) (by repeat constructor) hS ?_);clear hS;(try clear ww);intro ww hS))
  go_ret
  exact own_gives hS

set_option maxHeartbeats 4000000 in
set_option maxRecDepth 100000 in
theorem ref25_Size_1 (F : Fnt) (c : Bool) (w : World) : Calls Try.prog 53 #[F.val, .agg #[.int .i64 1, .bool c]] w (Gives (.int .i64 (100)) w) := by
  have HL := Lib.hid (show lvlOk 1 = true from rfl)
  go_enter Try.func53, Try.ntmps53
  have hS := own_start w
  go_wp2_with (first|(refine own_unguard (by rfl) ?_)|(go_at_call 49;refine own_calls hS (ref25_Valid_v HL) ?_;clear hS;(try clear ww);intro ww hS)|(refine own_buildSlice rfl _ _ 4 _ rfl [.int .i64 100, .int .i64 100, .int .i64 F.script, .int .i64 F.sscript] hS Try.underlying31 (by kernel_rfl) ?_;clear hS;(try clear ww);intro bb ww hS)|(refine w_ld rfl _ rfl (by rfl) (by first|exact rd_1 (by repeat constructor) (by first|rfl|assumption)|exact rd_w (by repeat constructor) (by rfl)|((first|refine rd_o ‹_› (by rfl) ?_|refine rd_h ‹_› (by rfl) ?_|refine rd_1o ‹_› ?_|refine rd_1h ‹_› (by first|rfl|assumption) ?_);first|exact nmn|assumption|simp)) hS ?_)|((first|refine own_box rfl _ _ rfl (by rfl) hS ?_|refine w_al rfl rfl hS ?_);clear hS;(try clear ww);intro bb ww hS)|((first|refine w_st rfl _ _ rfl (by rfl) (by rfl) (by repeat constructor) (by rfl) (by rfl) (by first|rfl|assumption) hS ?_|refine w_s1 rfl _ _ rfl (by rfl) (by repeat constructor) (by first|exact .c|exact .t rfl) (by rfl) (by repeat constructor) hS ?_);clear hS;(try clear ww);intro ww hS))
  go_ret
  exact own_gives hS

set_option maxHeartbeats 4000000 in
set_option maxRecDepth 100000 in
theorem ref25_Size_2 (F : Fnt) (c : Bool) (w : World) : Calls Try.prog 53 #[F.val, .agg #[.int .i64 2, .bool c]] w (Gives (.int .i64 (F.script)) w) := by
  have HL := Lib.hid (show lvlOk 2 = true from rfl)
  go_enter Try.func53, Try.ntmps53
  have hS := own_start w
  go_wp2_with (first|(refine own_unguard (by rfl) ?_)|(go_at_call 49;refine own_calls hS (ref25_Valid_v HL) ?_;clear hS;(try clear ww);intro ww hS)|(refine own_buildSlice rfl _ _ 4 _ rfl [.int .i64 100, .int .i64 100, .int .i64 F.script, .int .i64 F.sscript] hS Try.underlying31 (by kernel_rfl) ?_;clear hS;(try clear ww);intro bb ww hS)|(refine w_ld rfl _ rfl (by rfl) (by first|exact rd_1 (by repeat constructor) (by first|rfl|assumption)|exact rd_w (by repeat constructor) (by rfl)|((first|refine rd_o ‹_› (by rfl) ?_|refine rd_h ‹_› (by rfl) ?_|refine rd_1o ‹_› ?_|refine rd_1h ‹_› (by first|rfl|assumption) ?_);first|exact nmn|assumption|simp)) hS ?_)|((first|refine own_box rfl _ _ rfl (by rfl) hS ?_|refine w_al rfl rfl hS ?_);clear hS;(try clear ww);intro bb ww hS)|((first|refine w_st rfl _ _ rfl (by rfl) (by rfl) (by repeat constructor) (by rfl) (by rfl) (by first|rfl|assumption) hS ?_|refine w_s1 rfl _ _ rfl (by rfl) (by repeat constructor) (by first|exact .c|exact .t rfl) (by rfl) (by repeat constructor) hS ?_);clear hS;(try clear ww);intro ww hS))
  go_ret
  exact own_gives hS

set_option maxHeartbeats 4000000 in
set_option maxRecDepth 100000 in
theorem ref25_Size_3 (F : Fnt) (c : Bool) (w : World) : Calls Try.prog 53 #[F.val, .agg #[.int .i64 3, .bool c]] w (Gives (.int .i64 (F.sscript)) w) := by
  have HL := Lib.hid (show lvlOk 3 = true from rfl)
  go_enter Try.func53, Try.ntmps53
  have hS := own_start w
  go_wp2_with (first|(refine own_unguard (by rfl) ?_)|(go_at_call 49;refine own_calls hS (ref25_Valid_v HL) ?_;clear hS;(try clear ww);intro ww hS)|(refine own_buildSlice rfl _ _ 4 _ rfl [.int .i64 100, .int .i64 100, .int .i64 F.script, .int .i64 F.sscript] hS Try.underlying31 (by kernel_rfl) ?_;clear hS;(try clear ww);intro bb ww hS)|(refine w_ld rfl _ rfl (by rfl) (by first|exact rd_1 (by repeat constructor) (by first|rfl|assumption)|exact rd_w (by repeat constructor) (by rfl)|((first|refine rd_o ‹_› (by rfl) ?_|refine rd_h ‹_› (by rfl) ?_|refine rd_1o ‹_› ?_|refine rd_1h ‹_› (by first|rfl|assumption) ?_);first|exact nmn|assumption|simp)) hS ?_)|((first|refine own_box rfl _ _ rfl (by rfl) hS ?_|refine w_al rfl rfl hS ?_);clear hS;(try clear ww);intro bb ww hS)|((first|refine w_st rfl _ _ rfl (by rfl) (by rfl) (by repeat constructor) (by rfl) (by rfl) (by first|rfl|assumption) hS ?_|refine w_s1 rfl _ _ rfl (by rfl) (by repeat constructor) (by first|exact .c|exact .t rfl) (by rfl) (by repeat constructor) hS ?_);clear hS;(try clear ww);intro ww hS))
  go_ret
  exact own_gives hS

theorem ref25_Size_in (F : Fnt) (l : Int) (c : Bool) (w : World) (h : lvlOk l = true) : Calls Try.prog 53 #[F.val, .agg #[.int .i64 l, .bool c]] w (Gives (.int .i64 (sizeOf' F l)) w) := by
  have hc : l = 0 ∨ l = 1 ∨ l = 2 ∨ l = 3 := by simp [lvlOk] at h; omega
  rcases hc with rfl | rfl | rfl | rfl
  · exact ref25_Size_0 F c w
  · exact ref25_Size_1 F c w
  · exact ref25_Size_2 F c w
  · exact ref25_Size_3 F c w









end Go.Proofs.Ytdbcdjiclkmknaa
namespace Go.Proofs.Ytdbcdjiclkmknaa
open Go.RowKit

attribute [local irreducible] Code.wp Calls

set_option maxHeartbeats 1000000 in
theorem length_Half_calls (n : Int) (w : World) : Calls Try.prog 23 #[.int .i64 n] w (Draws (.int .i64 (hlf n)) w) := by
  by_cases h : lenOk n = true
  · have hb := lenOk_iff.1 h
    have hs := Lib.hid (hlf_ok hb)
    go_enter Try.func23, Try.ntmps23
    go_wp2_with fail
    refine (length_Valid_calls _ _).mono ?_
    rintro e w' ⟨rfl, rfl⟩
    go_wp2_with fail
    refine (quotient_2_calls _ _ (by omega) (by omega)).mono ?_
    rintro e w' ⟨rfl, m, rfl⟩
    go_wp2_with fail
    go_ret
    exact ⟨ret_int hs.out.symm, m, rfl⟩
  · have hs := Lib.hid (show hlf n = 0 by unfold hlf; rw [if_neg h])
    have hl : lenOk n = false := by simpa using h
    clear h
    go_enter Try.func23, Try.ntmps23
    go_wp2_with fail
    refine (length_Valid_calls _ _).mono ?_
    rintro e w' ⟨rfl, rfl⟩
    go_wp2_with fail
    go_ret
    exact ⟨ret_int hs.out.symm, 0, rfl⟩

theorem length_Half_gives (n : Int) (w : World) : Calls Try.prog 23 #[.int .i64 n] w (Gives (.int .i64 (hlf n)) w) := (length_Half_calls n w).mono fun _ _ h => h.gives
theorem length_Scale_gives (n p : Int) (w : World) : Calls Try.prog 21 #[.int .i64 n, .int .i64 p] w (Gives (.int .i64 (scl n p)) w) := (length_Scale_calls n p w).mono fun _ _ h => h.gives

set_option maxHeartbeats 400000 in
theorem ref01_Valid_calls (a : Int) (w : World) :
    Calls Try.prog 69 #[.int .i64 a] w fun e w' => e = .returned (.bool (lenOk a)) ∧ w = w' := by
  go_enter Try.func69, Try.ntmps69
  go_wp2
  all_goals (go_ret; refine ⟨ret_bool ?_, rfl⟩; unfold lenOk; simp; omega)

set_option maxHeartbeats 400000 in
theorem ref01_size_p (a : Int) (w : World) (h : 0 ≤ a) :
    Calls Try.prog 78 #[.int .i64 a] w fun e w' => e = .returned (.int .i64 a) ∧ w = w' := by
  go_enter Try.func78, Try.ntmps78
  go_wp2
  all_goals (go_ret; exact ⟨rfl, rfl⟩)

set_option maxHeartbeats 400000 in
theorem ref01_size_n (a : Int) (w : World) (h : a < 0) (h1 : -10737418240000 ≤ a) :
    Calls Try.prog 78 #[.int .i64 a] w fun e w' => e = .returned (.int .i64 (-a)) ∧ w = w' := by
  go_enter Try.func78, Try.ntmps78
  go_wp2
  all_goals (go_ret; exact ⟨rfl, rfl⟩)

set_option maxHeartbeats 1000000 in
theorem ref01_round_100_p (a : Int) (w : World) (h0 : 0 ≤ a) (h1 : a ≤ 10737418240000) :
    Calls Try.prog 70 #[.int .i64 a, .int .i64 100] w fun e w' => e = .returned (.int .i64 (rdiv a 100)) ∧ w = w' := by
  have hs := Lib.hid (show rdiv a 100 = (2 * a + 100) / 200 by unfold rdiv; rw [if_pos h0]; rfl)
  go_enter Try.func70, Try.ntmps70
  go_wp2_with fail
  refine (ref01_size_p a _ h0).mono ?_
  rintro e w' ⟨rfl, rfl⟩
  go_wp2_with fail
  refine (ref01_size_p 100 _ (by omega)).mono ?_
  rintro e w' ⟨rfl, rfl⟩
  go_wp2_with fail
  refine (ref01_size_p 100 _ (by omega)).mono ?_
  rintro e w' ⟨rfl, rfl⟩
  go_wp2_with fail
  go_ret
  exact ⟨ret_int hs.out.symm, rfl⟩

set_option maxHeartbeats 1000000 in
theorem ref01_round_100_n (a : Int) (w : World) (h0 : a < 0) (h1 : -10737418240000 ≤ a) :
    Calls Try.prog 70 #[.int .i64 a, .int .i64 100] w fun e w' => e = .returned (.int .i64 (rdiv a 100)) ∧ w = w' := by
  have hs := Lib.hid (show rdiv a 100 = -((2 * (-a) + 100) / 200) by unfold rdiv; rw [if_neg (by omega)]; rfl)
  go_enter Try.func70, Try.ntmps70
  go_wp2_with fail
  refine (ref01_size_n a _ h0 h1).mono ?_
  rintro e w' ⟨rfl, rfl⟩
  go_wp2_with fail
  refine (ref01_size_p 100 _ (by omega)).mono ?_
  rintro e w' ⟨rfl, rfl⟩
  go_wp2_with fail
  refine (ref01_size_p 100 _ (by omega)).mono ?_
  rintro e w' ⟨rfl, rfl⟩
  go_wp2_with fail
  go_ret
  exact ⟨ret_int hs.out.symm, rfl⟩

set_option maxHeartbeats 1000000 in
theorem ref01_round_2_p (a : Int) (w : World) (h0 : 0 ≤ a) (h1 : a ≤ 10737418240000) :
    Calls Try.prog 70 #[.int .i64 a, .int .i64 2] w fun e w' => e = .returned (.int .i64 (rdiv a 2)) ∧ w = w' := by
  have hs := Lib.hid (show rdiv a 2 = (2 * a + 2) / 4 by unfold rdiv; rw [if_pos h0]; rfl)
  go_enter Try.func70, Try.ntmps70
  go_wp2_with fail
  refine (ref01_size_p a _ h0).mono ?_
  rintro e w' ⟨rfl, rfl⟩
  go_wp2_with fail
  refine (ref01_size_p 2 _ (by omega)).mono ?_
  rintro e w' ⟨rfl, rfl⟩
  go_wp2_with fail
  refine (ref01_size_p 2 _ (by omega)).mono ?_
  rintro e w' ⟨rfl, rfl⟩
  go_wp2_with fail
  go_ret
  exact ⟨ret_int hs.out.symm, rfl⟩

set_option maxHeartbeats 1000000 in
theorem ref01_round_2_n (a : Int) (w : World) (h0 : a < 0) (h1 : -10737418240000 ≤ a) :
    Calls Try.prog 70 #[.int .i64 a, .int .i64 2] w fun e w' => e = .returned (.int .i64 (rdiv a 2)) ∧ w = w' := by
  have hs := Lib.hid (show rdiv a 2 = -((2 * (-a) + 2) / 4) by unfold rdiv; rw [if_neg (by omega)]; rfl)
  go_enter Try.func70, Try.ntmps70
  go_wp2_with fail
  refine (ref01_size_n a _ h0 h1).mono ?_
  rintro e w' ⟨rfl, rfl⟩
  go_wp2_with fail
  refine (ref01_size_p 2 _ (by omega)).mono ?_
  rintro e w' ⟨rfl, rfl⟩
  go_wp2_with fail
  refine (ref01_size_p 2 _ (by omega)).mono ?_
  rintro e w' ⟨rfl, rfl⟩
  go_wp2_with fail
  go_ret
  exact ⟨ret_int hs.out.symm, rfl⟩

theorem ref01_round_100 (a : Int) (w : World) (h0 : -10737418240000 ≤ a) (h1 : a ≤ 10737418240000) :
    Calls Try.prog 70 #[.int .i64 a, .int .i64 100] w fun e w' => e = .returned (.int .i64 (rdiv a 100)) ∧ w = w' := by
  by_cases h : 0 ≤ a
  · exact ref01_round_100_p a w h h1
  · exact ref01_round_100_n a w (by omega) h0
theorem ref01_round_2 (a : Int) (w : World) (h0 : -10737418240000 ≤ a) (h1 : a ≤ 10737418240000) :
    Calls Try.prog 70 #[.int .i64 a, .int .i64 2] w fun e w' => e = .returned (.int .i64 (rdiv a 2)) ∧ w = w' := by
  by_cases h : 0 ≤ a
  · exact ref01_round_2_p a w h h1
  · exact ref01_round_2_n a w (by omega) h0

set_option maxHeartbeats 1000000 in
theorem ref01_Half_calls (n : Int) (w : World) : Calls Try.prog 51 #[.int .i64 n] w fun e w' => e = .returned (.int .i64 (hlf n)) ∧ w = w' := by
  by_cases h : lenOk n = true
  · have hb := lenOk_iff.1 h
    have hs := Lib.hid (hlf_ok hb)
    go_enter Try.func51, Try.ntmps51
    go_wp2_with fail
    refine (ref01_Valid_calls _ _).mono ?_
    rintro e w' ⟨rfl, rfl⟩
    go_wp2_with fail
    refine (ref01_round_2 _ _ (by omega) (by omega)).mono ?_
    rintro e w' ⟨rfl, rfl⟩
    go_wp2_with fail
    go_ret
    exact ⟨ret_int hs.out.symm, rfl⟩
  · have hs := Lib.hid (show hlf n = 0 by unfold hlf; rw [if_neg h])
    have hl : lenOk n = false := by simpa using h
    clear h
    go_enter Try.func51, Try.ntmps51
    go_wp2_with fail
    refine (ref01_Valid_calls _ _).mono ?_
    rintro e w' ⟨rfl, rfl⟩
    go_wp2_with fail
    go_ret
    exact ⟨ret_int hs.out.symm, rfl⟩

set_option maxHeartbeats 1000000 in
theorem ref01_Scale_in (n p : Int) (w : World) (h : -1073741824 ≤ n ∧ n ≤ 1073741824) (h0 : 0 ≤ p) (h1 : p ≤ 10000) :
    Calls Try.prog 52 #[.int .i64 n, .int .i64 p] w fun e w' => e = .returned (.int .i64 (scl n p)) ∧ w = w' := by
  have hb := mul_bd h h0 h1
  have hv : lenOk n = true := lenOk_iff.2 h
  have hs := Lib.hid (scl_ok h h0 h1)
  have hm : wrap64 (n * p) = n * p := IntWalk.wrap64_in _ (by omega)
  go_enter Try.func52, Try.ntmps52
  go_wp2_with fail
  refine (ref01_Valid_calls _ _).mono ?_
  rintro e w' ⟨rfl, rfl⟩
  go_wp2_with fail
  refine (ref01_round_100 _ _ hb.1 hb.2).mono ?_
  rintro e w' ⟨rfl, rfl⟩
  go_wp2_with fail
  go_ret
  exact ⟨ret_int hs.out.symm, rfl⟩

theorem ref01_Half_gives (n : Int) (w : World) : Calls Try.prog 51 #[.int .i64 n] w (Gives (.int .i64 (hlf n)) w) :=
  (ref01_Half_calls n w).mono fun _ _ ⟨he, hw⟩ => ⟨he, hw ▸ bself w⟩
theorem ref01_Scale_gives (n p : Int) (w : World) (h : -1073741824 ≤ n ∧ n ≤ 1073741824) (h0 : 0 ≤ p) (h1 : p ≤ 10000) :
    Calls Try.prog 52 #[.int .i64 n, .int .i64 p] w (Gives (.int .i64 (scl n p)) w) :=
  (ref01_Scale_in n p w h h0 h1).mono fun _ _ ⟨he, hw⟩ => ⟨he, hw ▸ bself w⟩

end Go.Proofs.Ytdbcdjiclkmknaa
namespace Go.Proofs.Ytdbcdjiclkmknaa
open Go.RowKit

theorem Own.perm {D : List Nat} {W w : World} {L L' : List (Nat × List Value)} (hS : Own D W L w) (h : L.Perm L') : Own D W L' w :=
  ⟨hS.os, hS.tape, hS.output, hS.size, hS.block, fun x hx => hS.has x (h.mem_iff.2 hx), fun x hx => hS.ge x (h.mem_iff.2 hx), (h.map (·.1)).nodup_iff.1 hS.apart⟩

/-- The slice v holds n elements, the cells xs; X: its block, if there is one (a slice without room needs none). -/
def Sl (size n : Nat) (v : Value) (xs : List Value) (X : List (Nat × List Value)) : Prop :=
  xs.length = n * size ∧ ((∃ y, (y = none ∨ ∃ b o, y = some ⟨b, o, none⟩) ∧ v = .slice y 0 0 ∧ n = 0 ∧ X = []) ∨ ∃ b c junk, v = .slice (some ⟨b, 0, none⟩) n c ∧ n ≤ c ∧ c ≤ maxLen ∧ (xs ++ junk).length = c * size ∧ X = [(b, xs ++ junk)])
theorem sl_nil (size : Nat) : Sl size 0 (.slice none 0 0) [] [] := ⟨by simp, .inl ⟨none, .inl rfl, rfl, rfl, rfl⟩⟩
theorem Sl.one {size n : Nat} {v : Value} {xs : List Value} {X : List (Nat × List Value)} (h : Sl size n v xs X) : v.oneCell' = true := by
  rcases h.2 with ⟨y, _, rfl, _, _⟩ | ⟨b, c, junk, rfl, _⟩ <;> rfl
theorem Sl.slice {size n : Nat} {v : Value} {xs : List Value} {X : List (Nat × List Value)} (h : Sl size n v xs X) : ∃ y c, v = .slice y n c := by
  rcases h.2 with ⟨y, _, rfl, rfl, _⟩ | ⟨b, c, junk, rfl, _⟩
  · exact ⟨y, 0, rfl⟩
  · exact ⟨_, _, rfl⟩

section
variable {w : World} {b : Nat}
def setL : List Value → Nat → List Value → List Value
  | cs, _, [] => cs
  | cs, o, v :: vs => setL (cs.set o v) (o + 1) vs
theorem Has.setCells : ∀ (vs : List Value) (o : Nat) {w : World} {cs : List Value}, Has w b cs → Has (w.setCells b o vs) b (setL cs o vs) := by
  intro vs
  induction vs with
  | nil => intro o w cs h; exact h
  | cons v vs ih => intro o w cs h; exact ih (o + 1) (h.set_ o v)
theorem setL_app : ∀ (vs xs junk : List Value), vs.length ≤ junk.length → setL (xs ++ junk) xs.length vs = xs ++ vs ++ junk.drop vs.length := by
  intro vs
  induction vs with
  | nil => intro xs junk _; simp [setL]
  | cons v vs ih =>
    intro xs junk h
    cases junk with
    | nil => simp at h
    | cons y junk =>
      have h1 : (xs ++ y :: junk).set xs.length v = (xs ++ [v]) ++ junk := by simp
      have h2 := ih (xs ++ [v]) junk (by simpa using h)
      simp only [setL, h1]
      rw [show xs.length + 1 = (xs ++ [v]).length by simp, h2]
      simp
theorem setCells_rest : ∀ (vs : List Value) (o : Nat) (w : World), (w.setCells b o vs).os = w.os ∧ (w.setCells b o vs).tape = w.tape ∧ (w.setCells b o vs).output = w.output ∧ (w.setCells b o vs).heap.size = w.heap.size ∧ ∀ k, k ≠ b → (w.setCells b o vs).heap[k]? = w.heap[k]? := by
  intro vs
  induction vs with
  | nil => intro o w; exact ⟨rfl, rfl, rfl, rfl, fun _ _ => rfl⟩
  | cons v vs ih =>
    intro o w
    obtain ⟨h1, h2, h3, h4, h5⟩ := ih (o + 1) (w.setCell ⟨b, o, none⟩ v)
    exact ⟨h1, h2, h3, h4.trans (by simp [World.setCell]), fun k hk => (h5 k hk).trans (Below.heap_setCell _ _ _ _ hk)⟩
end

theorem Own.setCells {D : List Nat} {W w : World} {L : List (Nat × List Value)} {k b : Nat} {cs : List Value} (hS : Own D W L w) (hat : At k L b cs) (o : Nat) (vs : List Value) : Own D W (L.set k (b, setL cs o vs)) (w.setCells b o vs) := by
  obtain ⟨h1, h2, h3, h4, h5⟩ := setCells_rest (b := b) vs o w
  exact hS.turn hat h1 h2 h3 (by omega) (fun k _ hk => h5 k hk) ((hS.get hat).setCells vs o)

section
variable {P : Program} {rest : List Oper} {ops' : Array Oper} {o : Oper} {a : Act} {Q : Exit → Act → World → Prop} {D : List Nat} {W w : World} {L : List (Nat × List Value)}

/-- A row that a law of the kit tells, among the blocks of the call. -/
theorem own_row {X : List (Nat × List Value)} {w' : World} {e : TypeId} {size n : Nat} {v' : Value} {xs : List Value} (hS : Own D W (L ++ X) w) (h : w'.ownsRow w.heap.size e size v' n xs) (hg : w.grownBy w' none) : ∃ X', Own D W (L ++ X') w' ∧ Sl size n v' xs X' := by
  obtain ⟨hl, h⟩ := h
  have hb : Below w.heap.size w w' := ⟨hg.os, hg.tape, hg.output, hg.size, fun k hk => hg.block k hk (by simp)⟩
  rcases h with ⟨rfl, rfl⟩ | ⟨g, cap, cur, rfl, hge, hh, hnc, hcm, hcs, htk⟩
  · exact ⟨[], (hS.forget (by simp)).step hb, hl, .inl ⟨none, .inl rfl, rfl, rfl, rfl⟩⟩
  · refine ⟨[(g, cur.toList)], ?_, hl, .inr ⟨g, cap, cur.toList.drop (n * size), rfl, hnc, hcm, ?_, ?_⟩⟩
    · have h1 : Own D W ((g, cur.toList) :: (L ++ X)) w' := hS.add hb ⟨e, by simpa using hh⟩ hge
      have h2 : Own D W ((g, cur.toList) :: L) w' := h1.forget (by simp)
      exact h2.perm (by simpa using (List.perm_append_comm (l₁ := [(g, cur.toList)]) (l₂ := L)))
    · rw [← htk, List.take_append_drop]; simpa using hcs
    · rw [← htk, List.take_append_drop]

theorem own_append (hgd : o.guard = none) (s x : Operand) (t : TypeId) (ho : o.op = .call { callee := .builtin .append, args := #[s, x], argTypes := #[t, t] })
    {size bytes n : Nat} {v : Value} {xs : List Value} {X : List (Nat × List Value)} {e : TypeId} (hX : Sl size n v xs X) (hs : a.eval s = v) {ad : Addr} {m c : Nat} {news : List Value} (hx : a.eval x = .slice (some ad) m c)
    (hS : Own D W (L ++ X) w) (hn : ∀ j u, news[j]? = some u → w.cell? (ad.add j) = some u) (hl : news.length = m * size) (h1 : ∀ u ∈ news, u.oneCell' = true) (T : ElTy P t e size bytes) (h0 : 0 < size)
    (b1 : n + m ≤ maxLen) (b2 : (n + m) * bytes ≤ 140737488355328)
    (h : ∀ v' X' w', Own D W (L ++ X') w' → Sl size (n + m) v' (xs ++ news) X' → wpList P ops' Q rest (a.put o.dst v') w') : wpList P ops' Q (o :: rest) a w := by
  obtain ⟨i, z, hi, hz, hsz, hby, hzz⟩ := T.inf
  refine wpList_plain hgd fun K hK => ?_
  obtain ⟨hxl, hX2⟩ := id hX
  rcases hX2 with ⟨y, hy, rfl, rfl, rfl⟩ | ⟨b, cp, junk, rfl, hnc, hcm, hjl, rfl⟩
  · obtain rfl : xs = [] := List.eq_nil_of_length_eq_zero (by simpa using hxl)
    rcases hy with rfl | ⟨b, f, rfl⟩
    · obtain ⟨v', w', hrun, r1, r2, _⟩ := run_append_own (P := P) w w.heap.size t o.type e i z size bytes T.und hi hz hsz hby hzz h0 (.slice none 0 0) 0 [] (World.ownsRow_nil w _ e size) ad m c news hl hn h1 b1 b2 (Nat.le_refl _)
      obtain ⟨X', h3, h4⟩ := own_row hS r1 (by simpa [Value.ownBlock] using r2)
      unfold Oper.wp
      simp [execOp, ho, resolve, invoke, builtin, hs, hx, hrun, Result.andThen]
      exact hK _ _ (h v' X' w' h3 h4)
    · by_cases hm : m = 0
      · subst hm
        obtain rfl : news = [] := List.eq_nil_of_length_eq_zero (by simpa using hl)
        have hrun := run_append_room_cells (P := P) w t o.type e i T.und hi b f 0 0 ad 0 c [] (by simp) (by simp) (by simp) (Nat.le_refl _) (fun j hj => by simp at hj) (fun j hj => by simp at hj)
        unfold Oper.wp
        simp [execOp, ho, resolve, invoke, builtin, hs, hx, hrun, Result.andThen]
        exact hK _ _ (h _ [] _ (by simpa [World.setCells] using hS) ⟨by simp, .inl ⟨_, .inr ⟨b, f, rfl⟩, rfl, rfl, rfl⟩⟩)
      · obtain ⟨v', w', hrun, r1, r2⟩ := run_append_arg_grows (P := P) w t o.type e i z size bytes T.und hi hz hsz hby hzz h0 ⟨b, f, none⟩ 0 0 [] (by simp) (fun j u hj => by simp at hj) ad m c news hl hn (by omega) b1 b2
        obtain ⟨X', h3, h4⟩ := own_row hS r1 r2
        unfold Oper.wp
        simp [execOp, ho, resolve, invoke, builtin, hs, hx, hrun, Result.andThen]
        exact hK _ _ (h v' X' w' h3 h4)
  · have hat : At L.length (L ++ [(b, xs ++ junk)]) b (xs ++ junk) := by unfold At; simp
    have hb := hS.get hat
    by_cases hr : n + m ≤ cp
    · have hroom : (n + m) * size ≤ cp * size := Nat.mul_le_mul_right _ hr
      rw [Nat.add_mul] at hroom
      have hjn : news.length ≤ junk.length := by rw [List.length_append] at hjl; omega
      subst hsz
      have hrun := run_append_room_cells (P := P) w t o.type e i T.und hi b 0 n cp ad m c news hl hn h1 hr (fun j hj => by
        rw [hb.cell, Nat.zero_add]
        rw [List.getElem?_eq_getElem (by rw [List.length_append]; omega)]; rfl) (fun j _ => hb.frozen _)
      have hS2 := hS.setCells hat (n * i.size) news
      rw [← hxl, setL_app news xs junk hjn, List.set_append_right _ _ (Nat.le_refl _), Nat.sub_self] at hS2
      simp only [List.set_cons_zero] at hS2
      unfold Oper.wp
      simp [execOp, ho, resolve, invoke, builtin, hs, hx, hrun, Result.andThen]
      refine hK _ _ (h _ [(b, xs ++ news ++ junk.drop news.length)] _ ?_ ⟨by rw [List.length_append, hxl, hl, Nat.add_mul], .inr ⟨b, cp, junk.drop news.length, rfl, hr, hcm, ?_, rfl⟩⟩)
      · rw [← hxl]; exact hS2
      · rw [← hjl]; simp; omega
    · obtain ⟨v', w', hrun, r1, r2⟩ := run_append_arg_grows (P := P) w t o.type e i z size bytes T.und hi hz hsz hby hzz h0 ⟨b, 0, none⟩ n cp xs hxl (fun j u hj => by
        rw [Addr.add_lit, hb.cell, Nat.zero_add, List.getElem?_append_left (List.getElem?_eq_some_iff.1 hj).1]; exact hj) ad m c news hl hn (by omega) b1 b2
      obtain ⟨X', h3, h4⟩ := own_row hS r1 r2
      unfold Oper.wp
      simp [execOp, ho, resolve, invoke, builtin, hs, hx, hrun, Result.andThen]
      exact hK _ _ (h v' X' w' h3 h4)

/-- .. what is appended being a new block of the call, forgotten then. -/
theorem own_append_new (hgd : o.guard = none) (s x : Operand) (t : TypeId) (ho : o.op = .call { callee := .builtin .append, args := #[s, x], argTypes := #[t, t] })
    {size bytes n : Nat} {v : Value} {xs : List Value} {X : List (Nat × List Value)} {e : TypeId} (hX : Sl size n v xs X) (hs : a.eval s = v) {b m c : Nat} {news : List Value} (hx : a.eval x = .slice (some ⟨b, 0, none⟩) m c)
    (hS : Own D W (((b, news) :: L) ++ X) w) (hl : news.length = m * size) (h1 : news.all (·.oneCell') = true) (T : ElTy P t e size bytes) (h0 : 0 < size)
    (b1 : n + m ≤ maxLen) (b2 : (n + m) * bytes ≤ 140737488355328)
    (h : ∀ v' X' w', Own D W (L ++ X') w' → Sl size (n + m) v' (xs ++ news) X' → wpList P ops' Q rest (a.put o.dst v') w') : wpList P ops' Q (o :: rest) a w := by
  have hb : Has w b news := hS.has (b, news) (by simp)
  refine own_append hgd s x t ho hX hs hx (hS.forget (List.sublist_cons_self _ _) : Own D W (L ++ X) w) (fun j u hj => ?_) hl (fun u hu => List.all_eq_true.1 h1 u hu) T h0 b1 b2 h
  rw [Addr.add_lit, hb.cell, Nat.zero_add]
  exact hj

/-- A literal of a slice without elements. -/
theorem own_buildEmpty (hgd : o.guard = none) (t e : TypeId) (ho : o.op = .buildSlice t 0 #[]) (hS : Own D W L w) (hu : P.underlying t = some (.slice e)) (hi : (P.info? e).isSome = true)
    (h : ∀ b w', Own D W ((b, []) :: L) w' → wpList P ops' Q rest (a.put o.dst (.slice (some ⟨b, 0, none⟩) 0 0)) w') : wpList P ops' Q (o :: rest) a w := by
  refine wpList_plain hgd fun K hK => ?_
  cases hq : P.info? e with
  | none => simp [hq] at hi
  | some i =>
    have hrun : (execOp a.eval o).run P w = .ok (.value (.slice (some ⟨w.heap.size, 0, none⟩) 0 0)) (w.alloc (.cells [].toArray e)) := by
      unfold execOp
      have hf : Instr.fill (fun i_1 => some (i_1 * i.size, i.size)) (Array.map (fun _ => (default : Value)) (Array.range 0)) [] = some #[] := by simp [Instr.fill]
      simp [ho, Instr.buildSlice, run_underlying hu, sizeOf, typeInfo, hq, newRow, hf]
    unfold Oper.wp
    rw [hrun]
    exact hK _ _ (h _ _ (hS.new [] e))

end
end Go.Proofs.Ytdbcdjiclkmknaa
namespace Go.Proofs.Ytdbcdjiclkmknaa
open Go.RowKit

/-- What a slice of the call's own holds, RowAt tells. -/
theorem Sl.rowAt {D : List Nat} {W w : World} {L : List (Nat × List Value)} {α : Type} {size n : Nat} {v : Value} {f : α → List Value} {l : List α} {X : List (Nat × List Value)} (hS : Own D W L w) (hm : ∀ x ∈ X, x ∈ L) (h : Sl size n v (l.flatMap f) X) (hf : ∀ a, (f a).length = size) (h0 : 0 < size) : ∃ y c, v = .slice y l.length c ∧ RowAt w y size f l ∧ l.length ≤ c ∧ c ≤ maxLen := by
  obtain ⟨hl, h⟩ := h
  have hn : n = l.length := by
    rw [flat_len hf] at hl
    exact (Nat.eq_of_mul_eq_mul_right h0 hl).symm
  subst hn
  rcases h with ⟨y, _, rfl, h, rfl⟩ | ⟨b, c, junk, rfl, h1, h2, h3, rfl⟩
  · exact ⟨y, 0, by rw [h], .inl (List.eq_nil_of_length_eq_zero h), by omega, by simp [maxLen]⟩
  · exact ⟨_, c, rfl, RowAt.of_has (fun a _ => hf a) (hS.has (b, l.flatMap f ++ junk) (hm _ (by simp))), h1, h2⟩
end Go.Proofs.Ytdbcdjiclkmknaa
namespace Go.Proofs.Ytdbcdjiclkmknaa
open Go.RowKit

/-- What a box holds, but for its kids. -/
structure Hd where
  kind : Int
  name : ByteArray
  size : Int
  w : Int
  h : Int
  d : Int
  x : Int
  y : Int
  of : Int
  src : List Int
/-- Boxes of at most n levels. -/
@[reducible] def Bx : Nat → Type
  | 0 => Empty
  | n + 1 => Hd × List (Bx n)

@[reducible] def Hd.cells (a : Hd) (k s : Value) : List Value := [.int .i64 a.kind, .string a.name, .int .i64 a.size, .int .i64 a.w, .int .i64 a.h, .int .i64 a.d, .int .i64 a.x, .int .i64 a.y, k, .int .i64 a.of, s]
def intCells (n : Int) : List Value := [.int .i64 n]
/-- Its numbers are numbers of a machine. -/
structure HdOk (a : Hd) : Prop where
  kind : I64 a.kind
  size : I64 a.size
  w : I64 a.w
  h : I64 a.h
  d : I64 a.d
  x : I64 a.x
  y : I64 a.y
  of : I64 a.of
  src : ∀ n ∈ a.src, I64 n
  srcLen : a.src.length ≤ maxLen
  nameLen : a.name.size ≤ maxLen

/-- The cells cs are the box b; its lists of kids lie where ko says, its sources where so says. -/
def RepG (ko : Nat → Nat → Prop) (so : Nat → Prop) (w : World) : (n : Nat) → Bx n → List Value → Prop
  | 0, _, _ => False
  | n + 1, b, cs => ∃ (kx : Option Addr) (kc : Nat) (sx : Option Addr) (sc : Nat), cs = b.1.cells (.slice kx b.2.length kc) (.slice sx b.1.src.length sc) ∧ HdOk b.1 ∧ b.2.length ≤ maxLen ∧
      RowAt w sx 1 intCells b.1.src ∧ (b.1.src ≠ [] → ∀ k o, sx = some ⟨k, o, none⟩ → so k) ∧
      ∀ i kid, b.2[i]? = some kid → ∃ k o css, kx = some ⟨k, o, none⟩ ∧ ko k o ∧ w.rangeAt k (o + i * 11) css ∧ RepG ko so w n kid css
/-- .. wherever. -/
@[reducible] def Rep (w : World) (n : Nat) (b : Bx n) (cs : List Value) : Prop := RepG (fun _ _ => True) (fun _ => True) w n b cs

theorem RepG.mono {ko ko' : Nat → Nat → Prop} {so so' : Nat → Prop} {w : World} (hk : ∀ k o, ko k o → ko' k o) (hs : ∀ k, so k → so' k) : ∀ (n : Nat) (b : Bx n) (cs : List Value), RepG ko so w n b cs → RepG ko' so' w n b cs := by
  intro n
  induction n with
  | zero => intro b cs h; exact h
  | succ n ih =>
    rintro b cs ⟨kx, kc, sx, sc, h1, h2, h3, h4, h5, h6⟩
    refine ⟨kx, kc, sx, sc, h1, h2, h3, h4, fun hne k o he => hs _ (h5 hne k o he), fun i kid hi => ?_⟩
    obtain ⟨k, o, css, e, e1, e2, e3⟩ := h6 i kid hi
    exact ⟨k, o, css, e, hk _ _ e1, e2, ih _ _ e3⟩
theorem RepG.step {ko : Nat → Nat → Prop} {so : Nat → Prop} {w w' : World} (hb : Below w.heap.size w w') : ∀ (n : Nat) (b : Bx n) (cs : List Value), RepG ko so w n b cs → RepG ko so w' n b cs := by
  intro n
  induction n with
  | zero => intro b cs h; exact h
  | succ n ih =>
    rintro b cs ⟨kx, kc, sx, sc, h1, h2, h3, h4, h5, h6⟩
    refine ⟨kx, kc, sx, sc, h1, h2, h3, h4.below hb, h5, fun i kid hi => ?_⟩
    obtain ⟨k, o, css, e, e1, e2, e3⟩ := h6 i kid hi
    exact ⟨k, o, css, e, e1, rangeAt_below e2 hb, ih _ _ e3⟩
theorem Rep.step {w w' : World} {n : Nat} {b : Bx n} {cs : List Value} (h : Rep w n b cs) (hb : Below w.heap.size w w') : Rep w' n b cs := RepG.step hb n b cs h
theorem RepG.len {ko : Nat → Nat → Prop} {so : Nat → Prop} {w : World} {n : Nat} {b : Bx n} {cs : List Value} (h : RepG ko so w n b cs) : cs.length = 11 := by
  cases n with
  | zero => exact h.elim
  | succ n => obtain ⟨kx, kc, sx, sc, rfl, _⟩ := h; rfl

/-- One level more. -/
def lift : (n : Nat) → Bx n → Bx (n + 1)
  | 0, b => b.elim
  | n + 1, b => (b.1, b.2.map (lift n))
theorem Rep.lift {w : World} : ∀ {n : Nat} {b : Bx n} {cs : List Value}, Rep w n b cs → Rep w (n + 1) (lift n b) cs := by
  intro n
  induction n with
  | zero => intro b cs h; exact h.elim
  | succ n ih =>
    rintro b cs ⟨kx, kc, sx, sc, h1, h2, h3, h4, h5, h6⟩
    refine ⟨kx, kc, sx, sc, by simpa [Proofs.Ytdbcdjiclkmknaa.lift] using h1, h2, by simpa [Proofs.Ytdbcdjiclkmknaa.lift] using h3, h4, h5, fun i kid hi => ?_⟩
    simp only [Proofs.Ytdbcdjiclkmknaa.lift, List.getElem?_map] at hi
    cases hq : b.2[i]? with
    | none => rw [hq] at hi; cases hi
    | some y =>
      rw [hq] at hi
      obtain rfl : Proofs.Ytdbcdjiclkmknaa.lift n y = kid := by simpa using hi
      obtain ⟨k, o, css, e, e1, e2, e3⟩ := h6 i y hq
      exact ⟨k, o, css, e, e1, e2, ih e3⟩
theorem Rep.up {w : World} {n : Nat} {b : Bx n} {cs : List Value} (h : Rep w n b cs) : ∀ m, n ≤ m → ∃ b', Rep w m b' cs := by
  intro m hm
  induction m with
  | zero =>
    obtain rfl : n = 0 := by omega
    exact ⟨b, h⟩
  | succ m ih =>
    by_cases he : n = m + 1
    · subst he; exact ⟨b, h⟩
    · obtain ⟨b', h'⟩ := ih (by omega)
      exact ⟨_, Rep.lift h'⟩

/-- The number of boxes; the number of levels. -/
def bCount : (n : Nat) → Bx n → Nat
  | 0, _ => 0
  | n + 1, b => 1 + (b.2.map (bCount n)).sum
def bNested : (n : Nat) → Bx n → Nat
  | 0, _ => 0
  | n + 1, b => 1 + b.2.foldl (fun m k => max m (bNested n k)) 0

end Go.Proofs.Ytdbcdjiclkmknaa
