/- font.Box, Box and Sized of the reference: the box of a glyph. -/
import Derived.Test.YtgknameejoalnaaVlf
import Derived.Test.YtgknameejoalnaaPick
import Derived.Test.YtgknameejoalnaaFnd
import Derived.Test.YtgknameejoalnaaOfl
import Derived.Test.YtgknameejoalnaaScalR
namespace Go.Proofs.Ytgknameejoalnaa
open Go.RowKit

attribute [local irreducible] wpQuiet wpG wpP wpList Code.wp

theorem rt_box : RowTy Try.prog 56 11 := ⟨⟨_, Try.underlying56, rfl⟩, by kernel_rfl⟩
theorem zt_box : ZeroTy Try.prog 56 [.int .i64 0, .string ⟨#[]⟩, .int .i64 0, .int .i64 0, .int .i64 0, .int .i64 0, .int .i64 0, .int .i64 0, .slice none 0 0, .int .i64 0, .slice none 0 0] := ⟨.agg #[.int .i64 0, .string ⟨#[]⟩, .int .i64 0, .int .i64 0, .int .i64 0, .int .i64 0, .int .i64 0, .int .i64 0, .slice none 0 0, .int .i64 0, .slice none 0 0], by kernel_rfl, rfl⟩
/-- The width of a glyph's box. -/
def boxW (g : Gly) : Int := wrap64 (g.w + max 0 g.it)

set_option maxHeartbeats 8000000 in
set_option maxRecDepth 100000 in
theorem font_Box_bad (F : Fnt) (s : ByteArray) (p : Int) (w : World) (hF : FntOk w F) (hv : ¬ ValidF F) : Calls Try.prog 24 #[F.val, .string s, .int .i64 p] w (Gives (.tuple #[.agg #[.int .i64 0, .string ⟨#[]⟩, .int .i64 0, .int .i64 0, .int .i64 0, .int .i64 0, .int .i64 0, .int .i64 0, .slice none 0 0, .int .i64 0, .slice none 0 0], .int .i64 1]) w) := by
  have HF := Lib.hid hF
  clear hF
  have HV := Lib.hid hv
  clear hv
  go_enter Try.func24, Try.ntmps24
  have hS := own_start w
  go_wp2_with (first
    | (refine own_unguard (by rfl) ?_)
    | (go_at_call 22; refine own_calls hS (font_Valid_calls F _ (HF.out.below hS.below) _ (iff_f HV.out)) ?_; clear hS; (try clear ww); intro ww hS)
    | (refine own_load1 rfl _ _ rfl rfl hS (by first | exact at0 | exact at1 | exact at2 | exact at3 | exact at4 | exact at5 | exact at6 | exact at7 | exact at8) (by first | exact ot_int | exact ot_string | exact ot_bool) (by first | rfl | assumption) ?_)
    | (refine own_load rfl _ _ rfl rfl hS (by first | exact at0 | exact at1 | exact at2 | exact at3 | exact at4 | exact at5 | exact at6 | exact at7 | exact at8) (by first | exact rt_font | exact rt_glyph | exact rt_box) ?_)
    | (refine own_load_old rfl _ _ rfl rfl hS (by assumption) (by first | exact List.not_mem_nil | assumption) (by first | exact rt_font | exact rt_glyph | exact rt_box) ?_)
    | (refine own_load_has rfl _ _ rfl rfl hS (by assumption) (by first | exact List.not_mem_nil | assumption) (by first | exact rt_font | exact rt_glyph | exact rt_box) ?_)
    | (refine own_load1_old rfl _ _ rfl rfl hS (by assumption) (by first | exact List.not_mem_nil | assumption) (by first | exact ot_int | exact ot_string | exact ot_bool) ?_)
    | (refine own_load1_has rfl _ _ rfl rfl hS (by assumption) (by first | exact List.not_mem_nil | assumption) (by first | exact ot_int | exact ot_string | exact ot_bool) (by first | rfl | assumption) ?_)
    | (refine own_box rfl _ _ rfl rfl hS ?_; clear hS; (try clear ww); intro bb ww hS)
    | (refine own_alloc rfl _ rfl hS (by first | exact zt_glyph | exact zt_box) ?_; clear hS; (try clear ww); intro bb ww hS)
    | (refine own_store rfl _ _ _ rfl rfl rfl hS (by first | exact at0 | exact at1 | exact at2 | exact at3 | exact at4 | exact at5 | exact at6 | exact at7 | exact at8) (by first | exact rt_font | exact rt_glyph | exact rt_box) (by rfl) (by rfl) ?_; clear hS; (try clear ww); intro ww hS; simp only [List.set_cons_zero, List.set_cons_succ] at hS)
    | (refine own_store1 rfl _ _ _ rfl rfl rfl rfl hS (by first | exact at0 | exact at1 | exact at2 | exact at3 | exact at4 | exact at5 | exact at6 | exact at7 | exact at8) (by first | exact ot_int | exact ot_string | exact ot_bool) (by simp) ?_; clear hS; (try clear ww); intro ww hS; simp only [List.set_cons_zero, List.set_cons_succ, Act.eval, Array.getD_eq_getD_getElem?, List.getElem?_toArray, List.getElem?_cons_succ, List.getElem?_cons_zero, Option.getD_some] at hS))
  have hc := (hS.get at0).cell
  refine bodyPost_ret (v := .tuple #[.agg #[.int .i64 0, .string ⟨#[]⟩, .int .i64 0, .int .i64 0, .int .i64 0, .int .i64 0, .int .i64 0, .int .i64 0, .slice none 0 0, .int .i64 0, .slice none 0 0], .int .i64 1]) (by simp [results, Try.results24, go_sem, hc]) rfl (own_gives hS)

set_option maxHeartbeats 8000000 in
set_option maxRecDepth 100000 in
theorem font_Box_e1 (F : Fnt) (s : ByteArray) (p : Int) (G S : Gly) (w : World) (hF : FntOk w F) (hv : ValidF F)
    (hp : ∀ w', FntOk w' F → Calls Try.prog 19 #[F.val, .string s] w' (Gives (.agg #[.string G.name, .int .i64 G.w, .int .i64 G.h, .int .i64 G.d, .int .i64 G.it, .int .i64 G.at_]) w'))
    (hs : ∀ w', Calls Try.prog 11 #[.agg #[.string G.name, .int .i64 G.w, .int .i64 G.h, .int .i64 G.d, .int .i64 G.it, .int .i64 G.at_], .int .i64 p] w' (Gives (.tuple #[.agg #[.string S.name, .int .i64 S.w, .int .i64 S.h, .int .i64 S.d, .int .i64 S.it, .int .i64 S.at_], .int .i64 1]) w')) : Calls Try.prog 24 #[F.val, .string s, .int .i64 p] w (Gives (.tuple #[.agg #[.int .i64 0, .string ⟨#[]⟩, .int .i64 0, .int .i64 0, .int .i64 0, .int .i64 0, .int .i64 0, .int .i64 0, .slice none 0 0, .int .i64 0, .slice none 0 0], .int .i64 1]) w) := by
  have HF := Lib.hid hF
  have HP := Lib.hid hp
  have HSc := Lib.hid hs
  clear hF hp hs
  have HV := Lib.hid hv
  clear hv
  go_enter Try.func24, Try.ntmps24
  have hS := own_start w
  go_wp2_with (first
    | (refine own_unguard (by rfl) ?_)
    | (go_at_call 22; refine own_calls hS (font_Valid_calls F _ (HF.out.below hS.below) _ (iff_t HV.out)) ?_; clear hS; (try clear ww); intro ww hS)
    | (go_at_call 19; refine own_calls hS (HP.out _ (HF.out.below hS.below)) ?_; clear hS; (try clear ww); intro ww hS)
    | (go_at_call 11; refine own_calls hS (HSc.out _) ?_; clear hS; (try clear ww); intro ww hS)
    | (refine own_load1 rfl _ _ rfl rfl hS (by first | exact at0 | exact at1 | exact at2 | exact at3 | exact at4 | exact at5 | exact at6 | exact at7 | exact at8) (by first | exact ot_int | exact ot_string | exact ot_bool) (by first | rfl | assumption) ?_)
    | (refine own_load rfl _ _ rfl rfl hS (by first | exact at0 | exact at1 | exact at2 | exact at3 | exact at4 | exact at5 | exact at6 | exact at7 | exact at8) (by first | exact rt_font | exact rt_glyph | exact rt_box) ?_)
    | (refine own_load_old rfl _ _ rfl rfl hS (by assumption) (by first | exact List.not_mem_nil | assumption) (by first | exact rt_font | exact rt_glyph | exact rt_box) ?_)
    | (refine own_load_has rfl _ _ rfl rfl hS (by assumption) (by first | exact List.not_mem_nil | assumption) (by first | exact rt_font | exact rt_glyph | exact rt_box) ?_)
    | (refine own_load1_old rfl _ _ rfl rfl hS (by assumption) (by first | exact List.not_mem_nil | assumption) (by first | exact ot_int | exact ot_string | exact ot_bool) ?_)
    | (refine own_load1_has rfl _ _ rfl rfl hS (by assumption) (by first | exact List.not_mem_nil | assumption) (by first | exact ot_int | exact ot_string | exact ot_bool) (by first | rfl | assumption) ?_)
    | (refine own_box rfl _ _ rfl rfl hS ?_; clear hS; (try clear ww); intro bb ww hS)
    | (refine own_alloc rfl _ rfl hS (by first | exact zt_glyph | exact zt_box) ?_; clear hS; (try clear ww); intro bb ww hS)
    | (refine own_store rfl _ _ _ rfl rfl rfl hS (by first | exact at0 | exact at1 | exact at2 | exact at3 | exact at4 | exact at5 | exact at6 | exact at7 | exact at8) (by first | exact rt_font | exact rt_glyph | exact rt_box) (by rfl) (by rfl) ?_; clear hS; (try clear ww); intro ww hS; simp only [List.set_cons_zero, List.set_cons_succ] at hS)
    | (refine own_store1 rfl _ _ _ rfl rfl rfl rfl hS (by first | exact at0 | exact at1 | exact at2 | exact at3 | exact at4 | exact at5 | exact at6 | exact at7 | exact at8) (by first | exact ot_int | exact ot_string | exact ot_bool) (by simp) ?_; clear hS; (try clear ww); intro ww hS; simp only [List.set_cons_zero, List.set_cons_succ, Act.eval, Array.getD_eq_getD_getElem?, List.getElem?_toArray, List.getElem?_cons_succ, List.getElem?_cons_zero, Option.getD_some] at hS))
  have hc := (hS.get at1).cell
  refine bodyPost_ret (v := .tuple #[.agg #[.int .i64 0, .string ⟨#[]⟩, .int .i64 0, .int .i64 0, .int .i64 0, .int .i64 0, .int .i64 0, .int .i64 0, .slice none 0 0, .int .i64 0, .slice none 0 0], .int .i64 1]) (by simp [results, Try.results24, go_sem, hc]) rfl (own_gives hS)

set_option maxHeartbeats 8000000 in
set_option maxRecDepth 100000 in
theorem font_Box_e2 (F : Fnt) (s : ByteArray) (p : Int) (G S : Gly) (w : World) (hF : FntOk w F) (hv : ValidF F)
    (hp : ∀ w', FntOk w' F → Calls Try.prog 19 #[F.val, .string s] w' (Gives (.agg #[.string G.name, .int .i64 G.w, .int .i64 G.h, .int .i64 G.d, .int .i64 G.it, .int .i64 G.at_]) w'))
    (hs : ∀ w', Calls Try.prog 11 #[.agg #[.string G.name, .int .i64 G.w, .int .i64 G.h, .int .i64 G.d, .int .i64 G.it, .int .i64 G.at_], .int .i64 p] w' (Gives (.tuple #[.agg #[.string S.name, .int .i64 S.w, .int .i64 S.h, .int .i64 S.d, .int .i64 S.it, .int .i64 S.at_], .int .i64 2]) w')) : Calls Try.prog 24 #[F.val, .string s, .int .i64 p] w (Gives (.tuple #[.agg #[.int .i64 0, .string ⟨#[]⟩, .int .i64 0, .int .i64 0, .int .i64 0, .int .i64 0, .int .i64 0, .int .i64 0, .slice none 0 0, .int .i64 0, .slice none 0 0], .int .i64 2]) w) := by
  have HF := Lib.hid hF
  have HP := Lib.hid hp
  have HSc := Lib.hid hs
  clear hF hp hs
  have HV := Lib.hid hv
  clear hv
  go_enter Try.func24, Try.ntmps24
  have hS := own_start w
  go_wp2_with (first
    | (refine own_unguard (by rfl) ?_)
    | (go_at_call 22; refine own_calls hS (font_Valid_calls F _ (HF.out.below hS.below) _ (iff_t HV.out)) ?_; clear hS; (try clear ww); intro ww hS)
    | (go_at_call 19; refine own_calls hS (HP.out _ (HF.out.below hS.below)) ?_; clear hS; (try clear ww); intro ww hS)
    | (go_at_call 11; refine own_calls hS (HSc.out _) ?_; clear hS; (try clear ww); intro ww hS)
    | (refine own_load1 rfl _ _ rfl rfl hS (by first | exact at0 | exact at1 | exact at2 | exact at3 | exact at4 | exact at5 | exact at6 | exact at7 | exact at8) (by first | exact ot_int | exact ot_string | exact ot_bool) (by first | rfl | assumption) ?_)
    | (refine own_load rfl _ _ rfl rfl hS (by first | exact at0 | exact at1 | exact at2 | exact at3 | exact at4 | exact at5 | exact at6 | exact at7 | exact at8) (by first | exact rt_font | exact rt_glyph | exact rt_box) ?_)
    | (refine own_load_old rfl _ _ rfl rfl hS (by assumption) (by first | exact List.not_mem_nil | assumption) (by first | exact rt_font | exact rt_glyph | exact rt_box) ?_)
    | (refine own_load_has rfl _ _ rfl rfl hS (by assumption) (by first | exact List.not_mem_nil | assumption) (by first | exact rt_font | exact rt_glyph | exact rt_box) ?_)
    | (refine own_load1_old rfl _ _ rfl rfl hS (by assumption) (by first | exact List.not_mem_nil | assumption) (by first | exact ot_int | exact ot_string | exact ot_bool) ?_)
    | (refine own_load1_has rfl _ _ rfl rfl hS (by assumption) (by first | exact List.not_mem_nil | assumption) (by first | exact ot_int | exact ot_string | exact ot_bool) (by first | rfl | assumption) ?_)
    | (refine own_box rfl _ _ rfl rfl hS ?_; clear hS; (try clear ww); intro bb ww hS)
    | (refine own_alloc rfl _ rfl hS (by first | exact zt_glyph | exact zt_box) ?_; clear hS; (try clear ww); intro bb ww hS)
    | (refine own_store rfl _ _ _ rfl rfl rfl hS (by first | exact at0 | exact at1 | exact at2 | exact at3 | exact at4 | exact at5 | exact at6 | exact at7 | exact at8) (by first | exact rt_font | exact rt_glyph | exact rt_box) (by rfl) (by rfl) ?_; clear hS; (try clear ww); intro ww hS; simp only [List.set_cons_zero, List.set_cons_succ] at hS)
    | (refine own_store1 rfl _ _ _ rfl rfl rfl rfl hS (by first | exact at0 | exact at1 | exact at2 | exact at3 | exact at4 | exact at5 | exact at6 | exact at7 | exact at8) (by first | exact ot_int | exact ot_string | exact ot_bool) (by simp) ?_; clear hS; (try clear ww); intro ww hS; simp only [List.set_cons_zero, List.set_cons_succ, Act.eval, Array.getD_eq_getD_getElem?, List.getElem?_toArray, List.getElem?_cons_succ, List.getElem?_cons_zero, Option.getD_some] at hS))
  have hc := (hS.get at1).cell
  refine bodyPost_ret (v := .tuple #[.agg #[.int .i64 0, .string ⟨#[]⟩, .int .i64 0, .int .i64 0, .int .i64 0, .int .i64 0, .int .i64 0, .int .i64 0, .slice none 0 0, .int .i64 0, .slice none 0 0], .int .i64 2]) (by simp [results, Try.results24, go_sem, hc]) rfl (own_gives hS)

set_option maxHeartbeats 8000000 in
set_option maxRecDepth 100000 in
theorem font_Box_ok (F : Fnt) (s : ByteArray) (p : Int) (G S : Gly) (w : World) (hF : FntOk w F) (hv : ValidF F)
    (hp : ∀ w', FntOk w' F → Calls Try.prog 19 #[F.val, .string s] w' (Gives (.agg #[.string G.name, .int .i64 G.w, .int .i64 G.h, .int .i64 G.d, .int .i64 G.it, .int .i64 G.at_]) w'))
    (hs : ∀ w', Calls Try.prog 11 #[.agg #[.string G.name, .int .i64 G.w, .int .i64 G.h, .int .i64 G.d, .int .i64 G.it, .int .i64 G.at_], .int .i64 p] w' (Gives (.tuple #[.agg #[.string S.name, .int .i64 S.w, .int .i64 S.h, .int .i64 S.d, .int .i64 S.it, .int .i64 S.at_], .int .i64 0]) w')) : Calls Try.prog 24 #[F.val, .string s, .int .i64 p] w (Gives (.tuple #[.agg #[.int .i64 1, .string S.name, .int .i64 p, .int .i64 (boxW S), .int .i64 S.h, .int .i64 S.d, .int .i64 0, .int .i64 0, .slice none 0 0, .int .i64 0, .slice none 0 0], .int .i64 0]) w) := by
  have HF := Lib.hid hF
  have HP := Lib.hid hp
  have HSc := Lib.hid hs
  clear hF hp hs
  have HV := Lib.hid hv
  clear hv
  go_enter Try.func24, Try.ntmps24
  have hS := own_start w
  go_wp2_with (first
    | (refine own_unguard (by rfl) ?_)
    | (go_at_call 22; refine own_calls hS (font_Valid_calls F _ (HF.out.below hS.below) _ (iff_t HV.out)) ?_; clear hS; (try clear ww); intro ww hS)
    | (go_at_call 19; refine own_calls hS (HP.out _ (HF.out.below hS.below)) ?_; clear hS; (try clear ww); intro ww hS)
    | (go_at_call 11; refine own_calls hS (HSc.out _) ?_; clear hS; (try clear ww); intro ww hS)
    | (refine own_load1 rfl _ _ rfl rfl hS (by first | exact at0 | exact at1 | exact at2 | exact at3 | exact at4 | exact at5 | exact at6 | exact at7 | exact at8) (by first | exact ot_int | exact ot_string | exact ot_bool) (by first | rfl | assumption) ?_)
    | (refine own_load rfl _ _ rfl rfl hS (by first | exact at0 | exact at1 | exact at2 | exact at3 | exact at4 | exact at5 | exact at6 | exact at7 | exact at8) (by first | exact rt_font | exact rt_glyph | exact rt_box) ?_)
    | (refine own_load_old rfl _ _ rfl rfl hS (by assumption) (by first | exact List.not_mem_nil | assumption) (by first | exact rt_font | exact rt_glyph | exact rt_box) ?_)
    | (refine own_load_has rfl _ _ rfl rfl hS (by assumption) (by first | exact List.not_mem_nil | assumption) (by first | exact rt_font | exact rt_glyph | exact rt_box) ?_)
    | (refine own_load1_old rfl _ _ rfl rfl hS (by assumption) (by first | exact List.not_mem_nil | assumption) (by first | exact ot_int | exact ot_string | exact ot_bool) ?_)
    | (refine own_load1_has rfl _ _ rfl rfl hS (by assumption) (by first | exact List.not_mem_nil | assumption) (by first | exact ot_int | exact ot_string | exact ot_bool) (by first | rfl | assumption) ?_)
    | (refine own_box rfl _ _ rfl rfl hS ?_; clear hS; (try clear ww); intro bb ww hS)
    | (refine own_alloc rfl _ rfl hS (by first | exact zt_glyph | exact zt_box) ?_; clear hS; (try clear ww); intro bb ww hS)
    | (refine own_store rfl _ _ _ rfl rfl rfl hS (by first | exact at0 | exact at1 | exact at2 | exact at3 | exact at4 | exact at5 | exact at6 | exact at7 | exact at8) (by first | exact rt_font | exact rt_glyph | exact rt_box) (by rfl) (by rfl) ?_; clear hS; (try clear ww); intro ww hS; simp only [List.set_cons_zero, List.set_cons_succ] at hS)
    | (refine own_store1 rfl _ _ _ rfl rfl rfl rfl hS (by first | exact at0 | exact at1 | exact at2 | exact at3 | exact at4 | exact at5 | exact at6 | exact at7 | exact at8) (by first | exact ot_int | exact ot_string | exact ot_bool) (by simp) ?_; clear hS; (try clear ww); intro ww hS; simp only [List.set_cons_zero, List.set_cons_succ, Act.eval, Array.getD_eq_getD_getElem?, List.getElem?_toArray, List.getElem?_cons_succ, List.getElem?_cons_zero, Option.getD_some] at hS))
  have hc := (hS.get at1).cell
  refine bodyPost_ret (v := .tuple #[.agg #[.int .i64 1, .string S.name, .int .i64 p, .int .i64 (boxW S), .int .i64 S.h, .int .i64 S.d, .int .i64 0, .int .i64 0, .slice none 0 0, .int .i64 0, .slice none 0 0], .int .i64 0]) (by simp [results, Try.results24, go_sem, hc, boxW]) rfl (own_gives hS)

set_option maxHeartbeats 8000000 in
set_option maxRecDepth 100000 in
theorem ref05_Sized_e1 (F : Fnt) (s : ByteArray) (p : Int) (G S : Gly) (w : World) (hF : FntOk w F)
    (hp : ∀ w', FntOk w' F → Calls Try.prog 20 #[F.val, .string s] w' (Gives (.agg #[.string G.name, .int .i64 G.w, .int .i64 G.h, .int .i64 G.d, .int .i64 G.it, .int .i64 G.at_]) w'))
    (hs : ∀ w', Calls Try.prog 12 #[.agg #[.string G.name, .int .i64 G.w, .int .i64 G.h, .int .i64 G.d, .int .i64 G.it, .int .i64 G.at_], .int .i64 p] w' (Gives (.tuple #[.agg #[.string S.name, .int .i64 S.w, .int .i64 S.h, .int .i64 S.d, .int .i64 S.it, .int .i64 S.at_], .int .i64 1]) w')) : Calls Try.prog 40 #[F.val, .string s, .int .i64 p] w (Gives (.tuple #[.agg #[.int .i64 0, .string ⟨#[]⟩, .int .i64 0, .int .i64 0, .int .i64 0, .int .i64 0, .int .i64 0, .int .i64 0, .slice none 0 0, .int .i64 0, .slice none 0 0], .int .i64 1]) w) := by
  have HF := Lib.hid hF
  have HP := Lib.hid hp
  have HSc := Lib.hid hs
  clear hF hp hs
  go_enter Try.func40, Try.ntmps40
  have hS := own_start w
  go_wp2_with (first
    | (refine own_unguard (by rfl) ?_)
    | (go_at_call 20; refine own_calls hS (HP.out _ (HF.out.below hS.below)) ?_; clear hS; (try clear ww); intro ww hS)
    | (go_at_call 12; refine own_calls hS (HSc.out _) ?_; clear hS; (try clear ww); intro ww hS)
    | (refine own_load1 rfl _ _ rfl rfl hS (by first | exact at0 | exact at1 | exact at2 | exact at3 | exact at4 | exact at5 | exact at6 | exact at7 | exact at8) (by first | exact ot_int | exact ot_string | exact ot_bool) (by first | rfl | assumption) ?_)
    | (refine own_load rfl _ _ rfl rfl hS (by first | exact at0 | exact at1 | exact at2 | exact at3 | exact at4 | exact at5 | exact at6 | exact at7 | exact at8) (by first | exact rt_font | exact rt_glyph | exact rt_box) ?_)
    | (refine own_load_old rfl _ _ rfl rfl hS (by assumption) (by first | exact List.not_mem_nil | assumption) (by first | exact rt_font | exact rt_glyph | exact rt_box) ?_)
    | (refine own_load_has rfl _ _ rfl rfl hS (by assumption) (by first | exact List.not_mem_nil | assumption) (by first | exact rt_font | exact rt_glyph | exact rt_box) ?_)
    | (refine own_load1_old rfl _ _ rfl rfl hS (by assumption) (by first | exact List.not_mem_nil | assumption) (by first | exact ot_int | exact ot_string | exact ot_bool) ?_)
    | (refine own_load1_has rfl _ _ rfl rfl hS (by assumption) (by first | exact List.not_mem_nil | assumption) (by first | exact ot_int | exact ot_string | exact ot_bool) (by first | rfl | assumption) ?_)
    | (refine own_box rfl _ _ rfl rfl hS ?_; clear hS; (try clear ww); intro bb ww hS)
    | (refine own_alloc rfl _ rfl hS (by first | exact zt_glyph | exact zt_box) ?_; clear hS; (try clear ww); intro bb ww hS)
    | (refine own_store rfl _ _ _ rfl rfl rfl hS (by first | exact at0 | exact at1 | exact at2 | exact at3 | exact at4 | exact at5 | exact at6 | exact at7 | exact at8) (by first | exact rt_font | exact rt_glyph | exact rt_box) (by rfl) (by rfl) ?_; clear hS; (try clear ww); intro ww hS; simp only [List.set_cons_zero, List.set_cons_succ] at hS)
    | (refine own_store1 rfl _ _ _ rfl rfl rfl rfl hS (by first | exact at0 | exact at1 | exact at2 | exact at3 | exact at4 | exact at5 | exact at6 | exact at7 | exact at8) (by first | exact ot_int | exact ot_string | exact ot_bool) (by simp) ?_; clear hS; (try clear ww); intro ww hS; simp only [List.set_cons_zero, List.set_cons_succ, Act.eval, Array.getD_eq_getD_getElem?, List.getElem?_toArray, List.getElem?_cons_succ, List.getElem?_cons_zero, Option.getD_some] at hS))
  have hc := (hS.get at1).cell
  refine bodyPost_ret (v := .tuple #[.agg #[.int .i64 0, .string ⟨#[]⟩, .int .i64 0, .int .i64 0, .int .i64 0, .int .i64 0, .int .i64 0, .int .i64 0, .slice none 0 0, .int .i64 0, .slice none 0 0], .int .i64 1]) (by simp [results, Try.results40, go_sem, hc]) rfl (own_gives hS)

set_option maxHeartbeats 8000000 in
set_option maxRecDepth 100000 in
theorem ref05_Sized_e2 (F : Fnt) (s : ByteArray) (p : Int) (G S : Gly) (w : World) (hF : FntOk w F)
    (hp : ∀ w', FntOk w' F → Calls Try.prog 20 #[F.val, .string s] w' (Gives (.agg #[.string G.name, .int .i64 G.w, .int .i64 G.h, .int .i64 G.d, .int .i64 G.it, .int .i64 G.at_]) w'))
    (hs : ∀ w', Calls Try.prog 12 #[.agg #[.string G.name, .int .i64 G.w, .int .i64 G.h, .int .i64 G.d, .int .i64 G.it, .int .i64 G.at_], .int .i64 p] w' (Gives (.tuple #[.agg #[.string S.name, .int .i64 S.w, .int .i64 S.h, .int .i64 S.d, .int .i64 S.it, .int .i64 S.at_], .int .i64 2]) w')) : Calls Try.prog 40 #[F.val, .string s, .int .i64 p] w (Gives (.tuple #[.agg #[.int .i64 0, .string ⟨#[]⟩, .int .i64 0, .int .i64 0, .int .i64 0, .int .i64 0, .int .i64 0, .int .i64 0, .slice none 0 0, .int .i64 0, .slice none 0 0], .int .i64 2]) w) := by
  have HF := Lib.hid hF
  have HP := Lib.hid hp
  have HSc := Lib.hid hs
  clear hF hp hs
  go_enter Try.func40, Try.ntmps40
  have hS := own_start w
  go_wp2_with (first
    | (refine own_unguard (by rfl) ?_)
    | (go_at_call 20; refine own_calls hS (HP.out _ (HF.out.below hS.below)) ?_; clear hS; (try clear ww); intro ww hS)
    | (go_at_call 12; refine own_calls hS (HSc.out _) ?_; clear hS; (try clear ww); intro ww hS)
    | (refine own_load1 rfl _ _ rfl rfl hS (by first | exact at0 | exact at1 | exact at2 | exact at3 | exact at4 | exact at5 | exact at6 | exact at7 | exact at8) (by first | exact ot_int | exact ot_string | exact ot_bool) (by first | rfl | assumption) ?_)
    | (refine own_load rfl _ _ rfl rfl hS (by first | exact at0 | exact at1 | exact at2 | exact at3 | exact at4 | exact at5 | exact at6 | exact at7 | exact at8) (by first | exact rt_font | exact rt_glyph | exact rt_box) ?_)
    | (refine own_load_old rfl _ _ rfl rfl hS (by assumption) (by first | exact List.not_mem_nil | assumption) (by first | exact rt_font | exact rt_glyph | exact rt_box) ?_)
    | (refine own_load_has rfl _ _ rfl rfl hS (by assumption) (by first | exact List.not_mem_nil | assumption) (by first | exact rt_font | exact rt_glyph | exact rt_box) ?_)
    | (refine own_load1_old rfl _ _ rfl rfl hS (by assumption) (by first | exact List.not_mem_nil | assumption) (by first | exact ot_int | exact ot_string | exact ot_bool) ?_)
    | (refine own_load1_has rfl _ _ rfl rfl hS (by assumption) (by first | exact List.not_mem_nil | assumption) (by first | exact ot_int | exact ot_string | exact ot_bool) (by first | rfl | assumption) ?_)
    | (refine own_box rfl _ _ rfl rfl hS ?_; clear hS; (try clear ww); intro bb ww hS)
    | (refine own_alloc rfl _ rfl hS (by first | exact zt_glyph | exact zt_box) ?_; clear hS; (try clear ww); intro bb ww hS)
    | (refine own_store rfl _ _ _ rfl rfl rfl hS (by first | exact at0 | exact at1 | exact at2 | exact at3 | exact at4 | exact at5 | exact at6 | exact at7 | exact at8) (by first | exact rt_font | exact rt_glyph | exact rt_box) (by rfl) (by rfl) ?_; clear hS; (try clear ww); intro ww hS; simp only [List.set_cons_zero, List.set_cons_succ] at hS)
    | (refine own_store1 rfl _ _ _ rfl rfl rfl rfl hS (by first | exact at0 | exact at1 | exact at2 | exact at3 | exact at4 | exact at5 | exact at6 | exact at7 | exact at8) (by first | exact ot_int | exact ot_string | exact ot_bool) (by simp) ?_; clear hS; (try clear ww); intro ww hS; simp only [List.set_cons_zero, List.set_cons_succ, Act.eval, Array.getD_eq_getD_getElem?, List.getElem?_toArray, List.getElem?_cons_succ, List.getElem?_cons_zero, Option.getD_some] at hS))
  have hc := (hS.get at1).cell
  refine bodyPost_ret (v := .tuple #[.agg #[.int .i64 0, .string ⟨#[]⟩, .int .i64 0, .int .i64 0, .int .i64 0, .int .i64 0, .int .i64 0, .int .i64 0, .slice none 0 0, .int .i64 0, .slice none 0 0], .int .i64 2]) (by simp [results, Try.results40, go_sem, hc]) rfl (own_gives hS)

set_option maxHeartbeats 8000000 in
set_option maxRecDepth 100000 in
theorem ref05_Sized_ok (F : Fnt) (s : ByteArray) (p : Int) (G S : Gly) (w : World) (hF : FntOk w F)
    (hp : ∀ w', FntOk w' F → Calls Try.prog 20 #[F.val, .string s] w' (Gives (.agg #[.string G.name, .int .i64 G.w, .int .i64 G.h, .int .i64 G.d, .int .i64 G.it, .int .i64 G.at_]) w'))
    (hs : ∀ w', Calls Try.prog 12 #[.agg #[.string G.name, .int .i64 G.w, .int .i64 G.h, .int .i64 G.d, .int .i64 G.it, .int .i64 G.at_], .int .i64 p] w' (Gives (.tuple #[.agg #[.string S.name, .int .i64 S.w, .int .i64 S.h, .int .i64 S.d, .int .i64 S.it, .int .i64 S.at_], .int .i64 0]) w')) : Calls Try.prog 40 #[F.val, .string s, .int .i64 p] w (Gives (.tuple #[.agg #[.int .i64 1, .string S.name, .int .i64 p, .int .i64 (boxW S), .int .i64 S.h, .int .i64 S.d, .int .i64 0, .int .i64 0, .slice none 0 0, .int .i64 0, .slice none 0 0], .int .i64 0]) w) := by
  have HF := Lib.hid hF
  have HP := Lib.hid hp
  have HSc := Lib.hid hs
  clear hF hp hs
  go_enter Try.func40, Try.ntmps40
  have hS := own_start w
  go_wp2_with (first
    | (refine own_unguard (by rfl) ?_)
    | (go_at_call 20; refine own_calls hS (HP.out _ (HF.out.below hS.below)) ?_; clear hS; (try clear ww); intro ww hS)
    | (go_at_call 12; refine own_calls hS (HSc.out _) ?_; clear hS; (try clear ww); intro ww hS)
    | (refine own_load1 rfl _ _ rfl rfl hS (by first | exact at0 | exact at1 | exact at2 | exact at3 | exact at4 | exact at5 | exact at6 | exact at7 | exact at8) (by first | exact ot_int | exact ot_string | exact ot_bool) (by first | rfl | assumption) ?_)
    | (refine own_load rfl _ _ rfl rfl hS (by first | exact at0 | exact at1 | exact at2 | exact at3 | exact at4 | exact at5 | exact at6 | exact at7 | exact at8) (by first | exact rt_font | exact rt_glyph | exact rt_box) ?_)
    | (refine own_load_old rfl _ _ rfl rfl hS (by assumption) (by first | exact List.not_mem_nil | assumption) (by first | exact rt_font | exact rt_glyph | exact rt_box) ?_)
    | (refine own_load_has rfl _ _ rfl rfl hS (by assumption) (by first | exact List.not_mem_nil | assumption) (by first | exact rt_font | exact rt_glyph | exact rt_box) ?_)
    | (refine own_load1_old rfl _ _ rfl rfl hS (by assumption) (by first | exact List.not_mem_nil | assumption) (by first | exact ot_int | exact ot_string | exact ot_bool) ?_)
    | (refine own_load1_has rfl _ _ rfl rfl hS (by assumption) (by first | exact List.not_mem_nil | assumption) (by first | exact ot_int | exact ot_string | exact ot_bool) (by first | rfl | assumption) ?_)
    | (refine own_box rfl _ _ rfl rfl hS ?_; clear hS; (try clear ww); intro bb ww hS)
    | (refine own_alloc rfl _ rfl hS (by first | exact zt_glyph | exact zt_box) ?_; clear hS; (try clear ww); intro bb ww hS)
    | (refine own_store rfl _ _ _ rfl rfl rfl hS (by first | exact at0 | exact at1 | exact at2 | exact at3 | exact at4 | exact at5 | exact at6 | exact at7 | exact at8) (by first | exact rt_font | exact rt_glyph | exact rt_box) (by rfl) (by rfl) ?_; clear hS; (try clear ww); intro ww hS; simp only [List.set_cons_zero, List.set_cons_succ] at hS)
    | (refine own_store1 rfl _ _ _ rfl rfl rfl rfl hS (by first | exact at0 | exact at1 | exact at2 | exact at3 | exact at4 | exact at5 | exact at6 | exact at7 | exact at8) (by first | exact ot_int | exact ot_string | exact ot_bool) (by simp) ?_; clear hS; (try clear ww); intro ww hS; simp only [List.set_cons_zero, List.set_cons_succ, Act.eval, Array.getD_eq_getD_getElem?, List.getElem?_toArray, List.getElem?_cons_succ, List.getElem?_cons_zero, Option.getD_some] at hS))
  have hc := (hS.get at1).cell
  refine bodyPost_ret (v := .tuple #[.agg #[.int .i64 1, .string S.name, .int .i64 p, .int .i64 (boxW S), .int .i64 S.h, .int .i64 S.d, .int .i64 0, .int .i64 0, .slice none 0 0, .int .i64 0, .slice none 0 0], .int .i64 0]) (by simp [results, Try.results40, go_sem, hc, boxW]) rfl (own_gives hS)

end Go.Proofs.Ytgknameejoalnaa
