/- FontBox: what Box returns; the law. -/
import Derived.Test.YtgknameejoalnaaBox
import Derived.Test.YtgknameejoalnaaVlr
import Derived.Test.YtgknameejoalnaaL05a
namespace Go.Proofs.Ytgknameejoalnaa
open Go.RowKit

attribute [local irreducible] wpQuiet wpG wpP wpList Code.wp

theorem ot_boxs : OneTy Try.prog 54 := ⟨⟨_, Try.underlying54, rfl⟩, by kernel_rfl⟩
theorem ot_ints : OneTy Try.prog 29 := ⟨⟨_, Try.underlying29, rfl⟩, by kernel_rfl⟩

/-- A glyph's box. -/
structure Gbx where
  k : Int
  n : ByteArray
  p : Int
  w : Int
  h : Int
  d : Int

def Gbx.zero : Gbx := ⟨0, ⟨#[]⟩, 0, 0, 0, 0⟩
/-- The box and the error for a valid font. -/
def sizedB (G : Gly) (p : Int) : Gbx := if scaledErr G p = 0 then ⟨1, (scaledG G p).name, p, boxW (scaledG G p), (scaledG G p).h, (scaledG G p).d⟩ else Gbx.zero
/-- What Box returns. -/
def BoxIs (F : Fnt) (s : ByteArray) (p : Int) (B : Gbx) (e : Int) : Prop := (ValidF F → B = sizedB (pickG F.gs s) p ∧ e = scaledErr (pickG F.gs s) p) ∧ (¬ ValidF F → B = Gbx.zero ∧ e = 1)
theorem box_ex (F : Fnt) (s : ByteArray) (p : Int) : ∃ x : Gbx × Int, BoxIs F s p x.1 x.2 := by
  by_cases h : ValidF F
  · exact ⟨(sizedB (pickG F.gs s) p, scaledErr (pickG F.gs s) p), fun _ => ⟨rfl, rfl⟩, fun h' => absurd h h'⟩
  · exact ⟨(Gbx.zero, 1), fun h' => absurd h' h, fun _ => ⟨rfl, rfl⟩⟩
theorem scaledErr_ways (G : Gly) (p : Int) : scaledErr G p = 0 ∨ scaledErr G p = 1 ∨ scaledErr G p = 2 := by
  unfold scaledErr
  repeat' split
  all_goals simp

theorem box_pick (F : Fnt) (s : ByteArray) (w : World) (h : FntOk w F) (hn : F.gs.length ≤ 500) : Calls Try.prog 19 #[F.val, .string s] w (Gives (.agg #[.string (pickG F.gs s).name, .int .i64 (pickG F.gs s).w, .int .i64 (pickG F.gs s).h, .int .i64 (pickG F.gs s).d, .int .i64 (pickG F.gs s).it, .int .i64 (pickG F.gs s).at_]) w) :=
  font_Pick_calls F.gx F.sx F.gs.length F.gc F.ss.length F.sc F.quad F.xheight F.axis F.rule F.num1 F.num2 F.den1 F.den2 F.sup1 F.sup2 F.sup3 F.sub1 F.sub2 F.supdrop F.subdrop F.script F.sscript F.dpercent F.dshort F.acc F.gs s w (by omega) h.glysAt
theorem box_pickR (F : Fnt) (s : ByteArray) (w : World) (h : FntOk w F) (hn : F.gs.length ≤ 500) : Calls Try.prog 20 #[F.val, .string s] w (Gives (.agg #[.string (pickG F.gs s).name, .int .i64 (pickG F.gs s).w, .int .i64 (pickG F.gs s).h, .int .i64 (pickG F.gs s).d, .int .i64 (pickG F.gs s).it, .int .i64 (pickG F.gs s).at_]) w) :=
  ref05_Pick_calls F.gx F.sx F.gs.length F.gc F.ss.length F.sc F.quad F.xheight F.axis F.rule F.num1 F.num2 F.den1 F.den2 F.sup1 F.sup2 F.sup3 F.sub1 F.sub2 F.supdrop F.subdrop F.script F.sscript F.dpercent F.dshort F.acc F.gs s w (by omega) h.glysAt

theorem font_Box_valid (F : Fnt) (s : ByteArray) (p : Int) (w : World) (hF : FntOk w F) (hn : F.gs.length ≤ 500) (hv : ValidF F) : Calls Try.prog 24 #[F.val, .string s, .int .i64 p] w (Gives (.tuple #[.agg #[.int .i64 (sizedB (pickG F.gs s) p).k, .string (sizedB (pickG F.gs s) p).n, .int .i64 (sizedB (pickG F.gs s) p).p, .int .i64 (sizedB (pickG F.gs s) p).w, .int .i64 (sizedB (pickG F.gs s) p).h, .int .i64 (sizedB (pickG F.gs s) p).d, .int .i64 0, .int .i64 0, .slice none 0 0, .int .i64 0, .slice none 0 0], .int .i64 (scaledErr (pickG F.gs s) p)]) w) := by
  have hp := fun w' (h : FntOk w' F) => box_pick F s w' h hn
  have hs := fun w' => font_Scaled_calls (pickG F.gs s) p w'
  simp only [gePair] at hs
  generalize pickG F.gs s = G at *
  rcases scaledErr_ways G p with he | he | he
  · simp only [sizedB, he, if_true]
    rw [he] at hs
    exact font_Box_ok F s p G (scaledG G p) w hF hv hp hs
  · simp only [sizedB, he]
    rw [he] at hs
    exact font_Box_e1 F s p G (scaledG G p) w hF hv hp hs
  · simp only [sizedB, he]
    rw [he] at hs
    exact font_Box_e2 F s p G (scaledG G p) w hF hv hp hs

theorem ref05_Sized_valid (F : Fnt) (s : ByteArray) (p : Int) (w : World) (hF : FntOk w F) (hn : F.gs.length ≤ 500) : Calls Try.prog 40 #[F.val, .string s, .int .i64 p] w (Gives (.tuple #[.agg #[.int .i64 (sizedB (pickG F.gs s) p).k, .string (sizedB (pickG F.gs s) p).n, .int .i64 (sizedB (pickG F.gs s) p).p, .int .i64 (sizedB (pickG F.gs s) p).w, .int .i64 (sizedB (pickG F.gs s) p).h, .int .i64 (sizedB (pickG F.gs s) p).d, .int .i64 0, .int .i64 0, .slice none 0 0, .int .i64 0, .slice none 0 0], .int .i64 (scaledErr (pickG F.gs s) p)]) w) := by
  have hp := fun w' (h : FntOk w' F) => box_pickR F s w' h hn
  have hs := fun w' => ref05_Scaled_calls (pickG F.gs s) p w'
  simp only [gePair] at hs
  generalize pickG F.gs s = G at *
  rcases scaledErr_ways G p with he | he | he
  · simp only [sizedB, he, if_true]
    rw [he] at hs
    exact ref05_Sized_ok F s p G (scaledG G p) w hF hp hs
  · simp only [sizedB, he]
    rw [he] at hs
    exact ref05_Sized_e1 F s p G (scaledG G p) w hF hp hs
  · simp only [sizedB, he]
    rw [he] at hs
    exact ref05_Sized_e2 F s p G (scaledG G p) w hF hp hs

theorem font_Box_calls (F : Fnt) (s : ByteArray) (p e : Int) (B : Gbx) (w : World) (hF : FntOk w F) (hn : F.gs.length ≤ 500) (hx : BoxIs F s p B e) : Calls Try.prog 24 #[F.val, .string s, .int .i64 p] w (Gives (.tuple #[.agg #[.int .i64 B.k, .string B.n, .int .i64 B.p, .int .i64 B.w, .int .i64 B.h, .int .i64 B.d, .int .i64 0, .int .i64 0, .slice none 0 0, .int .i64 0, .slice none 0 0], .int .i64 e]) w) := by
  by_cases hv : ValidF F
  · obtain ⟨rfl, rfl⟩ := hx.1 hv
    exact font_Box_valid F s p w hF hn hv
  · obtain ⟨rfl, rfl⟩ := hx.2 hv
    exact font_Box_bad F s p w hF hv

set_option maxHeartbeats 8000000 in
set_option maxRecDepth 100000 in
theorem ref05_Box_bad (F : Fnt) (s : ByteArray) (p : Int) (w : World) (hF : FntOk w F) (hq : F.gs.length ≤ 500 ∧ F.ss.length ≤ 50) (hv : ¬ ValidF F) : Calls Try.prog 25 #[F.val, .string s, .int .i64 p] w (Gives (.tuple #[.agg #[.int .i64 0, .string ⟨#[]⟩, .int .i64 0, .int .i64 0, .int .i64 0, .int .i64 0, .int .i64 0, .int .i64 0, .slice none 0 0, .int .i64 0, .slice none 0 0], .int .i64 1]) w) := by
  have HF := Lib.hid hF
  have HQ := Lib.hid hq
  have HV := Lib.hid hv
  clear hF hq hv
  go_enter Try.func25, Try.ntmps25
  have hS := own_start w
  go_wp2_with (first
    | (refine own_unguard (by rfl) ?_)
    | (go_at_call 23; refine own_calls hS (ref05_Valid_calls F _ (HF.out.below hS.below) HQ.out _ (iff_f HV.out)) ?_; clear hS; (try clear ww); intro ww hS)
    | (refine own_load1 rfl _ _ rfl rfl hS (by first | exact at0 | exact at1 | exact at2 | exact at3 | exact at4 | exact at5 | exact at6 | exact at7 | exact at8) (by first | exact ot_int | exact ot_string | exact ot_bool | exact ot_boxs | exact ot_ints) (by first | rfl | assumption) ?_)
    | (refine own_load rfl _ _ rfl rfl hS (by first | exact at0 | exact at1 | exact at2 | exact at3 | exact at4 | exact at5 | exact at6 | exact at7 | exact at8) (by first | exact rt_font | exact rt_glyph | exact rt_box) ?_)
    | (refine own_load_old rfl _ _ rfl rfl hS (by assumption) (by first | exact List.not_mem_nil | assumption) (by first | exact rt_font | exact rt_glyph | exact rt_box) ?_)
    | (refine own_load_has rfl _ _ rfl rfl hS (by assumption) (by first | exact List.not_mem_nil | assumption) (by first | exact rt_font | exact rt_glyph | exact rt_box) ?_)
    | (refine own_load1_old rfl _ _ rfl rfl hS (by assumption) (by first | exact List.not_mem_nil | assumption) (by first | exact ot_int | exact ot_string | exact ot_bool | exact ot_boxs | exact ot_ints) ?_)
    | (refine own_load1_has rfl _ _ rfl rfl hS (by assumption) (by first | exact List.not_mem_nil | assumption) (by first | exact ot_int | exact ot_string | exact ot_bool | exact ot_boxs | exact ot_ints) (by first | rfl | assumption) ?_)
    | (refine own_box rfl _ _ rfl rfl hS ?_; clear hS; (try clear ww); intro bb ww hS)
    | (refine own_alloc rfl _ rfl hS (by first | exact zt_glyph | exact zt_box) ?_; clear hS; (try clear ww); intro bb ww hS)
    | (refine own_store rfl _ _ _ rfl rfl rfl hS (by first | exact at0 | exact at1 | exact at2 | exact at3 | exact at4 | exact at5 | exact at6 | exact at7 | exact at8) (by first | exact rt_font | exact rt_glyph | exact rt_box) (by rfl) (by rfl) ?_; clear hS; (try clear ww); intro ww hS; simp only [List.set_cons_zero, List.set_cons_succ] at hS)
    | (refine own_store1 rfl _ _ _ rfl rfl rfl rfl hS (by first | exact at0 | exact at1 | exact at2 | exact at3 | exact at4 | exact at5 | exact at6 | exact at7 | exact at8) (by first | exact ot_int | exact ot_string | exact ot_bool | exact ot_boxs | exact ot_ints) (by simp) ?_; clear hS; (try clear ww); intro ww hS; simp only [List.set_cons_zero, List.set_cons_succ, Act.eval, Array.getD_eq_getD_getElem?, List.getElem?_toArray, List.getElem?_cons_succ, List.getElem?_cons_zero, Option.getD_some] at hS))
  have hc := (hS.get at0).cell
  refine bodyPost_ret (v := .tuple #[.agg #[.int .i64 0, .string ⟨#[]⟩, .int .i64 0, .int .i64 0, .int .i64 0, .int .i64 0, .int .i64 0, .int .i64 0, .slice none 0 0, .int .i64 0, .slice none 0 0], .int .i64 1]) (by simp [results, Try.results25, go_sem, hc]) rfl (own_gives hS)

set_option maxHeartbeats 8000000 in
set_option maxRecDepth 100000 in
theorem ref05_Box_ok (F : Fnt) (s : ByteArray) (p e : Int) (B : Gbx) (w : World) (hF : FntOk w F) (hq : F.gs.length ≤ 500 ∧ F.ss.length ≤ 50) (hv : ValidF F)
    (hz : ∀ w', FntOk w' F → Calls Try.prog 40 #[F.val, .string s, .int .i64 p] w' (Gives (.tuple #[.agg #[.int .i64 B.k, .string B.n, .int .i64 B.p, .int .i64 B.w, .int .i64 B.h, .int .i64 B.d, .int .i64 0, .int .i64 0, .slice none 0 0, .int .i64 0, .slice none 0 0], .int .i64 e]) w')) : Calls Try.prog 25 #[F.val, .string s, .int .i64 p] w (Gives (.tuple #[.agg #[.int .i64 B.k, .string B.n, .int .i64 B.p, .int .i64 B.w, .int .i64 B.h, .int .i64 B.d, .int .i64 0, .int .i64 0, .slice none 0 0, .int .i64 0, .slice none 0 0], .int .i64 e]) w) := by
  have HF := Lib.hid hF
  have HQ := Lib.hid hq
  have HV := Lib.hid hv
  have HZ := Lib.hid hz
  clear hF hq hv hz
  go_enter Try.func25, Try.ntmps25
  have hS := own_start w
  go_wp2_with (first
    | (refine own_unguard (by rfl) ?_)
    | (go_at_call 23; refine own_calls hS (ref05_Valid_calls F _ (HF.out.below hS.below) HQ.out _ (iff_t HV.out)) ?_; clear hS; (try clear ww); intro ww hS)
    | (go_at_call 40; refine own_calls hS (HZ.out _ (HF.out.below hS.below)) ?_; clear hS; (try clear ww); intro ww hS)
    | (refine own_load1 rfl _ _ rfl rfl hS (by first | exact at0 | exact at1 | exact at2 | exact at3 | exact at4 | exact at5 | exact at6 | exact at7 | exact at8) (by first | exact ot_int | exact ot_string | exact ot_bool | exact ot_boxs | exact ot_ints) (by first | rfl | assumption) ?_)
    | (refine own_load rfl _ _ rfl rfl hS (by first | exact at0 | exact at1 | exact at2 | exact at3 | exact at4 | exact at5 | exact at6 | exact at7 | exact at8) (by first | exact rt_font | exact rt_glyph | exact rt_box) ?_)
    | (refine own_load_old rfl _ _ rfl rfl hS (by assumption) (by first | exact List.not_mem_nil | assumption) (by first | exact rt_font | exact rt_glyph | exact rt_box) ?_)
    | (refine own_load_has rfl _ _ rfl rfl hS (by assumption) (by first | exact List.not_mem_nil | assumption) (by first | exact rt_font | exact rt_glyph | exact rt_box) ?_)
    | (refine own_load1_old rfl _ _ rfl rfl hS (by assumption) (by first | exact List.not_mem_nil | assumption) (by first | exact ot_int | exact ot_string | exact ot_bool | exact ot_boxs | exact ot_ints) ?_)
    | (refine own_load1_has rfl _ _ rfl rfl hS (by assumption) (by first | exact List.not_mem_nil | assumption) (by first | exact ot_int | exact ot_string | exact ot_bool | exact ot_boxs | exact ot_ints) (by first | rfl | assumption) ?_)
    | (refine own_box rfl _ _ rfl rfl hS ?_; clear hS; (try clear ww); intro bb ww hS)
    | (refine own_alloc rfl _ rfl hS (by first | exact zt_glyph | exact zt_box) ?_; clear hS; (try clear ww); intro bb ww hS)
    | (refine own_store rfl _ _ _ rfl rfl rfl hS (by first | exact at0 | exact at1 | exact at2 | exact at3 | exact at4 | exact at5 | exact at6 | exact at7 | exact at8) (by first | exact rt_font | exact rt_glyph | exact rt_box) (by rfl) (by rfl) ?_; clear hS; (try clear ww); intro ww hS; simp only [List.set_cons_zero, List.set_cons_succ] at hS)
    | (refine own_store1 rfl _ _ _ rfl rfl rfl rfl hS (by first | exact at0 | exact at1 | exact at2 | exact at3 | exact at4 | exact at5 | exact at6 | exact at7 | exact at8) (by first | exact ot_int | exact ot_string | exact ot_bool | exact ot_boxs | exact ot_ints) (by simp) ?_; clear hS; (try clear ww); intro ww hS; simp only [List.set_cons_zero, List.set_cons_succ, Act.eval, Array.getD_eq_getD_getElem?, List.getElem?_toArray, List.getElem?_cons_succ, List.getElem?_cons_zero, Option.getD_some] at hS))
  have hc := (hS.get at0).cell
  refine bodyPost_ret (v := .tuple #[.agg #[.int .i64 B.k, .string B.n, .int .i64 B.p, .int .i64 B.w, .int .i64 B.h, .int .i64 B.d, .int .i64 0, .int .i64 0, .slice none 0 0, .int .i64 0, .slice none 0 0], .int .i64 e]) (by simp [results, Try.results25, go_sem, hc]) rfl (own_gives hS)

theorem ref05_Box_calls (F : Fnt) (s : ByteArray) (p e : Int) (B : Gbx) (w : World) (hF : FntOk w F) (hq : F.gs.length ≤ 500 ∧ F.ss.length ≤ 50) (hx : BoxIs F s p B e) : Calls Try.prog 25 #[F.val, .string s, .int .i64 p] w (Gives (.tuple #[.agg #[.int .i64 B.k, .string B.n, .int .i64 B.p, .int .i64 B.w, .int .i64 B.h, .int .i64 B.d, .int .i64 0, .int .i64 0, .slice none 0 0, .int .i64 0, .slice none 0 0], .int .i64 e]) w) := by
  by_cases hv : ValidF F
  · obtain ⟨rfl, rfl⟩ := hx.1 hv
    exact ref05_Box_ok F s p _ _ w hF hq hv (fun w' h => ref05_Sized_valid F s p w' h hq.1)
  · obtain ⟨rfl, rfl⟩ := hx.2 hv
    exact ref05_Box_bad F s p w hF hq hv

set_option maxHeartbeats 8000000 in
set_option maxRecDepth 100000 in
theorem same_box (B : Gbx) (w : World) : Calls Try.prog 26 #[.agg #[.int .i64 B.k, .string B.n, .int .i64 B.p, .int .i64 B.w, .int .i64 B.h, .int .i64 B.d, .int .i64 0, .int .i64 0, .slice none 0 0, .int .i64 0, .slice none 0 0], .agg #[.int .i64 B.k, .string B.n, .int .i64 B.p, .int .i64 B.w, .int .i64 B.h, .int .i64 B.d, .int .i64 0, .int .i64 0, .slice none 0 0, .int .i64 0, .slice none 0 0]] w (Gives (.bool true) w) := by
  go_enter Try.func26, Try.ntmps26
  simp only [List.append]
  have hS := own_start w
  go_wp2_with (first
    | (refine own_unguard (by rfl) ?_)
    | (refine own_box rfl _ _ rfl rfl hS ?_; clear hS; (try clear ww); intro bb ww hS)
    | (refine own_load1 rfl _ _ rfl rfl hS (by first | exact at0 | exact at1 | exact at2 | exact at3 | exact at4 | exact at5 | exact at6 | exact at7 | exact at8) (by first | exact ot_int | exact ot_string | exact ot_bool | exact ot_boxs | exact ot_ints) (by first | rfl | assumption) ?_)
    | (refine own_load rfl _ _ rfl rfl hS (by first | exact at0 | exact at1 | exact at2 | exact at3 | exact at4 | exact at5 | exact at6 | exact at7 | exact at8) (by first | exact rt_font | exact rt_glyph | exact rt_box) ?_)
    | (refine own_load_old rfl _ _ rfl rfl hS (by assumption) (by first | exact List.not_mem_nil | assumption) (by first | exact rt_font | exact rt_glyph | exact rt_box) ?_)
    | (refine own_load_has rfl _ _ rfl rfl hS (by assumption) (by first | exact List.not_mem_nil | assumption) (by first | exact rt_font | exact rt_glyph | exact rt_box) ?_)
    | (refine own_load1_old rfl _ _ rfl rfl hS (by assumption) (by first | exact List.not_mem_nil | assumption) (by first | exact ot_int | exact ot_string | exact ot_bool | exact ot_boxs | exact ot_ints) ?_)
    | (refine own_load1_has rfl _ _ rfl rfl hS (by assumption) (by first | exact List.not_mem_nil | assumption) (by first | exact ot_int | exact ot_string | exact ot_bool | exact ot_boxs | exact ot_ints) (by first | rfl | assumption) ?_)
    | (refine own_box rfl _ _ rfl rfl hS ?_; clear hS; (try clear ww); intro bb ww hS)
    | (refine own_alloc rfl _ rfl hS (by first | exact zt_glyph | exact zt_box) ?_; clear hS; (try clear ww); intro bb ww hS)
    | (refine own_store rfl _ _ _ rfl rfl rfl hS (by first | exact at0 | exact at1 | exact at2 | exact at3 | exact at4 | exact at5 | exact at6 | exact at7 | exact at8) (by first | exact rt_font | exact rt_glyph | exact rt_box) (by rfl) (by rfl) ?_; clear hS; (try clear ww); intro ww hS; simp only [List.set_cons_zero, List.set_cons_succ] at hS)
    | (refine own_store1 rfl _ _ _ rfl rfl rfl rfl hS (by first | exact at0 | exact at1 | exact at2 | exact at3 | exact at4 | exact at5 | exact at6 | exact at7 | exact at8) (by first | exact ot_int | exact ot_string | exact ot_bool | exact ot_boxs | exact ot_ints) (by simp) ?_; clear hS; (try clear ww); intro ww hS; simp only [List.set_cons_zero, List.set_cons_succ, Act.eval, Array.getD_eq_getD_getElem?, List.getElem?_toArray, List.getElem?_cons_succ, List.getElem?_cons_zero, Option.getD_some] at hS))
  go_ret
  exact own_gives hS

set_option maxHeartbeats 8000000 in
set_option maxRecDepth 100000 in
theorem box_few (F : Fnt) (s : ByteArray) (p : Int) (w : World) (hF : FntOk w F) (hfew : fewB F = false) : Calls Try.prog 8 #[F.val, .string s, .int .i64 p] w (Gives (.bool true) w) := by
  have HF := Lib.hid hF
  have HW := Lib.hid (show ∀ w', FntOk w' F → Calls Try.prog 14 #[F.val] w' (Gives (.bool false) w') from fun w' h => by have := ref05_Few_calls F w' h; rwa [hfew] at this)
  clear hF hfew
  go_enter Try.func8, Try.ntmps8
  have hS := own_start w
  go_wp2_with (first
    | (refine own_unguard (by rfl) ?_)
    | (go_at_call 10; refine own_calls hS (awake05_calls _) ?_; clear hS; (try clear ww); intro ww hS)
    | (go_at_call 14; refine own_calls hS (HW.out _ (HF.out.below hS.below)) ?_; clear hS; (try clear ww); intro ww hS)
    | (refine own_load1 rfl _ _ rfl rfl hS (by first | exact at0 | exact at1 | exact at2 | exact at3 | exact at4 | exact at5 | exact at6 | exact at7 | exact at8) (by first | exact ot_int | exact ot_string | exact ot_bool | exact ot_boxs | exact ot_ints) (by first | rfl | assumption) ?_)
    | (refine own_load rfl _ _ rfl rfl hS (by first | exact at0 | exact at1 | exact at2 | exact at3 | exact at4 | exact at5 | exact at6 | exact at7 | exact at8) (by first | exact rt_font | exact rt_glyph | exact rt_box) ?_)
    | (refine own_load_old rfl _ _ rfl rfl hS (by assumption) (by first | exact List.not_mem_nil | assumption) (by first | exact rt_font | exact rt_glyph | exact rt_box) ?_)
    | (refine own_load_has rfl _ _ rfl rfl hS (by assumption) (by first | exact List.not_mem_nil | assumption) (by first | exact rt_font | exact rt_glyph | exact rt_box) ?_)
    | (refine own_load1_old rfl _ _ rfl rfl hS (by assumption) (by first | exact List.not_mem_nil | assumption) (by first | exact ot_int | exact ot_string | exact ot_bool | exact ot_boxs | exact ot_ints) ?_)
    | (refine own_load1_has rfl _ _ rfl rfl hS (by assumption) (by first | exact List.not_mem_nil | assumption) (by first | exact ot_int | exact ot_string | exact ot_bool | exact ot_boxs | exact ot_ints) (by first | rfl | assumption) ?_)
    | (refine own_box rfl _ _ rfl rfl hS ?_; clear hS; (try clear ww); intro bb ww hS)
    | (refine own_alloc rfl _ rfl hS (by first | exact zt_glyph | exact zt_box) ?_; clear hS; (try clear ww); intro bb ww hS)
    | (refine own_store rfl _ _ _ rfl rfl rfl hS (by first | exact at0 | exact at1 | exact at2 | exact at3 | exact at4 | exact at5 | exact at6 | exact at7 | exact at8) (by first | exact rt_font | exact rt_glyph | exact rt_box) (by rfl) (by rfl) ?_; clear hS; (try clear ww); intro ww hS; simp only [List.set_cons_zero, List.set_cons_succ] at hS)
    | (refine own_store1 rfl _ _ _ rfl rfl rfl rfl hS (by first | exact at0 | exact at1 | exact at2 | exact at3 | exact at4 | exact at5 | exact at6 | exact at7 | exact at8) (by first | exact ot_int | exact ot_string | exact ot_bool | exact ot_boxs | exact ot_ints) (by simp) ?_; clear hS; (try clear ww); intro ww hS; simp only [List.set_cons_zero, List.set_cons_succ, Act.eval, Array.getD_eq_getD_getElem?, List.getElem?_toArray, List.getElem?_cons_succ, List.getElem?_cons_zero, Option.getD_some] at hS))
  go_ret
  exact own_gives hS

set_option maxHeartbeats 8000000 in
set_option maxRecDepth 100000 in
theorem box_same (F : Fnt) (s : ByteArray) (p e : Int) (B : Gbx) (w : World) (hF : FntOk w F) (hfew : fewB F = true)
    (hp : ∀ w', FntOk w' F → Calls Try.prog 24 #[F.val, .string s, .int .i64 p] w' (Gives (.tuple #[.agg #[.int .i64 B.k, .string B.n, .int .i64 B.p, .int .i64 B.w, .int .i64 B.h, .int .i64 B.d, .int .i64 0, .int .i64 0, .slice none 0 0, .int .i64 0, .slice none 0 0], .int .i64 e]) w'))
    (hr : ∀ w', FntOk w' F → Calls Try.prog 25 #[F.val, .string s, .int .i64 p] w' (Gives (.tuple #[.agg #[.int .i64 B.k, .string B.n, .int .i64 B.p, .int .i64 B.w, .int .i64 B.h, .int .i64 B.d, .int .i64 0, .int .i64 0, .slice none 0 0, .int .i64 0, .slice none 0 0], .int .i64 e]) w')) : Calls Try.prog 8 #[F.val, .string s, .int .i64 p] w (Gives (.bool true) w) := by
  have HF := Lib.hid hF
  have HW := Lib.hid (show ∀ w', FntOk w' F → Calls Try.prog 14 #[F.val] w' (Gives (.bool true) w') from fun w' h => by have := ref05_Few_calls F w' h; rwa [hfew] at this)
  have HP := Lib.hid hp
  have HR := Lib.hid hr
  clear hp hr
  clear hF hfew
  go_enter Try.func8, Try.ntmps8
  have hS := own_start w
  go_wp2_with (first
    | (refine own_unguard (by rfl) ?_)
    | (go_at_call 10; refine own_calls hS (awake05_calls _) ?_; clear hS; (try clear ww); intro ww hS)
    | (go_at_call 14; refine own_calls hS (HW.out _ (HF.out.below hS.below)) ?_; clear hS; (try clear ww); intro ww hS)
    | (go_at_call 24; refine own_calls hS (HP.out _ (HF.out.below hS.below)) ?_; clear hS; (try clear ww); intro ww hS)
    | (go_at_call 25; refine own_calls hS (HR.out _ (HF.out.below hS.below)) ?_; clear hS; (try clear ww); intro ww hS)
    | (go_at_call 26; refine own_calls hS (same_box B _) ?_; clear hS; (try clear ww); intro ww hS)
    | (refine own_load1 rfl _ _ rfl rfl hS (by first | exact at0 | exact at1 | exact at2 | exact at3 | exact at4 | exact at5 | exact at6 | exact at7 | exact at8) (by first | exact ot_int | exact ot_string | exact ot_bool | exact ot_boxs | exact ot_ints) (by first | rfl | assumption) ?_)
    | (refine own_load rfl _ _ rfl rfl hS (by first | exact at0 | exact at1 | exact at2 | exact at3 | exact at4 | exact at5 | exact at6 | exact at7 | exact at8) (by first | exact rt_font | exact rt_glyph | exact rt_box) ?_)
    | (refine own_load_old rfl _ _ rfl rfl hS (by assumption) (by first | exact List.not_mem_nil | assumption) (by first | exact rt_font | exact rt_glyph | exact rt_box) ?_)
    | (refine own_load_has rfl _ _ rfl rfl hS (by assumption) (by first | exact List.not_mem_nil | assumption) (by first | exact rt_font | exact rt_glyph | exact rt_box) ?_)
    | (refine own_load1_old rfl _ _ rfl rfl hS (by assumption) (by first | exact List.not_mem_nil | assumption) (by first | exact ot_int | exact ot_string | exact ot_bool | exact ot_boxs | exact ot_ints) ?_)
    | (refine own_load1_has rfl _ _ rfl rfl hS (by assumption) (by first | exact List.not_mem_nil | assumption) (by first | exact ot_int | exact ot_string | exact ot_bool | exact ot_boxs | exact ot_ints) (by first | rfl | assumption) ?_)
    | (refine own_box rfl _ _ rfl rfl hS ?_; clear hS; (try clear ww); intro bb ww hS)
    | (refine own_alloc rfl _ rfl hS (by first | exact zt_glyph | exact zt_box) ?_; clear hS; (try clear ww); intro bb ww hS)
    | (refine own_store rfl _ _ _ rfl rfl rfl hS (by first | exact at0 | exact at1 | exact at2 | exact at3 | exact at4 | exact at5 | exact at6 | exact at7 | exact at8) (by first | exact rt_font | exact rt_glyph | exact rt_box) (by rfl) (by rfl) ?_; clear hS; (try clear ww); intro ww hS; simp only [List.set_cons_zero, List.set_cons_succ] at hS)
    | (refine own_store1 rfl _ _ _ rfl rfl rfl rfl hS (by first | exact at0 | exact at1 | exact at2 | exact at3 | exact at4 | exact at5 | exact at6 | exact at7 | exact at8) (by first | exact ot_int | exact ot_string | exact ot_bool | exact ot_boxs | exact ot_ints) (by simp) ?_; clear hS; (try clear ww); intro ww hS; simp only [List.set_cons_zero, List.set_cons_succ, Act.eval, Array.getD_eq_getD_getElem?, List.getElem?_toArray, List.getElem?_cons_succ, List.getElem?_cons_zero, Option.getD_some] at hS))
  go_ret
  exact own_gives hS

theorem fontBox_calls (F : Fnt) (s : ByteArray) (p : Int) (w : World) (hF : FntOk w F) : Calls Try.prog 8 #[F.val, .string s, .int .i64 p] w (Gives (.bool true) w) := by
  cases hfew : fewB F
  · exact box_few F s p w hF hfew
  · have hq := fewB_iff.1 hfew
    obtain ⟨⟨B, e⟩, hx⟩ := box_ex F s p
    exact box_same F s p e B w hF hfew (fun w' h => font_Box_calls F s p e B w' h hq.1 hx) (fun w' h => ref05_Box_calls F s p e B w' h ⟨hq.1, hq.2.1⟩ hx)

end Go.Proofs.Ytgknameejoalnaa
