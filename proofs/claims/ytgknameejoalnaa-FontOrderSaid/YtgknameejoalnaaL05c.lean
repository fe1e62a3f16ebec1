/- The law FontFinds: what its calls return. -/
import Derived.Test.YtgknameejoalnaaSam
import Derived.Test.YtgknameejoalnaaFnd
import Derived.Test.YtgknameejoalnaaFew
import Derived.Test.YtgknameejoalnaaPick
import Derived.Test.YtgknameejoalnaaL05a
namespace Go.Proofs.Ytgknameejoalnaa
open Go.RowKit

attribute [local irreducible] wpQuiet wpList Code.wp

theorem font_pick (F : Fnt) (s : ByteArray) (w : World) (h : FntOk w F) (hn : F.gs.length ≤ 500) : Calls Try.prog 19 #[F.val, .string s] w (Gives (.agg #[.string (pickG F.gs s).name, .int .i64 (pickG F.gs s).w, .int .i64 (pickG F.gs s).h, .int .i64 (pickG F.gs s).d, .int .i64 (pickG F.gs s).it, .int .i64 (pickG F.gs s).at_]) w) :=
  font_Pick_calls F.gx F.sx F.gs.length F.gc F.ss.length F.sc F.quad F.xheight F.axis F.rule F.num1 F.num2 F.den1 F.den2 F.sup1 F.sup2 F.sup3 F.sub1 F.sub2 F.supdrop F.subdrop F.script F.sscript F.dpercent F.dshort F.acc F.gs s w (by omega) h.glysAt

theorem ref05_pick (F : Fnt) (s : ByteArray) (w : World) (h : FntOk w F) (hn : F.gs.length ≤ 500) : Calls Try.prog 20 #[F.val, .string s] w (Gives (.agg #[.string (pickG F.gs s).name, .int .i64 (pickG F.gs s).w, .int .i64 (pickG F.gs s).h, .int .i64 (pickG F.gs s).d, .int .i64 (pickG F.gs s).it, .int .i64 (pickG F.gs s).at_]) w) :=
  ref05_Pick_calls F.gx F.sx F.gs.length F.gc F.ss.length F.sc F.quad F.xheight F.axis F.rule F.num1 F.num2 F.den1 F.den2 F.sup1 F.sup2 F.sup3 F.sub1 F.sub2 F.supdrop F.subdrop F.script F.sscript F.dpercent F.dshort F.acc F.gs s w (by omega) h.glysAt

theorem own_stretch {P : Program} {D : List Nat} {W w : World} {L : List (Nat × List Value)} {f : FuncId} {args : Array Value} {r : Option Str} {R : Ending → World → Prop} (hS : Own D W L w) (hc : Calls P f args w (StretchGives r w))
    (h : ∀ t w', (r.getD zeroS).Same t → StrOk w' t → Own D W L w' → R (.returned (.tuple #[.agg #[.string t.name, .slice t.sx t.sizes.length t.sc, .slice t.px t.parts.length t.pc, .int .i64 t.ov], .bool r.isSome])) w') : Calls P f args w R :=
  hc.mono fun _ _ hg => by obtain ⟨x, ⟨ha, hb⟩, rfl, hc⟩ := hg.any; exact h x _ ha hb (hS.step hc)

set_option maxHeartbeats 4000000 in
set_option maxRecDepth 100000 in
theorem finds_few (F : Fnt) (s : ByteArray) (w : World) (hF : FntOk w F) (hfew : fewB F = false) : Calls Try.prog 5 #[F.val, .string s] w (Gives (.bool true) w) := by
  have HF := Lib.hid hF
  have HW := Lib.hid (show ∀ w', FntOk w' F → Calls Try.prog 14 #[F.val] w' (Gives (.bool false) w') from fun w' h => by have := ref05_Few_calls F w' h; rwa [hfew] at this)
  clear hF hfew
  go_enter Try.func5, Try.ntmps5
  have hS := own_start w
  go_wp2_with (first
    | (refine own_unguard (by rfl) ?_)
    | (go_at_call 10; refine own_calls hS (awake05_calls _) ?_; clear hS; (try clear ww); intro ww hS)
    | (go_at_call 14; refine own_calls hS (HW.out _ (HF.out.below hS.below)) ?_; clear hS; (try clear ww); intro ww hS)
    | (refine own_load1 rfl _ _ rfl rfl hS (by first | exact at0 | exact at1 | exact at2 | exact at3 | exact at4 | exact at5 | exact at6 | exact at7 | exact at8) (by first | exact ot_int | exact ot_string) (by first | rfl | assumption) ?_)
    | (refine own_load rfl _ _ rfl rfl hS (by first | exact at0 | exact at1 | exact at2 | exact at3 | exact at4 | exact at5 | exact at6 | exact at7 | exact at8) (by first | exact rt_font | exact rt_glyph | exact rt_stretch) ?_)
    | (refine own_load_old rfl _ _ rfl rfl hS (by assumption) (by first | exact List.not_mem_nil | assumption) (by first | exact rt_font | exact rt_glyph | exact rt_stretch) ?_)
    | (refine own_load_has rfl _ _ rfl rfl hS (by assumption) (by first | exact List.not_mem_nil | assumption) (by first | exact rt_font | exact rt_glyph | exact rt_stretch) ?_)
    | (refine own_load1_old rfl _ _ rfl rfl hS (by assumption) (by first | exact List.not_mem_nil | assumption) (by first | exact ot_int | exact ot_string) ?_)
    | (refine own_load1_has rfl _ _ rfl rfl hS (by assumption) (by first | exact List.not_mem_nil | assumption) (by first | exact ot_int | exact ot_string) (by first | rfl | assumption) ?_)
    | (refine own_box rfl _ _ rfl rfl hS ?_; clear hS; (try clear ww); intro bb ww hS)
    | (refine own_alloc rfl _ rfl hS (by first | exact zt_glyph | exact zt_stretch) ?_; clear hS; (try clear ww); intro bb ww hS)
    | (refine own_store rfl _ _ _ rfl rfl rfl hS (by first | exact at0 | exact at1 | exact at2 | exact at3 | exact at4 | exact at5 | exact at6 | exact at7 | exact at8) (by first | exact rt_font | exact rt_glyph | exact rt_stretch) (by rfl) (by rfl) ?_; clear hS; (try clear ww); intro ww hS; (try simp only at hS); (try simp only [List.set_cons_succ] at hS); (try simp only [List.set_cons_zero] at hS))
    | (refine own_store1 rfl _ _ _ rfl rfl rfl rfl hS (by first | exact at0 | exact at1 | exact at2 | exact at3 | exact at4 | exact at5 | exact at6 | exact at7 | exact at8) (by first | exact ot_int | exact ot_string) (by simp) ?_; clear hS; (try clear ww); intro ww hS; (try simp only at hS); (try simp only [List.set_cons_succ] at hS); (try simp only [List.set_cons_zero] at hS); (try simp only [Act.eval] at hS); (try simp only [Array.getD_eq_getD_getElem?] at hS); (try simp only [List.getElem?_toArray] at hS); (try simp only [List.getElem?_cons_succ] at hS); (try simp only [List.getElem?_cons_zero] at hS); (try simp only [Option.getD_some] at hS)))
  go_ret
  exact own_gives hS

set_option maxHeartbeats 8000000 in
set_option maxRecDepth 100000 in
theorem finds_ok (F : Fnt) (s : ByteArray) (w : World) (hF : FntOk w F) (hfew : fewB F = true) : Calls Try.prog 5 #[F.val, .string s] w (Gives (.bool true) w) := by
  have HF := Lib.hid hF
  have HW := Lib.hid (show ∀ w', FntOk w' F → Calls Try.prog 14 #[F.val] w' (Gives (.bool true) w') from fun w' h => by have := ref05_Few_calls F w' h; rwa [hfew] at this)
  have HN := Lib.hid (fewB_iff.1 hfew)
  have HL := Lib.hid (show ((findS F.ss s).getD zeroS).sizes.length ≤ 50 ∧ ((findS F.ss s).getD zeroS).parts.length ≤ 50 by
    cases h : findS F.ss s with
    | none => exact ⟨by simp [zeroS], by simp [zeroS]⟩
    | some t => exact HN.out.2.2 t (List.mem_of_find?_eq_some h))
  clear hF hfew
  go_enter Try.func5, Try.ntmps5
  have hS := own_start w
  go_wp2_with (first
    | (refine own_unguard (by rfl) ?_)
    | (go_at_call 10; refine own_calls hS (awake05_calls _) ?_; clear hS; (try clear ww); intro ww hS)
    | (go_at_call 14; refine own_calls hS (HW.out _ (HF.out.below hS.below)) ?_; clear hS; (try clear ww); intro ww hS)
    | (go_at_call 15; refine own_calls hS (font_find F s _ (HF.out.below hS.below) HN.out.1) ?_; clear hS; (try clear ww); intro ww hS)
    | (go_at_call 16; refine own_calls hS (ref05_find F s _ (HF.out.below hS.below) HN.out.1) ?_; clear hS; (try clear ww); intro ww hS)
    | (refine own_load1 rfl _ _ rfl rfl hS (by first | exact at0 | exact at1 | exact at2 | exact at3 | exact at4 | exact at5 | exact at6 | exact at7 | exact at8) (by first | exact ot_int | exact ot_string) (by first | rfl | assumption) ?_)
    | (refine own_load rfl _ _ rfl rfl hS (by first | exact at0 | exact at1 | exact at2 | exact at3 | exact at4 | exact at5 | exact at6 | exact at7 | exact at8) (by first | exact rt_font | exact rt_glyph | exact rt_stretch) ?_)
    | (refine own_load_old rfl _ _ rfl rfl hS (by assumption) (by first | exact List.not_mem_nil | assumption) (by first | exact rt_font | exact rt_glyph | exact rt_stretch) ?_)
    | (refine own_load_has rfl _ _ rfl rfl hS (by assumption) (by first | exact List.not_mem_nil | assumption) (by first | exact rt_font | exact rt_glyph | exact rt_stretch) ?_)
    | (refine own_load1_old rfl _ _ rfl rfl hS (by assumption) (by first | exact List.not_mem_nil | assumption) (by first | exact ot_int | exact ot_string) ?_)
    | (refine own_load1_has rfl _ _ rfl rfl hS (by assumption) (by first | exact List.not_mem_nil | assumption) (by first | exact ot_int | exact ot_string) (by first | rfl | assumption) ?_)
    | (refine own_box rfl _ _ rfl rfl hS ?_; clear hS; (try clear ww); intro bb ww hS)
    | (refine own_alloc rfl _ rfl hS (by first | exact zt_glyph | exact zt_stretch) ?_; clear hS; (try clear ww); intro bb ww hS)
    | (refine own_store rfl _ _ _ rfl rfl rfl hS (by first | exact at0 | exact at1 | exact at2 | exact at3 | exact at4 | exact at5 | exact at6 | exact at7 | exact at8) (by first | exact rt_font | exact rt_glyph | exact rt_stretch) (by rfl) (by rfl) ?_; clear hS; (try clear ww); intro ww hS; (try simp only at hS); (try simp only [List.set_cons_succ] at hS); (try simp only [List.set_cons_zero] at hS))
    | (refine own_store1 rfl _ _ _ rfl rfl rfl rfl hS (by first | exact at0 | exact at1 | exact at2 | exact at3 | exact at4 | exact at5 | exact at6 | exact at7 | exact at8) (by first | exact ot_int | exact ot_string) (by simp) ?_; clear hS; (try clear ww); intro ww hS; (try simp only at hS); (try simp only [List.set_cons_succ] at hS); (try simp only [List.set_cons_zero] at hS); (try simp only [Act.eval] at hS); (try simp only [Array.getD_eq_getD_getElem?] at hS); (try simp only [List.getElem?_toArray] at hS); (try simp only [List.getElem?_cons_succ] at hS); (try simp only [List.getElem?_cons_zero] at hS); (try simp only [Option.getD_some] at hS)))
  refine own_stretch hS (font_Stretch_calls F s _ (HF.out.below hS.below) HN.out.2.2) ?_
  intro t1 w1 h1 h2 hT
  have hF1 : FntOk w1 F := HF.out.below hT.below
  have m0 := hT.get at0
  have m1 := hT.get at1
  have m2 := hT.get at2
  have hB1 := hT.below
  clear hS hT HF
  (try clear ww)
  have HF1 := Lib.hid hF1
  clear hF1
  obtain ⟨n1, x1, c1, z1, p1, d1, l1, o1⟩ := t1
  have hS := own_start w1
  go_wp2_with (first
    | (refine own_unguard (by rfl) ?_)
    | (refine own_load1 rfl _ _ rfl rfl hS (by first | exact at0 | exact at1 | exact at2 | exact at3 | exact at4 | exact at5 | exact at6 | exact at7 | exact at8) (by first | exact ot_int | exact ot_string) (by first | rfl | assumption) ?_)
    | (refine own_load rfl _ _ rfl rfl hS (by first | exact at0 | exact at1 | exact at2 | exact at3 | exact at4 | exact at5 | exact at6 | exact at7 | exact at8) (by first | exact rt_font | exact rt_glyph | exact rt_stretch) ?_)
    | (refine own_load_old rfl _ _ rfl rfl hS (by assumption) (by first | exact List.not_mem_nil | assumption) (by first | exact rt_font | exact rt_glyph | exact rt_stretch) ?_)
    | (refine own_load_has rfl _ _ rfl rfl hS (by assumption) (by first | exact List.not_mem_nil | assumption) (by first | exact rt_font | exact rt_glyph | exact rt_stretch) ?_)
    | (refine own_load1_old rfl _ _ rfl rfl hS (by assumption) (by first | exact List.not_mem_nil | assumption) (by first | exact ot_int | exact ot_string) ?_)
    | (refine own_load1_has rfl _ _ rfl rfl hS (by assumption) (by first | exact List.not_mem_nil | assumption) (by first | exact ot_int | exact ot_string) (by first | rfl | assumption) ?_)
    | (refine own_box rfl _ _ rfl rfl hS ?_; clear hS; (try clear ww); intro bb ww hS)
    | (refine own_alloc rfl _ rfl hS (by first | exact zt_glyph | exact zt_stretch) ?_; clear hS; (try clear ww); intro bb ww hS)
    | (refine own_store rfl _ _ _ rfl rfl rfl hS (by first | exact at0 | exact at1 | exact at2 | exact at3 | exact at4 | exact at5 | exact at6 | exact at7 | exact at8) (by first | exact rt_font | exact rt_glyph | exact rt_stretch) (by rfl) (by rfl) ?_; clear hS; (try clear ww); intro ww hS; (try simp only at hS); (try simp only [List.set_cons_succ] at hS); (try simp only [List.set_cons_zero] at hS))
    | (refine own_store1 rfl _ _ _ rfl rfl rfl rfl hS (by first | exact at0 | exact at1 | exact at2 | exact at3 | exact at4 | exact at5 | exact at6 | exact at7 | exact at8) (by first | exact ot_int | exact ot_string) (by simp) ?_; clear hS; (try clear ww); intro ww hS; (try simp only at hS); (try simp only [List.set_cons_succ] at hS); (try simp only [List.set_cons_zero] at hS); (try simp only [Act.eval] at hS); (try simp only [Array.getD_eq_getD_getElem?] at hS); (try simp only [List.getElem?_toArray] at hS); (try simp only [List.getElem?_cons_succ] at hS); (try simp only [List.getElem?_cons_zero] at hS); (try simp only [Option.getD_some] at hS)))
  refine own_stretch hS (ref05_Stretch_calls F s _ (HF1.out.below hS.below)) ?_
  intro t2 w2 h3 h4 hT
  have HF2 := Lib.hid (HF1.out.below hT.below)
  have k0 := hT.hasOld List.not_mem_nil m0
  have k1 := hT.hasOld List.not_mem_nil m1
  have k2 := hT.hasOld List.not_mem_nil m2
  have k3 := hT.get at0
  have hB2 := bthen hB1 hT.below
  have h5 := h2.below hT.below
  clear hS hT HF1 m0 m1 m2 hB1 h2
  (try clear ww)
  obtain ⟨n2, x2, c2, z2, p2, d2, l2, o2⟩ := t2
  generalize (findS F.ss s).getD zeroS = S0 at *
  generalize (findS F.ss s).isSome = B0 at *
  generalize (findG F.gs s).getD nilG = G0 at *
  generalize (findG F.gs s).isSome = B1 at *
  unfold Str.Same at h1 h3
  simp only at h1 h3
  obtain ⟨rfl, rfl, rfl, rfl⟩ := h1
  obtain ⟨rfl, rfl, rfl, rfl⟩ := h3
  have HX := Lib.hid h5
  have HY := Lib.hid h4
  clear h5 h4
  have hS := own_start w2
  go_wp2_with (first
    | (refine own_unguard (by rfl) ?_)
    | (refine own_load1 rfl _ _ rfl rfl hS (by first | exact at0 | exact at1 | exact at2 | exact at3 | exact at4 | exact at5 | exact at6 | exact at7 | exact at8) (by first | exact ot_int | exact ot_string) (by first | rfl | assumption) ?_)
    | (refine own_load rfl _ _ rfl rfl hS (by first | exact at0 | exact at1 | exact at2 | exact at3 | exact at4 | exact at5 | exact at6 | exact at7 | exact at8) (by first | exact rt_font | exact rt_glyph | exact rt_stretch) ?_)
    | (refine own_load_old rfl _ _ rfl rfl hS (by assumption) (by first | exact List.not_mem_nil | assumption) (by first | exact rt_font | exact rt_glyph | exact rt_stretch) ?_)
    | (refine own_load_has rfl _ _ rfl rfl hS (by assumption) (by first | exact List.not_mem_nil | assumption) (by first | exact rt_font | exact rt_glyph | exact rt_stretch) ?_)
    | (refine own_load1_old rfl _ _ rfl rfl hS (by assumption) (by first | exact List.not_mem_nil | assumption) (by first | exact ot_int | exact ot_string) ?_)
    | (refine own_load1_has rfl _ _ rfl rfl hS (by assumption) (by first | exact List.not_mem_nil | assumption) (by first | exact ot_int | exact ot_string) (by first | rfl | assumption) ?_)
    | (refine own_box rfl _ _ rfl rfl hS ?_; clear hS; (try clear ww); intro bb ww hS)
    | (refine own_alloc rfl _ rfl hS (by first | exact zt_glyph | exact zt_stretch) ?_; clear hS; (try clear ww); intro bb ww hS)
    | (refine own_store rfl _ _ _ rfl rfl rfl hS (by first | exact at0 | exact at1 | exact at2 | exact at3 | exact at4 | exact at5 | exact at6 | exact at7 | exact at8) (by first | exact rt_font | exact rt_glyph | exact rt_stretch) (by rfl) (by rfl) ?_; clear hS; (try clear ww); intro ww hS; (try simp only at hS); (try simp only [List.set_cons_succ] at hS); (try simp only [List.set_cons_zero] at hS))
    | (refine own_store1 rfl _ _ _ rfl rfl rfl rfl hS (by first | exact at0 | exact at1 | exact at2 | exact at3 | exact at4 | exact at5 | exact at6 | exact at7 | exact at8) (by first | exact ot_int | exact ot_string) (by simp) ?_; clear hS; (try clear ww); intro ww hS; (try simp only at hS); (try simp only [List.set_cons_succ] at hS); (try simp only [List.set_cons_zero] at hS); (try simp only [Act.eval] at hS); (try simp only [Array.getD_eq_getD_getElem?] at hS); (try simp only [List.getElem?_toArray] at hS); (try simp only [List.getElem?_cons_succ] at hS); (try simp only [List.getElem?_cons_zero] at hS); (try simp only [Option.getD_some] at hS)))
  refine own_region hS (by kernel_rfl) (by kernel_rfl) ?_
  (try simp only); (try simp only [List.drop_succ_cons]); (try simp only [List.drop_zero]); (try simp only [List.take_succ_cons]); (try simp only [List.take_zero])
  repeat (first
      | (refine quiet_plain (by with_reducible rfl) ?_
         apply Exists.intro
         refine ⟨?_, ?_⟩
         focus (intro wq hq0; have hq : Own _ _ _ wq := hq0; first | (exact quietAt_one rfl rfl (Own.get hq at0) (by rfl) (by first | exact ot_int | exact ot_string)) | (exact quietAt_row rfl rfl (Own.get hq at0) (by first | exact rt_font | exact rt_glyph | exact rt_stretch)) | (exact quietAt_one rfl rfl (Own.hasOld hq List.not_mem_nil k0) (by rfl) (by first | exact ot_int | exact ot_string)) | (exact quietAt_row rfl rfl (Own.hasOld hq List.not_mem_nil k0) (by first | exact rt_font | exact rt_glyph | exact rt_stretch)) | (exact quietAt_one rfl rfl (Own.hasOld hq List.not_mem_nil k1) (by rfl) (by first | exact ot_int | exact ot_string)) | (exact quietAt_row rfl rfl (Own.hasOld hq List.not_mem_nil k1) (by first | exact rt_font | exact rt_glyph | exact rt_stretch)) | (exact quietAt_one rfl rfl (Own.hasOld hq List.not_mem_nil k2) (by rfl) (by first | exact ot_int | exact ot_string)) | (exact quietAt_row rfl rfl (Own.hasOld hq List.not_mem_nil k2) (by first | exact rt_font | exact rt_glyph | exact rt_stretch)) | (exact quietAt_one rfl rfl (Own.hasOld hq List.not_mem_nil k3) (by rfl) (by first | exact ot_int | exact ot_string)) | (exact quietAt_row rfl rfl (Own.hasOld hq List.not_mem_nil k3) (by first | exact rt_font | exact rt_glyph | exact rt_stretch)) | (go_simp; first | (go_at_call 19; exact quietG hq (font_pick F s _ (HF2.out.below hq.below) HN.out.1)) | (go_at_call 20; exact quietG hq (ref05_pick F s _ (HF2.out.below hq.below) HN.out.1)) | (go_at_call 21; exact quietG hq (ref05_SameStretch_same _ _ _ _ _ _ _ _ _ _ _ _ _ (by have := HL.out; omega) (by have := HL.out; omega) (HX.out.sizes.below hq.below) (HY.out.sizes.below hq.below) (HX.out.parts.below hq.below) (HY.out.parts.below hq.below))) | (with_reducible rfl)))
         simp only [Act.put, List.setIfInBounds_toArray, List.set_cons_zero, List.set_cons_succ])
      | (refine quiet_at (by with_reducible rfl) (by rfl) (by rfl) (by simp only [List.getElem?_toArray, List.getElem?_cons_succ, List.getElem?_cons_zero]; rfl) ?_
         first | (with_reducible refine QG_tt ?_) | (with_reducible refine QG_ff ?_)
         apply Exists.intro
         refine ⟨?_, ?_⟩
         focus (intro wq hq0; have hq : Own _ _ _ wq := hq0; first | (exact quietAt_one rfl rfl (Own.get hq at0) (by rfl) (by first | exact ot_int | exact ot_string)) | (exact quietAt_row rfl rfl (Own.get hq at0) (by first | exact rt_font | exact rt_glyph | exact rt_stretch)) | (exact quietAt_one rfl rfl (Own.hasOld hq List.not_mem_nil k0) (by rfl) (by first | exact ot_int | exact ot_string)) | (exact quietAt_row rfl rfl (Own.hasOld hq List.not_mem_nil k0) (by first | exact rt_font | exact rt_glyph | exact rt_stretch)) | (exact quietAt_one rfl rfl (Own.hasOld hq List.not_mem_nil k1) (by rfl) (by first | exact ot_int | exact ot_string)) | (exact quietAt_row rfl rfl (Own.hasOld hq List.not_mem_nil k1) (by first | exact rt_font | exact rt_glyph | exact rt_stretch)) | (exact quietAt_one rfl rfl (Own.hasOld hq List.not_mem_nil k2) (by rfl) (by first | exact ot_int | exact ot_string)) | (exact quietAt_row rfl rfl (Own.hasOld hq List.not_mem_nil k2) (by first | exact rt_font | exact rt_glyph | exact rt_stretch)) | (exact quietAt_one rfl rfl (Own.hasOld hq List.not_mem_nil k3) (by rfl) (by first | exact ot_int | exact ot_string)) | (exact quietAt_row rfl rfl (Own.hasOld hq List.not_mem_nil k3) (by first | exact rt_font | exact rt_glyph | exact rt_stretch)) | (go_simp; first | (go_at_call 19; exact quietG hq (font_pick F s _ (HF2.out.below hq.below) HN.out.1)) | (go_at_call 20; exact quietG hq (ref05_pick F s _ (HF2.out.below hq.below) HN.out.1)) | (go_at_call 21; exact quietG hq (ref05_SameStretch_same _ _ _ _ _ _ _ _ _ _ _ _ _ (by have := HL.out; omega) (by have := HL.out; omega) (HX.out.sizes.below hq.below) (HY.out.sizes.below hq.below) (HX.out.parts.below hq.below) (HY.out.parts.below hq.below))) | (with_reducible rfl)))
         simp only [Act.put, List.setIfInBounds_toArray, List.set_cons_zero, List.set_cons_succ])
      | (refine quiet_at (by with_reducible rfl) (by rfl) (by rfl) (by simp only [List.getElem?_toArray, List.getElem?_cons_succ, List.getElem?_cons_zero]; rfl) ?_
         first | (with_reducible refine QG_tf ?_) | (with_reducible refine QG_ft ?_) | (with_reducible refine QG_u ?_)
         simp only [Act.put, List.setIfInBounds_toArray, List.set_cons_zero, List.set_cons_succ]))
  refine wpQuiet_nil ?_
  clear hS
  intro ww hS
  go_wp2_with (first
    | (refine own_unguard (by rfl) ?_)
    | (refine own_load1 rfl _ _ rfl rfl hS (by first | exact at0 | exact at1 | exact at2 | exact at3 | exact at4 | exact at5 | exact at6 | exact at7 | exact at8) (by first | exact ot_int | exact ot_string) (by first | rfl | assumption) ?_)
    | (refine own_load rfl _ _ rfl rfl hS (by first | exact at0 | exact at1 | exact at2 | exact at3 | exact at4 | exact at5 | exact at6 | exact at7 | exact at8) (by first | exact rt_font | exact rt_glyph | exact rt_stretch) ?_)
    | (refine own_load_old rfl _ _ rfl rfl hS (by assumption) (by first | exact List.not_mem_nil | assumption) (by first | exact rt_font | exact rt_glyph | exact rt_stretch) ?_)
    | (refine own_load_has rfl _ _ rfl rfl hS (by assumption) (by first | exact List.not_mem_nil | assumption) (by first | exact rt_font | exact rt_glyph | exact rt_stretch) ?_)
    | (refine own_load1_old rfl _ _ rfl rfl hS (by assumption) (by first | exact List.not_mem_nil | assumption) (by first | exact ot_int | exact ot_string) ?_)
    | (refine own_load1_has rfl _ _ rfl rfl hS (by assumption) (by first | exact List.not_mem_nil | assumption) (by first | exact ot_int | exact ot_string) (by first | rfl | assumption) ?_)
    | (refine own_box rfl _ _ rfl rfl hS ?_; clear hS; (try clear ww); intro bb ww hS)
    | (refine own_alloc rfl _ rfl hS (by first | exact zt_glyph | exact zt_stretch) ?_; clear hS; (try clear ww); intro bb ww hS)
    | (refine own_store rfl _ _ _ rfl rfl rfl hS (by first | exact at0 | exact at1 | exact at2 | exact at3 | exact at4 | exact at5 | exact at6 | exact at7 | exact at8) (by first | exact rt_font | exact rt_glyph | exact rt_stretch) (by rfl) (by rfl) ?_; clear hS; (try clear ww); intro ww hS; (try simp only at hS); (try simp only [List.set_cons_succ] at hS); (try simp only [List.set_cons_zero] at hS))
    | (refine own_store1 rfl _ _ _ rfl rfl rfl rfl hS (by first | exact at0 | exact at1 | exact at2 | exact at3 | exact at4 | exact at5 | exact at6 | exact at7 | exact at8) (by first | exact ot_int | exact ot_string) (by simp) ?_; clear hS; (try clear ww); intro ww hS; (try simp only at hS); (try simp only [List.set_cons_succ] at hS); (try simp only [List.set_cons_zero] at hS); (try simp only [Act.eval] at hS); (try simp only [Array.getD_eq_getD_getElem?] at hS); (try simp only [List.getElem?_toArray] at hS); (try simp only [List.getElem?_cons_succ] at hS); (try simp only [List.getElem?_cons_zero] at hS); (try simp only [Option.getD_some] at hS)))
  go_ret
  exact ⟨rfl, bthen hB2 hS.below⟩

theorem fontFinds_calls (F : Fnt) (s : ByteArray) (w : World) (hF : FntOk w F) : Calls Try.prog 5 #[F.val, .string s] w (Gives (.bool true) w) := by
  cases h : fewB F
  · exact finds_few F s w hF h
  · exact finds_ok F s w hF h

end Go.Proofs.Ytgknameejoalnaa
