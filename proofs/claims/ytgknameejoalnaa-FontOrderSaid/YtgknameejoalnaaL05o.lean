/- The law FontOrder: what its call returns. -/
import Derived.Test.YtgknameejoalnaaVlf
import Derived.Test.YtgknameejoalnaaL05c
import Derived.Test.YtgknameejoalnaaAny
import Derived.Test.YtgknameejoalnaaApn
import Derived.Test.YtgknameejoalnaaRev
import Derived.Test.YtgknameejoalnaaSlr
namespace Go.Proofs.Ytgknameejoalnaa
open Go.RowKit

attribute [local irreducible] wpQuiet wpG wpP wpK wpList Code.wp Calls

theorem few_vo {F : Fnt} {w : World} {v : Bool} (hF : FntOk w F) (hv : Hid (fewB F = v)) : Calls Try.prog 14 #[F.val] w (Gives (.bool v) w) := by
  have := ref05_Few_calls F w hF
  rwa [hv.out] at this
theorem el_glyph : ElTy Try.prog 33 23 6 56 := ElTy.mk' (.agg #[.string ⟨#[]⟩, .int .i64 0, .int .i64 0, .int .i64 0, .int .i64 0, .int .i64 0]) Try.underlying33 (by kernel_rfl) rfl
theorem el_stretch : ElTy Try.prog 34 45 4 72 := ElTy.mk' (.agg #[.string ⟨#[]⟩, .slice none 0 0, .slice none 0 0, .int .i64 0]) Try.underlying34 (by kernel_rfl) rfl
theorem zt_font : ZeroTy Try.prog 38 [.slice none 0 0, .slice none 0 0, .int .i64 0, .int .i64 0, .int .i64 0, .int .i64 0, .int .i64 0, .int .i64 0, .int .i64 0, .int .i64 0, .int .i64 0, .int .i64 0, .int .i64 0, .int .i64 0, .int .i64 0, .int .i64 0, .int .i64 0, .int .i64 0, .int .i64 0, .int .i64 0, .int .i64 0, .int .i64 0] := ⟨.agg #[.slice none 0 0, .slice none 0 0, .int .i64 0, .int .i64 0, .int .i64 0, .int .i64 0, .int .i64 0, .int .i64 0, .int .i64 0, .int .i64 0, .int .i64 0, .int .i64 0, .int .i64 0, .int .i64 0, .int .i64 0, .int .i64 0, .int .i64 0, .int .i64 0, .int .i64 0, .int .i64 0, .int .i64 0, .int .i64 0], by kernel_rfl, rfl⟩

theorem find_as {F : Fnt} {gs : List Gly} {s : ByteArray} {w : World} (h : FntOk w F) (hn : F.gs.length ≤ 500) (he : Hid (findG F.gs s = findG gs s)) : Calls Try.prog 15 #[F.val, .string s] w (Gives (.tuple #[.agg #[.string ((findG gs s).getD nilG).name, .int .i64 ((findG gs s).getD nilG).w, .int .i64 ((findG gs s).getD nilG).h, .int .i64 ((findG gs s).getD nilG).d, .int .i64 ((findG gs s).getD nilG).it, .int .i64 ((findG gs s).getD nilG).at_], .bool (findG gs s).isSome]) w) := by
  have := font_find F s w h hn
  rw [he.out] at this
  exact this
theorem pick_as {F : Fnt} {gs : List Gly} {s : ByteArray} {w : World} (h : FntOk w F) (hn : F.gs.length ≤ 500) (he : Hid (pickG F.gs s = pickG gs s)) : Calls Try.prog 19 #[F.val, .string s] w (Gives (.agg #[.string (pickG gs s).name, .int .i64 (pickG gs s).w, .int .i64 (pickG gs s).h, .int .i64 (pickG gs s).d, .int .i64 (pickG gs s).it, .int .i64 (pickG gs s).at_]) w) := by
  have := font_pick F s w h hn
  rw [he.out] at this
  exact this
theorem stretch_as {F : Fnt} {ss : List Str} {s : ByteArray} {w : World} (h : FntOk w F) (hq : ∀ t ∈ F.ss, t.sizes.length ≤ 50 ∧ t.parts.length ≤ 50) (he : Hid (findS F.ss s = findS ss s)) : Calls Try.prog 17 #[F.val, .string s] w (StretchGives (findS ss s) w) := by
  have := font_Stretch_calls F s w h hq
  rw [he.out] at this
  exact this

theorem sl_step {α : Type} {f : α → List Value} {l : List α} {m size : Nat} {a : α} {v : Value} {X : List (Nat × List Value)} (ha : l[m]? = some a) (h : Sl size (l.length - (m + 1) + 1) v ((l.drop (m + 1)).reverse.flatMap f ++ f a) X) : Sl size (l.length - m) v ((l.drop m).reverse.flatMap f) X := by
  obtain ⟨hlt, rfl⟩ := List.getElem?_eq_some_iff.1 ha
  rw [List.drop_eq_getElem_cons hlt, List.reverse_cons, List.flatMap_append, show l.length - m = l.length - (m + 1) + 1 by omega]
  simpa using h

set_option maxHeartbeats 8000000 in
set_option maxRecDepth 100000 in
theorem order_ok (F : Fnt) (s : ByteArray) (w : World) (hF : FntOk w F) (hfew : fewB F = true) (hv : ValidF F) : Calls Try.prog 9 #[F.val, .string s] w (Gives (.bool true) w) := by
  have HF := Lib.hid hF
  have HE := Lib.hid hfew
  have HV := Lib.hid hv
  obtain ⟨hg4, hs4, -⟩ := hv
  clear hF hfew
  obtain ⟨gx, gc, gs, sx, sc, ss, q0, q1, q2, q3, q4, q5, q6, q7, q8, q9, q10, q11, q12, q13, q14, q15, q16, q17, q18, q19⟩ := F
  simp only at hg4 hs4
  go_enter Try.func9, Try.ntmps9
  have hS := own_start w
  go_wp2_with (first
    | (refine own_unguard (by rfl) ?_)
    | (refine own_box rfl _ _ rfl rfl hS ?_; clear hS; (try clear ww); intro bf ww hS)
    | (go_at_call 10; refine own_calls hS (awake05_calls _) ?_; clear hS; (try clear ww); intro ww hS)
    | (go_at_call 14; refine own_calls hS (few_vo (F := ⟨gx, gc, gs, sx, sc, ss, q0, q1, q2, q3, q4, q5, q6, q7, q8, q9, q10, q11, q12, q13, q14, q15, q16, q17, q18, q19⟩) (HF.out.below hS.below) HE) ?_; clear hS; (try clear ww); intro ww hS)
    | (go_at_call 22; refine own_calls hS (font_Valid_calls ⟨gx, gc, gs, sx, sc, ss, q0, q1, q2, q3, q4, q5, q6, q7, q8, q9, q10, q11, q12, q13, q14, q15, q16, q17, q18, q19⟩ _ (HF.out.below hS.below) true (iff_t HV.out)) ?_; clear hS; (try clear ww); intro ww hS)
    | (refine own_load_sub (i := 2) (cs' := [.int .i64 q0, .int .i64 q1, .int .i64 q2, .int .i64 q3, .int .i64 q4, .int .i64 q5, .int .i64 q6, .int .i64 q7, .int .i64 q8, .int .i64 q9, .int .i64 q10, .int .i64 q11, .int .i64 q12, .int .i64 q13, .int .i64 q14, .int .i64 q15, .int .i64 q16, .int .i64 q17, .int .i64 q18, .int .i64 q19]) rfl _ _ rfl rfl hS at1 rfl rt_params ?_)
    | (refine own_store_sub (i := 2) (cs' := [.int .i64 q0, .int .i64 q1, .int .i64 q2, .int .i64 q3, .int .i64 q4, .int .i64 q5, .int .i64 q6, .int .i64 q7, .int .i64 q8, .int .i64 q9, .int .i64 q10, .int .i64 q11, .int .i64 q12, .int .i64 q13, .int .i64 q14, .int .i64 q15, .int .i64 q16, .int .i64 q17, .int .i64 q18, .int .i64 q19]) rfl _ _ _ rfl rfl rfl hS at0 rt_params (by simp) (by rfl) ?_; clear hS; (try clear ww); intro ww hS; simp only [setL, List.set_cons_zero, List.set_cons_succ] at hS)
    | (refine own_load1 rfl _ _ rfl rfl hS (by first | exact at0 | exact at1 | exact at2 | exact at3 | exact at4 | exact at5 | exact at6 | exact at7 | exact at8) (by first | exact ot_int | exact ot_string | exact ot_glyphs | exact ot_stretches) (by first | rfl | assumption) ?_)
    | (refine own_load rfl _ _ rfl rfl hS (by first | exact at0 | exact at1 | exact at2 | exact at3 | exact at4 | exact at5 | exact at6 | exact at7 | exact at8) (by first | exact rt_font | exact rt_glyph | exact rt_stretch) ?_)
    | (refine own_load_old rfl _ _ rfl rfl hS (by assumption) (by first | exact List.not_mem_nil | assumption) (by first | exact rt_font | exact rt_glyph | exact rt_stretch) ?_)
    | (refine own_load_has rfl _ _ rfl rfl hS (by assumption) (by first | exact List.not_mem_nil | assumption) (by first | exact rt_font | exact rt_glyph | exact rt_stretch) ?_)
    | (refine own_load1_old rfl _ _ rfl rfl hS (by assumption) (by first | exact List.not_mem_nil | assumption) (by first | exact ot_int | exact ot_string | exact ot_glyphs | exact ot_stretches) ?_)
    | (refine own_load1_has rfl _ _ rfl rfl hS (by assumption) (by first | exact List.not_mem_nil | assumption) (by first | exact ot_int | exact ot_string | exact ot_glyphs | exact ot_stretches) (by first | rfl | assumption) ?_)
    | (refine own_box rfl _ _ rfl rfl hS ?_; clear hS; (try clear ww); intro bb ww hS)
    | (refine own_alloc rfl _ rfl hS (by first | exact zt_font) ?_; clear hS; (try clear ww); intro bb ww hS)
    | (refine own_store rfl _ _ _ rfl rfl rfl hS (by first | exact at0 | exact at1 | exact at2 | exact at3 | exact at4 | exact at5 | exact at6 | exact at7 | exact at8) (by first | exact rt_font | exact rt_glyph | exact rt_stretch) (by rfl) (by rfl) ?_; clear hS; (try clear ww); intro ww hS; (try simp only at hS); (try simp only [List.set_cons_succ] at hS); (try simp only [List.set_cons_zero] at hS))
    | (refine own_store1 rfl _ _ _ rfl rfl rfl rfl hS (by first | exact at0 | exact at1 | exact at2 | exact at3 | exact at4 | exact at5 | exact at6 | exact at7 | exact at8) (by first | exact ot_int | exact ot_string | exact ot_glyphs | exact ot_stretches) (by simp) ?_; clear hS; (try clear ww); intro ww hS; (try simp only at hS); (try simp only [List.set_cons_succ] at hS); (try simp only [List.set_cons_zero] at hS); (try simp only [Act.eval] at hS); (try simp only [Array.getD_eq_getD_getElem?] at hS); (try simp only [List.getElem?_toArray] at hS); (try simp only [List.getElem?_cons_succ] at hS); (try simp only [List.getElem?_cons_zero] at hS); (try simp only [Option.getD_some] at hS)))
  go_loopw [6] (fun i wr => ∃ (k : Nat) (z : Int) (v : Value) (X : List (Nat × List Value)), k ≤ gs.length ∧ i = .int .i64 z ∧ z = (k : Int) - 1 ∧ Sl 6 (gs.length - k) v ((gs.drop k).reverse.flatMap Gly.cells) X ∧ Own [] w ([(bb, [v, .slice none 0 0, .int .i64 q0, .int .i64 q1, .int .i64 q2, .int .i64 q3, .int .i64 q4, .int .i64 q5, .int .i64 q6, .int .i64 q7, .int .i64 q8, .int .i64 q9, .int .i64 q10, .int .i64 q11, .int .i64 q12, .int .i64 q13, .int .i64 q14, .int .i64 q15, .int .i64 q16, .int .i64 q17, .int .i64 q18, .int .i64 q19]), (bf, [.slice gx gs.length gc, .slice sx ss.length sc, .int .i64 q0, .int .i64 q1, .int .i64 q2, .int .i64 q3, .int .i64 q4, .int .i64 q5, .int .i64 q6, .int .i64 q7, .int .i64 q8, .int .i64 q9, .int .i64 q10, .int .i64 q11, .int .i64 q12, .int .i64 q13, .int .i64 q14, .int .i64 q15, .int .i64 q16, .int .i64 q17, .int .i64 q18, .int .i64 q19])] ++ X) wr) (fun i _ => (intOf i + 1).toNat)
  case atStart => exact ⟨gs.length, _, _, [], Nat.le_refl _, rfl, by go_num, by simpa using sl_nil 6, by simpa using hS⟩
  case round =>
    clear hS
    obtain ⟨k, z, v, X, hk, rfl, hz, hX, hS⟩ := hrel
    cases k with
    | succ m =>
      obtain rfl : z = (m : Int) := by omega
      have hlt : m < gs.length := by omega
      obtain ⟨g, hg⟩ : ∃ g, gs[m]? = some g := ⟨gs[m], by simp [hlt]⟩
      obtain ⟨b, o, hx, hr0⟩ := HF.out.glys.get hg
      obtain rfl : gx = some ⟨b, o, none⟩ := hx
      clear hz
      go_wp2_with (first
        | (refine own_unguard (by rfl) ?_)
        | (refine own_load1 rfl _ _ rfl rfl hS (by first | exact at0 | exact at1 | exact at2 | exact at3 | exact at4 | exact at5 | exact at6 | exact at7 | exact at8) (by first | exact ot_int | exact ot_string | exact ot_glyphs | exact ot_stretches) (by first | rfl | assumption) ?_)
        | (refine own_load rfl _ _ rfl rfl hS (by first | exact at0 | exact at1 | exact at2 | exact at3 | exact at4 | exact at5 | exact at6 | exact at7 | exact at8) (by first | exact rt_font | exact rt_glyph | exact rt_stretch) ?_)
        | (refine own_load_old rfl _ _ rfl rfl hS (by assumption) (by first | exact List.not_mem_nil | assumption) (by first | exact rt_font | exact rt_glyph | exact rt_stretch) ?_)
        | (refine own_load_has rfl _ _ rfl rfl hS (by assumption) (by first | exact List.not_mem_nil | assumption) (by first | exact rt_font | exact rt_glyph | exact rt_stretch) ?_)
        | (refine own_load1_old rfl _ _ rfl rfl hS (by assumption) (by first | exact List.not_mem_nil | assumption) (by first | exact ot_int | exact ot_string | exact ot_glyphs | exact ot_stretches) ?_)
        | (refine own_load1_has rfl _ _ rfl rfl hS (by assumption) (by first | exact List.not_mem_nil | assumption) (by first | exact ot_int | exact ot_string | exact ot_glyphs | exact ot_stretches) (by first | rfl | assumption) ?_)
        | (refine own_box rfl _ _ rfl rfl hS ?_; clear hS; (try clear ww); intro bb ww hS)
        | (refine own_alloc rfl _ rfl hS (by first | exact zt_font) ?_; clear hS; (try clear ww); intro bb ww hS)
        | (refine own_store rfl _ _ _ rfl rfl rfl hS (by first | exact at0 | exact at1 | exact at2 | exact at3 | exact at4 | exact at5 | exact at6 | exact at7 | exact at8) (by first | exact rt_font | exact rt_glyph | exact rt_stretch) (by rfl) (by rfl) ?_; clear hS; (try clear ww); intro ww hS; (try simp only at hS); (try simp only [List.set_cons_succ] at hS); (try simp only [List.set_cons_zero] at hS))
        | (refine own_store1 rfl _ _ _ rfl rfl rfl rfl hS (by first | exact at0 | exact at1 | exact at2 | exact at3 | exact at4 | exact at5 | exact at6 | exact at7 | exact at8) (by first | exact ot_int | exact ot_string | exact ot_glyphs | exact ot_stretches) (by simp) ?_; clear hS; (try clear ww); intro ww hS; (try simp only at hS); (try simp only [List.set_cons_succ] at hS); (try simp only [List.set_cons_zero] at hS); (try simp only [Act.eval] at hS); (try simp only [Array.getD_eq_getD_getElem?] at hS); (try simp only [List.getElem?_toArray] at hS); (try simp only [List.getElem?_cons_succ] at hS); (try simp only [List.getElem?_cons_zero] at hS); (try simp only [Option.getD_some] at hS)))
      refine own_any hS [8, 10] 11 (by kernel_rfl) (by kernel_rfl) ?_
      clear hS
      intro hcl ww hS
      refine own_batch hS [0, 1, 2, 3, 4, 5, 6] 4 rfl hcl (by kernel_rfl) ?_
      (try simp only); repeat (first | (simp only [List.filterMap_cons]) | (simp only [List.filterMap_nil]) | (simp only [List.getElem?_toArray]) | (simp only [List.getElem?_cons_succ]) | (simp only [List.getElem?_cons_zero]) | (simp only [List.reverse_cons]) | (simp only [List.reverse_nil]) | (simp only [List.nil_append]) | (simp only [List.cons_append]))
      repeat (first
          | (refine g_plain (by with_reducible rfl) ?_
             apply Exists.intro
             refine ⟨?_, ?_⟩
             focus (intro wq hq0; (first | have hq : Own _ _ _ wq := hq0 | have hq : Own _ _ _ wq := hq0.1 | skip); first | (exact givesAt_one rfl rfl (Own.get hq at0) (by rfl) (by first | exact ot_glyphs | exact ot_stretches)) | (exact givesAt_row rfl rfl (Own.get hq at0) (by first | exact rt_glyph | exact rt_stretch)) | (exact givesAt_one rfl rfl (Own.get hq at1) (by rfl) (by first | exact ot_glyphs | exact ot_stretches)) | (exact givesAt_row rfl rfl (Own.get hq at1) (by first | exact rt_glyph | exact rt_stretch)) | (exact givesAt_mid rfl rfl (Own.range hq List.not_mem_nil hr0) (by first | exact rt_glyph | exact rt_stretch)) | (go_simp; first | (with_reducible rfl)))
             simp only [Act.put, List.setIfInBounds_toArray]; (try simp only [List.set_cons_succ]); (try simp only [List.set_cons_zero]))
          | (refine g_at (by with_reducible rfl) (by rfl) (by rfl) (by simp only [List.getElem?_toArray, List.getElem?_cons_succ, List.getElem?_cons_zero]; rfl) ?_
             first | (with_reducible refine QG_tt ?_) | (with_reducible refine QG_ff ?_)
             apply Exists.intro
             refine ⟨?_, ?_⟩
             focus (intro wq hq0; (first | have hq : Own _ _ _ wq := hq0 | have hq : Own _ _ _ wq := hq0.1 | skip); first | (exact givesAt_one rfl rfl (Own.get hq at0) (by rfl) (by first | exact ot_glyphs | exact ot_stretches)) | (exact givesAt_row rfl rfl (Own.get hq at0) (by first | exact rt_glyph | exact rt_stretch)) | (exact givesAt_one rfl rfl (Own.get hq at1) (by rfl) (by first | exact ot_glyphs | exact ot_stretches)) | (exact givesAt_row rfl rfl (Own.get hq at1) (by first | exact rt_glyph | exact rt_stretch)) | (exact givesAt_mid rfl rfl (Own.range hq List.not_mem_nil hr0) (by first | exact rt_glyph | exact rt_stretch)) | (go_simp; first | (with_reducible rfl)))
             simp only [Act.put, List.setIfInBounds_toArray]; (try simp only [List.set_cons_succ]); (try simp only [List.set_cons_zero]))
          | (refine g_at (by with_reducible rfl) (by rfl) (by rfl) (by simp only [List.getElem?_toArray, List.getElem?_cons_succ, List.getElem?_cons_zero]; rfl) ?_
             first | (with_reducible refine QG_tf ?_) | (with_reducible refine QG_ft ?_) | (with_reducible refine QG_u ?_)
             simp only [Act.put, List.setIfInBounds_toArray]; (try simp only [List.set_cons_succ]); (try simp only [List.set_cons_zero])))
      refine g_nil ?_
      clear hS hcl
      intro hcl ww hS
      refine own_soft hS 7 hcl rfl (by kernel_rfl) ?_
      have hO := hS
      clear hS
      intro hS
      refine own_buildSlice rfl _ _ 1 _ rfl (g.cells) hS Try.underlying33 (by kernel_rfl) ?_
      clear hS
      intro b1 w1 hS
      refine wpList_nil ⟨rfl, _, hS, ?_⟩
      clear hS hO hcl
      intro hcl ww hS
      refine own_hard (D := []) (W := w) 8 hcl rfl (by kernel_rfl) (by kernel_rfl) ?_
      refine own_append_new (b := b1) rfl _ _ _ rfl hX rfl rfl (show Own [] w (((b1, g.cells) :: [_, _]) ++ X) ww from hS) rfl rfl el_glyph (by decide) (by simp only [maxLen]; omega) (by omega) ?_
      clear hS hX
      intro v' X' w2 hS hX
      refine wpList_nil ⟨rfl, _, hS, ?_⟩
      clear hS hcl
      intro hcl ww hS
      refine own_batch hS [9] 1 rfl hcl (by kernel_rfl) ?_
      (try simp only); repeat (first | (simp only [List.filterMap_cons]) | (simp only [List.filterMap_nil]) | (simp only [List.getElem?_toArray]) | (simp only [List.getElem?_cons_succ]) | (simp only [List.getElem?_cons_zero]) | (simp only [List.reverse_cons]) | (simp only [List.reverse_nil]) | (simp only [List.nil_append]) | (simp only [List.cons_append]))
      repeat (first
          | (refine g_plain (by with_reducible rfl) ?_
             apply Exists.intro
             refine ⟨?_, ?_⟩
             focus (intro wq hq0; (first | have hq : Own _ _ _ wq := hq0 | have hq : Own _ _ _ wq := hq0.1 | skip); first | (go_simp; first | (with_reducible rfl)))
             simp only [Act.put, List.setIfInBounds_toArray]; (try simp only [List.set_cons_succ]); (try simp only [List.set_cons_zero]))
          | (refine g_at (by with_reducible rfl) (by rfl) (by rfl) (by simp only [List.getElem?_toArray, List.getElem?_cons_succ, List.getElem?_cons_zero]; rfl) ?_
             first | (with_reducible refine QG_tt ?_) | (with_reducible refine QG_ff ?_)
             apply Exists.intro
             refine ⟨?_, ?_⟩
             focus (intro wq hq0; (first | have hq : Own _ _ _ wq := hq0 | have hq : Own _ _ _ wq := hq0.1 | skip); first | (go_simp; first | (with_reducible rfl)))
             simp only [Act.put, List.setIfInBounds_toArray]; (try simp only [List.set_cons_succ]); (try simp only [List.set_cons_zero]))
          | (refine g_at (by with_reducible rfl) (by rfl) (by rfl) (by simp only [List.getElem?_toArray, List.getElem?_cons_succ, List.getElem?_cons_zero]; rfl) ?_
             first | (with_reducible refine QG_tf ?_) | (with_reducible refine QG_ft ?_) | (with_reducible refine QG_u ?_)
             simp only [Act.put, List.setIfInBounds_toArray]; (try simp only [List.set_cons_succ]); (try simp only [List.set_cons_zero])))
      refine g_nil ?_
      clear hS hcl
      intro hcl ww hS
      refine own_hard (D := []) (W := w) 10 hcl rfl (by kernel_rfl) (by kernel_rfl) ?_
      refine own_store1 (v := v') rfl _ _ _ rfl rfl rfl hX.one hS at0 ot_glyphs (by simp) ?_
      clear hS
      intro ww hS
      refine wpList_nil ⟨rfl, _, hS, ?_⟩
      clear hS hcl
      intro hcl ww hS
      refine own_done (by kernel_rfl) ?_
      have HX := Lib.hid hX
      clear hX
      go_wp2_with (first
        | (refine own_unguard (by rfl) ?_)
        | (refine own_load1 rfl _ _ rfl rfl hS (by first | exact at0 | exact at1 | exact at2 | exact at3 | exact at4 | exact at5 | exact at6 | exact at7 | exact at8) (by first | exact ot_int | exact ot_string | exact ot_glyphs | exact ot_stretches) (by first | rfl | assumption) ?_)
        | (refine own_load rfl _ _ rfl rfl hS (by first | exact at0 | exact at1 | exact at2 | exact at3 | exact at4 | exact at5 | exact at6 | exact at7 | exact at8) (by first | exact rt_font | exact rt_glyph | exact rt_stretch) ?_)
        | (refine own_load_old rfl _ _ rfl rfl hS (by assumption) (by first | exact List.not_mem_nil | assumption) (by first | exact rt_font | exact rt_glyph | exact rt_stretch) ?_)
        | (refine own_load_has rfl _ _ rfl rfl hS (by assumption) (by first | exact List.not_mem_nil | assumption) (by first | exact rt_font | exact rt_glyph | exact rt_stretch) ?_)
        | (refine own_load1_old rfl _ _ rfl rfl hS (by assumption) (by first | exact List.not_mem_nil | assumption) (by first | exact ot_int | exact ot_string | exact ot_glyphs | exact ot_stretches) ?_)
        | (refine own_load1_has rfl _ _ rfl rfl hS (by assumption) (by first | exact List.not_mem_nil | assumption) (by first | exact ot_int | exact ot_string | exact ot_glyphs | exact ot_stretches) (by first | rfl | assumption) ?_)
        | (refine own_box rfl _ _ rfl rfl hS ?_; clear hS; (try clear ww); intro bb ww hS)
        | (refine own_alloc rfl _ rfl hS (by first | exact zt_font) ?_; clear hS; (try clear ww); intro bb ww hS)
        | (refine own_store rfl _ _ _ rfl rfl rfl hS (by first | exact at0 | exact at1 | exact at2 | exact at3 | exact at4 | exact at5 | exact at6 | exact at7 | exact at8) (by first | exact rt_font | exact rt_glyph | exact rt_stretch) (by rfl) (by rfl) ?_; clear hS; (try clear ww); intro ww hS; (try simp only at hS); (try simp only [List.set_cons_succ] at hS); (try simp only [List.set_cons_zero] at hS))
        | (refine own_store1 rfl _ _ _ rfl rfl rfl rfl hS (by first | exact at0 | exact at1 | exact at2 | exact at3 | exact at4 | exact at5 | exact at6 | exact at7 | exact at8) (by first | exact ot_int | exact ot_string | exact ot_glyphs | exact ot_stretches) (by simp) ?_; clear hS; (try clear ww); intro ww hS; (try simp only at hS); (try simp only [List.set_cons_succ] at hS); (try simp only [List.set_cons_zero] at hS); (try simp only [Act.eval] at hS); (try simp only [Array.getD_eq_getD_getElem?] at hS); (try simp only [List.getElem?_toArray] at hS); (try simp only [List.getElem?_cons_succ] at hS); (try simp only [List.getElem?_cons_zero] at hS); (try simp only [Option.getD_some] at hS)))
      go_roundw
      case rel => exact ⟨m, _, v', X', by omega, rfl, by go_num, sl_step hg HX.out, hS⟩
      case measure => simp [intOf]
    | zero =>
      obtain rfl : z = -1 := by omega
      have HX1 := Lib.hid (show Sl 6 gs.length v (gs.reverse.flatMap Gly.cells) X by simpa using hX)
      clear hX hz hk
      go_wp2_with (first
        | (refine own_unguard (by rfl) ?_)
        | (refine own_load1 rfl _ _ rfl rfl hS (by first | exact at0 | exact at1 | exact at2 | exact at3 | exact at4 | exact at5 | exact at6 | exact at7 | exact at8) (by first | exact ot_int | exact ot_string | exact ot_glyphs | exact ot_stretches) (by first | rfl | assumption) ?_)
        | (refine own_load rfl _ _ rfl rfl hS (by first | exact at0 | exact at1 | exact at2 | exact at3 | exact at4 | exact at5 | exact at6 | exact at7 | exact at8) (by first | exact rt_font | exact rt_glyph | exact rt_stretch) ?_)
        | (refine own_load_old rfl _ _ rfl rfl hS (by assumption) (by first | exact List.not_mem_nil | assumption) (by first | exact rt_font | exact rt_glyph | exact rt_stretch) ?_)
        | (refine own_load_has rfl _ _ rfl rfl hS (by assumption) (by first | exact List.not_mem_nil | assumption) (by first | exact rt_font | exact rt_glyph | exact rt_stretch) ?_)
        | (refine own_load1_old rfl _ _ rfl rfl hS (by assumption) (by first | exact List.not_mem_nil | assumption) (by first | exact ot_int | exact ot_string | exact ot_glyphs | exact ot_stretches) ?_)
        | (refine own_load1_has rfl _ _ rfl rfl hS (by assumption) (by first | exact List.not_mem_nil | assumption) (by first | exact ot_int | exact ot_string | exact ot_glyphs | exact ot_stretches) (by first | rfl | assumption) ?_)
        | (refine own_box rfl _ _ rfl rfl hS ?_; clear hS; (try clear ww); intro bb ww hS)
        | (refine own_alloc rfl _ rfl hS (by first | exact zt_font) ?_; clear hS; (try clear ww); intro bb ww hS)
        | (refine own_store rfl _ _ _ rfl rfl rfl hS (by first | exact at0 | exact at1 | exact at2 | exact at3 | exact at4 | exact at5 | exact at6 | exact at7 | exact at8) (by first | exact rt_font | exact rt_glyph | exact rt_stretch) (by rfl) (by rfl) ?_; clear hS; (try clear ww); intro ww hS; (try simp only at hS); (try simp only [List.set_cons_succ] at hS); (try simp only [List.set_cons_zero] at hS))
        | (refine own_store1 rfl _ _ _ rfl rfl rfl rfl hS (by first | exact at0 | exact at1 | exact at2 | exact at3 | exact at4 | exact at5 | exact at6 | exact at7 | exact at8) (by first | exact ot_int | exact ot_string | exact ot_glyphs | exact ot_stretches) (by simp) ?_; clear hS; (try clear ww); intro ww hS; (try simp only at hS); (try simp only [List.set_cons_succ] at hS); (try simp only [List.set_cons_zero] at hS); (try simp only [Act.eval] at hS); (try simp only [Array.getD_eq_getD_getElem?] at hS); (try simp only [List.getElem?_toArray] at hS); (try simp only [List.getElem?_cons_succ] at hS); (try simp only [List.getElem?_cons_zero] at hS); (try simp only [Option.getD_some] at hS)))
      go_loopw [7] (fun i wr => ∃ (k : Nat) (z : Int) (v2 : Value) (X2 : List (Nat × List Value)), k ≤ ss.length ∧ i = .int .i64 z ∧ z = (k : Int) - 1 ∧ Sl 4 (ss.length - k) v2 ((ss.drop k).reverse.flatMap Str.cells) X2 ∧ Own [] w (([(bb, [v, v2, .int .i64 q0, .int .i64 q1, .int .i64 q2, .int .i64 q3, .int .i64 q4, .int .i64 q5, .int .i64 q6, .int .i64 q7, .int .i64 q8, .int .i64 q9, .int .i64 q10, .int .i64 q11, .int .i64 q12, .int .i64 q13, .int .i64 q14, .int .i64 q15, .int .i64 q16, .int .i64 q17, .int .i64 q18, .int .i64 q19]), (bf, [.slice gx gs.length gc, .slice sx ss.length sc, .int .i64 q0, .int .i64 q1, .int .i64 q2, .int .i64 q3, .int .i64 q4, .int .i64 q5, .int .i64 q6, .int .i64 q7, .int .i64 q8, .int .i64 q9, .int .i64 q10, .int .i64 q11, .int .i64 q12, .int .i64 q13, .int .i64 q14, .int .i64 q15, .int .i64 q16, .int .i64 q17, .int .i64 q18, .int .i64 q19])] ++ X) ++ X2) wr) (fun i _ => (intOf i + 1).toNat)
      case atStart => exact ⟨ss.length, _, _, [], Nat.le_refl _, rfl, by go_num, by simpa using sl_nil 4, by simpa using hS⟩
      case round =>
        clear hS
        obtain ⟨k, z, v2, X2, hk, rfl, hz, hX, hS⟩ := hrel
        cases k with
        | succ m =>
          obtain rfl : z = (m : Int) := by omega
          have hlt : m < ss.length := by omega
          obtain ⟨t, ht⟩ : ∃ t, ss[m]? = some t := ⟨ss[m], by simp [hlt]⟩
          obtain ⟨b, o, hx, hr0⟩ := HF.out.strs.get ht
          obtain rfl : sx = some ⟨b, o, none⟩ := hx
          clear hz
          go_wp2_with (first
            | (refine own_unguard (by rfl) ?_)
            | (refine own_load1 rfl _ _ rfl rfl hS (by first | exact at0 | exact at1 | exact at2 | exact at3 | exact at4 | exact at5 | exact at6 | exact at7 | exact at8) (by first | exact ot_int | exact ot_string | exact ot_glyphs | exact ot_stretches) (by first | rfl | assumption) ?_)
            | (refine own_load rfl _ _ rfl rfl hS (by first | exact at0 | exact at1 | exact at2 | exact at3 | exact at4 | exact at5 | exact at6 | exact at7 | exact at8) (by first | exact rt_font | exact rt_glyph | exact rt_stretch) ?_)
            | (refine own_load_old rfl _ _ rfl rfl hS (by assumption) (by first | exact List.not_mem_nil | assumption) (by first | exact rt_font | exact rt_glyph | exact rt_stretch) ?_)
            | (refine own_load_has rfl _ _ rfl rfl hS (by assumption) (by first | exact List.not_mem_nil | assumption) (by first | exact rt_font | exact rt_glyph | exact rt_stretch) ?_)
            | (refine own_load1_old rfl _ _ rfl rfl hS (by assumption) (by first | exact List.not_mem_nil | assumption) (by first | exact ot_int | exact ot_string | exact ot_glyphs | exact ot_stretches) ?_)
            | (refine own_load1_has rfl _ _ rfl rfl hS (by assumption) (by first | exact List.not_mem_nil | assumption) (by first | exact ot_int | exact ot_string | exact ot_glyphs | exact ot_stretches) (by first | rfl | assumption) ?_)
            | (refine own_box rfl _ _ rfl rfl hS ?_; clear hS; (try clear ww); intro bb ww hS)
            | (refine own_alloc rfl _ rfl hS (by first | exact zt_font) ?_; clear hS; (try clear ww); intro bb ww hS)
            | (refine own_store rfl _ _ _ rfl rfl rfl hS (by first | exact at0 | exact at1 | exact at2 | exact at3 | exact at4 | exact at5 | exact at6 | exact at7 | exact at8) (by first | exact rt_font | exact rt_glyph | exact rt_stretch) (by rfl) (by rfl) ?_; clear hS; (try clear ww); intro ww hS; (try simp only at hS); (try simp only [List.set_cons_succ] at hS); (try simp only [List.set_cons_zero] at hS))
            | (refine own_store1 rfl _ _ _ rfl rfl rfl rfl hS (by first | exact at0 | exact at1 | exact at2 | exact at3 | exact at4 | exact at5 | exact at6 | exact at7 | exact at8) (by first | exact ot_int | exact ot_string | exact ot_glyphs | exact ot_stretches) (by simp) ?_; clear hS; (try clear ww); intro ww hS; (try simp only at hS); (try simp only [List.set_cons_succ] at hS); (try simp only [List.set_cons_zero] at hS); (try simp only [Act.eval] at hS); (try simp only [Array.getD_eq_getD_getElem?] at hS); (try simp only [List.getElem?_toArray] at hS); (try simp only [List.getElem?_cons_succ] at hS); (try simp only [List.getElem?_cons_zero] at hS); (try simp only [Option.getD_some] at hS)))
          refine own_any hS [8, 10] 11 (by kernel_rfl) (by kernel_rfl) ?_
          clear hS
          intro hcl ww hS
          refine own_batch hS [0, 1, 2, 3, 4, 5, 6] 4 rfl hcl (by kernel_rfl) ?_
          (try simp only); repeat (first | (simp only [List.filterMap_cons]) | (simp only [List.filterMap_nil]) | (simp only [List.getElem?_toArray]) | (simp only [List.getElem?_cons_succ]) | (simp only [List.getElem?_cons_zero]) | (simp only [List.reverse_cons]) | (simp only [List.reverse_nil]) | (simp only [List.nil_append]) | (simp only [List.cons_append]))
          repeat (first
              | (refine g_plain (by with_reducible rfl) ?_
                 apply Exists.intro
                 refine ⟨?_, ?_⟩
                 focus (intro wq hq0; (first | have hq : Own _ _ _ wq := hq0 | have hq : Own _ _ _ wq := hq0.1 | skip); first | (exact givesAt_one rfl rfl (Own.get hq at0) (by rfl) (by first | exact ot_glyphs | exact ot_stretches)) | (exact givesAt_row rfl rfl (Own.get hq at0) (by first | exact rt_glyph | exact rt_stretch)) | (exact givesAt_one rfl rfl (Own.get hq at1) (by rfl) (by first | exact ot_glyphs | exact ot_stretches)) | (exact givesAt_row rfl rfl (Own.get hq at1) (by first | exact rt_glyph | exact rt_stretch)) | (exact givesAt_mid rfl rfl (Own.range hq List.not_mem_nil hr0) (by first | exact rt_glyph | exact rt_stretch)) | (go_simp; first | (with_reducible rfl)))
                 simp only [Act.put, List.setIfInBounds_toArray]; (try simp only [List.set_cons_succ]); (try simp only [List.set_cons_zero]))
              | (refine g_at (by with_reducible rfl) (by rfl) (by rfl) (by simp only [List.getElem?_toArray, List.getElem?_cons_succ, List.getElem?_cons_zero]; rfl) ?_
                 first | (with_reducible refine QG_tt ?_) | (with_reducible refine QG_ff ?_)
                 apply Exists.intro
                 refine ⟨?_, ?_⟩
                 focus (intro wq hq0; (first | have hq : Own _ _ _ wq := hq0 | have hq : Own _ _ _ wq := hq0.1 | skip); first | (exact givesAt_one rfl rfl (Own.get hq at0) (by rfl) (by first | exact ot_glyphs | exact ot_stretches)) | (exact givesAt_row rfl rfl (Own.get hq at0) (by first | exact rt_glyph | exact rt_stretch)) | (exact givesAt_one rfl rfl (Own.get hq at1) (by rfl) (by first | exact ot_glyphs | exact ot_stretches)) | (exact givesAt_row rfl rfl (Own.get hq at1) (by first | exact rt_glyph | exact rt_stretch)) | (exact givesAt_mid rfl rfl (Own.range hq List.not_mem_nil hr0) (by first | exact rt_glyph | exact rt_stretch)) | (go_simp; first | (with_reducible rfl)))
                 simp only [Act.put, List.setIfInBounds_toArray]; (try simp only [List.set_cons_succ]); (try simp only [List.set_cons_zero]))
              | (refine g_at (by with_reducible rfl) (by rfl) (by rfl) (by simp only [List.getElem?_toArray, List.getElem?_cons_succ, List.getElem?_cons_zero]; rfl) ?_
                 first | (with_reducible refine QG_tf ?_) | (with_reducible refine QG_ft ?_) | (with_reducible refine QG_u ?_)
                 simp only [Act.put, List.setIfInBounds_toArray]; (try simp only [List.set_cons_succ]); (try simp only [List.set_cons_zero])))
          refine g_nil ?_
          clear hS hcl
          intro hcl ww hS
          refine own_soft hS 7 hcl rfl (by kernel_rfl) ?_
          have hO := hS
          clear hS
          intro hS
          refine own_buildSlice rfl _ _ 1 _ rfl (t.cells) hS Try.underlying34 (by kernel_rfl) ?_
          clear hS
          intro b1 w1 hS
          refine wpList_nil ⟨rfl, _, hS, ?_⟩
          clear hS hO hcl
          intro hcl ww hS
          refine own_hard (D := []) (W := w) 8 hcl rfl (by kernel_rfl) (by kernel_rfl) ?_
          refine own_append_new (b := b1) rfl _ _ _ rfl hX rfl rfl (show Own [] w (((b1, t.cells) :: ([_, _] ++ X)) ++ X2) ww from hS) rfl rfl el_stretch (by decide) (by simp only [maxLen]; omega) (by omega) ?_
          clear hS hX
          intro v' X' w2 hS hX
          refine wpList_nil ⟨rfl, _, hS, ?_⟩
          clear hS hcl
          intro hcl ww hS
          refine own_batch hS [9] 1 rfl hcl (by kernel_rfl) ?_
          (try simp only); repeat (first | (simp only [List.filterMap_cons]) | (simp only [List.filterMap_nil]) | (simp only [List.getElem?_toArray]) | (simp only [List.getElem?_cons_succ]) | (simp only [List.getElem?_cons_zero]) | (simp only [List.reverse_cons]) | (simp only [List.reverse_nil]) | (simp only [List.nil_append]) | (simp only [List.cons_append]))
          repeat (first
              | (refine g_plain (by with_reducible rfl) ?_
                 apply Exists.intro
                 refine ⟨?_, ?_⟩
                 focus (intro wq hq0; (first | have hq : Own _ _ _ wq := hq0 | have hq : Own _ _ _ wq := hq0.1 | skip); first | (go_simp; first | (with_reducible rfl)))
                 simp only [Act.put, List.setIfInBounds_toArray]; (try simp only [List.set_cons_succ]); (try simp only [List.set_cons_zero]))
              | (refine g_at (by with_reducible rfl) (by rfl) (by rfl) (by simp only [List.getElem?_toArray, List.getElem?_cons_succ, List.getElem?_cons_zero]; rfl) ?_
                 first | (with_reducible refine QG_tt ?_) | (with_reducible refine QG_ff ?_)
                 apply Exists.intro
                 refine ⟨?_, ?_⟩
                 focus (intro wq hq0; (first | have hq : Own _ _ _ wq := hq0 | have hq : Own _ _ _ wq := hq0.1 | skip); first | (go_simp; first | (with_reducible rfl)))
                 simp only [Act.put, List.setIfInBounds_toArray]; (try simp only [List.set_cons_succ]); (try simp only [List.set_cons_zero]))
              | (refine g_at (by with_reducible rfl) (by rfl) (by rfl) (by simp only [List.getElem?_toArray, List.getElem?_cons_succ, List.getElem?_cons_zero]; rfl) ?_
                 first | (with_reducible refine QG_tf ?_) | (with_reducible refine QG_ft ?_) | (with_reducible refine QG_u ?_)
                 simp only [Act.put, List.setIfInBounds_toArray]; (try simp only [List.set_cons_succ]); (try simp only [List.set_cons_zero])))
          refine g_nil ?_
          clear hS hcl
          intro hcl ww hS
          refine own_hard (D := []) (W := w) 10 hcl rfl (by kernel_rfl) (by kernel_rfl) ?_
          refine own_store1 (v := v') rfl _ _ _ rfl rfl rfl hX.one hS at0 ot_stretches (by simp) ?_
          clear hS
          intro ww hS
          refine wpList_nil ⟨rfl, _, hS, ?_⟩
          clear hS hcl
          intro hcl ww hS
          refine own_done (by kernel_rfl) ?_
          have HX := Lib.hid hX
          clear hX
          go_wp2_with (first
            | (refine own_unguard (by rfl) ?_)
            | (refine own_load1 rfl _ _ rfl rfl hS (by first | exact at0 | exact at1 | exact at2 | exact at3 | exact at4 | exact at5 | exact at6 | exact at7 | exact at8) (by first | exact ot_int | exact ot_string | exact ot_glyphs | exact ot_stretches) (by first | rfl | assumption) ?_)
            | (refine own_load rfl _ _ rfl rfl hS (by first | exact at0 | exact at1 | exact at2 | exact at3 | exact at4 | exact at5 | exact at6 | exact at7 | exact at8) (by first | exact rt_font | exact rt_glyph | exact rt_stretch) ?_)
            | (refine own_load_old rfl _ _ rfl rfl hS (by assumption) (by first | exact List.not_mem_nil | assumption) (by first | exact rt_font | exact rt_glyph | exact rt_stretch) ?_)
            | (refine own_load_has rfl _ _ rfl rfl hS (by assumption) (by first | exact List.not_mem_nil | assumption) (by first | exact rt_font | exact rt_glyph | exact rt_stretch) ?_)
            | (refine own_load1_old rfl _ _ rfl rfl hS (by assumption) (by first | exact List.not_mem_nil | assumption) (by first | exact ot_int | exact ot_string | exact ot_glyphs | exact ot_stretches) ?_)
            | (refine own_load1_has rfl _ _ rfl rfl hS (by assumption) (by first | exact List.not_mem_nil | assumption) (by first | exact ot_int | exact ot_string | exact ot_glyphs | exact ot_stretches) (by first | rfl | assumption) ?_)
            | (refine own_box rfl _ _ rfl rfl hS ?_; clear hS; (try clear ww); intro bb ww hS)
            | (refine own_alloc rfl _ rfl hS (by first | exact zt_font) ?_; clear hS; (try clear ww); intro bb ww hS)
            | (refine own_store rfl _ _ _ rfl rfl rfl hS (by first | exact at0 | exact at1 | exact at2 | exact at3 | exact at4 | exact at5 | exact at6 | exact at7 | exact at8) (by first | exact rt_font | exact rt_glyph | exact rt_stretch) (by rfl) (by rfl) ?_; clear hS; (try clear ww); intro ww hS; (try simp only at hS); (try simp only [List.set_cons_succ] at hS); (try simp only [List.set_cons_zero] at hS))
            | (refine own_store1 rfl _ _ _ rfl rfl rfl rfl hS (by first | exact at0 | exact at1 | exact at2 | exact at3 | exact at4 | exact at5 | exact at6 | exact at7 | exact at8) (by first | exact ot_int | exact ot_string | exact ot_glyphs | exact ot_stretches) (by simp) ?_; clear hS; (try clear ww); intro ww hS; (try simp only at hS); (try simp only [List.set_cons_succ] at hS); (try simp only [List.set_cons_zero] at hS); (try simp only [Act.eval] at hS); (try simp only [Array.getD_eq_getD_getElem?] at hS); (try simp only [List.getElem?_toArray] at hS); (try simp only [List.getElem?_cons_succ] at hS); (try simp only [List.getElem?_cons_zero] at hS); (try simp only [Option.getD_some] at hS)))
          go_roundw
          case rel => exact ⟨m, _, v', X', by omega, rfl, by go_num, sl_step ht HX.out, hS⟩
          case measure => simp [intOf]
        | zero =>
          obtain rfl : z = -1 := by omega
          have HX2 := Lib.hid (show Sl 4 ss.length v2 (ss.reverse.flatMap Str.cells) X2 by simpa using hX)
          clear hX hz hk
          have HO := hS
          obtain ⟨y1, c1, rfl, hr1, hc1, hm1⟩ := Sl.rowAt HO (fun x hx => by simp [hx]) HX1.out (fun _ => rfl) (by decide)
          obtain ⟨y2, c2, rfl, hr2, hc2, hm2⟩ := Sl.rowAt HO (fun x hx => by simp [hx]) HX2.out (fun _ => rfl) (by decide)
          have hV2 : ValidF ⟨y1, c1, gs.reverse, y2, c2, ss.reverse, q0, q1, q2, q3, q4, q5, q6, q7, q8, q9, q10, q11, q12, q13, q14, q15, q16, q17, q18, q19⟩ := ⟨by simpa using hg4, by simpa using hs4, HV.out.2.2.1, glysOk_rev HV.out.2.2.2.1, strsReq_rev HV.out.2.2.2.1 HV.out.2.2.2.2⟩
          have hF1 := HF.out.below HO.below
          have hT1 : FntOk wr ⟨y1, c1, gs.reverse, y2, c2, ss.reverse, q0, q1, q2, q3, q4, q5, q6, q7, q8, q9, q10, q11, q12, q13, q14, q15, q16, q17, q18, q19⟩ := { glys := hr1, strs := hr2, gok := fun g hg => hF1.gok g (List.mem_reverse.1 hg), sok := fun s hs => hF1.sok s (List.mem_reverse.1 hs), glen := by have := hF1.glen; simpa using this, slen := by have := hF1.slen; simpa using this, gcap := ⟨hc1, fun _ => hm1⟩, scap := ⟨hc2, fun _ => hm2⟩, prm := hF1.prm }
          have hN := fewB_iff.1 HE.out
          simp only at hN
          have hq2 : ∀ t ∈ ss.reverse, t.sizes.length ≤ 50 ∧ t.parts.length ≤ 50 := fun t ht => hN.2.2 t (List.mem_reverse.1 ht)
          have e1 : ∀ n, findG gs.reverse n = findG gs n := findG_rev HV.out.2.2.2.1
          have e2 : ∀ n, findS ss.reverse n = findS ss n := findS_rev HV.out.2.2.2.2
          have e3 : ∀ n, pickG gs.reverse n = pickG gs n := pickG_rev HV.out.2.2.2.1
          have hl1 : gs.reverse.length ≤ 500 := by rw [List.length_reverse]; omega
          have hL := show ((findS ss s).getD zeroS).sizes.length ≤ 50 ∧ ((findS ss s).getD zeroS).parts.length ≤ 50 by
            cases h : findS ss s with
            | none => exact ⟨by simp [zeroS], by simp [zeroS]⟩
            | some t => exact hN.2.2 t (List.mem_of_find?_eq_some h)
          generalize gs.reverse = gr at *
          generalize ss.reverse = sr at *
          have m0 := HO.get at0
          have m1 := HO.get at1
          have hB0 := HO.below
          have HF1 := Lib.hid hF1
          have HT1 := Lib.hid hT1
          have HV2 := Lib.hid hV2
          have HN := Lib.hid hN
          have HQ2 := Lib.hid hq2
          have HL := Lib.hid hL
          have HL1 := Lib.hid hl1
          have E1 := Lib.hid (e1 s)
          have E2 := Lib.hid (e2 s)
          have E3 := Lib.hid (e3 s)
          have tok1 : True := trivial
          clear hS HO HX1 HX2 hV2 hF1 hT1 hN hq2 hL hl1 e1 e2 e3 hr1 hr2 hc1 hc2 hm1 hm2 HF
          have hS := own_start wr
          go_wp2_with (first
            | (refine own_unguard (by rfl) ?_)
            | (go_at_call 15; have _t := tok1; refine own_calls hS (font_find ⟨gx, gc, gs, sx, sc, ss, q0, q1, q2, q3, q4, q5, q6, q7, q8, q9, q10, q11, q12, q13, q14, q15, q16, q17, q18, q19⟩ s _ (HF1.out.below hS.below) HN.out.1) ?_; clear hS tok1; (try clear ww); intro ww hS)
            | (go_at_call 15; refine own_calls hS (find_as (F := ⟨y1, c1, gr, y2, c2, sr, q0, q1, q2, q3, q4, q5, q6, q7, q8, q9, q10, q11, q12, q13, q14, q15, q16, q17, q18, q19⟩) (gs := gs) (HT1.out.below hS.below) HL1.out E1) ?_; clear hS; (try clear ww); intro ww hS)
            | (refine own_load1 rfl _ _ rfl rfl hS (by first | exact at0 | exact at1 | exact at2 | exact at3 | exact at4 | exact at5 | exact at6 | exact at7 | exact at8) (by first | exact ot_int | exact ot_string) (by first | rfl | assumption) ?_)
            | (refine own_load rfl _ _ rfl rfl hS (by first | exact at0 | exact at1 | exact at2 | exact at3 | exact at4 | exact at5 | exact at6 | exact at7 | exact at8) (by first | exact rt_font | exact rt_glyph | exact rt_stretch) ?_)
            | (refine own_load_old rfl _ _ rfl rfl hS (by assumption) (by first | exact List.not_mem_nil | assumption) (by first | exact rt_font | exact rt_glyph | exact rt_stretch) ?_)
            | (refine own_load_has rfl _ _ rfl rfl hS (by assumption) (by first | exact List.not_mem_nil | assumption) (by first | exact rt_font | exact rt_glyph | exact rt_stretch) ?_)
            | (refine own_load1_old rfl _ _ rfl rfl hS (by assumption) (by first | exact List.not_mem_nil | assumption) (by first | exact ot_int | exact ot_string) ?_)
            | (refine own_load1_has rfl _ _ rfl rfl hS (by assumption) (by first | exact List.not_mem_nil | assumption) (by first | exact ot_int | exact ot_string) (by first | rfl | assumption) ?_)
            | (refine own_box rfl _ _ rfl rfl hS ?_; clear hS; (try clear ww); intro bb ww hS)
            | (refine own_alloc rfl _ rfl hS (by first | exact zt_glyph | exact zt_stretch) ?_; clear hS; (try clear ww); intro bb ww hS)
            | (refine own_store rfl _ _ _ rfl rfl rfl hS (by first | exact at0 | exact at1 | exact at2 | exact at3 | exact at4 | exact at5 | exact at6 | exact at7 | exact at8) (by first | exact rt_font | exact rt_glyph | exact rt_stretch) (by rfl) (by rfl) ?_; clear hS; (try clear ww); intro ww hS; (try simp only at hS); (try simp only [List.set_cons_succ] at hS); (try simp only [List.set_cons_zero] at hS))
            | (refine own_store1 rfl _ _ _ rfl rfl rfl rfl hS (by first | exact at0 | exact at1 | exact at2 | exact at3 | exact at4 | exact at5 | exact at6 | exact at7 | exact at8) (by first | exact ot_int | exact ot_string) (by simp) ?_; clear hS; (try clear ww); intro ww hS; (try simp only at hS); (try simp only [List.set_cons_succ] at hS); (try simp only [List.set_cons_zero] at hS); (try simp only [Act.eval] at hS); (try simp only [Array.getD_eq_getD_getElem?] at hS); (try simp only [List.getElem?_toArray] at hS); (try simp only [List.getElem?_cons_succ] at hS); (try simp only [List.getElem?_cons_zero] at hS); (try simp only [Option.getD_some] at hS)))
          refine own_stretch hS (font_Stretch_calls ⟨gx, gc, gs, sx, sc, ss, q0, q1, q2, q3, q4, q5, q6, q7, q8, q9, q10, q11, q12, q13, q14, q15, q16, q17, q18, q19⟩ s _ (HF1.out.below hS.below) HN.out.2.2) ?_
          intro t1 w1 h1 h2 hT
          have hF1 : FntOk w1 ⟨gx, gc, gs, sx, sc, ss, q0, q1, q2, q3, q4, q5, q6, q7, q8, q9, q10, q11, q12, q13, q14, q15, q16, q17, q18, q19⟩ := HF1.out.below hT.below
          have hT1 : FntOk w1 ⟨y1, c1, gr, y2, c2, sr, q0, q1, q2, q3, q4, q5, q6, q7, q8, q9, q10, q11, q12, q13, q14, q15, q16, q17, q18, q19⟩ := HT1.out.below hT.below
          have k0 := hT.get at0
          have k1 := hT.get at1
          have k3 := hT.hasOld List.not_mem_nil m0
          have k4 := hT.hasOld List.not_mem_nil m1
          have hB1 := bthen hB0 hT.below
          clear hS hT HF1 HT1 m0 m1 hB0
          (try clear ww)
          have HF1 := Lib.hid hF1
          have HT1 := Lib.hid hT1
          clear hF1 hT1
          obtain ⟨n1, x1, c3, z1, p1, d1, l1, o1⟩ := t1
          have hS := own_start w1
          go_wp2_with (first
            | (refine own_unguard (by rfl) ?_)
            | (refine own_load1 rfl _ _ rfl rfl hS (by first | exact at0 | exact at1 | exact at2 | exact at3 | exact at4 | exact at5 | exact at6 | exact at7 | exact at8) (by first | exact ot_int | exact ot_string) (by first | rfl | assumption) ?_)
            | (refine own_load rfl _ _ rfl rfl hS (by first | exact at0 | exact at1 | exact at2 | exact at3 | exact at4 | exact at5 | exact at6 | exact at7 | exact at8) (by first | exact rt_font | exact rt_glyph | exact rt_stretch) ?_)
            | (refine own_load_old rfl _ _ rfl rfl hS (by assumption) (by first | exact List.not_mem_nil | assumption) (by first | exact rt_font | exact rt_glyph | exact rt_stretch) ?_)
            | (refine own_load_has rfl _ _ rfl rfl hS (by assumption) (by first | exact List.not_mem_nil | assumption) (by first | exact rt_font | exact rt_glyph | exact rt_stretch) ?_)
            | (refine own_load1_old rfl _ _ rfl rfl hS (by assumption) (by first | exact List.not_mem_nil | assumption) (by first | exact ot_int | exact ot_string) ?_)
            | (refine own_load1_has rfl _ _ rfl rfl hS (by assumption) (by first | exact List.not_mem_nil | assumption) (by first | exact ot_int | exact ot_string) (by first | rfl | assumption) ?_)
            | (refine own_box rfl _ _ rfl rfl hS ?_; clear hS; (try clear ww); intro bb ww hS)
            | (refine own_alloc rfl _ rfl hS (by first | exact zt_glyph | exact zt_stretch) ?_; clear hS; (try clear ww); intro bb ww hS)
            | (refine own_store rfl _ _ _ rfl rfl rfl hS (by first | exact at0 | exact at1 | exact at2 | exact at3 | exact at4 | exact at5 | exact at6 | exact at7 | exact at8) (by first | exact rt_font | exact rt_glyph | exact rt_stretch) (by rfl) (by rfl) ?_; clear hS; (try clear ww); intro ww hS; (try simp only at hS); (try simp only [List.set_cons_succ] at hS); (try simp only [List.set_cons_zero] at hS))
            | (refine own_store1 rfl _ _ _ rfl rfl rfl rfl hS (by first | exact at0 | exact at1 | exact at2 | exact at3 | exact at4 | exact at5 | exact at6 | exact at7 | exact at8) (by first | exact ot_int | exact ot_string) (by simp) ?_; clear hS; (try clear ww); intro ww hS; (try simp only at hS); (try simp only [List.set_cons_succ] at hS); (try simp only [List.set_cons_zero] at hS); (try simp only [Act.eval] at hS); (try simp only [Array.getD_eq_getD_getElem?] at hS); (try simp only [List.getElem?_toArray] at hS); (try simp only [List.getElem?_cons_succ] at hS); (try simp only [List.getElem?_cons_zero] at hS); (try simp only [Option.getD_some] at hS)))
          refine own_stretch hS (stretch_as (F := ⟨y1, c1, gr, y2, c2, sr, q0, q1, q2, q3, q4, q5, q6, q7, q8, q9, q10, q11, q12, q13, q14, q15, q16, q17, q18, q19⟩) (ss := ss) (HT1.out.below hS.below) HQ2.out E2) ?_
          intro t2 w2 h3 h4 hT
          have HF2 := Lib.hid (HF1.out.below hT.below)
          have HT2 := Lib.hid (HT1.out.below hT.below)
          have m0 := hT.get at0
          have j0 := hT.hasOld List.not_mem_nil k0
          have j1 := hT.hasOld List.not_mem_nil k1
          have j3 := hT.hasOld List.not_mem_nil k3
          have j4 := hT.hasOld List.not_mem_nil k4
          have hB2 := bthen hB1 hT.below
          have h5 := h2.below hT.below
          clear hS hT HF1 HT1 k0 k1 k3 k4 hB1 h2
          (try clear ww)
          obtain ⟨n2, x2, c4, z2, p2, d2, l2, o2⟩ := t2
          generalize (findS ss s).getD zeroS = S0 at *
          generalize (findS ss s).isSome = B0 at *
          generalize (findG gs s).getD nilG = G0 at *
          generalize (findG gs s).isSome = B1 at *
          unfold Str.Same at h1 h3
          simp only at h1 h3
          obtain ⟨rfl, rfl, rfl, rfl⟩ := h1
          obtain ⟨rfl, rfl, rfl, rfl⟩ := h3
          have HX := Lib.hid h5
          have HY := Lib.hid h4
          clear h5 h4
          have hS := own_start w2
          have tok1 : True := trivial
          go_wp2_with (first
            | (refine own_unguard (by rfl) ?_)
            | (refine own_load1 rfl _ _ rfl rfl hS (by first | exact at0 | exact at1 | exact at2 | exact at3 | exact at4 | exact at5 | exact at6 | exact at7 | exact at8) (by first | exact ot_int | exact ot_string) (by first | rfl | assumption) ?_)
            | (refine own_load rfl _ _ rfl rfl hS (by first | exact at0 | exact at1 | exact at2 | exact at3 | exact at4 | exact at5 | exact at6 | exact at7 | exact at8) (by first | exact rt_font | exact rt_glyph | exact rt_stretch) ?_)
            | (refine own_load_old rfl _ _ rfl rfl hS (by assumption) (by first | exact List.not_mem_nil | assumption) (by first | exact rt_font | exact rt_glyph | exact rt_stretch) ?_)
            | (refine own_load_has rfl _ _ rfl rfl hS (by assumption) (by first | exact List.not_mem_nil | assumption) (by first | exact rt_font | exact rt_glyph | exact rt_stretch) ?_)
            | (refine own_load1_old rfl _ _ rfl rfl hS (by assumption) (by first | exact List.not_mem_nil | assumption) (by first | exact ot_int | exact ot_string) ?_)
            | (refine own_load1_has rfl _ _ rfl rfl hS (by assumption) (by first | exact List.not_mem_nil | assumption) (by first | exact ot_int | exact ot_string) (by first | rfl | assumption) ?_)
            | (refine own_box rfl _ _ rfl rfl hS ?_; clear hS; (try clear ww); intro bb ww hS)
            | (refine own_alloc rfl _ rfl hS (by first | exact zt_glyph | exact zt_stretch) ?_; clear hS; (try clear ww); intro bb ww hS)
            | (refine own_store rfl _ _ _ rfl rfl rfl hS (by first | exact at0 | exact at1 | exact at2 | exact at3 | exact at4 | exact at5 | exact at6 | exact at7 | exact at8) (by first | exact rt_font | exact rt_glyph | exact rt_stretch) (by rfl) (by rfl) ?_; clear hS; (try clear ww); intro ww hS; (try simp only at hS); (try simp only [List.set_cons_succ] at hS); (try simp only [List.set_cons_zero] at hS))
            | (refine own_store1 rfl _ _ _ rfl rfl rfl rfl hS (by first | exact at0 | exact at1 | exact at2 | exact at3 | exact at4 | exact at5 | exact at6 | exact at7 | exact at8) (by first | exact ot_int | exact ot_string) (by simp) ?_; clear hS; (try clear ww); intro ww hS; (try simp only at hS); (try simp only [List.set_cons_succ] at hS); (try simp only [List.set_cons_zero] at hS); (try simp only [Act.eval] at hS); (try simp only [Array.getD_eq_getD_getElem?] at hS); (try simp only [List.getElem?_toArray] at hS); (try simp only [List.getElem?_cons_succ] at hS); (try simp only [List.getElem?_cons_zero] at hS); (try simp only [Option.getD_some] at hS)))
          refine own_region hS (by kernel_rfl) (by kernel_rfl) ?_
          (try simp only); (try simp only [List.drop_succ_cons]); (try simp only [List.drop_zero]); (try simp only [List.take_succ_cons]); (try simp only [List.take_zero])
          repeat (first
              | (refine quiet_plain (by with_reducible rfl) ?_
                 apply Exists.intro
                 refine ⟨?_, ?_⟩
                 focus (intro wq hq0; have hq : Own _ _ _ wq := hq0; first | (exact quietAt_one rfl rfl (Own.get hq at0) (by rfl) (by first | exact ot_int | exact ot_string)) | (exact quietAt_row rfl rfl (Own.get hq at0) (by first | exact rt_font | exact rt_glyph | exact rt_stretch)) | (exact quietAt_one rfl rfl (Own.get hq at1) (by rfl) (by first | exact ot_int | exact ot_string)) | (exact quietAt_row rfl rfl (Own.get hq at1) (by first | exact rt_font | exact rt_glyph | exact rt_stretch)) | (exact quietAt_one rfl rfl (Own.hasOld hq List.not_mem_nil m0) (by rfl) (by first | exact ot_int | exact ot_string)) | (exact quietAt_row rfl rfl (Own.hasOld hq List.not_mem_nil m0) (by first | exact rt_font | exact rt_glyph | exact rt_stretch)) | (exact quietAt_one rfl rfl (Own.hasOld hq List.not_mem_nil j0) (by rfl) (by first | exact ot_int | exact ot_string)) | (exact quietAt_row rfl rfl (Own.hasOld hq List.not_mem_nil j0) (by first | exact rt_font | exact rt_glyph | exact rt_stretch)) | (exact quietAt_one rfl rfl (Own.hasOld hq List.not_mem_nil j1) (by rfl) (by first | exact ot_int | exact ot_string)) | (exact quietAt_row rfl rfl (Own.hasOld hq List.not_mem_nil j1) (by first | exact rt_font | exact rt_glyph | exact rt_stretch)) | (exact quietAt_one rfl rfl (Own.hasOld hq List.not_mem_nil j3) (by rfl) (by first | exact ot_int | exact ot_string)) | (exact quietAt_row rfl rfl (Own.hasOld hq List.not_mem_nil j3) (by first | exact rt_font | exact rt_glyph | exact rt_stretch)) | (exact quietAt_one rfl rfl (Own.hasOld hq List.not_mem_nil j4) (by rfl) (by first | exact ot_int | exact ot_string)) | (exact quietAt_row rfl rfl (Own.hasOld hq List.not_mem_nil j4) (by first | exact rt_font | exact rt_glyph | exact rt_stretch)) | (go_simp; first | (go_at_call 19; exact quietG hq (font_pick ⟨gx, gc, gs, sx, sc, ss, q0, q1, q2, q3, q4, q5, q6, q7, q8, q9, q10, q11, q12, q13, q14, q15, q16, q17, q18, q19⟩ s _ (HF2.out.below hq.below) HN.out.1)) | (go_at_call 19; exact quietG hq (pick_as (F := ⟨y1, c1, gr, y2, c2, sr, q0, q1, q2, q3, q4, q5, q6, q7, q8, q9, q10, q11, q12, q13, q14, q15, q16, q17, q18, q19⟩) (gs := gs) (HT2.out.below hq.below) HL1.out E3)) | (go_at_call 22; exact quietG hq (font_Valid_calls ⟨y1, c1, gr, y2, c2, sr, q0, q1, q2, q3, q4, q5, q6, q7, q8, q9, q10, q11, q12, q13, q14, q15, q16, q17, q18, q19⟩ _ (HT2.out.below hq.below) true (iff_t HV2.out))) | (go_at_call 21; exact quietG hq (ref05_SameStretch_same _ _ _ _ _ _ _ _ _ _ _ _ _ (by have := HL.out; omega) (by have := HL.out; omega) (HX.out.sizes.below hq.below) (HY.out.sizes.below hq.below) (HX.out.parts.below hq.below) (HY.out.parts.below hq.below))) | (with_reducible rfl)))
                 simp only [Act.put, List.setIfInBounds_toArray, List.set_cons_zero, List.set_cons_succ])
              | (refine quiet_at (by with_reducible rfl) (by rfl) (by rfl) (by simp only [List.getElem?_toArray, List.getElem?_cons_succ, List.getElem?_cons_zero]; rfl) ?_
                 first | (with_reducible refine QG_tt ?_) | (with_reducible refine QG_ff ?_)
                 apply Exists.intro
                 refine ⟨?_, ?_⟩
                 focus (intro wq hq0; have hq : Own _ _ _ wq := hq0; first | (exact quietAt_one rfl rfl (Own.get hq at0) (by rfl) (by first | exact ot_int | exact ot_string)) | (exact quietAt_row rfl rfl (Own.get hq at0) (by first | exact rt_font | exact rt_glyph | exact rt_stretch)) | (exact quietAt_one rfl rfl (Own.get hq at1) (by rfl) (by first | exact ot_int | exact ot_string)) | (exact quietAt_row rfl rfl (Own.get hq at1) (by first | exact rt_font | exact rt_glyph | exact rt_stretch)) | (exact quietAt_one rfl rfl (Own.hasOld hq List.not_mem_nil m0) (by rfl) (by first | exact ot_int | exact ot_string)) | (exact quietAt_row rfl rfl (Own.hasOld hq List.not_mem_nil m0) (by first | exact rt_font | exact rt_glyph | exact rt_stretch)) | (exact quietAt_one rfl rfl (Own.hasOld hq List.not_mem_nil j0) (by rfl) (by first | exact ot_int | exact ot_string)) | (exact quietAt_row rfl rfl (Own.hasOld hq List.not_mem_nil j0) (by first | exact rt_font | exact rt_glyph | exact rt_stretch)) | (exact quietAt_one rfl rfl (Own.hasOld hq List.not_mem_nil j1) (by rfl) (by first | exact ot_int | exact ot_string)) | (exact quietAt_row rfl rfl (Own.hasOld hq List.not_mem_nil j1) (by first | exact rt_font | exact rt_glyph | exact rt_stretch)) | (exact quietAt_one rfl rfl (Own.hasOld hq List.not_mem_nil j3) (by rfl) (by first | exact ot_int | exact ot_string)) | (exact quietAt_row rfl rfl (Own.hasOld hq List.not_mem_nil j3) (by first | exact rt_font | exact rt_glyph | exact rt_stretch)) | (exact quietAt_one rfl rfl (Own.hasOld hq List.not_mem_nil j4) (by rfl) (by first | exact ot_int | exact ot_string)) | (exact quietAt_row rfl rfl (Own.hasOld hq List.not_mem_nil j4) (by first | exact rt_font | exact rt_glyph | exact rt_stretch)) | (go_simp; first | (go_at_call 19; exact quietG hq (font_pick ⟨gx, gc, gs, sx, sc, ss, q0, q1, q2, q3, q4, q5, q6, q7, q8, q9, q10, q11, q12, q13, q14, q15, q16, q17, q18, q19⟩ s _ (HF2.out.below hq.below) HN.out.1)) | (go_at_call 19; exact quietG hq (pick_as (F := ⟨y1, c1, gr, y2, c2, sr, q0, q1, q2, q3, q4, q5, q6, q7, q8, q9, q10, q11, q12, q13, q14, q15, q16, q17, q18, q19⟩) (gs := gs) (HT2.out.below hq.below) HL1.out E3)) | (go_at_call 22; exact quietG hq (font_Valid_calls ⟨y1, c1, gr, y2, c2, sr, q0, q1, q2, q3, q4, q5, q6, q7, q8, q9, q10, q11, q12, q13, q14, q15, q16, q17, q18, q19⟩ _ (HT2.out.below hq.below) true (iff_t HV2.out))) | (go_at_call 21; exact quietG hq (ref05_SameStretch_same _ _ _ _ _ _ _ _ _ _ _ _ _ (by have := HL.out; omega) (by have := HL.out; omega) (HX.out.sizes.below hq.below) (HY.out.sizes.below hq.below) (HX.out.parts.below hq.below) (HY.out.parts.below hq.below))) | (with_reducible rfl)))
                 simp only [Act.put, List.setIfInBounds_toArray, List.set_cons_zero, List.set_cons_succ])
              | (refine quiet_at (by with_reducible rfl) (by rfl) (by rfl) (by simp only [List.getElem?_toArray, List.getElem?_cons_succ, List.getElem?_cons_zero]; rfl) ?_
                 first | (with_reducible refine QG_tf ?_) | (with_reducible refine QG_ft ?_) | (with_reducible refine QG_u ?_)
                 simp only [Act.put, List.setIfInBounds_toArray, List.set_cons_zero, List.set_cons_succ]))
          refine wpQuiet_nil ?_
          clear hS
          intro ww hS
          go_wp2_with (first
            | (refine own_unguard (by rfl) ?_)
            | (refine own_load1 rfl _ _ rfl rfl hS (by first | exact at0 | exact at1 | exact at2 | exact at3 | exact at4 | exact at5 | exact at6 | exact at7 | exact at8) (by first | exact ot_int | exact ot_string) (by first | rfl | assumption) ?_)
            | (refine own_load rfl _ _ rfl rfl hS (by first | exact at0 | exact at1 | exact at2 | exact at3 | exact at4 | exact at5 | exact at6 | exact at7 | exact at8) (by first | exact rt_font | exact rt_glyph | exact rt_stretch) ?_)
            | (refine own_load_old rfl _ _ rfl rfl hS (by assumption) (by first | exact List.not_mem_nil | assumption) (by first | exact rt_font | exact rt_glyph | exact rt_stretch) ?_)
            | (refine own_load_has rfl _ _ rfl rfl hS (by assumption) (by first | exact List.not_mem_nil | assumption) (by first | exact rt_font | exact rt_glyph | exact rt_stretch) ?_)
            | (refine own_load1_old rfl _ _ rfl rfl hS (by assumption) (by first | exact List.not_mem_nil | assumption) (by first | exact ot_int | exact ot_string) ?_)
            | (refine own_load1_has rfl _ _ rfl rfl hS (by assumption) (by first | exact List.not_mem_nil | assumption) (by first | exact ot_int | exact ot_string) (by first | rfl | assumption) ?_)
            | (refine own_box rfl _ _ rfl rfl hS ?_; clear hS; (try clear ww); intro bb ww hS)
            | (refine own_alloc rfl _ rfl hS (by first | exact zt_glyph | exact zt_stretch) ?_; clear hS; (try clear ww); intro bb ww hS)
            | (refine own_store rfl _ _ _ rfl rfl rfl hS (by first | exact at0 | exact at1 | exact at2 | exact at3 | exact at4 | exact at5 | exact at6 | exact at7 | exact at8) (by first | exact rt_font | exact rt_glyph | exact rt_stretch) (by rfl) (by rfl) ?_; clear hS; (try clear ww); intro ww hS; (try simp only at hS); (try simp only [List.set_cons_succ] at hS); (try simp only [List.set_cons_zero] at hS))
            | (refine own_store1 rfl _ _ _ rfl rfl rfl rfl hS (by first | exact at0 | exact at1 | exact at2 | exact at3 | exact at4 | exact at5 | exact at6 | exact at7 | exact at8) (by first | exact ot_int | exact ot_string) (by simp) ?_; clear hS; (try clear ww); intro ww hS; (try simp only at hS); (try simp only [List.set_cons_succ] at hS); (try simp only [List.set_cons_zero] at hS); (try simp only [Act.eval] at hS); (try simp only [Array.getD_eq_getD_getElem?] at hS); (try simp only [List.getElem?_toArray] at hS); (try simp only [List.getElem?_cons_succ] at hS); (try simp only [List.getElem?_cons_zero] at hS); (try simp only [Option.getD_some] at hS)))
          go_ret
          exact ⟨rfl, bthen hB2 hS.below⟩

set_option maxHeartbeats 4000000 in
set_option maxRecDepth 100000 in
theorem order_few (F : Fnt) (s : ByteArray) (w : World) (hF : FntOk w F) (hfew : fewB F = false) : Calls Try.prog 9 #[F.val, .string s] w (Gives (.bool true) w) := by
  have HF := Lib.hid hF
  have HE := Lib.hid hfew
  clear hF hfew
  obtain ⟨gx, gc, gs, sx, sc, ss, q0, q1, q2, q3, q4, q5, q6, q7, q8, q9, q10, q11, q12, q13, q14, q15, q16, q17, q18, q19⟩ := F
  go_enter Try.func9, Try.ntmps9
  have hS := own_start w
  go_wp2_with (first
    | (refine own_unguard (by rfl) ?_)
    | (go_at_call 10; refine own_calls hS (awake05_calls _) ?_; clear hS; (try clear ww); intro ww hS)
    | (go_at_call 14; refine own_calls hS (few_vo (F := ⟨gx, gc, gs, sx, sc, ss, q0, q1, q2, q3, q4, q5, q6, q7, q8, q9, q10, q11, q12, q13, q14, q15, q16, q17, q18, q19⟩) (HF.out.below hS.below) HE) ?_; clear hS; (try clear ww); intro ww hS)
    | (refine own_load1 rfl _ _ rfl rfl hS (by first | exact at0 | exact at1 | exact at2 | exact at3 | exact at4 | exact at5 | exact at6 | exact at7 | exact at8) (by first | exact ot_int | exact ot_string | exact ot_glyphs | exact ot_stretches) (by first | rfl | assumption) ?_)
    | (refine own_load rfl _ _ rfl rfl hS (by first | exact at0 | exact at1 | exact at2 | exact at3 | exact at4 | exact at5 | exact at6 | exact at7 | exact at8) (by first | exact rt_font | exact rt_glyph | exact rt_stretch) ?_)
    | (refine own_load_old rfl _ _ rfl rfl hS (by assumption) (by first | exact List.not_mem_nil | assumption) (by first | exact rt_font | exact rt_glyph | exact rt_stretch) ?_)
    | (refine own_load_has rfl _ _ rfl rfl hS (by assumption) (by first | exact List.not_mem_nil | assumption) (by first | exact rt_font | exact rt_glyph | exact rt_stretch) ?_)
    | (refine own_load1_old rfl _ _ rfl rfl hS (by assumption) (by first | exact List.not_mem_nil | assumption) (by first | exact ot_int | exact ot_string | exact ot_glyphs | exact ot_stretches) ?_)
    | (refine own_load1_has rfl _ _ rfl rfl hS (by assumption) (by first | exact List.not_mem_nil | assumption) (by first | exact ot_int | exact ot_string | exact ot_glyphs | exact ot_stretches) (by first | rfl | assumption) ?_)
    | (refine own_box rfl _ _ rfl rfl hS ?_; clear hS; (try clear ww); intro bb ww hS)
    | (refine own_alloc rfl _ rfl hS (by first | exact zt_font) ?_; clear hS; (try clear ww); intro bb ww hS)
    | (refine own_store rfl _ _ _ rfl rfl rfl hS (by first | exact at0 | exact at1 | exact at2 | exact at3 | exact at4 | exact at5 | exact at6 | exact at7 | exact at8) (by first | exact rt_font | exact rt_glyph | exact rt_stretch) (by rfl) (by rfl) ?_; clear hS; (try clear ww); intro ww hS; (try simp only at hS); (try simp only [List.set_cons_succ] at hS); (try simp only [List.set_cons_zero] at hS))
    | (refine own_store1 rfl _ _ _ rfl rfl rfl rfl hS (by first | exact at0 | exact at1 | exact at2 | exact at3 | exact at4 | exact at5 | exact at6 | exact at7 | exact at8) (by first | exact ot_int | exact ot_string | exact ot_glyphs | exact ot_stretches) (by simp) ?_; clear hS; (try clear ww); intro ww hS; (try simp only at hS); (try simp only [List.set_cons_succ] at hS); (try simp only [List.set_cons_zero] at hS); (try simp only [Act.eval] at hS); (try simp only [Array.getD_eq_getD_getElem?] at hS); (try simp only [List.getElem?_toArray] at hS); (try simp only [List.getElem?_cons_succ] at hS); (try simp only [List.getElem?_cons_zero] at hS); (try simp only [Option.getD_some] at hS)))
  go_ret
  exact own_gives hS

set_option maxHeartbeats 4000000 in
set_option maxRecDepth 100000 in
theorem order_bad (F : Fnt) (s : ByteArray) (w : World) (hF : FntOk w F) (hfew : fewB F = true) (hv : ¬ ValidF F) : Calls Try.prog 9 #[F.val, .string s] w (Gives (.bool true) w) := by
  have HF := Lib.hid hF
  have HE := Lib.hid hfew
  have HV := Lib.hid hv
  clear hF hfew hv
  obtain ⟨gx, gc, gs, sx, sc, ss, q0, q1, q2, q3, q4, q5, q6, q7, q8, q9, q10, q11, q12, q13, q14, q15, q16, q17, q18, q19⟩ := F
  go_enter Try.func9, Try.ntmps9
  have hS := own_start w
  go_wp2_with (first
    | (refine own_unguard (by rfl) ?_)
    | (go_at_call 10; refine own_calls hS (awake05_calls _) ?_; clear hS; (try clear ww); intro ww hS)
    | (go_at_call 14; refine own_calls hS (few_vo (F := ⟨gx, gc, gs, sx, sc, ss, q0, q1, q2, q3, q4, q5, q6, q7, q8, q9, q10, q11, q12, q13, q14, q15, q16, q17, q18, q19⟩) (HF.out.below hS.below) HE) ?_; clear hS; (try clear ww); intro ww hS)
    | (go_at_call 22; refine own_calls hS (font_Valid_calls ⟨gx, gc, gs, sx, sc, ss, q0, q1, q2, q3, q4, q5, q6, q7, q8, q9, q10, q11, q12, q13, q14, q15, q16, q17, q18, q19⟩ _ (HF.out.below hS.below) false (iff_f HV.out)) ?_; clear hS; (try clear ww); intro ww hS)
    | (refine own_load1 rfl _ _ rfl rfl hS (by first | exact at0 | exact at1 | exact at2 | exact at3 | exact at4 | exact at5 | exact at6 | exact at7 | exact at8) (by first | exact ot_int | exact ot_string | exact ot_glyphs | exact ot_stretches) (by first | rfl | assumption) ?_)
    | (refine own_load rfl _ _ rfl rfl hS (by first | exact at0 | exact at1 | exact at2 | exact at3 | exact at4 | exact at5 | exact at6 | exact at7 | exact at8) (by first | exact rt_font | exact rt_glyph | exact rt_stretch) ?_)
    | (refine own_load_old rfl _ _ rfl rfl hS (by assumption) (by first | exact List.not_mem_nil | assumption) (by first | exact rt_font | exact rt_glyph | exact rt_stretch) ?_)
    | (refine own_load_has rfl _ _ rfl rfl hS (by assumption) (by first | exact List.not_mem_nil | assumption) (by first | exact rt_font | exact rt_glyph | exact rt_stretch) ?_)
    | (refine own_load1_old rfl _ _ rfl rfl hS (by assumption) (by first | exact List.not_mem_nil | assumption) (by first | exact ot_int | exact ot_string | exact ot_glyphs | exact ot_stretches) ?_)
    | (refine own_load1_has rfl _ _ rfl rfl hS (by assumption) (by first | exact List.not_mem_nil | assumption) (by first | exact ot_int | exact ot_string | exact ot_glyphs | exact ot_stretches) (by first | rfl | assumption) ?_)
    | (refine own_box rfl _ _ rfl rfl hS ?_; clear hS; (try clear ww); intro bb ww hS)
    | (refine own_alloc rfl _ rfl hS (by first | exact zt_font) ?_; clear hS; (try clear ww); intro bb ww hS)
    | (refine own_store rfl _ _ _ rfl rfl rfl hS (by first | exact at0 | exact at1 | exact at2 | exact at3 | exact at4 | exact at5 | exact at6 | exact at7 | exact at8) (by first | exact rt_font | exact rt_glyph | exact rt_stretch) (by rfl) (by rfl) ?_; clear hS; (try clear ww); intro ww hS; (try simp only at hS); (try simp only [List.set_cons_succ] at hS); (try simp only [List.set_cons_zero] at hS))
    | (refine own_store1 rfl _ _ _ rfl rfl rfl rfl hS (by first | exact at0 | exact at1 | exact at2 | exact at3 | exact at4 | exact at5 | exact at6 | exact at7 | exact at8) (by first | exact ot_int | exact ot_string | exact ot_glyphs | exact ot_stretches) (by simp) ?_; clear hS; (try clear ww); intro ww hS; (try simp only at hS); (try simp only [List.set_cons_succ] at hS); (try simp only [List.set_cons_zero] at hS); (try simp only [Act.eval] at hS); (try simp only [Array.getD_eq_getD_getElem?] at hS); (try simp only [List.getElem?_toArray] at hS); (try simp only [List.getElem?_cons_succ] at hS); (try simp only [List.getElem?_cons_zero] at hS); (try simp only [Option.getD_some] at hS)))
  go_ret
  exact own_gives hS

theorem fontOrder_calls (F : Fnt) (s : ByteArray) (w : World) (hF : FntOk w F) : Calls Try.prog 9 #[F.val, .string s] w (Gives (.bool true) w) := by
  cases h : fewB F
  · exact order_few F s w hF h
  · by_cases hv : ValidF F
    · exact order_ok F s w hF h hv
    · exact order_bad F s w hF h hv

end Go.Proofs.Ytgknameejoalnaa
