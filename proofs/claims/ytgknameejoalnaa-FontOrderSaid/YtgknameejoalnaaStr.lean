/- Stretch, in package font and in its reference. -/
import Derived.Test.YtgknameejoalnaaFnt
import Derived.Test.YtgknameejoalnaaApp
namespace Go.Proofs.Ytgknameejoalnaa
open Go.RowKit

attribute [local irreducible] wpQuiet wpList Code.wp

theorem rt_stretch : RowTy Try.prog 45 4 := ⟨⟨_, Try.underlying45, rfl⟩, by kernel_rfl⟩
theorem zt_stretch : ZeroTy Try.prog 45 [.string ⟨#[]⟩, .slice none 0 0, .slice none 0 0, .int .i64 0] := ⟨.agg #[.string ⟨#[]⟩, .slice none 0 0, .slice none 0 0, .int .i64 0], by kernel_rfl, rfl⟩
theorem rt_part : RowTy Try.prog 52 2 := ⟨⟨_, Try.underlying52, rfl⟩, by kernel_rfl⟩
theorem ot_strings : OneTy Try.prog 42 := ⟨⟨_, Try.underlying42, rfl⟩, by kernel_rfl⟩
theorem ot_parts : OneTy Try.prog 43 := ⟨⟨_, Try.underlying43, rfl⟩, by kernel_rfl⟩
theorem ot_stretches : OneTy Try.prog 34 := ⟨⟨_, Try.underlying34, rfl⟩, by kernel_rfl⟩
theorem ot_glyphs : OneTy Try.prog 33 := ⟨⟨_, Try.underlying33, rfl⟩, by kernel_rfl⟩
theorem el_string : ElTy Try.prog 42 9 1 16 := ElTy.mk' (.string ⟨#[]⟩) Try.underlying42 (by kernel_rfl) rfl
theorem el_part : ElTy Try.prog 43 52 2 24 := ElTy.mk' (.agg #[.string ⟨#[]⟩, .bool false]) Try.underlying43 (by kernel_rfl) rfl

theorem loop_meas {k n : Nat} (h : k < n) : n - (intOf (.int .i64 ((k : Int) + 1))).toNat < n - (intOf (.int .i64 (k : Int))).toNat := by
  simp [intOf]; omega
/-- The loop's round where the name fits: the lists are copied. -/
theorem str_copied {w W : World} {n : ByteArray} {sz : List ByteArray} {ps : List Prt} {ov : Int} {x y : Option Addr} {a b : Nat} {sx px : Option Addr} {sc pc : Nat} {name : ByteArray} {ss : List Str} {e : Ending} (h : Hid (StrOk W { name := n, sx := x, sc := a, sizes := sz, px := y, pc := b, parts := ps, ov := ov })) (hE : Hid (findS ss name = some { name := n, sx := x, sc := a, sizes := sz, px := y, pc := b, parts := ps, ov := ov }))
    (h1 : RowAt w sx 1 strCells sz) (h2 : RowAt w px 2 Prt.cells ps) (hb : Below W.heap.size W w) (he : e = .returned (.tuple #[.agg #[.string n, .slice sx sz.length sc, .slice px ps.length pc, .int .i64 ov], .bool true])) : StretchGives (findS ss name) W e w := by
  rw [hE.out]
  exact ⟨{ name := n, sx := sx, sc := sc, sizes := sz, px := px, pc := pc, parts := ps, ov := ov }, ⟨rfl, rfl, rfl, rfl⟩, { sizes := h1, parts := h2, ov := h.out.ov, sizesLen := h.out.sizesLen, partsLen := h.out.partsLen, nameLen := h.out.nameLen, sizeLen := h.out.sizeLen, partLen := h.out.partLen }, he, hb⟩

set_option maxHeartbeats 4000000 in
set_option maxRecDepth 100000 in
theorem font_Stretch_calls (F : Fnt) (s : ByteArray) (w : World) (hF : FntOk w F) (hq : ∀ t ∈ F.ss, t.sizes.length ≤ 50 ∧ t.parts.length ≤ 50) :
    Calls Try.prog 17 #[F.val, .string s] w (StretchGives (findS F.ss s) w) := by
  obtain ⟨gx, gc, gs, sx, sc, ss, q0, q1, q2, q3, q4, q5, q6, q7, q8, q9, q10, q11, q12, q13, q14, q15, q16, q17, q18, q19⟩ := F
  have HF := Lib.hid hF
  have HQ := Lib.hid hq
  clear hF hq
  have hn : ss.length ≤ 9223372036854775807 := by have := HF.out.slen; simp only [maxLen] at this; omega
  go_enter Try.func17, Try.ntmps17
  have hS := own_start w
  go_wp2_with (first
    | (refine own_unguard (by rfl) ?_)
    | (refine own_load1 rfl _ _ rfl rfl hS (by first | exact at0 | exact at1 | exact at2 | exact at3 | exact at4 | exact at5 | exact at6 | exact at7 | exact at8) (by first | exact ot_int | exact ot_string | exact ot_strings | exact ot_parts | exact ot_stretches) (by first | rfl | assumption) ?_)
    | (refine own_load rfl _ _ rfl rfl hS (by first | exact at0 | exact at1 | exact at2 | exact at3 | exact at4 | exact at5 | exact at6 | exact at7 | exact at8) (by first | exact rt_font | exact rt_stretch) ?_)
    | (refine own_load_old rfl _ _ rfl rfl hS (by assumption) (by first | exact List.not_mem_nil | assumption) (by first | exact rt_font | exact rt_stretch) ?_)
    | (refine own_load_has rfl _ _ rfl rfl hS (by assumption) (by first | exact List.not_mem_nil | assumption) (by first | exact rt_font | exact rt_stretch) ?_)
    | (refine own_load1_old rfl _ _ rfl rfl hS (by assumption) (by first | exact List.not_mem_nil | assumption) (by first | exact ot_int | exact ot_string | exact ot_strings | exact ot_parts | exact ot_stretches) ?_)
    | (refine own_load1_has rfl _ _ rfl rfl hS (by assumption) (by first | exact List.not_mem_nil | assumption) (by first | exact ot_int | exact ot_string | exact ot_strings | exact ot_parts | exact ot_stretches) (by first | rfl | assumption) ?_)
    | (refine own_box rfl _ _ rfl rfl hS ?_; clear hS; (try clear ww); intro bb ww hS)
    | (refine own_alloc rfl _ rfl hS (by first | exact zt_stretch) ?_; clear hS; (try clear ww); intro bb ww hS)
    | (refine own_store rfl _ _ _ rfl rfl rfl hS (by first | exact at0 | exact at1 | exact at2 | exact at3 | exact at4 | exact at5 | exact at6 | exact at7 | exact at8) (by first | exact rt_font | exact rt_stretch) (by rfl) (by rfl) ?_; clear hS; (try clear ww); intro ww hS; (try simp only at hS); (try simp only [List.set_cons_succ] at hS); (try simp only [List.set_cons_zero] at hS))
    | (refine own_store1 rfl _ _ _ rfl rfl rfl rfl hS (by first | exact at0 | exact at1 | exact at2 | exact at3 | exact at4 | exact at5 | exact at6 | exact at7 | exact at8) (by first | exact ot_int | exact ot_string | exact ot_strings | exact ot_parts | exact ot_stretches) (by simp) ?_; clear hS; (try clear ww); intro ww hS; (try simp only at hS); (try simp only [List.set_cons_succ] at hS); (try simp only [List.set_cons_zero] at hS); (try simp only [Act.eval] at hS); (try simp only [Array.getD_eq_getD_getElem?] at hS); (try simp only [List.getElem?_toArray] at hS); (try simp only [List.getElem?_cons_succ] at hS); (try simp only [List.getElem?_cons_zero] at hS); (try simp only [Option.getD_some] at hS)))
  go_loopw [11] (fun i wr => ∃ k : Nat, k ≤ ss.length ∧ i = .int .i64 k ∧ findS ss s = findS (ss.drop k) s ∧ Own [] w [(bb, [.string ⟨#[]⟩, .slice none 0 0, .slice none 0 0, .int .i64 0])] wr) (fun i _ => ss.length - (intOf i).toNat)
  case atStart => exact ⟨0, Nat.zero_le _, rfl, rfl, hS.forget (by simp)⟩
  case round =>
    clear hS
    obtain ⟨k, hk, rfl, hf, hS⟩ := hrel
    by_cases hlt : k < ss.length
    · obtain ⟨t, ht⟩ : ∃ t, ss[k]? = some t := ⟨ss[k], by simp [hlt]⟩
      obtain ⟨b, o, hx, hr0⟩ := HF.out.strs.get ht
      obtain rfl : sx = some ⟨b, o, none⟩ := hx
      have HT := Lib.hid (HF.out.sok t (List.mem_of_getElem? ht))
      have HM := Lib.hid (HQ.out t (List.mem_of_getElem? ht))
      rw [findS_drop ht] at hf
      have HE := Lib.hid hf
      clear hf ht
      have hr : w.rangeAt b (o + k * 4) [.string t.name, .slice t.sx t.sizes.length t.sc, .slice t.px t.parts.length t.pc, .int .i64 t.ov] := hr0
      clear hr0
      by_cases hs : (t.name.toList == s.toList) = true
      · have E1 := Lib.hid (show findS ss s = some t by rw [HE.out, if_pos hs])
        clear HE
        obtain ⟨tn, tsx, tsc, tsz, tpx, tpc, tps, tov⟩ := t
        simp only at hr hs
        have HB := Lib.hid (show tsz.length ≤ 140737488355328 ∧ tsz.length * 16 ≤ 140737488355328 ∧ tps.length ≤ 140737488355328 ∧ tps.length * 24 ≤ 140737488355328 by
          have h3 := HM.out
          simp only at h3
          omega)
        by_cases h1 : tsz = []
        · subst h1
          by_cases h2 : tps = []
          · subst h2
            go_wp2_with (first
              | (refine own_unguard (by rfl) ?_)
              | (refine own_append_nil0 rfl _ _ _ rfl rfl rfl el_string ?_)
              | (refine own_append_nil0 rfl _ _ _ rfl rfl rfl el_part ?_)
              | (refine own_load1 rfl _ _ rfl rfl hS (by first | exact at0 | exact at1 | exact at2 | exact at3 | exact at4 | exact at5 | exact at6 | exact at7 | exact at8) (by first | exact ot_int | exact ot_string | exact ot_strings | exact ot_parts | exact ot_stretches) (by first | rfl | assumption) ?_)
              | (refine own_load rfl _ _ rfl rfl hS (by first | exact at0 | exact at1 | exact at2 | exact at3 | exact at4 | exact at5 | exact at6 | exact at7 | exact at8) (by first | exact rt_font | exact rt_stretch) ?_)
              | (refine own_load_old rfl _ _ rfl rfl hS (by assumption) (by first | exact List.not_mem_nil | assumption) (by first | exact rt_font | exact rt_stretch) ?_)
              | (refine own_load_has rfl _ _ rfl rfl hS (by assumption) (by first | exact List.not_mem_nil | assumption) (by first | exact rt_font | exact rt_stretch) ?_)
              | (refine own_load1_old rfl _ _ rfl rfl hS (by assumption) (by first | exact List.not_mem_nil | assumption) (by first | exact ot_int | exact ot_string | exact ot_strings | exact ot_parts | exact ot_stretches) ?_)
              | (refine own_load1_has rfl _ _ rfl rfl hS (by assumption) (by first | exact List.not_mem_nil | assumption) (by first | exact ot_int | exact ot_string | exact ot_strings | exact ot_parts | exact ot_stretches) (by first | rfl | assumption) ?_)
              | (refine own_box rfl _ _ rfl rfl hS ?_; clear hS; (try clear ww); intro bb ww hS)
              | (refine own_alloc rfl _ rfl hS (by first | exact zt_stretch) ?_; clear hS; (try clear ww); intro bb ww hS)
              | (refine own_store rfl _ _ _ rfl rfl rfl hS (by first | exact at0 | exact at1 | exact at2 | exact at3 | exact at4 | exact at5 | exact at6 | exact at7 | exact at8) (by first | exact rt_font | exact rt_stretch) (by rfl) (by rfl) ?_; clear hS; (try clear ww); intro ww hS; (try simp only at hS); (try simp only [List.set_cons_succ] at hS); (try simp only [List.set_cons_zero] at hS))
              | (refine own_store1 rfl _ _ _ rfl rfl rfl rfl hS (by first | exact at0 | exact at1 | exact at2 | exact at3 | exact at4 | exact at5 | exact at6 | exact at7 | exact at8) (by first | exact ot_int | exact ot_string | exact ot_strings | exact ot_parts | exact ot_stretches) (by simp) ?_; clear hS; (try clear ww); intro ww hS; (try simp only at hS); (try simp only [List.set_cons_succ] at hS); (try simp only [List.set_cons_zero] at hS); (try simp only [Act.eval] at hS); (try simp only [Array.getD_eq_getD_getElem?] at hS); (try simp only [List.getElem?_toArray] at hS); (try simp only [List.getElem?_cons_succ] at hS); (try simp only [List.getElem?_cons_zero] at hS); (try simp only [Option.getD_some] at hS)))
            have hc := (hS.get at1).cell
            refine bodyPost_ret (v := .tuple #[.agg #[.string tn, .slice none 0 0, .slice none 0 0, .int .i64 tov], .bool true]) (by simp [results, Try.results17, go_sem, hc]) rfl (str_copied HT E1 (.inl rfl) (.inl rfl) hS.below rfl)
          · obtain ⟨b2, o2, hx2, hr2⟩ := HT.out.parts.flat (fun _ _ => rfl) h2
            obtain rfl : tpx = some ⟨b2, o2, none⟩ := hx2
            have hl2 := flat_len (f := Prt.cells) (size := 2) (fun _ => rfl) tps
            have h02 : 0 < tps.length := List.length_pos_iff.2 h2
            clear h2
            go_wp2_with (first
              | (refine own_unguard (by rfl) ?_)
              | (refine own_append_nil0 rfl _ _ _ rfl rfl rfl el_string ?_)
              | (refine own_append_nil rfl _ _ _ rfl rfl rfl hS hr2 List.not_mem_nil el_part hl2 h02 HB.out.2.2.1 HB.out.2.2.2 ?_; clear hS; (try clear ww); intro bb cc jj ww hS hcc)
              | (refine own_load1 rfl _ _ rfl rfl hS (by first | exact at0 | exact at1 | exact at2 | exact at3 | exact at4 | exact at5 | exact at6 | exact at7 | exact at8) (by first | exact ot_int | exact ot_string | exact ot_strings | exact ot_parts | exact ot_stretches) (by first | rfl | assumption) ?_)
              | (refine own_load rfl _ _ rfl rfl hS (by first | exact at0 | exact at1 | exact at2 | exact at3 | exact at4 | exact at5 | exact at6 | exact at7 | exact at8) (by first | exact rt_font | exact rt_stretch) ?_)
              | (refine own_load_old rfl _ _ rfl rfl hS (by assumption) (by first | exact List.not_mem_nil | assumption) (by first | exact rt_font | exact rt_stretch) ?_)
              | (refine own_load_has rfl _ _ rfl rfl hS (by assumption) (by first | exact List.not_mem_nil | assumption) (by first | exact rt_font | exact rt_stretch) ?_)
              | (refine own_load1_old rfl _ _ rfl rfl hS (by assumption) (by first | exact List.not_mem_nil | assumption) (by first | exact ot_int | exact ot_string | exact ot_strings | exact ot_parts | exact ot_stretches) ?_)
              | (refine own_load1_has rfl _ _ rfl rfl hS (by assumption) (by first | exact List.not_mem_nil | assumption) (by first | exact ot_int | exact ot_string | exact ot_strings | exact ot_parts | exact ot_stretches) (by first | rfl | assumption) ?_)
              | (refine own_box rfl _ _ rfl rfl hS ?_; clear hS; (try clear ww); intro bb ww hS)
              | (refine own_alloc rfl _ rfl hS (by first | exact zt_stretch) ?_; clear hS; (try clear ww); intro bb ww hS)
              | (refine own_store rfl _ _ _ rfl rfl rfl hS (by first | exact at0 | exact at1 | exact at2 | exact at3 | exact at4 | exact at5 | exact at6 | exact at7 | exact at8) (by first | exact rt_font | exact rt_stretch) (by rfl) (by rfl) ?_; clear hS; (try clear ww); intro ww hS; (try simp only at hS); (try simp only [List.set_cons_succ] at hS); (try simp only [List.set_cons_zero] at hS))
              | (refine own_store1 rfl _ _ _ rfl rfl rfl rfl hS (by first | exact at0 | exact at1 | exact at2 | exact at3 | exact at4 | exact at5 | exact at6 | exact at7 | exact at8) (by first | exact ot_int | exact ot_string | exact ot_strings | exact ot_parts | exact ot_stretches) (by simp) ?_; clear hS; (try clear ww); intro ww hS; (try simp only at hS); (try simp only [List.set_cons_succ] at hS); (try simp only [List.set_cons_zero] at hS); (try simp only [Act.eval] at hS); (try simp only [Array.getD_eq_getD_getElem?] at hS); (try simp only [List.getElem?_toArray] at hS); (try simp only [List.getElem?_cons_succ] at hS); (try simp only [List.getElem?_cons_zero] at hS); (try simp only [Option.getD_some] at hS)))
            have hc := (hS.get at2).cell
            refine bodyPost_ret (v := .tuple #[.agg #[.string tn, .slice none 0 0, _, .int .i64 tov], .bool true]) (by simp [results, Try.results17, go_sem, hc]; rfl) rfl (str_copied HT E1 (.inl rfl) (.of_has (fun _ _ => rfl) (hS.get at0)) hS.below rfl)
        · obtain ⟨b1, o1, hx1, hr1⟩ := HT.out.sizes.flat (fun _ _ => rfl) h1
          obtain rfl : tsx = some ⟨b1, o1, none⟩ := hx1
          have hl1 := flat_len (f := strCells) (size := 1) (fun _ => rfl) tsz
          have h01 : 0 < tsz.length := List.length_pos_iff.2 h1
          clear h1
          by_cases h2 : tps = []
          · subst h2
            go_wp2_with (first
              | (refine own_unguard (by rfl) ?_)
              | (refine own_append_nil rfl _ _ _ rfl rfl rfl hS hr1 List.not_mem_nil el_string hl1 h01 HB.out.1 HB.out.2.1 ?_; clear hS; (try clear ww); intro bb cc jj ww hS hcc)
              | (refine own_append_nil0 rfl _ _ _ rfl rfl rfl el_part ?_)
              | (refine own_load1 rfl _ _ rfl rfl hS (by first | exact at0 | exact at1 | exact at2 | exact at3 | exact at4 | exact at5 | exact at6 | exact at7 | exact at8) (by first | exact ot_int | exact ot_string | exact ot_strings | exact ot_parts | exact ot_stretches) (by first | rfl | assumption) ?_)
              | (refine own_load rfl _ _ rfl rfl hS (by first | exact at0 | exact at1 | exact at2 | exact at3 | exact at4 | exact at5 | exact at6 | exact at7 | exact at8) (by first | exact rt_font | exact rt_stretch) ?_)
              | (refine own_load_old rfl _ _ rfl rfl hS (by assumption) (by first | exact List.not_mem_nil | assumption) (by first | exact rt_font | exact rt_stretch) ?_)
              | (refine own_load_has rfl _ _ rfl rfl hS (by assumption) (by first | exact List.not_mem_nil | assumption) (by first | exact rt_font | exact rt_stretch) ?_)
              | (refine own_load1_old rfl _ _ rfl rfl hS (by assumption) (by first | exact List.not_mem_nil | assumption) (by first | exact ot_int | exact ot_string | exact ot_strings | exact ot_parts | exact ot_stretches) ?_)
              | (refine own_load1_has rfl _ _ rfl rfl hS (by assumption) (by first | exact List.not_mem_nil | assumption) (by first | exact ot_int | exact ot_string | exact ot_strings | exact ot_parts | exact ot_stretches) (by first | rfl | assumption) ?_)
              | (refine own_box rfl _ _ rfl rfl hS ?_; clear hS; (try clear ww); intro bb ww hS)
              | (refine own_alloc rfl _ rfl hS (by first | exact zt_stretch) ?_; clear hS; (try clear ww); intro bb ww hS)
              | (refine own_store rfl _ _ _ rfl rfl rfl hS (by first | exact at0 | exact at1 | exact at2 | exact at3 | exact at4 | exact at5 | exact at6 | exact at7 | exact at8) (by first | exact rt_font | exact rt_stretch) (by rfl) (by rfl) ?_; clear hS; (try clear ww); intro ww hS; (try simp only at hS); (try simp only [List.set_cons_succ] at hS); (try simp only [List.set_cons_zero] at hS))
              | (refine own_store1 rfl _ _ _ rfl rfl rfl rfl hS (by first | exact at0 | exact at1 | exact at2 | exact at3 | exact at4 | exact at5 | exact at6 | exact at7 | exact at8) (by first | exact ot_int | exact ot_string | exact ot_strings | exact ot_parts | exact ot_stretches) (by simp) ?_; clear hS; (try clear ww); intro ww hS; (try simp only at hS); (try simp only [List.set_cons_succ] at hS); (try simp only [List.set_cons_zero] at hS); (try simp only [Act.eval] at hS); (try simp only [Array.getD_eq_getD_getElem?] at hS); (try simp only [List.getElem?_toArray] at hS); (try simp only [List.getElem?_cons_succ] at hS); (try simp only [List.getElem?_cons_zero] at hS); (try simp only [Option.getD_some] at hS)))
            have hc := (hS.get at2).cell
            refine bodyPost_ret (v := .tuple #[.agg #[.string tn, _, .slice none 0 0, .int .i64 tov], .bool true]) (by simp [results, Try.results17, go_sem, hc]; rfl) rfl (str_copied HT E1 (.of_has (fun _ _ => rfl) (hS.get at0)) (.inl rfl) hS.below rfl)
          · obtain ⟨b2, o2, hx2, hr2⟩ := HT.out.parts.flat (fun _ _ => rfl) h2
            obtain rfl : tpx = some ⟨b2, o2, none⟩ := hx2
            have hl2 := flat_len (f := Prt.cells) (size := 2) (fun _ => rfl) tps
            have h02 : 0 < tps.length := List.length_pos_iff.2 h2
            clear h2
            go_wp2_with (first
              | (refine own_unguard (by rfl) ?_)
              | (refine own_append_nil rfl _ _ _ rfl rfl rfl hS hr1 List.not_mem_nil el_string hl1 h01 HB.out.1 HB.out.2.1 ?_; clear hS; (try clear ww); intro bb cc jj ww hS hcc)
              | (refine own_append_nil rfl _ _ _ rfl rfl rfl hS hr2 List.not_mem_nil el_part hl2 h02 HB.out.2.2.1 HB.out.2.2.2 ?_; clear hS; (try clear ww); intro bb cc jj ww hS hcc)
              | (refine own_load1 rfl _ _ rfl rfl hS (by first | exact at0 | exact at1 | exact at2 | exact at3 | exact at4 | exact at5 | exact at6 | exact at7 | exact at8) (by first | exact ot_int | exact ot_string | exact ot_strings | exact ot_parts | exact ot_stretches) (by first | rfl | assumption) ?_)
              | (refine own_load rfl _ _ rfl rfl hS (by first | exact at0 | exact at1 | exact at2 | exact at3 | exact at4 | exact at5 | exact at6 | exact at7 | exact at8) (by first | exact rt_font | exact rt_stretch) ?_)
              | (refine own_load_old rfl _ _ rfl rfl hS (by assumption) (by first | exact List.not_mem_nil | assumption) (by first | exact rt_font | exact rt_stretch) ?_)
              | (refine own_load_has rfl _ _ rfl rfl hS (by assumption) (by first | exact List.not_mem_nil | assumption) (by first | exact rt_font | exact rt_stretch) ?_)
              | (refine own_load1_old rfl _ _ rfl rfl hS (by assumption) (by first | exact List.not_mem_nil | assumption) (by first | exact ot_int | exact ot_string | exact ot_strings | exact ot_parts | exact ot_stretches) ?_)
              | (refine own_load1_has rfl _ _ rfl rfl hS (by assumption) (by first | exact List.not_mem_nil | assumption) (by first | exact ot_int | exact ot_string | exact ot_strings | exact ot_parts | exact ot_stretches) (by first | rfl | assumption) ?_)
              | (refine own_box rfl _ _ rfl rfl hS ?_; clear hS; (try clear ww); intro bb ww hS)
              | (refine own_alloc rfl _ rfl hS (by first | exact zt_stretch) ?_; clear hS; (try clear ww); intro bb ww hS)
              | (refine own_store rfl _ _ _ rfl rfl rfl hS (by first | exact at0 | exact at1 | exact at2 | exact at3 | exact at4 | exact at5 | exact at6 | exact at7 | exact at8) (by first | exact rt_font | exact rt_stretch) (by rfl) (by rfl) ?_; clear hS; (try clear ww); intro ww hS; (try simp only at hS); (try simp only [List.set_cons_succ] at hS); (try simp only [List.set_cons_zero] at hS))
              | (refine own_store1 rfl _ _ _ rfl rfl rfl rfl hS (by first | exact at0 | exact at1 | exact at2 | exact at3 | exact at4 | exact at5 | exact at6 | exact at7 | exact at8) (by first | exact ot_int | exact ot_string | exact ot_strings | exact ot_parts | exact ot_stretches) (by simp) ?_; clear hS; (try clear ww); intro ww hS; (try simp only at hS); (try simp only [List.set_cons_succ] at hS); (try simp only [List.set_cons_zero] at hS); (try simp only [Act.eval] at hS); (try simp only [Array.getD_eq_getD_getElem?] at hS); (try simp only [List.getElem?_toArray] at hS); (try simp only [List.getElem?_cons_succ] at hS); (try simp only [List.getElem?_cons_zero] at hS); (try simp only [Option.getD_some] at hS)))
            have hc := (hS.get at3).cell
            refine bodyPost_ret (v := .tuple #[.agg #[.string tn, _, _, .int .i64 tov], .bool true]) (by simp [results, Try.results17, go_sem, hc]; exact ⟨rfl, rfl⟩) rfl (str_copied HT E1 (.of_has (fun _ _ => rfl) (hS.get at1)) (.of_has (fun _ _ => rfl) (hS.get at0)) hS.below rfl)
      · have hs' : (t.name.toList == s.toList) = false := by simpa using hs
        have E1 := Lib.hid (show findS ss s = findS (ss.drop (k + 1)) s by rw [HE.out, if_neg hs])
        clear hs HE
        go_wp2_with (first
          | (refine own_unguard (by rfl) ?_)
          | (refine own_load1 rfl _ _ rfl rfl hS (by first | exact at0 | exact at1 | exact at2 | exact at3 | exact at4 | exact at5 | exact at6 | exact at7 | exact at8) (by first | exact ot_int | exact ot_string | exact ot_strings | exact ot_parts | exact ot_stretches) (by first | rfl | assumption) ?_)
          | (refine own_load rfl _ _ rfl rfl hS (by first | exact at0 | exact at1 | exact at2 | exact at3 | exact at4 | exact at5 | exact at6 | exact at7 | exact at8) (by first | exact rt_font | exact rt_stretch) ?_)
          | (refine own_load_old rfl _ _ rfl rfl hS (by assumption) (by first | exact List.not_mem_nil | assumption) (by first | exact rt_font | exact rt_stretch) ?_)
          | (refine own_load_has rfl _ _ rfl rfl hS (by assumption) (by first | exact List.not_mem_nil | assumption) (by first | exact rt_font | exact rt_stretch) ?_)
          | (refine own_load1_old rfl _ _ rfl rfl hS (by assumption) (by first | exact List.not_mem_nil | assumption) (by first | exact ot_int | exact ot_string | exact ot_strings | exact ot_parts | exact ot_stretches) ?_)
          | (refine own_load1_has rfl _ _ rfl rfl hS (by assumption) (by first | exact List.not_mem_nil | assumption) (by first | exact ot_int | exact ot_string | exact ot_strings | exact ot_parts | exact ot_stretches) (by first | rfl | assumption) ?_)
          | (refine own_box rfl _ _ rfl rfl hS ?_; clear hS; (try clear ww); intro bb ww hS)
          | (refine own_alloc rfl _ rfl hS (by first | exact zt_stretch) ?_; clear hS; (try clear ww); intro bb ww hS)
          | (refine own_store rfl _ _ _ rfl rfl rfl hS (by first | exact at0 | exact at1 | exact at2 | exact at3 | exact at4 | exact at5 | exact at6 | exact at7 | exact at8) (by first | exact rt_font | exact rt_stretch) (by rfl) (by rfl) ?_; clear hS; (try clear ww); intro ww hS; (try simp only at hS); (try simp only [List.set_cons_succ] at hS); (try simp only [List.set_cons_zero] at hS))
          | (refine own_store1 rfl _ _ _ rfl rfl rfl rfl hS (by first | exact at0 | exact at1 | exact at2 | exact at3 | exact at4 | exact at5 | exact at6 | exact at7 | exact at8) (by first | exact ot_int | exact ot_string | exact ot_strings | exact ot_parts | exact ot_stretches) (by simp) ?_; clear hS; (try clear ww); intro ww hS; (try simp only at hS); (try simp only [List.set_cons_succ] at hS); (try simp only [List.set_cons_zero] at hS); (try simp only [Act.eval] at hS); (try simp only [Array.getD_eq_getD_getElem?] at hS); (try simp only [List.getElem?_toArray] at hS); (try simp only [List.getElem?_cons_succ] at hS); (try simp only [List.getElem?_cons_zero] at hS); (try simp only [Option.getD_some] at hS)))
        go_roundw
        case rel => exact ⟨k + 1, hlt, by go_num, E1.out, hS.forget (by simp)⟩
        case measure => exact loop_meas hlt
    · have E1 := Lib.hid (show findS ss s = none by rw [hf]; exact findS_end (by omega))
      clear hf
      go_wp2_with (first
        | (refine own_unguard (by rfl) ?_)
        | (refine own_load1 rfl _ _ rfl rfl hS (by first | exact at0 | exact at1 | exact at2 | exact at3 | exact at4 | exact at5 | exact at6 | exact at7 | exact at8) (by first | exact ot_int | exact ot_string | exact ot_strings | exact ot_parts | exact ot_stretches) (by first | rfl | assumption) ?_)
        | (refine own_load rfl _ _ rfl rfl hS (by first | exact at0 | exact at1 | exact at2 | exact at3 | exact at4 | exact at5 | exact at6 | exact at7 | exact at8) (by first | exact rt_font | exact rt_stretch) ?_)
        | (refine own_load_old rfl _ _ rfl rfl hS (by assumption) (by first | exact List.not_mem_nil | assumption) (by first | exact rt_font | exact rt_stretch) ?_)
        | (refine own_load_has rfl _ _ rfl rfl hS (by assumption) (by first | exact List.not_mem_nil | assumption) (by first | exact rt_font | exact rt_stretch) ?_)
        | (refine own_load1_old rfl _ _ rfl rfl hS (by assumption) (by first | exact List.not_mem_nil | assumption) (by first | exact ot_int | exact ot_string | exact ot_strings | exact ot_parts | exact ot_stretches) ?_)
        | (refine own_load1_has rfl _ _ rfl rfl hS (by assumption) (by first | exact List.not_mem_nil | assumption) (by first | exact ot_int | exact ot_string | exact ot_strings | exact ot_parts | exact ot_stretches) (by first | rfl | assumption) ?_)
        | (refine own_box rfl _ _ rfl rfl hS ?_; clear hS; (try clear ww); intro bb ww hS)
        | (refine own_alloc rfl _ rfl hS (by first | exact zt_stretch) ?_; clear hS; (try clear ww); intro bb ww hS)
        | (refine own_store rfl _ _ _ rfl rfl rfl hS (by first | exact at0 | exact at1 | exact at2 | exact at3 | exact at4 | exact at5 | exact at6 | exact at7 | exact at8) (by first | exact rt_font | exact rt_stretch) (by rfl) (by rfl) ?_; clear hS; (try clear ww); intro ww hS; (try simp only at hS); (try simp only [List.set_cons_succ] at hS); (try simp only [List.set_cons_zero] at hS))
        | (refine own_store1 rfl _ _ _ rfl rfl rfl rfl hS (by first | exact at0 | exact at1 | exact at2 | exact at3 | exact at4 | exact at5 | exact at6 | exact at7 | exact at8) (by first | exact ot_int | exact ot_string | exact ot_strings | exact ot_parts | exact ot_stretches) (by simp) ?_; clear hS; (try clear ww); intro ww hS; (try simp only at hS); (try simp only [List.set_cons_succ] at hS); (try simp only [List.set_cons_zero] at hS); (try simp only [Act.eval] at hS); (try simp only [Array.getD_eq_getD_getElem?] at hS); (try simp only [List.getElem?_toArray] at hS); (try simp only [List.getElem?_cons_succ] at hS); (try simp only [List.getElem?_cons_zero] at hS); (try simp only [Option.getD_some] at hS)))
      rw [E1.out]
      have hc := (hS.get at0).cell
      refine bodyPost_ret (v := .tuple #[.agg #[.string ⟨#[]⟩, .slice none 0 0, .slice none 0 0, .int .i64 0], .bool false]) (by simp [results, Try.results17, go_sem, hc]) rfl ⟨rfl, hS.below⟩

set_option maxHeartbeats 4000000 in
set_option maxRecDepth 100000 in
theorem ref05_Stretch_calls (F : Fnt) (s : ByteArray) (w : World) (hF : FntOk w F) :
    Calls Try.prog 18 #[F.val, .string s] w (StretchGives (findS F.ss s) w) := by
  obtain ⟨gx, gc, gs, sx, sc, ss, q0, q1, q2, q3, q4, q5, q6, q7, q8, q9, q10, q11, q12, q13, q14, q15, q16, q17, q18, q19⟩ := F
  have HF := Lib.hid hF
  clear hF
  have hn : ss.length ≤ 9223372036854775807 := by have := HF.out.slen; simp only [maxLen] at this; omega
  go_enter Try.func18, Try.ntmps18
  have hS := own_start w
  go_wp2_with (first
    | (refine own_unguard (by rfl) ?_)
    | (refine own_load1 rfl _ _ rfl rfl hS (by first | exact at0 | exact at1 | exact at2 | exact at3 | exact at4 | exact at5 | exact at6 | exact at7 | exact at8) (by first | exact ot_int | exact ot_string | exact ot_strings | exact ot_parts | exact ot_stretches) (by first | rfl | assumption) ?_)
    | (refine own_load rfl _ _ rfl rfl hS (by first | exact at0 | exact at1 | exact at2 | exact at3 | exact at4 | exact at5 | exact at6 | exact at7 | exact at8) (by first | exact rt_font | exact rt_stretch) ?_)
    | (refine own_load_old rfl _ _ rfl rfl hS (by assumption) (by first | exact List.not_mem_nil | assumption) (by first | exact rt_font | exact rt_stretch) ?_)
    | (refine own_load_has rfl _ _ rfl rfl hS (by assumption) (by first | exact List.not_mem_nil | assumption) (by first | exact rt_font | exact rt_stretch) ?_)
    | (refine own_load1_old rfl _ _ rfl rfl hS (by assumption) (by first | exact List.not_mem_nil | assumption) (by first | exact ot_int | exact ot_string | exact ot_strings | exact ot_parts | exact ot_stretches) ?_)
    | (refine own_load1_has rfl _ _ rfl rfl hS (by assumption) (by first | exact List.not_mem_nil | assumption) (by first | exact ot_int | exact ot_string | exact ot_strings | exact ot_parts | exact ot_stretches) (by first | rfl | assumption) ?_)
    | (refine own_box rfl _ _ rfl rfl hS ?_; clear hS; (try clear ww); intro bb ww hS)
    | (refine own_alloc rfl _ rfl hS (by first | exact zt_stretch) ?_; clear hS; (try clear ww); intro bb ww hS)
    | (refine own_store rfl _ _ _ rfl rfl rfl hS (by first | exact at0 | exact at1 | exact at2 | exact at3 | exact at4 | exact at5 | exact at6 | exact at7 | exact at8) (by first | exact rt_font | exact rt_stretch) (by rfl) (by rfl) ?_; clear hS; (try clear ww); intro ww hS; (try simp only at hS); (try simp only [List.set_cons_succ] at hS); (try simp only [List.set_cons_zero] at hS))
    | (refine own_store1 rfl _ _ _ rfl rfl rfl rfl hS (by first | exact at0 | exact at1 | exact at2 | exact at3 | exact at4 | exact at5 | exact at6 | exact at7 | exact at8) (by first | exact ot_int | exact ot_string | exact ot_strings | exact ot_parts | exact ot_stretches) (by simp) ?_; clear hS; (try clear ww); intro ww hS; (try simp only at hS); (try simp only [List.set_cons_succ] at hS); (try simp only [List.set_cons_zero] at hS); (try simp only [Act.eval] at hS); (try simp only [Array.getD_eq_getD_getElem?] at hS); (try simp only [List.getElem?_toArray] at hS); (try simp only [List.getElem?_cons_succ] at hS); (try simp only [List.getElem?_cons_zero] at hS); (try simp only [Option.getD_some] at hS)))
  obtain ⟨L0, HL, hS⟩ := hS.named
  go_loopw [6] (fun i wr => ∃ k : Nat, k ≤ ss.length ∧ i = .int .i64 k ∧ findS ss s = findS (ss.drop k) s ∧ Own [] w L0 wr) (fun i _ => ss.length - (intOf i).toNat)
  case atStart => exact ⟨0, Nat.zero_le _, rfl, rfl, hS⟩
  case round =>
    clear hS
    obtain ⟨k, hk, rfl, hf, hS⟩ := hrel
    by_cases hlt : k < ss.length
    · obtain ⟨t, ht⟩ : ∃ t, ss[k]? = some t := ⟨ss[k], by simp [hlt]⟩
      obtain ⟨b, o, hx, hr0⟩ := HF.out.strs.get ht
      obtain rfl : sx = some ⟨b, o, none⟩ := hx
      obtain rfl := HL.out
      clear HL
      have HT := Lib.hid (HF.out.sok t (List.mem_of_getElem? ht))
      rw [findS_drop ht] at hf
      have HE := Lib.hid hf
      clear hf ht
      have hr : w.rangeAt b (o + k * 4) [.string t.name, .slice t.sx t.sizes.length t.sc, .slice t.px t.parts.length t.pc, .int .i64 t.ov] := hr0
      have hr1 : w.cell? ⟨b, o + k * 4, none⟩ = some (.string t.name) := hr0 0 _ rfl
      clear hr0
      by_cases hs : (t.name.toList == s.toList) = true
      · have E1 := Lib.hid (show findS ss s = some t by rw [HE.out, if_pos hs])
        clear HE
        go_wp2_with (first
          | (refine own_unguard (by rfl) ?_)
          | (refine own_load1 rfl _ _ rfl rfl hS (by first | exact at0 | exact at1 | exact at2 | exact at3 | exact at4 | exact at5 | exact at6 | exact at7 | exact at8) (by first | exact ot_int | exact ot_string | exact ot_strings | exact ot_parts | exact ot_stretches) (by first | rfl | assumption) ?_)
          | (refine own_load rfl _ _ rfl rfl hS (by first | exact at0 | exact at1 | exact at2 | exact at3 | exact at4 | exact at5 | exact at6 | exact at7 | exact at8) (by first | exact rt_font | exact rt_stretch) ?_)
          | (refine own_load_old rfl _ _ rfl rfl hS (by assumption) (by first | exact List.not_mem_nil | assumption) (by first | exact rt_font | exact rt_stretch) ?_)
          | (refine own_load_has rfl _ _ rfl rfl hS (by assumption) (by first | exact List.not_mem_nil | assumption) (by first | exact rt_font | exact rt_stretch) ?_)
          | (refine own_load1_old rfl _ _ rfl rfl hS (by assumption) (by first | exact List.not_mem_nil | assumption) (by first | exact ot_int | exact ot_string | exact ot_strings | exact ot_parts | exact ot_stretches) ?_)
          | (refine own_load1_has rfl _ _ rfl rfl hS (by assumption) (by first | exact List.not_mem_nil | assumption) (by first | exact ot_int | exact ot_string | exact ot_strings | exact ot_parts | exact ot_stretches) (by first | rfl | assumption) ?_)
          | (refine own_box rfl _ _ rfl rfl hS ?_; clear hS; (try clear ww); intro bb ww hS)
          | (refine own_alloc rfl _ rfl hS (by first | exact zt_stretch) ?_; clear hS; (try clear ww); intro bb ww hS)
          | (refine own_store rfl _ _ _ rfl rfl rfl hS (by first | exact at0 | exact at1 | exact at2 | exact at3 | exact at4 | exact at5 | exact at6 | exact at7 | exact at8) (by first | exact rt_font | exact rt_stretch) (by rfl) (by rfl) ?_; clear hS; (try clear ww); intro ww hS; (try simp only at hS); (try simp only [List.set_cons_succ] at hS); (try simp only [List.set_cons_zero] at hS))
          | (refine own_store1 rfl _ _ _ rfl rfl rfl rfl hS (by first | exact at0 | exact at1 | exact at2 | exact at3 | exact at4 | exact at5 | exact at6 | exact at7 | exact at8) (by first | exact ot_int | exact ot_string | exact ot_strings | exact ot_parts | exact ot_stretches) (by simp) ?_; clear hS; (try clear ww); intro ww hS; (try simp only at hS); (try simp only [List.set_cons_succ] at hS); (try simp only [List.set_cons_zero] at hS); (try simp only [Act.eval] at hS); (try simp only [Array.getD_eq_getD_getElem?] at hS); (try simp only [List.getElem?_toArray] at hS); (try simp only [List.getElem?_cons_succ] at hS); (try simp only [List.getElem?_cons_zero] at hS); (try simp only [Option.getD_some] at hS)))
        have hc := (hS.get at0).cell
        refine bodyPost_ret (v := .tuple #[.agg #[.string t.name, .slice t.sx t.sizes.length t.sc, .slice t.px t.parts.length t.pc, .int .i64 t.ov], .bool true]) (by simp [results, Try.results18, go_sem, hc]) rfl ?_
        rw [E1.out]
        exact ⟨t, ⟨rfl, rfl, rfl, rfl⟩, { HT.out with sizes := HT.out.sizes.own hS, parts := HT.out.parts.own hS }, rfl, hS.below⟩
      · have hs' : (t.name.toList == s.toList) = false := by simpa using hs
        have E1 := Lib.hid (show findS ss s = findS (ss.drop (k + 1)) s by rw [HE.out, if_neg hs])
        clear hs HE
        go_wp2_with (first
          | (refine own_unguard (by rfl) ?_)
          | (refine own_load1 rfl _ _ rfl rfl hS (by first | exact at0 | exact at1 | exact at2 | exact at3 | exact at4 | exact at5 | exact at6 | exact at7 | exact at8) (by first | exact ot_int | exact ot_string | exact ot_strings | exact ot_parts | exact ot_stretches) (by first | rfl | assumption) ?_)
          | (refine own_load rfl _ _ rfl rfl hS (by first | exact at0 | exact at1 | exact at2 | exact at3 | exact at4 | exact at5 | exact at6 | exact at7 | exact at8) (by first | exact rt_font | exact rt_stretch) ?_)
          | (refine own_load_old rfl _ _ rfl rfl hS (by assumption) (by first | exact List.not_mem_nil | assumption) (by first | exact rt_font | exact rt_stretch) ?_)
          | (refine own_load_has rfl _ _ rfl rfl hS (by assumption) (by first | exact List.not_mem_nil | assumption) (by first | exact rt_font | exact rt_stretch) ?_)
          | (refine own_load1_old rfl _ _ rfl rfl hS (by assumption) (by first | exact List.not_mem_nil | assumption) (by first | exact ot_int | exact ot_string | exact ot_strings | exact ot_parts | exact ot_stretches) ?_)
          | (refine own_load1_has rfl _ _ rfl rfl hS (by assumption) (by first | exact List.not_mem_nil | assumption) (by first | exact ot_int | exact ot_string | exact ot_strings | exact ot_parts | exact ot_stretches) (by first | rfl | assumption) ?_)
          | (refine own_box rfl _ _ rfl rfl hS ?_; clear hS; (try clear ww); intro bb ww hS)
          | (refine own_alloc rfl _ rfl hS (by first | exact zt_stretch) ?_; clear hS; (try clear ww); intro bb ww hS)
          | (refine own_store rfl _ _ _ rfl rfl rfl hS (by first | exact at0 | exact at1 | exact at2 | exact at3 | exact at4 | exact at5 | exact at6 | exact at7 | exact at8) (by first | exact rt_font | exact rt_stretch) (by rfl) (by rfl) ?_; clear hS; (try clear ww); intro ww hS; (try simp only at hS); (try simp only [List.set_cons_succ] at hS); (try simp only [List.set_cons_zero] at hS))
          | (refine own_store1 rfl _ _ _ rfl rfl rfl rfl hS (by first | exact at0 | exact at1 | exact at2 | exact at3 | exact at4 | exact at5 | exact at6 | exact at7 | exact at8) (by first | exact ot_int | exact ot_string | exact ot_strings | exact ot_parts | exact ot_stretches) (by simp) ?_; clear hS; (try clear ww); intro ww hS; (try simp only at hS); (try simp only [List.set_cons_succ] at hS); (try simp only [List.set_cons_zero] at hS); (try simp only [Act.eval] at hS); (try simp only [Array.getD_eq_getD_getElem?] at hS); (try simp only [List.getElem?_toArray] at hS); (try simp only [List.getElem?_cons_succ] at hS); (try simp only [List.getElem?_cons_zero] at hS); (try simp only [Option.getD_some] at hS)))
        go_roundw
        case rel => exact ⟨k + 1, hlt, by go_num, E1.out, hS⟩
        case measure => exact loop_meas hlt
    · have E1 := Lib.hid (show findS ss s = none by rw [hf]; exact findS_end (by omega))
      obtain rfl := HL.out
      clear hf HL
      go_wp2_with (first
        | (refine own_unguard (by rfl) ?_)
        | (refine own_load1 rfl _ _ rfl rfl hS (by first | exact at0 | exact at1 | exact at2 | exact at3 | exact at4 | exact at5 | exact at6 | exact at7 | exact at8) (by first | exact ot_int | exact ot_string | exact ot_strings | exact ot_parts | exact ot_stretches) (by first | rfl | assumption) ?_)
        | (refine own_load rfl _ _ rfl rfl hS (by first | exact at0 | exact at1 | exact at2 | exact at3 | exact at4 | exact at5 | exact at6 | exact at7 | exact at8) (by first | exact rt_font | exact rt_stretch) ?_)
        | (refine own_load_old rfl _ _ rfl rfl hS (by assumption) (by first | exact List.not_mem_nil | assumption) (by first | exact rt_font | exact rt_stretch) ?_)
        | (refine own_load_has rfl _ _ rfl rfl hS (by assumption) (by first | exact List.not_mem_nil | assumption) (by first | exact rt_font | exact rt_stretch) ?_)
        | (refine own_load1_old rfl _ _ rfl rfl hS (by assumption) (by first | exact List.not_mem_nil | assumption) (by first | exact ot_int | exact ot_string | exact ot_strings | exact ot_parts | exact ot_stretches) ?_)
        | (refine own_load1_has rfl _ _ rfl rfl hS (by assumption) (by first | exact List.not_mem_nil | assumption) (by first | exact ot_int | exact ot_string | exact ot_strings | exact ot_parts | exact ot_stretches) (by first | rfl | assumption) ?_)
        | (refine own_box rfl _ _ rfl rfl hS ?_; clear hS; (try clear ww); intro bb ww hS)
        | (refine own_alloc rfl _ rfl hS (by first | exact zt_stretch) ?_; clear hS; (try clear ww); intro bb ww hS)
        | (refine own_store rfl _ _ _ rfl rfl rfl hS (by first | exact at0 | exact at1 | exact at2 | exact at3 | exact at4 | exact at5 | exact at6 | exact at7 | exact at8) (by first | exact rt_font | exact rt_stretch) (by rfl) (by rfl) ?_; clear hS; (try clear ww); intro ww hS; (try simp only at hS); (try simp only [List.set_cons_succ] at hS); (try simp only [List.set_cons_zero] at hS))
        | (refine own_store1 rfl _ _ _ rfl rfl rfl rfl hS (by first | exact at0 | exact at1 | exact at2 | exact at3 | exact at4 | exact at5 | exact at6 | exact at7 | exact at8) (by first | exact ot_int | exact ot_string | exact ot_strings | exact ot_parts | exact ot_stretches) (by simp) ?_; clear hS; (try clear ww); intro ww hS; (try simp only at hS); (try simp only [List.set_cons_succ] at hS); (try simp only [List.set_cons_zero] at hS); (try simp only [Act.eval] at hS); (try simp only [Array.getD_eq_getD_getElem?] at hS); (try simp only [List.getElem?_toArray] at hS); (try simp only [List.getElem?_cons_succ] at hS); (try simp only [List.getElem?_cons_zero] at hS); (try simp only [Option.getD_some] at hS)))
      rw [E1.out]
      have hc := (hS.get at0).cell
      refine bodyPost_ret (v := .tuple #[.agg #[.string ⟨#[]⟩, .slice none 0 0, .slice none 0 0, .int .i64 0], .bool false]) (by simp [results, Try.results18, go_sem, hc]) rfl ⟨rfl, hS.below⟩

end Go.Proofs.Ytgknameejoalnaa
