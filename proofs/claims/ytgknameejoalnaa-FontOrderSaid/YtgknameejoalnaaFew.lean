/- Few: is a font not too large? -/
import Derived.Test.YtgknameejoalnaaStr
namespace Go.Proofs.Ytgknameejoalnaa
open Go.RowKit

attribute [local irreducible] wpQuiet wpList Code.wp

theorem not_lt_dec {a b : Nat} (h : a ≤ b) : decide (b < a) = false ∧ decide ((b : Int) < (a : Int)) = false := by
  constructor <;> simp <;> omega
theorem lt_dec {a b : Nat} (h : ¬ a ≤ b) : decide (b < a) = true ∧ decide ((b : Int) < (a : Int)) = true := by
  constructor <;> simp <;> omega

set_option maxHeartbeats 4000000 in
set_option maxRecDepth 100000 in
theorem ref05_Few_g (F : Fnt) (w : World) (h : ¬ F.gs.length ≤ 500) : Calls Try.prog 14 #[F.val] w (Gives (.bool false) w) := by
  obtain ⟨d1, d2⟩ := lt_dec h
  simp only [Int.cast_ofNat_Int] at d2
  clear h
  go_enter Try.func14, Try.ntmps14
  have hS := own_start w
  go_wp2_with (first
    | (refine own_unguard (by rfl) ?_)
    | (refine own_load1 rfl _ _ rfl rfl hS (by first | exact at0 | exact at1 | exact at2 | exact at3 | exact at4 | exact at5 | exact at6 | exact at7 | exact at8) (by first | exact ot_int | exact ot_string | exact ot_strings | exact ot_parts | exact ot_stretches | exact ot_glyphs) (by first | rfl | assumption) ?_)
    | (refine own_load rfl _ _ rfl rfl hS (by first | exact at0 | exact at1 | exact at2 | exact at3 | exact at4 | exact at5 | exact at6 | exact at7 | exact at8) (by first | exact rt_font | exact rt_stretch) ?_)
    | (refine own_load_old rfl _ _ rfl rfl hS (by assumption) (by first | exact List.not_mem_nil | assumption) (by first | exact rt_font | exact rt_stretch) ?_)
    | (refine own_load_has rfl _ _ rfl rfl hS (by assumption) (by first | exact List.not_mem_nil | assumption) (by first | exact rt_font | exact rt_stretch) ?_)
    | (refine own_load1_old rfl _ _ rfl rfl hS (by assumption) (by first | exact List.not_mem_nil | assumption) (by first | exact ot_int | exact ot_string | exact ot_strings | exact ot_parts | exact ot_stretches | exact ot_glyphs) ?_)
    | (refine own_load1_has rfl _ _ rfl rfl hS (by assumption) (by first | exact List.not_mem_nil | assumption) (by first | exact ot_int | exact ot_string | exact ot_strings | exact ot_parts | exact ot_stretches | exact ot_glyphs) (by first | rfl | assumption) ?_)
    | (refine own_box rfl _ _ rfl rfl hS ?_; clear hS; (try clear ww); intro bb ww hS)
    | (refine own_alloc rfl _ rfl hS (by first | exact zt_stretch) ?_; clear hS; (try clear ww); intro bb ww hS)
    | (refine own_store rfl _ _ _ rfl rfl rfl hS (by first | exact at0 | exact at1 | exact at2 | exact at3 | exact at4 | exact at5 | exact at6 | exact at7 | exact at8) (by first | exact rt_font | exact rt_stretch) (by rfl) (by rfl) ?_; clear hS; (try clear ww); intro ww hS; (try simp only at hS); (try simp only [List.set_cons_succ] at hS); (try simp only [List.set_cons_zero] at hS))
    | (refine own_store1 rfl _ _ _ rfl rfl rfl rfl hS (by first | exact at0 | exact at1 | exact at2 | exact at3 | exact at4 | exact at5 | exact at6 | exact at7 | exact at8) (by first | exact ot_int | exact ot_string | exact ot_strings | exact ot_parts | exact ot_stretches | exact ot_glyphs) (by simp) ?_; clear hS; (try clear ww); intro ww hS; (try simp only at hS); (try simp only [List.set_cons_succ] at hS); (try simp only [List.set_cons_zero] at hS); (try simp only [Act.eval] at hS); (try simp only [Array.getD_eq_getD_getElem?] at hS); (try simp only [List.getElem?_toArray] at hS); (try simp only [List.getElem?_cons_succ] at hS); (try simp only [List.getElem?_cons_zero] at hS); (try simp only [Option.getD_some] at hS)))
  go_ret
  exact own_gives hS
set_option maxHeartbeats 4000000 in
set_option maxRecDepth 100000 in
theorem ref05_Few_s (F : Fnt) (w : World) (h0 : F.gs.length ≤ 500) (h : ¬ F.ss.length ≤ 50) : Calls Try.prog 14 #[F.val] w (Gives (.bool false) w) := by
  obtain ⟨d1, d2⟩ := lt_dec h
  obtain ⟨d3, d4⟩ := not_lt_dec h0
  simp only [Int.cast_ofNat_Int] at d2 d4
  clear h h0
  go_enter Try.func14, Try.ntmps14
  have hS := own_start w
  go_wp2_with (first
    | (refine own_unguard (by rfl) ?_)
    | (refine own_load1 rfl _ _ rfl rfl hS (by first | exact at0 | exact at1 | exact at2 | exact at3 | exact at4 | exact at5 | exact at6 | exact at7 | exact at8) (by first | exact ot_int | exact ot_string | exact ot_strings | exact ot_parts | exact ot_stretches | exact ot_glyphs) (by first | rfl | assumption) ?_)
    | (refine own_load rfl _ _ rfl rfl hS (by first | exact at0 | exact at1 | exact at2 | exact at3 | exact at4 | exact at5 | exact at6 | exact at7 | exact at8) (by first | exact rt_font | exact rt_stretch) ?_)
    | (refine own_load_old rfl _ _ rfl rfl hS (by assumption) (by first | exact List.not_mem_nil | assumption) (by first | exact rt_font | exact rt_stretch) ?_)
    | (refine own_load_has rfl _ _ rfl rfl hS (by assumption) (by first | exact List.not_mem_nil | assumption) (by first | exact rt_font | exact rt_stretch) ?_)
    | (refine own_load1_old rfl _ _ rfl rfl hS (by assumption) (by first | exact List.not_mem_nil | assumption) (by first | exact ot_int | exact ot_string | exact ot_strings | exact ot_parts | exact ot_stretches | exact ot_glyphs) ?_)
    | (refine own_load1_has rfl _ _ rfl rfl hS (by assumption) (by first | exact List.not_mem_nil | assumption) (by first | exact ot_int | exact ot_string | exact ot_strings | exact ot_parts | exact ot_stretches | exact ot_glyphs) (by first | rfl | assumption) ?_)
    | (refine own_box rfl _ _ rfl rfl hS ?_; clear hS; (try clear ww); intro bb ww hS)
    | (refine own_alloc rfl _ rfl hS (by first | exact zt_stretch) ?_; clear hS; (try clear ww); intro bb ww hS)
    | (refine own_store rfl _ _ _ rfl rfl rfl hS (by first | exact at0 | exact at1 | exact at2 | exact at3 | exact at4 | exact at5 | exact at6 | exact at7 | exact at8) (by first | exact rt_font | exact rt_stretch) (by rfl) (by rfl) ?_; clear hS; (try clear ww); intro ww hS; (try simp only at hS); (try simp only [List.set_cons_succ] at hS); (try simp only [List.set_cons_zero] at hS))
    | (refine own_store1 rfl _ _ _ rfl rfl rfl rfl hS (by first | exact at0 | exact at1 | exact at2 | exact at3 | exact at4 | exact at5 | exact at6 | exact at7 | exact at8) (by first | exact ot_int | exact ot_string | exact ot_strings | exact ot_parts | exact ot_stretches | exact ot_glyphs) (by simp) ?_; clear hS; (try clear ww); intro ww hS; (try simp only at hS); (try simp only [List.set_cons_succ] at hS); (try simp only [List.set_cons_zero] at hS); (try simp only [Act.eval] at hS); (try simp only [Array.getD_eq_getD_getElem?] at hS); (try simp only [List.getElem?_toArray] at hS); (try simp only [List.getElem?_cons_succ] at hS); (try simp only [List.getElem?_cons_zero] at hS); (try simp only [Option.getD_some] at hS)))
  go_ret
  exact own_gives hS

set_option maxHeartbeats 4000000 in
set_option maxRecDepth 100000 in
theorem ref05_Few_loop (F : Fnt) (w : World) (hF : FntOk w F) (h0 : F.gs.length ≤ 500) (h1 : F.ss.length ≤ 50) : Calls Try.prog 14 #[F.val] w (Gives (.bool (F.ss.all fewS)) w) := by
  obtain ⟨gx, gc, gs, sx, sc, ss, q0, q1, q2, q3, q4, q5, q6, q7, q8, q9, q10, q11, q12, q13, q14, q15, q16, q17, q18, q19⟩ := F
  simp only at h0 h1
  obtain ⟨d1, d2⟩ := not_lt_dec h1
  obtain ⟨d3, d4⟩ := not_lt_dec h0
  simp only [Int.cast_ofNat_Int] at d2 d4
  have HF := Lib.hid hF
  clear hF
  go_enter Try.func14, Try.ntmps14
  have hS := own_start w
  go_wp2_with (first
    | (refine own_unguard (by rfl) ?_)
    | (refine own_load1 rfl _ _ rfl rfl hS (by first | exact at0 | exact at1 | exact at2 | exact at3 | exact at4 | exact at5 | exact at6 | exact at7 | exact at8) (by first | exact ot_int | exact ot_string | exact ot_strings | exact ot_parts | exact ot_stretches | exact ot_glyphs) (by first | rfl | assumption) ?_)
    | (refine own_load rfl _ _ rfl rfl hS (by first | exact at0 | exact at1 | exact at2 | exact at3 | exact at4 | exact at5 | exact at6 | exact at7 | exact at8) (by first | exact rt_font | exact rt_stretch) ?_)
    | (refine own_load_old rfl _ _ rfl rfl hS (by assumption) (by first | exact List.not_mem_nil | assumption) (by first | exact rt_font | exact rt_stretch) ?_)
    | (refine own_load_has rfl _ _ rfl rfl hS (by assumption) (by first | exact List.not_mem_nil | assumption) (by first | exact rt_font | exact rt_stretch) ?_)
    | (refine own_load1_old rfl _ _ rfl rfl hS (by assumption) (by first | exact List.not_mem_nil | assumption) (by first | exact ot_int | exact ot_string | exact ot_strings | exact ot_parts | exact ot_stretches | exact ot_glyphs) ?_)
    | (refine own_load1_has rfl _ _ rfl rfl hS (by assumption) (by first | exact List.not_mem_nil | assumption) (by first | exact ot_int | exact ot_string | exact ot_strings | exact ot_parts | exact ot_stretches | exact ot_glyphs) (by first | rfl | assumption) ?_)
    | (refine own_box rfl _ _ rfl rfl hS ?_; clear hS; (try clear ww); intro bb ww hS)
    | (refine own_alloc rfl _ rfl hS (by first | exact zt_stretch) ?_; clear hS; (try clear ww); intro bb ww hS)
    | (refine own_store rfl _ _ _ rfl rfl rfl hS (by first | exact at0 | exact at1 | exact at2 | exact at3 | exact at4 | exact at5 | exact at6 | exact at7 | exact at8) (by first | exact rt_font | exact rt_stretch) (by rfl) (by rfl) ?_; clear hS; (try clear ww); intro ww hS; (try simp only at hS); (try simp only [List.set_cons_succ] at hS); (try simp only [List.set_cons_zero] at hS))
    | (refine own_store1 rfl _ _ _ rfl rfl rfl rfl hS (by first | exact at0 | exact at1 | exact at2 | exact at3 | exact at4 | exact at5 | exact at6 | exact at7 | exact at8) (by first | exact ot_int | exact ot_string | exact ot_strings | exact ot_parts | exact ot_stretches | exact ot_glyphs) (by simp) ?_; clear hS; (try clear ww); intro ww hS; (try simp only at hS); (try simp only [List.set_cons_succ] at hS); (try simp only [List.set_cons_zero] at hS); (try simp only [Act.eval] at hS); (try simp only [Array.getD_eq_getD_getElem?] at hS); (try simp only [List.getElem?_toArray] at hS); (try simp only [List.getElem?_cons_succ] at hS); (try simp only [List.getElem?_cons_zero] at hS); (try simp only [Option.getD_some] at hS)))
  obtain ⟨L0, HL, hS⟩ := hS.named
  go_loopw [3] (fun i wr => ∃ k : Nat, k ≤ ss.length ∧ i = .int .i64 k ∧ ss.all fewS = (ss.drop k).all fewS ∧ Own [] w L0 wr) (fun i _ => ss.length - (intOf i).toNat)
  case atStart => exact ⟨0, Nat.zero_le _, rfl, rfl, hS⟩
  case round =>
    clear hS
    obtain ⟨k, hk, rfl, hf, hS⟩ := hrel
    by_cases hlt : k < ss.length
    · obtain ⟨t, ht⟩ : ∃ t, ss[k]? = some t := ⟨ss[k], by simp [hlt]⟩
      obtain ⟨b, o, hx, hr0⟩ := HF.out.strs.get ht
      obtain rfl : sx = some ⟨b, o, none⟩ := hx
      obtain rfl := HL.out
      clear HL
      rw [fewS_drop ht] at hf
      have HE := Lib.hid hf
      clear hf ht
      have c1 : w.cell? ⟨b, o + k * 4 + 1, none⟩ = some (.slice t.sx t.sizes.length t.sc) := hr0 1 _ rfl
      have c2 : w.cell? ⟨b, o + k * 4 + 2, none⟩ = some (.slice t.px t.parts.length t.pc) := hr0 2 _ rfl
      clear hr0
      by_cases hs : t.sizes.length ≤ 50
      · obtain ⟨e1, e2⟩ := not_lt_dec hs
        simp only [Int.cast_ofNat_Int] at e2
        by_cases hp : t.parts.length ≤ 50
        · obtain ⟨e3, e4⟩ := not_lt_dec hp
          simp only [Int.cast_ofNat_Int] at e4
          have E1 := Lib.hid (show ss.all fewS = (ss.drop (k + 1)).all fewS by rw [HE.out]; simp [fewS, hs, hp])
          clear HE hs hp
          go_wp2_with (first
            | (refine own_unguard (by rfl) ?_)
            | (refine own_load1 rfl _ _ rfl rfl hS (by first | exact at0 | exact at1 | exact at2 | exact at3 | exact at4 | exact at5 | exact at6 | exact at7 | exact at8) (by first | exact ot_int | exact ot_string | exact ot_strings | exact ot_parts | exact ot_stretches | exact ot_glyphs) (by first | rfl | assumption) ?_)
            | (refine own_load rfl _ _ rfl rfl hS (by first | exact at0 | exact at1 | exact at2 | exact at3 | exact at4 | exact at5 | exact at6 | exact at7 | exact at8) (by first | exact rt_font | exact rt_stretch) ?_)
            | (refine own_load_old rfl _ _ rfl rfl hS (by assumption) (by first | exact List.not_mem_nil | assumption) (by first | exact rt_font | exact rt_stretch) ?_)
            | (refine own_load_has rfl _ _ rfl rfl hS (by assumption) (by first | exact List.not_mem_nil | assumption) (by first | exact rt_font | exact rt_stretch) ?_)
            | (refine own_load1_old rfl _ _ rfl rfl hS (by assumption) (by first | exact List.not_mem_nil | assumption) (by first | exact ot_int | exact ot_string | exact ot_strings | exact ot_parts | exact ot_stretches | exact ot_glyphs) ?_)
            | (refine own_load1_has rfl _ _ rfl rfl hS (by assumption) (by first | exact List.not_mem_nil | assumption) (by first | exact ot_int | exact ot_string | exact ot_strings | exact ot_parts | exact ot_stretches | exact ot_glyphs) (by first | rfl | assumption) ?_)
            | (refine own_box rfl _ _ rfl rfl hS ?_; clear hS; (try clear ww); intro bb ww hS)
            | (refine own_alloc rfl _ rfl hS (by first | exact zt_stretch) ?_; clear hS; (try clear ww); intro bb ww hS)
            | (refine own_store rfl _ _ _ rfl rfl rfl hS (by first | exact at0 | exact at1 | exact at2 | exact at3 | exact at4 | exact at5 | exact at6 | exact at7 | exact at8) (by first | exact rt_font | exact rt_stretch) (by rfl) (by rfl) ?_; clear hS; (try clear ww); intro ww hS; (try simp only at hS); (try simp only [List.set_cons_succ] at hS); (try simp only [List.set_cons_zero] at hS))
            | (refine own_store1 rfl _ _ _ rfl rfl rfl rfl hS (by first | exact at0 | exact at1 | exact at2 | exact at3 | exact at4 | exact at5 | exact at6 | exact at7 | exact at8) (by first | exact ot_int | exact ot_string | exact ot_strings | exact ot_parts | exact ot_stretches | exact ot_glyphs) (by simp) ?_; clear hS; (try clear ww); intro ww hS; (try simp only at hS); (try simp only [List.set_cons_succ] at hS); (try simp only [List.set_cons_zero] at hS); (try simp only [Act.eval] at hS); (try simp only [Array.getD_eq_getD_getElem?] at hS); (try simp only [List.getElem?_toArray] at hS); (try simp only [List.getElem?_cons_succ] at hS); (try simp only [List.getElem?_cons_zero] at hS); (try simp only [Option.getD_some] at hS)))
          go_roundw
          case rel => exact ⟨k + 1, hlt, by go_num, E1.out, hS⟩
          case measure => exact loop_meas hlt
        · obtain ⟨e3, e4⟩ := lt_dec hp
          simp only [Int.cast_ofNat_Int] at e4
          have E1 := Lib.hid (show ss.all fewS = false by rw [HE.out]; simp [fewS, hp])
          clear HE hs hp
          go_wp2_with (first
            | (refine own_unguard (by rfl) ?_)
            | (refine own_load1 rfl _ _ rfl rfl hS (by first | exact at0 | exact at1 | exact at2 | exact at3 | exact at4 | exact at5 | exact at6 | exact at7 | exact at8) (by first | exact ot_int | exact ot_string | exact ot_strings | exact ot_parts | exact ot_stretches | exact ot_glyphs) (by first | rfl | assumption) ?_)
            | (refine own_load rfl _ _ rfl rfl hS (by first | exact at0 | exact at1 | exact at2 | exact at3 | exact at4 | exact at5 | exact at6 | exact at7 | exact at8) (by first | exact rt_font | exact rt_stretch) ?_)
            | (refine own_load_old rfl _ _ rfl rfl hS (by assumption) (by first | exact List.not_mem_nil | assumption) (by first | exact rt_font | exact rt_stretch) ?_)
            | (refine own_load_has rfl _ _ rfl rfl hS (by assumption) (by first | exact List.not_mem_nil | assumption) (by first | exact rt_font | exact rt_stretch) ?_)
            | (refine own_load1_old rfl _ _ rfl rfl hS (by assumption) (by first | exact List.not_mem_nil | assumption) (by first | exact ot_int | exact ot_string | exact ot_strings | exact ot_parts | exact ot_stretches | exact ot_glyphs) ?_)
            | (refine own_load1_has rfl _ _ rfl rfl hS (by assumption) (by first | exact List.not_mem_nil | assumption) (by first | exact ot_int | exact ot_string | exact ot_strings | exact ot_parts | exact ot_stretches | exact ot_glyphs) (by first | rfl | assumption) ?_)
            | (refine own_box rfl _ _ rfl rfl hS ?_; clear hS; (try clear ww); intro bb ww hS)
            | (refine own_alloc rfl _ rfl hS (by first | exact zt_stretch) ?_; clear hS; (try clear ww); intro bb ww hS)
            | (refine own_store rfl _ _ _ rfl rfl rfl hS (by first | exact at0 | exact at1 | exact at2 | exact at3 | exact at4 | exact at5 | exact at6 | exact at7 | exact at8) (by first | exact rt_font | exact rt_stretch) (by rfl) (by rfl) ?_; clear hS; (try clear ww); intro ww hS; (try simp only at hS); (try simp only [List.set_cons_succ] at hS); (try simp only [List.set_cons_zero] at hS))
            | (refine own_store1 rfl _ _ _ rfl rfl rfl rfl hS (by first | exact at0 | exact at1 | exact at2 | exact at3 | exact at4 | exact at5 | exact at6 | exact at7 | exact at8) (by first | exact ot_int | exact ot_string | exact ot_strings | exact ot_parts | exact ot_stretches | exact ot_glyphs) (by simp) ?_; clear hS; (try clear ww); intro ww hS; (try simp only at hS); (try simp only [List.set_cons_succ] at hS); (try simp only [List.set_cons_zero] at hS); (try simp only [Act.eval] at hS); (try simp only [Array.getD_eq_getD_getElem?] at hS); (try simp only [List.getElem?_toArray] at hS); (try simp only [List.getElem?_cons_succ] at hS); (try simp only [List.getElem?_cons_zero] at hS); (try simp only [Option.getD_some] at hS)))
          go_ret
          exact ⟨ret_bool E1.out.symm, hS.below⟩
      · obtain ⟨e1, e2⟩ := lt_dec hs
        simp only [Int.cast_ofNat_Int] at e2
        have E1 := Lib.hid (show ss.all fewS = false by rw [HE.out]; simp [fewS, hs])
        clear HE hs
        go_wp2_with (first
          | (refine own_unguard (by rfl) ?_)
          | (refine own_load1 rfl _ _ rfl rfl hS (by first | exact at0 | exact at1 | exact at2 | exact at3 | exact at4 | exact at5 | exact at6 | exact at7 | exact at8) (by first | exact ot_int | exact ot_string | exact ot_strings | exact ot_parts | exact ot_stretches | exact ot_glyphs) (by first | rfl | assumption) ?_)
          | (refine own_load rfl _ _ rfl rfl hS (by first | exact at0 | exact at1 | exact at2 | exact at3 | exact at4 | exact at5 | exact at6 | exact at7 | exact at8) (by first | exact rt_font | exact rt_stretch) ?_)
          | (refine own_load_old rfl _ _ rfl rfl hS (by assumption) (by first | exact List.not_mem_nil | assumption) (by first | exact rt_font | exact rt_stretch) ?_)
          | (refine own_load_has rfl _ _ rfl rfl hS (by assumption) (by first | exact List.not_mem_nil | assumption) (by first | exact rt_font | exact rt_stretch) ?_)
          | (refine own_load1_old rfl _ _ rfl rfl hS (by assumption) (by first | exact List.not_mem_nil | assumption) (by first | exact ot_int | exact ot_string | exact ot_strings | exact ot_parts | exact ot_stretches | exact ot_glyphs) ?_)
          | (refine own_load1_has rfl _ _ rfl rfl hS (by assumption) (by first | exact List.not_mem_nil | assumption) (by first | exact ot_int | exact ot_string | exact ot_strings | exact ot_parts | exact ot_stretches | exact ot_glyphs) (by first | rfl | assumption) ?_)
          | (refine own_box rfl _ _ rfl rfl hS ?_; clear hS; (try clear ww); intro bb ww hS)
          | (refine own_alloc rfl _ rfl hS (by first | exact zt_stretch) ?_; clear hS; (try clear ww); intro bb ww hS)
          | (refine own_store rfl _ _ _ rfl rfl rfl hS (by first | exact at0 | exact at1 | exact at2 | exact at3 | exact at4 | exact at5 | exact at6 | exact at7 | exact at8) (by first | exact rt_font | exact rt_stretch) (by rfl) (by rfl) ?_; clear hS; (try clear ww); intro ww hS; (try simp only at hS); (try simp only [List.set_cons_succ] at hS); (try simp only [List.set_cons_zero] at hS))
          | (refine own_store1 rfl _ _ _ rfl rfl rfl rfl hS (by first | exact at0 | exact at1 | exact at2 | exact at3 | exact at4 | exact at5 | exact at6 | exact at7 | exact at8) (by first | exact ot_int | exact ot_string | exact ot_strings | exact ot_parts | exact ot_stretches | exact ot_glyphs) (by simp) ?_; clear hS; (try clear ww); intro ww hS; (try simp only at hS); (try simp only [List.set_cons_succ] at hS); (try simp only [List.set_cons_zero] at hS); (try simp only [Act.eval] at hS); (try simp only [Array.getD_eq_getD_getElem?] at hS); (try simp only [List.getElem?_toArray] at hS); (try simp only [List.getElem?_cons_succ] at hS); (try simp only [List.getElem?_cons_zero] at hS); (try simp only [Option.getD_some] at hS)))
        go_ret
        exact ⟨ret_bool E1.out.symm, hS.below⟩
    · have E1 := Lib.hid (show ss.all fewS = true by rw [hf, List.drop_of_length_le (by omega)]; rfl)
      obtain rfl := HL.out
      clear hf HL
      go_wp2_with (first
        | (refine own_unguard (by rfl) ?_)
        | (refine own_load1 rfl _ _ rfl rfl hS (by first | exact at0 | exact at1 | exact at2 | exact at3 | exact at4 | exact at5 | exact at6 | exact at7 | exact at8) (by first | exact ot_int | exact ot_string | exact ot_strings | exact ot_parts | exact ot_stretches | exact ot_glyphs) (by first | rfl | assumption) ?_)
        | (refine own_load rfl _ _ rfl rfl hS (by first | exact at0 | exact at1 | exact at2 | exact at3 | exact at4 | exact at5 | exact at6 | exact at7 | exact at8) (by first | exact rt_font | exact rt_stretch) ?_)
        | (refine own_load_old rfl _ _ rfl rfl hS (by assumption) (by first | exact List.not_mem_nil | assumption) (by first | exact rt_font | exact rt_stretch) ?_)
        | (refine own_load_has rfl _ _ rfl rfl hS (by assumption) (by first | exact List.not_mem_nil | assumption) (by first | exact rt_font | exact rt_stretch) ?_)
        | (refine own_load1_old rfl _ _ rfl rfl hS (by assumption) (by first | exact List.not_mem_nil | assumption) (by first | exact ot_int | exact ot_string | exact ot_strings | exact ot_parts | exact ot_stretches | exact ot_glyphs) ?_)
        | (refine own_load1_has rfl _ _ rfl rfl hS (by assumption) (by first | exact List.not_mem_nil | assumption) (by first | exact ot_int | exact ot_string | exact ot_strings | exact ot_parts | exact ot_stretches | exact ot_glyphs) (by first | rfl | assumption) ?_)
        | (refine own_box rfl _ _ rfl rfl hS ?_; clear hS; (try clear ww); intro bb ww hS)
        | (refine own_alloc rfl _ rfl hS (by first | exact zt_stretch) ?_; clear hS; (try clear ww); intro bb ww hS)
        | (refine own_store rfl _ _ _ rfl rfl rfl hS (by first | exact at0 | exact at1 | exact at2 | exact at3 | exact at4 | exact at5 | exact at6 | exact at7 | exact at8) (by first | exact rt_font | exact rt_stretch) (by rfl) (by rfl) ?_; clear hS; (try clear ww); intro ww hS; (try simp only at hS); (try simp only [List.set_cons_succ] at hS); (try simp only [List.set_cons_zero] at hS))
        | (refine own_store1 rfl _ _ _ rfl rfl rfl rfl hS (by first | exact at0 | exact at1 | exact at2 | exact at3 | exact at4 | exact at5 | exact at6 | exact at7 | exact at8) (by first | exact ot_int | exact ot_string | exact ot_strings | exact ot_parts | exact ot_stretches | exact ot_glyphs) (by simp) ?_; clear hS; (try clear ww); intro ww hS; (try simp only at hS); (try simp only [List.set_cons_succ] at hS); (try simp only [List.set_cons_zero] at hS); (try simp only [Act.eval] at hS); (try simp only [Array.getD_eq_getD_getElem?] at hS); (try simp only [List.getElem?_toArray] at hS); (try simp only [List.getElem?_cons_succ] at hS); (try simp only [List.getElem?_cons_zero] at hS); (try simp only [Option.getD_some] at hS)))
      go_ret
      exact ⟨ret_bool E1.out.symm, hS.below⟩

theorem ref05_Few_calls (F : Fnt) (w : World) (hF : FntOk w F) : Calls Try.prog 14 #[F.val] w (Gives (.bool (fewB F)) w) := by
  by_cases h0 : F.gs.length ≤ 500
  · by_cases h1 : F.ss.length ≤ 50
    · have := ref05_Few_loop F w hF h0 h1
      rwa [show fewB F = F.ss.all fewS by simp [fewB, h0, h1]]
    · have := ref05_Few_s F w h0 h1
      rwa [show fewB F = false by simp [fewB, h1]]
  · have := ref05_Few_g F w h0
    rwa [show fewB F = false by simp [fewB, h0]]

end Go.Proofs.Ytgknameejoalnaa
