/- Texts Few, Num, Prm, Prr, Scal. -/
import Derived.Test.YtfmoghkffffmmaaJ01
import Derived.Test.YtfmoghkffffmmaaJ00
import Derived.Great.Walk
namespace Go.Proofs.Ytfmoghkffffmmaa
open Go.RowKit

attribute [local irreducible] wpQuiet wpList Code.wp

theorem not_lt_dec {a b : Nat} (h : a ≤ b) : decide (b < a) = false ∧ decide ((b : Int) < (a : Int)) = false := by
  constructor <;> simp <;> omega
theorem lt_dec {a b : Nat} (h : ¬ a ≤ b) : decide (b < a) = true ∧ decide ((b : Int) < (a : Int)) = true := by
  constructor <;> simp <;> omega

set_option maxHeartbeats 4000000 in
set_option maxRecDepth 100000 in
theorem ref05_Few_g (F : Fnt) (w : World) (h : ¬ F.gs.length ≤ 500) : Calls Try.prog 19 #[F.val] w (Gives (.bool false) w) := by
  obtain ⟨d1, d2⟩ := lt_dec h
  simp only [Int.cast_ofNat_Int] at d2
  clear h
  go_enter Try.func19, Try.ntmps19
  have hS := own_start w
  go_wp2_with (first | (refine own_unguard (by rfl) ?_) | (refine own_load1 rfl _ _ rfl rfl hS (atl (by repeat constructor)) (by first | exact ot_int | exact ot_string | exact ot_strings | exact ot_parts | exact ot_stretches | exact ot_glyphs) (by first | rfl | assumption) ?_) | (refine own_load rfl _ _ rfl rfl hS (atl (by repeat constructor)) (by first | exact rt_font | exact rt_stretch) ?_) | (refine own_load_old rfl _ _ rfl rfl hS (by assumption) (by first | exact List.not_mem_nil | assumption) (by first | exact rt_font | exact rt_stretch) ?_) | (refine own_load_has rfl _ _ rfl rfl hS (by assumption) (by first | exact List.not_mem_nil | assumption) (by first | exact rt_font | exact rt_stretch) ?_) | (refine own_load1_old rfl _ _ rfl rfl hS (by assumption) (by first | exact List.not_mem_nil | assumption) (by first | exact ot_int | exact ot_string | exact ot_strings | exact ot_parts | exact ot_stretches | exact ot_glyphs) ?_) | (refine own_load1_has rfl _ _ rfl rfl hS (by assumption) (by first | exact List.not_mem_nil | assumption) (by first | exact ot_int | exact ot_string | exact ot_strings | exact ot_parts | exact ot_stretches | exact ot_glyphs) (by first | rfl | assumption) ?_) | (refine own_box rfl _ _ rfl rfl hS ?_; clear hS; (try clear ww); intro bb ww hS) | (refine own_alloc rfl _ rfl hS (by first | exact zt_stretch) ?_; clear hS; (try clear ww); intro bb ww hS) | (refine own_store rfl _ _ _ rfl rfl rfl hS (atl (by repeat constructor)) (by first | exact rt_font | exact rt_stretch) (by rfl) (by rfl) ?_; clear hS; (try clear ww); intro ww hS; (try simp only at hS); (try simp only [List.set_cons_succ] at hS); (try simp only [List.set_cons_zero] at hS)) | (refine own_store1 rfl _ _ _ rfl rfl rfl rfl hS (atl (by repeat constructor)) (by first | exact ot_int | exact ot_string | exact ot_strings | exact ot_parts | exact ot_stretches | exact ot_glyphs) (by simp) ?_; clear hS; (try clear ww); intro ww hS; (try simp only at hS); (try simp only [List.set_cons_succ] at hS); (try simp only [List.set_cons_zero] at hS); (try simp only [Act.eval] at hS); (try simp only [Array.getD_eq_getD_getElem?] at hS); (try simp only [List.getElem?_toArray] at hS); (try simp only [List.getElem?_cons_succ] at hS); (try simp only [List.getElem?_cons_zero] at hS); (try simp only [Option.getD_some] at hS)))
  go_ret
  exact own_gives hS
set_option maxHeartbeats 4000000 in
set_option maxRecDepth 100000 in
theorem ref05_Few_s (F : Fnt) (w : World) (h0 : F.gs.length ≤ 500) (h : ¬ F.ss.length ≤ 50) : Calls Try.prog 19 #[F.val] w (Gives (.bool false) w) := by
  obtain ⟨d1, d2⟩ := lt_dec h
  obtain ⟨d3, d4⟩ := not_lt_dec h0
  simp only [Int.cast_ofNat_Int] at d2 d4
  clear h h0
  go_enter Try.func19, Try.ntmps19
  have hS := own_start w
  go_wp2_with (first | (refine own_unguard (by rfl) ?_) | (refine own_load1 rfl _ _ rfl rfl hS (atl (by repeat constructor)) (by first | exact ot_int | exact ot_string | exact ot_strings | exact ot_parts | exact ot_stretches | exact ot_glyphs) (by first | rfl | assumption) ?_) | (refine own_load rfl _ _ rfl rfl hS (atl (by repeat constructor)) (by first | exact rt_font | exact rt_stretch) ?_) | (refine own_load_old rfl _ _ rfl rfl hS (by assumption) (by first | exact List.not_mem_nil | assumption) (by first | exact rt_font | exact rt_stretch) ?_) | (refine own_load_has rfl _ _ rfl rfl hS (by assumption) (by first | exact List.not_mem_nil | assumption) (by first | exact rt_font | exact rt_stretch) ?_) | (refine own_load1_old rfl _ _ rfl rfl hS (by assumption) (by first | exact List.not_mem_nil | assumption) (by first | exact ot_int | exact ot_string | exact ot_strings | exact ot_parts | exact ot_stretches | exact ot_glyphs) ?_) | (refine own_load1_has rfl _ _ rfl rfl hS (by assumption) (by first | exact List.not_mem_nil | assumption) (by first | exact ot_int | exact ot_string | exact ot_strings | exact ot_parts | exact ot_stretches | exact ot_glyphs) (by first | rfl | assumption) ?_) | (refine own_box rfl _ _ rfl rfl hS ?_; clear hS; (try clear ww); intro bb ww hS) | (refine own_alloc rfl _ rfl hS (by first | exact zt_stretch) ?_; clear hS; (try clear ww); intro bb ww hS) | (refine own_store rfl _ _ _ rfl rfl rfl hS (atl (by repeat constructor)) (by first | exact rt_font | exact rt_stretch) (by rfl) (by rfl) ?_; clear hS; (try clear ww); intro ww hS; (try simp only at hS); (try simp only [List.set_cons_succ] at hS); (try simp only [List.set_cons_zero] at hS)) | (refine own_store1 rfl _ _ _ rfl rfl rfl rfl hS (atl (by repeat constructor)) (by first | exact ot_int | exact ot_string | exact ot_strings | exact ot_parts | exact ot_stretches | exact ot_glyphs) (by simp) ?_; clear hS; (try clear ww); intro ww hS; (try simp only at hS); (try simp only [List.set_cons_succ] at hS); (try simp only [List.set_cons_zero] at hS); (try simp only [Act.eval] at hS); (try simp only [Array.getD_eq_getD_getElem?] at hS); (try simp only [List.getElem?_toArray] at hS); (try simp only [List.getElem?_cons_succ] at hS); (try simp only [List.getElem?_cons_zero] at hS); (try simp only [Option.getD_some] at hS)))
  go_ret
  exact own_gives hS

set_option maxHeartbeats 4000000 in
set_option maxRecDepth 100000 in
theorem ref05_Few_loop (F : Fnt) (w : World) (hF : FntOk w F) (h0 : F.gs.length ≤ 500) (h1 : F.ss.length ≤ 50) : Calls Try.prog 19 #[F.val] w (Gives (.bool (F.ss.all fewS)) w) := by
  obtain ⟨gx, gc, gs, sx, sc, ss, q0, q1, q2, q3, q4, q5, q6, q7, q8, q9, q10, q11, q12, q13, q14, q15, q16, q17, q18, q19⟩ := F
  simp only at h0 h1
  obtain ⟨d1, d2⟩ := not_lt_dec h1
  obtain ⟨d3, d4⟩ := not_lt_dec h0
  simp only [Int.cast_ofNat_Int] at d2 d4
  have HF := Lib.hid hF
  clear hF
  go_enter Try.func19, Try.ntmps19
  have hS := own_start w
  go_wp2_with (first | (refine own_unguard (by rfl) ?_) | (refine own_load1 rfl _ _ rfl rfl hS (atl (by repeat constructor)) (by first | exact ot_int | exact ot_string | exact ot_strings | exact ot_parts | exact ot_stretches | exact ot_glyphs) (by first | rfl | assumption) ?_) | (refine own_load rfl _ _ rfl rfl hS (atl (by repeat constructor)) (by first | exact rt_font | exact rt_stretch) ?_) | (refine own_load_old rfl _ _ rfl rfl hS (by assumption) (by first | exact List.not_mem_nil | assumption) (by first | exact rt_font | exact rt_stretch) ?_) | (refine own_load_has rfl _ _ rfl rfl hS (by assumption) (by first | exact List.not_mem_nil | assumption) (by first | exact rt_font | exact rt_stretch) ?_) | (refine own_load1_old rfl _ _ rfl rfl hS (by assumption) (by first | exact List.not_mem_nil | assumption) (by first | exact ot_int | exact ot_string | exact ot_strings | exact ot_parts | exact ot_stretches | exact ot_glyphs) ?_) | (refine own_load1_has rfl _ _ rfl rfl hS (by assumption) (by first | exact List.not_mem_nil | assumption) (by first | exact ot_int | exact ot_string | exact ot_strings | exact ot_parts | exact ot_stretches | exact ot_glyphs) (by first | rfl | assumption) ?_) | (refine own_box rfl _ _ rfl rfl hS ?_; clear hS; (try clear ww); intro bb ww hS) | (refine own_alloc rfl _ rfl hS (by first | exact zt_stretch) ?_; clear hS; (try clear ww); intro bb ww hS) | (refine own_store rfl _ _ _ rfl rfl rfl hS (atl (by repeat constructor)) (by first | exact rt_font | exact rt_stretch) (by rfl) (by rfl) ?_; clear hS; (try clear ww); intro ww hS; (try simp only at hS); (try simp only [List.set_cons_succ] at hS); (try simp only [List.set_cons_zero] at hS)) | (refine own_store1 rfl _ _ _ rfl rfl rfl rfl hS (atl (by repeat constructor)) (by first | exact ot_int | exact ot_string | exact ot_strings | exact ot_parts | exact ot_stretches | exact ot_glyphs) (by simp) ?_; clear hS; (try clear ww); intro ww hS; (try simp only at hS); (try simp only [List.set_cons_succ] at hS); (try simp only [List.set_cons_zero] at hS); (try simp only [Act.eval] at hS); (try simp only [Array.getD_eq_getD_getElem?] at hS); (try simp only [List.getElem?_toArray] at hS); (try simp only [List.getElem?_cons_succ] at hS); (try simp only [List.getElem?_cons_zero] at hS); (try simp only [Option.getD_some] at hS)))
  obtain ⟨L0, HL, hS⟩ := hS.named
  go_loopw [3] (fun i wr => ∃ k : Nat, k ≤ ss.length ∧ i = .int .i64 k ∧ ss.all fewS = (ss.drop k).all fewS ∧ Own [] w L0 wr) (fun i _ => ss.length - (intOf i).toNat)
  case atStart => exact ⟨0, Nat.zero_le _, rfl, rfl, hS⟩
  case round =>
    clear hS
    obtain ⟨k, hk, rfl, hf, hS⟩ := hrel
    by_cases hlt : k < ss.length
    · obtain ⟨t, ht⟩ : ∃ t, ss[k]? = some t := ⟨ss[k], by simp [hlt]⟩
      obtain ⟨b, o, hx, hr0⟩ := HF.out.strs.get ht
      obtain rfl : sx = some ⟨b, o, none⟩ := hx
      obtain rfl := HL.out
      clear HL
      rw [fewS_drop ht] at hf
      have HE := Lib.hid hf
      clear hf ht
      have c1 : w.cell? ⟨b, o + k * 4 + 1, none⟩ = some (.slice t.sx t.sizes.length t.sc) := hr0 1 _ rfl
      have c2 : w.cell? ⟨b, o + k * 4 + 2, none⟩ = some (.slice t.px t.parts.length t.pc) := hr0 2 _ rfl
      clear hr0
      by_cases hs : t.sizes.length ≤ 50
      · obtain ⟨e1, e2⟩ := not_lt_dec hs
        simp only [Int.cast_ofNat_Int] at e2
        by_cases hp : t.parts.length ≤ 50
        · obtain ⟨e3, e4⟩ := not_lt_dec hp
          simp only [Int.cast_ofNat_Int] at e4
          have E1 := Lib.hid (show ss.all fewS = (ss.drop (k + 1)).all fewS by rw [HE.out]; simp [fewS, hs, hp])
          clear HE hs hp
          go_wp2_with (first | (refine own_unguard (by rfl) ?_) | (refine own_load1 rfl _ _ rfl rfl hS (atl (by repeat constructor)) (by first | exact ot_int | exact ot_string | exact ot_strings | exact ot_parts | exact ot_stretches | exact ot_glyphs) (by first | rfl | assumption) ?_) | (refine own_load rfl _ _ rfl rfl hS (atl (by repeat constructor)) (by first | exact rt_font | exact rt_stretch) ?_) | (refine own_load_old rfl _ _ rfl rfl hS (by assumption) (by first | exact List.not_mem_nil | assumption) (by first | exact rt_font | exact rt_stretch) ?_) | (refine own_load_has rfl _ _ rfl rfl hS (by assumption) (by first | exact List.not_mem_nil | assumption) (by first | exact rt_font | exact rt_stretch) ?_) | (refine own_load1_old rfl _ _ rfl rfl hS (by assumption) (by first | exact List.not_mem_nil | assumption) (by first | exact ot_int | exact ot_string | exact ot_strings | exact ot_parts | exact ot_stretches | exact ot_glyphs) ?_) | (refine own_load1_has rfl _ _ rfl rfl hS (by assumption) (by first | exact List.not_mem_nil | assumption) (by first | exact ot_int | exact ot_string | exact ot_strings | exact ot_parts | exact ot_stretches | exact ot_glyphs) (by first | rfl | assumption) ?_) | (refine own_box rfl _ _ rfl rfl hS ?_; clear hS; (try clear ww); intro bb ww hS) | (refine own_alloc rfl _ rfl hS (by first | exact zt_stretch) ?_; clear hS; (try clear ww); intro bb ww hS) | (refine own_store rfl _ _ _ rfl rfl rfl hS (atl (by repeat constructor)) (by first | exact rt_font | exact rt_stretch) (by rfl) (by rfl) ?_; clear hS; (try clear ww); intro ww hS; (try simp only at hS); (try simp only [List.set_cons_succ] at hS); (try simp only [List.set_cons_zero] at hS)) | (refine own_store1 rfl _ _ _ rfl rfl rfl rfl hS (atl (by repeat constructor)) (by first | exact ot_int | exact ot_string | exact ot_strings | exact ot_parts | exact ot_stretches | exact ot_glyphs) (by simp) ?_; clear hS; (try clear ww); intro ww hS; (try simp only at hS); (try simp only [List.set_cons_succ] at hS); (try simp only [List.set_cons_zero] at hS); (try simp only [Act.eval] at hS); (try simp only [Array.getD_eq_getD_getElem?] at hS); (try simp only [List.getElem?_toArray] at hS); (try simp only [List.getElem?_cons_succ] at hS); (try simp only [List.getElem?_cons_zero] at hS); (try simp only [Option.getD_some] at hS)))
          go_roundw
          case rel => exact ⟨k + 1, hlt, by go_num, E1.out, hS⟩
          case measure => exact loop_meas hlt
        · obtain ⟨e3, e4⟩ := lt_dec hp
          simp only [Int.cast_ofNat_Int] at e4
          have E1 := Lib.hid (show ss.all fewS = false by rw [HE.out]; simp [fewS, hp])
          clear HE hs hp
          go_wp2_with (first | (refine own_unguard (by rfl) ?_) | (refine own_load1 rfl _ _ rfl rfl hS (atl (by repeat constructor)) (by first | exact ot_int | exact ot_string | exact ot_strings | exact ot_parts | exact ot_stretches | exact ot_glyphs) (by first | rfl | assumption) ?_) | (refine own_load rfl _ _ rfl rfl hS (atl (by repeat constructor)) (by first | exact rt_font | exact rt_stretch) ?_) | (refine own_load_old rfl _ _ rfl rfl hS (by assumption) (by first | exact List.not_mem_nil | assumption) (by first | exact rt_font | exact rt_stretch) ?_) | (refine own_load_has rfl _ _ rfl rfl hS (by assumption) (by first | exact List.not_mem_nil | assumption) (by first | exact rt_font | exact rt_stretch) ?_) | (refine own_load1_old rfl _ _ rfl rfl hS (by assumption) (by first | exact List.not_mem_nil | assumption) (by first | exact ot_int | exact ot_string | exact ot_strings | exact ot_parts | exact ot_stretches | exact ot_glyphs) ?_) | (refine own_load1_has rfl _ _ rfl rfl hS (by assumption) (by first | exact List.not_mem_nil | assumption) (by first | exact ot_int | exact ot_string | exact ot_strings | exact ot_parts | exact ot_stretches | exact ot_glyphs) (by first | rfl | assumption) ?_) | (refine own_box rfl _ _ rfl rfl hS ?_; clear hS; (try clear ww); intro bb ww hS) | (refine own_alloc rfl _ rfl hS (by first | exact zt_stretch) ?_; clear hS; (try clear ww); intro bb ww hS) | (refine own_store rfl _ _ _ rfl rfl rfl hS (atl (by repeat constructor)) (by first | exact rt_font | exact rt_stretch) (by rfl) (by rfl) ?_; clear hS; (try clear ww); intro ww hS; (try simp only at hS); (try simp only [List.set_cons_succ] at hS); (try simp only [List.set_cons_zero] at hS)) | (refine own_store1 rfl _ _ _ rfl rfl rfl rfl hS (atl (by repeat constructor)) (by first | exact ot_int | exact ot_string | exact ot_strings | exact ot_parts | exact ot_stretches | exact ot_glyphs) (by simp) ?_; clear hS; (try clear ww); intro ww hS; (try simp only at hS); (try simp only [List.set_cons_succ] at hS); (try simp only [List.set_cons_zero] at hS); (try simp only [Act.eval] at hS); (try simp only [Array.getD_eq_getD_getElem?] at hS); (try simp only [List.getElem?_toArray] at hS); (try simp only [List.getElem?_cons_succ] at hS); (try simp only [List.getElem?_cons_zero] at hS); (try simp only [Option.getD_some] at hS)))
          go_ret
          exact ⟨ret_bool E1.out.symm, hS.below⟩
      · obtain ⟨e1, e2⟩ := lt_dec hs
        simp only [Int.cast_ofNat_Int] at e2
        have E1 := Lib.hid (show ss.all fewS = false by rw [HE.out]; simp [fewS, hs])
        clear HE hs
        go_wp2_with (first | (refine own_unguard (by rfl) ?_) | (refine own_load1 rfl _ _ rfl rfl hS (atl (by repeat constructor)) (by first | exact ot_int | exact ot_string | exact ot_strings | exact ot_parts | exact ot_stretches | exact ot_glyphs) (by first | rfl | assumption) ?_) | (refine own_load rfl _ _ rfl rfl hS (atl (by repeat constructor)) (by first | exact rt_font | exact rt_stretch) ?_) | (refine own_load_old rfl _ _ rfl rfl hS (by assumption) (by first | exact List.not_mem_nil | assumption) (by first | exact rt_font | exact rt_stretch) ?_) | (refine own_load_has rfl _ _ rfl rfl hS (by assumption) (by first | exact List.not_mem_nil | assumption) (by first | exact rt_font | exact rt_stretch) ?_) | (refine own_load1_old rfl _ _ rfl rfl hS (by assumption) (by first | exact List.not_mem_nil | assumption) (by first | exact ot_int | exact ot_string | exact ot_strings | exact ot_parts | exact ot_stretches | exact ot_glyphs) ?_) | (refine own_load1_has rfl _ _ rfl rfl hS (by assumption) (by first | exact List.not_mem_nil | assumption) (by first | exact ot_int | exact ot_string | exact ot_strings | exact ot_parts | exact ot_stretches | exact ot_glyphs) (by first | rfl | assumption) ?_) | (refine own_box rfl _ _ rfl rfl hS ?_; clear hS; (try clear ww); intro bb ww hS) | (refine own_alloc rfl _ rfl hS (by first | exact zt_stretch) ?_; clear hS; (try clear ww); intro bb ww hS) | (refine own_store rfl _ _ _ rfl rfl rfl hS (atl (by repeat constructor)) (by first | exact rt_font | exact rt_stretch) (by rfl) (by rfl) ?_; clear hS; (try clear ww); intro ww hS; (try simp only at hS); (try simp only [List.set_cons_succ] at hS); (try simp only [List.set_cons_zero] at hS)) | (refine own_store1 rfl _ _ _ rfl rfl rfl rfl hS (atl (by repeat constructor)) (by first | exact ot_int | exact ot_string | exact ot_strings | exact ot_parts | exact ot_stretches | exact ot_glyphs) (by simp) ?_; clear hS; (try clear ww); intro ww hS; (try simp only at hS); (try simp only [List.set_cons_succ] at hS); (try simp only [List.set_cons_zero] at hS); (try simp only [Act.eval] at hS); (try simp only [Array.getD_eq_getD_getElem?] at hS); (try simp only [List.getElem?_toArray] at hS); (try simp only [List.getElem?_cons_succ] at hS); (try simp only [List.getElem?_cons_zero] at hS); (try simp only [Option.getD_some] at hS)))
        go_ret
        exact ⟨ret_bool E1.out.symm, hS.below⟩
    · have E1 := Lib.hid (show ss.all fewS = true by rw [hf, List.drop_of_length_le (by omega)]; rfl)
      obtain rfl := HL.out
      clear hf HL
      go_wp2_with (first | (refine own_unguard (by rfl) ?_) | (refine own_load1 rfl _ _ rfl rfl hS (atl (by repeat constructor)) (by first | exact ot_int | exact ot_string | exact ot_strings | exact ot_parts | exact ot_stretches | exact ot_glyphs) (by first | rfl | assumption) ?_) | (refine own_load rfl _ _ rfl rfl hS (atl (by repeat constructor)) (by first | exact rt_font | exact rt_stretch) ?_) | (refine own_load_old rfl _ _ rfl rfl hS (by assumption) (by first | exact List.not_mem_nil | assumption) (by first | exact rt_font | exact rt_stretch) ?_) | (refine own_load_has rfl _ _ rfl rfl hS (by assumption) (by first | exact List.not_mem_nil | assumption) (by first | exact rt_font | exact rt_stretch) ?_) | (refine own_load1_old rfl _ _ rfl rfl hS (by assumption) (by first | exact List.not_mem_nil | assumption) (by first | exact ot_int | exact ot_string | exact ot_strings | exact ot_parts | exact ot_stretches | exact ot_glyphs) ?_) | (refine own_load1_has rfl _ _ rfl rfl hS (by assumption) (by first | exact List.not_mem_nil | assumption) (by first | exact ot_int | exact ot_string | exact ot_strings | exact ot_parts | exact ot_stretches | exact ot_glyphs) (by first | rfl | assumption) ?_) | (refine own_box rfl _ _ rfl rfl hS ?_; clear hS; (try clear ww); intro bb ww hS) | (refine own_alloc rfl _ rfl hS (by first | exact zt_stretch) ?_; clear hS; (try clear ww); intro bb ww hS) | (refine own_store rfl _ _ _ rfl rfl rfl hS (atl (by repeat constructor)) (by first | exact rt_font | exact rt_stretch) (by rfl) (by rfl) ?_; clear hS; (try clear ww); intro ww hS; (try simp only at hS); (try simp only [List.set_cons_succ] at hS); (try simp only [List.set_cons_zero] at hS)) | (refine own_store1 rfl _ _ _ rfl rfl rfl rfl hS (atl (by repeat constructor)) (by first | exact ot_int | exact ot_string | exact ot_strings | exact ot_parts | exact ot_stretches | exact ot_glyphs) (by simp) ?_; clear hS; (try clear ww); intro ww hS; (try simp only at hS); (try simp only [List.set_cons_succ] at hS); (try simp only [List.set_cons_zero] at hS); (try simp only [Act.eval] at hS); (try simp only [Array.getD_eq_getD_getElem?] at hS); (try simp only [List.getElem?_toArray] at hS); (try simp only [List.getElem?_cons_succ] at hS); (try simp only [List.getElem?_cons_zero] at hS); (try simp only [Option.getD_some] at hS)))
      go_ret
      exact ⟨ret_bool E1.out.symm, hS.below⟩

theorem ref05_Few_calls (F : Fnt) (w : World) (hF : FntOk w F) : Calls Try.prog 19 #[F.val] w (Gives (.bool (fewB F)) w) := by
  by_cases h0 : F.gs.length ≤ 500
  · by_cases h1 : F.ss.length ≤ 50
    · have := ref05_Few_loop F w hF h0 h1
      rwa [show fewB F = F.ss.all fewS by simp [fewB, h0, h1]]
    · have := ref05_Few_s F w h0 h1
      rwa [show fewB F = false by simp [fewB, h1]]
  · have := ref05_Few_g F w h0
    rwa [show fewB F = false by simp [fewB, h0]]

end Go.Proofs.Ytfmoghkffffmmaa
namespace Go.Proofs.Ytfmoghkffffmmaa
open Go.RowKit

/-- All bytes of a name are from 32 to 126. -/
def bytesOk (l : List UInt8) : Bool := l.all fun c => decide (32 ≤ (c.toNat : Int)) && decide ((c.toNat : Int) ≤ 126)
/-- Is it a name? -/
def nameOk (s : ByteArray) : Bool := bytesOk s.data.toList && decide (1 ≤ (s.size : Int)) && decide ((s.size : Int) ≤ 16)

theorem bytesOk_drop (s : ByteArray) (k : Nat) (h : k < s.size) :
    bytesOk (s.data.toList.drop k) = (decide (32 ≤ (s[k].toNat : Int)) && decide ((s[k].toNat : Int) ≤ 126) && bytesOk (s.data.toList.drop (k + 1))) := by
  have h' : k < s.data.toList.length := by simpa using h
  rw [List.drop_eq_getElem_cons h']
  simp [bytesOk]
  rfl

set_option maxHeartbeats 1000000 in
theorem font_named_calls (s : ByteArray) (w : World) (hs : s.size ≤ 9223372036854775807) :
    Calls Try.prog 55 #[.string s] w fun e w' => e = .returned (.bool (nameOk s)) ∧ w = w' := by
  go_enter Try.func55, Try.ntmps55
  go_wp2
  go_loop [3] (fun i => ∃ k : Nat, k ≤ s.size ∧ i = .int .i64 k ∧ bytesOk s.data.toList = bytesOk (s.data.toList.drop k)) (fun i => s.size - (intOf i).toNat)
  case atStart => exact ⟨0, Nat.zero_le _, rfl, rfl⟩
  case round =>
    obtain ⟨k, hk, rfl, hf⟩ := hrel
    by_cases hlt : k < s.size
    · rw [bytesOk_drop s k hlt] at hf
      have HF := Lib.hid hf
      clear hf
      by_cases h1 : (s[k].toNat : Int) < 32
      · have e1 : bytesOk s.data.toList = false := by rw [HF.out]; simp; omega
        have E1 := Lib.hid e1
        clear e1
        go_wp2
        go_ret
        refine ⟨ret_bool ?_, rfl⟩
        unfold nameOk
        rw [E1.out]; rfl
      · by_cases h2 : 126 < (s[k].toNat : Int)
        · have e1 : bytesOk s.data.toList = false := by rw [HF.out]; simp; omega
          have E1 := Lib.hid e1
          clear e1
          go_wp2
          go_ret
          refine ⟨ret_bool ?_, rfl⟩
          unfold nameOk
          rw [E1.out]; rfl
        · have e1 : bytesOk s.data.toList = bytesOk (s.data.toList.drop (k + 1)) := by rw [HF.out]; simp; omega
          have E1 := Lib.hid e1
          clear e1
          go_wp2
          go_round
          case rel => exact ⟨k + 1, by omega, by go_num, E1.out⟩
          case measure => simp [intOf]; omega
    · have e1 : bytesOk s.data.toList = true := by rw [hf, List.drop_of_length_le (by simp; omega)]; rfl
      have E1 := Lib.hid e1
      clear e1 hf
      go_wp2
      all_goals
        go_ret
        refine ⟨ret_bool ?_, rfl⟩
        unfold nameOk
        rw [E1.out]
        simp
        try omega

set_option maxHeartbeats 1000000 in
theorem ref05_Name_calls (s : ByteArray) (w : World) (hs : s.size ≤ 9223372036854775807) :
    Calls Try.prog 69 #[.string s] w fun e w' => e = .returned (.bool (nameOk s)) ∧ w = w' := by
  go_enter Try.func69, Try.ntmps69
  go_wp2
  go_loop [3] (fun i => ∃ k : Nat, k ≤ s.size ∧ i = .int .i64 k ∧ bytesOk s.data.toList = bytesOk (s.data.toList.drop k)) (fun i => s.size - (intOf i).toNat)
  case atStart => exact ⟨0, Nat.zero_le _, rfl, rfl⟩
  case round =>
    obtain ⟨k, hk, rfl, hf⟩ := hrel
    by_cases hlt : k < s.size
    · rw [bytesOk_drop s k hlt] at hf
      have HF := Lib.hid hf
      clear hf
      by_cases h1 : (s[k].toNat : Int) < 32
      · have e1 : bytesOk s.data.toList = false := by rw [HF.out]; simp; omega
        have E1 := Lib.hid e1
        clear e1
        go_wp2
        go_ret
        refine ⟨ret_bool ?_, rfl⟩
        unfold nameOk
        rw [E1.out]; rfl
      · by_cases h2 : 126 < (s[k].toNat : Int)
        · have e1 : bytesOk s.data.toList = false := by rw [HF.out]; simp; omega
          have E1 := Lib.hid e1
          clear e1
          go_wp2
          go_ret
          refine ⟨ret_bool ?_, rfl⟩
          unfold nameOk
          rw [E1.out]; rfl
        · have e1 : bytesOk s.data.toList = bytesOk (s.data.toList.drop (k + 1)) := by rw [HF.out]; simp; omega
          have E1 := Lib.hid e1
          clear e1
          go_wp2
          go_round
          case rel => exact ⟨k + 1, by omega, by go_num, E1.out⟩
          case measure => simp [intOf]; omega
    · have e1 : bytesOk s.data.toList = true := by rw [hf, List.drop_of_length_le (by simp; omega)]; rfl
      have E1 := Lib.hid e1
      clear e1 hf
      go_wp2
      all_goals
        go_ret
        refine ⟨ret_bool ?_, rfl⟩
        unfold nameOk
        rw [E1.out]
        simp
        try omega

set_option maxHeartbeats 400000 in
theorem ref05_within_calls (n a b : Int) (w : World) :
    Calls Try.prog 68 #[.int .i64 n, .int .i64 a, .int .i64 b] w fun e w' => e = .returned (.bool (decide (a ≤ n) && decide (n ≤ b))) ∧ w = w' := by
  go_enter Try.func68, Try.ntmps68
  go_wp2
  all_goals (go_ret; refine ⟨ret_bool ?_, rfl⟩; simp; omega)

/-- All numbers are in a range. -/
def allIn (a b : Int) (ns : List Int) : Bool := ns.all fun n => decide (a ≤ n) && decide (n ≤ b)
theorem allIn_drop (a b : Int) (ns : List Int) (k : Nat) (n : Int) (h : ns[k]? = some n) : allIn a b (ns.drop k) = (decide (a ≤ n) && decide (n ≤ b) && allIn a b (ns.drop (k + 1))) := by
  obtain ⟨hk, rfl⟩ := List.getElem?_eq_some_iff.1 h
  unfold allIn
  rw [List.drop_eq_getElem_cons hk, List.all_cons]

set_option maxHeartbeats 1000000 in
theorem font_within_calls (lo hi : Int) (ns : List Int) (b o c : Nat) (w : World) (hn : ns.length ≤ 1000000)
    (hc : ∀ i n, ns[i]? = some n → w.cell? ⟨b, o + i, none⟩ = some (.int .i64 n)) :
    Calls Try.prog 56 #[.int .i64 lo, .int .i64 hi, .slice (some ⟨b, o, none⟩) ns.length c] w fun e w' => e = .returned (.bool (allIn lo hi ns)) ∧ w = w' := by
  have HC := Lib.hid hc
  clear hc
  go_enter Try.func56, Try.ntmps56
  go_wp2
  go_loop [11] (fun i => ∃ k : Nat, k ≤ ns.length ∧ i = .int .i64 k ∧ allIn lo hi ns = allIn lo hi (ns.drop k)) (fun i => ns.length - (intOf i).toNat)
  case atStart => exact ⟨0, Nat.zero_le _, rfl, rfl⟩
  case round =>
    obtain ⟨k, hk, rfl, hf⟩ := hrel
    by_cases hlt : k < ns.length
    · obtain ⟨n, hg⟩ : ∃ n, ns[k]? = some n := ⟨ns[k], by simp [hlt]⟩
      have g0 := HC.out k n hg
      rw [allIn_drop lo hi ns k n hg] at hf
      have HF := Lib.hid hf
      clear hf hg
      by_cases h1 : n < lo
      · have E1 := Lib.hid (show allIn lo hi ns = false by rw [HF.out]; simp; omega)
        go_wp2
        go_ret
        exact ⟨ret_bool E1.out.symm, rfl⟩
      · by_cases h2 : hi < n
        · have E1 := Lib.hid (show allIn lo hi ns = false by rw [HF.out]; simp; omega)
          go_wp2
          go_ret
          exact ⟨ret_bool E1.out.symm, rfl⟩
        · have E1 := Lib.hid (show allIn lo hi ns = allIn lo hi (ns.drop (k + 1)) by rw [HF.out]; simp; omega)
          go_wp2
          go_round
          case rel => exact ⟨k + 1, by omega, by go_num, E1.out⟩
          case measure => simp [intOf]; omega
    · have E1 := Lib.hid (show allIn lo hi ns = true by rw [hf, List.drop_of_length_le (by omega)]; rfl)
      clear hf
      go_wp2
      go_ret
      exact ⟨ret_bool E1.out.symm, rfl⟩





end Go.Proofs.Ytfmoghkffffmmaa
namespace Go.Proofs.Ytfmoghkffffmmaa
open Go.RowKit

attribute [local irreducible] wpQuiet wpList Code.wp

/-- A small slice literal. -/
theorem own_buildSlice {P : Program} {rest : List Oper} {ops' : Array Oper} {o : Oper} {a : Act} {Q : Exit → Act → World → Prop} {D : List Nat} {W w : World} {L : List (Nat × List Value)} (hgd : o.guard = none) (t e : TypeId) (len : Nat) (parts : Array (Nat × Operand)) (ho : o.op = .buildSlice t len parts) (cells : List Value) (hS : Own D W L w) (hu : P.underlying t = some (.slice e))
    (hf : P.builtSlice e len (parts.map fun (i, x) => (i, a.eval x)).toList = some cells.toArray)
    (h : ∀ b w', Own D W ((b, cells) :: L) w' → wpList P ops' Q rest (a.put o.dst (.slice (some ⟨b, 0, none⟩) len len)) w') : wpList P ops' Q (o :: rest) a w :=
  Great.wpList_buildSliceTo hgd t e len parts ho w.heap.size rfl o.dst rfl hu cells.toArray hf (h _ _ (hS.new cells e))

theorem font_within_has {lo hi : Int} (ns : List Int) {b c : Nat} {w : World} {v : Bool} (hh : Has w b (ns.map (Value.int .i64))) (hn : ns.length ≤ 1000000) (hv : allIn lo hi ns = v) :
    Calls Try.prog 56 #[.int .i64 lo, .int .i64 hi, .slice (some ⟨b, 0, none⟩) ns.length c] w fun e w' => e = .returned (.bool v) ∧ w = w' := by
  subst hv
  refine font_within_calls lo hi ns b 0 c w hn fun i n hi => ?_
  rw [hh.cell, Nat.zero_add, List.getElem?_map, hi]
  rfl

/-- The lengths among the parameters; the percentages. -/
@[reducible] def Fnt.lens (F : Fnt) : List Int := [F.quad, F.xheight, F.axis, F.rule, F.num1, F.num2, F.den1, F.den2, F.sup1, F.sup2, F.sup3, F.sub1, F.sub2, F.supdrop, F.subdrop, F.dshort, F.acc]
@[reducible] def Fnt.pers (F : Fnt) : List Int := [F.script, F.sscript, F.dpercent]
def prmOk (F : Fnt) : Bool := allIn 1 100 F.pers && allIn 0 20000 F.lens

theorem rt_params : RowTy Try.prog 25 20 := ⟨⟨_, Try.underlying25, rfl⟩, by kernel_rfl⟩

set_option maxHeartbeats 4000000 in
set_option maxRecDepth 100000 in
theorem font_validParams_no (F : Fnt) (w : World) (h : allIn 1 100 F.pers = false) : Calls Try.prog 54 #[.agg F.prm.toArray] w (Gives (.bool false) w) := by
  have HV := Lib.hid h
  clear h
  go_enter Try.func54, Try.ntmps54
  have hS := own_start w
  go_wp2_with (first | (refine own_unguard (by rfl) ?_) | (refine own_buildSlice rfl _ _ 3 _ rfl [.int .i64 F.script, .int .i64 F.sscript, .int .i64 F.dpercent] hS Try.underlying31 (by kernel_rfl) ?_; clear hS; (try clear ww); intro bb ww hS) | (go_at_call 56; refine own_callsS hS (font_within_has F.pers (hS.get at0) (by simp) HV.out) ?_) | (refine own_load1 rfl _ _ rfl rfl hS (atl (by repeat constructor)) (by first | exact ot_int) (by first | rfl | assumption) ?_) | (refine own_load rfl _ _ rfl rfl hS (atl (by repeat constructor)) (by first | exact rt_params) ?_) | (refine own_load_old rfl _ _ rfl rfl hS (by assumption) (by first | exact List.not_mem_nil | assumption) (by first | exact rt_params) ?_) | (refine own_load_has rfl _ _ rfl rfl hS (by assumption) (by first | exact List.not_mem_nil | assumption) (by first | exact rt_params) ?_) | (refine own_load1_old rfl _ _ rfl rfl hS (by assumption) (by first | exact List.not_mem_nil | assumption) (by first | exact ot_int) ?_) | (refine own_load1_has rfl _ _ rfl rfl hS (by assumption) (by first | exact List.not_mem_nil | assumption) (by first | exact ot_int) (by first | rfl | assumption) ?_) | (refine own_box rfl _ _ rfl rfl hS ?_; clear hS; (try clear ww); intro bb ww hS) | (refine own_store rfl _ _ _ rfl rfl rfl hS (atl (by repeat constructor)) (by first | exact rt_params) (by rfl) (by rfl) ?_; clear hS; (try clear ww); intro ww hS; (try simp only at hS); (try simp only [List.set_cons_succ] at hS); (try simp only [List.set_cons_zero] at hS)) | (refine own_store1 rfl _ _ _ rfl rfl rfl rfl hS (atl (by repeat constructor)) (by first | exact ot_int) (by simp) ?_; clear hS; (try clear ww); intro ww hS; (try simp only at hS); (try simp only [List.set_cons_succ] at hS); (try simp only [List.set_cons_zero] at hS); (try simp only [Act.eval] at hS); (try simp only [Array.getD_eq_getD_getElem?] at hS); (try simp only [List.getElem?_toArray] at hS); (try simp only [List.getElem?_cons_succ] at hS); (try simp only [List.getElem?_cons_zero] at hS); (try simp only [Option.getD_some] at hS)))
  go_ret
  exact own_gives hS

set_option maxHeartbeats 4000000 in
set_option maxRecDepth 100000 in
theorem font_validParams_yes (F : Fnt) (w : World) (v : Bool) (h : allIn 1 100 F.pers = true) (h2 : allIn 0 20000 F.lens = v) : Calls Try.prog 54 #[.agg F.prm.toArray] w (Gives (.bool v) w) := by
  have HV := Lib.hid h
  have HL := Lib.hid h2
  have tok1 : True := trivial
  clear h h2
  go_enter Try.func54, Try.ntmps54
  have hS := own_start w
  go_wp2_with (first | (refine own_unguard (by rfl) ?_) | (refine own_buildSlice rfl _ _ 3 _ rfl [.int .i64 F.script, .int .i64 F.sscript, .int .i64 F.dpercent] hS Try.underlying31 (by kernel_rfl) ?_; clear hS; (try clear ww); intro bb ww hS) | (refine own_buildSlice rfl _ _ 17 _ rfl (F.lens.map (Value.int .i64)) hS Try.underlying31 (by kernel_rfl) ?_; clear hS; (try clear ww); intro bb ww hS) | (go_at_call 56; have _t := tok1; refine own_callsS hS (font_within_has F.pers (hS.get at0) (by simp) HV.out) ?_; clear tok1) | (go_at_call 56; refine own_callsS hS (font_within_has F.lens (hS.get at0) (by simp) HL.out) ?_) | (refine own_load1 rfl _ _ rfl rfl hS (atl (by repeat constructor)) (by first | exact ot_int) (by first | rfl | assumption) ?_) | (refine own_load rfl _ _ rfl rfl hS (atl (by repeat constructor)) (by first | exact rt_params) ?_) | (refine own_load_old rfl _ _ rfl rfl hS (by assumption) (by first | exact List.not_mem_nil | assumption) (by first | exact rt_params) ?_) | (refine own_load_has rfl _ _ rfl rfl hS (by assumption) (by first | exact List.not_mem_nil | assumption) (by first | exact rt_params) ?_) | (refine own_load1_old rfl _ _ rfl rfl hS (by assumption) (by first | exact List.not_mem_nil | assumption) (by first | exact ot_int) ?_) | (refine own_load1_has rfl _ _ rfl rfl hS (by assumption) (by first | exact List.not_mem_nil | assumption) (by first | exact ot_int) (by first | rfl | assumption) ?_) | (refine own_box rfl _ _ rfl rfl hS ?_; clear hS; (try clear ww); intro bb ww hS) | (refine own_store rfl _ _ _ rfl rfl rfl hS (atl (by repeat constructor)) (by first | exact rt_params) (by rfl) (by rfl) ?_; clear hS; (try clear ww); intro ww hS; (try simp only at hS); (try simp only [List.set_cons_succ] at hS); (try simp only [List.set_cons_zero] at hS)) | (refine own_store1 rfl _ _ _ rfl rfl rfl rfl hS (atl (by repeat constructor)) (by first | exact ot_int) (by simp) ?_; clear hS; (try clear ww); intro ww hS; (try simp only at hS); (try simp only [List.set_cons_succ] at hS); (try simp only [List.set_cons_zero] at hS); (try simp only [Act.eval] at hS); (try simp only [Array.getD_eq_getD_getElem?] at hS); (try simp only [List.getElem?_toArray] at hS); (try simp only [List.getElem?_cons_succ] at hS); (try simp only [List.getElem?_cons_zero] at hS); (try simp only [Option.getD_some] at hS)))
  go_ret
  exact own_gives hS

theorem font_validParams_calls (F : Fnt) (w : World) : Calls Try.prog 54 #[.agg F.prm.toArray] w (Gives (.bool (prmOk F)) w) := by
  unfold prmOk
  cases h : allIn 1 100 F.pers
  · exact font_validParams_no F w h
  · exact font_validParams_yes F w _ h rfl

end Go.Proofs.Ytfmoghkffffmmaa
namespace Go.Proofs.Ytfmoghkffffmmaa
open Go.RowKit

attribute [local irreducible] wpQuiet wpList Code.wp

theorem ref05_within_v {n a b : Int} {v : Bool} {w : World} (hv : Hid ((decide (a ≤ n) && decide (n ≤ b)) = v)) :
    Calls Try.prog 68 #[.int .i64 n, .int .i64 a, .int .i64 b] w fun e w' => e = .returned (.bool v) ∧ w = w' := by
  have := ref05_within_calls n a b w
  rwa [hv.out] at this

theorem allIn_three (a b c : Int) : allIn 1 100 [a, b, c] = ((decide (1 ≤ a) && decide (a ≤ 100)) && ((decide (1 ≤ b) && decide (b ≤ 100)) && (decide (1 ≤ c) && decide (c ≤ 100)))) := by
  simp [allIn]

set_option maxHeartbeats 4000000 in
set_option maxRecDepth 100000 in
theorem ref05_Params_calls (F : Fnt) (w : World) : Calls Try.prog 59 #[.agg F.prm.toArray] w (Gives (.bool (prmOk F)) w) := by
  have HN := Lib.hid (show F.lens.length = 17 from rfl)
  obtain ⟨lens, HLe⟩ : ∃ l, Hid (l = F.lens) := ⟨_, rfl⟩
  have hlen : lens.length ≤ 17 ∧ 17 ≤ lens.length := by rw [HLe.out]; exact ⟨Nat.le_refl _, Nat.le_refl _⟩
  go_enter Try.func59, Try.ntmps59
  have hS := own_start w
  go_wp2_with (first | (refine own_unguard (by rfl) ?_) | (refine own_buildSlice rfl _ _ 17 _ rfl (F.lens.map (Value.int .i64)) hS Try.underlying31 (by kernel_rfl) ?_; rw [← HLe.out]; clear hS; (try clear ww); intro bb ww hS) | (refine own_load1 rfl _ _ rfl rfl hS (atl (by repeat constructor)) (by first | exact ot_int) (by first | rfl | assumption) ?_) | (refine own_load rfl _ _ rfl rfl hS (atl (by repeat constructor)) (by first | exact rt_params) ?_) | (refine own_load_old rfl _ _ rfl rfl hS (by assumption) (by first | exact List.not_mem_nil | assumption) (by first | exact rt_params) ?_) | (refine own_load_has rfl _ _ rfl rfl hS (by assumption) (by first | exact List.not_mem_nil | assumption) (by first | exact rt_params) ?_) | (refine own_load1_old rfl _ _ rfl rfl hS (by assumption) (by first | exact List.not_mem_nil | assumption) (by first | exact ot_int) ?_) | (refine own_load1_has rfl _ _ rfl rfl hS (by assumption) (by first | exact List.not_mem_nil | assumption) (by first | exact ot_int) (by first | rfl | assumption) ?_) | (refine own_box rfl _ _ rfl rfl hS ?_; clear hS; (try clear ww); intro bb ww hS) | (refine own_store rfl _ _ _ rfl rfl rfl hS (atl (by repeat constructor)) (by first | exact rt_params) (by rfl) (by rfl) ?_; clear hS; (try clear ww); intro ww hS; (try simp only at hS); (try simp only [List.set_cons_succ] at hS); (try simp only [List.set_cons_zero] at hS)) | (refine own_store1 rfl _ _ _ rfl rfl rfl rfl hS (atl (by repeat constructor)) (by first | exact ot_int) (by simp) ?_; clear hS; (try clear ww); intro ww hS; (try simp only at hS); (try simp only [List.set_cons_succ] at hS); (try simp only [List.set_cons_zero] at hS); (try simp only [Act.eval] at hS); (try simp only [Array.getD_eq_getD_getElem?] at hS); (try simp only [List.getElem?_toArray] at hS); (try simp only [List.getElem?_cons_succ] at hS); (try simp only [List.getElem?_cons_zero] at hS); (try simp only [Option.getD_some] at hS)))
  obtain ⟨L0, HL, hS⟩ := hS.named
  go_loopw [4] (fun i wr => ∃ k : Nat, k ≤ 17 ∧ i = .int .i64 k ∧ allIn 0 20000 lens = allIn 0 20000 (lens.drop k) ∧ Own [] w L0 wr) (fun i _ => 17 - (intOf i).toNat)
  case atStart => exact ⟨0, Nat.zero_le _, rfl, rfl, hS⟩
  case round =>
    clear hS
    obtain ⟨k, hk, rfl, hf, hS⟩ := hrel
    obtain rfl := HL.out
    clear HL
    by_cases hlt : k < 17
    · obtain ⟨n, hn⟩ : ∃ n, lens[k]? = some n := ⟨lens[k], by simp⟩
      rw [allIn_drop 0 20000 lens k n hn] at hf
      have HE := Lib.hid hf
      have hcell : (lens.map (Value.int .i64))[k]? = some (.int .i64 n) := by rw [List.getElem?_map, hn]; rfl
      clear hf hn
      cases hb : (decide (0 ≤ n) && decide (n ≤ 20000))
      · have HB := Lib.hid hb
        have E1 := Lib.hid (show prmOk F = false by unfold prmOk; rw [← HLe.out, HE.out, hb]; simp)
        clear hb HE
        go_wp2_with (first | (refine own_unguard (by rfl) ?_) | (go_at_call 68; refine own_callsS hS (ref05_within_v HB) ?_) | (refine own_load1 rfl _ _ rfl rfl hS (atl (by repeat constructor)) (by first | exact ot_int) (by first | rfl | assumption) ?_) | (refine own_load rfl _ _ rfl rfl hS (atl (by repeat constructor)) (by first | exact rt_params) ?_) | (refine own_load_old rfl _ _ rfl rfl hS (by assumption) (by first | exact List.not_mem_nil | assumption) (by first | exact rt_params) ?_) | (refine own_load_has rfl _ _ rfl rfl hS (by assumption) (by first | exact List.not_mem_nil | assumption) (by first | exact rt_params) ?_) | (refine own_load1_old rfl _ _ rfl rfl hS (by assumption) (by first | exact List.not_mem_nil | assumption) (by first | exact ot_int) ?_) | (refine own_load1_has rfl _ _ rfl rfl hS (by assumption) (by first | exact List.not_mem_nil | assumption) (by first | exact ot_int) (by first | rfl | assumption) ?_) | (refine own_box rfl _ _ rfl rfl hS ?_; clear hS; (try clear ww); intro bb ww hS) | (refine own_store rfl _ _ _ rfl rfl rfl hS (atl (by repeat constructor)) (by first | exact rt_params) (by rfl) (by rfl) ?_; clear hS; (try clear ww); intro ww hS; (try simp only at hS); (try simp only [List.set_cons_succ] at hS); (try simp only [List.set_cons_zero] at hS)) | (refine own_store1 rfl _ _ _ rfl rfl rfl rfl hS (atl (by repeat constructor)) (by first | exact ot_int) (by simp) ?_; clear hS; (try clear ww); intro ww hS; (try simp only at hS); (try simp only [List.set_cons_succ] at hS); (try simp only [List.set_cons_zero] at hS); (try simp only [Act.eval] at hS); (try simp only [Array.getD_eq_getD_getElem?] at hS); (try simp only [List.getElem?_toArray] at hS); (try simp only [List.getElem?_cons_succ] at hS); (try simp only [List.getElem?_cons_zero] at hS); (try simp only [Option.getD_some] at hS)))
        go_ret
        exact ⟨ret_bool E1.out.symm, hS.below⟩
      · have HB := Lib.hid hb
        have E1 := Lib.hid (show allIn 0 20000 lens = allIn 0 20000 (lens.drop (k + 1)) by rw [HE.out, hb]; simp)
        clear hb HE
        go_wp2_with (first | (refine own_unguard (by rfl) ?_) | (go_at_call 68; refine own_callsS hS (ref05_within_v HB) ?_) | (refine own_load1 rfl _ _ rfl rfl hS (atl (by repeat constructor)) (by first | exact ot_int) (by first | rfl | assumption) ?_) | (refine own_load rfl _ _ rfl rfl hS (atl (by repeat constructor)) (by first | exact rt_params) ?_) | (refine own_load_old rfl _ _ rfl rfl hS (by assumption) (by first | exact List.not_mem_nil | assumption) (by first | exact rt_params) ?_) | (refine own_load_has rfl _ _ rfl rfl hS (by assumption) (by first | exact List.not_mem_nil | assumption) (by first | exact rt_params) ?_) | (refine own_load1_old rfl _ _ rfl rfl hS (by assumption) (by first | exact List.not_mem_nil | assumption) (by first | exact ot_int) ?_) | (refine own_load1_has rfl _ _ rfl rfl hS (by assumption) (by first | exact List.not_mem_nil | assumption) (by first | exact ot_int) (by first | rfl | assumption) ?_) | (refine own_box rfl _ _ rfl rfl hS ?_; clear hS; (try clear ww); intro bb ww hS) | (refine own_store rfl _ _ _ rfl rfl rfl hS (atl (by repeat constructor)) (by first | exact rt_params) (by rfl) (by rfl) ?_; clear hS; (try clear ww); intro ww hS; (try simp only at hS); (try simp only [List.set_cons_succ] at hS); (try simp only [List.set_cons_zero] at hS)) | (refine own_store1 rfl _ _ _ rfl rfl rfl rfl hS (atl (by repeat constructor)) (by first | exact ot_int) (by simp) ?_; clear hS; (try clear ww); intro ww hS; (try simp only at hS); (try simp only [List.set_cons_succ] at hS); (try simp only [List.set_cons_zero] at hS); (try simp only [Act.eval] at hS); (try simp only [Array.getD_eq_getD_getElem?] at hS); (try simp only [List.getElem?_toArray] at hS); (try simp only [List.getElem?_cons_succ] at hS); (try simp only [List.getElem?_cons_zero] at hS); (try simp only [Option.getD_some] at hS)))
        go_roundw
        case rel => exact ⟨k + 1, hlt, by go_num, E1.out, hS⟩
        case measure => exact loop_meas hlt
    · have E0 := Lib.hid (show prmOk F = allIn 1 100 [F.script, F.sscript, F.dpercent] by
        unfold prmOk
        rw [← HLe.out, hf, List.drop_of_length_le (by omega)]
        exact Bool.and_true _)
      clear hf
      rw [allIn_three] at E0
      cases hb1 : (decide (1 ≤ F.script) && decide (F.script ≤ 100)) <;> cases hb2 : (decide (1 ≤ F.sscript) && decide (F.sscript ≤ 100)) <;> cases hb3 : (decide (1 ≤ F.dpercent) && decide (F.dpercent ≤ 100))
      all_goals
        rw [hb1, hb2, hb3] at E0
        have B1 := Lib.hid hb1
        have B2 := Lib.hid hb2
        have B3 := Lib.hid hb3
        clear hb1 hb2 hb3
        go_wp2_with (first | (refine own_unguard (by rfl) ?_) | (go_at_call 68; refine own_callsS hS (ref05_within_v B1) ?_) | (go_at_call 68; refine own_callsS hS (ref05_within_v B2) ?_) | (go_at_call 68; refine own_callsS hS (ref05_within_v B3) ?_) | (refine own_load1 rfl _ _ rfl rfl hS (atl (by repeat constructor)) (by first | exact ot_int) (by first | rfl | assumption) ?_) | (refine own_load rfl _ _ rfl rfl hS (atl (by repeat constructor)) (by first | exact rt_params) ?_) | (refine own_load_old rfl _ _ rfl rfl hS (by assumption) (by first | exact List.not_mem_nil | assumption) (by first | exact rt_params) ?_) | (refine own_load_has rfl _ _ rfl rfl hS (by assumption) (by first | exact List.not_mem_nil | assumption) (by first | exact rt_params) ?_) | (refine own_load1_old rfl _ _ rfl rfl hS (by assumption) (by first | exact List.not_mem_nil | assumption) (by first | exact ot_int) ?_) | (refine own_load1_has rfl _ _ rfl rfl hS (by assumption) (by first | exact List.not_mem_nil | assumption) (by first | exact ot_int) (by first | rfl | assumption) ?_) | (refine own_box rfl _ _ rfl rfl hS ?_; clear hS; (try clear ww); intro bb ww hS) | (refine own_store rfl _ _ _ rfl rfl rfl hS (atl (by repeat constructor)) (by first | exact rt_params) (by rfl) (by rfl) ?_; clear hS; (try clear ww); intro ww hS; (try simp only at hS); (try simp only [List.set_cons_succ] at hS); (try simp only [List.set_cons_zero] at hS)) | (refine own_store1 rfl _ _ _ rfl rfl rfl rfl hS (atl (by repeat constructor)) (by first | exact ot_int) (by simp) ?_; clear hS; (try clear ww); intro ww hS; (try simp only at hS); (try simp only [List.set_cons_succ] at hS); (try simp only [List.set_cons_zero] at hS); (try simp only [Act.eval] at hS); (try simp only [Array.getD_eq_getD_getElem?] at hS); (try simp only [List.getElem?_toArray] at hS); (try simp only [List.getElem?_cons_succ] at hS); (try simp only [List.getElem?_cons_zero] at hS); (try simp only [Option.getD_some] at hS)))
        go_ret
        exact ⟨ret_bool E0.out.symm, hS.below⟩

end Go.Proofs.Ytfmoghkffffmmaa
namespace Go.Proofs.Ytfmoghkffffmmaa
open Go.RowKit

/-- The metrics of a glyph. -/
def Gly.nums (g : Gly) : List Int := [g.w, g.h, g.d, g.it, g.at_]
/-- All metrics are at most 20000. -/
def metricsOk (g : Gly) : Bool := allIn (-20000) 20000 g.nums
theorem metricsOk_bd {g : Gly} (h : metricsOk g = true) : (-20000 ≤ g.w ∧ g.w ≤ 20000) ∧ (-20000 ≤ g.h ∧ g.h ≤ 20000) ∧ (-20000 ≤ g.d ∧ g.d ≤ 20000) ∧ (-20000 ≤ g.it ∧ g.it ≤ 20000) ∧ (-20000 ≤ g.at_ ∧ g.at_ ≤ 20000) := by
  simp [metricsOk, allIn, Gly.nums] at h
  omega





end Go.Proofs.Ytfmoghkffffmmaa
