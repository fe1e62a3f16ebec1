/- The parameters of a font, in the reference. -/
import Derived.Test.YtgknameejoalnaaPrm
namespace Go.Proofs.Ytgknameejoalnaa
open Go.RowKit

attribute [local irreducible] wpQuiet wpList Code.wp

theorem ref05_within_v {n a b : Int} {v : Bool} {w : World} (hv : Hid ((decide (a ≤ n) && decide (n ≤ b)) = v)) :
    Calls Try.prog 30 #[.int .i64 n, .int .i64 a, .int .i64 b] w fun e w' => e = .returned (.bool v) ∧ w = w' := by
  have := ref05_within_calls n a b w
  rwa [hv.out] at this

theorem allIn_three (a b c : Int) : allIn 1 100 [a, b, c] = ((decide (1 ≤ a) && decide (a ≤ 100)) && ((decide (1 ≤ b) && decide (b ≤ 100)) && (decide (1 ≤ c) && decide (c ≤ 100)))) := by
  simp [allIn]

set_option maxHeartbeats 4000000 in
set_option maxRecDepth 100000 in
theorem ref05_Params_calls (F : Fnt) (w : World) : Calls Try.prog 37 #[.agg F.prm.toArray] w (Gives (.bool (prmOk F)) w) := by
  have HN := Lib.hid (show F.lens.length = 17 from rfl)
  obtain ⟨lens, HLe⟩ : ∃ l, Hid (l = F.lens) := ⟨_, rfl⟩
  have hlen : lens.length ≤ 17 ∧ 17 ≤ lens.length := by rw [HLe.out]; exact ⟨Nat.le_refl _, Nat.le_refl _⟩
  go_enter Try.func37, Try.ntmps37
  have hS := own_start w
  go_wp2_with (first
    | (refine own_unguard (by rfl) ?_)
    | (refine own_buildSlice rfl _ _ 17 _ rfl (F.lens.map (Value.int .i64)) hS Try.underlying29 (by kernel_rfl) ?_; rw [← HLe.out]; clear hS; (try clear ww); intro bb ww hS)
    | (refine own_load1 rfl _ _ rfl rfl hS (by first | exact at0 | exact at1 | exact at2 | exact at3 | exact at4 | exact at5 | exact at6 | exact at7 | exact at8) (by first | exact ot_int) (by first | rfl | assumption) ?_)
    | (refine own_load rfl _ _ rfl rfl hS (by first | exact at0 | exact at1 | exact at2 | exact at3 | exact at4 | exact at5 | exact at6 | exact at7 | exact at8) (by first | exact rt_params) ?_)
    | (refine own_load_old rfl _ _ rfl rfl hS (by assumption) (by first | exact List.not_mem_nil | assumption) (by first | exact rt_params) ?_)
    | (refine own_load_has rfl _ _ rfl rfl hS (by assumption) (by first | exact List.not_mem_nil | assumption) (by first | exact rt_params) ?_)
    | (refine own_load1_old rfl _ _ rfl rfl hS (by assumption) (by first | exact List.not_mem_nil | assumption) (by first | exact ot_int) ?_)
    | (refine own_load1_has rfl _ _ rfl rfl hS (by assumption) (by first | exact List.not_mem_nil | assumption) (by first | exact ot_int) (by first | rfl | assumption) ?_)
    | (refine own_box rfl _ _ rfl rfl hS ?_; clear hS; (try clear ww); intro bb ww hS)
    | (refine own_store rfl _ _ _ rfl rfl rfl hS (by first | exact at0 | exact at1 | exact at2 | exact at3 | exact at4 | exact at5 | exact at6 | exact at7 | exact at8) (by first | exact rt_params) (by rfl) (by rfl) ?_; clear hS; (try clear ww); intro ww hS; (try simp only at hS); (try simp only [List.set_cons_succ] at hS); (try simp only [List.set_cons_zero] at hS))
    | (refine own_store1 rfl _ _ _ rfl rfl rfl rfl hS (by first | exact at0 | exact at1 | exact at2 | exact at3 | exact at4 | exact at5 | exact at6 | exact at7 | exact at8) (by first | exact ot_int) (by simp) ?_; clear hS; (try clear ww); intro ww hS; (try simp only at hS); (try simp only [List.set_cons_succ] at hS); (try simp only [List.set_cons_zero] at hS); (try simp only [Act.eval] at hS); (try simp only [Array.getD_eq_getD_getElem?] at hS); (try simp only [List.getElem?_toArray] at hS); (try simp only [List.getElem?_cons_succ] at hS); (try simp only [List.getElem?_cons_zero] at hS); (try simp only [Option.getD_some] at hS)))
  obtain ⟨L0, HL, hS⟩ := hS.named
  go_loopw [4] (fun i wr => ∃ k : Nat, k ≤ 17 ∧ i = .int .i64 k ∧ allIn 0 20000 lens = allIn 0 20000 (lens.drop k) ∧ Own [] w L0 wr) (fun i _ => 17 - (intOf i).toNat)
  case atStart => exact ⟨0, Nat.zero_le _, rfl, rfl, hS⟩
  case round =>
    clear hS
    obtain ⟨k, hk, rfl, hf, hS⟩ := hrel
    obtain rfl := HL.out
    clear HL
    by_cases hlt : k < 17
    · obtain ⟨n, hn⟩ : ∃ n, lens[k]? = some n := ⟨lens[k], by simp⟩
      rw [allIn_drop 0 20000 lens k n hn] at hf
      have HE := Lib.hid hf
      have hcell : (lens.map (Value.int .i64))[k]? = some (.int .i64 n) := by rw [List.getElem?_map, hn]; rfl
      clear hf hn
      cases hb : (decide (0 ≤ n) && decide (n ≤ 20000))
      · have HB := Lib.hid hb
        have E1 := Lib.hid (show prmOk F = false by unfold prmOk; rw [← HLe.out, HE.out, hb]; simp)
        clear hb HE
        go_wp2_with (first
          | (refine own_unguard (by rfl) ?_)
          | (go_at_call 30; refine own_callsS hS (ref05_within_v HB) ?_)
          | (refine own_load1 rfl _ _ rfl rfl hS (by first | exact at0 | exact at1 | exact at2 | exact at3 | exact at4 | exact at5 | exact at6 | exact at7 | exact at8) (by first | exact ot_int) (by first | rfl | assumption) ?_)
          | (refine own_load rfl _ _ rfl rfl hS (by first | exact at0 | exact at1 | exact at2 | exact at3 | exact at4 | exact at5 | exact at6 | exact at7 | exact at8) (by first | exact rt_params) ?_)
          | (refine own_load_old rfl _ _ rfl rfl hS (by assumption) (by first | exact List.not_mem_nil | assumption) (by first | exact rt_params) ?_)
          | (refine own_load_has rfl _ _ rfl rfl hS (by assumption) (by first | exact List.not_mem_nil | assumption) (by first | exact rt_params) ?_)
          | (refine own_load1_old rfl _ _ rfl rfl hS (by assumption) (by first | exact List.not_mem_nil | assumption) (by first | exact ot_int) ?_)
          | (refine own_load1_has rfl _ _ rfl rfl hS (by assumption) (by first | exact List.not_mem_nil | assumption) (by first | exact ot_int) (by first | rfl | assumption) ?_)
          | (refine own_box rfl _ _ rfl rfl hS ?_; clear hS; (try clear ww); intro bb ww hS)
          | (refine own_store rfl _ _ _ rfl rfl rfl hS (by first | exact at0 | exact at1 | exact at2 | exact at3 | exact at4 | exact at5 | exact at6 | exact at7 | exact at8) (by first | exact rt_params) (by rfl) (by rfl) ?_; clear hS; (try clear ww); intro ww hS; (try simp only at hS); (try simp only [List.set_cons_succ] at hS); (try simp only [List.set_cons_zero] at hS))
          | (refine own_store1 rfl _ _ _ rfl rfl rfl rfl hS (by first | exact at0 | exact at1 | exact at2 | exact at3 | exact at4 | exact at5 | exact at6 | exact at7 | exact at8) (by first | exact ot_int) (by simp) ?_; clear hS; (try clear ww); intro ww hS; (try simp only at hS); (try simp only [List.set_cons_succ] at hS); (try simp only [List.set_cons_zero] at hS); (try simp only [Act.eval] at hS); (try simp only [Array.getD_eq_getD_getElem?] at hS); (try simp only [List.getElem?_toArray] at hS); (try simp only [List.getElem?_cons_succ] at hS); (try simp only [List.getElem?_cons_zero] at hS); (try simp only [Option.getD_some] at hS)))
        go_ret
        exact ⟨ret_bool E1.out.symm, hS.below⟩
      · have HB := Lib.hid hb
        have E1 := Lib.hid (show allIn 0 20000 lens = allIn 0 20000 (lens.drop (k + 1)) by rw [HE.out, hb]; simp)
        clear hb HE
        go_wp2_with (first
          | (refine own_unguard (by rfl) ?_)
          | (go_at_call 30; refine own_callsS hS (ref05_within_v HB) ?_)
          | (refine own_load1 rfl _ _ rfl rfl hS (by first | exact at0 | exact at1 | exact at2 | exact at3 | exact at4 | exact at5 | exact at6 | exact at7 | exact at8) (by first | exact ot_int) (by first | rfl | assumption) ?_)
          | (refine own_load rfl _ _ rfl rfl hS (by first | exact at0 | exact at1 | exact at2 | exact at3 | exact at4 | exact at5 | exact at6 | exact at7 | exact at8) (by first | exact rt_params) ?_)
          | (refine own_load_old rfl _ _ rfl rfl hS (by assumption) (by first | exact List.not_mem_nil | assumption) (by first | exact rt_params) ?_)
          | (refine own_load_has rfl _ _ rfl rfl hS (by assumption) (by first | exact List.not_mem_nil | assumption) (by first | exact rt_params) ?_)
          | (refine own_load1_old rfl _ _ rfl rfl hS (by assumption) (by first | exact List.not_mem_nil | assumption) (by first | exact ot_int) ?_)
          | (refine own_load1_has rfl _ _ rfl rfl hS (by assumption) (by first | exact List.not_mem_nil | assumption) (by first | exact ot_int) (by first | rfl | assumption) ?_)
          | (refine own_box rfl _ _ rfl rfl hS ?_; clear hS; (try clear ww); intro bb ww hS)
          | (refine own_store rfl _ _ _ rfl rfl rfl hS (by first | exact at0 | exact at1 | exact at2 | exact at3 | exact at4 | exact at5 | exact at6 | exact at7 | exact at8) (by first | exact rt_params) (by rfl) (by rfl) ?_; clear hS; (try clear ww); intro ww hS; (try simp only at hS); (try simp only [List.set_cons_succ] at hS); (try simp only [List.set_cons_zero] at hS))
          | (refine own_store1 rfl _ _ _ rfl rfl rfl rfl hS (by first | exact at0 | exact at1 | exact at2 | exact at3 | exact at4 | exact at5 | exact at6 | exact at7 | exact at8) (by first | exact ot_int) (by simp) ?_; clear hS; (try clear ww); intro ww hS; (try simp only at hS); (try simp only [List.set_cons_succ] at hS); (try simp only [List.set_cons_zero] at hS); (try simp only [Act.eval] at hS); (try simp only [Array.getD_eq_getD_getElem?] at hS); (try simp only [List.getElem?_toArray] at hS); (try simp only [List.getElem?_cons_succ] at hS); (try simp only [List.getElem?_cons_zero] at hS); (try simp only [Option.getD_some] at hS)))
        go_roundw
        case rel => exact ⟨k + 1, hlt, by go_num, E1.out, hS⟩
        case measure => exact loop_meas hlt
    · have E0 := Lib.hid (show prmOk F = allIn 1 100 [F.script, F.sscript, F.dpercent] by
        unfold prmOk
        rw [← HLe.out, hf, List.drop_of_length_le (by omega)]
        exact Bool.and_true _)
      clear hf
      rw [allIn_three] at E0
      cases hb1 : (decide (1 ≤ F.script) && decide (F.script ≤ 100)) <;> cases hb2 : (decide (1 ≤ F.sscript) && decide (F.sscript ≤ 100)) <;> cases hb3 : (decide (1 ≤ F.dpercent) && decide (F.dpercent ≤ 100))
      all_goals
        rw [hb1, hb2, hb3] at E0
        have B1 := Lib.hid hb1
        have B2 := Lib.hid hb2
        have B3 := Lib.hid hb3
        clear hb1 hb2 hb3
        go_wp2_with (first
          | (refine own_unguard (by rfl) ?_)
          | (go_at_call 30; refine own_callsS hS (ref05_within_v B1) ?_)
          | (go_at_call 30; refine own_callsS hS (ref05_within_v B2) ?_)
          | (go_at_call 30; refine own_callsS hS (ref05_within_v B3) ?_)
          | (refine own_load1 rfl _ _ rfl rfl hS (by first | exact at0 | exact at1 | exact at2 | exact at3 | exact at4 | exact at5 | exact at6 | exact at7 | exact at8) (by first | exact ot_int) (by first | rfl | assumption) ?_)
          | (refine own_load rfl _ _ rfl rfl hS (by first | exact at0 | exact at1 | exact at2 | exact at3 | exact at4 | exact at5 | exact at6 | exact at7 | exact at8) (by first | exact rt_params) ?_)
          | (refine own_load_old rfl _ _ rfl rfl hS (by assumption) (by first | exact List.not_mem_nil | assumption) (by first | exact rt_params) ?_)
          | (refine own_load_has rfl _ _ rfl rfl hS (by assumption) (by first | exact List.not_mem_nil | assumption) (by first | exact rt_params) ?_)
          | (refine own_load1_old rfl _ _ rfl rfl hS (by assumption) (by first | exact List.not_mem_nil | assumption) (by first | exact ot_int) ?_)
          | (refine own_load1_has rfl _ _ rfl rfl hS (by assumption) (by first | exact List.not_mem_nil | assumption) (by first | exact ot_int) (by first | rfl | assumption) ?_)
          | (refine own_box rfl _ _ rfl rfl hS ?_; clear hS; (try clear ww); intro bb ww hS)
          | (refine own_store rfl _ _ _ rfl rfl rfl hS (by first | exact at0 | exact at1 | exact at2 | exact at3 | exact at4 | exact at5 | exact at6 | exact at7 | exact at8) (by first | exact rt_params) (by rfl) (by rfl) ?_; clear hS; (try clear ww); intro ww hS; (try simp only at hS); (try simp only [List.set_cons_succ] at hS); (try simp only [List.set_cons_zero] at hS))
          | (refine own_store1 rfl _ _ _ rfl rfl rfl rfl hS (by first | exact at0 | exact at1 | exact at2 | exact at3 | exact at4 | exact at5 | exact at6 | exact at7 | exact at8) (by first | exact ot_int) (by simp) ?_; clear hS; (try clear ww); intro ww hS; (try simp only at hS); (try simp only [List.set_cons_succ] at hS); (try simp only [List.set_cons_zero] at hS); (try simp only [Act.eval] at hS); (try simp only [Array.getD_eq_getD_getElem?] at hS); (try simp only [List.getElem?_toArray] at hS); (try simp only [List.getElem?_cons_succ] at hS); (try simp only [List.getElem?_cons_zero] at hS); (try simp only [Option.getD_some] at hS)))
        go_ret
        exact ⟨ret_bool E0.out.symm, hS.below⟩

end Go.Proofs.Ytgknameejoalnaa
