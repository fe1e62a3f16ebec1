/- Texts Rpr, Rvl, Par, Chk. -/
import Derived.Test.YtgpabckipmhobaaK12
namespace Go.Proofs.Ytgpabckipmhobaa
open Go.RowKit

attribute [local irreducible] wpQuiet wpG wpP wpK wpList Code.wp Calls

set_option maxHeartbeats 8000000 in
set_option maxRecDepth 100000 in
theorem ref28_source_calls (a : Hd) (kv : Value) (sx : Option Addr) (sc : Nat) (w : World) (hs : RowAt w sx 1 intCells a.src) (hl : a.src.length ≤ 9223372036854775807) :
    Calls Try.prog 56 #[.agg (a.cells kv (.slice sx a.src.length sc)).toArray] w (Gives (.bool (srcOk a)) w) := by
  have HS := Lib.hid hs
  clear hs
  go_enter Try.func56, Try.ntmps56
  have hS := own_start w
  go_wp2_with (first | (refine own_unguard (by rfl) ?_) | (refine w_ld rfl _ rfl (by rfl) (by first | exact rd_1 (by repeat constructor) (by first | rfl | assumption) | exact rd_w (by repeat constructor) (by rfl) | exact rd_o (by assumption) (by rfl) (by first | exact nmn | assumption | simp) | exact rd_h (by assumption) (by rfl) (by first | exact nmn | assumption | simp) | exact rd_1o (by assumption) (by first | exact nmn | assumption | simp) | exact rd_1h (by assumption) (by first | rfl | assumption) (by first | exact nmn | assumption | simp)) hS ?_) | (refine own_box rfl _ _ rfl (by rfl) hS ?_; clear hS; (try clear ww); intro bb ww hS) | (refine w_st rfl _ _ rfl (by rfl) (by rfl) (by repeat constructor) (by rfl) (by rfl) (by first | rfl | assumption) hS ?_; clear hS; (try clear ww); intro ww hS) | (refine w_s1 rfl _ _ rfl (by rfl) (by repeat constructor) (by first | exact .c | exact .t rfl) (by rfl) (by repeat constructor) hS ?_; clear hS; (try clear ww); intro ww hS))
  obtain ⟨L0, HL, hS0⟩ := hS.named
  clear hS
  have hS := hS0
  clear hS0
  go_loopw [3] (fun i wr => ∃ j : Nat, j ≤ a.src.length ∧ i = .int .i64 j ∧ a.src.all (fun n => decide (0 ≤ n)) = (a.src.drop j).all (fun n => decide (0 ≤ n)) ∧ Own [] w L0 wr) (fun i _ => a.src.length - (intOf i).toNat)
  case atStart => exact ⟨0, Nat.zero_le _, rfl, rfl, hS⟩
  case round =>
    clear hS
    obtain ⟨j, hj, rfl, hf, hS⟩ := hrel
    obtain rfl := HL.out
    clear HL
    by_cases hlt : j < a.src.length
    · obtain ⟨n, hn⟩ : ∃ n, a.src[j]? = some n := ⟨a.src[j], by simp [hlt]⟩
      obtain ⟨b, f, hx, hr0⟩ := HS.out.get hn
      obtain rfl : sx = some ⟨b, f, none⟩ := hx
      have hc : w.cell? ⟨b, f + j * 1, none⟩ = some (.int .i64 n) := hr0 0 _ rfl
      rw [Nat.mul_one] at hc
      rw [srcs_drop hn] at hf
      have HF := Lib.hid hf
      clear hf hr0 hn
      by_cases h0 : 0 ≤ n
      · have E1 := Lib.hid (show a.src.all (fun n => decide (0 ≤ n)) = (a.src.drop (j + 1)).all (fun n => decide (0 ≤ n)) by rw [HF.out]; simp [h0])
        clear HF
        go_wp2_with (first | (refine own_unguard (by rfl) ?_) | (refine w_ld rfl _ rfl (by rfl) (by first | exact rd_1 (by repeat constructor) (by first | rfl | assumption) | exact rd_w (by repeat constructor) (by rfl) | exact rd_o (by assumption) (by rfl) (by first | exact nmn | assumption | simp) | exact rd_h (by assumption) (by rfl) (by first | exact nmn | assumption | simp) | exact rd_1o (by assumption) (by first | exact nmn | assumption | simp) | exact rd_1h (by assumption) (by first | rfl | assumption) (by first | exact nmn | assumption | simp)) hS ?_) | (refine own_box rfl _ _ rfl (by rfl) hS ?_; clear hS; (try clear ww); intro bb ww hS) | (refine w_st rfl _ _ rfl (by rfl) (by rfl) (by repeat constructor) (by rfl) (by rfl) (by first | rfl | assumption) hS ?_; clear hS; (try clear ww); intro ww hS) | (refine w_s1 rfl _ _ rfl (by rfl) (by repeat constructor) (by first | exact .c | exact .t rfl) (by rfl) (by repeat constructor) hS ?_; clear hS; (try clear ww); intro ww hS))
        go_roundw
        case rel => exact ⟨j + 1, hlt, by go_num, E1.out, hS⟩
        case measure => exact loop_meas hlt
      · have E1 := Lib.hid (show srcOk a = false by unfold srcOk; rw [HF.out]; simp [h0])
        clear HF
        go_wp2_with (first | (refine own_unguard (by rfl) ?_) | (refine w_ld rfl _ rfl (by rfl) (by first | exact rd_1 (by repeat constructor) (by first | rfl | assumption) | exact rd_w (by repeat constructor) (by rfl) | exact rd_o (by assumption) (by rfl) (by first | exact nmn | assumption | simp) | exact rd_h (by assumption) (by rfl) (by first | exact nmn | assumption | simp) | exact rd_1o (by assumption) (by first | exact nmn | assumption | simp) | exact rd_1h (by assumption) (by first | rfl | assumption) (by first | exact nmn | assumption | simp)) hS ?_) | (refine own_box rfl _ _ rfl (by rfl) hS ?_; clear hS; (try clear ww); intro bb ww hS) | (refine w_st rfl _ _ rfl (by rfl) (by rfl) (by repeat constructor) (by rfl) (by rfl) (by first | rfl | assumption) hS ?_; clear hS; (try clear ww); intro ww hS) | (refine w_s1 rfl _ _ rfl (by rfl) (by repeat constructor) (by first | exact .c | exact .t rfl) (by rfl) (by repeat constructor) hS ?_; clear hS; (try clear ww); intro ww hS))
        go_ret
        exact ⟨ret_bool E1.out.symm, hS.below⟩
    · have E0 := Lib.hid (show srcOk a = srcEnd a by unfold srcOk; rw [hf, List.drop_of_length_le (by omega)]; rfl)
      clear hf
      by_cases q0 : a.of = 0
      · have E1 := Lib.hid (E0.out.trans (srcEnd_0 q0))
        clear E0
        go_wp2_with (first | (refine own_unguard (by rfl) ?_) | (refine w_ld rfl _ rfl (by rfl) (by first | exact rd_1 (by repeat constructor) (by first | rfl | assumption) | exact rd_w (by repeat constructor) (by rfl) | exact rd_o (by assumption) (by rfl) (by first | exact nmn | assumption | simp) | exact rd_h (by assumption) (by rfl) (by first | exact nmn | assumption | simp) | exact rd_1o (by assumption) (by first | exact nmn | assumption | simp) | exact rd_1h (by assumption) (by first | rfl | assumption) (by first | exact nmn | assumption | simp)) hS ?_) | (refine own_box rfl _ _ rfl (by rfl) hS ?_; clear hS; (try clear ww); intro bb ww hS) | (refine w_st rfl _ _ rfl (by rfl) (by rfl) (by repeat constructor) (by rfl) (by rfl) (by first | rfl | assumption) hS ?_; clear hS; (try clear ww); intro ww hS) | (refine w_s1 rfl _ _ rfl (by rfl) (by repeat constructor) (by first | exact .c | exact .t rfl) (by rfl) (by repeat constructor) hS ?_; clear hS; (try clear ww); intro ww hS))
        all_goals (go_ret; exact ⟨ret_bool (by rw [E1.out, Bool.eq_iff_iff]; simp only [beq_iff_eq, decide_eq_true_eq]; omega), hS.below⟩)
      · by_cases q1 : a.of = 1
        · have E1 := Lib.hid (E0.out.trans (srcEnd_1 q1))
          clear E0
          go_wp2_with (first | (refine own_unguard (by rfl) ?_) | (refine w_ld rfl _ rfl (by rfl) (by first | exact rd_1 (by repeat constructor) (by first | rfl | assumption) | exact rd_w (by repeat constructor) (by rfl) | exact rd_o (by assumption) (by rfl) (by first | exact nmn | assumption | simp) | exact rd_h (by assumption) (by rfl) (by first | exact nmn | assumption | simp) | exact rd_1o (by assumption) (by first | exact nmn | assumption | simp) | exact rd_1h (by assumption) (by first | rfl | assumption) (by first | exact nmn | assumption | simp)) hS ?_) | (refine own_box rfl _ _ rfl (by rfl) hS ?_; clear hS; (try clear ww); intro bb ww hS) | (refine w_st rfl _ _ rfl (by rfl) (by rfl) (by repeat constructor) (by rfl) (by rfl) (by first | rfl | assumption) hS ?_; clear hS; (try clear ww); intro ww hS) | (refine w_s1 rfl _ _ rfl (by rfl) (by repeat constructor) (by first | exact .c | exact .t rfl) (by rfl) (by repeat constructor) hS ?_; clear hS; (try clear ww); intro ww hS))
          all_goals (go_ret; exact ⟨ret_bool (by rw [E1.out, Bool.eq_iff_iff]; simp only [Bool.and_eq_true, decide_eq_true_eq, Bool.false_eq_true]; first | omega | (simp only [false_iff]; omega)), hS.below⟩)
        · by_cases q2 : a.of = 2
          · have E1 := Lib.hid (E0.out.trans (srcEnd_2 q2))
            clear E0
            go_wp2_with (first | (refine own_unguard (by rfl) ?_) | (refine w_ld rfl _ rfl (by rfl) (by first | exact rd_1 (by repeat constructor) (by first | rfl | assumption) | exact rd_w (by repeat constructor) (by rfl) | exact rd_o (by assumption) (by rfl) (by first | exact nmn | assumption | simp) | exact rd_h (by assumption) (by rfl) (by first | exact nmn | assumption | simp) | exact rd_1o (by assumption) (by first | exact nmn | assumption | simp) | exact rd_1h (by assumption) (by first | rfl | assumption) (by first | exact nmn | assumption | simp)) hS ?_) | (refine own_box rfl _ _ rfl (by rfl) hS ?_; clear hS; (try clear ww); intro bb ww hS) | (refine w_st rfl _ _ rfl (by rfl) (by rfl) (by repeat constructor) (by rfl) (by rfl) (by first | rfl | assumption) hS ?_; clear hS; (try clear ww); intro ww hS) | (refine w_s1 rfl _ _ rfl (by rfl) (by repeat constructor) (by first | exact .c | exact .t rfl) (by rfl) (by repeat constructor) hS ?_; clear hS; (try clear ww); intro ww hS))
            all_goals (go_ret; exact ⟨ret_bool (by rw [E1.out, Bool.eq_iff_iff]; simp only [Bool.and_eq_true, decide_eq_true_eq, Bool.false_eq_true]; first | omega | (simp only [false_iff]; omega)), hS.below⟩)
          · have E1 := Lib.hid (E0.out.trans (srcEnd_3 q0 q1 q2))
            clear E0
            go_wp2_with (first | (refine own_unguard (by rfl) ?_) | (refine w_ld rfl _ rfl (by rfl) (by first | exact rd_1 (by repeat constructor) (by first | rfl | assumption) | exact rd_w (by repeat constructor) (by rfl) | exact rd_o (by assumption) (by rfl) (by first | exact nmn | assumption | simp) | exact rd_h (by assumption) (by rfl) (by first | exact nmn | assumption | simp) | exact rd_1o (by assumption) (by first | exact nmn | assumption | simp) | exact rd_1h (by assumption) (by first | rfl | assumption) (by first | exact nmn | assumption | simp)) hS ?_) | (refine own_box rfl _ _ rfl (by rfl) hS ?_; clear hS; (try clear ww); intro bb ww hS) | (refine w_st rfl _ _ rfl (by rfl) (by rfl) (by repeat constructor) (by rfl) (by rfl) (by first | rfl | assumption) hS ?_; clear hS; (try clear ww); intro ww hS) | (refine w_s1 rfl _ _ rfl (by rfl) (by repeat constructor) (by first | exact .c | exact .t rfl) (by rfl) (by repeat constructor) hS ?_; clear hS; (try clear ww); intro ww hS))
            all_goals (go_ret; exact ⟨ret_bool E1.out.symm, hS.below⟩)

theorem ref28_source_v {a : Hd} {kv : Value} {sx : Option Addr} {sc : Nat} {w : World} {v : Bool} (hs : RowAt w sx 1 intCells a.src) (hl : a.src.length ≤ 9223372036854775807) (hv : Hid (srcOk a = v)) :
    Calls Try.prog 56 #[.agg (a.cells kv (.slice sx a.src.length sc)).toArray] w (Gives (.bool v) w) := by
  have := ref28_source_calls a kv sx sc w hs hl
  rwa [hv.out] at this
theorem ref05_Name_v2 {s : ByteArray} {w : World} {v : Bool} (hs : s.size ≤ maxLen) (hv : Hid (nameOk s = v)) : Calls Try.prog 52 #[.string s] w fun e w' => e = .returned (.bool v) ∧ w = w' := by
  have := ref05_Name_calls s w hs
  rwa [hv.out] at this
theorem lens_drop {l : List Int} {k : Nat} {n : Int} (h : l[k]? = some n) : lensOk (l.drop k) = ((decide (-1073741824 ≤ n) && decide (n ≤ 1073741824)) && lensOk (l.drop (k + 1))) := by
  obtain ⟨hlt, rfl⟩ := List.getElem?_eq_some_iff.1 h
  unfold lensOk
  rw [List.drop_eq_getElem_cons hlt, List.all_cons]
theorem kids_drop {n : Nat} {l : List (Bx n)} {k : Nat} {b : Bx n} (h : l[k]? = some b) : (l.drop k).all (allOwn n) = (allOwn n b && (l.drop (k + 1)).all (allOwn n)) := by
  obtain ⟨hlt, rfl⟩ := List.getElem?_eq_some_iff.1 h
  rw [List.drop_eq_getElem_cons hlt, List.all_cons]

set_option maxHeartbeats 16000000 in
set_option maxRecDepth 100000 in
theorem ref28_proper_step (n : Nat) (ih : ∀ (b : Bx n) (cs : List Value) (w : World) (v : Bool), Rep w n b cs → Wide n b → v = allOwn n b → Calls Try.prog 33 #[.agg cs.toArray] w (Gives (.bool v) w))
    (b : Bx (n + 1)) (cs : List Value) (w : World) (v : Bool) (hr : Rep w (n + 1) b cs) (hsm : Wide (n + 1) b) (hv : v = allOwn (n + 1) b) : Calls Try.prog 33 #[.agg cs.toArray] w (Gives (.bool v) w) := by
  obtain ⟨a, kids⟩ := b
  obtain ⟨kx, kc, sx, sc, rfl, ha, hkl, hrow0, hkids⟩ := rep_out hr
  have hv2 : v = (((lensOk a.lens && kindOk a kids.length) && srcOk a) && kids.all (allOwn n)) := hv
  have hkl2 : kids.length ≤ 9223372036854775807 := hsm.2.1
  have hsl : a.src.length ≤ 9223372036854775807 := hsm.1
  have IH := Lib.hid ih
  have HK := Lib.hid hkids
  have HSm := Lib.hid hsm.2.2
  have HH := Lib.hid ha
  have HRow := Lib.hid hrow0
  have HV := Lib.hid hv2
  obtain ⟨lens, HLe⟩ : ∃ l, Hid (l = a.lens) := ⟨_, rfl⟩
  have hlen : lens.length ≤ 5 ∧ 5 ≤ lens.length := by rw [HLe.out]; exact ⟨Nat.le_refl _, Nat.le_refl _⟩
  clear ih hr ha hkl hrow0 hkids hsm hv hv2
  go_enter Try.func33, Try.ntmps33
  have hS := own_start w
  go_wp2_with (first | (refine own_unguard (by rfl) ?_) | (refine own_buildSlice rfl _ _ 5 _ rfl (a.lens.map (Value.int .i64)) hS Try.underlying31 (by kernel_rfl) ?_; rw [← HLe.out]; clear hS; (try clear ww); intro bb ww hS) | (refine w_ld rfl _ rfl (by rfl) (by first | exact rd_1 (by repeat constructor) (by first | rfl | assumption) | exact rd_w (by repeat constructor) (by rfl) | exact rd_o (by assumption) (by rfl) (by first | exact nmn | assumption | simp) | exact rd_h (by assumption) (by rfl) (by first | exact nmn | assumption | simp) | exact rd_1o (by assumption) (by first | exact nmn | assumption | simp) | exact rd_1h (by assumption) (by first | rfl | assumption) (by first | exact nmn | assumption | simp)) hS ?_) | (refine own_box rfl _ _ rfl (by rfl) hS ?_; clear hS; (try clear ww); intro bb ww hS) | (refine w_st rfl _ _ rfl (by rfl) (by rfl) (by repeat constructor) (by rfl) (by rfl) (by first | rfl | assumption) hS ?_; clear hS; (try clear ww); intro ww hS) | (refine w_s1 rfl _ _ rfl (by rfl) (by repeat constructor) (by first | exact .c | exact .t rfl) (by rfl) (by repeat constructor) hS ?_; clear hS; (try clear ww); intro ww hS))
  obtain ⟨L0, HL, hS0⟩ := hS.named
  clear hS
  have hS := hS0
  clear hS0
  go_loopw [4] (fun i wr => ∃ j : Nat, j ≤ 5 ∧ i = .int .i64 j ∧ lensOk lens = lensOk (lens.drop j) ∧ Own [] w L0 wr) (fun i _ => 5 - (intOf i).toNat)
  case atStart => exact ⟨0, Nat.zero_le _, rfl, rfl, hS⟩
  case round =>
    clear hS
    obtain ⟨j, hj, rfl, hf, hS⟩ := hrel
    obtain rfl := HL.out
    clear HL
    by_cases hlt : j < 5
    · obtain ⟨z, hz⟩ : ∃ z, lens[j]? = some z := ⟨lens[j], by simp⟩
      rw [lens_drop hz] at hf
      have HF := Lib.hid hf
      have hcell : (lens.map (Value.int .i64))[j]? = some (.int .i64 z) := by rw [List.getElem?_map, hz]; rfl
      clear hf hz
      by_cases h1 : z < -1073741824
      · have E1 := Lib.hid (show v = false by rw [HV.out, ← HLe.out, HF.out]; simp; omega)
        clear HF
        go_wp2_with (first | (refine own_unguard (by rfl) ?_) | (refine w_ld rfl _ rfl (by rfl) (by first | exact rd_1 (by repeat constructor) (by first | rfl | assumption) | exact rd_w (by repeat constructor) (by rfl) | exact rd_o (by assumption) (by rfl) (by first | exact nmn | assumption | simp) | exact rd_h (by assumption) (by rfl) (by first | exact nmn | assumption | simp) | exact rd_1o (by assumption) (by first | exact nmn | assumption | simp) | exact rd_1h (by assumption) (by first | rfl | assumption) (by first | exact nmn | assumption | simp)) hS ?_) | (refine own_box rfl _ _ rfl (by rfl) hS ?_; clear hS; (try clear ww); intro bb ww hS) | (refine w_st rfl _ _ rfl (by rfl) (by rfl) (by repeat constructor) (by rfl) (by rfl) (by first | rfl | assumption) hS ?_; clear hS; (try clear ww); intro ww hS) | (refine w_s1 rfl _ _ rfl (by rfl) (by repeat constructor) (by first | exact .c | exact .t rfl) (by rfl) (by repeat constructor) hS ?_; clear hS; (try clear ww); intro ww hS))
        go_ret
        exact ⟨ret_bool E1.out.symm, hS.below⟩
      · by_cases h2 : 1073741824 < z
        · have E1 := Lib.hid (show v = false by rw [HV.out, ← HLe.out, HF.out]; simp; omega)
          clear HF
          go_wp2_with (first | (refine own_unguard (by rfl) ?_) | (refine w_ld rfl _ rfl (by rfl) (by first | exact rd_1 (by repeat constructor) (by first | rfl | assumption) | exact rd_w (by repeat constructor) (by rfl) | exact rd_o (by assumption) (by rfl) (by first | exact nmn | assumption | simp) | exact rd_h (by assumption) (by rfl) (by first | exact nmn | assumption | simp) | exact rd_1o (by assumption) (by first | exact nmn | assumption | simp) | exact rd_1h (by assumption) (by first | rfl | assumption) (by first | exact nmn | assumption | simp)) hS ?_) | (refine own_box rfl _ _ rfl (by rfl) hS ?_; clear hS; (try clear ww); intro bb ww hS) | (refine w_st rfl _ _ rfl (by rfl) (by rfl) (by repeat constructor) (by rfl) (by rfl) (by first | rfl | assumption) hS ?_; clear hS; (try clear ww); intro ww hS) | (refine w_s1 rfl _ _ rfl (by rfl) (by repeat constructor) (by first | exact .c | exact .t rfl) (by rfl) (by repeat constructor) hS ?_; clear hS; (try clear ww); intro ww hS))
          go_ret
          exact ⟨ret_bool E1.out.symm, hS.below⟩
        · have E1 := Lib.hid (show lensOk lens = lensOk (lens.drop (j + 1)) by rw [HF.out]; simp; omega)
          clear HF
          go_wp2_with (first | (refine own_unguard (by rfl) ?_) | (refine w_ld rfl _ rfl (by rfl) (by first | exact rd_1 (by repeat constructor) (by first | rfl | assumption) | exact rd_w (by repeat constructor) (by rfl) | exact rd_o (by assumption) (by rfl) (by first | exact nmn | assumption | simp) | exact rd_h (by assumption) (by rfl) (by first | exact nmn | assumption | simp) | exact rd_1o (by assumption) (by first | exact nmn | assumption | simp) | exact rd_1h (by assumption) (by first | rfl | assumption) (by first | exact nmn | assumption | simp)) hS ?_) | (refine own_box rfl _ _ rfl (by rfl) hS ?_; clear hS; (try clear ww); intro bb ww hS) | (refine w_st rfl _ _ rfl (by rfl) (by rfl) (by repeat constructor) (by rfl) (by rfl) (by first | rfl | assumption) hS ?_; clear hS; (try clear ww); intro ww hS) | (refine w_s1 rfl _ _ rfl (by rfl) (by repeat constructor) (by first | exact .c | exact .t rfl) (by rfl) (by repeat constructor) hS ?_; clear hS; (try clear ww); intro ww hS))
          go_roundw
          case rel => exact ⟨j + 1, hlt, by go_num, E1.out, hS⟩
          case measure => exact loop_meas hlt
    · have E0 := Lib.hid (show v = ((kindOk a kids.length && srcOk a) && kids.all (allOwn n)) by rw [HV.out, ← HLe.out, hf, List.drop_of_length_le (by omega)]; rfl)
      clear hf
      by_cases k1 : a.kind = 1
      · cases hn : nameOk a.name
        · have HN := Lib.hid hn
          have E1 := Lib.hid (show v = false by rw [E0.out, kind_1 k1, hn]; simp)
          clear hn E0
          go_wp2_with (first | (refine own_unguard (by rfl) ?_) | (go_at_call 52; refine own_callsS hS (ref05_Name_v2 HH.out.nameLen HN) ?_) | (refine w_ld rfl _ rfl (by rfl) (by first | exact rd_1 (by repeat constructor) (by first | rfl | assumption) | exact rd_w (by repeat constructor) (by rfl) | exact rd_o (by assumption) (by rfl) (by first | exact nmn | assumption | simp) | exact rd_h (by assumption) (by rfl) (by first | exact nmn | assumption | simp) | exact rd_1o (by assumption) (by first | exact nmn | assumption | simp) | exact rd_1h (by assumption) (by first | rfl | assumption) (by first | exact nmn | assumption | simp)) hS ?_) | (refine own_box rfl _ _ rfl (by rfl) hS ?_; clear hS; (try clear ww); intro bb ww hS) | (refine w_st rfl _ _ rfl (by rfl) (by rfl) (by repeat constructor) (by rfl) (by rfl) (by first | rfl | assumption) hS ?_; clear hS; (try clear ww); intro ww hS) | (refine w_s1 rfl _ _ rfl (by rfl) (by repeat constructor) (by first | exact .c | exact .t rfl) (by rfl) (by repeat constructor) hS ?_; clear hS; (try clear ww); intro ww hS))
          go_ret
          exact ⟨ret_bool E1.out.symm, hS.below⟩
        · have HN := Lib.hid hn
          have E4 := Lib.hid (show v = ((((decide (1 ≤ a.size) && decide (a.size ≤ 1000)) && decide (kids.length = 0)) && srcOk a) && kids.all (allOwn n)) by rw [E0.out, kind_1 k1, hn]; simp)
          clear hn E0
          by_cases s1 : a.size < 1
          · have d1 : decide (a.size < 1) = true := decide_eq_true s1
            have E1 := Lib.hid (show v = false by rw [E4.out, show decide (1 ≤ a.size) = false by simp; omega]; rfl)
            clear E4
            go_wp2_with (first | (refine own_unguard (by rfl) ?_) | (go_at_call 52; refine own_callsS hS (ref05_Name_v2 HH.out.nameLen HN) ?_) | (refine w_ld rfl _ rfl (by rfl) (by first | exact rd_1 (by repeat constructor) (by first | rfl | assumption) | exact rd_w (by repeat constructor) (by rfl) | exact rd_o (by assumption) (by rfl) (by first | exact nmn | assumption | simp) | exact rd_h (by assumption) (by rfl) (by first | exact nmn | assumption | simp) | exact rd_1o (by assumption) (by first | exact nmn | assumption | simp) | exact rd_1h (by assumption) (by first | rfl | assumption) (by first | exact nmn | assumption | simp)) hS ?_) | (refine own_box rfl _ _ rfl (by rfl) hS ?_; clear hS; (try clear ww); intro bb ww hS) | (refine w_st rfl _ _ rfl (by rfl) (by rfl) (by repeat constructor) (by rfl) (by rfl) (by first | rfl | assumption) hS ?_; clear hS; (try clear ww); intro ww hS) | (refine w_s1 rfl _ _ rfl (by rfl) (by repeat constructor) (by first | exact .c | exact .t rfl) (by rfl) (by repeat constructor) hS ?_; clear hS; (try clear ww); intro ww hS))
            go_ret
            exact ⟨ret_bool E1.out.symm, hS.below⟩
          · have d1 : decide (a.size < 1) = false := decide_eq_false s1
            by_cases s2 : 1000 < a.size
            · have d2 : decide (1000 < a.size) = true := decide_eq_true s2
              have E1 := Lib.hid (show v = false by rw [E4.out, show decide (a.size ≤ 1000) = false by simp; omega]; simp)
              clear E4
              go_wp2_with (first | (refine own_unguard (by rfl) ?_) | (go_at_call 52; refine own_callsS hS (ref05_Name_v2 HH.out.nameLen HN) ?_) | (refine w_ld rfl _ rfl (by rfl) (by first | exact rd_1 (by repeat constructor) (by first | rfl | assumption) | exact rd_w (by repeat constructor) (by rfl) | exact rd_o (by assumption) (by rfl) (by first | exact nmn | assumption | simp) | exact rd_h (by assumption) (by rfl) (by first | exact nmn | assumption | simp) | exact rd_1o (by assumption) (by first | exact nmn | assumption | simp) | exact rd_1h (by assumption) (by first | rfl | assumption) (by first | exact nmn | assumption | simp)) hS ?_) | (refine own_box rfl _ _ rfl (by rfl) hS ?_; clear hS; (try clear ww); intro bb ww hS) | (refine w_st rfl _ _ rfl (by rfl) (by rfl) (by repeat constructor) (by rfl) (by rfl) (by first | rfl | assumption) hS ?_; clear hS; (try clear ww); intro ww hS) | (refine w_s1 rfl _ _ rfl (by rfl) (by repeat constructor) (by first | exact .c | exact .t rfl) (by rfl) (by repeat constructor) hS ?_; clear hS; (try clear ww); intro ww hS))
              go_ret
              exact ⟨ret_bool E1.out.symm, hS.below⟩
            · have d2 : decide (1000 < a.size) = false := decide_eq_false s2
              by_cases s3 : 0 < kids.length
              · have d3 : decide ((0 : Int) < (kids.length : Int)) = true := by simp only [decide_eq_true_eq]; omega
                have E1 := Lib.hid (show v = false by rw [E4.out, show decide (kids.length = 0) = false by simp only [decide_eq_false_iff_not]; omega]; simp)
                clear E4
                go_wp2_with (first | (refine own_unguard (by rfl) ?_) | (go_at_call 52; refine own_callsS hS (ref05_Name_v2 HH.out.nameLen HN) ?_) | (refine w_ld rfl _ rfl (by rfl) (by first | exact rd_1 (by repeat constructor) (by first | rfl | assumption) | exact rd_w (by repeat constructor) (by rfl) | exact rd_o (by assumption) (by rfl) (by first | exact nmn | assumption | simp) | exact rd_h (by assumption) (by rfl) (by first | exact nmn | assumption | simp) | exact rd_1o (by assumption) (by first | exact nmn | assumption | simp) | exact rd_1h (by assumption) (by first | rfl | assumption) (by first | exact nmn | assumption | simp)) hS ?_) | (refine own_box rfl _ _ rfl (by rfl) hS ?_; clear hS; (try clear ww); intro bb ww hS) | (refine w_st rfl _ _ rfl (by rfl) (by rfl) (by repeat constructor) (by rfl) (by rfl) (by first | rfl | assumption) hS ?_; clear hS; (try clear ww); intro ww hS) | (refine w_s1 rfl _ _ rfl (by rfl) (by repeat constructor) (by first | exact .c | exact .t rfl) (by rfl) (by repeat constructor) hS ?_; clear hS; (try clear ww); intro ww hS))
                go_ret
                exact ⟨ret_bool E1.out.symm, hS.below⟩
              · have d3 : decide ((0 : Int) < (kids.length : Int)) = false := by simp only [decide_eq_false_iff_not]; omega
                have E3 := Lib.hid (show v = (srcOk a && kids.all (allOwn n)) by rw [E4.out, show decide (1 ≤ a.size) = true by simp; omega, show decide (a.size ≤ 1000) = true by simp; omega, show decide (kids.length = 0) = true by simp only [decide_eq_true_eq]; omega]; rfl)
                clear E4
                go_wp2_with (first | (refine own_unguard (by rfl) ?_) | (go_at_call 52; refine own_callsS hS (ref05_Name_v2 HH.out.nameLen HN) ?_) | (refine w_ld rfl _ rfl (by rfl) (by first | exact rd_1 (by repeat constructor) (by first | rfl | assumption) | exact rd_w (by repeat constructor) (by rfl) | exact rd_o (by assumption) (by rfl) (by first | exact nmn | assumption | simp) | exact rd_h (by assumption) (by rfl) (by first | exact nmn | assumption | simp) | exact rd_1o (by assumption) (by first | exact nmn | assumption | simp) | exact rd_1h (by assumption) (by first | rfl | assumption) (by first | exact nmn | assumption | simp)) hS ?_) | (refine own_box rfl _ _ rfl (by rfl) hS ?_; clear hS; (try clear ww); intro bb ww hS) | (refine w_st rfl _ _ rfl (by rfl) (by rfl) (by repeat constructor) (by rfl) (by rfl) (by first | rfl | assumption) hS ?_; clear hS; (try clear ww); intro ww hS) | (refine w_s1 rfl _ _ rfl (by rfl) (by repeat constructor) (by first | exact .c | exact .t rfl) (by rfl) (by repeat constructor) hS ?_; clear hS; (try clear ww); intro ww hS))
                obtain ⟨L1, HL, hS0⟩ := hS.named
                clear hS
                have hS := hS0
                clear hS0
                go_loopw [5] (fun i wr => ∃ j : Nat, j ≤ kids.length ∧ i = .int .i64 j ∧ kids.all (allOwn n) = (kids.drop j).all (allOwn n) ∧ Own [] w L1 wr) (fun i _ => kids.length - (intOf i).toNat)
                case atStart => exact ⟨0, Nat.zero_le _, rfl, rfl, hS⟩
                case round =>
                  clear hS
                  obtain ⟨j, hj, rfl, hf, hS⟩ := hrel
                  obtain rfl := HL.out
                  clear HL
                  by_cases hlt : j < kids.length
                  · exact absurd hlt (by omega)
                  · cases hq : srcOk a
                    all_goals
                      have HQ := Lib.hid hq
                      have E1 := Lib.hid (show v = srcOk a by rw [E3.out, hf, List.drop_of_length_le (by omega)]; simp)
                      rw [hq] at E1
                      clear hq hf
                    · skip
                      go_wp2_with (first | (refine own_unguard (by rfl) ?_) | (refine own_load rfl _ _ rfl rfl hS at1 rt_box ?_) | (go_at_call 56; refine own_calls hS (ref28_source_v (HRow.out.own hS) hsl HQ) ?_; clear hS; (try clear ww); intro ww hS) | (refine w_ld rfl _ rfl (by rfl) (by first | exact rd_1 (by repeat constructor) (by first | rfl | assumption) | exact rd_w (by repeat constructor) (by rfl) | exact rd_o (by assumption) (by rfl) (by first | exact nmn | assumption | simp) | exact rd_h (by assumption) (by rfl) (by first | exact nmn | assumption | simp) | exact rd_1o (by assumption) (by first | exact nmn | assumption | simp) | exact rd_1h (by assumption) (by first | rfl | assumption) (by first | exact nmn | assumption | simp)) hS ?_) | (refine own_box rfl _ _ rfl (by rfl) hS ?_; clear hS; (try clear ww); intro bb ww hS) | (refine w_st rfl _ _ rfl (by rfl) (by rfl) (by repeat constructor) (by rfl) (by rfl) (by first | rfl | assumption) hS ?_; clear hS; (try clear ww); intro ww hS) | (refine w_s1 rfl _ _ rfl (by rfl) (by repeat constructor) (by first | exact .c | exact .t rfl) (by rfl) (by repeat constructor) hS ?_; clear hS; (try clear ww); intro ww hS))
                      go_ret
                      exact ⟨ret_bool E1.out.symm, hS.below⟩
                    · skip
                      go_wp2_with (first | (refine own_unguard (by rfl) ?_) | (refine own_load rfl _ _ rfl rfl hS at1 rt_box ?_) | (go_at_call 56; refine own_calls hS (ref28_source_v (HRow.out.own hS) hsl HQ) ?_; clear hS; (try clear ww); intro ww hS) | (refine w_ld rfl _ rfl (by rfl) (by first | exact rd_1 (by repeat constructor) (by first | rfl | assumption) | exact rd_w (by repeat constructor) (by rfl) | exact rd_o (by assumption) (by rfl) (by first | exact nmn | assumption | simp) | exact rd_h (by assumption) (by rfl) (by first | exact nmn | assumption | simp) | exact rd_1o (by assumption) (by first | exact nmn | assumption | simp) | exact rd_1h (by assumption) (by first | rfl | assumption) (by first | exact nmn | assumption | simp)) hS ?_) | (refine own_box rfl _ _ rfl (by rfl) hS ?_; clear hS; (try clear ww); intro bb ww hS) | (refine w_st rfl _ _ rfl (by rfl) (by rfl) (by repeat constructor) (by rfl) (by rfl) (by first | rfl | assumption) hS ?_; clear hS; (try clear ww); intro ww hS) | (refine w_s1 rfl _ _ rfl (by rfl) (by repeat constructor) (by first | exact .c | exact .t rfl) (by rfl) (by repeat constructor) hS ?_; clear hS; (try clear ww); intro ww hS))
                      go_ret
                      exact ⟨ret_bool E1.out.symm, hS.below⟩
      · by_cases k2 : a.kind = 2
        · have E4 := Lib.hid (show v = (((((a.name.toList == []) && decide (a.size = 0)) && decide (kids.length = 0)) && srcOk a) && kids.all (allOwn n)) by rw [E0.out, kind_2 k2])
          clear E0
          by_cases s1 : a.name.toList = []
          · by_cases s2 : a.size = 0
            · by_cases s3 : 0 < kids.length
              · have d3 : decide ((0 : Int) < (kids.length : Int)) = true := by simp only [decide_eq_true_eq]; omega
                have E1 := Lib.hid (show v = false by rw [E4.out, show decide (kids.length = 0) = false by simp only [decide_eq_false_iff_not]; omega]; simp)
                clear E4
                go_wp2_with (first | (refine own_unguard (by rfl) ?_) | (refine w_ld rfl _ rfl (by rfl) (by first | exact rd_1 (by repeat constructor) (by first | rfl | assumption) | exact rd_w (by repeat constructor) (by rfl) | exact rd_o (by assumption) (by rfl) (by first | exact nmn | assumption | simp) | exact rd_h (by assumption) (by rfl) (by first | exact nmn | assumption | simp) | exact rd_1o (by assumption) (by first | exact nmn | assumption | simp) | exact rd_1h (by assumption) (by first | rfl | assumption) (by first | exact nmn | assumption | simp)) hS ?_) | (refine own_box rfl _ _ rfl (by rfl) hS ?_; clear hS; (try clear ww); intro bb ww hS) | (refine w_st rfl _ _ rfl (by rfl) (by rfl) (by repeat constructor) (by rfl) (by rfl) (by first | rfl | assumption) hS ?_; clear hS; (try clear ww); intro ww hS) | (refine w_s1 rfl _ _ rfl (by rfl) (by repeat constructor) (by first | exact .c | exact .t rfl) (by rfl) (by repeat constructor) hS ?_; clear hS; (try clear ww); intro ww hS))
                go_ret
                exact ⟨ret_bool E1.out.symm, hS.below⟩
              · have d3 : decide ((0 : Int) < (kids.length : Int)) = false := by simp only [decide_eq_false_iff_not]; omega
                have E3 := Lib.hid (show v = (srcOk a && kids.all (allOwn n)) by rw [E4.out, s1, s2, show decide (kids.length = 0) = true by simp only [decide_eq_true_eq]; omega]; rfl)
                clear E4
                go_wp2_with (first | (refine own_unguard (by rfl) ?_) | (refine w_ld rfl _ rfl (by rfl) (by first | exact rd_1 (by repeat constructor) (by first | rfl | assumption) | exact rd_w (by repeat constructor) (by rfl) | exact rd_o (by assumption) (by rfl) (by first | exact nmn | assumption | simp) | exact rd_h (by assumption) (by rfl) (by first | exact nmn | assumption | simp) | exact rd_1o (by assumption) (by first | exact nmn | assumption | simp) | exact rd_1h (by assumption) (by first | rfl | assumption) (by first | exact nmn | assumption | simp)) hS ?_) | (refine own_box rfl _ _ rfl (by rfl) hS ?_; clear hS; (try clear ww); intro bb ww hS) | (refine w_st rfl _ _ rfl (by rfl) (by rfl) (by repeat constructor) (by rfl) (by rfl) (by first | rfl | assumption) hS ?_; clear hS; (try clear ww); intro ww hS) | (refine w_s1 rfl _ _ rfl (by rfl) (by repeat constructor) (by first | exact .c | exact .t rfl) (by rfl) (by repeat constructor) hS ?_; clear hS; (try clear ww); intro ww hS))
                obtain ⟨L1, HL, hS0⟩ := hS.named
                clear hS
                have hS := hS0
                clear hS0
                go_loopw [5] (fun i wr => ∃ j : Nat, j ≤ kids.length ∧ i = .int .i64 j ∧ kids.all (allOwn n) = (kids.drop j).all (allOwn n) ∧ Own [] w L1 wr) (fun i _ => kids.length - (intOf i).toNat)
                case atStart => exact ⟨0, Nat.zero_le _, rfl, rfl, hS⟩
                case round =>
                  clear hS
                  obtain ⟨j, hj, rfl, hf, hS⟩ := hrel
                  obtain rfl := HL.out
                  clear HL
                  by_cases hlt : j < kids.length
                  · exact absurd hlt (by omega)
                  · cases hq : srcOk a
                    all_goals
                      have HQ := Lib.hid hq
                      have E1 := Lib.hid (show v = srcOk a by rw [E3.out, hf, List.drop_of_length_le (by omega)]; simp)
                      rw [hq] at E1
                      clear hq hf
                    · skip
                      go_wp2_with (first | (refine own_unguard (by rfl) ?_) | (refine own_load rfl _ _ rfl rfl hS at1 rt_box ?_) | (go_at_call 56; refine own_calls hS (ref28_source_v (HRow.out.own hS) hsl HQ) ?_; clear hS; (try clear ww); intro ww hS) | (refine w_ld rfl _ rfl (by rfl) (by first | exact rd_1 (by repeat constructor) (by first | rfl | assumption) | exact rd_w (by repeat constructor) (by rfl) | exact rd_o (by assumption) (by rfl) (by first | exact nmn | assumption | simp) | exact rd_h (by assumption) (by rfl) (by first | exact nmn | assumption | simp) | exact rd_1o (by assumption) (by first | exact nmn | assumption | simp) | exact rd_1h (by assumption) (by first | rfl | assumption) (by first | exact nmn | assumption | simp)) hS ?_) | (refine own_box rfl _ _ rfl (by rfl) hS ?_; clear hS; (try clear ww); intro bb ww hS) | (refine w_st rfl _ _ rfl (by rfl) (by rfl) (by repeat constructor) (by rfl) (by rfl) (by first | rfl | assumption) hS ?_; clear hS; (try clear ww); intro ww hS) | (refine w_s1 rfl _ _ rfl (by rfl) (by repeat constructor) (by first | exact .c | exact .t rfl) (by rfl) (by repeat constructor) hS ?_; clear hS; (try clear ww); intro ww hS))
                      go_ret
                      exact ⟨ret_bool E1.out.symm, hS.below⟩
                    · skip
                      go_wp2_with (first | (refine own_unguard (by rfl) ?_) | (refine own_load rfl _ _ rfl rfl hS at1 rt_box ?_) | (go_at_call 56; refine own_calls hS (ref28_source_v (HRow.out.own hS) hsl HQ) ?_; clear hS; (try clear ww); intro ww hS) | (refine w_ld rfl _ rfl (by rfl) (by first | exact rd_1 (by repeat constructor) (by first | rfl | assumption) | exact rd_w (by repeat constructor) (by rfl) | exact rd_o (by assumption) (by rfl) (by first | exact nmn | assumption | simp) | exact rd_h (by assumption) (by rfl) (by first | exact nmn | assumption | simp) | exact rd_1o (by assumption) (by first | exact nmn | assumption | simp) | exact rd_1h (by assumption) (by first | rfl | assumption) (by first | exact nmn | assumption | simp)) hS ?_) | (refine own_box rfl _ _ rfl (by rfl) hS ?_; clear hS; (try clear ww); intro bb ww hS) | (refine w_st rfl _ _ rfl (by rfl) (by rfl) (by repeat constructor) (by rfl) (by rfl) (by first | rfl | assumption) hS ?_; clear hS; (try clear ww); intro ww hS) | (refine w_s1 rfl _ _ rfl (by rfl) (by repeat constructor) (by first | exact .c | exact .t rfl) (by rfl) (by repeat constructor) hS ?_; clear hS; (try clear ww); intro ww hS))
                      go_ret
                      exact ⟨ret_bool E1.out.symm, hS.below⟩
            · have E1 := Lib.hid (show v = false by rw [E4.out, show decide (a.size = 0) = false by simp only [decide_eq_false_iff_not]; omega]; simp)
              clear E4
              go_wp2_with (first | (refine own_unguard (by rfl) ?_) | (refine w_ld rfl _ rfl (by rfl) (by first | exact rd_1 (by repeat constructor) (by first | rfl | assumption) | exact rd_w (by repeat constructor) (by rfl) | exact rd_o (by assumption) (by rfl) (by first | exact nmn | assumption | simp) | exact rd_h (by assumption) (by rfl) (by first | exact nmn | assumption | simp) | exact rd_1o (by assumption) (by first | exact nmn | assumption | simp) | exact rd_1h (by assumption) (by first | rfl | assumption) (by first | exact nmn | assumption | simp)) hS ?_) | (refine own_box rfl _ _ rfl (by rfl) hS ?_; clear hS; (try clear ww); intro bb ww hS) | (refine w_st rfl _ _ rfl (by rfl) (by rfl) (by repeat constructor) (by rfl) (by rfl) (by first | rfl | assumption) hS ?_; clear hS; (try clear ww); intro ww hS) | (refine w_s1 rfl _ _ rfl (by rfl) (by repeat constructor) (by first | exact .c | exact .t rfl) (by rfl) (by repeat constructor) hS ?_; clear hS; (try clear ww); intro ww hS))
              go_ret
              exact ⟨ret_bool E1.out.symm, hS.below⟩
          · have E1 := Lib.hid (show v = false by rw [E4.out]; simp [s1])
            clear E4
            go_wp2_with (first | (refine own_unguard (by rfl) ?_) | (refine w_ld rfl _ rfl (by rfl) (by first | exact rd_1 (by repeat constructor) (by first | rfl | assumption) | exact rd_w (by repeat constructor) (by rfl) | exact rd_o (by assumption) (by rfl) (by first | exact nmn | assumption | simp) | exact rd_h (by assumption) (by rfl) (by first | exact nmn | assumption | simp) | exact rd_1o (by assumption) (by first | exact nmn | assumption | simp) | exact rd_1h (by assumption) (by first | rfl | assumption) (by first | exact nmn | assumption | simp)) hS ?_) | (refine own_box rfl _ _ rfl (by rfl) hS ?_; clear hS; (try clear ww); intro bb ww hS) | (refine w_st rfl _ _ rfl (by rfl) (by rfl) (by repeat constructor) (by rfl) (by rfl) (by first | rfl | assumption) hS ?_; clear hS; (try clear ww); intro ww hS) | (refine w_s1 rfl _ _ rfl (by rfl) (by repeat constructor) (by first | exact .c | exact .t rfl) (by rfl) (by repeat constructor) hS ?_; clear hS; (try clear ww); intro ww hS))
            go_ret
            exact ⟨ret_bool E1.out.symm, hS.below⟩
        · by_cases k3 : a.kind = 3
          · have E4 := Lib.hid (show v = ((((a.name.toList == []) && decide (a.size = 0)) && srcOk a) && kids.all (allOwn n)) by rw [E0.out, kind_3 k3])
            clear E0
            by_cases s1 : a.name.toList = []
            · by_cases s2 : a.size = 0
              · have E3 := Lib.hid (show v = (srcOk a && kids.all (allOwn n)) by rw [E4.out, s1, s2]; rfl)
                clear E4
                go_wp2_with (first | (refine own_unguard (by rfl) ?_) | (refine w_ld rfl _ rfl (by rfl) (by first | exact rd_1 (by repeat constructor) (by first | rfl | assumption) | exact rd_w (by repeat constructor) (by rfl) | exact rd_o (by assumption) (by rfl) (by first | exact nmn | assumption | simp) | exact rd_h (by assumption) (by rfl) (by first | exact nmn | assumption | simp) | exact rd_1o (by assumption) (by first | exact nmn | assumption | simp) | exact rd_1h (by assumption) (by first | rfl | assumption) (by first | exact nmn | assumption | simp)) hS ?_) | (refine own_box rfl _ _ rfl (by rfl) hS ?_; clear hS; (try clear ww); intro bb ww hS) | (refine w_st rfl _ _ rfl (by rfl) (by rfl) (by repeat constructor) (by rfl) (by rfl) (by first | rfl | assumption) hS ?_; clear hS; (try clear ww); intro ww hS) | (refine w_s1 rfl _ _ rfl (by rfl) (by repeat constructor) (by first | exact .c | exact .t rfl) (by rfl) (by repeat constructor) hS ?_; clear hS; (try clear ww); intro ww hS))
                obtain ⟨L1, HL, hS0⟩ := hS.named
                clear hS
                have hS := hS0
                clear hS0
                go_loopw [5] (fun i wr => ∃ j : Nat, j ≤ kids.length ∧ i = .int .i64 j ∧ kids.all (allOwn n) = (kids.drop j).all (allOwn n) ∧ Own [] w L1 wr) (fun i _ => kids.length - (intOf i).toNat)
                case atStart => exact ⟨0, Nat.zero_le _, rfl, rfl, hS⟩
                case round =>
                  clear hS
                  obtain ⟨j, hj, rfl, hf, hS⟩ := hrel
                  obtain rfl := HL.out
                  clear HL
                  by_cases hlt : j < kids.length
                  · obtain ⟨kid, hkid⟩ : ∃ kid, kids[j]? = some kid := ⟨kids[j], by simp [hlt]⟩
                    obtain ⟨kb, ko, css, hkx, hrg, hrep⟩ := HK.out j kid hkid
                    obtain rfl : kx = some ⟨kb, ko, none⟩ := hkx
                    obtain ⟨c0, c1, c2, c3, c4, c5, c6, c7, c8, c9, c10, rfl⟩ := eleven hrep.len
                    rw [kids_drop hkid] at hf
                    have HF := Lib.hid hf
                    have HRp := Lib.hid hrep
                    have HKid := Lib.hid hkid
                    clear hf hrep hkid
                    cases hb : allOwn n kid
                    · have HB := Lib.hid hb.symm
                      have E1 := Lib.hid (show v = false by rw [E3.out, HF.out, hb]; simp)
                      clear hb HF
                      go_wp2_with (first | (refine own_unguard (by rfl) ?_) | (refine own_load_old rfl _ _ rfl rfl hS hrg List.not_mem_nil rt_box ?_) | (go_at_call 33; refine own_calls hS (IH.out kid _ _ _ (HRp.out.step hS.below) (HSm.out kid (List.mem_of_getElem? HKid.out)) HB.out) ?_; clear hS; (try clear ww); intro ww hS) | (refine w_ld rfl _ rfl (by rfl) (by first | exact rd_1 (by repeat constructor) (by first | rfl | assumption) | exact rd_w (by repeat constructor) (by rfl) | exact rd_o (by assumption) (by rfl) (by first | exact nmn | assumption | simp) | exact rd_h (by assumption) (by rfl) (by first | exact nmn | assumption | simp) | exact rd_1o (by assumption) (by first | exact nmn | assumption | simp) | exact rd_1h (by assumption) (by first | rfl | assumption) (by first | exact nmn | assumption | simp)) hS ?_) | (refine own_box rfl _ _ rfl (by rfl) hS ?_; clear hS; (try clear ww); intro bb ww hS) | (refine w_st rfl _ _ rfl (by rfl) (by rfl) (by repeat constructor) (by rfl) (by rfl) (by first | rfl | assumption) hS ?_; clear hS; (try clear ww); intro ww hS) | (refine w_s1 rfl _ _ rfl (by rfl) (by repeat constructor) (by first | exact .c | exact .t rfl) (by rfl) (by repeat constructor) hS ?_; clear hS; (try clear ww); intro ww hS))
                      go_ret
                      exact ⟨ret_bool E1.out.symm, hS.below⟩
                    · have HB := Lib.hid hb.symm
                      have E1 := Lib.hid (show kids.all (allOwn n) = (kids.drop (j + 1)).all (allOwn n) by rw [HF.out, hb]; simp)
                      clear hb HF
                      go_wp2_with (first | (refine own_unguard (by rfl) ?_) | (refine own_load_old rfl _ _ rfl rfl hS hrg List.not_mem_nil rt_box ?_) | (go_at_call 33; refine own_calls hS (IH.out kid _ _ _ (HRp.out.step hS.below) (HSm.out kid (List.mem_of_getElem? HKid.out)) HB.out) ?_; clear hS; (try clear ww); intro ww hS) | (refine w_ld rfl _ rfl (by rfl) (by first | exact rd_1 (by repeat constructor) (by first | rfl | assumption) | exact rd_w (by repeat constructor) (by rfl) | exact rd_o (by assumption) (by rfl) (by first | exact nmn | assumption | simp) | exact rd_h (by assumption) (by rfl) (by first | exact nmn | assumption | simp) | exact rd_1o (by assumption) (by first | exact nmn | assumption | simp) | exact rd_1h (by assumption) (by first | rfl | assumption) (by first | exact nmn | assumption | simp)) hS ?_) | (refine own_box rfl _ _ rfl (by rfl) hS ?_; clear hS; (try clear ww); intro bb ww hS) | (refine w_st rfl _ _ rfl (by rfl) (by rfl) (by repeat constructor) (by rfl) (by rfl) (by first | rfl | assumption) hS ?_; clear hS; (try clear ww); intro ww hS) | (refine w_s1 rfl _ _ rfl (by rfl) (by repeat constructor) (by first | exact .c | exact .t rfl) (by rfl) (by repeat constructor) hS ?_; clear hS; (try clear ww); intro ww hS))
                      go_roundw
                      case rel => exact ⟨j + 1, hlt, by go_num, E1.out, hS⟩
                      case measure => exact loop_meas hlt
                  · cases hq : srcOk a
                    all_goals
                      have HQ := Lib.hid hq
                      have E1 := Lib.hid (show v = srcOk a by rw [E3.out, hf, List.drop_of_length_le (by omega)]; simp)
                      rw [hq] at E1
                      clear hq hf
                    · skip
                      go_wp2_with (first | (refine own_unguard (by rfl) ?_) | (refine own_load rfl _ _ rfl rfl hS at1 rt_box ?_) | (go_at_call 56; refine own_calls hS (ref28_source_v (HRow.out.own hS) hsl HQ) ?_; clear hS; (try clear ww); intro ww hS) | (refine w_ld rfl _ rfl (by rfl) (by first | exact rd_1 (by repeat constructor) (by first | rfl | assumption) | exact rd_w (by repeat constructor) (by rfl) | exact rd_o (by assumption) (by rfl) (by first | exact nmn | assumption | simp) | exact rd_h (by assumption) (by rfl) (by first | exact nmn | assumption | simp) | exact rd_1o (by assumption) (by first | exact nmn | assumption | simp) | exact rd_1h (by assumption) (by first | rfl | assumption) (by first | exact nmn | assumption | simp)) hS ?_) | (refine own_box rfl _ _ rfl (by rfl) hS ?_; clear hS; (try clear ww); intro bb ww hS) | (refine w_st rfl _ _ rfl (by rfl) (by rfl) (by repeat constructor) (by rfl) (by rfl) (by first | rfl | assumption) hS ?_; clear hS; (try clear ww); intro ww hS) | (refine w_s1 rfl _ _ rfl (by rfl) (by repeat constructor) (by first | exact .c | exact .t rfl) (by rfl) (by repeat constructor) hS ?_; clear hS; (try clear ww); intro ww hS))
                      go_ret
                      exact ⟨ret_bool E1.out.symm, hS.below⟩
                    · skip
                      go_wp2_with (first | (refine own_unguard (by rfl) ?_) | (refine own_load rfl _ _ rfl rfl hS at1 rt_box ?_) | (go_at_call 56; refine own_calls hS (ref28_source_v (HRow.out.own hS) hsl HQ) ?_; clear hS; (try clear ww); intro ww hS) | (refine w_ld rfl _ rfl (by rfl) (by first | exact rd_1 (by repeat constructor) (by first | rfl | assumption) | exact rd_w (by repeat constructor) (by rfl) | exact rd_o (by assumption) (by rfl) (by first | exact nmn | assumption | simp) | exact rd_h (by assumption) (by rfl) (by first | exact nmn | assumption | simp) | exact rd_1o (by assumption) (by first | exact nmn | assumption | simp) | exact rd_1h (by assumption) (by first | rfl | assumption) (by first | exact nmn | assumption | simp)) hS ?_) | (refine own_box rfl _ _ rfl (by rfl) hS ?_; clear hS; (try clear ww); intro bb ww hS) | (refine w_st rfl _ _ rfl (by rfl) (by rfl) (by repeat constructor) (by rfl) (by rfl) (by first | rfl | assumption) hS ?_; clear hS; (try clear ww); intro ww hS) | (refine w_s1 rfl _ _ rfl (by rfl) (by repeat constructor) (by first | exact .c | exact .t rfl) (by rfl) (by repeat constructor) hS ?_; clear hS; (try clear ww); intro ww hS))
                      go_ret
                      exact ⟨ret_bool E1.out.symm, hS.below⟩
              · have E1 := Lib.hid (show v = false by rw [E4.out, show decide (a.size = 0) = false by simp only [decide_eq_false_iff_not]; omega]; simp)
                clear E4
                go_wp2_with (first | (refine own_unguard (by rfl) ?_) | (refine w_ld rfl _ rfl (by rfl) (by first | exact rd_1 (by repeat constructor) (by first | rfl | assumption) | exact rd_w (by repeat constructor) (by rfl) | exact rd_o (by assumption) (by rfl) (by first | exact nmn | assumption | simp) | exact rd_h (by assumption) (by rfl) (by first | exact nmn | assumption | simp) | exact rd_1o (by assumption) (by first | exact nmn | assumption | simp) | exact rd_1h (by assumption) (by first | rfl | assumption) (by first | exact nmn | assumption | simp)) hS ?_) | (refine own_box rfl _ _ rfl (by rfl) hS ?_; clear hS; (try clear ww); intro bb ww hS) | (refine w_st rfl _ _ rfl (by rfl) (by rfl) (by repeat constructor) (by rfl) (by rfl) (by first | rfl | assumption) hS ?_; clear hS; (try clear ww); intro ww hS) | (refine w_s1 rfl _ _ rfl (by rfl) (by repeat constructor) (by first | exact .c | exact .t rfl) (by rfl) (by repeat constructor) hS ?_; clear hS; (try clear ww); intro ww hS))
                go_ret
                exact ⟨ret_bool E1.out.symm, hS.below⟩
            · have E1 := Lib.hid (show v = false by rw [E4.out]; simp [s1])
              clear E4
              go_wp2_with (first | (refine own_unguard (by rfl) ?_) | (refine w_ld rfl _ rfl (by rfl) (by first | exact rd_1 (by repeat constructor) (by first | rfl | assumption) | exact rd_w (by repeat constructor) (by rfl) | exact rd_o (by assumption) (by rfl) (by first | exact nmn | assumption | simp) | exact rd_h (by assumption) (by rfl) (by first | exact nmn | assumption | simp) | exact rd_1o (by assumption) (by first | exact nmn | assumption | simp) | exact rd_1h (by assumption) (by first | rfl | assumption) (by first | exact nmn | assumption | simp)) hS ?_) | (refine own_box rfl _ _ rfl (by rfl) hS ?_; clear hS; (try clear ww); intro bb ww hS) | (refine w_st rfl _ _ rfl (by rfl) (by rfl) (by repeat constructor) (by rfl) (by rfl) (by first | rfl | assumption) hS ?_; clear hS; (try clear ww); intro ww hS) | (refine w_s1 rfl _ _ rfl (by rfl) (by repeat constructor) (by first | exact .c | exact .t rfl) (by rfl) (by repeat constructor) hS ?_; clear hS; (try clear ww); intro ww hS))
              go_ret
              exact ⟨ret_bool E1.out.symm, hS.below⟩
          · have E1 := Lib.hid (show v = false by rw [E0.out, kind_4 k1 k2 k3]; rfl)
            clear E0
            go_wp2_with (first | (refine own_unguard (by rfl) ?_) | (refine w_ld rfl _ rfl (by rfl) (by first | exact rd_1 (by repeat constructor) (by first | rfl | assumption) | exact rd_w (by repeat constructor) (by rfl) | exact rd_o (by assumption) (by rfl) (by first | exact nmn | assumption | simp) | exact rd_h (by assumption) (by rfl) (by first | exact nmn | assumption | simp) | exact rd_1o (by assumption) (by first | exact nmn | assumption | simp) | exact rd_1h (by assumption) (by first | rfl | assumption) (by first | exact nmn | assumption | simp)) hS ?_) | (refine own_box rfl _ _ rfl (by rfl) hS ?_; clear hS; (try clear ww); intro bb ww hS) | (refine w_st rfl _ _ rfl (by rfl) (by rfl) (by repeat constructor) (by rfl) (by rfl) (by first | rfl | assumption) hS ?_; clear hS; (try clear ww); intro ww hS) | (refine w_s1 rfl _ _ rfl (by rfl) (by repeat constructor) (by first | exact .c | exact .t rfl) (by rfl) (by repeat constructor) hS ?_; clear hS; (try clear ww); intro ww hS))
            go_ret
            exact ⟨ret_bool E1.out.symm, hS.below⟩

end Go.Proofs.Ytgpabckipmhobaa
namespace Go.Proofs.Ytgpabckipmhobaa
open Go.RowKit

attribute [local irreducible] wpQuiet wpG wpP wpK wpList Code.wp Calls

theorem ref28_proper_calls : ∀ (n : Nat) (b : Bx n) (cs : List Value) (w : World) (v : Bool), Rep w n b cs → Wide n b → v = allOwn n b → Calls Try.prog 33 #[.agg cs.toArray] w (Gives (.bool v) w) := by
  intro n
  induction n with
  | zero => intro b cs w v h; exact h.elim
  | succ n ih => intro b cs w v h1 h2 h3; exact ref28_proper_step n ih b cs w v h1 h2 h3

set_option maxHeartbeats 8000000 in
set_option maxRecDepth 100000 in
theorem ref28_Valid_calls (n : Nat) (b : Bx n) (cs : List Value) (w : World) (hr : Rep w n b cs) (hs : Wide n b) (hc : bCount n b ≤ 1000000) (v : Bool) (hv : v = true ↔ validB n b) : Calls Try.prog 17 #[.agg cs.toArray] w (Gives (.bool v) w) := by
  have h11 := hr.len
  obtain ⟨c0, c1, c2, c3, c4, c5, c6, c7, c8, c9, c10, rfl⟩ := eleven h11
  have hn := nested_le n b
  have HP := Lib.hid (fun w' (h : Below w.heap.size w w') => ref28_proper_calls n b _ w' _ (hr.step h) hs rfl)
  have HC := Lib.hid (fun w' (h : Below w.heap.size w w') => ref28_Count_calls n b _ w' (hr.step h) hc)
  have HN := Lib.hid (fun w' (h : Below w.heap.size w w') => ref28_Nested_calls n b _ w' (hr.step h) hc)
  have hv2 : v = (allOwn n b && (decide ((bCount n b : Int) ≤ 20000) && decide ((bNested n b : Int) ≤ 100))) := by
    rw [Bool.eq_iff_iff, hv]
    unfold validB okV
    simp only [Bool.and_eq_true, decide_eq_true_eq]
    constructor
    · rintro ⟨h1, h2, h3⟩; exact ⟨h1, by omega, by omega⟩
    · rintro ⟨h1, h2, h3⟩; exact ⟨h1, by omega, by omega⟩
  generalize allOwn n b = A at *
  generalize bCount n b = C at *
  generalize bNested n b = E at *
  have HV := Lib.hid hv2
  clear hr hs hv hv2 h11
  cases A
  · have E1 := Lib.hid (show v = false by rw [HV.out]; rfl)
    clear HV
    go_enter Try.func17, Try.ntmps17
    have hS := own_start w
    go_wp2_with (first | (refine own_unguard (by rfl) ?_) | (go_at_call 33; refine own_calls hS (HP.out _ hS.below) ?_; clear hS; (try clear ww); intro ww hS) | (refine w_ld rfl _ rfl (by rfl) (by first | exact rd_1 (by repeat constructor) (by first | rfl | assumption) | exact rd_w (by repeat constructor) (by rfl) | exact rd_o (by assumption) (by rfl) (by first | exact nmn | assumption | simp) | exact rd_h (by assumption) (by rfl) (by first | exact nmn | assumption | simp) | exact rd_1o (by assumption) (by first | exact nmn | assumption | simp) | exact rd_1h (by assumption) (by first | rfl | assumption) (by first | exact nmn | assumption | simp)) hS ?_) | (refine own_box rfl _ _ rfl (by rfl) hS ?_; clear hS; (try clear ww); intro bb ww hS) | (refine w_st rfl _ _ rfl (by rfl) (by rfl) (by repeat constructor) (by rfl) (by rfl) (by first | rfl | assumption) hS ?_; clear hS; (try clear ww); intro ww hS) | (refine w_s1 rfl _ _ rfl (by rfl) (by repeat constructor) (by first | exact .c | exact .t rfl) (by rfl) (by repeat constructor) hS ?_; clear hS; (try clear ww); intro ww hS))
    go_ret
    exact ⟨ret_bool E1.out.symm, hS.below⟩
  · by_cases h1 : (C : Int) ≤ 20000
    · have E1 := Lib.hid (show v = decide ((E : Int) ≤ 100) by rw [HV.out]; simp [h1])
      have d1 : decide ((C : Int) ≤ 20000) = true := decide_eq_true h1
      clear HV
      go_enter Try.func17, Try.ntmps17
      have hS := own_start w
      go_wp2_with (first | (refine own_unguard (by rfl) ?_) | (go_at_call 33; refine own_calls hS (HP.out _ hS.below) ?_; clear hS; (try clear ww); intro ww hS) | (go_at_call 34; refine own_calls hS (HC.out _ hS.below) ?_; clear hS; (try clear ww); intro ww hS) | (go_at_call 35; refine own_calls hS (HN.out _ hS.below) ?_; clear hS; (try clear ww); intro ww hS) | (refine w_ld rfl _ rfl (by rfl) (by first | exact rd_1 (by repeat constructor) (by first | rfl | assumption) | exact rd_w (by repeat constructor) (by rfl) | exact rd_o (by assumption) (by rfl) (by first | exact nmn | assumption | simp) | exact rd_h (by assumption) (by rfl) (by first | exact nmn | assumption | simp) | exact rd_1o (by assumption) (by first | exact nmn | assumption | simp) | exact rd_1h (by assumption) (by first | rfl | assumption) (by first | exact nmn | assumption | simp)) hS ?_) | (refine own_box rfl _ _ rfl (by rfl) hS ?_; clear hS; (try clear ww); intro bb ww hS) | (refine w_st rfl _ _ rfl (by rfl) (by rfl) (by repeat constructor) (by rfl) (by rfl) (by first | rfl | assumption) hS ?_; clear hS; (try clear ww); intro ww hS) | (refine w_s1 rfl _ _ rfl (by rfl) (by repeat constructor) (by first | exact .c | exact .t rfl) (by rfl) (by repeat constructor) hS ?_; clear hS; (try clear ww); intro ww hS))
      go_ret
      exact ⟨ret_bool E1.out.symm, hS.below⟩
    · have E1 := Lib.hid (show v = false by rw [HV.out]; simp [h1])
      have d1 : decide ((C : Int) ≤ 20000) = false := decide_eq_false h1
      clear HV
      go_enter Try.func17, Try.ntmps17
      have hS := own_start w
      go_wp2_with (first | (refine own_unguard (by rfl) ?_) | (go_at_call 33; refine own_calls hS (HP.out _ hS.below) ?_; clear hS; (try clear ww); intro ww hS) | (go_at_call 34; refine own_calls hS (HC.out _ hS.below) ?_; clear hS; (try clear ww); intro ww hS) | (refine w_ld rfl _ rfl (by rfl) (by first | exact rd_1 (by repeat constructor) (by first | rfl | assumption) | exact rd_w (by repeat constructor) (by rfl) | exact rd_o (by assumption) (by rfl) (by first | exact nmn | assumption | simp) | exact rd_h (by assumption) (by rfl) (by first | exact nmn | assumption | simp) | exact rd_1o (by assumption) (by first | exact nmn | assumption | simp) | exact rd_1h (by assumption) (by first | rfl | assumption) (by first | exact nmn | assumption | simp)) hS ?_) | (refine own_box rfl _ _ rfl (by rfl) hS ?_; clear hS; (try clear ww); intro bb ww hS) | (refine w_st rfl _ _ rfl (by rfl) (by rfl) (by repeat constructor) (by rfl) (by rfl) (by first | rfl | assumption) hS ?_; clear hS; (try clear ww); intro ww hS) | (refine w_s1 rfl _ _ rfl (by rfl) (by repeat constructor) (by first | exact .c | exact .t rfl) (by rfl) (by repeat constructor) hS ?_; clear hS; (try clear ww); intro ww hS))
      go_ret
      exact ⟨ret_bool E1.out.symm, hS.below⟩

end Go.Proofs.Ytgpabckipmhobaa
namespace Go.Proofs.Ytgpabckipmhobaa
open Go.RowKit

attribute [local irreducible] wpQuiet wpG wpP wpK wpList Code.wp Calls

theorem prm_sz {F : Fnt} (h : ValidF F) : (1 ≤ F.script ∧ F.script ≤ 100) ∧ (1 ≤ F.sscript ∧ F.sscript ≤ 100) := by
  have := h.2.2.1
  simp [prmOk, allIn] at this
  omega
theorem size_in {F : Fnt} {l : Int} (h : ValidF F) : 1 ≤ sizeOf' F l ∧ sizeOf' F l ≤ 100 := by
  have := prm_sz h
  unfold sizeOf'
  repeat' split
  all_goals omega
/-- A parameter at the size of a style. -/
def par (F : Fnt) (l n : Int) : Int := scl n (sizeOf' F l)
/-- A scaled parameter lies between 0 and itself. -/
theorem par_in {F : Fnt} {l n : Int} (h : ValidF F) (h0 : 0 ≤ n) (h1 : n ≤ 20000) : 0 ≤ par F l n ∧ par F l n ≤ n := by
  have hs := size_in (l := l) h
  unfold par
  rw [scl_ok (by omega) (by omega) (by omega)]
  have h2 : 0 ≤ n * sizeOf' F l := Int.mul_nonneg h0 (by omega)
  have h3 : n * sizeOf' F l ≤ n * 100 := Int.mul_le_mul_of_nonneg_left hs.2 h0
  unfold rdiv
  rw [if_pos h2]
  omega



end Go.Proofs.Ytgpabckipmhobaa
namespace Go.Proofs.Ytgpabckipmhobaa
open Go.RowKit

attribute [local irreducible] wpQuiet wpG wpP wpK wpList Code.wp Calls

/-- The call gives a box and an error. -/
def GivesBE (n : Nat) (b : Bx n) (err : Int) (w : World) (e : Ending) (w' : World) : Prop := ∃ cs, e = .returned (.tuple #[.agg cs.toArray, .int .i64 err]) ∧ Rep w' n b cs ∧ Below w.heap.size w w'
/-- The empty box. -/
def zeroB (n : Nat) : Bx (n + 1) := (⟨0, ⟨#[]⟩, 0, 0, 0, 0, 0, 0, 0, []⟩, [])
theorem rep_zero (n : Nat) (w : World) : Rep w (n + 1) (zeroB n) [.int .i64 0, .string ⟨#[]⟩, .int .i64 0, .int .i64 0, .int .i64 0, .int .i64 0, .int .i64 0, .int .i64 0, .slice none 0 0, .int .i64 0, .slice none 0 0] :=
  rep_mk (kx := none) (sx := none) (kc := 0) (sc := 0) (hdOk_new i64_0 i64_0 i64_0 i64_0) (by simp) (.inl rfl) (fun i kid hi => by simp at hi)





end Go.Proofs.Ytgpabckipmhobaa
