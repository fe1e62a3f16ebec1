/- Chapter 37, ArrayAxis: the law returns true. -/
import Derived.Test.YtgnkngkogamjaaaK20
import Derived.Test.YtgnkngkogamjaaaK23
namespace Go.Proofs.Ytgnkngkogamjaaa
open Go.RowKit
attribute [local irreducible] wpQuiet wpG wpP wpK wpList Code.wp Calls

set_option maxHeartbeats 16000000 in
set_option maxRecDepth 100000 in
theorem arrayAxis_wild (F : Fnt) (l : Int) (c : Bool) (C : Int) (n : Nat) (kids : List (Bx (n + 1))) (kx : Option Addr) (kc : Nat) (w : World) (hF : FntOk w F) (hk : RepL w (n + 1) kx kids) (hm : kids.length ≤ maxLen) (ht : ¬ RightOk F l n C kids) : Calls Try.prog 6 #[.agg (caseX F l c).toArray, .int .i64 C, .slice kx kids.length kc] w (Gives (.bool true) w) := by
  have HRi := Lib.hid (fun w' (h : Below w.heap.size w w') => right37_calls F l c n C kids kx kc w' (hF.below h) (hk.step h) hm false (iff_f ht))
  clear hF hk ht
  go_enter Try.func6, Try.ntmps6
  have hS := own_start w
  go_wp2_with (first | (refine own_unguard (by rfl) ?_) | (refine own_box rfl _ _ rfl rfl hS ?_; clear hS; intro kb w0 hS0; have hrC := (hS0.get at0).range; have HB0 := Lib.hid hS0.below; obtain ⟨hrF, hrS⟩ := caseX_out hrC; have hS := own_start w0; clear hS0) | (refine own_load_old rfl _ _ rfl rfl hS hrC List.not_mem_nil rt_case37 ?_) | (refine own_load_old rfl _ _ rfl rfl hS hrF List.not_mem_nil rt_font ?_) | (refine own_load_old rfl _ _ rfl rfl hS hrS List.not_mem_nil rt_style ?_) | (go_at_call 8; refine own_calls hS (by first | exact awake37_calls _) ?_; clear hS; (try clear ww); intro ww hS) | (go_at_call 13; refine own_calls hS (HRi.out _ (bthen HB0.out hS.below)) ?_; clear hS; (try clear ww); intro ww hS) | (refine w_ld rfl _ rfl (by rfl) (by first | exact rd_1 (by repeat constructor) (by first | rfl | assumption) | exact rd_w (by repeat constructor) (by rfl) | exact rd_o (by assumption) (by rfl) (by first | exact nmn | assumption | simp) | exact rd_h (by assumption) (by rfl) (by first | exact nmn | assumption | simp) | exact rd_1o (by assumption) (by first | exact nmn | assumption | simp) | exact rd_1h (by assumption) (by first | rfl | assumption) (by first | exact nmn | assumption | simp)) hS ?_) | (refine own_box rfl _ _ rfl (by rfl) hS ?_; clear hS; (try clear ww); intro bb ww hS) | (refine w_al rfl rfl hS ?_; clear hS; (try clear ww); intro bb ww hS) | (refine w_st rfl _ _ rfl (by rfl) (by rfl) (by repeat constructor) (by rfl) (by rfl) (by first | rfl | assumption) hS ?_; clear hS; (try clear ww); intro ww hS) | (refine w_s1 rfl _ _ rfl (by rfl) (by repeat constructor) (by first | exact .c | exact .t rfl) (by rfl) (by repeat constructor) hS ?_; clear hS; (try clear ww); intro ww hS))
  go_ret
  exact ⟨rfl, bthen HB0.out hS.below⟩

set_option maxHeartbeats 16000000 in
set_option maxRecDepth 100000 in
theorem arrayAxis_main (F : Fnt) (l : Int) (c : Bool) (K n : Nat) (kids : List (Bx (n + 1))) (kx : Option Addr) (kc : Nat) (w : World) (hF : FntOk w F) (hk : RepL w (n + 1) kx kids) (hm : kids.length ≤ maxLen) (hR : RightOk F l n (K : Int) kids) (W H D : Int) (KS : List (Bx (n + 1))) (hM : ∀ w', Below w.heap.size w w' → Calls Try.prog 10 #[F.val, .agg #[.int .i64 l, .bool c], .int .i64 K, .slice kx kids.length kc] w' (GivesBE (n + 2) (listB (n + 1) W H D KS) 0 w')) (hlen : KS.length = kids.length) (a : Int) (HA : Hid (∀ w', Calls Try.prog 14 #[F.val, .agg #[.int .i64 l, .bool c], .int .i64 F.axis] w' (Gives (.int .i64 a) w')))
    (hks : ∀ k ∈ KS, (k.1.y + k.1.h ≤ H ∧ k.1.d - k.1.y ≤ D ∧ 0 ≤ k.1.x ∧ k.1.x + k.1.w ≤ W) ∧ (-1073741824 ≤ k.1.x ∧ k.1.x ≤ 1073741824) ∧ (-1073741824 ≤ k.1.y ∧ k.1.y ≤ 1073741824) ∧ (-1073741824 ≤ k.1.w ∧ k.1.w ≤ 1073741824) ∧ (-1073741824 ≤ k.1.h ∧ k.1.h ≤ 1073741824) ∧ (-1073741824 ≤ k.1.d ∧ k.1.d ≤ 1073741824))
    (hHD : (-1073741824 ≤ H ∧ H ≤ 1073741824) ∧ (-1073741824 ≤ D ∧ D ≤ 1073741824) ∧ (-1073741824 ≤ a ∧ a ≤ 1073741824)) (hd : -1 ≤ (H - a) - (a + D) ∧ (H - a) - (a + D) ≤ 1) : Calls Try.prog 6 #[.agg (caseX F l c).toArray, .int .i64 (K : Int), .slice kx kids.length kc] w (Gives (.bool true) w) := by
  have HRi := Lib.hid (fun w' (h : Below w.heap.size w w') => right37_calls F l c n K kids kx kc w' (hF.below h) (hk.step h) hm true (iff_t hR))
  have HM := Lib.hid (fun w' (h : Below w.heap.size w w') => hM w' h)
  have HKK := Lib.hid hks
  have HN := Lib.hid hlen
  obtain ⟨u1, hu1⟩ : ∃ z, z = H - a := ⟨_, rfl⟩
  obtain ⟨u2, hu2⟩ : ∃ z, z = a + D := ⟨_, rfl⟩
  obtain ⟨u3, hu3⟩ : ∃ z, z = u1 - u2 := ⟨_, rfl⟩
  have i1 : IntKind.i64.wrap (H - a) = u1 := by rw [IntWalk.i64_in _ (by omega), hu1]
  have i2 : IntKind.i64.wrap (a + D) = u2 := by rw [IntWalk.i64_in _ (by omega), hu2]
  have i3 : IntKind.i64.wrap (u1 - u2) = u3 := by rw [IntWalk.i64_in _ (by omega), hu3]
  have d1 : decide (-1 ≤ u3) = true := decide_eq_true (by omega)
  have d2 : decide (u3 ≤ 1) = true := decide_eq_true (by omega)
  have e0 : ((KS.length : Int) == (kids.length : Int)) = true := by rw [hlen]; exact beq_self_eq_true _
  have e1 : KS.length = kids.length := hlen
  have e2 : KS.length ≤ 256 := by have := hR.2.2.2.2.2.2.1; omega
  clear hF hk hR hM hks hHD hd hu1 hu2 hu3 hlen
  go_enter Try.func6, Try.ntmps6
  have hS := own_start w
  go_wp2_with (first | (refine own_unguard (by rfl) ?_) | (refine own_box rfl _ _ rfl rfl hS ?_; clear hS; intro kb w0 hS0; have hrC := (hS0.get at0).range; have HB0 := Lib.hid hS0.below; obtain ⟨hrF, hrS⟩ := caseX_out hrC; have hS := own_start w0; clear hS0) | (refine own_load_old rfl _ _ rfl rfl hS hrC List.not_mem_nil rt_case37 ?_) | (refine own_load_old rfl _ _ rfl rfl hS hrF List.not_mem_nil rt_font ?_) | (refine own_load_old rfl _ _ rfl rfl hS hrS List.not_mem_nil rt_style ?_) | (go_at_call 8; refine own_calls hS (by first | exact awake37_calls _) ?_; clear hS; (try clear ww); intro ww hS) | (go_at_call 13; refine own_calls hS (HRi.out _ (bthen HB0.out hS.below)) ?_; clear hS; (try clear ww); intro ww hS) | (go_at_call 10; refine own_be hS (HM.out _ (bthen HB0.out hS.below)) ?_; intro es w1 hR1 hS1 hb1; have hBk := Lib.hid (bthen HB0.out hS1.below); have hrFk := rangeAt_below hrF hS1.below; have hrSk := rangeAt_below hrS hS1.below; have cAx := hrFk 4 _ rfl; obtain ⟨ax, ac, tx, tc, rfl, _, _, _, hks⟩ := rep_out hR1; have HKs := Lib.hid hks; clear hks hR1 hS hS1 hb1; have hS := own_start w1) | (refine own_load_old rfl _ _ rfl rfl hS hrFk List.not_mem_nil rt_font ?_) | (refine own_load_old rfl _ _ rfl rfl hS hrSk List.not_mem_nil rt_style ?_) | (refine w_al rfl rfl hS ?_; clear hS; (try clear ww); intro bb ww hS) | (refine own_store rfl _ _ _ rfl rfl rfl hS at0 rt_box (by rfl) (by assumption) ?_; clear hS; (try clear ww); intro ww hS; (try simp only [List.set_cons_zero] at hS)) | (go_at_call 14; refine own_calls hS (HA.out _) ?_; clear hS; (try clear ww); intro ww hS) | (refine w_ld rfl _ rfl (by rfl) (by first | exact rd_1 (by repeat constructor) (by first | rfl | assumption) | exact rd_w (by repeat constructor) (by rfl) | exact rd_o (by assumption) (by rfl) (by first | exact nmn | assumption | simp) | exact rd_h (by assumption) (by rfl) (by first | exact nmn | assumption | simp) | exact rd_1o (by assumption) (by first | exact nmn | assumption | simp) | exact rd_1h (by assumption) (by first | rfl | assumption) (by first | exact nmn | assumption | simp)) hS ?_) | (refine own_box rfl _ _ rfl (by rfl) hS ?_; clear hS; (try clear ww); intro bb ww hS) | (refine w_al rfl rfl hS ?_; clear hS; (try clear ww); intro bb ww hS) | (refine w_st rfl _ _ rfl (by rfl) (by rfl) (by repeat constructor) (by rfl) (by rfl) (by first | rfl | assumption) hS ?_; clear hS; (try clear ww); intro ww hS) | (refine w_s1 rfl _ _ rfl (by rfl) (by repeat constructor) (by first | exact .c | exact .t rfl) (by rfl) (by repeat constructor) hS ?_; clear hS; (try clear ww); intro ww hS))
  obtain ⟨L0, HL0, hS0⟩ := hS.named
  clear hS
  have hS := hS0
  clear hS0
  go_loopw [10] (fun i wr => ∃ j : Nat, j ≤ KS.length ∧ i = .int .i64 j ∧ Own [] w1 L0 wr) (fun i _ => KS.length - (intOf i).toNat)
  case atStart => exact ⟨0, Nat.zero_le _, rfl, hS⟩
  case round =>
    clear hS
    obtain ⟨j, hj, rfl, hS⟩ := hrel
    obtain rfl := HL0.out
    clear HL0
    by_cases hlt : j < KS.length
    · obtain ⟨kid, hkid⟩ : ∃ kid, KS[j]? = some kid := ⟨KS[j], by simp [hlt]⟩
      obtain ⟨kb, ko, css, hkx, hrg, hrep⟩ := HKs.out j kid hkid
      obtain rfl : ax = some ⟨kb, ko, none⟩ := hkx
      obtain ⟨qx, qc, rx, rc, rfl, _⟩ := rep_out hrep
      have hb := HKK.out kid (List.mem_of_getElem? hkid)
      obtain ⟨s1, hs1⟩ : ∃ z, z = kid.1.y + kid.1.h := ⟨_, rfl⟩
      obtain ⟨s2, hs2⟩ : ∃ z, z = kid.1.d - kid.1.y := ⟨_, rfl⟩
      obtain ⟨s4, hs4⟩ : ∃ z, z = kid.1.x + kid.1.w := ⟨_, rfl⟩
      have j1 : IntKind.i64.wrap (kid.1.y + kid.1.h) = s1 := by rw [IntWalk.i64_in _ (by omega), hs1]
      have j2 : IntKind.i64.wrap (kid.1.d - kid.1.y) = s2 := by rw [IntWalk.i64_in _ (by omega), hs2]
      have j4 : IntKind.i64.wrap (kid.1.x + kid.1.w) = s4 := by rw [IntWalk.i64_in _ (by omega), hs4]
      have f1 : decide (H < s1) = false := decide_eq_false (by omega)
      have f2 : decide (D < s2) = false := decide_eq_false (by omega)
      have f3 : decide (kid.1.x < 0) = false := decide_eq_false (by omega)
      have f4 : decide (W < s4) = false := decide_eq_false (by omega)
      clear hs1 hs2 hs4 hb hkid hrep
      go_wp2_with (first | (refine own_unguard (by rfl) ?_) | (refine w_al rfl rfl hS ?_; clear hS; (try clear ww); intro bb ww hS) | (refine own_store rfl _ _ _ rfl rfl rfl hS at0 rt_box (by rfl) (by assumption) ?_; clear hS; (try clear ww); intro ww hS; (try simp only [List.set_cons_zero] at hS)) | (refine w_ld rfl _ rfl (by rfl) (by first | exact rd_1 (by repeat constructor) (by first | rfl | assumption) | exact rd_w (by repeat constructor) (by rfl) | exact rd_o (by assumption) (by rfl) (by first | exact nmn | assumption | simp) | exact rd_h (by assumption) (by rfl) (by first | exact nmn | assumption | simp) | exact rd_1o (by assumption) (by first | exact nmn | assumption | simp) | exact rd_1h (by assumption) (by first | rfl | assumption) (by first | exact nmn | assumption | simp)) hS ?_) | (refine own_box rfl _ _ rfl (by rfl) hS ?_; clear hS; (try clear ww); intro bb ww hS) | (refine w_al rfl rfl hS ?_; clear hS; (try clear ww); intro bb ww hS) | (refine w_st rfl _ _ rfl (by rfl) (by rfl) (by repeat constructor) (by rfl) (by rfl) (by first | rfl | assumption) hS ?_; clear hS; (try clear ww); intro ww hS) | (refine w_s1 rfl _ _ rfl (by rfl) (by repeat constructor) (by first | exact .c | exact .t rfl) (by rfl) (by repeat constructor) hS ?_; clear hS; (try clear ww); intro ww hS))
      go_roundw
      case rel => exact ⟨j + 1, hlt, by go_num, hS.forget (by simp)⟩
      case measure => exact loop_meas hlt
    · skip
      go_wp2_with (first | (refine own_unguard (by rfl) ?_) | (refine w_ld rfl _ rfl (by rfl) (by first | exact rd_1 (by repeat constructor) (by first | rfl | assumption) | exact rd_w (by repeat constructor) (by rfl) | exact rd_o (by assumption) (by rfl) (by first | exact nmn | assumption | simp) | exact rd_h (by assumption) (by rfl) (by first | exact nmn | assumption | simp) | exact rd_1o (by assumption) (by first | exact nmn | assumption | simp) | exact rd_1h (by assumption) (by first | rfl | assumption) (by first | exact nmn | assumption | simp)) hS ?_) | (refine own_box rfl _ _ rfl (by rfl) hS ?_; clear hS; (try clear ww); intro bb ww hS) | (refine w_al rfl rfl hS ?_; clear hS; (try clear ww); intro bb ww hS) | (refine w_st rfl _ _ rfl (by rfl) (by rfl) (by repeat constructor) (by rfl) (by rfl) (by first | rfl | assumption) hS ?_; clear hS; (try clear ww); intro ww hS) | (refine w_s1 rfl _ _ rfl (by rfl) (by repeat constructor) (by first | exact .c | exact .t rfl) (by rfl) (by repeat constructor) hS ?_; clear hS; (try clear ww); intro ww hS))
      go_ret
      exact ⟨rfl, bthen hBk.out hS.below⟩

theorem arrB_kids {F : Fnt} {l : Int} {n K : Nat} {kids : List (Bx (n + 1))} {k : Bx (n + 1)} (h : k ∈ kids.mapIdx (fun i k => atXY (n + 1) k (arrX F l n K kids i) (arrY F l n K kids i))) : ∃ i kid, kids[i]? = some kid ∧ k = atXY (n + 1) kid (arrX F l n K kids i) (arrY F l n K kids i) := by
  obtain ⟨i, hi⟩ := List.mem_iff_getElem?.1 h
  rw [List.getElem?_mapIdx] at hi
  cases hkid : kids[i]? with
  | none => rw [hkid] at hi; simp at hi
  | some kid => rw [hkid] at hi; exact ⟨i, kid, hkid, by simpa using hi.symm⟩
theorem arrayAxis_right (F : Fnt) (l : Int) (c : Bool) (C : Int) (n : Nat) (kids : List (Bx (n + 1))) (kx : Option Addr) (kc : Nat) (w : World) (hF : FntOk w F) (hk : RepL w (n + 1) kx kids) (hm : kids.length ≤ maxLen) (ht : RightOk F l n C kids) : Calls Try.prog 6 #[.agg (caseX F l c).toArray, .int .i64 C, .slice kx kids.length kc] w (Gives (.bool true) w) := by
  obtain ⟨K, rfl⟩ : ∃ K : Nat, C = (K : Int) := ⟨C.toNat, by have := ht.2.2.2.1; omega⟩
  have G := geo ht
  have hT := G.T
  have ht2 := G.tops
  have ha := G.ax
  have hp := prm_quad ht.2.1
  refine arrayAxis_main F l c K n kids kx kc w hF hk hm ht _ _ _ _ (fun w' hb => right_makes (hF.below hb) (hk.step hb) ht) (by simp) (par F l F.axis) (Lib.hid fun w' => ref37_Scaled_calls F l F.axis c w' ht.2.2.1 ht.2.1 hp.2) (fun k hk' => ?_) (by omega) (by omega)
  obtain ⟨i, kid, hi, rfl⟩ := arrB_kids hk'
  have hil : i < kids.length := (List.getElem?_eq_some_iff.1 hi).1
  have hx := G.x hil
  have hy := G.y hil
  have hc := cell_nums (ht.2.2.2.2.2.2.2.2 kid (List.mem_of_getElem? hi))
  rw [kW_at hi] at hx
  rw [kH_at hi, kD_at hi] at hy
  simp only [atXY]
  omega
theorem arrayAxis_calls (F : Fnt) (l : Int) (c : Bool) (C : Int) (n : Nat) (kids : List (Bx (n + 1))) (kx : Option Addr) (kc : Nat) (w : World) (hF : FntOk w F) (hk : RepL w (n + 1) kx kids) (hm : kids.length ≤ maxLen) : Calls Try.prog 6 #[.agg (caseX F l c).toArray, .int .i64 C, .slice kx kids.length kc] w (Gives (.bool true) w) := by
  by_cases ht : RightOk F l n C kids
  · exact arrayAxis_right F l c C n kids kx kc w hF hk hm ht
  · exact arrayAxis_wild F l c C n kids kx kc w hF hk hm ht

end Go.Proofs.Ytgnkngkogamjaaa
