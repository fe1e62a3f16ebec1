/- Texts Mky10, Mky11, Mkn00, Mkn01, Mkn10, Mkn11, Mkj, Awf. -/
import Derived.Test.YtgpabckipmhobaaK17
import Derived.LoopN
import Derived.Test.YtgpabckipmhobaaK20
namespace Go.Proofs.Ytgpabckipmhobaa
open Go.RowKit

attribute [local irreducible] wpQuiet wpG wpP wpK wpList Code.wp Calls

set_option maxHeartbeats 16000000 in
set_option maxRecDepth 100000 in
theorem scrMake_y10 (P : Nat → Prop) (F : Fnt) (l U V IT bw : Int) (c : Bool) (n _m : Nat) (base : Bx (n + 1)) (c0 c1 c2 c4 c5 c6 c7 c8 c9 c10 : Value) (E : E4) (w : World) (sc uc : Nat) (sb : Bx (n + 1)) (sk so : Nat) (ss : List Value) (ux : Option Addr) (hF : FntOk w F) (hl : lvlOk l = true) (hv : ValidF F) (hP : ∀ k, P k → k < w.heap.size) (hrP : RepP P w (n + 1) base [c0, c1, c2, .int .i64 bw, c4, c5, c6, c7, c8, c9, c10]) (hb : validB (n + 1) base) (hs : w.rangeAt sk so ss) (hsP : RepP P w (n + 1) sb ss) (hsv : validB (n + 1) sb) (hSh : ∀ w', Below w.heap.size w w' → Calls Try.prog 46 #[F.val, .agg #[.int .i64 l, .bool c], .int .i64 (sizeOf' F l), .agg #[c0, c1, c2, .int .i64 bw, c4, c5, c6, c7, c8, c9, c10], .slice (some ⟨sk, so, none⟩) 1 sc, .slice ux 0 uc] w' (Gives (.tuple #[.int .i64 U, .int .i64 V]) w')) (hIt : ∀ w', Below w.heap.size w w' → Calls Try.prog 19 #[F.val, .agg #[c0, c1, c2, .int .i64 bw, c4, c5, c6, c7, c8, c9, c10]] w' (Gives (.int .i64 IT) w')) (hE : E = extL (([atXY (n + 1) base 0 0, atXY (n + 1) sb (bw - IT) (-V)] : List (Bx (n + 1))).map (·.1))) (hM : ∀ k ∈ ([atXY (n + 1) base 0 0, atXY (n + 1) sb (bw - IT) (-V)] : List (Bx (n + 1))), Mild k.1) (iE : I64 E.r ∧ I64 E.h ∧ I64 E.d) (hvR : validB (n + 2) (listB (n + 1) E.r E.h E.d [atXY (n + 1) base 0 0, atXY (n + 1) sb (bw - IT) (-V)])) (bW : -1073741824 ≤ bw ∧ bw ≤ 1073741824) (bI : 0 ≤ IT ∧ IT ≤ 200000) (bV : -4294967296 ≤ V ∧ V ≤ 4294967296) :
    Calls Try.prog 23 #[F.val, .agg #[.int .i64 l, .bool c], .agg #[c0, c1, c2, .int .i64 bw, c4, c5, c6, c7, c8, c9, c10], .slice (some ⟨sk, so, none⟩) 1 sc, .slice ux 0 uc] w (GivesBEP P (n + 2) (listB (n + 1) E.r E.h E.d [atXY (n + 1) base 0 0, atXY (n + 1) sb (bw - IT) (-V)]) 0 w) := by
  have HPc := Lib.hid (fun w' (h : Below w.heap.size w w') => style_Percent_calls F l (sizeOf' F l) 0 c w' (hF.below h) ⟨fun _ => ⟨rfl, rfl⟩, fun h => by
    rcases h with h | h
    · rw [hl] at h; cases h
    · exact absurd hv h⟩)
  have HVb := Lib.hid (fun w' (h : Below w.heap.size w w') => box_Valid_calls (n + 1) base _ w' (hrP.rep.step h) hrP.rep.wide _ (iff_t hb))
  have HSh := Lib.hid hSh
  have HrP := Lib.hid hrP
  have HE := Lib.hid hE
  have HM := Lib.hid hM
  have HvR := Lib.hid hvR
  have HsB := Lib.hid (validB_small hb)
  have HVs := Lib.hid (fun w' (h : Below w.heap.size w w') => script_valid_1 (n + 1) sb ss sk so sc w' (rangeAt_below hs h) (hsP.rep.step h) true (iff_t hsv))
  have HIt := Lib.hid hIt
  have HsP := Lib.hid hsP
  have Hs := Lib.hid hs
  have HsS := Lib.hid (validB_small hsv)
  have lsk := range_lt0 hs hsP.len
  have halls := rep_all hsP
  have HSm := Lib.hid (show ∀ k ∈ ([atXY (n + 1) base 0 0, atXY (n + 1) sb (bw - IT) (-V)] : List (Bx (n + 1))), Small (n + 1) k ∧ bCount (n + 1) k ≤ 1000000 from fun k hk => by
    simp only [List.mem_cons, List.not_mem_nil, or_false] at hk
    rcases hk with rfl | rfl
    · exact ⟨small_at HsB.out.1, Nat.le_trans (Nat.le_of_eq count_at) (Nat.le_trans HsB.out.2 (by omega))⟩
    · exact ⟨small_at HsS.out.1, Nat.le_trans (Nat.le_of_eq count_at) (Nat.le_trans HsS.out.2 (by omega))⟩
)
  have iX : IntKind.i64.wrap (bw - IT) = bw - IT := IntWalk.i64_in _ (by omega)
  have iY : IntKind.i64.wrap (-V) = -V := IntWalk.i64_in _ (by omega)
  have jX : I64 (bw - IT) := by unfold I64; omega
  have jY : I64 (-V) := by unfold I64; omega
  obtain ⟨s0, s1, s2, s3, s4, s5, s6, s7, s8, s9, s10, rfl⟩ := eleven hsP.len
  clear hSh hrP hE hM hvR hb hl hv hF bW hs hsP hsv hIt bI bV
  go_enter Try.func23, Try.ntmps23
  have hS := own_start w
  go_upto_region 1 with (first | (refine own_unguard (by rfl) ?_) | (refine w_ld rfl _ rfl (by rfl) (by first | exact rd_1 (by repeat constructor) (by first | rfl | assumption) | exact rd_w (by repeat constructor) (by rfl) | exact rd_o (by assumption) (by rfl) (by first | exact nmn | assumption | simp) | exact rd_h (by assumption) (by rfl) (by first | exact nmn | assumption | simp) | exact rd_1o (by assumption) (by first | exact nmn | assumption | simp) | exact rd_1h (by assumption) (by first | rfl | assumption) (by first | exact nmn | assumption | simp)) hS ?_) | (refine own_box rfl _ _ rfl (by rfl) hS ?_; clear hS; (try clear ww); intro bb ww hS) | (refine w_al rfl rfl hS ?_; clear hS; (try clear ww); intro bb ww hS) | (refine w_st rfl _ _ rfl (by rfl) (by rfl) (by repeat constructor) (by rfl) (by rfl) (by first | rfl | assumption) hS ?_; clear hS; (try clear ww); intro ww hS) | (refine w_s1 rfl _ _ rfl (by rfl) (by repeat constructor) (by first | exact .c | exact .t rfl) (by rfl) (by repeat constructor) hS ?_; clear hS; (try clear ww); intro ww hS))
  have HC0 := Lib.hid hS
  obtain ⟨D0, hD0, hs0, hS1⟩ := safe_start (R := P) hS hP
  have HS0 := Lib.hid hs0
  clear hS hs0
  have hS := hS1
  clear hS1
  go_wp2_with (first | (refine own_unguard (by rfl) ?_) | (go_at_call 44; refine own_calls hS (by first | exact HPc.out _ (chainH HC0.out hD0 hS).below) ?_; clear hS; (try clear ww); intro ww hS) | (go_at_call 39; refine own_calls hS (by first | exact HVb.out _ (chainH HC0.out hD0 hS).below) ?_; clear hS; (try clear ww); intro ww hS) | (go_at_call 45; refine own_calls hS (by first | exact HVs.out _ (chainH HC0.out hD0 hS).below | exact script_valid_0 _ _ _) ?_; clear hS; (try clear ww); intro ww hS) | (go_at_call 46; refine own_calls hS (by first | exact HSh.out _ (chainH HC0.out hD0 hS).below) ?_; clear hS; (try clear ww); intro ww hS) | (refine w_ld rfl _ rfl (by rfl) (by first | exact rd_1 (by repeat constructor) (by first | rfl | assumption) | exact rd_w (by repeat constructor) (by rfl) | exact rd_o (by assumption) (by rfl) (by first | exact nmn | assumption | simp) | exact rd_h (by assumption) (by rfl) (by first | exact nmn | assumption | simp) | exact rd_1o (by assumption) (by first | exact nmn | assumption | simp) | exact rd_1h (by assumption) (by first | rfl | assumption) (by first | exact nmn | assumption | simp)) hS ?_) | (refine own_box rfl _ _ rfl (by rfl) hS ?_; clear hS; (try clear ww); intro bb ww hS) | (refine w_al rfl rfl hS ?_; clear hS; (try clear ww); intro bb ww hS) | (refine w_st rfl _ _ rfl (by rfl) (by rfl) (by repeat constructor) (by rfl) (by rfl) (by first | rfl | assumption) hS ?_; clear hS; (try clear ww); intro ww hS) | (refine w_s1 rfl _ _ rfl (by rfl) (by repeat constructor) (by first | exact .c | exact .t rfl) (by rfl) (by repeat constructor) hS ?_; clear hS; (try clear ww); intro ww hS))
  go_at_call 47
  refine Calls.mono (box_At_I P n base _ 0 0 _ (repP_step HrP.out (chainH HC0.out hD0 hS).below) i64_0 i64_0 HsB.out.1.1) ?_
  rintro e w3 ⟨cs3, rfl, hr3, hb3⟩
  obtain ⟨P1, D1, hD1, hPP1, hs1, q1, hS1, hC1⟩ := own_give HS0.out hS hr3 hb3 (bself _)
  have HC1 := Lib.hid (chainH HC0.out hD0 hC1)
  have HS1 := Lib.hid hs1
  have Q1 := Lib.hid q1
  obtain ⟨e0, e1, e2, e3, e4, e5, e6, e7, e8, e9, e10, rfl⟩ := eleven q1.len
  clear hS hs1 hr3 hb3 hC1 q1
  (try clear ww)
  have hS := hS1
  clear hS1
  go_wp2_with (first | (refine own_unguard (by rfl) ?_) | (refine own_buildSlice rfl _ _ 1 _ rfl [e0, e1, e2, e3, e4, e5, e6, e7, e8, e9, e10] hS Try.underlying30 (by kernel_rfl) ?_; clear hS; (try clear ww); intro bs ww hS) | (refine w_ld rfl _ rfl (by rfl) (by first | exact rd_1 (by repeat constructor) (by first | rfl | assumption) | exact rd_w (by repeat constructor) (by rfl) | exact rd_o (by assumption) (by rfl) (by first | exact nmn | assumption | simp) | exact rd_h (by assumption) (by rfl) (by first | exact nmn | assumption | simp) | exact rd_1o (by assumption) (by first | exact nmn | assumption | simp) | exact rd_1h (by assumption) (by first | rfl | assumption) (by first | exact nmn | assumption | simp)) hS ?_) | (refine own_box rfl _ _ rfl (by rfl) hS ?_; clear hS; (try clear ww); intro bb ww hS) | (refine w_al rfl rfl hS ?_; clear hS; (try clear ww); intro bb ww hS) | (refine w_st rfl _ _ rfl (by rfl) (by rfl) (by repeat constructor) (by rfl) (by rfl) (by first | rfl | assumption) hS ?_; clear hS; (try clear ww); intro ww hS) | (refine w_s1 rfl _ _ rfl (by rfl) (by repeat constructor) (by first | exact .c | exact .t rfl) (by rfl) (by repeat constructor) hS ?_; clear hS; (try clear ww); intro ww hS))
  refine wp_loop_rounds 2 ?_
  rw [rounds_succ]
  have g2 := rangeAt_below Hs.out HC1.out.below
  have n2 := HS1.out.old _ lsk
  go_upto_region 9 with (first | (refine own_unguard (by rfl) ?_) | (refine w_ld rfl _ rfl (by rfl) (by first | exact rd_1 (by repeat constructor) (by first | rfl | assumption) | exact rd_w (by repeat constructor) (by rfl) | exact rd_o (by assumption) (by rfl) (by first | exact nmn | assumption | simp) | exact rd_h (by assumption) (by rfl) (by first | exact nmn | assumption | simp) | exact rd_1o (by assumption) (by first | exact nmn | assumption | simp) | exact rd_1h (by assumption) (by first | rfl | assumption) (by first | exact nmn | assumption | simp)) hS ?_) | (refine own_box rfl _ _ rfl (by rfl) hS ?_; clear hS; (try clear ww); intro bb ww hS) | (refine w_al rfl rfl hS ?_; clear hS; (try clear ww); intro bb ww hS) | (refine w_st rfl _ _ rfl (by rfl) (by rfl) (by repeat constructor) (by rfl) (by rfl) (by first | rfl | assumption) hS ?_; clear hS; (try clear ww); intro ww hS) | (refine w_s1 rfl _ _ rfl (by rfl) (by repeat constructor) (by first | exact .c | exact .t rfl) (by rfl) (by repeat constructor) hS ?_; clear hS; (try clear ww); intro ww hS))
  (try simp only [Act.put]); (try simp only [List.setIfInBounds_toArray]); (try simp only [List.set_cons_succ]); (try simp only [List.set_cons_zero])
  refine own_any hS [12] 14 (by kernel_rfl) (by kernel_rfl) ?_
  clear hS
  intro hcl ww hS
  refine own_batch hS [0, 1, 2, 3, 4, 5, 6, 7, 8, 9] 4 rfl hcl (by kernel_rfl) ?_
  (try simp only); repeat (first | (simp only [List.filterMap_cons]) | (simp only [List.filterMap_nil]) | (simp only [List.getElem?_toArray]) | (simp only [List.getElem?_cons_succ]) | (simp only [List.getElem?_cons_zero]) | (simp only [List.reverse_cons]) | (simp only [List.reverse_nil]) | (simp only [List.nil_append]) | (simp only [List.cons_append]))
  repeat (first
      | (first | (refine g_plain rfl ?_) | (refine g_yes rfl rfl rfl (by simp only [List.getElem?_toArray, List.getElem?_cons_succ, List.getElem?_cons_zero]; rfl) (by with_reducible constructor) ?_)
         apply Exists.intro; refine ⟨?_, ?_⟩
         focus (intro wq hq0; (first | have hq : Own _ _ _ wq := hq0 | have hq : Own _ _ _ wq := hq0.1 | skip); first | ((with_reducible show givesAt _ ({ dst := _, op := Op.load _ _, type := _, pos := _, after := _, guard := _ } : Oper) _ _ _); first | (exact givesAt_rd rfl (by rfl) (by first | exact rd_1 (by repeat constructor) (by first | rfl | assumption) | exact rd_w (by repeat constructor) (by rfl) | exact rd_o (by assumption) (by rfl) (by first | exact nmn | assumption | simp) | exact rd_h (by assumption) (by rfl) (by first | exact nmn | assumption | simp) | exact rd_1o (by assumption) (by first | exact nmn | assumption | simp) | exact rd_1h (by assumption) (by first | rfl | assumption) (by first | exact nmn | assumption | simp)) hq)) | (go_simp; first | (go_at_call 19; exact HIt.out _ (chainH HC1.out hD1 hq).below) | (with_reducible rfl)))
         simp only [Act.put, List.setIfInBounds_toArray]; (try simp only [List.set_cons_succ]); (try simp only [List.set_cons_zero]))
      | (refine g_no rfl rfl rfl (by simp only [List.getElem?_toArray, List.getElem?_cons_succ, List.getElem?_cons_zero]; rfl) (by with_reducible constructor) ?_; simp only [Act.put, List.setIfInBounds_toArray]; (try simp only [List.set_cons_succ]); (try simp only [List.set_cons_zero])))
  refine g_nil ?_
  clear hS hcl
  intro hcl ww hS
  (try simp only [Act.put]); (try simp only [List.setIfInBounds_toArray]); (try simp only [List.set_cons_succ]); (try simp only [List.set_cons_zero])
  (try simp only [iX, iY])
  refine own_softB hS 10 hcl (by simp only [List.getElem?_toArray, List.getElem?_cons_succ, List.getElem?_cons_zero]; rfl) (by kernel_rfl) ?_
  have hO := hS
  clear hS
  intro hS
  go_wp2_with (first | (go_at_call 47; refine Calls.mono (box_At_I P1 n sb _ (bw - IT) (-V) _ (repP_mono (repP_step HsP.out (chainH HC1.out hD1 hO).below) hPP1) jX jY HsS.out.1.1) ?_; rintro e w4 ⟨cs4, rfl, hr4, hb4⟩))
  refine ⟨[], hS.step hb4, ?_⟩
  clear hS
  intro hcl w20 hS hb5
  obtain ⟨P2, D2, hD2, hPP2, hs2, q2, hS2, hC2⟩ := own_give HS1.out hO hr4 hb4 hb5
  have HC2 := Lib.hid (chainH HC1.out hD1 hC2)
  have HS2 := Lib.hid hs2
  have Q2 := Lib.hid q2
  have Q12 := Lib.hid (repP_mono (HS1.out.turn Q1.out hC2) hPP2)
  have hall2 := rep_all q2
  obtain ⟨f0, f1, f2, f3, f4, f5, f6, f7, f8, f9, f10, rfl⟩ := eleven q2.len
  clear hS hs2 hr4 hb4 hb5 hC2 q2 hO
  have hS := hS2
  clear hS2
  (try simp only [Act.put]); (try simp only [List.setIfInBounds_toArray]); (try simp only [List.set_cons_succ]); (try simp only [List.set_cons_zero])
  refine own_soft hS 11 hcl (by simp only [List.getElem?_toArray, List.getElem?_cons_succ, List.getElem?_cons_zero]; rfl) (by kernel_rfl) ?_
  have hO := hS
  clear hS
  intro hS
  refine own_buildSlice rfl _ _ 1 _ rfl [f0, f1, f2, f3, f4, f5, f6, f7, f8, f9, f10] hS Try.underlying30 (by kernel_rfl) ?_
  clear hS
  intro bn w6 hS
  refine wpList_nil ⟨rfl, _, hS, ?_⟩
  clear hS hO hcl
  intro hcl w7 hS
  simp only [List.cons_append, List.nil_append] at hS
  (try simp only [Act.put]); (try simp only [List.setIfInBounds_toArray]); (try simp only [List.set_cons_succ]); (try simp only [List.set_cons_zero])
  refine own_hard (D := D2) (W := w20) 12 hcl (by simp only [List.getElem?_toArray, List.getElem?_cons_succ, List.getElem?_cons_zero]; rfl) (by kernel_rfl) (by kernel_rfl) ?_
  refine own_append_new (n := 1) (xs := [e0, e1, e2, e3, e4, e5, e6, e7, e8, e9, e10]) (X := [(bs, [e0, e1, e2, e3, e4, e5, e6, e7, e8, e9, e10])]) (L := [_, _, _, _, _]) rfl _ _ _ rfl ⟨rfl, .inr ⟨bs, 1, [], rfl, Nat.le_refl _, by simp [maxLen], rfl, rfl⟩⟩ rfl rfl (hS.perm (perm_row _ _ _ _)) rfl hall2 el_box (by decide) (by simp only [maxLen]; omega) (by omega) ?_
  clear hS
  intro v1 X1 w8 hS hX1
  obtain ⟨y1, k1, rfl⟩ := hX1.slice
  refine wpList_nil ⟨rfl, _, hS, ?_⟩
  clear hS hcl
  intro hcl w9 hS
  simp only [List.cons_append, List.nil_append] at hS
  (try simp only [Act.put]); (try simp only [List.setIfInBounds_toArray]); (try simp only [List.set_cons_succ]); (try simp only [List.set_cons_zero])
  refine own_batch hS [13] 0 rfl hcl (by kernel_rfl) ?_
  (try simp only); repeat (first | (simp only [List.filterMap_cons]) | (simp only [List.filterMap_nil]) | (simp only [List.getElem?_toArray]) | (simp only [List.getElem?_cons_succ]) | (simp only [List.getElem?_cons_zero]) | (simp only [List.reverse_cons]) | (simp only [List.reverse_nil]) | (simp only [List.nil_append]) | (simp only [List.cons_append]))
  repeat (first
      | (first | (refine g_plain rfl ?_) | (refine g_yes rfl rfl rfl (by simp only [List.getElem?_toArray, List.getElem?_cons_succ, List.getElem?_cons_zero]; rfl) (by with_reducible constructor) ?_)
         apply Exists.intro; refine ⟨?_, ?_⟩
         focus (intro wq hq0; (first | have hq : Own _ _ _ wq := hq0 | have hq : Own _ _ _ wq := hq0.1 | skip); first | ((with_reducible show givesAt _ ({ dst := _, op := Op.load _ _, type := _, pos := _, after := _, guard := _ } : Oper) _ _ _); first | (exact givesAt_rd rfl (by rfl) (by first | exact rd_1 (by repeat constructor) (by first | rfl | assumption) | exact rd_w (by repeat constructor) (by rfl) | exact rd_o (by assumption) (by rfl) (by first | exact nmn | assumption | simp) | exact rd_h (by assumption) (by rfl) (by first | exact nmn | assumption | simp) | exact rd_1o (by assumption) (by first | exact nmn | assumption | simp) | exact rd_1h (by assumption) (by first | rfl | assumption) (by first | exact nmn | assumption | simp)) hq)) | (go_simp; first | (with_reducible rfl)))
         simp only [Act.put, List.setIfInBounds_toArray]; (try simp only [List.set_cons_succ]); (try simp only [List.set_cons_zero]))
      | (refine g_no rfl rfl rfl (by simp only [List.getElem?_toArray, List.getElem?_cons_succ, List.getElem?_cons_zero]; rfl) (by with_reducible constructor) ?_; simp only [Act.put, List.setIfInBounds_toArray]; (try simp only [List.set_cons_succ]); (try simp only [List.set_cons_zero])))
  refine g_nil ?_
  clear hS hcl
  intro hcl ww hS
  refine own_done (by kernel_rfl) ?_
  (try simp only [Act.put]); (try simp only [List.setIfInBounds_toArray]); (try simp only [List.set_cons_succ]); (try simp only [List.set_cons_zero])
  go_wp2_with (first | (refine own_unguard (by rfl) ?_) | (refine w_ld rfl _ rfl (by rfl) (by first | exact rd_1 (by repeat constructor) (by first | rfl | assumption) | exact rd_w (by repeat constructor) (by rfl) | exact rd_o (by assumption) (by rfl) (by first | exact nmn | assumption | simp) | exact rd_h (by assumption) (by rfl) (by first | exact nmn | assumption | simp) | exact rd_1o (by assumption) (by first | exact nmn | assumption | simp) | exact rd_1h (by assumption) (by first | rfl | assumption) (by first | exact nmn | assumption | simp)) hS ?_) | (refine own_box rfl _ _ rfl (by rfl) hS ?_; clear hS; (try clear ww); intro bb ww hS) | (refine w_al rfl rfl hS ?_; clear hS; (try clear ww); intro bb ww hS) | (refine w_st rfl _ _ rfl (by rfl) (by rfl) (by repeat constructor) (by rfl) (by rfl) (by first | rfl | assumption) hS ?_; clear hS; (try clear ww); intro ww hS) | (refine w_s1 rfl _ _ rfl (by rfl) (by repeat constructor) (by first | exact .c | exact .t rfl) (by rfl) (by repeat constructor) hS ?_; clear hS; (try clear ww); intro ww hS))
  rw [rounds_succ]
  go_wp2_with (first | (refine own_unguard (by rfl) ?_) | (refine w_ld rfl _ rfl (by rfl) (by first | exact rd_1 (by repeat constructor) (by first | rfl | assumption) | exact rd_w (by repeat constructor) (by rfl) | exact rd_o (by assumption) (by rfl) (by first | exact nmn | assumption | simp) | exact rd_h (by assumption) (by rfl) (by first | exact nmn | assumption | simp) | exact rd_1o (by assumption) (by first | exact nmn | assumption | simp) | exact rd_1h (by assumption) (by first | rfl | assumption) (by first | exact nmn | assumption | simp)) hS ?_) | (refine own_box rfl _ _ rfl (by rfl) hS ?_; clear hS; (try clear ww); intro bb ww hS) | (refine w_al rfl rfl hS ?_; clear hS; (try clear ww); intro bb ww hS) | (refine w_st rfl _ _ rfl (by rfl) (by rfl) (by repeat constructor) (by rfl) (by rfl) (by first | rfl | assumption) hS ?_; clear hS; (try clear ww); intro ww hS) | (refine w_s1 rfl _ _ rfl (by rfl) (by repeat constructor) (by first | exact .c | exact .t rfl) (by rfl) (by repeat constructor) hS ?_; clear hS; (try clear ww); intro ww hS))
  refine wp_loop_rounds 1 ?_
  rw [rounds_succ]
  go_wp2_with (first | (refine own_unguard (by rfl) ?_) | (refine w_ld rfl _ rfl (by rfl) (by first | exact rd_1 (by repeat constructor) (by first | rfl | assumption) | exact rd_w (by repeat constructor) (by rfl) | exact rd_o (by assumption) (by rfl) (by first | exact nmn | assumption | simp) | exact rd_h (by assumption) (by rfl) (by first | exact nmn | assumption | simp) | exact rd_1o (by assumption) (by first | exact nmn | assumption | simp) | exact rd_1h (by assumption) (by first | rfl | assumption) (by first | exact nmn | assumption | simp)) hS ?_) | (refine own_box rfl _ _ rfl (by rfl) hS ?_; clear hS; (try clear ww); intro bb ww hS) | (refine w_al rfl rfl hS ?_; clear hS; (try clear ww); intro bb ww hS) | (refine w_st rfl _ _ rfl (by rfl) (by rfl) (by repeat constructor) (by rfl) (by rfl) (by first | rfl | assumption) hS ?_; clear hS; (try clear ww); intro ww hS) | (refine w_s1 rfl _ _ rfl (by rfl) (by repeat constructor) (by first | exact .c | exact .t rfl) (by rfl) (by repeat constructor) hS ?_; clear hS; (try clear ww); intro ww hS))
  have hrow : RepLP P2 _ (n + 1) y1 [atXY (n + 1) base 0 0, atXY (n + 1) sb (bw - IT) (-V)] := sl_kids hS (fun x hx => by simp [hx]) hX1 rfl ⟨_, _, rfl, HS2.out.turn Q12.out hS, ⟨_, [], by simp, HS2.out.turn Q2.out hS, rfl⟩⟩
  go_at_call 48
  refine own_calls hS (ext_E HE.out _ k1 _ (repLP_L hrow) HM.out (by simp)) ?_
  clear hS hrow
  (try clear ww)
  intro ww hS
  go_wp2_with (first | (refine own_unguard (by rfl) ?_) | (refine w_ld rfl _ rfl (by rfl) (by first | exact rd_1 (by repeat constructor) (by first | rfl | assumption) | exact rd_w (by repeat constructor) (by rfl) | exact rd_o (by assumption) (by rfl) (by first | exact nmn | assumption | simp) | exact rd_h (by assumption) (by rfl) (by first | exact nmn | assumption | simp) | exact rd_1o (by assumption) (by first | exact nmn | assumption | simp) | exact rd_1h (by assumption) (by first | rfl | assumption) (by first | exact nmn | assumption | simp)) hS ?_) | (refine own_box rfl _ _ rfl (by rfl) hS ?_; clear hS; (try clear ww); intro bb ww hS) | (refine w_al rfl rfl hS ?_; clear hS; (try clear ww); intro bb ww hS) | (refine w_st rfl _ _ rfl (by rfl) (by rfl) (by repeat constructor) (by rfl) (by rfl) (by first | rfl | assumption) hS ?_; clear hS; (try clear ww); intro ww hS) | (refine w_s1 rfl _ _ rfl (by rfl) (by repeat constructor) (by first | exact .c | exact .t rfl) (by rfl) (by repeat constructor) hS ?_; clear hS; (try clear ww); intro ww hS))
  have hrow : RepLP P2 _ (n + 1) y1 [atXY (n + 1) base 0 0, atXY (n + 1) sb (bw - IT) (-V)] := sl_kids hS (fun x hx => by simp [hx]) hX1 rfl ⟨_, _, rfl, HS2.out.turn Q12.out hS, ⟨_, [], by simp, HS2.out.turn Q2.out hS, rfl⟩⟩
  go_at_call 49
  refine Calls.mono (box_List_I P2 (n + 1) [atXY (n + 1) base 0 0, atXY (n + 1) sb (bw - IT) (-V)] _ k1 E.r E.h E.d _ hrow HSm.out (by simp) iE.1 iE.2.1 iE.2.2) ?_
  rintro e wA ⟨csA, rfl, hrA, hbA⟩
  obtain ⟨PA, DA, hDA, hPPA, hsA, qA, hS2, hC2⟩ := own_give HS2.out hS hrA hbA (bself _)
  have HCA := Lib.hid (chainH HC2.out hD2 hC2)
  have HSA := Lib.hid hsA
  have QA := Lib.hid qA
  have hallA := rep_all qA
  obtain ⟨g0, g1, g2, g3, g4, g5, g6, g7, g8, g9, g10, rfl⟩ := eleven qA.len
  clear hS hrA hbA hsA qA hC2 hrow
  (try clear ww)
  have hS := hS2
  clear hS2
  have HVR := Lib.hid (fun (ww : World) (L' : List (Nat × List Value)) (h : Own DA wA L' ww) => box_Valid_calls (n + 2) _ _ ww (HSA.out.turn QA.out h).rep (HSA.out.turn QA.out h).rep.wide _ (iff_t HvR.out))
  go_wp2_with (first | (refine own_unguard (by rfl) ?_) | (go_at_call 39; refine own_calls hS (HVR.out _ _ hS) ?_; clear hS; (try clear ww); intro ww hS) | (refine w_ld rfl _ rfl (by rfl) (by first | exact rd_1 (by repeat constructor) (by first | rfl | assumption) | exact rd_w (by repeat constructor) (by rfl) | exact rd_o (by assumption) (by rfl) (by first | exact nmn | assumption | simp) | exact rd_h (by assumption) (by rfl) (by first | exact nmn | assumption | simp) | exact rd_1o (by assumption) (by first | exact nmn | assumption | simp) | exact rd_1h (by assumption) (by first | rfl | assumption) (by first | exact nmn | assumption | simp)) hS ?_) | (refine own_box rfl _ _ rfl (by rfl) hS ?_; clear hS; (try clear ww); intro bb ww hS) | (refine w_al rfl rfl hS ?_; clear hS; (try clear ww); intro bb ww hS) | (refine w_st rfl _ _ rfl (by rfl) (by rfl) (by repeat constructor) (by rfl) (by rfl) (by first | rfl | assumption) hS ?_; clear hS; (try clear ww); intro ww hS) | (refine w_s1 rfl _ _ rfl (by rfl) (by repeat constructor) (by first | exact .c | exact .t rfl) (by rfl) (by repeat constructor) hS ?_; clear hS; (try clear ww); intro ww hS))
  have hc := (hS.get at2).cell
  refine bodyPost_ret (v := .tuple #[.agg #[g0, g1, g2, g3, g4, g5, g6, g7, g8, g9, g10], .int .i64 0]) (by simp [results, Try.results23, go_sem, hc]) rfl ⟨_, rfl, HSA.out.ends QA.out hS, (chainH HCA.out hDA hS).below⟩

end Go.Proofs.Ytgpabckipmhobaa
namespace Go.Proofs.Ytgpabckipmhobaa
open Go.RowKit

attribute [local irreducible] wpQuiet wpG wpP wpK wpList Code.wp Calls

set_option maxHeartbeats 16000000 in
set_option maxRecDepth 100000 in
theorem scrMake_y11 (P : Nat → Prop) (F : Fnt) (l U V IT bw : Int) (c : Bool) (n _m : Nat) (base : Bx (n + 1)) (c0 c1 c2 c4 c5 c6 c7 c8 c9 c10 : Value) (E : E4) (w : World) (sc uc : Nat) (sb : Bx (n + 1)) (sk so : Nat) (ss : List Value) (sp : Bx (n + 1)) (uk uo : Nat) (us : List Value) (hF : FntOk w F) (hl : lvlOk l = true) (hv : ValidF F) (hP : ∀ k, P k → k < w.heap.size) (hrP : RepP P w (n + 1) base [c0, c1, c2, .int .i64 bw, c4, c5, c6, c7, c8, c9, c10]) (hb : validB (n + 1) base) (hs : w.rangeAt sk so ss) (hsP : RepP P w (n + 1) sb ss) (hsv : validB (n + 1) sb) (hu : w.rangeAt uk uo us) (huP : RepP P w (n + 1) sp us) (huv : validB (n + 1) sp) (hSh : ∀ w', Below w.heap.size w w' → Calls Try.prog 46 #[F.val, .agg #[.int .i64 l, .bool c], .int .i64 (sizeOf' F l), .agg #[c0, c1, c2, .int .i64 bw, c4, c5, c6, c7, c8, c9, c10], .slice (some ⟨sk, so, none⟩) 1 sc, .slice (some ⟨uk, uo, none⟩) 1 uc] w' (Gives (.tuple #[.int .i64 U, .int .i64 V]) w')) (hIt : ∀ w', Below w.heap.size w w' → Calls Try.prog 19 #[F.val, .agg #[c0, c1, c2, .int .i64 bw, c4, c5, c6, c7, c8, c9, c10]] w' (Gives (.int .i64 IT) w')) (hE : E = extL (([atXY (n + 1) base 0 0, atXY (n + 1) sb (bw - IT) (-V), atXY (n + 1) sp bw U] : List (Bx (n + 1))).map (·.1))) (hM : ∀ k ∈ ([atXY (n + 1) base 0 0, atXY (n + 1) sb (bw - IT) (-V), atXY (n + 1) sp bw U] : List (Bx (n + 1))), Mild k.1) (iE : I64 E.r ∧ I64 E.h ∧ I64 E.d) (hvR : validB (n + 2) (listB (n + 1) E.r E.h E.d [atXY (n + 1) base 0 0, atXY (n + 1) sb (bw - IT) (-V), atXY (n + 1) sp bw U])) (bW : -1073741824 ≤ bw ∧ bw ≤ 1073741824) (bI : 0 ≤ IT ∧ IT ≤ 200000) (bV : -4294967296 ≤ V ∧ V ≤ 4294967296) (bU : -4294967296 ≤ U ∧ U ≤ 4294967296) :
    Calls Try.prog 23 #[F.val, .agg #[.int .i64 l, .bool c], .agg #[c0, c1, c2, .int .i64 bw, c4, c5, c6, c7, c8, c9, c10], .slice (some ⟨sk, so, none⟩) 1 sc, .slice (some ⟨uk, uo, none⟩) 1 uc] w (GivesBEP P (n + 2) (listB (n + 1) E.r E.h E.d [atXY (n + 1) base 0 0, atXY (n + 1) sb (bw - IT) (-V), atXY (n + 1) sp bw U]) 0 w) := by
  have HPc := Lib.hid (fun w' (h : Below w.heap.size w w') => style_Percent_calls F l (sizeOf' F l) 0 c w' (hF.below h) ⟨fun _ => ⟨rfl, rfl⟩, fun h => by
    rcases h with h | h
    · rw [hl] at h; cases h
    · exact absurd hv h⟩)
  have HVb := Lib.hid (fun w' (h : Below w.heap.size w w') => box_Valid_calls (n + 1) base _ w' (hrP.rep.step h) hrP.rep.wide _ (iff_t hb))
  have HSh := Lib.hid hSh
  have HrP := Lib.hid hrP
  have HE := Lib.hid hE
  have HM := Lib.hid hM
  have HvR := Lib.hid hvR
  have HsB := Lib.hid (validB_small hb)
  have HVs := Lib.hid (fun w' (h : Below w.heap.size w w') => script_valid_1 (n + 1) sb ss sk so sc w' (rangeAt_below hs h) (hsP.rep.step h) true (iff_t hsv))
  have HIt := Lib.hid hIt
  have HsP := Lib.hid hsP
  have Hs := Lib.hid hs
  have HsS := Lib.hid (validB_small hsv)
  have lsk := range_lt0 hs hsP.len
  have halls := rep_all hsP
  have HVu := Lib.hid (fun w' (h : Below w.heap.size w w') => script_valid_1 (n + 1) sp us uk uo uc w' (rangeAt_below hu h) (huP.rep.step h) true (iff_t huv))
  have HuP := Lib.hid huP
  have Hu := Lib.hid hu
  have HsU := Lib.hid (validB_small huv)
  have luk := range_lt0 hu huP.len
  have hallu := rep_all huP
  have HSm := Lib.hid (show ∀ k ∈ ([atXY (n + 1) base 0 0, atXY (n + 1) sb (bw - IT) (-V), atXY (n + 1) sp bw U] : List (Bx (n + 1))), Small (n + 1) k ∧ bCount (n + 1) k ≤ 1000000 from fun k hk => by
    simp only [List.mem_cons, List.not_mem_nil, or_false] at hk
    rcases hk with rfl | rfl | rfl
    · exact ⟨small_at HsB.out.1, Nat.le_trans (Nat.le_of_eq count_at) (Nat.le_trans HsB.out.2 (by omega))⟩
    · exact ⟨small_at HsS.out.1, Nat.le_trans (Nat.le_of_eq count_at) (Nat.le_trans HsS.out.2 (by omega))⟩
    · exact ⟨small_at HsU.out.1, Nat.le_trans (Nat.le_of_eq count_at) (Nat.le_trans HsU.out.2 (by omega))⟩
)
  have iX : IntKind.i64.wrap (bw - IT) = bw - IT := IntWalk.i64_in _ (by omega)
  have iY : IntKind.i64.wrap (-V) = -V := IntWalk.i64_in _ (by omega)
  have jX : I64 (bw - IT) := by unfold I64; omega
  have jY : I64 (-V) := by unfold I64; omega
  obtain ⟨s0, s1, s2, s3, s4, s5, s6, s7, s8, s9, s10, rfl⟩ := eleven hsP.len
  have jW : I64 bw := by unfold I64; omega
  have jU : I64 U := by unfold I64; omega
  obtain ⟨u0, u1, u2, u3, u4, u5, u6, u7, u8, u9, u10, rfl⟩ := eleven huP.len
  clear hSh hrP hE hM hvR hb hl hv hF bW hs hsP hsv hIt bI bV hu huP huv bU
  go_enter Try.func23, Try.ntmps23
  have hS := own_start w
  go_upto_region 1 with (first | (refine own_unguard (by rfl) ?_) | (refine w_ld rfl _ rfl (by rfl) (by first | exact rd_1 (by repeat constructor) (by first | rfl | assumption) | exact rd_w (by repeat constructor) (by rfl) | exact rd_o (by assumption) (by rfl) (by first | exact nmn | assumption | simp) | exact rd_h (by assumption) (by rfl) (by first | exact nmn | assumption | simp) | exact rd_1o (by assumption) (by first | exact nmn | assumption | simp) | exact rd_1h (by assumption) (by first | rfl | assumption) (by first | exact nmn | assumption | simp)) hS ?_) | (refine own_box rfl _ _ rfl (by rfl) hS ?_; clear hS; (try clear ww); intro bb ww hS) | (refine w_al rfl rfl hS ?_; clear hS; (try clear ww); intro bb ww hS) | (refine w_st rfl _ _ rfl (by rfl) (by rfl) (by repeat constructor) (by rfl) (by rfl) (by first | rfl | assumption) hS ?_; clear hS; (try clear ww); intro ww hS) | (refine w_s1 rfl _ _ rfl (by rfl) (by repeat constructor) (by first | exact .c | exact .t rfl) (by rfl) (by repeat constructor) hS ?_; clear hS; (try clear ww); intro ww hS))
  have HC0 := Lib.hid hS
  obtain ⟨D0, hD0, hs0, hS1⟩ := safe_start (R := P) hS hP
  have HS0 := Lib.hid hs0
  clear hS hs0
  have hS := hS1
  clear hS1
  go_wp2_with (first | (refine own_unguard (by rfl) ?_) | (go_at_call 44; refine own_calls hS (by first | exact HPc.out _ (chainH HC0.out hD0 hS).below) ?_; clear hS; (try clear ww); intro ww hS) | (go_at_call 39; refine own_calls hS (by first | exact HVb.out _ (chainH HC0.out hD0 hS).below) ?_; clear hS; (try clear ww); intro ww hS) | (go_at_call 45; refine own_calls hS (by first | exact HVs.out _ (chainH HC0.out hD0 hS).below | exact HVu.out _ (chainH HC0.out hD0 hS).below) ?_; clear hS; (try clear ww); intro ww hS) | (go_at_call 46; refine own_calls hS (by first | exact HSh.out _ (chainH HC0.out hD0 hS).below) ?_; clear hS; (try clear ww); intro ww hS) | (refine w_ld rfl _ rfl (by rfl) (by first | exact rd_1 (by repeat constructor) (by first | rfl | assumption) | exact rd_w (by repeat constructor) (by rfl) | exact rd_o (by assumption) (by rfl) (by first | exact nmn | assumption | simp) | exact rd_h (by assumption) (by rfl) (by first | exact nmn | assumption | simp) | exact rd_1o (by assumption) (by first | exact nmn | assumption | simp) | exact rd_1h (by assumption) (by first | rfl | assumption) (by first | exact nmn | assumption | simp)) hS ?_) | (refine own_box rfl _ _ rfl (by rfl) hS ?_; clear hS; (try clear ww); intro bb ww hS) | (refine w_al rfl rfl hS ?_; clear hS; (try clear ww); intro bb ww hS) | (refine w_st rfl _ _ rfl (by rfl) (by rfl) (by repeat constructor) (by rfl) (by rfl) (by first | rfl | assumption) hS ?_; clear hS; (try clear ww); intro ww hS) | (refine w_s1 rfl _ _ rfl (by rfl) (by repeat constructor) (by first | exact .c | exact .t rfl) (by rfl) (by repeat constructor) hS ?_; clear hS; (try clear ww); intro ww hS))
  go_at_call 47
  refine Calls.mono (box_At_I P n base _ 0 0 _ (repP_step HrP.out (chainH HC0.out hD0 hS).below) i64_0 i64_0 HsB.out.1.1) ?_
  rintro e w3 ⟨cs3, rfl, hr3, hb3⟩
  obtain ⟨P1, D1, hD1, hPP1, hs1, q1, hS1, hC1⟩ := own_give HS0.out hS hr3 hb3 (bself _)
  have HC1 := Lib.hid (chainH HC0.out hD0 hC1)
  have HS1 := Lib.hid hs1
  have Q1 := Lib.hid q1
  obtain ⟨e0, e1, e2, e3, e4, e5, e6, e7, e8, e9, e10, rfl⟩ := eleven q1.len
  clear hS hs1 hr3 hb3 hC1 q1
  (try clear ww)
  have hS := hS1
  clear hS1
  go_wp2_with (first | (refine own_unguard (by rfl) ?_) | (refine own_buildSlice rfl _ _ 1 _ rfl [e0, e1, e2, e3, e4, e5, e6, e7, e8, e9, e10] hS Try.underlying30 (by kernel_rfl) ?_; clear hS; (try clear ww); intro bs ww hS) | (refine w_ld rfl _ rfl (by rfl) (by first | exact rd_1 (by repeat constructor) (by first | rfl | assumption) | exact rd_w (by repeat constructor) (by rfl) | exact rd_o (by assumption) (by rfl) (by first | exact nmn | assumption | simp) | exact rd_h (by assumption) (by rfl) (by first | exact nmn | assumption | simp) | exact rd_1o (by assumption) (by first | exact nmn | assumption | simp) | exact rd_1h (by assumption) (by first | rfl | assumption) (by first | exact nmn | assumption | simp)) hS ?_) | (refine own_box rfl _ _ rfl (by rfl) hS ?_; clear hS; (try clear ww); intro bb ww hS) | (refine w_al rfl rfl hS ?_; clear hS; (try clear ww); intro bb ww hS) | (refine w_st rfl _ _ rfl (by rfl) (by rfl) (by repeat constructor) (by rfl) (by rfl) (by first | rfl | assumption) hS ?_; clear hS; (try clear ww); intro ww hS) | (refine w_s1 rfl _ _ rfl (by rfl) (by repeat constructor) (by first | exact .c | exact .t rfl) (by rfl) (by repeat constructor) hS ?_; clear hS; (try clear ww); intro ww hS))
  refine wp_loop_rounds 2 ?_
  rw [rounds_succ]
  have g2 := rangeAt_below Hs.out HC1.out.below
  have n2 := HS1.out.old _ lsk
  go_upto_region 9 with (first | (refine own_unguard (by rfl) ?_) | (refine w_ld rfl _ rfl (by rfl) (by first | exact rd_1 (by repeat constructor) (by first | rfl | assumption) | exact rd_w (by repeat constructor) (by rfl) | exact rd_o (by assumption) (by rfl) (by first | exact nmn | assumption | simp) | exact rd_h (by assumption) (by rfl) (by first | exact nmn | assumption | simp) | exact rd_1o (by assumption) (by first | exact nmn | assumption | simp) | exact rd_1h (by assumption) (by first | rfl | assumption) (by first | exact nmn | assumption | simp)) hS ?_) | (refine own_box rfl _ _ rfl (by rfl) hS ?_; clear hS; (try clear ww); intro bb ww hS) | (refine w_al rfl rfl hS ?_; clear hS; (try clear ww); intro bb ww hS) | (refine w_st rfl _ _ rfl (by rfl) (by rfl) (by repeat constructor) (by rfl) (by rfl) (by first | rfl | assumption) hS ?_; clear hS; (try clear ww); intro ww hS) | (refine w_s1 rfl _ _ rfl (by rfl) (by repeat constructor) (by first | exact .c | exact .t rfl) (by rfl) (by repeat constructor) hS ?_; clear hS; (try clear ww); intro ww hS))
  (try simp only [Act.put]); (try simp only [List.setIfInBounds_toArray]); (try simp only [List.set_cons_succ]); (try simp only [List.set_cons_zero])
  refine own_any hS [12] 14 (by kernel_rfl) (by kernel_rfl) ?_
  clear hS
  intro hcl ww hS
  refine own_batch hS [0, 1, 2, 3, 4, 5, 6, 7, 8, 9] 4 rfl hcl (by kernel_rfl) ?_
  (try simp only); repeat (first | (simp only [List.filterMap_cons]) | (simp only [List.filterMap_nil]) | (simp only [List.getElem?_toArray]) | (simp only [List.getElem?_cons_succ]) | (simp only [List.getElem?_cons_zero]) | (simp only [List.reverse_cons]) | (simp only [List.reverse_nil]) | (simp only [List.nil_append]) | (simp only [List.cons_append]))
  repeat (first
      | (first | (refine g_plain rfl ?_) | (refine g_yes rfl rfl rfl (by simp only [List.getElem?_toArray, List.getElem?_cons_succ, List.getElem?_cons_zero]; rfl) (by with_reducible constructor) ?_)
         apply Exists.intro; refine ⟨?_, ?_⟩
         focus (intro wq hq0; (first | have hq : Own _ _ _ wq := hq0 | have hq : Own _ _ _ wq := hq0.1 | skip); first | ((with_reducible show givesAt _ ({ dst := _, op := Op.load _ _, type := _, pos := _, after := _, guard := _ } : Oper) _ _ _); first | (exact givesAt_rd rfl (by rfl) (by first | exact rd_1 (by repeat constructor) (by first | rfl | assumption) | exact rd_w (by repeat constructor) (by rfl) | exact rd_o (by assumption) (by rfl) (by first | exact nmn | assumption | simp) | exact rd_h (by assumption) (by rfl) (by first | exact nmn | assumption | simp) | exact rd_1o (by assumption) (by first | exact nmn | assumption | simp) | exact rd_1h (by assumption) (by first | rfl | assumption) (by first | exact nmn | assumption | simp)) hq)) | (go_simp; first | (go_at_call 19; exact HIt.out _ (chainH HC1.out hD1 hq).below) | (with_reducible rfl)))
         simp only [Act.put, List.setIfInBounds_toArray]; (try simp only [List.set_cons_succ]); (try simp only [List.set_cons_zero]))
      | (refine g_no rfl rfl rfl (by simp only [List.getElem?_toArray, List.getElem?_cons_succ, List.getElem?_cons_zero]; rfl) (by with_reducible constructor) ?_; simp only [Act.put, List.setIfInBounds_toArray]; (try simp only [List.set_cons_succ]); (try simp only [List.set_cons_zero])))
  refine g_nil ?_
  clear hS hcl
  intro hcl ww hS
  (try simp only [Act.put]); (try simp only [List.setIfInBounds_toArray]); (try simp only [List.set_cons_succ]); (try simp only [List.set_cons_zero])
  (try simp only [iX, iY])
  refine own_softB hS 10 hcl (by simp only [List.getElem?_toArray, List.getElem?_cons_succ, List.getElem?_cons_zero]; rfl) (by kernel_rfl) ?_
  have hO := hS
  clear hS
  intro hS
  go_wp2_with (first | (go_at_call 47; refine Calls.mono (box_At_I P1 n sb _ (bw - IT) (-V) _ (repP_mono (repP_step HsP.out (chainH HC1.out hD1 hO).below) hPP1) jX jY HsS.out.1.1) ?_; rintro e w4 ⟨cs4, rfl, hr4, hb4⟩))
  refine ⟨[], hS.step hb4, ?_⟩
  clear hS
  intro hcl w20 hS hb5
  obtain ⟨P2, D2, hD2, hPP2, hs2, q2, hS2, hC2⟩ := own_give HS1.out hO hr4 hb4 hb5
  have HC2 := Lib.hid (chainH HC1.out hD1 hC2)
  have HS2 := Lib.hid hs2
  have Q2 := Lib.hid q2
  have Q12 := Lib.hid (repP_mono (HS1.out.turn Q1.out hC2) hPP2)
  have hall2 := rep_all q2
  obtain ⟨f0, f1, f2, f3, f4, f5, f6, f7, f8, f9, f10, rfl⟩ := eleven q2.len
  clear hS hs2 hr4 hb4 hb5 hC2 q2 hO
  have hS := hS2
  clear hS2
  (try simp only [Act.put]); (try simp only [List.setIfInBounds_toArray]); (try simp only [List.set_cons_succ]); (try simp only [List.set_cons_zero])
  refine own_soft hS 11 hcl (by simp only [List.getElem?_toArray, List.getElem?_cons_succ, List.getElem?_cons_zero]; rfl) (by kernel_rfl) ?_
  have hO := hS
  clear hS
  intro hS
  refine own_buildSlice rfl _ _ 1 _ rfl [f0, f1, f2, f3, f4, f5, f6, f7, f8, f9, f10] hS Try.underlying30 (by kernel_rfl) ?_
  clear hS
  intro bn w6 hS
  refine wpList_nil ⟨rfl, _, hS, ?_⟩
  clear hS hO hcl
  intro hcl w7 hS
  simp only [List.cons_append, List.nil_append] at hS
  (try simp only [Act.put]); (try simp only [List.setIfInBounds_toArray]); (try simp only [List.set_cons_succ]); (try simp only [List.set_cons_zero])
  refine own_hard (D := D2) (W := w20) 12 hcl (by simp only [List.getElem?_toArray, List.getElem?_cons_succ, List.getElem?_cons_zero]; rfl) (by kernel_rfl) (by kernel_rfl) ?_
  refine own_append_new (n := 1) (xs := [e0, e1, e2, e3, e4, e5, e6, e7, e8, e9, e10]) (X := [(bs, [e0, e1, e2, e3, e4, e5, e6, e7, e8, e9, e10])]) (L := [_, _, _, _, _]) rfl _ _ _ rfl ⟨rfl, .inr ⟨bs, 1, [], rfl, Nat.le_refl _, by simp [maxLen], rfl, rfl⟩⟩ rfl rfl (hS.perm (perm_row _ _ _ _)) rfl hall2 el_box (by decide) (by simp only [maxLen]; omega) (by omega) ?_
  clear hS
  intro v1 X1 w8 hS hX1
  obtain ⟨y1, k1, rfl⟩ := hX1.slice
  refine wpList_nil ⟨rfl, _, hS, ?_⟩
  clear hS hcl
  intro hcl w9 hS
  simp only [List.cons_append, List.nil_append] at hS
  (try simp only [Act.put]); (try simp only [List.setIfInBounds_toArray]); (try simp only [List.set_cons_succ]); (try simp only [List.set_cons_zero])
  refine own_batch hS [13] 0 rfl hcl (by kernel_rfl) ?_
  (try simp only); repeat (first | (simp only [List.filterMap_cons]) | (simp only [List.filterMap_nil]) | (simp only [List.getElem?_toArray]) | (simp only [List.getElem?_cons_succ]) | (simp only [List.getElem?_cons_zero]) | (simp only [List.reverse_cons]) | (simp only [List.reverse_nil]) | (simp only [List.nil_append]) | (simp only [List.cons_append]))
  repeat (first
      | (first | (refine g_plain rfl ?_) | (refine g_yes rfl rfl rfl (by simp only [List.getElem?_toArray, List.getElem?_cons_succ, List.getElem?_cons_zero]; rfl) (by with_reducible constructor) ?_)
         apply Exists.intro; refine ⟨?_, ?_⟩
         focus (intro wq hq0; (first | have hq : Own _ _ _ wq := hq0 | have hq : Own _ _ _ wq := hq0.1 | skip); first | ((with_reducible show givesAt _ ({ dst := _, op := Op.load _ _, type := _, pos := _, after := _, guard := _ } : Oper) _ _ _); first | (exact givesAt_rd rfl (by rfl) (by first | exact rd_1 (by repeat constructor) (by first | rfl | assumption) | exact rd_w (by repeat constructor) (by rfl) | exact rd_o (by assumption) (by rfl) (by first | exact nmn | assumption | simp) | exact rd_h (by assumption) (by rfl) (by first | exact nmn | assumption | simp) | exact rd_1o (by assumption) (by first | exact nmn | assumption | simp) | exact rd_1h (by assumption) (by first | rfl | assumption) (by first | exact nmn | assumption | simp)) hq)) | (go_simp; first | (with_reducible rfl)))
         simp only [Act.put, List.setIfInBounds_toArray]; (try simp only [List.set_cons_succ]); (try simp only [List.set_cons_zero]))
      | (refine g_no rfl rfl rfl (by simp only [List.getElem?_toArray, List.getElem?_cons_succ, List.getElem?_cons_zero]; rfl) (by with_reducible constructor) ?_; simp only [Act.put, List.setIfInBounds_toArray]; (try simp only [List.set_cons_succ]); (try simp only [List.set_cons_zero])))
  refine g_nil ?_
  clear hS hcl
  intro hcl ww hS
  refine own_done (by kernel_rfl) ?_
  (try simp only [Act.put]); (try simp only [List.setIfInBounds_toArray]); (try simp only [List.set_cons_succ]); (try simp only [List.set_cons_zero])
  go_wp2_with (first | (refine own_unguard (by rfl) ?_) | (refine w_ld rfl _ rfl (by rfl) (by first | exact rd_1 (by repeat constructor) (by first | rfl | assumption) | exact rd_w (by repeat constructor) (by rfl) | exact rd_o (by assumption) (by rfl) (by first | exact nmn | assumption | simp) | exact rd_h (by assumption) (by rfl) (by first | exact nmn | assumption | simp) | exact rd_1o (by assumption) (by first | exact nmn | assumption | simp) | exact rd_1h (by assumption) (by first | rfl | assumption) (by first | exact nmn | assumption | simp)) hS ?_) | (refine own_box rfl _ _ rfl (by rfl) hS ?_; clear hS; (try clear ww); intro bb ww hS) | (refine w_al rfl rfl hS ?_; clear hS; (try clear ww); intro bb ww hS) | (refine w_st rfl _ _ rfl (by rfl) (by rfl) (by repeat constructor) (by rfl) (by rfl) (by first | rfl | assumption) hS ?_; clear hS; (try clear ww); intro ww hS) | (refine w_s1 rfl _ _ rfl (by rfl) (by repeat constructor) (by first | exact .c | exact .t rfl) (by rfl) (by repeat constructor) hS ?_; clear hS; (try clear ww); intro ww hS))
  rw [rounds_succ]
  go_wp2_with (first | (refine own_unguard (by rfl) ?_) | (refine w_ld rfl _ rfl (by rfl) (by first | exact rd_1 (by repeat constructor) (by first | rfl | assumption) | exact rd_w (by repeat constructor) (by rfl) | exact rd_o (by assumption) (by rfl) (by first | exact nmn | assumption | simp) | exact rd_h (by assumption) (by rfl) (by first | exact nmn | assumption | simp) | exact rd_1o (by assumption) (by first | exact nmn | assumption | simp) | exact rd_1h (by assumption) (by first | rfl | assumption) (by first | exact nmn | assumption | simp)) hS ?_) | (refine own_box rfl _ _ rfl (by rfl) hS ?_; clear hS; (try clear ww); intro bb ww hS) | (refine w_al rfl rfl hS ?_; clear hS; (try clear ww); intro bb ww hS) | (refine w_st rfl _ _ rfl (by rfl) (by rfl) (by repeat constructor) (by rfl) (by rfl) (by first | rfl | assumption) hS ?_; clear hS; (try clear ww); intro ww hS) | (refine w_s1 rfl _ _ rfl (by rfl) (by repeat constructor) (by first | exact .c | exact .t rfl) (by rfl) (by repeat constructor) hS ?_; clear hS; (try clear ww); intro ww hS))
  have hPP12 : ∀ k, P k → P2 k := fun k hk => hPP2 k (hPP1 k hk)
  refine wp_loop_rounds 2 ?_
  rw [rounds_succ]
  have g3 := rangeAt_below Hu.out HC2.out.below
  have n3 := HS2.out.old _ luk
  go_wp2_with (first | (refine own_unguard (by rfl) ?_) | (refine w_ld rfl _ rfl (by rfl) (by first | exact rd_1 (by repeat constructor) (by first | rfl | assumption) | exact rd_w (by repeat constructor) (by rfl) | exact rd_o (by assumption) (by rfl) (by first | exact nmn | assumption | simp) | exact rd_h (by assumption) (by rfl) (by first | exact nmn | assumption | simp) | exact rd_1o (by assumption) (by first | exact nmn | assumption | simp) | exact rd_1h (by assumption) (by first | rfl | assumption) (by first | exact nmn | assumption | simp)) hS ?_) | (refine own_box rfl _ _ rfl (by rfl) hS ?_; clear hS; (try clear ww); intro bb ww hS) | (refine w_al rfl rfl hS ?_; clear hS; (try clear ww); intro bb ww hS) | (refine w_st rfl _ _ rfl (by rfl) (by rfl) (by repeat constructor) (by rfl) (by rfl) (by first | rfl | assumption) hS ?_; clear hS; (try clear ww); intro ww hS) | (refine w_s1 rfl _ _ rfl (by rfl) (by repeat constructor) (by first | exact .c | exact .t rfl) (by rfl) (by repeat constructor) hS ?_; clear hS; (try clear ww); intro ww hS))
  go_at_call 47
  refine Calls.mono (box_At_I P2 n sp _ (bw) (U) _ (repP_mono (repP_step HuP.out (chainH HC2.out hD2 hS).below) hPP12) jW jU HsU.out.1.1) ?_
  rintro e w30 ⟨cs4, rfl, hr4, hb4⟩
  obtain ⟨P3, D3, hD3, hPP3, hs2, q2, hS2, hC2⟩ := own_give HS2.out hS hr4 hb4 (bself _)
  have HC3 := Lib.hid (chainH HC2.out hD2 hC2)
  have HS3 := Lib.hid hs2
  have Q3 := Lib.hid q2
  have Q123 := Lib.hid (repP_mono (HS2.out.turn Q12.out hC2) hPP3)
  have Q23 := Lib.hid (repP_mono (HS2.out.turn Q2.out hC2) hPP3)
  have hall3 := rep_all q2
  obtain ⟨h0, h1, h2, h3, h4, h5, h6, h7, h8, h9, h10, rfl⟩ := eleven q2.len
  clear hS hs2 hr4 hb4 hC2 q2
  (try clear ww)
  have hS := hS2
  clear hS2
  go_wp2_with (first | (refine own_unguard (by rfl) ?_) | (refine own_buildSlice rfl _ _ 1 _ rfl [h0, h1, h2, h3, h4, h5, h6, h7, h8, h9, h10] hS Try.underlying30 (by kernel_rfl) ?_; clear hS; (try clear ww); intro bn ww hS) | (refine own_append_new (n := 2) (L := [_, _, _, _, _, _]) rfl _ _ _ rfl hX1 rfl rfl hS rfl hall3 el_box (by decide) (by simp only [maxLen]; omega) (by omega) ?_; clear hS; (try clear ww); intro v2 X2 ww hS hX2; obtain ⟨y2, k2, rfl⟩ := hX2.slice; simp only [List.cons_append, List.nil_append] at hS) | (refine w_ld rfl _ rfl (by rfl) (by first | exact rd_1 (by repeat constructor) (by first | rfl | assumption) | exact rd_w (by repeat constructor) (by rfl) | exact rd_o (by assumption) (by rfl) (by first | exact nmn | assumption | simp) | exact rd_h (by assumption) (by rfl) (by first | exact nmn | assumption | simp) | exact rd_1o (by assumption) (by first | exact nmn | assumption | simp) | exact rd_1h (by assumption) (by first | rfl | assumption) (by first | exact nmn | assumption | simp)) hS ?_) | (refine own_box rfl _ _ rfl (by rfl) hS ?_; clear hS; (try clear ww); intro bb ww hS) | (refine w_al rfl rfl hS ?_; clear hS; (try clear ww); intro bb ww hS) | (refine w_st rfl _ _ rfl (by rfl) (by rfl) (by repeat constructor) (by rfl) (by rfl) (by first | rfl | assumption) hS ?_; clear hS; (try clear ww); intro ww hS) | (refine w_s1 rfl _ _ rfl (by rfl) (by repeat constructor) (by first | exact .c | exact .t rfl) (by rfl) (by repeat constructor) hS ?_; clear hS; (try clear ww); intro ww hS))
  rw [rounds_succ]
  go_wp2_with (first | (refine own_unguard (by rfl) ?_) | (refine w_ld rfl _ rfl (by rfl) (by first | exact rd_1 (by repeat constructor) (by first | rfl | assumption) | exact rd_w (by repeat constructor) (by rfl) | exact rd_o (by assumption) (by rfl) (by first | exact nmn | assumption | simp) | exact rd_h (by assumption) (by rfl) (by first | exact nmn | assumption | simp) | exact rd_1o (by assumption) (by first | exact nmn | assumption | simp) | exact rd_1h (by assumption) (by first | rfl | assumption) (by first | exact nmn | assumption | simp)) hS ?_) | (refine own_box rfl _ _ rfl (by rfl) hS ?_; clear hS; (try clear ww); intro bb ww hS) | (refine w_al rfl rfl hS ?_; clear hS; (try clear ww); intro bb ww hS) | (refine w_st rfl _ _ rfl (by rfl) (by rfl) (by repeat constructor) (by rfl) (by rfl) (by first | rfl | assumption) hS ?_; clear hS; (try clear ww); intro ww hS) | (refine w_s1 rfl _ _ rfl (by rfl) (by repeat constructor) (by first | exact .c | exact .t rfl) (by rfl) (by repeat constructor) hS ?_; clear hS; (try clear ww); intro ww hS))
  have hrow : RepLP P3 _ (n + 1) y2 [atXY (n + 1) base 0 0, atXY (n + 1) sb (bw - IT) (-V), atXY (n + 1) sp bw U] := sl_kids hS (fun x hx => by simp [hx]) hX2 rfl ⟨_, _, List.append_assoc _ _ _, HS3.out.turn Q123.out hS, ⟨_, _, rfl, HS3.out.turn Q23.out hS, ⟨_, [], by simp, HS3.out.turn Q3.out hS, rfl⟩⟩⟩
  go_at_call 48
  refine own_calls hS (ext_E HE.out _ k2 _ (repLP_L hrow) HM.out (by simp)) ?_
  clear hS hrow
  (try clear ww)
  intro ww hS
  go_wp2_with (first | (refine own_unguard (by rfl) ?_) | (refine w_ld rfl _ rfl (by rfl) (by first | exact rd_1 (by repeat constructor) (by first | rfl | assumption) | exact rd_w (by repeat constructor) (by rfl) | exact rd_o (by assumption) (by rfl) (by first | exact nmn | assumption | simp) | exact rd_h (by assumption) (by rfl) (by first | exact nmn | assumption | simp) | exact rd_1o (by assumption) (by first | exact nmn | assumption | simp) | exact rd_1h (by assumption) (by first | rfl | assumption) (by first | exact nmn | assumption | simp)) hS ?_) | (refine own_box rfl _ _ rfl (by rfl) hS ?_; clear hS; (try clear ww); intro bb ww hS) | (refine w_al rfl rfl hS ?_; clear hS; (try clear ww); intro bb ww hS) | (refine w_st rfl _ _ rfl (by rfl) (by rfl) (by repeat constructor) (by rfl) (by rfl) (by first | rfl | assumption) hS ?_; clear hS; (try clear ww); intro ww hS) | (refine w_s1 rfl _ _ rfl (by rfl) (by repeat constructor) (by first | exact .c | exact .t rfl) (by rfl) (by repeat constructor) hS ?_; clear hS; (try clear ww); intro ww hS))
  have hrow : RepLP P3 _ (n + 1) y2 [atXY (n + 1) base 0 0, atXY (n + 1) sb (bw - IT) (-V), atXY (n + 1) sp bw U] := sl_kids hS (fun x hx => by simp [hx]) hX2 rfl ⟨_, _, List.append_assoc _ _ _, HS3.out.turn Q123.out hS, ⟨_, _, rfl, HS3.out.turn Q23.out hS, ⟨_, [], by simp, HS3.out.turn Q3.out hS, rfl⟩⟩⟩
  go_at_call 49
  refine Calls.mono (box_List_I P3 (n + 1) [atXY (n + 1) base 0 0, atXY (n + 1) sb (bw - IT) (-V), atXY (n + 1) sp bw U] _ k2 E.r E.h E.d _ hrow HSm.out (by simp) iE.1 iE.2.1 iE.2.2) ?_
  rintro e wA ⟨csA, rfl, hrA, hbA⟩
  obtain ⟨PA, DA, hDA, hPPA, hsA, qA, hS2, hC2⟩ := own_give HS3.out hS hrA hbA (bself _)
  have HCA := Lib.hid (chainH HC3.out hD3 hC2)
  have HSA := Lib.hid hsA
  have QA := Lib.hid qA
  have hallA := rep_all qA
  obtain ⟨g0, g1, g2, g3, g4, g5, g6, g7, g8, g9, g10, rfl⟩ := eleven qA.len
  clear hS hrA hbA hsA qA hC2 hrow
  (try clear ww)
  have hS := hS2
  clear hS2
  have HVR := Lib.hid (fun (ww : World) (L' : List (Nat × List Value)) (h : Own DA wA L' ww) => box_Valid_calls (n + 2) _ _ ww (HSA.out.turn QA.out h).rep (HSA.out.turn QA.out h).rep.wide _ (iff_t HvR.out))
  go_wp2_with (first | (refine own_unguard (by rfl) ?_) | (go_at_call 39; refine own_calls hS (HVR.out _ _ hS) ?_; clear hS; (try clear ww); intro ww hS) | (refine w_ld rfl _ rfl (by rfl) (by first | exact rd_1 (by repeat constructor) (by first | rfl | assumption) | exact rd_w (by repeat constructor) (by rfl) | exact rd_o (by assumption) (by rfl) (by first | exact nmn | assumption | simp) | exact rd_h (by assumption) (by rfl) (by first | exact nmn | assumption | simp) | exact rd_1o (by assumption) (by first | exact nmn | assumption | simp) | exact rd_1h (by assumption) (by first | rfl | assumption) (by first | exact nmn | assumption | simp)) hS ?_) | (refine own_box rfl _ _ rfl (by rfl) hS ?_; clear hS; (try clear ww); intro bb ww hS) | (refine w_al rfl rfl hS ?_; clear hS; (try clear ww); intro bb ww hS) | (refine w_st rfl _ _ rfl (by rfl) (by rfl) (by repeat constructor) (by rfl) (by rfl) (by first | rfl | assumption) hS ?_; clear hS; (try clear ww); intro ww hS) | (refine w_s1 rfl _ _ rfl (by rfl) (by repeat constructor) (by first | exact .c | exact .t rfl) (by rfl) (by repeat constructor) hS ?_; clear hS; (try clear ww); intro ww hS))
  have hc := (hS.get at3).cell
  refine bodyPost_ret (v := .tuple #[.agg #[g0, g1, g2, g3, g4, g5, g6, g7, g8, g9, g10], .int .i64 0]) (by simp [results, Try.results23, go_sem, hc]) rfl ⟨_, rfl, HSA.out.ends QA.out hS, (chainH HCA.out hDA hS).below⟩

end Go.Proofs.Ytgpabckipmhobaa
namespace Go.Proofs.Ytgpabckipmhobaa
open Go.RowKit

attribute [local irreducible] wpQuiet wpG wpP wpK wpList Code.wp Calls

end Go.Proofs.Ytgpabckipmhobaa
namespace Go.Proofs.Ytgpabckipmhobaa
open Go.RowKit

attribute [local irreducible] wpQuiet wpG wpP wpK wpList Code.wp Calls

end Go.Proofs.Ytgpabckipmhobaa
namespace Go.Proofs.Ytgpabckipmhobaa
open Go.RowKit

attribute [local irreducible] wpQuiet wpG wpP wpK wpList Code.wp Calls

end Go.Proofs.Ytgpabckipmhobaa
namespace Go.Proofs.Ytgpabckipmhobaa
open Go.RowKit

attribute [local irreducible] wpQuiet wpG wpP wpK wpList Code.wp Calls

end Go.Proofs.Ytgpabckipmhobaa
namespace Go.Proofs.Ytgpabckipmhobaa
open Go.RowKit

attribute [local irreducible] wpQuiet wpG wpP wpK wpList Code.wp Calls

theorem RepLP.step {P : Nat → Prop} {w w' : World} {n : Nat} {x : Option Addr} {kids : List (Bx n)} (h : RepLP P w n x kids) (hb : Below w.heap.size w w') : RepLP P w' n x kids := fun i kid hi => by
  obtain ⟨k, o, css, e, hr, hp⟩ := h i kid hi
  exact ⟨k, o, css, e, rangeAt_below hr hb, repP_step hp hb⟩
theorem RepLP.one {P : Nat → Prop} {w : World} {n : Nat} {x : Option Addr} {b : Bx n} (h : RepLP P w n x [b]) : ∃ k o css, x = some ⟨k, o, none⟩ ∧ w.rangeAt k o css ∧ RepP P w n b css := by
  obtain ⟨k, o, css, rfl, hr, hp⟩ := h 0 b rfl
  rw [Nat.zero_mul, Nat.add_zero] at hr
  exact ⟨k, o, css, rfl, hr, hp⟩
theorem italic_ok (F : Fnt) (n : Nat) (b : Bx n) (cs : List Value) (w : World) (hF : FntOk w F) (hr : Rep w n b cs) (hf : ValidF F) (hb : validB n b) : Calls Try.prog 19 #[F.val, .agg cs.toArray] w (Gives (.int .i64 (italB F n b)) w) := by
  have := script_Italic_calls F n b cs w hF hr
  rwa [if_pos ⟨hf, hb⟩] at this

theorem scrMake_ok (P : Nat → Prop) (F : Fnt) (l : Int) (c : Bool) (n m : Nat) (base : Bx (n + 1)) (subs sups : List (Bx (n + 1))) (cs : List Value) (sx ux : Option Addr) (sc uc : Nat) (w : World) (hF : FntOk w F) (hP : ∀ k, P k → k < w.heap.size) (hr : RepP P w (n + 1) base cs) (hs : RepLP P w (n + 1) sx subs) (hu : RepLP P w (n + 1) ux sups) (h : ScrOk F l n base subs sups) (hvR : validB (n + 2) (scrB F l c n base subs sups)) : Calls Try.prog 23 #[F.val, .agg #[.int .i64 l, .bool c], .agg cs.toArray, .slice sx subs.length sc, .slice ux sups.length uc] w (GivesBEP P (n + 2) (scrB F l c n base subs sups) 0 w) := by
  have huv := scrUV_in (c := c) h
  have hit := ital_in h.1 h.2.2.1
  have hE := extL_i64 (l := (scrK F l c n base subs sups).map (·.1)) (fun a ha => by
    obtain ⟨k, hk, rfl⟩ := List.mem_map.1 ha
    exact scrK_mild h k hk)
  have hSh := fun w' (hb : Below w.heap.size w w') => shifts_calls F l c n base subs sups cs sx ux sc uc w' (hF.below hb) (hr.rep.step hb) (repLP_L (hs.step hb)) (repLP_L (hu.step hb)) h
  have hIt := fun w' (hb : Below w.heap.size w w') => italic_ok F (n + 1) base cs w' (hF.below hb) (hr.rep.step hb) h.1 h.2.2.1
  have hM := scrK_mild (c := c) h
  obtain ⟨⟨bk, bn, bz, bw, bh, bd, bx, by_, bo, bs⟩, bks⟩ := base
  obtain ⟨kx, kc, tx, tc, rfl, _⟩ := rep_out hr.rep
  have bW := (valid_lens h.2.2.1).1
  rcases subs with _ | ⟨sb, _ | ⟨x, subs⟩⟩
  · rcases sups with _ | ⟨sp, _ | ⟨y, sups⟩⟩
    · exact scrMake_y00 P F l _ _ 0 bw c n m _ _ _ _ _ _ _ _ _ _ _ _ w sc uc sx ux hF h.2.1 h.1 hP hr h.2.2.1   hSh  rfl hM hE hvR bW  
    · obtain ⟨uk, uo, us, rfl, hu1, hu2⟩ := hu.one
      exact scrMake_y01 P F l _ _ 0 bw c n m _ _ _ _ _ _ _ _ _ _ _ _ w sc uc sx sp uk uo us hF h.2.1 h.1 hP hr h.2.2.1  hu1 hu2 (h.2.2.2.2.2 sp (by simp)) hSh  rfl hM hE hvR bW  huv.1
    · have := h.2.2.2.2.1; simp at this
  · rcases sups with _ | ⟨sp, _ | ⟨y, sups⟩⟩
    · obtain ⟨sk, so, ss, rfl, hs1, hs2⟩ := hs.one
      exact scrMake_y10 P F l _ _ _ bw c n m _ _ _ _ _ _ _ _ _ _ _ _ w sc uc sb sk so ss ux hF h.2.1 h.1 hP hr h.2.2.1 hs1 hs2 (h.2.2.2.1.2 sb (by simp))  hSh hIt rfl hM hE hvR bW hit huv.2 
    · obtain ⟨sk, so, ss, rfl, hs1, hs2⟩ := hs.one
      obtain ⟨uk, uo, us, rfl, hu1, hu2⟩ := hu.one
      exact scrMake_y11 P F l _ _ _ bw c n m _ _ _ _ _ _ _ _ _ _ _ _ w sc uc sb sk so ss sp uk uo us hF h.2.1 h.1 hP hr h.2.2.1 hs1 hs2 (h.2.2.2.1.2 sb (by simp)) hu1 hu2 (h.2.2.2.2.2 sp (by simp)) hSh hIt rfl hM hE hvR bW hit huv.2 huv.1
    · have := h.2.2.2.2.1; simp at this
  · have := h.2.2.2.1.1; simp at this

end Go.Proofs.Ytgpabckipmhobaa
namespace Go.Proofs.Ytgpabckipmhobaa
open Go.RowKit

attribute [local irreducible] wpQuiet wpG wpP wpK wpList Code.wp Calls

instance zt_fnt : ZeroTy Try.prog 27 [.slice none 0 0, .slice none 0 0, .int .i64 0, .int .i64 0, .int .i64 0, .int .i64 0, .int .i64 0, .int .i64 0, .int .i64 0, .int .i64 0, .int .i64 0, .int .i64 0, .int .i64 0, .int .i64 0, .int .i64 0, .int .i64 0, .int .i64 0, .int .i64 0, .int .i64 0, .int .i64 0, .int .i64 0, .int .i64 0] := ⟨.agg #[.slice none 0 0, .slice none 0 0, .int .i64 0, .int .i64 0, .int .i64 0, .int .i64 0, .int .i64 0, .int .i64 0, .int .i64 0, .int .i64 0, .int .i64 0, .int .i64 0, .int .i64 0, .int .i64 0, .int .i64 0, .int .i64 0, .int .i64 0, .int .i64 0, .int .i64 0, .int .i64 0, .int .i64 0, .int .i64 0], by kernel_rfl, rfl⟩
end Go.Proofs.Ytgpabckipmhobaa
