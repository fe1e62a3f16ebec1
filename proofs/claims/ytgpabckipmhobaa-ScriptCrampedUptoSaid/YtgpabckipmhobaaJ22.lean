/- Texts Mkn11, Mkj, Awf, Aws, Rgp, Lwk, Lws, Law. -/
import Derived.Test.YtgpabckipmhobaaJ16
import Derived.LoopN
import Derived.Test.YtgpabckipmhobaaJ19
import Derived.Test.YtgpabckipmhobaaJ20
import Derived.Test.YtgpabckipmhobaaJ21
import Derived.Test.YtgpabckipmhobaaJ10
import Derived.Test.YtgpabckipmhobaaJ12
import Derived.Test.YtgpabckipmhobaaJ13
import Derived.Test.YtgpabckipmhobaaJ00
import Derived.ProofKit
import Derived.Lib.SmallJoins
namespace Go.Proofs.Ytgpabckipmhobaa
open Go.RowKit

attribute [local irreducible] wpQuiet wpG wpP wpK wpList Code.wp Calls

set_option maxHeartbeats 16000000 in
set_option maxRecDepth 100000 in
theorem scrMake_n11 (P : Nat → Prop) (F : Fnt) (l U V IT bw : Int) (c : Bool) (n m : Nat) (base : Bx (n + 1)) (c0 c1 c2 c4 c5 c6 c7 c8 c9 c10 : Value) (E : E4) (w : World) (sc uc : Nat) (sb : Bx (n + 1)) (sk so : Nat) (ss : List Value) (sp : Bx (n + 1)) (uk uo : Nat) (us : List Value) (hF : FntOk w F) (hl : lvlOk l = true) (hv : ValidF F) (hP : ∀ k, P k → k < w.heap.size) (hrP : RepP P w (n + 1) base [c0, c1, c2, .int .i64 bw, c4, c5, c6, c7, c8, c9, c10]) (hb : validB (n + 1) base) (hs : w.rangeAt sk so ss) (hsP : RepP P w (n + 1) sb ss) (hsv : validB (n + 1) sb) (hu : w.rangeAt uk uo us) (huP : RepP P w (n + 1) sp us) (huv : validB (n + 1) sp) (hSh : ∀ w', Below w.heap.size w w' → Calls Try.prog 46 #[F.val, .agg #[.int .i64 l, .bool c], .int .i64 (sizeOf' F l), .agg #[c0, c1, c2, .int .i64 bw, c4, c5, c6, c7, c8, c9, c10], .slice (some ⟨sk, so, none⟩) 1 sc, .slice (some ⟨uk, uo, none⟩) 1 uc] w' (Gives (.tuple #[.int .i64 U, .int .i64 V]) w')) (hIt : ∀ w', Below w.heap.size w w' → Calls Try.prog 19 #[F.val, .agg #[c0, c1, c2, .int .i64 bw, c4, c5, c6, c7, c8, c9, c10]] w' (Gives (.int .i64 IT) w')) (hE : E = extL (([atXY (n + 1) base 0 0, atXY (n + 1) sb (bw - IT) (-V), atXY (n + 1) sp bw U] : List (Bx (n + 1))).map (·.1))) (hM : ∀ k ∈ ([atXY (n + 1) base 0 0, atXY (n + 1) sb (bw - IT) (-V), atXY (n + 1) sp bw U] : List (Bx (n + 1))), Mild k.1) (iE : I64 E.r ∧ I64 E.h ∧ I64 E.d) (hvR : ¬ validB (n + 2) (listB (n + 1) E.r E.h E.d [atXY (n + 1) base 0 0, atXY (n + 1) sb (bw - IT) (-V), atXY (n + 1) sp bw U])) (bW : -1073741824 ≤ bw ∧ bw ≤ 1073741824) (bI : 0 ≤ IT ∧ IT ≤ 200000) (bV : -4294967296 ≤ V ∧ V ≤ 4294967296) (bU : -4294967296 ≤ U ∧ U ≤ 4294967296) :
    Calls Try.prog 23 #[F.val, .agg #[.int .i64 l, .bool c], .agg #[c0, c1, c2, .int .i64 bw, c4, c5, c6, c7, c8, c9, c10], .slice (some ⟨sk, so, none⟩) 1 sc, .slice (some ⟨uk, uo, none⟩) 1 uc] w (GivesBE (m + 1) (zeroB m) 6 w) := by
  have HPc := Lib.hid (fun w' (h : Below w.heap.size w w') => style_Percent_calls F l (sizeOf' F l) 0 c w' (hF.below h) ⟨fun _ => ⟨rfl, rfl⟩, fun h => by
    rcases h with h | h
    · rw [hl] at h; cases h
    · exact absurd hv h⟩)
  have HVb := Lib.hid (fun w' (h : Below w.heap.size w w') => box_Valid_calls (n + 1) base _ w' (hrP.rep.step h) hrP.rep.wide _ (iff_t hb))
  have HSh := Lib.hid hSh
  have HrP := Lib.hid hrP
  have HE := Lib.hid hE
  have HM := Lib.hid hM
  have HvR := Lib.hid hvR
  have HsB := Lib.hid (validB_small hb)
  have HVs := Lib.hid (fun w' (h : Below w.heap.size w w') => script_valid_1 (n + 1) sb ss sk so sc w' (rangeAt_below hs h) (hsP.rep.step h) true (iff_t hsv))
  have HIt := Lib.hid hIt
  have HsP := Lib.hid hsP
  have Hs := Lib.hid hs
  have HsS := Lib.hid (validB_small hsv)
  have lsk := range_lt0 hs hsP.len
  have halls := rep_all hsP
  have HVu := Lib.hid (fun w' (h : Below w.heap.size w w') => script_valid_1 (n + 1) sp us uk uo uc w' (rangeAt_below hu h) (huP.rep.step h) true (iff_t huv))
  have HuP := Lib.hid huP
  have Hu := Lib.hid hu
  have HsU := Lib.hid (validB_small huv)
  have luk := range_lt0 hu huP.len
  have hallu := rep_all huP
  have HSm := Lib.hid (show ∀ k ∈ ([atXY (n + 1) base 0 0, atXY (n + 1) sb (bw - IT) (-V), atXY (n + 1) sp bw U] : List (Bx (n + 1))), Small (n + 1) k ∧ bCount (n + 1) k ≤ 1000000 from fun k hk => by
    simp only [List.mem_cons, List.not_mem_nil, or_false] at hk
    rcases hk with rfl | rfl | rfl
    · exact ⟨small_at HsB.out.1, Nat.le_trans (Nat.le_of_eq count_at) (Nat.le_trans HsB.out.2 (by omega))⟩
    · exact ⟨small_at HsS.out.1, Nat.le_trans (Nat.le_of_eq count_at) (Nat.le_trans HsS.out.2 (by omega))⟩
    · exact ⟨small_at HsU.out.1, Nat.le_trans (Nat.le_of_eq count_at) (Nat.le_trans HsU.out.2 (by omega))⟩
)
  have iX : IntKind.i64.wrap (bw - IT) = bw - IT := IntWalk.i64_in _ (by omega)
  have iY : IntKind.i64.wrap (-V) = -V := IntWalk.i64_in _ (by omega)
  have jX : I64 (bw - IT) := by unfold I64; omega
  have jY : I64 (-V) := by unfold I64; omega
  obtain ⟨s0, s1, s2, s3, s4, s5, s6, s7, s8, s9, s10, rfl⟩ := eleven hsP.len
  have jW : I64 bw := by unfold I64; omega
  have jU : I64 U := by unfold I64; omega
  obtain ⟨u0, u1, u2, u3, u4, u5, u6, u7, u8, u9, u10, rfl⟩ := eleven huP.len
  clear hSh hrP hE hM hvR hb hl hv hF bW hs hsP hsv hIt bI bV hu huP huv bU
  go_enter Try.func23, Try.ntmps23
  have hS := own_start w
  go_upto_region 1 with (first | (refine own_unguard (by rfl) ?_) | (refine w_ld rfl _ rfl (by rfl) (by first | exact rd_1 (by repeat constructor) (by first | rfl | assumption) | exact rd_w (by repeat constructor) (by rfl) | exact rd_o (by assumption) (by rfl) (by first | exact nmn | assumption | simp) | exact rd_h (by assumption) (by rfl) (by first | exact nmn | assumption | simp) | exact rd_1o (by assumption) (by first | exact nmn | assumption | simp) | exact rd_1h (by assumption) (by first | rfl | assumption) (by first | exact nmn | assumption | simp)) hS ?_) | (refine own_box rfl _ _ rfl (by rfl) hS ?_; clear hS; (try clear ww); intro bb ww hS) | (refine w_al rfl rfl hS ?_; clear hS; (try clear ww); intro bb ww hS) | (refine w_st rfl _ _ rfl (by rfl) (by rfl) (by repeat constructor) (by rfl) (by rfl) (by first | rfl | assumption) hS ?_; clear hS; (try clear ww); intro ww hS) | (refine w_s1 rfl _ _ rfl (by rfl) (by repeat constructor) (by first | exact .c | exact .t rfl) (by rfl) (by repeat constructor) hS ?_; clear hS; (try clear ww); intro ww hS))
  have HC0 := Lib.hid hS
  obtain ⟨D0, hD0, hs0, hS1⟩ := safe_start (R := P) hS hP
  have HS0 := Lib.hid hs0
  clear hS hs0
  have hS := hS1
  clear hS1
  go_wp2_with (first | (refine own_unguard (by rfl) ?_) | (go_at_call 44; refine own_calls hS (by first | exact HPc.out _ (chainH HC0.out hD0 hS).below) ?_; clear hS; (try clear ww); intro ww hS) | (go_at_call 39; refine own_calls hS (by first | exact HVb.out _ (chainH HC0.out hD0 hS).below) ?_; clear hS; (try clear ww); intro ww hS) | (go_at_call 45; refine own_calls hS (by first | exact HVs.out _ (chainH HC0.out hD0 hS).below | exact HVu.out _ (chainH HC0.out hD0 hS).below) ?_; clear hS; (try clear ww); intro ww hS) | (go_at_call 46; refine own_calls hS (by first | exact HSh.out _ (chainH HC0.out hD0 hS).below) ?_; clear hS; (try clear ww); intro ww hS) | (refine w_ld rfl _ rfl (by rfl) (by first | exact rd_1 (by repeat constructor) (by first | rfl | assumption) | exact rd_w (by repeat constructor) (by rfl) | exact rd_o (by assumption) (by rfl) (by first | exact nmn | assumption | simp) | exact rd_h (by assumption) (by rfl) (by first | exact nmn | assumption | simp) | exact rd_1o (by assumption) (by first | exact nmn | assumption | simp) | exact rd_1h (by assumption) (by first | rfl | assumption) (by first | exact nmn | assumption | simp)) hS ?_) | (refine own_box rfl _ _ rfl (by rfl) hS ?_; clear hS; (try clear ww); intro bb ww hS) | (refine w_al rfl rfl hS ?_; clear hS; (try clear ww); intro bb ww hS) | (refine w_st rfl _ _ rfl (by rfl) (by rfl) (by repeat constructor) (by rfl) (by rfl) (by first | rfl | assumption) hS ?_; clear hS; (try clear ww); intro ww hS) | (refine w_s1 rfl _ _ rfl (by rfl) (by repeat constructor) (by first | exact .c | exact .t rfl) (by rfl) (by repeat constructor) hS ?_; clear hS; (try clear ww); intro ww hS))
  go_at_call 47
  refine Calls.mono (box_At_I P n base _ 0 0 _ (repP_step HrP.out (chainH HC0.out hD0 hS).below) i64_0 i64_0 HsB.out.1.1) ?_
  rintro e w3 ⟨cs3, rfl, hr3, hb3⟩
  obtain ⟨P1, D1, hD1, hPP1, hs1, q1, hS1, hC1⟩ := own_give HS0.out hS hr3 hb3 (bself _)
  have HC1 := Lib.hid (chainH HC0.out hD0 hC1)
  have HS1 := Lib.hid hs1
  have Q1 := Lib.hid q1
  obtain ⟨e0, e1, e2, e3, e4, e5, e6, e7, e8, e9, e10, rfl⟩ := eleven q1.len
  clear hS hs1 hr3 hb3 hC1 q1
  (try clear ww)
  have hS := hS1
  clear hS1
  go_wp2_with (first | (refine own_unguard (by rfl) ?_) | (refine own_buildSlice rfl _ _ 1 _ rfl [e0, e1, e2, e3, e4, e5, e6, e7, e8, e9, e10] hS Try.underlying30 (by kernel_rfl) ?_; clear hS; (try clear ww); intro bs ww hS) | (refine w_ld rfl _ rfl (by rfl) (by first | exact rd_1 (by repeat constructor) (by first | rfl | assumption) | exact rd_w (by repeat constructor) (by rfl) | exact rd_o (by assumption) (by rfl) (by first | exact nmn | assumption | simp) | exact rd_h (by assumption) (by rfl) (by first | exact nmn | assumption | simp) | exact rd_1o (by assumption) (by first | exact nmn | assumption | simp) | exact rd_1h (by assumption) (by first | rfl | assumption) (by first | exact nmn | assumption | simp)) hS ?_) | (refine own_box rfl _ _ rfl (by rfl) hS ?_; clear hS; (try clear ww); intro bb ww hS) | (refine w_al rfl rfl hS ?_; clear hS; (try clear ww); intro bb ww hS) | (refine w_st rfl _ _ rfl (by rfl) (by rfl) (by repeat constructor) (by rfl) (by rfl) (by first | rfl | assumption) hS ?_; clear hS; (try clear ww); intro ww hS) | (refine w_s1 rfl _ _ rfl (by rfl) (by repeat constructor) (by first | exact .c | exact .t rfl) (by rfl) (by repeat constructor) hS ?_; clear hS; (try clear ww); intro ww hS))
  refine wp_loop_rounds 2 ?_
  rw [rounds_succ]
  have g2 := rangeAt_below Hs.out HC1.out.below
  have n2 := HS1.out.old _ lsk
  go_upto_region 9 with (first | (refine own_unguard (by rfl) ?_) | (refine w_ld rfl _ rfl (by rfl) (by first | exact rd_1 (by repeat constructor) (by first | rfl | assumption) | exact rd_w (by repeat constructor) (by rfl) | exact rd_o (by assumption) (by rfl) (by first | exact nmn | assumption | simp) | exact rd_h (by assumption) (by rfl) (by first | exact nmn | assumption | simp) | exact rd_1o (by assumption) (by first | exact nmn | assumption | simp) | exact rd_1h (by assumption) (by first | rfl | assumption) (by first | exact nmn | assumption | simp)) hS ?_) | (refine own_box rfl _ _ rfl (by rfl) hS ?_; clear hS; (try clear ww); intro bb ww hS) | (refine w_al rfl rfl hS ?_; clear hS; (try clear ww); intro bb ww hS) | (refine w_st rfl _ _ rfl (by rfl) (by rfl) (by repeat constructor) (by rfl) (by rfl) (by first | rfl | assumption) hS ?_; clear hS; (try clear ww); intro ww hS) | (refine w_s1 rfl _ _ rfl (by rfl) (by repeat constructor) (by first | exact .c | exact .t rfl) (by rfl) (by repeat constructor) hS ?_; clear hS; (try clear ww); intro ww hS))
  (try simp only [Act.put]); (try simp only [List.setIfInBounds_toArray]); (try simp only [List.set_cons_succ]); (try simp only [List.set_cons_zero])
  refine own_any hS [12] 14 (by kernel_rfl) (by kernel_rfl) ?_
  clear hS
  intro hcl ww hS
  refine own_batch hS [0, 1, 2, 3, 4, 5, 6, 7, 8, 9] 4 rfl hcl (by kernel_rfl) ?_
  (try simp only); repeat (first | (simp only [List.filterMap_cons]) | (simp only [List.filterMap_nil]) | (simp only [List.getElem?_toArray]) | (simp only [List.getElem?_cons_succ]) | (simp only [List.getElem?_cons_zero]) | (simp only [List.reverse_cons]) | (simp only [List.reverse_nil]) | (simp only [List.nil_append]) | (simp only [List.cons_append]))
  repeat (first
      | (first | (refine g_plain rfl ?_) | (refine g_yes rfl rfl rfl (by simp only [List.getElem?_toArray, List.getElem?_cons_succ, List.getElem?_cons_zero]; rfl) (by with_reducible constructor) ?_)
         apply Exists.intro; refine ⟨?_, ?_⟩
         focus (intro wq hq0; (first | have hq : Own _ _ _ wq := hq0 | have hq : Own _ _ _ wq := hq0.1 | skip); first | ((with_reducible show givesAt _ ({ dst := _, op := Op.load _ _, type := _, pos := _, after := _, guard := _ } : Oper) _ _ _); first | (exact givesAt_rd rfl (by rfl) (by first | exact rd_1 (by repeat constructor) (by first | rfl | assumption) | exact rd_w (by repeat constructor) (by rfl) | exact rd_o (by assumption) (by rfl) (by first | exact nmn | assumption | simp) | exact rd_h (by assumption) (by rfl) (by first | exact nmn | assumption | simp) | exact rd_1o (by assumption) (by first | exact nmn | assumption | simp) | exact rd_1h (by assumption) (by first | rfl | assumption) (by first | exact nmn | assumption | simp)) hq)) | (go_simp; first | (go_at_call 19; exact HIt.out _ (chainH HC1.out hD1 hq).below) | (with_reducible rfl)))
         simp only [Act.put, List.setIfInBounds_toArray]; (try simp only [List.set_cons_succ]); (try simp only [List.set_cons_zero]))
      | (refine g_no rfl rfl rfl (by simp only [List.getElem?_toArray, List.getElem?_cons_succ, List.getElem?_cons_zero]; rfl) (by with_reducible constructor) ?_; simp only [Act.put, List.setIfInBounds_toArray]; (try simp only [List.set_cons_succ]); (try simp only [List.set_cons_zero])))
  refine g_nil ?_
  clear hS hcl
  intro hcl ww hS
  (try simp only [Act.put]); (try simp only [List.setIfInBounds_toArray]); (try simp only [List.set_cons_succ]); (try simp only [List.set_cons_zero])
  (try simp only [iX, iY])
  refine own_softB hS 10 hcl (by simp only [List.getElem?_toArray, List.getElem?_cons_succ, List.getElem?_cons_zero]; rfl) (by kernel_rfl) ?_
  have hO := hS
  clear hS
  intro hS
  go_wp2_with (first | (go_at_call 47; refine Calls.mono (box_At_I P1 n sb _ (bw - IT) (-V) _ (repP_mono (repP_step HsP.out (chainH HC1.out hD1 hO).below) hPP1) jX jY HsS.out.1.1) ?_; rintro e w4 ⟨cs4, rfl, hr4, hb4⟩))
  refine ⟨[], hS.step hb4, ?_⟩
  clear hS
  intro hcl w20 hS hb5
  obtain ⟨P2, D2, hD2, hPP2, hs2, q2, hS2, hC2⟩ := own_give HS1.out hO hr4 hb4 hb5
  have HC2 := Lib.hid (chainH HC1.out hD1 hC2)
  have HS2 := Lib.hid hs2
  have Q2 := Lib.hid q2
  have Q12 := Lib.hid (repP_mono (HS1.out.turn Q1.out hC2) hPP2)
  have hall2 := rep_all q2
  obtain ⟨f0, f1, f2, f3, f4, f5, f6, f7, f8, f9, f10, rfl⟩ := eleven q2.len
  clear hS hs2 hr4 hb4 hb5 hC2 q2 hO
  have hS := hS2
  clear hS2
  (try simp only [Act.put]); (try simp only [List.setIfInBounds_toArray]); (try simp only [List.set_cons_succ]); (try simp only [List.set_cons_zero])
  refine own_soft hS 11 hcl (by simp only [List.getElem?_toArray, List.getElem?_cons_succ, List.getElem?_cons_zero]; rfl) (by kernel_rfl) ?_
  have hO := hS
  clear hS
  intro hS
  refine own_buildSlice rfl _ _ 1 _ rfl [f0, f1, f2, f3, f4, f5, f6, f7, f8, f9, f10] hS Try.underlying30 (by kernel_rfl) ?_
  clear hS
  intro bn w6 hS
  refine wpList_nil ⟨rfl, _, hS, ?_⟩
  clear hS hO hcl
  intro hcl w7 hS
  simp only [List.cons_append, List.nil_append] at hS
  (try simp only [Act.put]); (try simp only [List.setIfInBounds_toArray]); (try simp only [List.set_cons_succ]); (try simp only [List.set_cons_zero])
  refine own_hard (D := D2) (W := w20) 12 hcl (by simp only [List.getElem?_toArray, List.getElem?_cons_succ, List.getElem?_cons_zero]; rfl) (by kernel_rfl) (by kernel_rfl) ?_
  refine own_append_new (n := 1) (xs := [e0, e1, e2, e3, e4, e5, e6, e7, e8, e9, e10]) (X := [(bs, [e0, e1, e2, e3, e4, e5, e6, e7, e8, e9, e10])]) (L := [_, _, _, _, _]) rfl _ _ _ rfl ⟨rfl, .inr ⟨bs, 1, [], rfl, Nat.le_refl _, by simp [maxLen], rfl, rfl⟩⟩ rfl rfl (hS.perm (perm_row _ _ _ _)) rfl hall2 el_box (by decide) (by simp only [maxLen]; omega) (by omega) ?_
  clear hS
  intro v1 X1 w8 hS hX1
  obtain ⟨y1, k1, rfl⟩ := hX1.slice
  refine wpList_nil ⟨rfl, _, hS, ?_⟩
  clear hS hcl
  intro hcl w9 hS
  simp only [List.cons_append, List.nil_append] at hS
  (try simp only [Act.put]); (try simp only [List.setIfInBounds_toArray]); (try simp only [List.set_cons_succ]); (try simp only [List.set_cons_zero])
  refine own_batch hS [13] 0 rfl hcl (by kernel_rfl) ?_
  (try simp only); repeat (first | (simp only [List.filterMap_cons]) | (simp only [List.filterMap_nil]) | (simp only [List.getElem?_toArray]) | (simp only [List.getElem?_cons_succ]) | (simp only [List.getElem?_cons_zero]) | (simp only [List.reverse_cons]) | (simp only [List.reverse_nil]) | (simp only [List.nil_append]) | (simp only [List.cons_append]))
  repeat (first
      | (first | (refine g_plain rfl ?_) | (refine g_yes rfl rfl rfl (by simp only [List.getElem?_toArray, List.getElem?_cons_succ, List.getElem?_cons_zero]; rfl) (by with_reducible constructor) ?_)
         apply Exists.intro; refine ⟨?_, ?_⟩
         focus (intro wq hq0; (first | have hq : Own _ _ _ wq := hq0 | have hq : Own _ _ _ wq := hq0.1 | skip); first | ((with_reducible show givesAt _ ({ dst := _, op := Op.load _ _, type := _, pos := _, after := _, guard := _ } : Oper) _ _ _); first | (exact givesAt_rd rfl (by rfl) (by first | exact rd_1 (by repeat constructor) (by first | rfl | assumption) | exact rd_w (by repeat constructor) (by rfl) | exact rd_o (by assumption) (by rfl) (by first | exact nmn | assumption | simp) | exact rd_h (by assumption) (by rfl) (by first | exact nmn | assumption | simp) | exact rd_1o (by assumption) (by first | exact nmn | assumption | simp) | exact rd_1h (by assumption) (by first | rfl | assumption) (by first | exact nmn | assumption | simp)) hq)) | (go_simp; first | (with_reducible rfl)))
         simp only [Act.put, List.setIfInBounds_toArray]; (try simp only [List.set_cons_succ]); (try simp only [List.set_cons_zero]))
      | (refine g_no rfl rfl rfl (by simp only [List.getElem?_toArray, List.getElem?_cons_succ, List.getElem?_cons_zero]; rfl) (by with_reducible constructor) ?_; simp only [Act.put, List.setIfInBounds_toArray]; (try simp only [List.set_cons_succ]); (try simp only [List.set_cons_zero])))
  refine g_nil ?_
  clear hS hcl
  intro hcl ww hS
  refine own_done (by kernel_rfl) ?_
  (try simp only [Act.put]); (try simp only [List.setIfInBounds_toArray]); (try simp only [List.set_cons_succ]); (try simp only [List.set_cons_zero])
  go_wp2_with (first | (refine own_unguard (by rfl) ?_) | (refine w_ld rfl _ rfl (by rfl) (by first | exact rd_1 (by repeat constructor) (by first | rfl | assumption) | exact rd_w (by repeat constructor) (by rfl) | exact rd_o (by assumption) (by rfl) (by first | exact nmn | assumption | simp) | exact rd_h (by assumption) (by rfl) (by first | exact nmn | assumption | simp) | exact rd_1o (by assumption) (by first | exact nmn | assumption | simp) | exact rd_1h (by assumption) (by first | rfl | assumption) (by first | exact nmn | assumption | simp)) hS ?_) | (refine own_box rfl _ _ rfl (by rfl) hS ?_; clear hS; (try clear ww); intro bb ww hS) | (refine w_al rfl rfl hS ?_; clear hS; (try clear ww); intro bb ww hS) | (refine w_st rfl _ _ rfl (by rfl) (by rfl) (by repeat constructor) (by rfl) (by rfl) (by first | rfl | assumption) hS ?_; clear hS; (try clear ww); intro ww hS) | (refine w_s1 rfl _ _ rfl (by rfl) (by repeat constructor) (by first | exact .c | exact .t rfl) (by rfl) (by repeat constructor) hS ?_; clear hS; (try clear ww); intro ww hS))
  rw [rounds_succ]
  go_wp2_with (first | (refine own_unguard (by rfl) ?_) | (refine w_ld rfl _ rfl (by rfl) (by first | exact rd_1 (by repeat constructor) (by first | rfl | assumption) | exact rd_w (by repeat constructor) (by rfl) | exact rd_o (by assumption) (by rfl) (by first | exact nmn | assumption | simp) | exact rd_h (by assumption) (by rfl) (by first | exact nmn | assumption | simp) | exact rd_1o (by assumption) (by first | exact nmn | assumption | simp) | exact rd_1h (by assumption) (by first | rfl | assumption) (by first | exact nmn | assumption | simp)) hS ?_) | (refine own_box rfl _ _ rfl (by rfl) hS ?_; clear hS; (try clear ww); intro bb ww hS) | (refine w_al rfl rfl hS ?_; clear hS; (try clear ww); intro bb ww hS) | (refine w_st rfl _ _ rfl (by rfl) (by rfl) (by repeat constructor) (by rfl) (by rfl) (by first | rfl | assumption) hS ?_; clear hS; (try clear ww); intro ww hS) | (refine w_s1 rfl _ _ rfl (by rfl) (by repeat constructor) (by first | exact .c | exact .t rfl) (by rfl) (by repeat constructor) hS ?_; clear hS; (try clear ww); intro ww hS))
  have hPP12 : ∀ k, P k → P2 k := fun k hk => hPP2 k (hPP1 k hk)
  refine wp_loop_rounds 2 ?_
  rw [rounds_succ]
  have g3 := rangeAt_below Hu.out HC2.out.below
  have n3 := HS2.out.old _ luk
  go_wp2_with (first | (refine own_unguard (by rfl) ?_) | (refine w_ld rfl _ rfl (by rfl) (by first | exact rd_1 (by repeat constructor) (by first | rfl | assumption) | exact rd_w (by repeat constructor) (by rfl) | exact rd_o (by assumption) (by rfl) (by first | exact nmn | assumption | simp) | exact rd_h (by assumption) (by rfl) (by first | exact nmn | assumption | simp) | exact rd_1o (by assumption) (by first | exact nmn | assumption | simp) | exact rd_1h (by assumption) (by first | rfl | assumption) (by first | exact nmn | assumption | simp)) hS ?_) | (refine own_box rfl _ _ rfl (by rfl) hS ?_; clear hS; (try clear ww); intro bb ww hS) | (refine w_al rfl rfl hS ?_; clear hS; (try clear ww); intro bb ww hS) | (refine w_st rfl _ _ rfl (by rfl) (by rfl) (by repeat constructor) (by rfl) (by rfl) (by first | rfl | assumption) hS ?_; clear hS; (try clear ww); intro ww hS) | (refine w_s1 rfl _ _ rfl (by rfl) (by repeat constructor) (by first | exact .c | exact .t rfl) (by rfl) (by repeat constructor) hS ?_; clear hS; (try clear ww); intro ww hS))
  go_at_call 47
  refine Calls.mono (box_At_I P2 n sp _ (bw) (U) _ (repP_mono (repP_step HuP.out (chainH HC2.out hD2 hS).below) hPP12) jW jU HsU.out.1.1) ?_
  rintro e w30 ⟨cs4, rfl, hr4, hb4⟩
  obtain ⟨P3, D3, hD3, hPP3, hs2, q2, hS2, hC2⟩ := own_give HS2.out hS hr4 hb4 (bself _)
  have HC3 := Lib.hid (chainH HC2.out hD2 hC2)
  have HS3 := Lib.hid hs2
  have Q3 := Lib.hid q2
  have Q123 := Lib.hid (repP_mono (HS2.out.turn Q12.out hC2) hPP3)
  have Q23 := Lib.hid (repP_mono (HS2.out.turn Q2.out hC2) hPP3)
  have hall3 := rep_all q2
  obtain ⟨h0, h1, h2, h3, h4, h5, h6, h7, h8, h9, h10, rfl⟩ := eleven q2.len
  clear hS hs2 hr4 hb4 hC2 q2
  (try clear ww)
  have hS := hS2
  clear hS2
  go_wp2_with (first | (refine own_unguard (by rfl) ?_) | (refine own_buildSlice rfl _ _ 1 _ rfl [h0, h1, h2, h3, h4, h5, h6, h7, h8, h9, h10] hS Try.underlying30 (by kernel_rfl) ?_; clear hS; (try clear ww); intro bn ww hS) | (refine own_append_new (n := 2) (L := [_, _, _, _, _, _]) rfl _ _ _ rfl hX1 rfl rfl hS rfl hall3 el_box (by decide) (by simp only [maxLen]; omega) (by omega) ?_; clear hS; (try clear ww); intro v2 X2 ww hS hX2; obtain ⟨y2, k2, rfl⟩ := hX2.slice; simp only [List.cons_append, List.nil_append] at hS) | (refine w_ld rfl _ rfl (by rfl) (by first | exact rd_1 (by repeat constructor) (by first | rfl | assumption) | exact rd_w (by repeat constructor) (by rfl) | exact rd_o (by assumption) (by rfl) (by first | exact nmn | assumption | simp) | exact rd_h (by assumption) (by rfl) (by first | exact nmn | assumption | simp) | exact rd_1o (by assumption) (by first | exact nmn | assumption | simp) | exact rd_1h (by assumption) (by first | rfl | assumption) (by first | exact nmn | assumption | simp)) hS ?_) | (refine own_box rfl _ _ rfl (by rfl) hS ?_; clear hS; (try clear ww); intro bb ww hS) | (refine w_al rfl rfl hS ?_; clear hS; (try clear ww); intro bb ww hS) | (refine w_st rfl _ _ rfl (by rfl) (by rfl) (by repeat constructor) (by rfl) (by rfl) (by first | rfl | assumption) hS ?_; clear hS; (try clear ww); intro ww hS) | (refine w_s1 rfl _ _ rfl (by rfl) (by repeat constructor) (by first | exact .c | exact .t rfl) (by rfl) (by repeat constructor) hS ?_; clear hS; (try clear ww); intro ww hS))
  rw [rounds_succ]
  go_wp2_with (first | (refine own_unguard (by rfl) ?_) | (refine w_ld rfl _ rfl (by rfl) (by first | exact rd_1 (by repeat constructor) (by first | rfl | assumption) | exact rd_w (by repeat constructor) (by rfl) | exact rd_o (by assumption) (by rfl) (by first | exact nmn | assumption | simp) | exact rd_h (by assumption) (by rfl) (by first | exact nmn | assumption | simp) | exact rd_1o (by assumption) (by first | exact nmn | assumption | simp) | exact rd_1h (by assumption) (by first | rfl | assumption) (by first | exact nmn | assumption | simp)) hS ?_) | (refine own_box rfl _ _ rfl (by rfl) hS ?_; clear hS; (try clear ww); intro bb ww hS) | (refine w_al rfl rfl hS ?_; clear hS; (try clear ww); intro bb ww hS) | (refine w_st rfl _ _ rfl (by rfl) (by rfl) (by repeat constructor) (by rfl) (by rfl) (by first | rfl | assumption) hS ?_; clear hS; (try clear ww); intro ww hS) | (refine w_s1 rfl _ _ rfl (by rfl) (by repeat constructor) (by first | exact .c | exact .t rfl) (by rfl) (by repeat constructor) hS ?_; clear hS; (try clear ww); intro ww hS))
  have hrow : RepLP P3 _ (n + 1) y2 [atXY (n + 1) base 0 0, atXY (n + 1) sb (bw - IT) (-V), atXY (n + 1) sp bw U] := sl_kids hS (fun x hx => by simp [hx]) hX2 rfl ⟨_, _, List.append_assoc _ _ _, HS3.out.turn Q123.out hS, ⟨_, _, rfl, HS3.out.turn Q23.out hS, ⟨_, [], by simp, HS3.out.turn Q3.out hS, rfl⟩⟩⟩
  go_at_call 48
  refine own_calls hS (ext_E HE.out _ k2 _ (repLP_L hrow) HM.out (by simp)) ?_
  clear hS hrow
  (try clear ww)
  intro ww hS
  go_wp2_with (first | (refine own_unguard (by rfl) ?_) | (refine w_ld rfl _ rfl (by rfl) (by first | exact rd_1 (by repeat constructor) (by first | rfl | assumption) | exact rd_w (by repeat constructor) (by rfl) | exact rd_o (by assumption) (by rfl) (by first | exact nmn | assumption | simp) | exact rd_h (by assumption) (by rfl) (by first | exact nmn | assumption | simp) | exact rd_1o (by assumption) (by first | exact nmn | assumption | simp) | exact rd_1h (by assumption) (by first | rfl | assumption) (by first | exact nmn | assumption | simp)) hS ?_) | (refine own_box rfl _ _ rfl (by rfl) hS ?_; clear hS; (try clear ww); intro bb ww hS) | (refine w_al rfl rfl hS ?_; clear hS; (try clear ww); intro bb ww hS) | (refine w_st rfl _ _ rfl (by rfl) (by rfl) (by repeat constructor) (by rfl) (by rfl) (by first | rfl | assumption) hS ?_; clear hS; (try clear ww); intro ww hS) | (refine w_s1 rfl _ _ rfl (by rfl) (by repeat constructor) (by first | exact .c | exact .t rfl) (by rfl) (by repeat constructor) hS ?_; clear hS; (try clear ww); intro ww hS))
  have hrow : RepLP P3 _ (n + 1) y2 [atXY (n + 1) base 0 0, atXY (n + 1) sb (bw - IT) (-V), atXY (n + 1) sp bw U] := sl_kids hS (fun x hx => by simp [hx]) hX2 rfl ⟨_, _, List.append_assoc _ _ _, HS3.out.turn Q123.out hS, ⟨_, _, rfl, HS3.out.turn Q23.out hS, ⟨_, [], by simp, HS3.out.turn Q3.out hS, rfl⟩⟩⟩
  go_at_call 49
  refine Calls.mono (box_List_I P3 (n + 1) [atXY (n + 1) base 0 0, atXY (n + 1) sb (bw - IT) (-V), atXY (n + 1) sp bw U] _ k2 E.r E.h E.d _ hrow HSm.out (by simp) iE.1 iE.2.1 iE.2.2) ?_
  rintro e wA ⟨csA, rfl, hrA, hbA⟩
  obtain ⟨PA, DA, hDA, hPPA, hsA, qA, hS2, hC2⟩ := own_give HS3.out hS hrA hbA (bself _)
  have HCA := Lib.hid (chainH HC3.out hD3 hC2)
  have HSA := Lib.hid hsA
  have QA := Lib.hid qA
  have hallA := rep_all qA
  obtain ⟨g0, g1, g2, g3, g4, g5, g6, g7, g8, g9, g10, rfl⟩ := eleven qA.len
  clear hS hrA hbA hsA qA hC2 hrow
  (try clear ww)
  have hS := hS2
  clear hS2
  have HVR := Lib.hid (fun (ww : World) (L' : List (Nat × List Value)) (h : Own DA wA L' ww) => box_Valid_calls (n + 2) _ _ ww (HSA.out.turn QA.out h).rep (HSA.out.turn QA.out h).rep.wide _ (iff_f HvR.out))
  go_wp2_with (first | (refine own_unguard (by rfl) ?_) | (go_at_call 39; refine own_calls hS (HVR.out _ _ hS) ?_; clear hS; (try clear ww); intro ww hS) | (refine w_ld rfl _ rfl (by rfl) (by first | exact rd_1 (by repeat constructor) (by first | rfl | assumption) | exact rd_w (by repeat constructor) (by rfl) | exact rd_o (by assumption) (by rfl) (by first | exact nmn | assumption | simp) | exact rd_h (by assumption) (by rfl) (by first | exact nmn | assumption | simp) | exact rd_1o (by assumption) (by first | exact nmn | assumption | simp) | exact rd_1h (by assumption) (by first | rfl | assumption) (by first | exact nmn | assumption | simp)) hS ?_) | (refine own_box rfl _ _ rfl (by rfl) hS ?_; clear hS; (try clear ww); intro bb ww hS) | (refine w_al rfl rfl hS ?_; clear hS; (try clear ww); intro bb ww hS) | (refine w_st rfl _ _ rfl (by rfl) (by rfl) (by repeat constructor) (by rfl) (by rfl) (by first | rfl | assumption) hS ?_; clear hS; (try clear ww); intro ww hS) | (refine w_s1 rfl _ _ rfl (by rfl) (by repeat constructor) (by first | exact .c | exact .t rfl) (by rfl) (by repeat constructor) hS ?_; clear hS; (try clear ww); intro ww hS))
  have hc := (hS.get at3).cell
  refine bodyPost_ret (v := .tuple #[.agg #[.int .i64 0, .string ⟨#[]⟩, .int .i64 0, .int .i64 0, .int .i64 0, .int .i64 0, .int .i64 0, .int .i64 0, .slice none 0 0, .int .i64 0, .slice none 0 0], .int .i64 6]) (by simp [results, Try.results23, go_sem, hc]) rfl ⟨_, rfl, rep_zero m _, (chainH HCA.out hDA hS).below⟩

end Go.Proofs.Ytgpabckipmhobaa
namespace Go.Proofs.Ytgpabckipmhobaa
open Go.RowKit

attribute [local irreducible] wpQuiet wpG wpP wpK wpList Code.wp Calls

theorem RepLP.step {P : Nat → Prop} {w w' : World} {n : Nat} {x : Option Addr} {kids : List (Bx n)} (h : RepLP P w n x kids) (hb : Below w.heap.size w w') : RepLP P w' n x kids := fun i kid hi => by
  obtain ⟨k, o, css, e, hr, hp⟩ := h i kid hi
  exact ⟨k, o, css, e, rangeAt_below hr hb, repP_step hp hb⟩
theorem RepLP.one {P : Nat → Prop} {w : World} {n : Nat} {x : Option Addr} {b : Bx n} (h : RepLP P w n x [b]) : ∃ k o css, x = some ⟨k, o, none⟩ ∧ w.rangeAt k o css ∧ RepP P w n b css := by
  obtain ⟨k, o, css, rfl, hr, hp⟩ := h 0 b rfl
  rw [Nat.zero_mul, Nat.add_zero] at hr
  exact ⟨k, o, css, rfl, hr, hp⟩
theorem italic_ok (F : Fnt) (n : Nat) (b : Bx n) (cs : List Value) (w : World) (hF : FntOk w F) (hr : Rep w n b cs) (hf : ValidF F) (hb : validB n b) : Calls Try.prog 19 #[F.val, .agg cs.toArray] w (Gives (.int .i64 (italB F n b)) w) := by
  have := script_Italic_calls F n b cs w hF hr
  rwa [if_pos ⟨hf, hb⟩] at this

theorem scrMake_ok (P : Nat → Prop) (F : Fnt) (l : Int) (c : Bool) (n m : Nat) (base : Bx (n + 1)) (subs sups : List (Bx (n + 1))) (cs : List Value) (sx ux : Option Addr) (sc uc : Nat) (w : World) (hF : FntOk w F) (hP : ∀ k, P k → k < w.heap.size) (hr : RepP P w (n + 1) base cs) (hs : RepLP P w (n + 1) sx subs) (hu : RepLP P w (n + 1) ux sups) (h : ScrOk F l n base subs sups) (hvR : validB (n + 2) (scrB F l c n base subs sups)) : Calls Try.prog 23 #[F.val, .agg #[.int .i64 l, .bool c], .agg cs.toArray, .slice sx subs.length sc, .slice ux sups.length uc] w (GivesBEP P (n + 2) (scrB F l c n base subs sups) 0 w) := by
  have huv := scrUV_in (c := c) h
  have hit := ital_in h.1 h.2.2.1
  have hE := extL_i64 (l := (scrK F l c n base subs sups).map (·.1)) (fun a ha => by
    obtain ⟨k, hk, rfl⟩ := List.mem_map.1 ha
    exact scrK_mild h k hk)
  have hSh := fun w' (hb : Below w.heap.size w w') => shifts_calls F l c n base subs sups cs sx ux sc uc w' (hF.below hb) (hr.rep.step hb) (repLP_L (hs.step hb)) (repLP_L (hu.step hb)) h
  have hIt := fun w' (hb : Below w.heap.size w w') => italic_ok F (n + 1) base cs w' (hF.below hb) (hr.rep.step hb) h.1 h.2.2.1
  have hM := scrK_mild (c := c) h
  obtain ⟨⟨bk, bn, bz, bw, bh, bd, bx, by_, bo, bs⟩, bks⟩ := base
  obtain ⟨kx, kc, tx, tc, rfl, _⟩ := rep_out hr.rep
  have bW := (valid_lens h.2.2.1).1
  rcases subs with _ | ⟨sb, _ | ⟨x, subs⟩⟩
  · rcases sups with _ | ⟨sp, _ | ⟨y, sups⟩⟩
    · exact scrMake_y00 P F l _ _ 0 bw c n m _ _ _ _ _ _ _ _ _ _ _ _ w sc uc sx ux hF h.2.1 h.1 hP hr h.2.2.1   hSh  rfl hM hE hvR bW  
    · obtain ⟨uk, uo, us, rfl, hu1, hu2⟩ := hu.one
      exact scrMake_y01 P F l _ _ 0 bw c n m _ _ _ _ _ _ _ _ _ _ _ _ w sc uc sx sp uk uo us hF h.2.1 h.1 hP hr h.2.2.1  hu1 hu2 (h.2.2.2.2.2 sp (by simp)) hSh  rfl hM hE hvR bW  huv.1
    · have := h.2.2.2.2.1; simp at this
  · rcases sups with _ | ⟨sp, _ | ⟨y, sups⟩⟩
    · obtain ⟨sk, so, ss, rfl, hs1, hs2⟩ := hs.one
      exact scrMake_y10 P F l _ _ _ bw c n m _ _ _ _ _ _ _ _ _ _ _ _ w sc uc sb sk so ss ux hF h.2.1 h.1 hP hr h.2.2.1 hs1 hs2 (h.2.2.2.1.2 sb (by simp))  hSh hIt rfl hM hE hvR bW hit huv.2 
    · obtain ⟨sk, so, ss, rfl, hs1, hs2⟩ := hs.one
      obtain ⟨uk, uo, us, rfl, hu1, hu2⟩ := hu.one
      exact scrMake_y11 P F l _ _ _ bw c n m _ _ _ _ _ _ _ _ _ _ _ _ w sc uc sb sk so ss sp uk uo us hF h.2.1 h.1 hP hr h.2.2.1 hs1 hs2 (h.2.2.2.1.2 sb (by simp)) hu1 hu2 (h.2.2.2.2.2 sp (by simp)) hSh hIt rfl hM hE hvR bW hit huv.2 huv.1
    · have := h.2.2.2.2.1; simp at this
  · have := h.2.2.2.1.1; simp at this

theorem scrMake_lim (P : Nat → Prop) (F : Fnt) (l : Int) (c : Bool) (n m : Nat) (base : Bx (n + 1)) (subs sups : List (Bx (n + 1))) (cs : List Value) (sx ux : Option Addr) (sc uc : Nat) (w : World) (hF : FntOk w F) (hP : ∀ k, P k → k < w.heap.size) (hr : RepP P w (n + 1) base cs) (hs : RepLP P w (n + 1) sx subs) (hu : RepLP P w (n + 1) ux sups) (h : ScrOk F l n base subs sups) (hvR : ¬ validB (n + 2) (scrB F l c n base subs sups)) : Calls Try.prog 23 #[F.val, .agg #[.int .i64 l, .bool c], .agg cs.toArray, .slice sx subs.length sc, .slice ux sups.length uc] w (GivesBE (m + 1) (zeroB m) 6 w) := by
  have huv := scrUV_in (c := c) h
  have hit := ital_in h.1 h.2.2.1
  have hE := extL_i64 (l := (scrK F l c n base subs sups).map (·.1)) (fun a ha => by
    obtain ⟨k, hk, rfl⟩ := List.mem_map.1 ha
    exact scrK_mild h k hk)
  have hSh := fun w' (hb : Below w.heap.size w w') => shifts_calls F l c n base subs sups cs sx ux sc uc w' (hF.below hb) (hr.rep.step hb) (repLP_L (hs.step hb)) (repLP_L (hu.step hb)) h
  have hIt := fun w' (hb : Below w.heap.size w w') => italic_ok F (n + 1) base cs w' (hF.below hb) (hr.rep.step hb) h.1 h.2.2.1
  have hM := scrK_mild (c := c) h
  obtain ⟨⟨bk, bn, bz, bw, bh, bd, bx, by_, bo, bs⟩, bks⟩ := base
  obtain ⟨kx, kc, tx, tc, rfl, _⟩ := rep_out hr.rep
  have bW := (valid_lens h.2.2.1).1
  rcases subs with _ | ⟨sb, _ | ⟨x, subs⟩⟩
  · rcases sups with _ | ⟨sp, _ | ⟨y, sups⟩⟩
    · exact scrMake_n00 P F l _ _ 0 bw c n m _ _ _ _ _ _ _ _ _ _ _ _ w sc uc sx ux hF h.2.1 h.1 hP hr h.2.2.1   hSh  rfl hM hE hvR bW  
    · obtain ⟨uk, uo, us, rfl, hu1, hu2⟩ := hu.one
      exact scrMake_n01 P F l _ _ 0 bw c n m _ _ _ _ _ _ _ _ _ _ _ _ w sc uc sx sp uk uo us hF h.2.1 h.1 hP hr h.2.2.1  hu1 hu2 (h.2.2.2.2.2 sp (by simp)) hSh  rfl hM hE hvR bW  huv.1
    · have := h.2.2.2.2.1; simp at this
  · rcases sups with _ | ⟨sp, _ | ⟨y, sups⟩⟩
    · obtain ⟨sk, so, ss, rfl, hs1, hs2⟩ := hs.one
      exact scrMake_n10 P F l _ _ _ bw c n m _ _ _ _ _ _ _ _ _ _ _ _ w sc uc sb sk so ss ux hF h.2.1 h.1 hP hr h.2.2.1 hs1 hs2 (h.2.2.2.1.2 sb (by simp))  hSh hIt rfl hM hE hvR bW hit huv.2 
    · obtain ⟨sk, so, ss, rfl, hs1, hs2⟩ := hs.one
      obtain ⟨uk, uo, us, rfl, hu1, hu2⟩ := hu.one
      exact scrMake_n11 P F l _ _ _ bw c n m _ _ _ _ _ _ _ _ _ _ _ _ w sc uc sb sk so ss sp uk uo us hF h.2.1 h.1 hP hr h.2.2.1 hs1 hs2 (h.2.2.2.1.2 sb (by simp)) hu1 hu2 (h.2.2.2.2.2 sp (by simp)) hSh hIt rfl hM hE hvR bW hit huv.2 huv.1
    · have := h.2.2.2.2.1; simp at this
  · have := h.2.2.2.1.1; simp at this

end Go.Proofs.Ytgpabckipmhobaa
namespace Go.Proofs.Ytgpabckipmhobaa
open Go.RowKit

attribute [local irreducible] wpQuiet wpG wpP wpK wpList Code.wp Calls

instance zt_fnt : ZeroTy Try.prog 27 [.slice none 0 0, .slice none 0 0, .int .i64 0, .int .i64 0, .int .i64 0, .int .i64 0, .int .i64 0, .int .i64 0, .int .i64 0, .int .i64 0, .int .i64 0, .int .i64 0, .int .i64 0, .int .i64 0, .int .i64 0, .int .i64 0, .int .i64 0, .int .i64 0, .int .i64 0, .int .i64 0, .int .i64 0, .int .i64 0] := ⟨.agg #[.slice none 0 0, .slice none 0 0, .int .i64 0, .int .i64 0, .int .i64 0, .int .i64 0, .int .i64 0, .int .i64 0, .int .i64 0, .int .i64 0, .int .i64 0, .int .i64 0, .int .i64 0, .int .i64 0, .int .i64 0, .int .i64 0, .int .i64 0, .int .i64 0, .int .i64 0, .int .i64 0, .int .i64 0, .int .i64 0], by kernel_rfl, rfl⟩
end Go.Proofs.Ytgpabckipmhobaa
namespace Go.Proofs.Ytgpabckipmhobaa
open Go.RowKit

attribute [local irreducible] wpQuiet wpG wpP wpK wpList Code.wp Calls

/-- The glyph, the font, the base and the subscript of the example. -/
def awG : Gly := { name := ⟨#[120]⟩, w := 430, h := 431, d := 0, it := 30, at_ := 0 }
def awS (k : Nat) : Fnt := { gx := some ⟨k, 0, none⟩, gc := 1, gs := [awG], sx := none, sc := 0, ss := [], quad := 0, xheight := 431, axis := 0, rule := 40, num1 := 0, num2 := 0, den1 := 0, den2 := 0, sup1 := 0, sup2 := 363, sup3 := 0, sub1 := 150, sub2 := 0, supdrop := 0, subdrop := 0, script := 70, sscript := 50, dpercent := 90, dshort := 0, acc := 0 }
def awB : Bx 1 := (⟨1, ⟨#[120]⟩, 100, 460, 431, 0, 0, 0, 0, []⟩, [])
def awU : Bx 1 := (⟨2, ⟨#[]⟩, 0, 10, 300, 0, 0, 0, 0, []⟩, [])
theorem awS_ok {w : World} {k : Nat} (h : Has w k awG.cells) : FntOk w (awS k) where
  glys := RowAt.of_has (junk := []) (fun _ _ => rfl) (by simpa [awS] using h)
  strs := .inl rfl
  gok := fun g hg => by
    obtain rfl : g = awG := by simpa [awS] using hg
    refine ⟨?_, by decide⟩
    simp [Gly.wf, awG, I64]
  sok := fun s hs => by cases hs
  glen := by simp [awS, maxLen]
  slen := Nat.zero_le _
  gcap := ⟨by simp [awS], fun _ => by simp [awS, maxLen]⟩
  scap := ⟨Nat.zero_le _, fun h => absurd rfl h⟩
  prm := fun n hn => by
    simp only [Fnt.prm, awS, List.mem_cons, Value.int.injEq, true_and, List.not_mem_nil, or_false] at hn
    unfold I64
    omega
theorem awS_valid (k : Nat) : ValidF (awS k) := by
  refine ⟨by show 1 ≤ 400; decide, by show 0 ≤ 40; decide, by rfl, fun j g hj => ?_, fun j s h => by simp [awS] at h⟩
  cases j with
  | zero =>
    obtain rfl : awG = g := by simpa [awS] using hj
    exact ⟨by rfl, fun i hi => by omega⟩
  | succ j => simp [awS] at hj
theorem awB_valid : validB 1 awB := ⟨by simp [allOwn, ownOk, lensOk, Hd.lens, kindOk, srcOk, srcEnd, awB]; decide, by decide, by decide⟩
theorem awU_valid : validB 1 awU := ⟨by simp [allOwn, ownOk, lensOk, Hd.lens, kindOk, srcOk, srcEnd, awU, Lib.toList_data], by decide, by decide⟩
theorem awO (k : Nat) : ScrOk (awS k) 1 0 awB [awU] [] := ⟨awS_valid k, by rfl, awB_valid, ⟨by decide, fun b hb => by obtain rfl := List.mem_singleton.1 hb; exact awU_valid⟩, ⟨by decide, fun b hb => by cases hb⟩⟩
def awR : Bx 2 := listB 1 460 431 150 [atXY 1 awB 0 0, atXY 1 awU 430 (-150)]
theorem awI (k : Nat) : italB (awS k) 1 awB = 30 := by
  have hp : pickG (awS k).gs ⟨#[120]⟩ = awG := by
    unfold pickG findG
    simp [awS, awG]
  have hi : innerS 1 awB = some ⟨0, awB⟩ := inner_glyph rfl
  unfold italB
  rw [hi]
  simp only [awB]
  rw [hp]
  rfl
theorem awK (k : Nat) : scrK (awS k) 1 false 0 awB [awU] [] = [atXY 1 awB 0 0, atXY 1 awU 430 (-150)] := by
  show [atXY 1 awB 0 0, atXY 1 awU (460 - italB (awS k) 1 awB) (-(scrUV (awS k) 1 false 0 awB [awU] []).2)] = _
  rw [awI]
  rfl
theorem awT_eq (k : Nat) : scrB (awS k) 1 false 0 awB [awU] [] = awR := by
  unfold scrB
  rw [awK]
  rfl
theorem awT_valid : validB 2 awR := ⟨by simp [allOwn, ownOk, lensOk, Hd.lens, kindOk, srcOk, srcEnd, awB, awU, awR, listB, atXY, Lib.toList_data]; decide, by decide, by decide⟩
theorem awB_rep (P : Nat → Prop) (w : World) : RepP P w 1 awB [.int .i64 1, .string ⟨#[120]⟩, .int .i64 100, .int .i64 460, .int .i64 431, .int .i64 0, .int .i64 0, .int .i64 0, .slice none 0 0, .int .i64 0, .slice none 0 0] :=
  rep_bare (rep_mk (kx := none) (sx := none) (kc := 0) (sc := 0) (by constructor <;> first | (unfold I64; simp; done) | (intro n hn; cases hn; done) | (simp [maxLen, ByteArray.size]; done) | decide) (by simp) (.inl rfl) (fun i kid hi => by simp at hi)) rfl
theorem awU_rep (P : Nat → Prop) (w : World) : RepP P w 1 awU [.int .i64 2, .string ⟨#[]⟩, .int .i64 0, .int .i64 10, .int .i64 300, .int .i64 0, .int .i64 0, .int .i64 0, .slice none 0 0, .int .i64 0, .slice none 0 0] :=
  rep_bare (rep_mk (kx := none) (sx := none) (kc := 0) (sc := 0) (by constructor <;> first | (unfold I64; simp; done) | (intro n hn; cases hn; done) | (simp [maxLen, ByteArray.size]; done) | decide) (by simp) (.inl rfl) (fun i kid hi => by simp at hi)) rfl
theorem awMake34 {w : World} {k s : Nat} (hg : Has w k awG.cells) (hs : Has w s [.int .i64 2, .string ⟨#[]⟩, .int .i64 0, .int .i64 10, .int .i64 300, .int .i64 0, .int .i64 0, .int .i64 0, .slice none 0 0, .int .i64 0, .slice none 0 0]) :
    Calls Try.prog 23 #[(awS k).val, .agg #[.int .i64 1, .bool false], .agg #[.int .i64 1, .string ⟨#[120]⟩, .int .i64 100, .int .i64 460, .int .i64 431, .int .i64 0, .int .i64 0, .int .i64 0, .slice none 0 0, .int .i64 0, .slice none 0 0], .slice (some ⟨s, 0, none⟩) 1 1, .slice none 0 0] w (GivesBE 2 awR 0 w) := by
  have h := scrMake_ok (fun k => k < w.heap.size) (awS k) 1 false 0 0 awB [awU] [] _ (some ⟨s, 0, none⟩) none 1 0 w (awS_ok hg) (fun _ h => h) (awB_rep _ w) (has_kids hs ⟨_, [], by simp, awU_rep _ w, rfl⟩) (fun i kid hi => by simp at hi) (awO k) (by rw [awT_eq]; exact awT_valid)
  rw [awT_eq] at h
  exact h.mono fun _ _ ⟨cs, he, hr, hb⟩ => ⟨cs, he, hr.rep, hb⟩
/-- The cells that the example looks at. -/
theorem awLook34 {w : World} {cs : List Value} (h : Rep w 2 awR cs) : ∃ c0 c1 c2 c4 c5 c6 c7 c9 c10 k o kc, cs = [c0, c1, c2, .int .i64 460, c4, c5, c6, c7, .slice (some ⟨k, o, none⟩) 2 kc, c9, c10] ∧ w.cell? ⟨k, o + 11 + 6, none⟩ = some (.int .i64 430) ∧ w.cell? ⟨k, o + 11 + 7, none⟩ = some (.int .i64 (-150)) ∧ cs.all (·.oneCell') = true := by
  have hall := rep_all h
  unfold awR at h
  obtain ⟨kx, kc, sx, sc, rfl, _, _, _, hk⟩ := rep_out h
  obtain ⟨k, o, css, rfl, hr0, hp0⟩ := hk 1 _ rfl
  obtain ⟨_, _, _, _, rfl, _⟩ := rep_out hp0
  rw [Nat.one_mul] at hr0
  exact ⟨_, _, _, _, _, _, _, _, _, k, o, kc, rfl, hr0 6 _ rfl, hr0 7 _ rfl, hall⟩

instance rt_gly34 : RowTy Try.prog 55 6 := ⟨⟨_, Try.underlying55, rfl⟩, by kernel_rfl⟩

set_option maxHeartbeats 8000000 in
set_option maxRecDepth 100000 in
theorem awake34_calls (w : World) : Calls Try.prog 9 #[] w (Gives (.bool true) w) := by
  go_enter Try.func9, Try.ntmps9
  have hS := own_start w
  go_wp2_with (first | (refine own_unguard (by rfl) ?_) | (refine own_buildSlice rfl _ _ 1 _ rfl awG.cells hS Try.underlying22 (by kernel_rfl) ?_; clear hS; (try clear ww); intro bg ww hS) | (refine own_buildSlice rfl _ _ 1 _ rfl [.int .i64 2, .string ⟨#[]⟩, .int .i64 0, .int .i64 10, .int .i64 300, .int .i64 0, .int .i64 0, .int .i64 0, .slice none 0 0, .int .i64 0, .slice none 0 0] hS Try.underlying30 (by kernel_rfl) ?_; clear hS; (try clear ww); intro bs ww hS) | (go_at_call 23; refine Calls.mono (awMake34 (hS.get at3) (hS.get at0)) ?_; rintro e w6 ⟨cs6, rfl, hr6, hb6⟩; have hB6 := bthen hS.below hb6; obtain ⟨c0, c1, c2, c4, c5, c6, c7, c9, c10, k, o, kc, rfl, hy0, hy1, hall⟩ := awLook34 hr6; clear hS hr6 hb6; have hS := own_start w6) | (refine own_store rfl _ _ _ rfl rfl rfl hS at0 rt_box (by rfl) hall ?_; clear hS; intro ww hS; (try simp only [List.set_cons_zero] at hS)) | (refine w_ld rfl _ rfl (by rfl) (by first | exact rd_1 (by repeat constructor) (by first | rfl | assumption) | exact rd_w (by repeat constructor) (by rfl) | exact rd_o (by assumption) (by rfl) (by first | exact nmn | assumption | simp) | exact rd_h (by assumption) (by rfl) (by first | exact nmn | assumption | simp) | exact rd_1o (by assumption) (by first | exact nmn | assumption | simp) | exact rd_1h (by assumption) (by first | rfl | assumption) (by first | exact nmn | assumption | simp)) hS ?_) | (refine own_box rfl _ _ rfl (by rfl) hS ?_; clear hS; (try clear ww); intro bb ww hS) | (refine w_al rfl rfl hS ?_; clear hS; (try clear ww); intro bb ww hS) | (refine w_st rfl _ _ rfl (by rfl) (by rfl) (by repeat constructor) (by rfl) (by rfl) (by first | rfl | assumption) hS ?_; clear hS; (try clear ww); intro ww hS) | (refine w_s1 rfl _ _ rfl (by rfl) (by repeat constructor) (by first | exact .c | exact .t rfl) (by rfl) (by repeat constructor) hS ?_; clear hS; (try clear ww); intro ww hS))
  go_ret
  exact ⟨rfl, bthen hB6 hS.below⟩

end Go.Proofs.Ytgpabckipmhobaa
namespace Go.Proofs.Ytgpabckipmhobaa
open Go.RowKit

attribute [local irreducible] wpQuiet wpG wpP wpK wpList Code.wp Calls







end Go.Proofs.Ytgpabckipmhobaa
namespace Go.Proofs.Ytgpabckipmhobaa
open Go.RowKit

attribute [local irreducible] wpQuiet wpG wpP wpK wpList Code.wp Calls

theorem modB_out {n : Nat} {b : Bx (n + 1)} (h : modB n b = true) : (-100000000 ≤ b.1.w ∧ b.1.w ≤ 100000000) ∧ (-100000000 ≤ b.1.h ∧ b.1.h ≤ 100000000) ∧ (-100000000 ≤ b.1.d ∧ b.1.d ≤ 100000000) ∧ (-100000000 ≤ b.1.x ∧ b.1.x ≤ 100000000) ∧ (-100000000 ≤ b.1.y ∧ b.1.y ≤ 100000000) := by
  simp [modB, modL, Hd.lens] at h
  omega
/-- The cells of a box. -/
theorem kid_out {w : World} {n : Nat} {k sz bw bh bd x y o : Int} {nm : ByteArray} {src : List Int} {kids : List (Bx n)} {cs : List Value} (h : Rep w (n + 1) (⟨k, nm, sz, bw, bh, bd, x, y, o, src⟩, kids) cs) : ∃ kx kc sx sc, cs = [.int .i64 k, .string nm, .int .i64 sz, .int .i64 bw, .int .i64 bh, .int .i64 bd, .int .i64 x, .int .i64 y, .slice kx kids.length kc, .int .i64 o, .slice sx src.length sc] := by
  obtain ⟨kx, kc, sx, sc, rfl, _⟩ := rep_out h
  exact ⟨kx, kc, sx, sc, rfl⟩
/-- A list of three boxes, and the boxes. -/
theorem three_out {w : World} {n : Nat} {bw bh bd : Int} {b0 b1 b2 : Bx (n + 1)} {cs : List Value} (h : Rep w (n + 2) (listB (n + 1) bw bh bd [b0, b1, b2]) cs) : ∃ k o kc sx sc q0 q1 q2, cs = [.int .i64 3, .string ⟨#[]⟩, .int .i64 0, .int .i64 bw, .int .i64 bh, .int .i64 bd, .int .i64 0, .int .i64 0, .slice (some ⟨k, o, none⟩) 3 kc, .int .i64 0, .slice sx 0 sc] ∧ w.rangeAt k o q0 ∧ w.rangeAt k (o + 11) q1 ∧ w.rangeAt k (o + 22) q2 ∧ Rep w (n + 1) b0 q0 ∧ Rep w (n + 1) b1 q1 ∧ Rep w (n + 1) b2 q2 := by
  obtain ⟨kx, kc, sx, sc, rfl, _, _, _, hk⟩ := rep_out h
  obtain ⟨k, o, q0, rfl, hr0, hp0⟩ := hk 0 _ rfl
  obtain ⟨k1, o1, q1, e1, hr1, hp1⟩ := hk 1 _ rfl
  obtain ⟨rfl, rfl⟩ : k = k1 ∧ o = o1 := by simpa using e1
  obtain ⟨k2, o2, q2, e2, hr2, hp2⟩ := hk 2 _ rfl
  obtain ⟨rfl, rfl⟩ : k = k2 ∧ o = o2 := by simpa using e2
  rw [Nat.zero_mul, Nat.add_zero] at hr0
  rw [Nat.one_mul] at hr1
  exact ⟨k, o, kc, sx, sc, q0, q1, q2, rfl, hr0, hr1, hr2, hp0, hp1, hp2⟩
theorem wrap_in {n : Int} (h : -4000000000 ≤ n ∧ n ≤ 4000000000) : IntKind.i64.wrap n = n := IntWalk.i64_in n (by omega)

end Go.Proofs.Ytgpabckipmhobaa
namespace Go.Proofs.Ytgpabckipmhobaa
open Go.RowKit

attribute [local irreducible] wpQuiet wpG wpP wpK wpList Code.wp Calls

theorem repLP_old {w : World} {n : Nat} {x : Option Addr} {l : List (Bx n)} (h : RepL w n x l) : RepLP (fun k => k < w.heap.size) w n x l := fun i kid hi => by
  obtain ⟨k, o, css, e, hr, hp⟩ := h i kid hi
  exact ⟨k, o, css, e, hr, repP_old hp⟩
/-- When there is a result. -/
def MadeOkS (F : Fnt) (l : Int) (c : Bool) (n : Nat) (base : Bx (n + 1)) (subs sups : List (Bx (n + 1))) : Prop := tameS F (n + 1) base subs sups = true ∧ subs.length ≤ 1 ∧ sups.length ≤ 1 ∧ modL2 n (base :: (subs ++ sups)) = true ∧ ScrOk F l n base subs sups ∧ validB (n + 2) (scrB F l c n base subs sups)
theorem made34_ok (F : Fnt) (l : Int) (c : Bool) (n : Nat) (base : Bx (n + 1)) (subs sups : List (Bx (n + 1))) (cs : List Value) (sx ux : Option Addr) (sc uc : Nat) (w : World) (hF : FntOk w F) (hr : Rep w (n + 1) base cs) (hs : RepL w (n + 1) sx subs) (hu : RepL w (n + 1) ux sups) (b1 : subs.length ≤ 1048576) (b2 : sups.length ≤ 1048576) (h : MadeOkS F l c n base subs sups) : Calls Try.prog 10 #[.agg (caseS F l c cs (.slice sx subs.length sc) (.slice ux sups.length uc)).toArray] w (GivesMade (n + 2) (scrB F l c n base subs sups) true w) :=
  made34_yes F l c n base subs sups cs sx ux sc uc w hF hr hs hu b1 b2 h.1 h.2.1 h.2.2.1 h.2.2.2.1 _ _ _ _ (by simp [scrK]; omega) (fun w' hb => scrMake_ok (fun k => k < w.heap.size) F l c n 0 base subs sups cs sx ux sc uc w' (hF.below hb) (fun _ hk => Nat.lt_of_lt_of_le hk hb.size) (repP_step (repP_old hr) hb) (RepLP.step (repLP_old hs) hb) (RepLP.step (repLP_old hu) hb) h.2.2.2.2.1 h.2.2.2.2.2)
theorem made34_bad (F : Fnt) (l : Int) (c : Bool) (n : Nat) (base : Bx (n + 1)) (subs sups : List (Bx (n + 1))) (cs : List Value) (sx ux : Option Addr) (sc uc : Nat) (w : World) (hF : FntOk w F) (hr : Rep w (n + 1) base cs) (hs : RepL w (n + 1) sx subs) (hu : RepL w (n + 1) ux sups) (b1 : subs.length ≤ 1048576) (b2 : sups.length ≤ 1048576) (m : Nat) (hb : ¬ MadeOkS F l c n base subs sups) : Calls Try.prog 10 #[.agg (caseS F l c cs (.slice sx subs.length sc) (.slice ux sups.length uc)).toArray] w (GivesMade (m + 1) (zeroB m) false w) := by
  cases ht : tameS F (n + 1) base subs sups
  · exact made34_no0 F l c n base subs sups cs sx ux sc uc w hF hr hs hu b1 b2 m ht
  · by_cases h1 : subs.length ≤ 1
    · by_cases h2 : sups.length ≤ 1
      · cases hm : modL2 n (base :: (subs ++ sups))
        · exact made34_no3 F l c n base subs sups cs sx ux sc uc w hF hr hs hu b1 b2 m ht h1 h2 hm
        · by_cases ho : ScrOk F l n base subs sups
          · by_cases hv : validB (n + 2) (scrB F l c n base subs sups)
            · exact absurd ⟨ht, h1, h2, hm, ho, hv⟩ hb
            · exact made34_err F l c n base subs sups cs sx ux sc uc w hF hr hs hu b1 b2 m 6 (by omega) ht h1 h2 hm (fun w' hb => scrMake_lim (fun k => k < w.heap.size) F l c n m base subs sups cs sx ux sc uc w' (hF.below hb) (fun _ hk => Nat.lt_of_lt_of_le hk hb.size) (repP_step (repP_old hr) hb) (RepLP.step (repLP_old hs) hb) (RepLP.step (repLP_old hu) hb) ho hv)
          · exact made34_err F l c n base subs sups cs sx ux sc uc w hF hr hs hu b1 b2 m 1 (by omega) ht h1 h2 hm (fun w' hb => scrMake_bad F l c n m base subs sups cs sx ux sc uc w' (hF.below hb) (hr.step hb) (hs.step hb) (hu.step hb) ho)
      · exact made34_no2 F l c n base subs sups cs sx ux sc uc w hF hr hs hu b1 b2 m ht h1 (by omega)
    · exact made34_no1 F l c n base subs sups cs sx ux sc uc w hF hr hs hu b1 b2 m ht (by omega)
/-- A list of one box, of two, of three, and the boxes. -/
theorem list1_out {w : World} {n : Nat} {bw bh bd : Int} {b0 : Bx (n + 1)} {cs : List Value} (h : Rep w (n + 2) (listB (n + 1) bw bh bd [b0]) cs) : ∃ k o kc sx sc q0, cs = [.int .i64 3, .string ⟨#[]⟩, .int .i64 0, .int .i64 bw, .int .i64 bh, .int .i64 bd, .int .i64 0, .int .i64 0, .slice (some ⟨k, o, none⟩) 1 kc, .int .i64 0, .slice sx 0 sc] ∧ w.rangeAt k o q0 ∧ Rep w (n + 1) b0 q0 := by
  obtain ⟨kx, kc, sx, sc, rfl, _, _, _, hk⟩ := rep_out h
  obtain ⟨k, o, q0, rfl, hr0, hp0⟩ := hk 0 _ rfl
  rw [Nat.zero_mul, Nat.add_zero] at hr0
  exact ⟨k, o, kc, sx, sc, q0, rfl, hr0, hp0⟩
theorem list2_out {w : World} {n : Nat} {bw bh bd : Int} {b0 b1 : Bx (n + 1)} {cs : List Value} (h : Rep w (n + 2) (listB (n + 1) bw bh bd [b0, b1]) cs) : ∃ k o kc sx sc q0 q1, cs = [.int .i64 3, .string ⟨#[]⟩, .int .i64 0, .int .i64 bw, .int .i64 bh, .int .i64 bd, .int .i64 0, .int .i64 0, .slice (some ⟨k, o, none⟩) 2 kc, .int .i64 0, .slice sx 0 sc] ∧ w.rangeAt k o q0 ∧ w.rangeAt k (o + 11) q1 ∧ Rep w (n + 1) b0 q0 ∧ Rep w (n + 1) b1 q1 := by
  obtain ⟨kx, kc, sx, sc, rfl, _, _, _, hk⟩ := rep_out h
  obtain ⟨k, o, q0, rfl, hr0, hp0⟩ := hk 0 _ rfl
  obtain ⟨k1, o1, q1, e1, hr1, hp1⟩ := hk 1 _ rfl
  obtain ⟨rfl, rfl⟩ : k = k1 ∧ o = o1 := by simpa using e1
  rw [Nat.zero_mul, Nat.add_zero] at hr0
  rw [Nat.one_mul] at hr1
  exact ⟨k, o, kc, sx, sc, q0, q1, rfl, hr0, hr1, hp0, hp1⟩
theorem cell_below {w w' : World} {a : Addr} {v : Value} (h : w.cell? a = some v) (hb : Below w.heap.size w w') : w'.cell? a = some v := (hb.cell (World.block_lt_of_cell? w _ h)).trans h
theorem modL2_out {n : Nat} {l : List (Bx (n + 1))} (h : modL2 n l = true) {b : Bx (n + 1)} (hb : b ∈ l) : (-100000000 ≤ b.1.w ∧ b.1.w ≤ 100000000) ∧ (-100000000 ≤ b.1.h ∧ b.1.h ≤ 100000000) ∧ (-100000000 ≤ b.1.d ∧ b.1.d ≤ 100000000) ∧ (-100000000 ≤ b.1.x ∧ b.1.x ≤ 100000000) ∧ (-100000000 ≤ b.1.y ∧ b.1.y ≤ 100000000) :=
  modB_out (List.all_eq_true.1 h b hb)
/-- The gap is kept. -/
theorem shGap_ok (u v ud sh m r4 : Int) : r4 ≤ (shGap u v ud sh m r4).1 - ud - (-(shGap u v ud sh m r4).2 + sh) := by
  unfold shGap
  repeat' split
  all_goals (simp only; omega)
theorem shUp_ok (F : Fnt) (l : Int) (c : Bool) (u ud : Int) : shX F l 25 ≤ shUp F l c u ud - ud := by
  unfold shUp
  omega
theorem shLow_ok (F : Fnt) (l v sh : Int) : -(shLow F l v sh) + sh ≤ shX F l 80 := by
  unfold shLow
  omega
theorem scr_gap (F : Fnt) (l : Int) (c : Bool) (n : Nat) (base sb sp : Bx (n + 1)) : 4 * par F l F.rule ≤ (scrUV F l c n base [sb] [sp]).1 - sp.1.d - (-(scrUV F l c n base [sb] [sp]).2 + sb.1.h) := shGap_ok _ _ _ _ _ _
theorem scr_up (F : Fnt) (l : Int) (c : Bool) (n : Nat) (base sp : Bx (n + 1)) : shX F l 25 ≤ (scrUV F l c n base [] [sp]).1 - sp.1.d := shUp_ok _ _ _ _ _
theorem scr_low (F : Fnt) (l : Int) (c : Bool) (n : Nat) (base sb : Bx (n + 1)) : -(scrUV F l c n base [sb] []).2 + sb.1.h ≤ shX F l 80 := shLow_ok _ _ _ _

end Go.Proofs.Ytgpabckipmhobaa
namespace Go.Proofs.Ytgpabckipmhobaa
open Go.RowKit Go.ChangeShapes Go.WideShapes Go.ChangeAt

theorem Try.own : ownKnob Try.prog.godebug = none := by kernel_rfl
theorem Try.laidOut : laidOutB Try.prog = true := by kernel_rfl

/-- All arguments read as before. -/
theorem below_trodAll {H : Type} {enc : TypeId × Value → H} {P : Program} (hl : laidOutB P = true) {W W' : World} (hb : Below W.heap.size W W') (ts : List TypeId) :
    ∀ (vs : List Value) (ds : List (DataW H)) (ps : List MemPlace), (∀ t ∈ ts, P.readableRec t = true ∧ t < P.types.size) → DataW.TrodAll enc P W 0 (fun _ => true) true ts vs ds ps →
    (∀ x ∈ ps, x.block < W.heap.size) → DataW.TrodAll enc P W' 0 (fun b => decide (b < W.heap.size)) true ts vs ds ps := by
  induction ts with
  | nil => intro vs ds ps _ h _; obtain ⟨rfl, rfl, rfl⟩ := trodAll_nil h; exact rfl
  | cons t ts ih =>
    intro vs ds ps hr h hlt
    obtain ⟨v, vs', d, ds', p, q, rfl, rfl, rfl, h1, h2⟩ := trodAll_cons h
    exact ⟨p, q, Below.trod hl (hr t (by simp)).1 (hr t (by simp)).2 h1 hb (fun x hx => hlt x (by simp [hx])),
      ih vs' ds' q (fun u hu => hr u (by simp [hu])) h2 (fun x hx => hlt x (by simp [hx])), rfl⟩

/-- What the row asks behind the call of a law. -/
theorem law_post {H : Type} {enc : TypeId × Value → H} {P : Program} (hl : laidOutB P = true) {f : Func} {s : ChangeSpec} {tb : TypeId} {W W' : World} {args : Array Value} {ds gs : List (DataW H)} {before : List MemPlace}
    (hvars : s.vars = []) (hres : f.resultTypes = #[tb]) (hbool : P.underlying tb = some .bool) (hread : ∀ t ∈ f.params.toList, P.readableRec t = true ∧ t < P.types.size)
    (hspec : s.fn H (ds ++ gs) = { results := [.lit (.bool true)], args := ds }) (hW : DataW.Whole enc P f.params.toList s.vars false W args.toList ds gs before) (hb : Below W.heap.size W W') :
    s.post enc P f false true false false W args (.bool true) W' := by
  obtain ⟨p, q, hA, hV, rfl, hfz, hnd⟩ := id hW
  refine ⟨ds, gs, p ++ q, [], p, [], hW, ?_, ?_, ?_, Below.frame hb _, fun h => by cases h⟩
  · rw [hspec, hres]
    exact trodAll_mk1 (shut_bool hbool true)
  · rw [hspec]
    exact below_trodAll hl hb _ _ _ _ hread hA (fun x hx => hW.lt x (by simp [hx]))
  · rw [hspec, hvars]
    exact rfl
end Go.Proofs.Ytgpabckipmhobaa
