/- Chapter 37, ArrayGrid: the law returns true. -/
import Derived.Test.YtgnkngkogamjaaaK20
import Derived.Test.YtgnkngkogamjaaaK23
import Derived.Test.YtgnkngkogamjaaaK18
namespace Go.Proofs.Ytgnkngkogamjaaa
open Go.RowKit
attribute [local irreducible] wpQuiet wpG wpP wpK wpList Code.wp Calls

set_option maxHeartbeats 16000000 in
set_option maxRecDepth 100000 in
theorem arrayGrid_wild (F : Fnt) (l : Int) (c : Bool) (C : Int) (n : Nat) (kids : List (Bx (n + 1))) (kx : Option Addr) (kc : Nat) (w : World) (hF : FntOk w F) (hk : RepL w (n + 1) kx kids) (hm : kids.length ≤ maxLen) (ht : ¬ RightOk F l n C kids) : Calls Try.prog 5 #[.agg (caseX F l c).toArray, .int .i64 C, .slice kx kids.length kc] w (Gives (.bool true) w) := by
  have HRi := Lib.hid (fun w' (h : Below w.heap.size w w') => right37_calls F l c n C kids kx kc w' (hF.below h) (hk.step h) hm false (iff_f ht))
  clear hF hk ht
  go_enter Try.func5, Try.ntmps5
  have hS := own_start w
  go_wp2_with (first | (refine own_unguard (by rfl) ?_) | (refine own_box rfl _ _ rfl rfl hS ?_; clear hS; intro kb w0 hS0; have hrC := (hS0.get at0).range; have HB0 := Lib.hid hS0.below; obtain ⟨hrF, hrS⟩ := caseX_out hrC; have hS := own_start w0; clear hS0) | (refine own_load_old rfl _ _ rfl rfl hS hrC List.not_mem_nil rt_case37 ?_) | (refine own_load_old rfl _ _ rfl rfl hS hrF List.not_mem_nil rt_font ?_) | (refine own_load_old rfl _ _ rfl rfl hS hrS List.not_mem_nil rt_style ?_) | (go_at_call 8; refine own_calls hS (by first | exact awake37_calls _) ?_; clear hS; (try clear ww); intro ww hS) | (go_at_call 13; refine own_calls hS (HRi.out _ (bthen HB0.out hS.below)) ?_; clear hS; (try clear ww); intro ww hS) | (refine w_ld rfl _ rfl (by rfl) (by first | exact rd_1 (by repeat constructor) (by first | rfl | assumption) | exact rd_w (by repeat constructor) (by rfl) | exact rd_o (by assumption) (by rfl) (by first | exact nmn | assumption | simp) | exact rd_h (by assumption) (by rfl) (by first | exact nmn | assumption | simp) | exact rd_1o (by assumption) (by first | exact nmn | assumption | simp) | exact rd_1h (by assumption) (by first | rfl | assumption) (by first | exact nmn | assumption | simp)) hS ?_) | (refine own_box rfl _ _ rfl (by rfl) hS ?_; clear hS; (try clear ww); intro bb ww hS) | (refine w_al rfl rfl hS ?_; clear hS; (try clear ww); intro bb ww hS) | (refine w_st rfl _ _ rfl (by rfl) (by rfl) (by repeat constructor) (by rfl) (by rfl) (by first | rfl | assumption) hS ?_; clear hS; (try clear ww); intro ww hS) | (refine w_s1 rfl _ _ rfl (by rfl) (by repeat constructor) (by first | exact .c | exact .t rfl) (by rfl) (by repeat constructor) hS ?_; clear hS; (try clear ww); intro ww hS))
  go_ret
  exact ⟨rfl, bthen HB0.out hS.below⟩

theorem kid_at {w : World} {n k o : Nat} {KS : List (Bx n)} (h : RepL w n (some ⟨k, o, none⟩) KS) {i : Nat} {kid : Bx n} (hi : KS[i]? = some kid) : ∃ css, w.rangeAt k (o + i * 11) css ∧ Rep w n kid css := by
  obtain ⟨k2, o2, css, e, h1, h2⟩ := h i kid hi
  cases e
  exact ⟨css, h1, h2⟩

set_option maxHeartbeats 16000000 in
set_option maxRecDepth 100000 in
theorem arrayGrid_main (F : Fnt) (l : Int) (c : Bool) (K n : Nat) (kids : List (Bx (n + 1))) (kx : Option Addr) (kc : Nat) (w : World) (hF : FntOk w F) (hk : RepL w (n + 1) kx kids) (hm : kids.length ≤ maxLen) (hR : RightOk F l n (K : Int) kids) (W H D : Int) (KS : List (Bx (n + 1))) (hM : ∀ w', Below w.heap.size w w' → Calls Try.prog 10 #[F.val, .agg #[.int .i64 l, .bool c], .int .i64 K, .slice kx kids.length kc] w' (GivesBE (n + 2) (listB (n + 1) W H D KS) 0 w')) (hlen : KS.length = kids.length)
    (hks : ∀ j k, KS[j]? = some k → ∃ p m kp km, p = j - j % K ∧ m = j % K ∧ KS[p]? = some kp ∧ KS[m]? = some km ∧ kp.1.y = k.1.y ∧ (-2 ≤ 2 * k.1.x + k.1.w - 2 * km.1.x - km.1.w ∧ 2 * k.1.x + k.1.w - 2 * km.1.x - km.1.w ≤ 2) ∧ ((-1073741824 ≤ k.1.x ∧ k.1.x ≤ 1073741824) ∧ (-1073741824 ≤ k.1.w ∧ k.1.w ≤ 1073741824)) ∧ ((-1073741824 ≤ km.1.x ∧ km.1.x ≤ 1073741824) ∧ (-1073741824 ≤ km.1.w ∧ km.1.w ≤ 1073741824))) : Calls Try.prog 5 #[.agg (caseX F l c).toArray, .int .i64 (K : Int), .slice kx kids.length kc] w (Gives (.bool true) w) := by
  have HRi := Lib.hid (fun w' (h : Below w.heap.size w w') => right37_calls F l c n K kids kx kc w' (hF.below h) (hk.step h) hm true (iff_t hR))
  have HM := Lib.hid (fun w' (h : Below w.heap.size w w') => hM w' h)
  have HKK := Lib.hid hks
  have e0 : ((KS.length : Int) == (kids.length : Int)) = true := by rw [hlen]; exact beq_self_eq_true _
  have e1 : KS.length = kids.length := hlen
  have e2 : KS.length ≤ 256 := by have := hR.2.2.2.2.2.2.1; omega
  have z7 : (K : Int) ≠ 0 := by have := hR.2.2.2.1; omega
  have zz7 : ¬ K = 0 := by omega
  clear hF hk hR hM hks hlen
  go_enter Try.func5, Try.ntmps5
  have hS := own_start w
  go_wp2_with (first | (refine own_unguard (by rfl) ?_) | (refine own_box rfl _ _ rfl rfl hS ?_; clear hS; intro kb w0 hS0; have hrC := (hS0.get at0).range; have HB0 := Lib.hid hS0.below; obtain ⟨hrF, hrS⟩ := caseX_out hrC; have hS := own_start w0; clear hS0) | (refine own_load_old rfl _ _ rfl rfl hS hrC List.not_mem_nil rt_case37 ?_) | (refine own_load_old rfl _ _ rfl rfl hS hrF List.not_mem_nil rt_font ?_) | (refine own_load_old rfl _ _ rfl rfl hS hrS List.not_mem_nil rt_style ?_) | (go_at_call 8; refine own_calls hS (by first | exact awake37_calls _) ?_; clear hS; (try clear ww); intro ww hS) | (go_at_call 13; refine own_calls hS (HRi.out _ (bthen HB0.out hS.below)) ?_; clear hS; (try clear ww); intro ww hS) | (go_at_call 10; refine own_be hS (HM.out _ (bthen HB0.out hS.below)) ?_; intro es w1 hR1 hS1 hb1; have hBk := Lib.hid (bthen HB0.out hS1.below); have hrFk := rangeAt_below hrF hS1.below; have hrSk := rangeAt_below hrS hS1.below; obtain ⟨ax, ac, tx, tc, rfl, _, _, _, hks⟩ := rep_out hR1; have HKs := Lib.hid hks; clear hks hR1 hS hS1 hb1; have hS := own_start w1) | (refine own_load_old rfl _ _ rfl rfl hS hrFk List.not_mem_nil rt_font ?_) | (refine own_load_old rfl _ _ rfl rfl hS hrSk List.not_mem_nil rt_style ?_) | (refine w_al rfl rfl hS ?_; clear hS; (try clear ww); intro bb ww hS) | (refine own_store rfl _ _ _ rfl rfl rfl hS at0 rt_box (by rfl) (by assumption) ?_; clear hS; (try clear ww); intro ww hS; (try simp only [List.set_cons_zero] at hS)) | (refine w_ld rfl _ rfl (by rfl) (by first | exact rd_1 (by repeat constructor) (by first | rfl | assumption) | exact rd_w (by repeat constructor) (by rfl) | exact rd_o (by assumption) (by rfl) (by first | exact nmn | assumption | simp) | exact rd_h (by assumption) (by rfl) (by first | exact nmn | assumption | simp) | exact rd_1o (by assumption) (by first | exact nmn | assumption | simp) | exact rd_1h (by assumption) (by first | rfl | assumption) (by first | exact nmn | assumption | simp)) hS ?_) | (refine own_box rfl _ _ rfl (by rfl) hS ?_; clear hS; (try clear ww); intro bb ww hS) | (refine w_al rfl rfl hS ?_; clear hS; (try clear ww); intro bb ww hS) | (refine w_st rfl _ _ rfl (by rfl) (by rfl) (by repeat constructor) (by rfl) (by rfl) (by first | rfl | assumption) hS ?_; clear hS; (try clear ww); intro ww hS) | (refine w_s1 rfl _ _ rfl (by rfl) (by repeat constructor) (by first | exact .c | exact .t rfl) (by rfl) (by repeat constructor) hS ?_; clear hS; (try clear ww); intro ww hS))
  obtain ⟨L0, HL0, hS0⟩ := hS.named
  clear hS
  have hS := hS0
  clear hS0
  go_loopw [9] (fun i wr => ∃ j : Nat, j ≤ KS.length ∧ i = .int .i64 j ∧ Own [] w1 L0 wr) (fun i _ => KS.length - (intOf i).toNat)
  case atStart => exact ⟨0, Nat.zero_le _, rfl, hS⟩
  case round =>
    clear hS
    obtain ⟨j, hj, rfl, hS⟩ := hrel
    obtain rfl := HL0.out
    clear HL0
    by_cases hlt : j < KS.length
    · skip
      obtain ⟨kid, hkid⟩ : ∃ kid, KS[j]? = some kid := ⟨KS[j], by simp [hlt]⟩
      obtain ⟨p, m, kp, km, hp, hm, hkp, hkm, hyy, hb1, hb2, hb3⟩ := HKK.out j kid hkid
      have hpl : p < KS.length := (List.getElem?_eq_some_iff.1 hkp).1
      have hml : m < KS.length := (List.getElem?_eq_some_iff.1 hkm).1
      obtain ⟨kb, ko, css, hkx, hrg, hrep⟩ := HKs.out j kid hkid
      obtain rfl : ax = some ⟨kb, ko, none⟩ := hkx
      obtain ⟨css2, hrgm, hrepm⟩ := kid_at HKs.out hkm
      obtain ⟨css3, hrgp, hrepp⟩ := kid_at HKs.out hkp
      obtain ⟨qx, qc, rx, rc, rfl, _⟩ := rep_out hrep
      obtain ⟨qx2, qc2, rx2, rc2, rfl, _⟩ := rep_out hrepm
      obtain ⟨qx3, qc3, rx3, rc3, rfl, _⟩ := rep_out hrepp
      have hlt2 : j < kids.length := by rw [← e1]; exact hlt
      have hml2 : m < kids.length := by rw [← e1]; exact hml
      have hpl2 : p < kids.length := by rw [← e1]; exact hpl
      have cy1 := hrg 7 _ rfl
      have cy2 := hrgp 7 _ rfl
      rw [hyy] at cy2
      have em : (j : Int) % (K : Int) = (m : Int) := by rw [hm]; push_cast; rfl
      have tm : (j : Int).tmod (K : Int) = (m : Int) := by rw [Int.tmod_eq_emod_of_nonneg (by omega), em]
      have hmj : m ≤ j := by rw [hm]; exact Nat.mod_le _ _
      have js : IntKind.i64.wrap ((j : Int) - (m : Int)) = (p : Int) := by rw [IntWalk.i64_in _ (by omega), hp, ← hm]; omega
      have jm : IntKind.i64.wrap (m : Int) = (m : Int) := IntWalk.i64_in _ (by omega)
      obtain ⟨s1, hs1⟩ : ∃ z, z = 2 * kid.1.x := ⟨_, rfl⟩
      obtain ⟨s2, hs2⟩ : ∃ z, z = s1 + kid.1.w := ⟨_, rfl⟩
      obtain ⟨s3, hs3⟩ : ∃ z, z = 2 * km.1.x := ⟨_, rfl⟩
      obtain ⟨s4, hs4⟩ : ∃ z, z = s2 - s3 := ⟨_, rfl⟩
      obtain ⟨s5, hs5⟩ : ∃ z, z = s4 - km.1.w := ⟨_, rfl⟩
      have j1 : IntKind.i64.wrap (2 * kid.1.x) = s1 := by rw [IntWalk.i64_in _ (by omega), hs1]
      have j2 : IntKind.i64.wrap (s1 + kid.1.w) = s2 := by rw [IntWalk.i64_in _ (by omega), hs2]
      have j3 : IntKind.i64.wrap (2 * km.1.x) = s3 := by rw [IntWalk.i64_in _ (by omega), hs3]
      have j4 : IntKind.i64.wrap (s2 - s3) = s4 := by rw [IntWalk.i64_in _ (by omega), hs4]
      have j5 : IntKind.i64.wrap (s4 - km.1.w) = s5 := by rw [IntWalk.i64_in _ (by omega), hs5]
      have f1 : decide (s5 < -2) = false := decide_eq_false (by omega)
      have f2 : decide (2 < s5) = false := decide_eq_false (by omega)
      clear hs1 hs2 hs3 hs4 hs5 hb1 hb2 hb3 hkid hrep hkm hkp hrepm hrepp hyy hp hm hmj hrgp
      go_upto_region 11 with (first | (refine own_unguard (by rfl) ?_) | (refine w_ld rfl _ rfl (by rfl) (by first | exact rd_1 (by repeat constructor) (by first | rfl | assumption) | exact rd_w (by repeat constructor) (by rfl) | exact rd_o (by assumption) (by rfl) (by first | exact nmn | assumption | simp) | exact rd_h (by assumption) (by rfl) (by first | exact nmn | assumption | simp) | exact rd_1o (by assumption) (by first | exact nmn | assumption | simp) | exact rd_1h (by assumption) (by first | rfl | assumption) (by first | exact nmn | assumption | simp)) hS ?_) | (refine own_box rfl _ _ rfl (by rfl) hS ?_; clear hS; (try clear ww); intro bb ww hS) | (refine w_al rfl rfl hS ?_; clear hS; (try clear ww); intro bb ww hS) | (refine w_st rfl _ _ rfl (by rfl) (by rfl) (by repeat constructor) (by rfl) (by rfl) (by first | rfl | assumption) hS ?_; clear hS; (try clear ww); intro ww hS) | (refine w_s1 rfl _ _ rfl (by rfl) (by repeat constructor) (by first | exact .c | exact .t rfl) (by rfl) (by repeat constructor) hS ?_; clear hS; (try clear ww); intro ww hS))
      (try simp only [Act.put]); (try simp only [List.setIfInBounds_toArray]); (try simp only [List.set_cons_succ]); (try simp only [List.set_cons_zero])
      refine own_any hS [] 17 (by kernel_rfl) (by kernel_rfl) ?_
      clear hS
      intro hcl ww hS
      refine own_batch hS [0, 1, 2, 3, 4, 5, 6, 7, 8, 9, 10, 11, 12, 13, 14, 15, 16] 0 rfl hcl (by kernel_rfl) ?_
      (try simp only); repeat (first | (simp only [List.filterMap_cons]) | (simp only [List.filterMap_nil]) | (simp only [List.getElem?_toArray]) | (simp only [List.getElem?_cons_succ]) | (simp only [List.getElem?_cons_zero]) | (simp only [List.reverse_cons]) | (simp only [List.reverse_nil]) | (simp only [List.nil_append]) | (simp only [List.cons_append]))
      repeat (first
          | (first | (refine g_plain rfl ?_) | (refine g_yes rfl rfl rfl (by simp only [List.getElem?_toArray, List.getElem?_cons_succ, List.getElem?_cons_zero]; rfl) (by with_reducible constructor) ?_)
             apply Exists.intro; refine ⟨?_, ?_⟩
             focus (intro wq hq0; (first | have hq : Own _ _ _ wq := hq0 | have hq : Own _ _ _ wq := hq0.1 | skip); first | ((with_reducible show givesAt _ ({ dst := _, op := Op.load _ _, type := _, pos := _, after := _, guard := _ } : Oper) _ _ _); first | (exact givesAt_rd rfl (by rfl) (by first | exact rd_1 (by repeat constructor) (by first | rfl | assumption) | exact rd_w (by repeat constructor) (by rfl) | exact rd_o (by assumption) (by rfl) (by first | exact nmn | assumption | simp) | exact rd_h (by assumption) (by rfl) (by first | exact nmn | assumption | simp) | exact rd_1o (by assumption) (by first | exact nmn | assumption | simp) | exact rd_1h (by assumption) (by first | rfl | assumption) (by first | exact nmn | assumption | simp)) hq)) | (go_simp; first | (with_reducible rfl)))
             simp only [Act.put, List.setIfInBounds_toArray]; (try simp only [List.set_cons_succ]); (try simp only [List.set_cons_zero]))
          | (refine g_no rfl rfl rfl (by simp only [List.getElem?_toArray, List.getElem?_cons_succ, List.getElem?_cons_zero]; rfl) (by with_reducible constructor) ?_; simp only [Act.put, List.setIfInBounds_toArray]; (try simp only [List.set_cons_succ]); (try simp only [List.set_cons_zero])))
      refine g_nil ?_
      clear hS hcl
      intro hcl ww hS
      (try simp only [Act.put]); (try simp only [List.setIfInBounds_toArray]); (try simp only [List.set_cons_succ]); (try simp only [List.set_cons_zero])
      refine own_done (by kernel_rfl) ?_
      go_upto_region 13 with (first | (refine own_unguard (by rfl) ?_) | (refine w_ld rfl _ rfl (by rfl) (by first | exact rd_1 (by repeat constructor) (by first | rfl | assumption) | exact rd_w (by repeat constructor) (by rfl) | exact rd_o (by assumption) (by rfl) (by first | exact nmn | assumption | simp) | exact rd_h (by assumption) (by rfl) (by first | exact nmn | assumption | simp) | exact rd_1o (by assumption) (by first | exact nmn | assumption | simp) | exact rd_1h (by assumption) (by first | rfl | assumption) (by first | exact nmn | assumption | simp)) hS ?_) | (refine own_box rfl _ _ rfl (by rfl) hS ?_; clear hS; (try clear ww); intro bb ww hS) | (refine w_al rfl rfl hS ?_; clear hS; (try clear ww); intro bb ww hS) | (refine w_st rfl _ _ rfl (by rfl) (by rfl) (by repeat constructor) (by rfl) (by rfl) (by first | rfl | assumption) hS ?_; clear hS; (try clear ww); intro ww hS) | (refine w_s1 rfl _ _ rfl (by rfl) (by repeat constructor) (by first | exact .c | exact .t rfl) (by rfl) (by repeat constructor) hS ?_; clear hS; (try clear ww); intro ww hS))
      (try simp only [Act.put]); (try simp only [List.setIfInBounds_toArray]); (try simp only [List.set_cons_succ]); (try simp only [List.set_cons_zero])
      have hrgr := hS.range List.not_mem_nil hrg
      have hrgn := hS.oldOff (range_lt hrg)
      have hrgmr := hS.range List.not_mem_nil hrgm
      have hrgmn := hS.oldOff (range_lt hrgm)
      have HS0 := Lib.hid hS
      obtain ⟨DD, HDD, hS⟩ := hS.rebaseN
      rw [← HDD.out] at hrgn
      rw [← HDD.out] at hrgmn
      have HSw := Lib.hid hS
      refine own_anyM hS [14, 15] [] 16 (by kernel_rfl) (by kernel_rfl) ?_
      clear hS
      intro hcl ww hS _
      refine own_batchN HSw.out [0, 1, 2, 3, 4, 5, 6, 7, 8, 9, 10, 11] 4 rfl hS hcl (by kernel_rfl) ?_
      (try simp only); repeat (first | (simp only [List.filterMap_cons]) | (simp only [List.filterMap_nil]) | (simp only [List.getElem?_toArray]) | (simp only [List.getElem?_cons_succ]) | (simp only [List.getElem?_cons_zero]) | (simp only [List.reverse_cons]) | (simp only [List.reverse_nil]) | (simp only [List.nil_append]) | (simp only [List.cons_append]))
      repeat (first
          | (first | (refine g_plain rfl ?_) | (refine g_yes rfl rfl rfl (by simp only [List.getElem?_toArray, List.getElem?_cons_succ, List.getElem?_cons_zero]; rfl) (by with_reducible constructor) ?_)
             apply Exists.intro; refine ⟨?_, ?_⟩
             focus (intro wq hq0; (first | have hq : Own _ _ _ wq := hq0 | have hq : Own _ _ _ wq := hq0.1 | skip); first | ((with_reducible show givesAt _ ({ dst := _, op := Op.load _ _, type := _, pos := _, after := _, guard := _ } : Oper) _ _ _); first | (exact givesAt_rd rfl (by rfl) (by first | exact rd_1 (by repeat constructor) (by first | rfl | assumption) | exact rd_w (by repeat constructor) (by rfl) | exact rd_o (by assumption) (by rfl) (by first | exact nmn | assumption | simp) | exact rd_h (by assumption) (by rfl) (by first | exact nmn | assumption | simp) | exact rd_1o (by assumption) (by first | exact nmn | assumption | simp) | exact rd_1h (by assumption) (by first | rfl | assumption) (by first | exact nmn | assumption | simp)) hq)) | (go_simp; first | (with_reducible rfl)))
             simp only [Act.put, List.setIfInBounds_toArray]; (try simp only [List.set_cons_succ]); (try simp only [List.set_cons_zero]))
          | (refine g_no rfl rfl rfl (by simp only [List.getElem?_toArray, List.getElem?_cons_succ, List.getElem?_cons_zero]; rfl) (by with_reducible constructor) ?_; simp only [Act.put, List.setIfInBounds_toArray]; (try simp only [List.set_cons_succ]); (try simp only [List.set_cons_zero])))
      refine g_nil ?_
      clear hS hcl
      intro hcl ww hS
      (try simp only [Act.put]); (try simp only [List.setIfInBounds_toArray]); (try simp only [List.set_cons_succ]); (try simp only [List.set_cons_zero])
      refine own_frees hS [(12, 10, [.int .i64 0, .string ⟨#[]⟩, .int .i64 0, .int .i64 0, .int .i64 0, .int .i64 0, .int .i64 0, .int .i64 0, .slice none 0 0, .int .i64 0, .slice none 0 0]), (13, 11, [.int .i64 0, .string ⟨#[]⟩, .int .i64 0, .int .i64 0, .int .i64 0, .int .i64 0, .int .i64 0, .int .i64 0, .slice none 0 0, .int .i64 0, .slice none 0 0])] 2 rfl (.cons (by simp only [List.getElem?_toArray, List.getElem?_cons_succ, List.getElem?_cons_zero]; rfl) rfl rfl rfl zt_box (.cons (by simp only [List.getElem?_toArray, List.getElem?_cons_succ, List.getElem?_cons_zero]; rfl) rfl rfl rfl zt_box .nil)) hcl (by kernel_rfl) ?_
      clear hS hcl
      intro f wf hcl hS
      have hK := hS.newer (by rw [HDD.out]; exact fun _ h => h)
      simp only [putF, ownF, List.map_cons, List.map_nil, List.foldr_cons, List.foldr_nil, List.cons_append, List.nil_append] at hS hcl hK ⊢
      generalize f 12 = b10 at *
      generalize f 13 = b11 at *
      have hb10 := hK _ (.head _)
      have hb11 := hK _ (.tail _ (.head _))
      clear hK
      (try simp only [Act.put]); (try simp only [List.setIfInBounds_toArray]); (try simp only [List.set_cons_succ]); (try simp only [List.set_cons_zero])
      refine own_mid (K := [(_, _), (_, _)]) (L := [(_, _)]) hS (fun x hx => by simp only [List.mem_cons, List.not_mem_nil, or_false] at hx; rcases hx with rfl | rfl <;> assumption) 14 hcl (by simp only [List.getElem?_toArray, List.getElem?_cons_succ, List.getElem?_cons_zero]; rfl) (by kernel_rfl) ?_
      clear hS
      intro hS
      (refine w_st rfl _ _ rfl (by rfl) (by rfl) (by repeat constructor) (by rfl) (by rfl) (by first | rfl | assumption) hS ?_; clear hS; intro ww hS)
      refine wpList_nil ⟨rfl, _, hS, ?_⟩
      clear hS hcl
      intro hcl wf hS
      simp only [List.cons_append, List.nil_append] at hS
      (try simp only [Act.put]); (try simp only [List.setIfInBounds_toArray]); (try simp only [List.set_cons_succ]); (try simp only [List.set_cons_zero])
      refine own_mid (K := [(_, _), (_, _)]) (L := [(_, _)]) hS (fun x hx => by simp only [List.mem_cons, List.not_mem_nil, or_false] at hx; rcases hx with rfl | rfl <;> assumption) 15 hcl (by simp only [List.getElem?_toArray, List.getElem?_cons_succ, List.getElem?_cons_zero]; rfl) (by kernel_rfl) ?_
      clear hS
      intro hS
      (refine w_st rfl _ _ rfl (by rfl) (by rfl) (by repeat constructor) (by rfl) (by rfl) (by first | rfl | assumption) hS ?_; clear hS; intro ww hS)
      refine wpList_nil ⟨rfl, _, hS, ?_⟩
      clear hS hcl
      intro hcl wf hS
      simp only [List.cons_append, List.nil_append] at hS
      (try simp only [Act.put]); (try simp only [List.setIfInBounds_toArray]); (try simp only [List.set_cons_succ]); (try simp only [List.set_cons_zero])
      refine own_done (by kernel_rfl) ?_
      clear hrgr hrgn hrgmr hrgmn hb10 hb11 HSw
      obtain rfl := HDD.out
      have hS1 := HS0.out.chain hS
      clear hS HDD HS0
      have hS := hS1
      clear hS1
      go_wp2_with (first | (refine own_unguard (by rfl) ?_) | (refine w_ld rfl _ rfl (by rfl) (by first | exact rd_1 (by repeat constructor) (by first | rfl | assumption) | exact rd_w (by repeat constructor) (by rfl) | exact rd_o (by assumption) (by rfl) (by first | exact nmn | assumption | simp) | exact rd_h (by assumption) (by rfl) (by first | exact nmn | assumption | simp) | exact rd_1o (by assumption) (by first | exact nmn | assumption | simp) | exact rd_1h (by assumption) (by first | rfl | assumption) (by first | exact nmn | assumption | simp)) hS ?_) | (refine own_box rfl _ _ rfl (by rfl) hS ?_; clear hS; (try clear ww); intro bb ww hS) | (refine w_al rfl rfl hS ?_; clear hS; (try clear ww); intro bb ww hS) | (refine w_st rfl _ _ rfl (by rfl) (by rfl) (by repeat constructor) (by rfl) (by rfl) (by first | rfl | assumption) hS ?_; clear hS; (try clear ww); intro ww hS) | (refine w_s1 rfl _ _ rfl (by rfl) (by repeat constructor) (by first | exact .c | exact .t rfl) (by rfl) (by repeat constructor) hS ?_; clear hS; (try clear ww); intro ww hS))
      go_roundw
      case rel => exact ⟨j + 1, hlt, by go_num, hS.forget (by simp)⟩
      case measure => exact loop_meas hlt
    · skip
      go_wp2_with (first | (refine own_unguard (by rfl) ?_) | (refine w_ld rfl _ rfl (by rfl) (by first | exact rd_1 (by repeat constructor) (by first | rfl | assumption) | exact rd_w (by repeat constructor) (by rfl) | exact rd_o (by assumption) (by rfl) (by first | exact nmn | assumption | simp) | exact rd_h (by assumption) (by rfl) (by first | exact nmn | assumption | simp) | exact rd_1o (by assumption) (by first | exact nmn | assumption | simp) | exact rd_1h (by assumption) (by first | rfl | assumption) (by first | exact nmn | assumption | simp)) hS ?_) | (refine own_box rfl _ _ rfl (by rfl) hS ?_; clear hS; (try clear ww); intro bb ww hS) | (refine w_al rfl rfl hS ?_; clear hS; (try clear ww); intro bb ww hS) | (refine w_st rfl _ _ rfl (by rfl) (by rfl) (by repeat constructor) (by rfl) (by rfl) (by first | rfl | assumption) hS ?_; clear hS; (try clear ww); intro ww hS) | (refine w_s1 rfl _ _ rfl (by rfl) (by repeat constructor) (by first | exact .c | exact .t rfl) (by rfl) (by repeat constructor) hS ?_; clear hS; (try clear ww); intro ww hS))
      go_ret
      exact ⟨rfl, bthen hBk.out hS.below⟩

theorem arrB_get {F : Fnt} {l : Int} {n K : Nat} {kids : List (Bx (n + 1))} {i : Nat} {k : Bx (n + 1)} (h : (kids.mapIdx (fun i k => atXY (n + 1) k (arrX F l n K kids i) (arrY F l n K kids i)))[i]? = some k) : ∃ kid, kids[i]? = some kid ∧ k = atXY (n + 1) kid (arrX F l n K kids i) (arrY F l n K kids i) := by
  rw [List.getElem?_mapIdx] at h
  cases hkid : kids[i]? with
  | none => rw [hkid] at h; simp at h
  | some kid => rw [hkid] at h; exact ⟨kid, rfl, by simpa using h.symm⟩
theorem arrB_put {F : Fnt} {l : Int} {n K : Nat} {kids : List (Bx (n + 1))} {i : Nat} {k : Bx (n + 1)} (h : kids[i]? = some k) : (kids.mapIdx (fun i k => atXY (n + 1) k (arrX F l n K kids i) (arrY F l n K kids i)))[i]? = some (atXY (n + 1) k (arrX F l n K kids i) (arrY F l n K kids i)) := by
  rw [List.getElem?_mapIdx, h]
  rfl
theorem arrayGrid_right (F : Fnt) (l : Int) (c : Bool) (C : Int) (n : Nat) (kids : List (Bx (n + 1))) (kx : Option Addr) (kc : Nat) (w : World) (hF : FntOk w F) (hk : RepL w (n + 1) kx kids) (hm : kids.length ≤ maxLen) (ht : RightOk F l n C kids) : Calls Try.prog 5 #[.agg (caseX F l c).toArray, .int .i64 C, .slice kx kids.length kc] w (Gives (.bool true) w) := by
  obtain ⟨K, rfl⟩ : ∃ K : Nat, C = (K : Int) := ⟨C.toNat, by have := ht.2.2.2.1; omega⟩
  have G := geo ht
  have hK := G.K1
  refine arrayGrid_main F l c K n kids kx kc w hF hk hm ht _ _ _ _ (fun w' hb => right_makes (hF.below hb) (hk.step hb) ht) (by simp) (fun j k hj => ?_)
  obtain ⟨kid, hi, rfl⟩ := arrB_get hj
  have hil : j < kids.length := (List.getElem?_eq_some_iff.1 hi).1
  have hpj : j - j % K < kids.length := by omega
  have hmj : j % K < kids.length := Nat.lt_of_le_of_lt (Nat.mod_le _ _) hil
  obtain ⟨kp, hkp⟩ : ∃ kp, kids[j - j % K]? = some kp := ⟨kids[j - j % K], by simp [hpj]⟩
  obtain ⟨km, hkm⟩ : ∃ km, kids[j % K]? = some km := ⟨kids[j % K], by simp [hmj]⟩
  have hx := G.x hil
  have hx2 := G.x hmj
  have hc := cell_nums (ht.2.2.2.2.2.2.2.2 kid (List.mem_of_getElem? hi))
  have hc2 := cell_nums (ht.2.2.2.2.2.2.2.2 km (List.mem_of_getElem? hkm))
  rw [kW_at hi] at hx
  rw [kW_at hkm, Nat.mod_mod] at hx2
  have hdiv : (j - j % K) / K = j / K := by
    have h1 := Nat.div_add_mod j K
    rw [show j - j % K = K * (j / K) by omega, Nat.mul_div_cancel_left _ (by omega)]
  refine ⟨_, _, _, _, rfl, rfl, arrB_put hkp, arrB_put hkm, ?_, ?_, ?_, ?_⟩
  · simp only [atXY, arrY, hdiv]
  · simp only [atXY]
    omega
  · simp only [atXY]
    omega
  · simp only [atXY]
    omega
theorem arrayGrid_calls (F : Fnt) (l : Int) (c : Bool) (C : Int) (n : Nat) (kids : List (Bx (n + 1))) (kx : Option Addr) (kc : Nat) (w : World) (hF : FntOk w F) (hk : RepL w (n + 1) kx kids) (hm : kids.length ≤ maxLen) : Calls Try.prog 5 #[.agg (caseX F l c).toArray, .int .i64 C, .slice kx kids.length kc] w (Gives (.bool true) w) := by
  by_cases ht : RightOk F l n C kids
  · exact arrayGrid_right F l c C n kids kx kc w hF hk hm ht
  · exact arrayGrid_wild F l c C n kids kx kc w hF hk hm ht

end Go.Proofs.Ytgnkngkogamjaaa
