/- Texts Ts5, Fon, Mad, Mn5, Mo5. -/
import Derived.Test.YtdbcdjiclkmknaaJ11
import Derived.Test.YtdbcdjiclkmknaaJ10
namespace Go.Proofs.Ytdbcdjiclkmknaa
open Go.RowKit

attribute [local irreducible] wpQuiet wpG wpP wpK wpList Code.wp Calls

theorem caseS_out {w : World} {k : Nat} {F : Fnt} {l : Int} {c : Bool} {c0 c1 c2 c3 c4 c5 c6 c7 c8 c9 c10 v u : Value} (h : w.rangeAt k 0 (caseS F l c [c0, c1, c2, c3, c4, c5, c6, c7, c8, c9, c10] v u)) : w.rangeAt k 0 F.cells ∧ w.rangeAt k 22 [.int .i64 l, .bool c] ∧ w.rangeAt k 24 [c0, c1, c2, c3, c4, c5, c6, c7, c8, c9, c10] ∧ w.cell? ⟨k, 35, none⟩ = some v ∧ w.cell? ⟨k, 36, none⟩ = some u := by
  obtain ⟨h1, h2⟩ := range_app h
  obtain ⟨h3, h4⟩ := range_app h2
  obtain ⟨h5, h6⟩ := range_app h4
  exact ⟨h1, h3, h5, h6 0 _ rfl, h6 1 _ rfl⟩
/-- What tame returns. -/
def fewL (n : Nat) (l : List (Bx n)) : Bool := l.all fun b => decide (bCount n b ≤ 200)
def tameS (F : Fnt) (n : Nat) (base : Bx n) (subs sups : List (Bx n)) : Bool := decide (1 + subs.length + sups.length ≤ 7) && (fewB F && fewL n (base :: (subs ++ sups)))

set_option maxHeartbeats 16000000 in
set_option maxRecDepth 100000 in
theorem tame35_calls (F : Fnt) (l : Int) (c : Bool) (n : Nat) (base : Bx (n + 1)) (subs sups : List (Bx (n + 1))) (cs : List Value) (sx ux : Option Addr) (sc uc : Nat) (w : World) (hF : FntOk w F) (hr : Rep w (n + 1) base cs) (hs : RepL w (n + 1) sx subs) (hu : RepL w (n + 1) ux sups) (b1 : subs.length ≤ 1048576) (b2 : sups.length ≤ 1048576) (v : Bool) (hv : v = tameS F (n + 1) base subs sups) : Calls Try.prog 9 #[.agg (caseS F l c cs (.slice sx subs.length sc) (.slice ux sups.length uc)).toArray] w (Gives (.bool v) w) := by
  have HF := Lib.hid (fun w' (h : Below w.heap.size w w') => ref05_Few_calls F w' (hF.below h))
  have HV := Lib.hid hv
  obtain ⟨ls, ells, hns, hos, hrs⟩ := repL_cells hs
  obtain ⟨lu, ellu, hnu, hou, hru⟩ := repL_cells hu
  have HNs := Lib.hid hns
  have HNu := Lib.hid hnu
  have HOs := Lib.hid hos
  have HOu := Lib.hid hou
  have HRs := Lib.hid hrs
  have HRu := Lib.hid hru
  have HLs := Lib.hid (show (ls.flatMap Subtype.val).length = subs.length * 11 by rw [← ells]; exact flat_len (f := Subtype.val) (size := 11) (fun a => a.2) ls)
  have HLu := Lib.hid (show (lu.flatMap Subtype.val).length = sups.length * 11 by rw [← ellu]; exact flat_len (f := Subtype.val) (size := 11) (fun a => a.2) lu)
  have HEs := Lib.hid ells
  have HEu := Lib.hid ellu
  have HR := Lib.hid hr
  obtain ⟨c0, c1, c2, c3, c4, c5, c6, c7, c8, c9, c10, rfl⟩ := eleven hr.len
  clear hF hr hs hu hv hns hnu hos hou hrs hru ells ellu
  go_enter Try.func9, Try.ntmps9
  have hS := own_start w
  go_upto_region 1 with (first | (refine own_unguard (by rfl) ?_) | (refine own_box rfl _ _ rfl rfl hS ?_; clear hS; intro kb w0 hS0; have hrC := (hS0.get at0).range; have HB0 := Lib.hid hS0.below; obtain ⟨hrF, hrS, hrN, cV, cU⟩ := caseS_out hrC; have hS := own_start w0; clear hS0) | (refine w_ld rfl _ rfl (by rfl) (by first | exact rd_1 (by repeat constructor) (by first | rfl | assumption) | exact rd_w (by repeat constructor) (by rfl) | exact rd_o (by assumption) (by rfl) (by first | exact nmn | assumption | simp) | exact rd_h (by assumption) (by rfl) (by first | exact nmn | assumption | simp) | exact rd_1o (by assumption) (by first | exact nmn | assumption | simp) | exact rd_1h (by assumption) (by first | rfl | assumption) (by first | exact nmn | assumption | simp)) hS ?_) | (refine own_box rfl _ _ rfl (by rfl) hS ?_; clear hS; (try clear ww); intro bb ww hS) | (refine w_al rfl rfl hS ?_; clear hS; (try clear ww); intro bb ww hS) | (refine w_st rfl _ _ rfl (by rfl) (by rfl) (by repeat constructor) (by rfl) (by rfl) (by first | rfl | assumption) hS ?_; clear hS; (try clear ww); intro ww hS) | (refine w_s1 rfl _ _ rfl (by rfl) (by repeat constructor) (by first | exact .c | exact .t rfl) (by rfl) (by repeat constructor) hS ?_; clear hS; (try clear ww); intro ww hS))
  (try simp only [Act.put]); (try simp only [List.setIfInBounds_toArray]); (try simp only [List.set_cons_succ]); (try simp only [List.set_cons_zero])
  refine own_anyM hS [5, 8] [] 10 (by kernel_rfl) (by kernel_rfl) ?_
  clear hS
  intro hcl ww hS _
  refine own_batchN (own_start w0) [0, 1, 3, 4, 6, 7] 4 rfl hS hcl (by kernel_rfl) ?_
  (try simp only); repeat (first | (simp only [List.filterMap_cons]) | (simp only [List.filterMap_nil]) | (simp only [List.getElem?_toArray]) | (simp only [List.getElem?_cons_succ]) | (simp only [List.getElem?_cons_zero]) | (simp only [List.reverse_cons]) | (simp only [List.reverse_nil]) | (simp only [List.nil_append]) | (simp only [List.cons_append]))
  repeat (first
      | (first | (refine g_plain rfl ?_) | (refine g_yes rfl rfl rfl (by simp only [List.getElem?_toArray, List.getElem?_cons_succ, List.getElem?_cons_zero]; rfl) (by with_reducible constructor) ?_)
         apply Exists.intro; refine ⟨?_, ?_⟩
         focus (intro wq hq0; (first | have hq : Own _ _ _ wq := hq0 | have hq : Own _ _ _ wq := hq0.1 | skip); first | ((with_reducible show givesAt _ ({ dst := _, op := Op.load _ _, type := _, pos := _, after := _, guard := _ } : Oper) _ _ _); first | (exact givesAt_rd rfl (by rfl) (by first | exact rd_1 (by repeat constructor) (by first | rfl | assumption) | exact rd_w (by repeat constructor) (by rfl) | exact rd_o (by assumption) (by rfl) (by first | exact nmn | assumption | simp) | exact rd_h (by assumption) (by rfl) (by first | exact nmn | assumption | simp) | exact rd_1o (by assumption) (by first | exact nmn | assumption | simp) | exact rd_1h (by assumption) (by first | rfl | assumption) (by first | exact nmn | assumption | simp)) hq)) | (go_simp; first | (with_reducible rfl)))
         simp only [Act.put, List.setIfInBounds_toArray]; (try simp only [List.set_cons_succ]); (try simp only [List.set_cons_zero]))
      | (refine g_no rfl rfl rfl (by simp only [List.getElem?_toArray, List.getElem?_cons_succ, List.getElem?_cons_zero]; rfl) (by with_reducible constructor) ?_; simp only [Act.put, List.setIfInBounds_toArray]; (try simp only [List.set_cons_succ]); (try simp only [List.set_cons_zero])))
  refine g_nil ?_
  clear hS hcl
  intro hcl ww hS
  (try simp only [Act.put]); (try simp only [List.setIfInBounds_toArray]); (try simp only [List.set_cons_succ]); (try simp only [List.set_cons_zero])
  refine own_soft hS 2 hcl (by simp only [List.getElem?_toArray, List.getElem?_cons_succ, List.getElem?_cons_zero]; rfl) (by kernel_rfl) ?_
  have hO := hS
  clear hS
  intro hS
  refine own_buildSlice rfl _ _ 1 _ rfl [c0, c1, c2, c3, c4, c5, c6, c7, c8, c9, c10] hS Try.underlying30 (by kernel_rfl) ?_
  clear hS
  intro bs w6 hS
  refine wpList_nil ⟨rfl, _, hS, ?_⟩
  clear hS hO hcl
  intro hcl w7 hS
  have hB7 := (bthen HB0.out hS.below)
  (try simp only [Act.put]); (try simp only [List.setIfInBounds_toArray]); (try simp only [List.set_cons_succ]); (try simp only [List.set_cons_zero])
  refine own_mid (K := [(bs, _)]) (L := []) hS (Own.newer (K := [(bs, _)]) (L := []) hS (fun _ h => by cases h)) 5 hcl (by simp only [List.getElem?_toArray, List.getElem?_cons_succ, List.getElem?_cons_zero]; rfl) (by kernel_rfl) ?_
  clear hS
  intro hS
  refine own_app (n := 1) (xs := [c0, c1, c2, c3, c4, c5, c6, c7, c8, c9, c10]) (X := [(bs, [c0, c1, c2, c3, c4, c5, c6, c7, c8, c9, c10])]) (L := []) rfl _ _ _ rfl ⟨rfl, .inr ⟨bs, 1, [], rfl, Nat.le_refl _, by simp [maxLen], rfl, rfl⟩⟩ (by decide) rfl rfl hS (repL_news HNs.out hB7) HLs.out HOs.out el_box (by decide) (by simp only [maxLen]; omega) (by omega) ?_
  clear hS
  intro v1 X1 w8 hS hX1
  refine wpList_nil ⟨rfl, _, hS, ?_⟩
  clear hS hcl hB7
  intro hcl w9 hS
  simp only [List.nil_append] at hS
  have hB9 := (bthen HB0.out hS.below)
  (try simp only [Act.put]); (try simp only [List.setIfInBounds_toArray]); (try simp only [List.set_cons_succ]); (try simp only [List.set_cons_zero])
  refine own_mid (K := X1) (L := []) hS (Own.newer (K := X1) (L := []) hS (fun _ h => by cases h)) 8 hcl (by simp only [List.getElem?_toArray, List.getElem?_cons_succ, List.getElem?_cons_zero]; rfl) (by kernel_rfl) ?_
  clear hS
  intro hS
  refine own_app (n := 1 + subs.length) (L := []) rfl _ _ _ rfl hX1 (by omega) rfl rfl hS (repL_news HNu.out hB9) HLu.out HOu.out el_box (by decide) (by simp only [maxLen]; omega) (by omega) ?_
  clear hS hX1
  intro v2 X2 w10 hS hX2
  obtain ⟨y2, k2, rfl⟩ := hX2.slice
  refine wpList_nil ⟨rfl, _, hS, ?_⟩
  clear hS hcl hB9
  intro hcl wa hS
  simp only [List.nil_append] at hS
  (try simp only [Act.put]); (try simp only [List.setIfInBounds_toArray]); (try simp only [List.set_cons_succ]); (try simp only [List.set_cons_zero])
  refine own_batch hS [9] 0 rfl hcl (by kernel_rfl) ?_
  (try simp only); repeat (first | (simp only [List.filterMap_cons]) | (simp only [List.filterMap_nil]) | (simp only [List.getElem?_toArray]) | (simp only [List.getElem?_cons_succ]) | (simp only [List.getElem?_cons_zero]) | (simp only [List.reverse_cons]) | (simp only [List.reverse_nil]) | (simp only [List.nil_append]) | (simp only [List.cons_append]))
  repeat (first
      | (first | (refine g_plain rfl ?_) | (refine g_yes rfl rfl rfl (by simp only [List.getElem?_toArray, List.getElem?_cons_succ, List.getElem?_cons_zero]; rfl) (by with_reducible constructor) ?_)
         apply Exists.intro; refine ⟨?_, ?_⟩
         focus (intro wq hq0; (first | have hq : Own _ _ _ wq := hq0 | have hq : Own _ _ _ wq := hq0.1 | skip); first | ((with_reducible show givesAt _ ({ dst := _, op := Op.load _ _, type := _, pos := _, after := _, guard := _ } : Oper) _ _ _); first | (exact givesAt_rd rfl (by rfl) (by first | exact rd_1 (by repeat constructor) (by first | rfl | assumption) | exact rd_w (by repeat constructor) (by rfl) | exact rd_o (by assumption) (by rfl) (by first | exact nmn | assumption | simp) | exact rd_h (by assumption) (by rfl) (by first | exact nmn | assumption | simp) | exact rd_1o (by assumption) (by first | exact nmn | assumption | simp) | exact rd_1h (by assumption) (by first | rfl | assumption) (by first | exact nmn | assumption | simp)) hq)) | (go_simp; first | (with_reducible rfl)))
         simp only [Act.put, List.setIfInBounds_toArray]; (try simp only [List.set_cons_succ]); (try simp only [List.set_cons_zero]))
      | (refine g_no rfl rfl rfl (by simp only [List.getElem?_toArray, List.getElem?_cons_succ, List.getElem?_cons_zero]; rfl) (by with_reducible constructor) ?_; simp only [Act.put, List.setIfInBounds_toArray]; (try simp only [List.set_cons_succ]); (try simp only [List.set_cons_zero])))
  refine g_nil ?_
  clear hS hcl
  intro hcl ww hS
  refine own_done (by kernel_rfl) ?_
  rename World => w11
  (try simp only [Act.put]); (try simp only [List.setIfInBounds_toArray]); (try simp only [List.set_cons_succ]); (try simp only [List.set_cons_zero])
  have hAll : RepL w11 (n + 1) y2 (base :: (subs ++ sups)) := repLP_L (all_row hS (fun x hx => List.mem_append_left _ hx) hX2 (bthen HB0.out hS.below) HR.out HEs.out HEu.out rfl HRs.out HRu.out)
  generalize hNe : 1 + subs.length + sups.length = N at *
  have hN := Lib.hid hNe.symm
  clear hNe
  have HA := Lib.hid hAll
  have HB1 := Lib.hid (bthen HB0.out hS.below)
  have hrF1 := hS.range List.not_mem_nil hrF
  have bN : N ≤ 2097153 := by rw [hN.out]; omega
  clear hS hX2 hAll
  have hS := own_start w11
  by_cases h7 : N ≤ 7
  · have d7 : decide ((7 : Int) < (N : Int)) = false := decide_eq_false (by omega)
    by_cases hf : fewB F = true
    · rw [hf] at HF
      go_wp2_with (first | (refine own_unguard (by rfl) ?_) | (go_at_call 17; refine own_calls hS (HF.out _ (bthen HB1.out hS.below)) ?_; clear hS; (try clear ww); intro ww hS) | (refine w_ld rfl _ rfl (by rfl) (by first | exact rd_1 (by repeat constructor) (by first | rfl | assumption) | exact rd_w (by repeat constructor) (by rfl) | exact rd_o (by assumption) (by rfl) (by first | exact nmn | assumption | simp) | exact rd_h (by assumption) (by rfl) (by first | exact nmn | assumption | simp) | exact rd_1o (by assumption) (by first | exact nmn | assumption | simp) | exact rd_1h (by assumption) (by first | rfl | assumption) (by first | exact nmn | assumption | simp)) hS ?_) | (refine own_box rfl _ _ rfl (by rfl) hS ?_; clear hS; (try clear ww); intro bb ww hS) | (refine w_al rfl rfl hS ?_; clear hS; (try clear ww); intro bb ww hS) | (refine w_st rfl _ _ rfl (by rfl) (by rfl) (by repeat constructor) (by rfl) (by rfl) (by first | rfl | assumption) hS ?_; clear hS; (try clear ww); intro ww hS) | (refine w_s1 rfl _ _ rfl (by rfl) (by repeat constructor) (by first | exact .c | exact .t rfl) (by rfl) (by repeat constructor) hS ?_; clear hS; (try clear ww); intro ww hS))
      have HS1 := Lib.hid hS.below
      go_loopw [4] (fun i wr => ∃ k : Nat, k ≤ N ∧ i = .int .i64 k ∧ (∀ (q : Nat) (b : Bx (n + 1)), q < k → (base :: (subs ++ sups))[q]? = some b → bCount (n + 1) b ≤ 200) ∧ Own [] w11 [] wr) (fun i _ => N - (intOf i).toNat)
      case atStart => exact ⟨0, Nat.zero_le _, rfl, fun q b hq => by omega, hS.forget (List.nil_sublist _)⟩
      case round =>
        clear hS HS1
        obtain ⟨k, hk, rfl, hpre, hS⟩ := hrel
        have HP := Lib.hid hpre
        clear hpre
        by_cases hlt : k < N
        · obtain ⟨kid, hkid⟩ : ∃ q, (base :: (subs ++ sups))[k]? = some q := ⟨(base :: (subs ++ sups))[k]'(by simp only [List.length_cons, List.length_append]; rw [hN.out] at hlt; omega), by rw [List.getElem?_eq_getElem]⟩
          obtain ⟨b3, o3, css, rfl, hr3, hp3⟩ := HA.out k kid hkid
          have HK := Lib.hid hkid
          have HP3 := Lib.hid hp3
          obtain ⟨f0, f1, f2, f3, f4, f5, f6, f7, f8, f9, f10, rfl⟩ := eleven hp3.len
          clear hkid hp3
          by_cases hfw : bCount (n + 1) kid ≤ 200
          · have HFw := Lib.hid (fun w' (h : Below w11.heap.size w11 w') => ref28_Few_calls (n + 1) kid _ 200 w' (HP3.out.step h) (by omega) true (by simp [hfw]))
            go_wp2_with (first | (refine own_unguard (by rfl) ?_) | (go_at_call 18; refine own_calls hS (HFw.out _ hS.below) ?_; clear hS; (try clear ww); intro ww hS) | (refine w_ld rfl _ rfl (by rfl) (by first | exact rd_1 (by repeat constructor) (by first | rfl | assumption) | exact rd_w (by repeat constructor) (by rfl) | exact rd_o (by assumption) (by rfl) (by first | exact nmn | assumption | simp) | exact rd_h (by assumption) (by rfl) (by first | exact nmn | assumption | simp) | exact rd_1o (by assumption) (by first | exact nmn | assumption | simp) | exact rd_1h (by assumption) (by first | rfl | assumption) (by first | exact nmn | assumption | simp)) hS ?_) | (refine own_box rfl _ _ rfl (by rfl) hS ?_; clear hS; (try clear ww); intro bb ww hS) | (refine w_al rfl rfl hS ?_; clear hS; (try clear ww); intro bb ww hS) | (refine w_st rfl _ _ rfl (by rfl) (by rfl) (by repeat constructor) (by rfl) (by rfl) (by first | rfl | assumption) hS ?_; clear hS; (try clear ww); intro ww hS) | (refine w_s1 rfl _ _ rfl (by rfl) (by repeat constructor) (by first | exact .c | exact .t rfl) (by rfl) (by repeat constructor) hS ?_; clear hS; (try clear ww); intro ww hS))
            go_roundw
            case rel =>
              refine ⟨k + 1, hlt, by go_num, fun q b hq hb => ?_, hS.forget (List.nil_sublist _)⟩
              by_cases hqk : q < k
              · exact HP.out q b hqk hb
              · obtain rfl : q = k := by omega
                obtain rfl := Option.some.inj (HK.out.symm.trans hb)
                exact hfw
            case measure => exact loop_meas hlt
          · have HFw := Lib.hid (fun w' (h : Below w11.heap.size w11 w') => ref28_Few_calls (n + 1) kid _ 200 w' (HP3.out.step h) (by omega) false (by simp [hfw]))
            have hvf : v = false := by
              rw [HV.out]
              unfold tameS fewL
              have : ((base :: (subs ++ sups)).all fun b => decide (bCount (n + 1) b ≤ 200)) = false := by
                rw [List.all_eq_false]
                exact ⟨kid, List.mem_of_getElem? HK.out, by simp [hfw]⟩
              rw [this]
              simp
            subst hvf
            go_wp2_with (first | (refine own_unguard (by rfl) ?_) | (go_at_call 18; refine own_calls hS (HFw.out _ hS.below) ?_; clear hS; (try clear ww); intro ww hS) | (refine w_ld rfl _ rfl (by rfl) (by first | exact rd_1 (by repeat constructor) (by first | rfl | assumption) | exact rd_w (by repeat constructor) (by rfl) | exact rd_o (by assumption) (by rfl) (by first | exact nmn | assumption | simp) | exact rd_h (by assumption) (by rfl) (by first | exact nmn | assumption | simp) | exact rd_1o (by assumption) (by first | exact nmn | assumption | simp) | exact rd_1h (by assumption) (by first | rfl | assumption) (by first | exact nmn | assumption | simp)) hS ?_) | (refine own_box rfl _ _ rfl (by rfl) hS ?_; clear hS; (try clear ww); intro bb ww hS) | (refine w_al rfl rfl hS ?_; clear hS; (try clear ww); intro bb ww hS) | (refine w_st rfl _ _ rfl (by rfl) (by rfl) (by repeat constructor) (by rfl) (by rfl) (by first | rfl | assumption) hS ?_; clear hS; (try clear ww); intro ww hS) | (refine w_s1 rfl _ _ rfl (by rfl) (by repeat constructor) (by first | exact .c | exact .t rfl) (by rfl) (by repeat constructor) hS ?_; clear hS; (try clear ww); intro ww hS))
            go_ret
            exact ⟨rfl, bthen HB1.out hS.below⟩
        · obtain rfl : k = N := by omega
          have hvt : v = true := by
            rw [HV.out]
            unfold tameS fewL
            have : ((base :: (subs ++ sups)).all fun b => decide (bCount (n + 1) b ≤ 200)) = true := by
              rw [List.all_eq_true]
              intro b hb
              obtain ⟨q, hq⟩ := List.mem_iff_getElem?.1 hb
              have hql := (List.getElem?_eq_some_iff.1 hq).1
              simp only [List.length_cons, List.length_append] at hql
              exact decide_eq_true (HP.out q b (by rw [hN.out]; omega) hq)
            rw [this, hf, ← hN.out]
            simp [h7]
          subst hvt
          go_wp2_with (first | (refine own_unguard (by rfl) ?_) | (refine w_ld rfl _ rfl (by rfl) (by first | exact rd_1 (by repeat constructor) (by first | rfl | assumption) | exact rd_w (by repeat constructor) (by rfl) | exact rd_o (by assumption) (by rfl) (by first | exact nmn | assumption | simp) | exact rd_h (by assumption) (by rfl) (by first | exact nmn | assumption | simp) | exact rd_1o (by assumption) (by first | exact nmn | assumption | simp) | exact rd_1h (by assumption) (by first | rfl | assumption) (by first | exact nmn | assumption | simp)) hS ?_) | (refine own_box rfl _ _ rfl (by rfl) hS ?_; clear hS; (try clear ww); intro bb ww hS) | (refine w_al rfl rfl hS ?_; clear hS; (try clear ww); intro bb ww hS) | (refine w_st rfl _ _ rfl (by rfl) (by rfl) (by repeat constructor) (by rfl) (by rfl) (by first | rfl | assumption) hS ?_; clear hS; (try clear ww); intro ww hS) | (refine w_s1 rfl _ _ rfl (by rfl) (by repeat constructor) (by first | exact .c | exact .t rfl) (by rfl) (by repeat constructor) hS ?_; clear hS; (try clear ww); intro ww hS))
          go_ret
          exact ⟨rfl, bthen HB1.out hS.below⟩
    · have hf2 : fewB F = false := by simpa using hf
      rw [hf2] at HF
      obtain rfl : v = false := by
        rw [HV.out]
        unfold tameS
        rw [hf2]
        simp
      go_wp2_with (first | (refine own_unguard (by rfl) ?_) | (go_at_call 17; refine own_calls hS (HF.out _ (bthen HB1.out hS.below)) ?_; clear hS; (try clear ww); intro ww hS) | (refine w_ld rfl _ rfl (by rfl) (by first | exact rd_1 (by repeat constructor) (by first | rfl | assumption) | exact rd_w (by repeat constructor) (by rfl) | exact rd_o (by assumption) (by rfl) (by first | exact nmn | assumption | simp) | exact rd_h (by assumption) (by rfl) (by first | exact nmn | assumption | simp) | exact rd_1o (by assumption) (by first | exact nmn | assumption | simp) | exact rd_1h (by assumption) (by first | rfl | assumption) (by first | exact nmn | assumption | simp)) hS ?_) | (refine own_box rfl _ _ rfl (by rfl) hS ?_; clear hS; (try clear ww); intro bb ww hS) | (refine w_al rfl rfl hS ?_; clear hS; (try clear ww); intro bb ww hS) | (refine w_st rfl _ _ rfl (by rfl) (by rfl) (by repeat constructor) (by rfl) (by rfl) (by first | rfl | assumption) hS ?_; clear hS; (try clear ww); intro ww hS) | (refine w_s1 rfl _ _ rfl (by rfl) (by repeat constructor) (by first | exact .c | exact .t rfl) (by rfl) (by repeat constructor) hS ?_; clear hS; (try clear ww); intro ww hS))
      go_ret
      exact ⟨rfl, bthen HB1.out hS.below⟩
  · have d7 : decide ((7 : Int) < (N : Int)) = true := decide_eq_true (by omega)
    obtain rfl : v = false := by
      rw [HV.out]
      unfold tameS
      rw [← hN.out]
      simp [h7]
    go_wp2_with (first | (refine own_unguard (by rfl) ?_) | (refine w_ld rfl _ rfl (by rfl) (by first | exact rd_1 (by repeat constructor) (by first | rfl | assumption) | exact rd_w (by repeat constructor) (by rfl) | exact rd_o (by assumption) (by rfl) (by first | exact nmn | assumption | simp) | exact rd_h (by assumption) (by rfl) (by first | exact nmn | assumption | simp) | exact rd_1o (by assumption) (by first | exact nmn | assumption | simp) | exact rd_1h (by assumption) (by first | rfl | assumption) (by first | exact nmn | assumption | simp)) hS ?_) | (refine own_box rfl _ _ rfl (by rfl) hS ?_; clear hS; (try clear ww); intro bb ww hS) | (refine w_al rfl rfl hS ?_; clear hS; (try clear ww); intro bb ww hS) | (refine w_st rfl _ _ rfl (by rfl) (by rfl) (by repeat constructor) (by rfl) (by rfl) (by first | rfl | assumption) hS ?_; clear hS; (try clear ww); intro ww hS) | (refine w_s1 rfl _ _ rfl (by rfl) (by repeat constructor) (by first | exact .c | exact .t rfl) (by rfl) (by repeat constructor) hS ?_; clear hS; (try clear ww); intro ww hS))
    go_ret
    exact ⟨rfl, bthen HB1.out hS.below⟩

end Go.Proofs.Ytdbcdjiclkmknaa
namespace Go.Proofs.Ytdbcdjiclkmknaa
open Go.RowKit

attribute [local irreducible] wpQuiet wpG wpP wpK wpList Code.wp Calls

end Go.Proofs.Ytdbcdjiclkmknaa
namespace Go.Proofs.Ytdbcdjiclkmknaa
open Go.RowKit

attribute [local irreducible] wpQuiet wpG wpP wpK wpList Code.wp Calls

/-- The call gives a box, and says whether there is one. -/
def GivesMade (n : Nat) (b : Bx n) (ok : Bool) (w : World) (e : Ending) (w' : World) : Prop := ∃ cs, e = .returned (.tuple #[.agg cs.toArray, .bool ok]) ∧ Rep w' n b cs ∧ Below w.heap.size w w'
theorem off_made {w w0 ww : World} {b : Nat} {z : List Value} (hB0 : Below w.heap.size w w0) (hS : Own [] w0 [(b, z)] ww) : ∀ k, (k < w.heap.size ∨ ww.heap.size ≤ k) → k ∉ [(b, z)].map (·.1) := fun k hk hm => by
  obtain rfl : k = b := by simpa using hm
  have h1 := (hS.get at0).lt
  have h2 := hB0.size
  rcases hS.geAt at0 with h3 | h3
  · cases h3
  · omega
/-- The cells of a list of boxes. -/
theorem list_out {w : World} {n : Nat} {bw bh bd : Int} {kids : List (Bx n)} {cs : List Value} (h : Rep w (n + 1) (listB n bw bh bd kids) cs) : ∃ kx kc sx sc, cs = [.int .i64 3, .string ⟨#[]⟩, .int .i64 0, .int .i64 bw, .int .i64 bh, .int .i64 bd, .int .i64 0, .int .i64 0, .slice kx (kids.length : Nat) kc, .int .i64 0, .slice sx 0 sc] := by
  obtain ⟨kx, kc, sx, sc, rfl, _⟩ := rep_out h
  exact ⟨kx, kc, sx, sc, rfl⟩
theorem zero_out {w : World} {m : Nat} {cs : List Value} (h : Rep w (m + 1) (zeroB m) cs) : ∃ kx kc sx sc, cs = [.int .i64 0, .string ⟨#[]⟩, .int .i64 0, .int .i64 0, .int .i64 0, .int .i64 0, .int .i64 0, .int .i64 0, .slice kx 0 kc, .int .i64 0, .slice sx 0 sc] := by
  obtain ⟨kx, kc, sx, sc, rfl, _⟩ := rep_out h
  exact ⟨kx, kc, sx, sc, rfl⟩











end Go.Proofs.Ytdbcdjiclkmknaa
namespace Go.Proofs.Ytdbcdjiclkmknaa
open Go.RowKit

attribute [local irreducible] wpQuiet wpG wpP wpK wpList Code.wp Calls

theorem own_ne2 {D : List Nat} {W w : World} {x : Nat × List Value} {X : List (Nat × List Value)} {k : Nat} {z : List Value} (hS : Own D W (x :: X) w) (h : (k, z) ∈ X) : k ∉ [x.1] := fun hk => by
  obtain rfl : k = x.1 := by simpa using hk
  have := hS.apart
  simp only [List.map_cons, List.nodup_cons] at this
  exact this.1 (List.mem_map_of_mem (f := (·.1)) h)
theorem list_outN {w : World} {n N : Nat} {bw bh bd : Int} {kids : List (Bx n)} {cs : List Value} (h : Rep w (n + 1) (listB n bw bh bd kids) cs) (hN : kids.length = N) : ∃ kx kc sx sc, cs = [.int .i64 3, .string ⟨#[]⟩, .int .i64 0, .int .i64 bw, .int .i64 bh, .int .i64 bd, .int .i64 0, .int .i64 0, .slice kx N kc, .int .i64 0, .slice sx 0 sc] := by
  subst hN
  exact list_out h
/-- All boxes are modest. -/
def modL2 (n : Nat) (l : List (Bx (n + 1))) : Bool := l.all fun b => modB n b

set_option maxHeartbeats 8000000 in
set_option maxRecDepth 100000 in
theorem made35_no0 (F : Fnt) (l : Int) (c : Bool) (n : Nat) (base : Bx (n + 1)) (subs sups : List (Bx (n + 1))) (cs : List Value) (sx ux : Option Addr) (sc uc : Nat) (w : World) (hF : FntOk w F) (hr : Rep w (n + 1) base cs) (hs : RepL w (n + 1) sx subs) (hu : RepL w (n + 1) ux sups) (b1 : subs.length ≤ 1048576) (b2 : sups.length ≤ 1048576) (m : Nat) (ht : tameS F (n + 1) base subs sups = false) : Calls Try.prog 13 #[.agg (caseS F l c cs (.slice sx subs.length sc) (.slice ux sups.length uc)).toArray] w (GivesMade (m + 1) (zeroB m) false w) := by
  have HT := Lib.hid (fun w' (h : Below w.heap.size w w') => tame35_calls F l c n base subs sups cs sx ux sc uc w' (hF.below h) (hr.step h) (hs.step h) (hu.step h) b1 b2 _ ht.symm)
  obtain ⟨c0, c1, c2, c3, c4, c5, c6, c7, c8, c9, c10, rfl⟩ := eleven hr.len

  clear hF hr hs hu ht
  go_enter Try.func13, Try.ntmps13
  have hS := own_start w
  go_wp2_with (first | (refine own_unguard (by rfl) ?_) | (refine own_box rfl _ _ rfl rfl hS ?_; clear hS; intro kb w0 hS0; have hrC := (hS0.get at0).range; have HB0 := Lib.hid hS0.below; obtain ⟨hrF, hrS, hrN, cV, cU⟩ := caseS_out hrC; have hS := own_start w0; clear hS0) | (refine own_load_old rfl _ _ rfl rfl hS hrC List.not_mem_nil rt_case35 ?_) | (go_at_call 9; refine own_calls hS (HT.out _ (bthen HB0.out hS.below)) ?_; clear hS; (try clear ww); intro ww hS) | (refine w_ld rfl _ rfl (by rfl) (by first | exact rd_1 (by repeat constructor) (by first | rfl | assumption) | exact rd_w (by repeat constructor) (by rfl) | exact rd_o (by assumption) (by rfl) (by first | exact nmn | assumption | simp) | exact rd_h (by assumption) (by rfl) (by first | exact nmn | assumption | simp) | exact rd_1o (by assumption) (by first | exact nmn | assumption | simp) | exact rd_1h (by assumption) (by first | rfl | assumption) (by first | exact nmn | assumption | simp)) hS ?_) | (refine own_box rfl _ _ rfl (by rfl) hS ?_; clear hS; (try clear ww); intro bb ww hS) | (refine w_al rfl rfl hS ?_; clear hS; (try clear ww); intro bb ww hS) | (refine w_st rfl _ _ rfl (by rfl) (by rfl) (by repeat constructor) (by rfl) (by rfl) (by first | rfl | assumption) hS ?_; clear hS; (try clear ww); intro ww hS) | (refine w_s1 rfl _ _ rfl (by rfl) (by repeat constructor) (by first | exact .c | exact .t rfl) (by rfl) (by repeat constructor) hS ?_; clear hS; (try clear ww); intro ww hS))
  have hc := (hS.get at0).cell
  refine bodyPost_ret (v := .tuple #[.agg #[.int .i64 0, .string ⟨#[]⟩, .int .i64 0, .int .i64 0, .int .i64 0, .int .i64 0, .int .i64 0, .int .i64 0, .slice none 0 0, .int .i64 0, .slice none 0 0], .bool false]) (by simp [results, Try.results13, go_sem, hc]) rfl ⟨_, rfl, rep_zero m _, bthen HB0.out hS.below⟩

set_option maxHeartbeats 8000000 in
set_option maxRecDepth 100000 in
theorem made35_no1 (F : Fnt) (l : Int) (c : Bool) (n : Nat) (base : Bx (n + 1)) (subs sups : List (Bx (n + 1))) (cs : List Value) (sx ux : Option Addr) (sc uc : Nat) (w : World) (hF : FntOk w F) (hr : Rep w (n + 1) base cs) (hs : RepL w (n + 1) sx subs) (hu : RepL w (n + 1) ux sups) (b1 : subs.length ≤ 1048576) (b2 : sups.length ≤ 1048576) (m : Nat) (ht : tameS F (n + 1) base subs sups = true) (h1 : 1 < subs.length) : Calls Try.prog 13 #[.agg (caseS F l c cs (.slice sx subs.length sc) (.slice ux sups.length uc)).toArray] w (GivesMade (m + 1) (zeroB m) false w) := by
  have HT := Lib.hid (fun w' (h : Below w.heap.size w w') => tame35_calls F l c n base subs sups cs sx ux sc uc w' (hF.below h) (hr.step h) (hs.step h) (hu.step h) b1 b2 _ ht.symm)
  obtain ⟨c0, c1, c2, c3, c4, c5, c6, c7, c8, c9, c10, rfl⟩ := eleven hr.len
  have d1 : decide ((1 : Int) < (subs.length : Int)) = true := decide_eq_true (by omega)
  clear hF hr hs hu ht
  go_enter Try.func13, Try.ntmps13
  have hS := own_start w
  go_wp2_with (first | (refine own_unguard (by rfl) ?_) | (refine own_box rfl _ _ rfl rfl hS ?_; clear hS; intro kb w0 hS0; have hrC := (hS0.get at0).range; have HB0 := Lib.hid hS0.below; obtain ⟨hrF, hrS, hrN, cV, cU⟩ := caseS_out hrC; have hS := own_start w0; clear hS0) | (refine own_load_old rfl _ _ rfl rfl hS hrC List.not_mem_nil rt_case35 ?_) | (go_at_call 9; refine own_calls hS (HT.out _ (bthen HB0.out hS.below)) ?_; clear hS; (try clear ww); intro ww hS) | (refine w_ld rfl _ rfl (by rfl) (by first | exact rd_1 (by repeat constructor) (by first | rfl | assumption) | exact rd_w (by repeat constructor) (by rfl) | exact rd_o (by assumption) (by rfl) (by first | exact nmn | assumption | simp) | exact rd_h (by assumption) (by rfl) (by first | exact nmn | assumption | simp) | exact rd_1o (by assumption) (by first | exact nmn | assumption | simp) | exact rd_1h (by assumption) (by first | rfl | assumption) (by first | exact nmn | assumption | simp)) hS ?_) | (refine own_box rfl _ _ rfl (by rfl) hS ?_; clear hS; (try clear ww); intro bb ww hS) | (refine w_al rfl rfl hS ?_; clear hS; (try clear ww); intro bb ww hS) | (refine w_st rfl _ _ rfl (by rfl) (by rfl) (by repeat constructor) (by rfl) (by rfl) (by first | rfl | assumption) hS ?_; clear hS; (try clear ww); intro ww hS) | (refine w_s1 rfl _ _ rfl (by rfl) (by repeat constructor) (by first | exact .c | exact .t rfl) (by rfl) (by repeat constructor) hS ?_; clear hS; (try clear ww); intro ww hS))
  have hc := (hS.get at0).cell
  refine bodyPost_ret (v := .tuple #[.agg #[.int .i64 0, .string ⟨#[]⟩, .int .i64 0, .int .i64 0, .int .i64 0, .int .i64 0, .int .i64 0, .int .i64 0, .slice none 0 0, .int .i64 0, .slice none 0 0], .bool false]) (by simp [results, Try.results13, go_sem, hc]) rfl ⟨_, rfl, rep_zero m _, bthen HB0.out hS.below⟩

set_option maxHeartbeats 8000000 in
set_option maxRecDepth 100000 in
theorem made35_no2 (F : Fnt) (l : Int) (c : Bool) (n : Nat) (base : Bx (n + 1)) (subs sups : List (Bx (n + 1))) (cs : List Value) (sx ux : Option Addr) (sc uc : Nat) (w : World) (hF : FntOk w F) (hr : Rep w (n + 1) base cs) (hs : RepL w (n + 1) sx subs) (hu : RepL w (n + 1) ux sups) (b1 : subs.length ≤ 1048576) (b2 : sups.length ≤ 1048576) (m : Nat) (ht : tameS F (n + 1) base subs sups = true) (h1 : subs.length ≤ 1) (h2 : 1 < sups.length) : Calls Try.prog 13 #[.agg (caseS F l c cs (.slice sx subs.length sc) (.slice ux sups.length uc)).toArray] w (GivesMade (m + 1) (zeroB m) false w) := by
  have HT := Lib.hid (fun w' (h : Below w.heap.size w w') => tame35_calls F l c n base subs sups cs sx ux sc uc w' (hF.below h) (hr.step h) (hs.step h) (hu.step h) b1 b2 _ ht.symm)
  obtain ⟨c0, c1, c2, c3, c4, c5, c6, c7, c8, c9, c10, rfl⟩ := eleven hr.len
  have d1 : decide ((1 : Int) < (subs.length : Int)) = false := decide_eq_false (by omega)
  have d2 : decide ((1 : Int) < (sups.length : Int)) = true := decide_eq_true (by omega)
  clear hF hr hs hu ht
  go_enter Try.func13, Try.ntmps13
  have hS := own_start w
  go_wp2_with (first | (refine own_unguard (by rfl) ?_) | (refine own_box rfl _ _ rfl rfl hS ?_; clear hS; intro kb w0 hS0; have hrC := (hS0.get at0).range; have HB0 := Lib.hid hS0.below; obtain ⟨hrF, hrS, hrN, cV, cU⟩ := caseS_out hrC; have hS := own_start w0; clear hS0) | (refine own_load_old rfl _ _ rfl rfl hS hrC List.not_mem_nil rt_case35 ?_) | (go_at_call 9; refine own_calls hS (HT.out _ (bthen HB0.out hS.below)) ?_; clear hS; (try clear ww); intro ww hS) | (refine w_ld rfl _ rfl (by rfl) (by first | exact rd_1 (by repeat constructor) (by first | rfl | assumption) | exact rd_w (by repeat constructor) (by rfl) | exact rd_o (by assumption) (by rfl) (by first | exact nmn | assumption | simp) | exact rd_h (by assumption) (by rfl) (by first | exact nmn | assumption | simp) | exact rd_1o (by assumption) (by first | exact nmn | assumption | simp) | exact rd_1h (by assumption) (by first | rfl | assumption) (by first | exact nmn | assumption | simp)) hS ?_) | (refine own_box rfl _ _ rfl (by rfl) hS ?_; clear hS; (try clear ww); intro bb ww hS) | (refine w_al rfl rfl hS ?_; clear hS; (try clear ww); intro bb ww hS) | (refine w_st rfl _ _ rfl (by rfl) (by rfl) (by repeat constructor) (by rfl) (by rfl) (by first | rfl | assumption) hS ?_; clear hS; (try clear ww); intro ww hS) | (refine w_s1 rfl _ _ rfl (by rfl) (by repeat constructor) (by first | exact .c | exact .t rfl) (by rfl) (by repeat constructor) hS ?_; clear hS; (try clear ww); intro ww hS))
  have hc := (hS.get at0).cell
  refine bodyPost_ret (v := .tuple #[.agg #[.int .i64 0, .string ⟨#[]⟩, .int .i64 0, .int .i64 0, .int .i64 0, .int .i64 0, .int .i64 0, .int .i64 0, .slice none 0 0, .int .i64 0, .slice none 0 0], .bool false]) (by simp [results, Try.results13, go_sem, hc]) rfl ⟨_, rfl, rep_zero m _, bthen HB0.out hS.below⟩

end Go.Proofs.Ytdbcdjiclkmknaa
namespace Go.Proofs.Ytdbcdjiclkmknaa
open Go.RowKit

attribute [local irreducible] wpQuiet wpG wpP wpK wpList Code.wp Calls

set_option maxHeartbeats 16000000 in
set_option maxRecDepth 100000 in
theorem made35_no3 (F : Fnt) (l : Int) (c : Bool) (n : Nat) (base : Bx (n + 1)) (subs sups : List (Bx (n + 1))) (cs : List Value) (sx ux : Option Addr) (sc uc : Nat) (w : World) (hF : FntOk w F) (hr : Rep w (n + 1) base cs) (hs : RepL w (n + 1) sx subs) (hu : RepL w (n + 1) ux sups) (b1 : subs.length ≤ 1048576) (b2 : sups.length ≤ 1048576) (m : Nat) (ht : tameS F (n + 1) base subs sups = true) (h1 : subs.length ≤ 1) (h2 : sups.length ≤ 1) (hml : modL2 n (base :: (subs ++ sups)) = false) : Calls Try.prog 13 #[.agg (caseS F l c cs (.slice sx subs.length sc) (.slice ux sups.length uc)).toArray] w (GivesMade (m + 1) (zeroB m) false w) := by
  have HT := Lib.hid (fun w' (h : Below w.heap.size w w') => tame35_calls F l c n base subs sups cs sx ux sc uc w' (hF.below h) (hr.step h) (hs.step h) (hu.step h) b1 b2 _ ht.symm)
  obtain ⟨ls, ells, hns, hos, hrs⟩ := repL_cells hs
  obtain ⟨lu, ellu, hnu, hou, hru⟩ := repL_cells hu
  have HNs := Lib.hid hns
  have HNu := Lib.hid hnu
  have HOs := Lib.hid hos
  have HOu := Lib.hid hou
  have HRs := Lib.hid hrs
  have HRu := Lib.hid hru
  have HLs := Lib.hid (show (ls.flatMap Subtype.val).length = subs.length * 11 by rw [← ells]; exact flat_len (f := Subtype.val) (size := 11) (fun a => a.2) ls)
  have HLu := Lib.hid (show (lu.flatMap Subtype.val).length = sups.length * 11 by rw [← ellu]; exact flat_len (f := Subtype.val) (size := 11) (fun a => a.2) lu)
  have HEs := Lib.hid ells
  have HEu := Lib.hid ellu
  have HR := Lib.hid hr
  have HW := Lib.hid (Nat.le_refl w.heap.size)
  obtain ⟨c0, c1, c2, c3, c4, c5, c6, c7, c8, c9, c10, rfl⟩ := eleven hr.len
  have d1 : decide ((1 : Int) < (subs.length : Int)) = false := decide_eq_false (by omega)
  have d2 : decide ((1 : Int) < (sups.length : Int)) = false := decide_eq_false (by omega)
  clear hF hr hs hu ht hns hnu hos hou hrs hru ells ellu
  go_enter Try.func13, Try.ntmps13
  have hS := own_start w
  go_upto_region 3 with (first | (refine own_unguard (by rfl) ?_) | (refine w_al rfl rfl hS ?_; clear hS; (try clear ww); intro b2 ww hS) | (refine own_box rfl _ _ rfl rfl hS ?_; clear hS; intro kb w0 hS0; have hrC := (hS0.get at0).range; have HB0 := Lib.hid hS0.below; obtain ⟨hrF, hrS, hrN, cV, cU⟩ := caseS_out hrC; have hS := own_start w0; clear hS0) | (refine own_load_old rfl _ _ rfl rfl hS hrC List.not_mem_nil rt_case35 ?_) | (go_at_call 9; refine own_calls hS (HT.out _ (bthen HB0.out hS.below)) ?_; clear hS; (try clear ww); intro ww hS) | (refine w_ld rfl _ rfl (by rfl) (by first | exact rd_1 (by repeat constructor) (by first | rfl | assumption) | exact rd_w (by repeat constructor) (by rfl) | exact rd_o (by assumption) (by rfl) (by first | exact nmn | assumption | simp) | exact rd_h (by assumption) (by rfl) (by first | exact nmn | assumption | simp) | exact rd_1o (by assumption) (by first | exact nmn | assumption | simp) | exact rd_1h (by assumption) (by first | rfl | assumption) (by first | exact nmn | assumption | simp)) hS ?_) | (refine own_box rfl _ _ rfl (by rfl) hS ?_; clear hS; (try clear ww); intro bb ww hS) | (refine w_al rfl rfl hS ?_; clear hS; (try clear ww); intro bb ww hS) | (refine w_st rfl _ _ rfl (by rfl) (by rfl) (by repeat constructor) (by rfl) (by rfl) (by first | rfl | assumption) hS ?_; clear hS; (try clear ww); intro ww hS) | (refine w_s1 rfl _ _ rfl (by rfl) (by repeat constructor) (by first | exact .c | exact .t rfl) (by rfl) (by repeat constructor) hS ?_; clear hS; (try clear ww); intro ww hS))
  have rNr := hS.range List.not_mem_nil hrN
  have rVr := hS.cell List.not_mem_nil cV
  have rUr := hS.cell List.not_mem_nil cU
  have nn := hS.oldOff (World.block_lt_of_cell? w0 _ cV)
  have HS0 := Lib.hid hS
  rename World => wR
  obtain ⟨DD, HDD, hS1⟩ := hS.rebaseN
  rw [← HDD.out] at nn
  have HSw := Lib.hid hS1
  clear hS
  have hS := hS1
  clear hS1
  (try simp only [Act.put]); (try simp only [List.setIfInBounds_toArray]); (try simp only [List.set_cons_succ]); (try simp only [List.set_cons_zero])
  refine own_anyM hS [5, 8] [] 10 (by kernel_rfl) (by kernel_rfl) ?_
  clear hS
  intro hcl ww hS _
  refine own_batchN HSw.out [0, 1, 3, 4, 6, 7] 4 rfl hS hcl (by kernel_rfl) ?_
  (try simp only); repeat (first | (simp only [List.filterMap_cons]) | (simp only [List.filterMap_nil]) | (simp only [List.getElem?_toArray]) | (simp only [List.getElem?_cons_succ]) | (simp only [List.getElem?_cons_zero]) | (simp only [List.reverse_cons]) | (simp only [List.reverse_nil]) | (simp only [List.nil_append]) | (simp only [List.cons_append]))
  repeat (first
      | (first | (refine g_plain rfl ?_) | (refine g_yes rfl rfl rfl (by simp only [List.getElem?_toArray, List.getElem?_cons_succ, List.getElem?_cons_zero]; rfl) (by with_reducible constructor) ?_)
         apply Exists.intro; refine ⟨?_, ?_⟩
         focus (intro wq hq0; (first | have hq : Own _ _ _ wq := hq0 | have hq : Own _ _ _ wq := hq0.1 | skip); first | ((with_reducible show givesAt _ ({ dst := _, op := Op.load _ _, type := _, pos := _, after := _, guard := _ } : Oper) _ _ _); first | (exact givesAt_rd rfl (by rfl) (by first | exact rd_1 (by repeat constructor) (by first | rfl | assumption) | exact rd_w (by repeat constructor) (by rfl) | exact rd_o (by assumption) (by rfl) (by first | exact nmn | assumption | simp) | exact rd_h (by assumption) (by rfl) (by first | exact nmn | assumption | simp) | exact rd_1o (by assumption) (by first | exact nmn | assumption | simp) | exact rd_1h (by assumption) (by first | rfl | assumption) (by first | exact nmn | assumption | simp)) hq)) | (go_simp; first | (with_reducible rfl)))
         simp only [Act.put, List.setIfInBounds_toArray]; (try simp only [List.set_cons_succ]); (try simp only [List.set_cons_zero]))
      | (refine g_no rfl rfl rfl (by simp only [List.getElem?_toArray, List.getElem?_cons_succ, List.getElem?_cons_zero]; rfl) (by with_reducible constructor) ?_; simp only [Act.put, List.setIfInBounds_toArray]; (try simp only [List.set_cons_succ]); (try simp only [List.set_cons_zero])))
  refine g_nil ?_
  clear hS hcl
  intro hcl ww hS
  (try simp only [Act.put]); (try simp only [List.setIfInBounds_toArray]); (try simp only [List.set_cons_succ]); (try simp only [List.set_cons_zero])
  refine own_soft hS 2 hcl (by simp only [List.getElem?_toArray, List.getElem?_cons_succ, List.getElem?_cons_zero]; rfl) (by kernel_rfl) ?_
  have hO := hS
  clear hS
  intro hS
  refine own_buildSlice rfl _ _ 1 _ rfl [c0, c1, c2, c3, c4, c5, c6, c7, c8, c9, c10] hS Try.underlying30 (by kernel_rfl) ?_
  clear hS
  intro bs w6 hS
  refine wpList_nil ⟨rfl, _, hS, ?_⟩
  clear hS hO hcl
  intro hcl w7 hS
  have hB7 := (bthen HB0.out (HS0.out.chain (HDD.out ▸ hS)).below)
  (try simp only [Act.put]); (try simp only [List.setIfInBounds_toArray]); (try simp only [List.set_cons_succ]); (try simp only [List.set_cons_zero])
  refine own_mid (K := [(bs, _)]) (L := [(b2, _)]) hS (Own.newer (K := [(bs, _)]) (L := [(b2, _)]) hS (by rw [HDD.out]; exact fun _ h => h)) 5 hcl (by simp only [List.getElem?_toArray, List.getElem?_cons_succ, List.getElem?_cons_zero]; rfl) (by kernel_rfl) ?_
  clear hS
  intro hS
  refine own_app (n := 1) (xs := [c0, c1, c2, c3, c4, c5, c6, c7, c8, c9, c10]) (X := [(bs, [c0, c1, c2, c3, c4, c5, c6, c7, c8, c9, c10])]) (L := []) rfl _ _ _ rfl ⟨rfl, .inr ⟨bs, 1, [], rfl, Nat.le_refl _, by simp [maxLen], rfl, rfl⟩⟩ (by decide) rfl rfl hS (repL_news HNs.out hB7) HLs.out HOs.out el_box (by decide) (by simp only [maxLen]; omega) (by omega) ?_
  clear hS
  intro v1 X1 w8 hS hX1
  refine wpList_nil ⟨rfl, _, hS, ?_⟩
  clear hS hcl hB7
  intro hcl w9 hS
  simp only [List.nil_append] at hS
  have hB9 := (bthen HB0.out (HS0.out.chain (HDD.out ▸ hS)).below)
  (try simp only [Act.put]); (try simp only [List.setIfInBounds_toArray]); (try simp only [List.set_cons_succ]); (try simp only [List.set_cons_zero])
  refine own_mid (K := X1) (L := [(b2, _)]) hS (Own.newer (K := X1) (L := [(b2, _)]) hS (by rw [HDD.out]; exact fun _ h => h)) 8 hcl (by simp only [List.getElem?_toArray, List.getElem?_cons_succ, List.getElem?_cons_zero]; rfl) (by kernel_rfl) ?_
  clear hS
  intro hS
  refine own_app (n := 1 + subs.length) (L := []) rfl _ _ _ rfl hX1 (by omega) rfl rfl hS (repL_news HNu.out hB9) HLu.out HOu.out el_box (by decide) (by simp only [maxLen]; omega) (by omega) ?_
  clear hS hX1
  intro v2 X2 w10 hS hX2
  obtain ⟨y2, k2, rfl⟩ := hX2.slice
  refine wpList_nil ⟨rfl, _, hS, ?_⟩
  clear hS hcl hB9
  intro hcl wa hS
  simp only [List.nil_append] at hS
  (try simp only [Act.put]); (try simp only [List.setIfInBounds_toArray]); (try simp only [List.set_cons_succ]); (try simp only [List.set_cons_zero])
  refine own_batch hS [9] 0 rfl hcl (by kernel_rfl) ?_
  (try simp only); repeat (first | (simp only [List.filterMap_cons]) | (simp only [List.filterMap_nil]) | (simp only [List.getElem?_toArray]) | (simp only [List.getElem?_cons_succ]) | (simp only [List.getElem?_cons_zero]) | (simp only [List.reverse_cons]) | (simp only [List.reverse_nil]) | (simp only [List.nil_append]) | (simp only [List.cons_append]))
  repeat (first
      | (first | (refine g_plain rfl ?_) | (refine g_yes rfl rfl rfl (by simp only [List.getElem?_toArray, List.getElem?_cons_succ, List.getElem?_cons_zero]; rfl) (by with_reducible constructor) ?_)
         apply Exists.intro; refine ⟨?_, ?_⟩
         focus (intro wq hq0; (first | have hq : Own _ _ _ wq := hq0 | have hq : Own _ _ _ wq := hq0.1 | skip); first | ((with_reducible show givesAt _ ({ dst := _, op := Op.load _ _, type := _, pos := _, after := _, guard := _ } : Oper) _ _ _); first | (exact givesAt_rd rfl (by rfl) (by first | exact rd_1 (by repeat constructor) (by first | rfl | assumption) | exact rd_w (by repeat constructor) (by rfl) | exact rd_o (by assumption) (by rfl) (by first | exact nmn | assumption | simp) | exact rd_h (by assumption) (by rfl) (by first | exact nmn | assumption | simp) | exact rd_1o (by assumption) (by first | exact nmn | assumption | simp) | exact rd_1h (by assumption) (by first | rfl | assumption) (by first | exact nmn | assumption | simp)) hq)) | (go_simp; first | (with_reducible rfl)))
         simp only [Act.put, List.setIfInBounds_toArray]; (try simp only [List.set_cons_succ]); (try simp only [List.set_cons_zero]))
      | (refine g_no rfl rfl rfl (by simp only [List.getElem?_toArray, List.getElem?_cons_succ, List.getElem?_cons_zero]; rfl) (by with_reducible constructor) ?_; simp only [Act.put, List.setIfInBounds_toArray]; (try simp only [List.set_cons_succ]); (try simp only [List.set_cons_zero])))
  refine g_nil ?_
  clear hS hcl
  intro hcl ww hS
  refine own_done (by kernel_rfl) ?_
  rename World => w11
  (try simp only [Act.put]); (try simp only [List.setIfInBounds_toArray]); (try simp only [List.set_cons_succ]); (try simp only [List.set_cons_zero])
  obtain rfl := HDD.out
  have hS1 := (HS0.out.chain hS).perm List.perm_append_comm
  clear hS HDD HS0 HSw rNr rVr rUr nn
  have hS := hS1
  clear hS1
  simp only [List.cons_append, List.nil_append] at hS
  have hAll : RepLP (fun k => k < w.heap.size) w11 (n + 1) y2 (base :: (subs ++ sups)) := all_row hS (fun x hx => by simp [hx]) hX2 (bthen HB0.out hS.below) HR.out HEs.out HEu.out rfl HRs.out HRu.out
  have hrow : ∀ k o, y2 = some ⟨k, o, none⟩ → k ∉ [b2] := fun k o hy => by
    obtain ⟨z, hz⟩ := sl_where hX2 (by omega) hy
    exact own_ne2 hS hz
  generalize hNe : 1 + subs.length + sups.length = N at *
  have hN := Lib.hid hNe.symm
  clear hNe
  have HA := Lib.hid hAll
  have HRw := Lib.hid hrow
  have bN : N ≤ 2097153 := by rw [hN.out]; omega
  have hrC1 := hS.range List.not_mem_nil hrC
  have hrF1 := hS.range List.not_mem_nil hrF
  have hrS1 := hS.range List.not_mem_nil hrS
  have hrN1 := hS.range List.not_mem_nil hrN
  have cV1 := hS.cell List.not_mem_nil cV
  have cU1 := hS.cell List.not_mem_nil cU
  have hS2 := hS.forget (List.Sublist.cons_cons _ (List.nil_sublist _))
  have nkb : kb ∉ [b2] := fun hk => by
    obtain rfl : kb = b2 := by simpa using hk
    have h1 := World.block_lt_of_cell? w0 _ cV
    rcases hS2.geAt at0 with h3 | h3
    · cases h3
    · simp only at h1; omega
  have hoff : ∀ k, k < w.heap.size → k ∉ [b2] := fun k hk hm => by
    obtain rfl : k = b2 := by simpa using hm
    have h1 := HB0.out.size
    rcases hS2.geAt at0 with h3 | h3
    · cases h3
    · omega
  have HOff := Lib.hid hoff
  have HC := Lib.hid hS2
  have hS3 : Own [b2] w11 _ w11 := hS2.rebase
  clear hS hX2 hAll hrow hoff hS2
  have hS := hS3
  clear hS3
  go_wp2_with (first | (refine own_unguard (by rfl) ?_) | (refine w_ld rfl _ rfl (by rfl) (by first | exact rd_1 (by repeat constructor) (by first | rfl | assumption) | exact rd_w (by repeat constructor) (by rfl) | exact rd_o (by assumption) (by rfl) (by first | exact nmn | assumption | simp) | exact rd_h (by assumption) (by rfl) (by first | exact nmn | assumption | simp) | exact rd_1o (by assumption) (by first | exact nmn | assumption | simp) | exact rd_1h (by assumption) (by first | rfl | assumption) (by first | exact nmn | assumption | simp)) hS ?_) | (refine own_box rfl _ _ rfl (by rfl) hS ?_; clear hS; (try clear ww); intro bb ww hS) | (refine w_al rfl rfl hS ?_; clear hS; (try clear ww); intro bb ww hS) | (refine w_st rfl _ _ rfl (by rfl) (by rfl) (by repeat constructor) (by rfl) (by rfl) (by first | rfl | assumption) hS ?_; clear hS; (try clear ww); intro ww hS) | (refine w_s1 rfl _ _ rfl (by rfl) (by repeat constructor) (by first | exact .c | exact .t rfl) (by rfl) (by repeat constructor) hS ?_; clear hS; (try clear ww); intro ww hS))
  go_loopw [5] (fun i wr => ∃ k : Nat, k ≤ N ∧ i = .int .i64 k ∧ (∀ (q : Nat) (b : Bx (n + 1)), q < k → (base :: (subs ++ sups))[q]? = some b → modB n b = true) ∧ Own [b2] w11 [(b2, [.int .i64 0, .string ⟨#[]⟩, .int .i64 0, .int .i64 0, .int .i64 0, .int .i64 0, .int .i64 0, .int .i64 0, .slice none 0 0, .int .i64 0, .slice none 0 0])] wr) (fun i _ => N - (intOf i).toNat)
  case atStart => exact ⟨0, Nat.zero_le _, rfl, fun q b hq => by omega, hS⟩
  case round =>
    clear hS
    obtain ⟨k, hk, rfl, hpre, hS⟩ := hrel
    have HP := Lib.hid hpre
    clear hpre
    by_cases hlt : k < N
    · obtain ⟨kid, hkid⟩ : ∃ q, (base :: (subs ++ sups))[k]? = some q := ⟨(base :: (subs ++ sups))[k]'(by simp only [List.length_cons, List.length_append]; rw [hN.out] at hlt; omega), by rw [List.getElem?_eq_getElem]⟩
      obtain ⟨b3, o3, css, rfl, hr3, hp3⟩ := HA.out k kid hkid
      have n3 := HRw.out b3 o3 rfl
      have HK := Lib.hid hkid
      have HP3 := Lib.hid hp3
      obtain ⟨f0, f1, f2, f3, f4, f5, f6, f7, f8, f9, f10, rfl⟩ := eleven hp3.len
      clear hkid hp3
      by_cases hmo : modB n kid = true
      · have HMo := Lib.hid (fun w' (h : Own [b2] w11 [(b2, [.int .i64 0, .string ⟨#[]⟩, .int .i64 0, .int .i64 0, .int .i64 0, .int .i64 0, .int .i64 0, .int .i64 0, .slice none 0 0, .int .i64 0, .slice none 0 0])] w') => ref32_Modest_calls n kid _ w' (repP_turn HP3.out h HOff.out).rep true hmo.symm)
        go_wp2_with (first | (refine own_unguard (by rfl) ?_) | (go_at_call 32; refine own_calls hS (HMo.out _ hS) ?_; clear hS; (try clear ww); intro ww hS) | (refine w_ld rfl _ rfl (by rfl) (by first | exact rd_1 (by repeat constructor) (by first | rfl | assumption) | exact rd_w (by repeat constructor) (by rfl) | exact rd_o (by assumption) (by rfl) (by first | exact nmn | assumption | simp) | exact rd_h (by assumption) (by rfl) (by first | exact nmn | assumption | simp) | exact rd_1o (by assumption) (by first | exact nmn | assumption | simp) | exact rd_1h (by assumption) (by first | rfl | assumption) (by first | exact nmn | assumption | simp)) hS ?_) | (refine own_box rfl _ _ rfl (by rfl) hS ?_; clear hS; (try clear ww); intro bb ww hS) | (refine w_al rfl rfl hS ?_; clear hS; (try clear ww); intro bb ww hS) | (refine w_st rfl _ _ rfl (by rfl) (by rfl) (by repeat constructor) (by rfl) (by rfl) (by first | rfl | assumption) hS ?_; clear hS; (try clear ww); intro ww hS) | (refine w_s1 rfl _ _ rfl (by rfl) (by repeat constructor) (by first | exact .c | exact .t rfl) (by rfl) (by repeat constructor) hS ?_; clear hS; (try clear ww); intro ww hS))
        go_roundw
        case rel =>
          refine ⟨k + 1, hlt, by go_num, fun q b hq hb => ?_, hS⟩
          by_cases hqk : q < k
          · exact HP.out q b hqk hb
          · obtain rfl : q = k := by omega
            obtain rfl := Option.some.inj (HK.out.symm.trans hb)
            exact hmo
        case measure => exact loop_meas hlt
      · have HMo := Lib.hid (fun w' (h : Own [b2] w11 [(b2, [.int .i64 0, .string ⟨#[]⟩, .int .i64 0, .int .i64 0, .int .i64 0, .int .i64 0, .int .i64 0, .int .i64 0, .slice none 0 0, .int .i64 0, .slice none 0 0])] w') => ref32_Modest_calls n kid _ w' (repP_turn HP3.out h HOff.out).rep false (by simpa using hmo))
        go_wp2_with (first | (refine own_unguard (by rfl) ?_) | (go_at_call 32; refine own_calls hS (HMo.out _ hS) ?_; clear hS; (try clear ww); intro ww hS) | (refine w_ld rfl _ rfl (by rfl) (by first | exact rd_1 (by repeat constructor) (by first | rfl | assumption) | exact rd_w (by repeat constructor) (by rfl) | exact rd_o (by assumption) (by rfl) (by first | exact nmn | assumption | simp) | exact rd_h (by assumption) (by rfl) (by first | exact nmn | assumption | simp) | exact rd_1o (by assumption) (by first | exact nmn | assumption | simp) | exact rd_1h (by assumption) (by first | rfl | assumption) (by first | exact nmn | assumption | simp)) hS ?_) | (refine own_box rfl _ _ rfl (by rfl) hS ?_; clear hS; (try clear ww); intro bb ww hS) | (refine w_al rfl rfl hS ?_; clear hS; (try clear ww); intro bb ww hS) | (refine w_st rfl _ _ rfl (by rfl) (by rfl) (by repeat constructor) (by rfl) (by rfl) (by first | rfl | assumption) hS ?_; clear hS; (try clear ww); intro ww hS) | (refine w_s1 rfl _ _ rfl (by rfl) (by repeat constructor) (by first | exact .c | exact .t rfl) (by rfl) (by repeat constructor) hS ?_; clear hS; (try clear ww); intro ww hS))
        have hc := (hS.get at0).cell
        refine bodyPost_ret (v := .tuple #[.agg #[.int .i64 0, .string ⟨#[]⟩, .int .i64 0, .int .i64 0, .int .i64 0, .int .i64 0, .int .i64 0, .int .i64 0, .slice none 0 0, .int .i64 0, .slice none 0 0], .bool false]) (by simp [results, Try.results13, go_sem, hc]) rfl ⟨_, rfl, rep_zero m _, bthen HB0.out (HC.out.chain hS).below⟩
    · obtain rfl : k = N := by omega
      exfalso
      have : modL2 n (base :: (subs ++ sups)) = true := by
        unfold modL2
        rw [List.all_eq_true]
        intro b hb
        obtain ⟨q, hq⟩ := List.mem_iff_getElem?.1 hb
        have hql := (List.getElem?_eq_some_iff.1 hq).1
        simp only [List.length_cons, List.length_append] at hql
        exact HP.out q b (by rw [hN.out]; omega) hq
      rw [hml] at this
      cases this

end Go.Proofs.Ytdbcdjiclkmknaa
