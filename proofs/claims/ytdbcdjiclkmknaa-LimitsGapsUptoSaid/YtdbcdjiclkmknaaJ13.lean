/- Texts Mp5, Mq5. -/
import Derived.Test.YtdbcdjiclkmknaaJ12
namespace Go.Proofs.Ytdbcdjiclkmknaa
open Go.RowKit

attribute [local irreducible] wpQuiet wpG wpP wpK wpList Code.wp Calls

set_option maxHeartbeats 16000000 in
set_option maxRecDepth 100000 in
theorem made35_yes (F : Fnt) (l : Int) (c : Bool) (n : Nat) (base : Bx (n + 1)) (subs sups : List (Bx (n + 1))) (cs : List Value) (sx ux : Option Addr) (sc uc : Nat) (w : World) (hF : FntOk w F) (hr : Rep w (n + 1) base cs) (hs : RepL w (n + 1) sx subs) (hu : RepL w (n + 1) ux sups) (b1 : subs.length ≤ 1048576) (b2 : sups.length ≤ 1048576) (ht : tameS F (n + 1) base subs sups = true) (h1 : subs.length ≤ 1) (h2 : sups.length ≤ 1) (hml : modL2 n (base :: (subs ++ sups)) = true) (bw bh bd : Int) (kids : List (Bx (n + 1))) (hkl : kids.length = 1 + subs.length + sups.length)
    (hM : ∀ w', Below w.heap.size w w' → Calls Try.prog 10 #[F.val, .agg #[.int .i64 l, .bool c], .agg cs.toArray, .slice sx subs.length sc, .slice ux sups.length uc] w' (GivesBEP (fun k => k < w.heap.size) (n + 2) (listB (n + 1) bw bh bd kids) 0 w')) : Calls Try.prog 13 #[.agg (caseS F l c cs (.slice sx subs.length sc) (.slice ux sups.length uc)).toArray] w (GivesMade (n + 2) (listB (n + 1) bw bh bd kids) true w) := by
  have HM := Lib.hid hM
  clear hM
  have HT := Lib.hid (fun w' (h : Below w.heap.size w w') => tame35_calls F l c n base subs sups cs sx ux sc uc w' (hF.below h) (hr.step h) (hs.step h) (hu.step h) b1 b2 _ ht.symm)
  obtain ⟨ls, ells, hns, hos, hrs⟩ := repL_cells hs
  obtain ⟨lu, ellu, hnu, hou, hru⟩ := repL_cells hu
  have HNs := Lib.hid hns
  have HNu := Lib.hid hnu
  have HOs := Lib.hid hos
  have HOu := Lib.hid hou
  have HRs := Lib.hid hrs
  have HRu := Lib.hid hru
  have HLs := Lib.hid (show (ls.flatMap Subtype.val).length = subs.length * 11 by rw [← ells]; exact flat_len (f := Subtype.val) (size := 11) (fun a => a.2) ls)
  have HLu := Lib.hid (show (lu.flatMap Subtype.val).length = sups.length * 11 by rw [← ellu]; exact flat_len (f := Subtype.val) (size := 11) (fun a => a.2) lu)
  have HEs := Lib.hid ells
  have HEu := Lib.hid ellu
  have HR := Lib.hid hr
  have HW := Lib.hid (Nat.le_refl w.heap.size)
  obtain ⟨c0, c1, c2, c3, c4, c5, c6, c7, c8, c9, c10, rfl⟩ := eleven hr.len
  have d1 : decide ((1 : Int) < (subs.length : Int)) = false := decide_eq_false (by omega)
  have d2 : decide ((1 : Int) < (sups.length : Int)) = false := decide_eq_false (by omega)
  clear hF hr hs hu ht hns hnu hos hou hrs hru ells ellu
  go_enter Try.func13, Try.ntmps13
  have hS := own_start w
  go_upto_region 3 with (first | (refine own_unguard (by rfl) ?_) | (refine w_al rfl rfl hS ?_; clear hS; (try clear ww); intro b2 ww hS) | (refine own_box rfl _ _ rfl rfl hS ?_; clear hS; intro kb w0 hS0; have hrC := (hS0.get at0).range; have HB0 := Lib.hid hS0.below; obtain ⟨hrF, hrS, hrN, cV, cU⟩ := caseS_out hrC; have hS := own_start w0; clear hS0) | (refine own_load_old rfl _ _ rfl rfl hS hrC List.not_mem_nil rt_case35 ?_) | (go_at_call 9; refine own_calls hS (HT.out _ (bthen HB0.out hS.below)) ?_; clear hS; (try clear ww); intro ww hS) | (refine w_ld rfl _ rfl (by rfl) (by first | exact rd_1 (by repeat constructor) (by first | rfl | assumption) | exact rd_w (by repeat constructor) (by rfl) | exact rd_o (by assumption) (by rfl) (by first | exact nmn | assumption | simp) | exact rd_h (by assumption) (by rfl) (by first | exact nmn | assumption | simp) | exact rd_1o (by assumption) (by first | exact nmn | assumption | simp) | exact rd_1h (by assumption) (by first | rfl | assumption) (by first | exact nmn | assumption | simp)) hS ?_) | (refine own_box rfl _ _ rfl (by rfl) hS ?_; clear hS; (try clear ww); intro bb ww hS) | (refine w_al rfl rfl hS ?_; clear hS; (try clear ww); intro bb ww hS) | (refine w_st rfl _ _ rfl (by rfl) (by rfl) (by repeat constructor) (by rfl) (by rfl) (by first | rfl | assumption) hS ?_; clear hS; (try clear ww); intro ww hS) | (refine w_s1 rfl _ _ rfl (by rfl) (by repeat constructor) (by first | exact .c | exact .t rfl) (by rfl) (by repeat constructor) hS ?_; clear hS; (try clear ww); intro ww hS))
  have rNr := hS.range List.not_mem_nil hrN
  have rVr := hS.cell List.not_mem_nil cV
  have rUr := hS.cell List.not_mem_nil cU
  have nn := hS.oldOff (World.block_lt_of_cell? w0 _ cV)
  have HS0 := Lib.hid hS
  rename World => wR
  obtain ⟨DD, HDD, hS1⟩ := hS.rebaseN
  rw [← HDD.out] at nn
  have HSw := Lib.hid hS1
  clear hS
  have hS := hS1
  clear hS1
  (try simp only [Act.put]); (try simp only [List.setIfInBounds_toArray]); (try simp only [List.set_cons_succ]); (try simp only [List.set_cons_zero])
  refine own_anyM hS [5, 8] [] 10 (by kernel_rfl) (by kernel_rfl) ?_
  clear hS
  intro hcl ww hS _
  refine own_batchN HSw.out [0, 1, 3, 4, 6, 7] 4 rfl hS hcl (by kernel_rfl) ?_
  (try simp only); repeat (first | (simp only [List.filterMap_cons]) | (simp only [List.filterMap_nil]) | (simp only [List.getElem?_toArray]) | (simp only [List.getElem?_cons_succ]) | (simp only [List.getElem?_cons_zero]) | (simp only [List.reverse_cons]) | (simp only [List.reverse_nil]) | (simp only [List.nil_append]) | (simp only [List.cons_append]))
  repeat (first
      | (first | (refine g_plain rfl ?_) | (refine g_yes rfl rfl rfl (by simp only [List.getElem?_toArray, List.getElem?_cons_succ, List.getElem?_cons_zero]; rfl) (by with_reducible constructor) ?_)
         apply Exists.intro; refine ⟨?_, ?_⟩
         focus (intro wq hq0; (first | have hq : Own _ _ _ wq := hq0 | have hq : Own _ _ _ wq := hq0.1 | skip); first | ((with_reducible show givesAt _ ({ dst := _, op := Op.load _ _, type := _, pos := _, after := _, guard := _ } : Oper) _ _ _); first | (exact givesAt_rd rfl (by rfl) (by first | exact rd_1 (by repeat constructor) (by first | rfl | assumption) | exact rd_w (by repeat constructor) (by rfl) | exact rd_o (by assumption) (by rfl) (by first | exact nmn | assumption | simp) | exact rd_h (by assumption) (by rfl) (by first | exact nmn | assumption | simp) | exact rd_1o (by assumption) (by first | exact nmn | assumption | simp) | exact rd_1h (by assumption) (by first | rfl | assumption) (by first | exact nmn | assumption | simp)) hq)) | (go_simp; first | (with_reducible rfl)))
         simp only [Act.put, List.setIfInBounds_toArray]; (try simp only [List.set_cons_succ]); (try simp only [List.set_cons_zero]))
      | (refine g_no rfl rfl rfl (by simp only [List.getElem?_toArray, List.getElem?_cons_succ, List.getElem?_cons_zero]; rfl) (by with_reducible constructor) ?_; simp only [Act.put, List.setIfInBounds_toArray]; (try simp only [List.set_cons_succ]); (try simp only [List.set_cons_zero])))
  refine g_nil ?_
  clear hS hcl
  intro hcl ww hS
  (try simp only [Act.put]); (try simp only [List.setIfInBounds_toArray]); (try simp only [List.set_cons_succ]); (try simp only [List.set_cons_zero])
  refine own_soft hS 2 hcl (by simp only [List.getElem?_toArray, List.getElem?_cons_succ, List.getElem?_cons_zero]; rfl) (by kernel_rfl) ?_
  have hO := hS
  clear hS
  intro hS
  refine own_buildSlice rfl _ _ 1 _ rfl [c0, c1, c2, c3, c4, c5, c6, c7, c8, c9, c10] hS Try.underlying30 (by kernel_rfl) ?_
  clear hS
  intro bs w6 hS
  refine wpList_nil ⟨rfl, _, hS, ?_⟩
  clear hS hO hcl
  intro hcl w7 hS
  have hB7 := (bthen HB0.out (HS0.out.chain (HDD.out ▸ hS)).below)
  (try simp only [Act.put]); (try simp only [List.setIfInBounds_toArray]); (try simp only [List.set_cons_succ]); (try simp only [List.set_cons_zero])
  refine own_mid (K := [(bs, _)]) (L := [(b2, _)]) hS (Own.newer (K := [(bs, _)]) (L := [(b2, _)]) hS (by rw [HDD.out]; exact fun _ h => h)) 5 hcl (by simp only [List.getElem?_toArray, List.getElem?_cons_succ, List.getElem?_cons_zero]; rfl) (by kernel_rfl) ?_
  clear hS
  intro hS
  refine own_app (n := 1) (xs := [c0, c1, c2, c3, c4, c5, c6, c7, c8, c9, c10]) (X := [(bs, [c0, c1, c2, c3, c4, c5, c6, c7, c8, c9, c10])]) (L := []) rfl _ _ _ rfl ⟨rfl, .inr ⟨bs, 1, [], rfl, Nat.le_refl _, by simp [maxLen], rfl, rfl⟩⟩ (by decide) rfl rfl hS (repL_news HNs.out hB7) HLs.out HOs.out el_box (by decide) (by simp only [maxLen]; omega) (by omega) ?_
  clear hS
  intro v1 X1 w8 hS hX1
  refine wpList_nil ⟨rfl, _, hS, ?_⟩
  clear hS hcl hB7
  intro hcl w9 hS
  simp only [List.nil_append] at hS
  have hB9 := (bthen HB0.out (HS0.out.chain (HDD.out ▸ hS)).below)
  (try simp only [Act.put]); (try simp only [List.setIfInBounds_toArray]); (try simp only [List.set_cons_succ]); (try simp only [List.set_cons_zero])
  refine own_mid (K := X1) (L := [(b2, _)]) hS (Own.newer (K := X1) (L := [(b2, _)]) hS (by rw [HDD.out]; exact fun _ h => h)) 8 hcl (by simp only [List.getElem?_toArray, List.getElem?_cons_succ, List.getElem?_cons_zero]; rfl) (by kernel_rfl) ?_
  clear hS
  intro hS
  refine own_app (n := 1 + subs.length) (L := []) rfl _ _ _ rfl hX1 (by omega) rfl rfl hS (repL_news HNu.out hB9) HLu.out HOu.out el_box (by decide) (by simp only [maxLen]; omega) (by omega) ?_
  clear hS hX1
  intro v2 X2 w10 hS hX2
  obtain ⟨y2, k2, rfl⟩ := hX2.slice
  refine wpList_nil ⟨rfl, _, hS, ?_⟩
  clear hS hcl hB9
  intro hcl wa hS
  simp only [List.nil_append] at hS
  (try simp only [Act.put]); (try simp only [List.setIfInBounds_toArray]); (try simp only [List.set_cons_succ]); (try simp only [List.set_cons_zero])
  refine own_batch hS [9] 0 rfl hcl (by kernel_rfl) ?_
  (try simp only); repeat (first | (simp only [List.filterMap_cons]) | (simp only [List.filterMap_nil]) | (simp only [List.getElem?_toArray]) | (simp only [List.getElem?_cons_succ]) | (simp only [List.getElem?_cons_zero]) | (simp only [List.reverse_cons]) | (simp only [List.reverse_nil]) | (simp only [List.nil_append]) | (simp only [List.cons_append]))
  repeat (first
      | (first | (refine g_plain rfl ?_) | (refine g_yes rfl rfl rfl (by simp only [List.getElem?_toArray, List.getElem?_cons_succ, List.getElem?_cons_zero]; rfl) (by with_reducible constructor) ?_)
         apply Exists.intro; refine ⟨?_, ?_⟩
         focus (intro wq hq0; (first | have hq : Own _ _ _ wq := hq0 | have hq : Own _ _ _ wq := hq0.1 | skip); first | ((with_reducible show givesAt _ ({ dst := _, op := Op.load _ _, type := _, pos := _, after := _, guard := _ } : Oper) _ _ _); first | (exact givesAt_rd rfl (by rfl) (by first | exact rd_1 (by repeat constructor) (by first | rfl | assumption) | exact rd_w (by repeat constructor) (by rfl) | exact rd_o (by assumption) (by rfl) (by first | exact nmn | assumption | simp) | exact rd_h (by assumption) (by rfl) (by first | exact nmn | assumption | simp) | exact rd_1o (by assumption) (by first | exact nmn | assumption | simp) | exact rd_1h (by assumption) (by first | rfl | assumption) (by first | exact nmn | assumption | simp)) hq)) | (go_simp; first | (with_reducible rfl)))
         simp only [Act.put, List.setIfInBounds_toArray]; (try simp only [List.set_cons_succ]); (try simp only [List.set_cons_zero]))
      | (refine g_no rfl rfl rfl (by simp only [List.getElem?_toArray, List.getElem?_cons_succ, List.getElem?_cons_zero]; rfl) (by with_reducible constructor) ?_; simp only [Act.put, List.setIfInBounds_toArray]; (try simp only [List.set_cons_succ]); (try simp only [List.set_cons_zero])))
  refine g_nil ?_
  clear hS hcl
  intro hcl ww hS
  refine own_done (by kernel_rfl) ?_
  rename World => w11
  (try simp only [Act.put]); (try simp only [List.setIfInBounds_toArray]); (try simp only [List.set_cons_succ]); (try simp only [List.set_cons_zero])
  obtain rfl := HDD.out
  have hS1 := (HS0.out.chain hS).perm List.perm_append_comm
  clear hS HDD HS0 HSw rNr rVr rUr nn
  have hS := hS1
  clear hS1
  simp only [List.cons_append, List.nil_append] at hS
  have hAll : RepLP (fun k => k < w.heap.size) w11 (n + 1) y2 (base :: (subs ++ sups)) := all_row hS (fun x hx => by simp [hx]) hX2 (bthen HB0.out hS.below) HR.out HEs.out HEu.out rfl HRs.out HRu.out
  have hrow : ∀ k o, y2 = some ⟨k, o, none⟩ → k ∉ [b2] := fun k o hy => by
    obtain ⟨z, hz⟩ := sl_where hX2 (by omega) hy
    exact own_ne2 hS hz
  generalize hNe : 1 + subs.length + sups.length = N at *
  have hN := Lib.hid hNe.symm
  clear hNe
  have HA := Lib.hid hAll
  have HRw := Lib.hid hrow
  have bN : N ≤ 2097153 := by rw [hN.out]; omega
  have hrC1 := hS.range List.not_mem_nil hrC
  have hrF1 := hS.range List.not_mem_nil hrF
  have hrS1 := hS.range List.not_mem_nil hrS
  have hrN1 := hS.range List.not_mem_nil hrN
  have cV1 := hS.cell List.not_mem_nil cV
  have cU1 := hS.cell List.not_mem_nil cU
  have hS2 := hS.forget (List.Sublist.cons_cons _ (List.nil_sublist _))
  have nkb : kb ∉ [b2] := fun hk => by
    obtain rfl : kb = b2 := by simpa using hk
    have h1 := World.block_lt_of_cell? w0 _ cV
    rcases hS2.geAt at0 with h3 | h3
    · cases h3
    · simp only at h1; omega
  have hoff : ∀ k, k < w.heap.size → k ∉ [b2] := fun k hk hm => by
    obtain rfl : k = b2 := by simpa using hm
    have h1 := HB0.out.size
    rcases hS2.geAt at0 with h3 | h3
    · cases h3
    · omega
  have HOff := Lib.hid hoff
  have HC := Lib.hid hS2
  have hS3 : Own [b2] w11 _ w11 := hS2.rebase
  clear hS hX2 hAll hrow hoff hS2
  have hS := hS3
  clear hS3
  go_wp2_with (first | (refine own_unguard (by rfl) ?_) | (refine w_ld rfl _ rfl (by rfl) (by first | exact rd_1 (by repeat constructor) (by first | rfl | assumption) | exact rd_w (by repeat constructor) (by rfl) | exact rd_o (by assumption) (by rfl) (by first | exact nmn | assumption | simp) | exact rd_h (by assumption) (by rfl) (by first | exact nmn | assumption | simp) | exact rd_1o (by assumption) (by first | exact nmn | assumption | simp) | exact rd_1h (by assumption) (by first | rfl | assumption) (by first | exact nmn | assumption | simp)) hS ?_) | (refine own_box rfl _ _ rfl (by rfl) hS ?_; clear hS; (try clear ww); intro bb ww hS) | (refine w_al rfl rfl hS ?_; clear hS; (try clear ww); intro bb ww hS) | (refine w_st rfl _ _ rfl (by rfl) (by rfl) (by repeat constructor) (by rfl) (by rfl) (by first | rfl | assumption) hS ?_; clear hS; (try clear ww); intro ww hS) | (refine w_s1 rfl _ _ rfl (by rfl) (by repeat constructor) (by first | exact .c | exact .t rfl) (by rfl) (by repeat constructor) hS ?_; clear hS; (try clear ww); intro ww hS))
  go_loopw [5] (fun i wr => ∃ k : Nat, k ≤ N ∧ i = .int .i64 k ∧ (∀ (q : Nat) (b : Bx (n + 1)), q < k → (base :: (subs ++ sups))[q]? = some b → modB n b = true) ∧ Own [b2] w11 [(b2, [.int .i64 0, .string ⟨#[]⟩, .int .i64 0, .int .i64 0, .int .i64 0, .int .i64 0, .int .i64 0, .int .i64 0, .slice none 0 0, .int .i64 0, .slice none 0 0])] wr) (fun i _ => N - (intOf i).toNat)
  case atStart => exact ⟨0, Nat.zero_le _, rfl, fun q b hq => by omega, hS⟩
  case round =>
    clear hS
    obtain ⟨k, hk, rfl, hpre, hS⟩ := hrel
    have HP := Lib.hid hpre
    clear hpre
    by_cases hlt : k < N
    · obtain ⟨kid, hkid⟩ : ∃ q, (base :: (subs ++ sups))[k]? = some q := ⟨(base :: (subs ++ sups))[k]'(by simp only [List.length_cons, List.length_append]; rw [hN.out] at hlt; omega), by rw [List.getElem?_eq_getElem]⟩
      obtain ⟨b3, o3, css, rfl, hr3, hp3⟩ := HA.out k kid hkid
      have n3 := HRw.out b3 o3 rfl
      have HK := Lib.hid hkid
      have HP3 := Lib.hid hp3
      obtain ⟨f0, f1, f2, f3, f4, f5, f6, f7, f8, f9, f10, rfl⟩ := eleven hp3.len
      clear hkid hp3
      by_cases hmo : modB n kid = true
      · have HMo := Lib.hid (fun w' (h : Own [b2] w11 [(b2, [.int .i64 0, .string ⟨#[]⟩, .int .i64 0, .int .i64 0, .int .i64 0, .int .i64 0, .int .i64 0, .int .i64 0, .slice none 0 0, .int .i64 0, .slice none 0 0])] w') => ref32_Modest_calls n kid _ w' (repP_turn HP3.out h HOff.out).rep true hmo.symm)
        go_wp2_with (first | (refine own_unguard (by rfl) ?_) | (go_at_call 32; refine own_calls hS (HMo.out _ hS) ?_; clear hS; (try clear ww); intro ww hS) | (refine w_ld rfl _ rfl (by rfl) (by first | exact rd_1 (by repeat constructor) (by first | rfl | assumption) | exact rd_w (by repeat constructor) (by rfl) | exact rd_o (by assumption) (by rfl) (by first | exact nmn | assumption | simp) | exact rd_h (by assumption) (by rfl) (by first | exact nmn | assumption | simp) | exact rd_1o (by assumption) (by first | exact nmn | assumption | simp) | exact rd_1h (by assumption) (by first | rfl | assumption) (by first | exact nmn | assumption | simp)) hS ?_) | (refine own_box rfl _ _ rfl (by rfl) hS ?_; clear hS; (try clear ww); intro bb ww hS) | (refine w_al rfl rfl hS ?_; clear hS; (try clear ww); intro bb ww hS) | (refine w_st rfl _ _ rfl (by rfl) (by rfl) (by repeat constructor) (by rfl) (by rfl) (by first | rfl | assumption) hS ?_; clear hS; (try clear ww); intro ww hS) | (refine w_s1 rfl _ _ rfl (by rfl) (by repeat constructor) (by first | exact .c | exact .t rfl) (by rfl) (by repeat constructor) hS ?_; clear hS; (try clear ww); intro ww hS))
        go_roundw
        case rel =>
          refine ⟨k + 1, hlt, by go_num, fun q b hq hb => ?_, hS⟩
          by_cases hqk : q < k
          · exact HP.out q b hqk hb
          · obtain rfl : q = k := by omega
            obtain rfl := Option.some.inj (HK.out.symm.trans hb)
            exact hmo
        case measure => exact loop_meas hlt
      · exact absurd (List.all_eq_true.1 hml kid (List.mem_of_getElem? HK.out)) hmo
    · obtain rfl : k = N := by omega
      go_wp2_with (first | (refine own_unguard (by rfl) ?_) | (refine own_load_old rfl _ _ rfl rfl hS hrF1 nkb rt_font ?_) | (refine w_ld rfl _ rfl (by rfl) (by first | exact rd_1 (by repeat constructor) (by first | rfl | assumption) | exact rd_w (by repeat constructor) (by rfl) | exact rd_o (by assumption) (by rfl) (by first | exact nmn | assumption | simp) | exact rd_h (by assumption) (by rfl) (by first | exact nmn | assumption | simp) | exact rd_1o (by assumption) (by first | exact nmn | assumption | simp) | exact rd_1h (by assumption) (by first | rfl | assumption) (by first | exact nmn | assumption | simp)) hS ?_) | (refine own_box rfl _ _ rfl (by rfl) hS ?_; clear hS; (try clear ww); intro bb ww hS) | (refine w_al rfl rfl hS ?_; clear hS; (try clear ww); intro bb ww hS) | (refine w_st rfl _ _ rfl (by rfl) (by rfl) (by repeat constructor) (by rfl) (by rfl) (by first | rfl | assumption) hS ?_; clear hS; (try clear ww); intro ww hS) | (refine w_s1 rfl _ _ rfl (by rfl) (by repeat constructor) (by first | exact .c | exact .t rfl) (by rfl) (by repeat constructor) hS ?_; clear hS; (try clear ww); intro ww hS))
      go_at_call 10
      refine Calls.mono (HM.out _ (bthen HB0.out (HC.out.chain hS).below)) ?_
      rintro e w1 ⟨cs1, rfl, hR1, hb1⟩
      have hSc := HC.out.chain hS
      have HO := Lib.hid (off_made HB0.out hSc)
      have HS1 := Lib.hid (hSc.step hb1)
      have HR1 := Lib.hid hR1
      obtain ⟨kx, kc, tx, tc, rfl⟩ := list_outN hR1.rep hkl
      obtain ⟨DD, HDD, hS4⟩ := (hSc.step hb1).rebaseN
      clear hS hR1 hb1 hSc
      have hS := hS4
      clear hS4
      go_upto_region 10 with (first | (refine own_unguard (by rfl) ?_) | (refine w_ld rfl _ rfl (by rfl) (by first | exact rd_1 (by repeat constructor) (by first | rfl | assumption) | exact rd_w (by repeat constructor) (by rfl) | exact rd_o (by assumption) (by rfl) (by first | exact nmn | assumption | simp) | exact rd_h (by assumption) (by rfl) (by first | exact nmn | assumption | simp) | exact rd_1o (by assumption) (by first | exact nmn | assumption | simp) | exact rd_1h (by assumption) (by first | rfl | assumption) (by first | exact nmn | assumption | simp)) hS ?_) | (refine own_box rfl _ _ rfl (by rfl) hS ?_; clear hS; (try clear ww); intro bb ww hS) | (refine w_al rfl rfl hS ?_; clear hS; (try clear ww); intro bb ww hS) | (refine w_st rfl _ _ rfl (by rfl) (by rfl) (by repeat constructor) (by rfl) (by rfl) (by first | rfl | assumption) hS ?_; clear hS; (try clear ww); intro ww hS) | (refine w_s1 rfl _ _ rfl (by rfl) (by repeat constructor) (by first | exact .c | exact .t rfl) (by rfl) (by repeat constructor) hS ?_; clear hS; (try clear ww); intro ww hS))
      (try simp only [Act.put]); (try simp only [List.setIfInBounds_toArray]); (try simp only [List.set_cons_succ]); (try simp only [List.set_cons_zero])
      have hne := hS.ne01
      refine own_anyT hS [b2] [11] 13 (by kernel_rfl) (by kernel_rfl) ?_
      clear hS
      intro hcl ww hS
      refine own_batchT hS [(_, _)] (List.Sublist.cons_cons _ (List.nil_sublist _)) (fun x hx => by obtain rfl := List.mem_singleton.1 hx; simpa using hne) [0, 1, 2, 3, 4, 5, 6, 7, 8, 9, 10] 2 rfl hcl (by kernel_rfl) ?_
      (try simp only); repeat (first | (simp only [List.filterMap_cons]) | (simp only [List.filterMap_nil]) | (simp only [List.getElem?_toArray]) | (simp only [List.getElem?_cons_succ]) | (simp only [List.getElem?_cons_zero]) | (simp only [List.reverse_cons]) | (simp only [List.reverse_nil]) | (simp only [List.nil_append]) | (simp only [List.cons_append]))
      repeat (first
          | (first | (refine g_plain rfl ?_) | (refine g_yes rfl rfl rfl (by simp only [List.getElem?_toArray, List.getElem?_cons_succ, List.getElem?_cons_zero]; rfl) (by with_reducible constructor) ?_)
             apply Exists.intro; refine ⟨?_, ?_⟩
             focus (intro wq hq0; (first | have hq : Own _ _ _ wq := hq0 | have hq : Own _ _ _ wq := hq0.1 | skip); first | ((with_reducible show givesAt _ ({ dst := _, op := Op.load _ _, type := _, pos := _, after := _, guard := _ } : Oper) _ _ _); first | (exact givesAt_rd rfl (by rfl) (by first | exact rd_1 (by repeat constructor) (by first | rfl | assumption) | exact rd_w (by repeat constructor) (by rfl) | exact rd_o (by assumption) (by rfl) (by first | exact nmn | assumption | simp) | exact rd_h (by assumption) (by rfl) (by first | exact nmn | assumption | simp) | exact rd_1o (by assumption) (by first | exact nmn | assumption | simp) | exact rd_1h (by assumption) (by first | rfl | assumption) (by first | exact nmn | assumption | simp)) hq)) | (go_simp; first | (with_reducible rfl)))
             simp only [Act.put, List.setIfInBounds_toArray]; (try simp only [List.set_cons_succ]); (try simp only [List.set_cons_zero]))
          | (refine g_no rfl rfl rfl (by simp only [List.getElem?_toArray, List.getElem?_cons_succ, List.getElem?_cons_zero]; rfl) (by with_reducible constructor) ?_; simp only [Act.put, List.setIfInBounds_toArray]; (try simp only [List.set_cons_succ]); (try simp only [List.set_cons_zero])))
      refine g_nil ?_
      clear hS hcl
      intro hcl ww hS
      (try simp only [Act.put]); (try simp only [List.setIfInBounds_toArray]); (try simp only [List.set_cons_succ]); (try simp only [List.set_cons_zero])
      refine own_lateT (K := [(b2, _)]) (L := [(_, _)]) (hS.perm (List.Perm.swap _ _ _)) (fun x hx => by obtain rfl := List.mem_singleton.1 hx; simp) 11 hcl (by simp only [List.getElem?_toArray, List.getElem?_cons_succ, List.getElem?_cons_zero]; rfl) (by kernel_rfl) ?_
      clear hS
      intro hS
      (refine w_st rfl _ _ rfl (by rfl) (by rfl) (by repeat constructor) (by rfl) (by rfl) (by first | rfl | assumption) hS ?_; clear hS; intro ww hS)
      refine wpList_nil ⟨rfl, _, hS, ?_⟩
      clear hS hcl
      intro hcl wf hS
      simp only [List.cons_append, List.nil_append] at hS
      (try simp only [Act.put]); (try simp only [List.setIfInBounds_toArray]); (try simp only [List.set_cons_succ]); (try simp only [List.set_cons_zero])
      refine own_batchT hS [] (List.nil_sublist _) (fun x hx => by cases hx) [12] 0 rfl hcl (by kernel_rfl) ?_
      (try simp only); repeat (first | (simp only [List.filterMap_cons]) | (simp only [List.filterMap_nil]) | (simp only [List.getElem?_toArray]) | (simp only [List.getElem?_cons_succ]) | (simp only [List.getElem?_cons_zero]) | (simp only [List.reverse_cons]) | (simp only [List.reverse_nil]) | (simp only [List.nil_append]) | (simp only [List.cons_append]))
      repeat (first
          | (first | (refine g_plain rfl ?_) | (refine g_yes rfl rfl rfl (by simp only [List.getElem?_toArray, List.getElem?_cons_succ, List.getElem?_cons_zero]; rfl) (by with_reducible constructor) ?_)
             apply Exists.intro; refine ⟨?_, ?_⟩
             focus (intro wq hq0; (first | have hq : Own _ _ _ wq := hq0 | have hq : Own _ _ _ wq := hq0.1 | skip); first | ((with_reducible show givesAt _ ({ dst := _, op := Op.load _ _, type := _, pos := _, after := _, guard := _ } : Oper) _ _ _); first | (exact givesAt_rd rfl (by rfl) (by first | exact rd_1 (by repeat constructor) (by first | rfl | assumption) | exact rd_w (by repeat constructor) (by rfl) | exact rd_o (by assumption) (by rfl) (by first | exact nmn | assumption | simp) | exact rd_h (by assumption) (by rfl) (by first | exact nmn | assumption | simp) | exact rd_1o (by assumption) (by first | exact nmn | assumption | simp) | exact rd_1h (by assumption) (by first | rfl | assumption) (by first | exact nmn | assumption | simp)) hq)) | (go_simp; first | (with_reducible rfl)))
             simp only [Act.put, List.setIfInBounds_toArray]; (try simp only [List.set_cons_succ]); (try simp only [List.set_cons_zero]))
          | (refine g_no rfl rfl rfl (by simp only [List.getElem?_toArray, List.getElem?_cons_succ, List.getElem?_cons_zero]; rfl) (by with_reducible constructor) ?_; simp only [Act.put, List.setIfInBounds_toArray]; (try simp only [List.set_cons_succ]); (try simp only [List.set_cons_zero])))
      refine g_nil ?_
      clear hS hcl
      intro hcl ww hS
      refine own_doneT (by kernel_rfl) ?_
      go_wp2_with (first | (refine own_unguard (by rfl) ?_) | (refine w_ld rfl _ rfl (by rfl) (by first | exact rd_1 (by repeat constructor) (by first | rfl | assumption) | exact rd_w (by repeat constructor) (by rfl) | exact rd_o (by assumption) (by rfl) (by first | exact nmn | assumption | simp) | exact rd_h (by assumption) (by rfl) (by first | exact nmn | assumption | simp) | exact rd_1o (by assumption) (by first | exact nmn | assumption | simp) | exact rd_1h (by assumption) (by first | rfl | assumption) (by first | exact nmn | assumption | simp)) hS ?_) | (refine own_box rfl _ _ rfl (by rfl) hS ?_; clear hS; (try clear ww); intro bb ww hS) | (refine w_al rfl rfl hS ?_; clear hS; (try clear ww); intro bb ww hS) | (refine w_st rfl _ _ rfl (by rfl) (by rfl) (by repeat constructor) (by rfl) (by rfl) (by first | rfl | assumption) hS ?_; clear hS; (try clear ww); intro ww hS) | (refine w_s1 rfl _ _ rfl (by rfl) (by repeat constructor) (by first | exact .c | exact .t rfl) (by rfl) (by repeat constructor) hS ?_; clear hS; (try clear ww); intro ww hS))
      obtain rfl := HDD.out
      have hc := (hS.get at0).cell
      refine bodyPost_ret (v := .tuple #[.agg #[.int .i64 3, .string ⟨#[]⟩, .int .i64 0, .int .i64 bw, .int .i64 bh, .int .i64 bd, .int .i64 0, .int .i64 0, .slice kx k kc, .int .i64 0, .slice tx 0 tc], .bool true]) (by simp [results, Try.results13, go_sem, hc]) rfl ⟨_, rfl, (repP_turn HR1.out hS HO.out).rep, bthen HB0.out (HS1.out.chain hS).below⟩

end Go.Proofs.Ytdbcdjiclkmknaa
namespace Go.Proofs.Ytdbcdjiclkmknaa
open Go.RowKit

attribute [local irreducible] wpQuiet wpG wpP wpK wpList Code.wp Calls

set_option maxHeartbeats 16000000 in
set_option maxRecDepth 100000 in
theorem made35_err (F : Fnt) (l : Int) (c : Bool) (n : Nat) (base : Bx (n + 1)) (subs sups : List (Bx (n + 1))) (cs : List Value) (sx ux : Option Addr) (sc uc : Nat) (w : World) (hF : FntOk w F) (hr : Rep w (n + 1) base cs) (hs : RepL w (n + 1) sx subs) (hu : RepL w (n + 1) ux sups) (b1 : subs.length ≤ 1048576) (b2 : sups.length ≤ 1048576) (m : Nat) (err : Int) (he : err ≠ 0) (ht : tameS F (n + 1) base subs sups = true) (h1 : subs.length ≤ 1) (h2 : sups.length ≤ 1) (hml : modL2 n (base :: (subs ++ sups)) = true)
    (hM : ∀ w', Below w.heap.size w w' → Calls Try.prog 10 #[F.val, .agg #[.int .i64 l, .bool c], .agg cs.toArray, .slice sx subs.length sc, .slice ux sups.length uc] w' (GivesBE (m + 1) (zeroB m) err w')) : Calls Try.prog 13 #[.agg (caseS F l c cs (.slice sx subs.length sc) (.slice ux sups.length uc)).toArray] w (GivesMade (m + 1) (zeroB m) false w) := by
  have HM := Lib.hid hM
  have hne0 : (err == 0) = false := by simpa using he
  clear hM he
  have HT := Lib.hid (fun w' (h : Below w.heap.size w w') => tame35_calls F l c n base subs sups cs sx ux sc uc w' (hF.below h) (hr.step h) (hs.step h) (hu.step h) b1 b2 _ ht.symm)
  obtain ⟨ls, ells, hns, hos, hrs⟩ := repL_cells hs
  obtain ⟨lu, ellu, hnu, hou, hru⟩ := repL_cells hu
  have HNs := Lib.hid hns
  have HNu := Lib.hid hnu
  have HOs := Lib.hid hos
  have HOu := Lib.hid hou
  have HRs := Lib.hid hrs
  have HRu := Lib.hid hru
  have HLs := Lib.hid (show (ls.flatMap Subtype.val).length = subs.length * 11 by rw [← ells]; exact flat_len (f := Subtype.val) (size := 11) (fun a => a.2) ls)
  have HLu := Lib.hid (show (lu.flatMap Subtype.val).length = sups.length * 11 by rw [← ellu]; exact flat_len (f := Subtype.val) (size := 11) (fun a => a.2) lu)
  have HEs := Lib.hid ells
  have HEu := Lib.hid ellu
  have HR := Lib.hid hr
  have HW := Lib.hid (Nat.le_refl w.heap.size)
  obtain ⟨c0, c1, c2, c3, c4, c5, c6, c7, c8, c9, c10, rfl⟩ := eleven hr.len
  have d1 : decide ((1 : Int) < (subs.length : Int)) = false := decide_eq_false (by omega)
  have d2 : decide ((1 : Int) < (sups.length : Int)) = false := decide_eq_false (by omega)
  clear hF hr hs hu ht hns hnu hos hou hrs hru ells ellu
  go_enter Try.func13, Try.ntmps13
  have hS := own_start w
  go_upto_region 3 with (first | (refine own_unguard (by rfl) ?_) | (refine w_al rfl rfl hS ?_; clear hS; (try clear ww); intro b2 ww hS) | (refine own_box rfl _ _ rfl rfl hS ?_; clear hS; intro kb w0 hS0; have hrC := (hS0.get at0).range; have HB0 := Lib.hid hS0.below; obtain ⟨hrF, hrS, hrN, cV, cU⟩ := caseS_out hrC; have hS := own_start w0; clear hS0) | (refine own_load_old rfl _ _ rfl rfl hS hrC List.not_mem_nil rt_case35 ?_) | (go_at_call 9; refine own_calls hS (HT.out _ (bthen HB0.out hS.below)) ?_; clear hS; (try clear ww); intro ww hS) | (refine w_ld rfl _ rfl (by rfl) (by first | exact rd_1 (by repeat constructor) (by first | rfl | assumption) | exact rd_w (by repeat constructor) (by rfl) | exact rd_o (by assumption) (by rfl) (by first | exact nmn | assumption | simp) | exact rd_h (by assumption) (by rfl) (by first | exact nmn | assumption | simp) | exact rd_1o (by assumption) (by first | exact nmn | assumption | simp) | exact rd_1h (by assumption) (by first | rfl | assumption) (by first | exact nmn | assumption | simp)) hS ?_) | (refine own_box rfl _ _ rfl (by rfl) hS ?_; clear hS; (try clear ww); intro bb ww hS) | (refine w_al rfl rfl hS ?_; clear hS; (try clear ww); intro bb ww hS) | (refine w_st rfl _ _ rfl (by rfl) (by rfl) (by repeat constructor) (by rfl) (by rfl) (by first | rfl | assumption) hS ?_; clear hS; (try clear ww); intro ww hS) | (refine w_s1 rfl _ _ rfl (by rfl) (by repeat constructor) (by first | exact .c | exact .t rfl) (by rfl) (by repeat constructor) hS ?_; clear hS; (try clear ww); intro ww hS))
  have rNr := hS.range List.not_mem_nil hrN
  have rVr := hS.cell List.not_mem_nil cV
  have rUr := hS.cell List.not_mem_nil cU
  have nn := hS.oldOff (World.block_lt_of_cell? w0 _ cV)
  have HS0 := Lib.hid hS
  rename World => wR
  obtain ⟨DD, HDD, hS1⟩ := hS.rebaseN
  rw [← HDD.out] at nn
  have HSw := Lib.hid hS1
  clear hS
  have hS := hS1
  clear hS1
  (try simp only [Act.put]); (try simp only [List.setIfInBounds_toArray]); (try simp only [List.set_cons_succ]); (try simp only [List.set_cons_zero])
  refine own_anyM hS [5, 8] [] 10 (by kernel_rfl) (by kernel_rfl) ?_
  clear hS
  intro hcl ww hS _
  refine own_batchN HSw.out [0, 1, 3, 4, 6, 7] 4 rfl hS hcl (by kernel_rfl) ?_
  (try simp only); repeat (first | (simp only [List.filterMap_cons]) | (simp only [List.filterMap_nil]) | (simp only [List.getElem?_toArray]) | (simp only [List.getElem?_cons_succ]) | (simp only [List.getElem?_cons_zero]) | (simp only [List.reverse_cons]) | (simp only [List.reverse_nil]) | (simp only [List.nil_append]) | (simp only [List.cons_append]))
  repeat (first
      | (first | (refine g_plain rfl ?_) | (refine g_yes rfl rfl rfl (by simp only [List.getElem?_toArray, List.getElem?_cons_succ, List.getElem?_cons_zero]; rfl) (by with_reducible constructor) ?_)
         apply Exists.intro; refine ⟨?_, ?_⟩
         focus (intro wq hq0; (first | have hq : Own _ _ _ wq := hq0 | have hq : Own _ _ _ wq := hq0.1 | skip); first | ((with_reducible show givesAt _ ({ dst := _, op := Op.load _ _, type := _, pos := _, after := _, guard := _ } : Oper) _ _ _); first | (exact givesAt_rd rfl (by rfl) (by first | exact rd_1 (by repeat constructor) (by first | rfl | assumption) | exact rd_w (by repeat constructor) (by rfl) | exact rd_o (by assumption) (by rfl) (by first | exact nmn | assumption | simp) | exact rd_h (by assumption) (by rfl) (by first | exact nmn | assumption | simp) | exact rd_1o (by assumption) (by first | exact nmn | assumption | simp) | exact rd_1h (by assumption) (by first | rfl | assumption) (by first | exact nmn | assumption | simp)) hq)) | (go_simp; first | (with_reducible rfl)))
         simp only [Act.put, List.setIfInBounds_toArray]; (try simp only [List.set_cons_succ]); (try simp only [List.set_cons_zero]))
      | (refine g_no rfl rfl rfl (by simp only [List.getElem?_toArray, List.getElem?_cons_succ, List.getElem?_cons_zero]; rfl) (by with_reducible constructor) ?_; simp only [Act.put, List.setIfInBounds_toArray]; (try simp only [List.set_cons_succ]); (try simp only [List.set_cons_zero])))
  refine g_nil ?_
  clear hS hcl
  intro hcl ww hS
  (try simp only [Act.put]); (try simp only [List.setIfInBounds_toArray]); (try simp only [List.set_cons_succ]); (try simp only [List.set_cons_zero])
  refine own_soft hS 2 hcl (by simp only [List.getElem?_toArray, List.getElem?_cons_succ, List.getElem?_cons_zero]; rfl) (by kernel_rfl) ?_
  have hO := hS
  clear hS
  intro hS
  refine own_buildSlice rfl _ _ 1 _ rfl [c0, c1, c2, c3, c4, c5, c6, c7, c8, c9, c10] hS Try.underlying30 (by kernel_rfl) ?_
  clear hS
  intro bs w6 hS
  refine wpList_nil ⟨rfl, _, hS, ?_⟩
  clear hS hO hcl
  intro hcl w7 hS
  have hB7 := (bthen HB0.out (HS0.out.chain (HDD.out ▸ hS)).below)
  (try simp only [Act.put]); (try simp only [List.setIfInBounds_toArray]); (try simp only [List.set_cons_succ]); (try simp only [List.set_cons_zero])
  refine own_mid (K := [(bs, _)]) (L := [(b2, _)]) hS (Own.newer (K := [(bs, _)]) (L := [(b2, _)]) hS (by rw [HDD.out]; exact fun _ h => h)) 5 hcl (by simp only [List.getElem?_toArray, List.getElem?_cons_succ, List.getElem?_cons_zero]; rfl) (by kernel_rfl) ?_
  clear hS
  intro hS
  refine own_app (n := 1) (xs := [c0, c1, c2, c3, c4, c5, c6, c7, c8, c9, c10]) (X := [(bs, [c0, c1, c2, c3, c4, c5, c6, c7, c8, c9, c10])]) (L := []) rfl _ _ _ rfl ⟨rfl, .inr ⟨bs, 1, [], rfl, Nat.le_refl _, by simp [maxLen], rfl, rfl⟩⟩ (by decide) rfl rfl hS (repL_news HNs.out hB7) HLs.out HOs.out el_box (by decide) (by simp only [maxLen]; omega) (by omega) ?_
  clear hS
  intro v1 X1 w8 hS hX1
  refine wpList_nil ⟨rfl, _, hS, ?_⟩
  clear hS hcl hB7
  intro hcl w9 hS
  simp only [List.nil_append] at hS
  have hB9 := (bthen HB0.out (HS0.out.chain (HDD.out ▸ hS)).below)
  (try simp only [Act.put]); (try simp only [List.setIfInBounds_toArray]); (try simp only [List.set_cons_succ]); (try simp only [List.set_cons_zero])
  refine own_mid (K := X1) (L := [(b2, _)]) hS (Own.newer (K := X1) (L := [(b2, _)]) hS (by rw [HDD.out]; exact fun _ h => h)) 8 hcl (by simp only [List.getElem?_toArray, List.getElem?_cons_succ, List.getElem?_cons_zero]; rfl) (by kernel_rfl) ?_
  clear hS
  intro hS
  refine own_app (n := 1 + subs.length) (L := []) rfl _ _ _ rfl hX1 (by omega) rfl rfl hS (repL_news HNu.out hB9) HLu.out HOu.out el_box (by decide) (by simp only [maxLen]; omega) (by omega) ?_
  clear hS hX1
  intro v2 X2 w10 hS hX2
  obtain ⟨y2, k2, rfl⟩ := hX2.slice
  refine wpList_nil ⟨rfl, _, hS, ?_⟩
  clear hS hcl hB9
  intro hcl wa hS
  simp only [List.nil_append] at hS
  (try simp only [Act.put]); (try simp only [List.setIfInBounds_toArray]); (try simp only [List.set_cons_succ]); (try simp only [List.set_cons_zero])
  refine own_batch hS [9] 0 rfl hcl (by kernel_rfl) ?_
  (try simp only); repeat (first | (simp only [List.filterMap_cons]) | (simp only [List.filterMap_nil]) | (simp only [List.getElem?_toArray]) | (simp only [List.getElem?_cons_succ]) | (simp only [List.getElem?_cons_zero]) | (simp only [List.reverse_cons]) | (simp only [List.reverse_nil]) | (simp only [List.nil_append]) | (simp only [List.cons_append]))
  repeat (first
      | (first | (refine g_plain rfl ?_) | (refine g_yes rfl rfl rfl (by simp only [List.getElem?_toArray, List.getElem?_cons_succ, List.getElem?_cons_zero]; rfl) (by with_reducible constructor) ?_)
         apply Exists.intro; refine ⟨?_, ?_⟩
         focus (intro wq hq0; (first | have hq : Own _ _ _ wq := hq0 | have hq : Own _ _ _ wq := hq0.1 | skip); first | ((with_reducible show givesAt _ ({ dst := _, op := Op.load _ _, type := _, pos := _, after := _, guard := _ } : Oper) _ _ _); first | (exact givesAt_rd rfl (by rfl) (by first | exact rd_1 (by repeat constructor) (by first | rfl | assumption) | exact rd_w (by repeat constructor) (by rfl) | exact rd_o (by assumption) (by rfl) (by first | exact nmn | assumption | simp) | exact rd_h (by assumption) (by rfl) (by first | exact nmn | assumption | simp) | exact rd_1o (by assumption) (by first | exact nmn | assumption | simp) | exact rd_1h (by assumption) (by first | rfl | assumption) (by first | exact nmn | assumption | simp)) hq)) | (go_simp; first | (with_reducible rfl)))
         simp only [Act.put, List.setIfInBounds_toArray]; (try simp only [List.set_cons_succ]); (try simp only [List.set_cons_zero]))
      | (refine g_no rfl rfl rfl (by simp only [List.getElem?_toArray, List.getElem?_cons_succ, List.getElem?_cons_zero]; rfl) (by with_reducible constructor) ?_; simp only [Act.put, List.setIfInBounds_toArray]; (try simp only [List.set_cons_succ]); (try simp only [List.set_cons_zero])))
  refine g_nil ?_
  clear hS hcl
  intro hcl ww hS
  refine own_done (by kernel_rfl) ?_
  rename World => w11
  (try simp only [Act.put]); (try simp only [List.setIfInBounds_toArray]); (try simp only [List.set_cons_succ]); (try simp only [List.set_cons_zero])
  obtain rfl := HDD.out
  have hS1 := (HS0.out.chain hS).perm List.perm_append_comm
  clear hS HDD HS0 HSw rNr rVr rUr nn
  have hS := hS1
  clear hS1
  simp only [List.cons_append, List.nil_append] at hS
  have hAll : RepLP (fun k => k < w.heap.size) w11 (n + 1) y2 (base :: (subs ++ sups)) := all_row hS (fun x hx => by simp [hx]) hX2 (bthen HB0.out hS.below) HR.out HEs.out HEu.out rfl HRs.out HRu.out
  have hrow : ∀ k o, y2 = some ⟨k, o, none⟩ → k ∉ [b2] := fun k o hy => by
    obtain ⟨z, hz⟩ := sl_where hX2 (by omega) hy
    exact own_ne2 hS hz
  generalize hNe : 1 + subs.length + sups.length = N at *
  have hN := Lib.hid hNe.symm
  clear hNe
  have HA := Lib.hid hAll
  have HRw := Lib.hid hrow
  have bN : N ≤ 2097153 := by rw [hN.out]; omega
  have hrC1 := hS.range List.not_mem_nil hrC
  have hrF1 := hS.range List.not_mem_nil hrF
  have hrS1 := hS.range List.not_mem_nil hrS
  have hrN1 := hS.range List.not_mem_nil hrN
  have cV1 := hS.cell List.not_mem_nil cV
  have cU1 := hS.cell List.not_mem_nil cU
  have hS2 := hS.forget (List.Sublist.cons_cons _ (List.nil_sublist _))
  have nkb : kb ∉ [b2] := fun hk => by
    obtain rfl : kb = b2 := by simpa using hk
    have h1 := World.block_lt_of_cell? w0 _ cV
    rcases hS2.geAt at0 with h3 | h3
    · cases h3
    · simp only at h1; omega
  have hoff : ∀ k, k < w.heap.size → k ∉ [b2] := fun k hk hm => by
    obtain rfl : k = b2 := by simpa using hm
    have h1 := HB0.out.size
    rcases hS2.geAt at0 with h3 | h3
    · cases h3
    · omega
  have HOff := Lib.hid hoff
  have HC := Lib.hid hS2
  have hS3 : Own [b2] w11 _ w11 := hS2.rebase
  clear hS hX2 hAll hrow hoff hS2
  have hS := hS3
  clear hS3
  go_wp2_with (first | (refine own_unguard (by rfl) ?_) | (refine w_ld rfl _ rfl (by rfl) (by first | exact rd_1 (by repeat constructor) (by first | rfl | assumption) | exact rd_w (by repeat constructor) (by rfl) | exact rd_o (by assumption) (by rfl) (by first | exact nmn | assumption | simp) | exact rd_h (by assumption) (by rfl) (by first | exact nmn | assumption | simp) | exact rd_1o (by assumption) (by first | exact nmn | assumption | simp) | exact rd_1h (by assumption) (by first | rfl | assumption) (by first | exact nmn | assumption | simp)) hS ?_) | (refine own_box rfl _ _ rfl (by rfl) hS ?_; clear hS; (try clear ww); intro bb ww hS) | (refine w_al rfl rfl hS ?_; clear hS; (try clear ww); intro bb ww hS) | (refine w_st rfl _ _ rfl (by rfl) (by rfl) (by repeat constructor) (by rfl) (by rfl) (by first | rfl | assumption) hS ?_; clear hS; (try clear ww); intro ww hS) | (refine w_s1 rfl _ _ rfl (by rfl) (by repeat constructor) (by first | exact .c | exact .t rfl) (by rfl) (by repeat constructor) hS ?_; clear hS; (try clear ww); intro ww hS))
  go_loopw [5] (fun i wr => ∃ k : Nat, k ≤ N ∧ i = .int .i64 k ∧ (∀ (q : Nat) (b : Bx (n + 1)), q < k → (base :: (subs ++ sups))[q]? = some b → modB n b = true) ∧ Own [b2] w11 [(b2, [.int .i64 0, .string ⟨#[]⟩, .int .i64 0, .int .i64 0, .int .i64 0, .int .i64 0, .int .i64 0, .int .i64 0, .slice none 0 0, .int .i64 0, .slice none 0 0])] wr) (fun i _ => N - (intOf i).toNat)
  case atStart => exact ⟨0, Nat.zero_le _, rfl, fun q b hq => by omega, hS⟩
  case round =>
    clear hS
    obtain ⟨k, hk, rfl, hpre, hS⟩ := hrel
    have HP := Lib.hid hpre
    clear hpre
    by_cases hlt : k < N
    · obtain ⟨kid, hkid⟩ : ∃ q, (base :: (subs ++ sups))[k]? = some q := ⟨(base :: (subs ++ sups))[k]'(by simp only [List.length_cons, List.length_append]; rw [hN.out] at hlt; omega), by rw [List.getElem?_eq_getElem]⟩
      obtain ⟨b3, o3, css, rfl, hr3, hp3⟩ := HA.out k kid hkid
      have n3 := HRw.out b3 o3 rfl
      have HK := Lib.hid hkid
      have HP3 := Lib.hid hp3
      obtain ⟨f0, f1, f2, f3, f4, f5, f6, f7, f8, f9, f10, rfl⟩ := eleven hp3.len
      clear hkid hp3
      by_cases hmo : modB n kid = true
      · have HMo := Lib.hid (fun w' (h : Own [b2] w11 [(b2, [.int .i64 0, .string ⟨#[]⟩, .int .i64 0, .int .i64 0, .int .i64 0, .int .i64 0, .int .i64 0, .int .i64 0, .slice none 0 0, .int .i64 0, .slice none 0 0])] w') => ref32_Modest_calls n kid _ w' (repP_turn HP3.out h HOff.out).rep true hmo.symm)
        go_wp2_with (first | (refine own_unguard (by rfl) ?_) | (go_at_call 32; refine own_calls hS (HMo.out _ hS) ?_; clear hS; (try clear ww); intro ww hS) | (refine w_ld rfl _ rfl (by rfl) (by first | exact rd_1 (by repeat constructor) (by first | rfl | assumption) | exact rd_w (by repeat constructor) (by rfl) | exact rd_o (by assumption) (by rfl) (by first | exact nmn | assumption | simp) | exact rd_h (by assumption) (by rfl) (by first | exact nmn | assumption | simp) | exact rd_1o (by assumption) (by first | exact nmn | assumption | simp) | exact rd_1h (by assumption) (by first | rfl | assumption) (by first | exact nmn | assumption | simp)) hS ?_) | (refine own_box rfl _ _ rfl (by rfl) hS ?_; clear hS; (try clear ww); intro bb ww hS) | (refine w_al rfl rfl hS ?_; clear hS; (try clear ww); intro bb ww hS) | (refine w_st rfl _ _ rfl (by rfl) (by rfl) (by repeat constructor) (by rfl) (by rfl) (by first | rfl | assumption) hS ?_; clear hS; (try clear ww); intro ww hS) | (refine w_s1 rfl _ _ rfl (by rfl) (by repeat constructor) (by first | exact .c | exact .t rfl) (by rfl) (by repeat constructor) hS ?_; clear hS; (try clear ww); intro ww hS))
        go_roundw
        case rel =>
          refine ⟨k + 1, hlt, by go_num, fun q b hq hb => ?_, hS⟩
          by_cases hqk : q < k
          · exact HP.out q b hqk hb
          · obtain rfl : q = k := by omega
            obtain rfl := Option.some.inj (HK.out.symm.trans hb)
            exact hmo
        case measure => exact loop_meas hlt
      · exact absurd (List.all_eq_true.1 hml kid (List.mem_of_getElem? HK.out)) hmo
    · obtain rfl : k = N := by omega
      go_wp2_with (first | (refine own_unguard (by rfl) ?_) | (refine own_load_old rfl _ _ rfl rfl hS hrF1 nkb rt_font ?_) | (refine w_ld rfl _ rfl (by rfl) (by first | exact rd_1 (by repeat constructor) (by first | rfl | assumption) | exact rd_w (by repeat constructor) (by rfl) | exact rd_o (by assumption) (by rfl) (by first | exact nmn | assumption | simp) | exact rd_h (by assumption) (by rfl) (by first | exact nmn | assumption | simp) | exact rd_1o (by assumption) (by first | exact nmn | assumption | simp) | exact rd_1h (by assumption) (by first | rfl | assumption) (by first | exact nmn | assumption | simp)) hS ?_) | (refine own_box rfl _ _ rfl (by rfl) hS ?_; clear hS; (try clear ww); intro bb ww hS) | (refine w_al rfl rfl hS ?_; clear hS; (try clear ww); intro bb ww hS) | (refine w_st rfl _ _ rfl (by rfl) (by rfl) (by repeat constructor) (by rfl) (by rfl) (by first | rfl | assumption) hS ?_; clear hS; (try clear ww); intro ww hS) | (refine w_s1 rfl _ _ rfl (by rfl) (by repeat constructor) (by first | exact .c | exact .t rfl) (by rfl) (by repeat constructor) hS ?_; clear hS; (try clear ww); intro ww hS))
      go_at_call 10
      refine Calls.mono (HM.out _ (bthen HB0.out (HC.out.chain hS).below)) ?_
      rintro e w1 ⟨cs1, rfl, hR1, hb1⟩
      have hSc := HC.out.chain hS
      have HS1 := Lib.hid (hSc.step hb1)
      have HR1 := Lib.hid hR1
      obtain ⟨kx, kc, tx, tc, rfl⟩ := zero_out hR1
      obtain ⟨DD, HDD, hS4⟩ := (hSc.step hb1).rebaseN
      clear hS hR1 hb1 hSc
      have hS := hS4
      clear hS4
      go_upto_region 10 with (first | (refine own_unguard (by rfl) ?_) | (refine w_ld rfl _ rfl (by rfl) (by first | exact rd_1 (by repeat constructor) (by first | rfl | assumption) | exact rd_w (by repeat constructor) (by rfl) | exact rd_o (by assumption) (by rfl) (by first | exact nmn | assumption | simp) | exact rd_h (by assumption) (by rfl) (by first | exact nmn | assumption | simp) | exact rd_1o (by assumption) (by first | exact nmn | assumption | simp) | exact rd_1h (by assumption) (by first | rfl | assumption) (by first | exact nmn | assumption | simp)) hS ?_) | (refine own_box rfl _ _ rfl (by rfl) hS ?_; clear hS; (try clear ww); intro bb ww hS) | (refine w_al rfl rfl hS ?_; clear hS; (try clear ww); intro bb ww hS) | (refine w_st rfl _ _ rfl (by rfl) (by rfl) (by repeat constructor) (by rfl) (by rfl) (by first | rfl | assumption) hS ?_; clear hS; (try clear ww); intro ww hS) | (refine w_s1 rfl _ _ rfl (by rfl) (by repeat constructor) (by first | exact .c | exact .t rfl) (by rfl) (by repeat constructor) hS ?_; clear hS; (try clear ww); intro ww hS))
      (try simp only [Act.put]); (try simp only [List.setIfInBounds_toArray]); (try simp only [List.set_cons_succ]); (try simp only [List.set_cons_zero])
      have hne := hS.ne01
      refine own_anyT hS [b2] [11] 13 (by kernel_rfl) (by kernel_rfl) ?_
      clear hS
      intro hcl ww hS
      refine own_batchT hS [(_, _)] (List.Sublist.cons_cons _ (List.nil_sublist _)) (fun x hx => by obtain rfl := List.mem_singleton.1 hx; simpa using hne) [0, 1, 2, 3, 4, 5, 6, 7, 8, 9, 10] 2 rfl hcl (by kernel_rfl) ?_
      (try simp only); repeat (first | (simp only [List.filterMap_cons]) | (simp only [List.filterMap_nil]) | (simp only [List.getElem?_toArray]) | (simp only [List.getElem?_cons_succ]) | (simp only [List.getElem?_cons_zero]) | (simp only [List.reverse_cons]) | (simp only [List.reverse_nil]) | (simp only [List.nil_append]) | (simp only [List.cons_append]))
      repeat (first
          | (first | (refine g_plain rfl ?_) | (refine g_yes rfl rfl rfl (by simp only [List.getElem?_toArray, List.getElem?_cons_succ, List.getElem?_cons_zero]; rfl) (by with_reducible constructor) ?_)
             apply Exists.intro; refine ⟨?_, ?_⟩
             focus (intro wq hq0; (first | have hq : Own _ _ _ wq := hq0 | have hq : Own _ _ _ wq := hq0.1 | skip); first | ((with_reducible show givesAt _ ({ dst := _, op := Op.load _ _, type := _, pos := _, after := _, guard := _ } : Oper) _ _ _); first | (exact givesAt_rd rfl (by rfl) (by first | exact rd_1 (by repeat constructor) (by first | rfl | assumption) | exact rd_w (by repeat constructor) (by rfl) | exact rd_o (by assumption) (by rfl) (by first | exact nmn | assumption | simp) | exact rd_h (by assumption) (by rfl) (by first | exact nmn | assumption | simp) | exact rd_1o (by assumption) (by first | exact nmn | assumption | simp) | exact rd_1h (by assumption) (by first | rfl | assumption) (by first | exact nmn | assumption | simp)) hq)) | (go_simp; first | (with_reducible rfl)))
             simp only [Act.put, List.setIfInBounds_toArray]; (try simp only [List.set_cons_succ]); (try simp only [List.set_cons_zero]))
          | (refine g_no rfl rfl rfl (by simp only [List.getElem?_toArray, List.getElem?_cons_succ, List.getElem?_cons_zero]; rfl) (by with_reducible constructor) ?_; simp only [Act.put, List.setIfInBounds_toArray]; (try simp only [List.set_cons_succ]); (try simp only [List.set_cons_zero])))
      refine g_nil ?_
      clear hS hcl
      intro hcl ww hS
      (try simp only [Act.put]); (try simp only [List.setIfInBounds_toArray]); (try simp only [List.set_cons_succ]); (try simp only [List.set_cons_zero])
      refine own_lateT (K := [(b2, _)]) (L := [(_, _)]) (hS.perm (List.Perm.swap _ _ _)) (fun x hx => by obtain rfl := List.mem_singleton.1 hx; simp) 11 hcl (by simp only [List.getElem?_toArray, List.getElem?_cons_succ, List.getElem?_cons_zero]; rfl) (by kernel_rfl) ?_
      clear hS
      intro hS
      (refine w_st rfl _ _ rfl (by rfl) (by rfl) (by repeat constructor) (by rfl) (by rfl) (by first | rfl | assumption) hS ?_; clear hS; intro ww hS)
      refine wpList_nil ⟨rfl, _, hS, ?_⟩
      clear hS hcl
      intro hcl wf hS
      simp only [List.cons_append, List.nil_append] at hS
      (try simp only [Act.put]); (try simp only [List.setIfInBounds_toArray]); (try simp only [List.set_cons_succ]); (try simp only [List.set_cons_zero])
      refine own_batchT hS [] (List.nil_sublist _) (fun x hx => by cases hx) [12] 0 rfl hcl (by kernel_rfl) ?_
      (try simp only); repeat (first | (simp only [List.filterMap_cons]) | (simp only [List.filterMap_nil]) | (simp only [List.getElem?_toArray]) | (simp only [List.getElem?_cons_succ]) | (simp only [List.getElem?_cons_zero]) | (simp only [List.reverse_cons]) | (simp only [List.reverse_nil]) | (simp only [List.nil_append]) | (simp only [List.cons_append]))
      repeat (first
          | (first | (refine g_plain rfl ?_) | (refine g_yes rfl rfl rfl (by simp only [List.getElem?_toArray, List.getElem?_cons_succ, List.getElem?_cons_zero]; rfl) (by with_reducible constructor) ?_)
             apply Exists.intro; refine ⟨?_, ?_⟩
             focus (intro wq hq0; (first | have hq : Own _ _ _ wq := hq0 | have hq : Own _ _ _ wq := hq0.1 | skip); first | ((with_reducible show givesAt _ ({ dst := _, op := Op.load _ _, type := _, pos := _, after := _, guard := _ } : Oper) _ _ _); first | (exact givesAt_rd rfl (by rfl) (by first | exact rd_1 (by repeat constructor) (by first | rfl | assumption) | exact rd_w (by repeat constructor) (by rfl) | exact rd_o (by assumption) (by rfl) (by first | exact nmn | assumption | simp) | exact rd_h (by assumption) (by rfl) (by first | exact nmn | assumption | simp) | exact rd_1o (by assumption) (by first | exact nmn | assumption | simp) | exact rd_1h (by assumption) (by first | rfl | assumption) (by first | exact nmn | assumption | simp)) hq)) | (go_simp; first | (with_reducible rfl)))
             simp only [Act.put, List.setIfInBounds_toArray]; (try simp only [List.set_cons_succ]); (try simp only [List.set_cons_zero]))
          | (refine g_no rfl rfl rfl (by simp only [List.getElem?_toArray, List.getElem?_cons_succ, List.getElem?_cons_zero]; rfl) (by with_reducible constructor) ?_; simp only [Act.put, List.setIfInBounds_toArray]; (try simp only [List.set_cons_succ]); (try simp only [List.set_cons_zero])))
      refine g_nil ?_
      clear hS hcl
      intro hcl ww hS
      refine own_doneT (by kernel_rfl) ?_
      go_wp2_with (first | (refine own_unguard (by rfl) ?_) | (refine w_ld rfl _ rfl (by rfl) (by first | exact rd_1 (by repeat constructor) (by first | rfl | assumption) | exact rd_w (by repeat constructor) (by rfl) | exact rd_o (by assumption) (by rfl) (by first | exact nmn | assumption | simp) | exact rd_h (by assumption) (by rfl) (by first | exact nmn | assumption | simp) | exact rd_1o (by assumption) (by first | exact nmn | assumption | simp) | exact rd_1h (by assumption) (by first | rfl | assumption) (by first | exact nmn | assumption | simp)) hS ?_) | (refine own_box rfl _ _ rfl (by rfl) hS ?_; clear hS; (try clear ww); intro bb ww hS) | (refine w_al rfl rfl hS ?_; clear hS; (try clear ww); intro bb ww hS) | (refine w_st rfl _ _ rfl (by rfl) (by rfl) (by repeat constructor) (by rfl) (by rfl) (by first | rfl | assumption) hS ?_; clear hS; (try clear ww); intro ww hS) | (refine w_s1 rfl _ _ rfl (by rfl) (by repeat constructor) (by first | exact .c | exact .t rfl) (by rfl) (by repeat constructor) hS ?_; clear hS; (try clear ww); intro ww hS))
      obtain rfl := HDD.out
      have hc := (hS.get at0).cell
      refine bodyPost_ret (v := .tuple #[.agg #[.int .i64 0, .string ⟨#[]⟩, .int .i64 0, .int .i64 0, .int .i64 0, .int .i64 0, .int .i64 0, .int .i64 0, .slice kx 0 kc, .int .i64 0, .slice tx 0 tc], .bool false]) (by simp [results, Try.results13, go_sem, hc]) rfl ⟨_, rfl, rep_bare_any (n := m) HR1.out rfl, bthen HB0.out (HS1.out.chain hS).below⟩

end Go.Proofs.Ytdbcdjiclkmknaa
