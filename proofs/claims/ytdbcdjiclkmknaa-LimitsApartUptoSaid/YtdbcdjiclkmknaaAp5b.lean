/- Chapter 35, LimitsApart: the law returns true. -/
import Derived.Test.YtdbcdjiclkmknaaLt5
import Derived.Test.YtdbcdjiclkmknaaLv5
import Derived.Test.YtdbcdjiclkmknaaJ25
import Derived.Test.YtdbcdjiclkmknaaAp5a
namespace Go.Proofs.Ytdbcdjiclkmknaa
open Go.RowKit

attribute [local irreducible] wpQuiet wpG wpP wpK wpList Code.wp Calls

set_option maxHeartbeats 16000000 in
set_option maxRecDepth 100000 in
theorem limitsApart_11 (F : Fnt) (l : Int) (c : Bool) (n : Nat) (base : Bx (n + 1)) (sb : Bx (n + 1)) (sp : Bx (n + 1)) (cs : List Value) (sx ux : Option Addr) (sc uc : Nat) (w : World) (hF : FntOk w F) (hr : Rep w (n + 1) base cs) (hs : RepL w (n + 1) sx [sb]) (hu : RepL w (n + 1) ux [sp]) (b1 : 1 ≤ 1048576) (b2 : 1 ≤ 1048576) (h : MadeOk5 F l n base [sb] [sp]) : Calls Try.prog 7 #[.agg (caseS F l c cs (.slice sx 1 sc) (.slice ux 1 uc)).toArray] w (Gives (.bool true) w) := by
  have HM := Lib.hid (fun w' (hb : Below w.heap.size w w') => made35_ok F l c n base [sb] [sp] cs sx ux sc uc w' (hF.below hb) (hr.step hb) (hs.step hb) (hu.step hb) b1 b2 h)
  have hpt := lim_part h
  have HMa := Lib.hid (fun w' (hb : Below w.heap.size w w') => made35_ok F l c n base [] [sp] cs none ux 0 uc w' (hF.below hb) (hr.step hb) (fun i kid hi => by simp at hi) (hu.step hb) (Nat.zero_le _) b2 hpt.1)
  have HMb := Lib.hid (fun w' (hb : Below w.heap.size w w') => made35_ok F l c n base [sb] [] cs sx none sc 0 w' (hF.below hb) (hr.step hb) (hs.step hb) (fun i kid hi => by simp at hi) b1 (Nat.zero_le _) hpt.2)
  have hso := h.2.2.2.2.1
  have HSb := Lib.hid (validB_small hso.2.2.1).1
  have HSs := Lib.hid (validB_small (hso.2.2.2.1.2 sb (by simp))).1
  have HSu := Lib.hid (validB_small (hso.2.2.2.2.2 sp (by simp))).1
  have eR : limB F l n base [sb] [sp] = listB (n + 1) (limE F n base [sb] [sp]) (limH F l n base [sp]) (limD F l n base [sb]) [atXY (n + 1) base (lmX0 (limW n base [sb] [sp]) base.1.w - limL F n base [sb] [sp]) 0, atXY (n + 1) sb (lmX1 (limW n base [sb] [sp]) (limI F n base) sb.1.w - limL F n base [sb] [sp]) (-(base.1.d + lmQ F l 17 + sb.1.h)), atXY (n + 1) sp (lmX2 (limW n base [sb] [sp]) (limI F n base) sp.1.w - limL F n base [sb] [sp]) (base.1.h + lmQ F l 11 + sp.1.d)] := rfl
  have eA : limB F l n base [] [sp] = listB (n + 1) (limE F n base [] [sp]) (limH F l n base [sp]) (limD F l n base []) [atXY (n + 1) base (lmX0 (limW n base [] [sp]) base.1.w - limL F n base [] [sp]) 0, atXY (n + 1) sp (lmX2 (limW n base [] [sp]) (limI F n base) sp.1.w - limL F n base [] [sp]) (base.1.h + lmQ F l 11 + sp.1.d)] := rfl
  have eB : limB F l n base [sb] [] = listB (n + 1) (limE F n base [sb] []) (limH F l n base []) (limD F l n base [sb]) [atXY (n + 1) base (lmX0 (limW n base [sb] []) base.1.w - limL F n base [sb] []) 0, atXY (n + 1) sb (lmX1 (limW n base [sb] []) (limI F n base) sb.1.w - limL F n base [sb] []) (-(base.1.d + lmQ F l 17 + sb.1.h))] := rfl
  rw [eR] at HM
  rw [eA] at HMa
  rw [eB] at HMb
  clear eR eA eB hpt
  generalize lmX0 (limW n base [sb] [sp]) base.1.w - limL F n base [sb] [sp] = X0 at *
  generalize lmX1 (limW n base [sb] [sp]) (limI F n base) sb.1.w - limL F n base [sb] [sp] = X1 at *
  generalize lmX2 (limW n base [sb] [sp]) (limI F n base) sp.1.w - limL F n base [sb] [sp] = X2 at *
  generalize lmX0 (limW n base [] [sp]) base.1.w - limL F n base [] [sp] = Xa0 at *
  generalize lmX2 (limW n base [] [sp]) (limI F n base) sp.1.w - limL F n base [] [sp] = Xa1 at *
  generalize lmX0 (limW n base [sb] []) base.1.w - limL F n base [sb] [] = Xb0 at *
  generalize lmX1 (limW n base [sb] []) (limI F n base) sb.1.w - limL F n base [sb] [] = Xb1 at *
  generalize limE F n base [sb] [sp] = E at *
  generalize limE F n base [] [sp] = Ea at *
  generalize limE F n base [sb] [] = Eb at *
  generalize limH F l n base [sp] = H at *
  generalize limH F l n base [] = Hb at *
  generalize limD F l n base [sb] = D at *
  generalize limD F l n base [] = Da at *
  generalize -(base.1.d + lmQ F l 17 + sb.1.h) = YS at *
  generalize base.1.h + lmQ F l 11 + sp.1.d = YU at *
  obtain ⟨sbk, sbo, scs, rfl, hs1, hs2⟩ := hs 0 sb rfl
  obtain ⟨ubk, ubo, ucs, rfl, hu1, hu2⟩ := hu 0 sp rfl
  rw [Nat.zero_mul, Nat.add_zero] at hs1 hu1
  obtain ⟨⟨bk, bn, bz, bw, bh, bd, bx, by_, bo, bs⟩, bks⟩ := base
  obtain ⟨bk8, bc8, bk10, bc10, rfl⟩ := kid_out hr
  obtain ⟨b8, hb8⟩ : ∃ v, Value.slice bk8 bks.length bc8 = v := ⟨_, rfl⟩
  obtain ⟨b10, hb10⟩ : ∃ v, Value.slice bk10 bs.length bc10 = v := ⟨_, rfl⟩
  have ob8 : b8.oneCell' = true := by rw [← hb8]; rfl
  have ob10 : b10.oneCell' = true := by rw [← hb10]; rfl
  obtain ⟨⟨sk, sn, sz, sw, sh, sd, sx, sy_, so, ss⟩, sks⟩ := sb
  obtain ⟨sk8, sc8, sk10, sc10, rfl⟩ := kid_out hs2
  obtain ⟨s8, hs8⟩ : ∃ v, Value.slice sk8 sks.length sc8 = v := ⟨_, rfl⟩
  obtain ⟨s10, hs10⟩ : ∃ v, Value.slice sk10 ss.length sc10 = v := ⟨_, rfl⟩
  have os8 : s8.oneCell' = true := by rw [← hs8]; rfl
  have os10 : s10.oneCell' = true := by rw [← hs10]; rfl
  obtain ⟨⟨uk, un, uz, uw, uh, ud, ux, uy_, uo, us⟩, uks⟩ := sp
  obtain ⟨uk8, uc8, uk10, uc10, rfl⟩ := kid_out hu2
  obtain ⟨u8, hu8⟩ : ∃ v, Value.slice uk8 uks.length uc8 = v := ⟨_, rfl⟩
  obtain ⟨u10, hu10⟩ : ∃ v, Value.slice uk10 us.length uc10 = v := ⟨_, rfl⟩
  have ou8 : u8.oneCell' = true := by rw [← hu8]; rfl
  have ou10 : u10.oneCell' = true := by rw [← hu10]; rfl
  rw [hb8, hb10] at hr HM HMa HMb
  rw [hb8, hb10]
  rw [hs8, hs10] at hs1 hs2
  rw [hu8, hu10] at hu1 hu2
  simp only [List.length_cons, List.length_nil, Nat.zero_add] at HM HMa HMb
  (try simp only [List.length_cons, List.length_nil, Nat.zero_add])
  have hallC : (caseS F l c [.int .i64 bk, .string bn, .int .i64 bz, .int .i64 bw, .int .i64 bh, .int .i64 bd, .int .i64 bx, .int .i64 by_, b8, .int .i64 bo, b10] (.slice (some ⟨sbk, sbo, none⟩) 1 sc) (.slice (some ⟨ubk, ubo, none⟩) 1 uc)).all (·.oneCell') = true := all_app rfl (all_app rfl (all_app (rep_all hr) rfl))
  have HRb := Lib.hid hr
  have HRs := Lib.hid hs2
  have HRu := Lib.hid hu2
  clear hF hr hs hu hs2 hu2 h hso b1 b2 hb8 hb10 hs8 hs10 hu8 hu10
  go_enter Try.func7, Try.ntmps7
  have hS := own_start w
  go_upto_region 6 with (first | (refine own_unguard (by rfl) ?_) | (refine own_box rfl _ _ rfl rfl hS ?_; clear hS; intro kb w0 hS0; have hrC := (hS0.get at0).range; have HB0 := Lib.hid hS0.below; obtain ⟨hrF, hrS, hrN, cV, cU⟩ := caseS_out hrC; have hS := own_start w0; clear hS0) | (refine own_load_old rfl _ _ rfl rfl hS hrC List.not_mem_nil rt_case35 ?_) | (go_at_call 8; refine own_calls hS (awake35_calls _) ?_; clear hS; (try clear ww); intro ww hS) | (go_at_call 13; refine Calls.mono (HM.out _ (bthen HB0.out hS.below)) ?_; rintro e w1 ⟨cs1, rfl, hR1, hb1⟩; have hrC1 := rangeAt_below (hS.range List.not_mem_nil hrC) hb1; have cV1 := cell_below (hS.cell List.not_mem_nil cV) hb1; have cU1 := cell_below (hS.cell List.not_mem_nil cU) hb1; have hB1 := bthen HB0.out (bthen hS.below hb1); have HB1 := Lib.hid hB1; clear hB1; obtain ⟨k, o, kc, tx, tc, q0, q1, q2, rfl, hk0, hk1, hk2, hp0, hp1, hp2⟩ := three_out hR1; obtain ⟨kx0, kc0, sx0, sc0, rfl, hE0⟩ := rep_place HRb.out hp0; have HE0 := Lib.hid hE0; clear hE0; obtain ⟨kx1, kc1, sx1, sc1, rfl, hE1⟩ := rep_place HRs.out hp1; have HE1 := Lib.hid hE1; clear hE1; obtain ⟨kx2, kc2, sx2, sc2, rfl, hE2⟩ := rep_place HRu.out hp2; have HE2 := Lib.hid hE2; clear hE2; clear hR1 hS hb1 hp0 hp1 hp2 hrC hrF hrS hrN cV cU; have hS := own_start w1) | (refine w_ld rfl _ rfl (by rfl) (by first | exact rd_1 (by repeat constructor) (by first | rfl | assumption) | exact rd_w (by repeat constructor) (by rfl) | exact rd_o (by assumption) (by rfl) (by first | exact nmn | assumption | simp) | exact rd_h (by assumption) (by rfl) (by first | exact nmn | assumption | simp) | exact rd_1o (by assumption) (by first | exact nmn | assumption | simp) | exact rd_1h (by assumption) (by first | rfl | assumption) (by first | exact nmn | assumption | simp)) hS ?_) | (refine own_box rfl _ _ rfl (by rfl) hS ?_; clear hS; (try clear ww); intro bb ww hS) | (refine w_al rfl rfl hS ?_; clear hS; (try clear ww); intro bb ww hS) | (refine w_st rfl _ _ rfl (by rfl) (by rfl) (by repeat constructor) (by rfl) (by rfl) (by first | rfl | assumption) hS ?_; clear hS; (try clear ww); intro ww hS) | (refine w_s1 rfl _ _ rfl (by rfl) (by repeat constructor) (by first | exact .c | exact .t rfl) (by rfl) (by repeat constructor) hS ?_; clear hS; (try clear ww); intro ww hS))
  (try simp only [Act.put]); (try simp only [List.setIfInBounds_toArray]); (try simp only [List.set_cons_succ]); (try simp only [List.set_cons_zero])
  have hrC1r := hS.range List.not_mem_nil hrC1
  have hrC1n := hS.oldOff (range_lt hrC1)
  have HS0 := Lib.hid hS
  obtain ⟨DD, HDD, hS⟩ := hS.rebaseN
  rw [← HDD.out] at hrC1n
  have HSw := Lib.hid hS
  refine own_anyM hS [4, 5] [] 6 (by kernel_rfl) (by kernel_rfl) ?_
  clear hS
  intro hcl ww hS _
  refine own_batchN HSw.out [0, 1] 4 rfl hS hcl (by kernel_rfl) ?_
  (try simp only); repeat (first | (simp only [List.filterMap_cons]) | (simp only [List.filterMap_nil]) | (simp only [List.getElem?_toArray]) | (simp only [List.getElem?_cons_succ]) | (simp only [List.getElem?_cons_zero]) | (simp only [List.reverse_cons]) | (simp only [List.reverse_nil]) | (simp only [List.nil_append]) | (simp only [List.cons_append]))
  repeat (first
      | (first | (refine g_plain rfl ?_) | (refine g_yes rfl rfl rfl (by simp only [List.getElem?_toArray, List.getElem?_cons_succ, List.getElem?_cons_zero]; rfl) (by with_reducible constructor) ?_)
         apply Exists.intro; refine ⟨?_, ?_⟩
         focus (intro wq hq0; (first | have hq : Own _ _ _ wq := hq0 | have hq : Own _ _ _ wq := hq0.1 | skip); first | ((with_reducible show givesAt _ ({ dst := _, op := Op.load _ _, type := _, pos := _, after := _, guard := _ } : Oper) _ _ _); first | (exact givesAt_rd rfl (by rfl) (by first | exact rd_1 (by repeat constructor) (by first | rfl | assumption) | exact rd_w (by repeat constructor) (by rfl) | exact rd_o (by assumption) (by rfl) (by first | exact nmn | assumption | simp) | exact rd_h (by assumption) (by rfl) (by first | exact nmn | assumption | simp) | exact rd_1o (by assumption) (by first | exact nmn | assumption | simp) | exact rd_1h (by assumption) (by first | rfl | assumption) (by first | exact nmn | assumption | simp)) hq)) | (go_simp; first | (with_reducible rfl)))
         simp only [Act.put, List.setIfInBounds_toArray]; (try simp only [List.set_cons_succ]); (try simp only [List.set_cons_zero]))
      | (refine g_no rfl rfl rfl (by simp only [List.getElem?_toArray, List.getElem?_cons_succ, List.getElem?_cons_zero]; rfl) (by with_reducible constructor) ?_; simp only [Act.put, List.setIfInBounds_toArray]; (try simp only [List.set_cons_succ]); (try simp only [List.set_cons_zero])))
  refine g_nil ?_
  clear hS hcl
  intro hcl ww hS
  (try simp only [Act.put]); (try simp only [List.setIfInBounds_toArray]); (try simp only [List.set_cons_succ]); (try simp only [List.set_cons_zero])
  refine own_frees hS [(2, 5, [.slice none 0 0, .slice none 0 0, .int .i64 0, .int .i64 0, .int .i64 0, .int .i64 0, .int .i64 0, .int .i64 0, .int .i64 0, .int .i64 0, .int .i64 0, .int .i64 0, .int .i64 0, .int .i64 0, .int .i64 0, .int .i64 0, .int .i64 0, .int .i64 0, .int .i64 0, .int .i64 0, .int .i64 0, .int .i64 0, .int .i64 0, .bool false, .int .i64 0, .string ⟨#[]⟩, .int .i64 0, .int .i64 0, .int .i64 0, .int .i64 0, .int .i64 0, .int .i64 0, .slice none 0 0, .int .i64 0, .slice none 0 0, .slice none 0 0, .slice none 0 0]), (3, 6, [.slice none 0 0, .slice none 0 0, .int .i64 0, .int .i64 0, .int .i64 0, .int .i64 0, .int .i64 0, .int .i64 0, .int .i64 0, .int .i64 0, .int .i64 0, .int .i64 0, .int .i64 0, .int .i64 0, .int .i64 0, .int .i64 0, .int .i64 0, .int .i64 0, .int .i64 0, .int .i64 0, .int .i64 0, .int .i64 0, .int .i64 0, .bool false, .int .i64 0, .string ⟨#[]⟩, .int .i64 0, .int .i64 0, .int .i64 0, .int .i64 0, .int .i64 0, .int .i64 0, .slice none 0 0, .int .i64 0, .slice none 0 0, .slice none 0 0, .slice none 0 0])] 2 rfl (.cons (by simp only [List.getElem?_toArray, List.getElem?_cons_succ, List.getElem?_cons_zero]; rfl) rfl rfl rfl zt_case35 (.cons (by simp only [List.getElem?_toArray, List.getElem?_cons_succ, List.getElem?_cons_zero]; rfl) rfl rfl rfl zt_case35 .nil)) hcl (by kernel_rfl) ?_
  clear hS hcl
  intro f wf hcl hS
  have hK := hS.newer (by rw [HDD.out]; exact fun _ h => h)
  simp only [putF, ownF, List.map_cons, List.map_nil, List.foldr_cons, List.foldr_nil, List.cons_append, List.nil_append] at hS hcl hK ⊢
  generalize f 2 = v5 at *
  generalize f 3 = v6 at *
  have hv5 := hK _ (.head _)
  have hv6 := hK _ (.tail _ (.head _))
  clear hK
  (try simp only [Act.put]); (try simp only [List.setIfInBounds_toArray]); (try simp only [List.set_cons_succ]); (try simp only [List.set_cons_zero])
  refine own_mid (K := [(_, _), (_, _)]) (L := [(_, _)]) hS (fun x hx => by simp only [List.mem_cons, List.not_mem_nil, or_false] at hx; rcases hx with rfl | rfl <;> assumption) 4 hcl (by simp only [List.getElem?_toArray, List.getElem?_cons_succ, List.getElem?_cons_zero]; rfl) (by kernel_rfl) ?_
  clear hS
  intro hS
  (refine w_st rfl _ _ rfl (by rfl) (by rfl) (by repeat constructor) (by rfl) (by rfl) (by first | rfl | assumption) hS ?_; clear hS; intro ww hS)
  refine wpList_nil ⟨rfl, _, hS, ?_⟩
  clear hS hcl
  intro hcl wf hS
  simp only [List.cons_append, List.nil_append] at hS
  (try simp only [Act.put]); (try simp only [List.setIfInBounds_toArray]); (try simp only [List.set_cons_succ]); (try simp only [List.set_cons_zero])
  refine own_mid (K := [(_, _), (_, _)]) (L := [(_, _)]) hS (fun x hx => by simp only [List.mem_cons, List.not_mem_nil, or_false] at hx; rcases hx with rfl | rfl <;> assumption) 5 hcl (by simp only [List.getElem?_toArray, List.getElem?_cons_succ, List.getElem?_cons_zero]; rfl) (by kernel_rfl) ?_
  clear hS
  intro hS
  (refine w_st rfl _ _ rfl (by rfl) (by rfl) (by repeat constructor) (by rfl) (by rfl) (by first | rfl | assumption) hS ?_; clear hS; intro ww hS)
  refine wpList_nil ⟨rfl, _, hS, ?_⟩
  clear hS hcl
  intro hcl wf hS
  simp only [List.cons_append, List.nil_append] at hS
  (try simp only [Act.put]); (try simp only [List.setIfInBounds_toArray]); (try simp only [List.set_cons_succ]); (try simp only [List.set_cons_zero])
  refine own_done (by kernel_rfl) ?_
  clear hrC1r hrC1n hv5 hv6 HSw
  obtain rfl := HDD.out
  have hS1 := HS0.out.chain hS
  clear hS HDD HS0
  have hS := hS1
  clear hS1
  go_upto_region 8 with (first | (refine own_unguard (by rfl) ?_) | (refine w_ld rfl _ rfl (by rfl) (by first | exact rd_1 (by repeat constructor) (by first | rfl | assumption) | exact rd_w (by repeat constructor) (by rfl) | exact rd_o (by assumption) (by rfl) (by first | exact nmn | assumption | simp) | exact rd_h (by assumption) (by rfl) (by first | exact nmn | assumption | simp) | exact rd_1o (by assumption) (by first | exact nmn | assumption | simp) | exact rd_1h (by assumption) (by first | rfl | assumption) (by first | exact nmn | assumption | simp)) hS ?_) | (refine own_box rfl _ _ rfl (by rfl) hS ?_; clear hS; (try clear ww); intro bb ww hS) | (refine w_al rfl rfl hS ?_; clear hS; (try clear ww); intro bb ww hS) | (refine w_st rfl _ _ rfl (by rfl) (by rfl) (by repeat constructor) (by rfl) (by rfl) (by first | rfl | assumption) hS ?_; clear hS; (try clear ww); intro ww hS) | (refine w_s1 rfl _ _ rfl (by rfl) (by repeat constructor) (by first | exact .c | exact .t rfl) (by rfl) (by repeat constructor) hS ?_; clear hS; (try clear ww); intro ww hS))
  have hX8 : ww.rangeAt _ 0 (caseS F l c [.int .i64 bk, .string bn, .int .i64 bz, .int .i64 bw, .int .i64 bh, .int .i64 bd, .int .i64 bx, .int .i64 by_, b8, .int .i64 bo, b10] (.slice none 0 0) (.slice (some ⟨ubk, ubo, none⟩) 1 uc)) := (hS.get at0).range
  have hY8 : ww.rangeAt _ 0 (caseS F l c [.int .i64 bk, .string bn, .int .i64 bz, .int .i64 bw, .int .i64 bh, .int .i64 bd, .int .i64 bx, .int .i64 by_, b8, .int .i64 bo, b10] (.slice (some ⟨sbk, sbo, none⟩) 1 sc) (.slice none 0 0)) := (hS.get at1).range
  have hV8 := has_range (hS.get at2)
  have hC8 := hS.range List.not_mem_nil hrC1
  have hk08 := hS.range List.not_mem_nil hk0
  have hk18 := hS.range List.not_mem_nil hk1
  have hk28 := hS.range List.not_mem_nil hk2
  have HK8 := Lib.hid hS.below
  have HB8 := Lib.hid (bthen HB1.out hS.below)
  rename World => w3
  clear hS hrC1 hk0 hk1 hk2 cV1 cU1
  have hS := own_start w3
  go_upto_region 9 with (first | (refine own_unguard (by rfl) ?_) | (refine own_load_old rfl _ _ rfl rfl hS hX8 List.not_mem_nil rt_case35 ?_) | (go_at_call 13; refine Calls.mono (HMa.out _ (bthen HB8.out hS.below)) ?_; rintro e w4 ⟨csx, rfl, hRx, hbx⟩; have hY9 := rangeAt_below (hS.range List.not_mem_nil hY8) hbx; have hV9 := rangeAt_below (hS.range List.not_mem_nil hV8) hbx; have hC9 := rangeAt_below (hS.range List.not_mem_nil hC8) hbx; have hk09 := rangeAt_below (hS.range List.not_mem_nil hk08) hbx; have hk19 := rangeAt_below (hS.range List.not_mem_nil hk18) hbx; have hk29 := rangeAt_below (hS.range List.not_mem_nil hk28) hbx; have HK9 := Lib.hid (bthen HK8.out (bthen hS.below hbx)); have HB9 := Lib.hid (bthen HB8.out (bthen hS.below hbx)); obtain ⟨ma, na, mca, mxa, mda, p0, p1, rfl, hxa0, hxa1, gp0, gp1⟩ := list2_out hRx; obtain ⟨_, _, _, _, rfl⟩ := kid_out gp0; obtain ⟨_, _, _, _, rfl⟩ := kid_out gp1; clear hS hRx hbx gp0 gp1; have hS := own_start w4) | (refine w_ld rfl _ rfl (by rfl) (by first | exact rd_1 (by repeat constructor) (by first | rfl | assumption) | exact rd_w (by repeat constructor) (by rfl) | exact rd_o (by assumption) (by rfl) (by first | exact nmn | assumption | simp) | exact rd_h (by assumption) (by rfl) (by first | exact nmn | assumption | simp) | exact rd_1o (by assumption) (by first | exact nmn | assumption | simp) | exact rd_1h (by assumption) (by first | rfl | assumption) (by first | exact nmn | assumption | simp)) hS ?_) | (refine own_box rfl _ _ rfl (by rfl) hS ?_; clear hS; (try clear ww); intro bb ww hS) | (refine w_al rfl rfl hS ?_; clear hS; (try clear ww); intro bb ww hS) | (refine w_st rfl _ _ rfl (by rfl) (by rfl) (by repeat constructor) (by rfl) (by rfl) (by first | rfl | assumption) hS ?_; clear hS; (try clear ww); intro ww hS) | (refine w_s1 rfl _ _ rfl (by rfl) (by repeat constructor) (by first | exact .c | exact .t rfl) (by rfl) (by repeat constructor) hS ?_; clear hS; (try clear ww); intro ww hS))
  clear hX8 hY8 hV8 hC8 hk08 hk18 hk28
  go_upto_region 10 with (first | (refine own_unguard (by rfl) ?_) | (refine own_load_old rfl _ _ rfl rfl hS hY9 List.not_mem_nil rt_case35 ?_) | (go_at_call 13; refine Calls.mono (HMb.out _ (bthen HB9.out hS.below)) ?_; rintro e w5 ⟨csx, rfl, hRx, hbx⟩; have hV10 := rangeAt_below (hS.range List.not_mem_nil hV9) hbx; have hC10 := rangeAt_below (hS.range List.not_mem_nil hC9) hbx; have hk010 := rangeAt_below (hS.range List.not_mem_nil hk09) hbx; have hk110 := rangeAt_below (hS.range List.not_mem_nil hk19) hbx; have hk210 := rangeAt_below (hS.range List.not_mem_nil hk29) hbx; have hxa010 := rangeAt_below (hS.range List.not_mem_nil hxa0) hbx; have hxa110 := rangeAt_below (hS.range List.not_mem_nil hxa1) hbx; have hXv := rangeAt_below (has_range (hS.get at0)) hbx; obtain ⟨b9, Hb9⟩ : ∃ b, Hid (b = bb) := ⟨_, rfl⟩; obtain rfl := Hb9.out; clear Hb9; have HK10 := Lib.hid (bthen HK9.out (bthen hS.below hbx)); have HB10 := Lib.hid (bthen HB9.out (bthen hS.below hbx)); obtain ⟨mb, nb, mcb, mxb, mdb, p0, p1, rfl, hxb0, hxb1, gp0, gp1⟩ := list2_out hRx; obtain ⟨_, _, _, _, rfl⟩ := kid_out gp0; obtain ⟨_, _, _, _, rfl⟩ := kid_out gp1; clear hS hRx hbx gp0 gp1; have hS := own_start w5) | (refine w_ld rfl _ rfl (by rfl) (by first | exact rd_1 (by repeat constructor) (by first | rfl | assumption) | exact rd_w (by repeat constructor) (by rfl) | exact rd_o (by assumption) (by rfl) (by first | exact nmn | assumption | simp) | exact rd_h (by assumption) (by rfl) (by first | exact nmn | assumption | simp) | exact rd_1o (by assumption) (by first | exact nmn | assumption | simp) | exact rd_1h (by assumption) (by first | rfl | assumption) (by first | exact nmn | assumption | simp)) hS ?_) | (refine own_box rfl _ _ rfl (by rfl) hS ?_; clear hS; (try clear ww); intro bb ww hS) | (refine w_al rfl rfl hS ?_; clear hS; (try clear ww); intro bb ww hS) | (refine w_st rfl _ _ rfl (by rfl) (by rfl) (by repeat constructor) (by rfl) (by rfl) (by first | rfl | assumption) hS ?_; clear hS; (try clear ww); intro ww hS) | (refine w_s1 rfl _ _ rfl (by rfl) (by repeat constructor) (by first | exact .c | exact .t rfl) (by rfl) (by repeat constructor) hS ?_; clear hS; (try clear ww); intro ww hS))
  clear hY9 hV9 hC9 hk09 hk19 hk29 hxa0 hxa1
  obtain ⟨-, -, hN, cV, cU⟩ := caseS_out hC10
  have hs10 := rangeAt_below hs1 HB10.out
  have hu10 := rangeAt_below hu1 HB10.out
  clear hs1 hu1 hC10
  go_upto_region 12 with (first | (refine own_unguard (by rfl) ?_) | (refine w_ld rfl _ rfl (by rfl) (by first | exact rd_1 (by repeat constructor) (by first | rfl | assumption) | exact rd_w (by repeat constructor) (by rfl) | exact rd_o (by assumption) (by rfl) (by first | exact nmn | assumption | simp) | exact rd_h (by assumption) (by rfl) (by first | exact nmn | assumption | simp) | exact rd_1o (by assumption) (by first | exact nmn | assumption | simp) | exact rd_1h (by assumption) (by first | rfl | assumption) (by first | exact nmn | assumption | simp)) hS ?_) | (refine own_box rfl _ _ rfl (by rfl) hS ?_; clear hS; (try clear ww); intro bb ww hS) | (refine w_al rfl rfl hS ?_; clear hS; (try clear ww); intro bb ww hS) | (refine w_st rfl _ _ rfl (by rfl) (by rfl) (by repeat constructor) (by rfl) (by rfl) (by first | rfl | assumption) hS ?_; clear hS; (try clear ww); intro ww hS) | (refine w_s1 rfl _ _ rfl (by rfl) (by repeat constructor) (by first | exact .c | exact .t rfl) (by rfl) (by repeat constructor) hS ?_; clear hS; (try clear ww); intro ww hS))
  (try simp only [Act.put]); (try simp only [List.setIfInBounds_toArray]); (try simp only [List.set_cons_succ]); (try simp only [List.set_cons_zero])
  refine own_any hS [] 12 (by kernel_rfl) (by kernel_rfl) ?_
  clear hS
  intro hcl ww hS
  refine own_batch hS [0, 1, 2, 3, 4, 5, 6, 7, 8, 9] 2 rfl hcl (by kernel_rfl) ?_
  (try simp only); repeat (first | (simp only [List.filterMap_cons]) | (simp only [List.filterMap_nil]) | (simp only [List.getElem?_toArray]) | (simp only [List.getElem?_cons_succ]) | (simp only [List.getElem?_cons_zero]) | (simp only [List.reverse_cons]) | (simp only [List.reverse_nil]) | (simp only [List.nil_append]) | (simp only [List.cons_append]))
  repeat (first
      | (first | (refine g_plain rfl ?_) | (refine g_yes rfl rfl rfl (by simp only [List.getElem?_toArray, List.getElem?_cons_succ, List.getElem?_cons_zero]; rfl) (by with_reducible constructor) ?_)
         apply Exists.intro; refine ⟨?_, ?_⟩
         focus (intro wq hq0; (first | have hq : Own _ _ _ wq := hq0 | have hq : Own _ _ _ wq := hq0.1 | skip); first | ((with_reducible show givesAt _ ({ dst := _, op := Op.load _ _, type := _, pos := _, after := _, guard := _ } : Oper) _ _ _); first | (exact givesAt_rd rfl (by rfl) (by first | exact rd_1 (by repeat constructor) (by first | rfl | assumption) | exact rd_w (by repeat constructor) (by rfl) | exact rd_o (by assumption) (by rfl) (by first | exact nmn | assumption | simp) | exact rd_h (by assumption) (by rfl) (by first | exact nmn | assumption | simp) | exact rd_1o (by assumption) (by first | exact nmn | assumption | simp) | exact rd_1h (by assumption) (by first | rfl | assumption) (by first | exact nmn | assumption | simp)) hq)) | (go_simp; first | (with_reducible rfl)))
         simp only [Act.put, List.setIfInBounds_toArray]; (try simp only [List.set_cons_succ]); (try simp only [List.set_cons_zero]))
      | (refine g_no rfl rfl rfl (by simp only [List.getElem?_toArray, List.getElem?_cons_succ, List.getElem?_cons_zero]; rfl) (by with_reducible constructor) ?_; simp only [Act.put, List.setIfInBounds_toArray]; (try simp only [List.set_cons_succ]); (try simp only [List.set_cons_zero])))
  refine g_nil ?_
  clear hS hcl
  intro hcl ww hS
  (try simp only [Act.put]); (try simp only [List.setIfInBounds_toArray]); (try simp only [List.set_cons_succ]); (try simp only [List.set_cons_zero])
  refine own_soft hS 10 hcl (by simp only [List.getElem?_toArray, List.getElem?_cons_succ, List.getElem?_cons_zero]; rfl) (by kernel_rfl) ?_
  have hO := hS
  clear hS
  intro hS
  refine own_buildSlice rfl _ _ 3 _ rfl [.int .i64 bk, .string bn, .int .i64 bz, .int .i64 bw, .int .i64 bh, .int .i64 bd, .int .i64 bx, .int .i64 by_, b8, .int .i64 bo, b10, .int .i64 sk, .string sn, .int .i64 sz, .int .i64 sw, .int .i64 sh, .int .i64 sd, .int .i64 sx, .int .i64 sy_, s8, .int .i64 so, s10, .int .i64 uk, .string un, .int .i64 uz, .int .i64 uw, .int .i64 uh, .int .i64 ud, .int .i64 ux, .int .i64 uy_, u8, .int .i64 uo, u10] hS Try.underlying30 (by kernel_rfl) ?_
  clear hS
  intro bl w6 hS
  refine wpList_nil ⟨rfl, _, hS, ?_⟩
  clear hS hO hcl
  intro hcl w7 hS
  (try simp only [List.cons_append, List.nil_append] at hS)
  (try simp only [Act.put]); (try simp only [List.setIfInBounds_toArray]); (try simp only [List.set_cons_succ]); (try simp only [List.set_cons_zero])
  refine own_batch hS [11] 0 rfl hcl (by kernel_rfl) ?_
  (try simp only); repeat (first | (simp only [List.filterMap_cons]) | (simp only [List.filterMap_nil]) | (simp only [List.getElem?_toArray]) | (simp only [List.getElem?_cons_succ]) | (simp only [List.getElem?_cons_zero]) | (simp only [List.reverse_cons]) | (simp only [List.reverse_nil]) | (simp only [List.nil_append]) | (simp only [List.cons_append]))
  repeat (first
      | (first | (refine g_plain rfl ?_) | (refine g_yes rfl rfl rfl (by simp only [List.getElem?_toArray, List.getElem?_cons_succ, List.getElem?_cons_zero]; rfl) (by with_reducible constructor) ?_)
         apply Exists.intro; refine ⟨?_, ?_⟩
         focus (intro wq hq0; (first | have hq : Own _ _ _ wq := hq0 | have hq : Own _ _ _ wq := hq0.1 | skip); first | ((with_reducible show givesAt _ ({ dst := _, op := Op.load _ _, type := _, pos := _, after := _, guard := _ } : Oper) _ _ _); first | (exact givesAt_rd rfl (by rfl) (by first | exact rd_1 (by repeat constructor) (by first | rfl | assumption) | exact rd_w (by repeat constructor) (by rfl) | exact rd_o (by assumption) (by rfl) (by first | exact nmn | assumption | simp) | exact rd_h (by assumption) (by rfl) (by first | exact nmn | assumption | simp) | exact rd_1o (by assumption) (by first | exact nmn | assumption | simp) | exact rd_1h (by assumption) (by first | rfl | assumption) (by first | exact nmn | assumption | simp)) hq)) | (go_simp; first | (with_reducible rfl)))
         simp only [Act.put, List.setIfInBounds_toArray]; (try simp only [List.set_cons_succ]); (try simp only [List.set_cons_zero]))
      | (refine g_no rfl rfl rfl (by simp only [List.getElem?_toArray, List.getElem?_cons_succ, List.getElem?_cons_zero]; rfl) (by with_reducible constructor) ?_; simp only [Act.put, List.setIfInBounds_toArray]; (try simp only [List.set_cons_succ]); (try simp only [List.set_cons_zero])))
  refine g_nil ?_
  clear hS hcl
  intro hcl ww hS
  (try simp only [Act.put]); (try simp only [List.setIfInBounds_toArray]); (try simp only [List.set_cons_succ]); (try simp only [List.set_cons_zero])
  refine own_done (by kernel_rfl) ?_
  have hHl := hS.get at0
  have hl0 := range_sub35 (has_range hHl) 0 (cs := [.int .i64 bk, .string bn, .int .i64 bz, .int .i64 bw, .int .i64 bh, .int .i64 bd, .int .i64 bx, .int .i64 by_, b8, .int .i64 bo, b10]) rfl
  have hl1 := range_sub35 (has_range hHl) 11 (cs := [.int .i64 sk, .string sn, .int .i64 sz, .int .i64 sw, .int .i64 sh, .int .i64 sd, .int .i64 sx, .int .i64 sy_, s8, .int .i64 so, s10]) rfl
  have hl2 := range_sub35 (has_range hHl) 22 (cs := [.int .i64 uk, .string un, .int .i64 uz, .int .i64 uw, .int .i64 uh, .int .i64 ud, .int .i64 ux, .int .i64 uy_, u8, .int .i64 uo, u10]) rfl
  have hHy := hS.get at1
  have hV11 := hS.range List.not_mem_nil hV10
  have hXv1 := hS.range List.not_mem_nil hXv
  have hk011 := hS.range List.not_mem_nil hk010
  have hk111 := hS.range List.not_mem_nil hk110
  have hk211 := hS.range List.not_mem_nil hk210
  have hxa11 := hS.range List.not_mem_nil hxa110
  have hxb11 := hS.range List.not_mem_nil hxb1
  have HB11 := Lib.hid (bthen HB10.out hS.below)
  have HK11 := Lib.hid (bthen HK10.out hS.below)
  rename World => w8
  clear hS hV10 hXv hk010 hk110 hk210 hxa010 hxa110 hxb0 hxb1 hN cV cU hs10 hu10
  have hS := own_start w8
  have v8 := hV11 8 _ rfl
  have v4 := hV11 4 _ rfl
  have v5 := hV11 5 _ rfl
  have x8 := hXv1 8 _ rfl
  have x4 := hXv1 4 _ rfl
  have y1 : w8.cell? ⟨k, o + 11 + 7, none⟩ = some (.int .i64 YS) := hk111 7 _ rfl
  have y2 : w8.cell? ⟨k, o + 22 + 7, none⟩ = some (.int .i64 YU) := hk211 7 _ rfl
  have y3 : w8.cell? ⟨ma, na + 11 + 7, none⟩ = some (.int .i64 YU) := hxa11 7 _ rfl
  have y4 : w8.cell? ⟨mb, nb + 11 + 7, none⟩ = some (.int .i64 YS) := hxb11 7 _ rfl
  have HQ0 := Lib.hid (fun w' (hb : Below w8.heap.size w8 w') => ref28_Equal_calls (n + 1) _ _ _ w' (HE0.out.step (bthen HK11.out hb)) (HRb.out.step (bthen HB11.out hb)) HSb.out)
  have HQ1 := Lib.hid (fun w' (hb : Below w8.heap.size w8 w') => ref28_Equal_calls (n + 1) _ _ _ w' (HE1.out.step (bthen HK11.out hb)) (HRs.out.step (bthen HB11.out hb)) HSs.out)
  have HQ2 := Lib.hid (fun w' (hb : Below w8.heap.size w8 w') => ref28_Equal_calls (n + 1) _ _ _ w' (HE2.out.step (bthen HK11.out hb)) (HRu.out.step (bthen HB11.out hb)) HSu.out)
  go_wp2_with (first | (refine own_unguard (by rfl) ?_) | (refine w_ld rfl _ rfl (by rfl) (by first | exact rd_1 (by repeat constructor) (by first | rfl | assumption) | exact rd_w (by repeat constructor) (by rfl) | exact rd_o (by assumption) (by rfl) (by first | exact nmn | assumption | simp) | exact rd_h (by assumption) (by rfl) (by first | exact nmn | assumption | simp) | exact rd_1o (by assumption) (by first | exact nmn | assumption | simp) | exact rd_1h (by assumption) (by first | rfl | assumption) (by first | exact nmn | assumption | simp)) hS ?_) | (refine own_box rfl _ _ rfl (by rfl) hS ?_; clear hS; (try clear ww); intro bb ww hS) | (refine w_al rfl rfl hS ?_; clear hS; (try clear ww); intro bb ww hS) | (refine w_st rfl _ _ rfl (by rfl) (by rfl) (by repeat constructor) (by rfl) (by rfl) (by first | rfl | assumption) hS ?_; clear hS; (try clear ww); intro ww hS) | (refine w_s1 rfl _ _ rfl (by rfl) (by repeat constructor) (by first | exact .c | exact .t rfl) (by rfl) (by repeat constructor) hS ?_; clear hS; (try clear ww); intro ww hS))
  refine wp_loop_rounds 4 ?_
  rw [rounds_succ]
  go_upto_region 16 with (first | (refine own_unguard (by rfl) ?_) | (refine w_ld rfl _ rfl (by rfl) (by first | exact rd_1 (by repeat constructor) (by first | rfl | assumption) | exact rd_w (by repeat constructor) (by rfl) | exact rd_o (by assumption) (by rfl) (by first | exact nmn | assumption | simp) | exact rd_h (by assumption) (by rfl) (by first | exact nmn | assumption | simp) | exact rd_1o (by assumption) (by first | exact nmn | assumption | simp) | exact rd_1h (by assumption) (by first | rfl | assumption) (by first | exact nmn | assumption | simp)) hS ?_) | (refine own_box rfl _ _ rfl (by rfl) hS ?_; clear hS; (try clear ww); intro bb ww hS) | (refine w_al rfl rfl hS ?_; clear hS; (try clear ww); intro bb ww hS) | (refine w_st rfl _ _ rfl (by rfl) (by rfl) (by repeat constructor) (by rfl) (by rfl) (by first | rfl | assumption) hS ?_; clear hS; (try clear ww); intro ww hS) | (refine w_s1 rfl _ _ rfl (by rfl) (by repeat constructor) (by first | exact .c | exact .t rfl) (by rfl) (by repeat constructor) hS ?_; clear hS; (try clear ww); intro ww hS))
  (try simp only [Act.put]); (try simp only [List.setIfInBounds_toArray]); (try simp only [List.set_cons_succ]); (try simp only [List.set_cons_zero])
  refine own_region hS (by kernel_rfl) (by kernel_rfl) ?_
  (try simp only [List.append])
  (try simp only); (try simp only [List.drop_succ_cons]); (try simp only [List.drop_zero]); (try simp only [List.take_succ_cons]); (try simp only [List.take_zero])
  repeat (first
      | (first | (refine quiet_plain rfl ?_) | (refine quiet_yes rfl rfl rfl (by simp only [List.getElem?_toArray, List.getElem?_cons_succ, List.getElem?_cons_zero]; rfl) (by with_reducible constructor) ?_)
         apply Exists.intro; refine ⟨?_, ?_⟩
         focus (intro wq hq0; have hq : Own _ _ _ wq := hq0; first | (exact quietAt_rd rfl (by rfl) (by first | exact rd_1 (by repeat constructor) (by first | rfl | assumption) | exact rd_w (by repeat constructor) (by rfl) | exact rd_o (by assumption) (by rfl) (by first | exact nmn | assumption | simp) | exact rd_h (by assumption) (by rfl) (by first | exact nmn | assumption | simp) | exact rd_1o (by assumption) (by first | exact nmn | assumption | simp) | exact rd_1h (by assumption) (by first | rfl | assumption) (by first | exact nmn | assumption | simp)) hq) | (go_simp; first | (go_at_call 16; exact quietG hq (ref28_At_val _ _ _ _ _ _ _ _ _ _ _ _ _ _ rfl)) | (go_at_call 12; exact quietG hq (HQ0.out _ hq.below)) | (with_reducible rfl)))
         simp only [Act.put, List.setIfInBounds_toArray, List.set_cons_zero, List.set_cons_succ])
      | (refine quiet_no rfl rfl rfl (by simp only [List.getElem?_toArray, List.getElem?_cons_succ, List.getElem?_cons_zero]; rfl) (by with_reducible constructor) ?_; simp only [Act.put, List.setIfInBounds_toArray, List.set_cons_zero, List.set_cons_succ]))
  refine wpQuiet_nil ?_
  clear hS
  intro ww hS
  go_wp2_with (first | (refine own_unguard (by rfl) ?_) | (refine w_ld rfl _ rfl (by rfl) (by first | exact rd_1 (by repeat constructor) (by first | rfl | assumption) | exact rd_w (by repeat constructor) (by rfl) | exact rd_o (by assumption) (by rfl) (by first | exact nmn | assumption | simp) | exact rd_h (by assumption) (by rfl) (by first | exact nmn | assumption | simp) | exact rd_1o (by assumption) (by first | exact nmn | assumption | simp) | exact rd_1h (by assumption) (by first | rfl | assumption) (by first | exact nmn | assumption | simp)) hS ?_) | (refine own_box rfl _ _ rfl (by rfl) hS ?_; clear hS; (try clear ww); intro bb ww hS) | (refine w_al rfl rfl hS ?_; clear hS; (try clear ww); intro bb ww hS) | (refine w_st rfl _ _ rfl (by rfl) (by rfl) (by repeat constructor) (by rfl) (by rfl) (by first | rfl | assumption) hS ?_; clear hS; (try clear ww); intro ww hS) | (refine w_s1 rfl _ _ rfl (by rfl) (by repeat constructor) (by first | exact .c | exact .t rfl) (by rfl) (by repeat constructor) hS ?_; clear hS; (try clear ww); intro ww hS))
  rw [rounds_succ]
  go_upto_region 16 with (first | (refine own_unguard (by rfl) ?_) | (refine w_ld rfl _ rfl (by rfl) (by first | exact rd_1 (by repeat constructor) (by first | rfl | assumption) | exact rd_w (by repeat constructor) (by rfl) | exact rd_o (by assumption) (by rfl) (by first | exact nmn | assumption | simp) | exact rd_h (by assumption) (by rfl) (by first | exact nmn | assumption | simp) | exact rd_1o (by assumption) (by first | exact nmn | assumption | simp) | exact rd_1h (by assumption) (by first | rfl | assumption) (by first | exact nmn | assumption | simp)) hS ?_) | (refine own_box rfl _ _ rfl (by rfl) hS ?_; clear hS; (try clear ww); intro bb ww hS) | (refine w_al rfl rfl hS ?_; clear hS; (try clear ww); intro bb ww hS) | (refine w_st rfl _ _ rfl (by rfl) (by rfl) (by repeat constructor) (by rfl) (by rfl) (by first | rfl | assumption) hS ?_; clear hS; (try clear ww); intro ww hS) | (refine w_s1 rfl _ _ rfl (by rfl) (by repeat constructor) (by first | exact .c | exact .t rfl) (by rfl) (by repeat constructor) hS ?_; clear hS; (try clear ww); intro ww hS))
  (try simp only [Act.put]); (try simp only [List.setIfInBounds_toArray]); (try simp only [List.set_cons_succ]); (try simp only [List.set_cons_zero])
  refine own_region hS (by kernel_rfl) (by kernel_rfl) ?_
  (try simp only [List.append])
  (try simp only); (try simp only [List.drop_succ_cons]); (try simp only [List.drop_zero]); (try simp only [List.take_succ_cons]); (try simp only [List.take_zero])
  repeat (first
      | (first | (refine quiet_plain rfl ?_) | (refine quiet_yes rfl rfl rfl (by simp only [List.getElem?_toArray, List.getElem?_cons_succ, List.getElem?_cons_zero]; rfl) (by with_reducible constructor) ?_)
         apply Exists.intro; refine ⟨?_, ?_⟩
         focus (intro wq hq0; have hq : Own _ _ _ wq := hq0; first | (exact quietAt_rd rfl (by rfl) (by first | exact rd_1 (by repeat constructor) (by first | rfl | assumption) | exact rd_w (by repeat constructor) (by rfl) | exact rd_o (by assumption) (by rfl) (by first | exact nmn | assumption | simp) | exact rd_h (by assumption) (by rfl) (by first | exact nmn | assumption | simp) | exact rd_1o (by assumption) (by first | exact nmn | assumption | simp) | exact rd_1h (by assumption) (by first | rfl | assumption) (by first | exact nmn | assumption | simp)) hq) | (go_simp; first | (go_at_call 16; exact quietG hq (ref28_At_val _ _ _ _ _ _ _ _ _ _ _ _ _ _ rfl)) | (go_at_call 12; exact quietG hq (HQ1.out _ hq.below)) | (with_reducible rfl)))
         simp only [Act.put, List.setIfInBounds_toArray, List.set_cons_zero, List.set_cons_succ])
      | (refine quiet_no rfl rfl rfl (by simp only [List.getElem?_toArray, List.getElem?_cons_succ, List.getElem?_cons_zero]; rfl) (by with_reducible constructor) ?_; simp only [Act.put, List.setIfInBounds_toArray, List.set_cons_zero, List.set_cons_succ]))
  refine wpQuiet_nil ?_
  clear hS
  intro ww hS
  go_wp2_with (first | (refine own_unguard (by rfl) ?_) | (refine w_ld rfl _ rfl (by rfl) (by first | exact rd_1 (by repeat constructor) (by first | rfl | assumption) | exact rd_w (by repeat constructor) (by rfl) | exact rd_o (by assumption) (by rfl) (by first | exact nmn | assumption | simp) | exact rd_h (by assumption) (by rfl) (by first | exact nmn | assumption | simp) | exact rd_1o (by assumption) (by first | exact nmn | assumption | simp) | exact rd_1h (by assumption) (by first | rfl | assumption) (by first | exact nmn | assumption | simp)) hS ?_) | (refine own_box rfl _ _ rfl (by rfl) hS ?_; clear hS; (try clear ww); intro bb ww hS) | (refine w_al rfl rfl hS ?_; clear hS; (try clear ww); intro bb ww hS) | (refine w_st rfl _ _ rfl (by rfl) (by rfl) (by repeat constructor) (by rfl) (by rfl) (by first | rfl | assumption) hS ?_; clear hS; (try clear ww); intro ww hS) | (refine w_s1 rfl _ _ rfl (by rfl) (by repeat constructor) (by first | exact .c | exact .t rfl) (by rfl) (by repeat constructor) hS ?_; clear hS; (try clear ww); intro ww hS))
  rw [rounds_succ]
  go_upto_region 16 with (first | (refine own_unguard (by rfl) ?_) | (refine w_ld rfl _ rfl (by rfl) (by first | exact rd_1 (by repeat constructor) (by first | rfl | assumption) | exact rd_w (by repeat constructor) (by rfl) | exact rd_o (by assumption) (by rfl) (by first | exact nmn | assumption | simp) | exact rd_h (by assumption) (by rfl) (by first | exact nmn | assumption | simp) | exact rd_1o (by assumption) (by first | exact nmn | assumption | simp) | exact rd_1h (by assumption) (by first | rfl | assumption) (by first | exact nmn | assumption | simp)) hS ?_) | (refine own_box rfl _ _ rfl (by rfl) hS ?_; clear hS; (try clear ww); intro bb ww hS) | (refine w_al rfl rfl hS ?_; clear hS; (try clear ww); intro bb ww hS) | (refine w_st rfl _ _ rfl (by rfl) (by rfl) (by repeat constructor) (by rfl) (by rfl) (by first | rfl | assumption) hS ?_; clear hS; (try clear ww); intro ww hS) | (refine w_s1 rfl _ _ rfl (by rfl) (by repeat constructor) (by first | exact .c | exact .t rfl) (by rfl) (by repeat constructor) hS ?_; clear hS; (try clear ww); intro ww hS))
  (try simp only [Act.put]); (try simp only [List.setIfInBounds_toArray]); (try simp only [List.set_cons_succ]); (try simp only [List.set_cons_zero])
  refine own_region hS (by kernel_rfl) (by kernel_rfl) ?_
  (try simp only [List.append])
  (try simp only); (try simp only [List.drop_succ_cons]); (try simp only [List.drop_zero]); (try simp only [List.take_succ_cons]); (try simp only [List.take_zero])
  repeat (first
      | (first | (refine quiet_plain rfl ?_) | (refine quiet_yes rfl rfl rfl (by simp only [List.getElem?_toArray, List.getElem?_cons_succ, List.getElem?_cons_zero]; rfl) (by with_reducible constructor) ?_)
         apply Exists.intro; refine ⟨?_, ?_⟩
         focus (intro wq hq0; have hq : Own _ _ _ wq := hq0; first | (exact quietAt_rd rfl (by rfl) (by first | exact rd_1 (by repeat constructor) (by first | rfl | assumption) | exact rd_w (by repeat constructor) (by rfl) | exact rd_o (by assumption) (by rfl) (by first | exact nmn | assumption | simp) | exact rd_h (by assumption) (by rfl) (by first | exact nmn | assumption | simp) | exact rd_1o (by assumption) (by first | exact nmn | assumption | simp) | exact rd_1h (by assumption) (by first | rfl | assumption) (by first | exact nmn | assumption | simp)) hq) | (go_simp; first | (go_at_call 16; exact quietG hq (ref28_At_val _ _ _ _ _ _ _ _ _ _ _ _ _ _ rfl)) | (go_at_call 12; exact quietG hq (HQ2.out _ hq.below)) | (with_reducible rfl)))
         simp only [Act.put, List.setIfInBounds_toArray, List.set_cons_zero, List.set_cons_succ])
      | (refine quiet_no rfl rfl rfl (by simp only [List.getElem?_toArray, List.getElem?_cons_succ, List.getElem?_cons_zero]; rfl) (by with_reducible constructor) ?_; simp only [Act.put, List.setIfInBounds_toArray, List.set_cons_zero, List.set_cons_succ]))
  refine wpQuiet_nil ?_
  clear hS
  intro ww hS
  go_wp2_with (first | (refine own_unguard (by rfl) ?_) | (refine w_ld rfl _ rfl (by rfl) (by first | exact rd_1 (by repeat constructor) (by first | rfl | assumption) | exact rd_w (by repeat constructor) (by rfl) | exact rd_o (by assumption) (by rfl) (by first | exact nmn | assumption | simp) | exact rd_h (by assumption) (by rfl) (by first | exact nmn | assumption | simp) | exact rd_1o (by assumption) (by first | exact nmn | assumption | simp) | exact rd_1h (by assumption) (by first | rfl | assumption) (by first | exact nmn | assumption | simp)) hS ?_) | (refine own_box rfl _ _ rfl (by rfl) hS ?_; clear hS; (try clear ww); intro bb ww hS) | (refine w_al rfl rfl hS ?_; clear hS; (try clear ww); intro bb ww hS) | (refine w_st rfl _ _ rfl (by rfl) (by rfl) (by repeat constructor) (by rfl) (by rfl) (by first | rfl | assumption) hS ?_; clear hS; (try clear ww); intro ww hS) | (refine w_s1 rfl _ _ rfl (by rfl) (by repeat constructor) (by first | exact .c | exact .t rfl) (by rfl) (by repeat constructor) hS ?_; clear hS; (try clear ww); intro ww hS))
  rw [rounds_succ]
  go_upto_region 18 with (first | (refine own_unguard (by rfl) ?_) | (refine w_ld rfl _ rfl (by rfl) (by first | exact rd_1 (by repeat constructor) (by first | rfl | assumption) | exact rd_w (by repeat constructor) (by rfl) | exact rd_o (by assumption) (by rfl) (by first | exact nmn | assumption | simp) | exact rd_h (by assumption) (by rfl) (by first | exact nmn | assumption | simp) | exact rd_1o (by assumption) (by first | exact nmn | assumption | simp) | exact rd_1h (by assumption) (by first | rfl | assumption) (by first | exact nmn | assumption | simp)) hS ?_) | (refine own_box rfl _ _ rfl (by rfl) hS ?_; clear hS; (try clear ww); intro bb ww hS) | (refine w_al rfl rfl hS ?_; clear hS; (try clear ww); intro bb ww hS) | (refine w_st rfl _ _ rfl (by rfl) (by rfl) (by repeat constructor) (by rfl) (by rfl) (by first | rfl | assumption) hS ?_; clear hS; (try clear ww); intro ww hS) | (refine w_s1 rfl _ _ rfl (by rfl) (by repeat constructor) (by first | exact .c | exact .t rfl) (by rfl) (by repeat constructor) hS ?_; clear hS; (try clear ww); intro ww hS))
  (try simp only [Act.put]); (try simp only [List.setIfInBounds_toArray]); (try simp only [List.set_cons_succ]); (try simp only [List.set_cons_zero])
  refine own_region hS (by kernel_rfl) (by kernel_rfl) ?_
  (try simp only [List.append])
  (try simp only); (try simp only [List.drop_succ_cons]); (try simp only [List.drop_zero]); (try simp only [List.take_succ_cons]); (try simp only [List.take_zero])
  repeat (first
      | (first | (refine quiet_plain rfl ?_) | (refine quiet_yes rfl rfl rfl (by simp only [List.getElem?_toArray, List.getElem?_cons_succ, List.getElem?_cons_zero]; rfl) (by with_reducible constructor) ?_)
         apply Exists.intro; refine ⟨?_, ?_⟩
         focus (intro wq hq0; have hq : Own _ _ _ wq := hq0; first | (exact quietAt_rd rfl (by rfl) (by first | exact rd_1 (by repeat constructor) (by first | rfl | assumption) | exact rd_w (by repeat constructor) (by rfl) | exact rd_o (by assumption) (by rfl) (by first | exact nmn | assumption | simp) | exact rd_h (by assumption) (by rfl) (by first | exact nmn | assumption | simp) | exact rd_1o (by assumption) (by first | exact nmn | assumption | simp) | exact rd_1h (by assumption) (by first | rfl | assumption) (by first | exact nmn | assumption | simp)) hq) | (go_simp; first | (with_reducible rfl)))
         simp only [Act.put, List.setIfInBounds_toArray, List.set_cons_zero, List.set_cons_succ])
      | (refine quiet_no rfl rfl rfl (by simp only [List.getElem?_toArray, List.getElem?_cons_succ, List.getElem?_cons_zero]; rfl) (by with_reducible constructor) ?_; simp only [Act.put, List.setIfInBounds_toArray, List.set_cons_zero, List.set_cons_succ]))
  refine wpQuiet_nil ?_
  clear hS
  intro ww hS
  go_wp2_with (first | (refine own_unguard (by rfl) ?_) | (refine w_ld rfl _ rfl (by rfl) (by first | exact rd_1 (by repeat constructor) (by first | rfl | assumption) | exact rd_w (by repeat constructor) (by rfl) | exact rd_o (by assumption) (by rfl) (by first | exact nmn | assumption | simp) | exact rd_h (by assumption) (by rfl) (by first | exact nmn | assumption | simp) | exact rd_1o (by assumption) (by first | exact nmn | assumption | simp) | exact rd_1h (by assumption) (by first | rfl | assumption) (by first | exact nmn | assumption | simp)) hS ?_) | (refine own_box rfl _ _ rfl (by rfl) hS ?_; clear hS; (try clear ww); intro bb ww hS) | (refine w_al rfl rfl hS ?_; clear hS; (try clear ww); intro bb ww hS) | (refine w_st rfl _ _ rfl (by rfl) (by rfl) (by repeat constructor) (by rfl) (by rfl) (by first | rfl | assumption) hS ?_; clear hS; (try clear ww); intro ww hS) | (refine w_s1 rfl _ _ rfl (by rfl) (by repeat constructor) (by first | exact .c | exact .t rfl) (by rfl) (by repeat constructor) hS ?_; clear hS; (try clear ww); intro ww hS))
  go_ret
  exact ⟨rfl, bthen HB11.out hS.below⟩

end Go.Proofs.Ytdbcdjiclkmknaa
