/- Chapter 32, FractionKeeps: the law returns true. -/
import Derived.Test.YtfmoghkffffmmaaK14
import Derived.Test.YtfmoghkffffmmaaK15
namespace Go.Proofs.Ytfmoghkffffmmaa
open Go.RowKit

attribute [local irreducible] wpQuiet wpG wpP wpK wpList Code.wp Calls

set_option maxHeartbeats 8000000 in
set_option maxRecDepth 100000 in
theorem fractionKeeps_bad (F : Fnt) (l : Int) (c : Bool) (n : Nat) (num den : Bx (n + 1)) (cs ds : List Value) (w : World) (hF : FntOk w F) (hr : Rep w (n + 1) num cs) (hs : Rep w (n + 1) den ds) (hb : ¬ MadeOk F l n num den) : Calls Try.prog 8 #[.agg (caseL F l c cs ds).toArray] w (Gives (.bool true) w) := by
  have HM := Lib.hid (fun w' (h : Below w.heap.size w w') => made32_bad F l c n num den cs ds w' (hF.below h) (hr.step h) (hs.step h) 0 hb)
  have h11 := hr.len
  have h12 := hs.len
  obtain ⟨c0, c1, c2, c3, c4, c5, c6, c7, c8, c9, c10, rfl⟩ := eleven h11
  obtain ⟨d0, d1, d2, d3, d4, d5, d6, d7, d8, d9, d10, rfl⟩ := eleven h12
  clear hF hr hs h11 h12 hb
  go_enter Try.func8, Try.ntmps8
  have hS := own_start w
  go_wp2_with (first | (refine own_unguard (by rfl) ?_) | (refine own_box rfl _ _ rfl rfl hS ?_; clear hS; intro kb w0 hS0; have hB0 := hS0.below; have hrC := has_range (hS0.get at0); have hrF : w0.rangeAt kb 0 F.cells := fun j v hj => hrC j v (case_f (F := F) (l := l) (c := c) (cs := [c0, c1, c2, c3, c4, c5, c6, c7, c8, c9, c10]) (ds := [d0, d1, d2, d3, d4, d5, d6, d7, d8, d9, d10]) hj); have hrS : w0.rangeAt kb 22 [.int .i64 l, .bool c] := fun j v hj => (case_off hrC (case_s (F := F) (l := l) (c := c) (cs := [c0, c1, c2, c3, c4, c5, c6, c7, c8, c9, c10]) (ds := [d0, d1, d2, d3, d4, d5, d6, d7, d8, d9, d10]) hj)); have hrN : w0.rangeAt kb 24 [c0, c1, c2, c3, c4, c5, c6, c7, c8, c9, c10] := fun j v hj => (case_off hrC (case_n (F := F) (l := l) (c := c) (ds := [d0, d1, d2, d3, d4, d5, d6, d7, d8, d9, d10]) hj)); have hrD : w0.rangeAt kb 35 [d0, d1, d2, d3, d4, d5, d6, d7, d8, d9, d10] := fun j v hj => (case_off hrC (case_d (F := F) (l := l) (c := c) hj)); have hS := own_start w0; clear hS0) | (refine own_load_old rfl _ _ rfl rfl hS hrC List.not_mem_nil rt_case ?_) | (refine own_load_old rfl _ _ rfl rfl hS hrF List.not_mem_nil rt_font ?_) | (refine own_load_old rfl _ _ rfl rfl hS hrS List.not_mem_nil rt_style ?_) | (refine own_load_old rfl _ _ rfl rfl hS hrN List.not_mem_nil rt_box ?_) | (refine own_load_old rfl _ _ rfl rfl hS hrD List.not_mem_nil rt_box ?_) | (go_at_call 9; refine own_calls hS (awake32_calls _) ?_; clear hS; (try clear ww); intro ww hS) | (go_at_call 14; refine Calls.mono (HM.out _ (bthen hB0 hS.below)) ?_; rintro e w1 ⟨cs1, rfl, hR1, hb1⟩; have hB1 := bthen hB0 (bthen hS.below hb1); obtain ⟨kx, kc, sx, sc, rfl⟩ := zero_out hR1; clear hR1 hS hb1; have hS := own_start w1) | (refine w_ld rfl _ rfl (by rfl) (by first | exact rd_1 (by repeat constructor) (by first | rfl | assumption) | exact rd_w (by repeat constructor) (by rfl) | exact rd_o (by assumption) (by rfl) (by first | exact nmn | assumption | simp) | exact rd_h (by assumption) (by rfl) (by first | exact nmn | assumption | simp) | exact rd_1o (by assumption) (by first | exact nmn | assumption | simp) | exact rd_1h (by assumption) (by first | rfl | assumption) (by first | exact nmn | assumption | simp)) hS ?_) | (refine own_box rfl _ _ rfl (by rfl) hS ?_; clear hS; (try clear ww); intro bb ww hS) | (refine w_al rfl rfl hS ?_; clear hS; (try clear ww); intro bb ww hS) | (refine w_st rfl _ _ rfl (by rfl) (by rfl) (by repeat constructor) (by rfl) (by rfl) (by first | rfl | assumption) hS ?_; clear hS; (try clear ww); intro ww hS) | (refine w_s1 rfl _ _ rfl (by rfl) (by repeat constructor) (by first | exact .c | exact .t rfl) (by rfl) (by repeat constructor) hS ?_; clear hS; (try clear ww); intro ww hS))
  go_ret
  exact ⟨rfl, bthen hB1 hS.below⟩

set_option maxHeartbeats 16000000 in
set_option maxRecDepth 100000 in
theorem fractionKeeps_good (F : Fnt) (l : Int) (c : Bool) (n : Nat) (num den : Bx (n + 1)) (cs ds : List Value) (w : World) (hF : FntOk w F) (hr : Rep w (n + 1) num cs) (hs : Rep w (n + 1) den ds) (h : MadeOk F l n num den) : Calls Try.prog 8 #[.agg (caseL F l c cs ds).toArray] w (Gives (.bool true) w) := by
  have HM := Lib.hid (fun w' (hb : Below w.heap.size w w') => made32_yes F l c n num den cs ds w' (hF.below hb) (hr.step hb) (hs.step hb) h.1 h.2.1 h.2.2.1 h.2.2.2.1 h.2.2.2.2)
  have HRn := Lib.hid hr
  have HRd := Lib.hid hs
  have HSn := Lib.hid (validB_small h.2.2.2.1.2.2.1).1
  have HSd := Lib.hid (validB_small h.2.2.2.1.2.2.2).1
  have HVR := Lib.hid h.2.2.2.2
  obtain ⟨⟨nk, nn, nsz, nw, nh, nd, nx, ny, nof, nsrc⟩, nkids⟩ := num
  obtain ⟨⟨dk, dn, dsz, dw, dh, dd, dx, dy, dof, dsrc⟩, dkids⟩ := den
  unfold fracB at HM HVR
  simp only at HM HVR
  generalize fracUpY F l nd = U at *
  generalize -fracDnY F l dh = V at *
  generalize max (U + nh) (fracY F l + par F l F.rule) = H at *
  generalize max (dd + fracDnY F l dh) (-fracY F l) = E at *
  generalize par F l F.rule = r at *
  generalize fracY F l = y at *
  generalize hlf (fracW nw dw - nw) = xn at *
  generalize hlf (fracW nw dw - dw) = xd at *
  generalize fracW nw dw = W at *
  have h11 := hr.len
  have h12 := hs.len
  obtain ⟨_, _, _, _, rfl⟩ := kid_out hr
  obtain ⟨_, _, _, _, rfl⟩ := kid_out hs
  rename_i kxn kcn sxn scn kxd kcd sxd scd
  obtain ⟨k8, h8⟩ : ∃ v, Value.slice kxn nkids.length kcn = v := ⟨_, rfl⟩
  obtain ⟨k10, h10⟩ : ∃ v, Value.slice sxn nsrc.length scn = v := ⟨_, rfl⟩
  obtain ⟨m8, g8⟩ : ∃ v, Value.slice kxd dkids.length kcd = v := ⟨_, rfl⟩
  obtain ⟨m10, g10⟩ : ∃ v, Value.slice sxd dsrc.length scd = v := ⟨_, rfl⟩
  have ok8 : k8.oneCell' = true := by rw [← h8]; rfl
  have ok10 : k10.oneCell' = true := by rw [← h10]; rfl
  have om8 : m8.oneCell' = true := by rw [← g8]; rfl
  have om10 : m10.oneCell' = true := by rw [← g10]; rfl
  rw [h8, h10] at HRn HM
  rw [g8, g10] at HRd HM
  rw [h8, h10, g8, g10]
  clear hF hr hs h11 h12 h h8 h10 g8 g10
  go_enter Try.func8, Try.ntmps8
  have hS := own_start w
  go_upto_region 6 with (first | (refine own_unguard (by rfl) ?_) | (refine own_box rfl _ _ rfl rfl hS ?_; clear hS; intro kb w0 hS0; have hB0 := hS0.below; have hrC := has_range (hS0.get at0); have hrF : w0.rangeAt kb 0 F.cells := fun j v hj => hrC j v (case_f (F := F) (l := l) (c := c) (cs := [.int .i64 nk, .string nn, .int .i64 nsz, .int .i64 nw, .int .i64 nh, .int .i64 nd, .int .i64 nx, .int .i64 ny, k8, .int .i64 nof, k10]) (ds := [.int .i64 dk, .string dn, .int .i64 dsz, .int .i64 dw, .int .i64 dh, .int .i64 dd, .int .i64 dx, .int .i64 dy, m8, .int .i64 dof, m10]) hj); have hrS : w0.rangeAt kb 22 [.int .i64 l, .bool c] := fun j v hj => (case_off hrC (case_s (F := F) (l := l) (c := c) (cs := [.int .i64 nk, .string nn, .int .i64 nsz, .int .i64 nw, .int .i64 nh, .int .i64 nd, .int .i64 nx, .int .i64 ny, k8, .int .i64 nof, k10]) (ds := [.int .i64 dk, .string dn, .int .i64 dsz, .int .i64 dw, .int .i64 dh, .int .i64 dd, .int .i64 dx, .int .i64 dy, m8, .int .i64 dof, m10]) hj)); have hrN : w0.rangeAt kb 24 [.int .i64 nk, .string nn, .int .i64 nsz, .int .i64 nw, .int .i64 nh, .int .i64 nd, .int .i64 nx, .int .i64 ny, k8, .int .i64 nof, k10] := fun j v hj => (case_off hrC (case_n (F := F) (l := l) (c := c) (ds := [.int .i64 dk, .string dn, .int .i64 dsz, .int .i64 dw, .int .i64 dh, .int .i64 dd, .int .i64 dx, .int .i64 dy, m8, .int .i64 dof, m10]) hj)); have hrD : w0.rangeAt kb 35 [.int .i64 dk, .string dn, .int .i64 dsz, .int .i64 dw, .int .i64 dh, .int .i64 dd, .int .i64 dx, .int .i64 dy, m8, .int .i64 dof, m10] := fun j v hj => (case_off hrC (case_d (F := F) (l := l) (c := c) hj)); have hS := own_start w0; clear hS0) | (refine own_load_old rfl _ _ rfl rfl hS hrC List.not_mem_nil rt_case ?_) | (refine own_load_old rfl _ _ rfl rfl hS hrF List.not_mem_nil rt_font ?_) | (refine own_load_old rfl _ _ rfl rfl hS hrS List.not_mem_nil rt_style ?_) | (refine own_load_old rfl _ _ rfl rfl hS hrN List.not_mem_nil rt_box ?_) | (refine own_load_old rfl _ _ rfl rfl hS hrD List.not_mem_nil rt_box ?_) | (go_at_call 9; refine own_calls hS (awake32_calls _) ?_; clear hS; (try clear ww); intro ww hS) | (go_at_call 14; refine Calls.mono (HM.out _ (bthen hB0 hS.below)) ?_; rintro e w1 ⟨cs1, rfl, hR1, hb1⟩; have hrF1 := rangeAt_below (hS.range List.not_mem_nil hrF) hb1; have hrS1 := rangeAt_below (hS.range List.not_mem_nil hrS) hb1; have hrN1 := rangeAt_below (hS.range List.not_mem_nil hrN) hb1; have hrD1 := rangeAt_below (hS.range List.not_mem_nil hrD) hb1; have hB1 := bthen hB0 (bthen hS.below hb1); obtain ⟨k, o, kc, sx, sc, q0, q1, q2, rfl, hk0, hk1, hk2, hp0, hp1, hp2⟩ := three_out hR1; obtain ⟨kx0, kc0, sx0, sc0, rfl, hE0⟩ := rep_place HRn.out hp0; have HE0 := Lib.hid hE0; obtain ⟨kx1, kc1, sx1, sc1, rfl⟩ := rule_out hp1; obtain ⟨kx2, kc2, sx2, sc2, rfl, hE2⟩ := rep_place HRd.out hp2; have HE2 := Lib.hid hE2; have HR1 := Lib.hid hR1; clear hE0 hE2 hR1 hS hb1 hp0 hp1 hp2; have hS := own_start w1) | (refine w_ld rfl _ rfl (by rfl) (by first | exact rd_1 (by repeat constructor) (by first | rfl | assumption) | exact rd_w (by repeat constructor) (by rfl) | exact rd_o (by assumption) (by rfl) (by first | exact nmn | assumption | simp) | exact rd_h (by assumption) (by rfl) (by first | exact nmn | assumption | simp) | exact rd_1o (by assumption) (by first | exact nmn | assumption | simp) | exact rd_1h (by assumption) (by first | rfl | assumption) (by first | exact nmn | assumption | simp)) hS ?_) | (refine own_box rfl _ _ rfl (by rfl) hS ?_; clear hS; (try clear ww); intro bb ww hS) | (refine w_al rfl rfl hS ?_; clear hS; (try clear ww); intro bb ww hS) | (refine w_st rfl _ _ rfl (by rfl) (by rfl) (by repeat constructor) (by rfl) (by rfl) (by first | rfl | assumption) hS ?_; clear hS; (try clear ww); intro ww hS) | (refine w_s1 rfl _ _ rfl (by rfl) (by repeat constructor) (by first | exact .c | exact .t rfl) (by rfl) (by repeat constructor) hS ?_; clear hS; (try clear ww); intro ww hS))
  (try simp only [Act.put]); (try simp only [List.setIfInBounds_toArray]); (try simp only [List.set_cons_succ]); (try simp only [List.set_cons_zero])
  have hk0r := hS.range List.not_mem_nil hk0
  have hk0n := hS.oldOff (range_lt hk0)
  have hk2r := hS.range List.not_mem_nil hk2
  have hk2n := hS.oldOff (range_lt hk2)
  have HS0 := Lib.hid hS
  obtain ⟨DD, HDD, hS⟩ := hS.rebaseN
  rw [← HDD.out] at hk0n
  rw [← HDD.out] at hk2n
  have HSw := Lib.hid hS
  refine own_anyM hS [10, 11] [] 12 (by kernel_rfl) (by kernel_rfl) ?_
  clear hS
  intro hcl ww hS _
  refine own_batchN HSw.out [0, 1, 2, 3, 4, 5, 6, 7] 4 rfl hS hcl (by kernel_rfl) ?_
  (try simp only); repeat (first | (simp only [List.filterMap_cons]) | (simp only [List.filterMap_nil]) | (simp only [List.getElem?_toArray]) | (simp only [List.getElem?_cons_succ]) | (simp only [List.getElem?_cons_zero]) | (simp only [List.reverse_cons]) | (simp only [List.reverse_nil]) | (simp only [List.nil_append]) | (simp only [List.cons_append]))
  repeat (first
      | (first | (refine g_plain rfl ?_) | (refine g_yes rfl rfl rfl (by simp only [List.getElem?_toArray, List.getElem?_cons_succ, List.getElem?_cons_zero]; rfl) (by with_reducible constructor) ?_)
         apply Exists.intro; refine ⟨?_, ?_⟩
         focus (intro wq hq0; (first | have hq : Own _ _ _ wq := hq0 | have hq : Own _ _ _ wq := hq0.1 | skip); first | ((with_reducible show givesAt _ ({ dst := _, op := Op.load _ _, type := _, pos := _, after := _, guard := _ } : Oper) _ _ _); first | (exact givesAt_rd rfl (by rfl) (by first | exact rd_1 (by repeat constructor) (by first | rfl | assumption) | exact rd_w (by repeat constructor) (by rfl) | exact rd_o (by assumption) (by rfl) (by first | exact nmn | assumption | simp) | exact rd_h (by assumption) (by rfl) (by first | exact nmn | assumption | simp) | exact rd_1o (by assumption) (by first | exact nmn | assumption | simp) | exact rd_1h (by assumption) (by first | rfl | assumption) (by first | exact nmn | assumption | simp)) hq)) | (go_simp; first | (with_reducible rfl)))
         simp only [Act.put, List.setIfInBounds_toArray]; (try simp only [List.set_cons_succ]); (try simp only [List.set_cons_zero]))
      | (refine g_no rfl rfl rfl (by simp only [List.getElem?_toArray, List.getElem?_cons_succ, List.getElem?_cons_zero]; rfl) (by with_reducible constructor) ?_; simp only [Act.put, List.setIfInBounds_toArray]; (try simp only [List.set_cons_succ]); (try simp only [List.set_cons_zero])))
  refine g_nil ?_
  clear hS hcl
  intro hcl ww hS
  (try simp only [Act.put]); (try simp only [List.setIfInBounds_toArray]); (try simp only [List.set_cons_succ]); (try simp only [List.set_cons_zero])
  refine own_frees hS [(8, 5, [.int .i64 0, .string ⟨#[]⟩, .int .i64 0, .int .i64 0, .int .i64 0, .int .i64 0, .int .i64 0, .int .i64 0, .slice none 0 0, .int .i64 0, .slice none 0 0]), (9, 6, [.int .i64 0, .string ⟨#[]⟩, .int .i64 0, .int .i64 0, .int .i64 0, .int .i64 0, .int .i64 0, .int .i64 0, .slice none 0 0, .int .i64 0, .slice none 0 0])] 2 rfl (.cons (by simp only [List.getElem?_toArray, List.getElem?_cons_succ, List.getElem?_cons_zero]; rfl) rfl rfl rfl zt_box (.cons (by simp only [List.getElem?_toArray, List.getElem?_cons_succ, List.getElem?_cons_zero]; rfl) rfl rfl rfl zt_box .nil)) hcl (by kernel_rfl) ?_
  clear hS hcl
  intro f wf hcl hS
  have hK := hS.newer (by rw [HDD.out]; exact fun _ h => h)
  simp only [putF, ownF, List.map_cons, List.map_nil, List.foldr_cons, List.foldr_nil, List.cons_append, List.nil_append] at hS hcl hK ⊢
  generalize f 8 = b5 at *
  generalize f 9 = b6 at *
  have hb5 := hK _ (.head _)
  have hb6 := hK _ (.tail _ (.head _))
  clear hK
  (try simp only [Act.put]); (try simp only [List.setIfInBounds_toArray]); (try simp only [List.set_cons_succ]); (try simp only [List.set_cons_zero])
  refine own_mid (K := [(_, _), (_, _)]) (L := [(_, _)]) hS (fun x hx => by simp only [List.mem_cons, List.not_mem_nil, or_false] at hx; rcases hx with rfl | rfl <;> assumption) 10 hcl (by simp only [List.getElem?_toArray, List.getElem?_cons_succ, List.getElem?_cons_zero]; rfl) (by kernel_rfl) ?_
  clear hS
  intro hS
  (refine w_st rfl _ _ rfl (by rfl) (by rfl) (by repeat constructor) (by rfl) (by rfl) (by first | rfl | assumption) hS ?_; clear hS; intro ww hS)
  refine wpList_nil ⟨rfl, _, hS, ?_⟩
  clear hS hcl
  intro hcl wf hS
  simp only [List.cons_append, List.nil_append] at hS
  (try simp only [Act.put]); (try simp only [List.setIfInBounds_toArray]); (try simp only [List.set_cons_succ]); (try simp only [List.set_cons_zero])
  refine own_mid (K := [(_, _), (_, _)]) (L := [(_, _)]) hS (fun x hx => by simp only [List.mem_cons, List.not_mem_nil, or_false] at hx; rcases hx with rfl | rfl <;> assumption) 11 hcl (by simp only [List.getElem?_toArray, List.getElem?_cons_succ, List.getElem?_cons_zero]; rfl) (by kernel_rfl) ?_
  clear hS
  intro hS
  (refine w_st rfl _ _ rfl (by rfl) (by rfl) (by repeat constructor) (by rfl) (by rfl) (by first | rfl | assumption) hS ?_; clear hS; intro ww hS)
  refine wpList_nil ⟨rfl, _, hS, ?_⟩
  clear hS hcl
  intro hcl wf hS
  simp only [List.cons_append, List.nil_append] at hS
  (try simp only [Act.put]); (try simp only [List.setIfInBounds_toArray]); (try simp only [List.set_cons_succ]); (try simp only [List.set_cons_zero])
  refine own_done (by kernel_rfl) ?_
  clear hk0r hk0n hk2r hk2n hb5 hb6 HSw
  obtain rfl := HDD.out
  have hS1 := HS0.out.chain hS
  clear hS HDD HS0
  have hS := hS1
  clear hS1
  have HV := Lib.hid (fun w' (hb : Below w1.heap.size w1 w') => box_Valid_calls (n + 2) _ _ w' (HR1.out.step hb) HR1.out.wide _ (iff_t HVR.out))
  have HQn := Lib.hid (fun w' (hb : Below w1.heap.size w1 w') => ref28_Equal_calls (n + 1) _ _ _ w' (HE0.out.step hb) ((HRn.out.step hB1).step hb) HSn.out)
  have HQd := Lib.hid (fun w' (hb : Below w1.heap.size w1 w') => ref28_Equal_calls (n + 1) _ _ _ w' (HE2.out.step hb) ((HRd.out.step hB1).step hb) HSd.out)
  have e0 : w1.cell? ⟨kb, 24 + 6, none⟩ = some (.int .i64 nx) := hrN1 6 _ rfl
  have e1 : w1.cell? ⟨kb, 24 + 7, none⟩ = some (.int .i64 ny) := hrN1 7 _ rfl
  have e2 : w1.cell? ⟨kb, 35 + 6, none⟩ = some (.int .i64 dx) := hrD1 6 _ rfl
  have e3 : w1.cell? ⟨kb, 35 + 7, none⟩ = some (.int .i64 dy) := hrD1 7 _ rfl
  go_upto_region 7 with (first | (refine own_unguard (by rfl) ?_) | (refine w_ld rfl _ rfl (by rfl) (by first | exact rd_1 (by repeat constructor) (by first | rfl | assumption) | exact rd_w (by repeat constructor) (by rfl) | exact rd_o (by assumption) (by rfl) (by first | exact nmn | assumption | simp) | exact rd_h (by assumption) (by rfl) (by first | exact nmn | assumption | simp) | exact rd_1o (by assumption) (by first | exact nmn | assumption | simp) | exact rd_1h (by assumption) (by first | rfl | assumption) (by first | exact nmn | assumption | simp)) hS ?_) | (refine own_box rfl _ _ rfl (by rfl) hS ?_; clear hS; (try clear ww); intro bb ww hS) | (refine w_al rfl rfl hS ?_; clear hS; (try clear ww); intro bb ww hS) | (refine w_st rfl _ _ rfl (by rfl) (by rfl) (by repeat constructor) (by rfl) (by rfl) (by first | rfl | assumption) hS ?_; clear hS; (try clear ww); intro ww hS) | (refine w_s1 rfl _ _ rfl (by rfl) (by repeat constructor) (by first | exact .c | exact .t rfl) (by rfl) (by repeat constructor) hS ?_; clear hS; (try clear ww); intro ww hS))
  (try simp only [Act.put]); (try simp only [List.setIfInBounds_toArray]); (try simp only [List.set_cons_succ]); (try simp only [List.set_cons_zero])
  refine own_region hS (by kernel_rfl) (by kernel_rfl) ?_
  (try simp only); (try simp only [List.drop_succ_cons]); (try simp only [List.drop_zero]); (try simp only [List.take_succ_cons]); (try simp only [List.take_zero])
  repeat (first
      | (first | (refine quiet_plain rfl ?_) | (refine quiet_yes rfl rfl rfl (by simp only [List.getElem?_toArray, List.getElem?_cons_succ, List.getElem?_cons_zero]; rfl) (by with_reducible constructor) ?_)
         apply Exists.intro; refine ⟨?_, ?_⟩
         focus (intro wq hq0; have hq : Own _ _ _ wq := hq0; first | (exact quietAt_rd rfl (by rfl) (by first | exact rd_1 (by repeat constructor) (by first | rfl | assumption) | exact rd_w (by repeat constructor) (by rfl) | exact rd_o (by assumption) (by rfl) (by first | exact nmn | assumption | simp) | exact rd_h (by assumption) (by rfl) (by first | exact nmn | assumption | simp) | exact rd_1o (by assumption) (by first | exact nmn | assumption | simp) | exact rd_1h (by assumption) (by first | rfl | assumption) (by first | exact nmn | assumption | simp)) hq) | (go_simp; first | (go_at_call 17; exact quietG hq (HV.out _ hq.below)) | (go_at_call 18; exact quietG hq (ref28_At_val _ _ _ _ _ _ _ _ _ _ _ _ _ _ rfl)) | (go_at_call 13; exact quietG hq (HQn.out _ hq.below)) | (go_at_call 13; exact quietG hq (HQd.out _ hq.below)) | (with_reducible rfl)))
         simp only [Act.put, List.setIfInBounds_toArray, List.set_cons_zero, List.set_cons_succ])
      | (refine quiet_no rfl rfl rfl (by simp only [List.getElem?_toArray, List.getElem?_cons_succ, List.getElem?_cons_zero]; rfl) (by with_reducible constructor) ?_; simp only [Act.put, List.setIfInBounds_toArray, List.set_cons_zero, List.set_cons_succ]))
  refine wpQuiet_nil ?_
  clear hS
  intro ww hS
  go_wp2_with (first | (refine own_unguard (by rfl) ?_) | (refine w_ld rfl _ rfl (by rfl) (by first | exact rd_1 (by repeat constructor) (by first | rfl | assumption) | exact rd_w (by repeat constructor) (by rfl) | exact rd_o (by assumption) (by rfl) (by first | exact nmn | assumption | simp) | exact rd_h (by assumption) (by rfl) (by first | exact nmn | assumption | simp) | exact rd_1o (by assumption) (by first | exact nmn | assumption | simp) | exact rd_1h (by assumption) (by first | rfl | assumption) (by first | exact nmn | assumption | simp)) hS ?_) | (refine own_box rfl _ _ rfl (by rfl) hS ?_; clear hS; (try clear ww); intro bb ww hS) | (refine w_al rfl rfl hS ?_; clear hS; (try clear ww); intro bb ww hS) | (refine w_st rfl _ _ rfl (by rfl) (by rfl) (by repeat constructor) (by rfl) (by rfl) (by first | rfl | assumption) hS ?_; clear hS; (try clear ww); intro ww hS) | (refine w_s1 rfl _ _ rfl (by rfl) (by repeat constructor) (by first | exact .c | exact .t rfl) (by rfl) (by repeat constructor) hS ?_; clear hS; (try clear ww); intro ww hS))
  go_ret
  exact ⟨rfl, bthen hB1 hS.below⟩

theorem fractionKeeps_calls (F : Fnt) (l : Int) (c : Bool) (n : Nat) (num den : Bx (n + 1)) (cs ds : List Value) (w : World) (hF : FntOk w F) (hr : Rep w (n + 1) num cs) (hs : Rep w (n + 1) den ds) : Calls Try.prog 8 #[.agg (caseL F l c cs ds).toArray] w (Gives (.bool true) w) := by
  by_cases h : MadeOk F l n num den
  · exact fractionKeeps_good F l c n num den cs ds w hF hr hs h
  · exact fractionKeeps_bad F l c n num den cs ds w hF hr hs h

end Go.Proofs.Ytfmoghkffffmmaa
