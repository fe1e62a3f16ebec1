/- Chapter 36, AccentAttached: the law returns true. -/
import Derived.Test.YtceigjonhabmmaaLw6
namespace Go.Proofs.Ytceigjonhabmmaa
open Go.RowKit

attribute [local irreducible] wpQuiet wpG wpP wpK wpList Code.wp Calls

set_option maxHeartbeats 8000000 in
set_option maxRecDepth 100000 in
theorem accentAttached_bad (F : Fnt) (l : Int) (c : Bool) (s : ByteArray) (n : Nat) (body : Bx (n + 1)) (cs : List Value) (w : World) (hF : FntOk w F) (hr : Rep w (n + 1) body cs) (hb : ¬ MadeA F l n s body) : Calls Try.prog 5 #[.agg (caseA F l c s cs).toArray] w (Gives (.bool true) w) := by
  have HM := Lib.hid (fun w' (h : Below w.heap.size w w') => made36_bad F l c s n body cs w' (hF.below h) (hr.step h) 0 hb)
  obtain ⟨c0, c1, c2, c3, c4, c5, c6, c7, c8, c9, c10, rfl⟩ := eleven hr.len
  clear hF hr hb
  go_enter Try.func5, Try.ntmps5
  have hS := own_start w
  go_wp2_with (first | (refine own_unguard (by rfl) ?_) | (refine own_box rfl _ _ rfl rfl hS ?_; clear hS; intro kb w0 hS0; have hrC := (hS0.get at0).range; have HB0 := Lib.hid hS0.below; obtain ⟨hrF, hrS, cN, hrB⟩ := caseA_out hrC; have hS := own_start w0; clear hS0) | (refine own_load_old rfl _ _ rfl rfl hS hrC List.not_mem_nil rt_case36 ?_) | (refine own_load_old rfl _ _ rfl rfl hS hrF List.not_mem_nil rt_font ?_) | (refine own_load_old rfl _ _ rfl rfl hS hrS List.not_mem_nil rt_style ?_) | (refine own_load_old rfl _ _ rfl rfl hS hrB List.not_mem_nil rt_box ?_) | (go_at_call 8; refine own_calls hS (by first | exact awake36_calls _) ?_; clear hS; (try clear ww); intro ww hS) | (go_at_call 19; refine Calls.mono (HM.out _ (bthen HB0.out hS.below)) ?_; rintro e w1 ⟨cs1, rfl, hR1, hb1⟩; have HB1 := Lib.hid (bthen HB0.out (bthen hS.below hb1)); obtain ⟨kx, kc, sx, sc, rfl⟩ := zero_out hR1; clear hR1 hS hb1; have hS := own_start w1) | (refine w_ld rfl _ rfl (by rfl) (by first | exact rd_1 (by repeat constructor) (by first | rfl | assumption) | exact rd_w (by repeat constructor) (by rfl) | exact rd_o (by assumption) (by rfl) (by first | exact nmn | assumption | simp) | exact rd_h (by assumption) (by rfl) (by first | exact nmn | assumption | simp) | exact rd_1o (by assumption) (by first | exact nmn | assumption | simp) | exact rd_1h (by assumption) (by first | rfl | assumption) (by first | exact nmn | assumption | simp)) hS ?_) | (refine own_box rfl _ _ rfl (by rfl) hS ?_; clear hS; (try clear ww); intro bb ww hS) | (refine w_al rfl rfl hS ?_; clear hS; (try clear ww); intro bb ww hS) | (refine w_st rfl _ _ rfl (by rfl) (by rfl) (by repeat constructor) (by rfl) (by rfl) (by first | rfl | assumption) hS ?_; clear hS; (try clear ww); intro ww hS) | (refine w_s1 rfl _ _ rfl (by rfl) (by repeat constructor) (by first | exact .c | exact .t rfl) (by rfl) (by repeat constructor) hS ?_; clear hS; (try clear ww); intro ww hS))
  go_ret
  exact ⟨rfl, bthen HB1.out hS.below⟩

set_option maxHeartbeats 16000000 in
set_option maxRecDepth 100000 in
theorem accentAttached_good (F : Fnt) (l : Int) (c : Bool) (s : ByteArray) (n : Nat) (body : Bx (n + 1)) (cs : List Value) (w : World) (hF : FntOk w F) (hr : Rep w (n + 1) body cs) (h : MadeA F l n s body) : Calls Try.prog 5 #[.agg (caseA F l c s cs).toArray] w (Gives (.bool true) w) := by
  have hnum := acc_nums h.2.2.1
  have ho := h.2.2.1
  have HM := Lib.hid (fun w' (hb : Below w.heap.size w w') => made36_ok F l c s n body cs w' (hF.below hb) (hr.step hb) h)
  have ba := attB_in ho.1 ho.2.2.1
  have bo_ := attG_in ho.1 s hnum.2.1
  have HOw := Lib.hid (fun w' (hb : Below w.heap.size w w') => ref36_Own_calls F l c s w' (hF.below hb) ho.2.1 ho.1)
  have HAt := Lib.hid (fun w' (hb : Below w.heap.size w w') => ref36_Attach_calls F n body cs w' (hF.below hb) (hr.step hb) ho.1 ho.2.2.1)
  have HRb := Lib.hid hr
  have HSb := Lib.hid (validB_small ho.2.2.1).1
  have hx : accX F l n s body = attB F n body - attG F s (sizeOf' F l) := rfl
  unfold accB at HM
  generalize max 0 (extL ((accK F l n s body).map (·.1))).r = E at *
  generalize (extL ((accK F l n s body).map (·.1))).h = H at *
  generalize (extL ((accK F l n s body).map (·.1))).d = D at *
  unfold accK accG at HM
  generalize accX F l n s body = x at *
  generalize attB F n body = a1 at *
  generalize attG F s (sizeOf' F l) = a2 at *
  generalize raiseI F l body.1.h = up at *
  generalize (scaledG (pickG F.gs s) (sizeOf' F l)).name = gn at *
  generalize boxW (scaledG (pickG F.gs s) (sizeOf' F l)) = gw at *
  generalize (scaledG (pickG F.gs s) (sizeOf' F l)).h = gh at *
  generalize (scaledG (pickG F.gs s) (sizeOf' F l)).d = gd at *
  generalize sizeOf' F l = p at *
  obtain ⟨r, hr_⟩ : ∃ r : Int, r = max 0 (-x) := ⟨_, rfl⟩
  rw [← hr_] at HM
  obtain ⟨xr, hxr⟩ : ∃ r' : Int, r' = x + r := ⟨_, rfl⟩
  rw [← hxr] at HM
  obtain ⟨Z, hZ⟩ : ∃ z : Int, z = r + a1 := ⟨_, rfl⟩
  have i1 : IntKind.i64.wrap (xr + a2) = Z := by rw [IntWalk.i64_in _ (by omega)]; omega
  have i2 : IntKind.i64.wrap (r + a1) = Z := by rw [hZ]; exact IntWalk.i64_in _ (by omega)
  have t0 : (Z == Z) = true := by simp
  have t1 : decide (0 ≤ xr) = true := decide_eq_true (by omega)
  have t2 : decide (0 ≤ r) = true := decide_eq_true (by omega)
  have m1 : ∀ (w : World) (ts : Array TypeId) (t : TypeId), (Builtin.min_ ts t #[.int .i64 xr, .int .i64 r]).run Try.prog w = .ok (.int .i64 0) w := fun w ts t => by rw [run_min_int2]; congr 2; split <;> omega
  obtain ⟨⟨bk, bn, bz, bw, bh, bd, bx, by_, bo, bs⟩, bks⟩ := body
  obtain ⟨kx0, kc0, tx0, tc0, rfl, _⟩ := rep_out hr
  obtain ⟨v8, hv8⟩ : ∃ v, Value.slice kx0 bks.length kc0 = v := ⟨_, rfl⟩
  obtain ⟨v10, hv10⟩ : ∃ v, Value.slice tx0 bs.length tc0 = v := ⟨_, rfl⟩
  have ov8 : v8.oneCell' = true := by rw [← hv8]; rfl
  have ov10 : v10.oneCell' = true := by rw [← hv10]; rfl
  rw [hv8, hv10] at HAt HM HRb
  rw [hv8, hv10]
  clear hF hr h ho hnum ba bo_ hx hr_ hxr hZ hv8 hv10
  go_enter Try.func5, Try.ntmps5
  have hS := own_start w
  go_upto_region 6 with (first | (refine own_unguard (by rfl) ?_) | (refine own_box rfl _ _ rfl rfl hS ?_; clear hS; intro kb w0 hS0; have hrC := (hS0.get at0).range; have HB0 := Lib.hid hS0.below; obtain ⟨hrF, hrS, cN, hrB⟩ := caseA_out hrC; have hS := own_start w0; clear hS0) | (refine own_load_old rfl _ _ rfl rfl hS hrC List.not_mem_nil rt_case36 ?_) | (refine own_load_old rfl _ _ rfl rfl hS hrF List.not_mem_nil rt_font ?_) | (refine own_load_old rfl _ _ rfl rfl hS hrS List.not_mem_nil rt_style ?_) | (refine own_load_old rfl _ _ rfl rfl hS hrB List.not_mem_nil rt_box ?_) | (go_at_call 8; refine own_calls hS (by first | exact awake36_calls _) ?_; clear hS; (try clear ww); intro ww hS) | (go_at_call 19; refine Calls.mono (HM.out _ (bthen HB0.out hS.below)) ?_; rintro e w1 ⟨cs1, rfl, hR1, hb1⟩; have hrF1 := rangeAt_below (hS.range List.not_mem_nil hrF) hb1; have hrS1 := rangeAt_below (hS.range List.not_mem_nil hrS) hb1; have hrB1 := rangeAt_below (hS.range List.not_mem_nil hrB) hb1; have cN1 := cell_below36 (hS.cell List.not_mem_nil cN) hb1; have hrC1 := rangeAt_below (hS.range List.not_mem_nil hrC) hb1; have HB1 := Lib.hid (bthen HB0.out (bthen hS.below hb1)); obtain ⟨k, o, kc, sx, sc, q0, q1, rfl, hk0, hk1, hp0, hp1⟩ := pair_out hR1; obtain ⟨kx0, kc0, sx0, sc0, rfl⟩ := gly_out hp0; obtain ⟨kx1, kc1, sx1, sc1, rfl, hE1⟩ := rep_place HRb.out hp1; have HE1 := Lib.hid hE1; clear hE1;  clear hR1 hS hb1 hp0 hp1 hrC hrF hrS hrB cN; have hS := own_start w1) | (refine w_ld rfl _ rfl (by rfl) (by first | exact rd_1 (by repeat constructor) (by first | rfl | assumption) | exact rd_w (by repeat constructor) (by rfl) | exact rd_o (by assumption) (by rfl) (by first | exact nmn | assumption | simp) | exact rd_h (by assumption) (by rfl) (by first | exact nmn | assumption | simp) | exact rd_1o (by assumption) (by first | exact nmn | assumption | simp) | exact rd_1h (by assumption) (by first | rfl | assumption) (by first | exact nmn | assumption | simp)) hS ?_) | (refine own_box rfl _ _ rfl (by rfl) hS ?_; clear hS; (try clear ww); intro bb ww hS) | (refine w_al rfl rfl hS ?_; clear hS; (try clear ww); intro bb ww hS) | (refine w_st rfl _ _ rfl (by rfl) (by rfl) (by repeat constructor) (by rfl) (by rfl) (by first | rfl | assumption) hS ?_; clear hS; (try clear ww); intro ww hS) | (refine w_s1 rfl _ _ rfl (by rfl) (by repeat constructor) (by first | exact .c | exact .t rfl) (by rfl) (by repeat constructor) hS ?_; clear hS; (try clear ww); intro ww hS))
  (try simp only [Act.put]); (try simp only [List.setIfInBounds_toArray]); (try simp only [List.set_cons_succ]); (try simp only [List.set_cons_zero])
  have hk0r := hS.range List.not_mem_nil hk0
  have hk0n := hS.oldOff (range_lt hk0)
  have hk1r := hS.range List.not_mem_nil hk1
  have hk1n := hS.oldOff (range_lt hk1)
  have HS0 := Lib.hid hS
  obtain ⟨DD, HDD, hS⟩ := hS.rebaseN
  rw [← HDD.out] at hk0n
  rw [← HDD.out] at hk1n
  have HSw := Lib.hid hS
  refine own_anyM hS [10, 11] [] 12 (by kernel_rfl) (by kernel_rfl) ?_
  clear hS
  intro hcl ww hS _
  refine own_batchN HSw.out [0, 1, 2, 3, 4, 5, 6, 7] 4 rfl hS hcl (by kernel_rfl) ?_
  (try simp only); repeat (first | (simp only [List.filterMap_cons]) | (simp only [List.filterMap_nil]) | (simp only [List.getElem?_toArray]) | (simp only [List.getElem?_cons_succ]) | (simp only [List.getElem?_cons_zero]) | (simp only [List.reverse_cons]) | (simp only [List.reverse_nil]) | (simp only [List.nil_append]) | (simp only [List.cons_append]))
  repeat (first
      | (first | (refine g_plain rfl ?_) | (refine g_yes rfl rfl rfl (by simp only [List.getElem?_toArray, List.getElem?_cons_succ, List.getElem?_cons_zero]; rfl) (by with_reducible constructor) ?_)
         apply Exists.intro; refine ⟨?_, ?_⟩
         focus (intro wq hq0; (first | have hq : Own _ _ _ wq := hq0 | have hq : Own _ _ _ wq := hq0.1 | skip); first | ((with_reducible show givesAt _ ({ dst := _, op := Op.load _ _, type := _, pos := _, after := _, guard := _ } : Oper) _ _ _); first | (exact givesAt_rd rfl (by rfl) (by first | exact rd_1 (by repeat constructor) (by first | rfl | assumption) | exact rd_w (by repeat constructor) (by rfl) | exact rd_o (by assumption) (by rfl) (by first | exact nmn | assumption | simp) | exact rd_h (by assumption) (by rfl) (by first | exact nmn | assumption | simp) | exact rd_1o (by assumption) (by first | exact nmn | assumption | simp) | exact rd_1h (by assumption) (by first | rfl | assumption) (by first | exact nmn | assumption | simp)) hq)) | (go_simp; first | (with_reducible rfl)))
         simp only [Act.put, List.setIfInBounds_toArray]; (try simp only [List.set_cons_succ]); (try simp only [List.set_cons_zero]))
      | (refine g_no rfl rfl rfl (by simp only [List.getElem?_toArray, List.getElem?_cons_succ, List.getElem?_cons_zero]; rfl) (by with_reducible constructor) ?_; simp only [Act.put, List.setIfInBounds_toArray]; (try simp only [List.set_cons_succ]); (try simp only [List.set_cons_zero])))
  refine g_nil ?_
  clear hS hcl
  intro hcl ww hS
  (try simp only [Act.put]); (try simp only [List.setIfInBounds_toArray]); (try simp only [List.set_cons_succ]); (try simp only [List.set_cons_zero])
  refine own_frees hS [(8, 5, [.int .i64 0, .string ⟨#[]⟩, .int .i64 0, .int .i64 0, .int .i64 0, .int .i64 0, .int .i64 0, .int .i64 0, .slice none 0 0, .int .i64 0, .slice none 0 0]), (9, 6, [.int .i64 0, .string ⟨#[]⟩, .int .i64 0, .int .i64 0, .int .i64 0, .int .i64 0, .int .i64 0, .int .i64 0, .slice none 0 0, .int .i64 0, .slice none 0 0])] 2 rfl (.cons (by simp only [List.getElem?_toArray, List.getElem?_cons_succ, List.getElem?_cons_zero]; rfl) rfl rfl rfl zt_box (.cons (by simp only [List.getElem?_toArray, List.getElem?_cons_succ, List.getElem?_cons_zero]; rfl) rfl rfl rfl zt_box .nil)) hcl (by kernel_rfl) ?_
  clear hS hcl
  intro f wf hcl hS
  have hK := hS.newer (by rw [HDD.out]; exact fun _ h => h)
  simp only [putF, ownF, List.map_cons, List.map_nil, List.foldr_cons, List.foldr_nil, List.cons_append, List.nil_append] at hS hcl hK ⊢
  generalize f 8 = b5 at *
  generalize f 9 = b6 at *
  have hb5 := hK _ (.head _)
  have hb6 := hK _ (.tail _ (.head _))
  clear hK
  (try simp only [Act.put]); (try simp only [List.setIfInBounds_toArray]); (try simp only [List.set_cons_succ]); (try simp only [List.set_cons_zero])
  refine own_mid (K := [(_, _), (_, _)]) (L := [(_, _)]) hS (fun x hx => by simp only [List.mem_cons, List.not_mem_nil, or_false] at hx; rcases hx with rfl | rfl <;> assumption) 10 hcl (by simp only [List.getElem?_toArray, List.getElem?_cons_succ, List.getElem?_cons_zero]; rfl) (by kernel_rfl) ?_
  clear hS
  intro hS
  (refine w_st rfl _ _ rfl (by rfl) (by rfl) (by repeat constructor) (by rfl) (by rfl) (by first | rfl | assumption) hS ?_; clear hS; intro ww hS)
  refine wpList_nil ⟨rfl, _, hS, ?_⟩
  clear hS hcl
  intro hcl wf hS
  simp only [List.cons_append, List.nil_append] at hS
  (try simp only [Act.put]); (try simp only [List.setIfInBounds_toArray]); (try simp only [List.set_cons_succ]); (try simp only [List.set_cons_zero])
  refine own_mid (K := [(_, _), (_, _)]) (L := [(_, _)]) hS (fun x hx => by simp only [List.mem_cons, List.not_mem_nil, or_false] at hx; rcases hx with rfl | rfl <;> assumption) 11 hcl (by simp only [List.getElem?_toArray, List.getElem?_cons_succ, List.getElem?_cons_zero]; rfl) (by kernel_rfl) ?_
  clear hS
  intro hS
  (refine w_st rfl _ _ rfl (by rfl) (by rfl) (by repeat constructor) (by rfl) (by rfl) (by first | rfl | assumption) hS ?_; clear hS; intro ww hS)
  refine wpList_nil ⟨rfl, _, hS, ?_⟩
  clear hS hcl
  intro hcl wf hS
  simp only [List.cons_append, List.nil_append] at hS
  (try simp only [Act.put]); (try simp only [List.setIfInBounds_toArray]); (try simp only [List.set_cons_succ]); (try simp only [List.set_cons_zero])
  refine own_done (by kernel_rfl) ?_
  clear hk0r hk0n hk1r hk1n hb5 hb6 HSw
  obtain rfl := HDD.out
  have hS1 := HS0.out.chain hS
  clear hS HDD HS0
  have hS := hS1
  clear hS1
  have HQ := Lib.hid (fun w' (hb : Below w1.heap.size w1 w') => ref28_Equal_calls (n + 1) _ _ _ w' (HE1.out.step hb) ((HRb.out.step HB1.out).step hb) HSb.out)
  have e0 : w1.cell? ⟨kb, 25 + 6, none⟩ = some (.int .i64 bx) := hrB1 6 _ rfl
  have e1 : w1.cell? ⟨kb, 25 + 7, none⟩ = some (.int .i64 by_) := hrB1 7 _ rfl
  clear hrC1
  go_upto_region 7 with (first | (refine own_unguard (by rfl) ?_) | (refine w_ld rfl _ rfl (by rfl) (by first | exact rd_1 (by repeat constructor) (by first | rfl | assumption) | exact rd_w (by repeat constructor) (by rfl) | exact rd_o (by assumption) (by rfl) (by first | exact nmn | assumption | simp) | exact rd_h (by assumption) (by rfl) (by first | exact nmn | assumption | simp) | exact rd_1o (by assumption) (by first | exact nmn | assumption | simp) | exact rd_1h (by assumption) (by first | rfl | assumption) (by first | exact nmn | assumption | simp)) hS ?_) | (refine own_box rfl _ _ rfl (by rfl) hS ?_; clear hS; (try clear ww); intro bb ww hS) | (refine w_al rfl rfl hS ?_; clear hS; (try clear ww); intro bb ww hS) | (refine w_st rfl _ _ rfl (by rfl) (by rfl) (by repeat constructor) (by rfl) (by rfl) (by first | rfl | assumption) hS ?_; clear hS; (try clear ww); intro ww hS) | (refine w_s1 rfl _ _ rfl (by rfl) (by repeat constructor) (by first | exact .c | exact .t rfl) (by rfl) (by repeat constructor) hS ?_; clear hS; (try clear ww); intro ww hS))
  (try simp only [Act.put]); (try simp only [List.setIfInBounds_toArray]); (try simp only [List.set_cons_succ]); (try simp only [List.set_cons_zero])
  refine own_region hS (by kernel_rfl) (by kernel_rfl) ?_
  (try simp only [List.append])
  (try simp only); (try simp only [List.drop_succ_cons]); (try simp only [List.drop_zero]); (try simp only [List.take_succ_cons]); (try simp only [List.take_zero])
  repeat (first
      | (first | (refine quiet_plain rfl ?_) | (refine quiet_yes rfl rfl rfl (by simp only [List.getElem?_toArray, List.getElem?_cons_succ, List.getElem?_cons_zero]; rfl) (by with_reducible constructor) ?_)
         apply Exists.intro; refine ⟨?_, ?_⟩
         focus (intro wq hq0; have hq : Own _ _ _ wq := hq0; first | (exact quietAt_rd rfl (by rfl) (by first | exact rd_1 (by repeat constructor) (by first | rfl | assumption) | exact rd_w (by repeat constructor) (by rfl) | exact rd_o (by assumption) (by rfl) (by first | exact nmn | assumption | simp) | exact rd_h (by assumption) (by rfl) (by first | exact nmn | assumption | simp) | exact rd_1o (by assumption) (by first | exact nmn | assumption | simp) | exact rd_1h (by assumption) (by first | rfl | assumption) (by first | exact nmn | assumption | simp)) hq) | (go_simp; first | (go_at_call 20; exact quietG hq (HOw.out _ (bthen HB1.out hq.below))) | (go_at_call 17; exact quietG hq (HAt.out _ (bthen HB1.out hq.below))) | (go_at_call 21; exact quietG hq (ref28_At_val _ _ _ _ _ _ _ _ _ _ _ _ _ _ rfl)) | (go_at_call 12; exact quietG hq (HQ.out _ hq.below)) | (with_reducible rfl)))
         simp only [Act.put, List.setIfInBounds_toArray, List.set_cons_zero, List.set_cons_succ])
      | (refine quiet_no rfl rfl rfl (by simp only [List.getElem?_toArray, List.getElem?_cons_succ, List.getElem?_cons_zero]; rfl) (by with_reducible constructor) ?_; simp only [Act.put, List.setIfInBounds_toArray, List.set_cons_zero, List.set_cons_succ]))
  refine wpQuiet_nil ?_
  clear hS
  intro ww hS
  go_wp2_with (first | (refine own_unguard (by rfl) ?_) | (refine w_ld rfl _ rfl (by rfl) (by first | exact rd_1 (by repeat constructor) (by first | rfl | assumption) | exact rd_w (by repeat constructor) (by rfl) | exact rd_o (by assumption) (by rfl) (by first | exact nmn | assumption | simp) | exact rd_h (by assumption) (by rfl) (by first | exact nmn | assumption | simp) | exact rd_1o (by assumption) (by first | exact nmn | assumption | simp) | exact rd_1h (by assumption) (by first | rfl | assumption) (by first | exact nmn | assumption | simp)) hS ?_) | (refine own_box rfl _ _ rfl (by rfl) hS ?_; clear hS; (try clear ww); intro bb ww hS) | (refine w_al rfl rfl hS ?_; clear hS; (try clear ww); intro bb ww hS) | (refine w_st rfl _ _ rfl (by rfl) (by rfl) (by repeat constructor) (by rfl) (by rfl) (by first | rfl | assumption) hS ?_; clear hS; (try clear ww); intro ww hS) | (refine w_s1 rfl _ _ rfl (by rfl) (by repeat constructor) (by first | exact .c | exact .t rfl) (by rfl) (by repeat constructor) hS ?_; clear hS; (try clear ww); intro ww hS))
  go_ret
  exact ⟨rfl, bthen HB1.out hS.below⟩

theorem accentAttached_calls (F : Fnt) (l : Int) (c : Bool) (s : ByteArray) (n : Nat) (body : Bx (n + 1)) (cs : List Value) (w : World) (hF : FntOk w F) (hr : Rep w (n + 1) body cs) : Calls Try.prog 5 #[.agg (caseA F l c s cs).toArray] w (Gives (.bool true) w) := by
  by_cases h : MadeA F l n s body
  · exact accentAttached_good F l c s n body cs w hF hr h
  · exact accentAttached_bad F l c s n body cs w hF hr h

end Go.Proofs.Ytceigjonhabmmaa
