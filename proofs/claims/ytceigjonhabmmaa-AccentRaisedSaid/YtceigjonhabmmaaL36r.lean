/- Chapter 36, AccentRaised: the law returns true. -/
import Derived.Test.YtceigjonhabmmaaLw6
namespace Go.Proofs.Ytceigjonhabmmaa
open Go.RowKit

attribute [local irreducible] wpQuiet wpG wpP wpK wpList Code.wp Calls

instance zt_case36 : ZeroTy Try.prog 35 [.slice none 0 0, .slice none 0 0, .int .i64 0, .int .i64 0, .int .i64 0, .int .i64 0, .int .i64 0, .int .i64 0, .int .i64 0, .int .i64 0, .int .i64 0, .int .i64 0, .int .i64 0, .int .i64 0, .int .i64 0, .int .i64 0, .int .i64 0, .int .i64 0, .int .i64 0, .int .i64 0, .int .i64 0, .int .i64 0, .int .i64 0, .bool false, .string ⟨#[]⟩, .int .i64 0, .string ⟨#[]⟩, .int .i64 0, .int .i64 0, .int .i64 0, .int .i64 0, .int .i64 0, .int .i64 0, .slice none 0 0, .int .i64 0, .slice none 0 0] := ⟨.agg #[.slice none 0 0, .slice none 0 0, .int .i64 0, .int .i64 0, .int .i64 0, .int .i64 0, .int .i64 0, .int .i64 0, .int .i64 0, .int .i64 0, .int .i64 0, .int .i64 0, .int .i64 0, .int .i64 0, .int .i64 0, .int .i64 0, .int .i64 0, .int .i64 0, .int .i64 0, .int .i64 0, .int .i64 0, .int .i64 0, .int .i64 0, .bool false, .string ⟨#[]⟩, .int .i64 0, .string ⟨#[]⟩, .int .i64 0, .int .i64 0, .int .i64 0, .int .i64 0, .int .i64 0, .int .i64 0, .slice none 0 0, .int .i64 0, .slice none 0 0], by kernel_rfl, rfl⟩
theorem range_sub36 {w : World} {b : Nat} {L cs : List Value} (h : w.rangeAt b 0 L) (i : Nat) (e : (L.drop i).take cs.length = cs) : w.rangeAt b i cs := fun j v hj => by
  have h1 : L[i + j]? = some v := by
    rw [← hj, ← e, List.getElem?_take, List.getElem?_drop, if_pos (List.getElem?_eq_some_iff.1 hj).1]
  have := h (i + j) v h1
  rwa [Nat.zero_add] at this

set_option maxHeartbeats 8000000 in
set_option maxRecDepth 100000 in
theorem accentRaised_bad (F : Fnt) (l : Int) (c : Bool) (s : ByteArray) (n : Nat) (body : Bx (n + 1)) (cs : List Value) (w : World) (hF : FntOk w F) (hr : Rep w (n + 1) body cs) (z : Int) (hb : ¬ MadeA F l n s body) : Calls Try.prog 7 #[.agg (caseA F l c s cs).toArray, .int .u16 z] w (Gives (.bool true) w) := by
  have HM := Lib.hid (fun w' (h : Below w.heap.size w w') => made36_bad F l c s n body cs w' (hF.below h) (hr.step h) 0 hb)
  obtain ⟨c0, c1, c2, c3, c4, c5, c6, c7, c8, c9, c10, rfl⟩ := eleven hr.len
  clear hF hr hb
  go_enter Try.func7, Try.ntmps7
  have hS := own_start w
  go_wp2_with (first | (refine own_unguard (by rfl) ?_) | (refine own_box rfl _ _ rfl rfl hS ?_; clear hS; intro kb w0 hS0; have hrC := (hS0.get at0).range; have HB0 := Lib.hid hS0.below; obtain ⟨hrF, hrS, cN, hrB⟩ := caseA_out hrC; have hS := own_start w0; clear hS0) | (refine own_load_old rfl _ _ rfl rfl hS hrC List.not_mem_nil rt_case36 ?_) | (refine own_load_old rfl _ _ rfl rfl hS hrF List.not_mem_nil rt_font ?_) | (refine own_load_old rfl _ _ rfl rfl hS hrS List.not_mem_nil rt_style ?_) | (refine own_load_old rfl _ _ rfl rfl hS hrB List.not_mem_nil rt_box ?_) | (go_at_call 8; refine own_calls hS (by first | exact awake36_calls _) ?_; clear hS; (try clear ww); intro ww hS) | (go_at_call 19; refine Calls.mono (HM.out _ (bthen HB0.out hS.below)) ?_; rintro e w1 ⟨cs1, rfl, hR1, hb1⟩; have HB1 := Lib.hid (bthen HB0.out (bthen hS.below hb1)); obtain ⟨kx, kc, sx, sc, rfl⟩ := zero_out hR1; clear hR1 hS hb1; have hS := own_start w1) | (refine w_ld rfl _ rfl (by rfl) (by first | exact rd_1 (by repeat constructor) (by first | rfl | assumption) | exact rd_w (by repeat constructor) (by rfl) | exact rd_o (by assumption) (by rfl) (by first | exact nmn | assumption | simp) | exact rd_h (by assumption) (by rfl) (by first | exact nmn | assumption | simp) | exact rd_1o (by assumption) (by first | exact nmn | assumption | simp) | exact rd_1h (by assumption) (by first | rfl | assumption) (by first | exact nmn | assumption | simp)) hS ?_) | (refine own_box rfl _ _ rfl (by rfl) hS ?_; clear hS; (try clear ww); intro bb ww hS) | (refine w_al rfl rfl hS ?_; clear hS; (try clear ww); intro bb ww hS) | (refine w_st rfl _ _ rfl (by rfl) (by rfl) (by repeat constructor) (by rfl) (by rfl) (by first | rfl | assumption) hS ?_; clear hS; (try clear ww); intro ww hS) | (refine w_s1 rfl _ _ rfl (by rfl) (by repeat constructor) (by first | exact .c | exact .t rfl) (by rfl) (by repeat constructor) hS ?_; clear hS; (try clear ww); intro ww hS))
  go_ret
  exact ⟨rfl, bthen HB1.out hS.below⟩

set_option maxHeartbeats 16000000 in
set_option maxRecDepth 100000 in
theorem accentRaised_low (F : Fnt) (l : Int) (c : Bool) (s : ByteArray) (n : Nat) (body : Bx (n + 1)) (cs : List Value) (w : World) (hF : FntOk w F) (hr : Rep w (n + 1) body cs) (z : Int) (_hz : 0 ≤ z ∧ z ≤ 65535) (h : MadeA F l n s body) (hlow : body.1.h ≤ par F l F.acc) : Calls Try.prog 7 #[.agg (caseA F l c s cs).toArray, .int .u16 z] w (Gives (.bool true) w) := by
  have hnum := acc_nums h.2.2.1
  have ho := h.2.2.1
  have HM := Lib.hid (fun w' (hb : Below w.heap.size w w') => made36_ok F l c s n body cs w' (hF.below hb) (hr.step hb) h)
  have mb := modB_out h.2.1
  have hp := acc_prm ho.1
  have hA := par_in (l := l) ho.1 hp.1 hp.2
  have HPr := Lib.hid (fun w' => ref32_Par_calls F l F.acc c w' ho.2.1 ho.1 (by omega))
  have hup : raiseI F l body.1.h = body.1.h - min body.1.h (par F l F.acc) := rfl
  have HAcc := Lib.hid (fun (_ : Unit) => show F.cells[21]? = some (.int .i64 F.acc) from rfl)
  unfold accB at HM
  generalize max 0 (extL ((accK F l n s body).map (·.1))).r = E at *
  generalize (extL ((accK F l n s body).map (·.1))).h = H at *
  generalize (extL ((accK F l n s body).map (·.1))).d = D at *
  unfold accK accG at HM
  generalize accX F l n s body = x at *
  generalize (scaledG (pickG F.gs s) (sizeOf' F l)).name = gn at *
  generalize boxW (scaledG (pickG F.gs s) (sizeOf' F l)) = gw at *
  generalize (scaledG (pickG F.gs s) (sizeOf' F l)).h = gh at *
  generalize (scaledG (pickG F.gs s) (sizeOf' F l)).d = gd at *
  generalize sizeOf' F l = p at *
  generalize raiseI F l body.1.h = up at *
  obtain rfl : up = 0 := by omega
  have t1 : decide (body.1.h ≤ par F l F.acc) = true := decide_eq_true hlow
  obtain ⟨⟨bk, bn, bz, bw, bh, bd, bx, by_, bo, bs⟩, bks⟩ := body
  obtain ⟨kx0, kc0, tx0, tc0, rfl, _⟩ := rep_out hr
  obtain ⟨v8, hv8⟩ : ∃ v, Value.slice kx0 bks.length kc0 = v := ⟨_, rfl⟩
  obtain ⟨v10, hv10⟩ : ∃ v, Value.slice tx0 bs.length tc0 = v := ⟨_, rfl⟩
  have ov8 : v8.oneCell' = true := by rw [← hv8]; rfl
  have ov10 : v10.oneCell' = true := by rw [← hv10]; rfl
  simp only at t1
  rw [hv8, hv10] at HM
  rw [hv8, hv10]
  generalize par F l F.acc = A at *
  clear hF hr h ho hnum mb hp hA hlow hup hv8 hv10 _hz
  go_enter Try.func7, Try.ntmps7
  have hS := own_start w
  go_upto_region 6 with (first | (refine own_unguard (by rfl) ?_) | (refine own_box rfl _ _ rfl rfl hS ?_; clear hS; intro kb w0 hS0; have hrC := (hS0.get at0).range; have HB0 := Lib.hid hS0.below; obtain ⟨hrF, hrS, cN, hrB⟩ := caseA_out hrC; have hS := own_start w0; clear hS0) | (refine own_load_old rfl _ _ rfl rfl hS hrC List.not_mem_nil rt_case36 ?_) | (refine own_load_old rfl _ _ rfl rfl hS hrF List.not_mem_nil rt_font ?_) | (refine own_load_old rfl _ _ rfl rfl hS hrS List.not_mem_nil rt_style ?_) | (refine own_load_old rfl _ _ rfl rfl hS hrB List.not_mem_nil rt_box ?_) | (go_at_call 8; refine own_calls hS (by first | exact awake36_calls _) ?_; clear hS; (try clear ww); intro ww hS) | (go_at_call 19; refine Calls.mono (HM.out _ (bthen HB0.out hS.below)) ?_; rintro e w1 ⟨cs1, rfl, hR1, hb1⟩; have hrF1 := rangeAt_below (hS.range List.not_mem_nil hrF) hb1; have hrS1 := rangeAt_below (hS.range List.not_mem_nil hrS) hb1; have hrB1 := rangeAt_below (hS.range List.not_mem_nil hrB) hb1; have cN1 := cell_below36 (hS.cell List.not_mem_nil cN) hb1; have hrC1 := rangeAt_below (hS.range List.not_mem_nil hrC) hb1; have HB1 := Lib.hid (bthen HB0.out (bthen hS.below hb1)); obtain ⟨k, o, kc, sx, sc, q0, q1, rfl, hk0, hk1, hp0, hp1⟩ := pair_out hR1; obtain ⟨kx0, kc0, sx0, sc0, rfl⟩ := gly_out hp0; obtain ⟨kx1, kc1, sx1, sc1, rfl⟩ := kid_out hp1; have cA := hrF1 21 _ (HAcc.out ()); have cH := hrB1 4 _ rfl; simp only [Nat.zero_add] at cA; clear hR1 hS hb1 hp0 hp1 hrC hrF hrS hrB cN; have hS := own_start w1) | (refine w_ld rfl _ rfl (by rfl) (by first | exact rd_1 (by repeat constructor) (by first | rfl | assumption) | exact rd_w (by repeat constructor) (by rfl) | exact rd_o (by assumption) (by rfl) (by first | exact nmn | assumption | simp) | exact rd_h (by assumption) (by rfl) (by first | exact nmn | assumption | simp) | exact rd_1o (by assumption) (by first | exact nmn | assumption | simp) | exact rd_1h (by assumption) (by first | rfl | assumption) (by first | exact nmn | assumption | simp)) hS ?_) | (refine own_box rfl _ _ rfl (by rfl) hS ?_; clear hS; (try clear ww); intro bb ww hS) | (refine w_al rfl rfl hS ?_; clear hS; (try clear ww); intro bb ww hS) | (refine w_st rfl _ _ rfl (by rfl) (by rfl) (by repeat constructor) (by rfl) (by rfl) (by first | rfl | assumption) hS ?_; clear hS; (try clear ww); intro ww hS) | (refine w_s1 rfl _ _ rfl (by rfl) (by repeat constructor) (by first | exact .c | exact .t rfl) (by rfl) (by repeat constructor) hS ?_; clear hS; (try clear ww); intro ww hS))
  have HrC1 := Lib.hid (fun (_ : Unit) => hrC1)
  clear hrC1
  (try simp only [Act.put]); (try simp only [List.setIfInBounds_toArray]); (try simp only [List.set_cons_succ]); (try simp only [List.set_cons_zero])
  refine own_region hS (by kernel_rfl) (by kernel_rfl) ?_
  (try simp only [List.append])
  (try simp only); (try simp only [List.drop_succ_cons]); (try simp only [List.drop_zero]); (try simp only [List.take_succ_cons]); (try simp only [List.take_zero])
  repeat (first
      | (first | (refine quiet_plain rfl ?_) | (refine quiet_yes rfl rfl rfl (by simp only [List.getElem?_toArray, List.getElem?_cons_succ, List.getElem?_cons_zero]; rfl) (by with_reducible constructor) ?_)
         apply Exists.intro; refine ⟨?_, ?_⟩
         focus (intro wq hq0; have hq : Own _ _ _ wq := hq0; first | (exact quietAt_rd rfl (by rfl) (by first | exact rd_1 (by repeat constructor) (by first | rfl | assumption) | exact rd_w (by repeat constructor) (by rfl) | exact rd_o (by assumption) (by rfl) (by first | exact nmn | assumption | simp) | exact rd_h (by assumption) (by rfl) (by first | exact nmn | assumption | simp) | exact rd_1o (by assumption) (by first | exact nmn | assumption | simp) | exact rd_1h (by assumption) (by first | rfl | assumption) (by first | exact nmn | assumption | simp)) hq) | (go_simp; first | (go_at_call 22; exact quietG hq (HPr.out _)) | (with_reducible rfl)))
         simp only [Act.put, List.setIfInBounds_toArray, List.set_cons_zero, List.set_cons_succ])
      | (refine quiet_no rfl rfl rfl (by simp only [List.getElem?_toArray, List.getElem?_cons_succ, List.getElem?_cons_zero]; rfl) (by with_reducible constructor) ?_; simp only [Act.put, List.setIfInBounds_toArray, List.set_cons_zero, List.set_cons_succ]))
  refine wpQuiet_nil ?_
  clear hS
  intro ww hS
  have y0 : w1.cell? ⟨k, o + 7, none⟩ = some (.int .i64 0) := hk0 7 _ rfl
  go_wp2_with (first | (refine own_unguard (by rfl) ?_) | (refine w_ld rfl _ rfl (by rfl) (by first | exact rd_1 (by repeat constructor) (by first | rfl | assumption) | exact rd_w (by repeat constructor) (by rfl) | exact rd_o (by assumption) (by rfl) (by first | exact nmn | assumption | simp) | exact rd_h (by assumption) (by rfl) (by first | exact nmn | assumption | simp) | exact rd_1o (by assumption) (by first | exact nmn | assumption | simp) | exact rd_1h (by assumption) (by first | rfl | assumption) (by first | exact nmn | assumption | simp)) hS ?_) | (refine own_box rfl _ _ rfl (by rfl) hS ?_; clear hS; (try clear ww); intro bb ww hS) | (refine w_al rfl rfl hS ?_; clear hS; (try clear ww); intro bb ww hS) | (refine w_st rfl _ _ rfl (by rfl) (by rfl) (by repeat constructor) (by rfl) (by rfl) (by first | rfl | assumption) hS ?_; clear hS; (try clear ww); intro ww hS) | (refine w_s1 rfl _ _ rfl (by rfl) (by repeat constructor) (by first | exact .c | exact .t rfl) (by rfl) (by repeat constructor) hS ?_; clear hS; (try clear ww); intro ww hS))
  go_ret
  exact ⟨rfl, bthen HB1.out hS.below⟩

set_option maxHeartbeats 16000000 in
set_option maxRecDepth 100000 in
theorem accentRaised_high (F : Fnt) (l : Int) (c : Bool) (s : ByteArray) (n : Nat) (body : Bx (n + 1)) (cs : List Value) (w : World) (hF : FntOk w F) (hr : Rep w (n + 1) body cs) (z : Int) (hz : 0 ≤ z ∧ z ≤ 65535) (h : MadeA F l n s body) (hlow : ¬ body.1.h ≤ par F l F.acc) : Calls Try.prog 7 #[.agg (caseA F l c s cs).toArray, .int .u16 z] w (Gives (.bool true) w) := by
  have hnum := acc_nums h.2.2.1
  have ho := h.2.2.1
  have HM := Lib.hid (fun w' (hb : Below w.heap.size w w') => made36_ok F l c s n body cs w' (hF.below hb) (hr.step hb) h)
  have mb := modB_out h.2.1
  have hp := acc_prm ho.1
  have hA := par_in (l := l) ho.1 hp.1 hp.2
  have HPr := Lib.hid (fun w' => ref32_Par_calls F l F.acc c w' ho.2.1 ho.1 (by omega))
  have hup : raiseI F l body.1.h = body.1.h - min body.1.h (par F l F.acc) := rfl
  have HAcc := Lib.hid (fun (_ : Unit) => show F.cells[21]? = some (.int .i64 F.acc) from rfl)
  have hvd := validB_dim ho.2.2.1 h.2.1 (h := body.1.h + z) (d := body.1.d) (by omega) (by omega)
  have hoX : AccOk F l n s (dimB body (body.1.h + z) body.1.d) := ⟨ho.1, ho.2.1, hvd, ho.2.2.2⟩
  have hvX := acc_valid h (h' := body.1.h + z) (by omega)
  have eX := accX_high (F := F) (l := l) (s := s) (body := body) (h' := body.1.h + z)
  have hupX : raiseI F l (body.1.h + z) = body.1.h + z - min (body.1.h + z) (par F l F.acc) := rfl
  unfold accB at HM
  generalize max 0 (extL ((accK F l n s body).map (·.1))).r = E at *
  generalize (extL ((accK F l n s body).map (·.1))).h = H at *
  generalize (extL ((accK F l n s body).map (·.1))).d = D at *
  unfold accK accG at HM
  have t1 : decide (body.1.h ≤ par F l F.acc) = false := decide_eq_false hlow
  have hu1 : raiseI F l body.1.h = body.1.h - par F l F.acc := by omega
  have hu2 : raiseI F l (body.1.h + z) = body.1.h - par F l F.acc + z := by omega
  obtain ⟨⟨bk, bn, bz, bw, bh, bd, bx, by_, bo, bs⟩, bks⟩ := body
  obtain ⟨kx0, kc0, tx0, tc0, rfl, _⟩ := rep_out hr
  obtain ⟨v8, hv8⟩ : ∃ v, Value.slice kx0 bks.length kc0 = v := ⟨_, rfl⟩
  obtain ⟨v10, hv10⟩ : ∃ v, Value.slice tx0 bs.length tc0 = v := ⟨_, rfl⟩
  have ov8 : v8.oneCell' = true := by rw [← hv8]; rfl
  have ov10 : v10.oneCell' = true := by rw [← hv10]; rfl
  simp only [dimB] at t1 hvd hoX hvX eX hu1 hu2 mb
  rw [hv8, hv10] at HM hr
  rw [hv8, hv10]
  have HX := Lib.hid (fun w' (hb : Below w.heap.size w w') => accMake_ok (fun k => k < w'.heap.size) F l c n 0 s (⟨bk, bn, bz, bw, bh + z, bd, bx, by_, bo, bs⟩, bks) [.int .i64 bk, .string bn, .int .i64 bz, .int .i64 bw, .int .i64 (bh + z), .int .i64 bd, .int .i64 bx, .int .i64 by_, v8, .int .i64 bo, v10] w' (hF.below hb) (fun _ h => h) (repP_old (rep_setH (hr.step hb) (by unfold I64; omega))) hoX hvX)
  unfold accB at HX
  generalize max 0 (extL ((accK F l n s (⟨bk, bn, bz, bw, bh + z, bd, bx, by_, bo, bs⟩, bks)).map (·.1))).r = E2 at *
  generalize (extL ((accK F l n s (⟨bk, bn, bz, bw, bh + z, bd, bx, by_, bo, bs⟩, bks)).map (·.1))).h = H2 at *
  generalize (extL ((accK F l n s (⟨bk, bn, bz, bw, bh + z, bd, bx, by_, bo, bs⟩, bks)).map (·.1))).d = D2 at *
  unfold accK accG at HX
  simp only at HX HM
  rw [eX, hu2] at HX
  rw [hu1] at HM
  generalize accX F l n s (⟨bk, bn, bz, bw, bh, bd, bx, by_, bo, bs⟩, bks) = x at *
  generalize (scaledG (pickG F.gs s) (sizeOf' F l)).name = gn at *
  generalize boxW (scaledG (pickG F.gs s) (sizeOf' F l)) = gw at *
  generalize (scaledG (pickG F.gs s) (sizeOf' F l)).h = gh at *
  generalize (scaledG (pickG F.gs s) (sizeOf' F l)).d = gd at *
  generalize sizeOf' F l = p at *
  generalize par F l F.acc = A at *
  obtain ⟨up, hu⟩ : ∃ u : Int, u = bh - A := ⟨_, rfl⟩
  rw [← hu] at HX HM
  have i1 : IntKind.i64.wrap z = z := IntWalk.i64_in _ (by omega)
  have i2 : IntKind.i64.wrap (bh + z) = bh + z := IntWalk.i64_in _ (by omega)
  have i3 : IntKind.i64.wrap (up + z) = up + z := IntWalk.i64_in _ (by simp only at hlow; omega)
  have t2 : decide (0 < up) = true := decide_eq_true (by simp only at hlow; omega)
  have hall : (caseA F l c s [.int .i64 bk, .string bn, .int .i64 bz, .int .i64 bw, .int .i64 bh, .int .i64 bd, .int .i64 bx, .int .i64 by_, v8, .int .i64 bo, v10]).all (·.oneCell') = true := by rw [← hv8, ← hv10]; rfl
  clear hF hr h ho hnum mb hp hA hlow hup hupX hv8 hv10 hz hvd hoX hvX eX hu1 hu2 hu
  go_enter Try.func7, Try.ntmps7
  have hS := own_start w
  go_upto_region 6 with (first | (refine own_unguard (by rfl) ?_) | (refine own_box rfl _ _ rfl rfl hS ?_; clear hS; intro kb w0 hS0; have hrC := (hS0.get at0).range; have HB0 := Lib.hid hS0.below; obtain ⟨hrF, hrS, cN, hrB⟩ := caseA_out hrC; have hS := own_start w0; clear hS0) | (refine own_load_old rfl _ _ rfl rfl hS hrC List.not_mem_nil rt_case36 ?_) | (refine own_load_old rfl _ _ rfl rfl hS hrF List.not_mem_nil rt_font ?_) | (refine own_load_old rfl _ _ rfl rfl hS hrS List.not_mem_nil rt_style ?_) | (refine own_load_old rfl _ _ rfl rfl hS hrB List.not_mem_nil rt_box ?_) | (go_at_call 8; refine own_calls hS (by first | exact awake36_calls _) ?_; clear hS; (try clear ww); intro ww hS) | (go_at_call 19; refine Calls.mono (HM.out _ (bthen HB0.out hS.below)) ?_; rintro e w1 ⟨cs1, rfl, hR1, hb1⟩; have hrF1 := rangeAt_below (hS.range List.not_mem_nil hrF) hb1; have hrS1 := rangeAt_below (hS.range List.not_mem_nil hrS) hb1; have hrB1 := rangeAt_below (hS.range List.not_mem_nil hrB) hb1; have cN1 := cell_below36 (hS.cell List.not_mem_nil cN) hb1; have hrC1 := rangeAt_below (hS.range List.not_mem_nil hrC) hb1; have HB1 := Lib.hid (bthen HB0.out (bthen hS.below hb1)); obtain ⟨k, o, kc, sx, sc, q0, q1, rfl, hk0, hk1, hp0, hp1⟩ := pair_out hR1; obtain ⟨kx0, kc0, sx0, sc0, rfl⟩ := gly_out hp0; obtain ⟨kx1, kc1, sx1, sc1, rfl⟩ := kid_out hp1; have cA := hrF1 21 _ (HAcc.out ()); have cH := hrB1 4 _ rfl; simp only [Nat.zero_add] at cA; clear hR1 hS hb1 hp0 hp1 hrC hrF hrS hrB cN; have hS := own_start w1) | (refine w_ld rfl _ rfl (by rfl) (by first | exact rd_1 (by repeat constructor) (by first | rfl | assumption) | exact rd_w (by repeat constructor) (by rfl) | exact rd_o (by assumption) (by rfl) (by first | exact nmn | assumption | simp) | exact rd_h (by assumption) (by rfl) (by first | exact nmn | assumption | simp) | exact rd_1o (by assumption) (by first | exact nmn | assumption | simp) | exact rd_1h (by assumption) (by first | rfl | assumption) (by first | exact nmn | assumption | simp)) hS ?_) | (refine own_box rfl _ _ rfl (by rfl) hS ?_; clear hS; (try clear ww); intro bb ww hS) | (refine w_al rfl rfl hS ?_; clear hS; (try clear ww); intro bb ww hS) | (refine w_st rfl _ _ rfl (by rfl) (by rfl) (by repeat constructor) (by rfl) (by rfl) (by first | rfl | assumption) hS ?_; clear hS; (try clear ww); intro ww hS) | (refine w_s1 rfl _ _ rfl (by rfl) (by repeat constructor) (by first | exact .c | exact .t rfl) (by rfl) (by repeat constructor) hS ?_; clear hS; (try clear ww); intro ww hS))
  have HrC1 := Lib.hid (fun (_ : Unit) => hrC1)
  clear hrC1
  (try simp only [Act.put]); (try simp only [List.setIfInBounds_toArray]); (try simp only [List.set_cons_succ]); (try simp only [List.set_cons_zero])
  refine own_region hS (by kernel_rfl) (by kernel_rfl) ?_
  (try simp only [List.append])
  (try simp only); (try simp only [List.drop_succ_cons]); (try simp only [List.drop_zero]); (try simp only [List.take_succ_cons]); (try simp only [List.take_zero])
  repeat (first
      | (first | (refine quiet_plain rfl ?_) | (refine quiet_yes rfl rfl rfl (by simp only [List.getElem?_toArray, List.getElem?_cons_succ, List.getElem?_cons_zero]; rfl) (by with_reducible constructor) ?_)
         apply Exists.intro; refine ⟨?_, ?_⟩
         focus (intro wq hq0; have hq : Own _ _ _ wq := hq0; first | (exact quietAt_rd rfl (by rfl) (by first | exact rd_1 (by repeat constructor) (by first | rfl | assumption) | exact rd_w (by repeat constructor) (by rfl) | exact rd_o (by assumption) (by rfl) (by first | exact nmn | assumption | simp) | exact rd_h (by assumption) (by rfl) (by first | exact nmn | assumption | simp) | exact rd_1o (by assumption) (by first | exact nmn | assumption | simp) | exact rd_1h (by assumption) (by first | rfl | assumption) (by first | exact nmn | assumption | simp)) hq) | (go_simp; first | (go_at_call 22; exact quietG hq (HPr.out _)) | (with_reducible rfl)))
         simp only [Act.put, List.setIfInBounds_toArray, List.set_cons_zero, List.set_cons_succ])
      | (refine quiet_no rfl rfl rfl (by simp only [List.getElem?_toArray, List.getElem?_cons_succ, List.getElem?_cons_zero]; rfl) (by with_reducible constructor) ?_; simp only [Act.put, List.setIfInBounds_toArray, List.set_cons_zero, List.set_cons_succ]))
  refine wpQuiet_nil ?_
  clear hS
  intro ww hS
  go_upto_region 8 with (first | (refine own_unguard (by rfl) ?_) | (refine w_ld rfl _ rfl (by rfl) (by first | exact rd_1 (by repeat constructor) (by first | rfl | assumption) | exact rd_w (by repeat constructor) (by rfl) | exact rd_o (by assumption) (by rfl) (by first | exact nmn | assumption | simp) | exact rd_h (by assumption) (by rfl) (by first | exact nmn | assumption | simp) | exact rd_1o (by assumption) (by first | exact nmn | assumption | simp) | exact rd_1h (by assumption) (by first | rfl | assumption) (by first | exact nmn | assumption | simp)) hS ?_) | (refine own_box rfl _ _ rfl (by rfl) hS ?_; clear hS; (try clear ww); intro bb ww hS) | (refine w_al rfl rfl hS ?_; clear hS; (try clear ww); intro bb ww hS) | (refine w_st rfl _ _ rfl (by rfl) (by rfl) (by repeat constructor) (by rfl) (by rfl) (by first | rfl | assumption) hS ?_; clear hS; (try clear ww); intro ww hS) | (refine w_s1 rfl _ _ rfl (by rfl) (by repeat constructor) (by first | exact .c | exact .t rfl) (by rfl) (by repeat constructor) hS ?_; clear hS; (try clear ww); intro ww hS))
  have hk0r := hS.range List.not_mem_nil hk0
  go_upto_region 10 with (first | (refine own_unguard (by rfl) ?_) | (refine own_load_old rfl _ _ rfl rfl hS (HrC1.out ()) List.not_mem_nil rt_case36 ?_) | (refine w_ld rfl _ rfl (by rfl) (by first | exact rd_1 (by repeat constructor) (by first | rfl | assumption) | exact rd_w (by repeat constructor) (by rfl) | exact rd_o (by assumption) (by rfl) (by first | exact nmn | assumption | simp) | exact rd_h (by assumption) (by rfl) (by first | exact nmn | assumption | simp) | exact rd_1o (by assumption) (by first | exact nmn | assumption | simp) | exact rd_1h (by assumption) (by first | rfl | assumption) (by first | exact nmn | assumption | simp)) hS ?_) | (refine own_box rfl _ _ rfl (by rfl) hS ?_; clear hS; (try clear ww); intro bb ww hS) | (refine w_al rfl rfl hS ?_; clear hS; (try clear ww); intro bb ww hS) | (refine w_st rfl _ _ rfl (by rfl) (by rfl) (by repeat constructor) (by rfl) (by rfl) (by first | rfl | assumption) hS ?_; clear hS; (try clear ww); intro ww hS) | (refine w_s1 rfl _ _ rfl (by rfl) (by repeat constructor) (by first | exact .c | exact .t rfl) (by rfl) (by repeat constructor) hS ?_; clear hS; (try clear ww); intro ww hS))
  have hF9 := range_sub36 (has_range (hS.get at0)) 0 (cs := F.cells) rfl
  have hS9 := range_sub36 (has_range (hS.get at0)) 22 (cs := [.int .i64 l, .bool c]) rfl
  have cN9 := range_sub36 (has_range (hS.get at0)) 24 (cs := [.string s]) rfl 0 _ rfl
  have hB9 := range_sub36 (has_range (hS.get at0)) 25 (cs := [.int .i64 bk, .string bn, .int .i64 bz, .int .i64 bw, .int .i64 (bh + z), .int .i64 bd, .int .i64 bx, .int .i64 by_, v8, .int .i64 bo, v10]) rfl
  have hV9 := has_range (hS.get at1)
  have hk09 := hS.range List.not_mem_nil hk0
  have HBw := Lib.hid (bthen HB1.out hS.below)
  clear hS hk0r
  have hS := own_start ww
  simp only [Nat.add_zero] at cN9
  go_upto_region 11 with (first | (refine own_unguard (by rfl) ?_) | (go_at_call 10; refine Calls.mono (HX.out _ (bthen HBw.out hS.below)) ?_; rintro e w2 ⟨csx, rfl, hRx, hbx⟩; have hV10 := rangeAt_below (hS.range List.not_mem_nil hV9) hbx; have hk010 := rangeAt_below (hS.range List.not_mem_nil hk09) hbx; have HBx := Lib.hid (bthen HBw.out (bthen hS.below hbx)); obtain ⟨k2, o2, kc2, sx2, sc2, p0, p1, rfl, hx0, hx1, gp0, gp1⟩ := pair_out hRx.rep; obtain ⟨_, _, _, _, rfl⟩ := gly_out gp0; clear hS hRx hbx gp0 gp1 hF9 hS9 cN9 hB9; have hS := own_start w2) | (refine w_ld rfl _ rfl (by rfl) (by first | exact rd_1 (by repeat constructor) (by first | rfl | assumption) | exact rd_w (by repeat constructor) (by rfl) | exact rd_o (by assumption) (by rfl) (by first | exact nmn | assumption | simp) | exact rd_h (by assumption) (by rfl) (by first | exact nmn | assumption | simp) | exact rd_1o (by assumption) (by first | exact nmn | assumption | simp) | exact rd_1h (by assumption) (by first | rfl | assumption) (by first | exact nmn | assumption | simp)) hS ?_) | (refine own_box rfl _ _ rfl (by rfl) hS ?_; clear hS; (try clear ww); intro bb ww hS) | (refine w_al rfl rfl hS ?_; clear hS; (try clear ww); intro bb ww hS) | (refine w_st rfl _ _ rfl (by rfl) (by rfl) (by repeat constructor) (by rfl) (by rfl) (by first | rfl | assumption) hS ?_; clear hS; (try clear ww); intro ww hS) | (refine w_s1 rfl _ _ rfl (by rfl) (by repeat constructor) (by first | exact .c | exact .t rfl) (by rfl) (by repeat constructor) hS ?_; clear hS; (try clear ww); intro ww hS))
  have a6 : w2.cell? ⟨k, o + 6, none⟩ = some (.int .i64 (x + max 0 (-x))) := hk010 6 _ rfl
  have a7 : w2.cell? ⟨k, o + 7, none⟩ = some (.int .i64 up) := hk010 7 _ rfl
  have b6 : w2.cell? ⟨k2, o2 + 6, none⟩ = some (.int .i64 (x + max 0 (-x))) := hx0 6 _ rfl
  have b7 : w2.cell? ⟨k2, o2 + 7, none⟩ = some (.int .i64 (up + z)) := hx0 7 _ rfl
  have v8c : w2.cell? ⟨_, 8, none⟩ = some (.slice (some ⟨k, o, none⟩) 2 kc) := hV10 8 _ rfl
  generalize x + max 0 (-x) = xr at *
  (try simp only [Act.put]); (try simp only [List.setIfInBounds_toArray]); (try simp only [List.set_cons_succ]); (try simp only [List.set_cons_zero])
  refine own_region hS (by kernel_rfl) (by kernel_rfl) ?_
  (try simp only [List.append])
  (try simp only); (try simp only [List.drop_succ_cons]); (try simp only [List.drop_zero]); (try simp only [List.take_succ_cons]); (try simp only [List.take_zero])
  repeat (first
      | (first | (refine quiet_plain rfl ?_) | (refine quiet_yes rfl rfl rfl (by simp only [List.getElem?_toArray, List.getElem?_cons_succ, List.getElem?_cons_zero]; rfl) (by with_reducible constructor) ?_)
         apply Exists.intro; refine ⟨?_, ?_⟩
         focus (intro wq hq0; have hq : Own _ _ _ wq := hq0; first | (exact quietAt_rd rfl (by rfl) (by first | exact rd_1 (by repeat constructor) (by first | rfl | assumption) | exact rd_w (by repeat constructor) (by rfl) | exact rd_o (by assumption) (by rfl) (by first | exact nmn | assumption | simp) | exact rd_h (by assumption) (by rfl) (by first | exact nmn | assumption | simp) | exact rd_1o (by assumption) (by first | exact nmn | assumption | simp) | exact rd_1h (by assumption) (by first | rfl | assumption) (by first | exact nmn | assumption | simp)) hq) | (go_simp; first | (with_reducible rfl)))
         simp only [Act.put, List.setIfInBounds_toArray, List.set_cons_zero, List.set_cons_succ])
      | (refine quiet_no rfl rfl rfl (by simp only [List.getElem?_toArray, List.getElem?_cons_succ, List.getElem?_cons_zero]; rfl) (by with_reducible constructor) ?_; simp only [Act.put, List.setIfInBounds_toArray, List.set_cons_zero, List.set_cons_succ]))
  refine wpQuiet_nil ?_
  clear hS
  intro ww hS
  go_wp2_with (first | (refine own_unguard (by rfl) ?_) | (refine w_ld rfl _ rfl (by rfl) (by first | exact rd_1 (by repeat constructor) (by first | rfl | assumption) | exact rd_w (by repeat constructor) (by rfl) | exact rd_o (by assumption) (by rfl) (by first | exact nmn | assumption | simp) | exact rd_h (by assumption) (by rfl) (by first | exact nmn | assumption | simp) | exact rd_1o (by assumption) (by first | exact nmn | assumption | simp) | exact rd_1h (by assumption) (by first | rfl | assumption) (by first | exact nmn | assumption | simp)) hS ?_) | (refine own_box rfl _ _ rfl (by rfl) hS ?_; clear hS; (try clear ww); intro bb ww hS) | (refine w_al rfl rfl hS ?_; clear hS; (try clear ww); intro bb ww hS) | (refine w_st rfl _ _ rfl (by rfl) (by rfl) (by repeat constructor) (by rfl) (by rfl) (by first | rfl | assumption) hS ?_; clear hS; (try clear ww); intro ww hS) | (refine w_s1 rfl _ _ rfl (by rfl) (by repeat constructor) (by first | exact .c | exact .t rfl) (by rfl) (by repeat constructor) hS ?_; clear hS; (try clear ww); intro ww hS))
  go_ret
  exact ⟨rfl, bthen HBx.out hS.below⟩

theorem accentRaised_calls (F : Fnt) (l : Int) (c : Bool) (s : ByteArray) (n : Nat) (body : Bx (n + 1)) (cs : List Value) (z : Int) (w : World) (hF : FntOk w F) (hr : Rep w (n + 1) body cs) (hz : 0 ≤ z ∧ z ≤ 65535) : Calls Try.prog 7 #[.agg (caseA F l c s cs).toArray, .int .u16 z] w (Gives (.bool true) w) := by
  by_cases h : MadeA F l n s body
  · by_cases hlow : body.1.h ≤ par F l F.acc
    · exact accentRaised_low F l c s n body cs w hF hr z hz h hlow
    · exact accentRaised_high F l c s n body cs w hF hr z hz h hlow
  · exact accentRaised_bad F l c s n body cs w hF hr z h

end Go.Proofs.Ytceigjonhabmmaa
