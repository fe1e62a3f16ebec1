/- Chapter 32, FractionCentred: the law returns true. -/
import Derived.Test.YtfmoghkffffmmaaK14
namespace Go.Proofs.Ytfmoghkffffmmaa
open Go.RowKit

attribute [local irreducible] wpQuiet wpG wpP wpK wpList Code.wp Calls

set_option maxHeartbeats 8000000 in
set_option maxRecDepth 100000 in
theorem fractionCentred_bad (F : Fnt) (l : Int) (c : Bool) (n : Nat) (num den : Bx (n + 1)) (cs ds : List Value) (w : World) (hF : FntOk w F) (hr : Rep w (n + 1) num cs) (hs : Rep w (n + 1) den ds) (hb : ¬ MadeOk F l n num den) : Calls Try.prog 5 #[.agg (caseL F l c cs ds).toArray] w (Gives (.bool true) w) := by
  have HM := Lib.hid (fun w' (h : Below w.heap.size w w') => made32_bad F l c n num den cs ds w' (hF.below h) (hr.step h) (hs.step h) 0 hb)
  have h11 := hr.len
  have h12 := hs.len
  obtain ⟨c0, c1, c2, c3, c4, c5, c6, c7, c8, c9, c10, rfl⟩ := eleven h11
  obtain ⟨d0, d1, d2, d3, d4, d5, d6, d7, d8, d9, d10, rfl⟩ := eleven h12
  clear hF hr hs h11 h12 hb
  go_enter Try.func5, Try.ntmps5
  have hS := own_start w
  go_wp2_with (first | (refine own_unguard (by rfl) ?_) | (refine own_box rfl _ _ rfl rfl hS ?_; clear hS; intro kb w0 hS0; have hB0 := hS0.below; have hrC := has_range (hS0.get at0); have hrF : w0.rangeAt kb 0 F.cells := fun j v hj => hrC j v (case_f (F := F) (l := l) (c := c) (cs := [c0, c1, c2, c3, c4, c5, c6, c7, c8, c9, c10]) (ds := [d0, d1, d2, d3, d4, d5, d6, d7, d8, d9, d10]) hj); have hrS : w0.rangeAt kb 22 [.int .i64 l, .bool c] := fun j v hj => (case_off hrC (case_s (F := F) (l := l) (c := c) (cs := [c0, c1, c2, c3, c4, c5, c6, c7, c8, c9, c10]) (ds := [d0, d1, d2, d3, d4, d5, d6, d7, d8, d9, d10]) hj)); have hrN : w0.rangeAt kb 24 [c0, c1, c2, c3, c4, c5, c6, c7, c8, c9, c10] := fun j v hj => (case_off hrC (case_n (F := F) (l := l) (c := c) (ds := [d0, d1, d2, d3, d4, d5, d6, d7, d8, d9, d10]) hj)); have hrD : w0.rangeAt kb 35 [d0, d1, d2, d3, d4, d5, d6, d7, d8, d9, d10] := fun j v hj => (case_off hrC (case_d (F := F) (l := l) (c := c) hj)); have hS := own_start w0; clear hS0) | (refine own_load_old rfl _ _ rfl rfl hS hrC List.not_mem_nil rt_case ?_) | (refine own_load_old rfl _ _ rfl rfl hS hrF List.not_mem_nil rt_font ?_) | (refine own_load_old rfl _ _ rfl rfl hS hrS List.not_mem_nil rt_style ?_) | (refine own_load_old rfl _ _ rfl rfl hS hrN List.not_mem_nil rt_box ?_) | (refine own_load_old rfl _ _ rfl rfl hS hrD List.not_mem_nil rt_box ?_) | (go_at_call 9; refine own_calls hS (awake32_calls _) ?_; clear hS; (try clear ww); intro ww hS) | (go_at_call 14; refine Calls.mono (HM.out _ (bthen hB0 hS.below)) ?_; rintro e w1 ⟨cs1, rfl, hR1, hb1⟩; have hB1 := bthen hB0 (bthen hS.below hb1); obtain ⟨kx, kc, sx, sc, rfl⟩ := zero_out hR1; clear hR1 hS hb1; have hS := own_start w1) | (refine w_ld rfl _ rfl (by rfl) (by first | exact rd_1 (by repeat constructor) (by first | rfl | assumption) | exact rd_w (by repeat constructor) (by rfl) | exact rd_o (by assumption) (by rfl) (by first | exact nmn | assumption | simp) | exact rd_h (by assumption) (by rfl) (by first | exact nmn | assumption | simp) | exact rd_1o (by assumption) (by first | exact nmn | assumption | simp) | exact rd_1h (by assumption) (by first | rfl | assumption) (by first | exact nmn | assumption | simp)) hS ?_) | (refine own_box rfl _ _ rfl (by rfl) hS ?_; clear hS; (try clear ww); intro bb ww hS) | (refine w_al rfl rfl hS ?_; clear hS; (try clear ww); intro bb ww hS) | (refine w_st rfl _ _ rfl (by rfl) (by rfl) (by repeat constructor) (by rfl) (by rfl) (by first | rfl | assumption) hS ?_; clear hS; (try clear ww); intro ww hS) | (refine w_s1 rfl _ _ rfl (by rfl) (by repeat constructor) (by first | exact .c | exact .t rfl) (by rfl) (by repeat constructor) hS ?_; clear hS; (try clear ww); intro ww hS))
  go_ret
  exact ⟨rfl, bthen hB1 hS.below⟩

/-- A kid is centred, and its numbers are small. -/
def CenK (W kw kx : Int) : Prop := (-1 ≤ 2 * kx + kw - W ∧ 2 * kx + kw - W ≤ 1) ∧ (-1000000000 ≤ kx ∧ kx ≤ 1000000000) ∧ (-1000000000 ≤ kw ∧ kw ≤ 1000000000) ∧ (-1000000000 ≤ W ∧ W ≤ 1000000000)

set_option maxHeartbeats 16000000 in
set_option maxRecDepth 100000 in
theorem fractionCentred_good (F : Fnt) (l : Int) (c : Bool) (n : Nat) (num den : Bx (n + 1)) (cs ds : List Value) (w : World) (hF : FntOk w F) (hr : Rep w (n + 1) num cs) (hs : Rep w (n + 1) den ds) (h : MadeOk F l n num den) : Calls Try.prog 5 #[.agg (caseL F l c cs ds).toArray] w (Gives (.bool true) w) := by
  obtain ⟨⟨br1, br2⟩, ⟨by1, by2⟩, ⟨bg1, bg2⟩, ⟨bu1, bu2⟩, ⟨bd1, bd2⟩⟩ := made_nums h
  have mn := modB_out h.2.1
  have md := modB_out h.2.2.1
  have HM := Lib.hid (fun w' (hb : Below w.heap.size w w') => made32_yes F l c n num den cs ds w' (hF.below hb) (hr.step hb) (hs.step hb) h.1 h.2.1 h.2.2.1 h.2.2.2.1 h.2.2.2.2)
  have hp := prm_len h.2.2.2.1.1
  have HP := Lib.hid (fun w' => ref32_Par_calls F l F.axis c w' h.2.2.2.1.2.1 h.2.2.2.1.1 (by omega))
  obtain ⟨⟨nk, nn, nsz, nw, nh, nd, nx, ny, nof, nsrc⟩, nkids⟩ := num
  obtain ⟨⟨dk, dn, dsz, dw, dh, dd, dx, dy, dof, dsrc⟩, dkids⟩ := den
  unfold fracB at HM
  simp only at HM mn md
  have bU : max (fracUp F l) (fracY F l + par F l F.rule + fracGap l (par F l F.rule) + nd) = fracUpY F l nd := rfl
  have bV : max (fracDown F l) (dh + fracGap l (par F l F.rule) - fracY F l) = fracDnY F l dh := rfl
  have bW : max (max 0 nw) dw = fracW nw dw := rfl
  have bY : par F l F.axis - hlf (par F l F.rule) = fracY F l := rfl
  have bh := hlf_in br1 (by omega)
  have bxn := hlf_in (n := fracW nw dw - nw) (by omega) (by omega)
  have bxd := hlf_in (n := fracW nw dw - dw) (by omega) (by omega)
  have HK0 := Lib.hid (show CenK (fracW nw dw) nw (hlf (fracW nw dw - nw)) from ⟨by omega, by omega, by omega, by omega⟩)
  have HK2 := Lib.hid (show CenK (fracW nw dw) dw (hlf (fracW nw dw - dw)) from ⟨by omega, by omega, by omega, by omega⟩)
  have HK1 := Lib.hid (show CenK (fracW nw dw) (fracW nw dw) 0 from ⟨by omega, by omega, by omega, by omega⟩)
  have bp := par_in (l := l) h.2.2.2.1.1 hp.2.1.1 hp.2.1.2
  generalize fracUpY F l nd = U at *
  generalize fracDnY F l dh = V at *
  generalize par F l F.rule = r at *
  generalize par F l F.axis = ax at *
  generalize fracY F l = y at *
  generalize hlf (fracW nw dw - nw) = xn at *
  generalize hlf (fracW nw dw - dw) = xd at *
  generalize fracW nw dw = W at *
  have i1 : IntKind.i64.wrap (2 * y) = 2 * y := wrap_in (by omega)
  have i2 : IntKind.i64.wrap (2 * y + r) = 2 * y + r := wrap_in (by omega)
  have i3 : IntKind.i64.wrap (2 * ax) = 2 * ax := wrap_in (by omega)
  have i4 : IntKind.i64.wrap (2 * y + r - 2 * ax) = 2 * y + r - 2 * ax := wrap_in (by omega)
  have t1 : decide (-1 ≤ 2 * y + r - 2 * ax) = true := decide_eq_true (by omega)
  have t2 : decide (2 * y + r - 2 * ax ≤ 1) = true := decide_eq_true (by omega)
  have h11 := hr.len
  have h12 := hs.len
  obtain ⟨c0, c1, c2, c3, c4, c5, c6, c7, c8, c9, c10, rfl⟩ := eleven h11
  obtain ⟨d0, d1, d2, d3, d4, d5, d6, d7, d8, d9, d10, rfl⟩ := eleven h12
  clear hF hr hs h11 h12 h bU bV bW bY bh bxn bxd hp bp mn md br1 br2 by1 by2 bg1 bg2 bu1 bu2 bd1 bd2
  go_enter Try.func5, Try.ntmps5
  have hS := own_start w
  go_wp2_with (first | (refine own_unguard (by rfl) ?_) | (refine own_box rfl _ _ rfl rfl hS ?_; clear hS; intro kb w0 hS0; have hB0 := hS0.below; have hrC := has_range (hS0.get at0); have hrF : w0.rangeAt kb 0 F.cells := fun j v hj => hrC j v (case_f (F := F) (l := l) (c := c) (cs := [c0, c1, c2, c3, c4, c5, c6, c7, c8, c9, c10]) (ds := [d0, d1, d2, d3, d4, d5, d6, d7, d8, d9, d10]) hj); have hrS : w0.rangeAt kb 22 [.int .i64 l, .bool c] := fun j v hj => (case_off hrC (case_s (F := F) (l := l) (c := c) (cs := [c0, c1, c2, c3, c4, c5, c6, c7, c8, c9, c10]) (ds := [d0, d1, d2, d3, d4, d5, d6, d7, d8, d9, d10]) hj)); have hrN : w0.rangeAt kb 24 [c0, c1, c2, c3, c4, c5, c6, c7, c8, c9, c10] := fun j v hj => (case_off hrC (case_n (F := F) (l := l) (c := c) (ds := [d0, d1, d2, d3, d4, d5, d6, d7, d8, d9, d10]) hj)); have hrD : w0.rangeAt kb 35 [d0, d1, d2, d3, d4, d5, d6, d7, d8, d9, d10] := fun j v hj => (case_off hrC (case_d (F := F) (l := l) (c := c) hj)); have hS := own_start w0; clear hS0) | (refine own_load_old rfl _ _ rfl rfl hS hrC List.not_mem_nil rt_case ?_) | (refine own_load_old rfl _ _ rfl rfl hS hrF List.not_mem_nil rt_font ?_) | (refine own_load_old rfl _ _ rfl rfl hS hrS List.not_mem_nil rt_style ?_) | (refine own_load_old rfl _ _ rfl rfl hS hrN List.not_mem_nil rt_box ?_) | (refine own_load_old rfl _ _ rfl rfl hS hrD List.not_mem_nil rt_box ?_) | (go_at_call 9; refine own_calls hS (awake32_calls _) ?_; clear hS; (try clear ww); intro ww hS) | (go_at_call 14; refine Calls.mono (HM.out _ (bthen hB0 hS.below)) ?_; rintro e w1 ⟨cs1, rfl, hR1, hb1⟩; have hrF1 := rangeAt_below (hS.range List.not_mem_nil hrF) hb1; have hrS1 := rangeAt_below (hS.range List.not_mem_nil hrS) hb1; have hrN1 := rangeAt_below (hS.range List.not_mem_nil hrN) hb1; have hrD1 := rangeAt_below (hS.range List.not_mem_nil hrD) hb1; have hB1 := bthen hB0 (bthen hS.below hb1); obtain ⟨k, o, kc, sx, sc, q0, q1, q2, rfl, hk0, hk1, hk2, hp0, hp1, hp2⟩ := three_out hR1; obtain ⟨kx0, kc0, sx0, sc0, rfl⟩ := kid_out hp0; obtain ⟨kx1, kc1, sx1, sc1, rfl⟩ := rule_out hp1; obtain ⟨kx2, kc2, sx2, sc2, rfl⟩ := kid_out hp2;  clear hR1 hS hb1 hp0 hp1 hp2; have hS := own_start w1) | (refine w_ld rfl _ rfl (by rfl) (by first | exact rd_1 (by repeat constructor) (by first | rfl | assumption) | exact rd_w (by repeat constructor) (by rfl) | exact rd_o (by assumption) (by rfl) (by first | exact nmn | assumption | simp) | exact rd_h (by assumption) (by rfl) (by first | exact nmn | assumption | simp) | exact rd_1o (by assumption) (by first | exact nmn | assumption | simp) | exact rd_1h (by assumption) (by first | rfl | assumption) (by first | exact nmn | assumption | simp)) hS ?_) | (refine own_box rfl _ _ rfl (by rfl) hS ?_; clear hS; (try clear ww); intro bb ww hS) | (refine w_al rfl rfl hS ?_; clear hS; (try clear ww); intro bb ww hS) | (refine w_st rfl _ _ rfl (by rfl) (by rfl) (by repeat constructor) (by rfl) (by rfl) (by first | rfl | assumption) hS ?_; clear hS; (try clear ww); intro ww hS) | (refine w_s1 rfl _ _ rfl (by rfl) (by repeat constructor) (by first | exact .c | exact .t rfl) (by rfl) (by repeat constructor) hS ?_; clear hS; (try clear ww); intro ww hS))
  obtain ⟨L0, HL, hS⟩ := hS.named
  have HKid : Hid (∀ m : Nat, m < 3 → ∃ q0 q1 q2 q4 q5 q7 q8 q9 q10 : Value, ∃ kw kx : Int, w1.rangeAt k (o + m * 11) [q0, q1, q2, .int .i64 kw, q4, q5, .int .i64 kx, q7, q8, q9, q10] ∧ ([q0, q1, q2, .int .i64 kw, q4, q5, .int .i64 kx, q7, q8, q9, q10].all (·.oneCell') = true) ∧ CenK W kw kx) := by
    intro m hm
    rcases m with _ | _ | _ | m
    · exact ⟨_, _, _, _, _, _, _, _, _, _, _, by rw [Nat.zero_mul]; exact hk0, rfl, HK0.out⟩
    · exact ⟨_, _, _, _, _, _, _, _, _, _, _, by rw [Nat.one_mul]; exact hk1, rfl, HK1.out⟩
    · exact ⟨_, _, _, _, _, _, _, _, _, _, _, hk2, rfl, HK2.out⟩
    · omega
  clear HK0 HK1 HK2
  go_loopw [5] (fun i wr => ∃ m : Nat, m ≤ 3 ∧ i = .int .i64 m ∧ Own [] w1 L0 wr) (fun i _ => 3 - (intOf i).toNat)
  case atStart => exact ⟨0, Nat.zero_le _, rfl, hS⟩
  case round =>
    clear hS
    obtain ⟨m, hm, rfl, hS⟩ := hrel
    obtain rfl := HL.out
    clear HL
    by_cases hlt : m < 3
    · obtain ⟨q0, q1, q2, q4, q5, q7, q8, q9, q10, kw, kx, hq, hall, hc1, hc2, hc3, hc4⟩ := HKid.out m hlt
      have j1 : IntKind.i64.wrap (2 * kx) = 2 * kx := wrap_in (by omega)
      have j2 : IntKind.i64.wrap (2 * kx + kw) = 2 * kx + kw := wrap_in (by omega)
      have j3 : IntKind.i64.wrap (2 * kx + kw - W) = 2 * kx + kw - W := wrap_in (by omega)
      have j4 : decide (2 * kx + kw - W < -1) = false := decide_eq_false (by omega)
      have j5 : decide (1 < 2 * kx + kw - W) = false := decide_eq_false (by omega)
      clear hc1 hc2 hc3 hc4
      go_wp2_with (first | (refine own_unguard (by rfl) ?_) | (refine own_load_old rfl _ _ rfl rfl hS hq List.not_mem_nil rt_box ?_) | (refine w_ld rfl _ rfl (by rfl) (by first | exact rd_1 (by repeat constructor) (by first | rfl | assumption) | exact rd_w (by repeat constructor) (by rfl) | exact rd_o (by assumption) (by rfl) (by first | exact nmn | assumption | simp) | exact rd_h (by assumption) (by rfl) (by first | exact nmn | assumption | simp) | exact rd_1o (by assumption) (by first | exact nmn | assumption | simp) | exact rd_1h (by assumption) (by first | rfl | assumption) (by first | exact nmn | assumption | simp)) hS ?_) | (refine own_box rfl _ _ rfl (by rfl) hS ?_; clear hS; (try clear ww); intro bb ww hS) | (refine w_al rfl rfl hS ?_; clear hS; (try clear ww); intro bb ww hS) | (refine w_st rfl _ _ rfl (by rfl) (by rfl) (by repeat constructor) (by rfl) (by rfl) (by first | rfl | assumption) hS ?_; clear hS; (try clear ww); intro ww hS) | (refine w_s1 rfl _ _ rfl (by rfl) (by repeat constructor) (by first | exact .c | exact .t rfl) (by rfl) (by repeat constructor) hS ?_; clear hS; (try clear ww); intro ww hS))
      go_roundw
      case rel => exact ⟨m + 1, hlt, by go_num, hS.forget (List.sublist_cons_self _ _)⟩
      case measure => exact loop_meas hlt
    · obtain rfl : m = 3 := by omega
      have hax : w1.cell? ⟨kb, 4, none⟩ = some (.int .i64 F.axis) := hrF1 4 _ rfl
      go_upto_region 14 with (first | (refine own_unguard (by rfl) ?_) | (refine own_load_old rfl _ _ rfl rfl hS hrC List.not_mem_nil rt_case ?_) | (refine own_load_old rfl _ _ rfl rfl hS hrF List.not_mem_nil rt_font ?_) | (refine own_load_old rfl _ _ rfl rfl hS hrS List.not_mem_nil rt_style ?_) | (refine own_load_old rfl _ _ rfl rfl hS hrN List.not_mem_nil rt_box ?_) | (refine own_load_old rfl _ _ rfl rfl hS hrD List.not_mem_nil rt_box ?_) | (refine own_load_old rfl _ _ rfl rfl hS hrF1 List.not_mem_nil rt_font ?_) | (refine own_load_old rfl _ _ rfl rfl hS hrS1 List.not_mem_nil rt_style ?_) | (refine w_ld rfl _ rfl (by rfl) (by first | exact rd_1 (by repeat constructor) (by first | rfl | assumption) | exact rd_w (by repeat constructor) (by rfl) | exact rd_o (by assumption) (by rfl) (by first | exact nmn | assumption | simp) | exact rd_h (by assumption) (by rfl) (by first | exact nmn | assumption | simp) | exact rd_1o (by assumption) (by first | exact nmn | assumption | simp) | exact rd_1h (by assumption) (by first | rfl | assumption) (by first | exact nmn | assumption | simp)) hS ?_) | (refine own_box rfl _ _ rfl (by rfl) hS ?_; clear hS; (try clear ww); intro bb ww hS) | (refine w_al rfl rfl hS ?_; clear hS; (try clear ww); intro bb ww hS) | (refine w_st rfl _ _ rfl (by rfl) (by rfl) (by repeat constructor) (by rfl) (by rfl) (by first | rfl | assumption) hS ?_; clear hS; (try clear ww); intro ww hS) | (refine w_s1 rfl _ _ rfl (by rfl) (by repeat constructor) (by first | exact .c | exact .t rfl) (by rfl) (by repeat constructor) hS ?_; clear hS; (try clear ww); intro ww hS))
      (try simp only [Act.put]); (try simp only [List.setIfInBounds_toArray]); (try simp only [List.set_cons_succ]); (try simp only [List.set_cons_zero])
      refine own_region hS (by kernel_rfl) (by kernel_rfl) ?_
      (try simp only); (try simp only [List.drop_succ_cons]); (try simp only [List.drop_zero]); (try simp only [List.take_succ_cons]); (try simp only [List.take_zero])
      repeat (first
          | (first | (refine quiet_plain rfl ?_) | (refine quiet_yes rfl rfl rfl (by simp only [List.getElem?_toArray, List.getElem?_cons_succ, List.getElem?_cons_zero]; rfl) (by with_reducible constructor) ?_)
             apply Exists.intro; refine ⟨?_, ?_⟩
             focus (intro wq hq0; have hq : Own _ _ _ wq := hq0; first | (exact quietAt_rd rfl (by rfl) (by first | exact rd_1 (by repeat constructor) (by first | rfl | assumption) | exact rd_w (by repeat constructor) (by rfl) | exact rd_o (by assumption) (by rfl) (by first | exact nmn | assumption | simp) | exact rd_h (by assumption) (by rfl) (by first | exact nmn | assumption | simp) | exact rd_1o (by assumption) (by first | exact nmn | assumption | simp) | exact rd_1h (by assumption) (by first | rfl | assumption) (by first | exact nmn | assumption | simp)) hq) | (go_simp; first | (go_at_call 16; exact quietG hq (HP.out _)) | (with_reducible rfl)))
             simp only [Act.put, List.setIfInBounds_toArray, List.set_cons_zero, List.set_cons_succ])
          | (refine quiet_no rfl rfl rfl (by simp only [List.getElem?_toArray, List.getElem?_cons_succ, List.getElem?_cons_zero]; rfl) (by with_reducible constructor) ?_; simp only [Act.put, List.setIfInBounds_toArray, List.set_cons_zero, List.set_cons_succ]))
      refine wpQuiet_nil ?_
      clear hS
      intro ww hS
      go_wp2_with (first | (refine own_unguard (by rfl) ?_) | (refine own_load_old rfl _ _ rfl rfl hS hrC List.not_mem_nil rt_case ?_) | (refine own_load_old rfl _ _ rfl rfl hS hrF List.not_mem_nil rt_font ?_) | (refine own_load_old rfl _ _ rfl rfl hS hrS List.not_mem_nil rt_style ?_) | (refine own_load_old rfl _ _ rfl rfl hS hrN List.not_mem_nil rt_box ?_) | (refine own_load_old rfl _ _ rfl rfl hS hrD List.not_mem_nil rt_box ?_) | (refine own_load_old rfl _ _ rfl rfl hS hrF1 List.not_mem_nil rt_font ?_) | (refine own_load_old rfl _ _ rfl rfl hS hrS1 List.not_mem_nil rt_style ?_) | (refine w_ld rfl _ rfl (by rfl) (by first | exact rd_1 (by repeat constructor) (by first | rfl | assumption) | exact rd_w (by repeat constructor) (by rfl) | exact rd_o (by assumption) (by rfl) (by first | exact nmn | assumption | simp) | exact rd_h (by assumption) (by rfl) (by first | exact nmn | assumption | simp) | exact rd_1o (by assumption) (by first | exact nmn | assumption | simp) | exact rd_1h (by assumption) (by first | rfl | assumption) (by first | exact nmn | assumption | simp)) hS ?_) | (refine own_box rfl _ _ rfl (by rfl) hS ?_; clear hS; (try clear ww); intro bb ww hS) | (refine w_al rfl rfl hS ?_; clear hS; (try clear ww); intro bb ww hS) | (refine w_st rfl _ _ rfl (by rfl) (by rfl) (by repeat constructor) (by rfl) (by rfl) (by first | rfl | assumption) hS ?_; clear hS; (try clear ww); intro ww hS) | (refine w_s1 rfl _ _ rfl (by rfl) (by repeat constructor) (by first | exact .c | exact .t rfl) (by rfl) (by repeat constructor) hS ?_; clear hS; (try clear ww); intro ww hS))
      go_ret
      exact ⟨rfl, bthen hB1 hS.below⟩

theorem fractionCentred_calls (F : Fnt) (l : Int) (c : Bool) (n : Nat) (num den : Bx (n + 1)) (cs ds : List Value) (w : World) (hF : FntOk w F) (hr : Rep w (n + 1) num cs) (hs : Rep w (n + 1) den ds) : Calls Try.prog 5 #[.agg (caseL F l c cs ds).toArray] w (Gives (.bool true) w) := by
  by_cases h : MadeOk F l n num den
  · exact fractionCentred_good F l c n num den cs ds w hF hr hs h
  · exact fractionCentred_bad F l c n num den cs ds w hF hr hs h

end Go.Proofs.Ytfmoghkffffmmaa
