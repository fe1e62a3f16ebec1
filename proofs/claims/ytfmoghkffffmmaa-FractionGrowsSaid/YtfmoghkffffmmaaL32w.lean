/- Chapter 32, FractionGrows: the law returns true. -/
import Derived.Test.YtfmoghkffffmmaaGrw
import Derived.Test.YtfmoghkffffmmaaK14
namespace Go.Proofs.Ytfmoghkffffmmaa
open Go.RowKit

attribute [local irreducible] wpQuiet wpG wpP wpK wpList Code.wp Calls

instance zt_case : ZeroTy Try.prog 35 [.slice none 0 0, .slice none 0 0, .int .i64 0, .int .i64 0, .int .i64 0, .int .i64 0, .int .i64 0, .int .i64 0, .int .i64 0, .int .i64 0, .int .i64 0, .int .i64 0, .int .i64 0, .int .i64 0, .int .i64 0, .int .i64 0, .int .i64 0, .int .i64 0, .int .i64 0, .int .i64 0, .int .i64 0, .int .i64 0, .int .i64 0, .bool false, .int .i64 0, .string ⟨#[]⟩, .int .i64 0, .int .i64 0, .int .i64 0, .int .i64 0, .int .i64 0, .int .i64 0, .slice none 0 0, .int .i64 0, .slice none 0 0, .int .i64 0, .string ⟨#[]⟩, .int .i64 0, .int .i64 0, .int .i64 0, .int .i64 0, .int .i64 0, .int .i64 0, .slice none 0 0, .int .i64 0, .slice none 0 0] := ⟨.agg #[.slice none 0 0, .slice none 0 0, .int .i64 0, .int .i64 0, .int .i64 0, .int .i64 0, .int .i64 0, .int .i64 0, .int .i64 0, .int .i64 0, .int .i64 0, .int .i64 0, .int .i64 0, .int .i64 0, .int .i64 0, .int .i64 0, .int .i64 0, .int .i64 0, .int .i64 0, .int .i64 0, .int .i64 0, .int .i64 0, .int .i64 0, .bool false, .int .i64 0, .string ⟨#[]⟩, .int .i64 0, .int .i64 0, .int .i64 0, .int .i64 0, .int .i64 0, .int .i64 0, .slice none 0 0, .int .i64 0, .slice none 0 0, .int .i64 0, .string ⟨#[]⟩, .int .i64 0, .int .i64 0, .int .i64 0, .int .i64 0, .int .i64 0, .int .i64 0, .slice none 0 0, .int .i64 0, .slice none 0 0], by kernel_rfl, rfl⟩
theorem range_sub {w : World} {b : Nat} {L cs : List Value} (h : w.rangeAt b 0 L) (i : Nat) (e : (L.drop i).take cs.length = cs) : w.rangeAt b i cs := fun j v hj => by
  have h1 : L[i + j]? = some v := by
    rw [← hj, ← e, List.getElem?_take, List.getElem?_drop, if_pos (List.getElem?_eq_some_iff.1 hj).1]
  have := h (i + j) v h1
  rwa [Nat.zero_add] at this
theorem fracUp_mono {F : Fnt} {l d m : Int} (h : 0 ≤ m) : fracUpY F l d ≤ fracUpY F l (d + m) := by unfold fracUpY; omega
theorem fracDn_mono {F : Fnt} {l d m : Int} (h : 0 ≤ m) : fracDnY F l d ≤ fracDnY F l (d + m) := by unfold fracDnY; omega

set_option maxHeartbeats 8000000 in
set_option maxRecDepth 100000 in
theorem fractionGrows_bad (F : Fnt) (l : Int) (c : Bool) (n : Nat) (num den : Bx (n + 1)) (cs ds : List Value) (w : World) (hF : FntOk w F) (hr : Rep w (n + 1) num cs) (hs : Rep w (n + 1) den ds) (m : Int) (hb : ¬ MadeOk F l n num den) : Calls Try.prog 7 #[.agg (caseL F l c cs ds).toArray, .int .u16 m] w (Gives (.bool true) w) := by
  have HM := Lib.hid (fun w' (h : Below w.heap.size w w') => made32_bad F l c n num den cs ds w' (hF.below h) (hr.step h) (hs.step h) 0 hb)
  have h11 := hr.len
  have h12 := hs.len
  obtain ⟨c0, c1, c2, c3, c4, c5, c6, c7, c8, c9, c10, rfl⟩ := eleven h11
  obtain ⟨d0, d1, d2, d3, d4, d5, d6, d7, d8, d9, d10, rfl⟩ := eleven h12
  clear hF hr hs h11 h12 hb
  go_enter Try.func7, Try.ntmps7
  have hS := own_start w
  go_wp2_with (first | (refine own_unguard (by rfl) ?_) | (refine own_box rfl _ _ rfl rfl hS ?_; clear hS; intro kb w0 hS0; have hB0 := hS0.below; have hrC := has_range (hS0.get at0); have hrF : w0.rangeAt kb 0 F.cells := fun j v hj => hrC j v (case_f (F := F) (l := l) (c := c) (cs := [c0, c1, c2, c3, c4, c5, c6, c7, c8, c9, c10]) (ds := [d0, d1, d2, d3, d4, d5, d6, d7, d8, d9, d10]) hj); have hrS : w0.rangeAt kb 22 [.int .i64 l, .bool c] := fun j v hj => (case_off hrC (case_s (F := F) (l := l) (c := c) (cs := [c0, c1, c2, c3, c4, c5, c6, c7, c8, c9, c10]) (ds := [d0, d1, d2, d3, d4, d5, d6, d7, d8, d9, d10]) hj)); have hrN : w0.rangeAt kb 24 [c0, c1, c2, c3, c4, c5, c6, c7, c8, c9, c10] := fun j v hj => (case_off hrC (case_n (F := F) (l := l) (c := c) (ds := [d0, d1, d2, d3, d4, d5, d6, d7, d8, d9, d10]) hj)); have hrD : w0.rangeAt kb 35 [d0, d1, d2, d3, d4, d5, d6, d7, d8, d9, d10] := fun j v hj => (case_off hrC (case_d (F := F) (l := l) (c := c) hj)); have hS := own_start w0; clear hS0) | (refine own_load_old rfl _ _ rfl rfl hS hrC List.not_mem_nil rt_case ?_) | (refine own_load_old rfl _ _ rfl rfl hS hrF List.not_mem_nil rt_font ?_) | (refine own_load_old rfl _ _ rfl rfl hS hrS List.not_mem_nil rt_style ?_) | (refine own_load_old rfl _ _ rfl rfl hS hrN List.not_mem_nil rt_box ?_) | (refine own_load_old rfl _ _ rfl rfl hS hrD List.not_mem_nil rt_box ?_) | (go_at_call 9; refine own_calls hS (awake32_calls _) ?_; clear hS; (try clear ww); intro ww hS) | (go_at_call 14; refine Calls.mono (HM.out _ (bthen hB0 hS.below)) ?_; rintro e w1 ⟨cs1, rfl, hR1, hb1⟩; have hB1 := bthen hB0 (bthen hS.below hb1); obtain ⟨kx, kc, sx, sc, rfl⟩ := zero_out hR1; clear hR1 hS hb1; have hS := own_start w1) | (refine w_ld rfl _ rfl (by rfl) (by first | exact rd_1 (by repeat constructor) (by first | rfl | assumption) | exact rd_w (by repeat constructor) (by rfl) | exact rd_o (by assumption) (by rfl) (by first | exact nmn | assumption | simp) | exact rd_h (by assumption) (by rfl) (by first | exact nmn | assumption | simp) | exact rd_1o (by assumption) (by first | exact nmn | assumption | simp) | exact rd_1h (by assumption) (by first | rfl | assumption) (by first | exact nmn | assumption | simp)) hS ?_) | (refine own_box rfl _ _ rfl (by rfl) hS ?_; clear hS; (try clear ww); intro bb ww hS) | (refine w_al rfl rfl hS ?_; clear hS; (try clear ww); intro bb ww hS) | (refine w_st rfl _ _ rfl (by rfl) (by rfl) (by repeat constructor) (by rfl) (by rfl) (by first | rfl | assumption) hS ?_; clear hS; (try clear ww); intro ww hS) | (refine w_s1 rfl _ _ rfl (by rfl) (by repeat constructor) (by first | exact .c | exact .t rfl) (by rfl) (by repeat constructor) hS ?_; clear hS; (try clear ww); intro ww hS))
  go_ret
  exact ⟨rfl, bthen hB1 hS.below⟩

set_option maxHeartbeats 16000000 in
set_option maxRecDepth 100000 in
theorem fractionGrows_good (F : Fnt) (l : Int) (c : Bool) (n : Nat) (num den : Bx (n + 1)) (cs ds : List Value) (w : World) (hF : FntOk w F) (hr : Rep w (n + 1) num cs) (hs : Rep w (n + 1) den ds) (m : Int) (hm : 0 ≤ m ∧ m ≤ 65535) (h : MadeOk F l n num den) : Calls Try.prog 7 #[.agg (caseL F l c cs ds).toArray, .int .u16 m] w (Gives (.bool true) w) := by
  have HM := Lib.hid (fun w' (hb : Below w.heap.size w w') => made32_yes F l c n num den cs ds w' (hF.below hb) (hr.step hb) (hs.step hb) h.1 h.2.1 h.2.2.1 h.2.2.2.1 h.2.2.2.2)
  have mn := modB_out h.2.1
  have md := modB_out h.2.2.1
  have tu := fracUp_mono (F := F) (l := l) (d := num.1.d) hm.1
  have tv := fracDn_mono (F := F) (l := l) (d := den.1.h) hm.1
  have vX := frac_valid h (d' := num.1.d + m) (h' := den.1.h) (by omega) (by omega)
  have vY := frac_valid h (d' := num.1.d) (h' := den.1.h + m) (by omega) (by omega)
  have vn := validB_dim h.2.2.2.1.2.2.1 h.2.1 (h := num.1.h) (d := num.1.d + m) (by omega) (by omega)
  have vd := validB_dim h.2.2.2.1.2.2.2 h.2.2.1 (h := den.1.h + m) (d := den.1.d) (by omega) (by omega)
  obtain ⟨⟨nk, nn, nsz, nw, nh, nd, nx, ny, nof, nsrc⟩, nkids⟩ := num
  obtain ⟨⟨dk, dn, dsz, dw, dh, dd, dx, dy, dof, dsrc⟩, dkids⟩ := den
  simp only at mn md tu tv
  obtain ⟨kxn, kcn, sxn, scn, rfl⟩ := kid_out hr
  obtain ⟨kxd, kcd, sxd, scd, rfl⟩ := kid_out hs
  obtain ⟨k8, h8⟩ : ∃ v, Value.slice kxn nkids.length kcn = v := ⟨_, rfl⟩
  obtain ⟨k10, h10⟩ : ∃ v, Value.slice sxn nsrc.length scn = v := ⟨_, rfl⟩
  obtain ⟨m8, g8⟩ : ∃ v, Value.slice kxd dkids.length kcd = v := ⟨_, rfl⟩
  obtain ⟨m10, g10⟩ : ∃ v, Value.slice sxd dsrc.length scd = v := ⟨_, rfl⟩
  have ok8 : k8.oneCell' = true := by rw [← h8]; rfl
  have ok10 : k10.oneCell' = true := by rw [← h10]; rfl
  have om8 : m8.oneCell' = true := by rw [← g8]; rfl
  have om10 : m10.oneCell' = true := by rw [← g10]; rfl
  rw [h8, h10] at hr HM
  rw [g8, g10] at hs HM
  rw [h8, h10, g8, g10]
  have HX := Lib.hid (fun w' (hb : Below w.heap.size w w') => fracMake_ok F l c n (⟨nk, nn, nsz, nw, nh, nd + m, nx, ny, nof, nsrc⟩, nkids) (⟨dk, dn, dsz, dw, dh, dd, dx, dy, dof, dsrc⟩, dkids) [.int .i64 nk, .string nn, .int .i64 nsz, .int .i64 nw, .int .i64 nh, .int .i64 (nd + m), .int .i64 nx, .int .i64 ny, k8, .int .i64 nof, k10] [.int .i64 dk, .string dn, .int .i64 dsz, .int .i64 dw, .int .i64 dh, .int .i64 dd, .int .i64 dx, .int .i64 dy, m8, .int .i64 dof, m10] w' (hF.below hb) h.2.2.2.1.2.1 h.2.2.2.1.1 (rep_setD (hr.step hb) (by unfold I64; omega)) (hs.step hb) vn h.2.2.2.1.2.2.2 vX)
  have HY := Lib.hid (fun w' (hb : Below w.heap.size w w') => fracMake_ok F l c n (⟨nk, nn, nsz, nw, nh, nd, nx, ny, nof, nsrc⟩, nkids) (⟨dk, dn, dsz, dw, dh + m, dd, dx, dy, dof, dsrc⟩, dkids) [.int .i64 nk, .string nn, .int .i64 nsz, .int .i64 nw, .int .i64 nh, .int .i64 nd, .int .i64 nx, .int .i64 ny, k8, .int .i64 nof, k10] [.int .i64 dk, .string dn, .int .i64 dsz, .int .i64 dw, .int .i64 (dh + m), .int .i64 dd, .int .i64 dx, .int .i64 dy, m8, .int .i64 dof, m10] w' (hF.below hb) h.2.2.2.1.2.1 h.2.2.2.1.1 (hr.step hb) (rep_setH (hs.step hb) (by unfold I64; omega)) h.2.2.2.1.2.2.1 vd vY)
  have hall : (caseL F l c [.int .i64 nk, .string nn, .int .i64 nsz, .int .i64 nw, .int .i64 nh, .int .i64 nd, .int .i64 nx, .int .i64 ny, k8, .int .i64 nof, k10] [.int .i64 dk, .string dn, .int .i64 dsz, .int .i64 dw, .int .i64 dh, .int .i64 dd, .int .i64 dx, .int .i64 dy, m8, .int .i64 dof, m10]).all (·.oneCell') = true := by rw [← h8, ← h10, ← g8, ← g10]; rfl
  unfold fracB at HM HX HY
  simp only at HM HX HY
  generalize fracUpY F l (nd + m) = U' at *
  generalize fracDnY F l (dh + m) = V' at *
  generalize fracUpY F l nd = U at *
  generalize fracDnY F l dh = V at *
  have i1 : IntKind.i64.wrap m = m := wrap_in (by omega)
  have i2 : IntKind.i64.wrap (nd + m) = nd + m := wrap_in (by omega)
  have i3 : IntKind.i64.wrap (dh + m) = dh + m := wrap_in (by omega)
  have t1 : decide (U ≤ U') = true := decide_eq_true tu
  have t2 : decide (-V' ≤ -V) = true := decide_eq_true (by omega)
  have t3 : decide (V ≤ V') = true := decide_eq_true tv
  clear hF hr hs h mn md tu tv vX vY vn vd h8 h10 g8 g10 hm
  go_enter Try.func7, Try.ntmps7
  have hS := own_start w
  go_upto_region 6 with (first | (refine own_unguard (by rfl) ?_) | (refine own_box rfl _ _ rfl rfl hS ?_; clear hS; intro kb w0 hS0; have hB0 := hS0.below; have hrC := has_range (hS0.get at0); have hrF : w0.rangeAt kb 0 F.cells := fun j v hj => hrC j v (case_f (F := F) (l := l) (c := c) (cs := [.int .i64 nk, .string nn, .int .i64 nsz, .int .i64 nw, .int .i64 nh, .int .i64 nd, .int .i64 nx, .int .i64 ny, k8, .int .i64 nof, k10]) (ds := [.int .i64 dk, .string dn, .int .i64 dsz, .int .i64 dw, .int .i64 dh, .int .i64 dd, .int .i64 dx, .int .i64 dy, m8, .int .i64 dof, m10]) hj); have hrS : w0.rangeAt kb 22 [.int .i64 l, .bool c] := fun j v hj => (case_off hrC (case_s (F := F) (l := l) (c := c) (cs := [.int .i64 nk, .string nn, .int .i64 nsz, .int .i64 nw, .int .i64 nh, .int .i64 nd, .int .i64 nx, .int .i64 ny, k8, .int .i64 nof, k10]) (ds := [.int .i64 dk, .string dn, .int .i64 dsz, .int .i64 dw, .int .i64 dh, .int .i64 dd, .int .i64 dx, .int .i64 dy, m8, .int .i64 dof, m10]) hj)); have hrN : w0.rangeAt kb 24 [.int .i64 nk, .string nn, .int .i64 nsz, .int .i64 nw, .int .i64 nh, .int .i64 nd, .int .i64 nx, .int .i64 ny, k8, .int .i64 nof, k10] := fun j v hj => (case_off hrC (case_n (F := F) (l := l) (c := c) (ds := [.int .i64 dk, .string dn, .int .i64 dsz, .int .i64 dw, .int .i64 dh, .int .i64 dd, .int .i64 dx, .int .i64 dy, m8, .int .i64 dof, m10]) hj)); have hrD : w0.rangeAt kb 35 [.int .i64 dk, .string dn, .int .i64 dsz, .int .i64 dw, .int .i64 dh, .int .i64 dd, .int .i64 dx, .int .i64 dy, m8, .int .i64 dof, m10] := fun j v hj => (case_off hrC (case_d (F := F) (l := l) (c := c) hj)); have hS := own_start w0; clear hS0) | (refine own_load_old rfl _ _ rfl rfl hS hrC List.not_mem_nil rt_case ?_) | (refine own_load_old rfl _ _ rfl rfl hS hrF List.not_mem_nil rt_font ?_) | (refine own_load_old rfl _ _ rfl rfl hS hrS List.not_mem_nil rt_style ?_) | (refine own_load_old rfl _ _ rfl rfl hS hrN List.not_mem_nil rt_box ?_) | (refine own_load_old rfl _ _ rfl rfl hS hrD List.not_mem_nil rt_box ?_) | (go_at_call 9; refine own_calls hS (awake32_calls _) ?_; clear hS; (try clear ww); intro ww hS) | (go_at_call 14; refine Calls.mono (HM.out _ (bthen hB0 hS.below)) ?_; rintro e w1 ⟨cs1, rfl, hR1, hb1⟩; have hrC1 := rangeAt_below (hS.range List.not_mem_nil hrC) hb1; have hrF1 := rangeAt_below (hS.range List.not_mem_nil hrF) hb1; have hrS1 := rangeAt_below (hS.range List.not_mem_nil hrS) hb1; have hrN1 := rangeAt_below (hS.range List.not_mem_nil hrN) hb1; have hrD1 := rangeAt_below (hS.range List.not_mem_nil hrD) hb1; have hB1 := bthen hB0 (bthen hS.below hb1); obtain ⟨k, o, kc, sx, sc, q0, q1, q2, rfl, hk0, hk1, hk2, hp0, hp1, hp2⟩ := three_out hR1; obtain ⟨kx0, kc0, sx0, sc0, rfl⟩ := kid_out hp0; obtain ⟨kx1, kc1, sx1, sc1, rfl⟩ := rule_out hp1; obtain ⟨kx2, kc2, sx2, sc2, rfl⟩ := kid_out hp2; clear hR1 hS hb1 hp0 hp1 hp2; have hS := own_start w1) | (refine w_ld rfl _ rfl (by rfl) (by first | exact rd_1 (by repeat constructor) (by first | rfl | assumption) | exact rd_w (by repeat constructor) (by rfl) | exact rd_o (by assumption) (by rfl) (by first | exact nmn | assumption | simp) | exact rd_h (by assumption) (by rfl) (by first | exact nmn | assumption | simp) | exact rd_1o (by assumption) (by first | exact nmn | assumption | simp) | exact rd_1h (by assumption) (by first | rfl | assumption) (by first | exact nmn | assumption | simp)) hS ?_) | (refine own_box rfl _ _ rfl (by rfl) hS ?_; clear hS; (try clear ww); intro bb ww hS) | (refine w_al rfl rfl hS ?_; clear hS; (try clear ww); intro bb ww hS) | (refine w_st rfl _ _ rfl (by rfl) (by rfl) (by repeat constructor) (by rfl) (by rfl) (by first | rfl | assumption) hS ?_; clear hS; (try clear ww); intro ww hS) | (refine w_s1 rfl _ _ rfl (by rfl) (by repeat constructor) (by first | exact .c | exact .t rfl) (by rfl) (by repeat constructor) hS ?_; clear hS; (try clear ww); intro ww hS))
  (try simp only [Act.put]); (try simp only [List.setIfInBounds_toArray]); (try simp only [List.set_cons_succ]); (try simp only [List.set_cons_zero])
  have hrC1r := hS.range List.not_mem_nil hrC1
  have hrC1n := hS.oldOff (range_lt hrC1)
  have HS0 := Lib.hid hS
  obtain ⟨DD, HDD, hS⟩ := hS.rebaseN
  rw [← HDD.out] at hrC1n
  have HSw := Lib.hid hS
  refine own_anyM hS [4, 5] [] 6 (by kernel_rfl) (by kernel_rfl) ?_
  clear hS
  intro hcl ww hS _
  refine own_batchN HSw.out [0, 1] 4 rfl hS hcl (by kernel_rfl) ?_
  (try simp only); repeat (first | (simp only [List.filterMap_cons]) | (simp only [List.filterMap_nil]) | (simp only [List.getElem?_toArray]) | (simp only [List.getElem?_cons_succ]) | (simp only [List.getElem?_cons_zero]) | (simp only [List.reverse_cons]) | (simp only [List.reverse_nil]) | (simp only [List.nil_append]) | (simp only [List.cons_append]))
  repeat (first
      | (first | (refine g_plain rfl ?_) | (refine g_yes rfl rfl rfl (by simp only [List.getElem?_toArray, List.getElem?_cons_succ, List.getElem?_cons_zero]; rfl) (by with_reducible constructor) ?_)
         apply Exists.intro; refine ⟨?_, ?_⟩
         focus (intro wq hq0; (first | have hq : Own _ _ _ wq := hq0 | have hq : Own _ _ _ wq := hq0.1 | skip); first | ((with_reducible show givesAt _ ({ dst := _, op := Op.load _ _, type := _, pos := _, after := _, guard := _ } : Oper) _ _ _); first | (exact givesAt_rd rfl (by rfl) (by first | exact rd_1 (by repeat constructor) (by first | rfl | assumption) | exact rd_w (by repeat constructor) (by rfl) | exact rd_o (by assumption) (by rfl) (by first | exact nmn | assumption | simp) | exact rd_h (by assumption) (by rfl) (by first | exact nmn | assumption | simp) | exact rd_1o (by assumption) (by first | exact nmn | assumption | simp) | exact rd_1h (by assumption) (by first | rfl | assumption) (by first | exact nmn | assumption | simp)) hq)) | (go_simp; first | (with_reducible rfl)))
         simp only [Act.put, List.setIfInBounds_toArray]; (try simp only [List.set_cons_succ]); (try simp only [List.set_cons_zero]))
      | (refine g_no rfl rfl rfl (by simp only [List.getElem?_toArray, List.getElem?_cons_succ, List.getElem?_cons_zero]; rfl) (by with_reducible constructor) ?_; simp only [Act.put, List.setIfInBounds_toArray]; (try simp only [List.set_cons_succ]); (try simp only [List.set_cons_zero])))
  refine g_nil ?_
  clear hS hcl
  intro hcl ww hS
  (try simp only [Act.put]); (try simp only [List.setIfInBounds_toArray]); (try simp only [List.set_cons_succ]); (try simp only [List.set_cons_zero])
  refine own_frees hS [(2, 7, [.slice none 0 0, .slice none 0 0, .int .i64 0, .int .i64 0, .int .i64 0, .int .i64 0, .int .i64 0, .int .i64 0, .int .i64 0, .int .i64 0, .int .i64 0, .int .i64 0, .int .i64 0, .int .i64 0, .int .i64 0, .int .i64 0, .int .i64 0, .int .i64 0, .int .i64 0, .int .i64 0, .int .i64 0, .int .i64 0, .int .i64 0, .bool false, .int .i64 0, .string ⟨#[]⟩, .int .i64 0, .int .i64 0, .int .i64 0, .int .i64 0, .int .i64 0, .int .i64 0, .slice none 0 0, .int .i64 0, .slice none 0 0, .int .i64 0, .string ⟨#[]⟩, .int .i64 0, .int .i64 0, .int .i64 0, .int .i64 0, .int .i64 0, .int .i64 0, .slice none 0 0, .int .i64 0, .slice none 0 0]), (3, 8, [.slice none 0 0, .slice none 0 0, .int .i64 0, .int .i64 0, .int .i64 0, .int .i64 0, .int .i64 0, .int .i64 0, .int .i64 0, .int .i64 0, .int .i64 0, .int .i64 0, .int .i64 0, .int .i64 0, .int .i64 0, .int .i64 0, .int .i64 0, .int .i64 0, .int .i64 0, .int .i64 0, .int .i64 0, .int .i64 0, .int .i64 0, .bool false, .int .i64 0, .string ⟨#[]⟩, .int .i64 0, .int .i64 0, .int .i64 0, .int .i64 0, .int .i64 0, .int .i64 0, .slice none 0 0, .int .i64 0, .slice none 0 0, .int .i64 0, .string ⟨#[]⟩, .int .i64 0, .int .i64 0, .int .i64 0, .int .i64 0, .int .i64 0, .int .i64 0, .slice none 0 0, .int .i64 0, .slice none 0 0])] 2 rfl (.cons (by simp only [List.getElem?_toArray, List.getElem?_cons_succ, List.getElem?_cons_zero]; rfl) rfl rfl rfl zt_case (.cons (by simp only [List.getElem?_toArray, List.getElem?_cons_succ, List.getElem?_cons_zero]; rfl) rfl rfl rfl zt_case .nil)) hcl (by kernel_rfl) ?_
  clear hS hcl
  intro f wf hcl hS
  have hK := hS.newer (by rw [HDD.out]; exact fun _ h => h)
  simp only [putF, ownF, List.map_cons, List.map_nil, List.foldr_cons, List.foldr_nil, List.cons_append, List.nil_append] at hS hcl hK ⊢
  generalize f 2 = b7 at *
  generalize f 3 = b8 at *
  have hb7 := hK _ (.head _)
  have hb8 := hK _ (.tail _ (.head _))
  clear hK
  (try simp only [Act.put]); (try simp only [List.setIfInBounds_toArray]); (try simp only [List.set_cons_succ]); (try simp only [List.set_cons_zero])
  refine own_mid (K := [(_, _), (_, _)]) (L := [(_, _)]) hS (fun x hx => by simp only [List.mem_cons, List.not_mem_nil, or_false] at hx; rcases hx with rfl | rfl <;> assumption) 4 hcl (by simp only [List.getElem?_toArray, List.getElem?_cons_succ, List.getElem?_cons_zero]; rfl) (by kernel_rfl) ?_
  clear hS
  intro hS
  (refine w_st rfl _ _ rfl (by rfl) (by rfl) (by repeat constructor) (by rfl) (by rfl) (by first | rfl | assumption) hS ?_; clear hS; intro ww hS)
  refine wpList_nil ⟨rfl, _, hS, ?_⟩
  clear hS hcl
  intro hcl wf hS
  simp only [List.cons_append, List.nil_append] at hS
  (try simp only [Act.put]); (try simp only [List.setIfInBounds_toArray]); (try simp only [List.set_cons_succ]); (try simp only [List.set_cons_zero])
  refine own_mid (K := [(_, _), (_, _)]) (L := [(_, _)]) hS (fun x hx => by simp only [List.mem_cons, List.not_mem_nil, or_false] at hx; rcases hx with rfl | rfl <;> assumption) 5 hcl (by simp only [List.getElem?_toArray, List.getElem?_cons_succ, List.getElem?_cons_zero]; rfl) (by kernel_rfl) ?_
  clear hS
  intro hS
  (refine w_st rfl _ _ rfl (by rfl) (by rfl) (by repeat constructor) (by rfl) (by rfl) (by first | rfl | assumption) hS ?_; clear hS; intro ww hS)
  refine wpList_nil ⟨rfl, _, hS, ?_⟩
  clear hS hcl
  intro hcl wf hS
  simp only [List.cons_append, List.nil_append] at hS
  (try simp only [Act.put]); (try simp only [List.setIfInBounds_toArray]); (try simp only [List.set_cons_succ]); (try simp only [List.set_cons_zero])
  refine own_done (by kernel_rfl) ?_
  clear hrC1r hrC1n hb7 hb8 HSw
  obtain rfl := HDD.out
  have hS1 := HS0.out.chain hS
  clear hS HDD HS0
  have hS := hS1
  clear hS1
  go_upto_region 9 with (first | (refine own_unguard (by rfl) ?_) | (refine w_ld rfl _ rfl (by rfl) (by first | exact rd_1 (by repeat constructor) (by first | rfl | assumption) | exact rd_w (by repeat constructor) (by rfl) | exact rd_o (by assumption) (by rfl) (by first | exact nmn | assumption | simp) | exact rd_h (by assumption) (by rfl) (by first | exact nmn | assumption | simp) | exact rd_1o (by assumption) (by first | exact nmn | assumption | simp) | exact rd_1h (by assumption) (by first | rfl | assumption) (by first | exact nmn | assumption | simp)) hS ?_) | (refine own_box rfl _ _ rfl (by rfl) hS ?_; clear hS; (try clear ww); intro bb ww hS) | (refine w_al rfl rfl hS ?_; clear hS; (try clear ww); intro bb ww hS) | (refine w_st rfl _ _ rfl (by rfl) (by rfl) (by repeat constructor) (by rfl) (by rfl) (by first | rfl | assumption) hS ?_; clear hS; (try clear ww); intro ww hS) | (refine w_s1 rfl _ _ rfl (by rfl) (by repeat constructor) (by first | exact .c | exact .t rfl) (by rfl) (by repeat constructor) hS ?_; clear hS; (try clear ww); intro ww hS))
  have hX9 := range_sub (has_range (hS.get at0)) 24 (cs := [.int .i64 nk, .string nn, .int .i64 nsz, .int .i64 nw, .int .i64 nh, .int .i64 (nd + m), .int .i64 nx, .int .i64 ny, k8, .int .i64 nof, k10]) rfl
  have hY9 := range_sub (has_range (hS.get at1)) 35 (cs := [.int .i64 dk, .string dn, .int .i64 dsz, .int .i64 dw, .int .i64 (dh + m), .int .i64 dd, .int .i64 dx, .int .i64 dy, m8, .int .i64 dof, m10]) rfl
  have hV9 := has_range (hS.get at2)
  have hF9 := hS.range List.not_mem_nil hrF1
  have hS9 := hS.range List.not_mem_nil hrS1
  have hN9 := hS.range List.not_mem_nil hrN1
  have hD9 := hS.range List.not_mem_nil hrD1
  have hk09 := hS.range List.not_mem_nil hk0
  have hk19 := hS.range List.not_mem_nil hk1
  have hk29 := hS.range List.not_mem_nil hk2
  have hBw := bthen hB1 hS.below
  clear hS
  have hS := own_start ww
  go_upto_region 10 with (first | (refine own_unguard (by rfl) ?_) | (go_at_call 11; refine Calls.mono (HX.out _ (bthen hBw hS.below)) ?_; rintro e w2 ⟨csx, rfl, hRx, hbx⟩; have hF10 := rangeAt_below (hS.range List.not_mem_nil hF9) hbx; have hS10 := rangeAt_below (hS.range List.not_mem_nil hS9) hbx; have hN10 := rangeAt_below (hS.range List.not_mem_nil hN9) hbx; have hY10 := rangeAt_below (hS.range List.not_mem_nil hY9) hbx; have hV10 := rangeAt_below (hS.range List.not_mem_nil hV9) hbx; have hk010 := rangeAt_below (hS.range List.not_mem_nil hk09) hbx; have hk110 := rangeAt_below (hS.range List.not_mem_nil hk19) hbx; have hk210 := rangeAt_below (hS.range List.not_mem_nil hk29) hbx;  have hBw := bthen hBw (bthen hS.below hbx); obtain ⟨k2, o2, kc2, sx2, sc2, p0, p1, p2, rfl, hx20, hx21, hx22, gp0, gp1, gp2⟩ := three_out hRx; obtain ⟨_, _, _, _, rfl⟩ := kid_out gp0; obtain ⟨_, _, _, _, rfl⟩ := rule_out gp1; obtain ⟨_, _, _, _, rfl⟩ := kid_out gp2; clear hS hRx hbx gp0 gp1 gp2; have hS := own_start w2) | (refine w_ld rfl _ rfl (by rfl) (by first | exact rd_1 (by repeat constructor) (by first | rfl | assumption) | exact rd_w (by repeat constructor) (by rfl) | exact rd_o (by assumption) (by rfl) (by first | exact nmn | assumption | simp) | exact rd_h (by assumption) (by rfl) (by first | exact nmn | assumption | simp) | exact rd_1o (by assumption) (by first | exact nmn | assumption | simp) | exact rd_1h (by assumption) (by first | rfl | assumption) (by first | exact nmn | assumption | simp)) hS ?_) | (refine own_box rfl _ _ rfl (by rfl) hS ?_; clear hS; (try clear ww); intro bb ww hS) | (refine w_al rfl rfl hS ?_; clear hS; (try clear ww); intro bb ww hS) | (refine w_st rfl _ _ rfl (by rfl) (by rfl) (by repeat constructor) (by rfl) (by rfl) (by first | rfl | assumption) hS ?_; clear hS; (try clear ww); intro ww hS) | (refine w_s1 rfl _ _ rfl (by rfl) (by repeat constructor) (by first | exact .c | exact .t rfl) (by rfl) (by repeat constructor) hS ?_; clear hS; (try clear ww); intro ww hS))
  go_upto_region 11 with (first | (refine own_unguard (by rfl) ?_) | (go_at_call 11; refine Calls.mono (HY.out _ (bthen hBw hS.below)) ?_; rintro e w3 ⟨csx, rfl, hRx, hbx⟩; have hV11 := rangeAt_below (hS.range List.not_mem_nil hV10) hbx; have hk011 := rangeAt_below (hS.range List.not_mem_nil hk010) hbx; have hk111 := rangeAt_below (hS.range List.not_mem_nil hk110) hbx; have hk211 := rangeAt_below (hS.range List.not_mem_nil hk210) hbx; have hx011 := rangeAt_below (hS.range List.not_mem_nil hx20) hbx; have hx111 := rangeAt_below (hS.range List.not_mem_nil hx21) hbx; have hx211 := rangeAt_below (hS.range List.not_mem_nil hx22) hbx; have hV9x := rangeAt_below (has_range (hS.get at0)) hbx; obtain ⟨b9, Hb9⟩ : ∃ b, Hid (b = bb) := ⟨_, rfl⟩; obtain rfl := Hb9.out; clear Hb9; have hBw := bthen hBw (bthen hS.below hbx); obtain ⟨k3, o3, kc3, sx3, sc3, p0, p1, p2, rfl, hx30, hx31, hx32, gp0, gp1, gp2⟩ := three_out hRx; obtain ⟨_, _, _, _, rfl⟩ := kid_out gp0; obtain ⟨_, _, _, _, rfl⟩ := rule_out gp1; obtain ⟨_, _, _, _, rfl⟩ := kid_out gp2; clear hS hRx hbx gp0 gp1 gp2; have hS := own_start w3) | (refine w_ld rfl _ rfl (by rfl) (by first | exact rd_1 (by repeat constructor) (by first | rfl | assumption) | exact rd_w (by repeat constructor) (by rfl) | exact rd_o (by assumption) (by rfl) (by first | exact nmn | assumption | simp) | exact rd_h (by assumption) (by rfl) (by first | exact nmn | assumption | simp) | exact rd_1o (by assumption) (by first | exact nmn | assumption | simp) | exact rd_1h (by assumption) (by first | rfl | assumption) (by first | exact nmn | assumption | simp)) hS ?_) | (refine own_box rfl _ _ rfl (by rfl) hS ?_; clear hS; (try clear ww); intro bb ww hS) | (refine w_al rfl rfl hS ?_; clear hS; (try clear ww); intro bb ww hS) | (refine w_st rfl _ _ rfl (by rfl) (by rfl) (by repeat constructor) (by rfl) (by rfl) (by first | rfl | assumption) hS ?_; clear hS; (try clear ww); intro ww hS) | (refine w_s1 rfl _ _ rfl (by rfl) (by repeat constructor) (by first | exact .c | exact .t rfl) (by rfl) (by repeat constructor) hS ?_; clear hS; (try clear ww); intro ww hS))
  have a0 : w3.cell? ⟨k, o + 7, none⟩ = some (.int .i64 U) := hk011 7 _ rfl
  have a1 : w3.cell? ⟨k, o + 11 + 7, none⟩ = some (.int .i64 (fracY F l)) := hk111 7 _ rfl
  have a2 : w3.cell? ⟨k, o + 22 + 7, none⟩ = some (.int .i64 (-V)) := hk211 7 _ rfl
  have x0 : w3.cell? ⟨k2, o2 + 7, none⟩ = some (.int .i64 U') := hx011 7 _ rfl
  have x1 : w3.cell? ⟨k2, o2 + 11 + 7, none⟩ = some (.int .i64 (fracY F l)) := hx111 7 _ rfl
  have x2 : w3.cell? ⟨k2, o2 + 22 + 7, none⟩ = some (.int .i64 (-V)) := hx211 7 _ rfl
  have z0 : w3.cell? ⟨k3, o3 + 7, none⟩ = some (.int .i64 U) := hx30 7 _ rfl
  have z1 : w3.cell? ⟨k3, o3 + 11 + 7, none⟩ = some (.int .i64 (fracY F l)) := hx31 7 _ rfl
  have z2 : w3.cell? ⟨k3, o3 + 22 + 7, none⟩ = some (.int .i64 (-V')) := hx32 7 _ rfl
  have b0 : w3.cell? ⟨b9, 8, none⟩ = some (.slice (some ⟨k2, o2, none⟩) 3 kc2) := hV9x 8 _ rfl
  have v0 : w3.cell? ⟨_, 8, none⟩ = some (.slice (some ⟨k, o, none⟩) 3 kc) := hV11 8 _ rfl
  go_upto_region 13 with (first | (refine own_unguard (by rfl) ?_) | (refine w_ld rfl _ rfl (by rfl) (by first | exact rd_1 (by repeat constructor) (by first | rfl | assumption) | exact rd_w (by repeat constructor) (by rfl) | exact rd_o (by assumption) (by rfl) (by first | exact nmn | assumption | simp) | exact rd_h (by assumption) (by rfl) (by first | exact nmn | assumption | simp) | exact rd_1o (by assumption) (by first | exact nmn | assumption | simp) | exact rd_1h (by assumption) (by first | rfl | assumption) (by first | exact nmn | assumption | simp)) hS ?_) | (refine own_box rfl _ _ rfl (by rfl) hS ?_; clear hS; (try clear ww); intro bb ww hS) | (refine w_al rfl rfl hS ?_; clear hS; (try clear ww); intro bb ww hS) | (refine w_st rfl _ _ rfl (by rfl) (by rfl) (by repeat constructor) (by rfl) (by rfl) (by first | rfl | assumption) hS ?_; clear hS; (try clear ww); intro ww hS) | (refine w_s1 rfl _ _ rfl (by rfl) (by repeat constructor) (by first | exact .c | exact .t rfl) (by rfl) (by repeat constructor) hS ?_; clear hS; (try clear ww); intro ww hS))
  (try simp only [Act.put]); (try simp only [List.setIfInBounds_toArray]); (try simp only [List.set_cons_succ]); (try simp only [List.set_cons_zero])
  refine own_region hS (by kernel_rfl) (by kernel_rfl) ?_
  (try simp only [List.append])
  (try simp only); (try simp only [List.drop_succ_cons]); (try simp only [List.drop_zero]); (try simp only [List.take_succ_cons]); (try simp only [List.take_zero])
  repeat (first
      | (first | (refine quiet_plain rfl ?_) | (refine quiet_yes rfl rfl rfl (by simp only [List.getElem?_toArray, List.getElem?_cons_succ, List.getElem?_cons_zero]; rfl) (by with_reducible constructor) ?_)
         apply Exists.intro; refine ⟨?_, ?_⟩
         focus (intro wq hq0; have hq : Own _ _ _ wq := hq0; first | (exact quietAt_rd rfl (by rfl) (by first | exact rd_1 (by repeat constructor) (by first | rfl | assumption) | exact rd_w (by repeat constructor) (by rfl) | exact rd_o (by assumption) (by rfl) (by first | exact nmn | assumption | simp) | exact rd_h (by assumption) (by rfl) (by first | exact nmn | assumption | simp) | exact rd_1o (by assumption) (by first | exact nmn | assumption | simp) | exact rd_1h (by assumption) (by first | rfl | assumption) (by first | exact nmn | assumption | simp)) hq) | (go_simp; first | (with_reducible rfl)))
         simp only [Act.put, List.setIfInBounds_toArray, List.set_cons_zero, List.set_cons_succ])
      | (refine quiet_no rfl rfl rfl (by simp only [List.getElem?_toArray, List.getElem?_cons_succ, List.getElem?_cons_zero]; rfl) (by with_reducible constructor) ?_; simp only [Act.put, List.setIfInBounds_toArray, List.set_cons_zero, List.set_cons_succ]))
  refine wpQuiet_nil ?_
  clear hS
  intro ww hS
  go_wp2_with (first | (refine own_unguard (by rfl) ?_) | (refine w_ld rfl _ rfl (by rfl) (by first | exact rd_1 (by repeat constructor) (by first | rfl | assumption) | exact rd_w (by repeat constructor) (by rfl) | exact rd_o (by assumption) (by rfl) (by first | exact nmn | assumption | simp) | exact rd_h (by assumption) (by rfl) (by first | exact nmn | assumption | simp) | exact rd_1o (by assumption) (by first | exact nmn | assumption | simp) | exact rd_1h (by assumption) (by first | rfl | assumption) (by first | exact nmn | assumption | simp)) hS ?_) | (refine own_box rfl _ _ rfl (by rfl) hS ?_; clear hS; (try clear ww); intro bb ww hS) | (refine w_al rfl rfl hS ?_; clear hS; (try clear ww); intro bb ww hS) | (refine w_st rfl _ _ rfl (by rfl) (by rfl) (by repeat constructor) (by rfl) (by rfl) (by first | rfl | assumption) hS ?_; clear hS; (try clear ww); intro ww hS) | (refine w_s1 rfl _ _ rfl (by rfl) (by repeat constructor) (by first | exact .c | exact .t rfl) (by rfl) (by repeat constructor) hS ?_; clear hS; (try clear ww); intro ww hS))
  go_ret
  exact ⟨rfl, bthen hBw hS.below⟩

theorem fractionGrows_calls (F : Fnt) (l : Int) (c : Bool) (n : Nat) (num den : Bx (n + 1)) (cs ds : List Value) (w : World) (hF : FntOk w F) (hr : Rep w (n + 1) num cs) (hs : Rep w (n + 1) den ds) (m : Int) (hm : 0 ≤ m ∧ m ≤ 65535) : Calls Try.prog 7 #[.agg (caseL F l c cs ds).toArray, .int .u16 m] w (Gives (.bool true) w) := by
  by_cases h : MadeOk F l n num den
  · exact fractionGrows_good F l c n num den cs ds w hF hr hs m hm h
  · exact fractionGrows_bad F l c n num den cs ds w hF hr hs m h

end Go.Proofs.Ytfmoghkffffmmaa
