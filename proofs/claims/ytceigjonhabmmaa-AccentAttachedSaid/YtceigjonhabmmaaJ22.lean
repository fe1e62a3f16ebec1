/- The reference's accents: Make, a box. -/
import Derived.Test.YtceigjonhabmmaaJ19
import Derived.Test.YtceigjonhabmmaaJ16
namespace Go.Proofs.Ytceigjonhabmmaa
open Go.RowKit

attribute [local irreducible] wpQuiet wpG wpP wpK wpList Code.wp Calls

set_option maxHeartbeats 16000000 in
set_option maxRecDepth 100000 in
theorem refAcc_y (F : Fnt) (l p a1 a2 x r xr up gw gh gd E HH DD bw bh bd : Int) (gn s : ByteArray) (c : Bool) (n _m : Nat) (body : Bx (n + 1)) (c0 c1 c2 c6 c7 c8 c9 c10 : Value) (w : World) (hF : FntOk w F) (hq : F.gs.length ≤ 500 ∧ F.ss.length ≤ 50) (hl : lvlOk l = true) (hv : ValidF F) (hrP : RepP (fun k => k < w.heap.size) w (n + 1) body [c0, c1, c2, .int .i64 bw, .int .i64 bh, .int .i64 bd, c6, c7, c8, c9, c10]) (hb : validB (n + 1) body) (hcb : bCount (n + 1) body ≤ 1000000) (hs : s ∈ accNames) (hZ : ∀ w', Calls Try.prog 35 #[F.val, .agg #[.int .i64 l, .bool c]] w' (Gives (.int .i64 p) w')) (hBx : ∀ w', Below w.heap.size w w' → Calls Try.prog 34 #[F.val, .string s, .int .i64 p] w' (Gives (.tuple #[.agg #[.int .i64 1, .string gn, .int .i64 p, .int .i64 gw, .int .i64 gh, .int .i64 gd, .int .i64 0, .int .i64 0, .slice none 0 0, .int .i64 0, .slice none 0 0], .int .i64 0]) w')) (hAt : ∀ w', Below w.heap.size w w' → Calls Try.prog 17 #[F.val, .agg #[c0, c1, c2, .int .i64 bw, .int .i64 bh, .int .i64 bd, c6, c7, c8, c9, c10]] w' (Gives (.int .i64 a1) w')) (hat : ∀ w', Below w.heap.size w w' → Calls Try.prog 20 #[F.val, .agg #[.int .i64 l, .bool c], .string s] w' (Gives (.int .i64 a2) w')) (hRa : ∀ w', Below w.heap.size w w' → Calls Try.prog 36 #[F.val, .agg #[.int .i64 l, .bool c], .agg #[c0, c1, c2, .int .i64 bw, .int .i64 bh, .int .i64 bd, c6, c7, c8, c9, c10]] w' (Gives (.int .i64 up) w')) (ex : x = a1 - a2) (er : r = max 0 (-x)) (exr : xr = x + r) (ib : (-1073741824 ≤ bw ∧ bw ≤ 1073741824) ∧ (-1073741824 ≤ bh ∧ bh ≤ 1073741824) ∧ (-1073741824 ≤ bd ∧ bd ≤ 1073741824)) (i1 : -1073741824 ≤ a1 ∧ a1 ≤ 1073741824) (i2 : -1073741824 ≤ a2 ∧ a2 ≤ 1073741824) (ig : (-1000000 ≤ gw ∧ gw ≤ 1000000) ∧ (-1000000 ≤ gh ∧ gh ≤ 1000000) ∧ (-1000000 ≤ gd ∧ gd ≤ 1000000)) (iu : -4294967296 ≤ up ∧ up ≤ 4294967296) (hG : ∀ w', RepP (fun k => k < w.heap.size) w' (n + 1) (glyB n gn p gw gh gd) [.int .i64 1, .string gn, .int .i64 p, .int .i64 gw, .int .i64 gh, .int .i64 gd, .int .i64 0, .int .i64 0, .slice none 0 0, .int .i64 0, .slice none 0 0]) (eE : E = max (max 0 (xr + gw)) (r + bw)) (eH : HH = max bh (up + gh)) (eD : DD = max bd (gd - up)) (hcR : bCount (n + 2) (listB (n + 1) E HH DD [atXY (n + 1) (glyB n gn p gw gh gd) xr up, atXY (n + 1) body r 0]) ≤ 1000000) (hvR : validB (n + 2) (listB (n + 1) E HH DD [atXY (n + 1) (glyB n gn p gw gh gd) xr up, atXY (n + 1) body r 0])) :
    Calls Try.prog 11 #[F.val, .agg #[.int .i64 l, .bool c], .string s, .agg #[c0, c1, c2, .int .i64 bw, .int .i64 bh, .int .i64 bd, c6, c7, c8, c9, c10]] w (GivesBE (n + 2) (listB (n + 1) E HH DD [atXY (n + 1) (glyB n gn p gw gh gd) xr up, atXY (n + 1) body r 0]) 0 w) := by
  have HCk := Lib.hid (fun w' y k2 (h : Below w.heap.size w w') (hA : RepL w' (n + 1) y [body]) => ref32_Check_calls F l c (n + 1) [body] y k2 w' (hF.below h) hq hA (fun k hk => by obtain rfl := List.mem_singleton.1 hk; exact hcb) (by simp) 0 (.inl ⟨rfl, hv, hl, fun k hk => by obtain rfl := List.mem_singleton.1 hk; exact hb⟩))
  have HAc := Lib.hid (fun w' => ref36_Accent_calls s w' true (iff_t hs))
  have HZ := Lib.hid hZ
  have HBx := Lib.hid hBx
  have HAt := Lib.hid hAt
  have Hat := Lib.hid hat
  have HRa := Lib.hid hRa
  have HrP := Lib.hid hrP
  have hallb := rep_all hrP
  have HvR := Lib.hid hvR
  have HcR := Lib.hid hcR
  have HG := Lib.hid hG
  have b_r : 0 ≤ r ∧ r ≤ 2147483648 := by omega
  have m2 : ∀ (w : World) (ts : Array TypeId) (t : TypeId), (Builtin.max_ ts t #[.int .i64 0, .int .i64 (-x)]).run Try.prog w = .ok (.int .i64 r) w := fun w ts t => by rw [run_max_int2, er]; congr 2; split <;> omega
  have m3 : ∀ (w : World) (ts : Array TypeId) (t : TypeId), (Builtin.max_ ts t #[.int .i64 0, .int .i64 (xr + gw), .int .i64 (r + bw)]).run Try.prog w = .ok (.int .i64 E) w := fun w ts t => by
    rw [run_max_int3, eE]
    congr 2
    repeat' split
    all_goals omega
  have m4 : ∀ (w : World) (ts : Array TypeId) (t : TypeId), (Builtin.max_ ts t #[.int .i64 bh, .int .i64 (up + gh)]).run Try.prog w = .ok (.int .i64 HH) w := fun w ts t => by rw [run_max_int2, eH]; congr 2; split <;> omega
  have m5 : ∀ (w : World) (ts : Array TypeId) (t : TypeId), (Builtin.max_ ts t #[.int .i64 bd, .int .i64 (gd - up)]).run Try.prog w = .ok (.int .i64 DD) w := fun w ts t => by rw [run_max_int2, eD]; congr 2; split <;> omega
  have k2 : IntKind.i64.wrap (a1 - a2) = x := by rw [ex]; exact IntWalk.i64_in _ (by omega)
  have k3 : IntKind.i64.wrap (-x) = -x := IntWalk.i64_in _ (by omega)
  have k4 : IntKind.i64.wrap (x + r) = xr := by rw [exr]; exact IntWalk.i64_in _ (by omega)
  have k5 : IntKind.i64.wrap (xr + gw) = xr + gw := IntWalk.i64_in _ (by omega)
  have k6 : IntKind.i64.wrap (r + bw) = r + bw := IntWalk.i64_in _ (by omega)
  have k7 : IntKind.i64.wrap (up + gh) = up + gh := IntWalk.i64_in _ (by omega)
  have k8 : IntKind.i64.wrap (gd - up) = gd - up := IntWalk.i64_in _ (by omega)
  have jX : I64 xr := by unfold I64; omega
  have jr : I64 r := by unfold I64; omega
  have ju : I64 up := by unfold I64; omega
  have iE : I64 E := by unfold I64; omega
  have iH : I64 HH := by unfold I64; omega
  have iD : I64 DD := by unfold I64; omega
  have hallg : ∀ v ∈ ([.int .i64 1, .string gn, .int .i64 p, .int .i64 gw, .int .i64 gh, .int .i64 gd, .int .i64 0, .int .i64 0, .slice none 0 0, .int .i64 0, .slice none 0 0] : List Value), v.oneCell' = true := by intro v hv; simp only [List.mem_cons, List.not_mem_nil, or_false] at hv; rcases hv with rfl | rfl | rfl | rfl | rfl | rfl | rfl | rfl | rfl | rfl | rfl <;> rfl
  clear hF hq hl hv hrP hb hcb hs hZ hBx hAt hat hRa ex er exr ib i1 i2 ig iu hG eE eH eD hcR hvR b_r
  go_enter Try.func11, Try.ntmps11
  have hS := own_start w
  go_upto_region 1 with (first | (refine own_unguard (by rfl) ?_) | (refine w_ld rfl _ rfl (by rfl) (by first | exact rd_1 (by repeat constructor) (by first | rfl | assumption) | exact rd_w (by repeat constructor) (by rfl) | exact rd_o (by assumption) (by rfl) (by first | exact nmn | assumption | simp) | exact rd_h (by assumption) (by rfl) (by first | exact nmn | assumption | simp) | exact rd_1o (by assumption) (by first | exact nmn | assumption | simp) | exact rd_1h (by assumption) (by first | rfl | assumption) (by first | exact nmn | assumption | simp)) hS ?_) | (refine own_box rfl _ _ rfl (by rfl) hS ?_; clear hS; (try clear ww); intro bb ww hS) | (refine w_al rfl rfl hS ?_; clear hS; (try clear ww); intro bb ww hS) | (refine w_st rfl _ _ rfl (by rfl) (by rfl) (by repeat constructor) (by rfl) (by rfl) (by first | rfl | assumption) hS ?_; clear hS; (try clear ww); intro ww hS) | (refine w_s1 rfl _ _ rfl (by rfl) (by repeat constructor) (by first | exact .c | exact .t rfl) (by rfl) (by repeat constructor) hS ?_; clear hS; (try clear ww); intro ww hS))
  have HC0 := Lib.hid hS
  obtain ⟨D0, hD0, hs0, hS1⟩ := safe_start (R := fun k => k < w.heap.size) hS (fun _ h => h)
  have HS0 := Lib.hid hs0
  clear hS hs0
  have hS := hS1
  clear hS1
  rename World => wv
  go_upto_region 3 with (first | (refine own_unguard (by rfl) ?_) | (refine own_buildSlice rfl _ _ 1 _ rfl [c0, c1, c2, .int .i64 bw, .int .i64 bh, .int .i64 bd, c6, c7, c8, c9, c10] hS Try.underlying30 (by kernel_rfl) ?_; clear hS; (try clear ww); intro bq ww hS; have hA1 : RepL ww (n + 1) (some ⟨bq, 0, none⟩) [body] := repLP_L (has_kids (P := fun k => k < w.heap.size) (hS.get at0) ⟨_, [], by simp, repP_step HrP.out (chainH HC0.out hD0 hS).below, rfl⟩)) | (go_at_call 32; refine own_calls hS (HCk.out _ _ _ (chainH HC0.out hD0 hS).below hA1) ?_; clear hS hA1; (try clear ww); intro ww hS) | (go_at_call 33; refine own_calls hS (by first | exact HAc.out _) ?_; clear hS; (try clear ww); intro ww hS) | (refine w_ld rfl _ rfl (by rfl) (by first | exact rd_1 (by repeat constructor) (by first | rfl | assumption) | exact rd_w (by repeat constructor) (by rfl) | exact rd_o (by assumption) (by rfl) (by first | exact nmn | assumption | simp) | exact rd_h (by assumption) (by rfl) (by first | exact nmn | assumption | simp) | exact rd_1o (by assumption) (by first | exact nmn | assumption | simp) | exact rd_1h (by assumption) (by first | rfl | assumption) (by first | exact nmn | assumption | simp)) hS ?_) | (refine own_box rfl _ _ rfl (by rfl) hS ?_; clear hS; (try clear ww); intro bb ww hS) | (refine w_al rfl rfl hS ?_; clear hS; (try clear ww); intro bb ww hS) | (refine w_st rfl _ _ rfl (by rfl) (by rfl) (by repeat constructor) (by rfl) (by rfl) (by first | rfl | assumption) hS ?_; clear hS; (try clear ww); intro ww hS) | (refine w_s1 rfl _ _ rfl (by rfl) (by repeat constructor) (by first | exact .c | exact .t rfl) (by rfl) (by repeat constructor) hS ?_; clear hS; (try clear ww); intro ww hS))
  (try simp only [Act.put]); (try simp only [List.setIfInBounds_toArray]); (try simp only [List.set_cons_succ]); (try simp only [List.set_cons_zero])
  refine own_any hS [10] 12 (by kernel_rfl) (by kernel_rfl) ?_
  clear hS
  intro hcl ww hS
  refine own_batch hS [0, 1, 2, 3, 4, 5, 6, 7] 4 rfl hcl (by kernel_rfl) ?_
  (try simp only); repeat (first | (simp only [List.filterMap_cons]) | (simp only [List.filterMap_nil]) | (simp only [List.getElem?_toArray]) | (simp only [List.getElem?_cons_succ]) | (simp only [List.getElem?_cons_zero]) | (simp only [List.reverse_cons]) | (simp only [List.reverse_nil]) | (simp only [List.nil_append]) | (simp only [List.cons_append]))
  repeat (first
      | (first | (refine g_plain rfl ?_) | (refine g_yes rfl rfl rfl (by simp only [List.getElem?_toArray, List.getElem?_cons_succ, List.getElem?_cons_zero]; rfl) (by with_reducible constructor) ?_)
         apply Exists.intro; refine ⟨?_, ?_⟩
         focus (intro wq hq0; (first | have hq : Own _ _ _ wq := hq0 | have hq : Own _ _ _ wq := hq0.1 | skip); first | ((with_reducible show givesAt _ ({ dst := _, op := Op.load _ _, type := _, pos := _, after := _, guard := _ } : Oper) _ _ _); first | (exact givesAt_rd rfl (by rfl) (by first | exact rd_1 (by repeat constructor) (by first | rfl | assumption) | exact rd_w (by repeat constructor) (by rfl) | exact rd_o (by assumption) (by rfl) (by first | exact nmn | assumption | simp) | exact rd_h (by assumption) (by rfl) (by first | exact nmn | assumption | simp) | exact rd_1o (by assumption) (by first | exact nmn | assumption | simp) | exact rd_1h (by assumption) (by first | rfl | assumption) (by first | exact nmn | assumption | simp)) hq)) | (go_simp; first | (go_at_call 35; exact HZ.out _) | (go_at_call 34; exact HBx.out _ (chainH HC0.out hD0 hq).below) | (with_reducible rfl)))
         simp only [Act.put, List.setIfInBounds_toArray]; (try simp only [List.set_cons_succ]); (try simp only [List.set_cons_zero]))
      | (refine g_no rfl rfl rfl (by simp only [List.getElem?_toArray, List.getElem?_cons_succ, List.getElem?_cons_zero]; rfl) (by with_reducible constructor) ?_; simp only [Act.put, List.setIfInBounds_toArray]; (try simp only [List.set_cons_succ]); (try simp only [List.set_cons_zero])))
  refine g_nil ?_
  clear hS hcl
  intro hcl ww hS
  (try simp only [Act.put]); (try simp only [List.setIfInBounds_toArray]); (try simp only [List.set_cons_succ]); (try simp only [List.set_cons_zero])
  refine own_pure hS [8] 3 rfl hcl (by kernel_rfl) ?_
  (try simp only); repeat (first | (simp only [List.filterMap_cons]) | (simp only [List.filterMap_nil]) | (simp only [List.getElem?_toArray]) | (simp only [List.getElem?_cons_succ]) | (simp only [List.getElem?_cons_zero]) | (simp only [List.reverse_cons]) | (simp only [List.reverse_nil]) | (simp only [List.nil_append]) | (simp only [List.cons_append]))
  repeat (first
      | (first | (refine g_plain rfl ?_) | (refine g_yes rfl rfl rfl (by simp only [List.getElem?_toArray, List.getElem?_cons_succ, List.getElem?_cons_zero]; rfl) (by with_reducible constructor) ?_)
         apply Exists.intro; refine ⟨?_, ?_⟩
         focus (intro wq hq0; (first | have hq : Own _ _ _ wq := hq0 | have hq : Own _ _ _ wq := hq0.1 | skip); first | ((with_reducible show givesAt _ ({ dst := _, op := Op.load _ _, type := _, pos := _, after := _, guard := _ } : Oper) _ _ _); first | (exact givesAt_rd rfl (by rfl) (by first | exact rd_1 (by repeat constructor) (by first | rfl | assumption) | exact rd_w (by repeat constructor) (by rfl) | exact rd_o (by assumption) (by rfl) (by first | exact nmn | assumption | simp) | exact rd_h (by assumption) (by rfl) (by first | exact nmn | assumption | simp) | exact rd_1o (by assumption) (by first | exact nmn | assumption | simp) | exact rd_1h (by assumption) (by first | rfl | assumption) (by first | exact nmn | assumption | simp)) hq)) | (go_simp; first | (with_reducible rfl)))
         simp only [Act.put, List.setIfInBounds_toArray]; (try simp only [List.set_cons_succ]); (try simp only [List.set_cons_zero]))
      | (refine g_no rfl rfl rfl (by simp only [List.getElem?_toArray, List.getElem?_cons_succ, List.getElem?_cons_zero]; rfl) (by with_reducible constructor) ?_; simp only [Act.put, List.setIfInBounds_toArray]; (try simp only [List.set_cons_succ]); (try simp only [List.set_cons_zero])))
  refine g_nil ?_
  clear hS hcl
  intro hcl ww hS
  (try simp only [Act.put]); (try simp only [List.setIfInBounds_toArray]); (try simp only [List.set_cons_succ]); (try simp only [List.set_cons_zero])
  refine own_frees hS [(9, 10, [.int .i64 0, .string ⟨#[]⟩, .int .i64 0, .int .i64 0, .int .i64 0, .int .i64 0, .int .i64 0, .int .i64 0, .slice none 0 0, .int .i64 0, .slice none 0 0])] 2 rfl (.cons (by simp only [List.getElem?_toArray, List.getElem?_cons_succ, List.getElem?_cons_zero]; rfl) rfl rfl rfl zt_box .nil) hcl (by kernel_rfl) ?_
  clear hS hcl
  intro f wf hcl hS
  simp only [putF, ownF, List.map_cons, List.map_nil, List.foldr_cons, List.foldr_nil, List.cons_append, List.nil_append] at hS hcl ⊢
  generalize f 9 = bma at *
  (try simp only [Act.put]); (try simp only [List.setIfInBounds_toArray]); (try simp only [List.set_cons_succ]); (try simp only [List.set_cons_zero])
  refine own_hard (D := D0) (W := wv) 10 hcl (by simp only [List.getElem?_toArray, List.getElem?_cons_succ, List.getElem?_cons_zero]; rfl) (by kernel_rfl) (by kernel_rfl) ?_
  (refine w_st rfl _ _ rfl (by rfl) (by rfl) (by repeat constructor) (by rfl) (by rfl) (by first | rfl | assumption) hS ?_; clear hS; intro ww hS)
  refine wpList_nil ⟨rfl, _, hS, ?_⟩
  clear hS hcl
  intro hcl wg hS
  (try simp only [Act.put]); (try simp only [List.setIfInBounds_toArray]); (try simp only [List.set_cons_succ]); (try simp only [List.set_cons_zero])
  refine own_batch hS [11] 0 rfl hcl (by kernel_rfl) ?_
  (try simp only); repeat (first | (simp only [List.filterMap_cons]) | (simp only [List.filterMap_nil]) | (simp only [List.getElem?_toArray]) | (simp only [List.getElem?_cons_succ]) | (simp only [List.getElem?_cons_zero]) | (simp only [List.reverse_cons]) | (simp only [List.reverse_nil]) | (simp only [List.nil_append]) | (simp only [List.cons_append]))
  repeat (first
      | (first | (refine g_plain rfl ?_) | (refine g_yes rfl rfl rfl (by simp only [List.getElem?_toArray, List.getElem?_cons_succ, List.getElem?_cons_zero]; rfl) (by with_reducible constructor) ?_)
         apply Exists.intro; refine ⟨?_, ?_⟩
         focus (intro wq hq0; (first | have hq : Own _ _ _ wq := hq0 | have hq : Own _ _ _ wq := hq0.1 | skip); first | ((with_reducible show givesAt _ ({ dst := _, op := Op.load _ _, type := _, pos := _, after := _, guard := _ } : Oper) _ _ _); first | (exact givesAt_rd rfl (by rfl) (by first | exact rd_1 (by repeat constructor) (by first | rfl | assumption) | exact rd_w (by repeat constructor) (by rfl) | exact rd_o (by assumption) (by rfl) (by first | exact nmn | assumption | simp) | exact rd_h (by assumption) (by rfl) (by first | exact nmn | assumption | simp) | exact rd_1o (by assumption) (by first | exact nmn | assumption | simp) | exact rd_1h (by assumption) (by first | rfl | assumption) (by first | exact nmn | assumption | simp)) hq)) | (go_simp; first | (with_reducible rfl)))
         simp only [Act.put, List.setIfInBounds_toArray]; (try simp only [List.set_cons_succ]); (try simp only [List.set_cons_zero]))
      | (refine g_no rfl rfl rfl (by simp only [List.getElem?_toArray, List.getElem?_cons_succ, List.getElem?_cons_zero]; rfl) (by with_reducible constructor) ?_; simp only [Act.put, List.setIfInBounds_toArray]; (try simp only [List.set_cons_succ]); (try simp only [List.set_cons_zero])))
  refine g_nil ?_
  clear hS hcl
  intro hcl ww hS
  refine own_done (by kernel_rfl) ?_
  (try simp only [Act.put]); (try simp only [List.setIfInBounds_toArray]); (try simp only [List.set_cons_succ]); (try simp only [List.set_cons_zero])
  go_upto_region 4 with (first | (refine own_unguard (by rfl) ?_) | (refine w_ld rfl _ rfl (by rfl) (by first | exact rd_1 (by repeat constructor) (by first | rfl | assumption) | exact rd_w (by repeat constructor) (by rfl) | exact rd_o (by assumption) (by rfl) (by first | exact nmn | assumption | simp) | exact rd_h (by assumption) (by rfl) (by first | exact nmn | assumption | simp) | exact rd_1o (by assumption) (by first | exact nmn | assumption | simp) | exact rd_1h (by assumption) (by first | rfl | assumption) (by first | exact nmn | assumption | simp)) hS ?_) | (refine own_box rfl _ _ rfl (by rfl) hS ?_; clear hS; (try clear ww); intro bb ww hS) | (refine w_al rfl rfl hS ?_; clear hS; (try clear ww); intro bb ww hS) | (refine w_st rfl _ _ rfl (by rfl) (by rfl) (by repeat constructor) (by rfl) (by rfl) (by first | rfl | assumption) hS ?_; clear hS; (try clear ww); intro ww hS) | (refine w_s1 rfl _ _ rfl (by rfl) (by repeat constructor) (by first | exact .c | exact .t rfl) (by rfl) (by repeat constructor) hS ?_; clear hS; (try clear ww); intro ww hS))
  (try simp only [Act.put]); (try simp only [List.setIfInBounds_toArray]); (try simp only [List.set_cons_succ]); (try simp only [List.set_cons_zero])
  refine own_region hS (by kernel_rfl) (by kernel_rfl) ?_
  (try simp only [List.append])
  (try simp only); (try simp only [List.drop_succ_cons]); (try simp only [List.drop_zero]); (try simp only [List.take_succ_cons]); (try simp only [List.take_zero])
  repeat (first
      | (first | (refine quiet_plain rfl ?_) | (refine quiet_yes rfl rfl rfl (by simp only [List.getElem?_toArray, List.getElem?_cons_succ, List.getElem?_cons_zero]; rfl) (by with_reducible constructor) ?_)
         apply Exists.intro; refine ⟨?_, ?_⟩
         focus (intro wq hq0; have hq : Own _ _ _ wq := hq0; first | (exact quietAt_rd rfl (by rfl) (by first | exact rd_1 (by repeat constructor) (by first | rfl | assumption) | exact rd_w (by repeat constructor) (by rfl) | exact rd_o (by assumption) (by rfl) (by first | exact nmn | assumption | simp) | exact rd_h (by assumption) (by rfl) (by first | exact nmn | assumption | simp) | exact rd_1o (by assumption) (by first | exact nmn | assumption | simp) | exact rd_1h (by assumption) (by first | rfl | assumption) (by first | exact nmn | assumption | simp)) hq) | (go_simp; first | (go_at_call 17; exact quietG hq (HAt.out _ (chainH HC0.out hD0 hq).below)) | (go_at_call 20; exact quietG hq (Hat.out _ (chainH HC0.out hD0 hq).below)) | (go_at_call 36; exact quietG hq (HRa.out _ (chainH HC0.out hD0 hq).below)) | (with_reducible rfl)))
         simp only [Act.put, List.setIfInBounds_toArray, List.set_cons_zero, List.set_cons_succ])
      | (refine quiet_no rfl rfl rfl (by simp only [List.getElem?_toArray, List.getElem?_cons_succ, List.getElem?_cons_zero]; rfl) (by with_reducible constructor) ?_; simp only [Act.put, List.setIfInBounds_toArray, List.set_cons_zero, List.set_cons_succ]))
  refine wpQuiet_nil ?_
  clear hS
  intro ww hS
  go_upto_region 6 with (first | (refine own_unguard (by rfl) ?_) | (refine w_ld rfl _ rfl (by rfl) (by first | exact rd_1 (by repeat constructor) (by first | rfl | assumption) | exact rd_w (by repeat constructor) (by rfl) | exact rd_o (by assumption) (by rfl) (by first | exact nmn | assumption | simp) | exact rd_h (by assumption) (by rfl) (by first | exact nmn | assumption | simp) | exact rd_1o (by assumption) (by first | exact nmn | assumption | simp) | exact rd_1h (by assumption) (by first | rfl | assumption) (by first | exact nmn | assumption | simp)) hS ?_) | (refine own_box rfl _ _ rfl (by rfl) hS ?_; clear hS; (try clear ww); intro bb ww hS) | (refine w_al rfl rfl hS ?_; clear hS; (try clear ww); intro bb ww hS) | (refine w_st rfl _ _ rfl (by rfl) (by rfl) (by repeat constructor) (by rfl) (by rfl) (by first | rfl | assumption) hS ?_; clear hS; (try clear ww); intro ww hS) | (refine w_s1 rfl _ _ rfl (by rfl) (by repeat constructor) (by first | exact .c | exact .t rfl) (by rfl) (by repeat constructor) hS ?_; clear hS; (try clear ww); intro ww hS))
  (try simp only [Act.put]); (try simp only [List.setIfInBounds_toArray]); (try simp only [List.set_cons_succ]); (try simp only [List.set_cons_zero])
  refine own_any hS [] 11 (by kernel_rfl) (by kernel_rfl) ?_
  clear hS
  intro hcl ww hS
  refine own_batch hS [0, 1, 2, 3, 4, 6, 7] 4 rfl hcl (by kernel_rfl) ?_
  (try simp only); repeat (first | (simp only [List.filterMap_cons]) | (simp only [List.filterMap_nil]) | (simp only [List.getElem?_toArray]) | (simp only [List.getElem?_cons_succ]) | (simp only [List.getElem?_cons_zero]) | (simp only [List.reverse_cons]) | (simp only [List.reverse_nil]) | (simp only [List.nil_append]) | (simp only [List.cons_append]))
  repeat (first
      | (first | (refine g_plain rfl ?_) | (refine g_yes rfl rfl rfl (by simp only [List.getElem?_toArray, List.getElem?_cons_succ, List.getElem?_cons_zero]; rfl) (by with_reducible constructor) ?_)
         apply Exists.intro; refine ⟨?_, ?_⟩
         focus (intro wq hq0; (first | have hq : Own _ _ _ wq := hq0 | have hq : Own _ _ _ wq := hq0.1 | skip); first | ((with_reducible show givesAt _ ({ dst := _, op := Op.load _ _, type := _, pos := _, after := _, guard := _ } : Oper) _ _ _); first | (exact givesAt_rd rfl (by rfl) (by first | exact rd_1 (by repeat constructor) (by first | rfl | assumption) | exact rd_w (by repeat constructor) (by rfl) | exact rd_o (by assumption) (by rfl) (by first | exact nmn | assumption | simp) | exact rd_h (by assumption) (by rfl) (by first | exact nmn | assumption | simp) | exact rd_1o (by assumption) (by first | exact nmn | assumption | simp) | exact rd_1h (by assumption) (by first | rfl | assumption) (by first | exact nmn | assumption | simp)) hq)) | (go_simp; first | (with_reducible rfl)))
         simp only [Act.put, List.setIfInBounds_toArray]; (try simp only [List.set_cons_succ]); (try simp only [List.set_cons_zero]))
      | (refine g_no rfl rfl rfl (by simp only [List.getElem?_toArray, List.getElem?_cons_succ, List.getElem?_cons_zero]; rfl) (by with_reducible constructor) ?_; simp only [Act.put, List.setIfInBounds_toArray]; (try simp only [List.set_cons_succ]); (try simp only [List.set_cons_zero])))
  refine g_nil ?_
  clear hS hcl
  intro hcl ww hS
  (try simp only [Act.put]); (try simp only [List.setIfInBounds_toArray]); (try simp only [List.set_cons_succ]); (try simp only [List.set_cons_zero])
  refine own_softB hS 5 hcl (by simp only [List.getElem?_toArray, List.getElem?_cons_succ, List.getElem?_cons_zero]; rfl) (by kernel_rfl) ?_
  have hO := hS
  clear hS
  intro hS
  go_wp2_with (first | (go_at_call 21; refine Calls.mono (ref28_At_I (fun k => k < w.heap.size) n (glyB n gn p gw gh gd) _ xr up _ (HG.out _) jX ju) ?_; rintro e w4 ⟨cs4, rfl, hr4, hb4⟩))
  refine ⟨[], hS.step hb4, ?_⟩
  clear hS
  intro hcl w10 hS hb5
  obtain ⟨P1, D1, hD1, hPP1, hs2, q1, hS2, hC2⟩ := own_give HS0.out hO hr4 hb4 hb5
  have HC1 := Lib.hid (chainH HC0.out hD0 hC2)
  have HS1 := Lib.hid hs2
  have Q1 := Lib.hid q1
  have hall1 := rep_all q1
  obtain ⟨e0, e1, e2, e3, e4, e5, e6, e7, e8, e9, e10, rfl⟩ := eleven q1.len
  clear hS hs2 hr4 hb4 hb5 hC2 q1 hO
  have hS := hS2
  clear hS2
  (try simp only [Act.put]); (try simp only [List.setIfInBounds_toArray]); (try simp only [List.set_cons_succ]); (try simp only [List.set_cons_zero])
  refine own_softB hS 8 hcl (by simp only [List.getElem?_toArray, List.getElem?_cons_succ, List.getElem?_cons_zero]; rfl) (by kernel_rfl) ?_
  have hO := hS
  clear hS
  intro hS
  go_wp2_with (first | (go_at_call 21; refine Calls.mono (ref28_At_I P1 n body _ r 0 _ (repP_mono (repP_step HrP.out (chainH HC1.out hD1 hO).below) hPP1) jr i64_0) ?_; rintro e w4 ⟨cs4, rfl, hr4, hb4⟩))
  refine ⟨[], hS.step hb4, ?_⟩
  clear hS
  intro hcl w20 hS hb5
  obtain ⟨P2, D2, hD2, hPP2, hs2, q2, hS2, hC2⟩ := own_give HS1.out hO hr4 hb4 hb5
  have HC2 := Lib.hid (chainH HC1.out hD1 hC2)
  have HS2 := Lib.hid hs2
  have Q2 := Lib.hid q2
  have Q12 := Lib.hid (repP_mono (HS1.out.turn Q1.out hC2) hPP2)
  have hall2 := rep_all q2
  obtain ⟨f0, f1, f2, f3, f4, f5, f6, f7, f8, f9, f10, rfl⟩ := eleven q2.len
  clear hS hs2 hr4 hb4 hb5 hC2 q2 hO
  have hS := hS2
  clear hS2
  (try simp only [Act.put]); (try simp only [List.setIfInBounds_toArray]); (try simp only [List.set_cons_succ]); (try simp only [List.set_cons_zero])
  refine own_soft hS 9 hcl (by simp only [List.getElem?_toArray, List.getElem?_cons_succ, List.getElem?_cons_zero]; rfl) (by kernel_rfl) ?_
  have hO := hS
  clear hS
  intro hS
  refine own_buildSlice rfl _ _ 2 _ rfl [e0, e1, e2, e3, e4, e5, e6, e7, e8, e9, e10, f0, f1, f2, f3, f4, f5, f6, f7, f8, f9, f10] hS Try.underlying30 (by kernel_rfl) ?_
  clear hS
  intro bs w6 hS
  refine wpList_nil ⟨rfl, _, hS, ?_⟩
  clear hS hO hcl
  intro hcl w7 hS
  simp only [List.cons_append, List.nil_append] at hS
  (try simp only [Act.put]); (try simp only [List.setIfInBounds_toArray]); (try simp only [List.set_cons_succ]); (try simp only [List.set_cons_zero])
  refine own_batch hS [10] 0 rfl hcl (by kernel_rfl) ?_
  (try simp only); repeat (first | (simp only [List.filterMap_cons]) | (simp only [List.filterMap_nil]) | (simp only [List.getElem?_toArray]) | (simp only [List.getElem?_cons_succ]) | (simp only [List.getElem?_cons_zero]) | (simp only [List.reverse_cons]) | (simp only [List.reverse_nil]) | (simp only [List.nil_append]) | (simp only [List.cons_append]))
  repeat (first
      | (first | (refine g_plain rfl ?_) | (refine g_yes rfl rfl rfl (by simp only [List.getElem?_toArray, List.getElem?_cons_succ, List.getElem?_cons_zero]; rfl) (by with_reducible constructor) ?_)
         apply Exists.intro; refine ⟨?_, ?_⟩
         focus (intro wq hq0; (first | have hq : Own _ _ _ wq := hq0 | have hq : Own _ _ _ wq := hq0.1 | skip); first | ((with_reducible show givesAt _ ({ dst := _, op := Op.load _ _, type := _, pos := _, after := _, guard := _ } : Oper) _ _ _); first | (exact givesAt_rd rfl (by rfl) (by first | exact rd_1 (by repeat constructor) (by first | rfl | assumption) | exact rd_w (by repeat constructor) (by rfl) | exact rd_o (by assumption) (by rfl) (by first | exact nmn | assumption | simp) | exact rd_h (by assumption) (by rfl) (by first | exact nmn | assumption | simp) | exact rd_1o (by assumption) (by first | exact nmn | assumption | simp) | exact rd_1h (by assumption) (by first | rfl | assumption) (by first | exact nmn | assumption | simp)) hq)) | (go_simp; first | (with_reducible rfl)))
         simp only [Act.put, List.setIfInBounds_toArray]; (try simp only [List.set_cons_succ]); (try simp only [List.set_cons_zero]))
      | (refine g_no rfl rfl rfl (by simp only [List.getElem?_toArray, List.getElem?_cons_succ, List.getElem?_cons_zero]; rfl) (by with_reducible constructor) ?_; simp only [Act.put, List.setIfInBounds_toArray]; (try simp only [List.set_cons_succ]); (try simp only [List.set_cons_zero])))
  refine g_nil ?_
  clear hS hcl
  intro hcl ww hS
  refine own_done (by kernel_rfl) ?_
  (try simp only [Act.put]); (try simp only [List.setIfInBounds_toArray]); (try simp only [List.set_cons_succ]); (try simp only [List.set_cons_zero])
  go_wp2_with (first | (refine own_unguard (by rfl) ?_) | (refine w_ld rfl _ rfl (by rfl) (by first | exact rd_1 (by repeat constructor) (by first | rfl | assumption) | exact rd_w (by repeat constructor) (by rfl) | exact rd_o (by assumption) (by rfl) (by first | exact nmn | assumption | simp) | exact rd_h (by assumption) (by rfl) (by first | exact nmn | assumption | simp) | exact rd_1o (by assumption) (by first | exact nmn | assumption | simp) | exact rd_1h (by assumption) (by first | rfl | assumption) (by first | exact nmn | assumption | simp)) hS ?_) | (refine own_box rfl _ _ rfl (by rfl) hS ?_; clear hS; (try clear ww); intro bb ww hS) | (refine w_al rfl rfl hS ?_; clear hS; (try clear ww); intro bb ww hS) | (refine w_st rfl _ _ rfl (by rfl) (by rfl) (by repeat constructor) (by rfl) (by rfl) (by first | rfl | assumption) hS ?_; clear hS; (try clear ww); intro ww hS) | (refine w_s1 rfl _ _ rfl (by rfl) (by repeat constructor) (by first | exact .c | exact .t rfl) (by rfl) (by repeat constructor) hS ?_; clear hS; (try clear ww); intro ww hS))
  have hrow : RepLP P2 _ (n + 1) (some ⟨bs, 0, none⟩) [atXY (n + 1) (glyB n gn p gw gh gd) xr up, atXY (n + 1) body r 0] := has_kids (hS.get at0) ⟨_, _, rfl, HS2.out.turn Q12.out hS, ⟨_, [], by simp, HS2.out.turn Q2.out hS, rfl⟩⟩
  go_at_call 38
  refine Calls.mono (ref28_List_I P2 (n + 1) [atXY (n + 1) (glyB n gn p gw gh gd) xr up, atXY (n + 1) body r 0] _ 2 E HH DD _ hrow (by simp) (by simp) iE iH iD) ?_
  rintro e wA ⟨csA, rfl, hrA, hbA⟩
  obtain ⟨PA, DA, hDA, hPPA, hsA, qA, hS2, hC2⟩ := own_give HS2.out hS hrA hbA (bself _)
  have HCA := Lib.hid (chainH HC2.out hD2 hC2)
  have HSA := Lib.hid hsA
  have QA := Lib.hid qA
  have hallA := rep_all qA
  obtain ⟨g0, g1, g2, g3, g4, g5, g6, g7, g8, g9, g10, rfl⟩ := eleven qA.len
  clear hS hrA hbA hsA qA hC2 hrow
  (try clear ww)
  have hS := hS2
  clear hS2
  have HDn := Lib.hid (fun (ww : World) (L' : List (Nat × List Value)) (h : Own DA wA L' ww) => ref32_Done_ok (n + 2) _ _ ww (HSA.out.turn QA.out h).rep HcR.out HvR.out)
  go_wp2_with (first | (refine own_unguard (by rfl) ?_) | (go_at_call 37; refine own_calls hS (HDn.out _ _ hS) ?_; clear hS; (try clear ww); intro ww hS) | (refine w_ld rfl _ rfl (by rfl) (by first | exact rd_1 (by repeat constructor) (by first | rfl | assumption) | exact rd_w (by repeat constructor) (by rfl) | exact rd_o (by assumption) (by rfl) (by first | exact nmn | assumption | simp) | exact rd_h (by assumption) (by rfl) (by first | exact nmn | assumption | simp) | exact rd_1o (by assumption) (by first | exact nmn | assumption | simp) | exact rd_1h (by assumption) (by first | rfl | assumption) (by first | exact nmn | assumption | simp)) hS ?_) | (refine own_box rfl _ _ rfl (by rfl) hS ?_; clear hS; (try clear ww); intro bb ww hS) | (refine w_al rfl rfl hS ?_; clear hS; (try clear ww); intro bb ww hS) | (refine w_st rfl _ _ rfl (by rfl) (by rfl) (by repeat constructor) (by rfl) (by rfl) (by first | rfl | assumption) hS ?_; clear hS; (try clear ww); intro ww hS) | (refine w_s1 rfl _ _ rfl (by rfl) (by repeat constructor) (by first | exact .c | exact .t rfl) (by rfl) (by repeat constructor) hS ?_; clear hS; (try clear ww); intro ww hS))
  have hc := (hS.get at3).cell
  refine bodyPost_ret (v := .tuple #[.agg #[g0, g1, g2, g3, g4, g5, g6, g7, g8, g9, g10], .int .i64 0]) (by simp [results, Try.results11, go_sem, hc]) rfl ⟨_, rfl, (HSA.out.turn QA.out hS).rep, (chainH HCA.out hDA hS).below⟩

end Go.Proofs.Ytceigjonhabmmaa
