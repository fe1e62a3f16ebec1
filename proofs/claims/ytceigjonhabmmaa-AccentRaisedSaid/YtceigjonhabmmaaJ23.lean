/- Texts Arn, Amj, Awf, Aw6. -/
import Derived.Test.YtceigjonhabmmaaJ19
import Derived.Test.YtceigjonhabmmaaJ16
import Derived.Test.YtceigjonhabmmaaJ20
import Derived.Test.YtceigjonhabmmaaJ21
import Derived.Test.YtceigjonhabmmaaJ22
namespace Go.Proofs.Ytceigjonhabmmaa
open Go.RowKit

attribute [local irreducible] wpQuiet wpG wpP wpK wpList Code.wp Calls

set_option maxHeartbeats 16000000 in
set_option maxRecDepth 100000 in
theorem refAcc_n (F : Fnt) (l p a1 a2 x r xr up gw gh gd E HH DD bw bh bd : Int) (gn s : ByteArray) (c : Bool) (n m : Nat) (body : Bx (n + 1)) (c0 c1 c2 c6 c7 c8 c9 c10 : Value) (w : World) (hF : FntOk w F) (hq : F.gs.length ≤ 500 ∧ F.ss.length ≤ 50) (hl : lvlOk l = true) (hv : ValidF F) (hrP : RepP (fun k => k < w.heap.size) w (n + 1) body [c0, c1, c2, .int .i64 bw, .int .i64 bh, .int .i64 bd, c6, c7, c8, c9, c10]) (hb : validB (n + 1) body) (hcb : bCount (n + 1) body ≤ 1000000) (hs : s ∈ accNames) (hZ : ∀ w', Calls Try.prog 35 #[F.val, .agg #[.int .i64 l, .bool c]] w' (Gives (.int .i64 p) w')) (hBx : ∀ w', Below w.heap.size w w' → Calls Try.prog 34 #[F.val, .string s, .int .i64 p] w' (Gives (.tuple #[.agg #[.int .i64 1, .string gn, .int .i64 p, .int .i64 gw, .int .i64 gh, .int .i64 gd, .int .i64 0, .int .i64 0, .slice none 0 0, .int .i64 0, .slice none 0 0], .int .i64 0]) w')) (hAt : ∀ w', Below w.heap.size w w' → Calls Try.prog 17 #[F.val, .agg #[c0, c1, c2, .int .i64 bw, .int .i64 bh, .int .i64 bd, c6, c7, c8, c9, c10]] w' (Gives (.int .i64 a1) w')) (hat : ∀ w', Below w.heap.size w w' → Calls Try.prog 20 #[F.val, .agg #[.int .i64 l, .bool c], .string s] w' (Gives (.int .i64 a2) w')) (hRa : ∀ w', Below w.heap.size w w' → Calls Try.prog 36 #[F.val, .agg #[.int .i64 l, .bool c], .agg #[c0, c1, c2, .int .i64 bw, .int .i64 bh, .int .i64 bd, c6, c7, c8, c9, c10]] w' (Gives (.int .i64 up) w')) (ex : x = a1 - a2) (er : r = max 0 (-x)) (exr : xr = x + r) (ib : (-1073741824 ≤ bw ∧ bw ≤ 1073741824) ∧ (-1073741824 ≤ bh ∧ bh ≤ 1073741824) ∧ (-1073741824 ≤ bd ∧ bd ≤ 1073741824)) (i1 : -1073741824 ≤ a1 ∧ a1 ≤ 1073741824) (i2 : -1073741824 ≤ a2 ∧ a2 ≤ 1073741824) (ig : (-1000000 ≤ gw ∧ gw ≤ 1000000) ∧ (-1000000 ≤ gh ∧ gh ≤ 1000000) ∧ (-1000000 ≤ gd ∧ gd ≤ 1000000)) (iu : -4294967296 ≤ up ∧ up ≤ 4294967296) (hG : ∀ w', RepP (fun k => k < w.heap.size) w' (n + 1) (glyB n gn p gw gh gd) [.int .i64 1, .string gn, .int .i64 p, .int .i64 gw, .int .i64 gh, .int .i64 gd, .int .i64 0, .int .i64 0, .slice none 0 0, .int .i64 0, .slice none 0 0]) (eE : E = max (max 0 (xr + gw)) (r + bw)) (eH : HH = max bh (up + gh)) (eD : DD = max bd (gd - up)) (hcR : bCount (n + 2) (listB (n + 1) E HH DD [atXY (n + 1) (glyB n gn p gw gh gd) xr up, atXY (n + 1) body r 0]) ≤ 1000000) (hvR : ¬ validB (n + 2) (listB (n + 1) E HH DD [atXY (n + 1) (glyB n gn p gw gh gd) xr up, atXY (n + 1) body r 0])) :
    Calls Try.prog 11 #[F.val, .agg #[.int .i64 l, .bool c], .string s, .agg #[c0, c1, c2, .int .i64 bw, .int .i64 bh, .int .i64 bd, c6, c7, c8, c9, c10]] w (GivesBE (m + 1) (zeroB m) 6 w) := by
  have HCk := Lib.hid (fun w' y k2 (h : Below w.heap.size w w') (hA : RepL w' (n + 1) y [body]) => ref32_Check_calls F l c (n + 1) [body] y k2 w' (hF.below h) hq hA (fun k hk => by obtain rfl := List.mem_singleton.1 hk; exact hcb) (by simp) 0 (.inl ⟨rfl, hv, hl, fun k hk => by obtain rfl := List.mem_singleton.1 hk; exact hb⟩))
  have HAc := Lib.hid (fun w' => ref36_Accent_calls s w' true (iff_t hs))
  have HZ := Lib.hid hZ
  have HBx := Lib.hid hBx
  have HAt := Lib.hid hAt
  have Hat := Lib.hid hat
  have HRa := Lib.hid hRa
  have HrP := Lib.hid hrP
  have hallb := rep_all hrP
  have HvR := Lib.hid hvR
  have HcR := Lib.hid hcR
  have HG := Lib.hid hG
  have b_r : 0 ≤ r ∧ r ≤ 2147483648 := by omega
  have m2 : ∀ (w : World) (ts : Array TypeId) (t : TypeId), (Builtin.max_ ts t #[.int .i64 0, .int .i64 (-x)]).run Try.prog w = .ok (.int .i64 r) w := fun w ts t => by rw [run_max_int2, er]; congr 2; split <;> omega
  have m3 : ∀ (w : World) (ts : Array TypeId) (t : TypeId), (Builtin.max_ ts t #[.int .i64 0, .int .i64 (xr + gw), .int .i64 (r + bw)]).run Try.prog w = .ok (.int .i64 E) w := fun w ts t => by
    rw [run_max_int3, eE]
    congr 2
    repeat' split
    all_goals omega
  have m4 : ∀ (w : World) (ts : Array TypeId) (t : TypeId), (Builtin.max_ ts t #[.int .i64 bh, .int .i64 (up + gh)]).run Try.prog w = .ok (.int .i64 HH) w := fun w ts t => by rw [run_max_int2, eH]; congr 2; split <;> omega
  have m5 : ∀ (w : World) (ts : Array TypeId) (t : TypeId), (Builtin.max_ ts t #[.int .i64 bd, .int .i64 (gd - up)]).run Try.prog w = .ok (.int .i64 DD) w := fun w ts t => by rw [run_max_int2, eD]; congr 2; split <;> omega
  have k2 : IntKind.i64.wrap (a1 - a2) = x := by rw [ex]; exact IntWalk.i64_in _ (by omega)
  have k3 : IntKind.i64.wrap (-x) = -x := IntWalk.i64_in _ (by omega)
  have k4 : IntKind.i64.wrap (x + r) = xr := by rw [exr]; exact IntWalk.i64_in _ (by omega)
  have k5 : IntKind.i64.wrap (xr + gw) = xr + gw := IntWalk.i64_in _ (by omega)
  have k6 : IntKind.i64.wrap (r + bw) = r + bw := IntWalk.i64_in _ (by omega)
  have k7 : IntKind.i64.wrap (up + gh) = up + gh := IntWalk.i64_in _ (by omega)
  have k8 : IntKind.i64.wrap (gd - up) = gd - up := IntWalk.i64_in _ (by omega)
  have jX : I64 xr := by unfold I64; omega
  have jr : I64 r := by unfold I64; omega
  have ju : I64 up := by unfold I64; omega
  have iE : I64 E := by unfold I64; omega
  have iH : I64 HH := by unfold I64; omega
  have iD : I64 DD := by unfold I64; omega
  have hallg : ∀ v ∈ ([.int .i64 1, .string gn, .int .i64 p, .int .i64 gw, .int .i64 gh, .int .i64 gd, .int .i64 0, .int .i64 0, .slice none 0 0, .int .i64 0, .slice none 0 0] : List Value), v.oneCell' = true := by intro v hv; simp only [List.mem_cons, List.not_mem_nil, or_false] at hv; rcases hv with rfl | rfl | rfl | rfl | rfl | rfl | rfl | rfl | rfl | rfl | rfl <;> rfl
  clear hF hq hl hv hrP hb hcb hs hZ hBx hAt hat hRa ex er exr ib i1 i2 ig iu hG eE eH eD hcR hvR b_r
  go_enter Try.func11, Try.ntmps11
  have hS := own_start w
  go_upto_region 1 with (first | (refine own_unguard (by rfl) ?_) | (refine w_ld rfl _ rfl (by rfl) (by first | exact rd_1 (by repeat constructor) (by first | rfl | assumption) | exact rd_w (by repeat constructor) (by rfl) | exact rd_o (by assumption) (by rfl) (by first | exact nmn | assumption | simp) | exact rd_h (by assumption) (by rfl) (by first | exact nmn | assumption | simp) | exact rd_1o (by assumption) (by first | exact nmn | assumption | simp) | exact rd_1h (by assumption) (by first | rfl | assumption) (by first | exact nmn | assumption | simp)) hS ?_) | (refine own_box rfl _ _ rfl (by rfl) hS ?_; clear hS; (try clear ww); intro bb ww hS) | (refine w_al rfl rfl hS ?_; clear hS; (try clear ww); intro bb ww hS) | (refine w_st rfl _ _ rfl (by rfl) (by rfl) (by repeat constructor) (by rfl) (by rfl) (by first | rfl | assumption) hS ?_; clear hS; (try clear ww); intro ww hS) | (refine w_s1 rfl _ _ rfl (by rfl) (by repeat constructor) (by first | exact .c | exact .t rfl) (by rfl) (by repeat constructor) hS ?_; clear hS; (try clear ww); intro ww hS))
  have HC0 := Lib.hid hS
  obtain ⟨D0, hD0, hs0, hS1⟩ := safe_start (R := fun k => k < w.heap.size) hS (fun _ h => h)
  have HS0 := Lib.hid hs0
  clear hS hs0
  have hS := hS1
  clear hS1
  rename World => wv
  go_upto_region 3 with (first | (refine own_unguard (by rfl) ?_) | (refine own_buildSlice rfl _ _ 1 _ rfl [c0, c1, c2, .int .i64 bw, .int .i64 bh, .int .i64 bd, c6, c7, c8, c9, c10] hS Try.underlying30 (by kernel_rfl) ?_; clear hS; (try clear ww); intro bq ww hS; have hA1 : RepL ww (n + 1) (some ⟨bq, 0, none⟩) [body] := repLP_L (has_kids (P := fun k => k < w.heap.size) (hS.get at0) ⟨_, [], by simp, repP_step HrP.out (chainH HC0.out hD0 hS).below, rfl⟩)) | (go_at_call 32; refine own_calls hS (HCk.out _ _ _ (chainH HC0.out hD0 hS).below hA1) ?_; clear hS hA1; (try clear ww); intro ww hS) | (go_at_call 33; refine own_calls hS (by first | exact HAc.out _) ?_; clear hS; (try clear ww); intro ww hS) | (refine w_ld rfl _ rfl (by rfl) (by first | exact rd_1 (by repeat constructor) (by first | rfl | assumption) | exact rd_w (by repeat constructor) (by rfl) | exact rd_o (by assumption) (by rfl) (by first | exact nmn | assumption | simp) | exact rd_h (by assumption) (by rfl) (by first | exact nmn | assumption | simp) | exact rd_1o (by assumption) (by first | exact nmn | assumption | simp) | exact rd_1h (by assumption) (by first | rfl | assumption) (by first | exact nmn | assumption | simp)) hS ?_) | (refine own_box rfl _ _ rfl (by rfl) hS ?_; clear hS; (try clear ww); intro bb ww hS) | (refine w_al rfl rfl hS ?_; clear hS; (try clear ww); intro bb ww hS) | (refine w_st rfl _ _ rfl (by rfl) (by rfl) (by repeat constructor) (by rfl) (by rfl) (by first | rfl | assumption) hS ?_; clear hS; (try clear ww); intro ww hS) | (refine w_s1 rfl _ _ rfl (by rfl) (by repeat constructor) (by first | exact .c | exact .t rfl) (by rfl) (by repeat constructor) hS ?_; clear hS; (try clear ww); intro ww hS))
  (try simp only [Act.put]); (try simp only [List.setIfInBounds_toArray]); (try simp only [List.set_cons_succ]); (try simp only [List.set_cons_zero])
  refine own_any hS [10] 12 (by kernel_rfl) (by kernel_rfl) ?_
  clear hS
  intro hcl ww hS
  refine own_batch hS [0, 1, 2, 3, 4, 5, 6, 7] 4 rfl hcl (by kernel_rfl) ?_
  (try simp only); repeat (first | (simp only [List.filterMap_cons]) | (simp only [List.filterMap_nil]) | (simp only [List.getElem?_toArray]) | (simp only [List.getElem?_cons_succ]) | (simp only [List.getElem?_cons_zero]) | (simp only [List.reverse_cons]) | (simp only [List.reverse_nil]) | (simp only [List.nil_append]) | (simp only [List.cons_append]))
  repeat (first
      | (first | (refine g_plain rfl ?_) | (refine g_yes rfl rfl rfl (by simp only [List.getElem?_toArray, List.getElem?_cons_succ, List.getElem?_cons_zero]; rfl) (by with_reducible constructor) ?_)
         apply Exists.intro; refine ⟨?_, ?_⟩
         focus (intro wq hq0; (first | have hq : Own _ _ _ wq := hq0 | have hq : Own _ _ _ wq := hq0.1 | skip); first | ((with_reducible show givesAt _ ({ dst := _, op := Op.load _ _, type := _, pos := _, after := _, guard := _ } : Oper) _ _ _); first | (exact givesAt_rd rfl (by rfl) (by first | exact rd_1 (by repeat constructor) (by first | rfl | assumption) | exact rd_w (by repeat constructor) (by rfl) | exact rd_o (by assumption) (by rfl) (by first | exact nmn | assumption | simp) | exact rd_h (by assumption) (by rfl) (by first | exact nmn | assumption | simp) | exact rd_1o (by assumption) (by first | exact nmn | assumption | simp) | exact rd_1h (by assumption) (by first | rfl | assumption) (by first | exact nmn | assumption | simp)) hq)) | (go_simp; first | (go_at_call 35; exact HZ.out _) | (go_at_call 34; exact HBx.out _ (chainH HC0.out hD0 hq).below) | (with_reducible rfl)))
         simp only [Act.put, List.setIfInBounds_toArray]; (try simp only [List.set_cons_succ]); (try simp only [List.set_cons_zero]))
      | (refine g_no rfl rfl rfl (by simp only [List.getElem?_toArray, List.getElem?_cons_succ, List.getElem?_cons_zero]; rfl) (by with_reducible constructor) ?_; simp only [Act.put, List.setIfInBounds_toArray]; (try simp only [List.set_cons_succ]); (try simp only [List.set_cons_zero])))
  refine g_nil ?_
  clear hS hcl
  intro hcl ww hS
  (try simp only [Act.put]); (try simp only [List.setIfInBounds_toArray]); (try simp only [List.set_cons_succ]); (try simp only [List.set_cons_zero])
  refine own_pure hS [8] 3 rfl hcl (by kernel_rfl) ?_
  (try simp only); repeat (first | (simp only [List.filterMap_cons]) | (simp only [List.filterMap_nil]) | (simp only [List.getElem?_toArray]) | (simp only [List.getElem?_cons_succ]) | (simp only [List.getElem?_cons_zero]) | (simp only [List.reverse_cons]) | (simp only [List.reverse_nil]) | (simp only [List.nil_append]) | (simp only [List.cons_append]))
  repeat (first
      | (first | (refine g_plain rfl ?_) | (refine g_yes rfl rfl rfl (by simp only [List.getElem?_toArray, List.getElem?_cons_succ, List.getElem?_cons_zero]; rfl) (by with_reducible constructor) ?_)
         apply Exists.intro; refine ⟨?_, ?_⟩
         focus (intro wq hq0; (first | have hq : Own _ _ _ wq := hq0 | have hq : Own _ _ _ wq := hq0.1 | skip); first | ((with_reducible show givesAt _ ({ dst := _, op := Op.load _ _, type := _, pos := _, after := _, guard := _ } : Oper) _ _ _); first | (exact givesAt_rd rfl (by rfl) (by first | exact rd_1 (by repeat constructor) (by first | rfl | assumption) | exact rd_w (by repeat constructor) (by rfl) | exact rd_o (by assumption) (by rfl) (by first | exact nmn | assumption | simp) | exact rd_h (by assumption) (by rfl) (by first | exact nmn | assumption | simp) | exact rd_1o (by assumption) (by first | exact nmn | assumption | simp) | exact rd_1h (by assumption) (by first | rfl | assumption) (by first | exact nmn | assumption | simp)) hq)) | (go_simp; first | (with_reducible rfl)))
         simp only [Act.put, List.setIfInBounds_toArray]; (try simp only [List.set_cons_succ]); (try simp only [List.set_cons_zero]))
      | (refine g_no rfl rfl rfl (by simp only [List.getElem?_toArray, List.getElem?_cons_succ, List.getElem?_cons_zero]; rfl) (by with_reducible constructor) ?_; simp only [Act.put, List.setIfInBounds_toArray]; (try simp only [List.set_cons_succ]); (try simp only [List.set_cons_zero])))
  refine g_nil ?_
  clear hS hcl
  intro hcl ww hS
  (try simp only [Act.put]); (try simp only [List.setIfInBounds_toArray]); (try simp only [List.set_cons_succ]); (try simp only [List.set_cons_zero])
  refine own_frees hS [(9, 10, [.int .i64 0, .string ⟨#[]⟩, .int .i64 0, .int .i64 0, .int .i64 0, .int .i64 0, .int .i64 0, .int .i64 0, .slice none 0 0, .int .i64 0, .slice none 0 0])] 2 rfl (.cons (by simp only [List.getElem?_toArray, List.getElem?_cons_succ, List.getElem?_cons_zero]; rfl) rfl rfl rfl zt_box .nil) hcl (by kernel_rfl) ?_
  clear hS hcl
  intro f wf hcl hS
  simp only [putF, ownF, List.map_cons, List.map_nil, List.foldr_cons, List.foldr_nil, List.cons_append, List.nil_append] at hS hcl ⊢
  generalize f 9 = bma at *
  (try simp only [Act.put]); (try simp only [List.setIfInBounds_toArray]); (try simp only [List.set_cons_succ]); (try simp only [List.set_cons_zero])
  refine own_hard (D := D0) (W := wv) 10 hcl (by simp only [List.getElem?_toArray, List.getElem?_cons_succ, List.getElem?_cons_zero]; rfl) (by kernel_rfl) (by kernel_rfl) ?_
  (refine w_st rfl _ _ rfl (by rfl) (by rfl) (by repeat constructor) (by rfl) (by rfl) (by first | rfl | assumption) hS ?_; clear hS; intro ww hS)
  refine wpList_nil ⟨rfl, _, hS, ?_⟩
  clear hS hcl
  intro hcl wg hS
  (try simp only [Act.put]); (try simp only [List.setIfInBounds_toArray]); (try simp only [List.set_cons_succ]); (try simp only [List.set_cons_zero])
  refine own_batch hS [11] 0 rfl hcl (by kernel_rfl) ?_
  (try simp only); repeat (first | (simp only [List.filterMap_cons]) | (simp only [List.filterMap_nil]) | (simp only [List.getElem?_toArray]) | (simp only [List.getElem?_cons_succ]) | (simp only [List.getElem?_cons_zero]) | (simp only [List.reverse_cons]) | (simp only [List.reverse_nil]) | (simp only [List.nil_append]) | (simp only [List.cons_append]))
  repeat (first
      | (first | (refine g_plain rfl ?_) | (refine g_yes rfl rfl rfl (by simp only [List.getElem?_toArray, List.getElem?_cons_succ, List.getElem?_cons_zero]; rfl) (by with_reducible constructor) ?_)
         apply Exists.intro; refine ⟨?_, ?_⟩
         focus (intro wq hq0; (first | have hq : Own _ _ _ wq := hq0 | have hq : Own _ _ _ wq := hq0.1 | skip); first | ((with_reducible show givesAt _ ({ dst := _, op := Op.load _ _, type := _, pos := _, after := _, guard := _ } : Oper) _ _ _); first | (exact givesAt_rd rfl (by rfl) (by first | exact rd_1 (by repeat constructor) (by first | rfl | assumption) | exact rd_w (by repeat constructor) (by rfl) | exact rd_o (by assumption) (by rfl) (by first | exact nmn | assumption | simp) | exact rd_h (by assumption) (by rfl) (by first | exact nmn | assumption | simp) | exact rd_1o (by assumption) (by first | exact nmn | assumption | simp) | exact rd_1h (by assumption) (by first | rfl | assumption) (by first | exact nmn | assumption | simp)) hq)) | (go_simp; first | (with_reducible rfl)))
         simp only [Act.put, List.setIfInBounds_toArray]; (try simp only [List.set_cons_succ]); (try simp only [List.set_cons_zero]))
      | (refine g_no rfl rfl rfl (by simp only [List.getElem?_toArray, List.getElem?_cons_succ, List.getElem?_cons_zero]; rfl) (by with_reducible constructor) ?_; simp only [Act.put, List.setIfInBounds_toArray]; (try simp only [List.set_cons_succ]); (try simp only [List.set_cons_zero])))
  refine g_nil ?_
  clear hS hcl
  intro hcl ww hS
  refine own_done (by kernel_rfl) ?_
  (try simp only [Act.put]); (try simp only [List.setIfInBounds_toArray]); (try simp only [List.set_cons_succ]); (try simp only [List.set_cons_zero])
  go_upto_region 4 with (first | (refine own_unguard (by rfl) ?_) | (refine w_ld rfl _ rfl (by rfl) (by first | exact rd_1 (by repeat constructor) (by first | rfl | assumption) | exact rd_w (by repeat constructor) (by rfl) | exact rd_o (by assumption) (by rfl) (by first | exact nmn | assumption | simp) | exact rd_h (by assumption) (by rfl) (by first | exact nmn | assumption | simp) | exact rd_1o (by assumption) (by first | exact nmn | assumption | simp) | exact rd_1h (by assumption) (by first | rfl | assumption) (by first | exact nmn | assumption | simp)) hS ?_) | (refine own_box rfl _ _ rfl (by rfl) hS ?_; clear hS; (try clear ww); intro bb ww hS) | (refine w_al rfl rfl hS ?_; clear hS; (try clear ww); intro bb ww hS) | (refine w_st rfl _ _ rfl (by rfl) (by rfl) (by repeat constructor) (by rfl) (by rfl) (by first | rfl | assumption) hS ?_; clear hS; (try clear ww); intro ww hS) | (refine w_s1 rfl _ _ rfl (by rfl) (by repeat constructor) (by first | exact .c | exact .t rfl) (by rfl) (by repeat constructor) hS ?_; clear hS; (try clear ww); intro ww hS))
  (try simp only [Act.put]); (try simp only [List.setIfInBounds_toArray]); (try simp only [List.set_cons_succ]); (try simp only [List.set_cons_zero])
  refine own_region hS (by kernel_rfl) (by kernel_rfl) ?_
  (try simp only [List.append])
  (try simp only); (try simp only [List.drop_succ_cons]); (try simp only [List.drop_zero]); (try simp only [List.take_succ_cons]); (try simp only [List.take_zero])
  repeat (first
      | (first | (refine quiet_plain rfl ?_) | (refine quiet_yes rfl rfl rfl (by simp only [List.getElem?_toArray, List.getElem?_cons_succ, List.getElem?_cons_zero]; rfl) (by with_reducible constructor) ?_)
         apply Exists.intro; refine ⟨?_, ?_⟩
         focus (intro wq hq0; have hq : Own _ _ _ wq := hq0; first | (exact quietAt_rd rfl (by rfl) (by first | exact rd_1 (by repeat constructor) (by first | rfl | assumption) | exact rd_w (by repeat constructor) (by rfl) | exact rd_o (by assumption) (by rfl) (by first | exact nmn | assumption | simp) | exact rd_h (by assumption) (by rfl) (by first | exact nmn | assumption | simp) | exact rd_1o (by assumption) (by first | exact nmn | assumption | simp) | exact rd_1h (by assumption) (by first | rfl | assumption) (by first | exact nmn | assumption | simp)) hq) | (go_simp; first | (go_at_call 17; exact quietG hq (HAt.out _ (chainH HC0.out hD0 hq).below)) | (go_at_call 20; exact quietG hq (Hat.out _ (chainH HC0.out hD0 hq).below)) | (go_at_call 36; exact quietG hq (HRa.out _ (chainH HC0.out hD0 hq).below)) | (with_reducible rfl)))
         simp only [Act.put, List.setIfInBounds_toArray, List.set_cons_zero, List.set_cons_succ])
      | (refine quiet_no rfl rfl rfl (by simp only [List.getElem?_toArray, List.getElem?_cons_succ, List.getElem?_cons_zero]; rfl) (by with_reducible constructor) ?_; simp only [Act.put, List.setIfInBounds_toArray, List.set_cons_zero, List.set_cons_succ]))
  refine wpQuiet_nil ?_
  clear hS
  intro ww hS
  go_upto_region 6 with (first | (refine own_unguard (by rfl) ?_) | (refine w_ld rfl _ rfl (by rfl) (by first | exact rd_1 (by repeat constructor) (by first | rfl | assumption) | exact rd_w (by repeat constructor) (by rfl) | exact rd_o (by assumption) (by rfl) (by first | exact nmn | assumption | simp) | exact rd_h (by assumption) (by rfl) (by first | exact nmn | assumption | simp) | exact rd_1o (by assumption) (by first | exact nmn | assumption | simp) | exact rd_1h (by assumption) (by first | rfl | assumption) (by first | exact nmn | assumption | simp)) hS ?_) | (refine own_box rfl _ _ rfl (by rfl) hS ?_; clear hS; (try clear ww); intro bb ww hS) | (refine w_al rfl rfl hS ?_; clear hS; (try clear ww); intro bb ww hS) | (refine w_st rfl _ _ rfl (by rfl) (by rfl) (by repeat constructor) (by rfl) (by rfl) (by first | rfl | assumption) hS ?_; clear hS; (try clear ww); intro ww hS) | (refine w_s1 rfl _ _ rfl (by rfl) (by repeat constructor) (by first | exact .c | exact .t rfl) (by rfl) (by repeat constructor) hS ?_; clear hS; (try clear ww); intro ww hS))
  (try simp only [Act.put]); (try simp only [List.setIfInBounds_toArray]); (try simp only [List.set_cons_succ]); (try simp only [List.set_cons_zero])
  refine own_any hS [] 11 (by kernel_rfl) (by kernel_rfl) ?_
  clear hS
  intro hcl ww hS
  refine own_batch hS [0, 1, 2, 3, 4, 6, 7] 4 rfl hcl (by kernel_rfl) ?_
  (try simp only); repeat (first | (simp only [List.filterMap_cons]) | (simp only [List.filterMap_nil]) | (simp only [List.getElem?_toArray]) | (simp only [List.getElem?_cons_succ]) | (simp only [List.getElem?_cons_zero]) | (simp only [List.reverse_cons]) | (simp only [List.reverse_nil]) | (simp only [List.nil_append]) | (simp only [List.cons_append]))
  repeat (first
      | (first | (refine g_plain rfl ?_) | (refine g_yes rfl rfl rfl (by simp only [List.getElem?_toArray, List.getElem?_cons_succ, List.getElem?_cons_zero]; rfl) (by with_reducible constructor) ?_)
         apply Exists.intro; refine ⟨?_, ?_⟩
         focus (intro wq hq0; (first | have hq : Own _ _ _ wq := hq0 | have hq : Own _ _ _ wq := hq0.1 | skip); first | ((with_reducible show givesAt _ ({ dst := _, op := Op.load _ _, type := _, pos := _, after := _, guard := _ } : Oper) _ _ _); first | (exact givesAt_rd rfl (by rfl) (by first | exact rd_1 (by repeat constructor) (by first | rfl | assumption) | exact rd_w (by repeat constructor) (by rfl) | exact rd_o (by assumption) (by rfl) (by first | exact nmn | assumption | simp) | exact rd_h (by assumption) (by rfl) (by first | exact nmn | assumption | simp) | exact rd_1o (by assumption) (by first | exact nmn | assumption | simp) | exact rd_1h (by assumption) (by first | rfl | assumption) (by first | exact nmn | assumption | simp)) hq)) | (go_simp; first | (with_reducible rfl)))
         simp only [Act.put, List.setIfInBounds_toArray]; (try simp only [List.set_cons_succ]); (try simp only [List.set_cons_zero]))
      | (refine g_no rfl rfl rfl (by simp only [List.getElem?_toArray, List.getElem?_cons_succ, List.getElem?_cons_zero]; rfl) (by with_reducible constructor) ?_; simp only [Act.put, List.setIfInBounds_toArray]; (try simp only [List.set_cons_succ]); (try simp only [List.set_cons_zero])))
  refine g_nil ?_
  clear hS hcl
  intro hcl ww hS
  (try simp only [Act.put]); (try simp only [List.setIfInBounds_toArray]); (try simp only [List.set_cons_succ]); (try simp only [List.set_cons_zero])
  refine own_softB hS 5 hcl (by simp only [List.getElem?_toArray, List.getElem?_cons_succ, List.getElem?_cons_zero]; rfl) (by kernel_rfl) ?_
  have hO := hS
  clear hS
  intro hS
  go_wp2_with (first | (go_at_call 21; refine Calls.mono (ref28_At_I (fun k => k < w.heap.size) n (glyB n gn p gw gh gd) _ xr up _ (HG.out _) jX ju) ?_; rintro e w4 ⟨cs4, rfl, hr4, hb4⟩))
  refine ⟨[], hS.step hb4, ?_⟩
  clear hS
  intro hcl w10 hS hb5
  obtain ⟨P1, D1, hD1, hPP1, hs2, q1, hS2, hC2⟩ := own_give HS0.out hO hr4 hb4 hb5
  have HC1 := Lib.hid (chainH HC0.out hD0 hC2)
  have HS1 := Lib.hid hs2
  have Q1 := Lib.hid q1
  have hall1 := rep_all q1
  obtain ⟨e0, e1, e2, e3, e4, e5, e6, e7, e8, e9, e10, rfl⟩ := eleven q1.len
  clear hS hs2 hr4 hb4 hb5 hC2 q1 hO
  have hS := hS2
  clear hS2
  (try simp only [Act.put]); (try simp only [List.setIfInBounds_toArray]); (try simp only [List.set_cons_succ]); (try simp only [List.set_cons_zero])
  refine own_softB hS 8 hcl (by simp only [List.getElem?_toArray, List.getElem?_cons_succ, List.getElem?_cons_zero]; rfl) (by kernel_rfl) ?_
  have hO := hS
  clear hS
  intro hS
  go_wp2_with (first | (go_at_call 21; refine Calls.mono (ref28_At_I P1 n body _ r 0 _ (repP_mono (repP_step HrP.out (chainH HC1.out hD1 hO).below) hPP1) jr i64_0) ?_; rintro e w4 ⟨cs4, rfl, hr4, hb4⟩))
  refine ⟨[], hS.step hb4, ?_⟩
  clear hS
  intro hcl w20 hS hb5
  obtain ⟨P2, D2, hD2, hPP2, hs2, q2, hS2, hC2⟩ := own_give HS1.out hO hr4 hb4 hb5
  have HC2 := Lib.hid (chainH HC1.out hD1 hC2)
  have HS2 := Lib.hid hs2
  have Q2 := Lib.hid q2
  have Q12 := Lib.hid (repP_mono (HS1.out.turn Q1.out hC2) hPP2)
  have hall2 := rep_all q2
  obtain ⟨f0, f1, f2, f3, f4, f5, f6, f7, f8, f9, f10, rfl⟩ := eleven q2.len
  clear hS hs2 hr4 hb4 hb5 hC2 q2 hO
  have hS := hS2
  clear hS2
  (try simp only [Act.put]); (try simp only [List.setIfInBounds_toArray]); (try simp only [List.set_cons_succ]); (try simp only [List.set_cons_zero])
  refine own_soft hS 9 hcl (by simp only [List.getElem?_toArray, List.getElem?_cons_succ, List.getElem?_cons_zero]; rfl) (by kernel_rfl) ?_
  have hO := hS
  clear hS
  intro hS
  refine own_buildSlice rfl _ _ 2 _ rfl [e0, e1, e2, e3, e4, e5, e6, e7, e8, e9, e10, f0, f1, f2, f3, f4, f5, f6, f7, f8, f9, f10] hS Try.underlying30 (by kernel_rfl) ?_
  clear hS
  intro bs w6 hS
  refine wpList_nil ⟨rfl, _, hS, ?_⟩
  clear hS hO hcl
  intro hcl w7 hS
  simp only [List.cons_append, List.nil_append] at hS
  (try simp only [Act.put]); (try simp only [List.setIfInBounds_toArray]); (try simp only [List.set_cons_succ]); (try simp only [List.set_cons_zero])
  refine own_batch hS [10] 0 rfl hcl (by kernel_rfl) ?_
  (try simp only); repeat (first | (simp only [List.filterMap_cons]) | (simp only [List.filterMap_nil]) | (simp only [List.getElem?_toArray]) | (simp only [List.getElem?_cons_succ]) | (simp only [List.getElem?_cons_zero]) | (simp only [List.reverse_cons]) | (simp only [List.reverse_nil]) | (simp only [List.nil_append]) | (simp only [List.cons_append]))
  repeat (first
      | (first | (refine g_plain rfl ?_) | (refine g_yes rfl rfl rfl (by simp only [List.getElem?_toArray, List.getElem?_cons_succ, List.getElem?_cons_zero]; rfl) (by with_reducible constructor) ?_)
         apply Exists.intro; refine ⟨?_, ?_⟩
         focus (intro wq hq0; (first | have hq : Own _ _ _ wq := hq0 | have hq : Own _ _ _ wq := hq0.1 | skip); first | ((with_reducible show givesAt _ ({ dst := _, op := Op.load _ _, type := _, pos := _, after := _, guard := _ } : Oper) _ _ _); first | (exact givesAt_rd rfl (by rfl) (by first | exact rd_1 (by repeat constructor) (by first | rfl | assumption) | exact rd_w (by repeat constructor) (by rfl) | exact rd_o (by assumption) (by rfl) (by first | exact nmn | assumption | simp) | exact rd_h (by assumption) (by rfl) (by first | exact nmn | assumption | simp) | exact rd_1o (by assumption) (by first | exact nmn | assumption | simp) | exact rd_1h (by assumption) (by first | rfl | assumption) (by first | exact nmn | assumption | simp)) hq)) | (go_simp; first | (with_reducible rfl)))
         simp only [Act.put, List.setIfInBounds_toArray]; (try simp only [List.set_cons_succ]); (try simp only [List.set_cons_zero]))
      | (refine g_no rfl rfl rfl (by simp only [List.getElem?_toArray, List.getElem?_cons_succ, List.getElem?_cons_zero]; rfl) (by with_reducible constructor) ?_; simp only [Act.put, List.setIfInBounds_toArray]; (try simp only [List.set_cons_succ]); (try simp only [List.set_cons_zero])))
  refine g_nil ?_
  clear hS hcl
  intro hcl ww hS
  refine own_done (by kernel_rfl) ?_
  (try simp only [Act.put]); (try simp only [List.setIfInBounds_toArray]); (try simp only [List.set_cons_succ]); (try simp only [List.set_cons_zero])
  go_wp2_with (first | (refine own_unguard (by rfl) ?_) | (refine w_ld rfl _ rfl (by rfl) (by first | exact rd_1 (by repeat constructor) (by first | rfl | assumption) | exact rd_w (by repeat constructor) (by rfl) | exact rd_o (by assumption) (by rfl) (by first | exact nmn | assumption | simp) | exact rd_h (by assumption) (by rfl) (by first | exact nmn | assumption | simp) | exact rd_1o (by assumption) (by first | exact nmn | assumption | simp) | exact rd_1h (by assumption) (by first | rfl | assumption) (by first | exact nmn | assumption | simp)) hS ?_) | (refine own_box rfl _ _ rfl (by rfl) hS ?_; clear hS; (try clear ww); intro bb ww hS) | (refine w_al rfl rfl hS ?_; clear hS; (try clear ww); intro bb ww hS) | (refine w_st rfl _ _ rfl (by rfl) (by rfl) (by repeat constructor) (by rfl) (by rfl) (by first | rfl | assumption) hS ?_; clear hS; (try clear ww); intro ww hS) | (refine w_s1 rfl _ _ rfl (by rfl) (by repeat constructor) (by first | exact .c | exact .t rfl) (by rfl) (by repeat constructor) hS ?_; clear hS; (try clear ww); intro ww hS))
  have hrow : RepLP P2 _ (n + 1) (some ⟨bs, 0, none⟩) [atXY (n + 1) (glyB n gn p gw gh gd) xr up, atXY (n + 1) body r 0] := has_kids (hS.get at0) ⟨_, _, rfl, HS2.out.turn Q12.out hS, ⟨_, [], by simp, HS2.out.turn Q2.out hS, rfl⟩⟩
  go_at_call 38
  refine Calls.mono (ref28_List_I P2 (n + 1) [atXY (n + 1) (glyB n gn p gw gh gd) xr up, atXY (n + 1) body r 0] _ 2 E HH DD _ hrow (by simp) (by simp) iE iH iD) ?_
  rintro e wA ⟨csA, rfl, hrA, hbA⟩
  obtain ⟨PA, DA, hDA, hPPA, hsA, qA, hS2, hC2⟩ := own_give HS2.out hS hrA hbA (bself _)
  have HCA := Lib.hid (chainH HC2.out hD2 hC2)
  have HSA := Lib.hid hsA
  have QA := Lib.hid qA
  have hallA := rep_all qA
  obtain ⟨g0, g1, g2, g3, g4, g5, g6, g7, g8, g9, g10, rfl⟩ := eleven qA.len
  clear hS hrA hbA hsA qA hC2 hrow
  (try clear ww)
  have hS := hS2
  clear hS2
  have HDn := Lib.hid (fun (ww : World) (L' : List (Nat × List Value)) (h : Own DA wA L' ww) => ref32_Done_bad (n + 2) _ _ ww (HSA.out.turn QA.out h).rep HcR.out HvR.out)
  go_wp2_with (first | (refine own_unguard (by rfl) ?_) | (go_at_call 37; refine own_calls hS (HDn.out _ _ hS) ?_; clear hS; (try clear ww); intro ww hS) | (refine w_ld rfl _ rfl (by rfl) (by first | exact rd_1 (by repeat constructor) (by first | rfl | assumption) | exact rd_w (by repeat constructor) (by rfl) | exact rd_o (by assumption) (by rfl) (by first | exact nmn | assumption | simp) | exact rd_h (by assumption) (by rfl) (by first | exact nmn | assumption | simp) | exact rd_1o (by assumption) (by first | exact nmn | assumption | simp) | exact rd_1h (by assumption) (by first | rfl | assumption) (by first | exact nmn | assumption | simp)) hS ?_) | (refine own_box rfl _ _ rfl (by rfl) hS ?_; clear hS; (try clear ww); intro bb ww hS) | (refine w_al rfl rfl hS ?_; clear hS; (try clear ww); intro bb ww hS) | (refine w_st rfl _ _ rfl (by rfl) (by rfl) (by repeat constructor) (by rfl) (by rfl) (by first | rfl | assumption) hS ?_; clear hS; (try clear ww); intro ww hS) | (refine w_s1 rfl _ _ rfl (by rfl) (by repeat constructor) (by first | exact .c | exact .t rfl) (by rfl) (by repeat constructor) hS ?_; clear hS; (try clear ww); intro ww hS))
  have hc := (hS.get at3).cell
  refine bodyPost_ret (v := .tuple #[.agg #[.int .i64 0, .string ⟨#[]⟩, .int .i64 0, .int .i64 0, .int .i64 0, .int .i64 0, .int .i64 0, .int .i64 0, .slice none 0 0, .int .i64 0, .slice none 0 0], .int .i64 6]) (by simp [results, Try.results11, go_sem, hc]) rfl ⟨_, rfl, rep_zero m _, (chainH HCA.out hDA hS).below⟩

end Go.Proofs.Ytceigjonhabmmaa
namespace Go.Proofs.Ytceigjonhabmmaa
open Go.RowKit

attribute [local irreducible] wpQuiet wpG wpP wpK wpList Code.wp Calls

theorem scl_size36 {n p : Int} (h : -20000 ≤ n ∧ n ≤ 20000) (hp : 1 ≤ p ∧ p ≤ 1000) : -200000 ≤ scl n p ∧ scl n p ≤ 200000 := by
  rw [scl_ok (by omega) (by omega) (by omega)]
  have h1 : n * p ≤ 20000 * p := Int.mul_le_mul_of_nonneg_right h.2 (by omega)
  have h2 : -20000 * p ≤ n * p := Int.mul_le_mul_of_nonneg_right h.1 (by omega)
  unfold rdiv
  split <;> omega
theorem acc_prm {F : Fnt} (h : ValidF F) : 0 ≤ F.acc ∧ F.acc ≤ 20000 := by
  have := h.2.2.1
  simp [prmOk, allIn] at this
  omega
theorem err_zero {F : Fnt} (hv : ValidF F) (s : ByteArray) {p : Int} (hp : 1 ≤ p ∧ p ≤ 1000) : scaledErr (pickG F.gs s) p = 0 := by
  unfold scaledErr
  rw [if_pos hp, if_pos (pick_metrics hv _)]
theorem scaled_eq {F : Fnt} (hv : ValidF F) (s : ByteArray) {p : Int} (hp : 1 ≤ p ∧ p ≤ 1000) : scaledG (pickG F.gs s) p = sclG (pickG F.gs s) p := by
  unfold scaledG
  rw [if_pos (err_zero hv s hp)]
theorem attG_in {F : Fnt} (hv : ValidF F) (s : ByteArray) {p : Int} (hp : 1 ≤ p ∧ p ≤ 1000) : -200000 ≤ attG F s p ∧ attG F s p ≤ 200000 :=
  scl_size36 (metricsOk_bd (pick_metrics hv s)).2.2.2.2 hp
theorem attB_in {F : Fnt} {n : Nat} {b : Bx (n + 1)} (hv : ValidF F) (hb : validB (n + 1) b) : -536870912 ≤ attB F n b ∧ attB F n b ≤ 536870912 := by
  unfold attB
  cases hi : innerS (n + 1) b with
  | none => exact hlf_bd _
  | some g =>
    have := attG_in hv g.2.1.name (inner_size hi hb)
    simp only
    omega
theorem wrap64_in {x : Int} (h : -1000000 ≤ x ∧ x ≤ 1000000) : wrap64 x = x := IntWalk.wrap64_in x (by omega)
/-- The accent's dimensions. -/
theorem acc_in {F : Fnt} (hv : ValidF F) (s : ByteArray) {p : Int} (hp : 1 ≤ p ∧ p ≤ 1000) : (-1000000 ≤ boxW (scaledG (pickG F.gs s) p) ∧ boxW (scaledG (pickG F.gs s) p) ≤ 1000000) ∧ (-1000000 ≤ (scaledG (pickG F.gs s) p).h ∧ (scaledG (pickG F.gs s) p).h ≤ 1000000) ∧ (-1000000 ≤ (scaledG (pickG F.gs s) p).d ∧ (scaledG (pickG F.gs s) p).d ≤ 1000000) := by
  rw [scaled_eq hv s hp]
  have hm := metricsOk_bd (pick_metrics hv s)
  have h1 := scl_size36 hm.1 hp
  have h2 := scl_size36 hm.2.1 hp
  have h3 := scl_size36 hm.2.2.1 hp
  have h4 := scl_size36 hm.2.2.2.1 hp
  unfold boxW sclG
  simp only
  rw [wrap64_in (by omega)]
  omega
theorem pick_name (gs : List Gly) (s : ByteArray) : (pickG gs s).name = s ∨ (pickG gs s).name = ⟨#[63]⟩ := by
  have key : ∀ t g, findG gs t = some g → g.name = t := fun t g h => by
    have h1 := List.find?_some h
    have h2 : g.name.toList = t.toList := by simpa using h1
    rw [Lib.toList_data, Lib.toList_data] at h2
    exact ByteArray.ext (Array.toList_inj.1 h2)
  unfold pickG
  split
  · exact .inl (key _ _ (by assumption))
  · split
    · exact .inr (key _ _ (by assumption))
    · exact .inl rfl
theorem acc_name {F : Fnt} (hv : ValidF F) {s : ByteArray} (hs : s ∈ accNames) {p : Int} (hp : 1 ≤ p ∧ p ≤ 1000) : (scaledG (pickG F.gs s) p).name.size ≤ maxLen := by
  rw [scaled_eq hv s hp]
  show (pickG F.gs s).name.size ≤ maxLen
  rcases pick_name F.gs s with h | h <;> rw [h]
  · simp only [accNames, List.mem_cons, List.not_mem_nil, or_false] at hs
    rcases hs with rfl | rfl | rfl | rfl | rfl | rfl <;> decide
  · decide
theorem raise_in {F : Fnt} {l h : Int} (hv : ValidF F) (hh : -1073741824 ≤ h ∧ h ≤ 1073741824) : 0 ≤ raiseI F l h ∧ raiseI F l h ≤ 1073741824 := by
  have hp := acc_prm hv
  have := par_in (l := l) hv hp.1 hp.2
  unfold raiseI
  omega
theorem font_Box_acc {F : Fnt} (_n : Nat) (s : ByteArray) {p : Int} (w : World) (hF : FntOk w F) (hv : ValidF F) (hp : 1 ≤ p ∧ p ≤ 1000) : Calls Try.prog 26 #[F.val, .string s, .int .i64 p] w (Gives (.tuple #[.agg #[.int .i64 1, .string (scaledG (pickG F.gs s) p).name, .int .i64 p, .int .i64 (boxW (scaledG (pickG F.gs s) p)), .int .i64 (scaledG (pickG F.gs s) p).h, .int .i64 (scaledG (pickG F.gs s) p).d, .int .i64 0, .int .i64 0, .slice none 0 0, .int .i64 0, .slice none 0 0], .int .i64 0]) w) := by
  have h := font_Box_valid F s p w hF (Nat.le_trans hv.1 (by omega)) hv
  simp only [sizedB, err_zero hv s hp, if_true] at h
  exact h
theorem ref05_Sized_acc {F : Fnt} (_n : Nat) (s : ByteArray) {p : Int} (w : World) (hF : FntOk w F) (hv : ValidF F) (hn : F.gs.length ≤ 500) (hp : 1 ≤ p ∧ p ≤ 1000) : Calls Try.prog 34 #[F.val, .string s, .int .i64 p] w (Gives (.tuple #[.agg #[.int .i64 1, .string (scaledG (pickG F.gs s) p).name, .int .i64 p, .int .i64 (boxW (scaledG (pickG F.gs s) p)), .int .i64 (scaledG (pickG F.gs s) p).h, .int .i64 (scaledG (pickG F.gs s) p).d, .int .i64 0, .int .i64 0, .slice none 0 0, .int .i64 0, .slice none 0 0], .int .i64 0]) w) := by
  have h := ref05_Sized_valid F s p w hF hn
  simp only [sizedB, err_zero hv s hp, if_true] at h
  exact h
section
variable {F : Fnt} {l : Int} {n : Nat} {s : ByteArray} {body : Bx (n + 1)}
/-- Numbers of the box. -/
theorem acc_nums (h : AccOk F l n s body) : (-2147483648 ≤ accX F l n s body ∧ accX F l n s body ≤ 2147483648) ∧ (1 ≤ sizeOf' F l ∧ sizeOf' F l ≤ 1000) ∧ (0 ≤ raiseI F l body.1.h ∧ raiseI F l body.1.h ≤ 1073741824) := by
  have hz := size_in (l := l) h.1
  have h1 := attB_in h.1 h.2.2.1
  have h2 := attG_in h.1 s (p := sizeOf' F l) (by omega)
  have h3 := raise_in (l := l) h.1 (valid_lens h.2.2.1).2.1
  unfold accX
  omega
theorem accK_mild (h : AccOk F l n s body) : ∀ k ∈ accK F l n s body, Mild k.1 := by
  have hn := acc_nums h
  have hg := acc_in h.1 s hn.2.1
  have hv := valid_lens h.2.2.1
  intro k hk
  simp only [accK, List.mem_cons, List.not_mem_nil, or_false] at hk
  rcases hk with rfl | rfl
  · simp only [Mild, atXY, accG, glyB]
    omega
  · simp only [Mild, atXY]
    omega
theorem acc_ext : extL ((accK F l n s body).map (·.1)) = ⟨min (accX F l n s body + max 0 (-(accX F l n s body))) (max 0 (-(accX F l n s body))), max (accX F l n s body + max 0 (-(accX F l n s body)) + boxW (scaledG (pickG F.gs s) (sizeOf' F l))) (max 0 (-(accX F l n s body)) + body.1.w), max (raiseI F l body.1.h + (scaledG (pickG F.gs s) (sizeOf' F l)).h) (0 + body.1.h), max ((scaledG (pickG F.gs s) (sizeOf' F l)).d - raiseI F l body.1.h) (body.1.d - 0)⟩ := rfl
theorem accB_eq : accB F l n s body = listB (n + 1) (max (max 0 (accX F l n s body + max 0 (-(accX F l n s body)) + boxW (scaledG (pickG F.gs s) (sizeOf' F l)))) (max 0 (-(accX F l n s body)) + body.1.w)) (max body.1.h (raiseI F l body.1.h + (scaledG (pickG F.gs s) (sizeOf' F l)).h)) (max body.1.d ((scaledG (pickG F.gs s) (sizeOf' F l)).d - raiseI F l body.1.h)) (accK F l n s body) := by
  unfold accB
  rw [acc_ext]
  simp only
  congr 1 <;> omega
theorem accB_count : bCount (n + 2) (accB F l n s body) = 2 + bCount (n + 1) body := by
  have e1 : ∀ x y, bCount (n + 1) (atXY (n + 1) (accG F n s (sizeOf' F l)) x y) = 1 := fun x y => by rw [count_at]; simp [accG, glyB, bCount]
  have e2 : ∀ x y, bCount (n + 1) (atXY (n + 1) body x y) = bCount (n + 1) body := fun x y => count_at
  have e3 : bCount (n + 2) (accB F l n s body) = 1 + ((accK F l n s body).map (bCount (n + 1))).sum := rfl
  rw [e3]
  simp only [accK, List.map_cons, List.map_nil, List.sum_cons, List.sum_nil, e1, e2]
  omega
end

theorem accMake_ok (P : Nat → Prop) (F : Fnt) (l : Int) (c : Bool) (n m : Nat) (s : ByteArray) (body : Bx (n + 1)) (cs : List Value) (w : World) (hF : FntOk w F) (hP : ∀ k, P k → k < w.heap.size) (hr : RepP P w (n + 1) body cs) (h : AccOk F l n s body) (hvR : validB (n + 2) (accB F l n s body)) : Calls Try.prog 10 #[F.val, .agg #[.int .i64 l, .bool c], .string s, .agg cs.toArray] w (GivesBEP P (n + 2) (accB F l n s body) 0 w) := by
  have hnum := acc_nums h
  have hG0 := fun (P : Nat → Prop) (w' : World) => gly_rep (P := P) w' n (scaledG (pickG F.gs s) (sizeOf' F l)).name (sizeOf' F l) (boxW (scaledG (pickG F.gs s) (sizeOf' F l))) (scaledG (pickG F.gs s) (sizeOf' F l)).h (scaledG (pickG F.gs s) (sizeOf' F l)).d (by have := hnum.2.1; unfold I64; omega) (by have := (acc_in h.1 s hnum.2.1).1; unfold I64; omega) (by have := (acc_in h.1 s hnum.2.1).2.1; unfold I64; omega) (by have := (acc_in h.1 s hnum.2.1).2.2; unfold I64; omega) (acc_name h.1 h.2.2.2 hnum.2.1)
  have ib := attB_in h.1 h.2.2.1
  have ig := attG_in h.1 s hnum.2.1
  have ii := acc_in h.1 s hnum.2.1
  have hp := acc_prm h.1
  have lens := valid_lens h.2.2.1
  have hA := par_in (l := l) h.1 hp.1 hp.2
  have hM := accK_mild h
  have iE : I64 (max 0 (extL ((accK F l n s body).map (·.1))).r) ∧ I64 (extL ((accK F l n s body).map (·.1))).h ∧ I64 (extL ((accK F l n s body).map (·.1))).d := by
    rw [acc_ext]
    simp only
    unfold I64
    omega
  have hBx := fun w' (hb : Below w.heap.size w w') => font_Box_acc n s w' (hF.below hb) h.1 hnum.2.1
  have hAt := fun w' (hb : Below w.heap.size w w') => accent_Attach_calls F n body cs w' (hF.below hb) (hr.rep.step hb) (attB F n body) (fun _ => rfl) (fun h2 => absurd ⟨h.1, h.2.2.1⟩ h2)
  have hat := fun w' (hb : Below w.heap.size w w') => accent_attach_calls F s (sizeOf' F l) w' (hF.below hb) h.1 hnum.2.1
  obtain ⟨⟨bk, bn, bz, bw, bh, bd, bx, by_, bo, bs⟩, bks⟩ := body
  obtain ⟨kx, kc, tx, tc, rfl, _⟩ := rep_out hr.rep
  exact accMake_y P F l (sizeOf' F l) (par F l F.acc) _ _ (accX F l n s _) (max 0 (-(accX F l n s _))) (accX F l n s _ + max 0 (-(accX F l n s _))) (raiseI F l bh) _ _ _ _ bw bh bd _ _ _ _ _ s c n m _ _ _ _ _ _ _ _ _ w hF h.2.1 h.1 hP hr h.2.2.1 rfl h.2.2.2 hBx hAt hat rfl (by omega) rfl rfl rfl rfl lens.2.1 (by omega) (by omega) (hG0 P) rfl hM rfl iE hvR

theorem refAcc_ok (F : Fnt) (l : Int) (c : Bool) (n m : Nat) (s : ByteArray) (body : Bx (n + 1)) (cs : List Value) (w : World) (hF : FntOk w F) (hq : F.gs.length ≤ 500 ∧ F.ss.length ≤ 50) (hr : Rep w (n + 1) body cs) (hcb : bCount (n + 1) body ≤ 500000) (h : AccOk F l n s body) (hvR : validB (n + 2) (accB F l n s body)) : Calls Try.prog 11 #[F.val, .agg #[.int .i64 l, .bool c], .string s, .agg cs.toArray] w (GivesBE (n + 2) (accB F l n s body) 0 w) := by
  have hnum := acc_nums h
  have hG0 := fun (P : Nat → Prop) (w' : World) => gly_rep (P := P) w' n (scaledG (pickG F.gs s) (sizeOf' F l)).name (sizeOf' F l) (boxW (scaledG (pickG F.gs s) (sizeOf' F l))) (scaledG (pickG F.gs s) (sizeOf' F l)).h (scaledG (pickG F.gs s) (sizeOf' F l)).d (by have := hnum.2.1; unfold I64; omega) (by have := (acc_in h.1 s hnum.2.1).1; unfold I64; omega) (by have := (acc_in h.1 s hnum.2.1).2.1; unfold I64; omega) (by have := (acc_in h.1 s hnum.2.1).2.2; unfold I64; omega) (acc_name h.1 h.2.2.2 hnum.2.1)
  have ib := attB_in h.1 h.2.2.1
  have ig := attG_in h.1 s hnum.2.1
  have ii := acc_in h.1 s hnum.2.1
  have hp := acc_prm h.1
  have lens := valid_lens h.2.2.1
  have hcR : bCount (n + 2) (accB F l n s body) ≤ 1000000 := by rw [accB_count]; omega
  have hBx := fun w' (hb : Below w.heap.size w w') => ref05_Sized_acc n s w' (hF.below hb) h.1 hq.1 hnum.2.1
  have hAt := fun w' (hb : Below w.heap.size w w') => ref36_Attach_calls F n body cs w' (hF.below hb) (hr.step hb) h.1 h.2.2.1
  have hat := fun w' (hb : Below w.heap.size w w') => ref36_Own_calls F l c s w' (hF.below hb) h.2.1 h.1
  have hRa := fun w' (hb : Below w.heap.size w w') => ref36_Raise_calls F l c n body cs w' (hr.step hb) h.2.1 h.1 lens.2.1 hp
  rw [accB_eq] at hvR hcR ⊢
  obtain ⟨⟨bk, bn, bz, bw, bh, bd, bx, by_, bo, bs⟩, bks⟩ := body
  obtain ⟨kx, kc, tx, tc, rfl, _⟩ := rep_out hr
  exact refAcc_y F l (sizeOf' F l) _ _ (accX F l n s _) (max 0 (-(accX F l n s _))) (accX F l n s _ + max 0 (-(accX F l n s _))) (raiseI F l bh) _ _ _ _ _ _ bw bh bd _ s c n m _ _ _ _ _ _ _ _ _ w hF hq h.2.1 h.1 (repP_old hr) h.2.2.1 (by omega) h.2.2.2 (fun w' => ref25_Size_in F l c w' h.2.1) hBx hAt hat hRa rfl rfl rfl lens (by omega) (by omega) ii (by have := hnum.2.2; simp only at this; omega) (hG0 _) rfl rfl rfl hcR hvR

theorem accMake_lim (P : Nat → Prop) (F : Fnt) (l : Int) (c : Bool) (n m : Nat) (s : ByteArray) (body : Bx (n + 1)) (cs : List Value) (w : World) (hF : FntOk w F) (hP : ∀ k, P k → k < w.heap.size) (hr : RepP P w (n + 1) body cs) (h : AccOk F l n s body) (hvR : ¬ validB (n + 2) (accB F l n s body)) : Calls Try.prog 10 #[F.val, .agg #[.int .i64 l, .bool c], .string s, .agg cs.toArray] w (GivesBE (m + 1) (zeroB m) 6 w) := by
  have hnum := acc_nums h
  have hG0 := fun (P : Nat → Prop) (w' : World) => gly_rep (P := P) w' n (scaledG (pickG F.gs s) (sizeOf' F l)).name (sizeOf' F l) (boxW (scaledG (pickG F.gs s) (sizeOf' F l))) (scaledG (pickG F.gs s) (sizeOf' F l)).h (scaledG (pickG F.gs s) (sizeOf' F l)).d (by have := hnum.2.1; unfold I64; omega) (by have := (acc_in h.1 s hnum.2.1).1; unfold I64; omega) (by have := (acc_in h.1 s hnum.2.1).2.1; unfold I64; omega) (by have := (acc_in h.1 s hnum.2.1).2.2; unfold I64; omega) (acc_name h.1 h.2.2.2 hnum.2.1)
  have ib := attB_in h.1 h.2.2.1
  have ig := attG_in h.1 s hnum.2.1
  have ii := acc_in h.1 s hnum.2.1
  have hp := acc_prm h.1
  have lens := valid_lens h.2.2.1
  have hA := par_in (l := l) h.1 hp.1 hp.2
  have hM := accK_mild h
  have iE : I64 (max 0 (extL ((accK F l n s body).map (·.1))).r) ∧ I64 (extL ((accK F l n s body).map (·.1))).h ∧ I64 (extL ((accK F l n s body).map (·.1))).d := by
    rw [acc_ext]
    simp only
    unfold I64
    omega
  have hBx := fun w' (hb : Below w.heap.size w w') => font_Box_acc n s w' (hF.below hb) h.1 hnum.2.1
  have hAt := fun w' (hb : Below w.heap.size w w') => accent_Attach_calls F n body cs w' (hF.below hb) (hr.rep.step hb) (attB F n body) (fun _ => rfl) (fun h2 => absurd ⟨h.1, h.2.2.1⟩ h2)
  have hat := fun w' (hb : Below w.heap.size w w') => accent_attach_calls F s (sizeOf' F l) w' (hF.below hb) h.1 hnum.2.1
  obtain ⟨⟨bk, bn, bz, bw, bh, bd, bx, by_, bo, bs⟩, bks⟩ := body
  obtain ⟨kx, kc, tx, tc, rfl, _⟩ := rep_out hr.rep
  exact accMake_n P F l (sizeOf' F l) (par F l F.acc) _ _ (accX F l n s _) (max 0 (-(accX F l n s _))) (accX F l n s _ + max 0 (-(accX F l n s _))) (raiseI F l bh) _ _ _ _ bw bh bd _ _ _ _ _ s c n m _ _ _ _ _ _ _ _ _ w hF h.2.1 h.1 hP hr h.2.2.1 rfl h.2.2.2 hBx hAt hat rfl (by omega) rfl rfl rfl rfl lens.2.1 (by omega) (by omega) (hG0 P) rfl hM rfl iE hvR

theorem refAcc_lim (F : Fnt) (l : Int) (c : Bool) (n m : Nat) (s : ByteArray) (body : Bx (n + 1)) (cs : List Value) (w : World) (hF : FntOk w F) (hq : F.gs.length ≤ 500 ∧ F.ss.length ≤ 50) (hr : Rep w (n + 1) body cs) (hcb : bCount (n + 1) body ≤ 500000) (h : AccOk F l n s body) (hvR : ¬ validB (n + 2) (accB F l n s body)) : Calls Try.prog 11 #[F.val, .agg #[.int .i64 l, .bool c], .string s, .agg cs.toArray] w (GivesBE (m + 1) (zeroB m) 6 w) := by
  have hnum := acc_nums h
  have hG0 := fun (P : Nat → Prop) (w' : World) => gly_rep (P := P) w' n (scaledG (pickG F.gs s) (sizeOf' F l)).name (sizeOf' F l) (boxW (scaledG (pickG F.gs s) (sizeOf' F l))) (scaledG (pickG F.gs s) (sizeOf' F l)).h (scaledG (pickG F.gs s) (sizeOf' F l)).d (by have := hnum.2.1; unfold I64; omega) (by have := (acc_in h.1 s hnum.2.1).1; unfold I64; omega) (by have := (acc_in h.1 s hnum.2.1).2.1; unfold I64; omega) (by have := (acc_in h.1 s hnum.2.1).2.2; unfold I64; omega) (acc_name h.1 h.2.2.2 hnum.2.1)
  have ib := attB_in h.1 h.2.2.1
  have ig := attG_in h.1 s hnum.2.1
  have ii := acc_in h.1 s hnum.2.1
  have hp := acc_prm h.1
  have lens := valid_lens h.2.2.1
  have hcR : bCount (n + 2) (accB F l n s body) ≤ 1000000 := by rw [accB_count]; omega
  have hBx := fun w' (hb : Below w.heap.size w w') => ref05_Sized_acc n s w' (hF.below hb) h.1 hq.1 hnum.2.1
  have hAt := fun w' (hb : Below w.heap.size w w') => ref36_Attach_calls F n body cs w' (hF.below hb) (hr.step hb) h.1 h.2.2.1
  have hat := fun w' (hb : Below w.heap.size w w') => ref36_Own_calls F l c s w' (hF.below hb) h.2.1 h.1
  have hRa := fun w' (hb : Below w.heap.size w w') => ref36_Raise_calls F l c n body cs w' (hr.step hb) h.2.1 h.1 lens.2.1 hp
  rw [accB_eq] at hvR hcR
  obtain ⟨⟨bk, bn, bz, bw, bh, bd, bx, by_, bo, bs⟩, bks⟩ := body
  obtain ⟨kx, kc, tx, tc, rfl, _⟩ := rep_out hr
  exact refAcc_n F l (sizeOf' F l) _ _ (accX F l n s _) (max 0 (-(accX F l n s _))) (accX F l n s _ + max 0 (-(accX F l n s _))) (raiseI F l bh) _ _ _ _ _ _ bw bh bd _ s c n m _ _ _ _ _ _ _ _ _ w hF hq h.2.1 h.1 (repP_old hr) h.2.2.1 (by omega) h.2.2.2 (fun w' => ref25_Size_in F l c w' h.2.1) hBx hAt hat hRa rfl rfl rfl lens (by omega) (by omega) ii (by have := hnum.2.2; simp only at this; omega) (hG0 _) rfl rfl rfl hcR hvR

/-- What both return: a box and an error. -/
theorem acc_both (F : Fnt) (l : Int) (c : Bool) (n : Nat) (s : ByteArray) (body : Bx (n + 1)) (cs : List Value) (w : World) (hF : FntOk w F) (hq : F.gs.length ≤ 500 ∧ F.ss.length ≤ 50) (hr : Rep w (n + 1) body cs) (hcb : bCount (n + 1) body ≤ 500000) : ∃ (R : Bx (n + 2)) (e : Int), Small (n + 2) R ∧
      (∀ w', Below w.heap.size w w' → Calls Try.prog 10 #[F.val, .agg #[.int .i64 l, .bool c], .string s, .agg cs.toArray] w' (GivesBE (n + 2) R e w')) ∧
      (∀ w', Below w.heap.size w w' → Calls Try.prog 11 #[F.val, .agg #[.int .i64 l, .bool c], .string s, .agg cs.toArray] w' (GivesBE (n + 2) R e w')) := by
  by_cases h : AccOk F l n s body
  · by_cases hR : validB (n + 2) (accB F l n s body)
    · exact ⟨_, 0, (validB_small hR).1, fun w' hb => (accMake_ok (fun k => k < w'.heap.size) F l c n 0 s body cs w' (hF.below hb) (fun _ h => h) (repP_old (hr.step hb)) h hR).mono (fun _ _ ⟨cs', he, hp, hb2⟩ => ⟨cs', he, hp.rep, hb2⟩),
        fun w' hb => refAcc_ok F l c n 0 s body cs w' (hF.below hb) hq (hr.step hb) hcb h hR⟩
    · exact ⟨zeroB (n + 1), 6, ⟨Nat.zero_le _, Nat.zero_le _, fun k hk => by cases hk⟩, fun w' hb => accMake_lim (fun k => k < w'.heap.size) F l c n (n + 1) s body cs w' (hF.below hb) (fun _ h => h) (repP_old (hr.step hb)) h hR,
        fun w' hb => refAcc_lim F l c n (n + 1) s body cs w' (hF.below hb) hq (hr.step hb) hcb h hR⟩
  · exact ⟨zeroB (n + 1), 1, ⟨Nat.zero_le _, Nat.zero_le _, fun k hk => by cases hk⟩, fun w' hb => accMake_bad F l c n (n + 1) s body cs w' (hF.below hb) (hr.step hb) h,
      fun w' hb => refAcc_bad F l c n (n + 1) s body cs w' (hF.below hb) hq (hr.step hb) (by omega) h⟩

end Go.Proofs.Ytceigjonhabmmaa
namespace Go.Proofs.Ytceigjonhabmmaa
open Go.RowKit

attribute [local irreducible] wpQuiet wpG wpP wpK wpList Code.wp Calls

instance zt_fnt : ZeroTy Try.prog 27 [.slice none 0 0, .slice none 0 0, .int .i64 0, .int .i64 0, .int .i64 0, .int .i64 0, .int .i64 0, .int .i64 0, .int .i64 0, .int .i64 0, .int .i64 0, .int .i64 0, .int .i64 0, .int .i64 0, .int .i64 0, .int .i64 0, .int .i64 0, .int .i64 0, .int .i64 0, .int .i64 0, .int .i64 0, .int .i64 0] := ⟨.agg #[.slice none 0 0, .slice none 0 0, .int .i64 0, .int .i64 0, .int .i64 0, .int .i64 0, .int .i64 0, .int .i64 0, .int .i64 0, .int .i64 0, .int .i64 0, .int .i64 0, .int .i64 0, .int .i64 0, .int .i64 0, .int .i64 0, .int .i64 0, .int .i64 0, .int .i64 0, .int .i64 0, .int .i64 0, .int .i64 0], by kernel_rfl, rfl⟩
end Go.Proofs.Ytceigjonhabmmaa
namespace Go.Proofs.Ytceigjonhabmmaa
open Go.RowKit

attribute [local irreducible] wpQuiet wpG wpP wpK wpList Code.wp Calls

/-- The glyph, the font and the body of the example. -/
def awH : Gly := { name := ⟨#[104, 97, 116]⟩, w := 500, h := 694, d := -560, it := 0, at_ := 250 }
def awA (k : Nat) : Fnt := { gx := some ⟨k, 0, none⟩, gc := 1, gs := [awH], sx := none, sc := 0, ss := [], quad := 0, xheight := 0, axis := 0, rule := 0, num1 := 0, num2 := 0, den1 := 0, den2 := 0, sup1 := 0, sup2 := 0, sup3 := 0, sub1 := 0, sub2 := 0, supdrop := 0, subdrop := 0, script := 70, sscript := 50, dpercent := 90, dshort := 0, acc := 431 }
def awY : Bx 1 := (⟨2, ⟨#[]⟩, 0, 430, 694, 0, 0, 0, 0, []⟩, [])
theorem awA_ok {w : World} {k : Nat} (h : Has w k awH.cells) : FntOk w (awA k) where
  glys := RowAt.of_has (junk := []) (fun _ _ => rfl) (by simpa [awA] using h)
  strs := .inl rfl
  gok := fun g hg => by
    obtain rfl : g = awH := by simpa [awA] using hg
    refine ⟨?_, by decide⟩
    simp [Gly.wf, awH, I64]
  sok := fun s hs => by cases hs
  glen := by simp [awA, maxLen]
  slen := Nat.zero_le _
  gcap := ⟨by simp [awA], fun _ => by simp [awA, maxLen]⟩
  scap := ⟨Nat.zero_le _, fun h => absurd rfl h⟩
  prm := fun n hn => by
    simp only [Fnt.prm, awA, List.mem_cons, Value.int.injEq, true_and, List.not_mem_nil, or_false] at hn
    unfold I64
    omega
theorem awA_valid (k : Nat) : ValidF (awA k) := by
  refine ⟨by show 1 ≤ 400; decide, by show 0 ≤ 40; decide, by rfl, fun j g hj => ?_, fun j s h => by simp [awA] at h⟩
  cases j with
  | zero =>
    obtain rfl : awH = g := by simpa [awA] using hj
    exact ⟨by rfl, fun i hi => by omega⟩
  | succ j => simp [awA] at hj
theorem awY_valid : validB 1 awY := ⟨by simp [allOwn, ownOk, lensOk, Hd.lens, kindOk, srcOk, srcEnd, awY, Lib.toList_data], by decide, by decide⟩
theorem awO36 (k : Nat) : AccOk (awA k) 1 0 ⟨#[104, 97, 116]⟩ awY := ⟨awA_valid k, by rfl, awY_valid, by simp [accNames]⟩
def awQ : Bx 2 := listB 1 500 957 0 [atXY 1 (glyB 0 ⟨#[104, 97, 116]⟩ 100 500 694 (-560)) 0 263, atXY 1 awY 35 0]
theorem awP (k : Nat) : pickG (awA k).gs ⟨#[104, 97, 116]⟩ = awH := by
  unfold pickG findG
  simp [awA, awH]
theorem awT36 (k : Nat) : accB (awA k) 1 0 ⟨#[104, 97, 116]⟩ awY = awQ := by
  have hi : innerS 1 awY = none := inner_kind (by decide) (by decide)
  have hx : accX (awA k) 1 0 ⟨#[104, 97, 116]⟩ awY = -35 := by
    unfold accX attB attG
    rw [hi, awP]
    rfl
  have hg : accG (awA k) 0 ⟨#[104, 97, 116]⟩ (sizeOf' (awA k) 1) = glyB 0 ⟨#[104, 97, 116]⟩ 100 500 694 (-560) := by
    have e1 : (scaledG awH 100).w = 500 := rfl
    have e2 : (scaledG awH 100).it = 0 := rfl
    have hw : boxW (scaledG awH 100) = 500 := by
      unfold boxW
      rw [e1, e2, IntWalk.wrap64_in _ (by omega)]
      omega
    unfold accG
    rw [awP]
    show glyB 0 ⟨#[104, 97, 116]⟩ 100 (boxW (scaledG awH 100)) 694 (-560) = _
    rw [hw]
  have hK : accK (awA k) 1 0 ⟨#[104, 97, 116]⟩ awY = [atXY 1 (glyB 0 ⟨#[104, 97, 116]⟩ 100 500 694 (-560)) 0 263, atXY 1 awY 35 0] := by
    unfold accK
    rw [hx, hg]
    rfl
  unfold accB
  rw [hK]
  rfl
theorem awQ_valid : validB 2 awQ := ⟨by simp [allOwn, ownOk, lensOk, Hd.lens, kindOk, srcOk, srcEnd, awY, awQ, glyB, listB, atXY, Lib.toList_data]; decide, by decide, by decide⟩
theorem awY_rep (P : Nat → Prop) (w : World) : RepP P w 1 awY [.int .i64 2, .string ⟨#[]⟩, .int .i64 0, .int .i64 430, .int .i64 694, .int .i64 0, .int .i64 0, .int .i64 0, .slice none 0 0, .int .i64 0, .slice none 0 0] :=
  rep_bare (rep_mk (kx := none) (sx := none) (kc := 0) (sc := 0) (by constructor <;> first | (unfold I64; simp; done) | (intro n hn; cases hn; done) | (simp [maxLen, ByteArray.size]; done) | decide) (by simp) (.inl rfl) (fun i kid hi => by simp at hi)) rfl
theorem awMake36 {w : World} {k : Nat} (hg : Has w k awH.cells) :
    Calls Try.prog 10 #[(awA k).val, .agg #[.int .i64 1, .bool false], .string ⟨#[104, 97, 116]⟩, .agg #[.int .i64 2, .string ⟨#[]⟩, .int .i64 0, .int .i64 430, .int .i64 694, .int .i64 0, .int .i64 0, .int .i64 0, .slice none 0 0, .int .i64 0, .slice none 0 0]] w (GivesBE 2 awQ 0 w) := by
  have h := accMake_ok (fun k => k < w.heap.size) (awA k) 1 false 0 0 ⟨#[104, 97, 116]⟩ awY _ w (awA_ok hg) (fun _ h => h) (awY_rep _ w) (awO36 k) (by rw [awT36]; exact awQ_valid)
  rw [awT36] at h
  exact h.mono fun _ _ ⟨cs, he, hr, hb⟩ => ⟨cs, he, hr.rep, hb⟩
/-- The cells that the example looks at. -/
theorem awLook36 {w : World} {cs : List Value} (h : Rep w 2 awQ cs) : ∃ c0 c1 c2 c4 c5 c6 c7 c9 c10 k o kc, cs = [c0, c1, c2, .int .i64 500, c4, c5, c6, c7, .slice (some ⟨k, o, none⟩) 2 kc, c9, c10] ∧ w.cell? ⟨k, o + 6, none⟩ = some (.int .i64 0) ∧ w.cell? ⟨k, o + 7, none⟩ = some (.int .i64 263) ∧ w.cell? ⟨k, o + 11 + 6, none⟩ = some (.int .i64 35) ∧ cs.all (·.oneCell') = true := by
  have hall := rep_all h
  unfold awQ at h
  obtain ⟨kx, kc, sx, sc, rfl, _, _, _, hk⟩ := rep_out h
  obtain ⟨k, o, css, rfl, hr0, hp0⟩ := hk 0 _ rfl
  obtain ⟨k1, o1, css1, e1, hr1, hp1⟩ := hk 1 _ rfl
  obtain ⟨rfl, rfl⟩ : k = k1 ∧ o = o1 := by simpa using e1
  obtain ⟨_, _, _, _, rfl, _⟩ := rep_out hp0
  obtain ⟨_, _, _, _, rfl, _⟩ := rep_out hp1
  rw [Nat.zero_mul, Nat.add_zero] at hr0
  rw [Nat.one_mul] at hr1
  exact ⟨_, _, _, _, _, _, _, _, _, k, o, kc, rfl, hr0 6 _ rfl, hr0 7 _ rfl, hr1 6 _ rfl, hall⟩

set_option maxHeartbeats 8000000 in
set_option maxRecDepth 100000 in
theorem awake36_calls (w : World) : Calls Try.prog 8 #[] w (Gives (.bool true) w) := by
  go_enter Try.func8, Try.ntmps8
  have hS := own_start w
  go_wp2_with (first | (refine own_unguard (by rfl) ?_) | (refine own_buildSlice rfl _ _ 1 _ rfl awH.cells hS Try.underlying22 (by kernel_rfl) ?_; clear hS; (try clear ww); intro bg ww hS) | (go_at_call 10; refine Calls.mono (awMake36 (hS.get at1)) ?_; rintro e w6 ⟨cs6, rfl, hr6, hb6⟩; have hB6 := bthen hS.below hb6; obtain ⟨c0, c1, c2, c4, c5, c6, c7, c9, c10, k, o, kc, rfl, hy0, hy1, hy2, hall⟩ := awLook36 hr6; clear hS hr6 hb6; have hS := own_start w6) | (refine own_store rfl _ _ _ rfl rfl rfl hS at0 rt_box (by rfl) hall ?_; clear hS; intro ww hS; (try simp only [List.set_cons_zero] at hS)) | (refine w_ld rfl _ rfl (by rfl) (by first | exact rd_1 (by repeat constructor) (by first | rfl | assumption) | exact rd_w (by repeat constructor) (by rfl) | exact rd_o (by assumption) (by rfl) (by first | exact nmn | assumption | simp) | exact rd_h (by assumption) (by rfl) (by first | exact nmn | assumption | simp) | exact rd_1o (by assumption) (by first | exact nmn | assumption | simp) | exact rd_1h (by assumption) (by first | rfl | assumption) (by first | exact nmn | assumption | simp)) hS ?_) | (refine own_box rfl _ _ rfl (by rfl) hS ?_; clear hS; (try clear ww); intro bb ww hS) | (refine w_al rfl rfl hS ?_; clear hS; (try clear ww); intro bb ww hS) | (refine w_st rfl _ _ rfl (by rfl) (by rfl) (by repeat constructor) (by rfl) (by rfl) (by first | rfl | assumption) hS ?_; clear hS; (try clear ww); intro ww hS) | (refine w_s1 rfl _ _ rfl (by rfl) (by repeat constructor) (by first | exact .c | exact .t rfl) (by rfl) (by repeat constructor) hS ?_; clear hS; (try clear ww); intro ww hS))
  go_ret
  exact ⟨rfl, bthen hB6 hS.below⟩

end Go.Proofs.Ytceigjonhabmmaa
