/- Texts Amb, Amy. -/
import Derived.Test.YtceigjonhabmmaaJ19
namespace Go.Proofs.Ytceigjonhabmmaa
open Go.RowKit

attribute [local irreducible] wpQuiet wpG wpP wpK wpList Code.wp Calls

set_option maxHeartbeats 16000000 in
set_option maxRecDepth 100000 in
theorem accMake_bad0 (F : Fnt) (l : Int) (c : Bool) (n m : Nat) (s : ByteArray) (body : Bx (n + 1)) (cs : List Value) (w : World) (hF : FntOk w F) (hr : Rep w (n + 1) body cs) (hx : PctOk F l 0 1) : Calls Try.prog 10 #[F.val, .agg #[.int .i64 l, .bool c], .string s, .agg cs.toArray] w (GivesBE (m + 1) (zeroB m) 1 w) := by
  have HPc := Lib.hid (fun w' (h : Below w.heap.size w w') => style_Percent_calls F l 0 1 c w' (hF.below h) hx)
  obtain ⟨c0, c1, c2, c3, c4, c5, c6, c7, c8, c9, c10, rfl⟩ := eleven hr.len
  clear hF hr hx  
  go_enter Try.func10, Try.ntmps10
  have hS := own_start w
  go_wp2_with (first | (refine own_unguard (by rfl) ?_) | (go_at_call 23; refine own_calls hS (by first | exact HPc.out _ hS.below) ?_; clear hS; (try clear ww); intro ww hS) | (refine w_ld rfl _ rfl (by rfl) (by first | exact rd_1 (by repeat constructor) (by first | rfl | assumption) | exact rd_w (by repeat constructor) (by rfl) | exact rd_o (by assumption) (by rfl) (by first | exact nmn | assumption | simp) | exact rd_h (by assumption) (by rfl) (by first | exact nmn | assumption | simp) | exact rd_1o (by assumption) (by first | exact nmn | assumption | simp) | exact rd_1h (by assumption) (by first | rfl | assumption) (by first | exact nmn | assumption | simp)) hS ?_) | (refine own_box rfl _ _ rfl (by rfl) hS ?_; clear hS; (try clear ww); intro bb ww hS) | (refine w_al rfl rfl hS ?_; clear hS; (try clear ww); intro bb ww hS) | (refine w_st rfl _ _ rfl (by rfl) (by rfl) (by repeat constructor) (by rfl) (by rfl) (by first | rfl | assumption) hS ?_; clear hS; (try clear ww); intro ww hS) | (refine w_s1 rfl _ _ rfl (by rfl) (by repeat constructor) (by first | exact .c | exact .t rfl) (by rfl) (by repeat constructor) hS ?_; clear hS; (try clear ww); intro ww hS))
  have hc := (hS.get at0).cell
  refine bodyPost_ret (v := .tuple #[.agg #[.int .i64 0, .string ⟨#[]⟩, .int .i64 0, .int .i64 0, .int .i64 0, .int .i64 0, .int .i64 0, .int .i64 0, .slice none 0 0, .int .i64 0, .slice none 0 0], .int .i64 1]) (by simp [results, Try.results10, go_sem, hc]) rfl ⟨_, rfl, rep_zero m _, hS.below⟩

set_option maxHeartbeats 16000000 in
set_option maxRecDepth 100000 in
theorem accMake_bad1 (F : Fnt) (l : Int) (c : Bool) (n m : Nat) (s : ByteArray) (body : Bx (n + 1)) (cs : List Value) (w : World) (hF : FntOk w F) (hr : Rep w (n + 1) body cs) (p : Int) (hx : PctOk F l p 0) (hb : ¬ validB (n + 1) body) : Calls Try.prog 10 #[F.val, .agg #[.int .i64 l, .bool c], .string s, .agg cs.toArray] w (GivesBE (m + 1) (zeroB m) 1 w) := by
  have HPc := Lib.hid (fun w' (h : Below w.heap.size w w') => style_Percent_calls F l p 0 c w' (hF.below h) hx)
  have HVb := Lib.hid (fun w' (h : Below w.heap.size w w') => box_Valid_calls (n + 1) body cs w' (hr.step h) hr.wide _ (iff_f hb))
  obtain ⟨c0, c1, c2, c3, c4, c5, c6, c7, c8, c9, c10, rfl⟩ := eleven hr.len
  clear hF hr hx hb 
  go_enter Try.func10, Try.ntmps10
  have hS := own_start w
  go_wp2_with (first | (refine own_unguard (by rfl) ?_) | (go_at_call 23; refine own_calls hS (by first | exact HPc.out _ hS.below) ?_; clear hS; (try clear ww); intro ww hS) | (go_at_call 24; refine own_calls hS (by first | exact HVb.out _ hS.below) ?_; clear hS; (try clear ww); intro ww hS) | (refine w_ld rfl _ rfl (by rfl) (by first | exact rd_1 (by repeat constructor) (by first | rfl | assumption) | exact rd_w (by repeat constructor) (by rfl) | exact rd_o (by assumption) (by rfl) (by first | exact nmn | assumption | simp) | exact rd_h (by assumption) (by rfl) (by first | exact nmn | assumption | simp) | exact rd_1o (by assumption) (by first | exact nmn | assumption | simp) | exact rd_1h (by assumption) (by first | rfl | assumption) (by first | exact nmn | assumption | simp)) hS ?_) | (refine own_box rfl _ _ rfl (by rfl) hS ?_; clear hS; (try clear ww); intro bb ww hS) | (refine w_al rfl rfl hS ?_; clear hS; (try clear ww); intro bb ww hS) | (refine w_st rfl _ _ rfl (by rfl) (by rfl) (by repeat constructor) (by rfl) (by rfl) (by first | rfl | assumption) hS ?_; clear hS; (try clear ww); intro ww hS) | (refine w_s1 rfl _ _ rfl (by rfl) (by repeat constructor) (by first | exact .c | exact .t rfl) (by rfl) (by repeat constructor) hS ?_; clear hS; (try clear ww); intro ww hS))
  have hc := (hS.get at0).cell
  refine bodyPost_ret (v := .tuple #[.agg #[.int .i64 0, .string ⟨#[]⟩, .int .i64 0, .int .i64 0, .int .i64 0, .int .i64 0, .int .i64 0, .int .i64 0, .slice none 0 0, .int .i64 0, .slice none 0 0], .int .i64 1]) (by simp [results, Try.results10, go_sem, hc]) rfl ⟨_, rfl, rep_zero m _, hS.below⟩

set_option maxHeartbeats 16000000 in
set_option maxRecDepth 100000 in
theorem accMake_bad2 (F : Fnt) (l : Int) (c : Bool) (n m : Nat) (s : ByteArray) (body : Bx (n + 1)) (cs : List Value) (w : World) (hF : FntOk w F) (hr : Rep w (n + 1) body cs) (p : Int) (hx : PctOk F l p 0) (hb : validB (n + 1) body) (hs : ¬ s ∈ accNames) : Calls Try.prog 10 #[F.val, .agg #[.int .i64 l, .bool c], .string s, .agg cs.toArray] w (GivesBE (m + 1) (zeroB m) 1 w) := by
  have HPc := Lib.hid (fun w' (h : Below w.heap.size w w') => style_Percent_calls F l p 0 c w' (hF.below h) hx)
  have HVb := Lib.hid (fun w' (h : Below w.heap.size w w') => box_Valid_calls (n + 1) body cs w' (hr.step h) hr.wide _ (iff_t hb))
  have HAc := Lib.hid (fun w' => accent_calls s w' false (iff_f hs))
  obtain ⟨c0, c1, c2, c3, c4, c5, c6, c7, c8, c9, c10, rfl⟩ := eleven hr.len
  clear hF hr hx hb hs
  go_enter Try.func10, Try.ntmps10
  have hS := own_start w
  go_wp2_with (first | (refine own_unguard (by rfl) ?_) | (go_at_call 23; refine own_calls hS (by first | exact HPc.out _ hS.below) ?_; clear hS; (try clear ww); intro ww hS) | (go_at_call 24; refine own_calls hS (by first | exact HVb.out _ hS.below) ?_; clear hS; (try clear ww); intro ww hS) | (go_at_call 25; refine own_calls hS (by first | exact HAc.out _) ?_; clear hS; (try clear ww); intro ww hS) | (refine w_ld rfl _ rfl (by rfl) (by first | exact rd_1 (by repeat constructor) (by first | rfl | assumption) | exact rd_w (by repeat constructor) (by rfl) | exact rd_o (by assumption) (by rfl) (by first | exact nmn | assumption | simp) | exact rd_h (by assumption) (by rfl) (by first | exact nmn | assumption | simp) | exact rd_1o (by assumption) (by first | exact nmn | assumption | simp) | exact rd_1h (by assumption) (by first | rfl | assumption) (by first | exact nmn | assumption | simp)) hS ?_) | (refine own_box rfl _ _ rfl (by rfl) hS ?_; clear hS; (try clear ww); intro bb ww hS) | (refine w_al rfl rfl hS ?_; clear hS; (try clear ww); intro bb ww hS) | (refine w_st rfl _ _ rfl (by rfl) (by rfl) (by repeat constructor) (by rfl) (by rfl) (by first | rfl | assumption) hS ?_; clear hS; (try clear ww); intro ww hS) | (refine w_s1 rfl _ _ rfl (by rfl) (by repeat constructor) (by first | exact .c | exact .t rfl) (by rfl) (by repeat constructor) hS ?_; clear hS; (try clear ww); intro ww hS))
  have hc := (hS.get at0).cell
  refine bodyPost_ret (v := .tuple #[.agg #[.int .i64 0, .string ⟨#[]⟩, .int .i64 0, .int .i64 0, .int .i64 0, .int .i64 0, .int .i64 0, .int .i64 0, .slice none 0 0, .int .i64 0, .slice none 0 0], .int .i64 1]) (by simp [results, Try.results10, go_sem, hc]) rfl ⟨_, rfl, rep_zero m _, hS.below⟩

theorem accMake_bad (F : Fnt) (l : Int) (c : Bool) (n m : Nat) (s : ByteArray) (body : Bx (n + 1)) (cs : List Value) (w : World) (hF : FntOk w F) (hr : Rep w (n + 1) body cs) (hb : ¬ AccOk F l n s body) : Calls Try.prog 10 #[F.val, .agg #[.int .i64 l, .bool c], .string s, .agg cs.toArray] w (GivesBE (m + 1) (zeroB m) 1 w) := by
  by_cases hl : lvlOk l = true
  · by_cases hv : ValidF F
    · have hx : PctOk F l (sizeOf' F l) 0 := ⟨fun _ => ⟨rfl, rfl⟩, fun h => by
        rcases h with h | h
        · rw [hl] at h; cases h
        · exact absurd hv h⟩
      by_cases h0 : validB (n + 1) body
      · exact accMake_bad2 F l c n m s body cs w hF hr _ hx h0 (fun hs => hb ⟨hv, hl, h0, hs⟩)
      · exact accMake_bad1 F l c n m s body cs w hF hr _ hx h0
    · exact accMake_bad0 F l c n m s body cs w hF hr ⟨fun h => absurd h.2 hv, fun _ => ⟨rfl, rfl⟩⟩
  · exact accMake_bad0 F l c n m s body cs w hF hr ⟨fun h => absurd h.1 (by simp [hl]), fun _ => ⟨rfl, rfl⟩⟩

end Go.Proofs.Ytceigjonhabmmaa
namespace Go.Proofs.Ytceigjonhabmmaa
open Go.RowKit

attribute [local irreducible] wpQuiet wpG wpP wpK wpList Code.wp Calls

set_option maxHeartbeats 16000000 in
set_option maxRecDepth 100000 in
theorem accMake_y (P : Nat → Prop) (F : Fnt) (l p A a1 a2 x r xr up gw gh gd E bw bh bd : Int) (Xl Xr Xh Xd : Int) (gn s : ByteArray) (c : Bool) (n _m : Nat) (body : Bx (n + 1)) (c0 c1 c2 c6 c7 c8 c9 c10 : Value) (w : World) (hF : FntOk w F) (hl : lvlOk l = true) (hv : ValidF F) (hP : ∀ k, P k → k < w.heap.size) (hrP : RepP P w (n + 1) body [c0, c1, c2, .int .i64 bw, .int .i64 bh, .int .i64 bd, c6, c7, c8, c9, c10]) (hb : validB (n + 1) body) (ep : p = sizeOf' F l) (hs : s ∈ accNames) (hBx : ∀ w', Below w.heap.size w w' → Calls Try.prog 26 #[F.val, .string s, .int .i64 p] w' (Gives (.tuple #[.agg #[.int .i64 1, .string gn, .int .i64 p, .int .i64 gw, .int .i64 gh, .int .i64 gd, .int .i64 0, .int .i64 0, .slice none 0 0, .int .i64 0, .slice none 0 0], .int .i64 0]) w')) (hAt : ∀ w', Below w.heap.size w w' → Calls Try.prog 18 #[F.val, .agg #[c0, c1, c2, .int .i64 bw, .int .i64 bh, .int .i64 bd, c6, c7, c8, c9, c10]] w' (Gives (.int .i64 a1) w')) (hat : ∀ w', Below w.heap.size w w' → Calls Try.prog 28 #[F.val, .string s, .int .i64 p] w' (Gives (.int .i64 a2) w')) (eA : A = scl F.acc p) (iA : 0 ≤ A ∧ A ≤ 20000) (eU : up = bh - min bh A) (ex : x = a1 - a2) (er : r = max 0 (-x)) (exr : xr = x + r) (ih : -1073741824 ≤ bh ∧ bh ≤ 1073741824) (i1 : -1073741824 ≤ a1 ∧ a1 ≤ 1073741824) (i2 : -1073741824 ≤ a2 ∧ a2 ≤ 1073741824) (hG : ∀ w', RepP P w' (n + 1) (glyB n gn p gw gh gd) [.int .i64 1, .string gn, .int .i64 p, .int .i64 gw, .int .i64 gh, .int .i64 gd, .int .i64 0, .int .i64 0, .slice none 0 0, .int .i64 0, .slice none 0 0]) (hE : extL (([atXY (n + 1) (glyB n gn p gw gh gd) xr up, atXY (n + 1) body r 0] : List (Bx (n + 1))).map (·.1)) = ⟨Xl, Xr, Xh, Xd⟩) (hM : ∀ k ∈ ([atXY (n + 1) (glyB n gn p gw gh gd) xr up, atXY (n + 1) body r 0] : List (Bx (n + 1))), Mild k.1) (eE : E = max 0 Xr) (iE : I64 E ∧ I64 Xh ∧ I64 Xd) (hvR : validB (n + 2) (listB (n + 1) E Xh Xd [atXY (n + 1) (glyB n gn p gw gh gd) xr up, atXY (n + 1) body r 0])) :
    Calls Try.prog 10 #[F.val, .agg #[.int .i64 l, .bool c], .string s, .agg #[c0, c1, c2, .int .i64 bw, .int .i64 bh, .int .i64 bd, c6, c7, c8, c9, c10]] w (GivesBEP P (n + 2) (listB (n + 1) E Xh Xd [atXY (n + 1) (glyB n gn p gw gh gd) xr up, atXY (n + 1) body r 0]) 0 w) := by
  have HPc := Lib.hid (fun w' (h : Below w.heap.size w w') => show Calls Try.prog 23 #[F.val, .agg #[.int .i64 l, .bool c]] w' (Gives (.tuple #[.int .i64 p, .int .i64 0]) w') by
    rw [ep]
    exact style_Percent_calls F l (sizeOf' F l) 0 c w' (hF.below h) ⟨fun _ => ⟨rfl, rfl⟩, fun h => by
      rcases h with h | h
      · rw [hl] at h; cases h
      · exact absurd hv h⟩)
  have HVb := Lib.hid (fun w' (h : Below w.heap.size w w') => box_Valid_calls (n + 1) body _ w' (hrP.rep.step h) hrP.rep.wide _ (iff_t hb))
  have HAc := Lib.hid (fun w' => accent_calls s w' true (iff_t hs))
  have HSc := Lib.hid (fun (w' : World) => show Calls Try.prog 27 #[.int .i64 F.acc, .int .i64 p] w' (Gives (.int .i64 A) w') by rw [eA]; exact length_Scale_gives _ _ _)
  have HBx := Lib.hid hBx
  have HAt := Lib.hid hAt
  have Hat := Lib.hid hat
  have HrP := Lib.hid hrP
  have hallb := rep_all hrP
  have HvR := Lib.hid hvR
  have HsB := Lib.hid (validB_small hb)
  have HG := Lib.hid hG
  have HX := Lib.hid (fun w' y k (h : RepL w' (n + 1) y [atXY (n + 1) (glyB n gn p gw gh gd) xr up, atXY (n + 1) body r 0]) => show Calls Try.prog 30 #[.slice y 2 k] w' (Gives (.tuple #[.int .i64 Xl, .int .i64 Xr, .int .i64 Xh, .int .i64 Xd]) w') by have h0 := box_Extent_calls n [atXY (n + 1) (glyB n gn p gw gh gd) xr up, atXY (n + 1) body r 0] y k w' h hM (by simp); rw [hE] at h0; exact h0)
  have HSm := Lib.hid (show ∀ k ∈ ([atXY (n + 1) (glyB n gn p gw gh gd) xr up, atXY (n + 1) body r 0] : List (Bx (n + 1))), Small (n + 1) k ∧ bCount (n + 1) k ≤ 1000000 from fun k hk => by
    simp only [List.mem_cons, List.not_mem_nil, or_false] at hk
    rcases hk with rfl | rfl
    · exact ⟨small_at ⟨Nat.zero_le _, Nat.zero_le _, fun k hk => by cases hk⟩, Nat.le_trans (Nat.le_of_eq count_at) (by simp [bCount, glyB])⟩
    · exact ⟨small_at HsB.out.1, Nat.le_trans (Nat.le_of_eq count_at) (Nat.le_trans HsB.out.2 (by omega))⟩)
  have b_r : 0 ≤ r ∧ r ≤ 2147483648 := by omega
  have m1 : ∀ (w : World) (ts : Array TypeId) (t : TypeId), (Builtin.min_ ts t #[.int .i64 bh, .int .i64 A]).run Try.prog w = .ok (.int .i64 (min bh A)) w := fun w ts t => by rw [run_min_int2]; congr 2; split <;> omega
  have m2 : ∀ (w : World) (ts : Array TypeId) (t : TypeId), (Builtin.max_ ts t #[.int .i64 0, .int .i64 (-x)]).run Try.prog w = .ok (.int .i64 r) w := fun w ts t => by rw [run_max_int2, er]; congr 2; split <;> omega
  have m3 : ∀ (w : World) (ts : Array TypeId) (t : TypeId), (Builtin.max_ ts t #[.int .i64 0, .int .i64 Xr]).run Try.prog w = .ok (.int .i64 E) w := fun w ts t => by rw [run_max_int2, eE]; congr 2; split <;> omega
  have k1 : IntKind.i64.wrap (bh - min bh A) = up := by rw [eU]; exact IntWalk.i64_in _ (by omega)
  have k2 : IntKind.i64.wrap (a1 - a2) = x := by rw [ex]; exact IntWalk.i64_in _ (by omega)
  have k3 : IntKind.i64.wrap (-x) = -x := IntWalk.i64_in _ (by omega)
  have k4 : IntKind.i64.wrap (x + r) = xr := by rw [exr]; exact IntWalk.i64_in _ (by omega)
  have jX : I64 xr := by unfold I64; omega
  have jr : I64 r := by unfold I64; omega
  have ju : I64 up := by unfold I64; omega
  have hallg : ∀ v ∈ ([.int .i64 1, .string gn, .int .i64 p, .int .i64 gw, .int .i64 gh, .int .i64 gd, .int .i64 0, .int .i64 0, .slice none 0 0, .int .i64 0, .slice none 0 0] : List Value), v.oneCell' = true := by intro v hv; simp only [List.mem_cons, List.not_mem_nil, or_false] at hv; rcases hv with rfl | rfl | rfl | rfl | rfl | rfl | rfl | rfl | rfl | rfl | rfl <;> rfl
  clear hF hl hv hrP hb ep hs hBx hAt hat eA iA eU ex er exr ih i1 i2 hG hE hM eE hvR b_r
  go_enter Try.func10, Try.ntmps10
  have hS := own_start w
  go_upto_region 1 with (first | (refine own_unguard (by rfl) ?_) | (refine w_ld rfl _ rfl (by rfl) (by first | exact rd_1 (by repeat constructor) (by first | rfl | assumption) | exact rd_w (by repeat constructor) (by rfl) | exact rd_o (by assumption) (by rfl) (by first | exact nmn | assumption | simp) | exact rd_h (by assumption) (by rfl) (by first | exact nmn | assumption | simp) | exact rd_1o (by assumption) (by first | exact nmn | assumption | simp) | exact rd_1h (by assumption) (by first | rfl | assumption) (by first | exact nmn | assumption | simp)) hS ?_) | (refine own_box rfl _ _ rfl (by rfl) hS ?_; clear hS; (try clear ww); intro bb ww hS) | (refine w_al rfl rfl hS ?_; clear hS; (try clear ww); intro bb ww hS) | (refine w_st rfl _ _ rfl (by rfl) (by rfl) (by repeat constructor) (by rfl) (by rfl) (by first | rfl | assumption) hS ?_; clear hS; (try clear ww); intro ww hS) | (refine w_s1 rfl _ _ rfl (by rfl) (by repeat constructor) (by first | exact .c | exact .t rfl) (by rfl) (by repeat constructor) hS ?_; clear hS; (try clear ww); intro ww hS))
  have HC0 := Lib.hid hS
  obtain ⟨D0, hD0, hs0, hS1⟩ := safe_start (R := P) hS hP
  have HS0 := Lib.hid hs0
  clear hS hs0
  have hS := hS1
  clear hS1
  go_upto_region 7 with (first | (refine own_unguard (by rfl) ?_) | (go_at_call 23; refine own_calls hS (by first | exact HPc.out _ (chainH HC0.out hD0 hS).below) ?_; clear hS; (try clear ww); intro ww hS) | (go_at_call 24; refine own_calls hS (by first | exact HVb.out _ (chainH HC0.out hD0 hS).below) ?_; clear hS; (try clear ww); intro ww hS) | (go_at_call 25; refine own_calls hS (by first | exact HAc.out _) ?_; clear hS; (try clear ww); intro ww hS) | (go_at_call 26; refine own_calls hS (by first | exact HBx.out _ (chainH HC0.out hD0 hS).below) ?_; clear hS; (try clear ww); intro ww hS) | (refine w_ld rfl _ rfl (by rfl) (by first | exact rd_1 (by repeat constructor) (by first | rfl | assumption) | exact rd_w (by repeat constructor) (by rfl) | exact rd_o (by assumption) (by rfl) (by first | exact nmn | assumption | simp) | exact rd_h (by assumption) (by rfl) (by first | exact nmn | assumption | simp) | exact rd_1o (by assumption) (by first | exact nmn | assumption | simp) | exact rd_1h (by assumption) (by first | rfl | assumption) (by first | exact nmn | assumption | simp)) hS ?_) | (refine own_box rfl _ _ rfl (by rfl) hS ?_; clear hS; (try clear ww); intro bb ww hS) | (refine w_al rfl rfl hS ?_; clear hS; (try clear ww); intro bb ww hS) | (refine w_st rfl _ _ rfl (by rfl) (by rfl) (by repeat constructor) (by rfl) (by rfl) (by first | rfl | assumption) hS ?_; clear hS; (try clear ww); intro ww hS) | (refine w_s1 rfl _ _ rfl (by rfl) (by repeat constructor) (by first | exact .c | exact .t rfl) (by rfl) (by repeat constructor) hS ?_; clear hS; (try clear ww); intro ww hS))
  (try simp only [Act.put]); (try simp only [List.setIfInBounds_toArray]); (try simp only [List.set_cons_succ]); (try simp only [List.set_cons_zero])
  refine own_region hS (by kernel_rfl) (by kernel_rfl) ?_
  (try simp only [List.append])
  (try simp only); (try simp only [List.drop_succ_cons]); (try simp only [List.drop_zero]); (try simp only [List.take_succ_cons]); (try simp only [List.take_zero])
  repeat (first
      | (first | (refine quiet_plain rfl ?_) | (refine quiet_yes rfl rfl rfl (by simp only [List.getElem?_toArray, List.getElem?_cons_succ, List.getElem?_cons_zero]; rfl) (by with_reducible constructor) ?_)
         apply Exists.intro; refine ⟨?_, ?_⟩
         focus (intro wq hq0; have hq : Own _ _ _ wq := hq0; first | (exact quietAt_rd rfl (by rfl) (by first | exact rd_1 (by repeat constructor) (by first | rfl | assumption) | exact rd_w (by repeat constructor) (by rfl) | exact rd_o (by assumption) (by rfl) (by first | exact nmn | assumption | simp) | exact rd_h (by assumption) (by rfl) (by first | exact nmn | assumption | simp) | exact rd_1o (by assumption) (by first | exact nmn | assumption | simp) | exact rd_1h (by assumption) (by first | rfl | assumption) (by first | exact nmn | assumption | simp)) hq) | (go_simp; first | (go_at_call 27; exact quietG hq (HSc.out _)) | (with_reducible rfl)))
         simp only [Act.put, List.setIfInBounds_toArray, List.set_cons_zero, List.set_cons_succ])
      | (refine quiet_no rfl rfl rfl (by simp only [List.getElem?_toArray, List.getElem?_cons_succ, List.getElem?_cons_zero]; rfl) (by with_reducible constructor) ?_; simp only [Act.put, List.setIfInBounds_toArray, List.set_cons_zero, List.set_cons_succ]))
  refine wpQuiet_nil ?_
  clear hS
  intro ww hS
  go_upto_region 8 with (first | (refine own_unguard (by rfl) ?_) | (refine w_ld rfl _ rfl (by rfl) (by first | exact rd_1 (by repeat constructor) (by first | rfl | assumption) | exact rd_w (by repeat constructor) (by rfl) | exact rd_o (by assumption) (by rfl) (by first | exact nmn | assumption | simp) | exact rd_h (by assumption) (by rfl) (by first | exact nmn | assumption | simp) | exact rd_1o (by assumption) (by first | exact nmn | assumption | simp) | exact rd_1h (by assumption) (by first | rfl | assumption) (by first | exact nmn | assumption | simp)) hS ?_) | (refine own_box rfl _ _ rfl (by rfl) hS ?_; clear hS; (try clear ww); intro bb ww hS) | (refine w_al rfl rfl hS ?_; clear hS; (try clear ww); intro bb ww hS) | (refine w_st rfl _ _ rfl (by rfl) (by rfl) (by repeat constructor) (by rfl) (by rfl) (by first | rfl | assumption) hS ?_; clear hS; (try clear ww); intro ww hS) | (refine w_s1 rfl _ _ rfl (by rfl) (by repeat constructor) (by first | exact .c | exact .t rfl) (by rfl) (by repeat constructor) hS ?_; clear hS; (try clear ww); intro ww hS))
  (try simp only [Act.put]); (try simp only [List.setIfInBounds_toArray]); (try simp only [List.set_cons_succ]); (try simp only [List.set_cons_zero])
  refine own_region hS (by kernel_rfl) (by kernel_rfl) ?_
  (try simp only [List.append])
  (try simp only); (try simp only [List.drop_succ_cons]); (try simp only [List.drop_zero]); (try simp only [List.take_succ_cons]); (try simp only [List.take_zero])
  repeat (first
      | (first | (refine quiet_plain rfl ?_) | (refine quiet_yes rfl rfl rfl (by simp only [List.getElem?_toArray, List.getElem?_cons_succ, List.getElem?_cons_zero]; rfl) (by with_reducible constructor) ?_)
         apply Exists.intro; refine ⟨?_, ?_⟩
         focus (intro wq hq0; have hq : Own _ _ _ wq := hq0; first | (exact quietAt_rd rfl (by rfl) (by first | exact rd_1 (by repeat constructor) (by first | rfl | assumption) | exact rd_w (by repeat constructor) (by rfl) | exact rd_o (by assumption) (by rfl) (by first | exact nmn | assumption | simp) | exact rd_h (by assumption) (by rfl) (by first | exact nmn | assumption | simp) | exact rd_1o (by assumption) (by first | exact nmn | assumption | simp) | exact rd_1h (by assumption) (by first | rfl | assumption) (by first | exact nmn | assumption | simp)) hq) | (go_simp; first | (go_at_call 18; exact quietG hq (HAt.out _ (chainH HC0.out hD0 hq).below)) | (go_at_call 28; exact quietG hq (Hat.out _ (chainH HC0.out hD0 hq).below)) | (with_reducible rfl)))
         simp only [Act.put, List.setIfInBounds_toArray, List.set_cons_zero, List.set_cons_succ])
      | (refine quiet_no rfl rfl rfl (by simp only [List.getElem?_toArray, List.getElem?_cons_succ, List.getElem?_cons_zero]; rfl) (by with_reducible constructor) ?_; simp only [Act.put, List.setIfInBounds_toArray, List.set_cons_zero, List.set_cons_succ]))
  refine wpQuiet_nil ?_
  clear hS
  intro ww hS
  go_upto_region 10 with (first | (refine own_unguard (by rfl) ?_) | (refine w_ld rfl _ rfl (by rfl) (by first | exact rd_1 (by repeat constructor) (by first | rfl | assumption) | exact rd_w (by repeat constructor) (by rfl) | exact rd_o (by assumption) (by rfl) (by first | exact nmn | assumption | simp) | exact rd_h (by assumption) (by rfl) (by first | exact nmn | assumption | simp) | exact rd_1o (by assumption) (by first | exact nmn | assumption | simp) | exact rd_1h (by assumption) (by first | rfl | assumption) (by first | exact nmn | assumption | simp)) hS ?_) | (refine own_box rfl _ _ rfl (by rfl) hS ?_; clear hS; (try clear ww); intro bb ww hS) | (refine w_al rfl rfl hS ?_; clear hS; (try clear ww); intro bb ww hS) | (refine w_st rfl _ _ rfl (by rfl) (by rfl) (by repeat constructor) (by rfl) (by rfl) (by first | rfl | assumption) hS ?_; clear hS; (try clear ww); intro ww hS) | (refine w_s1 rfl _ _ rfl (by rfl) (by repeat constructor) (by first | exact .c | exact .t rfl) (by rfl) (by repeat constructor) hS ?_; clear hS; (try clear ww); intro ww hS))
  (try simp only [Act.put]); (try simp only [List.setIfInBounds_toArray]); (try simp only [List.set_cons_succ]); (try simp only [List.set_cons_zero])
  refine own_any hS [] 11 (by kernel_rfl) (by kernel_rfl) ?_
  clear hS
  intro hcl ww hS
  refine own_batch hS [0, 1, 2, 3, 4, 6, 7] 4 rfl hcl (by kernel_rfl) ?_
  (try simp only); repeat (first | (simp only [List.filterMap_cons]) | (simp only [List.filterMap_nil]) | (simp only [List.getElem?_toArray]) | (simp only [List.getElem?_cons_succ]) | (simp only [List.getElem?_cons_zero]) | (simp only [List.reverse_cons]) | (simp only [List.reverse_nil]) | (simp only [List.nil_append]) | (simp only [List.cons_append]))
  repeat (first
      | (first | (refine g_plain rfl ?_) | (refine g_yes rfl rfl rfl (by simp only [List.getElem?_toArray, List.getElem?_cons_succ, List.getElem?_cons_zero]; rfl) (by with_reducible constructor) ?_)
         apply Exists.intro; refine ⟨?_, ?_⟩
         focus (intro wq hq0; (first | have hq : Own _ _ _ wq := hq0 | have hq : Own _ _ _ wq := hq0.1 | skip); first | ((with_reducible show givesAt _ ({ dst := _, op := Op.load _ _, type := _, pos := _, after := _, guard := _ } : Oper) _ _ _); first | (exact givesAt_rd rfl (by rfl) (by first | exact rd_1 (by repeat constructor) (by first | rfl | assumption) | exact rd_w (by repeat constructor) (by rfl) | exact rd_o (by assumption) (by rfl) (by first | exact nmn | assumption | simp) | exact rd_h (by assumption) (by rfl) (by first | exact nmn | assumption | simp) | exact rd_1o (by assumption) (by first | exact nmn | assumption | simp) | exact rd_1h (by assumption) (by first | rfl | assumption) (by first | exact nmn | assumption | simp)) hq)) | (go_simp; first | (with_reducible rfl)))
         simp only [Act.put, List.setIfInBounds_toArray]; (try simp only [List.set_cons_succ]); (try simp only [List.set_cons_zero]))
      | (refine g_no rfl rfl rfl (by simp only [List.getElem?_toArray, List.getElem?_cons_succ, List.getElem?_cons_zero]; rfl) (by with_reducible constructor) ?_; simp only [Act.put, List.setIfInBounds_toArray]; (try simp only [List.set_cons_succ]); (try simp only [List.set_cons_zero])))
  refine g_nil ?_
  clear hS hcl
  intro hcl ww hS
  (try simp only [Act.put]); (try simp only [List.setIfInBounds_toArray]); (try simp only [List.set_cons_succ]); (try simp only [List.set_cons_zero])
  refine own_softB hS 5 hcl (by simp only [List.getElem?_toArray, List.getElem?_cons_succ, List.getElem?_cons_zero]; rfl) (by kernel_rfl) ?_
  have hO := hS
  clear hS
  intro hS
  go_wp2_with (first | (go_at_call 29; refine Calls.mono (box_At_I P n (glyB n gn p gw gh gd) _ xr up _ (HG.out _) jX ju (Nat.zero_le _)) ?_; rintro e w4 ⟨cs4, rfl, hr4, hb4⟩))
  refine ⟨[], hS.step hb4, ?_⟩
  clear hS
  intro hcl w10 hS hb5
  obtain ⟨P1, D1, hD1, hPP1, hs2, q1, hS2, hC2⟩ := own_give HS0.out hO hr4 hb4 hb5
  have HC1 := Lib.hid (chainH HC0.out hD0 hC2)
  have HS1 := Lib.hid hs2
  have Q1 := Lib.hid q1
  have hall1 := rep_all q1
  obtain ⟨e0, e1, e2, e3, e4, e5, e6, e7, e8, e9, e10, rfl⟩ := eleven q1.len
  clear hS hs2 hr4 hb4 hb5 hC2 q1 hO
  have hS := hS2
  clear hS2
  (try simp only [Act.put]); (try simp only [List.setIfInBounds_toArray]); (try simp only [List.set_cons_succ]); (try simp only [List.set_cons_zero])
  refine own_softB hS 8 hcl (by simp only [List.getElem?_toArray, List.getElem?_cons_succ, List.getElem?_cons_zero]; rfl) (by kernel_rfl) ?_
  have hO := hS
  clear hS
  intro hS
  go_wp2_with (first | (go_at_call 29; refine Calls.mono (box_At_I P1 n body _ r 0 _ (repP_mono (repP_step HrP.out (chainH HC1.out hD1 hO).below) hPP1) jr i64_0 HsB.out.1.1) ?_; rintro e w4 ⟨cs4, rfl, hr4, hb4⟩))
  refine ⟨[], hS.step hb4, ?_⟩
  clear hS
  intro hcl w20 hS hb5
  obtain ⟨P2, D2, hD2, hPP2, hs2, q2, hS2, hC2⟩ := own_give HS1.out hO hr4 hb4 hb5
  have HC2 := Lib.hid (chainH HC1.out hD1 hC2)
  have HS2 := Lib.hid hs2
  have Q2 := Lib.hid q2
  have Q12 := Lib.hid (repP_mono (HS1.out.turn Q1.out hC2) hPP2)
  have hall2 := rep_all q2
  obtain ⟨f0, f1, f2, f3, f4, f5, f6, f7, f8, f9, f10, rfl⟩ := eleven q2.len
  clear hS hs2 hr4 hb4 hb5 hC2 q2 hO
  have hS := hS2
  clear hS2
  (try simp only [Act.put]); (try simp only [List.setIfInBounds_toArray]); (try simp only [List.set_cons_succ]); (try simp only [List.set_cons_zero])
  refine own_soft hS 9 hcl (by simp only [List.getElem?_toArray, List.getElem?_cons_succ, List.getElem?_cons_zero]; rfl) (by kernel_rfl) ?_
  have hO := hS
  clear hS
  intro hS
  refine own_buildSlice rfl _ _ 2 _ rfl [e0, e1, e2, e3, e4, e5, e6, e7, e8, e9, e10, f0, f1, f2, f3, f4, f5, f6, f7, f8, f9, f10] hS Try.underlying30 (by kernel_rfl) ?_
  clear hS
  intro bs w6 hS
  refine wpList_nil ⟨rfl, _, hS, ?_⟩
  clear hS hO hcl
  intro hcl w7 hS
  simp only [List.cons_append, List.nil_append] at hS
  (try simp only [Act.put]); (try simp only [List.setIfInBounds_toArray]); (try simp only [List.set_cons_succ]); (try simp only [List.set_cons_zero])
  refine own_batch hS [10] 0 rfl hcl (by kernel_rfl) ?_
  (try simp only); repeat (first | (simp only [List.filterMap_cons]) | (simp only [List.filterMap_nil]) | (simp only [List.getElem?_toArray]) | (simp only [List.getElem?_cons_succ]) | (simp only [List.getElem?_cons_zero]) | (simp only [List.reverse_cons]) | (simp only [List.reverse_nil]) | (simp only [List.nil_append]) | (simp only [List.cons_append]))
  repeat (first
      | (first | (refine g_plain rfl ?_) | (refine g_yes rfl rfl rfl (by simp only [List.getElem?_toArray, List.getElem?_cons_succ, List.getElem?_cons_zero]; rfl) (by with_reducible constructor) ?_)
         apply Exists.intro; refine ⟨?_, ?_⟩
         focus (intro wq hq0; (first | have hq : Own _ _ _ wq := hq0 | have hq : Own _ _ _ wq := hq0.1 | skip); first | ((with_reducible show givesAt _ ({ dst := _, op := Op.load _ _, type := _, pos := _, after := _, guard := _ } : Oper) _ _ _); first | (exact givesAt_rd rfl (by rfl) (by first | exact rd_1 (by repeat constructor) (by first | rfl | assumption) | exact rd_w (by repeat constructor) (by rfl) | exact rd_o (by assumption) (by rfl) (by first | exact nmn | assumption | simp) | exact rd_h (by assumption) (by rfl) (by first | exact nmn | assumption | simp) | exact rd_1o (by assumption) (by first | exact nmn | assumption | simp) | exact rd_1h (by assumption) (by first | rfl | assumption) (by first | exact nmn | assumption | simp)) hq)) | (go_simp; first | (with_reducible rfl)))
         simp only [Act.put, List.setIfInBounds_toArray]; (try simp only [List.set_cons_succ]); (try simp only [List.set_cons_zero]))
      | (refine g_no rfl rfl rfl (by simp only [List.getElem?_toArray, List.getElem?_cons_succ, List.getElem?_cons_zero]; rfl) (by with_reducible constructor) ?_; simp only [Act.put, List.setIfInBounds_toArray]; (try simp only [List.set_cons_succ]); (try simp only [List.set_cons_zero])))
  refine g_nil ?_
  clear hS hcl
  intro hcl ww hS
  refine own_done (by kernel_rfl) ?_
  (try simp only [Act.put]); (try simp only [List.setIfInBounds_toArray]); (try simp only [List.set_cons_succ]); (try simp only [List.set_cons_zero])
  go_wp2_with (first | (refine own_unguard (by rfl) ?_) | (refine w_ld rfl _ rfl (by rfl) (by first | exact rd_1 (by repeat constructor) (by first | rfl | assumption) | exact rd_w (by repeat constructor) (by rfl) | exact rd_o (by assumption) (by rfl) (by first | exact nmn | assumption | simp) | exact rd_h (by assumption) (by rfl) (by first | exact nmn | assumption | simp) | exact rd_1o (by assumption) (by first | exact nmn | assumption | simp) | exact rd_1h (by assumption) (by first | rfl | assumption) (by first | exact nmn | assumption | simp)) hS ?_) | (refine own_box rfl _ _ rfl (by rfl) hS ?_; clear hS; (try clear ww); intro bb ww hS) | (refine w_al rfl rfl hS ?_; clear hS; (try clear ww); intro bb ww hS) | (refine w_st rfl _ _ rfl (by rfl) (by rfl) (by repeat constructor) (by rfl) (by rfl) (by first | rfl | assumption) hS ?_; clear hS; (try clear ww); intro ww hS) | (refine w_s1 rfl _ _ rfl (by rfl) (by repeat constructor) (by first | exact .c | exact .t rfl) (by rfl) (by repeat constructor) hS ?_; clear hS; (try clear ww); intro ww hS))
  have hrow : RepLP P2 _ (n + 1) (some ⟨bs, 0, none⟩) [atXY (n + 1) (glyB n gn p gw gh gd) xr up, atXY (n + 1) body r 0] := has_kids (hS.get at0) ⟨_, _, rfl, HS2.out.turn Q12.out hS, ⟨_, [], by simp, HS2.out.turn Q2.out hS, rfl⟩⟩
  go_at_call 30
  refine own_calls hS (HX.out _ _ _ (repLP_L hrow)) ?_
  clear hS hrow
  (try clear ww)
  intro ww hS
  go_wp2_with (first | (refine own_unguard (by rfl) ?_) | (refine w_ld rfl _ rfl (by rfl) (by first | exact rd_1 (by repeat constructor) (by first | rfl | assumption) | exact rd_w (by repeat constructor) (by rfl) | exact rd_o (by assumption) (by rfl) (by first | exact nmn | assumption | simp) | exact rd_h (by assumption) (by rfl) (by first | exact nmn | assumption | simp) | exact rd_1o (by assumption) (by first | exact nmn | assumption | simp) | exact rd_1h (by assumption) (by first | rfl | assumption) (by first | exact nmn | assumption | simp)) hS ?_) | (refine own_box rfl _ _ rfl (by rfl) hS ?_; clear hS; (try clear ww); intro bb ww hS) | (refine w_al rfl rfl hS ?_; clear hS; (try clear ww); intro bb ww hS) | (refine w_st rfl _ _ rfl (by rfl) (by rfl) (by repeat constructor) (by rfl) (by rfl) (by first | rfl | assumption) hS ?_; clear hS; (try clear ww); intro ww hS) | (refine w_s1 rfl _ _ rfl (by rfl) (by repeat constructor) (by first | exact .c | exact .t rfl) (by rfl) (by repeat constructor) hS ?_; clear hS; (try clear ww); intro ww hS))
  have hrow : RepLP P2 _ (n + 1) (some ⟨bs, 0, none⟩) [atXY (n + 1) (glyB n gn p gw gh gd) xr up, atXY (n + 1) body r 0] := has_kids (hS.get at0) ⟨_, _, rfl, HS2.out.turn Q12.out hS, ⟨_, [], by simp, HS2.out.turn Q2.out hS, rfl⟩⟩
  go_at_call 31
  refine Calls.mono (box_List_I P2 (n + 1) [atXY (n + 1) (glyB n gn p gw gh gd) xr up, atXY (n + 1) body r 0] _ 2 E Xh Xd _ hrow HSm.out (by simp) iE.1 iE.2.1 iE.2.2) ?_
  rintro e wA ⟨csA, rfl, hrA, hbA⟩
  obtain ⟨PA, DA, hDA, hPPA, hsA, qA, hS2, hC2⟩ := own_give HS2.out hS hrA hbA (bself _)
  have HCA := Lib.hid (chainH HC2.out hD2 hC2)
  have HSA := Lib.hid hsA
  have QA := Lib.hid qA
  have hallA := rep_all qA
  obtain ⟨g0, g1, g2, g3, g4, g5, g6, g7, g8, g9, g10, rfl⟩ := eleven qA.len
  clear hS hrA hbA hsA qA hC2 hrow
  (try clear ww)
  have hS := hS2
  clear hS2
  have HVR := Lib.hid (fun (ww : World) (L' : List (Nat × List Value)) (h : Own DA wA L' ww) => box_Valid_calls (n + 2) _ _ ww (HSA.out.turn QA.out h).rep (HSA.out.turn QA.out h).rep.wide _ (iff_t HvR.out))
  go_wp2_with (first | (refine own_unguard (by rfl) ?_) | (go_at_call 24; refine own_calls hS (HVR.out _ _ hS) ?_; clear hS; (try clear ww); intro ww hS) | (refine w_ld rfl _ rfl (by rfl) (by first | exact rd_1 (by repeat constructor) (by first | rfl | assumption) | exact rd_w (by repeat constructor) (by rfl) | exact rd_o (by assumption) (by rfl) (by first | exact nmn | assumption | simp) | exact rd_h (by assumption) (by rfl) (by first | exact nmn | assumption | simp) | exact rd_1o (by assumption) (by first | exact nmn | assumption | simp) | exact rd_1h (by assumption) (by first | rfl | assumption) (by first | exact nmn | assumption | simp)) hS ?_) | (refine own_box rfl _ _ rfl (by rfl) hS ?_; clear hS; (try clear ww); intro bb ww hS) | (refine w_al rfl rfl hS ?_; clear hS; (try clear ww); intro bb ww hS) | (refine w_st rfl _ _ rfl (by rfl) (by rfl) (by repeat constructor) (by rfl) (by rfl) (by first | rfl | assumption) hS ?_; clear hS; (try clear ww); intro ww hS) | (refine w_s1 rfl _ _ rfl (by rfl) (by repeat constructor) (by first | exact .c | exact .t rfl) (by rfl) (by repeat constructor) hS ?_; clear hS; (try clear ww); intro ww hS))
  have hc := (hS.get at3).cell
  refine bodyPost_ret (v := .tuple #[.agg #[g0, g1, g2, g3, g4, g5, g6, g7, g8, g9, g10], .int .i64 0]) (by simp [results, Try.results10, go_sem, hc]) rfl ⟨_, rfl, HSA.out.ends QA.out hS, (chainH HCA.out hDA hS).below⟩

end Go.Proofs.Ytceigjonhabmmaa
