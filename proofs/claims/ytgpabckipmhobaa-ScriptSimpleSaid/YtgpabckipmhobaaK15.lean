/- Texts Ita, Rsi, Rit, Scp, Rai, Shf, Sty. -/
import Derived.Test.YtgpabckipmhobaaK14
import Derived.Test.YtgpabckipmhobaaK11
import Derived.Test.YtgpabckipmhobaaK06
import Derived.Test.YtgpabckipmhobaaK07
import Derived.Test.YtgpabckipmhobaaK13
import Derived.Test.YtgpabckipmhobaaK12
import Derived.Test.YtgpabckipmhobaaK00
namespace Go.Proofs.Ytgpabckipmhobaa
open Go.RowKit

attribute [local irreducible] wpQuiet wpG wpP wpK wpList Code.wp Calls

/-- The italic correction of a box, in a font. -/
def italB (F : Fnt) (n : Nat) (b : Bx n) : Int :=
  match innerS n b with
  | none => 0
  | some g => max 0 (scaledG (pickG F.gs g.2.1.name) g.2.1.size).it
theorem font_pick34 (F : Fnt) (s : ByteArray) (w : World) (h : FntOk w F) (hn : F.gs.length ≤ 500) : Calls Try.prog 41 #[F.val, .string s] w (Gives (.agg #[.string (pickG F.gs s).name, .int .i64 (pickG F.gs s).w, .int .i64 (pickG F.gs s).h, .int .i64 (pickG F.gs s).d, .int .i64 (pickG F.gs s).it, .int .i64 (pickG F.gs s).at_]) w) :=
  font_Pick_calls F.gx F.sx F.gs.length F.gc F.ss.length F.sc F.quad F.xheight F.axis F.rule F.num1 F.num2 F.den1 F.den2 F.sup1 F.sup2 F.sup3 F.sub1 F.sub2 F.supdrop F.subdrop F.script F.sscript F.dpercent F.dshort F.acc F.gs s w (by omega) h.glysAt

set_option maxHeartbeats 8000000 in
set_option maxRecDepth 100000 in
theorem italic_no1 (F : Fnt) (n : Nat) (b : Bx n) (cs : List Value) (w : World) (hF : FntOk w F) (hr : Rep w n b cs) (hv : ¬ ValidF F) : Calls Try.prog 19 #[F.val, .agg cs.toArray] w (Gives (.int .i64 0) w) := by
  have HV := Lib.hid (fun w' (h : Below w.heap.size w w') => font_Valid_calls F w' (hF.below h) false (iff_f hv))
  obtain ⟨c0, c1, c2, c3, c4, c5, c6, c7, c8, c9, c10, rfl⟩ := eleven hr.len
  clear hF hr hv
  go_enter Try.func19, Try.ntmps19
  have hS := own_start w
  go_wp2_with (first | (refine own_unguard (by rfl) ?_) | (go_at_call 38; refine own_calls hS (HV.out _ hS.below) ?_; clear hS; (try clear ww); intro ww hS) | (refine w_ld rfl _ rfl (by rfl) (by first | exact rd_1 (by repeat constructor) (by first | rfl | assumption) | exact rd_w (by repeat constructor) (by rfl) | exact rd_o (by assumption) (by rfl) (by first | exact nmn | assumption | simp) | exact rd_h (by assumption) (by rfl) (by first | exact nmn | assumption | simp) | exact rd_1o (by assumption) (by first | exact nmn | assumption | simp) | exact rd_1h (by assumption) (by first | rfl | assumption) (by first | exact nmn | assumption | simp)) hS ?_) | (refine own_box rfl _ _ rfl (by rfl) hS ?_; clear hS; (try clear ww); intro bb ww hS) | (refine w_al rfl rfl hS ?_; clear hS; (try clear ww); intro bb ww hS) | (refine w_st rfl _ _ rfl (by rfl) (by rfl) (by repeat constructor) (by rfl) (by rfl) (by first | rfl | assumption) hS ?_; clear hS; (try clear ww); intro ww hS) | (refine w_s1 rfl _ _ rfl (by rfl) (by repeat constructor) (by first | exact .c | exact .t rfl) (by rfl) (by repeat constructor) hS ?_; clear hS; (try clear ww); intro ww hS))
  go_ret
  exact own_gives hS

set_option maxHeartbeats 8000000 in
set_option maxRecDepth 100000 in
theorem italic_no2 (F : Fnt) (n : Nat) (b : Bx n) (cs : List Value) (w : World) (hF : FntOk w F) (hr : Rep w n b cs) (hv : ValidF F) (hb : ¬ validB n b) : Calls Try.prog 19 #[F.val, .agg cs.toArray] w (Gives (.int .i64 0) w) := by
  have HV := Lib.hid (fun w' (h : Below w.heap.size w w') => font_Valid_calls F w' (hF.below h) true (iff_t hv))
  have HB := Lib.hid (fun w' (h : Below w.heap.size w w') => box_Valid_calls n b cs w' (hr.step h) hr.wide _ (iff_f hb))
  obtain ⟨c0, c1, c2, c3, c4, c5, c6, c7, c8, c9, c10, rfl⟩ := eleven hr.len
  clear hF hr hv hb
  go_enter Try.func19, Try.ntmps19
  have hS := own_start w
  go_wp2_with (first | (refine own_unguard (by rfl) ?_) | (go_at_call 38; refine own_calls hS (HV.out _ hS.below) ?_; clear hS; (try clear ww); intro ww hS) | (go_at_call 39; refine own_calls hS (HB.out _ hS.below) ?_; clear hS; (try clear ww); intro ww hS) | (refine w_ld rfl _ rfl (by rfl) (by first | exact rd_1 (by repeat constructor) (by first | rfl | assumption) | exact rd_w (by repeat constructor) (by rfl) | exact rd_o (by assumption) (by rfl) (by first | exact nmn | assumption | simp) | exact rd_h (by assumption) (by rfl) (by first | exact nmn | assumption | simp) | exact rd_1o (by assumption) (by first | exact nmn | assumption | simp) | exact rd_1h (by assumption) (by first | rfl | assumption) (by first | exact nmn | assumption | simp)) hS ?_) | (refine own_box rfl _ _ rfl (by rfl) hS ?_; clear hS; (try clear ww); intro bb ww hS) | (refine w_al rfl rfl hS ?_; clear hS; (try clear ww); intro bb ww hS) | (refine w_st rfl _ _ rfl (by rfl) (by rfl) (by repeat constructor) (by rfl) (by rfl) (by first | rfl | assumption) hS ?_; clear hS; (try clear ww); intro ww hS) | (refine w_s1 rfl _ _ rfl (by rfl) (by repeat constructor) (by first | exact .c | exact .t rfl) (by rfl) (by repeat constructor) hS ?_; clear hS; (try clear ww); intro ww hS))
  go_ret
  exact own_gives hS

set_option maxHeartbeats 8000000 in
set_option maxRecDepth 100000 in
theorem italic_no3 (F : Fnt) (n : Nat) (b : Bx n) (cs : List Value) (w : World) (hF : FntOk w F) (hr : Rep w n b cs) (hv : ValidF F) (hb : validB n b) (hi : innerS n b = none) : Calls Try.prog 19 #[F.val, .agg cs.toArray] w (Gives (.int .i64 0) w) := by
  have HV := Lib.hid (fun w' (h : Below w.heap.size w w') => font_Valid_calls F w' (hF.below h) true (iff_t hv))
  have HB := Lib.hid (fun w' (h : Below w.heap.size w w') => box_Valid_calls n b cs w' (hr.step h) hr.wide _ (iff_t hb))
  have HI := Lib.hid (fun w' k (h : Below w.heap.size w w') (hk : w'.rangeAt k 0 cs) => innermost_calls (fun k => k < w.heap.size) n b cs k 0 w' hk (RepG.step h n b cs (rep_old n b cs hr)))
  rw [hi] at HI
  obtain ⟨c0, c1, c2, c3, c4, c5, c6, c7, c8, c9, c10, rfl⟩ := eleven hr.len
  clear hF hr hv hb hi
  go_enter Try.func19, Try.ntmps19
  have hS := own_start w
  go_wp2_with (first | (refine own_unguard (by rfl) ?_) | (go_at_call 38; refine own_calls hS (HV.out _ hS.below) ?_; clear hS; (try clear ww); intro ww hS) | (go_at_call 39; refine own_calls hS (HB.out _ hS.below) ?_; clear hS; (try clear ww); intro ww hS) | (refine w_ld rfl _ rfl (by rfl) (by first | exact rd_1 (by repeat constructor) (by first | rfl | assumption) | exact rd_w (by repeat constructor) (by rfl) | exact rd_o (by assumption) (by rfl) (by first | exact nmn | assumption | simp) | exact rd_h (by assumption) (by rfl) (by first | exact nmn | assumption | simp) | exact rd_1o (by assumption) (by first | exact nmn | assumption | simp) | exact rd_1h (by assumption) (by first | rfl | assumption) (by first | exact nmn | assumption | simp)) hS ?_) | (refine own_box rfl _ _ rfl (by rfl) hS ?_; clear hS; (try clear ww); intro bb ww hS) | (refine w_al rfl rfl hS ?_; clear hS; (try clear ww); intro bb ww hS) | (refine w_st rfl _ _ rfl (by rfl) (by rfl) (by repeat constructor) (by rfl) (by rfl) (by first | rfl | assumption) hS ?_; clear hS; (try clear ww); intro ww hS) | (refine w_s1 rfl _ _ rfl (by rfl) (by repeat constructor) (by first | exact .c | exact .t rfl) (by rfl) (by repeat constructor) hS ?_; clear hS; (try clear ww); intro ww hS))
  go_at_call 28
  refine Calls.mono (HI.out _ _ hS.below (hS.get at0).range) ?_
  rintro e w1 ⟨v, rfl, hv, hb1⟩
  obtain rfl : v = _ := hv
  have hS1 := hS.step hb1
  clear hS hb1
  (try clear ww)
  have hS := hS1
  clear hS1
  go_wp2_with (first | (refine own_unguard (by rfl) ?_) | (refine w_ld rfl _ rfl (by rfl) (by first | exact rd_1 (by repeat constructor) (by first | rfl | assumption) | exact rd_w (by repeat constructor) (by rfl) | exact rd_o (by assumption) (by rfl) (by first | exact nmn | assumption | simp) | exact rd_h (by assumption) (by rfl) (by first | exact nmn | assumption | simp) | exact rd_1o (by assumption) (by first | exact nmn | assumption | simp) | exact rd_1h (by assumption) (by first | rfl | assumption) (by first | exact nmn | assumption | simp)) hS ?_) | (refine own_box rfl _ _ rfl (by rfl) hS ?_; clear hS; (try clear ww); intro bb ww hS) | (refine w_al rfl rfl hS ?_; clear hS; (try clear ww); intro bb ww hS) | (refine w_st rfl _ _ rfl (by rfl) (by rfl) (by repeat constructor) (by rfl) (by rfl) (by first | rfl | assumption) hS ?_; clear hS; (try clear ww); intro ww hS) | (refine w_s1 rfl _ _ rfl (by rfl) (by repeat constructor) (by first | exact .c | exact .t rfl) (by rfl) (by repeat constructor) hS ?_; clear hS; (try clear ww); intro ww hS))
  go_ret
  exact own_gives hS

set_option maxHeartbeats 8000000 in
set_option maxRecDepth 100000 in
theorem italic_yes (F : Fnt) (n : Nat) (b : Bx n) (cs : List Value) (w : World) (hF : FntOk w F) (hr : Rep w n b cs) (hv : ValidF F) (hb : validB n b) (m : Nat) (g : Bx (m + 1)) (hi : innerS n b = some ⟨m, g⟩) : Calls Try.prog 19 #[F.val, .agg cs.toArray] w (Gives (.int .i64 (max 0 (scaledG (pickG F.gs g.1.name) g.1.size).it)) w) := by
  have HV := Lib.hid (fun w' (h : Below w.heap.size w w') => font_Valid_calls F w' (hF.below h) true (iff_t hv))
  have HB := Lib.hid (fun w' (h : Below w.heap.size w w') => box_Valid_calls n b cs w' (hr.step h) hr.wide _ (iff_t hb))
  have HI := Lib.hid (fun w' k (h : Below w.heap.size w w') (hk : w'.rangeAt k 0 cs) => innermost_calls (fun k => k < w.heap.size) n b cs k 0 w' hk (RepG.step h n b cs (rep_old n b cs hr)))
  rw [hi] at HI
  have HP := Lib.hid (fun w' (h : Below w.heap.size w w') => font_pick34 F g.1.name w' (hF.below h) (by have := hv.1; omega))
  have HSc := Lib.hid (fun w' => font_Scaled_calls (pickG F.gs g.1.name) g.1.size w')
  obtain ⟨⟨gk, gn, gz, gw, gh, gd, gx2, gy2, go2, gs2⟩, gks⟩ := g
  simp only at HP HSc ⊢
  unfold gePair at HSc
  generalize pickG F.gs gn = G at *
  generalize scaledG G gz = G2 at *
  generalize scaledErr G gz = er at *
  have hmx : ∀ (w : World) (ts : Array TypeId) (t : TypeId), (Builtin.max_ ts t #[.int .i64 0, .int .i64 G2.it]).run Try.prog w = .ok (.int .i64 (max 0 G2.it)) w := fun w ts t => by
    rw [run_max_int2]
    congr 2
    split <;> omega
  obtain ⟨c0, c1, c2, c3, c4, c5, c6, c7, c8, c9, c10, rfl⟩ := eleven hr.len
  clear hF hr hv hb hi
  go_enter Try.func19, Try.ntmps19
  have hS := own_start w
  go_wp2_with (first | (refine own_unguard (by rfl) ?_) | (go_at_call 38; refine own_calls hS (HV.out _ hS.below) ?_; clear hS; (try clear ww); intro ww hS) | (go_at_call 39; refine own_calls hS (HB.out _ hS.below) ?_; clear hS; (try clear ww); intro ww hS) | (refine w_ld rfl _ rfl (by rfl) (by first | exact rd_1 (by repeat constructor) (by first | rfl | assumption) | exact rd_w (by repeat constructor) (by rfl) | exact rd_o (by assumption) (by rfl) (by first | exact nmn | assumption | simp) | exact rd_h (by assumption) (by rfl) (by first | exact nmn | assumption | simp) | exact rd_1o (by assumption) (by first | exact nmn | assumption | simp) | exact rd_1h (by assumption) (by first | rfl | assumption) (by first | exact nmn | assumption | simp)) hS ?_) | (refine own_box rfl _ _ rfl (by rfl) hS ?_; clear hS; (try clear ww); intro bb ww hS) | (refine w_al rfl rfl hS ?_; clear hS; (try clear ww); intro bb ww hS) | (refine w_st rfl _ _ rfl (by rfl) (by rfl) (by repeat constructor) (by rfl) (by rfl) (by first | rfl | assumption) hS ?_; clear hS; (try clear ww); intro ww hS) | (refine w_s1 rfl _ _ rfl (by rfl) (by repeat constructor) (by first | exact .c | exact .t rfl) (by rfl) (by repeat constructor) hS ?_; clear hS; (try clear ww); intro ww hS))
  go_at_call 28
  refine Calls.mono (HI.out _ _ hS.below (hS.get at0).range) ?_
  rintro e w1 ⟨v, rfl, ⟨k, o, gcs, rfl, hkP, hk, hg⟩, hb1⟩
  obtain ⟨_, _, _, _, rfl, _⟩ := repIn_out hg
  have hk1 := rangeAt_below hk hb1
  have HS1 := Lib.hid (hS.step hb1)
  have n1 : w1.cell? ⟨k, o + 1, none⟩ = some (.string gn) := hk1 1 _ rfl
  have n2 : w1.cell? ⟨k, o + 2, none⟩ = some (.int .i64 gz) := hk1 2 _ rfl
  have f0 := ((hS.step hb1).get at1).range
  have hB := (hS.step hb1).below
  clear hg hk hb1 hS hk1 HS1
  (try clear ww)
  have hS := own_start w1
  go_upto_region 6 with (first | (refine own_unguard (by rfl) ?_) | (refine w_ld rfl _ rfl (by rfl) (by first | exact rd_1 (by repeat constructor) (by first | rfl | assumption) | exact rd_w (by repeat constructor) (by rfl) | exact rd_o (by assumption) (by rfl) (by first | exact nmn | assumption | simp) | exact rd_h (by assumption) (by rfl) (by first | exact nmn | assumption | simp) | exact rd_1o (by assumption) (by first | exact nmn | assumption | simp) | exact rd_1h (by assumption) (by first | rfl | assumption) (by first | exact nmn | assumption | simp)) hS ?_) | (refine own_box rfl _ _ rfl (by rfl) hS ?_; clear hS; (try clear ww); intro bb ww hS) | (refine w_al rfl rfl hS ?_; clear hS; (try clear ww); intro bb ww hS) | (refine w_st rfl _ _ rfl (by rfl) (by rfl) (by repeat constructor) (by rfl) (by rfl) (by first | rfl | assumption) hS ?_; clear hS; (try clear ww); intro ww hS) | (refine w_s1 rfl _ _ rfl (by rfl) (by repeat constructor) (by first | exact .c | exact .t rfl) (by rfl) (by repeat constructor) hS ?_; clear hS; (try clear ww); intro ww hS))
  (try simp only [Act.put]); (try simp only [List.setIfInBounds_toArray]); (try simp only [List.set_cons_succ]); (try simp only [List.set_cons_zero])
  refine own_any hS [15] 17 (by kernel_rfl) (by kernel_rfl) ?_
  clear hS
  intro hcl ww hS
  refine own_batch hS [0, 1, 2, 3, 4, 5, 6, 7, 8, 9, 10, 11, 12] 4 rfl hcl (by kernel_rfl) ?_
  (try simp only); repeat (first | (simp only [List.filterMap_cons]) | (simp only [List.filterMap_nil]) | (simp only [List.getElem?_toArray]) | (simp only [List.getElem?_cons_succ]) | (simp only [List.getElem?_cons_zero]) | (simp only [List.reverse_cons]) | (simp only [List.reverse_nil]) | (simp only [List.nil_append]) | (simp only [List.cons_append]))
  repeat (first
      | (first | (refine g_plain rfl ?_) | (refine g_yes rfl rfl rfl (by simp only [List.getElem?_toArray, List.getElem?_cons_succ, List.getElem?_cons_zero]; rfl) (by with_reducible constructor) ?_)
         apply Exists.intro; refine ⟨?_, ?_⟩
         focus (intro wq hq0; (first | have hq : Own _ _ _ wq := hq0 | have hq : Own _ _ _ wq := hq0.1 | skip); first | ((with_reducible show givesAt _ ({ dst := _, op := Op.load _ _, type := _, pos := _, after := _, guard := _ } : Oper) _ _ _); first | (exact givesAt_rd rfl (by rfl) (by first | exact rd_1 (by repeat constructor) (by first | rfl | assumption) | exact rd_w (by repeat constructor) (by rfl) | exact rd_o (by assumption) (by rfl) (by first | exact nmn | assumption | simp) | exact rd_h (by assumption) (by rfl) (by first | exact nmn | assumption | simp) | exact rd_1o (by assumption) (by first | exact nmn | assumption | simp) | exact rd_1h (by assumption) (by first | rfl | assumption) (by first | exact nmn | assumption | simp)) hq)) | (go_simp; first | (go_at_call 41; exact HP.out _ (bthen hB hq.below)) | (go_at_call 40; exact HSc.out _) | (with_reducible rfl)))
         simp only [Act.put, List.setIfInBounds_toArray]; (try simp only [List.set_cons_succ]); (try simp only [List.set_cons_zero]))
      | (refine g_no rfl rfl rfl (by simp only [List.getElem?_toArray, List.getElem?_cons_succ, List.getElem?_cons_zero]; rfl) (by with_reducible constructor) ?_; simp only [Act.put, List.setIfInBounds_toArray]; (try simp only [List.set_cons_succ]); (try simp only [List.set_cons_zero])))
  refine g_nil ?_
  clear hS hcl
  intro hcl ww hS
  (try simp only [Act.put]); (try simp only [List.setIfInBounds_toArray]); (try simp only [List.set_cons_succ]); (try simp only [List.set_cons_zero])
  refine own_pure hS [13] 3 rfl hcl (by kernel_rfl) ?_
  (try simp only); repeat (first | (simp only [List.filterMap_cons]) | (simp only [List.filterMap_nil]) | (simp only [List.getElem?_toArray]) | (simp only [List.getElem?_cons_succ]) | (simp only [List.getElem?_cons_zero]) | (simp only [List.reverse_cons]) | (simp only [List.reverse_nil]) | (simp only [List.nil_append]) | (simp only [List.cons_append]))
  repeat (first
      | (first | (refine g_plain rfl ?_) | (refine g_yes rfl rfl rfl (by simp only [List.getElem?_toArray, List.getElem?_cons_succ, List.getElem?_cons_zero]; rfl) (by with_reducible constructor) ?_)
         apply Exists.intro; refine ⟨?_, ?_⟩
         focus (intro wq hq0; (first | have hq : Own _ _ _ wq := hq0 | have hq : Own _ _ _ wq := hq0.1 | skip); first | ((with_reducible show givesAt _ ({ dst := _, op := Op.load _ _, type := _, pos := _, after := _, guard := _ } : Oper) _ _ _); first | (exact givesAt_rd rfl (by rfl) (by first | exact rd_1 (by repeat constructor) (by first | rfl | assumption) | exact rd_w (by repeat constructor) (by rfl) | exact rd_o (by assumption) (by rfl) (by first | exact nmn | assumption | simp) | exact rd_h (by assumption) (by rfl) (by first | exact nmn | assumption | simp) | exact rd_1o (by assumption) (by first | exact nmn | assumption | simp) | exact rd_1h (by assumption) (by first | rfl | assumption) (by first | exact nmn | assumption | simp)) hq)) | (go_simp; first | (with_reducible rfl)))
         simp only [Act.put, List.setIfInBounds_toArray]; (try simp only [List.set_cons_succ]); (try simp only [List.set_cons_zero]))
      | (refine g_no rfl rfl rfl (by simp only [List.getElem?_toArray, List.getElem?_cons_succ, List.getElem?_cons_zero]; rfl) (by with_reducible constructor) ?_; simp only [Act.put, List.setIfInBounds_toArray]; (try simp only [List.set_cons_succ]); (try simp only [List.set_cons_zero])))
  refine g_nil ?_
  clear hS hcl
  intro hcl ww hS
  (try simp only [Act.put]); (try simp only [List.setIfInBounds_toArray]); (try simp only [List.set_cons_succ]); (try simp only [List.set_cons_zero])
  refine own_frees hS [(14, 6, [.string ⟨#[]⟩, .int .i64 0, .int .i64 0, .int .i64 0, .int .i64 0, .int .i64 0])] 2 rfl (.cons (by simp only [List.getElem?_toArray, List.getElem?_cons_succ, List.getElem?_cons_zero]; rfl) rfl rfl rfl zt_glyph .nil) hcl (by kernel_rfl) ?_
  clear hS hcl
  intro f wf hcl hS
  simp only [putF, ownF, List.map_cons, List.map_nil, List.foldr_cons, List.foldr_nil, List.cons_append, List.nil_append] at hS hcl ⊢
  generalize f 14 = b6 at *
  (try simp only [Act.put]); (try simp only [List.setIfInBounds_toArray]); (try simp only [List.set_cons_succ]); (try simp only [List.set_cons_zero])
  refine own_hard (D := []) (W := w1) 15 hcl (by simp only [List.getElem?_toArray, List.getElem?_cons_succ, List.getElem?_cons_zero]; rfl) (by kernel_rfl) (by kernel_rfl) ?_
  (refine w_st rfl _ _ rfl (by rfl) (by rfl) (by repeat constructor) (by rfl) (by rfl) (by first | rfl | assumption) hS ?_; clear hS; intro ww hS)
  refine wpList_nil ⟨rfl, _, hS, ?_⟩
  clear hS hcl
  intro hcl wg hS
  (try simp only [Act.put]); (try simp only [List.setIfInBounds_toArray]); (try simp only [List.set_cons_succ]); (try simp only [List.set_cons_zero])
  refine own_batch hS [16] 0 rfl hcl (by kernel_rfl) ?_
  (try simp only); repeat (first | (simp only [List.filterMap_cons]) | (simp only [List.filterMap_nil]) | (simp only [List.getElem?_toArray]) | (simp only [List.getElem?_cons_succ]) | (simp only [List.getElem?_cons_zero]) | (simp only [List.reverse_cons]) | (simp only [List.reverse_nil]) | (simp only [List.nil_append]) | (simp only [List.cons_append]))
  repeat (first
      | (first | (refine g_plain rfl ?_) | (refine g_yes rfl rfl rfl (by simp only [List.getElem?_toArray, List.getElem?_cons_succ, List.getElem?_cons_zero]; rfl) (by with_reducible constructor) ?_)
         apply Exists.intro; refine ⟨?_, ?_⟩
         focus (intro wq hq0; (first | have hq : Own _ _ _ wq := hq0 | have hq : Own _ _ _ wq := hq0.1 | skip); first | ((with_reducible show givesAt _ ({ dst := _, op := Op.load _ _, type := _, pos := _, after := _, guard := _ } : Oper) _ _ _); first | (exact givesAt_rd rfl (by rfl) (by first | exact rd_1 (by repeat constructor) (by first | rfl | assumption) | exact rd_w (by repeat constructor) (by rfl) | exact rd_o (by assumption) (by rfl) (by first | exact nmn | assumption | simp) | exact rd_h (by assumption) (by rfl) (by first | exact nmn | assumption | simp) | exact rd_1o (by assumption) (by first | exact nmn | assumption | simp) | exact rd_1h (by assumption) (by first | rfl | assumption) (by first | exact nmn | assumption | simp)) hq)) | (go_simp; first | (with_reducible rfl)))
         simp only [Act.put, List.setIfInBounds_toArray]; (try simp only [List.set_cons_succ]); (try simp only [List.set_cons_zero]))
      | (refine g_no rfl rfl rfl (by simp only [List.getElem?_toArray, List.getElem?_cons_succ, List.getElem?_cons_zero]; rfl) (by with_reducible constructor) ?_; simp only [Act.put, List.setIfInBounds_toArray]; (try simp only [List.set_cons_succ]); (try simp only [List.set_cons_zero])))
  refine g_nil ?_
  clear hS hcl
  intro hcl ww hS
  refine own_done (by kernel_rfl) ?_
  go_wp2_with (first | (refine own_unguard (by rfl) ?_) | (refine w_ld rfl _ rfl (by rfl) (by first | exact rd_1 (by repeat constructor) (by first | rfl | assumption) | exact rd_w (by repeat constructor) (by rfl) | exact rd_o (by assumption) (by rfl) (by first | exact nmn | assumption | simp) | exact rd_h (by assumption) (by rfl) (by first | exact nmn | assumption | simp) | exact rd_1o (by assumption) (by first | exact nmn | assumption | simp) | exact rd_1h (by assumption) (by first | rfl | assumption) (by first | exact nmn | assumption | simp)) hS ?_) | (refine own_box rfl _ _ rfl (by rfl) hS ?_; clear hS; (try clear ww); intro bb ww hS) | (refine w_al rfl rfl hS ?_; clear hS; (try clear ww); intro bb ww hS) | (refine w_st rfl _ _ rfl (by rfl) (by rfl) (by repeat constructor) (by rfl) (by rfl) (by first | rfl | assumption) hS ?_; clear hS; (try clear ww); intro ww hS) | (refine w_s1 rfl _ _ rfl (by rfl) (by repeat constructor) (by first | exact .c | exact .t rfl) (by rfl) (by repeat constructor) hS ?_; clear hS; (try clear ww); intro ww hS))
  go_ret
  exact ⟨rfl, bthen hB hS.below⟩

theorem script_Italic_calls (F : Fnt) (n : Nat) (b : Bx n) (cs : List Value) (w : World) (hF : FntOk w F) (hr : Rep w n b cs) : Calls Try.prog 19 #[F.val, .agg cs.toArray] w (Gives (.int .i64 (open Classical in if ValidF F ∧ validB n b then italB F n b else 0)) w) := by
  split
  · rename_i h
    unfold italB
    cases hi : innerS n b with
    | none => exact italic_no3 F n b cs w hF hr h.1 h.2 hi
    | some g => exact italic_yes F n b cs w hF hr h.1 h.2 g.1 g.2 hi
  · rename_i h
    by_cases hv : ValidF F
    · exact italic_no2 F n b cs w hF hr hv (fun hb => h ⟨hv, hb⟩)
    · exact italic_no1 F n b cs w hF hr hv

end Go.Proofs.Ytgpabckipmhobaa
namespace Go.Proofs.Ytgpabckipmhobaa
open Go.RowKit

attribute [local irreducible] wpQuiet wpG wpP wpK wpList Code.wp Calls

/-- The cells of a box that stands alone, and those of its first kid. -/
theorem rep_kid {w : World} {n : Nat} {a : Hd} {kid : Bx n} {cs : List Value} (h : Rep w (n + 1) (a, [kid]) cs) : ∃ k o kc sx sc css, cs = a.cells (.slice (some ⟨k, o, none⟩) 1 kc) (.slice sx a.src.length sc) ∧ w.rangeAt k o css ∧ Rep w n kid css := by
  obtain ⟨kx, kc, sx, sc, rfl, _, _, _, hk⟩ := rep_out h
  obtain ⟨k, o, css, rfl, hr, hp⟩ := hk 0 kid rfl
  rw [Nat.zero_mul, Nat.add_zero] at hr
  exact ⟨k, o, kc, sx, sc, css, rfl, hr, hp⟩
/-- What Simple returns of cells: the glyph's cells and true, or none. -/
def SimpleV (w : World) (r : Option (Σ m, Bx (m + 1))) (v : Value) : Prop :=
  match r with
  | none => v = .tuple #[.agg #[.int .i64 0, .string ⟨#[]⟩, .int .i64 0, .int .i64 0, .int .i64 0, .int .i64 0, .int .i64 0, .int .i64 0, .slice none 0 0, .int .i64 0, .slice none 0 0], .bool false]
  | some g => ∃ cs, v = .tuple #[.agg cs.toArray, .bool true] ∧ Rep w (g.1 + 1) g.2 cs

set_option maxHeartbeats 8000000 in
set_option maxRecDepth 100000 in
theorem ref34_Simple_step (n : Nat) (ih : ∀ (b : Bx n) (cs : List Value) (w : World), Rep w n b cs → ∃ v, SimpleV w (innerS n b) v ∧ ∀ w', Below w.heap.size w w' → Calls Try.prog 15 #[.agg cs.toArray] w' (Gives v w'))
    (b : Bx (n + 1)) (cs : List Value) (w : World) (hr : Rep w (n + 1) b cs) : ∃ v, SimpleV w (innerS (n + 1) b) v ∧ ∀ w', Below w.heap.size w w' → Calls Try.prog 15 #[.agg cs.toArray] w' (Gives v w') := by
  obtain ⟨⟨kind, name, size, bw, bh, bd, bx, by_, of, src⟩, kids⟩ := b
  by_cases h1 : kind = 1
  · subst h1
    rw [inner_glyph rfl]
    obtain ⟨kx, kc, sx, sc, e, _⟩ := rep_out hr
    refine ⟨_, ⟨cs, rfl, hr⟩, fun w' hb => ?_⟩
    subst e
    clear hr ih hb
    go_enter Try.func15, Try.ntmps15
    have hS := own_start w'
    go_wp2_with (first | (refine own_unguard (by rfl) ?_) | (refine w_ld rfl _ rfl (by rfl) (by first | exact rd_1 (by repeat constructor) (by first | rfl | assumption) | exact rd_w (by repeat constructor) (by rfl) | exact rd_o (by assumption) (by rfl) (by first | exact nmn | assumption | simp) | exact rd_h (by assumption) (by rfl) (by first | exact nmn | assumption | simp) | exact rd_1o (by assumption) (by first | exact nmn | assumption | simp) | exact rd_1h (by assumption) (by first | rfl | assumption) (by first | exact nmn | assumption | simp)) hS ?_) | (refine own_box rfl _ _ rfl (by rfl) hS ?_; clear hS; (try clear ww); intro bb ww hS) | (refine w_al rfl rfl hS ?_; clear hS; (try clear ww); intro bb ww hS) | (refine w_st rfl _ _ rfl (by rfl) (by rfl) (by repeat constructor) (by rfl) (by rfl) (by first | rfl | assumption) hS ?_; clear hS; (try clear ww); intro ww hS) | (refine w_s1 rfl _ _ rfl (by rfl) (by repeat constructor) (by first | exact .c | exact .t rfl) (by rfl) (by repeat constructor) hS ?_; clear hS; (try clear ww); intro ww hS))
    have hc := (hS.get at0).cell
    refine bodyPost_ret (v := .tuple #[.agg #[.int .i64 1, .string name, .int .i64 size, .int .i64 bw, .int .i64 bh, .int .i64 bd, .int .i64 bx, .int .i64 by_, .slice kx kids.length kc, .int .i64 of, .slice sx src.length sc], .bool true]) (by simp [results, Try.results15, go_sem, hc]) rfl ⟨rfl, hS.below⟩
  · have d1 : decide (kind = 1) = false := decide_eq_false h1
    by_cases h3 : kind = 3
    · subst h3
      by_cases hl : kids.length = 1
      · obtain ⟨kid, rfl⟩ := List.length_eq_one_iff.1 hl
        obtain ⟨k, o, kc, sx, sc, css, rfl, hk, hp⟩ := rep_kid hr
        cases n with
        | zero => exact kid.elim
        | succ n =>
          obtain ⟨v, hv, hc⟩ := ih kid css w hp
          obtain ⟨⟨kind2, name2, size2, bw2, bh2, bd2, x2, y2, of2, src2⟩, kids2⟩ := kid
          obtain ⟨_, _, _, _, rfl, _⟩ := rep_out hp
          rename_i kx2 kc2 sx2 sc2
          by_cases hx : x2 = 0
          · subst hx
            by_cases hy : y2 = 0
            · subst hy
              rw [inner_down rfl (by simp [atO])]
              refine ⟨v, hv, fun w' hb => ?_⟩
              have hk := rangeAt_below hk hb
              have e6 : w'.cell? ⟨k, o + 6, none⟩ = some (.int .i64 0) := hk 6 _ rfl
              have e7 : w'.cell? ⟨k, o + 7, none⟩ = some (.int .i64 0) := hk 7 _ rfl
              have HC := Lib.hid (fun w2 (h2 : Below w'.heap.size w' w2) => hc w2 (bthen hb h2))
              cases hq : innerS (n + 1) (⟨kind2, name2, size2, bw2, bh2, bd2, 0, 0, of2, src2⟩, kids2) with
              | none =>
                rw [hq] at hv
                obtain rfl : v = _ := hv
                clear ih hr hp hb hc hq h1 hl
                go_enter Try.func15, Try.ntmps15
                have hS := own_start w'
                go_wp2_with (first | (refine own_unguard (by rfl) ?_) | (go_at_call 15; refine own_calls hS (HC.out _ hS.below) ?_; clear hS; (try clear ww); intro ww hS) | (refine w_ld rfl _ rfl (by rfl) (by first | exact rd_1 (by repeat constructor) (by first | rfl | assumption) | exact rd_w (by repeat constructor) (by rfl) | exact rd_o (by assumption) (by rfl) (by first | exact nmn | assumption | simp) | exact rd_h (by assumption) (by rfl) (by first | exact nmn | assumption | simp) | exact rd_1o (by assumption) (by first | exact nmn | assumption | simp) | exact rd_1h (by assumption) (by first | rfl | assumption) (by first | exact nmn | assumption | simp)) hS ?_) | (refine own_box rfl _ _ rfl (by rfl) hS ?_; clear hS; (try clear ww); intro bb ww hS) | (refine w_al rfl rfl hS ?_; clear hS; (try clear ww); intro bb ww hS) | (refine w_st rfl _ _ rfl (by rfl) (by rfl) (by repeat constructor) (by rfl) (by rfl) (by first | rfl | assumption) hS ?_; clear hS; (try clear ww); intro ww hS) | (refine w_s1 rfl _ _ rfl (by rfl) (by repeat constructor) (by first | exact .c | exact .t rfl) (by rfl) (by repeat constructor) hS ?_; clear hS; (try clear ww); intro ww hS))
                have hc := (hS.get at0).cell
                refine bodyPost_ret (v := .tuple #[.agg #[.int .i64 0, .string ⟨#[]⟩, .int .i64 0, .int .i64 0, .int .i64 0, .int .i64 0, .int .i64 0, .int .i64 0, .slice none 0 0, .int .i64 0, .slice none 0 0], .bool false]) (by simp [results, Try.results15, go_sem, hc]) rfl ⟨rfl, hS.below⟩
              | some g =>
                rw [hq] at hv
                obtain ⟨cg, rfl, hg⟩ := hv
                have hall := rep_all hg
                obtain ⟨e0, e1, e2, e3, e4, e5, e8, e9, f0, f1, f2, rfl⟩ := eleven hg.len
                clear ih hr hp hb hc hq h1 hl hg
                go_enter Try.func15, Try.ntmps15
                have hS := own_start w'
                go_wp2_with (first | (refine own_unguard (by rfl) ?_) | (go_at_call 15; refine own_calls hS (HC.out _ hS.below) ?_; clear hS; (try clear ww); intro ww hS) | (refine w_ld rfl _ rfl (by rfl) (by first | exact rd_1 (by repeat constructor) (by first | rfl | assumption) | exact rd_w (by repeat constructor) (by rfl) | exact rd_o (by assumption) (by rfl) (by first | exact nmn | assumption | simp) | exact rd_h (by assumption) (by rfl) (by first | exact nmn | assumption | simp) | exact rd_1o (by assumption) (by first | exact nmn | assumption | simp) | exact rd_1h (by assumption) (by first | rfl | assumption) (by first | exact nmn | assumption | simp)) hS ?_) | (refine own_box rfl _ _ rfl (by rfl) hS ?_; clear hS; (try clear ww); intro bb ww hS) | (refine w_al rfl rfl hS ?_; clear hS; (try clear ww); intro bb ww hS) | (refine w_st rfl _ _ rfl (by rfl) (by rfl) (by repeat constructor) (by rfl) (by rfl) (by first | rfl | assumption) hS ?_; clear hS; (try clear ww); intro ww hS) | (refine w_s1 rfl _ _ rfl (by rfl) (by repeat constructor) (by first | exact .c | exact .t rfl) (by rfl) (by repeat constructor) hS ?_; clear hS; (try clear ww); intro ww hS))
                have hc := (hS.get at0).cell
                refine bodyPost_ret (v := .tuple #[.agg #[e0, e1, e2, e3, e4, e5, e8, e9, f0, f1, f2], .bool true]) (by simp [results, Try.results15, go_sem, hc]) rfl ⟨rfl, hS.below⟩
            · rw [inner_off (show (3 : Int) ≠ 1 by decide) (by simp [atO, hy])]
              refine ⟨_, rfl, fun w' hb => ?_⟩
              have dy : decide (y2 = 0) = false := decide_eq_false hy
              have hk := rangeAt_below hk hb
              have e6 : w'.cell? ⟨k, o + 6, none⟩ = some (.int .i64 0) := hk 6 _ rfl
              have e7 : w'.cell? ⟨k, o + 7, none⟩ = some (.int .i64 y2) := hk 7 _ rfl
              clear ih hr hp hc hb hk
              go_enter Try.func15, Try.ntmps15
              have hS := own_start w'
              go_wp2_with (first | (refine own_unguard (by rfl) ?_) | (refine w_ld rfl _ rfl (by rfl) (by first | exact rd_1 (by repeat constructor) (by first | rfl | assumption) | exact rd_w (by repeat constructor) (by rfl) | exact rd_o (by assumption) (by rfl) (by first | exact nmn | assumption | simp) | exact rd_h (by assumption) (by rfl) (by first | exact nmn | assumption | simp) | exact rd_1o (by assumption) (by first | exact nmn | assumption | simp) | exact rd_1h (by assumption) (by first | rfl | assumption) (by first | exact nmn | assumption | simp)) hS ?_) | (refine own_box rfl _ _ rfl (by rfl) hS ?_; clear hS; (try clear ww); intro bb ww hS) | (refine w_al rfl rfl hS ?_; clear hS; (try clear ww); intro bb ww hS) | (refine w_st rfl _ _ rfl (by rfl) (by rfl) (by repeat constructor) (by rfl) (by rfl) (by first | rfl | assumption) hS ?_; clear hS; (try clear ww); intro ww hS) | (refine w_s1 rfl _ _ rfl (by rfl) (by repeat constructor) (by first | exact .c | exact .t rfl) (by rfl) (by repeat constructor) hS ?_; clear hS; (try clear ww); intro ww hS))
              have hc := (hS.get at0).cell
              refine bodyPost_ret (v := .tuple #[.agg #[.int .i64 0, .string ⟨#[]⟩, .int .i64 0, .int .i64 0, .int .i64 0, .int .i64 0, .int .i64 0, .int .i64 0, .slice none 0 0, .int .i64 0, .slice none 0 0], .bool false]) (by simp [results, Try.results15, go_sem, hc]) rfl ⟨rfl, hS.below⟩
          · rw [inner_off (show (3 : Int) ≠ 1 by decide) (by simp [atO, hx])]
            refine ⟨_, rfl, fun w' hb => ?_⟩
            have dx : decide (x2 = 0) = false := decide_eq_false hx
            have hk := rangeAt_below hk hb
            have e6 : w'.cell? ⟨k, o + 6, none⟩ = some (.int .i64 x2) := hk 6 _ rfl
            clear ih hr hp hc hb hk
            go_enter Try.func15, Try.ntmps15
            have hS := own_start w'
            go_wp2_with (first | (refine own_unguard (by rfl) ?_) | (refine w_ld rfl _ rfl (by rfl) (by first | exact rd_1 (by repeat constructor) (by first | rfl | assumption) | exact rd_w (by repeat constructor) (by rfl) | exact rd_o (by assumption) (by rfl) (by first | exact nmn | assumption | simp) | exact rd_h (by assumption) (by rfl) (by first | exact nmn | assumption | simp) | exact rd_1o (by assumption) (by first | exact nmn | assumption | simp) | exact rd_1h (by assumption) (by first | rfl | assumption) (by first | exact nmn | assumption | simp)) hS ?_) | (refine own_box rfl _ _ rfl (by rfl) hS ?_; clear hS; (try clear ww); intro bb ww hS) | (refine w_al rfl rfl hS ?_; clear hS; (try clear ww); intro bb ww hS) | (refine w_st rfl _ _ rfl (by rfl) (by rfl) (by repeat constructor) (by rfl) (by rfl) (by first | rfl | assumption) hS ?_; clear hS; (try clear ww); intro ww hS) | (refine w_s1 rfl _ _ rfl (by rfl) (by repeat constructor) (by first | exact .c | exact .t rfl) (by rfl) (by repeat constructor) hS ?_; clear hS; (try clear ww); intro ww hS))
            have hc := (hS.get at0).cell
            refine bodyPost_ret (v := .tuple #[.agg #[.int .i64 0, .string ⟨#[]⟩, .int .i64 0, .int .i64 0, .int .i64 0, .int .i64 0, .int .i64 0, .int .i64 0, .slice none 0 0, .int .i64 0, .slice none 0 0], .bool false]) (by simp [results, Try.results15, go_sem, hc]) rfl ⟨rfl, hS.below⟩
      · rw [inner_len (show (3 : Int) ≠ 1 by decide) hl]
        obtain ⟨kx, kc, sx, sc, rfl, _⟩ := rep_out hr
        refine ⟨_, rfl, fun w' hb => ?_⟩
        have dl : decide ((kids.length : Int) = 1) = false := decide_eq_false (by omega)
        clear ih hr hb
        go_enter Try.func15, Try.ntmps15
        have hS := own_start w'
        go_wp2_with (first | (refine own_unguard (by rfl) ?_) | (refine w_ld rfl _ rfl (by rfl) (by first | exact rd_1 (by repeat constructor) (by first | rfl | assumption) | exact rd_w (by repeat constructor) (by rfl) | exact rd_o (by assumption) (by rfl) (by first | exact nmn | assumption | simp) | exact rd_h (by assumption) (by rfl) (by first | exact nmn | assumption | simp) | exact rd_1o (by assumption) (by first | exact nmn | assumption | simp) | exact rd_1h (by assumption) (by first | rfl | assumption) (by first | exact nmn | assumption | simp)) hS ?_) | (refine own_box rfl _ _ rfl (by rfl) hS ?_; clear hS; (try clear ww); intro bb ww hS) | (refine w_al rfl rfl hS ?_; clear hS; (try clear ww); intro bb ww hS) | (refine w_st rfl _ _ rfl (by rfl) (by rfl) (by repeat constructor) (by rfl) (by rfl) (by first | rfl | assumption) hS ?_; clear hS; (try clear ww); intro ww hS) | (refine w_s1 rfl _ _ rfl (by rfl) (by repeat constructor) (by first | exact .c | exact .t rfl) (by rfl) (by repeat constructor) hS ?_; clear hS; (try clear ww); intro ww hS))
        have hc := (hS.get at0).cell
        refine bodyPost_ret (v := .tuple #[.agg #[.int .i64 0, .string ⟨#[]⟩, .int .i64 0, .int .i64 0, .int .i64 0, .int .i64 0, .int .i64 0, .int .i64 0, .slice none 0 0, .int .i64 0, .slice none 0 0], .bool false]) (by simp [results, Try.results15, go_sem, hc]) rfl ⟨rfl, hS.below⟩
    · rw [inner_kind h1 h3]
      obtain ⟨kx, kc, sx, sc, rfl, _⟩ := rep_out hr
      refine ⟨_, rfl, fun w' hb => ?_⟩
      have d3 : decide (kind = 3) = false := decide_eq_false h3
      clear ih hr hb
      go_enter Try.func15, Try.ntmps15
      have hS := own_start w'
      go_wp2_with (first | (refine own_unguard (by rfl) ?_) | (refine w_ld rfl _ rfl (by rfl) (by first | exact rd_1 (by repeat constructor) (by first | rfl | assumption) | exact rd_w (by repeat constructor) (by rfl) | exact rd_o (by assumption) (by rfl) (by first | exact nmn | assumption | simp) | exact rd_h (by assumption) (by rfl) (by first | exact nmn | assumption | simp) | exact rd_1o (by assumption) (by first | exact nmn | assumption | simp) | exact rd_1h (by assumption) (by first | rfl | assumption) (by first | exact nmn | assumption | simp)) hS ?_) | (refine own_box rfl _ _ rfl (by rfl) hS ?_; clear hS; (try clear ww); intro bb ww hS) | (refine w_al rfl rfl hS ?_; clear hS; (try clear ww); intro bb ww hS) | (refine w_st rfl _ _ rfl (by rfl) (by rfl) (by repeat constructor) (by rfl) (by rfl) (by first | rfl | assumption) hS ?_; clear hS; (try clear ww); intro ww hS) | (refine w_s1 rfl _ _ rfl (by rfl) (by repeat constructor) (by first | exact .c | exact .t rfl) (by rfl) (by repeat constructor) hS ?_; clear hS; (try clear ww); intro ww hS))
      have hc := (hS.get at0).cell
      refine bodyPost_ret (v := .tuple #[.agg #[.int .i64 0, .string ⟨#[]⟩, .int .i64 0, .int .i64 0, .int .i64 0, .int .i64 0, .int .i64 0, .int .i64 0, .slice none 0 0, .int .i64 0, .slice none 0 0], .bool false]) (by simp [results, Try.results15, go_sem, hc]) rfl ⟨rfl, hS.below⟩

theorem ref34_Simple_calls : ∀ (n : Nat) (b : Bx n) (cs : List Value) (w : World), Rep w n b cs → ∃ v, SimpleV w (innerS n b) v ∧ ∀ w', Below w.heap.size w w' → Calls Try.prog 15 #[.agg cs.toArray] w' (Gives v w')
  | 0, _, _, _, h => h.elim
  | n + 1, b, cs, w, h => ref34_Simple_step n (ref34_Simple_calls n) b cs w h

end Go.Proofs.Ytgpabckipmhobaa
namespace Go.Proofs.Ytgpabckipmhobaa
open Go.RowKit

attribute [local irreducible] wpQuiet wpG wpP wpK wpList Code.wp Calls

theorem inner_own : ∀ (n : Nat) (b : Bx n) (m : Nat) (g : Bx (m + 1)), innerS n b = some ⟨m, g⟩ → allOwn n b = true → g.1.kind = 1 ∧ allOwn (m + 1) g = true := by
  intro n
  induction n with
  | zero => intro b; exact b.elim
  | succ n ih =>
    rintro ⟨a, ks⟩ m g h ho
    by_cases h1 : a.kind = 1
    · rw [inner_glyph h1] at h
      cases h
      exact ⟨h1, ho⟩
    · by_cases h3 : a.kind = 3
      · by_cases hl : ks.length = 1
        · obtain ⟨k, rfl⟩ := List.length_eq_one_iff.1 hl
          cases ha : atO n k
          · rw [inner_off h1 ha] at h; cases h
          · rw [inner_down h3 ha] at h
            simp only [allOwn, Bool.and_eq_true, List.all_cons, List.all_nil] at ho
            exact ih k m g h ho.2.1
        · rw [inner_len h1 hl] at h; cases h
      · rw [inner_kind h1 h3] at h; cases h
/-- The glyph of a valid box has a size. -/
theorem inner_size {n : Nat} {b : Bx n} {m : Nat} {g : Bx (m + 1)} (h : innerS n b = some ⟨m, g⟩) (hv : validB n b) : 1 ≤ g.1.size ∧ g.1.size ≤ 1000 := by
  obtain ⟨hk, ho⟩ := inner_own n b m g h hv.1
  simp only [allOwn, ownOk, Bool.and_eq_true] at ho
  have h1 := ho.1.1.2
  rw [kind_1 hk] at h1
  simp only [Bool.and_eq_true, decide_eq_true_eq] at h1
  exact h1.1.2
theorem pick_metrics {F : Fnt} (hv : ValidF F) (s : ByteArray) : metricsOk (pickG F.gs s) = true := by
  have key : ∀ t g, findG F.gs t = some g → metricsOk g = true := fun t g h => by
    obtain ⟨k, hk⟩ := List.mem_iff_getElem?.1 (List.mem_of_find?_eq_some h)
    have := (hv.2.2.2.1 k g hk).1
    simp [gIn] at this
    exact this.1.2
  unfold pickG
  split
  · exact key _ _ (by assumption)
  · split
    · exact key _ _ (by assumption)
    · rfl
/-- The italic correction of a valid box in a valid font, without the errors. -/
theorem ital_scl {F : Fnt} {n : Nat} {b : Bx n} {m : Nat} {g : Bx (m + 1)} (hf : ValidF F) (h : innerS n b = some ⟨m, g⟩) (hv : validB n b) : italB F n b = max 0 (scl (pickG F.gs g.1.name).it g.1.size) := by
  have hs := inner_size h hv
  unfold italB scaledG scaledErr
  rw [h]
  simp only
  rw [if_pos hs, if_pos (pick_metrics hf _)]
  rfl
theorem ref05_pick34 (F : Fnt) (s : ByteArray) (w : World) (h : FntOk w F) (hn : F.gs.length ≤ 500) : Calls Try.prog 37 #[F.val, .string s] w (Gives (.agg #[.string (pickG F.gs s).name, .int .i64 (pickG F.gs s).w, .int .i64 (pickG F.gs s).h, .int .i64 (pickG F.gs s).d, .int .i64 (pickG F.gs s).it, .int .i64 (pickG F.gs s).at_]) w) :=
  ref05_Pick_calls F.gx F.sx F.gs.length F.gc F.ss.length F.sc F.quad F.xheight F.axis F.rule F.num1 F.num2 F.den1 F.den2 F.sup1 F.sup2 F.sup3 F.sub1 F.sub2 F.supdrop F.subdrop F.script F.sscript F.dpercent F.dshort F.acc F.gs s w (by omega) h.glysAt

set_option maxHeartbeats 8000000 in
set_option maxRecDepth 100000 in
theorem ref34_Italic_none (F : Fnt) (n : Nat) (b : Bx n) (cs : List Value) (w : World) (hr : Rep w n b cs) (hi : innerS n b = none) : Calls Try.prog 18 #[F.val, .agg cs.toArray] w (Gives (.int .i64 0) w) := by
  obtain ⟨v, hv, hc⟩ := ref34_Simple_calls n b cs w hr
  rw [hi] at hv
  obtain rfl : v = _ := hv
  have HC := Lib.hid hc
  obtain ⟨c0, c1, c2, c3, c4, c5, c6, c7, c8, c9, c10, rfl⟩ := eleven hr.len
  clear hr hi hc
  go_enter Try.func18, Try.ntmps18
  have hS := own_start w
  go_wp2_with (first | (refine own_unguard (by rfl) ?_) | (go_at_call 15; refine own_calls hS (HC.out _ hS.below) ?_; clear hS; (try clear ww); intro ww hS) | (refine w_ld rfl _ rfl (by rfl) (by first | exact rd_1 (by repeat constructor) (by first | rfl | assumption) | exact rd_w (by repeat constructor) (by rfl) | exact rd_o (by assumption) (by rfl) (by first | exact nmn | assumption | simp) | exact rd_h (by assumption) (by rfl) (by first | exact nmn | assumption | simp) | exact rd_1o (by assumption) (by first | exact nmn | assumption | simp) | exact rd_1h (by assumption) (by first | rfl | assumption) (by first | exact nmn | assumption | simp)) hS ?_) | (refine own_box rfl _ _ rfl (by rfl) hS ?_; clear hS; (try clear ww); intro bb ww hS) | (refine w_al rfl rfl hS ?_; clear hS; (try clear ww); intro bb ww hS) | (refine w_st rfl _ _ rfl (by rfl) (by rfl) (by repeat constructor) (by rfl) (by rfl) (by first | rfl | assumption) hS ?_; clear hS; (try clear ww); intro ww hS) | (refine w_s1 rfl _ _ rfl (by rfl) (by repeat constructor) (by first | exact .c | exact .t rfl) (by rfl) (by repeat constructor) hS ?_; clear hS; (try clear ww); intro ww hS))
  go_ret
  exact own_gives hS

set_option maxHeartbeats 8000000 in
set_option maxRecDepth 100000 in
theorem ref34_Italic_some (F : Fnt) (n : Nat) (b : Bx n) (cs : List Value) (w : World) (hF : FntOk w F) (hr : Rep w n b cs) (hf : ValidF F) (hb : validB n b) (m : Nat) (g : Bx (m + 1)) (hi : innerS n b = some ⟨m, g⟩) : Calls Try.prog 18 #[F.val, .agg cs.toArray] w (Gives (.int .i64 (italB F n b)) w) := by
  rw [ital_scl hf hi hb]
  obtain ⟨v, hv, hc⟩ := ref34_Simple_calls n b cs w hr
  rw [hi] at hv
  obtain ⟨gcs, rfl, hg⟩ := hv
  have hs := inner_size hi hb
  have hm := metricsOk_bd (pick_metrics hf g.1.name)
  have HP := Lib.hid (fun w' (h : Below w.heap.size w w') => ref05_pick34 F g.1.name w' (hF.below h) (by have := hf.1; omega))
  have HSc := Lib.hid (fun w' => ref05_Scale_gives (pickG F.gs g.1.name).it g.1.size w' hm.2.2.2.1 hs)
  obtain ⟨⟨gk, gn, gz, gw, gh, gd, gx2, gy2, go2, gs2⟩, gks⟩ := g
  obtain ⟨_, _, _, _, rfl, _⟩ := rep_out hg
  simp only at HP HSc ⊢
  generalize pickG F.gs gn = G at *
  generalize scl G.it gz = I at *
  have hmx : ∀ (w : World) (ts : Array TypeId) (t : TypeId), (Builtin.max_ ts t #[.int .i64 0, .int .i64 I]).run Try.prog w = .ok (.int .i64 (max 0 I)) w := fun w ts t => by
    rw [run_max_int2]
    congr 2
    split <;> omega
  have hfl : ∀ (w : World), (Instr.field 55 (.agg #[.string G.name, .int .i64 G.w, .int .i64 G.h, .int .i64 G.d, .int .i64 G.it, .int .i64 G.at_]) 4).run Try.prog w = .ok (.int .i64 G.it) w := fun w => by
    simp [Instr.field, asAgg, run_underlying Try.underlying55, go_sem]
  have HC := Lib.hid hc
  obtain ⟨c0, c1, c2, c3, c4, c5, c6, c7, c8, c9, c10, rfl⟩ := eleven hr.len
  clear hF hr hi hc hf hb hg hs hm
  go_enter Try.func18, Try.ntmps18
  have hS := own_start w
  go_upto_region 4 with (first | (refine own_unguard (by rfl) ?_) | (go_at_call 15; refine own_calls hS (HC.out _ hS.below) ?_; clear hS; (try clear ww); intro ww hS) | (refine w_ld rfl _ rfl (by rfl) (by first | exact rd_1 (by repeat constructor) (by first | rfl | assumption) | exact rd_w (by repeat constructor) (by rfl) | exact rd_o (by assumption) (by rfl) (by first | exact nmn | assumption | simp) | exact rd_h (by assumption) (by rfl) (by first | exact nmn | assumption | simp) | exact rd_1o (by assumption) (by first | exact nmn | assumption | simp) | exact rd_1h (by assumption) (by first | rfl | assumption) (by first | exact nmn | assumption | simp)) hS ?_) | (refine own_box rfl _ _ rfl (by rfl) hS ?_; clear hS; (try clear ww); intro bb ww hS) | (refine w_al rfl rfl hS ?_; clear hS; (try clear ww); intro bb ww hS) | (refine w_st rfl _ _ rfl (by rfl) (by rfl) (by repeat constructor) (by rfl) (by rfl) (by first | rfl | assumption) hS ?_; clear hS; (try clear ww); intro ww hS) | (refine w_s1 rfl _ _ rfl (by rfl) (by repeat constructor) (by first | exact .c | exact .t rfl) (by rfl) (by repeat constructor) hS ?_; clear hS; (try clear ww); intro ww hS))
  (try simp only [Act.put]); (try simp only [List.setIfInBounds_toArray]); (try simp only [List.set_cons_succ]); (try simp only [List.set_cons_zero])
  refine own_region hS (by kernel_rfl) (by kernel_rfl) ?_
  (try simp only); (try simp only [List.drop_succ_cons]); (try simp only [List.drop_zero]); (try simp only [List.take_succ_cons]); (try simp only [List.take_zero])
  repeat (first
      | (first | (refine quiet_plain rfl ?_) | (refine quiet_yes rfl rfl rfl (by simp only [List.getElem?_toArray, List.getElem?_cons_succ, List.getElem?_cons_zero]; rfl) (by with_reducible constructor) ?_)
         apply Exists.intro; refine ⟨?_, ?_⟩
         focus (intro wq hq0; have hq : Own _ _ _ wq := hq0; first | (exact quietAt_rd rfl (by rfl) (by first | exact rd_1 (by repeat constructor) (by first | rfl | assumption) | exact rd_w (by repeat constructor) (by rfl) | exact rd_o (by assumption) (by rfl) (by first | exact nmn | assumption | simp) | exact rd_h (by assumption) (by rfl) (by first | exact nmn | assumption | simp) | exact rd_1o (by assumption) (by first | exact nmn | assumption | simp) | exact rd_1h (by assumption) (by first | rfl | assumption) (by first | exact nmn | assumption | simp)) hq) | (go_simp; first | (go_at_call 37; exact quietG hq (HP.out _ hq.below)) | (go_at_call 36; exact quietG hq (HSc.out _)) | (with_reducible rfl)))
         simp only [Act.put, List.setIfInBounds_toArray, List.set_cons_zero, List.set_cons_succ])
      | (refine quiet_no rfl rfl rfl (by simp only [List.getElem?_toArray, List.getElem?_cons_succ, List.getElem?_cons_zero]; rfl) (by with_reducible constructor) ?_; simp only [Act.put, List.setIfInBounds_toArray, List.set_cons_zero, List.set_cons_succ]))
  refine wpQuiet_nil ?_
  clear hS
  intro ww hS
  go_wp2_with (first | (refine own_unguard (by rfl) ?_) | (refine w_ld rfl _ rfl (by rfl) (by first | exact rd_1 (by repeat constructor) (by first | rfl | assumption) | exact rd_w (by repeat constructor) (by rfl) | exact rd_o (by assumption) (by rfl) (by first | exact nmn | assumption | simp) | exact rd_h (by assumption) (by rfl) (by first | exact nmn | assumption | simp) | exact rd_1o (by assumption) (by first | exact nmn | assumption | simp) | exact rd_1h (by assumption) (by first | rfl | assumption) (by first | exact nmn | assumption | simp)) hS ?_) | (refine own_box rfl _ _ rfl (by rfl) hS ?_; clear hS; (try clear ww); intro bb ww hS) | (refine w_al rfl rfl hS ?_; clear hS; (try clear ww); intro bb ww hS) | (refine w_st rfl _ _ rfl (by rfl) (by rfl) (by repeat constructor) (by rfl) (by rfl) (by first | rfl | assumption) hS ?_; clear hS; (try clear ww); intro ww hS) | (refine w_s1 rfl _ _ rfl (by rfl) (by repeat constructor) (by first | exact .c | exact .t rfl) (by rfl) (by repeat constructor) hS ?_; clear hS; (try clear ww); intro ww hS))
  go_ret
  exact own_gives hS

end Go.Proofs.Ytgpabckipmhobaa
namespace Go.Proofs.Ytgpabckipmhobaa
open Go.RowKit

attribute [local irreducible] wpQuiet wpG wpP wpK wpList Code.wp Calls

set_option maxHeartbeats 8000000 in
set_option maxRecDepth 100000 in
theorem script_valid_0 (x : Option Addr) (c : Nat) (w : World) : Calls Try.prog 45 #[.slice x 0 c] w (Gives (.bool true) w) := by
  go_enter Try.func45, Try.ntmps45
  have hS := own_start w
  go_wp2_with (first | (refine own_unguard (by rfl) ?_) | (refine w_ld rfl _ rfl (by rfl) (by first | exact rd_1 (by repeat constructor) (by first | rfl | assumption) | exact rd_w (by repeat constructor) (by rfl) | exact rd_o (by assumption) (by rfl) (by first | exact nmn | assumption | simp) | exact rd_h (by assumption) (by rfl) (by first | exact nmn | assumption | simp) | exact rd_1o (by assumption) (by first | exact nmn | assumption | simp) | exact rd_1h (by assumption) (by first | rfl | assumption) (by first | exact nmn | assumption | simp)) hS ?_) | (refine own_box rfl _ _ rfl (by rfl) hS ?_; clear hS; (try clear ww); intro bb ww hS) | (refine w_st rfl _ _ rfl (by rfl) (by rfl) (by repeat constructor) (by rfl) (by rfl) (by first | rfl | assumption) hS ?_; clear hS; (try clear ww); intro ww hS) | (refine w_s1 rfl _ _ rfl (by rfl) (by repeat constructor) (by first | exact .c | exact .t rfl) (by rfl) (by repeat constructor) hS ?_; clear hS; (try clear ww); intro ww hS))
  go_ret
  exact own_gives hS

set_option maxHeartbeats 8000000 in
set_option maxRecDepth 100000 in
theorem script_valid_1 (n : Nat) (b : Bx n) (cs : List Value) (k o c : Nat) (w : World) (hk : w.rangeAt k o cs) (hr : Rep w n b cs) (v : Bool) (hv : v = true ↔ validB n b) : Calls Try.prog 45 #[.slice (some ⟨k, o, none⟩) 1 c] w (Gives (.bool v) w) := by
  have HV := Lib.hid (box_Valid_calls n b cs w hr hr.wide v hv)
  obtain ⟨c0, c1, c2, c3, c4, c5, c6, c7, c8, c9, c10, rfl⟩ := eleven hr.len
  clear hr hv
  go_enter Try.func45, Try.ntmps45
  have hS := own_start w
  go_wp2_with (first | (refine own_unguard (by rfl) ?_) | (go_at_call 39; refine own_calls hS HV.out ?_; clear hS; (try clear ww); intro ww hS) | (refine w_ld rfl _ rfl (by rfl) (by first | exact rd_1 (by repeat constructor) (by first | rfl | assumption) | exact rd_w (by repeat constructor) (by rfl) | exact rd_o (by assumption) (by rfl) (by first | exact nmn | assumption | simp) | exact rd_h (by assumption) (by rfl) (by first | exact nmn | assumption | simp) | exact rd_1o (by assumption) (by first | exact nmn | assumption | simp) | exact rd_1h (by assumption) (by first | rfl | assumption) (by first | exact nmn | assumption | simp)) hS ?_) | (refine own_box rfl _ _ rfl (by rfl) hS ?_; clear hS; (try clear ww); intro bb ww hS) | (refine w_st rfl _ _ rfl (by rfl) (by rfl) (by repeat constructor) (by rfl) (by rfl) (by first | rfl | assumption) hS ?_; clear hS; (try clear ww); intro ww hS) | (refine w_s1 rfl _ _ rfl (by rfl) (by repeat constructor) (by first | exact .c | exact .t rfl) (by rfl) (by repeat constructor) hS ?_; clear hS; (try clear ww); intro ww hS))
  go_ret
  exact own_gives hS

end Go.Proofs.Ytgpabckipmhobaa
namespace Go.Proofs.Ytgpabckipmhobaa
open Go.RowKit

attribute [local irreducible] wpQuiet wpG wpP wpK wpList Code.wp Calls

instance rt_arr24 : RowTy Try.prog 113 8 := ⟨⟨_, Try.underlying113, rfl⟩, by kernel_rfl⟩
instance zt_arr24 : ZeroTy Try.prog 113 [.int .i64 0, .int .i64 0, .int .i64 0, .int .i64 0, .int .i64 0, .int .i64 0, .int .i64 0, .int .i64 0] := ⟨.agg #[.int .i64 0, .int .i64 0, .int .i64 0, .int .i64 0, .int .i64 0, .int .i64 0, .int .i64 0, .int .i64 0], by kernel_rfl, rfl⟩
/-- The least shift of a superscript: the parameter. -/
def raiseP (F : Fnt) (l : Int) (c : Bool) : Int := if c = true then F.sup3 else if l = 0 then F.sup1 else F.sup2

set_option maxHeartbeats 8000000 in
set_option maxRecDepth 100000 in
theorem raise_calls (F : Fnt) (l : Int) (c : Bool) (w : World) (hl : l = 0 ∨ l = 1 ∨ l = 2 ∨ l = 3) : Calls Try.prog 72 #[.agg F.prm.toArray, .agg #[.int .i64 l, .bool c]] w (Gives (.int .i64 (raiseP F l c)) w) := by
  rcases hl with rfl | rfl | rfl | rfl <;> cases c
  all_goals
    go_enter Try.func72, Try.ntmps72
    have hS := own_start w
    go_wp2_with (first | (refine own_unguard (by rfl) ?_) | (refine w_ld rfl _ rfl (by rfl) (by first | exact rd_1 (by repeat constructor) (by first | rfl | assumption) | exact rd_w (by repeat constructor) (by rfl) | exact rd_o (by assumption) (by rfl) (by first | exact nmn | assumption | simp) | exact rd_h (by assumption) (by rfl) (by first | exact nmn | assumption | simp) | exact rd_1o (by assumption) (by first | exact nmn | assumption | simp) | exact rd_1h (by assumption) (by first | rfl | assumption) (by first | exact nmn | assumption | simp)) hS ?_) | (refine own_box rfl _ _ rfl (by rfl) hS ?_; clear hS; (try clear ww); intro bb ww hS) | (refine w_al rfl rfl hS ?_; clear hS; (try clear ww); intro bb ww hS) | (refine w_st rfl _ _ rfl (by rfl) (by rfl) (by repeat constructor) (by rfl) (by rfl) (by first | rfl | assumption) hS ?_; clear hS; (try clear ww); intro ww hS) | (refine w_s1 rfl _ _ rfl (by rfl) (by repeat constructor) (by first | exact .c | exact .t rfl) (by rfl) (by repeat constructor) hS ?_; clear hS; (try clear ww); intro ww hS))
    go_ret
    exact own_gives hS

end Go.Proofs.Ytgpabckipmhobaa
namespace Go.Proofs.Ytgpabckipmhobaa
open Go.RowKit

set_option maxHeartbeats 400000 in
theorem shifts1_calls (n p : Int) (a : Addr) (w : World) (h : w.cell? a = some (.int .i64 p)) :
    Calls Try.prog 70 #[.int .i64 n, .pointer (some a)] w (Gives (.int .i64 (scl n p)) w) := by
  go_enter Try.func70, Try.ntmps70
  go_wp2_with fail
  refine (length_Scale_calls n p _).mono ?_
  rintro e w' ⟨rfl, m, rfl⟩
  go_wp2_with fail
  go_ret
  exact Draws.gives ⟨rfl, m, rfl⟩

end Go.Proofs.Ytgpabckipmhobaa
namespace Go.Proofs.Ytgpabckipmhobaa
open Go.RowKit

set_option maxHeartbeats 400000 in
theorem style_Valid_calls (a : Int) (c : Bool) (w : World) :
    Calls Try.prog 69 #[.agg #[.int .i64 a, .bool c]] w fun e w' => e = .returned (.bool (decide (0 ≤ a) && decide (a ≤ 3))) ∧ w.alloc (.cells #[.int .i64 a, .bool c] 29) = w' := by
  go_enter Try.func69, Try.ntmps69
  go_wp2
  all_goals go_ret
  all_goals (refine ⟨ret_bool ?_, rfl⟩; first | omega | (simp; omega))

set_option maxHeartbeats 400000 in
theorem style_script_calls (a : Int) (w : World) (h0 : 0 ≤ a) (h3 : a ≤ 3) :
    Calls Try.prog 83 #[.int .i64 a] w fun e w' => e = .returned (.int .i64 (2 + a / 2)) ∧ w = w' := by
  go_enter Try.func83, Try.ntmps83
  go_wp2
  go_ret
  exact ⟨rfl, rfl⟩

/-- The value that style.rules returns, where the heap had n blocks. -/
def rulesVal (n : Nat) : Value := .agg #[.slice none 0 0, .slice none 0 0, .slice none 0 0, .slice none 0 0, .slice none 0 0, .slice (some ⟨n + 1, 0, none⟩) 2 2, .slice (some ⟨n + 1 + 1, 0, none⟩) 2 2, .slice (some ⟨n + 1 + 1 + 1, 0, none⟩) 2 2, .slice (some ⟨n + 1 + 1 + 1 + 1, 0, none⟩) 2 2, .slice (some ⟨n + 1 + 1 + 1 + 1 + 1, 0, none⟩) 3 3, .slice (some ⟨n + 1 + 1 + 1 + 1 + 1 + 1, 0, none⟩) 1 1, .slice (some ⟨n + 1 + 1 + 1 + 1 + 1 + 1 + 1, 0, none⟩) 1 1, .slice (some ⟨n + 1 + 1 + 1 + 1 + 1 + 1 + 1 + 1, 0, none⟩) 1 1]
/-- The blocks that style.rules makes. -/
def rulesWorld (w : World) : World :=
  (((((((((w.alloc (.cells #[.slice none 0 0, .slice none 0 0, .slice none 0 0, .slice none 0 0, .slice none 0 0, .slice (some ⟨w.heap.size + 1, 0, none⟩) 2 2, .slice (some ⟨w.heap.size + 1 + 1, 0, none⟩) 2 2, .slice (some ⟨w.heap.size + 1 + 1 + 1, 0, none⟩) 2 2, .slice (some ⟨w.heap.size + 1 + 1 + 1 + 1, 0, none⟩) 2 2, .slice (some ⟨w.heap.size + 1 + 1 + 1 + 1 + 1, 0, none⟩) 3 3, .slice (some ⟨w.heap.size + 1 + 1 + 1 + 1 + 1 + 1, 0, none⟩) 1 1, .slice (some ⟨w.heap.size + 1 + 1 + 1 + 1 + 1 + 1 + 1, 0, none⟩) 1 1, .slice (some ⟨w.heap.size + 1 + 1 + 1 + 1 + 1 + 1 + 1 + 1, 0, none⟩) 1 1] 108)).alloc (.cells #[.func (.func 80) #[] #[], .bool false, .func (.func 80) #[] #[], .bool true] 111)).alloc (.cells #[.func (.func 81) #[] #[], .bool false, .func (.func 82) #[] #[], .bool true] 111)).alloc (.cells #[.func (.func 82) #[] #[], .bool false, .func (.func 83) #[] #[], .bool true] 111)).alloc (.cells #[.func (.func 82) #[] #[], .bool false, .func (.func 83) #[] #[], .bool false] 111)).alloc (.cells #[.func (.func 82) #[] #[], .bool false, .func (.func 83) #[] #[], .bool true, .func (.func 83) #[] #[], .bool false] 111)).alloc (.cells #[.func (.func 82) #[] #[], .bool true] 111)).alloc (.cells #[.func (.func 82) #[] #[], .bool false] 111)).alloc (.cells #[.func (.func 84) #[] #[], .bool false] 111))

set_option maxHeartbeats 1000000 in
theorem style_rules_calls (w : World) :
    Calls Try.prog 77 #[] w fun e w' => e = .returned (rulesVal w.heap.size) ∧ rulesWorld w = w' := by
  go_enter Try.func77, Try.ntmps77
  go_wp2
  refine bodyPost_ret (v := rulesVal w.heap.size) (by simp [results, Try.results77, rulesVal, go_sem]) rfl ⟨rfl, rfl⟩

theorem rulesWorld_below (w : World) : Below w.heap.size w (rulesWorld w) := by
  unfold rulesWorld
  exact (((((((((Below.refl _ _).alloc (by go_size) _).alloc (by go_size) _).alloc (by go_size) _).alloc (by go_size) _).alloc (by go_size) _).alloc (by go_size) _).alloc (by go_size) _).alloc (by go_size) _).alloc (by go_size) _

theorem rulesWorld_8 (w : World) : (rulesWorld w).cell? ⟨w.heap.size + 1 + 1 + 1 + 1, 0, none⟩ = some (.func (.func 82) #[] #[]) ∧ (rulesWorld w).cell? ⟨w.heap.size + 1 + 1 + 1 + 1, 1, none⟩ = some (.bool false) ∧ (rulesWorld w).cell? ⟨w.heap.size + 1 + 1 + 1 + 1, 2, none⟩ = some (.func (.func 83) #[] #[]) ∧ (rulesWorld w).cell? ⟨w.heap.size + 1 + 1 + 1 + 1, 3, none⟩ = some (.bool false) := by
  unfold rulesWorld
  refine ⟨?_, ?_, ?_, ?_⟩ <;> simp [go_sem]

theorem rules_index_8 (n : Nat) (w : World) : (Instr.index 108 (rulesVal n) (.int .i64 8)).run Try.prog w = .ok (.slice (some ⟨n + 1 + 1 + 1 + 1, 0, none⟩) 2 2) w := by kernel_rfl
end Go.Proofs.Ytgpabckipmhobaa
