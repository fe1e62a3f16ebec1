/- Texts Fgp, Fon, OpenG, OpF, OpB, Opc. -/
import Derived.Test.YtfmoghkffffmmaaK11
import Derived.Test.YtfmoghkffffmmaaK06
import Derived.Test.YtfmoghkffffmmaaK01
import Derived.Test.YtfmoghkffffmmaaK04
import Derived.Test.YtfmoghkffffmmaaK08
namespace Go.Proofs.Ytfmoghkffffmmaa
open Go.RowKit

attribute [local irreducible] wpQuiet wpG wpP wpK wpList Code.wp Calls

/-- The call gives a box and an error; its lists lie where P says, or in new blocks. -/
def GivesBEP (P : Nat → Prop) (n : Nat) (b : Bx n) (err : Int) (w : World) (e : Ending) (w' : World) : Prop := ∃ cs, e = .returned (.tuple #[.agg cs.toArray, .int .i64 err]) ∧ RepP (fun k => P k ∨ w.heap.size ≤ k) w' n b cs ∧ Below w.heap.size w w'
theorem repP_turn {P : Nat → Prop} {D : List Nat} {w w' : World} {n : Nat} {b : Bx n} {cs : List Value} {L : List (Nat × List Value)} (h : RepP P w n b cs) (hS : Own D w L w') (hD : ∀ k, P k → k ∉ D) : RepP P w' n b cs :=
  (rep_keep2 (Q := P) (fun k hk hlt => hS.block k hlt (hD k hk)) n b cs h).mono (fun _ _ hk => hk.1) (fun _ hk => hk.1)
set_option maxHeartbeats 16000000 in
set_option maxRecDepth 100000 in
theorem fracMake_okP (P : Nat → Prop) (F : Fnt) (l : Int) (c : Bool) (n : Nat) (num den : Bx (n + 1)) (cs ds : List Value) (w : World) (hF : FntOk w F) (hl : lvlOk l = true) (hv : ValidF F) (hP : ∀ k, P k → k < w.heap.size) (hrP : RepP P w (n + 1) num cs) (hsP : RepP P w (n + 1) den ds) (hn : validB (n + 1) num) (hd : validB (n + 1) den) (hvR : validB (n + 2) (fracB F l n num den)) :
    Calls Try.prog 11 #[F.val, .agg #[.int .i64 l, .bool c], .agg cs.toArray, .agg ds.toArray] w (GivesBEP P (n + 2) (fracB F l n num den) 0 w) := by
  have hr : Rep w (n + 1) num cs := hrP.rep
  have hs : Rep w (n + 1) den ds := hsP.rep
  have HPc := Lib.hid (fun w' (h : Below w.heap.size w w') => style_Percent_calls F l (sizeOf' F l) 0 c w' (hF.below h) ⟨fun _ => ⟨rfl, rfl⟩, fun h => by
    rcases h with h | h
    · rw [hl] at h; cases h
    · exact absurd hv h⟩)
  have HVn := Lib.hid (fun w' (h : Below w.heap.size w w') => box_Valid_calls (n + 1) num cs w' (hr.step h) hr.wide _ (iff_t hn))
  have HVd := Lib.hid (fun w' (h : Below w.heap.size w w') => box_Valid_calls (n + 1) den ds w' (hs.step h) hs.wide _ (iff_t hd))
  have HMe := Lib.hid (fun w' => measure_calls F l c w' hv)
  have hp := prm_len hv
  have br := par_in (l := l) hv hp.1.1 hp.1.2
  have br : 0 ≤ par F l F.rule ∧ par F l F.rule ≤ 20000 := by omega
  have bx := par_in (l := l) hv hp.2.1.1 hp.2.1.2
  have bh := hlf_in br.1 (by omega)
  have by_ : -20000 ≤ fracY F l ∧ fracY F l ≤ 20000 := by unfold fracY; omega
  have bg : 0 ≤ fracGap l (par F l F.rule) ∧ fracGap l (par F l F.rule) ≤ 60000 := by unfold fracGap; split <;> omega
  have bu : 0 ≤ fracUp F l ∧ fracUp F l ≤ 20000 := by
    unfold fracUp
    split
    · have := par_in (l := l) hv hp.2.2.1.1 hp.2.2.1.2; omega
    · have := par_in (l := l) hv hp.2.2.2.1.1 hp.2.2.2.1.2; omega
  have bd : 0 ≤ fracDown F l ∧ fracDown F l ≤ 20000 := by
    unfold fracDown
    split
    · have := par_in (l := l) hv hp.2.2.2.2.1.1 hp.2.2.2.2.1.2; omega
    · have := par_in (l := l) hv hp.2.2.2.2.2.1 hp.2.2.2.2.2.2; omega
  obtain ⟨⟨nk, nn, nsz, nw, nh, nd, nx, ny, nof, nsrc⟩, nkids⟩ := num
  obtain ⟨⟨dk, dn, dsz, dw, dh, dd, dx, dy, dof, dsrc⟩, dkids⟩ := den
  have ln := valid_lens hn
  have ld := valid_lens hd
  obtain ⟨kx, kc, sx, sc, rfl, _, _, _, _⟩ := rep_out hr
  obtain ⟨ex, ec, tx, tc, rfl, _, _, _, _⟩ := rep_out hs
  simp only at ln ld
  unfold fracB fracUpY fracDnY at hvR ⊢
  simp only at hvR ⊢
  generalize par F l F.rule = r at *
  generalize fracY F l = y at *
  generalize fracGap l r = g at *
  generalize fracUp F l = u0 at *
  generalize fracDown F l = d0 at *
  have hmx : ∀ (w : World) (ts : Array TypeId) (t : TypeId), (Builtin.max_ ts t #[.int .i64 0, .int .i64 nw, .int .i64 dw]).run Try.prog w = .ok (.int .i64 (fracW nw dw)) w := fun w ts t => by
    rw [run_max_int3]
    have e : (if dw > (if nw > 0 then nw else 0) then dw else (if nw > 0 then nw else 0)) = fracW nw dw := by
      unfold fracW
      repeat' split
      all_goals omega
    rw [e]
  have bW : 0 ≤ fracW nw dw ∧ fracW nw dw ≤ 1073741824 := by unfold fracW; omega
  generalize fracW nw dw = W at *
  clear bx bh hp hF
  go_enter Try.func11, Try.ntmps11
  have hS := own_start w
  go_wp2_with (first | (refine own_unguard (by rfl) ?_) | (refine own_store1 (v := .int .i64 W) rfl _ _ _ rfl rfl rfl rfl hS at0 ot_int (by simp) ?_; clear hS; intro ww hS; (try simp only [List.set_cons_zero] at hS)) | (go_at_call 21; refine own_calls hS (HPc.out _ hS.below) ?_; clear hS; (try clear ww); intro ww hS) | (go_at_call 17; refine own_calls hS (by first | exact HVn.out _ hS.below | exact HVd.out _ hS.below) ?_; clear hS; (try clear ww); intro ww hS) | (go_at_call 22; refine own_calls hS (HMe.out _) ?_; clear hS; (try clear ww); intro ww hS) | (refine w_ld rfl _ rfl (by rfl) (by first | exact rd_1 (by repeat constructor) (by first | rfl | assumption) | exact rd_w (by repeat constructor) (by rfl) | exact rd_o (by assumption) (by rfl) (by first | exact nmn | assumption | simp) | exact rd_h (by assumption) (by rfl) (by first | exact nmn | assumption | simp) | exact rd_1o (by assumption) (by first | exact nmn | assumption | simp) | exact rd_1h (by assumption) (by first | rfl | assumption) (by first | exact nmn | assumption | simp)) hS ?_) | (refine own_box rfl _ _ rfl (by rfl) hS ?_; clear hS; (try clear ww); intro bb ww hS) | (refine w_al rfl rfl hS ?_; clear hS; (try clear ww); intro bb ww hS) | (refine w_st rfl _ _ rfl (by rfl) (by rfl) (by repeat constructor) (by rfl) (by rfl) (by first | rfl | assumption) hS ?_; clear hS; (try clear ww); intro ww hS) | (refine w_s1 rfl _ _ rfl (by rfl) (by repeat constructor) (by first | exact .c | exact .t rfl) (by rfl) (by repeat constructor) hS ?_; clear hS; (try clear ww); intro ww hS))
  (try simp only [Act.put]); (try simp only [List.setIfInBounds_toArray]); (try simp only [List.set_cons_succ]); (try simp only [List.set_cons_zero])
  have bU : -4294967296 ≤ max u0 (y + r + g + nd) ∧ max u0 (y + r + g + nd) ≤ 4294967296 := by omega
  have bV : -4294967296 ≤ max d0 (dh + g - y) ∧ max d0 (dh + g - y) ≤ 4294967296 := by omega
  generalize max u0 (y + r + g + nd) = U at *
  generalize max d0 (dh + g - y) = V at *
  have iW : I64 W := by unfold I64; omega
  have ir : I64 r := by unfold I64; omega
  have iy : I64 y := by unfold I64; omega
  have iU : I64 U := by unfold I64; omega
  have iV : I64 (-V) := by unfold I64; omega
  have iH : I64 (max (U + nh) (y + r)) := by unfold I64; omega
  have iD : I64 (max (dd + V) (-y)) := by unfold I64; omega
  have sn := (validB_small hn)
  have sd := (validB_small hd)
  have hsm : ∀ k ∈ [atXY (n + 1) (⟨nk, nn, nsz, nw, nh, nd, nx, ny, nof, nsrc⟩, nkids) (hlf (W - nw)) U, atXY (n + 1) (ruleB n W r 0) 0 y, atXY (n + 1) (⟨dk, dn, dsz, dw, dh, dd, dx, dy, dof, dsrc⟩, dkids) (hlf (W - dw)) (-V)], Small (n + 1) k ∧ bCount (n + 1) k ≤ 1000000 := fun k hk => by
    simp only [List.mem_cons, List.not_mem_nil, or_false] at hk
    rcases hk with rfl | rfl | rfl
    · exact ⟨small_at sn.1, Nat.le_trans (Nat.le_of_eq count_at) (Nat.le_trans sn.2 (by omega))⟩
    · exact ⟨small_at ⟨Nat.zero_le _, Nat.zero_le _, fun k hk => by cases hk⟩, Nat.le_trans (Nat.le_of_eq count_at) (by simp [bCount, ruleB])⟩
    · exact ⟨small_at sd.1, Nat.le_trans (Nat.le_of_eq count_at) (Nat.le_trans sd.2 (by omega))⟩
  refine own_any hS [8] 9 (by kernel_rfl) (by kernel_rfl) ?_
  clear hS
  intro hcl ww hS
  refine own_batch hS [0, 1, 2, 4, 5] 4 rfl hcl (by kernel_rfl) ?_
  (try simp only); repeat (first | (simp only [List.filterMap_cons]) | (simp only [List.filterMap_nil]) | (simp only [List.getElem?_toArray]) | (simp only [List.getElem?_cons_succ]) | (simp only [List.getElem?_cons_zero]) | (simp only [List.reverse_cons]) | (simp only [List.reverse_nil]) | (simp only [List.nil_append]) | (simp only [List.cons_append]))
  repeat (first
      | (first | (refine g_plain rfl ?_) | (refine g_yes rfl rfl rfl (by simp only [List.getElem?_toArray, List.getElem?_cons_succ, List.getElem?_cons_zero]; rfl) (by with_reducible constructor) ?_)
         apply Exists.intro; refine ⟨?_, ?_⟩
         focus (intro wq hq0; (first | have hq : Own _ _ _ wq := hq0 | have hq : Own _ _ _ wq := hq0.1 | skip); first | ((with_reducible show givesAt _ ({ dst := _, op := Op.load _ _, type := _, pos := _, after := _, guard := _ } : Oper) _ _ _); first | (exact givesAt_rd rfl (by rfl) (by first | exact rd_1 (by repeat constructor) (by first | rfl | assumption) | exact rd_w (by repeat constructor) (by rfl) | exact rd_o (by assumption) (by rfl) (by first | exact nmn | assumption | simp) | exact rd_h (by assumption) (by rfl) (by first | exact nmn | assumption | simp) | exact rd_1o (by assumption) (by first | exact nmn | assumption | simp) | exact rd_1h (by assumption) (by first | rfl | assumption) (by first | exact nmn | assumption | simp)) hq)) | (go_simp; first | (with_reducible rfl)))
         simp only [Act.put, List.setIfInBounds_toArray]; (try simp only [List.set_cons_succ]); (try simp only [List.set_cons_zero]))
      | (refine g_no rfl rfl rfl (by simp only [List.getElem?_toArray, List.getElem?_cons_succ, List.getElem?_cons_zero]; rfl) (by with_reducible constructor) ?_; simp only [Act.put, List.setIfInBounds_toArray]; (try simp only [List.set_cons_succ]); (try simp only [List.set_cons_zero])))
  refine g_nil ?_
  clear hS hcl
  intro hcl ww hS
  refine own_late hS 7 [3, 6] 1 rfl (by simp only [List.getElem?_toArray, List.getElem?_cons_succ, List.getElem?_cons_zero]; rfl) rfl rfl zt_box hcl (by kernel_rfl) ?_
  clear hS hcl
  intro wa hS _
  refine chn_soft 3 (by simp only [List.getElem?_toArray, List.getElem?_cons_succ, List.getElem?_cons_zero]; rfl) ?_
  clear hS
  intro hS
  go_wp2_with (first | (go_at_call 26; refine Calls.mono (box_Rule_I P n W r 0 _ iW ir i64_0) ?_; rintro e w1 ⟨cs1, rfl, hr1, hb1⟩))
  refine ⟨[], hS.step hb1, ?_⟩
  clear hS
  intro wb hS hbb
  have q1 : RepP P wb (n + 1) (ruleB n W r 0) cs1 := rep_bare (hr1.rep.step hbb) rfl
  have z1 := q1.len
  obtain ⟨e0, e1, e2, e3, e4, e5, e6, e7, e8, e9, e10, rfl⟩ := eleven z1
  refine chn_soft 6 (by simp only [List.getElem?_toArray, List.getElem?_cons_succ, List.getElem?_cons_zero]; rfl) ?_
  clear hS
  intro hS
  go_wp2_with (first | (go_at_call 24; refine Calls.mono (box_At_I P n (ruleB n W r 0) _ 0 y _ q1 i64_0 iy (Nat.zero_le _)) ?_; rintro e w2 ⟨cs2, rfl, hr2, hb2⟩))
  refine ⟨[], hS.step hb2, ?_⟩
  clear hS
  intro wc hS _
  clear hS
  intro hcl b18 wd _ hS _
  have z2 := hr2.len
  have hall2 := rep_all hr2
  obtain ⟨f0, f1, f2, f3, f4, f5, f6, f7, f8, f9, f10, rfl⟩ := eleven z2
  have HQr := Lib.hid (fun w' => show RepP P w' (n + 1) (atXY (n + 1) (ruleB n W r 0) 0 y) [f0, f1, f2, f3, f4, f5, f6, f7, f8, f9, f10] from rep_bare_any hr2.rep rfl)
  clear hr1 hr2 q1 z1 z2 hb1 hb2 hbb
  (try simp only [List.nil_append] at hS)
  (try simp only); (try simp only [List.setIfInBounds_toArray]); (try simp only [List.set_cons_succ]); (try simp only [List.set_cons_zero])
  refine own_hard (D := []) (W := w) 8 hcl (by simp only [List.getElem?_toArray, List.getElem?_cons_succ, List.getElem?_cons_zero]; rfl) (by kernel_rfl) (by kernel_rfl) ?_
  refine own_store rfl _ _ _ rfl rfl rfl hS at0 rt_box (by rfl) hall2 ?_
  clear hS
  intro we hS
  (try simp only [List.set_cons_zero] at hS)
  refine wpList_nil ⟨rfl, _, hS, ?_⟩
  clear hS hcl
  intro hcl wf hS
  refine own_done (by kernel_rfl) ?_
  go_wp2_with (first | (refine own_unguard (by rfl) ?_) | (refine w_ld rfl _ rfl (by rfl) (by first | exact rd_1 (by repeat constructor) (by first | rfl | assumption) | exact rd_w (by repeat constructor) (by rfl) | exact rd_o (by assumption) (by rfl) (by first | exact nmn | assumption | simp) | exact rd_h (by assumption) (by rfl) (by first | exact nmn | assumption | simp) | exact rd_1o (by assumption) (by first | exact nmn | assumption | simp) | exact rd_1h (by assumption) (by first | rfl | assumption) (by first | exact nmn | assumption | simp)) hS ?_) | (refine own_box rfl _ _ rfl (by rfl) hS ?_; clear hS; (try clear ww); intro bb ww hS) | (refine w_al rfl rfl hS ?_; clear hS; (try clear ww); intro bb ww hS) | (refine w_st rfl _ _ rfl (by rfl) (by rfl) (by repeat constructor) (by rfl) (by rfl) (by first | rfl | assumption) hS ?_; clear hS; (try clear ww); intro ww hS) | (refine w_s1 rfl _ _ rfl (by rfl) (by repeat constructor) (by first | exact .c | exact .t rfl) (by rfl) (by repeat constructor) hS ?_; clear hS; (try clear ww); intro ww hS))
  (try simp only [Act.put]); (try simp only [List.setIfInBounds_toArray]); (try simp only [List.set_cons_succ]); (try simp only [List.set_cons_zero])
  refine own_any hS [28] 29 (by kernel_rfl) (by kernel_rfl) ?_
  clear hS
  intro hcl wg hS
  refine own_batch hS [0, 1, 2, 3, 4, 5, 6, 7, 8, 9, 10, 11, 12, 13, 14, 15, 16, 17, 19, 20, 21, 22, 23] 6 rfl hcl (by kernel_rfl) ?_
  (try simp only); repeat (first | (simp only [List.filterMap_cons]) | (simp only [List.filterMap_nil]) | (simp only [List.getElem?_toArray]) | (simp only [List.getElem?_cons_succ]) | (simp only [List.getElem?_cons_zero]) | (simp only [List.reverse_cons]) | (simp only [List.reverse_nil]) | (simp only [List.nil_append]) | (simp only [List.cons_append]))
  repeat (first
      | (first | (refine g_plain rfl ?_) | (refine g_yes rfl rfl rfl (by simp only [List.getElem?_toArray, List.getElem?_cons_succ, List.getElem?_cons_zero]; rfl) (by with_reducible constructor) ?_)
         apply Exists.intro; refine ⟨?_, ?_⟩
         focus (intro wq hq0; (first | have hq : Own _ _ _ wq := hq0 | have hq : Own _ _ _ wq := hq0.1 | skip); first | ((with_reducible show givesAt _ ({ dst := _, op := Op.load _ _, type := _, pos := _, after := _, guard := _ } : Oper) _ _ _); first | (exact givesAt_rd rfl (by rfl) (by first | exact rd_1 (by repeat constructor) (by first | rfl | assumption) | exact rd_w (by repeat constructor) (by rfl) | exact rd_o (by assumption) (by rfl) (by first | exact nmn | assumption | simp) | exact rd_h (by assumption) (by rfl) (by first | exact nmn | assumption | simp) | exact rd_1o (by assumption) (by first | exact nmn | assumption | simp) | exact rd_1h (by assumption) (by first | rfl | assumption) (by first | exact nmn | assumption | simp)) hq)) | (go_simp; first | (with_reducible rfl)))
         simp only [Act.put, List.setIfInBounds_toArray]; (try simp only [List.set_cons_succ]); (try simp only [List.set_cons_zero]))
      | (refine g_no rfl rfl rfl (by simp only [List.getElem?_toArray, List.getElem?_cons_succ, List.getElem?_cons_zero]; rfl) (by with_reducible constructor) ?_; simp only [Act.put, List.setIfInBounds_toArray]; (try simp only [List.set_cons_succ]); (try simp only [List.set_cons_zero])))
  refine g_nil ?_
  clear hS hcl
  intro hcl ww hS
  refine own_late hS 27 [18, 24, 25, 26] 1 rfl (by simp only [List.getElem?_toArray, List.getElem?_cons_succ, List.getElem?_cons_zero]; rfl) rfl rfl zt_box hcl (by kernel_rfl) ?_
  clear hS hcl
  intro wa hS _
  have HO := Lib.hid hS
  have qn := repP_step hrP hS.below
  have cW := (hS.get at1).cell 0
  refine chn_soft 18 (by simp only [List.getElem?_toArray, List.getElem?_cons_succ, List.getElem?_cons_zero]; rfl) ?_
  clear hS
  intro hS
  go_wp2_with (first | (go_at_call 23; refine Calls.mono (place_I P n _ _ U W _ _ qn iU sn.1.1 cW bW ln.1) ?_; rintro e w1 ⟨cs1, rfl, hr1, hb1⟩))
  refine ⟨[], hS.step hb1, ?_⟩
  clear hS qn cW
  intro wb hS hbb
  (try simp only [List.nil_append] at hS)
  have q1 := repP_step hr1 hbb
  have z1 := hr1.len
  obtain ⟨g0, g1, g2, g3, g4, g5, g6, g7, g8, g9, g10, rfl⟩ := eleven z1
  have qd := repP_step hsP hS.below
  have cW := (hS.get at1).cell 0
  have HOb := Lib.hid hS
  refine chn_soft 24 (by simp only [List.getElem?_toArray, List.getElem?_cons_succ, List.getElem?_cons_zero]; rfl) ?_
  clear hS
  intro hS
  go_wp2_with (first | (go_at_call 23; refine Calls.mono (place_I P n _ _ (-V) W _ _ qd iV sd.1.1 cW bW ld.1) ?_; rintro e w2 ⟨cs2, rfl, hr2, hb2⟩))
  refine ⟨[], hS.step hb2, ?_⟩
  clear hS qd cW hr1
  intro wc hS hbc
  (try simp only [List.nil_append] at hS)
  have q2 := repP_step hr2 hbc
  have z2 := hr2.len
  obtain ⟨k0, k1, k2, k3, k4, k5, k6, k7, k8, k9, k10, rfl⟩ := eleven z2
  refine chn_soft 25 (by simp only [List.getElem?_toArray, List.getElem?_cons_succ, List.getElem?_cons_zero]; rfl) ?_
  clear hS hr2
  intro hS
  refine own_buildSlice rfl _ _ 3 _ rfl [g0, g1, g2, g3, g4, g5, g6, g7, g8, g9, g10, f0, f1, f2, f3, f4, f5, f6, f7, f8, f9, f10, k0, k1, k2, k3, k4, k5, k6, k7, k8, k9, k10] hS Try.underlying30 (by kernel_rfl) ?_
  have hOc := hS
  clear hS
  intro bs w3 hS
  refine wpList_nil ⟨rfl, _, hS, ?_⟩
  have hb3 := hS.below
  clear hS
  intro wd hS hbd
  have q1d := repP_step (repP_step (repP_step (repP_step q1 hb2) hbc) hb3) hbd
  have q2d := repP_step (repP_step q2 hb3) hbd
  have hrow := three_boxes (P := fun k => P k ∨ (wa.heap.size ≤ k ∧ k < w1.heap.size) ∨ (wb.heap.size ≤ k ∧ k < w2.heap.size)) (e1 := [g0, g1, g2, g3, g4, g5, g6, g7, g8, g9, g10]) (e2 := [f0, f1, f2, f3, f4, f5, f6, f7, f8, f9, f10]) (e3 := [k0, k1, k2, k3, k4, k5, k6, k7, k8, k9, k10]) (hS.get at0)
    (repP_mono q1d (fun k hk => by rcases hk with h | h <;> simp [h])) (repP_mono (HQr.out wd) (fun k hk => by simp [hk])) (repP_mono q2d (fun k hk => by rcases hk with h | h <;> simp [h]))
  have hsz : wa.heap.size ≤ wb.heap.size ∧ wa.heap.size ≤ wc.heap.size ∧ wa.heap.size ≤ wd.heap.size := by
    have s1 := hb1.size
    have s2 := hbb.size
    have s3 := hb2.size
    have s4 := hbc.size
    have s5 := hb3.size
    have s6 := hbd.size
    omega
  refine chn_soft 26 (by simp only [List.getElem?_toArray, List.getElem?_cons_succ, List.getElem?_cons_zero]; rfl) ?_
  clear hS q1 q2 q1d q2d hOc
  have hLs := Lib.hid (box_List_I (fun k => P k ∨ (wa.heap.size ≤ k ∧ k < w1.heap.size) ∨ (wb.heap.size ≤ k ∧ k < w2.heap.size)) (n + 1) _ _ 3 W (max (U + nh) (y + r)) (max (dd + V) (-y)) _ hrow hsm (by simp) iW iH iD)
  intro hS
  go_wp2_with (first | (go_at_call 27; refine Calls.mono hLs.out ?_; rintro e w4 ⟨cs4, rfl, hr4, hb4⟩))
  refine ⟨[], hS.step hb4, ?_⟩
  clear hS hrow
  intro we hS hbe
  clear hS
  intro hcl b19 wf hoff hS hbf
  (try simp only [List.nil_append] at hS)
  have hF := hS.forget (List.Sublist.cons_cons _ (List.sublist_cons_self _ _))
  clear hS
  have hkey := frame_away (P := fun k => (P k ∨ (wa.heap.size ≤ k ∧ k < w1.heap.size) ∨ (wb.heap.size ≤ k ∧ k < w2.heap.size)) ∨ (wd.heap.size ≤ k ∧ k < w4.heap.size)) HO.out hF hoff (fun p hp => by
    simp only [List.mem_cons, List.not_mem_nil, or_false] at hp
    rcases hp with rfl | rfl | rfl | rfl
    · exact hsz.2.2
    · exact hsz.2.1
    · exact hsz.1
    · exact Nat.le_refl _) (fun k hk => by
      rcases hk with (h | h | h) | h
      · exact .inl (hP k h)
      · exact .inr ⟨(wa.heap.size, w1.heap.size), by simp, h⟩
      · exact .inr ⟨(wb.heap.size, w2.heap.size), by simp, h⟩
      · exact .inr ⟨(wd.heap.size, w4.heap.size), by simp, h⟩)
  have hr5p := repP_step (repP_step hr4 hbe) hbf
  have hr5 := repP_A hr5p hkey
  have hlow : w.heap.size ≤ wa.heap.size := HO.out.size
  have z4 := hr5.len
  have hall5 := rep_all hr5
  obtain ⟨m0, m1, m2, m3, m4, m5, m6, m7, m8, m9, m10, rfl⟩ := eleven z4
  clear hr4 z4 hb1 hbb hb2 hbc hb3 hbd hb4 hbe hbf hsm hLs
  obtain ⟨DD, hDD, hS⟩ := own_again hF
  have HF := Lib.hid hF
  rw [← hDD.out] at hr5
  rw [← hDD.out] at hkey
  have HR5p := Lib.hid hr5p
  have HKey := Lib.hid hkey
  have HSz := Lib.hid (show wa.heap.size ≤ wb.heap.size ∧ wa.heap.size ≤ wd.heap.size from ⟨hsz.1, hsz.2.2⟩)
  have HR5 := Lib.hid hr5
  clear hF hr5 hoff hr5p hkey hsz
  have HVR := Lib.hid (fun (ww : World) (L' : List (Nat × List Value)) (h : Own DD wf L' ww) => box_Valid_calls (n + 2) _ _ ww (repA_turn HR5.out h (fun _ h => h)).rep (repA_turn HR5.out h (fun _ h => h)).rep.wide _ (iff_t hvR))
  (try simp only); (try simp only [List.setIfInBounds_toArray]); (try simp only [List.set_cons_succ]); (try simp only [List.set_cons_zero])
  refine own_hard (D := DD) (W := wf) 28 hcl (by simp only [List.getElem?_toArray, List.getElem?_cons_succ, List.getElem?_cons_zero]; rfl) (by kernel_rfl) (by kernel_rfl) ?_
  refine own_store rfl _ _ _ rfl rfl rfl hS at0 rt_box (by rfl) hall5 ?_
  clear hS
  intro wh hS
  (try simp only [List.set_cons_zero] at hS)
  refine wpList_nil ⟨rfl, _, hS, ?_⟩
  clear hS hcl
  intro hcl wi hS
  refine own_done (by kernel_rfl) ?_
  clear hcl
  go_wp2_with (first | (refine own_unguard (by rfl) ?_) | (go_at_call 17; refine own_calls hS (HVR.out _ _ hS) ?_; clear hS; (try clear ww); intro ww hS) | (refine own_store rfl _ _ _ rfl rfl rfl hS at4 rt_box (by rfl) hall5 ?_; clear hS; intro ww hS) | (refine w_ld rfl _ rfl (by rfl) (by first | exact rd_1 (by repeat constructor) (by first | rfl | assumption) | exact rd_w (by repeat constructor) (by rfl) | exact rd_o (by assumption) (by rfl) (by first | exact nmn | assumption | simp) | exact rd_h (by assumption) (by rfl) (by first | exact nmn | assumption | simp) | exact rd_1o (by assumption) (by first | exact nmn | assumption | simp) | exact rd_1h (by assumption) (by first | rfl | assumption) (by first | exact nmn | assumption | simp)) hS ?_) | (refine own_box rfl _ _ rfl (by rfl) hS ?_; clear hS; (try clear ww); intro bb ww hS) | (refine w_al rfl rfl hS ?_; clear hS; (try clear ww); intro bb ww hS) | (refine w_st rfl _ _ rfl (by rfl) (by rfl) (by repeat constructor) (by rfl) (by rfl) (by first | rfl | assumption) hS ?_; clear hS; (try clear ww); intro ww hS) | (refine w_s1 rfl _ _ rfl (by rfl) (by repeat constructor) (by first | exact .c | exact .t rfl) (by rfl) (by repeat constructor) hS ?_; clear hS; (try clear ww); intro ww hS))
  (try simp only [List.set_cons_zero] at hS); (try simp only [List.set_cons_succ] at hS)
  obtain rfl := hDD.out
  have hq := repP_turn HR5p.out hS HKey.out
  have hc := (hS.get at4).cell
  refine bodyPost_ret (v := .tuple #[.agg #[m0, m1, m2, m3, m4, m5, m6, m7, m8, m9, m10], .int .i64 0]) (by simp [results, Try.results11, go_sem, hc]) rfl ⟨_, rfl, repP_mono hq (fun k hk => by
    rcases hk with (h | h | h) | h
    · exact .inl h
    · exact .inr (by have := hlow; omega)
    · exact .inr (by have := hlow; have := HSz.out; omega)
    · exact .inr (by have := hlow; have := HSz.out; omega)), (HF.out.chain hS).below⟩

end Go.Proofs.Ytfmoghkffffmmaa
namespace Go.Proofs.Ytfmoghkffffmmaa
open Go.RowKit

attribute [local irreducible] wpQuiet wpG wpP wpK wpList Code.wp Calls

/-- What is asked of a font, a style and two boxes. -/
def FracOk (F : Fnt) (l : Int) (n : Nat) (num den : Bx (n + 1)) : Prop := ValidF F ∧ lvlOk l = true ∧ validB (n + 1) num ∧ validB (n + 1) den
theorem fracMake_bad (F : Fnt) (l : Int) (c : Bool) (n m : Nat) (num den : Bx (n + 1)) (cs ds : List Value) (w : World) (hF : FntOk w F) (hr : Rep w (n + 1) num cs) (hs : Rep w (n + 1) den ds) (hb : ¬ FracOk F l n num den) :
    Calls Try.prog 11 #[F.val, .agg #[.int .i64 l, .bool c], .agg cs.toArray, .agg ds.toArray] w (GivesBE (m + 1) (zeroB m) 1 w) := by
  cases hl : lvlOk l
  · exact fracMake_bad1 F l c n m num den cs ds w hF ⟨fun h => absurd (hl.symm.trans h.1) (by simp), fun _ => ⟨rfl, rfl⟩⟩ hr hs
  · by_cases hv : ValidF F
    · have hx : PctOk F l (sizeOf' F l) 0 := ⟨fun _ => ⟨rfl, rfl⟩, fun h => by
        rcases h with h | h
        · rw [hl] at h; cases h
        · exact absurd hv h⟩
      by_cases hn : validB (n + 1) num
      · by_cases hd : validB (n + 1) den
        · exact absurd ⟨hv, hl, hn, hd⟩ hb
        · exact fracMake_bad3 F l c n m num den cs ds w hF _ hx hr hs hn hd
      · exact fracMake_bad2 F l c n m num den cs ds w hF _ hx hr hs hn
    · exact fracMake_bad1 F l c n m num den cs ds w hF ⟨fun h => absurd h.2 hv, fun _ => ⟨rfl, rfl⟩⟩ hr hs

end Go.Proofs.Ytfmoghkffffmmaa
namespace Go.Proofs.Ytfmoghkffffmmaa
open Go.RowKit Go.ChangeShapes Go.WideShapes Go.Deep

theorem Try.cellsInt : Try.prog.cellsOf 3 = 1 := by kernel_rfl
theorem Try.cellsString : Try.prog.cellsOf 9 = 1 := by kernel_rfl
theorem Try.cellsBool : Try.prog.cellsOf 4 = 1 := by kernel_rfl
theorem Try.cellsGlyph : Try.prog.cellsOf 85 = 6 := by kernel_rfl

section
variable {H : Type} {enc : TypeId × Value → H} {w : World}

theorem field_int {n o : Nat} {cs : List Value} {y : DataW H × List MemPlace} (h : DataW.trod enc Try.prog w 0 (fun _ => true) true n 3 ((cs.drop o).take (Try.prog.cellsOf 3)) = some y) : ∃ z, cs[o]? = some (.int .i64 z) ∧ I64 z := by
  rw [Try.cellsInt] at h
  obtain ⟨z, hz, _, wz⟩ := DataW.trod_int Try.underlying3 h
  exact ⟨z, take_one hz, i64_of wz⟩
theorem field_string {n o : Nat} {cs : List Value} {y : DataW H × List MemPlace} (h : DataW.trod enc Try.prog w 0 (fun _ => true) true n 9 ((cs.drop o).take (Try.prog.cellsOf 9)) = some y) : ∃ s, cs[o]? = some (.string s) ∧ s.size ≤ maxLen := by
  rw [Try.cellsString] at h
  obtain ⟨s, hs, _, ws⟩ := DataW.trod_string Try.underlying9 h
  exact ⟨s, take_one hs, ws⟩
theorem field_bool {n o : Nat} {cs : List Value} {y : DataW H × List MemPlace} (h : DataW.trod enc Try.prog w 0 (fun _ => true) true n 4 ((cs.drop o).take (Try.prog.cellsOf 4)) = some y) : ∃ b, cs[o]? = some (.bool b) := by
  rw [Try.cellsBool] at h
  obtain ⟨b, hb, _⟩ := DataW.trod_bool Try.underlying4 h
  exact ⟨b, take_one hb⟩

set_option maxRecDepth 100000 in
/-- The cells of a glyph that reads. -/
theorem read_glyph {fuel : Nat} {cs : List Value} {x : DataW H × List MemPlace} (h : DataW.trod enc Try.prog w 0 (fun _ => true) true fuel 85 cs = some x) :
    ∃ g : Gly, cs = [.string g.name, .int .i64 g.w, .int .i64 g.h, .int .i64 g.d, .int .i64 g.it, .int .i64 g.at_] ∧ g.wf ∧ g.name.size ≤ maxLen := by
  obtain ⟨hl, n, hf⟩ := read_struct Try.underlying85 h
  rw [Try.cellsGlyph] at hl
  obtain ⟨_, f0⟩ := hf 0 _ rfl
  obtain ⟨_, f1⟩ := hf 1 _ rfl
  obtain ⟨_, f2⟩ := hf 2 _ rfl
  obtain ⟨_, f3⟩ := hf 3 _ rfl
  obtain ⟨_, f4⟩ := hf 4 _ rfl
  obtain ⟨_, f5⟩ := hf 5 _ rfl
  obtain ⟨s, e0, hs⟩ := field_string f0
  obtain ⟨n1, e1, h1⟩ := field_int f1
  obtain ⟨n2, e2, h2⟩ := field_int f2
  obtain ⟨n3, e3, h3⟩ := field_int f3
  obtain ⟨n4, e4, h4⟩ := field_int f4
  obtain ⟨n5, e5, h5⟩ := field_int f5
  refine ⟨{ name := s, w := n1, h := n2, d := n3, it := n4, at_ := n5 }, ?_, ⟨h1, h2, h3, h4, h5⟩, hs⟩
  match cs, hl with
  | [c0, c1, c2, c3, c4, c5], _ =>
    simp at e0 e1 e2 e3 e4 e5
    subst e0 e1 e2 e3 e4 e5
    rfl

end
end Go.Proofs.Ytfmoghkffffmmaa
namespace Go.Proofs.Ytfmoghkffffmmaa
open Go.RowKit Go.ChangeShapes Go.WideShapes Go.Deep

theorem Try.cellsPart : Try.prog.cellsOf 97 = 2 := by kernel_rfl
theorem Try.cellsStretch : Try.prog.cellsOf 74 = 4 := by kernel_rfl
theorem Try.cellsParams : Try.prog.cellsOf 25 = 20 := by kernel_rfl
theorem Try.cellsFont : Try.prog.cellsOf 27 = 22 := by kernel_rfl
theorem Try.cellsStrings : Try.prog.cellsOf 71 = 1 := by kernel_rfl
theorem Try.cellsParts : Try.prog.cellsOf 72 = 1 := by kernel_rfl
theorem Try.cellsGlyphs : Try.prog.cellsOf 22 = 1 := by kernel_rfl
theorem Try.cellsStretches : Try.prog.cellsOf 23 = 1 := by kernel_rfl

section
variable {H : Type} {enc : TypeId × Value → H} {w : World}

set_option maxRecDepth 100000 in
/-- A slice each of whose elements reads as f of something. -/
theorem read_row {P : Program} {α : Type} {f : α → List Value} {R : α → Prop} {t e : TypeId} {fuel size : Nat} {cs : List Value} {x : DataW H × List MemPlace} (ht : P.underlying t = some (.slice e)) (hC : P.cellsOf e = size) (h0 : 0 < size)
    (he : ∀ {fuel : Nat} {cs : List Value} {x : DataW H × List MemPlace}, DataW.trod enc P w 0 (fun _ => true) true fuel e cs = some x → ∃ a, cs = f a ∧ R a)
    (h : DataW.trod enc P w 0 (fun _ => true) true fuel t cs = some x) :
    ∃ (y : Option Addr) (c : Nat) (l : List α), cs = [.slice y l.length c] ∧ RowAt w y size f l ∧ (∀ a ∈ l, R a) ∧ l.length ≤ maxLen ∧ l.length ≤ c ∧ (l ≠ [] → c ≤ maxLen) := by
  subst hC
  rcases read_slice ht h0 h with ⟨y, c, rfl⟩ | ⟨b, o, len, c, n, hlen, rfl, hl, hm, hi⟩
  · exact ⟨y, c, [], rfl, .inl rfl, by simp, Nat.zero_le _, Nat.zero_le _, fun h => absurd rfl h⟩
  · obtain ⟨l, hll, hr⟩ := list_of (fun i a => w.rangeAt b (o + i * P.cellsOf e) (f a) ∧ R a) len fun i hlt => by
      obtain ⟨cs', y, hcl, hc, htr⟩ := hi i hlt
      obtain ⟨a, rfl, hR⟩ := he htr
      refine ⟨a, fun j v hj => ?_, hR⟩
      have hjl : j < P.cellsOf e := by rw [← hcl]; exact (List.getElem?_eq_some_iff.1 hj).1
      rw [hc j hjl, hj]
    subst hll
    refine ⟨some ⟨b, o, none⟩, c, l, rfl, .inr ⟨b, o, rfl, fun i a hia => (hr i a hia).1⟩, fun a ha => ?_, by omega, hl, fun _ => hm⟩
    obtain ⟨i, hi⟩ := List.mem_iff_getElem?.1 ha
    exact (hr i a hi).2

set_option maxRecDepth 100000 in
theorem read_string {fuel : Nat} {cs : List Value} {x : DataW H × List MemPlace} (h : DataW.trod enc Try.prog w 0 (fun _ => true) true fuel 9 cs = some x) : ∃ s, cs = strCells s ∧ s.size ≤ maxLen := by
  obtain ⟨s, hs, _, ws⟩ := DataW.trod_string Try.underlying9 h
  exact ⟨s, hs, ws⟩

set_option maxRecDepth 100000 in
theorem read_part {fuel : Nat} {cs : List Value} {x : DataW H × List MemPlace} (h : DataW.trod enc Try.prog w 0 (fun _ => true) true fuel 97 cs = some x) : ∃ p : Prt, cs = p.cells ∧ p.name.size ≤ maxLen := by
  obtain ⟨hl, n, hf⟩ := read_struct Try.underlying97 h
  rw [Try.cellsPart] at hl
  obtain ⟨_, f0⟩ := hf 0 _ rfl
  obtain ⟨_, f1⟩ := hf 1 _ rfl
  obtain ⟨s, e0, hs⟩ := field_string f0
  obtain ⟨b, e1⟩ := field_bool f1
  refine ⟨⟨s, b⟩, ?_, hs⟩
  match cs, hl with
  | [c0, c1], _ =>
    simp at e0 e1
    subst e0 e1
    rfl

set_option maxRecDepth 100000 in
/-- A field that is a slice. -/
theorem field_row {α : Type} {f : α → List Value} {R : α → Prop} {t e : TypeId} {n o size : Nat} {cs : List Value} {y : DataW H × List MemPlace} (ht : Try.prog.underlying t = some (.slice e)) (h1 : Try.prog.cellsOf t = 1) (hC : Try.prog.cellsOf e = size) (h0 : 0 < size)
    (he : ∀ {fuel : Nat} {cs : List Value} {x : DataW H × List MemPlace}, DataW.trod enc Try.prog w 0 (fun _ => true) true fuel e cs = some x → ∃ a, cs = f a ∧ R a)
    (h : DataW.trod enc Try.prog w 0 (fun _ => true) true n t ((cs.drop o).take (Try.prog.cellsOf t)) = some y) :
    ∃ (y : Option Addr) (c : Nat) (l : List α), cs[o]? = some (.slice y l.length c) ∧ RowAt w y size f l ∧ (∀ a ∈ l, R a) ∧ l.length ≤ maxLen ∧ l.length ≤ c ∧ (l ≠ [] → c ≤ maxLen) := by
  rw [h1] at h
  obtain ⟨y, c, l, hc, hr⟩ := read_row ht hC h0 he h
  exact ⟨y, c, l, take_one hc, hr⟩

set_option maxRecDepth 100000 in
theorem read_stretch {fuel : Nat} {cs : List Value} {x : DataW H × List MemPlace} (h : DataW.trod enc Try.prog w 0 (fun _ => true) true fuel 74 cs = some x) : ∃ s : Str, cs = s.cells ∧ StrOk w s := by
  obtain ⟨hl, n, hf⟩ := read_struct Try.underlying74 h
  rw [Try.cellsStretch] at hl
  obtain ⟨_, f0⟩ := hf 0 _ rfl
  obtain ⟨_, f1⟩ := hf 1 _ rfl
  obtain ⟨_, f2⟩ := hf 2 _ rfl
  obtain ⟨_, f3⟩ := hf 3 _ rfl
  obtain ⟨s, e0, hs⟩ := field_string f0
  obtain ⟨sx, sc, sz, e1, r1, q1, l1, _⟩ := field_row Try.underlying71 Try.cellsStrings Try.cellsString (by omega) (fun h => read_string h) f1
  obtain ⟨px, pc, ps, e2, r2, q2, l2, _⟩ := field_row Try.underlying72 Try.cellsParts Try.cellsPart (by omega) (fun h => read_part h) f2
  obtain ⟨n3, e3, h3⟩ := field_int f3
  refine ⟨{ name := s, sx := sx, sc := sc, sizes := sz, px := px, pc := pc, parts := ps, ov := n3 }, ?_, ⟨r1, r2, h3, l1, l2, hs, q1, q2⟩⟩
  match cs, hl with
  | [c0, c1, c2, c3], _ =>
    simp at e0 e1 e2 e3
    subst e0 e1 e2 e3
    rfl

set_option maxRecDepth 100000 in
theorem read_params {fuel : Nat} {cs : List Value} {x : DataW H × List MemPlace} (h : DataW.trod enc Try.prog w 0 (fun _ => true) true fuel 25 cs = some x) :
    ∃ ns : List Int, ns.length = 20 ∧ cs = ns.map (Value.int .i64) ∧ ∀ n ∈ ns, I64 n := by
  obtain ⟨hl, n, hf⟩ := read_struct Try.underlying25 h
  rw [Try.cellsParams] at hl
  obtain ⟨ns, hns, hr⟩ := list_of (fun i z => cs[i]? = some (.int .i64 z) ∧ I64 z) 20 fun i hi => by
    have hcase : i = 0 ∨ i = 1 ∨ i = 2 ∨ i = 3 ∨ i = 4 ∨ i = 5 ∨ i = 6 ∨ i = 7 ∨ i = 8 ∨ i = 9 ∨ i = 10 ∨ i = 11 ∨ i = 12 ∨ i = 13 ∨ i = 14 ∨ i = 15 ∨ i = 16 ∨ i = 17 ∨ i = 18 ∨ i = 19 := by omega
    rcases hcase with rfl | rfl | rfl | rfl | rfl | rfl | rfl | rfl | rfl | rfl | rfl | rfl | rfl | rfl | rfl | rfl | rfl | rfl | rfl | rfl
    · exact field_int (hf 0 _ rfl).choose_spec
    · exact field_int (hf 1 _ rfl).choose_spec
    · exact field_int (hf 2 _ rfl).choose_spec
    · exact field_int (hf 3 _ rfl).choose_spec
    · exact field_int (hf 4 _ rfl).choose_spec
    · exact field_int (hf 5 _ rfl).choose_spec
    · exact field_int (hf 6 _ rfl).choose_spec
    · exact field_int (hf 7 _ rfl).choose_spec
    · exact field_int (hf 8 _ rfl).choose_spec
    · exact field_int (hf 9 _ rfl).choose_spec
    · exact field_int (hf 10 _ rfl).choose_spec
    · exact field_int (hf 11 _ rfl).choose_spec
    · exact field_int (hf 12 _ rfl).choose_spec
    · exact field_int (hf 13 _ rfl).choose_spec
    · exact field_int (hf 14 _ rfl).choose_spec
    · exact field_int (hf 15 _ rfl).choose_spec
    · exact field_int (hf 16 _ rfl).choose_spec
    · exact field_int (hf 17 _ rfl).choose_spec
    · exact field_int (hf 18 _ rfl).choose_spec
    · exact field_int (hf 19 _ rfl).choose_spec
  refine ⟨ns, hns, ?_, fun z hz => ?_⟩
  · apply List.ext_getElem?
    intro i
    by_cases hi : i < 20
    · have h1 : ns[i]? = some ns[i] := List.getElem?_eq_getElem (by omega)
      rw [(hr i _ h1).1, List.getElem?_map, h1]
      rfl
    · rw [List.getElem?_eq_none (by omega), List.getElem?_eq_none (by simp; omega)]
  · obtain ⟨i, hi⟩ := List.mem_iff_getElem?.1 hz
    exact (hr i z hi).2

set_option maxRecDepth 100000 in
theorem read_font {fuel : Nat} {cs : List Value} {x : DataW H × List MemPlace} (h : DataW.trod enc Try.prog w 0 (fun _ => true) true fuel 27 cs = some x) : ∃ F : Fnt, cs = F.cells ∧ FntOk w F := by
  obtain ⟨hl, n, hf⟩ := read_struct Try.underlying27 h
  rw [Try.cellsFont] at hl
  obtain ⟨_, f0⟩ := hf 0 _ rfl
  obtain ⟨_, f1⟩ := hf 1 _ rfl
  obtain ⟨y2, f2⟩ := hf 2 _ rfl
  replace f2 : DataW.trod enc Try.prog w 0 (fun _ => true) true n 25 ((cs.drop 2).take (Try.prog.cellsOf 25)) = some y2 := f2
  obtain ⟨gx, gc, gs, e0, r0, q0, l0, p0⟩ := field_row (f := Gly.cells) (R := fun g => g.wf ∧ g.name.size ≤ maxLen) Try.underlying22 Try.cellsGlyphs Try.cellsGlyph (by omega) (fun h => read_glyph h) f0
  obtain ⟨sx, sc, ss, e1, r1, q1, l1, p1⟩ := field_row Try.underlying23 Try.cellsStretches Try.cellsStretch (by omega) (fun h => read_stretch h) f1
  rw [Try.cellsParams] at f2
  obtain ⟨ns, hns, hc, hw⟩ := read_params f2
  match ns, hns with
  | [n0, n1, n2, n3, n4, n5, n6, n7, n8, n9, n10, n11, n12, n13, n14, n15, n16, n17, n18, n19], _ =>
    refine ⟨{ gx := gx, gc := gc, gs := gs, sx := sx, sc := sc, ss := ss, quad := n0, xheight := n1, axis := n2, rule := n3, num1 := n4, num2 := n5, den1 := n6, den2 := n7, sup1 := n8, sup2 := n9, sup3 := n10, sub1 := n11, sub2 := n12, supdrop := n13, subdrop := n14, script := n15, sscript := n16, dpercent := n17, dshort := n18, acc := n19 }, ?_, ⟨r0, r1, q0, q1, l0, l1, p0, p1, fun z hz => ?_⟩⟩
    · match cs, hl with
      | c0 :: c1 :: rest, hl =>
        simp at e0 e1
        subst e0 e1
        simp only [List.length_cons] at hl
        have hr : (List.drop 2 (Value.slice gx gs.length gc :: Value.slice sx ss.length sc :: rest)).take 20 = rest := by
          show rest.take 20 = rest
          exact List.take_of_length_le (by omega)
        rw [hr] at hc
        rw [hc]
        rfl
    · apply hw
      simp [Fnt.prm] at hz ⊢
      exact hz

end
end Go.Proofs.Ytfmoghkffffmmaa
namespace Go.Proofs.Ytfmoghkffffmmaa
open Go.RowKit Go.ChangeShapes Go.WideShapes Go.Deep

theorem Try.cellsBox : Try.prog.cellsOf 33 = 11 := by kernel_rfl
theorem Try.cellsBoxs : Try.prog.cellsOf 30 = 1 := by kernel_rfl
theorem Try.cellsInts : Try.prog.cellsOf 31 = 1 := by kernel_rfl

section
variable {H : Type} {enc : TypeId × Value → H} {w : World}

set_option maxRecDepth 100000 in
/-- A slice that reads, and by how much fuel its elements read. -/
theorem read_slice_n {P : Program} {t e : TypeId} {fuel : Nat} {cs : List Value} {x : DataW H × List MemPlace} (ht : P.underlying t = some (.slice e)) (hC : 0 < P.cellsOf e)
    (h : DataW.trod enc P w 0 (fun _ => true) true fuel t cs = some x) :
    (∃ y c, cs = [.slice y 0 c]) ∨ ∃ (b o len c n : Nat), n < fuel ∧ 0 < len ∧ cs = [.slice (some ⟨b, o, none⟩) len c] ∧ len ≤ c ∧ c ≤ maxLen ∧
      ∀ i, i < len → ∃ cs' y, cs'.length = P.cellsOf e ∧ (∀ j, j < P.cellsOf e → w.cell? ⟨b, o + i * P.cellsOf e + j, none⟩ = cs'[j]?) ∧ DataW.trod enc P w 0 (fun _ => true) true n e cs' = some y := by
  rcases DataW.trod_slice ht h with ⟨rfl, _⟩ | ⟨a, len, cap, elems, rest, n, hn, rfl, _, _, hl, hm, hlen, hel, _, _⟩
  · exact .inl ⟨_, _, rfl⟩
  · by_cases h0 : len = 0
    · subst h0; exact .inl ⟨_, _, rfl⟩
    · have hi : ∀ i, i < len → ∃ cs' y, w.cells? 0 (a.add (i * P.cellsOf e)) (P.cellsOf e) = some cs' ∧ DataW.trod enc P w 0 (fun _ => true) true n e cs' = some y := by
        intro i hlt
        have h1 := hel i hlt
        rw [List.getElem?_eq_getElem (by omega)] at h1
        obtain ⟨cs', hc, hy⟩ := Option.bind_eq_some_iff.1 h1
        exact ⟨cs', _, hc, hy⟩
      obtain ⟨cs0, _, hc0, _⟩ := hi 0 (by omega)
      obtain ⟨_, hl0, hat0⟩ := World.cells?_some hc0
      obtain ⟨b, o, s⟩ := a
      have hs : s = none := by
        have h1 := hat0 0 hC
        rw [List.getElem?_eq_getElem (by omega)] at h1
        cases s with
        | none => rfl
        | some z => simp [World.cell?, Addr.add] at h1; split at h1 <;> simp at h1
      subst hs
      refine .inr ⟨b, o, len, cap, n, by omega, by omega, rfl, hl, hm, fun i hlt => ?_⟩
      obtain ⟨cs', y, hc', ht'⟩ := hi i hlt
      obtain ⟨_, hl', hat'⟩ := World.cells?_some hc'
      exact ⟨cs', y, hl', fun j hj => by have := hat' j hj; rw [add_plain, add_plain] at this; exact this, ht'⟩

set_option maxRecDepth 100000 in
theorem read_int {fuel : Nat} {cs : List Value} {x : DataW H × List MemPlace} (h : DataW.trod enc Try.prog w 0 (fun _ => true) true fuel 3 cs = some x) : ∃ n, cs = intCells n ∧ I64 n := by
  obtain ⟨z, hz, _, wz⟩ := DataW.trod_int Try.underlying3 h
  exact ⟨z, hz, i64_of wz⟩

set_option maxRecDepth 100000 in
theorem common {css : Nat → List Value} : ∀ len : Nat, (∀ i, i < len → ∃ n b, Rep w n b (css i)) → ∃ N, ∀ i, i < len → ∃ b, Rep w N b (css i) := by
  intro len
  induction len with
  | zero => intro _; exact ⟨0, fun i hi => by omega⟩
  | succ len ih =>
    intro h
    obtain ⟨N, hN⟩ := ih fun i hi => h i (by omega)
    obtain ⟨n, b, hb⟩ := h len (by omega)
    refine ⟨max N n, fun i hi => ?_⟩
    by_cases he : i = len
    · subst he; exact hb.up _ (by omega)
    · obtain ⟨b', hb'⟩ := hN i (by omega)
      exact hb'.up _ (by omega)

set_option maxRecDepth 100000 in
theorem read_box_n : ∀ (N fuel : Nat), fuel ≤ N → ∀ (cs : List Value) (x : DataW H × List MemPlace), DataW.trod enc Try.prog w 0 (fun _ => true) true fuel 33 cs = some x → ∃ n b, Rep w n b cs := by
  intro N
  induction N with
  | zero =>
    intro fuel hf cs x h
    obtain rfl : fuel = 0 := by omega
    simp [DataW.trod] at h
  | succ N ih =>
    intro fuel hfu cs x h
    obtain ⟨xs, n, hn, _, hl, hx, hf0⟩ := DataW.trod_struct Try.underlying33 h
    have hf : ∀ (i : Nat) (f : Field), _ → ∃ y, DataW.trod enc Try.prog w 0 (fun _ => true) true n f.type ((cs.drop f.offset).take (Try.prog.cellsOf f.type)) = some y := fun i f hi => by
      have h1 := hf0 i f hi
      have hlt : i < xs.length := by rw [hx]; exact (Array.getElem?_eq_some_iff.1 hi).1
      exact ⟨xs[i], by rw [h1, List.getElem?_eq_getElem hlt]⟩
    rw [Try.cellsBox] at hl
    obtain ⟨_, f0⟩ := hf 0 _ rfl
    obtain ⟨_, f1⟩ := hf 1 _ rfl
    obtain ⟨_, f2⟩ := hf 2 _ rfl
    obtain ⟨_, f3⟩ := hf 3 _ rfl
    obtain ⟨_, f4⟩ := hf 4 _ rfl
    obtain ⟨_, f5⟩ := hf 5 _ rfl
    obtain ⟨_, f6⟩ := hf 6 _ rfl
    obtain ⟨_, f7⟩ := hf 7 _ rfl
    obtain ⟨y8, f8⟩ := hf 8 _ rfl
    obtain ⟨_, f9⟩ := hf 9 _ rfl
    obtain ⟨_, f10⟩ := hf 10 _ rfl
    obtain ⟨n0, e0, h0⟩ := field_int f0
    obtain ⟨s, e1, h1⟩ := field_string f1
    obtain ⟨n2, e2, h2⟩ := field_int f2
    obtain ⟨n3, e3, h3⟩ := field_int f3
    obtain ⟨n4, e4, h4⟩ := field_int f4
    obtain ⟨n5, e5, h5⟩ := field_int f5
    obtain ⟨n6, e6, h6⟩ := field_int f6
    obtain ⟨n7, e7, h7⟩ := field_int f7
    obtain ⟨n9, e9, h9⟩ := field_int f9
    obtain ⟨sx, sc, src, e10, r10, q10, l10, _⟩ := field_row Try.underlying31 Try.cellsInts Try.cellsInt (by omega) (fun h => read_int h) f10
    replace f8 : DataW.trod enc Try.prog w 0 (fun _ => true) true n 30 ((cs.drop 8).take (Try.prog.cellsOf 30)) = some y8 := f8
    rw [Try.cellsBoxs] at f8
    have hd : HdOk ⟨n0, s, n2, n3, n4, n5, n6, n7, n9, src⟩ := ⟨h0, h2, h3, h4, h5, h6, h7, h9, q10, l10, h1⟩
    have hcs : ∀ k, cs[8]? = some k → cs = Hd.cells ⟨n0, s, n2, n3, n4, n5, n6, n7, n9, src⟩ k (.slice sx src.length sc) := by
      intro k e8
      match cs, hl with
      | [c0, c1, c2, c3, c4, c5, c6, c7, c8, c9, c10], _ =>
        simp at e0 e1 e2 e3 e4 e5 e6 e7 e8 e9 e10
        subst e0 e1 e2 e3 e4 e5 e6 e7 e8 e9 e10
        rfl
    rcases read_slice_n Try.underlying30 (by rw [Try.cellsBox]; omega) f8 with ⟨y, c, hk⟩ | ⟨k, o, len, c, m, hm, hlen, hk, hlc, hcm, hi⟩
    · refine ⟨1, (⟨n0, s, n2, n3, n4, n5, n6, n7, n9, src⟩, []), y, c, sx, sc, hcs _ (take_one hk), hd, by simp, r10, fun _ _ _ _ => trivial, fun i kid hi => by simp at hi⟩
    · have hi2 : ∀ i, i < len → ∃ cs' : List Value, w.rangeAt k (o + i * 11) cs' ∧ ∃ n b, Rep w n b cs' := by
        intro i hlt
        obtain ⟨cs', y, hcl, hc, htr⟩ := hi i hlt
        rw [Try.cellsBox] at hcl hc
        refine ⟨cs', fun j v hj => ?_, ih m (by omega) cs' y htr⟩
        have hjl : j < 11 := by rw [← hcl]; exact (List.getElem?_eq_some_iff.1 hj).1
        rw [hc j hjl, hj]
      obtain ⟨css, hcss⟩ : ∃ css : Nat → List Value, ∀ i, i < len → w.rangeAt k (o + i * 11) (css i) ∧ ∃ n b, Rep w n b (css i) :=
        ⟨fun i => if hlt : i < len then (hi2 i hlt).choose else [], fun i hlt => by simp only [hlt, dif_pos]; exact (hi2 i hlt).choose_spec⟩
      obtain ⟨M, hM⟩ := common len fun i hlt => (hcss i hlt).2
      obtain ⟨kids, hkl, hkr⟩ := list_of (fun i b => Rep w M b (css i)) len hM
      refine ⟨M + 1, (⟨n0, s, n2, n3, n4, n5, n6, n7, n9, src⟩, kids), some ⟨k, o, none⟩, c, sx, sc, ?_, hd, by simp only; omega, r10, fun _ _ _ _ => trivial, fun i kid hik => ?_⟩
      · have := hcs _ (take_one hk)
        rw [← hkl] at this
        exact this
      · have hlt : i < len := by rw [← hkl]; exact (List.getElem?_eq_some_iff.1 hik).1
        exact ⟨k, o, css i, rfl, trivial, (hcss i hlt).1, hkr i kid hik⟩

set_option maxRecDepth 100000 in
/-- A box as an argument, or as a part of one. -/
theorem read_box {fuel : Nat} {cs : List Value} {x : DataW H × List MemPlace} (h : DataW.trod enc Try.prog w 0 (fun _ => true) true fuel 33 cs = some x) : ∃ n b, Rep w n b cs := read_box_n fuel fuel (Nat.le_refl _) cs x h
end
end Go.Proofs.Ytfmoghkffffmmaa
namespace Go.Proofs.Ytfmoghkffffmmaa
open Go.RowKit Go.ChangeShapes Go.WideShapes Go.Deep

attribute [local irreducible] wpQuiet wpG wpP wpK wpList Code.wp Calls

theorem Try.cellsStyle2 : Try.prog.cellsOf 29 = 2 := by kernel_rfl
theorem Try.cellsCase32 : Try.prog.cellsOf 35 = 46 := by kernel_rfl

/-- The cells of a case. -/
@[reducible] def caseL (F : Fnt) (l : Int) (c : Bool) (cs ds : List Value) : List Value := F.cells ++ ([.int .i64 l, .bool c] ++ (cs ++ ds))

section
variable {H : Type} {enc : TypeId × Value → H} {w : World}

set_option maxRecDepth 100000 in
theorem read_style {fuel : Nat} {cs : List Value} {x : DataW H × List MemPlace} (h : DataW.trod enc Try.prog w 0 (fun _ => true) true fuel 29 cs = some x) : ∃ (l : Int) (c : Bool), cs = [.int .i64 l, .bool c] ∧ I64 l := by
  obtain ⟨hl, n, hf⟩ := read_struct Try.underlying29 h
  rw [Try.cellsStyle2] at hl
  obtain ⟨_, f0⟩ := hf 0 _ rfl
  obtain ⟨_, f1⟩ := hf 1 _ rfl
  obtain ⟨n0, e0, h0⟩ := field_int f0
  obtain ⟨b, e1⟩ := field_bool f1
  refine ⟨n0, b, ?_, h0⟩
  match cs, hl with
  | [c0, c1], _ =>
    simp at e0 e1
    subst e0 e1
    rfl

set_option maxRecDepth 100000 in
/-- A case as an argument. -/
theorem open_case {r : Reach} {b0 : Nat} {v : Value} {d : DataW H} {p : List MemPlace} (hv : Value.okWide Try.prog w r b0 35 v) (h : DataW.Trod enc Try.prog w 0 (fun _ => true) true 35 v d p) :
    ∃ (F : Fnt) (l : Int) (c : Bool) (n : Nat) (num den : Bx (n + 1)) (cs ds : List Value), v = .agg (caseL F l c cs ds).toArray ∧ FntOk w F ∧ Rep w (n + 1) num cs ∧ Rep w (n + 1) den ds := by
  obtain ⟨cs, rfl, _⟩ := okWide_struct Try.underlying35 hv
  obtain ⟨fuel, hf⟩ := h
  obtain ⟨hl, n, hf⟩ := read_struct Try.underlying35 hf
  rw [Try.cellsCase32] at hl
  have hl2 : cs.toList.length = 46 := hl
  obtain ⟨y0, f0⟩ := hf 0 _ rfl
  obtain ⟨y1, f1⟩ := hf 1 _ rfl
  obtain ⟨y2, f2⟩ := hf 2 _ rfl
  obtain ⟨y3, f3⟩ := hf 3 _ rfl
  replace f0 : DataW.trod enc Try.prog w 0 (fun _ => true) true n 27 ((cs.toList.drop 0).take (Try.prog.cellsOf 27)) = some y0 := f0
  replace f1 : DataW.trod enc Try.prog w 0 (fun _ => true) true n 29 ((cs.toList.drop 22).take (Try.prog.cellsOf 29)) = some y1 := f1
  replace f2 : DataW.trod enc Try.prog w 0 (fun _ => true) true n 33 ((cs.toList.drop 24).take (Try.prog.cellsOf 33)) = some y2 := f2
  replace f3 : DataW.trod enc Try.prog w 0 (fun _ => true) true n 33 ((cs.toList.drop 35).take (Try.prog.cellsOf 33)) = some y3 := f3
  rw [Try.cellsFont] at f0
  rw [Try.cellsStyle2] at f1
  rw [Try.cellsBox] at f2 f3
  obtain ⟨F, e0, hF⟩ := read_font f0
  obtain ⟨l, c, e1, _⟩ := read_style f1
  obtain ⟨n2, b2, r2⟩ := read_box f2
  obtain ⟨n3, b3, r3⟩ := read_box f3
  obtain ⟨b2', r2'⟩ := r2.up (max n2 n3 + 1) (by omega)
  obtain ⟨b3', r3'⟩ := r3.up (max n2 n3 + 1) (by omega)
  refine ⟨F, l, c, max n2 n3, b2', b3', _, _, ?_, hF, r2', r3'⟩
  have e : cs.toList = caseL F l c ((cs.toList.drop 24).take 11) ((cs.toList.drop 35).take 11) := by
    unfold caseL
    rw [← e0, ← e1]
    clear hl hv f0 f1 f2 f3 e0 e1 r2 r3 r2' r3' hf
    generalize cs.toList = L at *
    apply List.ext_getElem?
    intro i
    rw [List.drop_zero]
    by_cases h1 : i < 22
    · rw [List.getElem?_append_left (by simp; omega), List.getElem?_take, if_pos h1]
    · rw [List.getElem?_append_right (by simp; omega)]
      simp only [List.length_take]
      rw [Nat.min_eq_left (by omega)]
      by_cases h2 : i < 24
      · rw [List.getElem?_append_left (by simp; omega), List.getElem?_take, if_pos (by omega), List.getElem?_drop]
        congr 1; omega
      · rw [List.getElem?_append_right (by simp; omega)]
        simp only [List.length_take, List.length_drop]
        rw [Nat.min_eq_left (by omega)]
        by_cases h3 : i < 35
        · rw [List.getElem?_append_left (by simp; omega), List.getElem?_take, if_pos (by omega), List.getElem?_drop]
          congr 1; omega
        · rw [List.getElem?_append_right (by simp; omega)]
          simp only [List.length_take, List.length_drop]
          rw [Nat.min_eq_left (by omega)]
          by_cases h4 : i < 46
          · rw [List.getElem?_take, if_pos (by omega), List.getElem?_drop]
            congr 1; omega
          · rw [List.getElem?_eq_none (by omega), List.getElem?_eq_none (by simp; omega)]
  exact congrArg Value.agg (Array.toList_inj.1 e)
end
end Go.Proofs.Ytfmoghkffffmmaa
