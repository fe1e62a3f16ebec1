/- Fractions: Make, where nothing is wrong. -/
import Derived.Test.YtfmoghkffffmmaaK10
namespace Go.Proofs.Ytfmoghkffffmmaa
open Go.RowKit

attribute [local irreducible] wpQuiet wpG wpP wpK wpList Code.wp Calls

theorem valid_lens {n : Nat} {a : Hd} {kids : List (Bx n)} (h : validB (n + 1) (a, kids)) : (-1073741824 ≤ a.w ∧ a.w ≤ 1073741824) ∧ (-1073741824 ≤ a.h ∧ a.h ≤ 1073741824) ∧ (-1073741824 ≤ a.d ∧ a.d ≤ 1073741824) := by
  have h1 := h.1
  simp only [allOwn, ownOk, Bool.and_eq_true] at h1
  have h2 := h1.1.1.1
  simp [lensOk, Hd.lens] at h2
  omega

theorem rep_bare_any {ko : Nat → Nat → Prop} {so : Nat → Prop} {w w' : World} {n : Nat} {a : Hd} {cs : List Value} (h : Rep w (n + 1) (a, []) cs) (hs : a.src = []) : RepG ko so w' (n + 1) (a, []) cs := by
  obtain ⟨kx, kc, sx, sc, h1, h2, h3, h4, h5, h6⟩ := h
  exact ⟨kx, kc, sx, sc, h1, h2, h3, .inl hs, fun h0 => absurd hs h0, fun i kid hi => by simp at hi⟩
/-- Three boxes side by side. -/
theorem three_boxes {P : Nat → Prop} {w : World} {n : Nat} {b1 b2 b3 : Bx n} {e1 e2 e3 : List Value} {k : Nat} (hh : Has w k (e1 ++ e2 ++ e3)) (h1 : RepP P w n b1 e1) (h2 : RepP P w n b2 e2) (h3 : RepP P w n b3 e3) : RepLP P w n (some ⟨k, 0, none⟩) [b1, b2, b3] := fun i kid hi => by
  have l1 := h1.len
  have l2 := h2.len
  have l3 := h3.len
  rcases i with _ | _ | _ | i
  · obtain rfl : b1 = kid := by simpa using hi
    refine ⟨k, 0, e1, rfl, fun j v hj => ?_, h1⟩
    have hlt : j < 11 := by rw [← l1]; exact (List.getElem?_eq_some_iff.1 hj).1
    show w.cell? ⟨k, 0 + 0 * 11 + j, none⟩ = some v
    rw [hh.cell, List.append_assoc, List.getElem?_append_left (by omega), ← hj]
    congr 1; omega
  · obtain rfl : b2 = kid := by simpa using hi
    refine ⟨k, 0, e2, rfl, fun j v hj => ?_, h2⟩
    have hlt : j < 11 := by rw [← l2]; exact (List.getElem?_eq_some_iff.1 hj).1
    show w.cell? ⟨k, 0 + 1 * 11 + j, none⟩ = some v
    rw [hh.cell, List.append_assoc, List.getElem?_append_right (by omega), List.getElem?_append_left (by omega), ← hj]
    congr 1; omega
  · obtain rfl : b3 = kid := by simpa using hi
    refine ⟨k, 0, e3, rfl, fun j v hj => ?_, h3⟩
    have hlt : j < 11 := by rw [← l3]; exact (List.getElem?_eq_some_iff.1 hj).1
    show w.cell? ⟨k, 0 + 2 * 11 + j, none⟩ = some v
    rw [hh.cell, List.getElem?_append_right (by simp only [List.length_append]; omega), ← hj]
    congr 1; simp only [List.length_append]; omega
  · simp at hi
/-- The blocks of the call are not those of a box that lies in old blocks and in spans made since. -/
theorem frame_away {w wa wf : World} {L : List (Nat × List Value)} {b : Nat} {z : List Value} {P : Nat → Prop} {S : List (Nat × Nat)} (hO : Own [] w L wa) (hF : Own [] w ((b, z) :: L) wf) (hoff : Off b S) (hS : ∀ p ∈ S, wa.heap.size ≤ p.1) (hP : ∀ k, P k → k < w.heap.size ∨ ∃ p ∈ S, p.1 ≤ k ∧ k < p.2) : ∀ k, P k → k ∉ ((b, z) :: L).map (·.1) := fun k hk hm => by
  obtain ⟨x, hx, rfl⟩ := List.mem_map.1 hm
  have hge : w.heap.size ≤ x.1 := by
    rcases hF.ge x hx with h | h
    · cases h
    · exact h
  rcases hP _ hk with h | ⟨p, hp, h1, h2⟩
  · omega
  · rcases List.mem_cons.1 hx with rfl | hx
    · have := hoff p hp
      simp only at this h1 h2
      omega
    · have h3 := (hO.has x hx).lt
      have h4 := hS p hp
      omega
theorem small_at {n : Nat} {b : Bx (n + 1)} {x y : Int} (h : Small (n + 1) b) : Small (n + 1) (atXY (n + 1) b x y) := h
theorem count_at {n : Nat} {b : Bx (n + 1)} {x y : Int} : bCount (n + 1) (atXY (n + 1) b x y) = bCount (n + 1) b := rfl

set_option maxHeartbeats 16000000 in
set_option maxRecDepth 100000 in
theorem fracMake_ok (F : Fnt) (l : Int) (c : Bool) (n : Nat) (num den : Bx (n + 1)) (cs ds : List Value) (w : World) (hF : FntOk w F) (hl : lvlOk l = true) (hv : ValidF F) (hr : Rep w (n + 1) num cs) (hs : Rep w (n + 1) den ds) (hn : validB (n + 1) num) (hd : validB (n + 1) den) (hvR : validB (n + 2) (fracB F l n num den)) :
    Calls Try.prog 11 #[F.val, .agg #[.int .i64 l, .bool c], .agg cs.toArray, .agg ds.toArray] w (GivesBE (n + 2) (fracB F l n num den) 0 w) := by
  have HPc := Lib.hid (fun w' (h : Below w.heap.size w w') => style_Percent_calls F l (sizeOf' F l) 0 c w' (hF.below h) ⟨fun _ => ⟨rfl, rfl⟩, fun h => by
    rcases h with h | h
    · rw [hl] at h; cases h
    · exact absurd hv h⟩)
  have HVn := Lib.hid (fun w' (h : Below w.heap.size w w') => box_Valid_calls (n + 1) num cs w' (hr.step h) hr.wide _ (iff_t hn))
  have HVd := Lib.hid (fun w' (h : Below w.heap.size w w') => box_Valid_calls (n + 1) den ds w' (hs.step h) hs.wide _ (iff_t hd))
  have HMe := Lib.hid (fun w' => measure_calls F l c w' hv)
  have hp := prm_len hv
  have br := par_in (l := l) hv hp.1.1 hp.1.2
  have br : 0 ≤ par F l F.rule ∧ par F l F.rule ≤ 20000 := by omega
  have bx := par_in (l := l) hv hp.2.1.1 hp.2.1.2
  have bh := hlf_in br.1 (by omega)
  have by_ : -20000 ≤ fracY F l ∧ fracY F l ≤ 20000 := by unfold fracY; omega
  have bg : 0 ≤ fracGap l (par F l F.rule) ∧ fracGap l (par F l F.rule) ≤ 60000 := by unfold fracGap; split <;> omega
  have bu : 0 ≤ fracUp F l ∧ fracUp F l ≤ 20000 := by
    unfold fracUp
    split
    · have := par_in (l := l) hv hp.2.2.1.1 hp.2.2.1.2; omega
    · have := par_in (l := l) hv hp.2.2.2.1.1 hp.2.2.2.1.2; omega
  have bd : 0 ≤ fracDown F l ∧ fracDown F l ≤ 20000 := by
    unfold fracDown
    split
    · have := par_in (l := l) hv hp.2.2.2.2.1.1 hp.2.2.2.2.1.2; omega
    · have := par_in (l := l) hv hp.2.2.2.2.2.1 hp.2.2.2.2.2.2; omega
  obtain ⟨⟨nk, nn, nsz, nw, nh, nd, nx, ny, nof, nsrc⟩, nkids⟩ := num
  obtain ⟨⟨dk, dn, dsz, dw, dh, dd, dx, dy, dof, dsrc⟩, dkids⟩ := den
  have ln := valid_lens hn
  have ld := valid_lens hd
  obtain ⟨kx, kc, sx, sc, rfl, _, _, _, _⟩ := rep_out hr
  obtain ⟨ex, ec, tx, tc, rfl, _, _, _, _⟩ := rep_out hs
  simp only at ln ld
  unfold fracB fracUpY fracDnY at hvR ⊢
  simp only at hvR ⊢
  generalize par F l F.rule = r at *
  generalize fracY F l = y at *
  generalize fracGap l r = g at *
  generalize fracUp F l = u0 at *
  generalize fracDown F l = d0 at *
  have hmx : ∀ (w : World) (ts : Array TypeId) (t : TypeId), (Builtin.max_ ts t #[.int .i64 0, .int .i64 nw, .int .i64 dw]).run Try.prog w = .ok (.int .i64 (fracW nw dw)) w := fun w ts t => by
    rw [run_max_int3]
    have e : (if dw > (if nw > 0 then nw else 0) then dw else (if nw > 0 then nw else 0)) = fracW nw dw := by
      unfold fracW
      repeat' split
      all_goals omega
    rw [e]
  have bW : 0 ≤ fracW nw dw ∧ fracW nw dw ≤ 1073741824 := by unfold fracW; omega
  generalize fracW nw dw = W at *
  clear bx bh hp hF
  go_enter Try.func11, Try.ntmps11
  have hS := own_start w
  go_wp2_with (first | (refine own_unguard (by rfl) ?_) | (refine own_store1 (v := .int .i64 W) rfl _ _ _ rfl rfl rfl rfl hS at0 ot_int (by simp) ?_; clear hS; intro ww hS; (try simp only [List.set_cons_zero] at hS)) | (go_at_call 21; refine own_calls hS (HPc.out _ hS.below) ?_; clear hS; (try clear ww); intro ww hS) | (go_at_call 17; refine own_calls hS (by first | exact HVn.out _ hS.below | exact HVd.out _ hS.below) ?_; clear hS; (try clear ww); intro ww hS) | (go_at_call 22; refine own_calls hS (HMe.out _) ?_; clear hS; (try clear ww); intro ww hS) | (refine w_ld rfl _ rfl (by rfl) (by first | exact rd_1 (by repeat constructor) (by first | rfl | assumption) | exact rd_w (by repeat constructor) (by rfl) | exact rd_o (by assumption) (by rfl) (by first | exact nmn | assumption | simp) | exact rd_h (by assumption) (by rfl) (by first | exact nmn | assumption | simp) | exact rd_1o (by assumption) (by first | exact nmn | assumption | simp) | exact rd_1h (by assumption) (by first | rfl | assumption) (by first | exact nmn | assumption | simp)) hS ?_) | (refine own_box rfl _ _ rfl (by rfl) hS ?_; clear hS; (try clear ww); intro bb ww hS) | (refine w_al rfl rfl hS ?_; clear hS; (try clear ww); intro bb ww hS) | (refine w_st rfl _ _ rfl (by rfl) (by rfl) (by repeat constructor) (by rfl) (by rfl) (by first | rfl | assumption) hS ?_; clear hS; (try clear ww); intro ww hS) | (refine w_s1 rfl _ _ rfl (by rfl) (by repeat constructor) (by first | exact .c | exact .t rfl) (by rfl) (by repeat constructor) hS ?_; clear hS; (try clear ww); intro ww hS))
  (try simp only [Act.put]); (try simp only [List.setIfInBounds_toArray]); (try simp only [List.set_cons_succ]); (try simp only [List.set_cons_zero])
  have bU : -4294967296 ≤ max u0 (y + r + g + nd) ∧ max u0 (y + r + g + nd) ≤ 4294967296 := by omega
  have bV : -4294967296 ≤ max d0 (dh + g - y) ∧ max d0 (dh + g - y) ≤ 4294967296 := by omega
  generalize max u0 (y + r + g + nd) = U at *
  generalize max d0 (dh + g - y) = V at *
  have iW : I64 W := by unfold I64; omega
  have ir : I64 r := by unfold I64; omega
  have iy : I64 y := by unfold I64; omega
  have iU : I64 U := by unfold I64; omega
  have iV : I64 (-V) := by unfold I64; omega
  have iH : I64 (max (U + nh) (y + r)) := by unfold I64; omega
  have iD : I64 (max (dd + V) (-y)) := by unfold I64; omega
  have sn := (validB_small hn)
  have sd := (validB_small hd)
  have hsm : ∀ k ∈ [atXY (n + 1) (⟨nk, nn, nsz, nw, nh, nd, nx, ny, nof, nsrc⟩, nkids) (hlf (W - nw)) U, atXY (n + 1) (ruleB n W r 0) 0 y, atXY (n + 1) (⟨dk, dn, dsz, dw, dh, dd, dx, dy, dof, dsrc⟩, dkids) (hlf (W - dw)) (-V)], Small (n + 1) k ∧ bCount (n + 1) k ≤ 1000000 := fun k hk => by
    simp only [List.mem_cons, List.not_mem_nil, or_false] at hk
    rcases hk with rfl | rfl | rfl
    · exact ⟨small_at sn.1, Nat.le_trans (Nat.le_of_eq count_at) (Nat.le_trans sn.2 (by omega))⟩
    · exact ⟨small_at ⟨Nat.zero_le _, Nat.zero_le _, fun k hk => by cases hk⟩, Nat.le_trans (Nat.le_of_eq count_at) (by simp [bCount, ruleB])⟩
    · exact ⟨small_at sd.1, Nat.le_trans (Nat.le_of_eq count_at) (Nat.le_trans sd.2 (by omega))⟩
  refine own_any hS [8] 9 (by kernel_rfl) (by kernel_rfl) ?_
  clear hS
  intro hcl ww hS
  refine own_batch hS [0, 1, 2, 4, 5] 4 rfl hcl (by kernel_rfl) ?_
  (try simp only); repeat (first | (simp only [List.filterMap_cons]) | (simp only [List.filterMap_nil]) | (simp only [List.getElem?_toArray]) | (simp only [List.getElem?_cons_succ]) | (simp only [List.getElem?_cons_zero]) | (simp only [List.reverse_cons]) | (simp only [List.reverse_nil]) | (simp only [List.nil_append]) | (simp only [List.cons_append]))
  repeat (first
      | (first | (refine g_plain rfl ?_) | (refine g_yes rfl rfl rfl (by simp only [List.getElem?_toArray, List.getElem?_cons_succ, List.getElem?_cons_zero]; rfl) (by with_reducible constructor) ?_)
         apply Exists.intro; refine ⟨?_, ?_⟩
         focus (intro wq hq0; (first | have hq : Own _ _ _ wq := hq0 | have hq : Own _ _ _ wq := hq0.1 | skip); first | ((with_reducible show givesAt _ ({ dst := _, op := Op.load _ _, type := _, pos := _, after := _, guard := _ } : Oper) _ _ _); first | (exact givesAt_rd rfl (by rfl) (by first | exact rd_1 (by repeat constructor) (by first | rfl | assumption) | exact rd_w (by repeat constructor) (by rfl) | exact rd_o (by assumption) (by rfl) (by first | exact nmn | assumption | simp) | exact rd_h (by assumption) (by rfl) (by first | exact nmn | assumption | simp) | exact rd_1o (by assumption) (by first | exact nmn | assumption | simp) | exact rd_1h (by assumption) (by first | rfl | assumption) (by first | exact nmn | assumption | simp)) hq)) | (go_simp; first | (with_reducible rfl)))
         simp only [Act.put, List.setIfInBounds_toArray]; (try simp only [List.set_cons_succ]); (try simp only [List.set_cons_zero]))
      | (refine g_no rfl rfl rfl (by simp only [List.getElem?_toArray, List.getElem?_cons_succ, List.getElem?_cons_zero]; rfl) (by with_reducible constructor) ?_; simp only [Act.put, List.setIfInBounds_toArray]; (try simp only [List.set_cons_succ]); (try simp only [List.set_cons_zero])))
  refine g_nil ?_
  clear hS hcl
  intro hcl ww hS
  refine own_late hS 7 [3, 6] 1 rfl (by simp only [List.getElem?_toArray, List.getElem?_cons_succ, List.getElem?_cons_zero]; rfl) rfl rfl zt_box hcl (by kernel_rfl) ?_
  clear hS hcl
  intro wa hS _
  refine chn_soft 3 (by simp only [List.getElem?_toArray, List.getElem?_cons_succ, List.getElem?_cons_zero]; rfl) ?_
  clear hS
  intro hS
  go_wp2_with (first | (go_at_call 26; refine Calls.mono (box_Rule_I (fun k => k < w.heap.size) n W r 0 _ iW ir i64_0) ?_; rintro e w1 ⟨cs1, rfl, hr1, hb1⟩))
  refine ⟨[], hS.step hb1, ?_⟩
  clear hS
  intro wb hS hbb
  have q1 : RepP (fun k => k < w.heap.size) wb (n + 1) (ruleB n W r 0) cs1 := rep_bare (hr1.rep.step hbb) rfl
  have z1 := q1.len
  obtain ⟨e0, e1, e2, e3, e4, e5, e6, e7, e8, e9, e10, rfl⟩ := eleven z1
  refine chn_soft 6 (by simp only [List.getElem?_toArray, List.getElem?_cons_succ, List.getElem?_cons_zero]; rfl) ?_
  clear hS
  intro hS
  go_wp2_with (first | (go_at_call 24; refine Calls.mono (box_At_I (fun k => k < w.heap.size) n (ruleB n W r 0) _ 0 y _ q1 i64_0 iy (Nat.zero_le _)) ?_; rintro e w2 ⟨cs2, rfl, hr2, hb2⟩))
  refine ⟨[], hS.step hb2, ?_⟩
  clear hS
  intro wc hS _
  clear hS
  intro hcl b18 wd _ hS _
  have z2 := hr2.len
  have hall2 := rep_all hr2
  obtain ⟨f0, f1, f2, f3, f4, f5, f6, f7, f8, f9, f10, rfl⟩ := eleven z2
  have HQr := Lib.hid (fun w' => show RepP (fun k => k < w.heap.size) w' (n + 1) (atXY (n + 1) (ruleB n W r 0) 0 y) [f0, f1, f2, f3, f4, f5, f6, f7, f8, f9, f10] from rep_bare_any hr2.rep rfl)
  clear hr1 hr2 q1 z1 z2 hb1 hb2 hbb
  (try simp only [List.nil_append] at hS)
  (try simp only); (try simp only [List.setIfInBounds_toArray]); (try simp only [List.set_cons_succ]); (try simp only [List.set_cons_zero])
  refine own_hard (D := []) (W := w) 8 hcl (by simp only [List.getElem?_toArray, List.getElem?_cons_succ, List.getElem?_cons_zero]; rfl) (by kernel_rfl) (by kernel_rfl) ?_
  refine own_store rfl _ _ _ rfl rfl rfl hS at0 rt_box (by rfl) hall2 ?_
  clear hS
  intro we hS
  (try simp only [List.set_cons_zero] at hS)
  refine wpList_nil ⟨rfl, _, hS, ?_⟩
  clear hS hcl
  intro hcl wf hS
  refine own_done (by kernel_rfl) ?_
  go_wp2_with (first | (refine own_unguard (by rfl) ?_) | (refine w_ld rfl _ rfl (by rfl) (by first | exact rd_1 (by repeat constructor) (by first | rfl | assumption) | exact rd_w (by repeat constructor) (by rfl) | exact rd_o (by assumption) (by rfl) (by first | exact nmn | assumption | simp) | exact rd_h (by assumption) (by rfl) (by first | exact nmn | assumption | simp) | exact rd_1o (by assumption) (by first | exact nmn | assumption | simp) | exact rd_1h (by assumption) (by first | rfl | assumption) (by first | exact nmn | assumption | simp)) hS ?_) | (refine own_box rfl _ _ rfl (by rfl) hS ?_; clear hS; (try clear ww); intro bb ww hS) | (refine w_al rfl rfl hS ?_; clear hS; (try clear ww); intro bb ww hS) | (refine w_st rfl _ _ rfl (by rfl) (by rfl) (by repeat constructor) (by rfl) (by rfl) (by first | rfl | assumption) hS ?_; clear hS; (try clear ww); intro ww hS) | (refine w_s1 rfl _ _ rfl (by rfl) (by repeat constructor) (by first | exact .c | exact .t rfl) (by rfl) (by repeat constructor) hS ?_; clear hS; (try clear ww); intro ww hS))
  (try simp only [Act.put]); (try simp only [List.setIfInBounds_toArray]); (try simp only [List.set_cons_succ]); (try simp only [List.set_cons_zero])
  refine own_any hS [28] 29 (by kernel_rfl) (by kernel_rfl) ?_
  clear hS
  intro hcl wg hS
  refine own_batch hS [0, 1, 2, 3, 4, 5, 6, 7, 8, 9, 10, 11, 12, 13, 14, 15, 16, 17, 19, 20, 21, 22, 23] 6 rfl hcl (by kernel_rfl) ?_
  (try simp only); repeat (first | (simp only [List.filterMap_cons]) | (simp only [List.filterMap_nil]) | (simp only [List.getElem?_toArray]) | (simp only [List.getElem?_cons_succ]) | (simp only [List.getElem?_cons_zero]) | (simp only [List.reverse_cons]) | (simp only [List.reverse_nil]) | (simp only [List.nil_append]) | (simp only [List.cons_append]))
  repeat (first
      | (first | (refine g_plain rfl ?_) | (refine g_yes rfl rfl rfl (by simp only [List.getElem?_toArray, List.getElem?_cons_succ, List.getElem?_cons_zero]; rfl) (by with_reducible constructor) ?_)
         apply Exists.intro; refine ⟨?_, ?_⟩
         focus (intro wq hq0; (first | have hq : Own _ _ _ wq := hq0 | have hq : Own _ _ _ wq := hq0.1 | skip); first | ((with_reducible show givesAt _ ({ dst := _, op := Op.load _ _, type := _, pos := _, after := _, guard := _ } : Oper) _ _ _); first | (exact givesAt_rd rfl (by rfl) (by first | exact rd_1 (by repeat constructor) (by first | rfl | assumption) | exact rd_w (by repeat constructor) (by rfl) | exact rd_o (by assumption) (by rfl) (by first | exact nmn | assumption | simp) | exact rd_h (by assumption) (by rfl) (by first | exact nmn | assumption | simp) | exact rd_1o (by assumption) (by first | exact nmn | assumption | simp) | exact rd_1h (by assumption) (by first | rfl | assumption) (by first | exact nmn | assumption | simp)) hq)) | (go_simp; first | (with_reducible rfl)))
         simp only [Act.put, List.setIfInBounds_toArray]; (try simp only [List.set_cons_succ]); (try simp only [List.set_cons_zero]))
      | (refine g_no rfl rfl rfl (by simp only [List.getElem?_toArray, List.getElem?_cons_succ, List.getElem?_cons_zero]; rfl) (by with_reducible constructor) ?_; simp only [Act.put, List.setIfInBounds_toArray]; (try simp only [List.set_cons_succ]); (try simp only [List.set_cons_zero])))
  refine g_nil ?_
  clear hS hcl
  intro hcl ww hS
  refine own_late hS 27 [18, 24, 25, 26] 1 rfl (by simp only [List.getElem?_toArray, List.getElem?_cons_succ, List.getElem?_cons_zero]; rfl) rfl rfl zt_box hcl (by kernel_rfl) ?_
  clear hS hcl
  intro wa hS _
  have HO := Lib.hid hS
  have qn := repP_step (repP_old hr) hS.below
  have cW := (hS.get at1).cell 0
  refine chn_soft 18 (by simp only [List.getElem?_toArray, List.getElem?_cons_succ, List.getElem?_cons_zero]; rfl) ?_
  clear hS
  intro hS
  go_wp2_with (first | (go_at_call 23; refine Calls.mono (place_I (fun k => k < w.heap.size) n _ _ U W _ _ qn iU sn.1.1 cW bW ln.1) ?_; rintro e w1 ⟨cs1, rfl, hr1, hb1⟩))
  refine ⟨[], hS.step hb1, ?_⟩
  clear hS qn cW
  intro wb hS hbb
  (try simp only [List.nil_append] at hS)
  have q1 := repP_step hr1 hbb
  have z1 := hr1.len
  obtain ⟨g0, g1, g2, g3, g4, g5, g6, g7, g8, g9, g10, rfl⟩ := eleven z1
  have qd := repP_step (repP_old hs) hS.below
  have cW := (hS.get at1).cell 0
  have HOb := Lib.hid hS
  refine chn_soft 24 (by simp only [List.getElem?_toArray, List.getElem?_cons_succ, List.getElem?_cons_zero]; rfl) ?_
  clear hS
  intro hS
  go_wp2_with (first | (go_at_call 23; refine Calls.mono (place_I (fun k => k < w.heap.size) n _ _ (-V) W _ _ qd iV sd.1.1 cW bW ld.1) ?_; rintro e w2 ⟨cs2, rfl, hr2, hb2⟩))
  refine ⟨[], hS.step hb2, ?_⟩
  clear hS qd cW hr1
  intro wc hS hbc
  (try simp only [List.nil_append] at hS)
  have q2 := repP_step hr2 hbc
  have z2 := hr2.len
  obtain ⟨k0, k1, k2, k3, k4, k5, k6, k7, k8, k9, k10, rfl⟩ := eleven z2
  refine chn_soft 25 (by simp only [List.getElem?_toArray, List.getElem?_cons_succ, List.getElem?_cons_zero]; rfl) ?_
  clear hS hr2
  intro hS
  refine own_buildSlice rfl _ _ 3 _ rfl [g0, g1, g2, g3, g4, g5, g6, g7, g8, g9, g10, f0, f1, f2, f3, f4, f5, f6, f7, f8, f9, f10, k0, k1, k2, k3, k4, k5, k6, k7, k8, k9, k10] hS Try.underlying30 (by kernel_rfl) ?_
  have hOc := hS
  clear hS
  intro bs w3 hS
  refine wpList_nil ⟨rfl, _, hS, ?_⟩
  have hb3 := hS.below
  clear hS
  intro wd hS hbd
  have q1d := repP_step (repP_step (repP_step (repP_step q1 hb2) hbc) hb3) hbd
  have q2d := repP_step (repP_step q2 hb3) hbd
  have hrow := three_boxes (P := fun k => k < w.heap.size ∨ (wa.heap.size ≤ k ∧ k < w1.heap.size) ∨ (wb.heap.size ≤ k ∧ k < w2.heap.size)) (e1 := [g0, g1, g2, g3, g4, g5, g6, g7, g8, g9, g10]) (e2 := [f0, f1, f2, f3, f4, f5, f6, f7, f8, f9, f10]) (e3 := [k0, k1, k2, k3, k4, k5, k6, k7, k8, k9, k10]) (hS.get at0)
    (repP_mono q1d (fun k hk => by rcases hk with h | h <;> simp [h])) (repP_mono (HQr.out wd) (fun k hk => by simp [hk])) (repP_mono q2d (fun k hk => by rcases hk with h | h <;> simp [h]))
  have hsz : wa.heap.size ≤ wb.heap.size ∧ wa.heap.size ≤ wc.heap.size ∧ wa.heap.size ≤ wd.heap.size := by
    have s1 := hb1.size
    have s2 := hbb.size
    have s3 := hb2.size
    have s4 := hbc.size
    have s5 := hb3.size
    have s6 := hbd.size
    omega
  refine chn_soft 26 (by simp only [List.getElem?_toArray, List.getElem?_cons_succ, List.getElem?_cons_zero]; rfl) ?_
  clear hS q1 q2 q1d q2d hOc
  have hLs := Lib.hid (box_List_I (fun k => k < w.heap.size ∨ (wa.heap.size ≤ k ∧ k < w1.heap.size) ∨ (wb.heap.size ≤ k ∧ k < w2.heap.size)) (n + 1) _ _ 3 W (max (U + nh) (y + r)) (max (dd + V) (-y)) _ hrow hsm (by simp) iW iH iD)
  intro hS
  go_wp2_with (first | (go_at_call 27; refine Calls.mono hLs.out ?_; rintro e w4 ⟨cs4, rfl, hr4, hb4⟩))
  refine ⟨[], hS.step hb4, ?_⟩
  clear hS hrow
  intro we hS hbe
  clear hS
  intro hcl b19 wf hoff hS hbf
  (try simp only [List.nil_append] at hS)
  have hF := hS.forget (List.Sublist.cons_cons _ (List.sublist_cons_self _ _))
  clear hS
  have hr5 := repP_A (repP_step (repP_step hr4 hbe) hbf) (frame_away HO.out hF hoff (fun p hp => by
    simp only [List.mem_cons, List.not_mem_nil, or_false] at hp
    rcases hp with rfl | rfl | rfl | rfl
    · exact hsz.2.2
    · exact hsz.2.1
    · exact hsz.1
    · exact Nat.le_refl _) (fun k hk => by
      rcases hk with (h | h | h) | h
      · exact .inl h
      · exact .inr ⟨(wa.heap.size, w1.heap.size), by simp, h⟩
      · exact .inr ⟨(wb.heap.size, w2.heap.size), by simp, h⟩
      · exact .inr ⟨(wd.heap.size, w4.heap.size), by simp, h⟩))
  have z4 := hr5.len
  have hall5 := rep_all hr5
  obtain ⟨m0, m1, m2, m3, m4, m5, m6, m7, m8, m9, m10, rfl⟩ := eleven z4
  clear hr4 z4 hb1 hbb hb2 hbc hb3 hbd hb4 hbe hbf hsz hsm hLs
  obtain ⟨DD, hDD, hS⟩ := own_again hF
  have HF := Lib.hid hF
  rw [← hDD.out] at hr5
  have HR5 := Lib.hid hr5
  clear hF hr5 hoff
  have HVR := Lib.hid (fun (ww : World) (L' : List (Nat × List Value)) (h : Own DD wf L' ww) => box_Valid_calls (n + 2) _ _ ww (repA_turn HR5.out h (fun _ h => h)).rep (repA_turn HR5.out h (fun _ h => h)).rep.wide _ (iff_t hvR))
  (try simp only); (try simp only [List.setIfInBounds_toArray]); (try simp only [List.set_cons_succ]); (try simp only [List.set_cons_zero])
  refine own_hard (D := DD) (W := wf) 28 hcl (by simp only [List.getElem?_toArray, List.getElem?_cons_succ, List.getElem?_cons_zero]; rfl) (by kernel_rfl) (by kernel_rfl) ?_
  refine own_store rfl _ _ _ rfl rfl rfl hS at0 rt_box (by rfl) hall5 ?_
  clear hS
  intro wh hS
  (try simp only [List.set_cons_zero] at hS)
  refine wpList_nil ⟨rfl, _, hS, ?_⟩
  clear hS hcl
  intro hcl wi hS
  refine own_done (by kernel_rfl) ?_
  clear hcl
  go_wp2_with (first | (refine own_unguard (by rfl) ?_) | (go_at_call 17; refine own_calls hS (HVR.out _ _ hS) ?_; clear hS; (try clear ww); intro ww hS) | (refine own_store rfl _ _ _ rfl rfl rfl hS at4 rt_box (by rfl) hall5 ?_; clear hS; intro ww hS) | (refine w_ld rfl _ rfl (by rfl) (by first | exact rd_1 (by repeat constructor) (by first | rfl | assumption) | exact rd_w (by repeat constructor) (by rfl) | exact rd_o (by assumption) (by rfl) (by first | exact nmn | assumption | simp) | exact rd_h (by assumption) (by rfl) (by first | exact nmn | assumption | simp) | exact rd_1o (by assumption) (by first | exact nmn | assumption | simp) | exact rd_1h (by assumption) (by first | rfl | assumption) (by first | exact nmn | assumption | simp)) hS ?_) | (refine own_box rfl _ _ rfl (by rfl) hS ?_; clear hS; (try clear ww); intro bb ww hS) | (refine w_al rfl rfl hS ?_; clear hS; (try clear ww); intro bb ww hS) | (refine w_st rfl _ _ rfl (by rfl) (by rfl) (by repeat constructor) (by rfl) (by rfl) (by first | rfl | assumption) hS ?_; clear hS; (try clear ww); intro ww hS) | (refine w_s1 rfl _ _ rfl (by rfl) (by repeat constructor) (by first | exact .c | exact .t rfl) (by rfl) (by repeat constructor) hS ?_; clear hS; (try clear ww); intro ww hS))
  (try simp only [List.set_cons_zero] at hS); (try simp only [List.set_cons_succ] at hS)
  obtain rfl := hDD.out
  have hc := (hS.get at4).cell
  refine bodyPost_ret (v := .tuple #[.agg #[m0, m1, m2, m3, m4, m5, m6, m7, m8, m9, m10], .int .i64 0]) (by simp [results, Try.results11, go_sem, hc]) rfl ⟨_, rfl, (repA_turn HR5.out hS (fun _ h => h)).rep, (HF.out.chain hS).below⟩

set_option maxHeartbeats 16000000 in
set_option maxRecDepth 100000 in
theorem fracMake_lim (F : Fnt) (l : Int) (c : Bool) (n : Nat) (num den : Bx (n + 1)) (cs ds : List Value) (w : World) (hF : FntOk w F) (hl : lvlOk l = true) (hv : ValidF F) (hr : Rep w (n + 1) num cs) (hs : Rep w (n + 1) den ds) (hn : validB (n + 1) num) (hd : validB (n + 1) den) (m : Nat) (hvR : ¬ validB (n + 2) (fracB F l n num den)) :
    Calls Try.prog 11 #[F.val, .agg #[.int .i64 l, .bool c], .agg cs.toArray, .agg ds.toArray] w (GivesBE (m + 1) (zeroB m) 6 w) := by
  have HPc := Lib.hid (fun w' (h : Below w.heap.size w w') => style_Percent_calls F l (sizeOf' F l) 0 c w' (hF.below h) ⟨fun _ => ⟨rfl, rfl⟩, fun h => by
    rcases h with h | h
    · rw [hl] at h; cases h
    · exact absurd hv h⟩)
  have HVn := Lib.hid (fun w' (h : Below w.heap.size w w') => box_Valid_calls (n + 1) num cs w' (hr.step h) hr.wide _ (iff_t hn))
  have HVd := Lib.hid (fun w' (h : Below w.heap.size w w') => box_Valid_calls (n + 1) den ds w' (hs.step h) hs.wide _ (iff_t hd))
  have HMe := Lib.hid (fun w' => measure_calls F l c w' hv)
  have hp := prm_len hv
  have br := par_in (l := l) hv hp.1.1 hp.1.2
  have br : 0 ≤ par F l F.rule ∧ par F l F.rule ≤ 20000 := by omega
  have bx := par_in (l := l) hv hp.2.1.1 hp.2.1.2
  have bh := hlf_in br.1 (by omega)
  have by_ : -20000 ≤ fracY F l ∧ fracY F l ≤ 20000 := by unfold fracY; omega
  have bg : 0 ≤ fracGap l (par F l F.rule) ∧ fracGap l (par F l F.rule) ≤ 60000 := by unfold fracGap; split <;> omega
  have bu : 0 ≤ fracUp F l ∧ fracUp F l ≤ 20000 := by
    unfold fracUp
    split
    · have := par_in (l := l) hv hp.2.2.1.1 hp.2.2.1.2; omega
    · have := par_in (l := l) hv hp.2.2.2.1.1 hp.2.2.2.1.2; omega
  have bd : 0 ≤ fracDown F l ∧ fracDown F l ≤ 20000 := by
    unfold fracDown
    split
    · have := par_in (l := l) hv hp.2.2.2.2.1.1 hp.2.2.2.2.1.2; omega
    · have := par_in (l := l) hv hp.2.2.2.2.2.1 hp.2.2.2.2.2.2; omega
  obtain ⟨⟨nk, nn, nsz, nw, nh, nd, nx, ny, nof, nsrc⟩, nkids⟩ := num
  obtain ⟨⟨dk, dn, dsz, dw, dh, dd, dx, dy, dof, dsrc⟩, dkids⟩ := den
  have ln := valid_lens hn
  have ld := valid_lens hd
  obtain ⟨kx, kc, sx, sc, rfl, _, _, _, _⟩ := rep_out hr
  obtain ⟨ex, ec, tx, tc, rfl, _, _, _, _⟩ := rep_out hs
  simp only at ln ld
  unfold fracB fracUpY fracDnY at hvR
  simp only at hvR
  generalize par F l F.rule = r at *
  generalize fracY F l = y at *
  generalize fracGap l r = g at *
  generalize fracUp F l = u0 at *
  generalize fracDown F l = d0 at *
  have hmx : ∀ (w : World) (ts : Array TypeId) (t : TypeId), (Builtin.max_ ts t #[.int .i64 0, .int .i64 nw, .int .i64 dw]).run Try.prog w = .ok (.int .i64 (fracW nw dw)) w := fun w ts t => by
    rw [run_max_int3]
    have e : (if dw > (if nw > 0 then nw else 0) then dw else (if nw > 0 then nw else 0)) = fracW nw dw := by
      unfold fracW
      repeat' split
      all_goals omega
    rw [e]
  have bW : 0 ≤ fracW nw dw ∧ fracW nw dw ≤ 1073741824 := by unfold fracW; omega
  generalize fracW nw dw = W at *
  clear bx bh hp hF
  go_enter Try.func11, Try.ntmps11
  have hS := own_start w
  go_wp2_with (first | (refine own_unguard (by rfl) ?_) | (refine own_store1 (v := .int .i64 W) rfl _ _ _ rfl rfl rfl rfl hS at0 ot_int (by simp) ?_; clear hS; intro ww hS; (try simp only [List.set_cons_zero] at hS)) | (go_at_call 21; refine own_calls hS (HPc.out _ hS.below) ?_; clear hS; (try clear ww); intro ww hS) | (go_at_call 17; refine own_calls hS (by first | exact HVn.out _ hS.below | exact HVd.out _ hS.below) ?_; clear hS; (try clear ww); intro ww hS) | (go_at_call 22; refine own_calls hS (HMe.out _) ?_; clear hS; (try clear ww); intro ww hS) | (refine w_ld rfl _ rfl (by rfl) (by first | exact rd_1 (by repeat constructor) (by first | rfl | assumption) | exact rd_w (by repeat constructor) (by rfl) | exact rd_o (by assumption) (by rfl) (by first | exact nmn | assumption | simp) | exact rd_h (by assumption) (by rfl) (by first | exact nmn | assumption | simp) | exact rd_1o (by assumption) (by first | exact nmn | assumption | simp) | exact rd_1h (by assumption) (by first | rfl | assumption) (by first | exact nmn | assumption | simp)) hS ?_) | (refine own_box rfl _ _ rfl (by rfl) hS ?_; clear hS; (try clear ww); intro bb ww hS) | (refine w_al rfl rfl hS ?_; clear hS; (try clear ww); intro bb ww hS) | (refine w_st rfl _ _ rfl (by rfl) (by rfl) (by repeat constructor) (by rfl) (by rfl) (by first | rfl | assumption) hS ?_; clear hS; (try clear ww); intro ww hS) | (refine w_s1 rfl _ _ rfl (by rfl) (by repeat constructor) (by first | exact .c | exact .t rfl) (by rfl) (by repeat constructor) hS ?_; clear hS; (try clear ww); intro ww hS))
  (try simp only [Act.put]); (try simp only [List.setIfInBounds_toArray]); (try simp only [List.set_cons_succ]); (try simp only [List.set_cons_zero])
  have bU : -4294967296 ≤ max u0 (y + r + g + nd) ∧ max u0 (y + r + g + nd) ≤ 4294967296 := by omega
  have bV : -4294967296 ≤ max d0 (dh + g - y) ∧ max d0 (dh + g - y) ≤ 4294967296 := by omega
  generalize max u0 (y + r + g + nd) = U at *
  generalize max d0 (dh + g - y) = V at *
  have iW : I64 W := by unfold I64; omega
  have ir : I64 r := by unfold I64; omega
  have iy : I64 y := by unfold I64; omega
  have iU : I64 U := by unfold I64; omega
  have iV : I64 (-V) := by unfold I64; omega
  have iH : I64 (max (U + nh) (y + r)) := by unfold I64; omega
  have iD : I64 (max (dd + V) (-y)) := by unfold I64; omega
  have sn := (validB_small hn)
  have sd := (validB_small hd)
  have hsm : ∀ k ∈ [atXY (n + 1) (⟨nk, nn, nsz, nw, nh, nd, nx, ny, nof, nsrc⟩, nkids) (hlf (W - nw)) U, atXY (n + 1) (ruleB n W r 0) 0 y, atXY (n + 1) (⟨dk, dn, dsz, dw, dh, dd, dx, dy, dof, dsrc⟩, dkids) (hlf (W - dw)) (-V)], Small (n + 1) k ∧ bCount (n + 1) k ≤ 1000000 := fun k hk => by
    simp only [List.mem_cons, List.not_mem_nil, or_false] at hk
    rcases hk with rfl | rfl | rfl
    · exact ⟨small_at sn.1, Nat.le_trans (Nat.le_of_eq count_at) (Nat.le_trans sn.2 (by omega))⟩
    · exact ⟨small_at ⟨Nat.zero_le _, Nat.zero_le _, fun k hk => by cases hk⟩, Nat.le_trans (Nat.le_of_eq count_at) (by simp [bCount, ruleB])⟩
    · exact ⟨small_at sd.1, Nat.le_trans (Nat.le_of_eq count_at) (Nat.le_trans sd.2 (by omega))⟩
  refine own_any hS [8] 9 (by kernel_rfl) (by kernel_rfl) ?_
  clear hS
  intro hcl ww hS
  refine own_batch hS [0, 1, 2, 4, 5] 4 rfl hcl (by kernel_rfl) ?_
  (try simp only); repeat (first | (simp only [List.filterMap_cons]) | (simp only [List.filterMap_nil]) | (simp only [List.getElem?_toArray]) | (simp only [List.getElem?_cons_succ]) | (simp only [List.getElem?_cons_zero]) | (simp only [List.reverse_cons]) | (simp only [List.reverse_nil]) | (simp only [List.nil_append]) | (simp only [List.cons_append]))
  repeat (first
      | (first | (refine g_plain rfl ?_) | (refine g_yes rfl rfl rfl (by simp only [List.getElem?_toArray, List.getElem?_cons_succ, List.getElem?_cons_zero]; rfl) (by with_reducible constructor) ?_)
         apply Exists.intro; refine ⟨?_, ?_⟩
         focus (intro wq hq0; (first | have hq : Own _ _ _ wq := hq0 | have hq : Own _ _ _ wq := hq0.1 | skip); first | ((with_reducible show givesAt _ ({ dst := _, op := Op.load _ _, type := _, pos := _, after := _, guard := _ } : Oper) _ _ _); first | (exact givesAt_rd rfl (by rfl) (by first | exact rd_1 (by repeat constructor) (by first | rfl | assumption) | exact rd_w (by repeat constructor) (by rfl) | exact rd_o (by assumption) (by rfl) (by first | exact nmn | assumption | simp) | exact rd_h (by assumption) (by rfl) (by first | exact nmn | assumption | simp) | exact rd_1o (by assumption) (by first | exact nmn | assumption | simp) | exact rd_1h (by assumption) (by first | rfl | assumption) (by first | exact nmn | assumption | simp)) hq)) | (go_simp; first | (with_reducible rfl)))
         simp only [Act.put, List.setIfInBounds_toArray]; (try simp only [List.set_cons_succ]); (try simp only [List.set_cons_zero]))
      | (refine g_no rfl rfl rfl (by simp only [List.getElem?_toArray, List.getElem?_cons_succ, List.getElem?_cons_zero]; rfl) (by with_reducible constructor) ?_; simp only [Act.put, List.setIfInBounds_toArray]; (try simp only [List.set_cons_succ]); (try simp only [List.set_cons_zero])))
  refine g_nil ?_
  clear hS hcl
  intro hcl ww hS
  refine own_late hS 7 [3, 6] 1 rfl (by simp only [List.getElem?_toArray, List.getElem?_cons_succ, List.getElem?_cons_zero]; rfl) rfl rfl zt_box hcl (by kernel_rfl) ?_
  clear hS hcl
  intro wa hS _
  refine chn_soft 3 (by simp only [List.getElem?_toArray, List.getElem?_cons_succ, List.getElem?_cons_zero]; rfl) ?_
  clear hS
  intro hS
  go_wp2_with (first | (go_at_call 26; refine Calls.mono (box_Rule_I (fun k => k < w.heap.size) n W r 0 _ iW ir i64_0) ?_; rintro e w1 ⟨cs1, rfl, hr1, hb1⟩))
  refine ⟨[], hS.step hb1, ?_⟩
  clear hS
  intro wb hS hbb
  have q1 : RepP (fun k => k < w.heap.size) wb (n + 1) (ruleB n W r 0) cs1 := rep_bare (hr1.rep.step hbb) rfl
  have z1 := q1.len
  obtain ⟨e0, e1, e2, e3, e4, e5, e6, e7, e8, e9, e10, rfl⟩ := eleven z1
  refine chn_soft 6 (by simp only [List.getElem?_toArray, List.getElem?_cons_succ, List.getElem?_cons_zero]; rfl) ?_
  clear hS
  intro hS
  go_wp2_with (first | (go_at_call 24; refine Calls.mono (box_At_I (fun k => k < w.heap.size) n (ruleB n W r 0) _ 0 y _ q1 i64_0 iy (Nat.zero_le _)) ?_; rintro e w2 ⟨cs2, rfl, hr2, hb2⟩))
  refine ⟨[], hS.step hb2, ?_⟩
  clear hS
  intro wc hS _
  clear hS
  intro hcl b18 wd _ hS _
  have z2 := hr2.len
  have hall2 := rep_all hr2
  obtain ⟨f0, f1, f2, f3, f4, f5, f6, f7, f8, f9, f10, rfl⟩ := eleven z2
  have HQr := Lib.hid (fun w' => show RepP (fun k => k < w.heap.size) w' (n + 1) (atXY (n + 1) (ruleB n W r 0) 0 y) [f0, f1, f2, f3, f4, f5, f6, f7, f8, f9, f10] from rep_bare_any hr2.rep rfl)
  clear hr1 hr2 q1 z1 z2 hb1 hb2 hbb
  (try simp only [List.nil_append] at hS)
  (try simp only); (try simp only [List.setIfInBounds_toArray]); (try simp only [List.set_cons_succ]); (try simp only [List.set_cons_zero])
  refine own_hard (D := []) (W := w) 8 hcl (by simp only [List.getElem?_toArray, List.getElem?_cons_succ, List.getElem?_cons_zero]; rfl) (by kernel_rfl) (by kernel_rfl) ?_
  refine own_store rfl _ _ _ rfl rfl rfl hS at0 rt_box (by rfl) hall2 ?_
  clear hS
  intro we hS
  (try simp only [List.set_cons_zero] at hS)
  refine wpList_nil ⟨rfl, _, hS, ?_⟩
  clear hS hcl
  intro hcl wf hS
  refine own_done (by kernel_rfl) ?_
  go_wp2_with (first | (refine own_unguard (by rfl) ?_) | (refine w_ld rfl _ rfl (by rfl) (by first | exact rd_1 (by repeat constructor) (by first | rfl | assumption) | exact rd_w (by repeat constructor) (by rfl) | exact rd_o (by assumption) (by rfl) (by first | exact nmn | assumption | simp) | exact rd_h (by assumption) (by rfl) (by first | exact nmn | assumption | simp) | exact rd_1o (by assumption) (by first | exact nmn | assumption | simp) | exact rd_1h (by assumption) (by first | rfl | assumption) (by first | exact nmn | assumption | simp)) hS ?_) | (refine own_box rfl _ _ rfl (by rfl) hS ?_; clear hS; (try clear ww); intro bb ww hS) | (refine w_al rfl rfl hS ?_; clear hS; (try clear ww); intro bb ww hS) | (refine w_st rfl _ _ rfl (by rfl) (by rfl) (by repeat constructor) (by rfl) (by rfl) (by first | rfl | assumption) hS ?_; clear hS; (try clear ww); intro ww hS) | (refine w_s1 rfl _ _ rfl (by rfl) (by repeat constructor) (by first | exact .c | exact .t rfl) (by rfl) (by repeat constructor) hS ?_; clear hS; (try clear ww); intro ww hS))
  (try simp only [Act.put]); (try simp only [List.setIfInBounds_toArray]); (try simp only [List.set_cons_succ]); (try simp only [List.set_cons_zero])
  refine own_any hS [28] 29 (by kernel_rfl) (by kernel_rfl) ?_
  clear hS
  intro hcl wg hS
  refine own_batch hS [0, 1, 2, 3, 4, 5, 6, 7, 8, 9, 10, 11, 12, 13, 14, 15, 16, 17, 19, 20, 21, 22, 23] 6 rfl hcl (by kernel_rfl) ?_
  (try simp only); repeat (first | (simp only [List.filterMap_cons]) | (simp only [List.filterMap_nil]) | (simp only [List.getElem?_toArray]) | (simp only [List.getElem?_cons_succ]) | (simp only [List.getElem?_cons_zero]) | (simp only [List.reverse_cons]) | (simp only [List.reverse_nil]) | (simp only [List.nil_append]) | (simp only [List.cons_append]))
  repeat (first
      | (first | (refine g_plain rfl ?_) | (refine g_yes rfl rfl rfl (by simp only [List.getElem?_toArray, List.getElem?_cons_succ, List.getElem?_cons_zero]; rfl) (by with_reducible constructor) ?_)
         apply Exists.intro; refine ⟨?_, ?_⟩
         focus (intro wq hq0; (first | have hq : Own _ _ _ wq := hq0 | have hq : Own _ _ _ wq := hq0.1 | skip); first | ((with_reducible show givesAt _ ({ dst := _, op := Op.load _ _, type := _, pos := _, after := _, guard := _ } : Oper) _ _ _); first | (exact givesAt_rd rfl (by rfl) (by first | exact rd_1 (by repeat constructor) (by first | rfl | assumption) | exact rd_w (by repeat constructor) (by rfl) | exact rd_o (by assumption) (by rfl) (by first | exact nmn | assumption | simp) | exact rd_h (by assumption) (by rfl) (by first | exact nmn | assumption | simp) | exact rd_1o (by assumption) (by first | exact nmn | assumption | simp) | exact rd_1h (by assumption) (by first | rfl | assumption) (by first | exact nmn | assumption | simp)) hq)) | (go_simp; first | (with_reducible rfl)))
         simp only [Act.put, List.setIfInBounds_toArray]; (try simp only [List.set_cons_succ]); (try simp only [List.set_cons_zero]))
      | (refine g_no rfl rfl rfl (by simp only [List.getElem?_toArray, List.getElem?_cons_succ, List.getElem?_cons_zero]; rfl) (by with_reducible constructor) ?_; simp only [Act.put, List.setIfInBounds_toArray]; (try simp only [List.set_cons_succ]); (try simp only [List.set_cons_zero])))
  refine g_nil ?_
  clear hS hcl
  intro hcl ww hS
  refine own_late hS 27 [18, 24, 25, 26] 1 rfl (by simp only [List.getElem?_toArray, List.getElem?_cons_succ, List.getElem?_cons_zero]; rfl) rfl rfl zt_box hcl (by kernel_rfl) ?_
  clear hS hcl
  intro wa hS _
  have HO := Lib.hid hS
  have qn := repP_step (repP_old hr) hS.below
  have cW := (hS.get at1).cell 0
  refine chn_soft 18 (by simp only [List.getElem?_toArray, List.getElem?_cons_succ, List.getElem?_cons_zero]; rfl) ?_
  clear hS
  intro hS
  go_wp2_with (first | (go_at_call 23; refine Calls.mono (place_I (fun k => k < w.heap.size) n _ _ U W _ _ qn iU sn.1.1 cW bW ln.1) ?_; rintro e w1 ⟨cs1, rfl, hr1, hb1⟩))
  refine ⟨[], hS.step hb1, ?_⟩
  clear hS qn cW
  intro wb hS hbb
  (try simp only [List.nil_append] at hS)
  have q1 := repP_step hr1 hbb
  have z1 := hr1.len
  obtain ⟨g0, g1, g2, g3, g4, g5, g6, g7, g8, g9, g10, rfl⟩ := eleven z1
  have qd := repP_step (repP_old hs) hS.below
  have cW := (hS.get at1).cell 0
  have HOb := Lib.hid hS
  refine chn_soft 24 (by simp only [List.getElem?_toArray, List.getElem?_cons_succ, List.getElem?_cons_zero]; rfl) ?_
  clear hS
  intro hS
  go_wp2_with (first | (go_at_call 23; refine Calls.mono (place_I (fun k => k < w.heap.size) n _ _ (-V) W _ _ qd iV sd.1.1 cW bW ld.1) ?_; rintro e w2 ⟨cs2, rfl, hr2, hb2⟩))
  refine ⟨[], hS.step hb2, ?_⟩
  clear hS qd cW hr1
  intro wc hS hbc
  (try simp only [List.nil_append] at hS)
  have q2 := repP_step hr2 hbc
  have z2 := hr2.len
  obtain ⟨k0, k1, k2, k3, k4, k5, k6, k7, k8, k9, k10, rfl⟩ := eleven z2
  refine chn_soft 25 (by simp only [List.getElem?_toArray, List.getElem?_cons_succ, List.getElem?_cons_zero]; rfl) ?_
  clear hS hr2
  intro hS
  refine own_buildSlice rfl _ _ 3 _ rfl [g0, g1, g2, g3, g4, g5, g6, g7, g8, g9, g10, f0, f1, f2, f3, f4, f5, f6, f7, f8, f9, f10, k0, k1, k2, k3, k4, k5, k6, k7, k8, k9, k10] hS Try.underlying30 (by kernel_rfl) ?_
  have hOc := hS
  clear hS
  intro bs w3 hS
  refine wpList_nil ⟨rfl, _, hS, ?_⟩
  have hb3 := hS.below
  clear hS
  intro wd hS hbd
  have q1d := repP_step (repP_step (repP_step (repP_step q1 hb2) hbc) hb3) hbd
  have q2d := repP_step (repP_step q2 hb3) hbd
  have hrow := three_boxes (P := fun k => k < w.heap.size ∨ (wa.heap.size ≤ k ∧ k < w1.heap.size) ∨ (wb.heap.size ≤ k ∧ k < w2.heap.size)) (e1 := [g0, g1, g2, g3, g4, g5, g6, g7, g8, g9, g10]) (e2 := [f0, f1, f2, f3, f4, f5, f6, f7, f8, f9, f10]) (e3 := [k0, k1, k2, k3, k4, k5, k6, k7, k8, k9, k10]) (hS.get at0)
    (repP_mono q1d (fun k hk => by rcases hk with h | h <;> simp [h])) (repP_mono (HQr.out wd) (fun k hk => by simp [hk])) (repP_mono q2d (fun k hk => by rcases hk with h | h <;> simp [h]))
  have hsz : wa.heap.size ≤ wb.heap.size ∧ wa.heap.size ≤ wc.heap.size ∧ wa.heap.size ≤ wd.heap.size := by
    have s1 := hb1.size
    have s2 := hbb.size
    have s3 := hb2.size
    have s4 := hbc.size
    have s5 := hb3.size
    have s6 := hbd.size
    omega
  refine chn_soft 26 (by simp only [List.getElem?_toArray, List.getElem?_cons_succ, List.getElem?_cons_zero]; rfl) ?_
  clear hS q1 q2 q1d q2d hOc
  have hLs := Lib.hid (box_List_I (fun k => k < w.heap.size ∨ (wa.heap.size ≤ k ∧ k < w1.heap.size) ∨ (wb.heap.size ≤ k ∧ k < w2.heap.size)) (n + 1) _ _ 3 W (max (U + nh) (y + r)) (max (dd + V) (-y)) _ hrow hsm (by simp) iW iH iD)
  intro hS
  go_wp2_with (first | (go_at_call 27; refine Calls.mono hLs.out ?_; rintro e w4 ⟨cs4, rfl, hr4, hb4⟩))
  refine ⟨[], hS.step hb4, ?_⟩
  clear hS hrow
  intro we hS hbe
  clear hS
  intro hcl b19 wf hoff hS hbf
  (try simp only [List.nil_append] at hS)
  have hF := hS.forget (List.Sublist.cons_cons _ (List.sublist_cons_self _ _))
  clear hS
  have hr5 := repP_A (repP_step (repP_step hr4 hbe) hbf) (frame_away HO.out hF hoff (fun p hp => by
    simp only [List.mem_cons, List.not_mem_nil, or_false] at hp
    rcases hp with rfl | rfl | rfl | rfl
    · exact hsz.2.2
    · exact hsz.2.1
    · exact hsz.1
    · exact Nat.le_refl _) (fun k hk => by
      rcases hk with (h | h | h) | h
      · exact .inl h
      · exact .inr ⟨(wa.heap.size, w1.heap.size), by simp, h⟩
      · exact .inr ⟨(wb.heap.size, w2.heap.size), by simp, h⟩
      · exact .inr ⟨(wd.heap.size, w4.heap.size), by simp, h⟩))
  have z4 := hr5.len
  have hall5 := rep_all hr5
  obtain ⟨m0, m1, m2, m3, m4, m5, m6, m7, m8, m9, m10, rfl⟩ := eleven z4
  clear hr4 z4 hb1 hbb hb2 hbc hb3 hbd hb4 hbe hbf hsz hsm hLs
  obtain ⟨DD, hDD, hS⟩ := own_again hF
  have HF := Lib.hid hF
  rw [← hDD.out] at hr5
  have HR5 := Lib.hid hr5
  clear hF hr5 hoff
  have HVR := Lib.hid (fun (ww : World) (L' : List (Nat × List Value)) (h : Own DD wf L' ww) => box_Valid_calls (n + 2) _ _ ww (repA_turn HR5.out h (fun _ h => h)).rep (repA_turn HR5.out h (fun _ h => h)).rep.wide _ (iff_f hvR))
  (try simp only); (try simp only [List.setIfInBounds_toArray]); (try simp only [List.set_cons_succ]); (try simp only [List.set_cons_zero])
  refine own_hard (D := DD) (W := wf) 28 hcl (by simp only [List.getElem?_toArray, List.getElem?_cons_succ, List.getElem?_cons_zero]; rfl) (by kernel_rfl) (by kernel_rfl) ?_
  refine own_store rfl _ _ _ rfl rfl rfl hS at0 rt_box (by rfl) hall5 ?_
  clear hS
  intro wh hS
  (try simp only [List.set_cons_zero] at hS)
  refine wpList_nil ⟨rfl, _, hS, ?_⟩
  clear hS hcl
  intro hcl wi hS
  refine own_done (by kernel_rfl) ?_
  clear hcl
  go_wp2_with (first | (refine own_unguard (by rfl) ?_) | (go_at_call 17; refine own_calls hS (HVR.out _ _ hS) ?_; clear hS; (try clear ww); intro ww hS) | (refine own_store rfl _ _ _ rfl rfl rfl hS at4 rt_box (by rfl) hall5 ?_; clear hS; intro ww hS) | (refine w_ld rfl _ rfl (by rfl) (by first | exact rd_1 (by repeat constructor) (by first | rfl | assumption) | exact rd_w (by repeat constructor) (by rfl) | exact rd_o (by assumption) (by rfl) (by first | exact nmn | assumption | simp) | exact rd_h (by assumption) (by rfl) (by first | exact nmn | assumption | simp) | exact rd_1o (by assumption) (by first | exact nmn | assumption | simp) | exact rd_1h (by assumption) (by first | rfl | assumption) (by first | exact nmn | assumption | simp)) hS ?_) | (refine own_box rfl _ _ rfl (by rfl) hS ?_; clear hS; (try clear ww); intro bb ww hS) | (refine w_al rfl rfl hS ?_; clear hS; (try clear ww); intro bb ww hS) | (refine w_st rfl _ _ rfl (by rfl) (by rfl) (by repeat constructor) (by rfl) (by rfl) (by first | rfl | assumption) hS ?_; clear hS; (try clear ww); intro ww hS) | (refine w_s1 rfl _ _ rfl (by rfl) (by repeat constructor) (by first | exact .c | exact .t rfl) (by rfl) (by repeat constructor) hS ?_; clear hS; (try clear ww); intro ww hS))
  (try simp only [List.set_cons_zero] at hS); (try simp only [List.set_cons_succ] at hS)
  obtain rfl := hDD.out
  have hc := (hS.get at4).cell
  refine bodyPost_ret (v := .tuple #[.agg #[.int .i64 0, .string ⟨#[]⟩, .int .i64 0, .int .i64 0, .int .i64 0, .int .i64 0, .int .i64 0, .int .i64 0, .slice none 0 0, .int .i64 0, .slice none 0 0], .int .i64 6]) (by simp [results, Try.results11, go_sem, hc]) rfl ⟨_, rfl, rep_zero m _, (HF.out.chain hS).below⟩

end Go.Proofs.Ytfmoghkffffmmaa
