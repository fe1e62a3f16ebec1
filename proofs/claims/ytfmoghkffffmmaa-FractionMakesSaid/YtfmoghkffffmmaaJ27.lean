/- Texts Rg0, Fcl. -/
import Derived.Test.YtfmoghkffffmmaaJ26
namespace Go.Proofs.Ytfmoghkffffmmaa
open Go.RowKit

attribute [local irreducible] wpQuiet wpG wpP wpK wpList Code.wp Calls

set_option maxHeartbeats 32000000 in
set_option maxRecDepth 100000 in
theorem refMake_zero (F : Fnt) (l : Int) (c : Bool) (n : Nat) (num den : Bx (n + 1)) (cs ds : List Value) (w : World) (hF : FntOk w F) (hq : F.gs.length ≤ 500 ∧ F.ss.length ≤ 50) (hr : Rep w (n + 1) num cs) (hs : Rep w (n + 1) den ds)
    (c1 : bCount (n + 1) num ≤ 1000000) (c2 : bCount (n + 1) den ≤ 1000000) (hl : lvlOk l = true) (hv : ValidF F) (hn : validB (n + 1) num) (hd : validB (n + 1) den) (h0 : l = 0) (m : Nat) (R : Bx (n + 2)) (hR : R = fracB F l n num den) :
    Calls Try.prog 12 #[F.val, .agg #[.int .i64 l, .bool c], .agg cs.toArray, .agg ds.toArray] w (fun e w' => (validB (n + 2) R → GivesBE (n + 2) R 0 w e w') ∧ (¬ validB (n + 2) R → GivesBE (m + 1) (zeroB m) 6 w e w')) := by
  have hp := prm_len hv
  have HPr := Lib.hid (fun w' => ref32_Par_calls F l F.rule c w' hl hv (by omega))
  have HPu := Lib.hid (fun w' => ref32_Par_calls F l F.num1 c w' hl hv (by omega))
  have HPd := Lib.hid (fun w' => ref32_Par_calls F l F.den1 c w' hl hv (by omega))
  have HPu2 := Lib.hid (fun w' => ref32_Par_calls F l F.num2 c w' hl hv (by omega))
  have HPd2 := Lib.hid (fun w' => ref32_Par_calls F l F.den2 c w' hl hv (by omega))
  have HG := Lib.hid (fun w' => ref32_Gap_calls F l c w' hl hv)
  have br := par_in (l := l) hv hp.1.1 hp.1.2
  have br : 0 ≤ par F l F.rule ∧ par F l F.rule ≤ 20000 := by omega
  have bx := par_in (l := l) hv hp.2.1.1 hp.2.1.2
  have bh := hlf_in br.1 (by omega)
  have by_ : -20000 ≤ fracY F l ∧ fracY F l ≤ 20000 := by unfold fracY; omega
  have bg : 0 ≤ fracGap l (par F l F.rule) ∧ fracGap l (par F l F.rule) ≤ 60000 := by unfold fracGap; split <;> omega
  have bu := par_in (l := l) hv (n := F.num1) (by omega) (by omega)
  have bu : 0 ≤ par F l F.num1 ∧ par F l F.num1 ≤ 20000 := by omega
  have bd := par_in (l := l) hv (n := F.den1) (by omega) (by omega)
  have bd : 0 ≤ par F l F.den1 ∧ par F l F.den1 ≤ 20000 := by omega
  have eup : fracUp F l = par F l F.num1 := by unfold fracUp; rw [if_pos h0]
  have edn : fracDown F l = par F l F.den1 := by unfold fracDown; rw [if_pos h0]
  obtain ⟨⟨nk, nn, nsz, nw, nh, nd, nx, ny, nof, nsrc⟩, nkids⟩ := num
  obtain ⟨⟨dk, dn, dsz, dw, dh, dd, dx, dy, dof, dsrc⟩, dkids⟩ := den
  have ln := valid_lens hn
  have ld := valid_lens hd
  have h11 := hr.len
  have h12 := hs.len
  have HCk := Lib.hid (fun w' k (h : Below w.heap.size w w') (hh : Has w' k (cs ++ ds)) => chk_two F l c (n + 1) _ _ _ _ k w' (hF.below h) hq hh (hr.step h) (hs.step h) c1 c2 0 (.inl ⟨rfl, hv, hl, fun b hb => by
    simp only [List.mem_cons, List.not_mem_nil, or_false] at hb
    rcases hb with rfl | rfl
    · exact hn
    · exact hd⟩))
  obtain ⟨kx, kc, sx, sc, rfl, _, _, _, _⟩ := rep_out hr
  obtain ⟨ex, ec, tx, tc, rfl, _, _, _, _⟩ := rep_out hs
  simp only at ln ld
  unfold fracB fracUpY fracDnY at hR
  simp only at hR
  rw [eup, edn] at hR
  have hmx : ∀ (w : World) (ts : Array TypeId) (t : TypeId), (Builtin.max_ ts t #[.int .i64 0, .int .i64 nw, .int .i64 dw]).run Try.prog w = .ok (.int .i64 (fracW nw dw)) w := fun w ts t => by
    rw [run_max_int3]
    have e : (if dw > (if nw > 0 then nw else 0) then dw else (if nw > 0 then nw else 0)) = fracW nw dw := by
      unfold fracW
      repeat' split
      all_goals omega
    rw [e]
  have bW : 0 ≤ fracW nw dw ∧ fracW nw dw ≤ 1073741824 := by unfold fracW; omega
  generalize par F l F.rule = r at *
  generalize fracY F l = y at *
  generalize fracGap l r = g at *
  generalize par F l F.num1 = u0 at *
  generalize par F l F.den1 = d0 at *
  generalize fracW nw dw = W at *
  have HR := Lib.hid hR
  have iW : I64 W := by unfold I64; omega
  have ir : I64 r := by unfold I64; omega
  have iy : I64 y := by unfold I64; omega
  have HNum := Lib.hid hr
  have HDen := Lib.hid hs
  have sn := Lib.hid (validB_small hn)
  have sd := Lib.hid (validB_small hd)
  have HHn := Lib.hid (fun w' => ref32_Half_calls (W - nw) w')
  have HHd := Lib.hid (fun w' => ref32_Half_calls (W - dw) w')
  have HRu := Lib.hid (fun w' => ref28_Rule_I (fun k => k < w.heap.size) n W r 0 w' iW ir i64_0)
  clear bx bh hp hF hq hR eup edn hr hs hn hd h11 h12 c1 c2 hl hv
  subst h0
  go_enter Try.func12, Try.ntmps12
  have hS := own_start w
  go_wp2_with (first | (refine own_unguard (by rfl) ?_) | (refine own_buildSlice rfl _ _ 2 _ rfl ((Hd.cells ⟨nk, nn, nsz, nw, nh, nd, nx, ny, nof, nsrc⟩ (.slice kx nkids.length kc) (.slice sx nsrc.length sc)) ++ (Hd.cells ⟨dk, dn, dsz, dw, dh, dd, dx, dy, dof, dsrc⟩ (.slice ex dkids.length ec) (.slice tx dsrc.length tc))) hS Try.underlying30 (by kernel_rfl) ?_; clear hS; (try clear ww); intro bs ww hS) | (go_at_call 28; refine own_calls hS (HCk.out _ _ hS.below (hS.get at0)) ?_; clear hS; (try clear ww); intro ww hS) | (go_at_call 16; refine own_calls hS (HPr.out _) ?_; clear hS; (try clear ww); intro ww hS) | (go_at_call 15; refine own_calls hS (HG.out _) ?_; clear hS; (try clear ww); intro ww hS) | (refine own_load1 rfl _ _ rfl rfl hS (atl (by repeat constructor)) (by first | exact ot_int | exact ot_bool | exact ot_boxs | exact ot_ints) (by first | rfl | assumption) ?_) | (refine own_load rfl _ _ rfl rfl hS (atl (by repeat constructor)) (by first | exact rt_font | exact rt_style | exact rt_box) ?_) | (refine own_load_old rfl _ _ rfl rfl hS (by assumption) (by first | exact List.not_mem_nil | assumption) (by first | exact rt_font | exact rt_style | exact rt_box) ?_) | (refine own_load_has rfl _ _ rfl rfl hS (by assumption) (by first | exact List.not_mem_nil | assumption) (by first | exact rt_font | exact rt_style | exact rt_box) ?_) | (refine own_load1_old rfl _ _ rfl rfl hS (by assumption) (by first | exact List.not_mem_nil | assumption) (by first | exact ot_int | exact ot_bool | exact ot_boxs | exact ot_ints) ?_) | (refine own_load1_has rfl _ _ rfl rfl hS (by assumption) (by first | exact List.not_mem_nil | assumption) (by first | exact ot_int | exact ot_bool | exact ot_boxs | exact ot_ints) (by first | rfl | assumption) ?_) | (refine own_box rfl _ _ rfl rfl hS ?_; clear hS; (try clear ww); intro bb ww hS) | (refine own_alloc rfl _ rfl hS (by first | exact zt_box) ?_; clear hS; (try clear ww); intro bb ww hS) | (refine own_store rfl _ _ _ rfl rfl rfl hS (atl (by repeat constructor)) (by first | exact rt_font | exact rt_style | exact rt_box) (by rfl) (by rfl) ?_; clear hS; (try clear ww); intro ww hS; (try simp only at hS); (try simp only [List.set_cons_succ] at hS); (try simp only [List.set_cons_zero] at hS)) | (refine own_store1 rfl _ _ _ rfl rfl rfl rfl hS (atl (by repeat constructor)) (by first | exact ot_int | exact ot_bool | exact ot_boxs | exact ot_ints) (by simp) ?_; clear hS; (try clear ww); intro ww hS; (try simp only at hS); (try simp only [List.set_cons_succ] at hS); (try simp only [List.set_cons_zero] at hS); (try simp only [Act.eval] at hS); (try simp only [Array.getD_eq_getD_getElem?] at hS); (try simp only [List.getElem?_toArray] at hS); (try simp only [List.getElem?_cons_succ] at hS); (try simp only [List.getElem?_cons_zero] at hS); (try simp only [Option.getD_some] at hS)))
  (try simp only [Act.put]); (try simp only [List.setIfInBounds_toArray]); (try simp only [List.set_cons_succ]); (try simp only [List.set_cons_zero])
  refine own_region hS (by kernel_rfl) (by kernel_rfl) ?_
  (try simp only); (try simp only [List.drop_succ_cons]); (try simp only [List.drop_zero]); (try simp only [List.take_succ_cons]); (try simp only [List.take_zero])
  repeat (first
      | (refine quiet_plain (by with_reducible rfl) ?_
         apply Exists.intro
         refine ⟨?_, ?_⟩
         focus (intro wq hq0; have hq : Own _ _ _ wq := hq0; first | (exact quietAt_one rfl rfl (Own.get hq at5) (by rfl) (by first | exact ot_int)) | (exact quietAt_row rfl rfl (Own.get hq at5) (by first | exact rt_font | exact rt_style)) | (exact quietAt_one rfl rfl (Own.get hq at4) (by rfl) (by first | exact ot_int)) | (exact quietAt_row rfl rfl (Own.get hq at4) (by first | exact rt_font | exact rt_style)) | (go_simp; first | (go_at_call 16; exact quietG hq (by first | exact HPu2.out _ | exact HPd2.out _)) | (with_reducible rfl)))
         simp only [Act.put, List.setIfInBounds_toArray, List.set_cons_zero, List.set_cons_succ])
      | (refine quiet_at (by with_reducible rfl) (by rfl) (by rfl) (by simp only [List.getElem?_toArray, List.getElem?_cons_succ, List.getElem?_cons_zero]; rfl) ?_
         first | (with_reducible refine QG_tt ?_) | (with_reducible refine QG_ff ?_)
         apply Exists.intro
         refine ⟨?_, ?_⟩
         focus (intro wq hq0; have hq : Own _ _ _ wq := hq0; first | (exact quietAt_one rfl rfl (Own.get hq at5) (by rfl) (by first | exact ot_int)) | (exact quietAt_row rfl rfl (Own.get hq at5) (by first | exact rt_font | exact rt_style)) | (exact quietAt_one rfl rfl (Own.get hq at4) (by rfl) (by first | exact ot_int)) | (exact quietAt_row rfl rfl (Own.get hq at4) (by first | exact rt_font | exact rt_style)) | (go_simp; first | (go_at_call 16; exact quietG hq (by first | exact HPu2.out _ | exact HPd2.out _)) | (with_reducible rfl)))
         simp only [Act.put, List.setIfInBounds_toArray, List.set_cons_zero, List.set_cons_succ])
      | (refine quiet_at (by with_reducible rfl) (by rfl) (by rfl) (by simp only [List.getElem?_toArray, List.getElem?_cons_succ, List.getElem?_cons_zero]; rfl) ?_
         first | (with_reducible refine QG_tf ?_) | (with_reducible refine QG_ft ?_) | (with_reducible refine QG_u ?_)
         simp only [Act.put, List.setIfInBounds_toArray, List.set_cons_zero, List.set_cons_succ]))
  refine wpQuiet_nil ?_
  clear hS
  intro ww hS
  go_wp2_with (first | (refine own_unguard (by rfl) ?_) | (go_at_call 29; refine Calls.mono (HRu.out _) ?_; rintro e w1 ⟨cs1, rfl, hr1, hb1⟩; have hS1 := hS.step hb1; clear hS; have hS := hS1; clear hS1; obtain ⟨e0, e1, e2, e3, e4, e5, e6, e7, e8, e9, e10, rfl⟩ := eleven hr1.len) | (go_at_call 18; refine Calls.mono (ref28_At_I (fun k => k < w.heap.size) n (ruleB n W r 0) _ 0 y _ (rep_bare_any hr1.rep rfl) i64_0 iy) ?_; rintro e w2 ⟨cs2, rfl, hr2, hb2⟩; have hS1 := hS.step hb2; clear hS; have hS := hS1; clear hS1; have hall2 := rep_all hr2; obtain ⟨f0, f1, f2, f3, f4, f5, f6, f7, f8, f9, f10, rfl⟩ := eleven hr2.len) | (refine own_store rfl _ _ _ rfl rfl rfl hS at0 rt_box (by rfl) hall2 ?_; clear hS; intro ww hS; (try simp only [List.set_cons_zero] at hS)) | (refine own_load1 rfl _ _ rfl rfl hS (atl (by repeat constructor)) (by first | exact ot_int | exact ot_bool | exact ot_boxs | exact ot_ints) (by first | rfl | assumption) ?_) | (refine own_load rfl _ _ rfl rfl hS (atl (by repeat constructor)) (by first | exact rt_font | exact rt_style | exact rt_box) ?_) | (refine own_load_old rfl _ _ rfl rfl hS (by assumption) (by first | exact List.not_mem_nil | assumption) (by first | exact rt_font | exact rt_style | exact rt_box) ?_) | (refine own_load_has rfl _ _ rfl rfl hS (by assumption) (by first | exact List.not_mem_nil | assumption) (by first | exact rt_font | exact rt_style | exact rt_box) ?_) | (refine own_load1_old rfl _ _ rfl rfl hS (by assumption) (by first | exact List.not_mem_nil | assumption) (by first | exact ot_int | exact ot_bool | exact ot_boxs | exact ot_ints) ?_) | (refine own_load1_has rfl _ _ rfl rfl hS (by assumption) (by first | exact List.not_mem_nil | assumption) (by first | exact ot_int | exact ot_bool | exact ot_boxs | exact ot_ints) (by first | rfl | assumption) ?_) | (refine own_box rfl _ _ rfl rfl hS ?_; clear hS; (try clear ww); intro bb ww hS) | (refine own_alloc rfl _ rfl hS (by first | exact zt_box) ?_; clear hS; (try clear ww); intro bb ww hS) | (refine own_store rfl _ _ _ rfl rfl rfl hS (atl (by repeat constructor)) (by first | exact rt_font | exact rt_style | exact rt_box) (by rfl) (by rfl) ?_; clear hS; (try clear ww); intro ww hS; (try simp only at hS); (try simp only [List.set_cons_succ] at hS); (try simp only [List.set_cons_zero] at hS)) | (refine own_store1 rfl _ _ _ rfl rfl rfl rfl hS (atl (by repeat constructor)) (by first | exact ot_int | exact ot_bool | exact ot_boxs | exact ot_ints) (by simp) ?_; clear hS; (try clear ww); intro ww hS; (try simp only at hS); (try simp only [List.set_cons_succ] at hS); (try simp only [List.set_cons_zero] at hS); (try simp only [Act.eval] at hS); (try simp only [Array.getD_eq_getD_getElem?] at hS); (try simp only [List.getElem?_toArray] at hS); (try simp only [List.getElem?_cons_succ] at hS); (try simp only [List.getElem?_cons_zero] at hS); (try simp only [Option.getD_some] at hS)))
  (try simp only [Act.put]); (try simp only [List.setIfInBounds_toArray]); (try simp only [List.set_cons_succ]); (try simp only [List.set_cons_zero])
  refine own_region hS (by kernel_rfl) (by kernel_rfl) ?_
  (try simp only); (try simp only [List.drop_succ_cons]); (try simp only [List.drop_zero]); (try simp only [List.take_succ_cons]); (try simp only [List.take_zero])
  repeat (first
      | (refine quiet_plain (by with_reducible rfl) ?_
         apply Exists.intro
         refine ⟨?_, ?_⟩
         focus (intro wq hq0; have hq : Own _ _ _ wq := hq0; first | (exact quietAt_one rfl rfl (Own.get hq at5) (by rfl) (by first | exact ot_int)) | (exact quietAt_row rfl rfl (Own.get hq at5) (by first | exact rt_font | exact rt_style)) | (exact quietAt_one rfl rfl (Own.get hq at4) (by rfl) (by first | exact ot_int)) | (exact quietAt_row rfl rfl (Own.get hq at4) (by first | exact rt_font | exact rt_style)) | (go_simp; first | (go_at_call 16; exact quietG hq (by first | exact HPu.out _ | exact HPd.out _)) | (with_reducible rfl)))
         simp only [Act.put, List.setIfInBounds_toArray, List.set_cons_zero, List.set_cons_succ])
      | (refine quiet_at (by with_reducible rfl) (by rfl) (by rfl) (by simp only [List.getElem?_toArray, List.getElem?_cons_succ, List.getElem?_cons_zero]; rfl) ?_
         first | (with_reducible refine QG_tt ?_) | (with_reducible refine QG_ff ?_)
         apply Exists.intro
         refine ⟨?_, ?_⟩
         focus (intro wq hq0; have hq : Own _ _ _ wq := hq0; first | (exact quietAt_one rfl rfl (Own.get hq at5) (by rfl) (by first | exact ot_int)) | (exact quietAt_row rfl rfl (Own.get hq at5) (by first | exact rt_font | exact rt_style)) | (exact quietAt_one rfl rfl (Own.get hq at4) (by rfl) (by first | exact ot_int)) | (exact quietAt_row rfl rfl (Own.get hq at4) (by first | exact rt_font | exact rt_style)) | (go_simp; first | (go_at_call 16; exact quietG hq (by first | exact HPu.out _ | exact HPd.out _)) | (with_reducible rfl)))
         simp only [Act.put, List.setIfInBounds_toArray, List.set_cons_zero, List.set_cons_succ])
      | (refine quiet_at (by with_reducible rfl) (by rfl) (by rfl) (by simp only [List.getElem?_toArray, List.getElem?_cons_succ, List.getElem?_cons_zero]; rfl) ?_
         first | (with_reducible refine QG_tf ?_) | (with_reducible refine QG_ft ?_) | (with_reducible refine QG_u ?_)
         simp only [Act.put, List.setIfInBounds_toArray, List.set_cons_zero, List.set_cons_succ]))
  refine wpQuiet_nil ?_
  clear hS
  intro ww hS
  go_wp2_with (first | (refine own_unguard (by rfl) ?_) | (go_at_call 29; refine Calls.mono (HRu.out _) ?_; rintro e w1 ⟨cs1, rfl, hr1, hb1⟩; have hS1 := hS.step hb1; clear hS; have hS := hS1; clear hS1; obtain ⟨e0, e1, e2, e3, e4, e5, e6, e7, e8, e9, e10, rfl⟩ := eleven hr1.len) | (go_at_call 18; refine Calls.mono (ref28_At_I (fun k => k < w.heap.size) n (ruleB n W r 0) _ 0 y _ (rep_bare_any hr1.rep rfl) i64_0 iy) ?_; rintro e w2 ⟨cs2, rfl, hr2, hb2⟩; have hS1 := hS.step hb2; clear hS; have hS := hS1; clear hS1; have hall2 := rep_all hr2; obtain ⟨f0, f1, f2, f3, f4, f5, f6, f7, f8, f9, f10, rfl⟩ := eleven hr2.len) | (refine own_store rfl _ _ _ rfl rfl rfl hS at0 rt_box (by rfl) hall2 ?_; clear hS; intro ww hS; (try simp only [List.set_cons_zero] at hS)) | (refine own_load1 rfl _ _ rfl rfl hS (atl (by repeat constructor)) (by first | exact ot_int | exact ot_bool | exact ot_boxs | exact ot_ints) (by first | rfl | assumption) ?_) | (refine own_load rfl _ _ rfl rfl hS (atl (by repeat constructor)) (by first | exact rt_font | exact rt_style | exact rt_box) ?_) | (refine own_load_old rfl _ _ rfl rfl hS (by assumption) (by first | exact List.not_mem_nil | assumption) (by first | exact rt_font | exact rt_style | exact rt_box) ?_) | (refine own_load_has rfl _ _ rfl rfl hS (by assumption) (by first | exact List.not_mem_nil | assumption) (by first | exact rt_font | exact rt_style | exact rt_box) ?_) | (refine own_load1_old rfl _ _ rfl rfl hS (by assumption) (by first | exact List.not_mem_nil | assumption) (by first | exact ot_int | exact ot_bool | exact ot_boxs | exact ot_ints) ?_) | (refine own_load1_has rfl _ _ rfl rfl hS (by assumption) (by first | exact List.not_mem_nil | assumption) (by first | exact ot_int | exact ot_bool | exact ot_boxs | exact ot_ints) (by first | rfl | assumption) ?_) | (refine own_box rfl _ _ rfl rfl hS ?_; clear hS; (try clear ww); intro bb ww hS) | (refine own_alloc rfl _ rfl hS (by first | exact zt_box) ?_; clear hS; (try clear ww); intro bb ww hS) | (refine own_store rfl _ _ _ rfl rfl rfl hS (atl (by repeat constructor)) (by first | exact rt_font | exact rt_style | exact rt_box) (by rfl) (by rfl) ?_; clear hS; (try clear ww); intro ww hS; (try simp only at hS); (try simp only [List.set_cons_succ] at hS); (try simp only [List.set_cons_zero] at hS)) | (refine own_store1 rfl _ _ _ rfl rfl rfl rfl hS (atl (by repeat constructor)) (by first | exact ot_int | exact ot_bool | exact ot_boxs | exact ot_ints) (by simp) ?_; clear hS; (try clear ww); intro ww hS; (try simp only at hS); (try simp only [List.set_cons_succ] at hS); (try simp only [List.set_cons_zero] at hS); (try simp only [Act.eval] at hS); (try simp only [Array.getD_eq_getD_getElem?] at hS); (try simp only [List.getElem?_toArray] at hS); (try simp only [List.getElem?_cons_succ] at hS); (try simp only [List.getElem?_cons_zero] at hS); (try simp only [Option.getD_some] at hS)))
  all_goals
    (try simp only [Act.put]); (try simp only [List.setIfInBounds_toArray]); (try simp only [List.set_cons_succ]); (try simp only [List.set_cons_zero])
    obtain ⟨U, eU⟩ : ∃ U, U = max u0 (y + r + g + nd) := ⟨_, rfl⟩
    obtain ⟨V, eV⟩ : ∃ V, V = -(max d0 (dh + g - y)) := ⟨_, rfl⟩
    first | (simp only [show y + r + g + nd = U by omega]) | (simp only [show u0 = U by omega])
    first | (simp only [show y - g - dh = V by omega]) | (simp only [show -d0 = V by omega])
    have eD : dd - V = dd + max d0 (dh + g - y) := by omega
    have hR2 : R = listB (n + 1) W (max (U + nh) (y + r)) (max (dd - V) (-y)) [atXY (n + 1) (⟨nk, nn, nsz, nw, nh, nd, nx, ny, nof, nsrc⟩, nkids) (hlf (W - nw)) U, atXY (n + 1) (ruleB n W r 0) 0 y, atXY (n + 1) (⟨dk, dn, dsz, dw, dh, dd, dx, dy, dof, dsrc⟩, dkids) (hlf (W - dw)) V] := by rw [HR.out, eD, ← eU, ← eV]
    have bU : -4294967296 ≤ U ∧ U ≤ 4294967296 := by omega
    have bV : -4294967296 ≤ V ∧ V ≤ 4294967296 := by omega
    have iU : I64 U := by unfold I64; omega
    have iV : I64 V := by unfold I64; omega
    have iH : I64 (max (U + nh) (y + r)) := by unfold I64; omega
    have iD : I64 (max (dd - V) (-y)) := by unfold I64; omega
    have hcR : bCount (n + 2) R ≤ 1000000 := by
      have h1 := sn.out.2
      have h2 := sd.out.2
      rw [hR2]
      simp only [bCount, listB, atXY, ruleB, List.map_cons, List.map_nil, List.sum_cons, List.sum_nil] at h1 h2 ⊢
      omega
    have HR2 := Lib.hid hR2
    clear eU eV eD hR2 HR
    have HQr := Lib.hid (fun w' => show RepP (fun k => k < w.heap.size) w' (n + 1) (atXY (n + 1) (ruleB n W r 0) 0 y) [f0, f1, f2, f3, f4, f5, f6, f7, f8, f9, f10] from rep_bare_any hr2.rep rfl)
    clear hr1 hr2 hb1 hb2
    have wsn : IntKind.i64.wrap (W - nw) = W - nw := IntWalk.i64_in _ (by omega)
    have wsd : IntKind.i64.wrap (W - dw) = W - dw := IntWalk.i64_in _ (by omega)
    refine own_any hS [] 19 (by kernel_rfl) (by kernel_rfl) ?_
    clear hS
    intro hcl ww hS
    refine own_batch hS [0, 1, 2, 3, 4, 5, 6, 8, 9, 10, 11, 12, 13, 15] 5 rfl hcl (by kernel_rfl) ?_
    (try simp only); repeat (first | (simp only [List.filterMap_cons]) | (simp only [List.filterMap_nil]) | (simp only [List.getElem?_toArray]) | (simp only [List.getElem?_cons_succ]) | (simp only [List.getElem?_cons_zero]) | (simp only [List.reverse_cons]) | (simp only [List.reverse_nil]) | (simp only [List.nil_append]) | (simp only [List.cons_append]))
    repeat (first
        | (refine g_plain (by with_reducible rfl) ?_
           apply Exists.intro
           refine ⟨?_, ?_⟩
           focus (intro wq hq0; (first | have hq : Own _ _ _ wq := hq0 | have hq : Own _ _ _ wq := hq0.1 | skip); first | ((with_reducible show givesAt _ ({ dst := _, op := Op.load _ _, type := _, pos := _, after := _, guard := _ } : Oper) _ _ _); first | (exact givesAt_one rfl rfl (Own.get hq at0) (by rfl) (by first | exact ot_int)) | (exact givesAt_row rfl rfl (Own.get hq at0) (by first | exact rt_box)) | (exact givesAt_one rfl rfl (Own.get hq at3) (by rfl) (by first | exact ot_int)) | (exact givesAt_row rfl rfl (Own.get hq at3) (by first | exact rt_box)) | (exact givesAt_one rfl rfl (Own.get hq at4) (by rfl) (by first | exact ot_int)) | (exact givesAt_row rfl rfl (Own.get hq at4) (by first | exact rt_box))) | (go_simp; first | (go_at_call 30; exact HHn.out _) | (with_reducible rfl)))
           simp only [Act.put, List.setIfInBounds_toArray]; (try simp only [List.set_cons_succ]); (try simp only [List.set_cons_zero]))
        | (refine g_at (by with_reducible rfl) (by rfl) (by rfl) (by simp only [List.getElem?_toArray, List.getElem?_cons_succ, List.getElem?_cons_zero]; rfl) ?_
           first | (with_reducible refine QG_tt ?_) | (with_reducible refine QG_ff ?_)
           apply Exists.intro
           refine ⟨?_, ?_⟩
           focus (intro wq hq0; (first | have hq : Own _ _ _ wq := hq0 | have hq : Own _ _ _ wq := hq0.1 | skip); first | ((with_reducible show givesAt _ ({ dst := _, op := Op.load _ _, type := _, pos := _, after := _, guard := _ } : Oper) _ _ _); first | (exact givesAt_one rfl rfl (Own.get hq at0) (by rfl) (by first | exact ot_int)) | (exact givesAt_row rfl rfl (Own.get hq at0) (by first | exact rt_box)) | (exact givesAt_one rfl rfl (Own.get hq at3) (by rfl) (by first | exact ot_int)) | (exact givesAt_row rfl rfl (Own.get hq at3) (by first | exact rt_box)) | (exact givesAt_one rfl rfl (Own.get hq at4) (by rfl) (by first | exact ot_int)) | (exact givesAt_row rfl rfl (Own.get hq at4) (by first | exact rt_box))) | (go_simp; first | (go_at_call 30; exact HHn.out _) | (with_reducible rfl)))
           simp only [Act.put, List.setIfInBounds_toArray]; (try simp only [List.set_cons_succ]); (try simp only [List.set_cons_zero]))
        | (refine g_at (by with_reducible rfl) (by rfl) (by rfl) (by simp only [List.getElem?_toArray, List.getElem?_cons_succ, List.getElem?_cons_zero]; rfl) ?_
           first | (with_reducible refine QG_tf ?_) | (with_reducible refine QG_ft ?_) | (with_reducible refine QG_u ?_)
           simp only [Act.put, List.setIfInBounds_toArray]; (try simp only [List.set_cons_succ]); (try simp only [List.set_cons_zero])))
    refine g_nil ?_
    clear hS hcl
    intro hcl ww hS
    obtain ⟨wg, hwg⟩ : ∃ x, x = ww := ⟨_, rfl⟩
    subst hwg
    have HO := Lib.hid hS
    refine own_softB hS 7 hcl (by simp only [List.getElem?_toArray, List.getElem?_cons_succ, List.getElem?_cons_zero]; rfl) (by kernel_rfl) ?_
    clear hS
    intro hS
    go_wp2_with (first | (go_at_call 18; refine Calls.mono (ref28_At_I (fun k => k < w.heap.size) n _ _ (hlf (W - nw)) U _ (repP_step (repP_old HNum.out) HO.out.below) (hlf_i64 _) iU) ?_; rintro e w3 ⟨cs3, rfl, hr3, hb3⟩))
    refine ⟨[], hS.step hb3, ?_⟩
    clear hS hcl
    intro hcl wb hS hbb
    (try simp only [List.nil_append] at hS)
    have q3 := repP_step hr3 hbb
    have z3 := hr3.len
    obtain ⟨g0, g1, g2, g3, g4, g5, g6, g7, g8, g9, g10, rfl⟩ := eleven z3
    clear hr3 z3
    refine own_batchB hS [14] 3 rfl hcl (by kernel_rfl) ?_
    (try simp only); repeat (first | (simp only [List.filterMap_cons]) | (simp only [List.filterMap_nil]) | (simp only [List.getElem?_toArray]) | (simp only [List.getElem?_cons_succ]) | (simp only [List.getElem?_cons_zero]) | (simp only [List.reverse_cons]) | (simp only [List.reverse_nil]) | (simp only [List.nil_append]) | (simp only [List.cons_append]))
    repeat (first
        | (refine g_plain (by with_reducible rfl) ?_
           apply Exists.intro
           refine ⟨?_, ?_⟩
           focus (intro wq hq0; (first | have hq : Own _ _ _ wq := hq0 | have hq : Own _ _ _ wq := hq0.1 | skip); first | (go_simp; first | (go_at_call 30; exact HHd.out _) | (with_reducible rfl)))
           simp only [Act.put, List.setIfInBounds_toArray]; (try simp only [List.set_cons_succ]); (try simp only [List.set_cons_zero]))
        | (refine g_at (by with_reducible rfl) (by rfl) (by rfl) (by simp only [List.getElem?_toArray, List.getElem?_cons_succ, List.getElem?_cons_zero]; rfl) ?_
           first | (with_reducible refine QG_tt ?_) | (with_reducible refine QG_ff ?_)
           apply Exists.intro
           refine ⟨?_, ?_⟩
           focus (intro wq hq0; (first | have hq : Own _ _ _ wq := hq0 | have hq : Own _ _ _ wq := hq0.1 | skip); first | (go_simp; first | (go_at_call 30; exact HHd.out _) | (with_reducible rfl)))
           simp only [Act.put, List.setIfInBounds_toArray]; (try simp only [List.set_cons_succ]); (try simp only [List.set_cons_zero]))
        | (refine g_at (by with_reducible rfl) (by rfl) (by rfl) (by simp only [List.getElem?_toArray, List.getElem?_cons_succ, List.getElem?_cons_zero]; rfl) ?_
           first | (with_reducible refine QG_tf ?_) | (with_reducible refine QG_ft ?_) | (with_reducible refine QG_u ?_)
           simp only [Act.put, List.setIfInBounds_toArray]; (try simp only [List.set_cons_succ]); (try simp only [List.set_cons_zero])))
    refine g_nil ?_
    clear hS hcl
    intro hcl ww hS
    intro hbh
    obtain ⟨wh, hwh⟩ : ∃ x, x = ww := ⟨_, rfl⟩
    subst hwh
    have HOh := Lib.hid hS
    have q3h := repP_step q3 hbh
    refine own_softB hS 16 hcl (by simp only [List.getElem?_toArray, List.getElem?_cons_succ, List.getElem?_cons_zero]; rfl) (by kernel_rfl) ?_
    clear hS
    intro hS
    go_wp2_with (first | (go_at_call 18; refine Calls.mono (ref28_At_I (fun k => k < w.heap.size) n _ _ (hlf (W - dw)) V _ (repP_step (repP_old HDen.out) HOh.out.below) (hlf_i64 _) iV) ?_; rintro e w4 ⟨cs4, rfl, hr4, hb4⟩))
    refine ⟨[], hS.step hb4, ?_⟩
    clear hS hcl
    intro hcl wc hS hbc
    (try simp only [List.nil_append] at hS)
    have q4 := repP_step hr4 hbc
    have z4 := hr4.len
    obtain ⟨k0, k1, k2, k3, k4, k5, k6, k7, k8, k9, k10, rfl⟩ := eleven z4
    clear hr4 z4
    refine own_softB hS 17 hcl (by simp only [List.getElem?_toArray, List.getElem?_cons_succ, List.getElem?_cons_zero]; rfl) (by kernel_rfl) ?_
    clear hS
    intro hS
    refine own_buildSlice rfl _ _ 3 _ rfl [g0, g1, g2, g3, g4, g5, g6, g7, g8, g9, g10, f0, f1, f2, f3, f4, f5, f6, f7, f8, f9, f10, k0, k1, k2, k3, k4, k5, k6, k7, k8, k9, k10] hS Try.underlying30 (by kernel_rfl) ?_
    clear hS
    intro b2 w5 hS
    refine wpList_nil ⟨rfl, _, hS, ?_⟩
    have hb5 := hS.below
    clear hS hcl
    intro hcl wd hS hbd
    refine own_batchB hS [18] 0 rfl hcl (by kernel_rfl) ?_
    (try simp only); repeat (first | (simp only [List.filterMap_cons]) | (simp only [List.filterMap_nil]) | (simp only [List.getElem?_toArray]) | (simp only [List.getElem?_cons_succ]) | (simp only [List.getElem?_cons_zero]) | (simp only [List.reverse_cons]) | (simp only [List.reverse_nil]) | (simp only [List.nil_append]) | (simp only [List.cons_append]))
    repeat (first
        | (refine g_plain (by with_reducible rfl) ?_
           apply Exists.intro
           refine ⟨?_, ?_⟩
           focus (intro wq hq0; (first | have hq : Own _ _ _ wq := hq0 | have hq : Own _ _ _ wq := hq0.1 | skip); first | (go_simp; first | (with_reducible rfl)))
           simp only [Act.put, List.setIfInBounds_toArray]; (try simp only [List.set_cons_succ]); (try simp only [List.set_cons_zero]))
        | (refine g_at (by with_reducible rfl) (by rfl) (by rfl) (by simp only [List.getElem?_toArray, List.getElem?_cons_succ, List.getElem?_cons_zero]; rfl) ?_
           first | (with_reducible refine QG_tt ?_) | (with_reducible refine QG_ff ?_)
           apply Exists.intro
           refine ⟨?_, ?_⟩
           focus (intro wq hq0; (first | have hq : Own _ _ _ wq := hq0 | have hq : Own _ _ _ wq := hq0.1 | skip); first | (go_simp; first | (with_reducible rfl)))
           simp only [Act.put, List.setIfInBounds_toArray]; (try simp only [List.set_cons_succ]); (try simp only [List.set_cons_zero]))
        | (refine g_at (by with_reducible rfl) (by rfl) (by rfl) (by simp only [List.getElem?_toArray, List.getElem?_cons_succ, List.getElem?_cons_zero]; rfl) ?_
           first | (with_reducible refine QG_tf ?_) | (with_reducible refine QG_ft ?_) | (with_reducible refine QG_u ?_)
           simp only [Act.put, List.setIfInBounds_toArray]; (try simp only [List.set_cons_succ]); (try simp only [List.set_cons_zero])))
    refine g_nil ?_
    clear hS hcl
    intro hcl ww hS
    intro hbe
    obtain ⟨we, hwe⟩ : ∃ x, x = ww := ⟨_, rfl⟩
    subst hwe
    refine own_done (by kernel_rfl) ?_
    clear hcl
    have hrow := three_boxes (P := fun k => k < w.heap.size ∨ (wg.heap.size ≤ k ∧ k < w3.heap.size) ∨ (wh.heap.size ≤ k ∧ k < w4.heap.size)) (e1 := [g0, g1, g2, g3, g4, g5, g6, g7, g8, g9, g10]) (e2 := [f0, f1, f2, f3, f4, f5, f6, f7, f8, f9, f10]) (e3 := [k0, k1, k2, k3, k4, k5, k6, k7, k8, k9, k10]) (hS.get at0)
      (repP_mono (repP_step (repP_step (repP_step (repP_step (repP_step q3h hb4) hbc) hb5) hbd) hbe) (fun k hk => by rcases hk with h | h <;> simp [h])) (repP_mono (HQr.out _) (fun k hk => by simp [hk])) (repP_mono (repP_step (repP_step (repP_step q4 hb5) hbd) hbe) (fun k hk => by rcases hk with h | h <;> simp [h]))
    have hsz : wg.heap.size ≤ wh.heap.size ∧ wg.heap.size ≤ we.heap.size := by
      have s1 := hb3.size
      have s2 := hbb.size
      have s3 := hbh.size
      have s4 := hb4.size
      have s5 := hbc.size
      have s6 := hb5.size
      have s7 := hbd.size
      have s8 := hbe.size
      omega
    clear q3 q3h q4 hb3 hbb hbh hb4 hbc hb5 hbd hbe HOh
    have hLs := Lib.hid (ref28_List_I (fun k => k < w.heap.size ∨ (wg.heap.size ≤ k ∧ k < w3.heap.size) ∨ (wh.heap.size ≤ k ∧ k < w4.heap.size)) (n + 1) _ _ 3 W (max (U + nh) (y + r)) (max (dd - V) (-y)) _ hrow (by simp) (by simp) iW iH iD)
    rw [← HR2.out] at hLs
    clear hrow
    by_cases hvR : validB (n + 2) R
    · have HVR := Lib.hid hvR
      clear hvR
      go_wp2_with (first | (refine own_unguard (by rfl) ?_) | (go_at_call 32; refine Calls.mono hLs.out ?_; rintro e w6 ⟨cs6, rfl, hr6, hb6⟩; have hF := (hS.step hb6).forget (List.sublist_cons_self _ _); have hr7 := repP_A hr6 (frame_away0 HO.out (S := [(wg.heap.size, w3.heap.size), (wh.heap.size, w4.heap.size), (we.heap.size, w6.heap.size)]) (spans_three hsz.1 hsz.2) (fun k hk => in_three hk)); obtain ⟨m0, m1, m2, m3, m4, m5, m6, m7, m8, m9, m10, rfl⟩ := eleven hr6.len; have hall5 := rep_all hr6; clear hr6; obtain ⟨DD, hDD, hS9⟩ := own_again hF; clear hS; have hS := hS9; clear hS9; have HF := Lib.hid hF; rw [← hDD.out] at hr7; have HR7 := Lib.hid hr7; clear hF hr7) | (go_at_call 31; refine own_calls hS (ref32_Done_ok (n + 2) R _ _ (repA_turn HR7.out hS (fun _ h => h)).rep hcR HVR.out) ?_; clear hS; (try clear ww); intro ww hS) | (refine own_store rfl _ _ _ rfl rfl rfl hS at2 rt_box (by rfl) (by first | exact hall5 | rfl) ?_; clear hS; intro ww hS) | (refine own_load1 rfl _ _ rfl rfl hS (atl (by repeat constructor)) (by first | exact ot_int | exact ot_bool | exact ot_boxs | exact ot_ints) (by first | rfl | assumption) ?_) | (refine own_load rfl _ _ rfl rfl hS (atl (by repeat constructor)) (by first | exact rt_font | exact rt_style | exact rt_box) ?_) | (refine own_load_old rfl _ _ rfl rfl hS (by assumption) (by first | exact List.not_mem_nil | assumption) (by first | exact rt_font | exact rt_style | exact rt_box) ?_) | (refine own_load_has rfl _ _ rfl rfl hS (by assumption) (by first | exact List.not_mem_nil | assumption) (by first | exact rt_font | exact rt_style | exact rt_box) ?_) | (refine own_load1_old rfl _ _ rfl rfl hS (by assumption) (by first | exact List.not_mem_nil | assumption) (by first | exact ot_int | exact ot_bool | exact ot_boxs | exact ot_ints) ?_) | (refine own_load1_has rfl _ _ rfl rfl hS (by assumption) (by first | exact List.not_mem_nil | assumption) (by first | exact ot_int | exact ot_bool | exact ot_boxs | exact ot_ints) (by first | rfl | assumption) ?_) | (refine own_box rfl _ _ rfl rfl hS ?_; clear hS; (try clear ww); intro bb ww hS) | (refine own_alloc rfl _ rfl hS (by first | exact zt_box) ?_; clear hS; (try clear ww); intro bb ww hS) | (refine own_store rfl _ _ _ rfl rfl rfl hS (atl (by repeat constructor)) (by first | exact rt_font | exact rt_style | exact rt_box) (by rfl) (by rfl) ?_; clear hS; (try clear ww); intro ww hS; (try simp only at hS); (try simp only [List.set_cons_succ] at hS); (try simp only [List.set_cons_zero] at hS)) | (refine own_store1 rfl _ _ _ rfl rfl rfl rfl hS (atl (by repeat constructor)) (by first | exact ot_int | exact ot_bool | exact ot_boxs | exact ot_ints) (by simp) ?_; clear hS; (try clear ww); intro ww hS; (try simp only at hS); (try simp only [List.set_cons_succ] at hS); (try simp only [List.set_cons_zero] at hS); (try simp only [Act.eval] at hS); (try simp only [Array.getD_eq_getD_getElem?] at hS); (try simp only [List.getElem?_toArray] at hS); (try simp only [List.getElem?_cons_succ] at hS); (try simp only [List.getElem?_cons_zero] at hS); (try simp only [Option.getD_some] at hS)))
      (try simp only [List.set_cons_zero] at hS); (try simp only [List.set_cons_succ] at hS)
      obtain rfl := hDD.out
      have hc := (hS.get at2).cell
      refine bodyPost_ret (v := .tuple #[.agg #[m0, m1, m2, m3, m4, m5, m6, m7, m8, m9, m10], .int .i64 0]) (by simp [results, Try.results12, go_sem, hc]) rfl ⟨fun _ => ⟨_, rfl, (repA_turn HR7.out hS (fun _ h => h)).rep, (HF.out.chain hS).below⟩, fun h => absurd HVR.out h⟩
    · have HVR := Lib.hid hvR
      clear hvR
      go_wp2_with (first | (refine own_unguard (by rfl) ?_) | (go_at_call 32; refine Calls.mono hLs.out ?_; rintro e w6 ⟨cs6, rfl, hr6, hb6⟩; have hF := (hS.step hb6).forget (List.sublist_cons_self _ _); have hr7 := repP_A hr6 (frame_away0 HO.out (S := [(wg.heap.size, w3.heap.size), (wh.heap.size, w4.heap.size), (we.heap.size, w6.heap.size)]) (spans_three hsz.1 hsz.2) (fun k hk => in_three hk)); obtain ⟨m0, m1, m2, m3, m4, m5, m6, m7, m8, m9, m10, rfl⟩ := eleven hr6.len; have hall5 := rep_all hr6; clear hr6; obtain ⟨DD, hDD, hS9⟩ := own_again hF; clear hS; have hS := hS9; clear hS9; have HF := Lib.hid hF; rw [← hDD.out] at hr7; have HR7 := Lib.hid hr7; clear hF hr7) | (go_at_call 31; refine own_calls hS (ref32_Done_bad (n + 2) R _ _ (repA_turn HR7.out hS (fun _ h => h)).rep hcR HVR.out) ?_; clear hS; (try clear ww); intro ww hS) | (refine own_store rfl _ _ _ rfl rfl rfl hS at2 rt_box (by rfl) (by first | exact hall5 | rfl) ?_; clear hS; intro ww hS) | (refine own_load1 rfl _ _ rfl rfl hS (atl (by repeat constructor)) (by first | exact ot_int | exact ot_bool | exact ot_boxs | exact ot_ints) (by first | rfl | assumption) ?_) | (refine own_load rfl _ _ rfl rfl hS (atl (by repeat constructor)) (by first | exact rt_font | exact rt_style | exact rt_box) ?_) | (refine own_load_old rfl _ _ rfl rfl hS (by assumption) (by first | exact List.not_mem_nil | assumption) (by first | exact rt_font | exact rt_style | exact rt_box) ?_) | (refine own_load_has rfl _ _ rfl rfl hS (by assumption) (by first | exact List.not_mem_nil | assumption) (by first | exact rt_font | exact rt_style | exact rt_box) ?_) | (refine own_load1_old rfl _ _ rfl rfl hS (by assumption) (by first | exact List.not_mem_nil | assumption) (by first | exact ot_int | exact ot_bool | exact ot_boxs | exact ot_ints) ?_) | (refine own_load1_has rfl _ _ rfl rfl hS (by assumption) (by first | exact List.not_mem_nil | assumption) (by first | exact ot_int | exact ot_bool | exact ot_boxs | exact ot_ints) (by first | rfl | assumption) ?_) | (refine own_box rfl _ _ rfl rfl hS ?_; clear hS; (try clear ww); intro bb ww hS) | (refine own_alloc rfl _ rfl hS (by first | exact zt_box) ?_; clear hS; (try clear ww); intro bb ww hS) | (refine own_store rfl _ _ _ rfl rfl rfl hS (atl (by repeat constructor)) (by first | exact rt_font | exact rt_style | exact rt_box) (by rfl) (by rfl) ?_; clear hS; (try clear ww); intro ww hS; (try simp only at hS); (try simp only [List.set_cons_succ] at hS); (try simp only [List.set_cons_zero] at hS)) | (refine own_store1 rfl _ _ _ rfl rfl rfl rfl hS (atl (by repeat constructor)) (by first | exact ot_int | exact ot_bool | exact ot_boxs | exact ot_ints) (by simp) ?_; clear hS; (try clear ww); intro ww hS; (try simp only at hS); (try simp only [List.set_cons_succ] at hS); (try simp only [List.set_cons_zero] at hS); (try simp only [Act.eval] at hS); (try simp only [Array.getD_eq_getD_getElem?] at hS); (try simp only [List.getElem?_toArray] at hS); (try simp only [List.getElem?_cons_succ] at hS); (try simp only [List.getElem?_cons_zero] at hS); (try simp only [Option.getD_some] at hS)))
      (try simp only [List.set_cons_zero] at hS); (try simp only [List.set_cons_succ] at hS)
      obtain rfl := hDD.out
      have hc := (hS.get at2).cell
      refine bodyPost_ret (v := .tuple #[.agg #[.int .i64 0, .string ⟨#[]⟩, .int .i64 0, .int .i64 0, .int .i64 0, .int .i64 0, .int .i64 0, .int .i64 0, .slice none 0 0, .int .i64 0, .slice none 0 0], .int .i64 6]) (by simp [results, Try.results12, go_sem, hc]) rfl ⟨fun h => absurd h HVR.out, fun _ => ⟨_, rfl, rep_zero m _, (HF.out.chain hS).below⟩⟩

end Go.Proofs.Ytfmoghkffffmmaa
namespace Go.Proofs.Ytfmoghkffffmmaa
open Go.RowKit

attribute [local irreducible] wpQuiet wpG wpP wpK wpList Code.wp Calls

/-- The reference's Make, where nothing is wrong. -/
theorem refMake_good (F : Fnt) (l : Int) (c : Bool) (n m : Nat) (num den : Bx (n + 1)) (cs ds : List Value) (w : World) (hF : FntOk w F) (hq : F.gs.length ≤ 500 ∧ F.ss.length ≤ 50) (hr : Rep w (n + 1) num cs) (hs : Rep w (n + 1) den ds)
    (c1 : bCount (n + 1) num ≤ 1000000) (c2 : bCount (n + 1) den ≤ 1000000) (hl : lvlOk l = true) (hv : ValidF F) (hn : validB (n + 1) num) (hd : validB (n + 1) den) (R : Bx (n + 2)) (hR : R = fracB F l n num den) :
    Calls Try.prog 12 #[F.val, .agg #[.int .i64 l, .bool c], .agg cs.toArray, .agg ds.toArray] w (fun e w' => (validB (n + 2) R → GivesBE (n + 2) R 0 w e w') ∧ (¬ validB (n + 2) R → GivesBE (m + 1) (zeroB m) 6 w e w')) := by
  by_cases h0 : l = 0
  · exact refMake_zero F l c n num den cs ds w hF hq hr hs c1 c2 hl hv hn hd h0 m R hR
  · exact refMake_more F l c n num den cs ds w hF hq hr hs c1 c2 hl hv hn hd h0 m R hR
/-- What is asked of a font, a style and two boxes. -/
def FracOk (F : Fnt) (l : Int) (n : Nat) (num den : Bx (n + 1)) : Prop := ValidF F ∧ lvlOk l = true ∧ validB (n + 1) num ∧ validB (n + 1) den
theorem small_zero (n : Nat) : Small (n + 1) (zeroB n) := ⟨Nat.zero_le _, Nat.zero_le _, fun k hk => by cases hk⟩

theorem fracMake_bad (F : Fnt) (l : Int) (c : Bool) (n m : Nat) (num den : Bx (n + 1)) (cs ds : List Value) (w : World) (hF : FntOk w F) (hr : Rep w (n + 1) num cs) (hs : Rep w (n + 1) den ds) (hb : ¬ FracOk F l n num den) :
    Calls Try.prog 11 #[F.val, .agg #[.int .i64 l, .bool c], .agg cs.toArray, .agg ds.toArray] w (GivesBE (m + 1) (zeroB m) 1 w) := by
  cases hl : lvlOk l
  · exact fracMake_bad1 F l c n m num den cs ds w hF ⟨fun h => absurd (hl.symm.trans h.1) (by simp), fun _ => ⟨rfl, rfl⟩⟩ hr hs
  · by_cases hv : ValidF F
    · have hx : PctOk F l (sizeOf' F l) 0 := ⟨fun _ => ⟨rfl, rfl⟩, fun h => by
        rcases h with h | h
        · rw [hl] at h; cases h
        · exact absurd hv h⟩
      by_cases hn : validB (n + 1) num
      · by_cases hd : validB (n + 1) den
        · exact absurd ⟨hv, hl, hn, hd⟩ hb
        · exact fracMake_bad3 F l c n m num den cs ds w hF _ hx hr hs hn hd
      · exact fracMake_bad2 F l c n m num den cs ds w hF _ hx hr hs hn
    · exact fracMake_bad1 F l c n m num den cs ds w hF ⟨fun h => absurd h.2 hv, fun _ => ⟨rfl, rfl⟩⟩ hr hs

/-- What both return: a box and an error. -/
theorem frac_both (F : Fnt) (l : Int) (c : Bool) (n : Nat) (num den : Bx (n + 1)) (cs ds : List Value) (w : World) (hF : FntOk w F) (hq : F.gs.length ≤ 500 ∧ F.ss.length ≤ 50) (hr : Rep w (n + 1) num cs) (hs : Rep w (n + 1) den ds)
    (c1 : bCount (n + 1) num ≤ 1000000) (c2 : bCount (n + 1) den ≤ 1000000) : ∃ (R : Bx (n + 2)) (e : Int), Small (n + 2) R ∧
      (∀ w', Below w.heap.size w w' → Calls Try.prog 11 #[F.val, .agg #[.int .i64 l, .bool c], .agg cs.toArray, .agg ds.toArray] w' (GivesBE (n + 2) R e w')) ∧
      (∀ w', Below w.heap.size w w' → Calls Try.prog 12 #[F.val, .agg #[.int .i64 l, .bool c], .agg cs.toArray, .agg ds.toArray] w' (GivesBE (n + 2) R e w')) ∧
      ((e = 0 ∧ FracOk F l n num den ∧ R = fracB F l n num den ∧ validB (n + 2) R) ∨ (e ≠ 0 ∧ R = zeroB (n + 1))) := by
  by_cases h : FracOk F l n num den
  · obtain ⟨hv, hl, hn, hd⟩ := h
    by_cases hR : validB (n + 2) (fracB F l n num den)
    · exact ⟨_, 0, (validB_small hR).1, fun w' hb => fracMake_ok F l c n num den cs ds w' (hF.below hb) hl hv (hr.step hb) (hs.step hb) hn hd hR,
        fun w' hb => (refMake_good F l c n 0 num den cs ds w' (hF.below hb) hq (hr.step hb) (hs.step hb) c1 c2 hl hv hn hd _ rfl).mono (fun _ _ h => h.1 hR), .inl ⟨rfl, ⟨hv, hl, hn, hd⟩, rfl, hR⟩⟩
    · exact ⟨zeroB (n + 1), 6, small_zero _, fun w' hb => fracMake_lim F l c n num den cs ds w' (hF.below hb) hl hv (hr.step hb) (hs.step hb) hn hd (n + 1) hR,
        fun w' hb => (refMake_good F l c n (n + 1) num den cs ds w' (hF.below hb) hq (hr.step hb) (hs.step hb) c1 c2 hl hv hn hd _ rfl).mono (fun _ _ h => h.2 hR), .inr ⟨by omega, rfl⟩⟩
  · refine ⟨zeroB (n + 1), 1, small_zero _, fun w' hb => fracMake_bad F l c n (n + 1) num den cs ds w' (hF.below hb) (hr.step hb) (hs.step hb) h, fun w' hb => refMake_bad F l c n (n + 1) num den cs ds w' (hF.below hb) hq (hr.step hb) (hs.step hb) c1 c2 (fun h2 => h ⟨h2.1, h2.2.1, h2.2.2 num (by simp), h2.2.2 den (by simp)⟩), .inr ⟨by omega, rfl⟩⟩

end Go.Proofs.Ytfmoghkffffmmaa
